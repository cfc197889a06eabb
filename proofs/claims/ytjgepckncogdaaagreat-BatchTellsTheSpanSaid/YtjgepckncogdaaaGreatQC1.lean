/- What a law leans on beyond the base: contracts, plain functions, walks. Conditions: those of each theorem. -/
import Derived.Test.YtjgepckncogdaaaGreatK10
import Derived.Test.YtjgepckncogdaaaGreatKS
set_option linter.unusedVariables false
set_option linter.unusedSimpArgs false
namespace Go.Proofs.YtjgepckncogdaaaGreat
open Go Go.RowKit
set_option linter.unusedVariables false
def signAll (seed : Bs) (h n : Int) (m : Bs) : Bs × Int × Int × Bs × Int :=
 if validI seed h n = true then
  if n = 2 ^ h.toNat then ([], 0, 0, [], 7)
  else (seed, h, n + 1, sigG seed h.toNat n.toNat m, 0)
 else ([], 0, 0, [], 3)
inductive Spec where
 | val (x : Value)
 | byt (l : Bs)
def FitS (w : World) (B : Nat) (u : Value) : Spec → Prop
 | .val x => u = x ∧ x.oneCell' = true
 | .byt l => SeesB w B u l
def SeesR (w : World) (B : Nat) (v : Value) (size n : Nat) (ss : List Spec) : Prop :=
 ss.length = n * size ∧ ∃ vs : List Value, Sees w B v size n vs ∧ ∀ (k : Nat) (s : Spec), ss[k]? = some s → ∃ u, vs[k]? = some u ∧ FitS w B u s
def EltS (w : World) (v u : Value) : Spec → Prop
 | .val x => u = x ∧ x.oneCell' = true
 | .byt l => Elt w v u l
def OwnR (w : World) (base : Nat) (T : TypeId) (v : Value) (size n : Nat) (ss : List Spec) : Prop :=
 ss.length = n * size ∧ ∃ vs : List Value, w.ownsRow base T size v n vs ∧ ∀ (k : Nat) (s : Spec), ss[k]? = some s → ∃ u, vs[k]? = some u ∧ EltS w v u s
section
variable {w w' : World} {B B' base size n : Nat} {T : TypeId} {u v : Value} {s : Spec} {ss : List Spec}
theorem FitS.one (h : FitS w B u s) : u.oneCell' = true := by
 cases s with
 | val x => obtain ⟨rfl, h⟩ := h; exact h
 | byt l => obtain ⟨A, c, rfl, -, -⟩ := SeesB.mk_ h; rfl
theorem FitS.below (h : FitS w B u s) (hb : Below B w w') : FitS w' B u s := by
 cases s with
 | val x => exact h
 | byt l => exact SeesB.below h hb
theorem FitS.more (h : FitS w B u s) (hB : B ≤ B') : FitS w B' u s := by
 cases s with
 | val x => exact h
 | byt l => exact SeesB.more h hB
theorem EltS.fit (h : EltS w v u s) : FitS w w.heap.size u s := by
 cases s with
 | val x => exact h
 | byt l => exact h.1
theorem EltS.below (h : EltS w v u s) (hb : Below w.heap.size w w') : EltS w' v u s := by
 cases s with
 | val x => exact h
 | byt l => exact Elt.below h hb
theorem EltS.of_old (h : FitS w B u s) (hB : B ≤ w.heap.size) (hv : ∀ k, v.ownBlock = some k → B ≤ k) : EltS w v u s := by
 cases s with
 | val x => exact h
 | byt l => exact Elt.of_old h hB hv
theorem SeesR.len (h : SeesR w B v size n ss) : ss.length = n * size := h.1
theorem SeesR.mk_ (h : SeesR w B v size n ss) : ∃ A c, v = .slice A n c ∧ n ≤ c ∧ c ≤ maxLen := by
 obtain ⟨_, vs, h, _⟩ := h
 exact h.mk_
theorem SeesR.at_ {A : Option Addr} {c : Nat} (h : SeesR w B (.slice A n c) size n ss) (hn : 0 < n) :
 ∃ b o, A = some ⟨b, o, none⟩ ∧ b < B ∧ ∀ (k : Nat) (s : Spec), ss[k]? = some s → ∃ u, w.cell? ⟨b, o + k, none⟩ = some u ∧ FitS w B u s := by
 obtain ⟨_, vs, hs, hv⟩ := h
 obtain ⟨b, o, e, hb, hc⟩ := hs.at_ hn
 refine ⟨b, o, e, hb, fun k s hk => ?_⟩
 obtain ⟨u, hu1, hu2⟩ := hv k s hk
 exact ⟨u, hc k u hu1, hu2⟩
theorem SeesR.below (h : SeesR w B v size n ss) (hb : Below B w w') : SeesR w' B v size n ss := by
 obtain ⟨h0, vs, hs, hv⟩ := h
 refine ⟨h0, vs, hs.below hb, fun k s hk => ?_⟩
 obtain ⟨u, hu1, hu2⟩ := hv k s hk
 exact ⟨u, hu1, hu2.below hb⟩
theorem SeesR.more (h : SeesR w B v size n ss) (hB : B ≤ B') : SeesR w B' v size n ss := by
 obtain ⟨h0, vs, hs, hv⟩ := h
 refine ⟨h0, vs, hs.more hB, fun k s hk => ?_⟩
 obtain ⟨u, hu1, hu2⟩ := hv k s hk
 exact ⟨u, hu1, hu2.more hB⟩
theorem SeesR.nil (w : World) (B size : Nat) : SeesR w B (.slice none 0 0) size 0 [] := ⟨by simp, [], Sees.nil w B size, fun k s hk => by simp at hk⟩
theorem OwnR.nil (w : World) (base : Nat) (T : TypeId) (size : Nat) : OwnR w base T (.slice none 0 0) size 0 [] := ⟨by simp, [], World.ownsRow_nil w base T size, fun k s hk => by simp at hk⟩
theorem OwnR.sees (h : OwnR w base T v size n ss) : SeesR w w.heap.size v size n ss := by
 obtain ⟨h0, vs, h1, h2⟩ := h
 refine ⟨h0, vs, Sees.of_own h1, fun k s hk => ?_⟩
 obtain ⟨u, g1, g2⟩ := h2 k s hk
 exact ⟨u, g1, g2.fit⟩
theorem OwnR.lt (h : OwnR w base T v size n ss) : ∀ k, v.ownBlock = some k → base ≤ k ∧ k < w.heap.size := by
 obtain ⟨_, vs, h1, _⟩ := h
 exact h1.lt
theorem OwnR.below (h : OwnR w base T v size n ss) (hb : Below w.heap.size w w') : OwnR w' base T v size n ss := by
 obtain ⟨h0, vs, h1, h2⟩ := h
 refine ⟨h0, vs, own_below h1 hb, fun k s hk => ?_⟩
 obtain ⟨u, g1, g2⟩ := h2 k s hk
 exact ⟨u, g1, g2.below hb⟩
theorem OwnR.mono {base' : Nat} (h : OwnR w base T v size n ss) (hb : base' ≤ base) : OwnR w base' T v size n ss := by
 obtain ⟨h0, vs, h1, h2⟩ := h
 refine ⟨h0, vs, ⟨h1.1, ?_⟩, h2⟩
 rcases h1.2 with h | ⟨g, cap, cur, e1, e2, e3⟩
 · exact .inl h
 · exact .inr ⟨g, cap, cur, e1, by omega, e3⟩
theorem OwnR.from (h : OwnR w base T v size n ss) : From base v := by
 obtain ⟨_, vs, h1, _⟩ := h
 intro a n' c e
 rcases h1.2 with ⟨rfl, _⟩ | ⟨g, cap, cur, rfl, hb, _⟩
 · cases e
 · injection e with e1; injection e1 with e1; subst e1; exact hb
end
theorem below_ownR {w w' : World} {base size n : Nat} {T : TypeId} {v : Value} {ss : List Spec} (h : OwnR w base T v size n ss) (hg : w.grownBy w' v.ownBlock) (hb : base ≤ w.heap.size) : Below base w w' := by
 refine ⟨hg.os, hg.tape, hg.output, hg.size, fun k hk => hg.block k (by omega) (fun e => ?_)⟩
 have := (h.lt k e.symm).1
 omega
theorem wp_appR {o : Oper} {a : Act} {w : World} {K : Act → World → Prop} {Q : Exit → Act → World → Prop} (s x : Operand) (T E : TypeId) (hT : Tryz.prog.underlying T = some (.slice E))
 (ho : o.op = .call { callee := .builtin .append, args := #[s, x], argTypes := #[T, T] }) (i : TypeInfo) (z : Value) (size bytes : Nat) (hi : Tryz.prog.info? E = some i) (hz : i.zero = some z)
 (hsz : i.size = size) (hby : i.bytes = bytes) (hzs : z.cells.size = size) (h0 : 0 < size) (hby2 : bytes ≤ 1024)
 (base : Nat) (v : Value) (n : Nat) (ss : List Spec) (hs : a.eval s = v) (hown : OwnR w base E v size n ss) (B : Nat) (u : Value) (m : Nat) (vs : List Value) (ts : List Spec) (hx : a.eval x = u) (hr : Sees w B u size m vs)
 (htl : ts.length = m * size) (hel : ∀ (k : Nat) (t : Spec), ts[k]? = some t → ∃ y, vs[k]? = some y ∧ EltS w v y t)
 (hlen : n + m ≤ 1048576) (hbase : base ≤ w.heap.size)
 (h : ∀ v' w', OwnR w' base E v' size (n + m) (ss ++ ts) → Below base w w' → K (a.put o.dst v') w') : o.wp Tryz.prog a w K Q := by
 have hown' := hown
 obtain ⟨hl0, xs, h1, h2⟩ := hown
 have h1c : ∀ y ∈ vs, y.oneCell' = true := by
  intro y hy
  obtain ⟨k, hk⟩ := List.mem_iff_getElem?.1 hy
  have hkl : k < ts.length := by
   have := (List.getElem?_eq_some_iff.1 hk).1
   rw [hr.1] at this; omega
  obtain ⟨y', e1, e2⟩ := hel k _ (List.getElem?_eq_getElem hkl)
  rw [hk] at e1
  cases e1
  exact e2.fit.one
 refine wp_append_sees s x T ho base E i z size bytes hT hi hz hsz hby hzs h0 v n xs hs h1 B u m vs hx hr h1c (by unfold maxLen; omega) (Nat.le_trans (Nat.mul_le_mul hlen hby2) (by omega)) hbase ?_
 intro v' w' g1 g2 g3
 refine h v' w' ⟨by rw [List.length_append, hl0, htl, Nat.add_mul], xs ++ vs, g1, fun k t hk => ?_⟩ (below_ownR hown' g2 hbase)
 have hl1 : xs.length = ss.length := by rw [h1.1, hl0]
 have hst : ∀ {y : Value} {t : Spec}, EltS w v y t → EltS w' v' y t := fun {y t} hy => by
  cases t with
  | val x => exact hy
  | byt l => exact ⟨hy.grown g2, fun hm k hk => by
   rcases g3 with e | e
   · rw [e]; exact hy.2 hm k hk
   · rw [e]; intro e2; cases e2; exact absurd (hy.1.blk hm _ hk) (by omega)⟩
 by_cases hkl : k < ss.length
 · rw [List.getElem?_append_left hkl] at hk
   obtain ⟨y, e1, e2⟩ := h2 k t hk
   exact ⟨y, by rw [List.getElem?_append_left (by omega)]; exact e1, hst e2⟩
 · rw [List.getElem?_append_right (by omega)] at hk
   obtain ⟨y, e1, e2⟩ := hel (k - ss.length) t hk
   exact ⟨y, by rw [List.getElem?_append_right (by omega), hl1]; exact e1, hst e2⟩
theorem wpList_appR {ops : Array Oper} {rest : List Oper} {o : Oper} {a : Act} {w : World} {Q : Exit → Act → World → Prop} (hgd : Region.wanted o (yielded ops a.tmps) = true) (s x : Operand) (T E : TypeId) (hT : Tryz.prog.underlying T = some (.slice E))
 (ho : o.op = .call { callee := .builtin .append, args := #[s, x], argTypes := #[T, T] }) (i : TypeInfo) (z : Value) (size bytes : Nat) (hi : Tryz.prog.info? E = some i) (hz : i.zero = some z)
 (hsz : i.size = size) (hby : i.bytes = bytes) (hzs : z.cells.size = size) (h0 : 0 < size) (hby2 : bytes ≤ 1024)
 (base : Nat) (v : Value) (n : Nat) (ss : List Spec) (hs : a.eval s = v) (hown : OwnR w base E v size n ss) (B : Nat) (u : Value) (m : Nat) (vs : List Value) (ts : List Spec) (hx : a.eval x = u) (hr : Sees w B u size m vs)
 (htl : ts.length = m * size) (hel : ∀ (k : Nat) (t : Spec), ts[k]? = some t → ∃ y, vs[k]? = some y ∧ EltS w v y t)
 (hlen : n + m ≤ 1048576) (hbase : base ≤ w.heap.size)
 (h : ∀ v' w', OwnR w' base E v' size (n + m) (ss ++ ts) → Below base w w' → wpList Tryz.prog ops Q rest (a.put o.dst v') w') : wpList Tryz.prog ops Q (o :: rest) a w :=
 BigFrame.wpList_want hgd fun _ hK => wp_appR s x T E hT ho i z size bytes hi hz hsz hby hzs h0 hby2 base v n ss hs hown B u m vs ts hx hr htl hel hlen hbase fun v' w' h2 h3 => hK _ _ (h v' w' h2 h3)
theorem rec_lit (W : World) (T : TypeId) (xs : List Value) : Sees (W.alloc (.cells xs.toArray T)) (W.heap.size + 1) (.slice (some ⟨W.heap.size, 0, none⟩) 1 1) xs.length 1 xs :=
 ⟨by omega, _, 1, rfl, Nat.le_refl _, by simp [maxLen], fun _ => ⟨W.heap.size, 0, rfl, by omega, fun j u hj => by have := (Box.new W T xs).cell j; rw [Nat.zero_add, this, hj]⟩⟩
theorem EltS.of_from {w : World} {n : Nat} {u v : Value} {l : Bs} (h : SeesB w w.heap.size u l) (hf : From n u) (hv : ∀ k, v.ownBlock = some k → k < n) : EltS w v u (.byt l) := Elt.of_from h hf hv
def upB (x : UInt8) : Bool := (decide (65 ≤ x.toNat) && decide (x.toNat ≤ 90)) || (decide (48 ≤ x.toNat) && decide (x.toNat ≤ 57))
def namedG (s : Bs) : Bool := decide (s.length = 4) && s.all upB
def checkT (last : Bs) : List (Bs × Bs) → Int
 | [] => 0
 | t :: r => if namedG t.1 = true then (if (Op.bytesLess t.1 last || t.1 == last) = true then 12 else if t.2.length % 4 = 0 then checkT t.1 r else 3) else 11
def namesT (ts : List (Bs × Bs)) : Bs := (ts.map (·.1)).flatten
def dataT (ts : List (Bs × Bs)) : Bs := (ts.map (·.2)).flatten
def placesT (ts : List (Bs × Bs)) : Nat → Bs
 | 0 => []
 | k + 1 => placesT ts k ++ putB 4 (dataT (ts.take (k + 1))).length
def bodyT (ts : List (Bs × Bs)) : Bs := putB 4 ts.length ++ placesT ts (ts.length - 1) ++ namesT ts ++ dataT ts
def encC (ts : List (Bs × Bs)) : Int :=
 if ts.length < 1 ∨ 16 < ts.length then 8 else if checkT [] ts = 0 then (if 2048 < (bodyT ts).length then 2 else 0) else checkT [] ts
def encT (ts : List (Bs × Bs)) : Bs := if encC ts = 0 then bodyT ts else []
theorem take_one {α : Type} (ts : List α) (k : Nat) (t : α) (h : ts[k]? = some t) : ts.take (k + 1) = ts.take k ++ [t] := by
 rw [List.take_add_one, h]; rfl
theorem strB_size (l : Bs) : (strB l).size = l.length := rfl
attribute [local go_sem ↓] Go.wp_at_zero Go.wp_at_succ
set_option maxRecDepth 100000 in
theorem bclone_any (B : Nat) (u : Value) (bs : Bs) (w : World) (hu : SeesB w B u bs) (hB : B ≤ w.heap.size) (hlen : bs.length ≤ 1099511627776) :
 Calls Tryz.prog 92 #[u] w (Gives bs w) := by
 obtain ⟨A, c, rfl, hc1, hc2⟩ := hu.mk_
 cases A with
 | none =>
   have h0 : bs = [] := by
    rcases Nat.eq_zero_or_pos bs.length with h0 | h0
    · exact List.eq_nil_of_length_eq_zero h0
    · obtain ⟨b, o, e, _⟩ := hu.at_ h0
      cases e
   subst h0
   have hnil : ∀ W, (binOp .eql 25 (.slice none 0 c) (.slice none 0 0)).run Tryz.prog W = .ok (.bool true) W := fun W => Lib.run_eql_slice_nil_nil W _ _ Tryz.underlying25
   go_enter Tryz.func92, Tryz.ntmps92
   go_wp2_with fail
   go_ret
   exact ⟨_, rfl, World.ownsRow_nil _ _ _ _, Below.refl _ _⟩
 | some a =>
   have hnil : ∀ W, (binOp .eql 25 (.slice (some a) bs.length c) (.slice none 0 0)).run Tryz.prog W = .ok (.bool false) W := fun W => Lib.run_eql_slice_some_nil W _ _ _ Tryz.underlying25
   have hl := balloc w (.cells #[] 5)
   have ho := own_made w [] (Nat.zero_le _) w.heap.size (Nat.le_refl _)
   have hs := hu.below (hl.mono hB)
   clear hu
   go_enter Tryz.func92, Tryz.ntmps92
   go_wp2_with (at_builtin; refine wpList_app (by rfl) _ _ rfl w.heap.size _ [] rfl ho B _ bs rfl hs (by simp; omega) hl.size ?_)
   intro v' w' h2 hb2
   go_wp2_with fail
   go_ret
   exact ⟨v', rfl, h2, hl.trans hb2⟩
attribute [local go_sem ↓] Go.wp_at_zero Go.wp_at_succ
def pad4 (l : Bs) : Bs := l ++ List.replicate ((4 - l.length % 4) % 4) 0
attribute [local go_sem ↓] Go.wp_at_zero Go.wp_at_succ
def headN (b : Bs) : Nat := (b.getD 0 0).toNat
def sizeN (b : Bs) : Nat := 565 + 32 * headN b
attribute [local go_sem ↓] Go.wp_at_zero Go.wp_at_succ
def nINDX : Bs := [73, 78, 68, 88]
def nNUMB : Bs := [78, 85, 77, 66]
def nPATH : Bs := [80, 65, 84, 72]
def nSIGN : Bs := [83, 73, 71, 78]
def nSREP : Bs := [83, 82, 69, 80]
def nROOT : Bs := [82, 79, 79, 84]
def nSPAN : Bs := [83, 80, 65, 78]
theorem SeesB.over {w w' : World} {B g : Nat} {T : TypeId} {u : Value} {l : Bs} {xs : List Value} (h : SeesB w B u l) (hB : B ≤ w.heap.size) (hbx : Box w g T xs) (hno : NoByte xs) (hg : w.grownBy w' (some g)) : SeesB w' B u l :=
 h.stay fun hl k hk p hp => World.cell?_of_block (hg.block p.block (by rw [hp]; exact Nat.lt_of_lt_of_le (h.blk hl k hk) hB) (fun e => h.notin hbx hno hl (by rw [hk, ← hp, e])))
def nKEYS : Bs := [75, 69, 89, 83]
def nANSW : Bs := [65, 78, 83, 87]
def nCERT : Bs := [67, 69, 82, 84]
def fitsG (s : Bs) : Bool := decide (0 < s.length) && (decide (headN s ≤ 6) && decide (s.length = sizeN s))
def dtags (p : Bs) (f t : Int) (s : Bs) : List (Bs × Bs) := [(nKEYS, p), (nSIGN, pad4 s), (nSPAN, spanB f t)]
def dencC (p : Bs) (f t : Int) (s : Bs) : Int := if p.length = 32 then (if vS f t && fitsG s then 0 else 3) else 5
def dencB (p : Bs) (f t : Int) (s : Bs) : Bs := if dencC p f t s = 0 then bodyT (dtags p f t s) else []
set_option linter.unusedSectionVars false
section
variable (ts : List (Bs × Bs)) (h4 : ∀ t ∈ ts, t.1.length = 4 ∧ t.2.length % 4 = 0) (hn : 1 ≤ ts.length) (hl : (bodyT ts).length ≤ 2048)
include h4 hn
include hl
end
attribute [local go_sem ↓] Go.wp_at_zero Go.wp_at_succ
set_option maxRecDepth 100000 in
theorem kwithin_any (v m : Int) (hm : 1 ≤ m) (hm2 : m ≤ 4294967296) (w : World) :
 Calls Tryz.prog 15 #[.int .i64 v, .int .i64 m] w fun e w' => e = .returned (.int .i64 (v % m)) ∧ w' = w := by
 have hne : m ≠ 0 := by omega
 have e1 := Int.emod_nonneg v hne
 have e2 := Int.emod_lt_of_pos v (show 0 < m by omega)
 have hlt : -m < v.tmod m ∧ v.tmod m < m := ⟨by have := Int.lt_tmod_of_pos v (show 0 < m by omega); omega, Int.tmod_lt_of_pos v (by omega)⟩
 have ht : v % m = if v.tmod m < 0 then v.tmod m + m else v.tmod m := by
  have := Int.tmod_eq_emod (a := v) (b := m)
  rw [this] at hlt ⊢
  split at hlt <;> split <;> split <;> omega
 rw [ht]
 clear ht e1 e2
 have hm0 : (m == 0) = false := by rw [beq_eq_false_iff_ne]; exact hne
 by_cases hr : v.tmod m < 0
 · go_enter Tryz.func15, Tryz.ntmps15
   go_wp2_with fail
   go_returns
   exact ⟨ret_int (by simp), rfl⟩
 · go_enter Tryz.func15, Tryz.ntmps15
   go_wp2_with fail
   go_returns
   exact ⟨ret_int (by simp), rfl⟩
attribute [local go_sem ↓] Go.wp_at_zero Go.wp_at_succ
def tCase : Bs := [99, 97, 115, 101]
def randK (v : Int) (n : Nat) : Bs := (sha (tCase ++ putB 8 (u64 v))).take n
theorem randK_len (v : Int) (n : Nat) (h : n ≤ 32) : (randK v n).length = n := by rw [randK, List.length_take, sha_len]; omega
theorem lit4_run (W : World) (x0 x1 x2 x3 : Value) : (convert 25 25 (.slice (some ⟨W.heap.size, 0, none⟩) 4 4)).run Tryz.prog (W.alloc (.cells #[x0, x1, x2, x3] 5)) = .ok (.slice (some ⟨W.heap.size, 0, none⟩) 4 4) (W.alloc (.cells #[x0, x1, x2, x3] 5 (4, 5))) :=
 Lib.run_convert_bytes_const W 25 5 #[x0, x1, x2, x3] 4 4 Tryz.underlying25 Tryz.underlying5
theorem litB_sees (W : World) (l : Bs) (m : Nat × Nat) (hl : l.length ≤ 1000) : SeesB (W.alloc (.cells (vb l).toArray 5 m)) (W.heap.size + 1) (.slice (some ⟨W.heap.size, 0, none⟩) l.length l.length) l := by
 refine ⟨by rw [vb_len, Nat.mul_one], _, _, rfl, Nat.le_refl _, by unfold maxLen; omega, fun _ => ⟨W.heap.size, 0, rfl, by omega, fun k u hk => ?_⟩⟩
 rw [← hk, Nat.zero_add, World.cell?_alloc_mark]
 simp
set_option maxRecDepth 100000 in
set_option maxHeartbeats 1000000 in
theorem krandom_any (v : Int) (n : Nat) (hn : n ≤ 32) (w : World) : Calls Tryz.prog 59 #[.int .i64 v, .int .i64 (n : Int)] w (Shows (randK v n) w) := by
 have m0 : IntKind.u64.wrap v = ((u64 v : Nat) : Int) := by rw [IntKind.wrap_u64]; unfold u64; omega
 have hlt : u64 v < 18446744073709551616 := by unfold u64; omega
 have hr : Hid (randK v n = (sha (tCase ++ putB 8 (u64 v))).take n) := rfl
 generalize randK v n = R at *
 generalize u64 v = s at *
 have hlr := fun G (hG : G = w.heap.size) x0 x1 x2 x3 => (show (convert 25 25 (.slice (some ⟨G, 0, none⟩) 4 4)).run Tryz.prog (w.alloc (.cells #[x0, x1, x2, x3] 5)) = .ok (.slice (some ⟨G, 0, none⟩) 4 4) (w.alloc (.cells #[x0, x1, x2, x3] 5 (4, 5))) by subst hG; exact lit4_run w x0 x1 x2 x3)
 have hl0 := hlr w.heap.size rfl (.int .u8 99) (.int .u8 97) (.int .u8 115) (.int .u8 101)
 have hls : SeesB (w.alloc (.cells #[.int .u8 99, .int .u8 97, .int .u8 115, .int .u8 101] 5 (4, 5))) (w.heap.size + 1) (.slice (some ⟨w.heap.size, 0, none⟩) 4 4) tCase := litB_sees w tCase (4, 5) (by simp [tCase])
 have hbl := balloc w (.cells #[.int .u8 99, .int .u8 97, .int .u8 115, .int .u8 101] 5 (4, 5))
 have hsz : (w.alloc (.cells #[.int .u8 99, .int .u8 97, .int .u8 115, .int .u8 101] 5 (4, 5))).heap.size = w.heap.size + 1 := World.size_alloc _ _
 clear hlr
 go_enter Tryz.func59, Tryz.ntmps59
 go_wp2_with fail
 generalize w.alloc (.cells #[.int .u8 99, .int .u8 97, .int .u8 115, .int .u8 101] 5 (4, 5)) = w0 at *
 rw [← hsz] at hls
 generalize hG : w.heap.size = G at hls hbl ⊢
 replace hG := Lib.hid hG
 replace hbl : Hid (Below G w w0) := hbl
 clear hl0
 refine (rput_any s 8 (by omega) hlt w0).mono ?_
 rintro e w1 ⟨v1, rfl, h1, hb1⟩
 obtain ⟨A1, c1, rfl, -, -⟩ := h1.sees.mk_
 replace hls := (hls.below hb1).more hb1.size
 dsimp only
 go_wp2_with fail
 have hl3 := seesL_lit w1 25 (show SeesAll w1 w1.heap.size [.slice (some ⟨G, 0, none⟩) 4 4, .slice A1 (putB 8 s).length c1] [tCase, putB 8 s] from ⟨hls, h1.sees, trivial⟩) (by simp [maxLen])
 have hp8 := putB_len 8 s
 have hfl : [tCase, putB 8 s].flatten = tCase ++ putB 8 s := by simp
 have htc : tCase.length = 4 := rfl
 refine (rjoin_any _ _ _ _ hl3 (Nat.le_refl _) (by rw [hfl]; simp [hp8, htc])).mono ?_
 rintro e w3 ⟨v3, rfl, h3, hb3⟩
 rw [hfl] at h3
 have hw3 := bgo (bgo hb1 (balloc w1 _)) hb3
 have hs3 := hw3.size
 dsimp only
 go_wp2_with fail
 refine (rsum_any _ _ _ _ h3.sees (Nat.le_refl _) (by simp [hp8, htc])).mono ?_
 rintro e w4 ⟨v4, rfl, h4, hb4⟩
 have hf := OwnB.from h4
 have h5 := h4.sees
 have hsl := sha_len (tCase ++ putB 8 s)
 replace hw3 := bgo hw3 hb4
 obtain ⟨A4, c4, rfl, hc1, hc2⟩ := h5.mk_
 generalize sha (tCase ++ putB 8 s) = H at *
 have i0 : (n : Int) ≤ (c4 : Int) := by omega
 have i1 : (0 : Int) ≤ (n : Int) := by omega
 have hcut := h5.take (m := n) (c' := c4) (by omega) (by omega) hc2
 have hfr : From w3.heap.size (.slice A4 n c4) := hf.cut
 replace hsl := Lib.hid hsl
 dsimp only
 go_wp2_with fail
 go_returns
 refine ⟨_, rfl, by rw [hr.out]; exact hcut, ?_, hfr.mono ?_⟩
 · have h9 := hbl.out
   rw [← hG.out] at h9
   exact bgo h9 hw3
 · have h9 := hbl.out
   rw [← hG.out] at h9
   exact Nat.le_trans h9.size hs3
def Apart (v u : Value) : Prop := ∀ k, v.ownBlock = some k → u.ownBlock ≠ some k
theorem Apart.symm {v u : Value} (h : Apart v u) : Apart u v := fun k hk e => h k e hk
theorem Apart.nil (u : Value) : Apart (.slice none 0 0) u := fun k hk => by cases hk
theorem OwnB.apart {w w' : World} {base : Nat} {v u : Value} {l : Bs} (h : OwnB w base u l) (hg : w.grownBy w' v.ownBlock) (ha : Apart v u) : OwnB w' base u l := by
 refine World.ownsRow.kept h hg ?_
 rcases hu : u.ownBlock with _ | k
 · exact .inl rfl
 · refine .inr fun e => ?_
   exact ha k e.symm hu
attribute [local go_sem ↓] Go.wp_at_zero Go.wp_at_succ
def tGrant : Bs := [115, 101, 99, 116, 105, 109, 101, 32, 103, 114, 97, 110, 116]
set_option linter.unusedSimpArgs false
attribute [local go_sem ↓] Go.wp_at_zero Go.wp_at_succ
section
variable {W : World} {g8 g9 : Nat} {T8 T9 : TypeId} {a0 a1 a2 b0 b1 b2 b3 : Value}
theorem noBL3' {a b c : Value} (ha : NoB a) (hb : NoB b) (hc : NoB c) : NoByte [a, b, c] := by
 intro x hx n e
 simp only [List.mem_cons, List.not_mem_nil, or_false] at hx
 rcases hx with rfl | rfl | rfl
 · exact ha n e
 · exact hb n e
 · exact hc n e
end
theorem box3_cells {W : World} {g : Nat} {T : TypeId} {a b c : Value} (h : Box W g T [a, b, c]) : W.cell? ⟨g, 0, none⟩ = some a ∧ W.cell? ⟨g, 1, none⟩ = some b ∧ W.cell? ⟨g, 2, none⟩ = some c ∧ W.frozen? ⟨g, 0, none⟩ = false ∧ W.frozen? ⟨g, 1, none⟩ = false ∧ W.frozen? ⟨g, 2, none⟩ = false := ⟨h.cell 0, h.cell 1, h.cell 2, h.frozen 0, h.frozen 1, h.frozen 2⟩
theorem below_set3 {w W : World} {g : Nat} (h : Below w.heap.size w W) (hg : w.heap.size ≤ g) (x y z : Value) : Below w.heap.size w (((W.setCell ⟨g, 0, none⟩ x).setCell ⟨g, 1, none⟩ y).setCell ⟨g, 2, none⟩ z) :=
 ((h.setCell (p := ⟨g, 0, none⟩) hg _).setCell (p := ⟨g, 1, none⟩) hg _).setCell (p := ⟨g, 2, none⟩) hg _
set_option linter.unusedSimpArgs false
attribute [local go_sem ↓] Go.wp_at_zero Go.wp_at_succ
theorem rsame_eq (B B' : Nat) (u v : Value) (a : Bs) (w : World) (hu : SeesB w B u a) (hv : SeesB w B' v a) : Calls Tryz.prog 26 #[u, v] w fun e w' => e = .returned (.bool true) ∧ w' = w := by
 refine (rsame_any B B' u v a a w hu hv).mono ?_
 rintro e w' ⟨rfl, rfl⟩
 exact ⟨ret_bool (by simp), rfl⟩
set_option linter.unusedSimpArgs false
attribute [local go_sem ↓] Go.wp_at_zero Go.wp_at_succ
theorem SeesL.over {w w' : World} {B g : Nat} {T : TypeId} {u : Value} {ls : List Bs} {xs : List Value} (h : SeesL w B u ls) (hB : B ≤ w.heap.size) (hu : ∀ k, u.ownBlock = some k → k ≠ g) (hbx : Box w g T xs) (hno : NoByte xs) (hg : w.grownBy w' (some g)) : SeesL w' B u ls := by
 obtain ⟨vs, ⟨h0, A, c, hv, h1, h2, h3⟩, hel⟩ := h
 refine ⟨vs, ⟨h0, A, c, hv, h1, h2, fun hn => ?_⟩, fun k hk => ?_⟩
 · obtain ⟨b, o, e, hb, hc⟩ := h3 hn
   refine ⟨b, o, e, hb, fun j x hj => (World.cell?_of_block (hg.block b (by omega) (fun e2 => ?_))).trans (hc j x hj)⟩
   injection e2 with e2
   exact hu b (by rw [hv, e]; rfl) e2
 · obtain ⟨v, g1, g2⟩ := hel k hk
   exact ⟨v, g1, g2.over hB hbx hno hg⟩
theorem Box.apart {w w' : World} {g k : Nat} {T : TypeId} {xs : List Value} (h : Box w k T xs) (hg : w.grownBy w' (some g)) (hne : k ≠ g) : Box w' k T xs :=
 (hg.block k h.lt (fun e => by injection e with e; exact hne e)).trans h
attribute [local go_sem ↓] Go.wp_at_zero Go.wp_at_succ
theorem box_set2 {W : World} {g : Nat} {T : TypeId} {a b : Value} (h : Box W g T [a, b]) (x y : Value) : Box ((W.setCell ⟨g, 0, none⟩ x).setCell ⟨g, 1, none⟩ y) g T [x, y] := by
 have y := (h.set 0 x).set 1 y
 simpa only [List.set_cons_zero, List.set_cons_succ] using y
theorem below_set2 {w W : World} {g : Nat} (h : Below w.heap.size w W) (hg : w.heap.size ≤ g) (x y : Value) : Below w.heap.size w ((W.setCell ⟨g, 0, none⟩ x).setCell ⟨g, 1, none⟩ y) :=
 (h.setCell (p := ⟨g, 0, none⟩) hg _).setCell (p := ⟨g, 1, none⟩) hg _
def tBatch : Bs := [115, 101, 99, 116, 105, 109, 101, 32, 98, 97, 116, 99, 104]
theorem boxT2 {W : World} {g : Nat} {T : TypeId} {a b : Value} (x : Box W g T [a, b]) : W.cell? ⟨g, 0, none⟩ = some a ∧ W.cell? ⟨g, 1, none⟩ = some b := ⟨x.cell 0, x.cell 1⟩
def inS (lo hi f t : Int) : Bool := vS lo hi && (vS f t && (decide (f ≤ lo) && decide (hi ≤ t)))
set_option linter.unusedSimpArgs false
attribute [local go_sem ↓] Go.wp_at_zero Go.wp_at_succ
theorem inS_holds (lo hi f t : Int) : inS lo hi f t = (vS lo hi && ((vS f t && (decide (f ≤ lo) && decide (lo ≤ t))) && (vS f t && (decide (f ≤ hi) && decide (hi ≤ t))))) := by
 unfold inS
 cases h1 : vS lo hi with
 | false => rfl
 | true =>
   cases h2 : vS f t with
   | false => rfl
   | true =>
     rw [vS_eq] at h1 h2
     simp at h1 h2
     rw [Bool.eq_iff_iff]
     simp
     omega
set_option maxRecDepth 100000 in
theorem holds_any (lo hi t : Int) (w : World) :
 Calls Tryz.prog 56 #[.agg #[.int .i64 lo, .int .i64 hi], .int .i64 t] w (BoolPost (vS lo hi && (decide (lo ≤ t) && decide (t ≤ hi))) w) := by
 have hva := Lib.hid (fun W => valid_any lo hi W)
 have hal := Lib.hid (balloc w (.cells #[.int .i64 lo, .int .i64 hi] 24))
 have x2 := Box.new w 24 [.int .i64 lo, .int .i64 hi]
 change Box (w.alloc (.cells #[.int .i64 lo, .int .i64 hi] 24)) _ _ _ at x2
 go_enter Tryz.func56, Tryz.ntmps56
 go_upto_region 1 with (fail)
 generalize w.alloc (.cells #[.int .i64 lo, .int .i64 hi] 24) = W0 at *
 generalize hgg : w.heap.size = g2 at x2 ⊢
 replace hgg := Lib.hid hgg
 have y0 : W0.cell? ⟨g2, 0, none⟩ = some (.int .i64 lo) := x2.cell 0
 have y1 : W0.cell? ⟨g2, 1, none⟩ = some (.int .i64 hi) := x2.cell 1
 go_wp2_with fail
 refine (hva.out _).mono ?_
 rintro e w1 ⟨rfl, hb1⟩
 replace x2 := x2.below hb1
 clear y0 y1
 have y0 : w1.cell? ⟨g2, 0, none⟩ = some (.int .i64 lo) := x2.cell 0
 have y1 : w1.cell? ⟨g2, 1, none⟩ = some (.int .i64 hi) := x2.cell 1
 have hbw := Lib.hid (bgo hal.out hb1)
 clear x2 hb1
 dsimp only
 cases hv : vS lo hi with
 | false =>
   replace hv := Lib.hid hv
   clear y0 y1
   go_wp2_with fail
   go_ret
   exact ⟨ret_bool (by rw [hv.out]; rfl), hbw.out⟩
 | true =>
   replace hv := Lib.hid hv
   by_cases h1 : lo ≤ t
   · by_cases h2 : t ≤ hi
     · go_wp2_with fail
       go_ret
       exact ⟨ret_bool (by rw [hv.out]; simp [h1, h2]), hbw.out⟩
     · go_wp2_with fail
       go_ret
       exact ⟨ret_bool (by rw [hv.out]; simp [h1, h2]), hbw.out⟩
   · go_wp2_with fail
     go_ret
     exact ⟨ret_bool (by rw [hv.out, decide_eq_false (show ¬ lo ≤ t by omega)]; rfl), hbw.out⟩
set_option maxRecDepth 100000 in
theorem inside_any (lo hi f t : Int) (w : World) :
 Calls Tryz.prog 55 #[.agg #[.int .i64 lo, .int .i64 hi], .agg #[.int .i64 f, .int .i64 t]] w (BoolPost (inS lo hi f t) w) := by
 have hin := Lib.hid (inS_holds lo hi f t)
 have hva := Lib.hid (fun W => valid_any lo hi W)
 have hh1 := Lib.hid (fun W => holds_any f t lo W)
 have hh2 := Lib.hid (fun W => holds_any f t hi W)
 have hal := Lib.hid (bgo (balloc w (.cells #[.int .i64 lo, .int .i64 hi] 24)) (balloc _ (.cells #[.int .i64 f, .int .i64 t] 24)))
 have x2 := (Box.new w 24 [.int .i64 lo, .int .i64 hi]).below (balloc _ (.cells #[.int .i64 f, .int .i64 t] 24))
 have x3 := Box.new (w.alloc (.cells #[.int .i64 lo, .int .i64 hi] 24)) 24 [.int .i64 f, .int .i64 t]
 rw [World.size_alloc] at x3
 change Box ((w.alloc (.cells #[.int .i64 lo, .int .i64 hi] 24)).alloc (.cells #[.int .i64 f, .int .i64 t] 24)) _ _ _ at x2 x3
 go_enter Tryz.func55, Tryz.ntmps55
 go_upto_region 1 with (fail)
 generalize (w.alloc (.cells #[.int .i64 lo, .int .i64 hi] 24)).alloc (.cells #[.int .i64 f, .int .i64 t] 24) = W0 at *
 generalize hgg : w.heap.size = g2 at x2 x3 ⊢
 replace hgg := Lib.hid hgg
 obtain ⟨y0, y1⟩ := boxT2 x2
 go_wp2_with fail
 refine (hva.out _).mono ?_
 rintro e w1 ⟨rfl, hb1⟩
 replace x2 := x2.below hb1
 replace x3 := x3.below hb1
 have hbw := Lib.hid (bgo hal.out hb1)
 clear y0 y1 hb1 hva hal
 dsimp only
 cases hv : vS lo hi with
 | false =>
   rw [hv] at hin
   replace hv := Lib.hid hv
   clear x2 x3
   go_wp2_with fail
   go_ret
   exact ⟨ret_bool (by rw [hin.out]; rfl), hbw.out⟩
 | true =>
   rw [hv] at hin
   replace hv := Lib.hid hv
   obtain ⟨y0, y1⟩ := boxT2 x2
   obtain ⟨z0, z1⟩ := boxT2 x3
   generalize hA : (vS f t && (decide (f ≤ lo) && decide (lo ≤ t))) = A1 at *
   generalize hB : (vS f t && (decide (f ≤ hi) && decide (hi ≤ t))) = A2 at *
   replace hA := Lib.hid hA
   replace hB := Lib.hid hB
   go_wp2_with fail
   refine (hh1.out _).mono ?_
   rintro e w2 ⟨rfl, hb2⟩
   replace x2 := x2.below hb2
   replace x3 := x3.below hb2
   replace hbw := Lib.hid (bgo hbw.out hb2)
   clear y0 y1 z0 z1 hb2 hh1
   dsimp only
   cases A1 with
   | false =>
     clear x2 x3
     go_wp2_with fail
     go_ret
     exact ⟨ret_bool (by rw [hin.out]; rfl), hbw.out⟩
   | true =>
     obtain ⟨y0, y1⟩ := boxT2 x2
     obtain ⟨z0, z1⟩ := boxT2 x3
     go_wp2_with fail
     refine (hh2.out _).mono ?_
     rintro e w3 ⟨rfl, hb3⟩
     replace hbw := Lib.hid (bgo hbw.out hb3)
     clear y0 y1 z0 z1 hb3 hh2 x2 x3
     dsimp only
     go_wp2_with fail
     go_ret
     exact ⟨ret_bool (by rw [hin.out]; rfl), hbw.out⟩
set_option maxRecDepth 100000 in
theorem rinside_any (lo hi f t : Int) (w : World) :
 Calls Tryz.prog 43 #[.agg #[.int .i64 lo, .int .i64 hi], .agg #[.int .i64 f, .int .i64 t]] w (BoolPost (inS lo hi f t) w) := by
 have hin : Hid (inS lo hi f t = (vS lo hi && (vS f t && (decide (f ≤ lo) && decide (hi ≤ t))))) := rfl
 have hva := Lib.hid (fun W => rvalid_any lo hi W)
 have hvb := Lib.hid (fun W => rvalid_any f t W)
 have hal := Lib.hid (bgo (balloc w (.cells #[.int .i64 lo, .int .i64 hi] 24)) (balloc _ (.cells #[.int .i64 f, .int .i64 t] 24)))
 have x2 := (Box.new w 24 [.int .i64 lo, .int .i64 hi]).below (balloc _ (.cells #[.int .i64 f, .int .i64 t] 24))
 have x3 := Box.new (w.alloc (.cells #[.int .i64 lo, .int .i64 hi] 24)) 24 [.int .i64 f, .int .i64 t]
 rw [World.size_alloc] at x3
 change Box ((w.alloc (.cells #[.int .i64 lo, .int .i64 hi] 24)).alloc (.cells #[.int .i64 f, .int .i64 t] 24)) _ _ _ at x2 x3
 go_enter Tryz.func43, Tryz.ntmps43
 go_upto_region 1 with (fail)
 generalize (w.alloc (.cells #[.int .i64 lo, .int .i64 hi] 24)).alloc (.cells #[.int .i64 f, .int .i64 t] 24) = W0 at *
 generalize hgg : w.heap.size = g2 at x2 x3 ⊢
 replace hgg := Lib.hid hgg
 obtain ⟨y0, y1⟩ := boxT2 x2
 go_wp2_with fail
 refine (hva.out _).mono ?_
 rintro e w1 ⟨rfl, hb1⟩
 replace x2 := x2.below hb1
 replace x3 := x3.below hb1
 have hbw := Lib.hid (bgo hal.out hb1)
 clear y0 y1 hb1 hva hal
 dsimp only
 cases hv : vS lo hi with
 | false =>
   rw [hv] at hin
   replace hv := Lib.hid hv
   clear x2 x3
   go_wp2_with fail
   go_ret
   exact ⟨ret_bool (by rw [hin.out]; rfl), hbw.out⟩
 | true =>
   rw [hv] at hin
   replace hv := Lib.hid hv
   obtain ⟨z0, z1⟩ := boxT2 x3
   go_wp2_with fail
   refine (hvb.out _).mono ?_
   rintro e w2 ⟨rfl, hb2⟩
   replace x2 := x2.below hb2
   replace x3 := x3.below hb2
   replace hbw := Lib.hid (bgo hbw.out hb2)
   clear z0 z1 hb2 hvb
   dsimp only
   cases hv2 : vS f t with
   | false =>
     rw [hv2] at hin
     replace hv2 := Lib.hid hv2
     clear x2 x3
     go_wp2_with fail
     go_ret
     exact ⟨ret_bool (by rw [hin.out]; rfl), hbw.out⟩
   | true =>
     rw [hv2] at hin
     replace hv2 := Lib.hid hv2
     obtain ⟨y0, y1⟩ := boxT2 x2
     obtain ⟨z0, z1⟩ := boxT2 x3
     by_cases h1 : f ≤ lo
     · by_cases h2 : hi ≤ t
       · have hr : Hid (inS lo hi f t = true) := by show _ = _; rw [hin.out]; simp [h1, h2]
         go_wp2_with fail
         go_ret
         exact ⟨ret_bool hr.out.symm, hbw.out⟩
       · have hr : Hid (inS lo hi f t = false) := by show _ = _; rw [hin.out]; simp [h1, h2]
         go_wp2_with fail
         go_ret
         exact ⟨ret_bool hr.out.symm, hbw.out⟩
     · have hr : Hid (inS lo hi f t = false) := by show _ = _; rw [hin.out]; simp [h1]
       go_wp2_with fail
       go_ret
       exact ⟨ret_bool hr.out.symm, hbw.out⟩
set_option linter.unusedSimpArgs false
attribute [local go_sem ↓] Go.wp_at_zero Go.wp_at_succ
theorem box2_cells {W : World} {g : Nat} {T : TypeId} {a b : Value} (h : Box W g T [a, b]) : W.cell? ⟨g, 0, none⟩ = some a ∧ W.cell? ⟨g, 1, none⟩ = some b ∧ W.frozen? ⟨g, 0, none⟩ = false ∧ W.frozen? ⟨g, 1, none⟩ = false := ⟨h.cell 0, h.cell 1, h.frozen 0, h.frozen 1⟩
attribute [local go_sem ↓] Go.wp_at_zero Go.wp_at_succ
def all32 (ls : List Bs) : Bool := ls.all fun l => decide (l.length = 32)
def bchkC (sd : Bs) (h n : Int) (ns : List Bs) (lo hi : Int) : Int :=
 if validI sd h n = true then (if ns.length < 1 ∨ 16 < ns.length then 8 else if (vS lo hi && all32 ns) = true then 0 else 3) else 3
attribute [local go_sem ↓] Go.wp_at_zero Go.wp_at_succ
def rootTags (ns : List Bs) (lo hi : Int) : List (Bs × Bs) := [(nROOT, rootG (ns.map leafH)), (nSPAN, spanB lo hi)]
def partG (ns : List Bs) (lo hi : Int) : Bs := encT (rootTags ns lo hi)
def ansTags (i n : Nat) (P S part : Bs) : List (Bs × Bs) := [(nINDX, putB 4 i), (nNUMB, putB 4 n), (nPATH, P), (nSIGN, pad4 S), (nSREP, part)]
def ansB (ns : List Bs) (S part : Bs) (i : Nat) : Bs := encT (ansTags i ns.length (pathG (ns.map leafH) i).flatten S part)
def ansL (ns : List Bs) (S part : Bs) (k : Nat) : List Bs := (List.range k).map (ansB ns S part)
def answerR (sd : Bs) (h n : Int) (ns : List Bs) (lo hi : Int) : (Bs × Int × Int) × List Bs × Int :=
 if bchkC sd h n ns lo hi = 0 then
  (if (signAll sd h n (tBatch ++ partG ns lo hi)).2.2.2.2 = 0 then
   (((signAll sd h n (tBatch ++ partG ns lo hi)).1, (signAll sd h n (tBatch ++ partG ns lo hi)).2.1, (signAll sd h n (tBatch ++ partG ns lo hi)).2.2.1), ansL ns (signAll sd h n (tBatch ++ partG ns lo hi)).2.2.2.1 (partG ns lo hi) ns.length, 0)
  else (([], 0, 0), [], (signAll sd h n (tBatch ++ partG ns lo hi)).2.2.2.2))
 else (([], 0, 0), [], bchkC sd h n ns lo hi)
def wrapT (a c : Bs) : List (Bs × Bs) := [(nANSW, a), (nCERT, c)]
def wrapB (c a : Bs) : Bs := encT (wrapT a c)
def wrapOk (c : Bs) (ys : List Bs) : Bool := ys.all fun a => decide (encC (wrapT a c) = 0)
abbrev GrantV := (Bs × Int × Int) × (Bs × Int × Int × Bs)
def noGrant : GrantV := (([], 0, 0), ([], 0, 0, []))
def dansR (sd : Bs) (h n : Int) (P : Bs) (f t : Int) (S : Bs) (ns : List Bs) (lo hi : Int) : GrantV × List Bs × Int :=
 if dencC P f t S = 0 then
  (if (answerR sd h n ns lo hi).2.2 = 0 then
   (if inS lo hi f t = true then
    (if wrapOk (dencB P f t S) (answerR sd h n ns lo hi).2.1 = true then (((answerR sd h n ns lo hi).1, (P, f, t, S)), (answerR sd h n ns lo hi).2.1.map (wrapB (dencB P f t S)), 0)
    else (noGrant, [], 2))
   else (noGrant, [], 25))
  else (noGrant, [], (answerR sd h n ns lo hi).2.2))
 else (noGrant, [], dencC P f t S)
def OwnLF (w : World) (base : Nat) (v : Value) (ls : List Bs) : Prop :=
 ∃ vs : List Value, w.ownsRow base 25 1 v ls.length vs ∧ ∀ k, k < ls.length → ∃ u, vs[k]? = some u ∧ Elt w v u (ls.getD k []) ∧ From base u
section
variable {w w' : World} {base : Nat} {v : Value} {ls : List Bs}
theorem OwnLF.own (h : OwnLF w base v ls) : OwnL w base v ls := by
 obtain ⟨vs, h1, h2⟩ := h
 exact ⟨vs, h1, fun k hk => by obtain ⟨u, e1, e2, -⟩ := h2 k hk; exact ⟨u, e1, e2⟩⟩
theorem OwnLF.nil (w : World) (base : Nat) : OwnLF w base (.slice none 0 0) [] := ⟨[], World.ownsRow_nil w base _ 1, fun k hk => absurd hk (by simp)⟩
theorem OwnLF.below (h : OwnLF w base v ls) (hb : Below w.heap.size w w') : OwnLF w' base v ls := by
 obtain ⟨vs, h1, h2⟩ := h
 exact ⟨vs, own_below h1 hb, fun k hk => by obtain ⟨u, g1, g2, g3⟩ := h2 k hk; exact ⟨u, g1, g2.below hb, g3⟩⟩
theorem OwnLF.mono {base' : Nat} (h : OwnLF w base v ls) (hb : base' ≤ base) : OwnLF w base' v ls := by
 obtain ⟨vs, h1, h2⟩ := h
 refine ⟨vs, ⟨h1.1, ?_⟩, fun k hk => by obtain ⟨u, g1, g2, g3⟩ := h2 k hk; exact ⟨u, g1, g2, g3.mono hb⟩⟩
 rcases h1.2 with h | ⟨g, cap, cur, e1, e2, e3⟩
 · exact .inl h
 · exact .inr ⟨g, cap, cur, e1, by omega, e3⟩
theorem OwnLF.poke {G j : Nat} {T : TypeId} {v' : Value} {xs : List Value} (h : OwnLF w base v ls) (hG : G < base) (hbx : Box w G T xs) (hno : NoByte xs) : OwnLF (w.setCell ⟨G, j, none⟩ v') base v ls := by
 have hlt := h.own.lt
 obtain ⟨vs, h1, h2⟩ := h
 have hne : v.ownBlock ≠ some G := fun e => by have := (hlt G e).1; omega
 refine ⟨vs, h1.kept (setCell_grown w G j v') (.inr hne), fun k hk => ?_⟩
 obtain ⟨u, e1, e2, e3⟩ := h2 k hk
 refine ⟨u, e1, ⟨SeesB.more (e2.1.stay fun hl k hk p hp => World.cell?_setCell_other w _ p v' (fun e => ?_)) (by simp [World.setCell]), e2.2⟩, e3⟩
 exact e2.1.notin hbx hno hl (by rw [hk, ← hp, ← e])
end
end Go.Proofs.YtjgepckncogdaaaGreat

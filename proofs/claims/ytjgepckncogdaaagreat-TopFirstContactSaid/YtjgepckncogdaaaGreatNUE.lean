/- What a law leans on beyond the base: contracts, plain functions, walks. Conditions: those of each theorem. -/
import Derived.Test.YtjgepckncogdaaaGreatNUP
import Derived.Test.YtjgepckncogdaaaGreatNSortev
set_option linter.unusedVariables false
set_option linter.unusedSimpArgs false
namespace Go.Proofs.YtjgepckncogdaaaGreat
open Go.RowKit Go.Sort
set_option linter.unusedVariables false
set_option linter.unusedSimpArgs false
attribute [local go_sem ↓] Go.wp_at_zero Go.wp_at_succ
theorem isnan_any (x : Int) (w : World) : Calls Tryz.prog 305 #[.int .i64 x] w fun e w' => e = .returned (.bool false) ∧ w = w' := by
 go_enter Tryz.func305, Tryz.ntmps305
 go_wp2
 go_ret
 exact ⟨ret_bool (by simp), rfl⟩
set_option maxRecDepth 100000 in
theorem compare_any (x y : Int) (w : World) : Calls Tryz.prog 292 #[.int .i64 x, .int .i64 y] w fun e w' => e = .returned (.int .i64 (Lib.compareInt x y)) ∧ w = w' := by
 unfold Lib.compareInt
 by_cases h1 : x < y
 · rw [if_pos h1]
   go_enter Tryz.func292, Tryz.ntmps292
   go_wp2_with (go_at_call 305; refine (isnan_any _ _).mono ?_; rintro e w' ⟨rfl, rfl⟩)
   go_ret
   exact ⟨rfl, rfl⟩
 · rw [if_neg h1]
   by_cases h2 : y < x
   · rw [if_pos h2]
     go_enter Tryz.func292, Tryz.ntmps292
     go_wp2_with (go_at_call 305; refine (isnan_any _ _).mono ?_; rintro e w' ⟨rfl, rfl⟩)
     go_ret
     exact ⟨rfl, rfl⟩
   · rw [if_neg h2]
     go_enter Tryz.func292, Tryz.ntmps292
     go_wp2_with (go_at_call 305; refine (isnan_any _ _).mono ?_; rintro e w' ⟨rfl, rfl⟩)
     go_ret
     exact ⟨rfl, rfl⟩
def encE (x : Int × Int) : List Value := [.int .i64 x.1, .int .i64 x.2]
theorem ltE (x y : Int × Int) : ltOf (fun x y : Int × Int => Lib.compareInt x.1 y.1) x y = decide (x.1 < y.1) := by
 unfold ltOf Lib.compareInt
 by_cases h1 : x.1 < y.1
 · simp [h1]
 · by_cases h2 : y.1 < x.1 <;> simp [h1, h2]
theorem swoE : SWO (ltOf fun x y : Int × Int => Lib.compareInt x.1 y.1) where
 irrefl x := by rw [ltE]; simp
 trans x y z h1 h2 := by rw [ltE] at *; simp at *; omega
 ntrans x y z h1 h2 := by rw [ltE] at *; simp at *; omega
theorem evcl_any (x y : Int × Int) (W : World) : Calls Tryz.prog 291 #[.agg #[.int .i64 x.1, .int .i64 x.2], .agg #[.int .i64 y.1, .int .i64 y.2]] W fun e w' => e = .returned (.int .i64 (Lib.compareInt x.1 y.1)) ∧ ∃ q os', w' = grow (W.drewN q) os' := by
 have hcon := fun W' => compare_any x.1 y.1 W'
 generalize Lib.compareInt x.1 y.1 = r at hcon ⊢
 go_enter Tryz.func291, Tryz.ntmps291
 go_wp2_with (go_at_call 292; refine (hcon _).mono ?_; rintro e w' ⟨rfl, rfl⟩)
 go_ret
 exact ⟨rfl, 0, _, by rw [alloc_eq_grow, alloc_eq_grow, grow_grow]; rfl⟩
theorem evLays (blk off size : Nat) (w : World) : CmpLays Tryz.prog 291 #[] encE 2 (fun x y => Lib.compareInt x.1 y.1) blk off size w :=
 fun _ _ _ _ x y => evcl_any x y _
theorem flat_sp (d : List (Int × Int)) : flatK encE 2 d.toArray = (spV d).toArray := by
 refine ext_get! (by rw [size_flatK]; simp [spV_len]) fun t ht => ?_
 rw [size_flatK] at ht
 rw [get_flatK _ _ _ _ ht]
 have hj : t / 2 < d.length := by simp at ht; omega
 have hs := spV_get d (t / 2) _ (List.getElem?_eq_getElem hj)
 have hd : (d.toArray)[t / 2]! = d[t / 2] := by simp [hj]
 rw [hd]
 rcases Nat.mod_two_eq_zero_or_one t with h | h
 · have e : t / 2 * 2 = t := by omega
   rw [e] at hs
   rw [h]
   have := hs.1
   simp only [encE]
   rw [show (spV d).toArray[t]! = ((spV d).toArray[t]?).getD default from by simp [getElem!_def]; split <;> simp_all]
   simp [this]
 · have e : t / 2 * 2 + 1 = t := by omega
   rw [e] at hs
   rw [h]
   have := hs.2
   simp only [encE]
   rw [show (spV d).toArray[t]! = ((spV d).toArray[t]?).getD default from by simp [getElem!_def]; split <;> simp_all]
   simp [this]
theorem holds_own {w : World} {base g cap : Nat} {d : List (Int × Int)} (h : w.ownsRow base 290 2 (.slice (some ⟨g, 0, none⟩) d.length cap) d.length (spV d)) : HoldsK encE 2 w g 0 d.toArray := by
 unfold HoldsK Holds
 rw [flat_sp]
 intro j hj
 have hj' : j < (spV d).length := by simpa using hj
 rw [Nat.zero_add]
 refine ⟨?_, h.frozenAt j⟩
 rw [h.cellAt j (by rw [spV_len] at hj'; exact hj'), List.getElem?_eq_getElem hj']
 simp [hj']
theorem put_take (F cur : Array Value) (h : F.size ≤ cur.size) : (putCells id 0 F cur).toList.take F.size = F.toList := by
 apply List.ext_getElem?
 intro k
 rw [List.getElem?_take]
 by_cases hk : k < F.size
 · rw [if_pos hk]
   unfold putCells
   rw [Array.getElem?_toList, Array.getElem?_mapIdx, Array.getElem?_eq_getElem (show k < cur.size by omega), Option.map_some, if_pos ⟨Nat.zero_le _, by omega⟩, Array.getElem?_toList, Array.getElem?_eq_getElem hk]
   simp [hk]
 · rw [if_neg hk, Array.getElem?_toList, Array.getElem?_eq_none (by omega)]
theorem sorted_own {w : World} {base g cap : Nat} {d : List (Int × Int)} (h : w.ownsRow base 290 2 (.slice (some ⟨g, 0, none⟩) d.length cap) d.length (spV d)) (d' : Array (Int × Int)) (hs : d'.size = d.length) (n : Nat) (os : Array Obj) :
 (sortWorldK encE 2 w g 0 n d' os).ownsRow base 290 2 (.slice (some ⟨g, 0, none⟩) d.length cap) d.length (spV d'.toList) ∧ w.grownBy (sortWorldK encE 2 w g 0 n d' os) (some g) := by
 have hF : flatK encE 2 d' = (spV d'.toList).toArray := by
  have := flat_sp d'.toList
  rwa [Array.toArray_toList] at this
 have hFs : (flatK encE 2 d').size = d.length * 2 := by rw [size_flatK, hs]
 rcases h.2 with ⟨h', _⟩ | ⟨g', cap', cur, h', hb, hg, hnc, hcm, hcs, htake⟩
 · simp at h'
 · simp only [Value.slice.injEq, Option.some.injEq, Addr.mk.injEq, and_true, true_and] at h'
   obtain ⟨rfl, rfl⟩ := h'
   have hlt : g < w.heap.size := (Array.getElem?_eq_some_iff.1 hg).1
   refine ⟨⟨by rw [spV_len, Array.length_toList, hs], .inr ⟨g, cap, putCells id 0 (flatK encE 2 d') cur, rfl, hb, ?_, hnc, hcm, by simp [putCells, hcs], ?_⟩⟩, rfl, rfl, rfl, ?_, fun k hk hne => ?_⟩
   · show (((Sort.ahead w n).heap.modify g (onCells (putCells id 0 (flatK encE 2 d')))) ++ os)[g]? = _
     rw [Array.getElem?_append_left (by simpa [Sort.ahead] using hlt), Array.getElem?_modify]
     show (if g = g then (w.heap[g]?).map _ else _) = _
     rw [if_pos rfl, hg]
     rfl
   · rw [← hFs, put_take _ _ (by rw [hFs, hcs]; omega), hF]
   · show w.heap.size ≤ (((Sort.ahead w n).heap.modify g (onCells (putCells id 0 (flatK encE 2 d')))) ++ os).size
     rw [Array.size_append, Array.size_modify]
     exact Nat.le_add_right _ _
   · show (((Sort.ahead w n).heap.modify g (onCells (putCells id 0 (flatK encE 2 d')))) ++ os)[k]? = _
     rw [Array.getElem?_append_left (by simpa [Sort.ahead] using hk), Array.getElem?_modify, if_neg (fun e => hne (by rw [e]))]
     rfl
theorem evs_of {l : List Sp} {d' : Array (Int × Int)} (hp : PermIn 0 (evs l).toArray.size (evs l).toArray d') (hs : SortedIn (ltOf fun x y : Int × Int => Lib.compareInt x.1 y.1) 0 (evs l).toArray.size d') : Evs l d'.toList := by
 obtain ⟨h1, -, h3⟩ := hp
 constructor
 · have e1 : d'.extract 0 (evs l).toArray.size = d' := by rw [← h1]; simp
   have e2 : (evs l).toArray.extract 0 (evs l).toArray.size = (evs l).toArray := by simp
   rw [e1, e2] at h3
   simpa using h3
 · rw [List.pairwise_iff_getElem]
   intro i j hi hj hij
   have hi' : i < d'.size := by simpa using hi
   have hj' : j < d'.size := by simpa using hj
   have := hs i j (Nat.zero_le _) hij (by rw [← h1]; exact hj')
   rw [ltE] at this
   simp [hi', hj'] at this
   simpa using this
theorem evs_take {l : List Sp} {k : Nat} {s : Sp} (h : l[k]? = some s) : evs (l.take (k + 1)) = evs (l.take k) ++ [(s.1, 1), (s.2 + 1, -1)] := by
 rw [List.take_add_one, h]
 unfold evs
 rw [List.flatMap_append]
 rfl
theorem lit_n (W : World) (T : TypeId) (xs : List Value) (size n : Nat) (h : xs.length = n * size) (hn : n ≤ 64) : Sees (W.alloc (.cells xs.toArray T)) (W.heap.size + 1) (.slice (some ⟨W.heap.size, 0, none⟩) n n) size n xs :=
 ⟨h, _, n, rfl, Nat.le_refl _, by unfold maxLen; omega, fun _ => ⟨W.heap.size, 0, rfl, by omega, fun j u hj => by have := (Box.new W T xs).cell j; rw [Nat.zero_add, this, hj]⟩⟩
theorem sort_ev (g cap N : Nat) (l : List Sp) (base : Nat) (w : World) (hN : (evs l).length = N) (h : w.ownsRow base 290 2 (.slice (some ⟨g, 0, none⟩) N cap) N (spV (evs l))) (hl : N ≤ 128) :
 Calls Tryz.prog 290 #[.slice (some ⟨g, 0, none⟩) N cap, .func (.func 291) #[] #[]] w fun e w' => e = .returned (.tuple #[]) ∧ ∃ d, Evs l d ∧ d.length = N ∧ w'.ownsRow base 290 2 (.slice (some ⟨g, 0, none⟩) N cap) N (spV d) ∧ w.grownBy w' (some g) := by
 subst hN
 have eg : ∀ args w, (callFunc 291 args).run Tryz.prog w = .ok (.enter 291 args) w := enters_of Tryz.func291 (by kernel_rfl) rfl
 have hlt : g < w.heap.size := (h.lt g rfl).2
 have hcon := AnyQ.slices_SortFunc Tryz.sortEv 2 Tryz.isAgg290 Tryz.sizeOf290 encE (fun _ => rfl) (fun x v hv => by simp [encE] at hv; rcases hv with rfl | rfl <;> rfl) (fun x y => Lib.compareInt x.1 y.1) swoE 291 #[] g 0 cap (evs l).toArray w eg (evLays g 0 (evs l).toArray.size w) (holds_own h) hlt (by simp; omega)
 have e0 : (evs l).toArray.size = (evs l).length := by simp
 rw [e0] at hcon
 refine Calls.mono hcon ?_
 rintro e w' ⟨he, d', n, os, h1, h2, rfl⟩
 have hev := evs_of (l := l) (d' := d') (by rw [e0]; exact h1) (by rw [e0]; exact h2)
 have hsz : d'.size = (evs l).length := by rw [← e0]; exact h1.1
 obtain ⟨k1, k2⟩ := sorted_own h d' hsz n os
 exact ⟨he, d'.toList, hev, by rw [Array.length_toList, hsz], k1, k2⟩
theorem ev_done {l : List Sp} {w w' : World} {v : Value} {d : List (Int × Int)} {N : Nat} (h : Evs l d) (hd : d.length = N) (ho : w'.ownsRow w.heap.size 290 2 v N (spV d)) (hb : Below w.heap.size w w') : EvP l w (.returned v) w' := by
 subst hd; exact ⟨v, d, rfl, ho, h, hb⟩
set_option maxRecDepth 100000 in
set_option maxHeartbeats 4000000 in
theorem events_any (B : Nat) (u : Value) (l : List Sp) (w : World) (hu : SeesS w B u l) (hB : B ≤ w.heap.size) (hn : l.length ≤ 64) (h0 : 0 < l.length) (hok : okV l = true) :
 Calls Tryz.prog 273 #[u] w (EvP l w) := by
 obtain ⟨A, c, rfl, -, -⟩ := hu.mk_
 obtain ⟨ti, hti, htz, hts, htb⟩ := info_parts event_info
 replace hti := Lib.hid hti
 replace htz := Lib.hid htz
 replace hts := Lib.hid hts
 replace htb := Lib.hid htb
 replace hok := Lib.hid hok
 replace hu := Lib.hid hu
 have hz : Hid (w.heap.size ≤ w.heap.size) := Nat.le_refl _
 go_enter Tryz.func273, Tryz.ntmps273
 go_wp2_with fail
 go_loopw [3, 5, 8] (fun s _ i wr => ∃ k : Nat, k ≤ l.length ∧ i = .int .i64 k ∧ Hid (wr.ownsRow w.heap.size 290 2 s (2 * k) (spV (evs (l.take k)))) ∧ Hid (Below w.heap.size w wr)) (fun _ _ i _ => l.length - (intOf i).toNat)
 case atStart => exact ⟨0, by omega, rfl, World.ownsRow_nil _ _ _ _, Below.refl _ _⟩
 case round =>
  obtain ⟨k, hk, rfl, hs, hb⟩ := hrel
  obtain ⟨As, cs, rfl, -, -⟩ := (Sees.of_own hs.out).mk_
  by_cases hlt : k < l.length
  · obtain ⟨b, o, rfl, hbB, hds⟩ := SeesS.at_ (Sees.below hu.out (hb.out.mono hB)) (by omega)
    obtain ⟨s, hsk⟩ : ∃ s, l[k]? = some s := ⟨_, List.getElem?_eq_getElem hlt⟩
    obtain ⟨c0, c1⟩ := hds k s hsk
    have hv := okV_each hok.out s (List.mem_of_getElem? hsk)
    have hst := Lib.hid (evs_take hsk)
    obtain ⟨lo, hi⟩ := s
    unfold vS at hv
    rw [decide_eq_true_iff] at hv
    dsimp only at c0 c1 hst hv
    obtain ⟨v1, v2, v3⟩ := hv
    have i0 : (k : Int) < (l.length : Int) := by omega
    have i1 : (0 : Int) ≤ (k : Int) := by omega
    have x5 := Box.new wr 24 [.int .i64 lo, .int .i64 hi]
    change Box (wr.alloc (.cells #[.int .i64 lo, .int .i64 hi] 24)) _ _ _ at x5
    have hal := balloc wr (.cells #[.int .i64 lo, .int .i64 hi] 24)
    replace hs := Lib.hid (own_below hs.out hal)
    replace hb := Lib.hid (bgo hb.out hal)
    replace hsk := Lib.hid hsk
    clear hal hds
    go_upto_region 5 with (fail)
    generalize wr.alloc (.cells #[.int .i64 lo, .int .i64 hi] 24) = W1 at *
    generalize wr.heap.size = g5 at *
    clear c0 c1
    obtain ⟨y0, y1⟩ := boxT2 x5
    have hrec : Hid (Sees (W1.alloc (.cells #[.int .i64 lo, .int .i64 1, .int .i64 (hi + 1), .int .i64 (-1)] 290)) (W1.heap.size + 1) (.slice (some ⟨W1.heap.size, 0, none⟩) 2 2) 2 2 [.int .i64 lo, .int .i64 1, .int .i64 (hi + 1), .int .i64 (-1)]) := lit_n W1 290 [.int .i64 lo, .int .i64 1, .int .i64 (hi + 1), .int .i64 (-1)] 2 2 rfl (by omega)
    have hal := balloc W1 (.cells #[.int .i64 lo, .int .i64 1, .int .i64 (hi + 1), .int .i64 (-1)] 290)
    replace hs := Lib.hid (own_below hs.out hal)
    replace hb := Lib.hid (bgo hb.out hal)
    have hzz : Hid (w.heap.size ≤ (W1.alloc (.cells #[.int .i64 lo, .int .i64 1, .int .i64 (hi + 1), .int .i64 (-1)] 290)).heap.size) := hb.out.size
    have hlt2 : Hid (∀ j, (Value.slice As (2 * k) cs).ownBlock = some j → w.heap.size ≤ j) := fun j hj => (hs.out.lt j hj).1
    clear hal x5
    go_wp2_with (at_builtin; refine wpList_append_sees (by rfl) _ _ 287 rfl w.heap.size 290 ti _ 2 16 Tryz.underlying287 hti.out htz.out hts.out htb.out rfl (by omega) _ (2 * k) _ rfl hs.out _ _ 2 _ rfl hrec.out (by simp [Value.oneCell']) (by unfold maxLen; omega) (by omega) hzz.out ?_)
    intro v3 w3 s3 g3 d3
    replace s3 : Hid (w3.ownsRow w.heap.size 290 2 v3 (2 * (k + 1)) (spV (evs (l.take (k + 1))))) := by
     show World.ownsRow _ _ _ _ _ _ _
     rw [hst.out, spV_append]; exact s3
    have hb3 := Lib.hid (bgrowO hb.out g3 hlt2.out hzz.out)
    clear g3 d3 hs hrec y0 y1 hzz hlt2 hb
    go_wp2_with fail
    go_roundw
    case rel => exact ⟨k + 1, by omega, by go_num, s3, hb3⟩
    case measure => simp [intOf]; omega
  · obtain rfl : k = l.length := by omega
    have i0 : ¬ (l.length : Int) < (l.length : Int) := by omega
    rw [List.take_of_length_le (by omega)] at hs
    obtain ⟨g, cap, e5, gB, -, -, -, -⟩ := own_form hs.out (by omega)
    injection e5 with e5 _ e5'
    subst e5 e5'
    have hsort := Lib.hid (sort_ev g cs (2 * l.length) l w.heap.size wr (evs_len l) hs.out (by omega))
    clear hs
    go_wp2_with fail
    refine hsort.out.mono ?_
    rintro e w2 ⟨rfl, d, hE, hd, ho, hg⟩
    replace hd := Lib.hid hd
    have hb2 := Lib.hid (bgrow hb.out hg gB hb.out.size)
    replace ho := Lib.hid ho
    dsimp only
    go_wp2_with fail
    go_returns
    exact ev_done hE hd.out ho.out hb2.out
end Go.Proofs.YtjgepckncogdaaaGreat
namespace Go.Proofs.YtjgepckncogdaaaGreat
open Go Go.RowKit
set_option linter.unusedVariables false
set_option linter.unusedSimpArgs false
attribute [local go_sem ↓] Go.wp_at_zero Go.wp_at_succ
def viI (l : List Int) : List Value := l.map fun x => .int .i64 x
theorem viI_get (l : List Int) (j : Nat) : (viI l)[j]? = l[j]?.map fun x => .int .i64 x := by simp [viI]
def QSeesI (w : World) (B : Nat) (v : Value) (l : List Int) : Prop := Sees w B v 1 l.length (viI l)
theorem QSeesI.mk_ {w : World} {B : Nat} {v : Value} {l : List Int} (h : QSeesI w B v l) : ∃ A c, v = .slice A l.length c ∧ l.length ≤ c ∧ c ≤ maxLen := Sees.mk_ h
theorem QSeesI.at_ {w : World} {B : Nat} {l : List Int} {A : Option Addr} {n c : Nat} (h : QSeesI w B (.slice A n c) l) (hn : 0 < l.length) : ∃ b o, A = some ⟨b, o, none⟩ ∧ b < B ∧ ∀ j x, l[j]? = some x → w.cell? ⟨b, o + j, none⟩ = some (.int .i64 x) := by
 obtain ⟨A', c', e, -, -⟩ := h.mk_
 injection e with e1 e2 e3
 subst e1 e2 e3
 obtain ⟨b, o, e, hb, hc⟩ := Sees.at_ h hn
 exact ⟨b, o, e, hb, fun j x hx => hc _ _ (by rw [viI_get, hx]; rfl)⟩
theorem QSeesI.cut {w : World} {B n c a b : Nat} {A : Option Addr} {l : List Int} (h : QSeesI w B (.slice A n c) l) (hab : a ≤ b) (hb : b ≤ l.length) :
 QSeesI w B (.slice (cutA A c a 1) (b - a) (c - a)) ((l.drop a).take (b - a)) := by
 have hn : n = l.length := by
  obtain ⟨_, A', c', hv, _⟩ := h
  injection hv
 subst hn
 have := Sees.cut (l := a) (h' := b) h hab hb
 rw [Nat.mul_one, Nat.mul_one] at this
 unfold QSeesI
 rw [show ((l.drop a).take (b - a)).length = b - a from by rw [List.length_take, List.length_drop]; omega, show viI ((l.drop a).take (b - a)) = ((viI l).drop a).take (b - a) from by simp [viI, List.map_drop, List.map_take]]
 exact this
def Acc (w0 W : World) (v : Value) (xs : List Int) : Prop := W.ownsRow w0.heap.size 3 1 v xs.length (viI xs) ∧ Below w0.heap.size w0 W
theorem Acc.nil {w0 W : World} (h : Below w0.heap.size w0 W) : Acc w0 W (.slice none 0 0) [] := ⟨World.ownsRow_nil _ _ _ _, h⟩
theorem Acc.alloc {w0 W : World} {v : Value} {xs : List Int} (h : Acc w0 W v xs) (o : Obj) : Acc w0 (W.alloc o) v xs := ⟨own_below h.1 (balloc _ _), bgo h.2 (balloc _ _)⟩
theorem Acc.drew {w0 W : World} {v : Value} {xs : List Int} (h : Acc w0 W v xs) : Acc w0 W.drew v xs := ⟨own_below h.1 (bdrew _), bgo h.2 (bdrew _)⟩
theorem Acc.shape {w0 W : World} {v : Value} {xs : List Int} (h : Acc w0 W v xs) : ∃ A n c, v = .slice A n c := by
 obtain ⟨A, c, e, -, -⟩ := (Sees.of_own h.1).mk_
 exact ⟨A, _, c, e⟩
def Lit (W : World) (u : Value) (xs : List Int) : Prop := QSeesI W W.heap.size u xs
theorem Lit.sees {W : World} {u : Value} {xs : List Int} (h : Lit W u xs) : QSeesI W W.heap.size u xs := h
theorem Lit.below {W W' : World} {u : Value} {xs : List Int} (h : Lit W u xs) (hb : Below W.heap.size W W') : Lit W' u xs := (Sees.below h hb).more hb.size
theorem Lit.alloc {W : World} {u : Value} {xs : List Int} (h : Lit W u xs) (o : Obj) : Lit (W.alloc o) u xs := h.below (balloc _ _)
theorem Lit.drew {W : World} {u : Value} {xs : List Int} (h : Lit W u xs) : Lit W.drew u xs := h.below (bdrew _)
theorem Lit.new {W : World} {G : Nat} (x : Int) (hG : W.heap.size = G) : Lit (W.alloc (.cells #[.int .i64 x] 3)) (.slice (some ⟨G, 0, none⟩) 1 1) [x] := by
 subst hG
 unfold Lit
 rw [World.size_alloc]
 exact rec_lit W 3 [.int .i64 x]
end Go.Proofs.YtjgepckncogdaaaGreat
namespace Go.Proofs.YtjgepckncogdaaaGreat
open Go Go.RowKit
set_option linter.unusedVariables false
set_option linter.unusedSimpArgs false
attribute [local go_sem ↓] Go.wp_at_zero Go.wp_at_succ
structure Cuts (l : List Sp) (c : List Int) : Prop where
 asc : c.Pairwise (· < ·)
 mem : ∀ x, x ∈ c ↔ ∃ e ∈ evs l, x = e.1
section
variable {l : List Sp} {c : List Int} {k : Nat} {t x y : Int} {ps ini : List (Int × Int × Int)} {q : Int × Int × Int}
theorem sumTo_congr (d : List (Int × Int)) {t t' : Int} (h : ∀ e ∈ d, e.1 ≤ t ↔ e.1 ≤ t') : sumTo d t = sumTo d t' := by
 unfold sumTo
 congr 1
 refine List.map_congr_left fun e he => ?_
 by_cases h1 : e.1 ≤ t
 · rw [if_pos h1, if_pos ((h e he).1 h1)]
 · rw [if_neg h1, if_neg (fun h2 => h1 ((h e he).2 h2))]
theorem Cuts.at_le (h : Cuts l c) {j : Nat} (hj : c[j]? = some x) (hk : c[k]? = some y) (hjk : j ≤ k) : x ≤ y := by
 obtain ⟨h1, rfl⟩ := List.getElem?_eq_some_iff.1 hj
 obtain ⟨h2, rfl⟩ := List.getElem?_eq_some_iff.1 hk
 rcases Nat.lt_or_ge j k with h3 | h3
 · exact Int.le_of_lt (List.pairwise_iff_getElem.1 h.asc j k h1 h2 h3)
 · obtain rfl : j = k := by omega
   exact Int.le_refl _
theorem Cuts.at_lt (h : Cuts l c) {j : Nat} (hj : c[j]? = some x) (hk : c[k]? = some y) (hjk : j < k) : x < y := by
 obtain ⟨h1, rfl⟩ := List.getElem?_eq_some_iff.1 hj
 obtain ⟨h2, rfl⟩ := List.getElem?_eq_some_iff.1 hk
 exact List.pairwise_iff_getElem.1 h.asc j k h1 h2 hjk
theorem Cuts.first (h : Cuts l c) (hv : okV l = true) (hx : c[0]? = some x) (ht : t < x) : cnt l t = 0 := by
 have := sumTo_evs (okV_le hv) t
 rw [sumTo_none (fun e he => by
  obtain ⟨j, hj⟩ := List.getElem?_of_mem ((h.mem e.1).2 ⟨e, he, rfl⟩)
  have := h.at_le hx hj (Nat.zero_le _)
  omega)] at this
 omega
theorem Cuts.mid (h : Cuts l c) (hv : okV l = true) (hx : c[k]? = some x) (hy : c[k + 1]? = some y) (h1 : x ≤ t) (h2 : t < y) : cnt l t = cnt l x := by
 have a := sumTo_evs (okV_le hv) t
 have b := sumTo_evs (okV_le hv) x
 rw [sumTo_congr (evs l) (t' := x) (fun e he => by
  obtain ⟨j, hj⟩ := List.getElem?_of_mem ((h.mem e.1).2 ⟨e, he, rfl⟩)
  constructor
  · intro h3
    rcases Nat.lt_or_ge k j with h4 | h4
    · have := h.at_le hy hj (by omega); omega
    · exact h.at_le hj hx h4
  · intro h3; omega), b] at a
 omega
theorem Cuts.last (h : Cuts l c) (hx : c[k]? = some x) (hk : k + 1 = c.length) (ht : x ≤ t) : cnt l t = 0 := by
 unfold cnt
 rw [List.countP_eq_zero]
 intro s hs
 unfold hol
 rw [decide_eq_true_iff]
 rintro ⟨-, h2⟩
 obtain ⟨j, hj⟩ := List.getElem?_of_mem ((h.mem (s.2 + 1)).2 ⟨(s.2 + 1, -1), by unfold evs; exact List.mem_flatMap.2 ⟨s, hs, by simp⟩, rfl⟩)
 have := h.at_le hj hx (by have := (List.getElem?_eq_some_iff.1 hj).1; omega)
 omega
def CI (l : List Sp) (c : List Int) (k : Nat) (ps : List (Int × Int × Int)) : Prop := ∀ x, c[k]? = some x → PInv l x ps
theorem CI.start (h : Cuts l c) (hv : okV l = true) : CI l c 0 [] := fun x hx => PInv.start fun t ht => h.first hv hx ht
theorem CI.skip (h : Cuts l c) (hv : okV l = true) (hx : c[k]? = some x) (hy : c[k + 1]? = some y) (h0 : cnt l x = 0) (hi : CI l c k ps) : CI l c (k + 1) ps := fun z hz => by
 rw [hy] at hz
 obtain rfl := Option.some.inj hz
 exact (hi x hx).skip (h.at_le hx hy (by omega)) fun t t1 t2 => by rw [h.mid hv hx hy t1 t2]; exact h0
theorem CI.push (h : Cuts l c) (hv : okV l = true) (hx : c[k]? = some x) (hy : c[k + 1]? = some y) (hi : CI l c k ps) : CI l c (k + 1) (ps ++ [(x, y - 1, (cnt l x : Int))]) := fun z hz => by
 rw [hy] at hz
 obtain rfl := Option.some.inj hz
 exact (hi x hx).push (h.at_lt hx hy (by omega)) fun t t1 t2 => by rw [h.mid hv hx hy t1 t2]
theorem CI.join (h : Cuts l c) (hv : okV l = true) (hx : c[k]? = some x) (hy : c[k + 1]? = some y) (hq : q.2.1 + 1 = x) (hc : q.2.2 = (cnt l x : Int)) (hi : CI l c k (ini ++ [q])) : CI l c (k + 1) (ini ++ [(q.1, y - 1, q.2.2)]) := fun z hz => by
 rw [hy] at hz
 obtain rfl := Option.some.inj hz
 exact (hi x hx).join hq hc (h.at_lt hx hy (by omega)) fun t t1 t2 => by rw [h.mid hv hx hy t1 t2]
theorem CI.all (h : Cuts l c) (hk : k + 1 = c.length) (hi : CI l c k ps) : PAll l ps := by
 have hx := List.getElem?_eq_getElem (show k < c.length by omega)
 exact (hi _ hx).all fun t ht => h.last hx hk ht
end
theorem Cuts.step {l l' : List Sp} {c c1 c2 : List Int} {a b : Int} (h : Cuts l c) (he : evs l' = evs l ++ [(a, 1), (b, -1)]) (h1 : ∀ x, x ∈ c1 ↔ x ∈ c ∨ x = a) (h2 : ∀ x, x ∈ c2 ↔ x ∈ c1 ∨ x = b) (p : c2.Pairwise (· < ·)) : Cuts l' c2 := by
 refine ⟨p, fun x => ?_⟩
 rw [h2, h1, h.mem, he]
 constructor
 · rintro ((⟨e, he, rfl⟩ | rfl) | rfl)
   · exact ⟨e, List.mem_append_left _ he, rfl⟩
   · exact ⟨(x, 1), by simp, rfl⟩
   · exact ⟨(x, -1), by simp, rfl⟩
 · rintro ⟨e, he, rfl⟩
   rcases List.mem_append.1 he with he | he
   · exact .inl (.inl ⟨e, he, rfl⟩)
   · simp only [List.mem_cons, List.not_mem_nil, or_false] at he
     rcases he with rfl | rfl
     · exact .inl (.inr rfl)
     · exact .inr rfl
end Go.Proofs.YtjgepckncogdaaaGreat
namespace Go.Proofs.YtjgepckncogdaaaGreat
open Go Go.RowKit
set_option linter.unusedVariables false
set_option linter.unusedSimpArgs false
attribute [local go_sem ↓] Go.wp_at_zero Go.wp_at_succ
def Lit3 (W : World) (u : Value) (p : Int × Int × Int) : Prop := Sees W W.heap.size u 3 1 [.int .i64 p.1, .int .i64 p.2.1, .int .i64 p.2.2]
theorem Lit3.drew {W : World} {u : Value} {p : Int × Int × Int} (h : Lit3 W u p) : Lit3 W.drew u p := (Sees.below h (bdrew _)).more (bdrew _).size
theorem Lit3.new {W : World} {G : Nat} (p : Int × Int × Int) (hG : W.heap.size = G) : Lit3 (W.alloc (.cells #[.int .i64 p.1, .int .i64 p.2.1, .int .i64 p.2.2] 265)) (.slice (some ⟨G, 0, none⟩) 1 1) p := by
 subst hG
 unfold Lit3
 rw [World.size_alloc]
 exact rec_lit W 265 [.int .i64 p.1, .int .i64 p.2.1, .int .i64 p.2.2]
theorem OwnP.shape {w : World} {base : Nat} {v : Value} {l : List (Int × Int × Int)} (h : OwnP w base v l) : ∃ A n c, v = .slice A n c := by
 obtain ⟨A, c, e, -, -⟩ := (Sees.of_own h).mk_
 exact ⟨A, _, c, e⟩
end Go.Proofs.YtjgepckncogdaaaGreat
namespace Go.Proofs.YtjgepckncogdaaaGreat
open Go Go.RowKit
set_option linter.unusedVariables false
set_option linter.unusedSimpArgs false
attribute [local go_sem ↓] Go.wp_at_zero Go.wp_at_succ
def LeastP2 (l : List Sp) (n : Int) (w : World) (e : Ending) (w' : World) : Prop := ∃ v out, e = .returned (.tuple #[v, .int .i64 0]) ∧ OwnS w' w.heap.size v out ∧ LAll l n out ∧ out.length ≤ 128 ∧ Below w.heap.size w w'
end Go.Proofs.YtjgepckncogdaaaGreat
namespace Go.Proofs.YtjgepckncogdaaaGreat
open Go Go.RowKit
set_option linter.unusedVariables false
set_option linter.unusedSimpArgs false
attribute [local go_sem ↓] Go.wp_at_zero Go.wp_at_succ
theorem ins_nil (f : Value) (w : World) : Calls Tryz.prog 308 #[.slice none 0 0, .int .i64 0, .int .i64 0, f] w fun e w' => e = .returned (.tuple #[]) ∧ w' = w := by
 go_enter Tryz.func308, Tryz.ntmps308
 go_wp2_with fail
 go_loopw [8] (fun i wr => i = .int .i64 1 ∧ wr = w) (fun _ _ => 0)
 case atStart => exact ⟨rfl, rfl⟩
 case round =>
  obtain ⟨rfl, hw⟩ := hrel
  obtain rfl := hw
  go_wp2_with fail
  go_returns
  exact ⟨rfl, rfl⟩
theorem pdq_nil (f : Value) (x : Int) (w : World) : Calls Tryz.prog 304 #[.slice none 0 0, .int .i64 0, .int .i64 0, .int .i64 x, f] w fun e w' => e = .returned (.tuple #[]) ∧ w' = w := by
 go_enter Tryz.func304, Tryz.ntmps304
 go_wp2_with fail
 go_loopw [1, 2, 3, 10, 11] (fun a b l c d wr => a = .int .i64 0 ∧ b = .int .i64 0 ∧ l = .int .i64 x ∧ wr = w) (fun _ _ _ _ _ _ => 0)
 case atStart => exact ⟨rfl, rfl, rfl, rfl⟩
 case round =>
  obtain ⟨rfl, rfl, rfl, hw⟩ := hrel
  obtain rfl := hw
  go_wp2_with fail
  refine (ins_nil f _).mono ?_
  rintro e w1 ⟨rfl, rfl⟩
  dsimp only
  go_wp2_with fail
  go_returns
  exact ⟨rfl, rfl⟩
theorem sort_nil (f : Value) (w : World) : Calls Tryz.prog 290 #[.slice none 0 0, f] w fun e w' => e = .returned (.tuple #[]) ∧ w' = w := by
 have hl := Lib.hid (Tryz.bits_Len 0 w (by omega) (by omega))
 go_enter Tryz.func290, Tryz.ntmps290
 go_wp2_with fail
 refine hl.out.mono ?_
 rintro e w1 ⟨rfl, rfl⟩
 dsimp only
 go_wp2_with fail
 refine (pdq_nil f _ _).mono ?_
 rintro e w2 ⟨rfl, rfl⟩
 dsimp only
 go_wp2_with fail
 exact bodyPost_end (v := .tuple #[]) (results_none (by kernel_rfl) _ _ _) rfl ⟨rfl, rfl⟩
theorem events_nil (w : World) : Calls Tryz.prog 273 #[.slice none 0 0] w (EvP [] w) := by
 go_enter Tryz.func273, Tryz.ntmps273
 go_wp2_with fail
 go_loopw [3, 5, 8] (fun s _ i wr => s = .slice none 0 0 ∧ i = .int .i64 0 ∧ wr = w) (fun _ _ _ _ => 0)
 case atStart => exact ⟨rfl, rfl, rfl⟩
 case round =>
  obtain ⟨rfl, rfl, hw⟩ := hrel
  obtain rfl := hw
  go_wp2_with fail
  refine (sort_nil _ _).mono ?_
  rintro e w1 ⟨rfl, rfl⟩
  dsimp only
  go_wp2_with fail
  go_returns
  exact ⟨_, [], rfl, World.ownsRow_nil _ _ _ _, ⟨List.Perm.refl _, List.Pairwise.nil⟩, Below.refl _ _⟩
end Go.Proofs.YtjgepckncogdaaaGreat
namespace Go.Proofs.YtjgepckncogdaaaGreat
open Go Go.RowKit
set_option linter.unusedVariables false
set_option linter.unusedSimpArgs false
attribute [local go_sem ↓] Go.wp_at_zero Go.wp_at_succ
theorem eventsE_any (B : Nat) (u : Value) (l : List Sp) (w : World) (hu : SeesS w B u l) (hB : B ≤ w.heap.size) (hn : l.length ≤ 64) (h0 : 0 < l.length ∨ l = [] ∧ u = .slice none 0 0) (hok : okV l = true) :
 Calls Tryz.prog 273 #[u] w (EvP l w) := by
 rcases h0 with h0 | ⟨rfl, rfl⟩
 · exact events_any B u l w hu hB hn h0 hok
 · exact events_nil w
set_option maxRecDepth 100000 in
theorem sleastE_any (B : Nat) (u : Value) (l : List Sp) (n : Int) (w : World) (hu : SeesS w B u l) (hB : B ≤ w.heap.size) (hn : l.length ≤ 64) (h0 : 0 < l.length ∨ l = [] ∧ u = .slice none 0 0) (hok : okV l = true) (h1 : 1 ≤ n) (h2 : n ≤ 1000) :
 Calls Tryz.prog 107 #[u, .int .i64 n] w (LeastP2 l n w) := by
 have hck := scheck_any B u l w hu hB hn
 have hle := Lib.hid (fun W (hb : Below w.heap.size w W) => have hW := SeesS.below hu (hb.mono hB); have hBW := Nat.le_trans hB hb.size; least_any B u l n W hW hBW hn hok h1 h2 (pieces_any B u l W hW hBW hn hok (eventsE_any B u l W hW hBW hn h0 hok)))
 obtain ⟨A, c, rfl, -, -⟩ := hu.mk_
 unfold chkC at hck
 rw [hok] at hck
 replace hck := Lib.hid hck
 replace hok := Lib.hid hok
 clear hu
 go_enter Tryz.func107, Tryz.ntmps107
 go_wp2_with fail
 refine hck.out.mono ?_
 rintro e w1 ⟨rfl, hb⟩
 have hl1 := Lib.hid (hle.out w1 hb)
 replace hb := Lib.hid hb
 clear hck hle
 dsimp only
 simp only [if_true]
 go_wp2_with fail
 refine hl1.out.mono ?_
 rintro e w2 ⟨v, out, rfl, ho, hA, hl, hb2⟩
 replace ho := Lib.hid ho
 replace hA := Lib.hid hA
 replace hl := Lib.hid hl
 replace hb2 := Lib.hid hb2
 dsimp only
 go_wp2_with fail
 go_returns
 exact ⟨v, out, rfl, row_mono ho.out hb.out.size, hA.out, hl.out, bgo hb.out hb2.out⟩
end Go.Proofs.YtjgepckncogdaaaGreat

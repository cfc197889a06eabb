/- Contracts of batch.names, sectimeref29.split and of a list of chunks collected; what a call that writes into one block leaves. Conditions: those of each theorem. -/
import Derived.Test.YtkefbjpdpcmpnaaGreatCut
import Derived.Test.YtkefbjpdpcmpnaaGreatTower14
namespace Go.Proofs.YtkefbjpdpcmpnaaGreat
open Go.RowKit
set_option linter.unusedVariables false
attribute [local go_sem ↓] Go.wp_at_zero Go.wp_at_succ
def nINDX : Bs := [73, 78, 68, 88]
def nNUMB : Bs := [78, 85, 77, 66]
def nPATH : Bs := [80, 65, 84, 72]
def nSIGN : Bs := [83, 73, 71, 78]
def nSREP : Bs := [83, 82, 69, 80]
def nROOT : Bs := [82, 79, 79, 84]
def nSPAN : Bs := [83, 80, 65, 78]
def names5 : List Bs := [nINDX, nNUMB, nPATH, nSIGN, nSREP]
def names2 : List Bs := [nROOT, nSPAN]
theorem rows_lit (W : World) (T : TypeId) (xs : List Value) (h : xs.length ≤ 1000) : Sees (W.alloc (.cells xs.toArray T)) (W.heap.size + 1) (.slice (some ⟨W.heap.size, 0, none⟩) xs.length xs.length) 1 xs.length xs :=
  ⟨by omega, _, _, rfl, Nat.le_refl _, by unfold maxLen; omega, fun _ => ⟨W.heap.size, 0, rfl, by omega, fun j u hj => by have := (Box.new W T xs).cell j; rw [Nat.zero_add, this, hj]⟩⟩
theorem names_lit (W : World) (T : TypeId) (ns : List Bs) (h : ns.length ≤ 1000) : SeesR (W.alloc (.cells (ns.map fun s => Value.string (strB s)).toArray T)) (W.heap.size + 1) (.slice (some ⟨W.heap.size, 0, none⟩) ns.length ns.length) 1 ns.length (nameS ns) := by
  have h1 := rows_lit W T (ns.map fun s => Value.string (strB s)) (by simpa using h)
  rw [List.length_map] at h1
  refine ⟨by simp [nameS], _, h1, fun k s hk => ?_⟩
  simp only [nameS, List.getElem?_map, Option.map_eq_some_iff] at hk
  obtain ⟨x, hx, rfl⟩ := hk
  exact ⟨.string (strB x), by simp [hx], rfl, rfl⟩
def NamesP (ns : List Bs) (w : World) (e : Ending) (w' : World) : Prop := ∃ v, e = .returned v ∧ SeesR w' w'.heap.size v 1 ns.length (nameS ns) ∧ Below w.heap.size w w'
theorem names_any (w : World) : Calls Tryz.prog 105 #[] w (NamesP names5 w) := by
  have hl : Hid (SeesR (w.alloc (.cells #[.string ⟨#[73, 78, 68, 88]⟩, .string ⟨#[78, 85, 77, 66]⟩, .string ⟨#[80, 65, 84, 72]⟩, .string ⟨#[83, 73, 71, 78]⟩, .string ⟨#[83, 82, 69, 80]⟩] 9)) (w.heap.size + 1) (.slice (some ⟨w.heap.size, 0, none⟩) 5 5) 1 5 (nameS names5)) := names_lit w 9 names5 (by simp [names5])
  go_enter Tryz.func105, Tryz.ntmps105
  go_wp2_with fail
  go_ret
  exact ⟨_, rfl, hl.out.more (by rw [World.size_alloc]; exact Nat.le_refl _), balloc w _⟩
theorem names2_lit (w : World) : SeesR (w.alloc (.cells #[.string ⟨#[82, 79, 79, 84]⟩, .string ⟨#[83, 80, 65, 78]⟩] 9)) (w.heap.size + 1) (.slice (some ⟨w.heap.size, 0, none⟩) 2 2) 1 2 (nameS names2) := names_lit w 9 names2 (by simp [names2])
theorem cutL_next (size n : Nat) (l : Bs) (k : Nat) (hk : k < n) : (cutL size n l).take (k + 1) = (cutL size n l).take k ++ [(l.drop (size * k)).take size] := by
  rw [List.take_succ_eq_append_getElem (by rw [cutL_len]; exact hk)]
  congr 2
  have := cutL_get size n l k hk
  rw [List.getD_eq_getElem?_getD, List.getElem?_eq_getElem (by rw [cutL_len]; exact hk)] at this
  exact this
set_option maxRecDepth 100000 in
theorem rchunks_any (B : Nat) (u : Value) (l : Bs) (N : Nat) (w : World) (hu : SeesB w B u l) (hB : B ≤ w.heap.size) (hl : l.length = 32 * N) (hN : N ≤ 64) :
    Calls Tryz.prog 79 #[u] w (GivesL (cutL 32 N l) w) := by
  obtain ⟨A, c, rfl, hc1, hc2⟩ := hu.mk_
  replace hu := Lib.hid hu
  replace hl := Lib.hid hl
  go_enter Tryz.func79, Tryz.ntmps79
  go_wp2_with fail
  go_loopw [3, 4] (fun r t wr => ∃ k : Nat, k ≤ N ∧ t = .int .i64 (32 * (k : Int)) ∧ Hid (OwnL wr w.heap.size r ((cutL 32 N l).take k)) ∧ Hid (Below w.heap.size w wr)) (fun _ t _ => 32 * N + 32 - (intOf t).toNat)
  case atStart => exact ⟨0, by omega, rfl, OwnL.nil _ _, Below.refl _ _⟩
  case round =>
    obtain ⟨k, hk, rfl, ho, hb⟩ := hrel
    obtain ⟨Ar, cr, rfl⟩ := ho.out.shape
    have hkl : ((cutL 32 N l).take k).length = k := by rw [List.length_take, cutL_len]; omega
    rw [hkl] at ho ⊢
    replace hkl := Lib.hid hkl
    have hl' := hl.out
    by_cases hlt : k < N
    · have hst := Lib.hid (cutL_next 32 N l k hlt)
      have hr := run_cut (P := Tryz.prog) 23 Tryz.underlying23 1 byte_size A l.length c .i64 .i64 (32 * (k : Int)) (32 * (k : Int) + 32) (by omega) (by omega) (by omega)
      rw [show (32 * (k : Int)).toNat = 32 * k by omega, show (32 * (k : Int) + 32).toNat = 32 * k + 32 by omega] at hr
      have hc := SeesB.cut (a := 32 * k) (b := 32 * k + 32) (hu.out.below (hb.out.mono hB)) (by omega) (by omega)
      rw [show 32 * k + 32 - 32 * k = 32 by omega] at hc hr
      have hcl : ((l.drop (32 * k)).take 32).length = 32 := by rw [List.length_take, List.length_drop]; omega
      generalize (l.drop (32 * k)).take 32 = da at *
      generalize cutA A c (32 * k) 1 = A3 at *
      generalize c - 32 * k = c3 at *
      generalize (cutL 32 N l).take k = acc at *
      have i0 : 32 * (k : Int) + 32 ≤ (l.length : Int) := by omega
      have hel := Elt.of_old (v := .slice Ar k cr) hc (Nat.le_trans hB hb.out.size) (fun j hj => Nat.le_trans hB (ho.out.lt j hj).1)
      have hal := balloc wr (.cells #[.slice A3 32 c3] 23)
      have hbox := Lib.hid (one_cell wr (.slice A3 32 c3) 23)
      have ho4 := Lib.hid (ho.out.below hal)
      have hel4 := Lib.hid (hel.below hal)
      have hb4 := Lib.hid (bgo hb.out hal)
      replace hcl := Lib.hid hcl
      clear hal hel hc hl'
      go_wp2_with (at_builtin; refine wpList_appL (by rfl) _ _ 22 Tryz.underlying22 rfl w.heap.size _ acc rfl ho4.out _ _ _ da rfl hbox.out hel4.out (by have := hkl.out; omega) hb4.out.size ?_)
      intro v' w' hW2 hb5
      have hW2 := Lib.hid hW2
      have hb5 := Lib.hid (hb4.out.trans hb5)
      go_wp2_with fail
      go_roundw
      case rel => exact ⟨k + 1, by omega, by go_num, by rw [hst.out]; exact hW2.out, hb5⟩
      case measure => simp [intOf]; omega
    · have i0 : ¬ 32 * (k : Int) + 32 ≤ (l.length : Int) := by omega
      have hall : Hid ((cutL 32 N l).take k = cutL 32 N l) := List.take_of_length_le (by rw [cutL_len]; omega)
      rw [hall.out] at ho
      clear hl'
      go_wp2_with fail
      go_returns
      exact ⟨_, rfl, ho.out, hb.out⟩
theorem SeesB.over {w w' : World} {B g : Nat} {T : TypeId} {u : Value} {l : Bs} {xs : List Value} (h : SeesB w B u l) (hB : B ≤ w.heap.size) (hbx : Box w g T xs) (hno : NoByte xs) (hg : w.grownBy w' (some g)) : SeesB w' B u l :=
  h.stay fun hl k hk p hp => World.cell?_of_block (hg.block p.block (by rw [hp]; exact Nat.lt_of_lt_of_le (h.blk hl k hk) hB) (fun e => h.notin hbx hno hl (by rw [hk, ← hp, e])))
theorem below_over {w w' : World} {B g : Nat} (hg : w.grownBy w' (some g)) (hB : B ≤ g) (hs : B ≤ w.heap.size) : Below B w w' :=
  ⟨hg.os, hg.tape, hg.output, hg.size, fun k hk => hg.block k (by omega) (fun e => by injection e with e; omega)⟩
end Go.Proofs.YtkefbjpdpcmpnaaGreat

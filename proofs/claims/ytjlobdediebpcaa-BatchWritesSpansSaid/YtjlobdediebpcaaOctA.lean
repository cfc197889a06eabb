/- Contracts of octets' and sectimeref01's Put, Get, Same: the number in bytes, and back. Conditions: those of each theorem. -/
import Derived.Test.YtjlobdediebpcaaOctL
import Derived.WalkKit
import Derived.WalkLawsBesides
import Derived.Handy
import Derived.Outline
import Derived.Laws.MathBits
import Derived.BigQuiet
import Derived.Shelf.Bytes.SlSmallAll
import Derived.Deep.OwnRows
import Derived.Deep.RegionHeld3
import Derived.Deep.DrawnRows
namespace Go.Proofs.Ytjlobdediebpcaa
open Go.RowKit
set_option linter.unusedVariables false
attribute [local go_sem ↓] Go.wp_at_zero Go.wp_at_succ
theorem byte_info : (Try.prog.info? 5).map (fun i => (i.zero, i.size, i.bytes)) = some (some (.int .u8 0), 1, 1) := by kernel_rfl
theorem make_bytes (n : Nat) (hn : n ≤ 140737488355328) (w : World) : (Instr.makeSlice 24 (.int .i64 (n : Int)) (.int .i64 (n : Int))).run Try.prog w = .ok (.slice (some ⟨w.heap.size, 0, none⟩) n n) (w.alloc (.cells (vb (List.replicate n 0)).toArray 5)) := by
  obtain ⟨i, hi, hz, hs, hb⟩ := info_parts byte_info
  have h := run_make (P := Try.prog) w 24 5 i (.int .u8 0) Try.underlying24 hi hz .i64 .i64 n n (by omega) (by omega) (by rw [hb]; omega) (by omega)
  rw [h, hs]
  simp only [Int.toNat_natCast, Nat.mul_one]
  rw [← vb_rep, ← toList_madeCells_one]
  rfl
theorem own_made (w : World) (l : Bs) (hl : l.length ≤ maxLen) (base : Nat) (hb : base ≤ w.heap.size) : OwnB (w.alloc (.cells (vb l).toArray 5)) base (.slice (some ⟨w.heap.size, 0, none⟩) l.length l.length) l := by
  have h := World.ownsRow_lit (base := base) (e := 5) (size := 1) w (vb l).toArray l.length hb hl (by simp [vb_len])
  exact h
set_option maxRecDepth 100000 in
theorem put_any (v n : Nat) (hn : n ≤ 64) (hv : v < 18446744073709551616) (w : World) :
    Calls Try.prog 49 #[.int .u64 (v : Int), .int .i64 (n : Int)] w (Gives (putB n v) w) := by
  have hmk := make_bytes n (by omega)
  have n0 : ¬ ((n : Int) < 0) := by omega
  have n1 : ¬ ((64 : Int) < (n : Int)) := by omega
  go_enter Try.func49, Try.ntmps49
  go_wp2_with fail
  refine wp_fresh (fun W => OwnB W w.heap.size (.slice (some ⟨w.heap.size, 0, none⟩) n n) (tailB n 0 v) ∧ Below w.heap.size w W) ⟨?_, (Below.refl _ _).alloc (Nat.le_refl _) _⟩ ?_
  · have := own_made w (List.replicate n 0) (by rw [List.length_replicate]; unfold maxLen; omega) w.heap.size (Nat.le_refl _)
    rw [List.length_replicate] at this
    simpa [tailB, putB] using this
  rintro W0 ⟨hW, hbw⟩
  clear hmk
  go_loopw [0, 6] (fun x i wr => ∃ k : Nat, k ≤ n ∧ x = .int .u64 ((v / 256 ^ k : Nat) : Int) ∧ i = .int .i64 ((n : Int) - 1 - k) ∧ OwnB wr w.heap.size (.slice (some ⟨w.heap.size, 0, none⟩) n n) (tailB n k v) ∧ Below w.heap.size w wr) (fun _ i _ => (intOf i + 1).toNat)
  case atStart => exact ⟨0, by omega, by simp, by go_num, hW, hbw⟩
  case round =>
    clear hW hbw
    obtain ⟨k, hk, rfl, rfl, hW, hbw⟩ := hrel
    have hlen := tailB_len n k v hk
    have hstep := tailB_step n k v
    have hend := tailB_end n k v hk
    have hnx : v / 256 ^ (k + 1) = v / 256 ^ k / 256 := by rw [Nat.pow_succ, Nat.div_div_eq_div_mul]
    have hu : v / 256 ^ k < 18446744073709551616 := Nat.lt_of_le_of_lt (Nat.div_le_self _ _) hv
    have HX := Lib.hid hnx
    have HS := Lib.hid hstep
    have HE := Lib.hid hend
    clear hnx hstep hend
    generalize v / 256 ^ k = u at *
    generalize hl : tailB n k v = l at *
    by_cases hk2 : k < n
    · by_cases h0 : u = 0
      · subst h0
        have i0 : (0 : Int) ≤ (n : Int) - 1 - k := by omega
        have he := Lib.hid (HE.out (.inr rfl))
        clear HE
        go_wp2_with fail
        go_ret
        refine ⟨.slice (some ⟨w.heap.size, 0, none⟩) n n, rfl, ?_, hbw⟩
        rw [← he.out]; exact hW
      · obtain ⟨j, hj⟩ : ∃ j : Nat, (n : Int) - 1 - k = (j : Int) := ⟨n - 1 - k, by omega⟩
        have hj2 : n - 1 - k = j := by omega
        rw [hj]
        have i0 : (0 : Int) ≤ (j : Int) := by omega
        have i1 : (j : Int) < (n : Int) := by omega
        have u0 : (0 : Int) < (u : Int) := by omega
        unfold OwnB at hW
        rw [hlen] at hW
        have hc : ∃ z : UInt8, wr.cell? ⟨w.heap.size, j, none⟩ = some (.int .u8 (z.toNat : Int)) := by
          have := hW.cellAt j (by omega)
          rw [vb_get, List.getElem?_eq_getElem (by omega), Option.map_some] at this
          exact ⟨_, this⟩
        obtain ⟨z, hc⟩ := hc
        have HL := Lib.hid hlen
        have HW := Lib.hid hW
        have HJ := Lib.hid hj2
        clear hj hl hlen hW hj2 hu n0 n1 hv h0
        have hf := HW.out.frozenAt j
        go_wp2_with fail
        go_roundw
        case rel =>
          refine ⟨k + 1, by omega, congrArg (Value.int .u64) (by rw [HX.out]; omega), congrArg (Value.int .i64) (by have := HJ.out; omega), ?_, hbw.setCell (Nat.le_refl _) _⟩
          rw [byV_nat, ← HS.out hk2, HJ.out]
          have h := (HW.out.stored j (byV (UInt8.ofNat u))).1
          rw [vb_set] at h
          unfold OwnB
          rw [List.length_set, HL.out]
          exact h
        case measure => simp [intOf]
    · obtain rfl : k = n := by omega
      have i0 : (k : Int) - 1 - k < 0 := by omega
      have he := Lib.hid (HE.out (.inl rfl))
      clear HE
      go_wp2_with fail
      go_ret
      refine ⟨.slice (some ⟨w.heap.size, 0, none⟩) k k, rfl, ?_, hbw⟩
      rw [← he.out]; exact hW

set_option maxRecDepth 100000 in
theorem rput_any (v n : Nat) (hn : n ≤ 64) (hv : v < 18446744073709551616) (w : World) :
    Calls Try.prog 65 #[.int .u64 (v : Int), .int .i64 (n : Int)] w (Gives (putB n v) w) := by
  have hmk := make_bytes n (by omega)
  have n0 : ¬ ((n : Int) < 0) := by omega
  have n1 : ¬ ((64 : Int) < (n : Int)) := by omega
  go_enter Try.func65, Try.ntmps65
  go_wp2_with fail
  refine wp_fresh (fun W => OwnB W w.heap.size (.slice (some ⟨w.heap.size, 0, none⟩) n n) (tailB n 0 v) ∧ Below w.heap.size w W) ⟨?_, (Below.refl _ _).alloc (Nat.le_refl _) _⟩ ?_
  · have := own_made w (List.replicate n 0) (by rw [List.length_replicate]; unfold maxLen; omega) w.heap.size (Nat.le_refl _)
    rw [List.length_replicate] at this
    simpa [tailB, putB] using this
  rintro W0 ⟨hW, hbw⟩
  clear hmk
  go_loopw [0, 6] (fun x i wr => ∃ k : Nat, k ≤ n ∧ x = .int .u64 ((v / 256 ^ k : Nat) : Int) ∧ i = .int .i64 ((n : Int) - 1 - k) ∧ OwnB wr w.heap.size (.slice (some ⟨w.heap.size, 0, none⟩) n n) (tailB n k v) ∧ Below w.heap.size w wr) (fun _ i _ => (intOf i + 1).toNat)
  case atStart => exact ⟨0, by omega, by simp, by go_num, hW, hbw⟩
  case round =>
    clear hW hbw
    obtain ⟨k, hk, rfl, rfl, hW, hbw⟩ := hrel
    have hlen := tailB_len n k v hk
    have hstep := tailB_step n k v
    have hend := tailB_end n k v hk
    have hnx : v / 256 ^ (k + 1) = v / 256 ^ k / 256 := by rw [Nat.pow_succ, Nat.div_div_eq_div_mul]
    have hu : v / 256 ^ k < 18446744073709551616 := Nat.lt_of_le_of_lt (Nat.div_le_self _ _) hv
    have HX := Lib.hid hnx
    have HS := Lib.hid hstep
    have HE := Lib.hid hend
    clear hnx hstep hend
    generalize v / 256 ^ k = u at *
    generalize hl : tailB n k v = l at *
    by_cases hk2 : k < n
    · obtain ⟨j, hj⟩ : ∃ j : Nat, (n : Int) - 1 - k = (j : Int) := ⟨n - 1 - k, by omega⟩
      have hj2 : n - 1 - k = j := by omega
      rw [hj]
      have i0 : (0 : Int) ≤ (j : Int) := by omega
      have i1 : (j : Int) < (n : Int) := by omega
      unfold OwnB at hW
      rw [hlen] at hW
      have hc : ∃ z : UInt8, wr.cell? ⟨w.heap.size, j, none⟩ = some (.int .u8 (z.toNat : Int)) := by
        have := hW.cellAt j (by omega)
        rw [vb_get, List.getElem?_eq_getElem (by omega), Option.map_some] at this
        exact ⟨_, this⟩
      obtain ⟨z, hc⟩ := hc
      have HL := Lib.hid hlen
      have HW := Lib.hid hW
      have HJ := Lib.hid hj2
      clear hj hl hlen hW hj2 hu n0 n1 hv
      have hf := HW.out.frozenAt j
      go_wp2_with fail
      go_roundw
      case rel =>
        refine ⟨k + 1, by omega, congrArg (Value.int .u64) (by rw [HX.out]; omega), congrArg (Value.int .i64) (by have := HJ.out; omega), ?_, hbw.setCell (Nat.le_refl _) _⟩
        rw [byV_nat, ← HS.out hk2, HJ.out]
        have h := (HW.out.stored j (byV (UInt8.ofNat u))).1
        rw [vb_set] at h
        unfold OwnB
        rw [List.length_set, HL.out]
        exact h
      case measure => simp [intOf]
    · obtain rfl : k = n := by omega
      have i0 : (k : Int) - 1 - k < 0 := by omega
      have he := Lib.hid (HE.out (.inl rfl))
      clear HE
      go_wp2_with fail
      go_ret
      refine ⟨.slice (some ⟨w.heap.size, 0, none⟩) k k, rfl, ?_, hbw⟩
      rw [← he.out]; exact hW


set_option maxRecDepth 100000 in
theorem rsame_any (B B' : Nat) (u v : Value) (a b : Bs) (w : World) (hu : SeesB w B u a) (hv : SeesB w B' v b) :
    Calls Try.prog 15 #[u, v] w fun e w' => e = .returned (.bool (a == b)) ∧ w' = w := by
  obtain ⟨A, c, rfl, _, _⟩ := hu.mk_
  obtain ⟨A', c', rfl, _, _⟩ := hv.mk_
  have h1 := hu.string
  have h2 := hv.string
  clear hu hv
  go_enter Try.func15, Try.ntmps15
  go_wp2
  go_ret
  exact ⟨ret_bool (by rw [strB_toList, strB_toList]), rfl⟩
theorem rsame_q (B B' : Nat) (u v : Value) (a b : Bs) (w : World) (hu : SeesB w B u a) (hv : SeesB w B' v b) :
    Calls Try.prog 15 #[u, v] w fun e w' => e = .returned (.bool (a == b)) ∧ w = w' := (rsame_any B B' u v a b w hu hv).mono fun _ _ h => ⟨h.1, h.2.symm⟩
set_option maxRecDepth 100000 in
theorem rget_any (B : Nat) (u : Value) (l : Bs) (w : World) (hu : SeesB w B u l) :
    Calls Try.prog 53 #[u] w fun e w' => e = .returned (.int .u64 (getB l : Int)) ∧ w' = w := by
  obtain ⟨A, c, rfl, hc1, hc2⟩ := hu.mk_
  have hm : l.length ≤ 9223372036854775807 := by unfold maxLen at hc2; omega
  go_enter Try.func53, Try.ntmps53
  go_wp2_with fail
  go_loopw [3, 4] (fun x i wr => ∃ k : Nat, k ≤ l.length ∧ x = .int .u64 (getB (l.take k) : Int) ∧ i = .int .i64 k ∧ wr = w) (fun _ i _ => l.length - (intOf i).toNat)
  case atStart => exact ⟨0, by omega, rfl, rfl, rfl⟩
  case round =>
    obtain ⟨k, hk, rfl, rfl, rfl⟩ := hrel
    have hnext : k < l.length → getB (l.take (k + 1)) = (getB (l.take k) * 256 + (l.getD k 0).toNat) % 18446744073709551616 := fun h => by
      rw [List.take_succ_eq_append_getElem h, getB_snoc, List.getD_eq_getElem?_getD, List.getElem?_eq_getElem h]; rfl
    have hall : ¬ k < l.length → getB (l.take k) = getB l := fun h => by rw [List.take_of_length_le (by omega)]
    have HN := Lib.hid hnext
    have HA := Lib.hid hall
    clear hnext hall
    generalize getB (l.take k) = v at *
    by_cases hlt : k < l.length
    · obtain ⟨b, o, rfl, hb, hcell⟩ := hu.at_ (by omega)
      have x0 := hcell k hlt
      have hst := Lib.hid (get_step' v (l.getD k 0))
      have hn := HN.out hlt
      have HN2 := Lib.hid hn
      clear hn HN
      unfold byV at x0
      generalize l.getD k 0 = x at x0 hst HN2
      clear hcell hu
      have i0 : (0 : Int) ≤ (k : Int) := by omega
      have i1 : (k : Int) < (l.length : Int) := by omega
      go_wp2_with fail
      go_roundw
      case rel => exact ⟨k + 1, by omega, by rw [hst.out, HN2.out], by go_num, trivial⟩
      case measure => simp [intOf]; omega
    · have he := Lib.hid (HA.out hlt)
      go_wp2_with fail
      go_ret
      exact ⟨ret_int (by rw [he.out]), rfl⟩
theorem byte_size (w : World) : (sizeOf 5).run Try.prog w = .ok 1 w := by kernel_rfl
set_option maxRecDepth 100000 in
theorem get_any (B : Nat) (u : Value) (l : Bs) (w : World) (hu : SeesB w B u l) :
    Calls Try.prog 52 #[u] w fun e w' => e = .returned (.int .u64 (getB l : Int)) ∧ w' = w := by
  obtain ⟨A, c, rfl, hc1, hc2⟩ := hu.mk_
  have hm : l.length ≤ 9223372036854775807 := by unfold maxLen at hc2; omega
  have hcut := SeesB.cut (a := l.length - 8) (b := l.length) hu (by omega) (Nat.le_refl _)
  have hrun := run_cut_from (P := Try.prog) 24 Try.underlying24 1 byte_size A l.length c .i64 (max 0 ((l.length : Int) - 8)) (by omega) (by omega)
  rw [show (max 0 ((l.length : Int) - 8)).toNat = l.length - 8 from by omega] at hrun
  rw [List.take_of_length_le (by rw [List.length_drop]; omega)] at hcut
  have hd : (l.drop (l.length - 8)).length = l.length - (l.length - 8) := List.length_drop
  have hlast := Lib.hid (getB_last l)
  have hm2 : (l.drop (l.length - 8)).length ≤ 9223372036854775807 := by omega
  generalize cutA A c (l.length - 8) 1 = A2 at *
  generalize c - (l.length - 8) = c2 at *
  generalize l.drop (l.length - 8) = l2 at *
  rw [← hd] at hrun hcut
  clear hd hu
  go_enter Try.func52, Try.ntmps52
  go_wp2_with fail
  go_loopw [3, 5, 13] (fun x _ i wr => ∃ k : Nat, k ≤ l2.length ∧ x = .int .u64 (getB (l2.take k) : Int) ∧ i = .int .i64 k ∧ wr = w) (fun _ _ i _ => l2.length - (intOf i).toNat)
  case atStart => exact ⟨0, by omega, rfl, rfl, rfl⟩
  case round =>
    obtain ⟨k, hk, rfl, rfl, rfl⟩ := hrel
    have hnext : k < l2.length → getB (l2.take (k + 1)) = (getB (l2.take k) * 256 + (l2.getD k 0).toNat) % 18446744073709551616 := fun h => by
      rw [List.take_succ_eq_append_getElem h, getB_snoc, List.getD_eq_getElem?_getD, List.getElem?_eq_getElem h]; rfl
    have hall : ¬ k < l2.length → getB (l2.take k) = getB l2 := fun h => by rw [List.take_of_length_le (by omega)]
    have HN := Lib.hid hnext
    have HA := Lib.hid hall
    clear hnext hall
    generalize getB (l2.take k) = v at *
    by_cases hlt : k < l2.length
    · obtain ⟨b, o, rfl, hb, hcell⟩ := hcut.at_ (by omega)
      have x0 := hcell k hlt
      have hst := Lib.hid (get_step' v (l2.getD k 0))
      have hn := HN.out hlt
      have HN2 := Lib.hid hn
      clear hn HN hrun
      unfold byV at x0
      generalize l2.getD k 0 = x at x0 hst HN2
      clear hcell hcut
      have i0 : (0 : Int) ≤ (k : Int) := by omega
      have i1 : (k : Int) < (l2.length : Int) := by omega
      go_wp2_with fail
      go_roundw
      case rel => exact ⟨k + 1, by omega, by rw [hst.out, HN2.out], by go_num, trivial⟩
      case measure => simp [intOf]; omega
    · have he := Lib.hid (HA.out hlt)
      go_wp2_with fail
      go_ret
      exact ⟨ret_int (by rw [he.out, hlast.out]), rfl⟩
end Go.Proofs.Ytjlobdediebpcaa

/- Contract of sectimecase.Random: bytes that follow from a number. Conditions: at most 32 bytes. -/
import Derived.Test.YtkefbjpdpcmpnaaGreatKit
import Derived.Lib.SmallJoins
namespace Go.Proofs.YtkefbjpdpcmpnaaGreat
open Go Go.RowKit
set_option linter.unusedVariables false
attribute [local go_sem ↓] Go.wp_at_zero Go.wp_at_succ
def tCase : Bs := [99, 97, 115, 101]
def randK (v : Int) (n : Nat) : Bs := (sha (tCase ++ putB 8 (u64 v))).take n
theorem randK_len (v : Int) (n : Nat) (h : n ≤ 32) : (randK v n).length = n := by rw [randK, List.length_take, sha_len]; omega
theorem lit4_run (W : World) (x0 x1 x2 x3 : Value) : (convert 23 23 (.slice (some ⟨W.heap.size, 0, none⟩) 4 4)).run Tryz.prog (W.alloc (.cells #[x0, x1, x2, x3] 5)) = .ok (.slice (some ⟨W.heap.size, 0, none⟩) 4 4) (W.alloc (.cells #[x0, x1, x2, x3] 5 (4, 5))) :=
  Lib.run_convert_bytes_const W 23 5 #[x0, x1, x2, x3] 4 4 Tryz.underlying23 Tryz.underlying5
theorem litB_sees (W : World) (l : Bs) (m : Nat × Nat) (hl : l.length ≤ 1000) : SeesB (W.alloc (.cells (vb l).toArray 5 m)) (W.heap.size + 1) (.slice (some ⟨W.heap.size, 0, none⟩) l.length l.length) l := by
  refine ⟨by rw [vb_len, Nat.mul_one], _, _, rfl, Nat.le_refl _, by unfold maxLen; omega, fun _ => ⟨W.heap.size, 0, rfl, by omega, fun k u hk => ?_⟩⟩
  rw [← hk, Nat.zero_add, World.cell?_alloc_mark]
  simp
set_option maxRecDepth 100000 in
set_option maxHeartbeats 1000000 in
theorem krandom_any (v : Int) (n : Nat) (hn : n ≤ 32) (w : World) : Calls Tryz.prog 18 #[.int .i64 v, .int .i64 (n : Int)] w (Shows (randK v n) w) := by
  have m0 : IntKind.u64.wrap v = ((u64 v : Nat) : Int) := by rw [IntKind.wrap_u64]; unfold u64; omega
  have hlt : u64 v < 18446744073709551616 := by unfold u64; omega
  have hr : Hid (randK v n = (sha (tCase ++ putB 8 (u64 v))).take n) := rfl
  generalize randK v n = R at *
  generalize u64 v = s at *
  have hlr := fun G (hG : G = w.heap.size) x0 x1 x2 x3 => (show (convert 23 23 (.slice (some ⟨G, 0, none⟩) 4 4)).run Tryz.prog (w.alloc (.cells #[x0, x1, x2, x3] 5)) = .ok (.slice (some ⟨G, 0, none⟩) 4 4) (w.alloc (.cells #[x0, x1, x2, x3] 5 (4, 5))) by subst hG; exact lit4_run w x0 x1 x2 x3)
  have hl0 := hlr w.heap.size rfl (.int .u8 99) (.int .u8 97) (.int .u8 115) (.int .u8 101)
  have hls : SeesB (w.alloc (.cells #[.int .u8 99, .int .u8 97, .int .u8 115, .int .u8 101] 5 (4, 5))) (w.heap.size + 1) (.slice (some ⟨w.heap.size, 0, none⟩) 4 4) tCase := litB_sees w tCase (4, 5) (by simp [tCase])
  have hbl := balloc w (.cells #[.int .u8 99, .int .u8 97, .int .u8 115, .int .u8 101] 5 (4, 5))
  have hsz : (w.alloc (.cells #[.int .u8 99, .int .u8 97, .int .u8 115, .int .u8 101] 5 (4, 5))).heap.size = w.heap.size + 1 := World.size_alloc _ _
  clear hlr
  go_enter Tryz.func18, Tryz.ntmps18
  go_wp2_with fail
  generalize w.alloc (.cells #[.int .u8 99, .int .u8 97, .int .u8 115, .int .u8 101] 5 (4, 5)) = w0 at *
  rw [← hsz] at hls
  generalize hG : w.heap.size = G at hls hbl ⊢
  replace hG := Lib.hid hG
  replace hbl : Hid (Below G w w0) := hbl
  clear hl0
  refine (rput_any s 8 (by omega) hlt w0).mono ?_
  rintro e w1 ⟨v1, rfl, h1, hb1⟩
  obtain ⟨A1, c1, rfl, -, -⟩ := h1.sees.mk_
  replace hls := (hls.below hb1).more hb1.size
  dsimp only
  go_wp2_with fail
  have hl3 := seesL_lit w1 23 (show SeesAll w1 w1.heap.size [.slice (some ⟨G, 0, none⟩) 4 4, .slice A1 (putB 8 s).length c1] [tCase, putB 8 s] from ⟨hls, h1.sees, trivial⟩) (by simp [maxLen])
  have hp8 := putB_len 8 s
  have hfl : [tCase, putB 8 s].flatten = tCase ++ putB 8 s := by simp
  have htc : tCase.length = 4 := rfl
  refine (rjoin_any _ _ _ _ hl3 (Nat.le_refl _) (by rw [hfl]; simp [hp8, htc])).mono ?_
  rintro e w3 ⟨v3, rfl, h3, hb3⟩
  rw [hfl] at h3
  have hw3 := bgo (bgo hb1 (balloc w1 _)) hb3
  have hs3 := hw3.size
  dsimp only
  go_wp2_with fail
  refine (rsum_any _ _ _ _ h3.sees (Nat.le_refl _) (by simp [hp8, htc])).mono ?_
  rintro e w4 ⟨v4, rfl, h4, hb4⟩
  have hf := OwnB.from h4
  have h5 := h4.sees
  have hsl := sha_len (tCase ++ putB 8 s)
  replace hw3 := bgo hw3 hb4
  obtain ⟨A4, c4, rfl, hc1, hc2⟩ := h5.mk_
  generalize sha (tCase ++ putB 8 s) = H at *
  have i0 : (n : Int) ≤ (c4 : Int) := by omega
  have i1 : (0 : Int) ≤ (n : Int) := by omega
  have hcut := h5.take (m := n) (c' := c4) (by omega) (by omega) hc2
  have hfr : From w3.heap.size (.slice A4 n c4) := hf.cut
  replace hsl := Lib.hid hsl
  dsimp only
  go_wp2_with fail
  go_returns
  refine ⟨_, rfl, by rw [hr.out]; exact hcut, ?_, hfr.mono ?_⟩
  · have h9 := hbl.out
    rw [← hG.out] at h9
    exact bgo h9 hw3
  · have h9 := hbl.out
    rw [← hG.out] at h9
    exact Nat.le_trans h9.size hs3
end Go.Proofs.YtkefbjpdpcmpnaaGreat

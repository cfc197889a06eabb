/- The walk of the statement SignerPublic: true. No conditions. The walk of the statement SignerVerifies: true. No conditions. Contract of sectimeref09.Same at two equal signers: true. Conditions: that the seeds are seen. Contract of signer.Sign and sectimeref09.Sign at any signer: what signAll says. Conditions: a message of at most 65535 bytes, the seed and the message seen. Contract of sectimeworld.Within: v modulo m, from 0 on. Conditions: m from 1 to 2^32. What the walk is told of a signer that came in. Conditions: that the argument reads as data. -/
import Derived.Test.YtkefbjpdpcmpnaaGreatC10
import Derived.Test.YtkefbjpdpcmpnaaGreatC3
namespace Go.Proofs.YtkefbjpdpcmpnaaGreat
open Go.RowKit
set_option linter.unusedVariables false
attribute [local go_sem ↓] Go.wp_at_zero Go.wp_at_succ
set_option maxRecDepth 100000 in
theorem rsigsame_any (u u2 : Value) (l : Bs) (h n : Int) (w : World) (hu : SeesB w w.heap.size u l) (hu2 : SeesB w w.heap.size u2 l) :
    Calls Tryz.prog 34 #[.agg #[u, .int .i64 h, .int .i64 n], .agg #[u2, .int .i64 h, .int .i64 n]] w (BoolPost true w) := by
  obtain ⟨A, c, rfl, -, -⟩ := hu.mk_
  obtain ⟨A2, c2, rfl, -, -⟩ := hu2.mk_
  have hb := bgo (balloc w (.cells #[.slice A l.length c, .int .i64 h, .int .i64 n] 39)) (balloc _ (.cells #[.slice A2 l.length c2, .int .i64 h, .int .i64 n] 39))
  have hs := rsame_any _ _ _ _ l l _ (hu.below hb) (hu2.below hb)
  rw [beq_self_eq_true] at hs
  replace hs := Lib.hid hs
  replace hb := Lib.hid hb
  clear hu hu2
  go_enter Tryz.func34, Tryz.ntmps34
  go_wp2_with fail
  refine hs.out.mono ?_
  rintro e w4 ⟨rfl, rfl⟩
  dsimp only
  go_wp2_with fail
  go_ret
  exact ⟨ret_bool (by simp), hb.out⟩
end Go.Proofs.YtkefbjpdpcmpnaaGreat
namespace Go.Proofs.YtkefbjpdpcmpnaaGreat
open Go.RowKit
set_option linter.unusedVariables false
/-- seed, height, next, signature, error -/
def signAll (seed : Bs) (h n : Int) (m : Bs) : Bs × Int × Int × Bs × Int :=
  if validI seed h n = true then
    if n = 2 ^ h.toNat then ([], 0, 0, [], 7)
    else (seed, h, n + 1, sigG seed h.toNat n.toNat m, 0)
  else ([], 0, 0, [], 3)
def SignPost (r : Bs × Int × Int × Bs × Int) (w : World) (e : Ending) (w' : World) : Prop :=
  ∃ v v2, e = .returned (.tuple #[.agg #[v, .int .i64 r.2.1, .int .i64 r.2.2.1], v2, .int .i64 r.2.2.2.2]) ∧ SeesB w' w'.heap.size v r.1 ∧ SeesB w' w'.heap.size v2 r.2.2.2.1 ∧ Below w.heap.size w w'
theorem signBad_post {c : Int} {w w' : World} {e : Ending} (h : SignBad c w e w') : SignPost ([], 0, 0, [], c) w e w' :=
  ⟨_, _, h.1, SeesB.nil _ _, SeesB.nil _ _, h.2⟩
theorem signOk_post {seed m : Bs} {h i : Nat} {w w' : World} {e : Ending} (hs : SignOk seed h i m w e w') : SignPost (seed, (h : Int), (i : Int) + 1, sigG seed h i m, 0) w e w' := by
  obtain ⟨v, v2, h1, h2, h3, h4⟩ := hs
  exact ⟨v, v2, by rw [h1]; simp, h2, h3, h4⟩
theorem rsign_all (B : Nat) (u u2 : Value) (seed m : Bs) (h n : Int) (w : World) (hu : SeesB w B u seed) (hu2 : SeesB w B u2 m) (hB : B ≤ w.heap.size) (hm : m.length ≤ 65535) :
    Calls Tryz.prog 110 #[.agg #[u, .int .i64 h, .int .i64 n], u2] w (SignPost (signAll seed h n m) w) := by
  by_cases hv : validI seed h n = true
  · have hh : seed.length = 32 ∧ 0 ≤ h ∧ h ≤ 6 ∧ 0 ≤ n ∧ n ≤ 2 ^ h.toNat := by simp [validI] at hv; omega
    obtain ⟨hl, h0, h1, h2, h3⟩ := hh
    obtain ⟨k, rfl⟩ := Int.eq_ofNat_of_zero_le h0
    obtain ⟨i, rfl⟩ := Int.eq_ofNat_of_zero_le h2
    rw [Int.toNat_natCast] at h3
    have hpc : ((2 ^ k : Nat) : Int) = (2 : Int) ^ k := by simp
    by_cases hn : (i : Int) = 2 ^ k
    · have : signAll seed k i m = ([], 0, 0, [], 7) := by
        rw [signAll, if_pos hv, if_pos (by rw [Int.toNat_natCast]; exact hn)]
      rw [this, hn, ← hpc]
      exact (rsign_bad7 B u u2 seed k w hu hB hl (by omega)).mono fun _ _ h => signBad_post h
    · have : signAll seed k i m = (seed, (k : Int), (i : Int) + 1, sigG seed k i m, 0) := by simp [signAll, hv, hn]
      rw [this]
      exact (rsign_ok B u u2 seed m k i w hu hu2 hB hl (by omega) (by omega) hm).mono fun _ _ h => signOk_post h
  · have : signAll seed h n m = ([], 0, 0, [], 3) := by simp [signAll, hv]
    rw [this]
    exact (rsign_bad3 B u u2 seed h n w hu hB (by simpa using hv)).mono fun _ _ h => signBad_post h
end Go.Proofs.YtkefbjpdpcmpnaaGreat
namespace Go.Proofs.YtkefbjpdpcmpnaaGreat
open Go.ChangeShapes Go.WideShapes Go.ChangeAt Go.RowKit
section
variable {H : Type} {enc : TypeId × Value → H} {w : World} {base : Nat} {r : Reach} {v : Value} {d : DataW H} {ps : List MemPlace}
set_option maxRecDepth 100000 in
theorem open_bytesF {n : Nat} {y : DataW H × List MemPlace} (hf : DataW.trod enc Tryz.prog w 0 (fun _ => true) true n 23 [v] = some y) : ∃ l : Bs, SeesB w w.heap.size v l := by
  obtain ⟨y1, y2⟩ := y
  rcases open_ints Tryz.underlying23 Tryz.underlying5 cells_uint8 hf with ⟨hcs, hx⟩ | ⟨a, len', cap', zs, hcs, _, hl, hm, hz, hx, hcell, hwz⟩
  · simp at hcs
    subst hcs
    exact ⟨[], SeesB.nil _ _⟩
  · simp at hcs
    subst hcs
    simp only [if_true] at hz
    have hlen : ((zs.take len').map fun n => UInt8.ofNat n.toNat).length = len' := by simp; omega
    refine ⟨(zs.take len').map fun n => UInt8.ofNat n.toNat, ?_⟩
    unfold SeesB
    rw [hlen]
    refine ⟨by rw [vb_len, hlen, Nat.mul_one], some a, cap', rfl, hl, hm, fun h0 => ?_⟩
    obtain ⟨b, off, spot⟩ := a
    have hc := hcell 0 (by omega)
    have hspot : spot = none := by simpa [Addr.add] using World.cell?_spot hc
    subst hspot
    refine ⟨b, off, rfl, ?_, fun j u hj => ?_⟩
    · rcases Nat.lt_or_ge b w.heap.size with h1 | h1
      · exact h1
      · exfalso
        have h0 : w.heap[b]? = none := Array.getElem?_eq_none h1
        unfold World.cell? at hc
        rw [add_zero'] at hc
        simp only [h0] at hc
        simp at hc
    · rw [vb_get] at hj
      obtain ⟨x, hx, rfl⟩ := Option.map_eq_some_iff.1 hj
      rw [List.getElem?_map] at hx
      obtain ⟨n, hn, rfl⟩ := Option.map_eq_some_iff.1 hx
      have hj2 : j < len' := by
        have := (List.getElem?_eq_some_iff.1 hn).1
        rw [List.length_take] at this; omega
      rw [List.getElem?_take, if_pos hj2] at hn
      have hc := hcell j (by omega)
      have hw := hwz n (List.mem_of_getElem? hn)
      rw [add_zero', List.getD_eq_getElem?_getD, hn, Option.getD_some] at hc
      have hb := bounds_u8 hw
      rw [hc, byte_of n hb.1 (by omega)]
theorem cells_signer : Tryz.prog.cellsOf 39 = 3 := by kernel_rfl
set_option maxRecDepth 100000 in
theorem open_signer (hval : Value.okWide Tryz.prog w r base 39 v) (h : DataW.Trod enc Tryz.prog w 0 (fun _ => true) true 39 v d ps) :
    ∃ (u : Value) (l : Bs) (a b : Int), v = .agg #[u, .int .i64 a, .int .i64 b] ∧ SeesB w w.heap.size u l ∧ (Lit.int .i64 a).wf = true ∧ (Lit.int .i64 b).wf = true := by
  obtain ⟨c0, c1, c2, y0, y1, y2, m, rfl, rfl, rfl, hy0, hy1, hy2⟩ := Go.Joins.open_agg3 Tryz.underlying39 (by kernel_rfl) cells_signer hval h
  obtain ⟨l, hl⟩ := open_bytesF hy0
  obtain ⟨a, e0, rfl, wa⟩ := DataW.trod_int Tryz.underlying3 hy1
  obtain ⟨b, e1, rfl, wb⟩ := DataW.trod_int Tryz.underlying3 hy2
  simp at e0 e1
  subst e0 e1
  exact ⟨c0, l, a, b, rfl, hl, wa, wb⟩
end
end Go.Proofs.YtkefbjpdpcmpnaaGreat

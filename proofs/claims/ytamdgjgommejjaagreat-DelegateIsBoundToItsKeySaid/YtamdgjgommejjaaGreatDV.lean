/- Hashes of many inputs at once: words of many messages lie in lanes of one number; the block function, one-time keys and keys at all lanes, and that each lane holds what the plain functions say. No program in sight. -/
import Derived.Test.YtamdgjgommejjaaGreatDB
import Derived.KernelRfl
namespace Go.Proofs.YtamdgjgommejjaaGreat.V
open Go
set_option linter.unusedVariables false
/-- Numbers f 0, f 1, .. in lanes of 64 bits. -/
def pack (f : Nat → Nat) : Nat → Nat
  | 0 => 0
  | n + 1 => 18446744073709551616 * pack (fun i => f (i + 1)) n + f 0
theorem pack_bit (n : Nat) : ∀ (f : Nat → Nat) (j : Nat), (∀ i, f i < 2 ^ 64) → (pack f n).testBit j = (decide (j / 64 < n) && (f (j / 64)).testBit (j % 64)) := by
  induction n with
  | zero => intro f j _; simp [pack]
  | succ n ih =>
    intro f j hf
    rw [pack, show (18446744073709551616 : Nat) = 2 ^ 64 from rfl, Nat.testBit_two_pow_mul_add _ (hf 0)]
    by_cases h : j < 64
    · rw [if_pos h, Nat.div_eq_of_lt h, Nat.mod_eq_of_lt h]; simp
    · rw [if_neg h, ih _ _ (fun i => hf (i + 1)), show (j - 64) % 64 = j % 64 by omega, show (j - 64) / 64 + 1 = j / 64 by omega]
      congr 1
      exact decide_eq_decide.2 (by omega)
theorem pack_congr (n : Nat) : ∀ (f g : Nat → Nat), (∀ i, i < n → f i = g i) → pack f n = pack g n := by
  induction n with
  | zero => intro f g _; rfl
  | succ n ih => intro f g h; rw [pack, pack, h 0 (by omega), ih _ _ fun i hi => h (i + 1) (by omega)]
theorem pack_add (n : Nat) : ∀ (f g : Nat → Nat), Nat.add (pack f n) (pack g n) = pack (fun i => f i + g i) n := by
  induction n with
  | zero => intro f g; rfl
  | succ n ih => intro f g; have := ih (fun i => f (i + 1)) (fun i => g (i + 1)); simp only [pack, Nat.add_eq] at this ⊢; omega
theorem pack_mul (n k : Nat) : ∀ (f : Nat → Nat), Nat.mul (pack f n) k = pack (fun i => f i * k) n := by
  induction n with
  | zero => intro f; simp [pack]
  | succ n ih => intro f; have := ih (fun i => f (i + 1)); simp only [pack, Nat.mul_eq] at this ⊢; rw [← this, Nat.add_mul, Nat.mul_assoc]
theorem pack_kmul (n k : Nat) (f : Nat → Nat) : Nat.mul k (pack f n) = pack (fun i => k * f i) n := by
  rw [show Nat.mul k (pack f n) = Nat.mul (pack f n) k from Nat.mul_comm _ _, pack_mul]; exact pack_congr _ _ _ fun i _ => Nat.mul_comm _ _
theorem pack_snoc (n : Nat) : ∀ (f : Nat → Nat), pack f (n + 1) = pack f n + f n * 2 ^ (64 * n) := by
  induction n with
  | zero => intro f; simp [pack]
  | succ n ih =>
    intro f
    rw [pack, ih, pack, Nat.mul_add, show 64 * (n + 1) = 64 + 64 * n by omega, Nat.pow_add, show (18446744073709551616 : Nat) = 2 ^ 64 from rfl, ← Nat.mul_assoc, ← Nat.mul_assoc, Nat.mul_comm (f (n + 1)) (2 ^ 64)]
    omega
theorem pack_lt (n : Nat) : ∀ (f : Nat → Nat), (∀ i, f i < 2 ^ 64) → pack f n < 2 ^ (64 * n) := by
  induction n with
  | zero => intro f _; simp [pack]
  | succ n ih =>
    intro f hf
    have h1 := ih _ fun i => hf (i + 1)
    have h0 := hf 0
    rw [pack, show 64 * (n + 1) = 64 + 64 * n by omega, Nat.pow_add, show (18446744073709551616 : Nat) = 2 ^ 64 from rfl]
    have := Nat.mul_le_mul_left (2 ^ 64) (Nat.succ_le_of_lt h1)
    rw [Nat.succ_eq_add_one, Nat.mul_add] at this
    omega
theorem pack_ext {n m : Nat} {f : Nat → Nat} (hf : ∀ i, f i < 2 ^ 64) (h : ∀ j, m.testBit j = (decide (j / 64 < n) && (f (j / 64)).testBit (j % 64))) : m = pack f n :=
  Nat.eq_of_testBit_eq fun j => by rw [h, pack_bit n f j hf]
theorem pack_land (n : Nat) (f g : Nat → Nat) (hf : ∀ i, f i < 2 ^ 64) (hg : ∀ i, g i < 2 ^ 64) : Nat.land (pack f n) (pack g n) = pack (fun i => f i &&& g i) n :=
  pack_ext (fun i => Nat.and_lt_two_pow _ (hg i)) fun j => by
    show (pack f n &&& pack g n).testBit j = _
    rw [Nat.testBit_and, pack_bit n f j hf, pack_bit n g j hg, Nat.testBit_and]
    cases decide (j / 64 < n) <;> simp
theorem pack_xor (n : Nat) (f g : Nat → Nat) (hf : ∀ i, f i < 2 ^ 64) (hg : ∀ i, g i < 2 ^ 64) : Nat.xor (pack f n) (pack g n) = pack (fun i => f i ^^^ g i) n :=
  pack_ext (fun i => Nat.xor_lt_two_pow (hf i) (hg i)) fun j => by
    show (pack f n ^^^ pack g n).testBit j = _
    rw [Nat.testBit_xor, pack_bit n f j hf, pack_bit n g j hg, Nat.testBit_xor]
    cases decide (j / 64 < n) <;> simp
/-- The lanes of 32 bits. -/
def msk (n : Nat) : Nat := pack (fun _ => 4294967295) n
theorem b32 (i : Nat) : (4294967295 : Nat).testBit i = decide (i < 32) := by
  rw [show (4294967295 : Nat) = 2 ^ 32 - 1 from rfl, Nat.testBit_two_pow_sub_one]
theorem pack_shr (n k : Nat) (hk : k ≤ 32) (f : Nat → Nat) (hf : ∀ i, f i < 2 ^ 64) : Nat.land (Nat.shiftRight (pack f n) k) (msk n) = pack (fun i => (f i >>> k) % 4294967296) n :=
  pack_ext (fun i => by have := Nat.mod_lt (f i >>> k) (show 0 < 4294967296 by decide); omega) fun j => by
    show ((pack f n >>> k) &&& msk n).testBit j = _
    rw [Nat.testBit_and, Nat.testBit_shiftRight, msk, pack_bit n f _ hf, pack_bit n _ j (fun _ => by decide), b32, show (4294967296 : Nat) = 2 ^ 32 from rfl, Nat.testBit_mod_two_pow, Nat.testBit_shiftRight]
    by_cases h : j % 64 < 32
    · rw [show (k + j) / 64 = j / 64 by omega, show (k + j) % 64 = k + j % 64 by omega]
      cases decide (j / 64 < n) <;> simp [h]
    · simp [h]
theorem land_xor3 (a b c m : Nat) : Nat.land (Nat.xor (Nat.xor a b) c) m = Nat.xor (Nat.xor (Nat.land a m) (Nat.land b m)) (Nat.land c m) := by
  show ((a ^^^ b) ^^^ c) &&& m = (a &&& m) ^^^ (b &&& m) ^^^ (c &&& m)
  rw [Nat.and_xor_distrib_right, Nat.and_xor_distrib_right]
theorem pack_low (n : Nat) (f : Nat → Nat) (hf : ∀ i, f i < 2 ^ 64) : Nat.land (pack f n) (msk n) = pack (fun i => f i % 4294967296) n := pack_shr n 0 (by decide) f hf
theorem msk_of (n : Nat) : msk n = Nat.mul (pack (fun _ => 1) n) 4294967295 := by rw [pack_mul]; rfl
/-- Words in lanes. -/
def wd (x : Nat → Wd) (n : Nat) : Nat := pack (fun i => (x i).toNat) n
theorem wlt (x : Wd) : x.toNat < 2 ^ 64 := by have := x.isLt; omega
theorem wd_land (n : Nat) (x y : Nat → Wd) : Nat.land (wd x n) (wd y n) = wd (fun i => x i &&& y i) n := by
  unfold wd; rw [pack_land _ _ _ (fun i => wlt _) (fun i => wlt _)]; exact pack_congr _ _ _ fun i _ => (BitVec.toNat_and ..).symm
theorem wd_xor (n : Nat) (x y : Nat → Wd) : Nat.xor (wd x n) (wd y n) = wd (fun i => x i ^^^ y i) n := by
  unfold wd; rw [pack_xor _ _ _ (fun i => wlt _) (fun i => wlt _)]; exact pack_congr _ _ _ fun i _ => (BitVec.toNat_xor ..).symm
theorem wd_low (n : Nat) (f : Nat → Nat) (x : Nat → Wd) (hf : ∀ i, f i < 2 ^ 64) (h : ∀ i, f i % 4294967296 = (x i).toNat) : Nat.land (pack f n) (msk n) = wd x n := by
  rw [pack_low n f hf]; exact pack_congr _ _ _ fun i _ => h i
theorem rot_lane (x : Wd) (k : Nat) (h0 : 0 < k) (hk : k < 32) : ((x.toNat * 4294967297) >>> k) % 4294967296 = (rotr x k).toNat := by
  apply Nat.eq_of_testBit_eq
  intro j
  have hx := x.isLt
  rw [show (4294967296 : Nat) = 2 ^ 32 from rfl, Nat.testBit_mod_two_pow, Nat.testBit_shiftRight, show x.toNat * 4294967297 = 2 ^ 32 * x.toNat + x.toNat by omega, Nat.testBit_two_pow_mul_add _ hx, rotr]
  simp only [BitVec.testBit_toNat, BitVec.getLsbD_or, BitVec.getLsbD_shiftLeft, BitVec.getLsbD_ushiftRight]
  by_cases hj : j < 32
  · by_cases hkj : k + j < 32
    · simp [hj, hkj, show j < 32 - k by omega]
    · rw [if_neg hkj, BitVec.getLsbD_of_ge x (k + j) (by omega), show k + j - 32 = j - (32 - k) by omega]
      simp [hj, show ¬ j < 32 - k by omega]
  · rw [BitVec.getLsbD_of_ge x (k + j) (by omega)]; simp [hj]
theorem shr_lane (x : Wd) (k : Nat) : (x.toNat >>> k) % 4294967296 = (x >>> k).toNat := by
  rw [BitVec.toNat_ushiftRight, Nat.mod_eq_of_lt]
  have := x.isLt
  rw [Nat.shiftRight_eq_div_pow]
  exact Nat.lt_of_le_of_lt (Nat.div_le_self _ _) this
/-- Three rotations. -/
def rot3 (M X p q r : Nat) : Nat := (fun D => Nat.land (Nat.xor (Nat.xor (Nat.shiftRight D p) (Nat.shiftRight D q)) (Nat.shiftRight D r)) M) (Nat.mul X 4294967297)
def rot2 (M X p q r : Nat) : Nat := (fun D => Nat.land (Nat.xor (Nat.xor (Nat.shiftRight D p) (Nat.shiftRight D q)) (Nat.shiftRight X r)) M) (Nat.mul X 4294967297)
theorem dup_lt (x : Wd) : x.toNat * 4294967297 < 2 ^ 64 := by have := x.isLt; omega
theorem wd_rot (n k : Nat) (x : Nat → Wd) (h0 : 0 < k) (hk : k < 32) : Nat.land (Nat.shiftRight (Nat.mul (wd x n) 4294967297) k) (msk n) = wd (fun i => rotr (x i) k) n := by
  unfold wd
  rw [pack_mul, pack_shr n k (by omega) _ fun i => dup_lt _]
  exact pack_congr _ _ _ fun i _ => rot_lane _ k h0 hk
theorem wd_shr (n k : Nat) (x : Nat → Wd) (hk : k < 32) : Nat.land (Nat.shiftRight (wd x n) k) (msk n) = wd (fun i => x i >>> k) n := by
  unfold wd
  rw [pack_shr n k (by omega) _ fun i => wlt _]
  exact pack_congr _ _ _ fun i _ => shr_lane _ k
theorem rot3_wd (n p q r : Nat) (x : Nat → Wd) (hp : 0 < p ∧ p < 32) (hq : 0 < q ∧ q < 32) (hr : 0 < r ∧ r < 32) : rot3 (msk n) (wd x n) p q r = wd (fun i => rotr (x i) p ^^^ rotr (x i) q ^^^ rotr (x i) r) n := by
  show Nat.land _ _ = _
  rw [land_xor3, wd_rot n p x hp.1 hp.2, wd_rot n q x hq.1 hq.2, wd_rot n r x hr.1 hr.2, wd_xor, wd_xor]
theorem rot2_wd (n p q r : Nat) (x : Nat → Wd) (hp : 0 < p ∧ p < 32) (hq : 0 < q ∧ q < 32) (hr : r < 32) : rot2 (msk n) (wd x n) p q r = wd (fun i => rotr (x i) p ^^^ rotr (x i) q ^^^ (x i >>> r)) n := by
  show Nat.land _ _ = _
  rw [land_xor3, wd_rot n p x hp.1 hp.2, wd_rot n q x hq.1 hq.2, wd_shr n r x hr, wd_xor, wd_xor]
theorem wd_add (n : Nat) (x y : Nat → Wd) : Nat.add (wd x n) (wd y n) = pack (fun i => (x i).toNat + (y i).toNat) n := pack_add _ _ _
theorem ch_eq (e f g : Wd) : g ^^^ (e &&& (f ^^^ g)) = (e &&& f) ^^^ (~~~e &&& g) := by
  apply BitVec.eq_of_getLsbD_eq; intro i hi
  simp only [BitVec.getLsbD_xor, BitVec.getLsbD_and, BitVec.getLsbD_not, hi, decide_true, Bool.true_and]
  cases e.getLsbD i <;> cases f.getLsbD i <;> cases g.getLsbD i <;> rfl
theorem maj_eq (a b c : Wd) : (a &&& (b ^^^ c)) ^^^ (b &&& c) = (a &&& b) ^^^ (a &&& c) ^^^ (b &&& c) := by
  apply BitVec.eq_of_getLsbD_eq; intro i hi
  simp only [BitVec.getLsbD_xor, BitVec.getLsbD_and]
  cases a.getLsbD i <;> cases b.getLsbD i <;> cases c.getLsbD i <;> rfl
/-- First the number, then the rest. -/
def seqN (x : Nat) (b : Bool) : Bool := match x with
  | 0 => b
  | _ + 1 => b
theorem seqN_eq (x : Nat) (b : Bool) : seqN x b = b := by cases x <;> rfl
abbrev Win := Nat → Nat → Nat → Nat → Nat → Nat → Nat → Nat → Nat → Nat → Nat → Nat → Nat → Nat → Nat → Nat → Bool
abbrev RK := Nat → Nat → Nat → Nat → Nat → Nat → Nat → Nat → Win
/-- One round at all lanes. -/
def rV (M O k : Nat) (K : RK) : RK := fun a b c d e f g h w0 w1 w2 w3 w4 w5 w6 w7 w8 w9 w10 w11 w12 w13 w14 w15 =>
  (fun t1 => (fun e' => seqN e' (K (Nat.land (Nat.add t1 (Nat.add (rot3 M a 2 13 22) (Nat.xor (Nat.land a (Nat.xor b c)) (Nat.land b c)))) M) a b c e' e f g
      w1 w2 w3 w4 w5 w6 w7 w8 w9 w10 w11 w12 w13 w14 w15 (Nat.land (Nat.add (Nat.add (Nat.add (rot2 M w14 17 19 10) w9) (rot2 M w1 7 18 3)) w0) M)))
    (Nat.land (Nat.add d t1) M))
  (Nat.add (Nat.add (Nat.add (Nat.add h (rot3 M e 6 11 25)) (Nat.xor g (Nat.land e (Nat.xor f g)))) (Nat.mul k O)) w0)
def kNs : List Nat := [0x428a2f98, 0x71374491, 0xb5c0fbcf, 0xe9b5dba5, 0x3956c25b, 0x59f111f1, 0x923f82a4, 0xab1c5ed5,
  0xd807aa98, 0x12835b01, 0x243185be, 0x550c7dc3, 0x72be5d74, 0x80deb1fe, 0x9bdc06a7, 0xc19bf174,
  0xe49b69c1, 0xefbe4786, 0x0fc19dc6, 0x240ca1cc, 0x2de92c6f, 0x4a7484aa, 0x5cb0a9dc, 0x76f988da,
  0x983e5152, 0xa831c66d, 0xb00327c8, 0xbf597fc7, 0xc6e00bf3, 0xd5a79147, 0x06ca6351, 0x14292967,
  0x27b70a85, 0x2e1b2138, 0x4d2c6dfc, 0x53380d13, 0x650a7354, 0x766a0abb, 0x81c2c92e, 0x92722c85,
  0xa2bfe8a1, 0xa81a664b, 0xc24b8b70, 0xc76c51a3, 0xd192e819, 0xd6990624, 0xf40e3585, 0x106aa070,
  0x19a4c116, 0x1e376c08, 0x2748774c, 0x34b0bcb5, 0x391c0cb3, 0x4ed8aa4a, 0x5b9cca4f, 0x682e6ff3,
  0x748f82ee, 0x78a5636f, 0x84c87814, 0x8cc70208, 0x90befffa, 0xa4506ceb, 0xbef9a3f7, 0xc67178f2]
/-- All rounds. -/
def rndsV (M O : Nat) (K : RK) : List Nat → RK
  | [] => K
  | k :: ks => rV M O k (rndsV M O K ks)
abbrev CK := Nat → Nat → Nat → Nat → Nat → Nat → Nat → Nat → Bool
/-- The state behind a block, at all lanes. -/
def cmpV (M O : Nat) (a b c d e f g h : Nat) (K : CK) : Win :=
  rndsV M O (fun a' b' c' d' e' f' g' h' _ _ _ _ _ _ _ _ _ _ _ _ _ _ _ _ =>
    (fun A B C D E F G H => seqN A (seqN B (seqN C (seqN D (seqN E (seqN F (seqN G (seqN H (K A B C D E F G H)))))))))
      (Nat.land (Nat.add a a') M) (Nat.land (Nat.add b b') M) (Nat.land (Nat.add c c') M) (Nat.land (Nat.add d d') M)
      (Nat.land (Nat.add e e') M) (Nat.land (Nat.add f f') M) (Nat.land (Nat.add g g') M) (Nat.land (Nat.add h h') M)) kNs a b c d e f g h
/-- A word that is the same at all lanes. -/
theorem wd_const (n k : Nat) (x : Wd) (h : k = x.toNat) : Nat.mul k (pack (fun _ => 1) n) = wd (fun _ => x) n := by
  rw [pack_kmul, wd]; exact pack_congr _ _ _ fun _ _ => by rw [h, Nat.mul_one]
theorem bit_lt (x : Wd) : x.toNat < 4294967296 := x.isLt
section
variable (n : Nat)
def wdS {α : Type} (s : Nat → St) (K : Nat → Nat → Nat → Nat → Nat → Nat → Nat → Nat → α) : α :=
  K (wd (fun i => (s i).a) n) (wd (fun i => (s i).b) n) (wd (fun i => (s i).c) n) (wd (fun i => (s i).d) n) (wd (fun i => (s i).e) n) (wd (fun i => (s i).f) n) (wd (fun i => (s i).g) n) (wd (fun i => (s i).h) n)
def wdW (m : Nat → Nat → Wd) (K : Win) : Bool :=
  K (wd (fun i => m i 0) n) (wd (fun i => m i 1) n) (wd (fun i => m i 2) n) (wd (fun i => m i 3) n) (wd (fun i => m i 4) n) (wd (fun i => m i 5) n) (wd (fun i => m i 6) n) (wd (fun i => m i 7) n)
    (wd (fun i => m i 8) n) (wd (fun i => m i 9) n) (wd (fun i => m i 10) n) (wd (fun i => m i 11) n) (wd (fun i => m i 12) n) (wd (fun i => m i 13) n) (wd (fun i => m i 14) n) (wd (fun i => m i 15) n)
theorem t1_lane (h s ch k w : Wd) : h.toNat + s.toNat + ch.toNat + k.toNat + w.toNat < 2 ^ 64 := by
  have := bit_lt h; have := bit_lt s; have := bit_lt ch; have := bit_lt k; have := bit_lt w; omega
theorem rV_step (k : Nat) (kw : Wd) (hk : k = kw.toNat) (s : Nat → St) (v : Nat → Nat → Wd) (K : RK) (w' : Nat → Wd) (hw : ∀ i, w' i = sig1 (v i 14) + v i 9 + sig0 (v i 1) + v i 0) :
    wdW n v (wdS n s (rV (msk n) (pack (fun _ => 1) n) k K)) = wdW n (fun i j => if j = 15 then w' i else v i (j + 1)) (wdS n (fun i => rnd (s i) kw (v i 0)) K) := by
  unfold wdW wdS rV
  dsimp only
  rw [seqN_eq, rot3_wd n 6 11 25 _ (by decide) (by decide) (by decide), rot3_wd n 2 13 22 _ (by decide) (by decide) (by decide), rot2_wd n 17 19 10 _ (by decide) (by decide) (by decide), rot2_wd n 7 18 3 _ (by decide) (by decide) (by decide), wd_xor, wd_land, wd_xor, wd_xor, wd_land, wd_land, wd_xor, wd_const n k kw hk]
  have e1 : Nat.add (Nat.add (Nat.add (Nat.add (wd (fun i => (s i).h) n) (wd (fun i => rotr (s i).e 6 ^^^ rotr (s i).e 11 ^^^ rotr (s i).e 25) n)) (wd (fun i => (s i).g ^^^ ((s i).e &&& ((s i).f ^^^ (s i).g))) n)) (wd (fun _ => kw) n)) (wd (fun i => v i 0) n) =
      pack (fun i => (s i).h.toNat + (rotr (s i).e 6 ^^^ rotr (s i).e 11 ^^^ rotr (s i).e 25).toNat + ((s i).g ^^^ ((s i).e &&& ((s i).f ^^^ (s i).g))).toNat + kw.toNat + (v i 0).toNat) n := by
    unfold wd; rw [pack_add, pack_add, pack_add, pack_add]
  rw [e1]
  have e2 : Nat.land (Nat.add (wd (fun i => (s i).d) n) (pack (fun i => (s i).h.toNat + (rotr (s i).e 6 ^^^ rotr (s i).e 11 ^^^ rotr (s i).e 25).toNat + ((s i).g ^^^ ((s i).e &&& ((s i).f ^^^ (s i).g))).toNat + kw.toNat + (v i 0).toNat) n)) (msk n) = wd (fun i => (rnd (s i) kw (v i 0)).e) n := by
    rw [wd, pack_add]
    refine wd_low n _ _ (fun i => ?_) fun i => ?_
    · have := t1_lane (s i).h (rotr (s i).e 6 ^^^ rotr (s i).e 11 ^^^ rotr (s i).e 25) ((s i).g ^^^ ((s i).e &&& ((s i).f ^^^ (s i).g))) kw (v i 0)
      have := bit_lt (s i).d; have := bit_lt (s i).h; have := bit_lt (rotr (s i).e 6 ^^^ rotr (s i).e 11 ^^^ rotr (s i).e 25); have := bit_lt ((s i).g ^^^ ((s i).e &&& ((s i).f ^^^ (s i).g))); have := bit_lt kw; have := bit_lt (v i 0)
      omega
    · rw [rnd, ch_eq]
      simp only [BitVec.toNat_add, Nat.reducePow]
      omega
  have e3 : Nat.land (Nat.add (pack (fun i => (s i).h.toNat + (rotr (s i).e 6 ^^^ rotr (s i).e 11 ^^^ rotr (s i).e 25).toNat + ((s i).g ^^^ ((s i).e &&& ((s i).f ^^^ (s i).g))).toNat + kw.toNat + (v i 0).toNat) n) (Nat.add (wd (fun i => rotr (s i).a 2 ^^^ rotr (s i).a 13 ^^^ rotr (s i).a 22) n) (wd (fun i => ((s i).a &&& ((s i).b ^^^ (s i).c)) ^^^ ((s i).b &&& (s i).c)) n))) (msk n) = wd (fun i => (rnd (s i) kw (v i 0)).a) n := by
    rw [wd_add, pack_add]
    refine wd_low n _ _ (fun i => ?_) fun i => ?_
    · have := bit_lt (s i).h; have := bit_lt (rotr (s i).e 6 ^^^ rotr (s i).e 11 ^^^ rotr (s i).e 25); have := bit_lt ((s i).g ^^^ ((s i).e &&& ((s i).f ^^^ (s i).g))); have := bit_lt kw; have := bit_lt (v i 0)
      have := bit_lt (rotr (s i).a 2 ^^^ rotr (s i).a 13 ^^^ rotr (s i).a 22); have := bit_lt (((s i).a &&& ((s i).b ^^^ (s i).c)) ^^^ ((s i).b &&& (s i).c))
      omega
    · rw [rnd, ch_eq, maj_eq]
      simp only [BitVec.toNat_add, Nat.reducePow]
      omega
  have e4 : Nat.land (Nat.add (Nat.add (Nat.add (wd (fun i => rotr (v i 14) 17 ^^^ rotr (v i 14) 19 ^^^ (v i 14 >>> 10)) n) (wd (fun i => v i 9) n)) (wd (fun i => rotr (v i 1) 7 ^^^ rotr (v i 1) 18 ^^^ (v i 1 >>> 3)) n)) (wd (fun i => v i 0) n)) (msk n) = wd w' n := by
    unfold wd
    rw [pack_add, pack_add, pack_add]
    refine wd_low n _ _ (fun i => ?_) fun i => ?_
    · have := bit_lt (rotr (v i 14) 17 ^^^ rotr (v i 14) 19 ^^^ (v i 14 >>> 10)); have := bit_lt (v i 9); have := bit_lt (rotr (v i 1) 7 ^^^ rotr (v i 1) 18 ^^^ (v i 1 >>> 3)); have := bit_lt (v i 0)
      omega
    · rw [hw, sig0, sig1]
      simp only [BitVec.toNat_add, Nat.reducePow]
      omega
  rw [e2, e3, e4]
  rfl
theorem kNs_len : kNs.length = 64 := rfl
theorem kNs_at : ∀ t, t < 64 → kNs.getD t 0 = (kAt t).toNat := by decide
theorem kNs_drop (t : Nat) (h : t < 64) : kNs.drop t = (kAt t).toNat :: kNs.drop (t + 1) := by
  rw [List.drop_eq_getElem_cons (by rw [kNs_len]; exact h), ← kNs_at t h, List.getD_eq_getElem?_getD, List.getElem?_eq_getElem (by rw [kNs_len]; exact h)]; rfl
theorem sched_next (m : Nat → Wd) (t : Nat) : sched m (t + 16) = sig1 (sched m (t + 14)) + sched m (t + 9) + sig0 (sched m (t + 1)) + sched m t := by
  rw [sched, if_neg (by omega), show t + 16 - 2 = t + 14 by omega, show t + 16 - 7 = t + 9 by omega, show t + 16 - 15 = t + 1 by omega, show t + 16 - 16 = t by omega]
theorem wdW_congr (v v' : Nat → Nat → Wd) (K : Win) (h : ∀ i j, j < 16 → v i j = v' i j) : wdW n v K = wdW n v' K := by
  unfold wdW
  have e : ∀ j, j < 16 → (fun i => v i j) = fun i => v' i j := fun j hj => funext fun i => h i j hj
  rw [e 0 (by decide), e 1 (by decide), e 2 (by decide), e 3 (by decide), e 4 (by decide), e 5 (by decide), e 6 (by decide), e 7 (by decide), e 8 (by decide), e 9 (by decide), e 10 (by decide), e 11 (by decide), e 12 (by decide), e 13 (by decide), e 14 (by decide), e 15 (by decide)]
theorem rndsV_all (s : Nat → St) (m : Nat → Nat → Wd) (K : RK) : ∀ (d t : Nat), t + d = 64 →
    wdW n (fun i j => sched (m i) (t + j)) (wdS n (fun i => rnds (s i) (sched (m i)) t) (rndsV (msk n) (pack (fun _ => 1) n) K (kNs.drop t))) = wdW n (fun i j => sched (m i) (64 + j)) (wdS n (fun i => rnds (s i) (sched (m i)) 64) K) := by
  intro d
  induction d with
  | zero =>
    intro t h
    obtain rfl : t = 64 := by omega
    rfl
  | succ d ih =>
    intro t h
    rw [kNs_drop t (by omega), rndsV]
    refine (rV_step n (kAt t).toNat (kAt t) rfl (fun i => rnds (s i) (sched (m i)) t) (fun i j => sched (m i) (t + j)) _ (fun i => sched (m i) (t + 16)) (fun i => sched_next (m i) t)).trans ?_
    refine Eq.trans ?_ (ih (t + 1) (by omega))
    refine wdW_congr n _ _ _ fun i j hj => ?_
    by_cases h15 : j = 15
    · rw [if_pos h15, h15, show t + 1 + 15 = t + 16 by omega]
    · rw [if_neg h15, show t + (j + 1) = t + 1 + j by omega]
def cmpW (s : St) (m : Nat → Wd) : St := addSt s (rnds s (sched m) 64)
theorem add_lane (x y : Nat → Wd) : Nat.land (Nat.add (wd x n) (wd y n)) (msk n) = wd (fun i => x i + y i) n := by
  rw [wd_add]
  exact wd_low n _ _ (fun i => by have := bit_lt (x i); have := bit_lt (y i); omega) fun i => by rw [BitVec.toNat_add]
theorem cmpV_eq (s : Nat → St) (m : Nat → Nat → Wd) (K : CK) : wdW n m (wdS n s fun a b c d e f g h => cmpV (msk n) (pack (fun _ => 1) n) a b c d e f g h K) = wdS n (fun i => cmpW (s i) (m i)) K := by
  have h := rndsV_all n s m
  rw [wdW_congr n m (fun i j => sched (m i) (0 + j)) _ fun i j hj => by rw [Nat.zero_add, sched, if_pos hj]]
  have h2 := fun K => h K 64 0 rfl
  unfold wdS cmpV
  have h3 := h2 (fun a' b' c' d' e' f' g' h' _ _ _ _ _ _ _ _ _ _ _ _ _ _ _ _ =>
    (fun A B C D E F G H => seqN A (seqN B (seqN C (seqN D (seqN E (seqN F (seqN G (seqN H (K A B C D E F G H)))))))))
      (Nat.land (Nat.add (wd (fun i => (s i).a) n) a') (msk n)) (Nat.land (Nat.add (wd (fun i => (s i).b) n) b') (msk n)) (Nat.land (Nat.add (wd (fun i => (s i).c) n) c') (msk n)) (Nat.land (Nat.add (wd (fun i => (s i).d) n) d') (msk n))
      (Nat.land (Nat.add (wd (fun i => (s i).e) n) e') (msk n)) (Nat.land (Nat.add (wd (fun i => (s i).f) n) f') (msk n)) (Nat.land (Nat.add (wd (fun i => (s i).g) n) g') (msk n)) (Nat.land (Nat.add (wd (fun i => (s i).h) n) h') (msk n)))
  refine Eq.trans h3 ?_
  unfold wdW wdS
  dsimp only
  simp only [seqN_eq, add_lane]
  rfl
end
abbrev K4 := Nat → Nat → Nat → Nat → Bool
/-- From the first state. -/
def iniV (M O : Nat) (K : CK) : Win := cmpV M O (Nat.mul 0x6a09e667 O) (Nat.mul 0xbb67ae85 O) (Nat.mul 0x3c6ef372 O) (Nat.mul 0xa54ff53a O) (Nat.mul 0x510e527f O) (Nat.mul 0x9b05688c O) (Nat.mul 0x1f83d9ab O) (Nat.mul 0x5be0cd19 O) K
/-- A step of a chain. -/
def stepV (M O : Nat) (K : K4) : K4 := fun x0 x1 x2 x3 =>
  iniV M O (fun A B C D _ _ _ _ => K A B C D) x0 x1 x2 x3 (Nat.mul 2147483648 O) 0 0 0 0 0 0 0 0 0 0 (Nat.mul 128 O)
def iterV (M O : Nat) (K : K4) : Nat → K4
  | 0 => K
  | n + 1 => stepV M O (iterV M O K n)
/-- The end of one chain. -/
def endV (M O s0 s1 s2 s3 s4 s5 s6 s7 ix c : Nat) (K : K4) : Bool :=
  iniV M O (fun A B C D _ _ _ _ => iterV M O K 15 A B C D) s0 s1 s2 s3 s4 s5 s6 s7 (Nat.mul ix O) (Nat.mul (Nat.add (Nat.mul c 16777216) 8388608) O) 0 0 0 0 0 (Nat.mul 296 O)
/-- Blocks of four ends each. -/
def blksV (M O s0 s1 s2 s3 s4 s5 s6 s7 ix : Nat) (K : CK) : Nat → Nat → CK
  | 0, _ => K
  | m + 1, c => fun a b d e f g h j =>
    endV M O s0 s1 s2 s3 s4 s5 s6 s7 ix c fun x0 x1 x2 x3 => endV M O s0 s1 s2 s3 s4 s5 s6 s7 ix (Nat.add c 1) fun y0 y1 y2 y3 =>
      endV M O s0 s1 s2 s3 s4 s5 s6 s7 ix (Nat.add c 2) fun z0 z1 z2 z3 => endV M O s0 s1 s2 s3 s4 s5 s6 s7 ix (Nat.add c 3) fun u0 u1 u2 u3 =>
        cmpV M O a b d e f g h j (blksV M O s0 s1 s2 s3 s4 s5 s6 s7 ix K m (Nat.add c 4)) x0 x1 x2 x3 y0 y1 y2 y3 z0 z1 z2 z3 u0 u1 u2 u3
/-- A one-time public key. -/
def otV (M O s0 s1 s2 s3 s4 s5 s6 s7 ix : Nat) (K : K4) : Bool :=
  blksV M O s0 s1 s2 s3 s4 s5 s6 s7 ix (fun a b d e f g h j =>
    endV M O s0 s1 s2 s3 s4 s5 s6 s7 ix 32 fun x0 x1 x2 x3 => endV M O s0 s1 s2 s3 s4 s5 s6 s7 ix 33 fun y0 y1 y2 y3 => endV M O s0 s1 s2 s3 s4 s5 s6 s7 ix 34 fun z0 z1 z2 z3 =>
      cmpV M O a b d e f g h j (fun A B C D _ _ _ _ => K A B C D) x0 x1 x2 x3 y0 y1 y2 y3 z0 z1 z2 z3 (Nat.mul 2147483648 O) 0 0 (Nat.mul 4480 O)) 8 0
    (Nat.mul 0x6a09e667 O) (Nat.mul 0xbb67ae85 O) (Nat.mul 0x3c6ef372 O) (Nat.mul 0xa54ff53a O) (Nat.mul 0x510e527f O) (Nat.mul 0x9b05688c O) (Nat.mul 0x1f83d9ab O) (Nat.mul 0x5be0cd19 O)
/-- The end of a word and the beginning of the next one. -/
def shW (M x y : Nat) : Nat := Nat.land (Nat.add (Nat.mul x 16777216) (Nat.land (Nat.shiftRight y 8) M)) M
def leafV (M O : Nat) (K : CK) : K4 := fun x0 x1 x2 x3 =>
  iniV M O K (Nat.land (Nat.shiftRight x0 8) M) (shW M x0 x1) (shW M x1 x2) (shW M x2 x3) (Nat.land (Nat.add (Nat.mul x3 16777216) (Nat.mul 8388608 O)) M) 0 0 0 0 0 0 0 0 0 0 (Nat.mul 136 O)
/-- The seed of a number. -/
def seedV (M O v : Nat) (K : CK) : Bool := iniV M O K (Nat.mul 0x63617365 O) 0 v (Nat.mul 2147483648 O) 0 0 0 0 0 0 0 0 0 0 0 (Nat.mul 96 O)
/-- The first word of a key of the height 0. -/
def key0V (M O v : Nat) (K : Nat → Bool) : Bool :=
  seedV M O v fun s0 s1 s2 s3 s4 s5 s6 s7 => otV M O s0 s1 s2 s3 s4 s5 s6 s7 0 fun x0 x1 x2 x3 => leafV M O (fun A _ _ _ _ _ _ _ => K A) x0 x1 x2 x3
def nodeV (M O : Nat) (K : CK) (a0 a1 a2 a3 a4 a5 a6 a7 b0 b1 b2 b3 b4 b5 b6 b7 : Nat) : Bool :=
  iniV M O (fun a b c d e f g h => cmpV M O a b c d e f g h K (Nat.land (Nat.add (Nat.mul b7 16777216) (Nat.mul 8388608 O)) M) 0 0 0 0 0 0 0 0 0 0 0 0 0 0 (Nat.mul 520 O))
    (Nat.add (Nat.land (Nat.shiftRight a0 8) M) (Nat.mul 16777216 O)) (shW M a0 a1) (shW M a1 a2) (shW M a2 a3) (shW M a3 a4) (shW M a4 a5) (shW M a5 a6) (shW M a6 a7)
    (shW M a7 b0) (shW M b0 b1) (shW M b1 b2) (shW M b2 b3) (shW M b3 b4) (shW M b4 b5) (shW M b5 b6) (shW M b6 b7)
/-- The first word of a key of the height 1. -/
def key1V (M O v : Nat) (K : Nat → Bool) : Bool :=
  seedV M O v fun s0 s1 s2 s3 s4 s5 s6 s7 => otV M O s0 s1 s2 s3 s4 s5 s6 s7 0 fun x0 x1 x2 x3 => otV M O s0 s1 s2 s3 s4 s5 s6 s7 1 fun y0 y1 y2 y3 =>
    leafV M O (fun a0 a1 a2 a3 a4 a5 a6 a7 => leafV M O (fun b0 b1 b2 b3 b4 b5 b6 b7 => nodeV M O (fun A _ _ _ _ _ _ _ => K A) a0 a1 a2 a3 a4 a5 a6 a7 b0 b1 b2 b3 b4 b5 b6 b7) y0 y1 y2 y3) x0 x1 x2 x3
/-- Ones in n lanes. -/
def oneV (n : Nat) : Nat := Nat.div (Nat.sub (Nat.pow 2 (Nat.mul 64 n)) 1) 18446744073709551615
/-- The numbers b, b + s, .. -/
def numV (O b s : Nat) : Nat → Nat
  | 0 => 0
  | n + 1 => Nat.add (numV O b s n) (Nat.shiftLeft (Nat.add b (Nat.mul s n)) (Nat.mul 64 n))
def runV (f : Nat → Nat → Nat → (Nat → Bool) → Bool) (n b s : Nat) (K : Nat → Bool) : Bool :=
  (fun O => seqN O ((fun M v => seqN M (seqN v (f M O v K))) (Nat.mul O 4294967295) (numV O b s n))) (oneV n)
theorem getD_left (a b : Bs) (k : Nat) (h : k < a.length) : (a ++ b).getD k 0 = a.getD k 0 := by
  rw [List.getD_eq_getElem?_getD, List.getElem?_append_left h, ← List.getD_eq_getElem?_getD]
theorem getD_right (a b : Bs) (k n : Nat) (h : a.length = n) : (a ++ b).getD (n + k) 0 = b.getD k 0 := by
  rw [List.getD_eq_getElem?_getD, List.getElem?_append_right (by omega), ← List.getD_eq_getElem?_getD, h, Nat.add_sub_cancel_left]
theorem wordAt_left (a b : Bs) (t : Nat) (h : 4 * t + 4 ≤ a.length) : wordAt (a ++ b) t = wordAt a t := by
  unfold wordAt
  rw [getD_left a b _ (by omega), getD_left a b _ (by omega), getD_left a b _ (by omega), getD_left a b _ (by omega)]
theorem wordAt_right (a b : Bs) (k t : Nat) (h : a.length = 4 * k) : wordAt (a ++ b) (k + t) = wordAt b t := by
  unfold wordAt
  rw [show 4 * (k + t) = 4 * k + 4 * t by omega, getD_right a b _ _ h, show 4 * k + 4 * t + 1 = 4 * k + (4 * t + 1) by omega, getD_right a b _ _ h, show 4 * k + 4 * t + 2 = 4 * k + (4 * t + 2) by omega, getD_right a b _ _ h, show 4 * k + 4 * t + 3 = 4 * k + (4 * t + 3) by omega, getD_right a b _ _ h]
theorem getD_take (a : Bs) (k n : Nat) (h : k < n) : (a.take n).getD k 0 = a.getD k 0 := by
  rw [List.getD_eq_getElem?_getD, List.getElem?_take, if_pos h, ← List.getD_eq_getElem?_getD]
theorem wordAt_take (a : Bs) (n t : Nat) (h : 4 * t + 4 ≤ n) : wordAt (a.take n) t = wordAt a t := by
  unfold wordAt
  rw [getD_take _ _ _ (by omega), getD_take _ _ _ (by omega), getD_take _ _ _ (by omega), getD_take _ _ _ (by omega)]
theorem getD_drop (a : Bs) (k n : Nat) : (a.drop n).getD k 0 = a.getD (n + k) 0 := by
  rw [List.getD_eq_getElem?_getD, List.getElem?_drop, ← List.getD_eq_getElem?_getD]
theorem wordAt_drop (a : Bs) (k t : Nat) : wordAt (a.drop (4 * k)) t = wordAt a (k + t) := by
  unfold wordAt
  rw [getD_drop, getD_drop, getD_drop, getD_drop, show 4 * (k + t) = 4 * k + 4 * t by omega]; rfl
theorem word4_nat (a b c d : UInt8) : (word4 a b c d).toNat = a.toNat * 16777216 + b.toNat * 65536 + c.toNat * 256 + d.toNat := by
  have ha := a.toNat_lt
  have hb := b.toNat_lt
  have hc := c.toNat_lt
  have hd := d.toNat_lt
  unfold word4
  simp only [BitVec.toNat_or, BitVec.toNat_shiftLeft, BitVec.toNat_ofNat]
  rw [Nat.mod_eq_of_lt (show a.toNat < 2 ^ 32 by omega), Nat.mod_eq_of_lt (show b.toNat < 2 ^ 32 by omega), Nat.mod_eq_of_lt (show c.toNat < 2 ^ 32 by omega), Nat.mod_eq_of_lt (show d.toNat < 2 ^ 32 by omega)]
  rw [Nat.mod_eq_of_lt (show a.toNat <<< 24 < 2 ^ 32 by rw [Nat.shiftLeft_eq]; omega), Nat.mod_eq_of_lt (show b.toNat <<< 16 < 2 ^ 32 by rw [Nat.shiftLeft_eq]; omega), Nat.mod_eq_of_lt (show c.toNat <<< 8 < 2 ^ 32 by rw [Nat.shiftLeft_eq]; omega)]
  rw [← Nat.shiftLeft_add_eq_or_of_lt (show b.toNat <<< 16 < 2 ^ 24 by rw [Nat.shiftLeft_eq]; omega)]
  rw [show a.toNat <<< 24 + b.toNat <<< 16 = (a.toNat * 256 + b.toNat) <<< 16 by simp only [Nat.shiftLeft_eq]; omega]
  rw [← Nat.shiftLeft_add_eq_or_of_lt (show c.toNat <<< 8 < 2 ^ 16 by rw [Nat.shiftLeft_eq]; omega)]
  rw [show (a.toNat * 256 + b.toNat) <<< 16 + c.toNat <<< 8 = ((a.toNat * 256 + b.toNat) * 256 + c.toNat) <<< 8 by simp only [Nat.shiftLeft_eq]; omega]
  rw [← Nat.shiftLeft_add_eq_or_of_lt (show d.toNat < 2 ^ 8 by omega)]
  simp only [Nat.shiftLeft_eq]; omega
theorem wordAt_put (v : Nat) (r : Bs) (h : v < 4294967296) : wordAt (putB 4 v ++ r) 0 = BitVec.ofNat 32 v := by
  apply BitVec.eq_of_toNat_eq
  show (word4 (UInt8.ofNat (v / 256 / 256 / 256)) (UInt8.ofNat (v / 256 / 256)) (UInt8.ofNat (v / 256)) (UInt8.ofNat v)).toNat = _
  rw [word4_nat, BitVec.toNat_ofNat]
  simp only [UInt8.toNat_ofNat']
  omega
theorem wordAt_outOf (l : List Wd) : ∀ (t : Nat), t < l.length → wordAt (outOf l) t = l.getD t 0 := by
  induction l with
  | nil => intro t h; simp at h
  | cons x l ih =>
    intro t h
    have e : outOf (x :: l) = putB 4 x.toNat ++ outOf l := by simp [outOf]
    rw [e]
    cases t with
    | zero => rw [wordAt_put _ _ x.isLt]; simp
    | succ t => rw [show t + 1 = 1 + t by omega, wordAt_right _ _ 1 t (putB_len _ _), ih t (by simpa using h), show 1 + t = t + 1 by omega]; rfl
theorem wordAt_out (s : St) (j : Nat) (h : j < 8) : wordAt (out s) j = stAt s j := by
  rw [out, wordAt_outOf _ _ h]
  match j, h with
  | 0, _ => rfl
  | 1, _ => rfl
  | 2, _ => rfl
  | 3, _ => rfl
  | 4, _ => rfl
  | 5, _ => rfl
  | 6, _ => rfl
  | 7, _ => rfl
/-- A word that begins with the last byte of the one before. -/
theorem wordAt_cons (p : UInt8) (l : Bs) (t : Nat) : (wordAt (p :: l) (t + 1)).toNat = ((wordAt l t).toNat * 16777216 + (wordAt l (t + 1)).toNat / 256) % 4294967296 := by
  have e : wordAt (p :: l) (t + 1) = word4 (l.getD (4 * t + 3) 0) (l.getD (4 * t + 4) 0) (l.getD (4 * t + 5) 0) (l.getD (4 * t + 6) 0) := rfl
  rw [e, word4_nat]
  unfold wordAt
  rw [word4_nat, word4_nat]
  rw [show 4 * (t + 1) = 4 * t + 4 by omega, show 4 * t + 4 + 1 = 4 * t + 5 by omega, show 4 * t + 4 + 2 = 4 * t + 6 by omega, show 4 * t + 4 + 3 = 4 * t + 7 by omega]
  have h0 := (l.getD (4 * t) 0).toNat_lt
  have h1 := (l.getD (4 * t + 1) 0).toNat_lt
  have h2 := (l.getD (4 * t + 2) 0).toNat_lt
  have h3 := (l.getD (4 * t + 3) 0).toNat_lt
  have h4 := (l.getD (4 * t + 4) 0).toNat_lt
  have h5 := (l.getD (4 * t + 5) 0).toNat_lt
  have h6 := (l.getD (4 * t + 6) 0).toNat_lt
  have h7 := (l.getD (4 * t + 7) 0).toNat_lt
  omega
theorem wordAt_cons0 (p : UInt8) (l : Bs) : (wordAt (p :: l) 0).toNat = p.toNat * 16777216 + (wordAt l 0).toNat / 256 := by
  have e : wordAt (p :: l) 0 = word4 p (l.getD 0 0) (l.getD 1 0) (l.getD 2 0) := rfl
  have e2 : wordAt l 0 = word4 (l.getD 0 0) (l.getD 1 0) (l.getD 2 0) (l.getD 3 0) := rfl
  rw [e, e2, word4_nat, word4_nat]
  have := (l.getD 3 0).toNat_lt
  omega
theorem compress_eq (s : St) (b : Bs) : compress s b = cmpW s (wordAt b) := rfl
theorem cmpW_congr (s : St) (m m' : Nat → Wd) (h : ∀ t, t < 16 → m t = m' t) : cmpW s m = cmpW s m' := by
  have hs : ∀ t, sched m t = sched m' t := by
    intro t
    induction t using Nat.strongRecOn with
    | _ t ih =>
      rw [sched, sched.eq_def m' t]
      by_cases ht : t < 16
      · rw [if_pos ht, if_pos ht, h t ht]
      · rw [if_neg ht, if_neg ht, ih (t - 2) (by omega), ih (t - 7) (by omega), ih (t - 15) (by omega), ih (t - 16) (by omega)]
  unfold cmpW
  rw [funext hs]
theorem pad_len64 (n c : Nat) (h : n ≤ 55) : n + (padding n c).length = 64 := by
  unfold padding
  rw [if_pos (by omega)]
  simp [putB_len]
  omega
theorem finish_one (s : St) (r : Bs) (c : Nat) (h : r.length ≤ 55) : finish s r c = out (cmpW s (wordAt (r ++ padding r.length c))) := by
  have hl := pad_len64 r.length c h
  unfold finish
  rw [List.length_append, hl, show 64 / 64 = 1 from rfl, absorb, absorb, Nat.mul_zero, List.drop_zero, List.take_of_length_le (by rw [List.length_append]; omega), compress_eq]
theorem sha_one (b : Bs) (h : b.length ≤ 55) : sha b = out (cmpW st0 (wordAt (b ++ padding b.length b.length))) := by
  unfold sha
  rw [show b.length / 64 = 0 by omega, absorb, Nat.mul_zero, List.drop_zero, finish_one _ _ _ h]
theorem absorb_word (s : St) (b : Bs) (k : Nat) : absorb s b (k + 1) = cmpW (absorb s b k) fun t => wordAt b (16 * k + t) := by
  rw [absorb, compress_eq]
  refine cmpW_congr _ _ _ fun t ht => ?_
  rw [wordAt_take _ _ _ (by omega), show 64 * k = 4 * (16 * k) by omega, wordAt_drop]
section
variable (n : Nat)
theorem wd_zero : wd (fun _ => 0#32) n = 0 := by
  have := wd_const n 0 0#32 rfl
  rw [← this]; exact Nat.zero_mul _
theorem wd_same (x y : Nat → Wd) (h : ∀ i, x i = y i) : wd x n = wd y n := by rw [funext h]
theorem cmpV_at (s : Nat → St) (m : Nat → Nat → Wd) (K : CK) {a b c d e f g h w0 w1 w2 w3 w4 w5 w6 w7 w8 w9 w10 w11 w12 w13 w14 w15 : Nat}
    (ha : a = wd (fun i => (s i).a) n) (hb : b = wd (fun i => (s i).b) n) (hc : c = wd (fun i => (s i).c) n) (hd : d = wd (fun i => (s i).d) n) (he : e = wd (fun i => (s i).e) n) (hf : f = wd (fun i => (s i).f) n) (hg : g = wd (fun i => (s i).g) n) (hh : h = wd (fun i => (s i).h) n)
    (h0 : w0 = wd (fun i => m i 0) n) (h1 : w1 = wd (fun i => m i 1) n) (h2 : w2 = wd (fun i => m i 2) n) (h3 : w3 = wd (fun i => m i 3) n) (h4 : w4 = wd (fun i => m i 4) n) (h5 : w5 = wd (fun i => m i 5) n) (h6 : w6 = wd (fun i => m i 6) n) (h7 : w7 = wd (fun i => m i 7) n)
    (h8 : w8 = wd (fun i => m i 8) n) (h9 : w9 = wd (fun i => m i 9) n) (h10 : w10 = wd (fun i => m i 10) n) (h11 : w11 = wd (fun i => m i 11) n) (h12 : w12 = wd (fun i => m i 12) n) (h13 : w13 = wd (fun i => m i 13) n) (h14 : w14 = wd (fun i => m i 14) n) (h15 : w15 = wd (fun i => m i 15) n) :
    cmpV (msk n) (pack (fun _ => 1) n) a b c d e f g h K w0 w1 w2 w3 w4 w5 w6 w7 w8 w9 w10 w11 w12 w13 w14 w15 = wdS n (fun i => cmpW (s i) (m i)) K := by
  subst ha hb hc hd he hf hg hh h0 h1 h2 h3 h4 h5 h6 h7 h8 h9 h10 h11 h12 h13 h14 h15
  exact cmpV_eq n s m K
theorem iniV_at (m : Nat → Nat → Wd) (K : CK) {w0 w1 w2 w3 w4 w5 w6 w7 w8 w9 w10 w11 w12 w13 w14 w15 : Nat}
    (h0 : w0 = wd (fun i => m i 0) n) (h1 : w1 = wd (fun i => m i 1) n) (h2 : w2 = wd (fun i => m i 2) n) (h3 : w3 = wd (fun i => m i 3) n) (h4 : w4 = wd (fun i => m i 4) n) (h5 : w5 = wd (fun i => m i 5) n) (h6 : w6 = wd (fun i => m i 6) n) (h7 : w7 = wd (fun i => m i 7) n)
    (h8 : w8 = wd (fun i => m i 8) n) (h9 : w9 = wd (fun i => m i 9) n) (h10 : w10 = wd (fun i => m i 10) n) (h11 : w11 = wd (fun i => m i 11) n) (h12 : w12 = wd (fun i => m i 12) n) (h13 : w13 = wd (fun i => m i 13) n) (h14 : w14 = wd (fun i => m i 14) n) (h15 : w15 = wd (fun i => m i 15) n) :
    iniV (msk n) (pack (fun _ => 1) n) K w0 w1 w2 w3 w4 w5 w6 w7 w8 w9 w10 w11 w12 w13 w14 w15 = wdS n (fun i => cmpW st0 (m i)) K :=
  cmpV_at n (fun _ => st0) m K (wd_const n _ _ rfl) (wd_const n _ _ rfl) (wd_const n _ _ rfl) (wd_const n _ _ rfl) (wd_const n _ _ rfl) (wd_const n _ _ rfl) (wd_const n _ _ rfl) (wd_const n _ _ rfl) h0 h1 h2 h3 h4 h5 h6 h7 h8 h9 h10 h11 h12 h13 h14 h15
/-- Four words of bytes at each lane. -/
def wd4 (x : Nat → Bs) (K : K4) : Bool := K (wd (fun i => wordAt (x i) 0) n) (wd (fun i => wordAt (x i) 1) n) (wd (fun i => wordAt (x i) 2) n) (wd (fun i => wordAt (x i) 3) n)
def wd8 (x : Nat → Bs) (K : CK) : Bool := K (wd (fun i => wordAt (x i) 0) n) (wd (fun i => wordAt (x i) 1) n) (wd (fun i => wordAt (x i) 2) n) (wd (fun i => wordAt (x i) 3) n) (wd (fun i => wordAt (x i) 4) n) (wd (fun i => wordAt (x i) 5) n) (wd (fun i => wordAt (x i) 6) n) (wd (fun i => wordAt (x i) 7) n)
theorem wdS_out (s : Nat → St) (x : Nat → Bs) (K : CK) (h : ∀ i, x i = out (s i)) : wdS n s K = wd8 n x K := by
  unfold wdS wd8
  have e : ∀ j, j < 8 → wd (fun i => wordAt (x i) j) n = wd (fun i => stAt (s i) j) n := fun j hj => wd_same n _ _ fun i => by rw [h i, wordAt_out _ _ hj]
  rw [e 0 (by decide), e 1 (by decide), e 2 (by decide), e 3 (by decide), e 4 (by decide), e 5 (by decide), e 6 (by decide), e 7 (by decide)]
  rfl
theorem wd8_short (y : Nat → Bs) (x : Nat → Bs) (K : K4) (h : ∀ i, x i = (y i).take 16) : wd8 n y (fun A B C D _ _ _ _ => K A B C D) = wd4 n x K := by
  unfold wd4 wd8
  have e : ∀ j, j < 4 → wd (fun i => wordAt (x i) j) n = wd (fun i => wordAt (y i) j) n := fun j hj => wd_same n _ _ fun i => by rw [h i, wordAt_take _ _ _ (by omega)]
  rw [e 0 (by decide), e 1 (by decide), e 2 (by decide), e 3 (by decide)]
theorem wd_cst (k : Nat) (f : Nat → Wd) (c : Wd) (hk : k = c.toNat) (h : ∀ i, f i = c) : Nat.mul k (pack (fun _ => 1) n) = wd f n := by
  rw [wd_const n k c hk]; exact wd_same n _ _ fun i => (h i).symm
theorem wd_nul (f : Nat → Wd) (h : ∀ i, f i = 0#32) : 0 = wd f n := by
  rw [← wd_zero n]; exact wd_same n _ _ fun i => (h i).symm
theorem stepV_eq (x : Nat → Bs) (hx : ∀ i, (x i).length = 16) (K : K4) : wd4 n x (stepV (msk n) (pack (fun _ => 1) n) K) = wd4 n (fun i => short (x i)) K := by
  have e0 : ∀ i t, t < 4 → wordAt (x i ++ padding (x i).length (x i).length) t = wordAt (x i) t := fun i t ht => wordAt_left _ _ _ (by rw [hx]; omega)
  have e1 : ∀ i t, wordAt (x i ++ padding (x i).length (x i).length) (4 + t) = wordAt (padding 16 16) t := fun i t => by rw [wordAt_right _ _ 4 t (hx i), hx]
  unfold wd4 stepV
  refine (iniV_at n (fun i => wordAt (x i ++ padding (x i).length (x i).length)) _ (wd_same n _ _ fun i => (e0 i 0 (by decide)).symm) (wd_same n _ _ fun i => (e0 i 1 (by decide)).symm) (wd_same n _ _ fun i => (e0 i 2 (by decide)).symm) (wd_same n _ _ fun i => (e0 i 3 (by decide)).symm)
    (wd_cst n _ _ 2147483648#32 rfl fun i => e1 i 0) (wd_nul n _ fun i => e1 i 1) (wd_nul n _ fun i => e1 i 2) (wd_nul n _ fun i => e1 i 3) (wd_nul n _ fun i => e1 i 4) (wd_nul n _ fun i => e1 i 5) (wd_nul n _ fun i => e1 i 6) (wd_nul n _ fun i => e1 i 7) (wd_nul n _ fun i => e1 i 8) (wd_nul n _ fun i => e1 i 9) (wd_nul n _ fun i => e1 i 10) (wd_cst n _ _ 128#32 rfl fun i => e1 i 11)).trans ?_
  refine (wdS_out n _ (fun i => sha (x i)) _ fun i => sha_one _ (by rw [hx]; omega)).trans ?_
  exact wd8_short n _ _ K fun i => rfl
theorem iterV_eq (K : K4) : ∀ (k : Nat) (x : Nat → Bs), (∀ i, (x i).length = 16) → wd4 n x (iterV (msk n) (pack (fun _ => 1) n) K k) = wd4 n (fun i => chainH k (x i)) K := by
  intro k
  induction k with
  | zero => intro x hx; rfl
  | succ k ih =>
    intro x hx
    rw [iterV, stepV_eq n x hx, ih _ fun i => short_len _]
    have : (fun i => chainH k (short (x i))) = fun i => chainH (k + 1) (x i) := funext fun i => by
      have := chainH_add k 1 (x i)
      rw [show 1 + k = k + 1 by omega] at this
      exact this
    rw [this]
theorem wordAt_consW (p : UInt8) (l : Bs) (t : Nat) : wordAt (p :: l) (t + 1) = word4 (l.getD (4 * t + 3) 0) (l.getD (4 * t + 4) 0) (l.getD (4 * t + 5) 0) (l.getD (4 * t + 6) 0) := rfl
theorem pad37 (p : UInt8) : ∀ t, t < 5 → wordAt (p :: padding 37 37) (t + 1) = 0#32 := fun t ht => by
  rw [wordAt_consW]
  revert t
  decide
theorem pad37b (p : UInt8) : wordAt (p :: padding 37 37) 6 = 296#32 := by
  rw [show 6 = 5 + 1 from rfl, wordAt_consW]; decide
/-- Eight words of each seed. -/
theorem endV_eq (sd : Nat → Bs) (hs : ∀ i, (sd i).length = 32) (ix c : Nat) (hix : ix < 4294967296) (hc : c < 256) (c' : Nat) (hcc : c' = c) (K : K4) :
    wd8 n sd (fun s0 s1 s2 s3 s4 s5 s6 s7 => endV (msk n) (pack (fun _ => 1) n) s0 s1 s2 s3 s4 s5 s6 s7 ix c' K) = wd4 n (fun i => chainH 15 (otBegin (sd i) ix c)) K := by
  subst hcc
  have hl : ∀ i, (sd i ++ putB 4 ix ++ [UInt8.ofNat c']).length = 37 := fun i => by simp [hs, putB_len]
  have es : ∀ i, sd i ++ putB 4 ix ++ [UInt8.ofNat c'] ++ padding (sd i ++ putB 4 ix ++ [UInt8.ofNat c']).length (sd i ++ putB 4 ix ++ [UInt8.ofNat c']).length = sd i ++ (putB 4 ix ++ (UInt8.ofNat c' :: padding 37 37)) := fun i => by rw [hl]; simp
  have e0 : ∀ i t, t < 8 → wordAt (sd i ++ putB 4 ix ++ [UInt8.ofNat c'] ++ padding (sd i ++ putB 4 ix ++ [UInt8.ofNat c']).length (sd i ++ putB 4 ix ++ [UInt8.ofNat c']).length) t = wordAt (sd i) t := fun i t ht => by rw [es, wordAt_left _ _ _ (by rw [hs]; omega)]
  have e8 : ∀ i, wordAt (sd i ++ putB 4 ix ++ [UInt8.ofNat c'] ++ padding (sd i ++ putB 4 ix ++ [UInt8.ofNat c']).length (sd i ++ putB 4 ix ++ [UInt8.ofNat c']).length) 8 = BitVec.ofNat 32 ix := fun i => by rw [es, show 8 = 8 + 0 from rfl, wordAt_right _ _ 8 0 (hs i), wordAt_put _ _ hix]
  have e9 : ∀ i t, wordAt (sd i ++ putB 4 ix ++ [UInt8.ofNat c'] ++ padding (sd i ++ putB 4 ix ++ [UInt8.ofNat c']).length (sd i ++ putB 4 ix ++ [UInt8.ofNat c']).length) (8 + (1 + t)) = wordAt (UInt8.ofNat c' :: padding 37 37) t := fun i t => by rw [es, wordAt_right _ _ 8 _ (hs i), wordAt_right _ _ 1 t (putB_len _ _)]
  have ec : Nat.add (Nat.mul c' 16777216) 8388608 = (wordAt (UInt8.ofNat c' :: padding 37 37) 0).toNat := by
    rw [show wordAt (UInt8.ofNat c' :: padding 37 37) 0 = word4 (UInt8.ofNat c') 128 0 0 from rfl, word4_nat, UInt8.toNat_ofNat', Nat.mod_eq_of_lt hc]
    simp
  unfold wd8 endV
  refine (iniV_at n (fun i => wordAt (sd i ++ putB 4 ix ++ [UInt8.ofNat c'] ++ padding (sd i ++ putB 4 ix ++ [UInt8.ofNat c']).length (sd i ++ putB 4 ix ++ [UInt8.ofNat c']).length)) _ (wd_same n _ _ fun i => (e0 i 0 (by decide)).symm) (wd_same n _ _ fun i => (e0 i 1 (by decide)).symm) (wd_same n _ _ fun i => (e0 i 2 (by decide)).symm) (wd_same n _ _ fun i => (e0 i 3 (by decide)).symm)
    (wd_same n _ _ fun i => (e0 i 4 (by decide)).symm) (wd_same n _ _ fun i => (e0 i 5 (by decide)).symm) (wd_same n _ _ fun i => (e0 i 6 (by decide)).symm) (wd_same n _ _ fun i => (e0 i 7 (by decide)).symm)
    (wd_cst n _ _ (BitVec.ofNat 32 ix) (by rw [BitVec.toNat_ofNat, Nat.mod_eq_of_lt hix]) fun i => e8 i) (wd_cst n _ _ _ ec fun i => e9 i 0) (wd_nul n _ fun i => (e9 i 1).trans (pad37 _ 0 (by decide))) (wd_nul n _ fun i => (e9 i 2).trans (pad37 _ 1 (by decide))) (wd_nul n _ fun i => (e9 i 3).trans (pad37 _ 2 (by decide))) (wd_nul n _ fun i => (e9 i 4).trans (pad37 _ 3 (by decide))) (wd_nul n _ fun i => (e9 i 5).trans (pad37 _ 4 (by decide))) (wd_cst n _ _ 296#32 rfl fun i => (e9 i 6).trans (pad37b _))).trans ?_
  refine (wdS_out n _ (fun i => sha (sd i ++ putB 4 ix ++ [UInt8.ofNat c'])) _ fun i => sha_one _ (by rw [hl]; omega)).trans ?_
  refine (wd8_short n _ (fun i => otBegin (sd i) ix c') _ fun i => rfl).trans ?_
  exact iterV_eq n K 15 _ fun i => short_len _
theorem ends_word (sd : Bs) (ix : Nat) : ∀ (N c j : Nat), c < N → j < 4 → wordAt (otEnds sd ix N) (4 * c + j) = wordAt (chainH 15 (otBegin sd ix c)) j := by
  intro N
  induction N with
  | zero => intro c j h _; omega
  | succ N ih =>
    intro c j hc hj
    rw [otEnds]
    by_cases h : c < N
    · rw [wordAt_left _ _ _ (by rw [otEnds_len]; omega), ih c j h hj]
    · obtain rfl : c = N := by omega
      exact wordAt_right _ _ _ _ (by rw [otEnds_len]; omega)
end
section
variable (n : Nat)
/-- Blocks of four ends, one behind the other. -/
theorem blksV_eq (sd : Nat → Bs) (hs : ∀ i, (sd i).length = 32) (ix : Nat) (hix : ix < 4294967296) (K : CK) : ∀ (m k c : Nat), k + m = 8 → c = 4 * k →
    wd8 n sd (fun s0 s1 s2 s3 s4 s5 s6 s7 => wdS n (fun i => absorb st0 (otEnds (sd i) ix 35) k) (blksV (msk n) (pack (fun _ => 1) n) s0 s1 s2 s3 s4 s5 s6 s7 ix K m c)) = wdS n (fun i => absorb st0 (otEnds (sd i) ix 35) 8) K := by
  intro m
  induction m with
  | zero =>
    intro k c hk hc
    obtain rfl : k = 8 := by omega
    rfl
  | succ m ih =>
    intro k c hk hc
    have hw : ∀ (i j t : Nat), j < 4 → t < 4 → wordAt (otEnds (sd i) ix 35) (16 * k + (4 * j + t)) = wordAt (chainH 15 (otBegin (sd i) ix (c + j))) t := fun i j t hj ht => by
      rw [show 16 * k + (4 * j + t) = 4 * (c + j) + t by omega]
      exact ends_word (sd i) ix 35 (c + j) t (by omega) ht
    have h0 := fun K => endV_eq n sd hs ix c hix (by omega) c rfl K
    have h1 := fun K => endV_eq n sd hs ix (c + 1) hix (by omega) (Nat.add c 1) rfl K
    have h2 := fun K => endV_eq n sd hs ix (c + 2) hix (by omega) (Nat.add c 2) rfl K
    have h3 := fun K => endV_eq n sd hs ix (c + 3) hix (by omega) (Nat.add c 3) rfl K
    have h4 := ih (k + 1) (Nat.add c 4) (by omega) (by show c + 4 = _; omega)
    unfold wd8 at h0 h1 h2 h3 h4 ⊢
    unfold blksV
    unfold wdS at h4 ⊢
    dsimp only at h0 h1 h2 h3 h4 ⊢
    rw [h0, wd4, h1, wd4, h2, wd4, h3, wd4]
    refine (cmpV_at n (fun i => absorb st0 (otEnds (sd i) ix 35) k) (fun i t => wordAt (otEnds (sd i) ix 35) (16 * k + t)) _ rfl rfl rfl rfl rfl rfl rfl rfl
      (wd_same n _ _ fun i => (hw i 0 0 (by decide) (by decide)).symm) (wd_same n _ _ fun i => (hw i 0 1 (by decide) (by decide)).symm) (wd_same n _ _ fun i => (hw i 0 2 (by decide) (by decide)).symm) (wd_same n _ _ fun i => (hw i 0 3 (by decide) (by decide)).symm)
      (wd_same n _ _ fun i => (hw i 1 0 (by decide) (by decide)).symm) (wd_same n _ _ fun i => (hw i 1 1 (by decide) (by decide)).symm) (wd_same n _ _ fun i => (hw i 1 2 (by decide) (by decide)).symm) (wd_same n _ _ fun i => (hw i 1 3 (by decide) (by decide)).symm)
      (wd_same n _ _ fun i => (hw i 2 0 (by decide) (by decide)).symm) (wd_same n _ _ fun i => (hw i 2 1 (by decide) (by decide)).symm) (wd_same n _ _ fun i => (hw i 2 2 (by decide) (by decide)).symm) (wd_same n _ _ fun i => (hw i 2 3 (by decide) (by decide)).symm)
      (wd_same n _ _ fun i => (hw i 3 0 (by decide) (by decide)).symm) (wd_same n _ _ fun i => (hw i 3 1 (by decide) (by decide)).symm) (wd_same n _ _ fun i => (hw i 3 2 (by decide) (by decide)).symm) (wd_same n _ _ fun i => (hw i 3 3 (by decide) (by decide)).symm)).trans ?_
    have he : (fun i => cmpW (absorb st0 (otEnds (sd i) ix 35) k) (fun t => wordAt (otEnds (sd i) ix 35) (16 * k + t))) = fun i => absorb st0 (otEnds (sd i) ix 35) (k + 1) := funext fun i => (absorb_word _ _ _).symm
    rw [he]
    exact h4
theorem otV_eq (sd : Nat → Bs) (hs : ∀ i, (sd i).length = 32) (ix : Nat) (hix : ix < 4294967296) (K : K4) :
    wd8 n sd (fun s0 s1 s2 s3 s4 s5 s6 s7 => otV (msk n) (pack (fun _ => 1) n) s0 s1 s2 s3 s4 s5 s6 s7 ix K) = wd4 n (fun i => otPublic (sd i) ix) K := by
  have hl : ∀ i, (otEnds (sd i) ix 35).length = 560 := fun i => otEnds_len _ _ _
  have hsh : ∀ i, sha (otEnds (sd i) ix 35) = out (cmpW (absorb st0 (otEnds (sd i) ix 35) 8) (wordAt ((otEnds (sd i) ix 35).drop 512 ++ padding 48 560))) := fun i => by
    unfold sha
    rw [hl, show 560 / 64 = 8 from rfl, show 64 * 8 = 512 from rfl, finish_one _ _ _ (by rw [List.length_drop, hl]; omega), List.length_drop, hl]
  have hd : ∀ i, ((otEnds (sd i) ix 35).drop 512).length = 4 * 12 := fun i => by rw [List.length_drop, hl]
  have hw : ∀ (i j t : Nat), j < 3 → t < 4 → wordAt ((otEnds (sd i) ix 35).drop 512 ++ padding 48 560) (4 * j + t) = wordAt (chainH 15 (otBegin (sd i) ix (32 + j))) t := fun i j t hj ht => by
    rw [wordAt_left _ _ _ (by rw [hd]; omega), show 512 = 4 * 128 from rfl, wordAt_drop, show 128 + (4 * j + t) = 4 * (32 + j) + t by omega]
    exact ends_word (sd i) ix 35 (32 + j) t (by omega) ht
  have hp : ∀ i t, wordAt ((otEnds (sd i) ix 35).drop 512 ++ padding 48 560) (12 + t) = wordAt (padding 48 560) t := fun i t => wordAt_right _ _ 12 t (hd i)
  have h0 := fun K => endV_eq n sd hs ix 32 hix (by omega) 32 rfl K
  have h1 := fun K => endV_eq n sd hs ix 33 hix (by omega) 33 rfl K
  have h2 := fun K => endV_eq n sd hs ix 34 hix (by omega) 34 rfl K
  unfold otV
  have hb := fun K => blksV_eq n sd hs ix hix K 8 0 0 rfl rfl
  unfold wd8 at h0 h1 h2 hb ⊢
  unfold wdS at hb
  dsimp only at h0 h1 h2 hb ⊢
  have hini : ∀ (c : Wd), Nat.mul c.toNat (pack (fun _ => 1) n) = wd (fun _ => c) n := fun c => wd_const n _ c rfl
  have hb2 := fun K => hb K
  have ea := hini st0.a; have eb := hini st0.b; have ec := hini st0.c; have ed := hini st0.d
  have ee := hini st0.e; have ef := hini st0.f; have eg := hini st0.g; have eh := hini st0.h
  change Nat.mul 0x6a09e667 _ = _ at ea
  change Nat.mul 0xbb67ae85 _ = _ at eb
  change Nat.mul 0x3c6ef372 _ = _ at ec
  change Nat.mul 0xa54ff53a _ = _ at ed
  change Nat.mul 0x510e527f _ = _ at ee
  change Nat.mul 0x9b05688c _ = _ at ef
  change Nat.mul 0x1f83d9ab _ = _ at eg
  change Nat.mul 0x5be0cd19 _ = _ at eh
  rw [ea, eb, ec, ed, ee, ef, eg, eh]
  refine (hb _).trans ?_
  rw [h0, wd4, h1, wd4, h2, wd4]
  refine (cmpV_at n (fun i => absorb st0 (otEnds (sd i) ix 35) 8) (fun i => wordAt ((otEnds (sd i) ix 35).drop 512 ++ padding 48 560)) _ rfl rfl rfl rfl rfl rfl rfl rfl
      (wd_same n _ _ fun i => (hw i 0 0 (by decide) (by decide)).symm) (wd_same n _ _ fun i => (hw i 0 1 (by decide) (by decide)).symm) (wd_same n _ _ fun i => (hw i 0 2 (by decide) (by decide)).symm) (wd_same n _ _ fun i => (hw i 0 3 (by decide) (by decide)).symm)
      (wd_same n _ _ fun i => (hw i 1 0 (by decide) (by decide)).symm) (wd_same n _ _ fun i => (hw i 1 1 (by decide) (by decide)).symm) (wd_same n _ _ fun i => (hw i 1 2 (by decide) (by decide)).symm) (wd_same n _ _ fun i => (hw i 1 3 (by decide) (by decide)).symm)
      (wd_same n _ _ fun i => (hw i 2 0 (by decide) (by decide)).symm) (wd_same n _ _ fun i => (hw i 2 1 (by decide) (by decide)).symm) (wd_same n _ _ fun i => (hw i 2 2 (by decide) (by decide)).symm) (wd_same n _ _ fun i => (hw i 2 3 (by decide) (by decide)).symm)
      (wd_cst n _ _ 2147483648#32 rfl fun i => hp i 0) (wd_nul n _ fun i => hp i 1) (wd_nul n _ fun i => hp i 2) (wd_cst n _ _ 4480#32 rfl fun i => hp i 3)).trans ?_
  refine (wdS_out n _ (fun i => sha (otEnds (sd i) ix 35)) _ fun i => hsh i).trans ?_
  exact wd8_short n _ _ K fun i => rfl
theorem shW_eq (x y z : Nat → Wd) (h : ∀ i, (z i).toNat = ((x i).toNat * 16777216 + (y i).toNat / 256) % 4294967296) : shW (msk n) (wd x n) (wd y n) = wd z n := by
  unfold shW
  rw [wd_shr n 8 y (by decide), wd, pack_mul, wd, pack_add]
  refine wd_low n _ _ (fun i => ?_) fun i => ?_
  · have := bit_lt (x i); have := bit_lt (y i >>> 8); omega
  · rw [h i, BitVec.toNat_ushiftRight, Nat.shiftRight_eq_div_pow]
theorem shr8_eq (y z : Nat → Wd) (h : ∀ i, (z i).toNat = (y i).toNat / 256) : Nat.land (Nat.shiftRight (wd y n) 8) (msk n) = wd z n := by
  rw [wd_shr n 8 y (by decide)]
  refine wd_same n _ _ fun i => BitVec.eq_of_toNat_eq ?_
  rw [h i, BitVec.toNat_ushiftRight, Nat.shiftRight_eq_div_pow]
theorem last_eq (x z : Nat → Wd) (h : ∀ i, (z i).toNat = ((x i).toNat * 16777216 + 8388608) % 4294967296) : Nat.land (Nat.add (Nat.mul (wd x n) 16777216) (Nat.mul 8388608 (pack (fun _ => 1) n))) (msk n) = wd z n := by
  rw [wd, pack_mul, pack_kmul, pack_add]
  refine wd_low n _ _ (fun i => ?_) fun i => ?_
  · have := bit_lt (x i); omega
  · rw [h i, Nat.mul_one]
theorem top_eq (y z : Nat → Wd) (h : ∀ i, (z i).toNat = 16777216 + (y i).toNat / 256) : Nat.add (Nat.land (Nat.shiftRight (wd y n) 8) (msk n)) (Nat.mul 16777216 (pack (fun _ => 1) n)) = wd z n := by
  rw [wd_shr n 8 y (by decide), wd, pack_kmul, pack_add]
  refine pack_congr _ _ _ fun i _ => ?_
  rw [h i, BitVec.toNat_ushiftRight, Nat.shiftRight_eq_div_pow, Nat.add_comm]
theorem leafV_eq (x : Nat → Bs) (hx : ∀ i, (x i).length = 16) (K : CK) : wd4 n x (leafV (msk n) (pack (fun _ => 1) n) K) = wd8 n (fun i => leafH (x i)) K := by
  have e0 : ∀ i t, t < 4 → wordAt (x i ++ padding 17 17) t = wordAt (x i) t := fun i t ht => wordAt_left _ _ _ (by rw [hx]; omega)
  have e1 : ∀ i t, wordAt (x i ++ padding 17 17) (4 + t) = wordAt (padding 17 17) t := fun i t => by rw [wordAt_right _ _ 4 t (hx i)]
  have es : ∀ i, 0 :: x i ++ padding (0 :: x i).length (0 :: x i).length = 0 :: (x i ++ padding 17 17) := fun i => by rw [List.length_cons, hx]; rfl
  have c0 := fun i => wordAt_cons0 0 (x i ++ padding 17 17)
  have cs := fun i t => wordAt_cons 0 (x i ++ padding 17 17) t
  have cw : ∀ i t, wordAt (0 :: (x i ++ padding 17 17)) (5 + t) = BitVec.ofNat 32 (((wordAt (padding 17 17) t).toNat * 16777216 + (wordAt (padding 17 17) (t + 1)).toNat / 256) % 4294967296) := fun i t => by
    apply BitVec.eq_of_toNat_eq
    rw [show 5 + t = (4 + t) + 1 by omega, cs, e1, show 4 + t + 1 = 4 + (t + 1) by omega, e1, BitVec.toNat_ofNat]
    rw [Nat.mod_mod]
  unfold wd4 leafV
  refine (iniV_at n (fun i => wordAt (0 :: x i ++ padding (0 :: x i).length (0 :: x i).length)) _
    (shr8_eq n _ _ fun i => by rw [es, c0, e0 i 0 (by decide)]; simp) (shW_eq n _ _ _ fun i => by rw [es, cs, e0 i 0 (by decide), e0 i 1 (by decide)]) (shW_eq n _ _ _ fun i => by rw [es, cs, e0 i 1 (by decide), e0 i 2 (by decide)]) (shW_eq n _ _ _ fun i => by rw [es, cs, e0 i 2 (by decide), e0 i 3 (by decide)])
    (last_eq n _ _ fun i => by rw [es, cs, e0 i 3 (by decide), show 3 + 1 = 4 + 0 from rfl, e1]; rfl)
    (wd_nul n _ fun i => by rw [es]; exact cw i 0) (wd_nul n _ fun i => by rw [es]; exact cw i 1) (wd_nul n _ fun i => by rw [es]; exact cw i 2) (wd_nul n _ fun i => by rw [es]; exact cw i 3) (wd_nul n _ fun i => by rw [es]; exact cw i 4)
    (wd_nul n _ fun i => by rw [es]; exact cw i 5) (wd_nul n _ fun i => by rw [es]; exact cw i 6) (wd_nul n _ fun i => by rw [es]; exact cw i 7) (wd_nul n _ fun i => by rw [es]; exact cw i 8) (wd_nul n _ fun i => by rw [es]; exact cw i 9) (wd_cst n _ _ 136#32 rfl fun i => by rw [es]; exact cw i 10)).trans ?_
  exact wdS_out n _ (fun i => leafH (x i)) _ fun i => sha_one _ (by rw [List.length_cons, hx]; omega)
end
section
variable (n : Nat)
theorem nodeV_eq (a b : Nat → Bs) (ha : ∀ i, (a i).length = 32) (hb : ∀ i, (b i).length = 32) (K : CK) :
    wd8 n a (fun a0 a1 a2 a3 a4 a5 a6 a7 => wd8 n b fun b0 b1 b2 b3 b4 b5 b6 b7 => nodeV (msk n) (pack (fun _ => 1) n) K a0 a1 a2 a3 a4 a5 a6 a7 b0 b1 b2 b3 b4 b5 b6 b7) = wd8 n (fun i => nodeH (a i) (b i)) K := by
  have hl : ∀ i, (1 :: (a i ++ b i)).length = 65 := fun i => by simp [ha, hb]
  have hl2 : ∀ i, (a i ++ b i).length = 4 * 16 := fun i => by simp [ha, hb]
  have ea : ∀ i t, t < 8 → wordAt (a i ++ b i) t = wordAt (a i) t := fun i t ht => wordAt_left _ _ _ (by rw [ha]; omega)
  have eb : ∀ i t, wordAt (a i ++ b i) (8 + t) = wordAt (b i) t := fun i t => wordAt_right _ _ 8 t (ha i)
  have eL : ∀ i t, t < 16 → wordAt ((a i ++ b i) ++ padding 1 65) t = wordAt (a i ++ b i) t := fun i t ht => wordAt_left _ _ _ (by rw [hl2]; omega)
  have eR : ∀ i t, wordAt ((a i ++ b i) ++ padding 1 65) (16 + t) = wordAt (padding 1 65) t := fun i t => wordAt_right _ _ 16 t (hl2 i)
  have c0 := fun i => wordAt_cons0 1 (a i ++ b i)
  have cs := fun i t => wordAt_cons 1 (a i ++ b i) t
  have hd : ∀ i, (1 :: (a i ++ b i)).drop 64 ++ padding 1 65 = (1 :: ((a i ++ b i) ++ padding 1 65)).drop (4 * 16) := fun i => by
    rw [show (1 :: ((a i ++ b i) ++ padding 1 65) : Bs) = (1 :: (a i ++ b i)) ++ padding 1 65 from rfl, List.drop_append_of_le_length (by rw [hl]; omega)]
  have c1 : ∀ i t, wordAt ((1 :: (a i ++ b i)).drop 64 ++ padding 1 65) t = wordAt (1 :: ((a i ++ b i) ++ padding 1 65)) (16 + t) := fun i t => by rw [hd, wordAt_drop]
  have cw : ∀ i t, wordAt ((1 :: (a i ++ b i)).drop 64 ++ padding 1 65) (1 + t) = BitVec.ofNat 32 (((wordAt (padding 1 65) t).toNat * 16777216 + (wordAt (padding 1 65) (t + 1)).toNat / 256) % 4294967296) := fun i t => by
    apply BitVec.eq_of_toNat_eq
    rw [c1, show 16 + (1 + t) = (16 + t) + 1 by omega, wordAt_cons, eR, show 16 + t + 1 = 16 + (t + 1) by omega, eR, BitVec.toNat_ofNat]
    rw [Nat.mod_mod]
  have hsh : ∀ i, nodeH (a i) (b i) = out (cmpW (cmpW st0 (wordAt (1 :: (a i ++ b i)))) (wordAt ((1 :: (a i ++ b i)).drop 64 ++ padding 1 65))) := fun i => by
    unfold nodeH sha
    have h0 : absorb st0 (1 :: (a i ++ b i)) 1 = cmpW st0 (wordAt (1 :: (a i ++ b i))) := (absorb_word st0 _ 0).trans (cmpW_congr _ _ _ fun t _ => by rw [show 16 * 0 + t = t by omega])
    rw [hl, show 65 / 64 = 1 from rfl, show 64 * 1 = 64 from rfl, finish_one _ _ _ (by rw [List.length_drop, hl]; omega), List.length_drop, hl, h0]
  unfold wd8 nodeV
  dsimp only
  refine (iniV_at n (fun i => wordAt (1 :: (a i ++ b i))) _
    (top_eq n _ _ fun i => by rw [c0, ea i 0 (by decide)]; simp) (shW_eq n _ _ _ fun i => by rw [cs, ea i 0 (by decide), ea i 1 (by decide)]) (shW_eq n _ _ _ fun i => by rw [cs, ea i 1 (by decide), ea i 2 (by decide)]) (shW_eq n _ _ _ fun i => by rw [cs, ea i 2 (by decide), ea i 3 (by decide)])
    (shW_eq n _ _ _ fun i => by rw [cs, ea i 3 (by decide), ea i 4 (by decide)]) (shW_eq n _ _ _ fun i => by rw [cs, ea i 4 (by decide), ea i 5 (by decide)]) (shW_eq n _ _ _ fun i => by rw [cs, ea i 5 (by decide), ea i 6 (by decide)]) (shW_eq n _ _ _ fun i => by rw [cs, ea i 6 (by decide), ea i 7 (by decide)])
    (shW_eq n _ _ _ fun i => by rw [cs, ea i 7 (by decide), show 7 + 1 = 8 + 0 from rfl, eb]) (shW_eq n _ _ _ fun i => by rw [cs, show 8 = 8 + 0 from rfl, eb, show 8 + 0 + 1 = 8 + 1 from rfl, eb]) (shW_eq n _ _ _ fun i => by rw [cs, show 9 = 8 + 1 from rfl, eb, show 8 + 1 + 1 = 8 + 2 from rfl, eb]) (shW_eq n _ _ _ fun i => by rw [cs, show 10 = 8 + 2 from rfl, eb, show 8 + 2 + 1 = 8 + 3 from rfl, eb])
    (shW_eq n _ _ _ fun i => by rw [cs, show 11 = 8 + 3 from rfl, eb, show 8 + 3 + 1 = 8 + 4 from rfl, eb]) (shW_eq n _ _ _ fun i => by rw [cs, show 12 = 8 + 4 from rfl, eb, show 8 + 4 + 1 = 8 + 5 from rfl, eb]) (shW_eq n _ _ _ fun i => by rw [cs, show 13 = 8 + 5 from rfl, eb, show 8 + 5 + 1 = 8 + 6 from rfl, eb]) (shW_eq n _ _ _ fun i => by rw [cs, show 14 = 8 + 6 from rfl, eb, show 8 + 6 + 1 = 8 + 7 from rfl, eb])).trans ?_
  unfold wdS
  dsimp only
  refine (cmpV_at n (fun i => cmpW st0 (wordAt (1 :: (a i ++ b i)))) (fun i => wordAt ((1 :: (a i ++ b i)).drop 64 ++ padding 1 65)) K rfl rfl rfl rfl rfl rfl rfl rfl
    (last_eq n _ _ fun i => by rw [c1, show 16 + 0 = 15 + 1 from rfl, wordAt_cons, eL i 15 (by decide), show 15 + 1 = 16 + 0 from rfl, eR, show 15 = 8 + 7 from rfl, eb]; rfl)
    (wd_nul n _ fun i => cw i 0) (wd_nul n _ fun i => cw i 1) (wd_nul n _ fun i => cw i 2) (wd_nul n _ fun i => cw i 3) (wd_nul n _ fun i => cw i 4) (wd_nul n _ fun i => cw i 5) (wd_nul n _ fun i => cw i 6) (wd_nul n _ fun i => cw i 7)
    (wd_nul n _ fun i => cw i 8) (wd_nul n _ fun i => cw i 9) (wd_nul n _ fun i => cw i 10) (wd_nul n _ fun i => cw i 11) (wd_nul n _ fun i => cw i 12) (wd_nul n _ fun i => cw i 13) (wd_cst n _ _ 520#32 rfl fun i => cw i 14)).trans ?_
  exact wdS_out n _ (fun i => nodeH (a i) (b i)) K hsh
def seedB (v : Nat) : Bs := sha (tCase ++ putB 8 v)
theorem seedV_eq (v : Nat → Nat) (hv : ∀ i, v i < 4294967296) (K : CK) : seedV (msk n) (pack (fun _ => 1) n) (pack v n) K = wd8 n (fun i => seedB (v i)) K := by
  have hl : ∀ i, (tCase ++ putB 8 (v i)).length = 12 := fun i => by rw [List.length_append, putB_len]; rfl
  have e8 : ∀ i, putB 8 (v i) = putB 4 0 ++ putB 4 (v i) := fun i => by
    have h := hv i
    simp only [putB]
    rw [show v i / 256 / 256 / 256 / 256 / 256 / 256 / 256 = 0 by omega, show v i / 256 / 256 / 256 / 256 / 256 / 256 = 0 by omega, show v i / 256 / 256 / 256 / 256 / 256 = 0 by omega, show v i / 256 / 256 / 256 / 256 = 0 by omega]
    simp
  have es : ∀ i, tCase ++ putB 8 (v i) ++ padding (tCase ++ putB 8 (v i)).length (tCase ++ putB 8 (v i)).length = tCase ++ (putB 4 0 ++ (putB 4 (v i) ++ padding 12 12)) := fun i => by rw [hl, e8]; simp
  have w0 : ∀ i, wordAt (tCase ++ putB 8 (v i) ++ padding (tCase ++ putB 8 (v i)).length (tCase ++ putB 8 (v i)).length) 0 = 0x63617365#32 := fun i => by rw [es, wordAt_left _ _ _ (by decide)]; decide
  have w1 : ∀ i, wordAt (tCase ++ putB 8 (v i) ++ padding (tCase ++ putB 8 (v i)).length (tCase ++ putB 8 (v i)).length) 1 = 0#32 := fun i => by rw [es, show 1 = 1 + 0 from rfl, wordAt_right _ _ 1 0 rfl, wordAt_put _ _ (by decide)]
  have w2 : ∀ i, wordAt (tCase ++ putB 8 (v i) ++ padding (tCase ++ putB 8 (v i)).length (tCase ++ putB 8 (v i)).length) 2 = BitVec.ofNat 32 (v i) := fun i => by rw [es, show 2 = 1 + (1 + 0) from rfl, wordAt_right _ _ 1 _ rfl, wordAt_right _ _ 1 0 (putB_len _ _), wordAt_put _ _ (hv i)]
  have w3 : ∀ i t, wordAt (tCase ++ putB 8 (v i) ++ padding (tCase ++ putB 8 (v i)).length (tCase ++ putB 8 (v i)).length) (1 + (1 + (1 + t))) = wordAt (padding 12 12) t := fun i t => by rw [es, wordAt_right _ _ 1 _ rfl, wordAt_right _ _ 1 _ (putB_len _ _), wordAt_right _ _ 1 t (putB_len _ _)]
  unfold seedV
  refine (iniV_at n (fun i => wordAt (tCase ++ putB 8 (v i) ++ padding (tCase ++ putB 8 (v i)).length (tCase ++ putB 8 (v i)).length)) K (wd_cst n _ _ 0x63617365#32 rfl w0) (wd_nul n _ w1)
    (pack_congr _ _ _ fun i _ => by dsimp only; rw [w2, BitVec.toNat_ofNat, Nat.mod_eq_of_lt (hv i)])
    (wd_cst n _ _ 2147483648#32 rfl fun i => w3 i 0) (wd_nul n _ fun i => w3 i 1) (wd_nul n _ fun i => w3 i 2) (wd_nul n _ fun i => w3 i 3) (wd_nul n _ fun i => w3 i 4) (wd_nul n _ fun i => w3 i 5) (wd_nul n _ fun i => w3 i 6) (wd_nul n _ fun i => w3 i 7) (wd_nul n _ fun i => w3 i 8) (wd_nul n _ fun i => w3 i 9) (wd_nul n _ fun i => w3 i 10) (wd_nul n _ fun i => w3 i 11) (wd_cst n _ _ 96#32 rfl fun i => w3 i 12)).trans ?_
  exact wdS_out n _ (fun i => seedB (v i)) K fun i => sha_one _ (by rw [hl]; omega)
theorem key0V_eq (v : Nat → Nat) (hv : ∀ i, v i < 4294967296) (K : Nat → Bool) : key0V (msk n) (pack (fun _ => 1) n) (pack v n) K = K (wd (fun i => wordAt (leafH (otPublic (seedB (v i)) 0)) 0) n) := by
  have h0 := otV_eq n (fun i => seedB (v i)) (fun i => sha_len _) 0 (by decide) (leafV (msk n) (pack (fun _ => 1) n) (fun A _ _ _ _ _ _ _ => K A))
  have l0 := leafV_eq n (fun i => otPublic (seedB (v i)) 0) (fun i => short_len _) (fun A _ _ _ _ _ _ _ => K A)
  have hs := seedV_eq n v hv (fun s0 s1 s2 s3 s4 s5 s6 s7 => otV (msk n) (pack (fun _ => 1) n) s0 s1 s2 s3 s4 s5 s6 s7 0 (leafV (msk n) (pack (fun _ => 1) n) (fun A _ _ _ _ _ _ _ => K A)))
  have e1 : key0V (msk n) (pack (fun _ => 1) n) (pack v n) K = seedV (msk n) (pack (fun _ => 1) n) (pack v n) (fun s0 s1 s2 s3 s4 s5 s6 s7 => otV (msk n) (pack (fun _ => 1) n) s0 s1 s2 s3 s4 s5 s6 s7 0 (leafV (msk n) (pack (fun _ => 1) n) (fun A _ _ _ _ _ _ _ => K A))) := rfl
  have e2 : wd8 n (fun i => leafH (otPublic (seedB (v i)) 0)) (fun A _ _ _ _ _ _ _ => K A) = K (wd (fun i => wordAt (leafH (otPublic (seedB (v i)) 0)) 0) n) := rfl
  rw [e1, hs, h0, l0]
  exact e2
theorem key1V_eq (v : Nat → Nat) (hv : ∀ i, v i < 4294967296) (K : Nat → Bool) : key1V (msk n) (pack (fun _ => 1) n) (pack v n) K = K (wd (fun i => wordAt (nodeH (leafH (otPublic (seedB (v i)) 0)) (leafH (otPublic (seedB (v i)) 1))) 0) n) := by
  have hn := nodeV_eq n (fun i => leafH (otPublic (seedB (v i)) 0)) (fun i => leafH (otPublic (seedB (v i)) 1)) (fun i => sha_len _) (fun i => sha_len _) (fun A _ _ _ _ _ _ _ => K A)
  have l1 := leafV_eq n (fun i => otPublic (seedB (v i)) 1) (fun i => short_len _)
  have l0 := leafV_eq n (fun i => otPublic (seedB (v i)) 0) (fun i => short_len _)
  have h1 := otV_eq n (fun i => seedB (v i)) (fun i => sha_len _) 1 (by decide)
  have h0 := otV_eq n (fun i => seedB (v i)) (fun i => sha_len _) 0 (by decide)
  have hs := seedV_eq n v hv
  have e1 : key1V (msk n) (pack (fun _ => 1) n) (pack v n) K = seedV (msk n) (pack (fun _ => 1) n) (pack v n) (fun s0 s1 s2 s3 s4 s5 s6 s7 => otV (msk n) (pack (fun _ => 1) n) s0 s1 s2 s3 s4 s5 s6 s7 0 fun x0 x1 x2 x3 => otV (msk n) (pack (fun _ => 1) n) s0 s1 s2 s3 s4 s5 s6 s7 1 fun y0 y1 y2 y3 =>
    leafV (msk n) (pack (fun _ => 1) n) (fun a0 a1 a2 a3 a4 a5 a6 a7 => leafV (msk n) (pack (fun _ => 1) n) (fun b0 b1 b2 b3 b4 b5 b6 b7 => nodeV (msk n) (pack (fun _ => 1) n) (fun A _ _ _ _ _ _ _ => K A) a0 a1 a2 a3 a4 a5 a6 a7 b0 b1 b2 b3 b4 b5 b6 b7) y0 y1 y2 y3) x0 x1 x2 x3) := rfl
  rw [e1, hs]
  unfold wd8
  dsimp only
  unfold wd8 at h0 h1 hn
  unfold wd4 at h0 h1
  dsimp only at h0 h1 hn
  rw [h0, h1]
  unfold wd8 at l0 l1
  unfold wd4 at l0 l1
  dsimp only at l0 l1
  rw [l0, l1, hn]
end
section
variable (n : Nat)
theorem ones_step (P M : Nat) : (P + 1 * (P * M + 1)) * M + 1 = (P * M + 1) * (M + 1) := by
  simp only [Nat.add_mul, Nat.mul_add, Nat.one_mul, Nat.mul_one]
  omega
theorem ones_pow : pack (fun _ => 1) n * 18446744073709551615 + 1 = 2 ^ (64 * n) := by
  induction n with
  | zero => rfl
  | succ n ih =>
    have h64 : 2 ^ (64 * n + 64) = 2 ^ (64 * n) * 18446744073709551616 := Nat.pow_add 2 (64 * n) 64
    rw [pack_snoc, show 64 * (n + 1) = 64 * n + 64 by omega, h64, ← ih]
    exact ones_step _ _
theorem oneV_eq : oneV n = pack (fun _ => 1) n := by
  have h := ones_pow n
  unfold oneV
  show (2 ^ (64 * n) - 1) / 18446744073709551615 = _
  rw [← h, Nat.add_sub_cancel]
  exact Nat.mul_div_cancel _ (by decide)
theorem numV_eq (O b s : Nat) : numV O b s n = pack (fun i => b + s * i) n := by
  induction n with
  | zero => rfl
  | succ n ih => rw [numV, pack_snoc, ih]; show _ + (b + s * n) <<< (64 * n) = _; rw [Nat.shiftLeft_eq]
theorem runV_eq (f : Nat → Nat → Nat → (Nat → Bool) → Bool) (b s : Nat) (K : Nat → Bool) : runV f n b s K = f (msk n) (pack (fun _ => 1) n) (pack (fun i => b + s * i) n) K := by
  unfold runV
  dsimp only
  rw [seqN_eq, oneV_eq, seqN_eq, seqN_eq, numV_eq, msk_of]
end
/-- What one lane holds. -/
theorem lane (n : Nat) (f : Nat → Nat) (hf : ∀ i, f i < 18446744073709551616) (i : Nat) (h : i < n) : (pack f n >>> (64 * i)) % 18446744073709551616 = f i := by
  apply Nat.eq_of_testBit_eq
  intro j
  rw [show (18446744073709551616 : Nat) = 2 ^ 64 from rfl, Nat.testBit_mod_two_pow, Nat.testBit_shiftRight, pack_bit n f _ hf]
  by_cases hj : j < 64
  · rw [show (64 * i + j) / 64 = i by omega, show (64 * i + j) % 64 = j by omega]; simp [hj, h]
  · rw [Nat.testBit_lt_two_pow (Nat.lt_of_lt_of_le (hf i) (Nat.pow_le_pow_right (show 2 > 0 by decide) (by omega : 64 ≤ j)))]; simp [hj]
/-- The first words of keys of the height 0, worked out. -/
theorem key0_of {n b s T : Nat} (h : runV key0V n b s (fun x => Nat.beq x T) = true) (hb : b + s * n < 4294967296) (i : Nat) (hi : i < n) : (wordAt (leafH (otPublic (seedB (b + s * i)) 0)) 0).toNat = (T >>> (64 * i)) % 18446744073709551616 := by
  rw [runV_eq] at h
  have e : pack (fun i => b + s * i) n = pack (fun i => (b + s * i) % 4294967296) n := pack_congr _ _ _ fun i hi => by
    rw [Nat.mod_eq_of_lt]
    have := Nat.mul_le_mul_left s (Nat.le_of_lt hi); omega
  rw [e, key0V_eq n (fun i => (b + s * i) % 4294967296) (fun i => Nat.mod_lt (b + s * i) (show 4294967296 > 0 by decide))] at h
  have h2 := Nat.eq_of_beq_eq_true h
  rw [← h2, wd, lane n _ (fun i => wlt _) i hi]
  rw [Nat.mod_eq_of_lt]
  have := Nat.mul_le_mul_left s (Nat.le_of_lt hi); omega
theorem key1_of {n b s T : Nat} (h : runV key1V n b s (fun x => Nat.beq x T) = true) (hb : b + s * n < 4294967296) (i : Nat) (hi : i < n) : (wordAt (nodeH (leafH (otPublic (seedB (b + s * i)) 0)) (leafH (otPublic (seedB (b + s * i)) 1))) 0).toNat = (T >>> (64 * i)) % 18446744073709551616 := by
  rw [runV_eq] at h
  have e : pack (fun i => b + s * i) n = pack (fun i => (b + s * i) % 4294967296) n := pack_congr _ _ _ fun i hi => by
    rw [Nat.mod_eq_of_lt]
    have := Nat.mul_le_mul_left s (Nat.le_of_lt hi); omega
  rw [e, key1V_eq n (fun i => (b + s * i) % 4294967296) (fun i => Nat.mod_lt (b + s * i) (show 4294967296 > 0 by decide))] at h
  have h2 := Nat.eq_of_beq_eq_true h
  rw [← h2, wd, lane n _ (fun i => wlt _) i hi]
  rw [Nat.mod_eq_of_lt]
  have := Nat.mul_le_mul_left s (Nat.le_of_lt hi); omega
/-- The first four bytes of a key, as a number. -/
def headW (b : Bs) : Nat := (wordAt b 0).toNat
theorem seedB_rand (v : Nat) (h : v < 4294967296) : seedB v = randK (v : Int) 32 := by
  unfold seedB randK
  rw [show u64 (v : Int) = v by unfold u64; omega, List.take_of_length_le (by rw [sha_len]; omega)]
theorem keyG_zero (sd : Bs) : keyG sd 0 = leafH (otPublic sd 0) := by
  unfold keyG hashesG leavesL
  exact rootG_one _
theorem keyG_one (sd : Bs) : keyG sd 1 = nodeH (leafH (otPublic sd 0)) (leafH (otPublic sd 1)) := by
  have e : hashesG sd 1 = [leafH (otPublic sd 0), leafH (otPublic sd 1)] := rfl
  unfold keyG
  rw [e, rootG_two _ (by simp)]
  have h : splitN ([leafH (otPublic sd 0), leafH (otPublic sd 1)] : List Bs).length = 1 := (show splitN 2 = 1 by decide)
  rw [h]
  show nodeH (rootG [leafH (otPublic sd 0)]) (rootG [leafH (otPublic sd 1)]) = _
  rw [rootG_one, rootG_one]
theorem key0_head {n b s T : Nat} (h : runV key0V n b s (fun x => Nat.beq x T) = true) (hb : b + s * n < 4294967296) (i : Nat) (hi : i < n) : headW (keyG (randK ((b + s * i : Nat) : Int) 32) 0) = (T >>> (64 * i)) % 18446744073709551616 := by
  have hm := Nat.mul_le_mul_left s (Nat.le_of_lt hi)
  rw [← seedB_rand _ (by omega), keyG_zero]
  exact key0_of h hb i hi
theorem key1_head {n b s T : Nat} (h : runV key1V n b s (fun x => Nat.beq x T) = true) (hb : b + s * n < 4294967296) (i : Nat) (hi : i < n) : headW (keyG (randK ((b + s * i : Nat) : Int) 32) 1) = (T >>> (64 * i)) % 18446744073709551616 := by
  have hm := Nat.mul_le_mul_left s (Nat.le_of_lt hi)
  rw [← seedB_rand _ (by omega), keyG_one]
  exact key1_of h hb i hi
end Go.Proofs.YtamdgjgommejjaaGreat.V

/- A signature looked at under many other keys, in lanes: digits, choice of a value by a digit, chains continued, and the ends hashed. No program in sight, no conditions beyond those of each theorem. -/
import Derived.Test.YtamdgjgommejjaaGreatDV
namespace Go.Proofs.YtamdgjgommejjaaGreat.V
open Go
set_option linter.unusedVariables false
/-- The ends of chains of so many steps. -/
def endsK (seed : Bs) (index : Nat) (ks : Nat → Nat) : Nat → Bs
  | 0 => []
  | n + 1 => endsK seed index ks n ++ chainH (ks n) (otBegin seed index n)
theorem endsK_len (seed : Bs) (index : Nat) (ks : Nat → Nat) (n : Nat) : (endsK seed index ks n).length = 16 * n := by
  induction n with
  | zero => rfl
  | succ n ih => rw [endsK, List.length_append, ih, chainH_len _ (otBegin seed index n) (short_len _)]; omega
theorem endsK_word (sd : Bs) (ix : Nat) (ks : Nat → Nat) : ∀ (N c j : Nat), c < N → j < 4 → wordAt (endsK sd ix ks N) (4 * c + j) = wordAt (chainH (ks c) (otBegin sd ix c)) j := by
  intro N
  induction N with
  | zero => intro c j h _; omega
  | succ N ih =>
    intro c j hc hj
    rw [endsK]
    by_cases h : c < N
    · rw [wordAt_left _ _ _ (by rw [endsK_len]; omega), ih c j h hj]
    · obtain rfl : c = N := by omega
      exact wordAt_right _ _ _ _ (by rw [endsK_len]; omega)
/-- Four words, eight words in lanes. -/
structure W4 where
  a : Nat
  b : Nat
  c : Nat
  d : Nat
structure X8 where
  a0 : Nat
  a1 : Nat
  a2 : Nat
  a3 : Nat
  a4 : Nat
  a5 : Nat
  a6 : Nat
  a7 : Nat
def seedX (M O v : Nat) (K : X8 → Bool) : Bool := seedV M O v fun a b c d e f g h => K ⟨a, b, c, d, e, f, g, h⟩
def begX (M O : Nat) (s : X8) (c : Nat) (K : W4 → Bool) : Bool :=
  iniV M O (fun A B C D _ _ _ _ => K ⟨A, B, C, D⟩) s.a0 s.a1 s.a2 s.a3 s.a4 s.a5 s.a6 s.a7 (Nat.mul 0 O) (Nat.mul (Nat.add (Nat.mul c 16777216) 8388608) O) 0 0 0 0 0 (Nat.mul 296 O)
def stX (M O : Nat) (x : W4) (K : W4 → Bool) : Bool := stepV M O (fun a b c d => K ⟨a, b, c, d⟩) x.a x.b x.c x.d
/-- A value and so many steps from it. -/
def itsX (M O : Nat) : Nat → W4 → (List W4 → Bool) → Bool
  | 0, x, K => K [x]
  | k + 1, x, K => stX M O x fun y => itsX M O k y fun l => K (x :: l)
/-- All bits where the digit is s. -/
def eqM (M O D s : Nat) : Nat := Nat.mul (Nat.xor (Nat.land (Nat.shiftRight (Nat.add (Nat.xor D (Nat.mul s O)) (Nat.mul 15 O)) 4) M) O) 4294967295
/-- The value that a digit names. -/
def selX (M O D : Nat) : List W4 → Nat → W4 → (W4 → Bool) → Bool
  | [], _, acc, K => K acc
  | x :: xs, s, acc, K => (fun m => (fun a b c d => seqN a (seqN b (seqN c (seqN d (selX M O D xs (s + 1) ⟨a, b, c, d⟩ K))))) (Nat.add acc.a (Nat.land m x.a)) (Nat.add acc.b (Nat.land m x.b)) (Nat.add acc.c (Nat.land m x.c)) (Nat.add acc.d (Nat.land m x.d))) (eqM M O D s)
section
variable (n : Nat)
def pk4 (x : Nat → Bs) : W4 := ⟨wd (fun i => wordAt (x i) 0) n, wd (fun i => wordAt (x i) 1) n, wd (fun i => wordAt (x i) 2) n, wd (fun i => wordAt (x i) 3) n⟩
def pk8 (x : Nat → Bs) : X8 := ⟨wd (fun i => wordAt (x i) 0) n, wd (fun i => wordAt (x i) 1) n, wd (fun i => wordAt (x i) 2) n, wd (fun i => wordAt (x i) 3) n, wd (fun i => wordAt (x i) 4) n, wd (fun i => wordAt (x i) 5) n, wd (fun i => wordAt (x i) 6) n, wd (fun i => wordAt (x i) 7) n⟩
theorem seedX_eq (v : Nat → Nat) (hv : ∀ i, v i < 4294967296) (K : X8 → Bool) : seedX (msk n) (pack (fun _ => 1) n) (pack v n) K = K (pk8 n fun i => seedB (v i)) := by
  unfold seedX
  rw [seedV_eq n v hv]
  rfl
theorem begX_eq (sd : Nat → Bs) (hs : ∀ i, (sd i).length = 32) (c : Nat) (hc : c < 256) (K : W4 → Bool) : begX (msk n) (pack (fun _ => 1) n) (pk8 n sd) c K = K (pk4 n fun i => otBegin (sd i) 0 c) := by
  have hl : ∀ i, (sd i ++ putB 4 0 ++ [UInt8.ofNat c]).length = 37 := fun i => by simp [hs, putB_len]
  have es : ∀ i, sd i ++ putB 4 0 ++ [UInt8.ofNat c] ++ padding (sd i ++ putB 4 0 ++ [UInt8.ofNat c]).length (sd i ++ putB 4 0 ++ [UInt8.ofNat c]).length = sd i ++ (putB 4 0 ++ (UInt8.ofNat c :: padding 37 37)) := fun i => by rw [hl]; simp
  have e0 : ∀ i t, t < 8 → wordAt (sd i ++ putB 4 0 ++ [UInt8.ofNat c] ++ padding (sd i ++ putB 4 0 ++ [UInt8.ofNat c]).length (sd i ++ putB 4 0 ++ [UInt8.ofNat c]).length) t = wordAt (sd i) t := fun i t ht => by rw [es, wordAt_left _ _ _ (by rw [hs]; omega)]
  have e8 : ∀ i, wordAt (sd i ++ putB 4 0 ++ [UInt8.ofNat c] ++ padding (sd i ++ putB 4 0 ++ [UInt8.ofNat c]).length (sd i ++ putB 4 0 ++ [UInt8.ofNat c]).length) 8 = BitVec.ofNat 32 0 := fun i => by rw [es, show 8 = 8 + 0 from rfl, wordAt_right _ _ 8 0 (hs i), wordAt_put _ _ (by decide)]
  have e9 : ∀ i t, wordAt (sd i ++ putB 4 0 ++ [UInt8.ofNat c] ++ padding (sd i ++ putB 4 0 ++ [UInt8.ofNat c]).length (sd i ++ putB 4 0 ++ [UInt8.ofNat c]).length) (8 + (1 + t)) = wordAt (UInt8.ofNat c :: padding 37 37) t := fun i t => by rw [es, wordAt_right _ _ 8 _ (hs i), wordAt_right _ _ 1 t (putB_len _ _)]
  have ec : Nat.add (Nat.mul c 16777216) 8388608 = (wordAt (UInt8.ofNat c :: padding 37 37) 0).toNat := by
    rw [show wordAt (UInt8.ofNat c :: padding 37 37) 0 = word4 (UInt8.ofNat c) 128 0 0 from rfl, word4_nat, UInt8.toNat_ofNat', Nat.mod_eq_of_lt hc]
    simp
  unfold begX pk8
  refine (iniV_at n (fun i => wordAt (sd i ++ putB 4 0 ++ [UInt8.ofNat c] ++ padding (sd i ++ putB 4 0 ++ [UInt8.ofNat c]).length (sd i ++ putB 4 0 ++ [UInt8.ofNat c]).length)) _ (wd_same n _ _ fun i => (e0 i 0 (by decide)).symm) (wd_same n _ _ fun i => (e0 i 1 (by decide)).symm) (wd_same n _ _ fun i => (e0 i 2 (by decide)).symm) (wd_same n _ _ fun i => (e0 i 3 (by decide)).symm)
    (wd_same n _ _ fun i => (e0 i 4 (by decide)).symm) (wd_same n _ _ fun i => (e0 i 5 (by decide)).symm) (wd_same n _ _ fun i => (e0 i 6 (by decide)).symm) (wd_same n _ _ fun i => (e0 i 7 (by decide)).symm)
    (wd_cst n _ _ (BitVec.ofNat 32 0) (by rfl) fun i => e8 i) (wd_cst n _ _ _ ec fun i => e9 i 0) (wd_nul n _ fun i => (e9 i 1).trans (pad37 _ 0 (by decide))) (wd_nul n _ fun i => (e9 i 2).trans (pad37 _ 1 (by decide))) (wd_nul n _ fun i => (e9 i 3).trans (pad37 _ 2 (by decide))) (wd_nul n _ fun i => (e9 i 4).trans (pad37 _ 3 (by decide))) (wd_nul n _ fun i => (e9 i 5).trans (pad37 _ 4 (by decide))) (wd_cst n _ _ 296#32 rfl fun i => (e9 i 6).trans (pad37b _))).trans ?_
  refine (wdS_out n _ (fun i => sha (sd i ++ putB 4 0 ++ [UInt8.ofNat c])) _ fun i => sha_one _ (by rw [hl]; omega)).trans ?_
  exact wd8_short n _ (fun i => otBegin (sd i) 0 c) (fun a b c d => K ⟨a, b, c, d⟩) fun i => rfl
theorem stX_eq (x : Nat → Bs) (hx : ∀ i, (x i).length = 16) (K : W4 → Bool) : stX (msk n) (pack (fun _ => 1) n) (pk4 n x) K = K (pk4 n fun i => short (x i)) :=
  stepV_eq n x hx fun a b c d => K ⟨a, b, c, d⟩
theorem itsX_eq : ∀ (k : Nat) (x : Nat → Bs) (K : List W4 → Bool), (∀ i, (x i).length = 16) → itsX (msk n) (pack (fun _ => 1) n) k (pk4 n x) K = K ((List.range (k + 1)).map fun s => pk4 n fun i => chainH s (x i)) := by
  intro k
  induction k with
  | zero => intro x K hx; rfl
  | succ k ih =>
    intro x K hx
    have e : (List.range (k + 1 + 1)).map (fun s => pk4 n fun i => chainH s (x i)) = pk4 n x :: (List.range (k + 1)).map (fun s => pk4 n fun i => chainH s (short (x i))) := by
      rw [List.range_succ_eq_map, List.map_cons, List.map_map]
      refine congrArg (List.cons (pk4 n x)) (List.map_congr_left fun s _ => ?_)
      have h : ∀ i, chainH (s + 1) (x i) = chainH s (short (x i)) := fun i => by
        have := chainH_add s 1 (x i)
        rw [show 1 + s = s + 1 by omega] at this
        exact this.symm
      show pk4 n (fun i => chainH (s + 1) (x i)) = _
      rw [funext h]
    rw [itsX, stX_eq n x hx, ih _ _ fun i => short_len _, e]
theorem eq_digit : ∀ d, d < 16 → ∀ s, s < 16 → (((d ^^^ s) + 15) >>> 4 ^^^ 1) * 4294967295 = if d = s then 4294967295 else 0 := by decide
theorem small_digit : ∀ d, d < 16 → ∀ s, s < 16 → d ^^^ s < 16 := by decide
theorem eqM_eq (d : Nat → Nat) (hd : ∀ i, d i < 16) (s : Nat) (hs : s < 16) : eqM (msk n) (pack (fun _ => 1) n) (pack d n) s = pack (fun i => if d i = s then 4294967295 else 0) n := by
  unfold eqM
  have hz : ∀ i, d i ^^^ s < 16 := fun i => small_digit _ (hd i) _ hs
  rw [pack_kmul, pack_kmul, pack_xor n _ _ (fun i => by have := hd i; omega) (fun i => by omega), pack_add]
  simp only [Nat.mul_one]
  rw [pack_shr n 4 (by decide) _ (fun i => by have := hz i; omega), pack_xor n _ _ (fun i => by have := Nat.mod_lt (((d i ^^^ s) + 15) >>> 4) (show 0 < 4294967296 by decide); omega) (fun i => by decide), pack_mul]
  refine pack_congr _ _ _ fun i _ => ?_
  have h1 : ((d i ^^^ s) + 15) >>> 4 < 4294967296 := by rw [Nat.shiftRight_eq_div_pow]; have := hz i; omega
  rw [Nat.mod_eq_of_lt h1]
  exact eq_digit _ (hd i) _ hs
theorem land_mask (b : Bool) (x : Wd) : (if b then 4294967295 else 0) &&& x.toNat = if b then x.toNat else 0 := by
  cases b with
  | false => simp
  | true =>
    have h : (4294967295 : Nat) = 2 ^ 32 - 1 := rfl
    simp only [if_true]
    rw [Nat.and_comm, h, Nat.and_two_pow_sub_one_eq_mod, Nat.mod_eq_of_lt x.isLt]
theorem sel_word (d : Nat → Nat) (hd : ∀ i, d i < 16) (s : Nat) (hs : s < 16) (x : Nat → Nat → Wd) :
    Nat.add (pack (fun i => if d i < s then (x (d i) i).toNat else 0) n) (Nat.land (eqM (msk n) (pack (fun _ => 1) n) (pack d n) s) (wd (x s) n)) = pack (fun i => if d i < s + 1 then (x (d i) i).toNat else 0) n := by
  rw [eqM_eq n d hd s hs, wd, pack_land n _ _ (fun i => by split <;> decide) (fun i => wlt _), pack_add]
  refine pack_congr _ _ _ fun i _ => ?_
  have h := land_mask (decide (d i = s)) (x s i)
  simp only [decide_eq_true_eq] at h
  rw [h]
  by_cases h1 : d i < s
  · rw [if_pos h1, if_neg (by omega), if_pos (by omega), Nat.add_zero]
  · by_cases h2 : d i = s
    · rw [if_neg h1, if_pos h2, if_pos (by omega), h2, Nat.zero_add]
    · rw [if_neg h1, if_neg h2, if_neg (by omega)]
theorem selX_go (d : Nat → Nat) (hd : ∀ i, d i < 16) (x : Nat → Nat → Bs) (K : W4 → Bool) : ∀ (m s : Nat), s + m ≤ 16 →
    selX (msk n) (pack (fun _ => 1) n) (pack d n) ((List.range' s m).map fun t => pk4 n (x t)) s ⟨pack (fun i => if d i < s then (wordAt (x (d i) i) 0).toNat else 0) n, pack (fun i => if d i < s then (wordAt (x (d i) i) 1).toNat else 0) n, pack (fun i => if d i < s then (wordAt (x (d i) i) 2).toNat else 0) n, pack (fun i => if d i < s then (wordAt (x (d i) i) 3).toNat else 0) n⟩ K =
      K ⟨pack (fun i => if d i < s + m then (wordAt (x (d i) i) 0).toNat else 0) n, pack (fun i => if d i < s + m then (wordAt (x (d i) i) 1).toNat else 0) n, pack (fun i => if d i < s + m then (wordAt (x (d i) i) 2).toNat else 0) n, pack (fun i => if d i < s + m then (wordAt (x (d i) i) 3).toNat else 0) n⟩ := by
  intro m
  induction m with
  | zero => intro s hs; rfl
  | succ m ih =>
    intro s hs
    rw [List.range'_succ, List.map_cons, selX]
    dsimp only [pk4]
    rw [sel_word n d hd s (by omega) (fun t i => wordAt (x t i) 0), sel_word n d hd s (by omega) (fun t i => wordAt (x t i) 1), sel_word n d hd s (by omega) (fun t i => wordAt (x t i) 2), sel_word n d hd s (by omega) (fun t i => wordAt (x t i) 3), seqN_eq, seqN_eq, seqN_eq, seqN_eq]
    have h := ih (s + 1) (by omega)
    rw [show s + 1 + m = s + (m + 1) by omega] at h
    exact h
theorem pack_zero : pack (fun _ => 0) n = 0 := by
  have := wd_zero n
  unfold wd at this
  exact this
theorem selX_eq (d : Nat → Nat) (hd : ∀ i, d i < 16) (x : Nat → Nat → Bs) (K : W4 → Bool) :
    selX (msk n) (pack (fun _ => 1) n) (pack d n) ((List.range 16).map fun t => pk4 n (x t)) 0 ⟨0, 0, 0, 0⟩ K = K (pk4 n fun i => x (d i) i) := by
  have h := selX_go n d hd x K 16 0 (by decide)
  have hz : ∀ j, pack (fun i => if d i < 0 then (wordAt (x (d i) i) j).toNat else 0) n = 0 := fun j => (pack_congr n _ (fun _ => 0) fun i _ => if_neg (Nat.not_lt_zero _)).trans (pack_zero n)
  have hf : ∀ j, pack (fun i => if d i < 0 + 16 then (wordAt (x (d i) i) j).toNat else 0) n = wd (fun i => wordAt (x (d i) i) j) n := fun j => pack_congr _ _ _ fun i _ => if_pos (by have := hd i; omega)
  rw [hz, hz, hz, hz, hf, hf, hf, hf] at h
  rw [List.range_eq_range']
  exact h
end
end Go.Proofs.YtamdgjgommejjaaGreat.V

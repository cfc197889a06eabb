/- Digits of digests in lanes, tables of chains, ends chosen by digits, and what they hash to. No program in sight, no conditions beyond those of each theorem. -/
import Derived.Test.YtamdgjgommejjaaGreatDVD
namespace Go.Proofs.YtamdgjgommejjaaGreat.V
open Go
set_option linter.unusedVariables false
def nibX (M O X s : Nat) : Nat := Nat.land (Nat.land (Nat.shiftRight X s) M) (Nat.mul 15 O)
def sumX (O : Nat) : List Nat → Nat → Nat
  | [], a => a
  | D :: l, a => sumX O l (Nat.add a (Nat.xor D (Nat.mul 15 O)))
def digX (M O : Nat) (x : W4) : List Nat := [x.a, x.b, x.c, x.d].flatMap fun X => [28, 24, 20, 16, 12, 8, 4, 0].map fun s => nibX M O X s
def ddX (M O : Nat) (x : W4) : List Nat := (fun l => l ++ (fun S => [nibX M O S 8, nibX M O S 4, nibX M O S 0]) (sumX O l 0)) (digX M O x)
def eeX (M O : Nat) (x : W4) : List Nat := (ddX M O x).map fun D => Nat.xor D (Nat.mul 15 O)
/-- Per chain: 16 values from the one that the signature shows. -/
def tabX (M O : Nat) (s : X8) : List Nat → Nat → (List (List W4) → Bool) → Bool
  | [], _, K => K []
  | d :: ds, c, K => seqN d (begX M O s c fun b => itsX M O 15 b fun l => selX M O d l 0 ⟨0, 0, 0, 0⟩ fun y => itsX M O 15 y fun t => tabX M O s ds (c + 1) fun r => K (t :: r))
def zipX (M O : Nat) : List Nat → List (List W4) → (List W4 → Bool) → Bool
  | e :: es, t :: ts, K => seqN e (selX M O e t 0 ⟨0, 0, 0, 0⟩ fun z => zipX M O es ts fun r => K (z :: r))
  | _, _, K => K []
def blksX (M O : Nat) (zs : List W4) (K : CK) : Nat → Nat → CK
  | 0, _ => K
  | m + 1, c => fun a b d e f g h j =>
    (fun x y z u : W4 => cmpV M O a b d e f g h j (blksX M O zs K m (c + 4)) x.a x.b x.c x.d y.a y.b y.c y.d z.a z.b z.c z.d u.a u.b u.c u.d) (zs.getD c ⟨0, 0, 0, 0⟩) (zs.getD (c + 1) ⟨0, 0, 0, 0⟩) (zs.getD (c + 2) ⟨0, 0, 0, 0⟩) (zs.getD (c + 3) ⟨0, 0, 0, 0⟩)
def endX (M O : Nat) (zs : List W4) (K : W4 → Bool) : Bool :=
  blksX M O zs (fun a b d e f g h j => (fun x y z : W4 => cmpV M O a b d e f g h j (fun A B C D _ _ _ _ => K ⟨A, B, C, D⟩) x.a x.b x.c x.d y.a y.b y.c y.d z.a z.b z.c z.d (Nat.mul 2147483648 O) 0 0 (Nat.mul 4480 O)) (zs.getD 32 ⟨0, 0, 0, 0⟩) (zs.getD 33 ⟨0, 0, 0, 0⟩) (zs.getD 34 ⟨0, 0, 0, 0⟩)) 8 0
    (Nat.mul 0x6a09e667 O) (Nat.mul 0xbb67ae85 O) (Nat.mul 0x3c6ef372 O) (Nat.mul 0xa54ff53a O) (Nat.mul 0x510e527f O) (Nat.mul 0x9b05688c O) (Nat.mul 0x1f83d9ab O) (Nat.mul 0x5be0cd19 O)
theorem nib_word (d : Bs) (h : d.length = 16) (q : Nat) (hq : q < 32) : (digs d).getD q 0 = ((wordAt d (q / 8)).toNat >>> (28 - 4 * (q % 8))) % 16 := by
  match d, h with
  | [b0, b1, b2, b3, b4, b5, b6, b7, b8, b9, b10, b11, b12, b13, b14, b15], _ =>
    have h0 := b0.toNat_lt; have h1 := b1.toNat_lt; have h2 := b2.toNat_lt; have h3 := b3.toNat_lt; have h4 := b4.toNat_lt; have h5 := b5.toNat_lt; have h6 := b6.toNat_lt; have h7 := b7.toNat_lt
    have h8 := b8.toNat_lt; have h9 := b9.toNat_lt; have h10 := b10.toNat_lt; have h11 := b11.toNat_lt; have h12 := b12.toNat_lt; have h13 := b13.toNat_lt; have h14 := b14.toNat_lt; have h15 := b15.toNat_lt
    have w0 : wordAt [b0, b1, b2, b3, b4, b5, b6, b7, b8, b9, b10, b11, b12, b13, b14, b15] 0 = word4 b0 b1 b2 b3 := rfl
    have w1 : wordAt [b0, b1, b2, b3, b4, b5, b6, b7, b8, b9, b10, b11, b12, b13, b14, b15] 1 = word4 b4 b5 b6 b7 := rfl
    have w2 : wordAt [b0, b1, b2, b3, b4, b5, b6, b7, b8, b9, b10, b11, b12, b13, b14, b15] 2 = word4 b8 b9 b10 b11 := rfl
    have w3 : wordAt [b0, b1, b2, b3, b4, b5, b6, b7, b8, b9, b10, b11, b12, b13, b14, b15] 3 = word4 b12 b13 b14 b15 := rfl
    have hc : ∀ q, q < 32 → ∃ t r, q = 8 * t + r ∧ t < 4 ∧ r < 8 := fun q hq => ⟨q / 8, q % 8, by omega, by omega, by omega⟩
    obtain ⟨t, r, rfl, ht, hr⟩ := hc q hq
    rw [show (8 * t + r) / 8 = t by omega, show (8 * t + r) % 8 = r by omega]
    rcases (by omega : t = 0 ∨ t = 1 ∨ t = 2 ∨ t = 3) with rfl | rfl | rfl | rfl
    · rw [w0, word4_nat, Nat.shiftRight_eq_div_pow]
      rcases (by omega : r = 0 ∨ r = 1 ∨ r = 2 ∨ r = 3 ∨ r = 4 ∨ r = 5 ∨ r = 6 ∨ r = 7) with rfl | rfl | rfl | rfl | rfl | rfl | rfl | rfl
      · show b0.toNat / 16 = _; omega
      · show b0.toNat % 16 = _; omega
      · show b1.toNat / 16 = _; omega
      · show b1.toNat % 16 = _; omega
      · show b2.toNat / 16 = _; omega
      · show b2.toNat % 16 = _; omega
      · show b3.toNat / 16 = _; omega
      · show b3.toNat % 16 = _; omega
    · rw [w1, word4_nat, Nat.shiftRight_eq_div_pow]
      rcases (by omega : r = 0 ∨ r = 1 ∨ r = 2 ∨ r = 3 ∨ r = 4 ∨ r = 5 ∨ r = 6 ∨ r = 7) with rfl | rfl | rfl | rfl | rfl | rfl | rfl | rfl
      · show b4.toNat / 16 = _; omega
      · show b4.toNat % 16 = _; omega
      · show b5.toNat / 16 = _; omega
      · show b5.toNat % 16 = _; omega
      · show b6.toNat / 16 = _; omega
      · show b6.toNat % 16 = _; omega
      · show b7.toNat / 16 = _; omega
      · show b7.toNat % 16 = _; omega
    · rw [w2, word4_nat, Nat.shiftRight_eq_div_pow]
      rcases (by omega : r = 0 ∨ r = 1 ∨ r = 2 ∨ r = 3 ∨ r = 4 ∨ r = 5 ∨ r = 6 ∨ r = 7) with rfl | rfl | rfl | rfl | rfl | rfl | rfl | rfl
      · show b8.toNat / 16 = _; omega
      · show b8.toNat % 16 = _; omega
      · show b9.toNat / 16 = _; omega
      · show b9.toNat % 16 = _; omega
      · show b10.toNat / 16 = _; omega
      · show b10.toNat % 16 = _; omega
      · show b11.toNat / 16 = _; omega
      · show b11.toNat % 16 = _; omega
    · rw [w3, word4_nat, Nat.shiftRight_eq_div_pow]
      rcases (by omega : r = 0 ∨ r = 1 ∨ r = 2 ∨ r = 3 ∨ r = 4 ∨ r = 5 ∨ r = 6 ∨ r = 7) with rfl | rfl | rfl | rfl | rfl | rfl | rfl | rfl
      · show b12.toNat / 16 = _; omega
      · show b12.toNat % 16 = _; omega
      · show b13.toNat / 16 = _; omega
      · show b13.toNat % 16 = _; omega
      · show b14.toNat / 16 = _; omega
      · show b14.toNat % 16 = _; omega
      · show b15.toNat / 16 = _; omega
      · show b15.toNat % 16 = _; omega
theorem digA_range (d : Bs) (h : d.length = 16) : digA d = (List.range 32).map fun q => (digs d).getD q 0 := by
  have hl : (digA d).length = 32 := by rw [digA_len, h]
  refine List.ext_getElem? fun q => ?_
  rw [List.getElem?_map]
  by_cases hq : q < 32
  · rw [List.getElem?_range hq, List.getElem?_eq_getElem (by omega), Option.map_some]
    unfold digs
    rw [List.getD_eq_getElem?_getD, List.getElem?_append_left (by omega), List.getElem?_eq_getElem (by omega)]
    rfl
  · rw [List.getElem?_eq_none (by omega), List.getElem?_eq_none (by rw [List.length_range]; omega)]
    rfl
theorem and15 (x : Nat) : x &&& 15 = x % 16 := by
  have h := Nat.and_two_pow_sub_one_eq_mod x 4
  exact h
theorem xor15 : ∀ d, d < 16 → d ^^^ 15 = 15 - d := by decide
section
variable (n : Nat)
theorem nibX_eq (f : Nat → Nat) (hf : ∀ i, f i < 2 ^ 64) (s : Nat) (hs : s ≤ 32) : nibX (msk n) (pack (fun _ => 1) n) (pack f n) s = pack (fun i => (f i >>> s) % 16) n := by
  unfold nibX
  rw [pack_shr n s hs f hf, pack_kmul, pack_land n _ _ (fun i => by have := Nat.mod_lt (f i >>> s) (show 0 < 4294967296 by decide); omega) (fun i => by decide)]
  refine pack_congr _ _ _ fun i _ => ?_
  show (f i >>> s) % 4294967296 &&& 15 = _
  rw [and15]
  omega
theorem sumX_eq (fs : List (Nat → Nat)) : ∀ (acc : Nat → Nat), (∀ f ∈ fs, ∀ i, f i < 16) → sumX (pack (fun _ => 1) n) (fs.map fun f => pack f n) (pack acc n) = pack (fun i => acc i + (fs.map fun f => 15 - f i).sum) n := by
  induction fs with
  | nil => intro acc _; exact pack_congr _ _ _ fun i _ => by simp
  | cons f fs ih =>
    intro acc hf
    have h0 := hf f (by simp)
    rw [List.map_cons, sumX, pack_kmul, pack_xor n _ _ (fun i => by have := h0 i; omega) (fun i => by decide), pack_add, ih _ fun g hg => hf g (by simp [hg])]
    refine pack_congr _ _ _ fun i _ => ?_
    rw [List.map_cons, List.sum_cons, Nat.mul_one, xor15 _ (h0 i)]
    omega
theorem digX_eq (y : Nat → Bs) (hy : ∀ i, (y i).length = 16) : digX (msk n) (pack (fun _ => 1) n) (pk4 n y) = (List.range 32).map fun q => pack (fun i => (digs (y i)).getD q 0) n := by
  have hw : ∀ j s, s ≤ 32 → nibX (msk n) (pack (fun _ => 1) n) (wd (fun i => wordAt (y i) j) n) s = pack (fun i => ((wordAt (y i) j).toNat >>> s) % 16) n := fun j s hs => nibX_eq n _ (fun i => wlt _) s hs
  have hq : ∀ q, q < 32 → pack (fun i => (digs (y i)).getD q 0) n = nibX (msk n) (pack (fun _ => 1) n) (wd (fun i => wordAt (y i) (q / 8)) n) (28 - 4 * (q % 8)) := fun q hq => by
    rw [hw _ _ (by omega)]
    exact pack_congr _ _ _ fun i _ => nib_word _ (hy i) q hq
  have h : (List.range 32).map (fun q => pack (fun i => (digs (y i)).getD q 0) n) = (List.range 32).map fun q => nibX (msk n) (pack (fun _ => 1) n) (wd (fun i => wordAt (y i) (q / 8)) n) (28 - 4 * (q % 8)) := List.map_congr_left fun q h => hq q (List.mem_range.1 h)
  rw [h]
  rfl
theorem digs_sum (d : Bs) (h : d.length = 16) : sumD (digA d) = ((List.range 32).map fun q => 15 - (digs d).getD q 0).sum := by
  unfold sumD
  rw [digA_range d h, List.map_map]
  rfl
theorem ddX_eq (y : Nat → Bs) (hy : ∀ i, (y i).length = 16) : ddX (msk n) (pack (fun _ => 1) n) (pk4 n y) = (List.range 35).map fun c => pack (fun i => (digs (y i)).getD c 0) n := by
  have hlt : ∀ q i, q < 35 → (digs (y i)).getD q 0 < 16 := fun q i hq => digs_get _ (hy i) q hq
  have hs : sumX (pack (fun _ => 1) n) (digX (msk n) (pack (fun _ => 1) n) (pk4 n y)) 0 = pack (fun i => sumD (digA (y i))) n := by
    have h := sumX_eq n ((List.range 32).map fun q i => (digs (y i)).getD q 0) (fun _ => 0) (fun f hf i => by
      obtain ⟨q, hq, rfl⟩ := List.mem_map.1 hf
      exact hlt q i (by have := List.mem_range.1 hq; omega))
    rw [List.map_map, pack_zero] at h
    rw [digX_eq n y hy]
    refine Eq.trans h (pack_congr _ _ _ fun i _ => ?_)
    rw [Nat.zero_add, digs_sum _ (hy i), List.map_map]
    rfl
  have hle : ∀ i, sumD (digA (y i)) ≤ 480 := fun i => by have := sumD_le (digA (y i)); rw [digA_len, hy i] at this; omega
  unfold ddX
  dsimp only
  rw [hs, digX_eq n y hy, nibX_eq n _ (fun i => by have := hle i; omega) 8 (by decide), nibX_eq n _ (fun i => by have := hle i; omega) 4 (by decide), nibX_eq n _ (fun i => by have := hle i; omega) 0 (by decide)]
  have hr : List.range 35 = List.range 32 ++ [32, 33, 34] := rfl
  rw [hr, List.map_append]
  congr 1
  have hg : ∀ i, (digs (y i)).getD 32 0 = sumD (digA (y i)) / 256 ∧ (digs (y i)).getD 33 0 = sumD (digA (y i)) / 16 % 16 ∧ (digs (y i)).getD 34 0 = sumD (digA (y i)) % 16 := fun i => by
    have hl : (digA (y i)).length = 32 := by rw [digA_len, hy i]
    unfold digs
    refine ⟨?_, ?_, ?_⟩
    · rw [List.getD_eq_getElem?_getD, List.getElem?_append_right (by omega), hl]; rfl
    · rw [List.getD_eq_getElem?_getD, List.getElem?_append_right (by omega), hl]; rfl
    · rw [List.getD_eq_getElem?_getD, List.getElem?_append_right (by omega), hl]; rfl
  have g0 : pack (fun i => (sumD (digA (y i)) >>> 8) % 16) n = pack (fun i => (digs (y i)).getD 32 0) n := pack_congr _ _ _ fun i _ => by rw [(hg i).1, Nat.shiftRight_eq_div_pow]; have := hle i; omega
  have g1 : pack (fun i => (sumD (digA (y i)) >>> 4) % 16) n = pack (fun i => (digs (y i)).getD 33 0) n := pack_congr _ _ _ fun i _ => by rw [(hg i).2.1, Nat.shiftRight_eq_div_pow]
  have g2 : pack (fun i => (sumD (digA (y i)) >>> 0) % 16) n = pack (fun i => (digs (y i)).getD 34 0) n := pack_congr _ _ _ fun i _ => by rw [(hg i).2.2]; rfl
  rw [g0, g1, g2]
  rfl
theorem eeX_eq (y : Nat → Bs) (hy : ∀ i, (y i).length = 16) : eeX (msk n) (pack (fun _ => 1) n) (pk4 n y) = (List.range 35).map fun c => pack (fun i => 15 - (digs (y i)).getD c 0) n := by
  unfold eeX
  rw [ddX_eq n y hy, List.map_map]
  refine List.map_congr_left fun c hc => ?_
  have hlt : ∀ i, (digs (y i)).getD c 0 < 16 := fun i => digs_get _ (hy i) c (List.mem_range.1 hc)
  show Nat.xor (pack (fun i => (digs (y i)).getD c 0) n) (Nat.mul 15 (pack (fun _ => 1) n)) = _
  rw [pack_kmul, pack_xor n _ _ (fun i => by have := hlt i; omega) (fun i => by decide)]
  exact pack_congr _ _ _ fun i _ => by rw [Nat.mul_one, xor15 _ (hlt i)]
theorem its15 (x : Nat → Bs) (K : List W4 → Bool) (hx : ∀ i, (x i).length = 16) : itsX (msk n) (pack (fun _ => 1) n) 15 (pk4 n x) K = K ((List.range 16).map fun s => pk4 n fun i => chainH s (x i)) := itsX_eq n 15 x K hx
theorem tabX_eq (sd : Nat → Bs) (hs : ∀ i, (sd i).length = 32) (dd : Nat → Nat → Nat) (hd : ∀ c i, c < 35 → dd c i < 16) : ∀ (m c : Nat) (K : List (List W4) → Bool), c + m ≤ 35 →
    tabX (msk n) (pack (fun _ => 1) n) (pk8 n sd) ((List.range' c m).map fun c => pack (dd c) n) c K = K ((List.range' c m).map fun c => (List.range 16).map fun s => pk4 n fun i => chainH (dd c i + s) (otBegin (sd i) 0 c)) := by
  intro m
  induction m with
  | zero => intro c K _; rfl
  | succ m ih =>
    intro c K hc
    have e : (List.range 16).map (fun s => pk4 n fun i => chainH s (chainH (dd c i) (otBegin (sd i) 0 c))) = (List.range 16).map (fun s => pk4 n fun i => chainH (dd c i + s) (otBegin (sd i) 0 c)) :=
      List.map_congr_left fun s _ => congrArg (pk4 n) (funext fun i => chainH_add s (dd c i) _)
    rw [List.range'_succ, List.map_cons, List.map_cons, tabX, seqN_eq, begX_eq n sd hs c (by omega), its15 n (fun i => otBegin (sd i) 0 c) _ (fun i => short_len _), selX_eq n (dd c) (fun i => hd c i (by omega)) (fun s i => chainH s (otBegin (sd i) 0 c)), its15 n (fun i => chainH (dd c i) (otBegin (sd i) 0 c)) _ (fun i => chainH_len _ (otBegin (sd i) 0 c) (short_len _)), ih (c + 1) _ (by omega)]
    rw [e]
theorem zipX_eq (sd : Nat → Bs) (dd ee : Nat → Nat → Nat) (he : ∀ c i, c < 35 → ee c i < 16) : ∀ (m c : Nat) (K : List W4 → Bool), c + m ≤ 35 →
    zipX (msk n) (pack (fun _ => 1) n) ((List.range' c m).map fun c => pack (ee c) n) ((List.range' c m).map fun c => (List.range 16).map fun s => pk4 n fun i => chainH (dd c i + s) (otBegin (sd i) 0 c)) K = K ((List.range' c m).map fun c => pk4 n fun i => chainH (dd c i + ee c i) (otBegin (sd i) 0 c)) := by
  intro m
  induction m with
  | zero => intro c K _; rfl
  | succ m ih =>
    intro c K hc
    rw [List.range'_succ, List.map_cons, List.map_cons, List.map_cons, zipX, seqN_eq, selX_eq n (ee c) (fun i => he c i (by omega)) (fun s i => chainH (dd c i + s) (otBegin (sd i) 0 c)), ih (c + 1) _ (by omega)]
end
end Go.Proofs.YtamdgjgommejjaaGreat.V

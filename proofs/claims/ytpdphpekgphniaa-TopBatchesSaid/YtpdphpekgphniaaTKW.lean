/- Trees of up to nine leaves of 20 bytes that follow from a number, worked out in lanes for 1000 numbers: another leaf at a place makes another root. No conditions, no program in sight. -/
import Derived.Test.YtpdphpekgphniaaTKV
import Derived.Test.YtpdphpekgphniaaTKA
import Derived.KernelRfl
namespace Go.Proofs.Ytpdphpekgphniaa.V
open Go
set_option linter.unusedVariables false
/-- Ones in n lanes. -/
def oneV (n : Nat) : Nat := Nat.div (Nat.sub (Nat.pow 2 (Nat.mul 64 n)) 1) 18446744073709551615
/-- The numbers b, b + s, .. -/
def numV (O b s : Nat) : Nat → Nat
  | 0 => 0
  | n + 1 => Nat.add (numV O b s n) (Nat.shiftLeft (Nat.add b (Nat.mul s n)) (Nat.mul 64 n))
section
variable (n : Nat)
theorem ones_step (P M : Nat) : (P + 1 * (P * M + 1)) * M + 1 = (P * M + 1) * (M + 1) := by
  simp only [Nat.add_mul, Nat.mul_add, Nat.one_mul, Nat.mul_one]
  omega
theorem ones_pow : pack (fun _ => 1) n * 18446744073709551615 + 1 = 2 ^ (64 * n) := by
  induction n with
  | zero => rfl
  | succ n ih =>
    have h64 : 2 ^ (64 * n + 64) = 2 ^ (64 * n) * 18446744073709551616 := Nat.pow_add 2 (64 * n) 64
    rw [pack_snoc, show 64 * (n + 1) = 64 * n + 64 by omega, h64, ← ih]
    exact ones_step _ _
theorem oneV_eq : oneV n = pack (fun _ => 1) n := by
  have h := ones_pow n
  unfold oneV
  show (2 ^ (64 * n) - 1) / 18446744073709551615 = _
  rw [← h, Nat.add_sub_cancel]
  exact Nat.mul_div_cancel _ (by decide)
theorem numV_eq (O b s : Nat) : numV O b s n = pack (fun i => b + s * i) n := by
  induction n with
  | zero => rfl
  | succ n ih => rw [numV, pack_snoc, ih]; show _ + (b + s * n) <<< (64 * n) = _; rw [Nat.shiftLeft_eq]
end
/-- What one lane holds. -/
theorem lane (n : Nat) (f : Nat → Nat) (hf : ∀ i, f i < 18446744073709551616) (i : Nat) (h : i < n) : (pack f n >>> (64 * i)) % 18446744073709551616 = f i := by
  apply Nat.eq_of_testBit_eq
  intro j
  rw [show (18446744073709551616 : Nat) = 2 ^ 64 from rfl, Nat.testBit_mod_two_pow, Nat.testBit_shiftRight, pack_bit n f _ hf]
  by_cases hj : j < 64
  · rw [show (64 * i + j) / 64 = i by omega, show (64 * i + j) % 64 = j by omega]; simp [hj, h]
  · rw [Nat.testBit_lt_two_pow (Nat.lt_of_lt_of_le (hf i) (Nat.pow_le_pow_right (show 2 > 0 by decide) (by omega : 64 ≤ j)))]; simp [hj]
/-- Eight words in lanes. -/
structure W8 where
  a0 : Nat
  a1 : Nat
  a2 : Nat
  a3 : Nat
  a4 : Nat
  a5 : Nat
  a6 : Nat
  a7 : Nat
/-- The bytes of a number: the hash of which a leaf is cut. -/
def lwV (M O v : Nat) (K : CK) : Bool := iniV M O K 0 v 0 (Nat.mul 2147483648 O) 0 0 0 0 0 0 0 0 0 0 0 (Nat.mul 96 O)
/-- The hash of a leaf of 20 bytes. -/
def leaf20V (M O : Nat) (K : CK) : CK := fun x0 x1 x2 x3 x4 _ _ _ =>
  iniV M O K (Nat.land (Nat.shiftRight x0 8) M) (shW M x0 x1) (shW M x1 x2) (shW M x2 x3) (shW M x3 x4) (Nat.land (Nat.add (Nat.mul x4 16777216) (Nat.mul 8388608 O)) M) 0 0 0 0 0 0 0 0 0 (Nat.mul 168 O)
def lfW (M O v : Nat) (K : W8 → Bool) : Bool := lwV M O v (leaf20V M O fun a b c d e f g h => K ⟨a, b, c, d, e, f, g, h⟩)
def nodeW (M O : Nat) (x y : W8) (K : W8 → Bool) : Bool := nodeV M O (fun a b c d e f g h => K ⟨a, b, c, d, e, f, g, h⟩) x.a0 x.a1 x.a2 x.a3 x.a4 x.a5 x.a6 x.a7 y.a0 y.a1 y.a2 y.a3 y.a4 y.a5 y.a6 y.a7
/-- All lanes differ. -/
def neqV (M O x y : Nat) : Bool := Nat.beq (Nat.land (Nat.shiftRight (Nat.add (Nat.xor x y) (Nat.mul O 4294967295)) 32) M) O
/-- The root of a tree in lanes. -/
def rootV (M O : Nat) : Nat → List W8 → (W8 → Bool) → Bool
  | 0, _, _ => false
  | _ + 1, [], _ => false
  | _ + 1, [x], K => K x
  | f + 1, x :: y :: r, K => rootV M O f ((x :: y :: r).take (splitN (r.length + 2))) fun a => rootV M O f ((x :: y :: r).drop (splitN (r.length + 2))) fun b => nodeW M O a b K
def hsW (h : List W8) (n : Nat) : List W8 := (List.range n).map fun c => h.getD (c % 7) ⟨0, 0, 0, 0, 0, 0, 0, 0⟩
/-- All other leaves at all places. -/
def chkV (M O : Nat) (h : List W8) (n : Nat) (is : List Nat) : Bool :=
  rootV M O n (hsW h n) fun old => is.all fun i => (List.range n).all fun k =>
    Nat.beq (i % 7) (k % 7) || rootV M O n ((hsW h n).set i (h.getD (k % 7) ⟨0, 0, 0, 0, 0, 0, 0, 0⟩)) fun r => neqV M O r.a0 old.a0
def allV (M O v : Nat) (N : Nat) (is : List Nat) : Bool :=
  lfW M O (Nat.add v (Nat.mul 0 O)) fun h0 => lfW M O (Nat.add v (Nat.mul 1 O)) fun h1 => lfW M O (Nat.add v (Nat.mul 2 O)) fun h2 => lfW M O (Nat.add v (Nat.mul 3 O)) fun h3 =>
  lfW M O (Nat.add v (Nat.mul 4 O)) fun h4 => lfW M O (Nat.add v (Nat.mul 5 O)) fun h5 => lfW M O (Nat.add v (Nat.mul 6 O)) fun h6 => chkV M O [h0, h1, h2, h3, h4, h5, h6] N is
def runB (n N : Nat) (is : List Nat) : Bool := (fun O => seqN O ((fun M v => seqN M (seqN v (allV M O v N is))) (Nat.mul O 4294967295) (numV O 0 1 n))) (oneV n)
section
variable (n : Nat)
def pk (x : Nat → Bs) : W8 := ⟨wd (fun i => wordAt (x i) 0) n, wd (fun i => wordAt (x i) 1) n, wd (fun i => wordAt (x i) 2) n, wd (fun i => wordAt (x i) 3) n, wd (fun i => wordAt (x i) 4) n, wd (fun i => wordAt (x i) 5) n, wd (fun i => wordAt (x i) 6) n, wd (fun i => wordAt (x i) 7) n⟩
/-- The leaf of a number. -/
def leafS (v : Nat) : Bs := (sha (putB 8 v ++ putB 4 0)).take 20
theorem lwV_eq (v : Nat → Nat) (hv : ∀ i, v i < 4294967296) (K : CK) : lwV (msk n) (pack (fun _ => 1) n) (pack v n) K = wd8 n (fun i => sha (putB 8 (v i) ++ putB 4 0)) K := by
  have hl : ∀ i, (putB 8 (v i) ++ putB 4 0).length = 12 := fun i => by rw [List.length_append, putB_len]; rfl
  have e8 : ∀ i, putB 8 (v i) = putB 4 0 ++ putB 4 (v i) := fun i => by
    have h := hv i
    simp only [putB]
    rw [show v i / 256 / 256 / 256 / 256 / 256 / 256 / 256 = 0 by omega, show v i / 256 / 256 / 256 / 256 / 256 / 256 = 0 by omega, show v i / 256 / 256 / 256 / 256 / 256 = 0 by omega, show v i / 256 / 256 / 256 / 256 = 0 by omega]
    simp
  have es : ∀ i, putB 8 (v i) ++ putB 4 0 ++ padding (putB 8 (v i) ++ putB 4 0).length (putB 8 (v i) ++ putB 4 0).length = putB 4 0 ++ (putB 4 (v i) ++ (putB 4 0 ++ padding 12 12)) := fun i => by rw [hl, e8]; simp
  have w0 : ∀ i, wordAt (putB 8 (v i) ++ putB 4 0 ++ padding (putB 8 (v i) ++ putB 4 0).length (putB 8 (v i) ++ putB 4 0).length) 0 = 0#32 := fun i => by rw [es, wordAt_put _ _ (by decide)]
  have w1 : ∀ i, wordAt (putB 8 (v i) ++ putB 4 0 ++ padding (putB 8 (v i) ++ putB 4 0).length (putB 8 (v i) ++ putB 4 0).length) 1 = BitVec.ofNat 32 (v i) := fun i => by rw [es, show 1 = 1 + 0 from rfl, wordAt_right _ _ 1 0 (putB_len _ _), wordAt_put _ _ (hv i)]
  have w2 : ∀ i, wordAt (putB 8 (v i) ++ putB 4 0 ++ padding (putB 8 (v i) ++ putB 4 0).length (putB 8 (v i) ++ putB 4 0).length) 2 = 0#32 := fun i => by rw [es, show 2 = 1 + (1 + 0) from rfl, wordAt_right _ _ 1 _ (putB_len _ _), wordAt_right _ _ 1 0 (putB_len _ _), wordAt_put _ _ (by decide)]
  have w3 : ∀ i t, wordAt (putB 8 (v i) ++ putB 4 0 ++ padding (putB 8 (v i) ++ putB 4 0).length (putB 8 (v i) ++ putB 4 0).length) (1 + (1 + (1 + t))) = wordAt (padding 12 12) t := fun i t => by rw [es, wordAt_right _ _ 1 _ (putB_len _ _), wordAt_right _ _ 1 _ (putB_len _ _), wordAt_right _ _ 1 t (putB_len _ _)]
  unfold lwV
  refine (iniV_at n (fun i => wordAt (putB 8 (v i) ++ putB 4 0 ++ padding (putB 8 (v i) ++ putB 4 0).length (putB 8 (v i) ++ putB 4 0).length)) K (wd_nul n _ w0)
    (pack_congr _ _ _ fun i _ => by dsimp only; rw [w1, BitVec.toNat_ofNat, Nat.mod_eq_of_lt (hv i)]) (wd_nul n _ w2)
    (wd_cst n _ _ 2147483648#32 rfl fun i => w3 i 0) (wd_nul n _ fun i => w3 i 1) (wd_nul n _ fun i => w3 i 2) (wd_nul n _ fun i => w3 i 3) (wd_nul n _ fun i => w3 i 4) (wd_nul n _ fun i => w3 i 5) (wd_nul n _ fun i => w3 i 6) (wd_nul n _ fun i => w3 i 7) (wd_nul n _ fun i => w3 i 8) (wd_nul n _ fun i => w3 i 9) (wd_nul n _ fun i => w3 i 10) (wd_nul n _ fun i => w3 i 11) (wd_cst n _ _ 96#32 rfl fun i => w3 i 12)).trans ?_
  exact wdS_out n _ (fun i => sha (putB 8 (v i) ++ putB 4 0)) K fun i => sha_one _ (by rw [hl]; omega)
theorem leaf20V_eq (y : Nat → Bs) (hy : ∀ i, (y i).length = 32) (K : CK) : wd8 n y (leaf20V (msk n) (pack (fun _ => 1) n) K) = wd8 n (fun i => leafH ((y i).take 20)) K := by
  have hx : ∀ i, ((y i).take 20).length = 20 := fun i => by rw [List.length_take, hy]; rfl
  have ey : ∀ i t, t < 5 → wordAt ((y i).take 20) t = wordAt (y i) t := fun i t ht => wordAt_take _ _ _ (by omega)
  have e0 : ∀ i t, t < 5 → wordAt ((y i).take 20 ++ padding 21 21) t = wordAt (y i) t := fun i t ht => by rw [wordAt_left _ _ _ (by rw [hx]; omega), ey i t ht]
  have e1 : ∀ i t, wordAt ((y i).take 20 ++ padding 21 21) (5 + t) = wordAt (padding 21 21) t := fun i t => by rw [wordAt_right _ _ 5 t (hx i)]
  have es : ∀ i, 0 :: (y i).take 20 ++ padding (0 :: (y i).take 20).length (0 :: (y i).take 20).length = 0 :: ((y i).take 20 ++ padding 21 21) := fun i => by rw [List.length_cons, hx]; rfl
  have c0 := fun i => wordAt_cons0 0 ((y i).take 20 ++ padding 21 21)
  have cs := fun i t => wordAt_cons 0 ((y i).take 20 ++ padding 21 21) t
  have cw : ∀ i t, wordAt (0 :: ((y i).take 20 ++ padding 21 21)) (6 + t) = BitVec.ofNat 32 (((wordAt (padding 21 21) t).toNat * 16777216 + (wordAt (padding 21 21) (t + 1)).toNat / 256) % 4294967296) := fun i t => by
    apply BitVec.eq_of_toNat_eq
    rw [show 6 + t = (5 + t) + 1 by omega, cs, e1, show 5 + t + 1 = 5 + (t + 1) by omega, e1, BitVec.toNat_ofNat]
    rw [Nat.mod_mod]
  unfold wd8 leaf20V
  refine (iniV_at n (fun i => wordAt (0 :: (y i).take 20 ++ padding (0 :: (y i).take 20).length (0 :: (y i).take 20).length)) _
    (shr8_eq n _ _ fun i => by rw [es, c0, e0 i 0 (by decide)]; simp) (shW_eq n _ _ _ fun i => by rw [es, cs, e0 i 0 (by decide), e0 i 1 (by decide)]) (shW_eq n _ _ _ fun i => by rw [es, cs, e0 i 1 (by decide), e0 i 2 (by decide)]) (shW_eq n _ _ _ fun i => by rw [es, cs, e0 i 2 (by decide), e0 i 3 (by decide)]) (shW_eq n _ _ _ fun i => by rw [es, cs, e0 i 3 (by decide), e0 i 4 (by decide)])
    (last_eq n _ _ fun i => by rw [es, cs, e0 i 4 (by decide), show 4 + 1 = 5 + 0 from rfl, e1]; rfl)
    (wd_nul n _ fun i => by rw [es]; exact cw i 0) (wd_nul n _ fun i => by rw [es]; exact cw i 1) (wd_nul n _ fun i => by rw [es]; exact cw i 2) (wd_nul n _ fun i => by rw [es]; exact cw i 3) (wd_nul n _ fun i => by rw [es]; exact cw i 4) (wd_nul n _ fun i => by rw [es]; exact cw i 5) (wd_nul n _ fun i => by rw [es]; exact cw i 6) (wd_nul n _ fun i => by rw [es]; exact cw i 7) (wd_nul n _ fun i => by rw [es]; exact cw i 8) (wd_cst n _ _ 168#32 rfl fun i => by rw [es]; exact cw i 9)).trans ?_
  exact wdS_out n _ (fun i => leafH ((y i).take 20)) _ fun i => sha_one _ (by rw [List.length_cons, hx]; omega)
theorem lfW_eq (v : Nat → Nat) (hv : ∀ i, v i < 4294967296) (K : W8 → Bool) : lfW (msk n) (pack (fun _ => 1) n) (pack v n) K = K (pk n fun i => leafH (leafS (v i))) := by
  unfold lfW
  rw [lwV_eq n v hv]
  exact leaf20V_eq n (fun i => sha (putB 8 (v i) ++ putB 4 0)) (fun i => sha_len _) fun a b c d e f g h => K ⟨a, b, c, d, e, f, g, h⟩
theorem nodeW_eq (x y : Nat → Bs) (hx : ∀ i, (x i).length = 32) (hy : ∀ i, (y i).length = 32) (K : W8 → Bool) : nodeW (msk n) (pack (fun _ => 1) n) (pk n x) (pk n y) K = K (pk n fun i => nodeH (x i) (y i)) :=
  nodeV_eq n x y hx hy fun a b c d e f g h => K ⟨a, b, c, d, e, f, g, h⟩
theorem add_lanes (v : Nat → Nat) (j : Nat) : Nat.add (pack v n) (Nat.mul j (pack (fun _ => 1) n)) = pack (fun i => v i + j) n := by
  rw [pack_kmul, pack_add]
  exact pack_congr _ _ _ fun i _ => by rw [Nat.mul_one]
theorem neq_lane (x y : Nat → Bs) (h : neqV (msk n) (pack (fun _ => 1) n) (pk n x).a0 (pk n y).a0 = true) (i : Nat) (hi : i < n) : x i ≠ y i := by
  intro e
  unfold neqV at h
  have h1 := Nat.eq_of_beq_eq_true h
  unfold pk at h1
  rw [wd_xor, wd, pack_mul, pack_add, pack_shr n 32 (by decide) _ (fun i => by have := bit_lt (wordAt (x i) 0 ^^^ wordAt (y i) 0); omega)] at h1
  have h2 := congrArg (fun z => (z >>> (64 * i)) % 18446744073709551616) h1
  rw [lane n _ (fun i => by omega) i hi, lane n _ (fun i => by omega) i hi, e] at h2
  simp at h2
theorem rootV_eq : ∀ (f : Nat) (xs : List (Nat → Bs)) (K : W8 → Bool), xs.length ≤ f → 1 ≤ xs.length → (∀ x ∈ xs, ∀ i, (x i).length = 32) →
    rootV (msk n) (pack (fun _ => 1) n) f (xs.map (pk n)) K = K (pk n fun i => rootG (xs.map fun x => x i)) := by
  intro f
  induction f with
  | zero => intro xs K h1 h2 _; omega
  | succ f ih =>
    intro xs K h1 h2 hx
    match xs, h1, h2, hx with
    | [], _, h2, _ => exact absurd h2 (by decide)
    | [x], _, _, _ =>
      show K (pk n x) = _
      simp only [List.map_cons, List.map_nil, rootG_one]
    | x :: y :: r, h1, _, hx =>
      have hsp := splitN_lt (r.length + 2) (by omega)
      have hL : (x :: y :: r).length = r.length + 2 := rfl
      show rootV _ _ (f + 1) (pk n x :: pk n y :: r.map (pk n)) K = _
      rw [rootV]
      have e1 : (pk n x :: pk n y :: r.map (pk n)) = (x :: y :: r).map (pk n) := rfl
      have e2 : (r.map (pk n)).length = r.length := List.length_map _
      have l1 : ∀ z ∈ (x :: y :: r).take (splitN (r.length + 2)), ∀ i, (z i).length = 32 := fun z hz => hx z (List.mem_of_mem_take hz)
      have l2 : ∀ z ∈ (x :: y :: r).drop (splitN (r.length + 2)), ∀ i, (z i).length = 32 := fun z hz => hx z (List.mem_of_mem_drop hz)
      have hi : ∀ zs : List (Nat → Bs), (∀ z ∈ zs, ∀ i, (z i).length = 32) → ∀ i, (rootG (zs.map fun x => x i)).length = 32 := fun zs hz i => rootG_len _ (fun l hl => by
        obtain ⟨z, hz1, rfl⟩ := List.mem_map.1 hl
        exact hz z hz1 i)
      rw [e1, e2, ← List.map_take, ← List.map_drop, ih _ _ (by rw [List.length_take, hL]; simp only [List.length_cons] at h1; omega) (by rw [List.length_take, hL]; omega) l1, ih _ _ (by rw [List.length_drop, hL]; simp only [List.length_cons] at h1; omega) (by rw [List.length_drop, hL]; omega) l2, nodeW_eq n _ _ (hi _ l1) (hi _ l2)]
      congr 2
      funext i
      rw [rootG_two ((x :: y :: r).map fun x => x i) (by rw [List.length_map, hL]; omega), List.length_map, hL, List.map_take, List.map_drop]
/-- The leaves' hashes at all lanes. -/
def xsL (v : Nat → Nat) (N : Nat) : List (Nat → Bs) := (List.range N).map fun c i => leafH (leafS (v i + c % 7))
theorem hsW_eq (v : Nat → Nat) (N : Nat) : hsW ((List.range 7).map fun j => pk n fun i => leafH (leafS (v i + j))) N = (xsL v N).map (pk n) := by
  unfold hsW xsL
  rw [List.map_map]
  refine List.map_congr_left fun c _ => ?_
  have h7 : c % 7 < 7 := Nat.mod_lt _ (by decide)
  rw [List.getD_eq_getElem?_getD, List.getElem?_map, List.getElem?_range h7]
  rfl
theorem chkV_eq (v : Nat → Nat) (N : Nat) (is : List Nat) (hN : 1 ≤ N) (h : chkV (msk n) (pack (fun _ => 1) n) ((List.range 7).map fun j => pk n fun i => leafH (leafS (v i + j))) N is = true) (i k l : Nat) (hi : i ∈ is) (hk : k < N) (hik : i % 7 ≠ k % 7) (hl : l < n) :
    rootG (((List.range N).map fun c => leafH (leafS (v l + c % 7))).set i (leafH (leafS (v l + k % 7)))) ≠ rootG ((List.range N).map fun c => leafH (leafS (v l + c % 7))) := by
  have hx : ∀ x ∈ xsL v N, ∀ i, (x i).length = 32 := fun x hx i => by
    obtain ⟨c, _, rfl⟩ := List.mem_map.1 hx
    exact sha_len _
  have hxl : (xsL v N).length = N := by unfold xsL; rw [List.length_map, List.length_range]
  unfold chkV at h
  rw [hsW_eq, rootV_eq n N _ _ (by omega) (by omega) hx, List.all_eq_true] at h
  have h1 := h i hi
  rw [List.all_eq_true] at h1
  have h2 := h1 k (List.mem_range.2 hk)
  have h7 : k % 7 < 7 := Nat.mod_lt _ (by decide)
  have hb : Nat.beq (i % 7) (k % 7) = false := by
    cases e : Nat.beq (i % 7) (k % 7) with
    | false => rfl
    | true => exact absurd (Nat.eq_of_beq_eq_true e) hik
  rw [hb, Bool.false_or] at h2
  have e3 : ((List.range 7).map fun j => pk n fun i => leafH (leafS (v i + j))).getD (k % 7) ⟨0, 0, 0, 0, 0, 0, 0, 0⟩ = pk n fun i => leafH (leafS (v i + k % 7)) := by
    rw [List.getD_eq_getElem?_getD, List.getElem?_map, List.getElem?_range h7]
    rfl
  rw [e3, ← List.map_set, rootV_eq n N _ _ (by rw [List.length_set]; omega) (by rw [List.length_set]; omega) (fun x hx2 i => by
    rcases List.mem_or_eq_of_mem_set hx2 with h | rfl
    · exact hx x h i
    · exact sha_len _)] at h2
  have h3 := neq_lane n _ _ h2 l hl
  rw [List.map_set] at h3
  have e4 : (xsL v N).map (fun x => x l) = (List.range N).map fun c => leafH (leafS (v l + c % 7)) := by unfold xsL; rw [List.map_map]; rfl
  rw [e4] at h3
  exact h3
theorem runB_eq (N : Nat) (is : List Nat) (hn : n ≤ 65536) : runB n N is = chkV (msk n) (pack (fun _ => 1) n) ((List.range 7).map fun j => pk n fun i => leafH (leafS (i % 65536 + j))) N is := by
  have hv : ∀ (j : Nat), j < 7 → ∀ i : Nat, i % 65536 + j < 4294967296 := fun j hj i => by have := Nat.mod_lt i (show 0 < 65536 by decide); omega
  have hp : pack (fun i => 0 + 1 * i) n = pack (fun i => i % 65536) n := pack_congr _ _ _ fun i hi => by omega
  unfold runB
  dsimp only
  rw [seqN_eq, oneV_eq, seqN_eq, seqN_eq, numV_eq, ← msk_of, hp]
  unfold allV
  simp only [add_lanes]
  rw [lfW_eq n (fun i => i % 65536 + 0) (hv 0 (by decide)), lfW_eq n (fun i => i % 65536 + 1) (hv 1 (by decide)), lfW_eq n (fun i => i % 65536 + 2) (hv 2 (by decide)), lfW_eq n (fun i => i % 65536 + 3) (hv 3 (by decide)),
    lfW_eq n (fun i => i % 65536 + 4) (hv 4 (by decide)), lfW_eq n (fun i => i % 65536 + 5) (hv 5 (by decide)), lfW_eq n (fun i => i % 65536 + 6) (hv 6 (by decide))]
  rfl
theorem runB_ne (N : Nat) (is : List Nat) (hN : 1 ≤ N) (h : runB 1000 N is = true) (i k v : Nat) (hi : i ∈ is) (hk : k < N) (hik : i % 7 ≠ k % 7) (hv : v < 1000) :
    rootG (((List.range N).map fun c => leafH (leafS (v + c % 7))).set i (leafH (leafS (v + k % 7)))) ≠ rootG ((List.range N).map fun c => leafH (leafS (v + c % 7))) := by
  rw [runB_eq 1000 N is (by decide)] at h
  have := chkV_eq 1000 (fun i => i % 65536) N is hN h i k v hi hk hik hv
  simp only [Nat.mod_eq_of_lt (show v < 65536 by omega)] at this
  exact this
end
end Go.Proofs.Ytpdphpekgphniaa.V

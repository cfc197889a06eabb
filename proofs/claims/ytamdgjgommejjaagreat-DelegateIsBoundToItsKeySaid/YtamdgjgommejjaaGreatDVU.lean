/- Hashes of trees worked out in lanes: the root of a tree of 2 to 5 nonces differs from what another nonce of the tree climbs to, for the nonces of 100 numbers. No conditions. -/
import Derived.Test.YtamdgjgommejjaaGreatDV
namespace Go.Proofs.YtamdgjgommejjaaGreat.V
open Go
/-- Eight words in lanes. -/
structure W8 where
  a0 : Nat
  a1 : Nat
  a2 : Nat
  a3 : Nat
  a4 : Nat
  a5 : Nat
  a6 : Nat
  a7 : Nat
def leaf32V (M O : Nat) (K : CK) : CK := fun x0 x1 x2 x3 x4 x5 x6 x7 =>
  iniV M O K (Nat.land (Nat.shiftRight x0 8) M) (shW M x0 x1) (shW M x1 x2) (shW M x2 x3) (shW M x3 x4) (shW M x4 x5) (shW M x5 x6) (shW M x6 x7) (Nat.land (Nat.add (Nat.mul x7 16777216) (Nat.mul 8388608 O)) M) 0 0 0 0 0 0 (Nat.mul 264 O)
def seedW (M O v : Nat) (K : W8 → Bool) : Bool := seedV M O v fun a b c d e f g h => K ⟨a, b, c, d, e, f, g, h⟩
def leafW (M O : Nat) (x : W8) (K : W8 → Bool) : Bool := leaf32V M O (fun a b c d e f g h => K ⟨a, b, c, d, e, f, g, h⟩) x.a0 x.a1 x.a2 x.a3 x.a4 x.a5 x.a6 x.a7
def nodeW (M O : Nat) (x y : W8) (K : W8 → Bool) : Bool := nodeV M O (fun a b c d e f g h => K ⟨a, b, c, d, e, f, g, h⟩) x.a0 x.a1 x.a2 x.a3 x.a4 x.a5 x.a6 x.a7 y.a0 y.a1 y.a2 y.a3 y.a4 y.a5 y.a6 y.a7
/-- All lanes differ. -/
def neqV (M O x y : Nat) : Bool := Nat.beq (Nat.land (Nat.shiftRight (Nat.add (Nat.xor x y) (Nat.mul O 4294967295)) 32) M) O
section
variable (n : Nat)
def pk (x : Nat → Bs) : W8 := ⟨wd (fun i => wordAt (x i) 0) n, wd (fun i => wordAt (x i) 1) n, wd (fun i => wordAt (x i) 2) n, wd (fun i => wordAt (x i) 3) n, wd (fun i => wordAt (x i) 4) n, wd (fun i => wordAt (x i) 5) n, wd (fun i => wordAt (x i) 6) n, wd (fun i => wordAt (x i) 7) n⟩
theorem leaf32V_eq (x : Nat → Bs) (hx : ∀ i, (x i).length = 32) (K : CK) : wd8 n x (leaf32V (msk n) (pack (fun _ => 1) n) K) = wd8 n (fun i => leafH (x i)) K := by
  have e0 : ∀ i t, t < 8 → wordAt (x i ++ padding 33 33) t = wordAt (x i) t := fun i t ht => wordAt_left _ _ _ (by rw [hx]; omega)
  have e1 : ∀ i t, wordAt (x i ++ padding 33 33) (8 + t) = wordAt (padding 33 33) t := fun i t => by rw [wordAt_right _ _ 8 t (hx i)]
  have es : ∀ i, 0 :: x i ++ padding (0 :: x i).length (0 :: x i).length = 0 :: (x i ++ padding 33 33) := fun i => by rw [List.length_cons, hx]; rfl
  have c0 := fun i => wordAt_cons0 0 (x i ++ padding 33 33)
  have cs := fun i t => wordAt_cons 0 (x i ++ padding 33 33) t
  have cw : ∀ i t, wordAt (0 :: (x i ++ padding 33 33)) (9 + t) = BitVec.ofNat 32 (((wordAt (padding 33 33) t).toNat * 16777216 + (wordAt (padding 33 33) (t + 1)).toNat / 256) % 4294967296) := fun i t => by
    apply BitVec.eq_of_toNat_eq
    rw [show 9 + t = (8 + t) + 1 by omega, cs, e1, show 8 + t + 1 = 8 + (t + 1) by omega, e1, BitVec.toNat_ofNat]
    rw [Nat.mod_mod]
  unfold wd8 leaf32V
  refine (iniV_at n (fun i => wordAt (0 :: x i ++ padding (0 :: x i).length (0 :: x i).length)) _
    (shr8_eq n _ _ fun i => by rw [es, c0, e0 i 0 (by decide)]; simp) (shW_eq n _ _ _ fun i => by rw [es, cs, e0 i 0 (by decide), e0 i 1 (by decide)]) (shW_eq n _ _ _ fun i => by rw [es, cs, e0 i 1 (by decide), e0 i 2 (by decide)]) (shW_eq n _ _ _ fun i => by rw [es, cs, e0 i 2 (by decide), e0 i 3 (by decide)]) (shW_eq n _ _ _ fun i => by rw [es, cs, e0 i 3 (by decide), e0 i 4 (by decide)]) (shW_eq n _ _ _ fun i => by rw [es, cs, e0 i 4 (by decide), e0 i 5 (by decide)]) (shW_eq n _ _ _ fun i => by rw [es, cs, e0 i 5 (by decide), e0 i 6 (by decide)]) (shW_eq n _ _ _ fun i => by rw [es, cs, e0 i 6 (by decide), e0 i 7 (by decide)])
    (last_eq n _ _ fun i => by rw [es, cs, e0 i 7 (by decide), show 7 + 1 = 8 + 0 from rfl, e1]; rfl)
    (wd_nul n _ fun i => by rw [es]; exact cw i 0) (wd_nul n _ fun i => by rw [es]; exact cw i 1) (wd_nul n _ fun i => by rw [es]; exact cw i 2) (wd_nul n _ fun i => by rw [es]; exact cw i 3) (wd_nul n _ fun i => by rw [es]; exact cw i 4) (wd_nul n _ fun i => by rw [es]; exact cw i 5) (wd_cst n _ _ 264#32 rfl fun i => by rw [es]; exact cw i 6)).trans ?_
  exact wdS_out n _ (fun i => leafH (x i)) _ fun i => sha_one _ (by rw [List.length_cons, hx]; omega)
theorem seedW_eq (v : Nat → Nat) (hv : ∀ i, v i < 4294967296) (K : W8 → Bool) : seedW (msk n) (pack (fun _ => 1) n) (pack v n) K = K (pk n fun i => seedB (v i)) := by
  unfold seedW
  rw [seedV_eq n v hv]
  rfl
theorem leafW_eq (x : Nat → Bs) (hx : ∀ i, (x i).length = 32) (K : W8 → Bool) : leafW (msk n) (pack (fun _ => 1) n) (pk n x) K = K (pk n fun i => leafH (x i)) :=
  leaf32V_eq n x hx fun a b c d e f g h => K ⟨a, b, c, d, e, f, g, h⟩
theorem nodeW_eq (x y : Nat → Bs) (hx : ∀ i, (x i).length = 32) (hy : ∀ i, (y i).length = 32) (K : W8 → Bool) : nodeW (msk n) (pack (fun _ => 1) n) (pk n x) (pk n y) K = K (pk n fun i => nodeH (x i) (y i)) :=
  nodeV_eq n x y hx hy fun a b c d e f g h => K ⟨a, b, c, d, e, f, g, h⟩
theorem leafH_l (b : Bs) : (leafH b).length = 32 := sha_len _
theorem nodeH_l (a b : Bs) : (nodeH a b).length = 32 := sha_len _
theorem seedB_l (v : Nat) : (seedB v).length = 32 := sha_len _
theorem add_lanes (v : Nat → Nat) (j : Nat) : Nat.add (pack v n) (Nat.mul j (pack (fun _ => 1) n)) = pack (fun i => v i + j) n := by
  rw [pack_kmul, pack_add]
  exact pack_congr _ _ _ fun i _ => by rw [Nat.mul_one]
theorem neq_lane (x y : Nat → Bs) (h : neqV (msk n) (pack (fun _ => 1) n) (pk n x).a0 (pk n y).a0 = true) (i : Nat) (hi : i < n) : x i ≠ y i := by
  intro e
  unfold neqV at h
  have h1 := Nat.eq_of_beq_eq_true h
  unfold pk at h1
  rw [wd_xor, wd, pack_mul, pack_add, pack_shr n 32 (by decide) _ (fun i => by have := bit_lt (wordAt (x i) 0 ^^^ wordAt (y i) 0); omega)] at h1
  have h2 := congrArg (fun z => (z >>> (64 * i)) % 18446744073709551616) h1
  rw [lane n _ (fun i => by omega) i hi, lane n _ (fun i => by omega) i hi, e] at h2
  simp at h2
end
end Go.Proofs.YtamdgjgommejjaaGreat.V

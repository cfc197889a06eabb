/- The ends of a signature's chains hashed in lanes, the digest of a grant, and the check that a signature is not one under another key. No program in sight, no conditions beyond those of each theorem. -/
import Derived.Test.YtamdgjgommejjaaGreatDVE
namespace Go.Proofs.YtamdgjgommejjaaGreat.V
open Go
set_option linter.unusedVariables false
/-- The digest of a grant from 0 to 99: of the key P, to the key S. -/
def dgX (M O : Nat) (P S : X8) (K : W4 → Bool) : Bool :=
  iniV M O (fun A B C D E F G H => cmpV M O A B C D E F G H (fun a b c d _ _ _ _ => K ⟨a, b, c, d⟩)
      (shW M S.a3 S.a4) (shW M S.a4 S.a5) (shW M S.a5 S.a6) (shW M S.a6 S.a7) (Nat.land (Nat.mul S.a7 16777216) M) 0 0 0 (Nat.mul 0x63800000 O) 0 0 0 0 0 0 (Nat.mul 776 O))
    P.a0 P.a1 P.a2 P.a3 P.a4 P.a5 P.a6 P.a7 0 (Nat.mul 0x73656374 O) (Nat.mul 0x696d6520 O) (Nat.mul 0x6772616e O) (Nat.add (Nat.land (Nat.shiftRight S.a0 8) M) (Nat.mul 0x74000000 O)) (shW M S.a0 S.a1) (shW M S.a1 S.a2) (shW M S.a2 S.a3)
section
variable (n : Nat)
theorem zs_get (z : Nat → Nat → Bs) (c : Nat) (h : c < 35) : ((List.range 35).map fun c => pk4 n (z c)).getD c ⟨0, 0, 0, 0⟩ = pk4 n (z c) := by
  rw [List.getD_eq_getElem?_getD, List.getElem?_map, List.getElem?_range h]
  rfl
theorem blksX_eq (sd : Nat → Bs) (ks : Nat → Nat → Nat) (K : CK) : ∀ (m k c : Nat), k + m = 8 → c = 4 * k →
    wdS n (fun i => absorb st0 (endsK (sd i) 0 (ks i) 35) k) (blksX (msk n) (pack (fun _ => 1) n) ((List.range 35).map fun c => pk4 n fun i => chainH (ks i c) (otBegin (sd i) 0 c)) K m c) = wdS n (fun i => absorb st0 (endsK (sd i) 0 (ks i) 35) 8) K := by
  intro m
  induction m with
  | zero =>
    intro k c hk hc
    obtain rfl : k = 8 := by omega
    rfl
  | succ m ih =>
    intro k c hk hc
    have hw : ∀ (i j t : Nat), j < 4 → t < 4 → wordAt (endsK (sd i) 0 (ks i) 35) (16 * k + (4 * j + t)) = wordAt (chainH (ks i (c + j)) (otBegin (sd i) 0 (c + j))) t := fun i j t hj ht => by
      rw [show 16 * k + (4 * j + t) = 4 * (c + j) + t by omega]
      exact endsK_word (sd i) 0 (ks i) 35 (c + j) t (by omega) ht
    have h4 := ih (k + 1) (c + 4) (by omega) (by omega)
    have z0 := zs_get n (fun c i => chainH (ks i c) (otBegin (sd i) 0 c)) c (by omega)
    have z1 := zs_get n (fun c i => chainH (ks i c) (otBegin (sd i) 0 c)) (c + 1) (by omega)
    have z2 := zs_get n (fun c i => chainH (ks i c) (otBegin (sd i) 0 c)) (c + 2) (by omega)
    have z3 := zs_get n (fun c i => chainH (ks i c) (otBegin (sd i) 0 c)) (c + 3) (by omega)
    unfold blksX
    rw [z0, z1, z2, z3]
    unfold wdS at h4 ⊢
    unfold pk4
    dsimp only
    refine (cmpV_at n (fun i => absorb st0 (endsK (sd i) 0 (ks i) 35) k) (fun i t => wordAt (endsK (sd i) 0 (ks i) 35) (16 * k + t)) _ rfl rfl rfl rfl rfl rfl rfl rfl
      (wd_same n _ _ fun i => (hw i 0 0 (by decide) (by decide)).symm) (wd_same n _ _ fun i => (hw i 0 1 (by decide) (by decide)).symm) (wd_same n _ _ fun i => (hw i 0 2 (by decide) (by decide)).symm) (wd_same n _ _ fun i => (hw i 0 3 (by decide) (by decide)).symm)
      (wd_same n _ _ fun i => (hw i 1 0 (by decide) (by decide)).symm) (wd_same n _ _ fun i => (hw i 1 1 (by decide) (by decide)).symm) (wd_same n _ _ fun i => (hw i 1 2 (by decide) (by decide)).symm) (wd_same n _ _ fun i => (hw i 1 3 (by decide) (by decide)).symm)
      (wd_same n _ _ fun i => (hw i 2 0 (by decide) (by decide)).symm) (wd_same n _ _ fun i => (hw i 2 1 (by decide) (by decide)).symm) (wd_same n _ _ fun i => (hw i 2 2 (by decide) (by decide)).symm) (wd_same n _ _ fun i => (hw i 2 3 (by decide) (by decide)).symm)
      (wd_same n _ _ fun i => (hw i 3 0 (by decide) (by decide)).symm) (wd_same n _ _ fun i => (hw i 3 1 (by decide) (by decide)).symm) (wd_same n _ _ fun i => (hw i 3 2 (by decide) (by decide)).symm) (wd_same n _ _ fun i => (hw i 3 3 (by decide) (by decide)).symm)).trans ?_
    have he : (fun i => cmpW (absorb st0 (endsK (sd i) 0 (ks i) 35) k) (fun t => wordAt (endsK (sd i) 0 (ks i) 35) (16 * k + t))) = fun i => absorb st0 (endsK (sd i) 0 (ks i) 35) (k + 1) := funext fun i => (absorb_word _ _ _).symm
    rw [he]
    exact h4
theorem endX_eq (sd : Nat → Bs) (ks : Nat → Nat → Nat) (K : W4 → Bool) :
    endX (msk n) (pack (fun _ => 1) n) ((List.range 35).map fun c => pk4 n fun i => chainH (ks i c) (otBegin (sd i) 0 c)) K = K (pk4 n fun i => short (endsK (sd i) 0 (ks i) 35)) := by
  have hl : ∀ i, (endsK (sd i) 0 (ks i) 35).length = 560 := fun i => endsK_len _ _ _ _
  have hsh : ∀ i, sha (endsK (sd i) 0 (ks i) 35) = out (cmpW (absorb st0 (endsK (sd i) 0 (ks i) 35) 8) (wordAt ((endsK (sd i) 0 (ks i) 35).drop 512 ++ padding 48 560))) := fun i => by
    unfold sha
    rw [hl, show 560 / 64 = 8 from rfl, show 64 * 8 = 512 from rfl, finish_one _ _ _ (by rw [List.length_drop, hl]; omega), List.length_drop, hl]
  have hd : ∀ i, ((endsK (sd i) 0 (ks i) 35).drop 512).length = 4 * 12 := fun i => by rw [List.length_drop, hl]
  have hw : ∀ (i j t : Nat), j < 3 → t < 4 → wordAt ((endsK (sd i) 0 (ks i) 35).drop 512 ++ padding 48 560) (4 * j + t) = wordAt (chainH (ks i (32 + j)) (otBegin (sd i) 0 (32 + j))) t := fun i j t hj ht => by
    rw [wordAt_left _ _ _ (by rw [hd]; omega), show 512 = 4 * 128 from rfl, wordAt_drop, show 128 + (4 * j + t) = 4 * (32 + j) + t by omega]
    exact endsK_word (sd i) 0 (ks i) 35 (32 + j) t (by omega) ht
  have hp : ∀ i t, wordAt ((endsK (sd i) 0 (ks i) 35).drop 512 ++ padding 48 560) (12 + t) = wordAt (padding 48 560) t := fun i t => wordAt_right _ _ 12 t (hd i)
  have z0 := zs_get n (fun c i => chainH (ks i c) (otBegin (sd i) 0 c)) 32 (by decide)
  have z1 := zs_get n (fun c i => chainH (ks i c) (otBegin (sd i) 0 c)) 33 (by decide)
  have z2 := zs_get n (fun c i => chainH (ks i c) (otBegin (sd i) 0 c)) 34 (by decide)
  have hb := fun K => blksX_eq n sd ks K 8 0 0 rfl rfl
  unfold endX
  rw [z0, z1, z2]
  unfold wdS at hb
  have hini : ∀ (c : Wd), Nat.mul c.toNat (pack (fun _ => 1) n) = wd (fun _ => c) n := fun c => wd_const n _ c rfl
  have ea := hini st0.a; have eb := hini st0.b; have ec := hini st0.c; have ed := hini st0.d
  have ee := hini st0.e; have ef := hini st0.f; have eg := hini st0.g; have eh := hini st0.h
  change Nat.mul 0x6a09e667 _ = _ at ea
  change Nat.mul 0xbb67ae85 _ = _ at eb
  change Nat.mul 0x3c6ef372 _ = _ at ec
  change Nat.mul 0xa54ff53a _ = _ at ed
  change Nat.mul 0x510e527f _ = _ at ee
  change Nat.mul 0x9b05688c _ = _ at ef
  change Nat.mul 0x1f83d9ab _ = _ at eg
  change Nat.mul 0x5be0cd19 _ = _ at eh
  rw [ea, eb, ec, ed, ee, ef, eg, eh]
  refine (hb _).trans ?_
  dsimp only [pk4]
  refine (cmpV_at n (fun i => absorb st0 (endsK (sd i) 0 (ks i) 35) 8) (fun i => wordAt ((endsK (sd i) 0 (ks i) 35).drop 512 ++ padding 48 560)) _ rfl rfl rfl rfl rfl rfl rfl rfl
      (wd_same n _ _ fun i => (hw i 0 0 (by decide) (by decide)).symm) (wd_same n _ _ fun i => (hw i 0 1 (by decide) (by decide)).symm) (wd_same n _ _ fun i => (hw i 0 2 (by decide) (by decide)).symm) (wd_same n _ _ fun i => (hw i 0 3 (by decide) (by decide)).symm)
      (wd_same n _ _ fun i => (hw i 1 0 (by decide) (by decide)).symm) (wd_same n _ _ fun i => (hw i 1 1 (by decide) (by decide)).symm) (wd_same n _ _ fun i => (hw i 1 2 (by decide) (by decide)).symm) (wd_same n _ _ fun i => (hw i 1 3 (by decide) (by decide)).symm)
      (wd_same n _ _ fun i => (hw i 2 0 (by decide) (by decide)).symm) (wd_same n _ _ fun i => (hw i 2 1 (by decide) (by decide)).symm) (wd_same n _ _ fun i => (hw i 2 2 (by decide) (by decide)).symm) (wd_same n _ _ fun i => (hw i 2 3 (by decide) (by decide)).symm)
      (wd_cst n _ _ 2147483648#32 rfl fun i => hp i 0) (wd_nul n _ fun i => hp i 1) (wd_nul n _ fun i => hp i 2) (wd_cst n _ _ 4480#32 rfl fun i => hp i 3)).trans ?_
  refine (wdS_out n _ (fun i => sha (endsK (sd i) 0 (ks i) 35)) _ fun i => hsh i).trans ?_
  exact wd8_short n _ (fun i => short (endsK (sd i) 0 (ks i) 35)) (fun a b c d => K ⟨a, b, c, d⟩) fun i => rfl
theorem topc_eq (c : Nat) (hc : c + 16777216 ≤ 4294967296) (y z : Nat → Wd) (h : ∀ i, (z i).toNat = c + (y i).toNat / 256) : Nat.add (Nat.land (Nat.shiftRight (wd y n) 8) (msk n)) (Nat.mul c (pack (fun _ => 1) n)) = wd z n := by
  rw [wd_shr n 8 y (by decide), pack_kmul, wd, pack_add]
  refine pack_congr _ _ _ fun i _ => ?_
  rw [h i, BitVec.toNat_ushiftRight, Nat.shiftRight_eq_div_pow, Nat.mul_one, Nat.add_comm]
theorem up_eq (x z : Nat → Wd) (h : ∀ i, (z i).toNat = ((x i).toNat * 16777216) % 4294967296) : Nat.land (Nat.mul (wd x n) 16777216) (msk n) = wd z n := by
  rw [wd, pack_mul]
  refine wd_low n _ _ (fun i => ?_) fun i => ?_
  · have := bit_lt (x i); omega
  · rw [h i]
end
theorem sha_two (b : Bs) (h : 64 ≤ b.length ∧ b.length ≤ 119) : sha b = out (cmpW (cmpW st0 (wordAt b)) (wordAt (b.drop 64 ++ padding (b.drop 64).length b.length))) := by
  unfold sha
  rw [show b.length / 64 = 1 by omega, Nat.mul_one, finish_one _ _ _ (by rw [List.length_drop]; omega), absorb_word]
  simp only [Nat.mul_zero, Nat.zero_add]
  rfl
/-- What is signed for a grant from 0 to 99. -/
def mG (S : Bs) : Bs := tGrant ++ S ++ spanB 0 99
def t12 : Bs := [115, 101, 99, 116, 105, 109, 101, 32, 103, 114, 97, 110]
def xG : Bs := spanB 0 99
theorem xG_len : xG.length = 16 := rfl
section
variable (n : Nat)
theorem dgX_eq (P S : Nat → Bs) (hP : ∀ i, (P i).length = 32) (hS : ∀ i, (S i).length = 32) (K : W4 → Bool) : dgX (msk n) (pack (fun _ => 1) n) (pk8 n P) (pk8 n S) K = K (pk4 n fun i => digG (P i) 0 (mG (S i))) := by
  have ew : ∀ i, P i ++ putB 4 0 ++ mG (S i) = P i ++ (putB 4 0 ++ (t12 ++ (116 :: (S i ++ xG)))) := fun i => by
    have : mG (S i) = t12 ++ (116 :: (S i ++ xG)) := by unfold mG xG; rw [show tGrant = t12 ++ [116] from rfl]; simp
    rw [this, List.append_assoc]
  have hl : ∀ i, (P i ++ putB 4 0 ++ mG (S i)).length = 97 := fun i => by
    rw [ew]
    simp only [List.length_append, List.length_cons, hP, hS, putB_len, xG_len]
    rfl
  have b0 : ∀ i t, t < 8 → wordAt (P i ++ putB 4 0 ++ mG (S i)) t = wordAt (P i) t := fun i t ht => by rw [ew, wordAt_left _ _ _ (by rw [hP]; omega)]
  have b8 : ∀ i, wordAt (P i ++ putB 4 0 ++ mG (S i)) 8 = 0#32 := fun i => by rw [ew, show 8 = 8 + 0 from rfl, wordAt_right _ _ 8 0 (hP i), wordAt_put _ _ (by decide)]
  have b9 : ∀ i t, t < 3 → wordAt (P i ++ putB 4 0 ++ mG (S i)) (8 + (1 + t)) = wordAt t12 t := fun i t ht => by rw [ew, wordAt_right _ _ 8 _ (hP i), wordAt_right _ _ 1 t (putB_len _ _), wordAt_left _ _ _ (by show _ ≤ 12; omega)]
  have b12 : ∀ i t, wordAt (P i ++ putB 4 0 ++ mG (S i)) (8 + (1 + (3 + t))) = wordAt (116 :: (S i ++ xG)) t := fun i t => by rw [ew, wordAt_right _ _ 8 _ (hP i), wordAt_right _ _ 1 _ (putB_len _ _), wordAt_right _ _ 3 t rfl]
  have sX : ∀ i t, t < 8 → wordAt (S i ++ xG) t = wordAt (S i) t := fun i t ht => wordAt_left _ _ _ (by rw [hS]; omega)
  have hd : ∀ i, (P i ++ putB 4 0 ++ mG (S i)).drop 64 ++ padding 33 97 = (116 :: (S i ++ (xG ++ padding 33 97))).drop (4 * 4) := fun i => by
    have e : P i ++ (putB 4 0 ++ (t12 ++ (116 :: (S i ++ xG)))) = (P i ++ (putB 4 0 ++ t12)) ++ (116 :: (S i ++ xG)) := by simp
    have hA : (P i ++ (putB 4 0 ++ t12)).length = 48 := by simp only [List.length_append, hP, putB_len]; rfl
    rw [ew, e, List.drop_append, hA, List.drop_of_length_le (by omega), List.nil_append, show 64 - 48 = 4 * 4 from rfl]
    have e2 : (116 :: (S i ++ (xG ++ padding 33 97)) : Bs) = (116 :: (S i ++ xG)) ++ padding 33 97 := by simp
    rw [e2, List.drop_append_of_le_length (by simp only [List.length_cons, List.length_append, hS, xG_len]; omega)]
  have d0 : ∀ i t, wordAt ((P i ++ putB 4 0 ++ mG (S i)).drop 64 ++ padding 33 97) t = wordAt (116 :: (S i ++ (xG ++ padding 33 97))) (4 + t) := fun i t => by rw [hd, wordAt_drop]
  have cs := fun i t => wordAt_cons 116 (S i ++ (xG ++ padding 33 97)) t
  have sY : ∀ i t, t < 8 → wordAt (S i ++ (xG ++ padding 33 97)) t = wordAt (S i) t := fun i t ht => wordAt_left _ _ _ (by rw [hS]; omega)
  have sZ : ∀ i t, wordAt (S i ++ (xG ++ padding 33 97)) (8 + t) = wordAt (xG ++ padding 33 97) t := fun i t => wordAt_right _ _ 8 t (hS i)
  have x0 : (wordAt (xG ++ padding 33 97) 0).toNat / 256 = 0 := by rfl
  have cw : ∀ i t, wordAt ((P i ++ putB 4 0 ++ mG (S i)).drop 64 ++ padding 33 97) (5 + t) = BitVec.ofNat 32 (((wordAt (xG ++ padding 33 97) t).toNat * 16777216 + (wordAt (xG ++ padding 33 97) (t + 1)).toNat / 256) % 4294967296) := fun i t => by
    apply BitVec.eq_of_toNat_eq
    rw [d0, show 4 + (5 + t) = (8 + t) + 1 by omega, cs, sZ, show 8 + t + 1 = 8 + (t + 1) by omega, sZ, BitVec.toNat_ofNat]
    rw [Nat.mod_mod]
  unfold dgX
  have hK : ∀ K : CK, iniV (msk n) (pack (fun _ => 1) n) K (pk8 n P).a0 (pk8 n P).a1 (pk8 n P).a2 (pk8 n P).a3 (pk8 n P).a4 (pk8 n P).a5 (pk8 n P).a6 (pk8 n P).a7 0 (Nat.mul 0x73656374 (pack (fun _ => 1) n)) (Nat.mul 0x696d6520 (pack (fun _ => 1) n)) (Nat.mul 0x6772616e (pack (fun _ => 1) n)) (Nat.add (Nat.land (Nat.shiftRight (pk8 n S).a0 8) (msk n)) (Nat.mul 0x74000000 (pack (fun _ => 1) n))) (shW (msk n) (pk8 n S).a0 (pk8 n S).a1) (shW (msk n) (pk8 n S).a1 (pk8 n S).a2) (shW (msk n) (pk8 n S).a2 (pk8 n S).a3) =
      wdS n (fun i => cmpW st0 (wordAt (P i ++ putB 4 0 ++ mG (S i)))) K := fun K =>
    iniV_at n (fun i => wordAt (P i ++ putB 4 0 ++ mG (S i))) K (wd_same n _ _ fun i => (b0 i 0 (by decide)).symm) (wd_same n _ _ fun i => (b0 i 1 (by decide)).symm) (wd_same n _ _ fun i => (b0 i 2 (by decide)).symm) (wd_same n _ _ fun i => (b0 i 3 (by decide)).symm)
      (wd_same n _ _ fun i => (b0 i 4 (by decide)).symm) (wd_same n _ _ fun i => (b0 i 5 (by decide)).symm) (wd_same n _ _ fun i => (b0 i 6 (by decide)).symm) (wd_same n _ _ fun i => (b0 i 7 (by decide)).symm) (wd_nul n _ fun i => b8 i)
      (wd_cst n _ _ 0x73656374#32 rfl fun i => b9 i 0 (by decide)) (wd_cst n _ _ 0x696d6520#32 rfl fun i => b9 i 1 (by decide)) (wd_cst n _ _ 0x6772616e#32 rfl fun i => b9 i 2 (by decide))
      (topc_eq n 0x74000000 (by decide) _ _ fun i => by rw [show 12 = 8 + (1 + (3 + 0)) from rfl, b12, wordAt_cons0, sX i 0 (by decide)]; rfl)
      (shW_eq n _ _ _ fun i => by rw [show 13 = 8 + (1 + (3 + (0 + 1))) from rfl, b12, wordAt_cons, sX i 0 (by decide), sX i 1 (by decide)])
      (shW_eq n _ _ _ fun i => by rw [show 14 = 8 + (1 + (3 + (1 + 1))) from rfl, b12, wordAt_cons, sX i 1 (by decide), sX i 2 (by decide)])
      (shW_eq n _ _ _ fun i => by rw [show 15 = 8 + (1 + (3 + (2 + 1))) from rfl, b12, wordAt_cons, sX i 2 (by decide), sX i 3 (by decide)])
  rw [hK]
  unfold wdS
  refine (cmpV_at n (fun i => cmpW st0 (wordAt (P i ++ putB 4 0 ++ mG (S i)))) (fun i => wordAt ((P i ++ putB 4 0 ++ mG (S i)).drop 64 ++ padding 33 97)) _ rfl rfl rfl rfl rfl rfl rfl rfl
    (shW_eq n _ _ _ fun i => by rw [d0, show 4 + 0 = 3 + 1 from rfl, cs, sY i 3 (by decide), sY i 4 (by decide)]) (shW_eq n _ _ _ fun i => by rw [d0, show 4 + 1 = 4 + 1 from rfl, cs, sY i 4 (by decide), sY i 5 (by decide)])
    (shW_eq n _ _ _ fun i => by rw [d0, show 4 + 2 = 5 + 1 from rfl, cs, sY i 5 (by decide), sY i 6 (by decide)]) (shW_eq n _ _ _ fun i => by rw [d0, show 4 + 3 = 6 + 1 from rfl, cs, sY i 6 (by decide), sY i 7 (by decide)])
    (up_eq n _ _ fun i => by rw [d0, show 4 + 4 = 7 + 1 from rfl, cs, sY i 7 (by decide), show 7 + 1 = 8 + 0 from rfl, sZ, x0, Nat.add_zero])
    (wd_nul n _ fun i => cw i 0) (wd_nul n _ fun i => cw i 1) (wd_nul n _ fun i => cw i 2) (wd_cst n _ _ 0x63800000#32 rfl fun i => cw i 3) (wd_nul n _ fun i => cw i 4) (wd_nul n _ fun i => cw i 5) (wd_nul n _ fun i => cw i 6) (wd_nul n _ fun i => cw i 7) (wd_nul n _ fun i => cw i 8) (wd_nul n _ fun i => cw i 9) (wd_cst n _ _ 776#32 rfl fun i => cw i 10)).trans ?_
  refine (wdS_out n _ (fun i => sha (P i ++ putB 4 0 ++ mG (S i))) _ fun i => by
    rw [sha_two _ (by rw [hl]; omega), hl, show ((P i ++ putB 4 0 ++ mG (S i)).drop 64).length = 33 by rw [List.length_drop, hl]]).trans ?_
  exact wd8_short n _ (fun i => digG (P i) 0 (mG (S i))) (fun a b c d => K ⟨a, b, c, d⟩) fun i => rfl
end
end Go.Proofs.YtamdgjgommejjaaGreat.V

/- Many keys and many signatures at once: keys compared with a table, and a group of signatures looked at under other keys. No program in sight, no conditions beyond those of each theorem. -/
import Derived.Test.YtamdgjgommejjaaGreatDVF
namespace Go.Proofs.YtamdgjgommejjaaGreat.V
open Go
set_option linter.unusedVariables false
/-- Lanes cut out of a table. -/
def slX (T off n : Nat) : Nat := Nat.mod (Nat.shiftRight T (Nat.mul 64 off)) (Nat.pow 2 (Nat.mul 64 n))
def tlX (T x : Nat) : Nat := (T >>> (64 * x)) % 18446744073709551616
theorem slX_eq (T : Nat) : ∀ (n off : Nat), slX T off n = pack (fun i => tlX T (off + i)) n := by
  intro n
  induction n with
  | zero => intro off; exact Nat.mod_one _
  | succ n ih =>
    intro off
    have h := ih (off + 1)
    unfold slX at h ⊢
    rw [pack]
    have e : (fun i => tlX T (off + (i + 1))) = fun i => tlX T (off + 1 + i) := funext fun i => by rw [show off + (i + 1) = off + 1 + i by omega]
    rw [e, ← h]
    show (T >>> (64 * off)) % 2 ^ (64 * (n + 1)) = 18446744073709551616 * ((T >>> (64 * (off + 1))) % 2 ^ (64 * n)) + tlX T (off + 0)
    rw [show 64 * (n + 1) = 64 + 64 * n by omega, Nat.pow_add, Nat.mod_mul, show 64 * (off + 1) = 64 * off + 64 by omega, Nat.shiftRight_add, Nat.shiftRight_eq_div_pow (T >>> (64 * off)) 64]
    unfold tlX
    rw [Nat.add_zero, show (2 : Nat) ^ 64 = 18446744073709551616 from rfl]
    omega
def keyX (M O v : Nat) (t : X8) : Bool :=
  seedX M O v fun s => otV M O s.a0 s.a1 s.a2 s.a3 s.a4 s.a5 s.a6 s.a7 0 (leafV M O fun A B C D E F G H => Nat.beq A t.a0 && (Nat.beq B t.a1 && (Nat.beq C t.a2 && (Nat.beq D t.a3 && (Nat.beq E t.a4 && (Nat.beq F t.a5 && (Nat.beq G t.a6 && Nat.beq H t.a7)))))))
def neqX (M O x y : Nat) : Bool := Nat.beq (Nat.land (Nat.shiftRight (Nat.add (Nat.xor x y) (Nat.mul O 4294967295)) 32) M) O
def oneX (M O : Nat) (T : List (List W4)) (S u : X8) : Bool :=
  dgX M O u S fun E => zipX M O (eeX M O E) T fun zs => endX M O zs fun y => leafV M O (fun A _ _ _ _ _ _ _ => neqX M O A u.a0) y.a y.b y.c y.d
def grpX (M O v : Nat) (P S : X8) (U : Nat → X8) (W : Nat) : Bool :=
  seedX M O v fun s => dgX M O P S fun D => tabX M O s (ddX M O D) 0 fun T => (List.range W).all fun w => oneX M O T S (U w)
/-- How many steps a chain has gone, signed for one digest and looked at for another one. -/
def ksD (D E : Bs) (c : Nat) : Nat := (digs D).getD c 0 + (15 - (digs E).getD c 0)
section
variable (n : Nat)
theorem keyX_eq (v : Nat → Nat) (hv : ∀ i, v i < 4294967296) (t : X8) (h : keyX (msk n) (pack (fun _ => 1) n) (pack v n) t = true) : t = pk8 n fun i => leafH (otPublic (seedB (v i)) 0) := by
  unfold keyX at h
  rw [seedX_eq n v hv] at h
  have h0 := fun K => otV_eq n (fun i => seedB (v i)) (fun i => sha_len _) 0 (by decide) K
  have l0 := fun K => leafV_eq n (fun i => otPublic (seedB (v i)) 0) (fun i => short_len _) K
  unfold wd8 at h0
  unfold wd4 at l0 h0
  dsimp only at h0 l0
  dsimp only [pk8] at h
  rw [h0, l0] at h
  unfold wd8 at h
  simp only [Bool.and_eq_true] at h
  obtain ⟨a0, a1, a2, a3, a4, a5, a6, a7⟩ := h
  have b0 := Nat.eq_of_beq_eq_true a0; have b1 := Nat.eq_of_beq_eq_true a1; have b2 := Nat.eq_of_beq_eq_true a2; have b3 := Nat.eq_of_beq_eq_true a3
  have b4 := Nat.eq_of_beq_eq_true a4; have b5 := Nat.eq_of_beq_eq_true a5; have b6 := Nat.eq_of_beq_eq_true a6; have b7 := Nat.eq_of_beq_eq_true a7
  cases t
  dsimp only at b0 b1 b2 b3 b4 b5 b6 b7
  subst b0 b1 b2 b3 b4 b5 b6 b7
  rfl
theorem neqX_lane (x y : Nat → Bs) (h : neqX (msk n) (pack (fun _ => 1) n) (wd (fun i => wordAt (x i) 0) n) (wd (fun i => wordAt (y i) 0) n) = true) (i : Nat) (hi : i < n) : x i ≠ y i := by
  intro e
  unfold neqX at h
  have h1 := Nat.eq_of_beq_eq_true h
  rw [wd_xor, wd, pack_mul, pack_add, pack_shr n 32 (by decide) _ (fun i => by have := bit_lt (wordAt (x i) 0 ^^^ wordAt (y i) 0); omega)] at h1
  have h2 := congrArg (fun z => (z >>> (64 * i)) % 18446744073709551616) h1
  rw [lane n _ (fun i => by omega) i hi, lane n _ (fun i => by omega) i hi, e] at h2
  simp at h2
theorem oneX_eq (sd S U D : Nat → Bs) (hS : ∀ i, (S i).length = 32) (hU : ∀ i, (U i).length = 32)
    (h : oneX (msk n) (pack (fun _ => 1) n) ((List.range' 0 35).map fun c => (List.range 16).map fun s => pk4 n fun i => chainH ((digs (D i)).getD c 0 + s) (otBegin (sd i) 0 c)) (pk8 n S) (pk8 n U) = true) (i : Nat) (hi : i < n) :
    leafH (short (endsK (sd i) 0 (ksD (D i) (digG (U i) 0 (mG (S i)))) 35)) ≠ U i := by
  have hlt : ∀ c i, c < 35 → 15 - (digs (digG (U i) 0 (mG (S i)))).getD c 0 < 16 := fun c i _ => by omega
  unfold oneX at h
  rw [dgX_eq n U S hU hS, eeX_eq n (fun i => digG (U i) 0 (mG (S i))) (fun i => short_len _), List.range_eq_range' (n := 35),
    zipX_eq n sd (fun c i => (digs (D i)).getD c 0) (fun c i => 15 - (digs (digG (U i) 0 (mG (S i)))).getD c 0) hlt 35 0 _ (by decide), ← List.range_eq_range' (n := 35)] at h
  have he := endX_eq n sd (fun i => ksD (D i) (digG (U i) 0 (mG (S i))))
  unfold ksD at he
  rw [he] at h
  have hlf := leafV_eq n (fun i => short (endsK (sd i) 0 (ksD (D i) (digG (U i) 0 (mG (S i)))) 35)) (fun i => short_len _) (fun A _ _ _ _ _ _ _ => neqX (msk n) (pack (fun _ => 1) n) A (pk8 n U).a0)
  unfold wd4 wd8 at hlf
  dsimp only at hlf
  exact neqX_lane n _ U (hlf ▸ h) i hi
theorem grpX_eq (v : Nat → Nat) (hv : ∀ i, v i < 4294967296) (P S U : Nat → Bs) (Ux : Nat → X8) (hP : ∀ i, (P i).length = 32) (hS : ∀ i, (S i).length = 32) (hU : ∀ i, (U i).length = 32) (W : Nat)
    (h : grpX (msk n) (pack (fun _ => 1) n) (pack v n) (pk8 n P) (pk8 n S) Ux W = true) (w i : Nat) (hw : w < W) (hUx : Ux w = pk8 n U) (hi : i < n) :
    leafH (short (endsK (seedB (v i)) 0 (ksD (digG (P i) 0 (mG (S i))) (digG (U i) 0 (mG (S i)))) 35)) ≠ U i := by
  have hlt : ∀ c i, c < 35 → (digs (digG (P i) 0 (mG (S i)))).getD c 0 < 16 := fun c i hc => digs_get _ (short_len _) c hc
  unfold grpX at h
  rw [seedX_eq n v hv, dgX_eq n P S hP hS, ddX_eq n (fun i => digG (P i) 0 (mG (S i))) (fun i => short_len _), List.range_eq_range' (n := 35),
    tabX_eq n (fun i => seedB (v i)) (fun i => sha_len _) (fun c i => (digs (digG (P i) 0 (mG (S i)))).getD c 0) hlt 35 0 _ (by decide), List.all_eq_true] at h
  have h1 := h w (List.mem_range.2 hw)
  rw [hUx] at h1
  exact oneX_eq n (fun i => seedB (v i)) S U (fun i => digG (P i) 0 (mG (S i))) hS hU h1 i hi
end
end Go.Proofs.YtamdgjgommejjaaGreat.V

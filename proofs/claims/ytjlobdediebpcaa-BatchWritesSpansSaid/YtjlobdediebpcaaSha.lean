/- SHA-256 as a plain function on lists of bytes, and numbers as bytes. No program in sight. -/
import Derived.Test.YtjlobdediebpcaaWords
namespace Go.Proofs.Ytjlobdediebpcaa
open Go.RowKit
abbrev Bs := List UInt8

/-- The last n bytes of a number, the greatest first. -/
def putB : Nat → Nat → Bs
  | 0, _ => []
  | n + 1, v => putB n (v / 256) ++ [UInt8.ofNat v]
theorem putB_len (n v : Nat) : (putB n v).length = n := by
  induction n generalizing v with
  | zero => rfl
  | succ n ih => simp [putB, ih]
/-- The number in bytes, modulo 2^64. -/
def getB (l : Bs) : Nat := l.foldl (fun v x => (v * 256 + x.toNat) % 18446744073709551616) 0

structure St where
  a : Wd
  b : Wd
  c : Wd
  d : Wd
  e : Wd
  f : Wd
  g : Wd
  h : Wd
def rotr (x : Wd) (k : Nat) : Wd := (x <<< (32 - k)) ||| (x >>> k)
def kTab : List Wd := [0x428a2f98, 0x71374491, 0xb5c0fbcf, 0xe9b5dba5, 0x3956c25b, 0x59f111f1, 0x923f82a4, 0xab1c5ed5,
  0xd807aa98, 0x12835b01, 0x243185be, 0x550c7dc3, 0x72be5d74, 0x80deb1fe, 0x9bdc06a7, 0xc19bf174,
  0xe49b69c1, 0xefbe4786, 0x0fc19dc6, 0x240ca1cc, 0x2de92c6f, 0x4a7484aa, 0x5cb0a9dc, 0x76f988da,
  0x983e5152, 0xa831c66d, 0xb00327c8, 0xbf597fc7, 0xc6e00bf3, 0xd5a79147, 0x06ca6351, 0x14292967,
  0x27b70a85, 0x2e1b2138, 0x4d2c6dfc, 0x53380d13, 0x650a7354, 0x766a0abb, 0x81c2c92e, 0x92722c85,
  0xa2bfe8a1, 0xa81a664b, 0xc24b8b70, 0xc76c51a3, 0xd192e819, 0xd6990624, 0xf40e3585, 0x106aa070,
  0x19a4c116, 0x1e376c08, 0x2748774c, 0x34b0bcb5, 0x391c0cb3, 0x4ed8aa4a, 0x5b9cca4f, 0x682e6ff3,
  0x748f82ee, 0x78a5636f, 0x84c87814, 0x8cc70208, 0x90befffa, 0xa4506ceb, 0xbef9a3f7, 0xc67178f2]
def kAt (t : Nat) : Wd := kTab.getD t 0
def st0 : St := ⟨0x6a09e667, 0xbb67ae85, 0x3c6ef372, 0xa54ff53a, 0x510e527f, 0x9b05688c, 0x1f83d9ab, 0x5be0cd19⟩
def sig0 (x : Wd) : Wd := rotr x 7 ^^^ rotr x 18 ^^^ (x >>> 3)
def sig1 (x : Wd) : Wd := rotr x 17 ^^^ rotr x 19 ^^^ (x >>> 10)
def sched (m : Nat → Wd) (t : Nat) : Wd := if t < 16 then m t else sig1 (sched m (t - 2)) + sched m (t - 7) + sig0 (sched m (t - 15)) + sched m (t - 16)
termination_by t
def rnd (s : St) (k w : Wd) : St :=
  let t1 := s.h + (rotr s.e 6 ^^^ rotr s.e 11 ^^^ rotr s.e 25) + ((s.e &&& s.f) ^^^ (~~~s.e &&& s.g)) + k + w
  let t2 := (rotr s.a 2 ^^^ rotr s.a 13 ^^^ rotr s.a 22) + ((s.a &&& s.b) ^^^ (s.a &&& s.c) ^^^ (s.b &&& s.c))
  ⟨t1 + t2, s.a, s.b, s.c, s.d + t1, s.e, s.f, s.g⟩
def rnds (s : St) (w : Nat → Wd) : Nat → St
  | 0 => s
  | n + 1 => rnd (rnds s w n) (kAt n) (w n)
def addSt (s v : St) : St := ⟨s.a + v.a, s.b + v.b, s.c + v.c, s.d + v.d, s.e + v.e, s.f + v.f, s.g + v.g, s.h + v.h⟩
def word4 (a b c d : UInt8) : Wd := (BitVec.ofNat 32 a.toNat <<< 24) ||| (BitVec.ofNat 32 b.toNat <<< 16) ||| (BitVec.ofNat 32 c.toNat <<< 8) ||| BitVec.ofNat 32 d.toNat
def wordAt (bs : Bs) (t : Nat) : Wd := word4 (bs.getD (4 * t) 0) (bs.getD (4 * t + 1) 0) (bs.getD (4 * t + 2) 0) (bs.getD (4 * t + 3) 0)
def compress (s : St) (bs : Bs) : St := addSt s (rnds s (sched (wordAt bs)) 64)
/-- The state behind n whole blocks. -/
def absorb (s : St) (bs : Bs) : Nat → St
  | 0 => s
  | n + 1 => compress (absorb s bs n) ((bs.drop (64 * n)).take 64)
def stAt (s : St) : Nat → Wd
  | 0 => s.a
  | 1 => s.b
  | 2 => s.c
  | 3 => s.d
  | 4 => s.e
  | 5 => s.f
  | 6 => s.g
  | _ => s.h
def stList (s : St) : List Wd := [s.a, s.b, s.c, s.d, s.e, s.f, s.g, s.h]
def outOf (l : List Wd) : Bs := l.flatMap fun x => putB 4 x.toNat
def out (s : St) : Bs := outOf (stList s)
def padding (n count : Nat) : Bs := 128 :: (List.replicate (if n + 9 ≤ 64 then 55 - n else 119 - n) 0 ++ putB 8 (count * 8))
def finish (s : St) (rest : Bs) (count : Nat) : Bs := out (absorb s (rest ++ padding rest.length count) ((rest ++ padding rest.length count).length / 64))
def sha (bs : Bs) : Bs := finish (absorb st0 bs (bs.length / 64)) (bs.drop (64 * (bs.length / 64))) bs.length
theorem sha_len (bs : Bs) : (sha bs).length = 32 := by
  simp [sha, finish, out, outOf, stList, putB_len]
def short (bs : Bs) : Bs := (sha bs).take 16
theorem short_len (bs : Bs) : (short bs).length = 16 := by simp [short, sha_len]
def chainH : Nat → Bs → Bs
  | 0, b => b
  | n + 1, b => short (chainH n b)
theorem chainH_add (m n : Nat) (b : Bs) : chainH m (chainH n b) = chainH (n + m) b := by
  induction m with
  | zero => rfl
  | succ m ih => rw [← Nat.add_assoc, chainH, chainH, ih]
theorem absorb_append (s : St) (a b : Bs) (n : Nat) (h : 64 * n ≤ a.length) : absorb s (a ++ b) n = absorb s a n := by
  induction n with
  | zero => rfl
  | succ n ih =>
    rw [absorb, absorb, ih (by omega), List.drop_append_of_le_length (by omega), List.take_append_of_le_length (by rw [List.length_drop]; omega)]
theorem absorb_drop (s : St) (a : Bs) (n m : Nat) : absorb (absorb s a n) (a.drop (64 * n)) m = absorb s a (n + m) := by
  induction m with
  | zero => rfl
  | succ m ih => rw [← Nat.add_assoc, absorb, absorb, ih, List.drop_drop, show 64 * n + 64 * m = 64 * (n + m) from by omega]
end Go.Proofs.Ytjlobdediebpcaa

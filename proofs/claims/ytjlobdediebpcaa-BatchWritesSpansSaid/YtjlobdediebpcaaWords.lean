/- Words of 32 bits and bytes: what the model's integer operations are on them. No program in sight. -/
import Derived.Test.YtjlobdediebpcaaRows
import Derived.Laws.BitsAllLaws
import Derived.Laws.Bits64b
import Derived.RowKit
import Derived.WalkKit
namespace Go.Proofs.Ytjlobdediebpcaa
open Go.RowKit

abbrev Wd := BitVec 32
def wdV (a : Wd) : Value := .int .u32 (a.toNat : Int)
theorem wd_lt (a : Wd) : (a.toNat : Int) < 4294967296 := by have := a.isLt; omega
theorem wd_add (a b : Wd) : IntKind.u32.wrap ((a.toNat : Int) + (b.toNat : Int)) = ((a + b).toNat : Int) := by
  rw [IntKind.wrap_u32, BitVec.toNat_add]; omega
theorem wd_xor (a b : Wd) : bits .xor .u32 (a.toNat : Int) (b.toNat : Int) = ((a ^^^ b).toNat : Int) := by
  rw [u32_xor_nat _ _ a.isLt b.isLt, BitVec.toNat_xor]
theorem wd_and (a b : Wd) : bits .and .u32 (a.toNat : Int) (b.toNat : Int) = ((a &&& b).toNat : Int) := by
  rw [u32_and_nat _ _ a.isLt b.isLt, BitVec.toNat_and]
theorem wd_or (a b : Wd) : bits .or .u32 (a.toNat : Int) (b.toNat : Int) = ((a ||| b).toNat : Int) := by
  rw [u32_or_nat _ _ a.isLt b.isLt, BitVec.toNat_or]
theorem wd_shr (a : Wd) (k : Nat) (m : Int) (h : m = ((2 ^ k : Nat) : Int)) : (a.toNat : Int) / m = ((a >>> k).toNat : Int) := by
  subst h
  rw [BitVec.toNat_ushiftRight, Nat.shiftRight_eq_div_pow]
  exact (Int.natCast_ediv _ _).symm
theorem wd_shl (a : Wd) (k : Nat) (m : Int) (h : m = ((2 ^ k : Nat) : Int)) : IntKind.u32.wrap ((a.toNat : Int) * m) = ((a <<< k).toNat : Int) := by
  subst h
  rw [IntKind.wrap_u32, BitVec.toNat_shiftLeft, Nat.shiftLeft_eq, ← Int.natCast_mul]
  omega
theorem wd_shl' (a : Wd) (k : Nat) (m : Int) (h : m = ((2 ^ k : Nat) : Int)) : (a.toNat : Int) * m % 4294967296 = ((a <<< k).toNat : Int) := by
  rw [← wd_shl a k m h, IntKind.wrap_u32]
theorem wd_add' (a b : Wd) : ((a.toNat : Int) + (b.toNat : Int)) % 4294967296 = ((a + b).toNat : Int) := by
  rw [← wd_add, IntKind.wrap_u32]
end Go.Proofs.Ytjlobdediebpcaa

/- Contracts of sectimecase.Within and Flip: v modulo m; bytes of which one is changed. Conditions: m from 1 to 2^32; from 1 to 1048576 bytes. -/
import Derived.Test.YtdfnandhdgbgeaaTower14
namespace Go.Proofs.Ytdfnandhdgbgeaa
open Go.RowKit
set_option linter.unusedVariables false
attribute [local go_sem ↓] Go.wp_at_zero Go.wp_at_succ
def xorK (z : UInt8) (b : Int) : UInt8 := UInt8.ofNat (bits .xor .u8 (z.toNat : Int) b).toNat
theorem xorK_eq (z : UInt8) (b : Int) : bits .xor .u8 (z.toNat : Int) b = ((xorK z b).toNat : Int) := by
  have h : 0 ≤ bits .xor .u8 (z.toNat : Int) b ∧ bits .xor .u8 (z.toNat : Int) b < 256 := by
    show 0 ≤ IntKind.u8.wrap _ ∧ IntKind.u8.wrap _ < 256
    rw [IntKind.wrap_u8]
    omega
  unfold xorK
  generalize bits .xor .u8 (z.toNat : Int) b = x at *
  simp
  omega
def flipK (l : Bs) (a b : Int) : Bs := l.set (a % (l.length : Int)).toNat (xorK (l.getD (a % (l.length : Int)).toNat 0) (1 + b % 255))
theorem flipK_len (l : Bs) (a b : Int) : (flipK l a b).length = l.length := by simp [flipK]
theorem kmod_nat (v m : Int) (hm : 0 < m) : ∃ k : Nat, v % m = (k : Int) ∧ (k : Int) < m := by
  have h1 := Int.emod_nonneg v (show m ≠ 0 by omega)
  have h2 := Int.emod_lt_of_pos v hm
  exact ⟨(v % m).toNat, by omega, by omega⟩
end Go.Proofs.Ytdfnandhdgbgeaa

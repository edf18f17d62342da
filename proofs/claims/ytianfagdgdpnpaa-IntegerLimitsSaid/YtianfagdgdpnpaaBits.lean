/- 'or', 'and' and their like on numbers that fit. -/
import Derived.Test.YtianfagdgdpnpaaOps
namespace Go.Qf
open Go

theorem toNat_ofInt64 (x : Nat) (h : x < 18446744073709551616) : (BitVec.ofInt 64 (x : Int)).toNat = x := by
  simp; omega
theorem toNat_ofInt32 (x : Nat) (h : x < 4294967296) : (BitVec.ofInt 32 (x : Int)).toNat = x := by
  simp; omega

theorem or_u64 (x y : Nat) (hx : x < 18446744073709551616) (hy : y < 18446744073709551616) : bitsI .or .u64 x y = ((x ||| y : Nat) : Int) := by
  have hb : x ||| y < 2 ^ 64 := Nat.or_lt_two_pow (by simpa using hx) (by simpa using hy)
  show IntKind.u64.wrap (((BitVec.ofInt 64 (x : Int) ||| BitVec.ofInt 64 (y : Int)).toNat : Nat) : Int) = _
  rw [BitVec.toNat_or, toNat_ofInt64 x hx, toNat_ofInt64 y hy]
  exact u64_id (by omega) (by omega)

theorem or_u32 (x y : Nat) (hx : x < 4294967296) (hy : y < 4294967296) : bitsI .or .u32 x y = ((x ||| y : Nat) : Int) := by
  have hb : x ||| y < 2 ^ 32 := Nat.or_lt_two_pow (by simpa using hx) (by simpa using hy)
  show IntKind.u32.wrap (((BitVec.ofInt 32 (x : Int) ||| BitVec.ofInt 32 (y : Int)).toNat : Nat) : Int) = _
  rw [BitVec.toNat_or, toNat_ofInt32 x hx, toNat_ofInt32 y hy]
  exact u32_id (by omega) (by omega)

theorem and_u32 (x y : Nat) (hx : x < 4294967296) (hy : y < 4294967296) : bitsI .and .u32 x y = ((x &&& y : Nat) : Int) := by
  have hb : x &&& y ≤ x := Nat.and_le_left
  show IntKind.u32.wrap (((BitVec.ofInt 32 (x : Int) &&& BitVec.ofInt 32 (y : Int)).toNat : Nat) : Int) = _
  rw [BitVec.toNat_and, toNat_ofInt32 x hx, toNat_ofInt32 y hy]
  exact u32_id (by omega) (by omega)

end Go.Qf

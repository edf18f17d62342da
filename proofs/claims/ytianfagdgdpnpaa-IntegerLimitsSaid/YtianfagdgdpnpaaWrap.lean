/- What the model's 'wrap' is, as a remainder that omega reads. -/
import GoSem.Core.View
namespace Go.Qf
open Go

theorem wrap_u64 (n : Int) : IntKind.u64.wrap n = n % 18446744073709551616 := by
  show (if (false && decide (n % (2 ^ 64 : Int) ≥ 2 ^ (64 - 1))) = true then n % (2 ^ 64 : Int) - 2 ^ 64 else n % (2 ^ 64 : Int)) = _
  rw [Bool.false_and, if_neg (by decide)]
  rfl
theorem wrap_u32 (n : Int) : IntKind.u32.wrap n = n % 4294967296 := by
  show (if (false && decide (n % (2 ^ 32 : Int) ≥ 2 ^ (32 - 1))) = true then n % (2 ^ 32 : Int) - 2 ^ 32 else n % (2 ^ 32 : Int)) = _
  rw [Bool.false_and, if_neg (by decide)]
  rfl
theorem wrap_u8 (n : Int) : IntKind.u8.wrap n = n % 256 := by
  show (if (false && decide (n % (2 ^ 8 : Int) ≥ 2 ^ (8 - 1))) = true then n % (2 ^ 8 : Int) - 2 ^ 8 else n % (2 ^ 8 : Int)) = _
  rw [Bool.false_and, if_neg (by decide)]
  rfl
theorem wrap_i64 (n : Int) : IntKind.i64.wrap n = (n + 9223372036854775808) % 18446744073709551616 - 9223372036854775808 := by
  show (if (true && decide (n % (2 ^ 64 : Int) ≥ 2 ^ (64 - 1))) = true then n % (2 ^ 64 : Int) - 2 ^ 64 else n % (2 ^ 64 : Int)) = _
  rw [Bool.true_and]
  have e1 : (2 : Int) ^ 64 = 18446744073709551616 := rfl
  have e2 : (2 : Int) ^ (64 - 1) = 9223372036854775808 := rfl
  simp only [e1, e2, decide_eq_true_eq]
  split <;> omega
theorem wrap_i32 (n : Int) : IntKind.i32.wrap n = (n + 2147483648) % 4294967296 - 2147483648 := by
  show (if (true && decide (n % (2 ^ 32 : Int) ≥ 2 ^ (32 - 1))) = true then n % (2 ^ 32 : Int) - 2 ^ 32 else n % (2 ^ 32 : Int)) = _
  rw [Bool.true_and]
  have e1 : (2 : Int) ^ 32 = 4294967296 := rfl
  have e2 : (2 : Int) ^ (32 - 1) = 2147483648 := rfl
  simp only [e1, e2, decide_eq_true_eq]
  split <;> omega

theorem i64_id {n : Int} (h0 : -9223372036854775808 ≤ n) (h1 : n ≤ 9223372036854775807) : IntKind.i64.wrap n = n := by
  rw [wrap_i64]; omega
theorem u64_id {n : Int} (h0 : 0 ≤ n) (h1 : n ≤ 18446744073709551615) : IntKind.u64.wrap n = n := by
  rw [wrap_u64]; omega
theorem u32_id {n : Int} (h0 : 0 ≤ n) (h1 : n ≤ 4294967295) : IntKind.u32.wrap n = n := by
  rw [wrap_u32]; omega

end Go.Qf

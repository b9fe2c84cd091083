/-
  Bit operations on ints that are not negative, as plain arithmetic.
-/
import Derived.Test.YtfabdpnjjondaaaBase
set_option linter.unusedVariables false
set_option linter.unusedSimpArgs false
namespace Go.Proofs.Ytfabdpnjjondaaa
open Go.RowKit

theorem ofInt_i64 (a : Nat) (ha : a < 9223372036854775808) : (BitVec.ofInt 64 (a : Int)).toNat = a := by
  rw [BitVec.toNat_ofInt]; omega
theorem wrap_i64_nat (a : Nat) (ha : a < 9223372036854775808) : IntKind.i64.wrap (a : Int) = a := IntWalk.i64_in _ (by omega)
theorem i64_or_nat (a b : Nat) (ha : a < 9223372036854775808) (hb : b < 9223372036854775808) : bits .or .i64 (a : Int) (b : Int) = ((a ||| b : Nat) : Int) := by
  show IntKind.i64.wrap ((BitVec.ofInt 64 (a : Int) ||| BitVec.ofInt 64 (b : Int)).toNat : Int) = _
  rw [BitVec.toNat_or, ofInt_i64 a ha, ofInt_i64 b hb]
  exact wrap_i64_nat _ (by simpa using Nat.or_lt_two_pow (n := 63) (by omega) (by omega))
theorem i64_and_nat (a b : Nat) (ha : a < 9223372036854775808) (hb : b < 9223372036854775808) : bits .and .i64 (a : Int) (b : Int) = ((a &&& b : Nat) : Int) := by
  show IntKind.i64.wrap ((BitVec.ofInt 64 (a : Int) &&& BitVec.ofInt 64 (b : Int)).toNat : Int) = _
  rw [BitVec.toNat_and, ofInt_i64 a ha, ofInt_i64 b hb]
  exact wrap_i64_nat _ (by simpa using Nat.and_lt_two_pow (n := 63) a (by omega))
/-- n has no bit from k on. -/
theorem i64_or_add (n v : Int) (k : Nat) (hn : 0 ≤ n) (hk : n < 2 ^ k) (hv : v = 0 ∨ v = 1) (h62 : k ≤ 62) : bits .or .i64 n (wrap64 (v * 2 ^ k)) = n + 2 ^ k * v := by
  obtain ⟨a, rfl⟩ := Int.eq_ofNat_of_zero_le hn
  have hp : (2 : Nat) ^ k ≤ 2 ^ 62 := Nat.pow_le_pow_right (by omega) h62
  have hp' : (2 : Nat) ^ k ≤ 4611686018427387904 := hp
  have hc : ((2 ^ k : Nat) : Int) = (2 : Int) ^ k := by simp
  have ha : a < 2 ^ k := by omega
  rcases hv with rfl | rfl
  · have : wrap64 (0 * (2 : Int) ^ k) = ((0 : Nat) : Int) := by rw [Int.zero_mul]; exact IntWalk.wrap64_in _ (by omega)
    rw [this, i64_or_nat a 0 (by omega) (by omega)]; simp
  · have : wrap64 (1 * (2 : Int) ^ k) = ((2 ^ k : Nat) : Int) := by
      rw [Int.one_mul, ← hc]; exact IntWalk.wrap64_in _ (by omega)
    rw [this, i64_or_nat a (2 ^ k) (by omega) (by omega), Nat.or_comm, nat_join k (2 ^ k) a (by simp) ha]
    push_cast; omega
theorem i64_and_one (n : Int) (hn : 0 ≤ n) (h : n < 9223372036854775808) : bits .and .i64 n 1 = n % 2 := by
  obtain ⟨a, rfl⟩ := Int.eq_ofNat_of_zero_le hn
  rw [show (1 : Int) = ((1 : Nat) : Int) from rfl, i64_and_nat a 1 (by omega) (by omega), nat_mask1]
  rfl
theorem i64_and_bits (a b : Int) (ha : a = 0 ∨ a = 1) (hb : b = 0 ∨ b = 1) : bits .and .i64 a b = a * b := by
  rcases ha with rfl | rfl <;> rcases hb with rfl | rfl <;> rfl
end Go.Proofs.Ytfabdpnjjondaaa

/- Laws on numbers that the walks use. -/
import Derived.WalkKit
import Derived.Laws.BitsAllLaws
import Derived.Laws.BitsLemmas
namespace Go.Proofs.YtpffaenjphnfiaaDoor

theorem and127 (c : Nat) (hc : c < 256) : bits .and .u8 (c : Int) 127 = ((c % 128 : Nat) : Int) := by
  have := bits_mask .u8 8 (by decide) wraps_u8 7 (by decide) (c : Int) (by omega) (by omega)
  rw [show (127 : Int) = 2 ^ 7 - 1 from by decide, this]
  omega
theorem pow7 (k : Nat) : (2 : Int) ^ (7 * k) = ((128 ^ k : Nat) : Int) := by
  rw [Int.pow_mul, Int.natCast_pow]
  rfl
theorem pow_bd (k : Nat) (hk : k ≤ 8) : 128 ^ k ≤ 72057594037927936 := by
  have : (128 : Nat) ^ k ≤ 128 ^ 8 := Nat.pow_le_pow_right (by decide) hk
  have e : (128 : Nat) ^ 8 = 72057594037927936 := by decide
  omega
theorem acc_eq (c k n : Nat) (hc : c < 256) (hk : k ≤ 9) (hcase : k < 9 ∨ c ≤ 1) (hn : n < 128 ^ k) :
    bits .or .u64 (n : Int) (IntKind.u64.wrap (IntKind.u64.wrap (bits .and .u8 (c : Int) 127) * 2 ^ (7 * k))) = ((n + c % 128 * 128 ^ k : Nat) : Int) := by
  rw [and127 c hc, pow7]
  have h1 : IntKind.u64.wrap ((c % 128 : Nat) : Int) = ((c % 128 : Nat) : Int) := by rw [IntKind.wrap_u64]; omega
  rw [h1, ← Int.natCast_mul]
  have hb : c % 128 * 128 ^ k < 18446744073709551616 := by
    rcases Nat.lt_or_ge k 9 with h | h
    · have h2 := pow_bd k (by omega)
      have h3 : c % 128 * 128 ^ k ≤ 127 * 72057594037927936 := Nat.mul_le_mul (by omega) h2
      omega
    · obtain rfl : k = 9 := by omega
      have hc1 : c ≤ 1 := by omega
      have h3 : c % 128 * 128 ^ 9 ≤ 1 * 128 ^ 9 := Nat.mul_le_mul_right _ (by omega)
      have e : (128 : Nat) ^ 9 = 9223372036854775808 := by decide
      omega
  have h4 : IntKind.u64.wrap ((c % 128 * 128 ^ k : Nat) : Int) = ((c % 128 * 128 ^ k : Nat) : Int) := by rw [IntKind.wrap_u64]; omega
  have hn2 : n < 18446744073709551616 := by
    have h5 : (128 : Nat) ^ k ≤ 128 ^ 9 := Nat.pow_le_pow_right (by decide) hk
    have e : (128 : Nat) ^ 9 = 9223372036854775808 := by decide
    omega
  rw [h4, u64_or_nat n _ hn2 hb]
  congr 1
  have e : (128 : Nat) ^ k = 2 ^ (7 * k) := by rw [Nat.pow_mul]
  rw [e] at hn ⊢
  rw [Nat.or_comm, Nat.mul_comm, ← Nat.two_pow_add_eq_or_of_lt hn, Nat.add_comm]

/-- The number that a word of groups tells. -/
def zag (n : Nat) : Int := if n % 2 = 0 then (n / 2 : Nat) else -((n / 2 : Nat) : Int) - 1
theorem xor_all (a : Nat) (ha : a < 9223372036854775808) : bits .xor .i64 (a : Int) (-1) = -(a : Int) - 1 := by
  show IntKind.i64.wrap ((BitVec.ofInt 64 (a : Int) ^^^ BitVec.ofInt 64 (-1)).toNat : Int) = _
  have e1 : BitVec.ofInt 64 (-1) = BitVec.allOnes 64 := by decide
  rw [e1, BitVec.xor_allOnes, BitVec.toNat_not, BitVec.ofInt_natCast, BitVec.toNat_ofNat, Nat.mod_eq_of_lt (by omega), IntKind.wrap_i64]
  omega
theorem xor_none (a : Nat) (ha : a < 9223372036854775808) : bits .xor .i64 (a : Int) 0 = (a : Int) := by
  show IntKind.i64.wrap ((BitVec.ofInt 64 (a : Int) ^^^ BitVec.ofInt 64 0).toNat : Int) = _
  have e1 : BitVec.ofInt 64 0 = 0#64 := by decide
  rw [e1, BitVec.xor_zero, BitVec.ofInt_natCast, BitVec.toNat_ofNat, Nat.mod_eq_of_lt (by omega), IntKind.wrap_i64]
  omega
theorem and_one (n : Nat) (hn : n < 18446744073709551616) : bits .and .u64 (n : Int) 1 = ((n % 2 : Nat) : Int) := by
  have := u64_and_nat n 1 hn (by omega)
  rw [Nat.and_one_is_mod] at this
  exact this
theorem zag_eq (n : Nat) (hn : n < 18446744073709551616) : bits .xor .i64 ((n : Int) / 2) (RowKit.wrap64 (-RowKit.wrap64 (bits .and .u64 (n : Int) 1))) = zag n := by
  rw [and_one n hn]
  have e2 : ((n : Int) / 2) = ((n / 2 : Nat) : Int) := by omega
  rw [e2]
  unfold zag
  rcases Nat.mod_two_eq_zero_or_one n with h | h
  · rw [h, if_pos rfl, show RowKit.wrap64 (-RowKit.wrap64 ((0 : Nat) : Int)) = 0 from by unfold RowKit.wrap64; omega]
    exact xor_none (n / 2) (by omega)
  · rw [h, if_neg (by decide), show RowKit.wrap64 (-RowKit.wrap64 ((1 : Nat) : Int)) = -1 from by unfold RowKit.wrap64; omega]
    exact xor_all (n / 2) (by omega)
theorem zag_inj (a b : Nat) (h : zag a = zag b) : a = b := by
  unfold zag at h
  split at h <;> split at h <;> omega
theorem zag_bd (n : Nat) (hn : n < 18446744073709551616) : -9223372036854775808 ≤ zag n ∧ zag n ≤ 9223372036854775807 := by
  unfold zag
  split <;> omega

/-- Eight bytes, the highest first. -/
theorem eight_eq (n c : Nat) (hc : c < 256) : bits .or .u64 (IntKind.u64.wrap ((n : Int) * 256)) (c : Int) = ((n * 256 % 18446744073709551616 + c : Nat) : Int) := by
  have e : IntKind.u64.wrap ((n : Int) * 256) = ((n * 256 % 18446744073709551616 : Nat) : Int) := by rw [IntKind.wrap_u64]; omega
  rw [e, u64_or_nat _ c (by omega) (by omega)]
  congr 1
  have e2 : n * 256 % 18446744073709551616 = 2 ^ 8 * (n % 72057594037927936) := by omega
  rw [e2, ← Nat.two_pow_add_eq_or_of_lt (by omega : c < 2 ^ 8)]
end Go.Proofs.YtpffaenjphnfiaaDoor

/- The folding of an int into a natural number, in plain words. Condition: the int fits in 64 bits. -/
import Derived.Test.YtifjnhdnpglbpaaNum
namespace Go.Rl

def zig (n : Int) : Nat := if 0 ≤ n then (2 * n).toNat else (-2 * n - 1).toNat

theorem ofInt_toNat (n : Int) : (UInt64.ofInt n).toNat = (n % 18446744073709551616).toNat := by
  have h2 : (2 : Int) ^ 64 = 18446744073709551616 := by decide
  rw [UInt64.ofInt, h2, UInt64.toNat_ofNat']; omega

theorem zig_prog {n : Int} (h1 : -9223372036854775808 ≤ n) (h2 : n ≤ 9223372036854775807) :
    ((UInt64.ofInt n <<< UInt64.ofNat 1) ^^^ UInt64.ofInt (n / 2 ^ 63)).toNat = zig n := by
  have e0 : (2 : Int) ^ 63 = 9223372036854775808 := by decide
  have es : (UInt64.ofInt n <<< UInt64.ofNat 1).toNat = (UInt64.ofInt n).toNat * 2 % 18446744073709551616 := by
    rw [UInt64.toNat_shiftLeft, Nat.shiftLeft_eq]; rfl
  rw [ofInt_toNat] at es
  unfold zig
  by_cases hn : 0 ≤ n
  · have hq : n / 2 ^ 63 = 0 := by rw [e0]; omega
    have hz : UInt64.ofInt (n / 2 ^ 63) = 0 := by rw [hq]; rfl
    rw [hz, UInt64.xor_zero, es, if_pos hn]; omega
  · have hq : n / 2 ^ 63 = -1 := by rw [e0]; omega
    have hz : UInt64.ofInt (n / 2 ^ 63) = -1 := by rw [hq]; rfl
    rw [hz, if_neg hn]
    have hx : ∀ a : UInt64, a ^^^ (-1) = ~~~a := fun a => by
      apply UInt64.toBitVec_inj.1
      rw [UInt64.toBitVec_xor, UInt64.toBitVec_not]
      have : (-1 : UInt64).toBitVec = BitVec.allOnes 64 := by decide
      rw [this, BitVec.xor_allOnes]
    rw [hx, UInt64.toNat_not, es]
    have : UInt64.size = 18446744073709551616 := rfl
    omega

theorem zig_ref_pos {n : Int} (hn : 0 ≤ n) (h2 : n ≤ 9223372036854775807) : (2 * UInt64.ofInt n).toNat = zig n := by
  rw [UInt64.toNat_mul, ofInt_toNat]
  unfold zig
  rw [if_pos hn]
  have : (2 : UInt64).toNat = 2 := rfl
  rw [this]; omega
theorem zig_ref_neg {n : Int} (h1 : -9223372036854775808 ≤ n) (hn : n < 0) : (2 * UInt64.ofInt (-(n + 1)) + 1).toNat = zig n := by
  rw [UInt64.toNat_add, UInt64.toNat_mul, ofInt_toNat]
  unfold zig
  rw [if_neg (by omega)]
  have e2 : (2 : UInt64).toNat = 2 := rfl
  have e1 : (1 : UInt64).toNat = 1 := rfl
  rw [e1, e2]; omega
theorem zig_lt {n : Int} (h1 : -9223372036854775808 ≤ n) (h2 : n ≤ 9223372036854775807) : zig n < 18446744073709551616 := by
  unfold zig; split <;> omega
end Go.Rl

/- The encoding of numbers with continuation bits, in plain words. No condition. -/
import Derived.RowKit
namespace Go.Rl

def uvF : Nat → Nat → List UInt8
  | 0, n => [UInt8.ofNat n]
  | f + 1, n => if 128 ≤ n then UInt8.ofNat (n % 128 + 128) :: uvF f (n / 128) else [UInt8.ofNat n]
def uv (n : Nat) : List UInt8 := uvF n n

theorem uvF_eq : ∀ (f g n : Nat), n ≤ f → n ≤ g → uvF f n = uvF g n
  | 0, 0, n, _, _ => rfl
  | 0, g + 1, n, h, _ => by
    obtain rfl : n = 0 := by omega
    simp [uvF]
  | f + 1, 0, n, _, h => by
    obtain rfl : n = 0 := by omega
    simp [uvF]
  | f + 1, g + 1, n, hf, hg => by
    simp only [uvF]
    by_cases h : 128 ≤ n
    · rw [if_pos h, if_pos h, uvF_eq f g (n / 128) (by omega) (by omega)]
    · rw [if_neg h, if_neg h]
theorem uv_big {n : Nat} (h : 128 ≤ n) : uv n = UInt8.ofNat (n % 128 + 128) :: uv (n / 128) := by
  unfold uv
  cases n with
  | zero => omega
  | succ m =>
    have e : uvF (m + 1) (m + 1) = if 128 ≤ m + 1 then UInt8.ofNat ((m + 1) % 128 + 128) :: uvF m ((m + 1) / 128) else [UInt8.ofNat (m + 1)] := rfl
    rw [e, if_pos h, uvF_eq m ((m + 1) / 128) ((m + 1) / 128) (by omega) (by omega)]
theorem uv_small {n : Nat} (h : n < 128) : uv n = [UInt8.ofNat n] := by
  unfold uv
  cases n with
  | zero => rfl
  | succ m => 
    have e : uvF (m + 1) (m + 1) = if 128 ≤ m + 1 then UInt8.ofNat ((m + 1) % 128 + 128) :: uvF m ((m + 1) / 128) else [UInt8.ofNat (m + 1)] := rfl
    rw [e, if_neg (by omega)]
theorem uv_le : ∀ (k n : Nat), n < 128 ^ (k + 1) → (uv n).length ≤ k + 1
  | 0, n, h => by rw [uv_small (by simpa using h)]; simp
  | k + 1, n, h => by
    by_cases h1 : 128 ≤ n
    · rw [uv_big h1]
      have := uv_le k (n / 128) (by rw [Nat.div_lt_iff_lt_mul (by omega)]; rw [Nat.pow_succ] at h; exact h)
      simp; omega
    · rw [uv_small (by omega)]; simp
theorem uv_len {n : Nat} (h : n < 18446744073709551616) : (uv n).length ≤ 10 := uv_le 9 n (Nat.lt_of_lt_of_le h (by decide))
theorem uv_pos (n : Nat) : 1 ≤ (uv n).length := by
  by_cases h : 128 ≤ n
  · rw [uv_big h]; simp
  · rw [uv_small (by omega)]; simp

/-- the byte with its high bit set -/
theorem high_byte (n : UInt64) : n.toUInt8 ||| 128 = UInt8.ofNat (n.toNat % 128 + 128) := by
  apply UInt8.toNat_inj.1
  have h : ∀ a : Nat, a < 256 → a ||| 128 = a % 128 + 128 := by decide +kernel
  rw [UInt8.toNat_or, UInt8.toNat_ofNat', UInt64.toNat_toUInt8]
  have := h (n.toNat % 256) (by omega)
  show n.toNat % 256 ||| 128 = _
  rw [this]; omega
theorem low_byte (n : UInt64) : n.toUInt8 = UInt8.ofNat n.toNat := by
  apply UInt8.toNat_inj.1
  rw [UInt8.toNat_ofNat', UInt64.toNat_toUInt8]
theorem mod_byte (m : UInt64) : (m % 128 + 128).toUInt8 = UInt8.ofNat (m.toNat % 128 + 128) := by
  apply UInt8.toNat_inj.1
  rw [UInt64.toNat_toUInt8, UInt8.toNat_ofNat', UInt64.toNat_add, UInt64.toNat_mod]
  have e1 : (128 : UInt64).toNat = 128 := rfl
  rw [e1]; omega
theorem shr7 (n : UInt64) : (n >>> UInt64.ofNat 7).toNat = n.toNat / 128 := by
  rw [UInt64.toNat_shiftRight, Nat.shiftRight_eq_div_pow]
  rfl
end Go.Rl

/- Plain maths: words of 32 and 64 bits as numbers; steps of the algorithms on limbs. Conditions: each names its own. -/
import Derived.Test.YtifjnhdnpglbpaaNat
namespace Go.Rl

theorem u64_lt (x : UInt64) : x.toNat < 18446744073709551616 := x.toNat_lt
theorem n_shl (x : UInt64) {s : Nat} (hs : s < 64) : (x <<< UInt64.ofNat s).toNat = x.toNat * 2 ^ s % 18446744073709551616 := by
  rw [UInt64.toNat_shiftLeft, UInt64.toNat_ofNat', Nat.mod_eq_of_lt (Nat.lt_trans hs (by decide)), Nat.mod_eq_of_lt hs, Nat.shiftLeft_eq]
theorem n_shr (x : UInt64) {s : Nat} (hs : s < 64) : (x >>> UInt64.ofNat s).toNat = x.toNat / 2 ^ s := by
  rw [UInt64.toNat_shiftRight, UInt64.toNat_ofNat', Nat.mod_eq_of_lt (Nat.lt_trans hs (by decide)), Nat.mod_eq_of_lt hs, Nat.shiftRight_eq_div_pow]
theorem n_shl32 (x : UInt32) {s : Nat} (hs : s < 32) : (x <<< UInt32.ofNat s).toNat = x.toNat * 2 ^ s % 4294967296 := by
  rw [UInt32.toNat_shiftLeft, UInt32.toNat_ofNat', Nat.mod_eq_of_lt (Nat.lt_trans hs (by decide)), Nat.mod_eq_of_lt hs, Nat.shiftLeft_eq]
theorem n_shr32 (x : UInt32) {s : Nat} (hs : s < 32) : (x >>> UInt32.ofNat s).toNat = x.toNat / 2 ^ s := by
  rw [UInt32.toNat_shiftRight, UInt32.toNat_ofNat', Nat.mod_eq_of_lt (Nat.lt_trans hs (by decide)), Nat.mod_eq_of_lt hs, Nat.shiftRight_eq_div_pow]
theorem n_64 (x : UInt32) : x.toUInt64.toNat = x.toNat := UInt32.toNat_toUInt64 x
theorem n_32 (x : UInt64) : x.toUInt32.toNat = x.toNat % 4294967296 := UInt64.toNat_toUInt32 x
theorem n_add (x y : UInt64) : (x + y).toNat = (x.toNat + y.toNat) % 18446744073709551616 := UInt64.toNat_add x y
theorem n_mul (x y : UInt64) : (x * y).toNat = x.toNat * y.toNat % 18446744073709551616 := UInt64.toNat_mul x y
theorem n_sub (x y : UInt64) : (x - y).toNat = (18446744073709551616 - y.toNat + x.toNat) % 18446744073709551616 := UInt64.toNat_sub x y
theorem nor (a b i : Nat) (h : a < 2 ^ i) : a ||| 2 ^ i * b = a + 2 ^ i * b := by
  rw [Nat.or_comm, ← Nat.two_pow_add_eq_or_of_lt h, Nat.add_comm]
theorem n_or (x y : UInt64) : (x ||| y).toNat = x.toNat ||| y.toNat := UInt64.toNat_or x y
theorem n_or32 (x y : UInt32) : (x ||| y).toNat = x.toNat ||| y.toNat := UInt32.toNat_or x y
/-- Two limbs as one number. -/
theorem n_two (r : UInt64) (d : UInt32) (hr : r.toNat < 4294967296) : (r <<< UInt64.ofNat 32 ||| d.toUInt64).toNat = r.toNat * 4294967296 + d.toNat := by
  have hd := u32_lt d
  rw [n_or, n_shl r (by omega), n_64, Nat.mod_eq_of_lt (by omega), Nat.or_comm]
  have := nor d.toNat r.toNat 32 hd
  simp only [Nat.reducePow] at this ⊢
  rw [Nat.mul_comm r.toNat, this]; omega

theorem val_set_take {l : List UInt32} {i : Nat} (h : i < l.length) (x : UInt32) : val ((l.set i x).take (i + 1)) = val (l.take i) + 4294967296 ^ i * x.toNat := by
  rw [val_take_succ (by simpa using h), List.take_set_of_le (Nat.le_refl _)]
  simp
theorem val_set_drop {l : List UInt32} {i : Nat} (h : i < l.length) (x : UInt32) : val ((l.set i x).drop i) = x.toNat + 4294967296 * val (l.drop (i + 1)) := by
  rw [val_drop (by simpa using h), List.drop_set_of_lt (by omega)]
  simp

/-- One step of 'left'. -/
theorem left_step {l L : List UInt32} {i k : Nat} {d : UInt32} (hk : k < 32) (hi : i < l.length) (hd : d = l[i]) (hL : L.length = l.length + 1) (hv : val (L.take (i + 1)) = val (l.take i) * 2 ^ k) (hc : (L[i]'(by omega)).toNat < 2 ^ k) :
    val (((L.set i (L[i]'(by omega) ||| (d.toUInt64 <<< UInt64.ofNat k).toUInt32)).set (i + 1) ((d.toUInt64 <<< UInt64.ofNat k) >>> UInt64.ofNat 32).toUInt32).take (i + 1 + 1)) = val (l.take (i + 1)) * 2 ^ k ∧
      ((d.toUInt64 <<< UInt64.ofNat k) >>> UInt64.ofNat 32).toUInt32.toNat < 2 ^ k := by
  have hdl := u32_lt d
  have hp : 2 ^ k * 2 ^ (32 - k) = 4294967296 := by rw [← Nat.pow_add, show k + (32 - k) = 32 by omega]
  have hpos : 0 < 2 ^ k := Nat.pow_pos (by omega)
  have hx : (d.toUInt64 <<< UInt64.ofNat k).toNat = d.toNat * 2 ^ k := by
    rw [n_shl _ (by omega), n_64, Nat.mod_eq_of_lt]
    have h1 : d.toNat * 2 ^ k ≤ 4294967296 * 2 ^ k := Nat.mul_le_mul_right _ (by omega)
    have h2 : 2 ^ k ≤ 2 ^ 31 := Nat.pow_le_pow_right (by omega) (by omega)
    omega
  have hlo : (d.toUInt64 <<< UInt64.ofNat k).toUInt32.toNat = 2 ^ k * (d.toNat % 2 ^ (32 - k)) := by
    rw [n_32, hx, ← hp, Nat.mul_comm d.toNat, Nat.mul_mod_mul_left]
  have hhi : ((d.toUInt64 <<< UInt64.ofNat k) >>> UInt64.ofNat 32).toUInt32.toNat = d.toNat * 2 ^ k / 4294967296 := by
    rw [n_32, n_shr _ (by omega), hx, Nat.mod_eq_of_lt]
    have h1 : d.toNat * 2 ^ k < 4294967296 * 2 ^ k := Nat.mul_lt_mul_of_pos_right hdl hpos
    have h2 : 2 ^ k ≤ 2 ^ 31 := Nat.pow_le_pow_right (by omega) (by omega)
    simp only [Nat.reducePow] at h2 ⊢
    omega
  have hor : (L[i]'(by omega) ||| (d.toUInt64 <<< UInt64.ofNat k).toUInt32).toNat = (L[i]'(by omega)).toNat + 2 ^ k * (d.toNat % 2 ^ (32 - k)) := by
    rw [n_or32, hlo, nor _ _ _ hc]
  have hdm : 2 ^ k * (d.toNat % 2 ^ (32 - k)) + 4294967296 * (d.toNat * 2 ^ k / 4294967296) = d.toNat * 2 ^ k := by
    have h1 := Nat.mod_add_div (d.toNat * 2 ^ k) 4294967296
    rw [n_32, hx] at hlo
    omega
  refine ⟨?_, ?_⟩
  · generalize d.toNat * 2 ^ k / 4294967296 = q at hhi hdm
    rw [val_set_take (by simp; omega), hhi, val_set_take (by omega), hor, val_take_succ hi, ← hd]
    rw [val_take_succ (by omega)] at hv
    rw [Nat.add_mul, ← hv, Nat.mul_assoc, ← hdm, Nat.pow_succ]
    rw [Nat.mul_add (4294967296 ^ i), Nat.mul_add (4294967296 ^ i), Nat.mul_assoc (4294967296 ^ i), Nat.add_assoc, Nat.add_assoc, Nat.add_assoc]
  · rw [hhi, Nat.div_lt_iff_lt_mul (by omega), Nat.mul_comm]
    exact Nat.mul_lt_mul_of_pos_left hdl hpos
/-- One step of division by a limb. -/
theorem short_step {l L : List UInt32} {j : Nat} {d : UInt32} {r : UInt64} (hd : 0 < d.toNat) (hj : j < l.length) (hL : L.length = l.length) (hv : val (L.drop (j + 1)) * d.toNat + r.toNat = val (l.drop (j + 1))) (hr : r.toNat < d.toNat) :
    val ((L.set j ((r <<< UInt64.ofNat 32 ||| l[j].toUInt64) / d.toUInt64).toUInt32).drop j) * d.toNat + ((r <<< UInt64.ofNat 32 ||| l[j].toUInt64) % d.toUInt64).toNat = val (l.drop j) ∧
      ((r <<< UInt64.ofNat 32 ||| l[j].toUInt64) % d.toUInt64).toNat < d.toNat := by
  have hdl := u32_lt d
  have hx := n_two r l[j] (by omega)
  have hq : ((r <<< UInt64.ofNat 32 ||| l[j].toUInt64) / d.toUInt64).toNat = (r.toNat * 4294967296 + l[j].toNat) / d.toNat := by rw [UInt64.toNat_div, hx, n_64]
  have hm : ((r <<< UInt64.ofNat 32 ||| l[j].toUInt64) % d.toUInt64).toNat = (r.toNat * 4294967296 + l[j].toNat) % d.toNat := by rw [UInt64.toNat_mod, hx, n_64]
  have hlt : (r.toNat * 4294967296 + l[j].toNat) / d.toNat < 4294967296 := by
    rw [Nat.div_lt_iff_lt_mul hd]
    have := u32_lt l[j]
    have h2 : (r.toNat + 1) * 4294967296 ≤ d.toNat * 4294967296 := Nat.mul_le_mul_right _ hr
    omega
  refine ⟨?_, by rw [hm]; exact Nat.mod_lt _ hd⟩
  rw [val_set_drop (by omega), n_32, hq, hm, Nat.mod_eq_of_lt hlt, val_drop hj, ← hv]
  have := Nat.div_add_mod (r.toNat * 4294967296 + l[j].toNat) d.toNat
  rw [Nat.add_mul, Nat.mul_assoc, Nat.mul_comm ((r.toNat * 4294967296 + l[j].toNat) / d.toNat)]
  omega
/-- One step of the shift to the right. -/
theorem shr_step {x : UInt64} {d R s : Nat} (hs : s < 32) (hx : x.toNat = d + 4294967296 * (R % 4294967296)) :
    ((x >>> UInt64.ofNat s).toUInt32).toNat + 4294967296 * (R / 2 ^ s) = (d + 4294967296 * R) / 2 ^ s ∨ 4294967296 ≤ d := by
  by_cases hd : 4294967296 ≤ d
  · exact .inr hd
  left
  have hp : 2 ^ s * 2 ^ (32 - s) = 4294967296 := by rw [← Nat.pow_add, show s + (32 - s) = 32 by omega]
  have hpos : 0 < 2 ^ s := Nat.pow_pos (by omega)
  have e1 : d + 4294967296 * R = x.toNat + 2 ^ s * (2 ^ (32 - s) * (4294967296 * (R / 4294967296))) := by
    rw [← Nat.mul_assoc, hp, hx]; omega
  have e2 : (d + 4294967296 * R) / 2 ^ s = x.toNat / 2 ^ s + 4294967296 * (2 ^ (32 - s) * (R / 4294967296)) := by
    rw [e1, Nat.add_mul_div_left _ _ hpos, Nat.mul_left_comm]
  have e3 : (d + 4294967296 * R) / 2 ^ s / 4294967296 = R / 2 ^ s := by
    rw [Nat.div_div_eq_div_mul, Nat.mul_comm (2 ^ s), ← Nat.div_div_eq_div_mul]
    congr 1
    omega
  have e4 := Nat.mod_add_div ((d + 4294967296 * R) / 2 ^ s) 4294967296
  rw [e3] at e4
  rw [n_32, n_shr _ (by omega)]
  rw [← e4]
  congr 1
  rw [e2, Nat.add_mul_mod_self_left]
theorem limb2 {x : UInt64} {a : Nat} {e : UInt32} (hx : x.toNat = a) (ha : a < 4294967296) : (x ||| e.toUInt64 <<< UInt64.ofNat 32).toNat = a + 4294967296 * e.toNat := by
  have he := u32_lt e
  rw [n_or, n_shl _ (by omega), n_64, Nat.mod_eq_of_lt (by omega), hx]
  have := nor a e.toNat 32 ha
  simp only [Nat.reducePow] at this ⊢
  rw [Nat.mul_comm e.toNat, this]
/-- The number of bits. -/
def bl (n : Nat) : Nat := if n = 0 then 0 else Nat.log2 n + 1
theorem bl_zero : bl 0 = 0 := rfl
theorem bl_spec {n : Nat} (h : 0 < n) : 2 ^ (bl n - 1) ≤ n ∧ n < 2 ^ bl n := by
  unfold bl
  rw [if_neg (by omega), Nat.add_sub_cancel]
  exact ⟨Nat.log2_self_le (by omega), Nat.lt_log2_self⟩
theorem bl_pos {n : Nat} (h : 0 < n) : 0 < bl n := by unfold bl; rw [if_neg (by omega)]; omega
theorem bl_unique {n k : Nat} (h1 : 2 ^ k ≤ n) (h2 : n < 2 ^ (k + 1)) : bl n = k + 1 := by
  have hn : 0 < n := Nat.lt_of_lt_of_le (Nat.pow_pos (by omega)) h1
  obtain ⟨h3, h4⟩ := bl_spec hn
  have hp := bl_pos hn
  have a : k < bl n := (Nat.pow_lt_pow_iff_right (a := 2) (by omega)).1 (Nat.lt_of_le_of_lt h1 h4)
  have b : bl n - 1 < k + 1 := (Nat.pow_lt_pow_iff_right (a := 2) (by omega)).1 (Nat.lt_of_le_of_lt h3 h2)
  omega
theorem bl_shift {n s : Nat} (h : 2 ^ s ≤ n) : bl n = s + bl (n / 2 ^ s) := by
  have hps : 0 < 2 ^ s := Nat.pow_pos (by omega)
  have hq : 0 < n / 2 ^ s := Nat.div_pos h hps
  obtain ⟨h1, h2⟩ := bl_spec hq
  have hp := bl_pos hq
  obtain ⟨k, hk⟩ : ∃ k, bl (n / 2 ^ s) = k + 1 := ⟨_, (Nat.sub_add_cancel hp).symm⟩
  rw [hk, Nat.add_sub_cancel] at h1
  rw [hk] at h2 ⊢
  refine (bl_unique (k := s + k) ?_ ?_)
  · rw [Nat.pow_add, Nat.mul_comm]
    exact Nat.le_trans (Nat.mul_le_mul_right _ h1) (Nat.div_mul_le_self _ _)
  · rw [show s + k + 1 = s + (k + 1) by omega, Nat.pow_add, Nat.mul_comm]
    exact (Nat.div_lt_iff_lt_mul hps).1 h2
theorem bl_le {n k : Nat} (h : n < 2 ^ k) : bl n ≤ k := by
  rcases Nat.eq_zero_or_pos n with rfl | h0
  · simp [bl_zero]
  · have h1 := (bl_spec h0).1
    have h2 := bl_pos h0
    have := (Nat.pow_lt_pow_iff_right (a := 2) (by omega)).1 (Nat.lt_of_le_of_lt h1 h)
    omega
/-- The number of bits, out of the limbs. -/
theorem bl_lb {n i : Nat} (h : i + 1 = (lb n).length) : bl n = 32 * i + bl ((lb n)[i]'(by omega)).toNat := by
  have hl := lb_last h
  have h2 : n = val ((lb n).take i) + 4294967296 ^ i * ((lb n)[i]'(by omega)).toNat := by
    rw [← val_take_succ (by omega), h, List.take_length, val_lb]
  have h3 := val_lt ((lb n).take i)
  rw [List.length_take, Nat.min_eq_left (by omega)] at h3
  have hp : (4294967296 : Nat) ^ i = 2 ^ (32 * i) := by rw [Nat.pow_mul]
  rw [hp] at h2 h3
  have hge : 2 ^ (32 * i) ≤ n := by
    rw [h2]
    have : 2 ^ (32 * i) * 1 ≤ 2 ^ (32 * i) * ((lb n)[i]'(by omega)).toNat := Nat.mul_le_mul_left _ hl
    omega
  rw [bl_shift hge]
  congr 2
  have : n / 2 ^ (32 * i) = (val ((lb n).take i) + 2 ^ (32 * i) * ((lb n)[i]'(by omega)).toNat) / 2 ^ (32 * i) := by rw [← h2]
  rw [this, Nat.add_mul_div_left _ _ (Nat.pow_pos (by omega)), Nat.div_eq_of_lt h3, Nat.zero_add]
end Go.Rl

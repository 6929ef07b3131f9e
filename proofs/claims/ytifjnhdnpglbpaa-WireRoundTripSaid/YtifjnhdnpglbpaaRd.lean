/- Reading numbers with continuation bits, in plain words: the encoding is read back, and what is read is the only encoding. No condition. -/
import Derived.Test.YtifjnhdnpglbpaaUv
namespace Go.Rl

/-- Reads from the k-th byte on. -/
def rdUk : Nat → Nat → List UInt8 → Option (Nat × List UInt8)
  | 0, _, _ => none
  | _ + 1, _, [] => none
  | f + 1, k, c :: l =>
    if (k = 9 ∧ 1 < c.toNat) ∨ (0 < k ∧ c.toNat = 0) then none
    else if c.toNat < 128 then some (c.toNat * 128 ^ k, l)
    else (rdUk f (k + 1) l).map fun p => (p.1 + (c.toNat % 128) * 128 ^ k, p.2)
def rdU (l : List UInt8) : Option (Nat × List UInt8) := rdUk 10 0 l

theorem rdUk_nil (f k : Nat) : rdUk f k [] = none := by cases f <;> rfl

theorem byte_toNat (n : Nat) (h : n < 256) : (UInt8.ofNat n).toNat = n := by rw [UInt8.toNat_ofNat']; omega

/-- The encoding is read back. -/
theorem rdUk_uv : ∀ (f k n : Nat) (t : List UInt8), f + k = 10 → n < 128 ^ f → (k ≤ 9 → n * 128 ^ k < 18446744073709551616) → 0 < f → (0 < k → 0 < n) →
    rdUk f k (uv n ++ t) = some (n * 128 ^ k, t)
  | 0, _, _, _, _, _, _, h, _ => by omega
  | f + 1, k, n, t, hfk, hn, h64, _, hk0 => by
    by_cases hb : 128 ≤ n
    · rw [uv_big hb, List.cons_append]
      have e1 : (UInt8.ofNat (n % 128 + 128)).toNat = n % 128 + 128 := byte_toNat _ (by omega)
      have hk9 : k ≠ 9 := fun hk => by
        subst hk
        have : f = 0 := by omega
        subst this
        simp at hn
        omega
      have hf : 0 < f := by omega
      simp only [rdUk, e1]
      rw [if_neg (by omega), if_neg (by omega)]
      have hlt : n / 128 < 128 ^ f := by rw [Nat.div_lt_iff_lt_mul (by omega)]; rw [Nat.pow_succ] at hn; exact hn
      have hp : 128 ^ (k + 1) = 128 ^ k * 128 := Nat.pow_succ ..
      have hm : n / 128 * 128 ≤ n := Nat.div_mul_le_self n 128
      have hle : n / 128 * 128 ^ (k + 1) ≤ n * 128 ^ k := by
        rw [hp, Nat.mul_comm (128 ^ k) 128, ← Nat.mul_assoc]
        exact Nat.mul_le_mul_right _ hm
      rw [rdUk_uv f (k + 1) (n / 128) t (by omega) hlt (fun _ => Nat.lt_of_le_of_lt hle (h64 (by omega))) hf (fun _ => by omega)]
      simp only [Option.map_some, Option.some.injEq, Prod.mk.injEq, and_true]
      have e2 : (n % 128 + 128) % 128 = n % 128 := by omega
      rw [e2, hp, Nat.mul_comm (128 ^ k) 128, ← Nat.mul_assoc, ← Nat.add_mul]
      congr 1
      omega
    · rw [uv_small (by omega), List.cons_append]
      have e1 : (UInt8.ofNat n).toNat = n := byte_toNat _ (by omega)
      simp only [rdUk, e1, List.nil_append]
      have hk9 : ¬ (k = 9 ∧ 1 < n) := fun ⟨hk, hn1⟩ => by
        subst hk
        have := h64 (by omega)
        have e : (128 : Nat) ^ 9 = 9223372036854775808 := by decide
        rw [e] at this
        omega
      rw [if_neg (by intro h; rcases h with h | h; exact hk9 h; have := hk0 h.1; omega), if_pos (by omega)]
theorem rdU_uv {n : Nat} (h : n < 18446744073709551616) (t : List UInt8) : rdU (uv n ++ t) = some (n, t) := by
  have := rdUk_uv 10 0 n t rfl (Nat.lt_of_lt_of_le h (by decide)) (by simpa using h) (by omega) (by omega)
  simpa [rdU] using this

/-- What is read is the only encoding. -/
theorem rdUk_inv : ∀ (f k : Nat) (l t : List UInt8) (m : Nat), f + k = 10 → rdUk f k l = some (m, t) → ∃ n, m = n * 128 ^ k ∧ l = uv n ++ t ∧ (0 < k → 0 < n) ∧ n * 128 ^ k < 18446744073709551616
  | 0, _, _, _, _, _, h => by cases h
  | f + 1, k, [], _, _, _, h => by cases h
  | f + 1, k, c :: l, t, m, hfk, h => by
    simp only [rdUk] at h
    have hc := c.toNat_lt
    split at h
    · cases h
    · rename_i hno
      split at h
      · rename_i hlt
        simp only [Option.some.injEq, Prod.mk.injEq] at h
        refine ⟨c.toNat, h.1.symm, ?_, fun hk => by omega, ?_⟩
        · rw [uv_small hlt, ← h.2]
          simp
        · have hk : k ≤ 9 := by omega
          rcases Nat.lt_or_ge k 9 with h9 | h9
          · have : c.toNat * 128 ^ k ≤ 127 * 128 ^ 8 := Nat.mul_le_mul (by omega) (Nat.pow_le_pow_right (by omega) (by omega))
            have e : 127 * 128 ^ 8 < 18446744073709551616 := by decide
            omega
          · have : k = 9 := by omega
            subst this
            have e : (128 : Nat) ^ 9 = 9223372036854775808 := by decide
            rw [e]; omega
      · rename_i hge
        cases hr : rdUk f (k + 1) l with
        | none => rw [hr] at h; cases h
        | some p =>
          rw [hr] at h
          simp only [Option.map_some, Option.some.injEq, Prod.mk.injEq] at h
          obtain ⟨n, h1, h2, h3, h4⟩ := rdUk_inv f (k + 1) l p.2 p.1 (by omega) (by rw [hr])
          have hn : 0 < n := h3 (by omega)
          have hp : 128 ^ (k + 1) = 128 * 128 ^ k := by rw [Nat.pow_succ, Nat.mul_comm]
          have hdiv : (n * 128 + c.toNat % 128) / 128 = n := by omega
          have hmod : (n * 128 + c.toNat % 128) % 128 + 128 = c.toNat := by omega
          refine ⟨n * 128 + c.toNat % 128, ?_, ?_, fun _ => by omega, ?_⟩
          · rw [← h.1, h1, hp, Nat.add_mul, ← Nat.mul_assoc]
          · rw [uv_big (by omega), hdiv, hmod, List.cons_append, ← h.2, ← h2]
            simp
          · have hk : k + 1 ≤ 9 := by
              rcases Nat.lt_or_ge f 1 with hf | hf
              · have : f = 0 := by omega
                subst this
                cases hr
              · omega
            have hb : n * 128 ^ (k + 1) = n * 128 * 128 ^ k := by rw [hp, ← Nat.mul_assoc]
            rw [hb] at h4
            have hdvd : 18446744073709551616 = 128 ^ k * (18446744073709551616 / 128 ^ k) := by
              have : k = 0 ∨ k = 1 ∨ k = 2 ∨ k = 3 ∨ k = 4 ∨ k = 5 ∨ k = 6 ∨ k = 7 ∨ k = 8 := by omega
              rcases this with rfl | rfl | rfl | rfl | rfl | rfl | rfl | rfl | rfl <;> decide
            have hq : 18446744073709551616 / 128 ^ k = 128 * (18446744073709551616 / 128 ^ k / 128) := by
              have : k = 0 ∨ k = 1 ∨ k = 2 ∨ k = 3 ∨ k = 4 ∨ k = 5 ∨ k = 6 ∨ k = 7 ∨ k = 8 := by omega
              rcases this with rfl | rfl | rfl | rfl | rfl | rfl | rfl | rfl | rfl <;> decide
            have hpos : 0 < 128 ^ k := Nat.pow_pos (by omega)
            rw [hdvd, Nat.mul_comm] at h4
            have h5 : n * 128 < 18446744073709551616 / 128 ^ k := Nat.lt_of_mul_lt_mul_left h4
            rw [hdvd, Nat.mul_comm]
            exact Nat.mul_lt_mul_of_pos_left (by omega) hpos
theorem rdU_inv {l t : List UInt8} {n : Nat} (h : rdU l = some (n, t)) : l = uv n ++ t ∧ n < 18446744073709551616 := by
  obtain ⟨m, h1, h2, _, h4⟩ := rdUk_inv 10 0 l t n rfl h
  simp at h1 h4
  subst h1
  exact ⟨h2, h4⟩

/-- One byte more of a number. -/
theorem or_byte {acc : UInt64} {c : UInt8} {k : Nat} (ha : acc.toNat < 128 ^ k) (hk : k ≤ 9) (h9 : k = 9 → c.toNat % 128 ≤ 1) :
    (acc ||| ((c &&& 127).toUInt64 <<< UInt64.ofNat (7 * k))).toNat = acc.toNat + (c.toNat % 128) * 128 ^ k := by
  have hpow : 2 ^ (7 * k) = 128 ^ k := by rw [Nat.pow_mul]
  have e1 : (c &&& 127).toUInt64.toNat = c.toNat % 128 := by
    rw [UInt8.toNat_toUInt64, UInt8.toNat_and]
    exact Nat.and_two_pow_sub_one_eq_mod c.toNat 7
  have hlt : (c.toNat % 128) * 128 ^ k < 18446744073709551616 := by
    rcases Nat.lt_or_ge k 9 with h | h
    · have h1 : (c.toNat % 128) * 128 ^ k ≤ 127 * 128 ^ 8 := Nat.mul_le_mul (by omega) (Nat.pow_le_pow_right (by omega) (by omega))
      have e : 127 * 128 ^ 8 < 18446744073709551616 := by decide
      omega
    · have h' : k = 9 := by omega
      subst h'
      have := h9 rfl
      have e : (128 : Nat) ^ 9 = 9223372036854775808 := by decide
      rw [e]; omega
  have e2 : ((c &&& 127).toUInt64 <<< UInt64.ofNat (7 * k)).toNat = (c.toNat % 128) <<< (7 * k) := by
    rw [UInt64.toNat_shiftLeft, e1]
    have : (UInt64.ofNat (7 * k)).toNat % 64 = 7 * k := by rw [UInt64.toNat_ofNat']; omega
    rw [this, Nat.shiftLeft_eq, hpow]
    exact Nat.mod_eq_of_lt hlt
  rw [UInt64.toNat_or, e2, Nat.or_comm, ← Nat.shiftLeft_add_eq_or_of_lt (by rw [hpow]; exact ha), Nat.shiftLeft_eq, hpow]
  omega
end Go.Rl

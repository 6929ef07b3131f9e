/- Plain maths: steps of the reference's algorithms on limbs. Conditions: each lemma names its own. -/
import Derived.Test.YtifjnhdnpglbpaaKnuth
namespace Go.Rl

theorem val_take_getD (l : List UInt32) (i : Nat) : val (l.take (i + 1)) = val (l.take i) + 4294967296 ^ i * (l.getD i 0).toNat := by
  rcases Nat.lt_or_ge i l.length with h | h
  · rw [val_take_succ h]; simp [List.getD, List.getElem?_eq_getElem h]
  · rw [List.take_of_length_le h, List.take_of_length_le (by omega)]; simp [List.getD, List.getElem?_eq_none h]
theorem val_take_all (l : List UInt32) {i : Nat} (h : l.length ≤ i) : val (l.take i) = val l := by rw [List.take_of_length_le h]
def pad (l : List UInt32) (n : Nat) : List UInt32 := l ++ List.replicate (n - l.length) 0
theorem pad_len {l : List UInt32} {n : Nat} (h : l.length ≤ n) : (pad l n).length = n := by simp [pad]; omega
theorem pad_val (l : List UInt32) (n : Nat) : val (pad l n) = val l := by simp [pad, val_append, val_zeros]
theorem pad_get {l : List UInt32} {n i : Nat} (h : i < (pad l n).length) : (pad l n)[i] = l.getD i 0 := by
  unfold pad at h ⊢
  rcases Nat.lt_or_ge i l.length with h1 | h1
  · rw [List.getElem_append_left h1]; simp [List.getD, List.getElem?_eq_getElem h1]
  · rw [List.getElem_append_right h1]; simp [List.getD, List.getElem?_eq_none h1]
theorem pad_lt {l m : List UInt32} {n j : Nat} (hl : l.length ≤ n) (hm : m.length ≤ n) (hj : j < n) (hd : (pad l n).drop (j + 1) = (pad m n).drop (j + 1)) (h : (l.getD j 0).toNat < (m.getD j 0).toNat) : val l < val m := by
  rw [← pad_val l n, ← pad_val m n]
  exact val_cmp (by rw [pad_len hl]; exact hj) (by rw [pad_len hm]; exact hj) hd (by rw [pad_get, pad_get]; exact h)
theorem pad_next {l m : List UInt32} {n j : Nat} (hl : l.length ≤ n) (hm : m.length ≤ n) (hj : j < n) (hd : (pad l n).drop (j + 1) = (pad m n).drop (j + 1)) (h : (l.getD j 0).toNat = (m.getD j 0).toNat) : (pad l n).drop j = (pad m n).drop j := by
  have h1 := List.drop_eq_getElem_cons (l := pad l n) (i := j) (by rw [pad_len hl]; exact hj)
  have h2 := List.drop_eq_getElem_cons (l := pad m n) (i := j) (by rw [pad_len hm]; exact hj)
  rw [h1, h2, hd, pad_get, pad_get, u32_ext h]
theorem pad_all {l m : List UInt32} {n : Nat} (h : pad l n = pad m n) : val l = val m := by rw [← pad_val l n, ← pad_val m n, h]

theorem radd_step {a b O : List UInt32} {i : Nat} {c : UInt64} (hO : O.length = i) (hc : c.toNat ≤ 1) (hinv : val O + 4294967296 ^ i * c.toNat = val (a.take i) + val (b.take i)) :
    val (O ++ [(c + ((a.getD i 0).toUInt64 + (b.getD i 0).toUInt64)).toUInt32]) + 4294967296 ^ (i + 1) * ((c + ((a.getD i 0).toUInt64 + (b.getD i 0).toUInt64)) >>> UInt64.ofNat 32).toNat = val (a.take (i + 1)) + val (b.take (i + 1)) ∧
      ((c + ((a.getD i 0).toUInt64 + (b.getD i 0).toUInt64)) >>> UInt64.ofNat 32).toNat ≤ 1 := by
  have ha := u32_lt (a.getD i 0)
  have hb := u32_lt (b.getD i 0)
  have hC : (c + ((a.getD i 0).toUInt64 + (b.getD i 0).toUInt64)).toNat = c.toNat + ((a.getD i 0).toNat + (b.getD i 0).toNat) := by rw [n_add, n_add, n_64, n_64]; omega
  have hhi : ((c + ((a.getD i 0).toUInt64 + (b.getD i 0).toUInt64)) >>> UInt64.ofNat 32).toNat = (c.toNat + ((a.getD i 0).toNat + (b.getD i 0).toNat)) / 4294967296 := by rw [n_shr _ (by omega), hC]
  refine ⟨?_, by rw [hhi]; omega⟩
  rw [val_append, val_one, hO, n_32, hhi, hC, val_take_getD, val_take_getD, Nat.pow_succ]
  have key := Nat.div_add_mod (c.toNat + ((a.getD i 0).toNat + (b.getD i 0).toNat)) 4294967296
  have k2 := congrArg (4294967296 ^ i * ·) key
  simp only [Nat.mul_add] at k2 hinv ⊢
  simp only [Nat.mul_assoc] at k2 ⊢
  omega
/-- The last limb of the sum. -/
theorem radd_end {O : List UInt32} {i : Nat} {c : UInt64} (hO : O.length = i) (hc : c.toNat ≤ 1) : val (O ++ [c.toUInt32]) = val O + 4294967296 ^ i * c.toNat := by
  rw [val_append, val_one, hO, n_32, Nat.mod_eq_of_lt (by omega)]
theorem rsub_step {a b O : List UInt32} {i : Nat} {d : UInt64} (hO : O.length = i) (hd : d.toNat ≤ 1) (hinv : val (a.take i) + 4294967296 ^ i * d.toNat = val O + val (b.take i)) {x y : UInt64}
    (h : (x = (a.getD i 0).toUInt64 + 4294967296 ∧ (a.getD i 0).toNat < (b.getD i 0).toNat + d.toNat ∧ y = 1) ∨ (x = (a.getD i 0).toUInt64 ∧ (b.getD i 0).toNat + d.toNat ≤ (a.getD i 0).toNat ∧ y = 0)) :
    val (a.take (i + 1)) + 4294967296 ^ (i + 1) * y.toNat = val (O ++ [(x - ((b.getD i 0).toUInt64 + d)).toUInt32]) + val (b.take (i + 1)) ∧ y.toNat ≤ 1 := by
  have ha := u32_lt (a.getD i 0)
  have hb := u32_lt (b.getD i 0)
  have hy : ((b.getD i 0).toUInt64 + d).toNat = (b.getD i 0).toNat + d.toNat := by rw [n_add, n_64]; omega
  have e1 : (1 : UInt64).toNat = 1 := rfl
  have e0 : (0 : UInt64).toNat = 0 := rfl
  have key : (a.getD i 0).toNat + 4294967296 * y.toNat = (x - ((b.getD i 0).toUInt64 + d)).toUInt32.toNat + ((b.getD i 0).toNat + d.toNat) ∧ y.toNat ≤ 1 := by
    rcases h with ⟨rfl, h, rfl⟩ | ⟨rfl, h, rfl⟩
    · have hx : ((a.getD i 0).toUInt64 + 4294967296).toNat = (a.getD i 0).toNat + 4294967296 := by
        rw [n_add, n_64]
        show ((a.getD i 0).toNat + 4294967296) % 18446744073709551616 = _
        omega
      rw [n_32, n_sub, hy, hx, e1]
      omega
    · rw [n_32, n_sub, hy, n_64, e0]
      omega
  refine ⟨?_, key.2⟩
  rw [val_append, val_one, hO, val_take_getD, val_take_getD, Nat.pow_succ]
  have k2 := congrArg (4294967296 ^ i * ·) key.1
  simp only [Nat.mul_add] at k2 hinv ⊢
  simp only [Nat.mul_assoc] at k2 ⊢
  omega
theorem rshl_step {a O : List UInt32} {i q s : Nat} {c : UInt64} (hs : s < 32) (hi : i < a.length) (hO : O.length = q + i) (hc : c.toNat < 2 ^ s) (hinv : val O + 4294967296 ^ (q + i) * c.toNat = val (a.take i) * (4294967296 ^ q * 2 ^ s)) :
    val (O ++ [(c ||| a[i].toUInt64 <<< UInt64.ofNat s).toUInt32]) + 4294967296 ^ (q + (i + 1)) * ((c ||| a[i].toUInt64 <<< UInt64.ofNat s) >>> UInt64.ofNat 32).toNat = val (a.take (i + 1)) * (4294967296 ^ q * 2 ^ s) ∧
      ((c ||| a[i].toUInt64 <<< UInt64.ofNat s) >>> UInt64.ofNat 32).toNat < 2 ^ s := by
  have ha := u32_lt a[i]
  have hps : 2 ^ s ≤ 2 ^ 31 := Nat.pow_le_pow_right (by omega) (by omega)
  have hsh : (a[i].toUInt64 <<< UInt64.ofNat s).toNat = 2 ^ s * a[i].toNat := by
    rw [n_shl _ (by omega), n_64, Nat.mod_eq_of_lt, Nat.mul_comm]
    have : a[i].toNat * 2 ^ s ≤ 4294967295 * 2 ^ 31 := Nat.mul_le_mul (by omega) hps
    omega
  have hC : (c ||| a[i].toUInt64 <<< UInt64.ofNat s).toNat = c.toNat + 2 ^ s * a[i].toNat := by rw [n_or, hsh, nor _ _ _ hc]
  have hhi : ((c ||| a[i].toUInt64 <<< UInt64.ofNat s) >>> UInt64.ofNat 32).toNat = (c.toNat + 2 ^ s * a[i].toNat) / 4294967296 := by rw [n_shr _ (by omega), hC]
  refine ⟨?_, ?_⟩
  · rw [val_append, val_one, hO, n_32, hhi, hC, val_take_succ hi, Nat.add_mul, ← hinv, ← Nat.add_assoc q i 1, Nat.pow_succ, Nat.pow_add]
    have key := Nat.div_add_mod (c.toNat + 2 ^ s * a[i].toNat) 4294967296
    have k2 := congrArg (4294967296 ^ q * 4294967296 ^ i * ·) key
    have e : 4294967296 ^ i * a[i].toNat * (4294967296 ^ q * 2 ^ s) = 4294967296 ^ q * 4294967296 ^ i * (2 ^ s * a[i].toNat) := by
      simp only [Nat.mul_comm, Nat.mul_left_comm, Nat.mul_assoc]
    rw [e]
    simp only [Nat.mul_add] at k2 ⊢
    simp only [Nat.mul_assoc] at k2 ⊢
    omega
  · rw [hhi, Nat.div_lt_iff_lt_mul (by omega)]
    have h1 : 2 ^ s * (a[i].toNat + 1) ≤ 2 ^ s * 4294967296 := Nat.mul_le_mul_left _ ha
    rw [Nat.mul_add] at h1
    omega
/-- Bit i of a number, out of its limbs. -/
theorem bit_of {a : List UInt32} {i : Nat} (hi : i / 32 < a.length) : ((a[i / 32] >>> UInt32.ofNat (i % 32)) &&& 1).toNat = val a / 2 ^ i % 2 := by
  have hs : i % 32 < 32 := Nat.mod_lt _ (by omega)
  have e1 : ((a[i / 32] >>> UInt32.ofNat (i % 32)) &&& 1).toNat = a[i / 32].toNat / 2 ^ (i % 32) % 2 := by
    rw [UInt32.toNat_and, n_shr32 _ hs]
    show _ &&& 1 = _
    rw [Nat.and_one_is_mod]
  have h1 := val_split a (i / 32) (by omega)
  have h2 := val_lt (a.take (i / 32))
  rw [List.length_take, Nat.min_eq_left (by omega)] at h2
  have h3 : (4294967296 : Nat) ^ (i / 32) = 2 ^ (32 * (i / 32)) := by rw [Nat.pow_mul]
  rw [h3] at h1 h2
  have h4 : val a / 2 ^ (32 * (i / 32)) = val (a.drop (i / 32)) := by
    rw [h1, Nat.add_mul_div_left _ _ (Nat.pow_pos (by omega)), Nat.div_eq_of_lt h2, Nat.zero_add]
  have h5 : val a / 2 ^ i = val (a.drop (i / 32)) / 2 ^ (i % 32) := by
    rw [← h4, Nat.div_div_eq_div_mul, ← Nat.pow_add, Nat.div_add_mod]
  rw [e1, h5, val_drop hi]
  have hp : 2 ^ (i % 32) * 2 ^ (32 - i % 32) = 4294967296 := by rw [← Nat.pow_add, show i % 32 + (32 - i % 32) = 32 by omega]
  obtain ⟨k, hk⟩ : ∃ k, 32 - i % 32 = k + 1 := ⟨31 - i % 32, by omega⟩
  rw [← hp, Nat.mul_assoc, Nat.add_mul_div_left _ _ (Nat.pow_pos (by omega)), hk, Nat.pow_succ, Nat.mul_comm (2 ^ k) 2, Nat.mul_assoc, Nat.add_mul_mod_self_left]
/-- Setting bit i of a number whose bits up to i are 0. -/
theorem setbit {a : List UInt32} {i t : Nat} (hi : i / 32 < a.length) (hv : val a = 2 ^ (i + 1) * t) : val (a.set (i / 32) (a[i / 32] ||| (1 : UInt32) <<< UInt32.ofNat (i % 32))) = val a + 2 ^ i := by
  have hs : i % 32 < 32 := Nat.mod_lt _ (by omega)
  have h1 := val_split a (i / 32) (by omega)
  have h2 := val_lt (a.take (i / 32))
  rw [List.length_take, Nat.min_eq_left (by omega)] at h2
  have h3 : (4294967296 : Nat) ^ (i / 32) = 2 ^ (32 * (i / 32)) := by rw [Nat.pow_mul]
  have h4 : val (a.drop (i / 32)) = 2 ^ (i % 32 + 1) * t := by
    have e : val a / 2 ^ (32 * (i / 32)) = val (a.drop (i / 32)) := by
      rw [h3] at h1 h2
      rw [h1, Nat.add_mul_div_left _ _ (Nat.pow_pos (by omega)), Nat.div_eq_of_lt h2, Nat.zero_add]
    rw [← e, hv, show i + 1 = 32 * (i / 32) + (i % 32 + 1) by omega, Nat.pow_add, Nat.mul_assoc, Nat.mul_div_cancel_left _ (Nat.pow_pos (by omega))]
  have h5 : a[i / 32].toNat = 2 ^ (i % 32 + 1) * (t % 2 ^ (31 - i % 32)) := by
    have e := val_drop hi
    rw [h4] at e
    have e2 : a[i / 32].toNat = 2 ^ (i % 32 + 1) * t % 4294967296 := by
      rw [e, Nat.add_mul_mod_self_left, Nat.mod_eq_of_lt (u32_lt _)]
    have hp : 2 ^ (i % 32 + 1) * 2 ^ (31 - i % 32) = 4294967296 := by rw [← Nat.pow_add, show i % 32 + 1 + (31 - i % 32) = 32 by omega]
    rw [e2, ← hp, Nat.mul_mod_mul_left]
  have h6 : ((1 : UInt32) <<< UInt32.ofNat (i % 32)).toNat = 2 ^ (i % 32) := by
    rw [n_shl32 _ hs]
    show 1 * 2 ^ (i % 32) % 4294967296 = _
    have : 2 ^ (i % 32) ≤ 2 ^ 31 := Nat.pow_le_pow_right (by omega) (by omega)
    rw [Nat.one_mul, Nat.mod_eq_of_lt (by omega)]
  have h7 : (a[i / 32] ||| (1 : UInt32) <<< UInt32.ofNat (i % 32)).toNat = a[i / 32].toNat + 2 ^ (i % 32) := by
    rw [n_or32, h6, h5, Nat.or_comm, nor _ _ _ (Nat.pow_lt_pow_right (by omega) (by omega)), Nat.add_comm]
  have h8 := val_set_take hi (a[i / 32] ||| (1 : UInt32) <<< UInt32.ofNat (i % 32))
  have h9 := val_split (a.set (i / 32) (a[i / 32] ||| (1 : UInt32) <<< UInt32.ofNat (i % 32))) (i / 32 + 1) (by simp; omega)
  rw [h8, List.drop_set_of_lt (by omega), h7] at h9
  have h10 := val_split a (i / 32 + 1) (by omega)
  rw [val_take_succ hi] at h10
  rw [h9, h10, Nat.mul_add]
  have e : 4294967296 ^ (i / 32) * 2 ^ (i % 32) = 2 ^ i := by rw [h3, ← Nat.pow_add, Nat.div_add_mod]
  rw [e]; omega
/-- One round of division bit by bit. -/
theorem rdiv_round {N V i : Nat} (hV : 0 < V) :
    N / 2 ^ i = 2 * (N / 2 ^ (i + 1)) + N / 2 ^ i % 2 ∧ (V ≤ 2 * (N / 2 ^ (i + 1) % V) + N / 2 ^ i % 2 → N / 2 ^ i % V = 2 * (N / 2 ^ (i + 1) % V) + N / 2 ^ i % 2 - V ∧ N / 2 ^ i / V = 2 * (N / 2 ^ (i + 1) / V) + 1) ∧
      (2 * (N / 2 ^ (i + 1) % V) + N / 2 ^ i % 2 < V → N / 2 ^ i % V = 2 * (N / 2 ^ (i + 1) % V) + N / 2 ^ i % 2 ∧ N / 2 ^ i / V = 2 * (N / 2 ^ (i + 1) / V)) := by
  have e : N / 2 ^ (i + 1) = N / 2 ^ i / 2 := by rw [Nat.pow_succ, Nat.div_div_eq_div_mul]
  rw [e]
  generalize N / 2 ^ i = M
  have h1 : M = 2 * (M / 2) + M % 2 := by omega
  have h2 := Nat.div_add_mod (M / 2) V
  have h3 := Nat.mod_lt (M / 2) hV
  refine ⟨h1, fun h => ?_, fun h => ?_⟩
  · have key : M = V * (2 * (M / 2 / V) + 1) + (2 * (M / 2 % V) + M % 2 - V) := by
      rw [Nat.mul_add, Nat.mul_left_comm]; omega
    have hlt : 2 * (M / 2 % V) + M % 2 - V < V := by omega
    constructor
    · conv => lhs; rw [key]
      rw [Nat.mul_add_mod, Nat.mod_eq_of_lt hlt]
    · conv => lhs; rw [key]
      rw [Nat.mul_add_div hV, Nat.div_eq_of_lt hlt, Nat.add_zero]
  · have key : M = V * (2 * (M / 2 / V)) + (2 * (M / 2 % V) + M % 2) := by
      rw [Nat.mul_left_comm]; omega
    constructor
    · conv => lhs; rw [key]
      rw [Nat.mul_add_mod, Nat.mod_eq_of_lt h]
    · conv => lhs; rw [key]
      rw [Nat.mul_add_div hV, Nat.div_eq_of_lt h, Nat.add_zero]
theorem bl_step {n : Nat} (h : 0 < n) : bl n = bl (n / 2) + 1 := by
  rcases (show n = 1 ∨ 2 ≤ n by omega) with rfl | h1
  · rfl
  · have := bl_shift (n := n) (s := 1) (by omega)
    rw [Nat.pow_one] at this
    omega
end Go.Rl

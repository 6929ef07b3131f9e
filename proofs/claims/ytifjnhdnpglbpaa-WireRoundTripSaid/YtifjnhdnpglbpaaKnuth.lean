/- Plain maths: long division by estimated limbs. Conditions: each lemma names its own. -/
import Derived.Test.YtifjnhdnpglbpaaNat2
namespace Go.Rl

/-- The estimate before a step is too large: it may be lowered. -/
theorem est_down {V U v1 v2 u01 u2 P Vl Ul q r : Nat} (hV : V = (v1 * 4294967296 + v2) * P + Vl) (hU : U = (u01 * 4294967296 + u2) * P + Ul) (hUl : Ul < P) (hqr : q * v1 + r = u01)
    (h : r * 4294967296 + u2 < q * v2) : U < q * V := by
  have h1 : u01 * 4294967296 + u2 + 1 ≤ q * (v1 * 4294967296 + v2) := by
    rw [← hqr, Nat.mul_add, ← Nat.mul_assoc, Nat.add_mul]; omega
  have h2 : (u01 * 4294967296 + u2 + 1) * P ≤ q * (v1 * 4294967296 + v2) * P := Nat.mul_le_mul_right _ h1
  have h3 : q * (v1 * 4294967296 + v2) * P ≤ q * V := by
    rw [hV, Nat.mul_assoc]; exact Nat.mul_le_mul_left _ (Nat.le_add_right _ _)
  rw [Nat.add_mul _ 1] at h2
  omega
/-- Where it is not, it is at most one too large. -/
theorem est_done {V U v1 v2 u01 u2 P Vl Ul q : Nat} (hV : V = (v1 * 4294967296 + v2) * P + Vl) (hU : U = (u01 * 4294967296 + u2) * P + Ul) (hVl : Vl < P) (h1 : 0 < v1) (hq : 0 < q) (hqB : q ≤ 4294967296)
    (h : q * (v1 * 4294967296 + v2) ≤ u01 * 4294967296 + u2) : (q - 1) * V ≤ U := by
  obtain ⟨m, rfl⟩ : ∃ m, q = m + 1 := ⟨q - 1, by omega⟩
  rw [Nat.add_sub_cancel]
  have h2 : (m + 1) * (v1 * 4294967296 + v2) * P ≤ (u01 * 4294967296 + u2) * P := Nat.mul_le_mul_right _ h
  have h3 : m * Vl ≤ (v1 * 4294967296 + v2) * P := by
    have a : m * Vl ≤ 4294967296 * P := Nat.mul_le_mul (by omega) (by omega)
    have b : 4294967296 * P ≤ (v1 * 4294967296 + v2) * P := Nat.mul_le_mul_right _ (by omega)
    omega
  rw [hV, Nat.mul_add, ← Nat.mul_assoc]
  rw [Nat.add_mul m 1, Nat.one_mul, Nat.add_mul] at h2
  omega
theorem est_fin {V U v1 v2 u01 u2 P Vl Ul q r : Nat} (hV : V = (v1 * 4294967296 + v2) * P + Vl) (hU : U = (u01 * 4294967296 + u2) * P + Ul) (hVl : Vl < P) (h1 : 0 < v1) (hv2 : v2 < 4294967296) (hqB : q < 4294967296) (hqr : q * v1 + r = u01)
    (h : 4294967296 ≤ r ∨ q * v2 ≤ r * 4294967296 + u2) : (q - 1) * V ≤ U := by
  rcases Nat.eq_zero_or_pos q with rfl | hq
  · simp
  · refine est_done hV hU hVl h1 hq (by omega) ?_
    rw [Nat.mul_add, ← Nat.mul_assoc]
    have hp : q * v2 ≤ 4294967295 * 4294967295 := Nat.mul_le_mul (by omega) (by omega)
    omega
theorem est_lt {v1 u0 u1 q r : Nat} (hu0 : u0 ≤ v1) (hu1 : u1 < 4294967296) (hqr : q * v1 + r = u0 * 4294967296 + u1) (hr : 4294967296 ≤ r) : q < 4294967296 := by
  rcases Nat.lt_or_ge q 4294967296 with h | h
  · exact h
  · have := Nat.mul_le_mul_right v1 h
    omega
/-- The first estimate is not too small. -/
theorem est_up {V U v1 u01 P Q : Nat} (hV : v1 * P ≤ V) (hU : U < (u01 + 1) * P) (h1 : 0 < v1) (h : Q * V ≤ U) : Q ≤ u01 / v1 := by
  rw [Nat.le_div_iff_mul_le h1]
  have h2 : Q * v1 * P ≤ Q * V := by rw [Nat.mul_assoc]; exact Nat.mul_le_mul_left _ hV
  have h3 : Q * v1 * P < (u01 + 1) * P := by omega
  have := Nat.lt_of_mul_lt_mul_right h3
  omega

theorem sub2 {u lo b : Nat} (hu : u < 4294967296) (hlo : lo < 4294967296) (hb : b ≤ 1) {x : UInt64} (hx : x.toNat = (18446744073709551616 - b + (18446744073709551616 - lo + u) % 18446744073709551616) % 18446744073709551616) :
    x.toNat % 4294967296 + lo + b = u + 4294967296 * (x.toNat / 9223372036854775808) ∧ x.toNat / 9223372036854775808 ≤ 1 := by
  omega
/-- One step of the subtraction. -/
theorem sub_step {L v : List UInt32} {M : List UInt32} {i : Nat} {q c b x : UInt64} (hi : i < v.length) (hL : v.length < L.length) (hM : M.length = L.length) (hq : q.toNat < 4294967296) (hc : c.toNat < 4294967296) (hb : b.toNat ≤ 1)
    (hMi : M.drop i = L.drop i) (hinv : val (L.take i) + 4294967296 ^ i * (c.toNat + b.toNat) = val (M.take i) + q.toNat * val (v.take i))
    (hx : x = (M[i]'(by omega)).toUInt64 - ((c + q * v[i].toUInt64).toUInt32).toUInt64 - b) :
    (M.set i x.toUInt32).drop (i + 1) = L.drop (i + 1) ∧ ((c + q * v[i].toUInt64) >>> UInt64.ofNat 32).toNat < 4294967296 ∧ (x >>> UInt64.ofNat 63).toNat ≤ 1 ∧
      val (L.take (i + 1)) + 4294967296 ^ (i + 1) * (((c + q * v[i].toUInt64) >>> UInt64.ofNat 32).toNat + (x >>> UInt64.ofNat 63).toNat) = val ((M.set i x.toUInt32).take (i + 1)) + q.toNat * val (v.take (i + 1)) := by
  have hd := u32_lt v[i]
  have hMl : M[i]'(by omega) = L[i]'(by omega) := by
    have h1 := List.getElem?_drop (xs := M) (i := i) (j := 0)
    have h2 := List.getElem?_drop (xs := L) (i := i) (j := 0)
    rw [hMi] at h1
    rw [h1, Nat.add_zero, List.getElem?_eq_getElem (by omega), List.getElem?_eq_getElem (by omega)] at h2
    exact Option.some.inj h2
  have hu := u32_lt (M[i]'(by omega))
  have hprod : q.toNat * v[i].toNat ≤ 4294967295 * 4294967295 := Nat.mul_le_mul (by omega) (by omega)
  have hC : (c + q * v[i].toUInt64).toNat = c.toNat + q.toNat * v[i].toNat := by
    rw [n_add, n_mul, n_64]; omega
  have hhi : ((c + q * v[i].toUInt64) >>> UInt64.ofNat 32).toNat = (c.toNat + q.toNat * v[i].toNat) / 4294967296 := by rw [n_shr _ (by omega), hC]
  have hb1 : (x >>> UInt64.ofNat 63).toNat = x.toNat / 9223372036854775808 := by rw [n_shr _ (by omega)]
  have hxn : x.toNat = (18446744073709551616 - b.toNat + (18446744073709551616 - (c.toNat + q.toNat * v[i].toNat) % 4294967296 + (M[i]'(by omega)).toNat) % 18446744073709551616) % 18446744073709551616 := by
    rw [hx, n_sub, n_sub, n_64, n_64, n_32, hC]
  obtain ⟨hs1, hs2⟩ := sub2 hu (Nat.mod_lt _ (by omega)) hb hxn
  refine ⟨?_, by rw [hhi]; omega, by rw [hb1]; exact hs2, ?_⟩
  · rw [List.drop_set_of_lt (by omega)]
    have := congrArg (List.drop 1) hMi
    rwa [List.drop_drop, List.drop_drop] at this
  · rw [val_set_take (by omega), val_take_succ (by omega), val_take_succ hi, hhi, hb1, n_32, ← hMl, Nat.pow_succ, Nat.mul_add q.toNat, Nat.mul_left_comm q.toNat]
    have hdm := Nat.div_add_mod (c.toNat + q.toNat * v[i].toNat) 4294967296
    have key : (M[i]'(by omega)).toNat + 4294967296 * ((c.toNat + q.toNat * v[i].toNat) / 4294967296 + x.toNat / 9223372036854775808) = x.toNat % 4294967296 + q.toNat * v[i].toNat + (c.toNat + b.toNat) := by omega
    have k2 := congrArg (4294967296 ^ i * ·) key
    simp only [Nat.mul_add] at k2 hinv ⊢
    simp only [Nat.mul_assoc] at k2 ⊢
    omega
/-- One step of the addition. -/
theorem add_step {M v L : List UInt32} {i : Nat} {c : UInt64} (hi : i < v.length) (hL : v.length < L.length) (hM : M.length = L.length) (hc : c.toNat ≤ 1)
    (hMi : M.drop i = L.drop i) (hinv : val (M.take i) + 4294967296 ^ i * c.toNat = val (L.take i) + val (v.take i)) :
    (M.set i (c + ((M[i]'(by omega)).toUInt64 + v[i].toUInt64)).toUInt32).drop (i + 1) = L.drop (i + 1) ∧ ((c + ((M[i]'(by omega)).toUInt64 + v[i].toUInt64)) >>> UInt64.ofNat 32).toNat ≤ 1 ∧
      val ((M.set i (c + ((M[i]'(by omega)).toUInt64 + v[i].toUInt64)).toUInt32).take (i + 1)) + 4294967296 ^ (i + 1) * ((c + ((M[i]'(by omega)).toUInt64 + v[i].toUInt64)) >>> UInt64.ofNat 32).toNat = val (L.take (i + 1)) + val (v.take (i + 1)) := by
  have hd := u32_lt v[i]
  have hMl : M[i]'(by omega) = L[i]'(by omega) := by
    have h1 := List.getElem?_drop (xs := M) (i := i) (j := 0)
    have h2 := List.getElem?_drop (xs := L) (i := i) (j := 0)
    rw [hMi] at h1
    rw [h1, Nat.add_zero, List.getElem?_eq_getElem (by omega), List.getElem?_eq_getElem (by omega)] at h2
    exact Option.some.inj h2
  have hu := u32_lt (M[i]'(by omega))
  have hC : (c + ((M[i]'(by omega)).toUInt64 + v[i].toUInt64)).toNat = c.toNat + ((M[i]'(by omega)).toNat + v[i].toNat) := by
    rw [n_add, n_add, n_64, n_64]; omega
  have hhi : ((c + ((M[i]'(by omega)).toUInt64 + v[i].toUInt64)) >>> UInt64.ofNat 32).toNat = (c.toNat + ((M[i]'(by omega)).toNat + v[i].toNat)) / 4294967296 := by rw [n_shr _ (by omega), hC]
  refine ⟨?_, by rw [hhi]; omega, ?_⟩
  · rw [List.drop_set_of_lt (by omega)]
    have := congrArg (List.drop 1) hMi
    rwa [List.drop_drop, List.drop_drop] at this
  · rw [val_set_take (by omega), val_take_succ (by omega), val_take_succ hi, hhi, n_32, hC, ← hMl, Nat.pow_succ]
    have key : (c.toNat + ((M[i]'(by omega)).toNat + v[i].toNat)) % 4294967296 + 4294967296 * ((c.toNat + ((M[i]'(by omega)).toNat + v[i].toNat)) / 4294967296) = (M[i]'(by omega)).toNat + v[i].toNat + c.toNat := by omega
    have k2 := congrArg (4294967296 ^ i * ·) key
    simp only [Nat.mul_add] at k2 hinv ⊢
    simp only [Nat.mul_assoc] at k2 ⊢
    omega
theorem lb_len_eq {n j : Nat} (h1 : 4294967296 ^ j ≤ n) (h2 : n < 4294967296 ^ (j + 1)) : (lb n).length = j + 1 := by
  have a := lb_lt h2
  have b := val_lt (lb n)
  rw [val_lb] at b
  have c := (Nat.pow_lt_pow_iff_right (a := 4294967296) (by omega)).1 (Nat.lt_of_le_of_lt h1 b)
  omega
theorem cmpN_neg {x y : Nat} : cmpN x y < 0 ↔ x < y := by
  unfold cmpN
  split
  · simp; assumption
  · split
    · simp; omega
    · simp; omega
/-- The divisor, shifted so that its highest bit is set, has as many limbs as before. -/
theorem norm_len {n k : Nat} (h : (lb n).length = k + 2) :
    32 - bl ((lb n)[k + 1]'(by omega)).toNat < 32 ∧ (lb (n * 2 ^ (32 - bl ((lb n)[k + 1]'(by omega)).toNat))).length = k + 2 := by
  have hn : 0 < n := by
    rcases Nat.eq_zero_or_pos n with h0 | h0
    · subst h0; simp [lb_zero] at h
    · exact h0
  have ht := lb_last (n := n) (i := k + 1) (by omega)
  have h1 := lb_ge hn
  rw [h] at h1
  have hb := (bl_spec ht).2
  have hp := bl_pos ht
  have h32 := bl_le (n := ((lb n)[k + 1]'(by omega)).toNat) (k := 32) (u32_lt _)
  have hv : n < (((lb n)[k + 1]'(by omega)).toNat + 1) * 4294967296 ^ (k + 1) := by
    have e := val_take_succ (l := lb n) (i := k + 1) (by omega)
    rw [List.take_of_length_le (by omega), val_lb] at e
    have := val_lt ((lb n).take (k + 1))
    rw [List.length_take, Nat.min_eq_left (by omega)] at this
    rw [Nat.mul_comm, Nat.mul_add]
    omega
  generalize ((lb n)[k + 1]'(by omega)).toNat = t at *
  refine ⟨by omega, lb_len_eq (j := k + 1) ?_ ?_⟩
  · exact Nat.le_trans h1 (Nat.le_mul_of_pos_right _ (Nat.pow_pos (by omega)))
  · have hs : 0 < 2 ^ (32 - bl t) := Nat.pow_pos (by omega)
    have a : n * 2 ^ (32 - bl t) < (t + 1) * 4294967296 ^ (k + 1) * 2 ^ (32 - bl t) := Nat.mul_lt_mul_of_pos_right hv hs
    have b : (t + 1) * 4294967296 ^ (k + 1) * 2 ^ (32 - bl t) ≤ 2 ^ bl t * 4294967296 ^ (k + 1) * 2 ^ (32 - bl t) := Nat.mul_le_mul_right _ (Nat.mul_le_mul_right _ hb)
    have c : 2 ^ bl t * 4294967296 ^ (k + 1) * 2 ^ (32 - bl t) = 4294967296 ^ (k + 1 + 1) := by
      rw [Nat.mul_right_comm, ← Nat.pow_add, show bl t + (32 - bl t) = 32 by omega, Nat.pow_succ 4294967296 (k + 1), Nat.mul_comm]
    omega
theorem u64_zero {x : UInt64} (h : x.toNat = 0) : x = 0 := UInt64.toNat_inj.1 h
theorem set_last {M : List UInt32} {n : Nat} (h : M.length = n + 1) (x : UInt32) : val (M.set n x) = val (M.take n) + 4294967296 ^ n * x.toNat := by
  have := val_set_take (l := M) (i := n) (by omega) x
  rwa [List.take_of_length_le (by simp; omega)] at this
theorem val_last {M : List UInt32} {n : Nat} (h : M.length = n + 1) : val M = val (M.take n) + 4294967296 ^ n * (M[n]'(by omega)).toNat := by
  rw [← val_take_succ (by omega), List.take_of_length_le (by omega)]
theorem drop_get {M L : List UInt32} {i : Nat} (h : M.drop i = L.drop i) (h1 : i < M.length) (h2 : i < L.length) : M[i] = L[i] := by
  have e1 := List.getElem?_drop (xs := M) (i := i) (j := 0)
  have e2 := List.getElem?_drop (xs := L) (i := i) (j := 0)
  rw [h] at e1
  rw [e1, Nat.add_zero, List.getElem?_eq_getElem h1, List.getElem?_eq_getElem h2] at e2
  exact Option.some.inj e2
/-- The last limb of the subtraction. -/
theorem red_top {L v M : List UInt32} {q c b x : UInt64} (hL : L.length = v.length + 1) (hM : M.length = L.length) (hc : c.toNat < 4294967296) (hb : b.toNat ≤ 1)
    (hMi : M.drop v.length = L.drop v.length) (hinv : val (L.take v.length) + 4294967296 ^ v.length * (c.toNat + b.toNat) = val (M.take v.length) + q.toNat * val (v.take v.length))
    (hx : x = (M[v.length]'(by omega)).toUInt64 - c - b) :
    val L + 4294967296 ^ (v.length + 1) * (x.toNat / 9223372036854775808) = val (M.set v.length x.toUInt32) + q.toNat * val v ∧ x.toNat / 9223372036854775808 ≤ 1 := by
  have hu := u32_lt (M[v.length]'(by omega))
  have hxn : x.toNat = (18446744073709551616 - b.toNat + (18446744073709551616 - c.toNat + (M[v.length]'(by omega)).toNat) % 18446744073709551616) % 18446744073709551616 := by
    rw [hx, n_sub, n_sub, n_64]
  obtain ⟨hs1, hs2⟩ := sub2 hu hc hb hxn
  refine ⟨?_, hs2⟩
  rw [set_last (by omega), n_32, val_last hL, ← drop_get hMi (by omega) (by omega), Nat.pow_succ]
  rw [List.take_length (l := v)] at hinv
  have k2 := congrArg (4294967296 ^ v.length * ·) hs1
  simp only [Nat.mul_add] at k2 hinv ⊢
  simp only [Nat.mul_assoc] at k2 ⊢
  omega
/-- Where the difference is negative, the divisor is added again. -/
theorem red_back {L v N M : List UInt32} {q : Nat} {c : UInt64} (hL : L.length = v.length + 1) (hN : N.length = L.length) (hM : M.length = L.length) (hc : c.toNat ≤ 1) (hMi : M.drop v.length = N.drop v.length)
    (hinv : val (M.take v.length) + 4294967296 ^ v.length * c.toNat = val (N.take v.length) + val (v.take v.length)) (ht : val L + 4294967296 ^ (v.length + 1) = val N + q * val v) (h1 : (q - 1) * val v ≤ val L) :
    0 < q ∧ val L = (q - 1) * val v + val (M.set v.length ((M[v.length]'(by omega)) + c.toUInt32)) ∧ val (M.set v.length ((M[v.length]'(by omega)) + c.toUInt32)) < val v := by
  have hu := u32_lt (M[v.length]'(by omega))
  have hNl := val_lt N
  rw [hN, hL] at hNl
  have hq : 0 < q := by
    rcases Nat.eq_zero_or_pos q with h | h
    · subst h; omega
    · exact h
  obtain ⟨p, rfl⟩ : ∃ p, q = p + 1 := ⟨q - 1, by omega⟩
  rw [Nat.add_sub_cancel] at h1 ⊢
  rw [Nat.add_mul, Nat.one_mul] at ht
  have hlast : ((M[v.length]'(by omega)) + c.toUInt32).toNat = ((M[v.length]'(by omega)).toNat + c.toNat) % 4294967296 := by
    rw [UInt32.toNat_add, n_32]; omega
  have hF := set_last (show M.length = v.length + 1 by omega) ((M[v.length]'(by omega)) + c.toUInt32)
  have hFl := val_lt (M.set v.length ((M[v.length]'(by omega)) + c.toUInt32))
  have hFe : (M.set v.length ((M[v.length]'(by omega)) + c.toUInt32)).length = v.length + 1 := by simp; omega
  rw [hFe] at hFl
  have hNe := val_last (show N.length = v.length + 1 by omega)
  rw [← drop_get hMi (by omega) (by omega)] at hNe
  rw [List.take_length (l := v)] at hinv
  have hdm := Nat.div_add_mod ((M[v.length]'(by omega)).toNat + c.toNat) 4294967296
  have hs : ((M[v.length]'(by omega)).toNat + c.toNat) / 4294967296 ≤ 1 := by omega
  have key : val (M.set v.length ((M[v.length]'(by omega)) + c.toUInt32)) + 4294967296 ^ (v.length + 1) * (((M[v.length]'(by omega)).toNat + c.toNat) / 4294967296) = val N + val v := by
    rw [hF, hlast, hNe, Nat.pow_succ]
    have k2 := congrArg (4294967296 ^ v.length * ·) hdm
    simp only [Nat.mul_add] at k2 ⊢
    simp only [Nat.mul_assoc] at k2 ⊢
    omega
  generalize val (M.set v.length ((M[v.length]'(by omega)) + c.toUInt32)) = F at *
  generalize ((M[v.length]'(by omega)).toNat + c.toNat) / 4294967296 = s at *
  rcases (show s = 0 ∨ s = 1 by omega) with rfl | rfl
  · omega
  · refine ⟨by omega, by omega, by omega⟩
/-- One round of the long division, on whole numbers. -/
theorem div_round {A Q V X lo part q part' P : Nat} (hX : X = lo + P * part) (hlo : lo < P) (hA : A = Q * (P * 4294967296) * V + X) (hp : part = q * V + part') (hr : part' < V) :
    A = (q + 4294967296 * Q) * P * V + (lo + P * part') ∧ lo + P * part' < P * V := by
  constructor
  · rw [hA, hX, hp, Nat.mul_add P, Nat.add_mul q, Nat.add_mul]
    have e1 : 4294967296 * Q * P * V = Q * (P * 4294967296) * V := by
      rw [Nat.mul_comm 4294967296 Q, Nat.mul_assoc Q, Nat.mul_comm 4294967296 P]
    have e2 : q * P * V = P * (q * V) := by rw [Nat.mul_comm q P, Nat.mul_assoc]
    rw [e1, e2]; omega
  · have : P * (part' + 1) ≤ P * V := Nat.mul_le_mul_left _ hr
    rw [Nat.mul_add] at this
    omega
end Go.Rl

/- Plain maths: natural numbers as limbs of 32 bits. No condition. -/
import Derived.Test.YtifjnhdnpglbpaaNum
namespace Go.Rl

def val : List UInt32 → Nat
  | [] => 0
  | x :: l => x.toNat + 4294967296 * val l
def tr : List UInt32 → List UInt32
  | [] => []
  | x :: l => match tr l with
    | [] => if x = 0 then [] else [x]
    | y :: m => x :: y :: m
def lbF : Nat → Nat → List UInt32
  | 0, _ => []
  | f + 1, n => if n = 0 then [] else UInt32.ofNat (n % 4294967296) :: lbF f (n / 4294967296)
/-- The canonical limbs of a number. -/
def lb (n : Nat) : List UInt32 := lbF n n

theorem lbF_eq : ∀ (f g n : Nat), n ≤ f → n ≤ g → lbF f n = lbF g n
  | 0, 0, n, _, _ => rfl
  | 0, g + 1, n, h, _ => by simp [lbF, show n = 0 by omega]
  | f + 1, 0, n, _, h => by simp [lbF, show n = 0 by omega]
  | f + 1, g + 1, n, h1, h2 => by
    simp only [lbF]
    split
    · rfl
    · rw [lbF_eq f g (n / 4294967296) (by omega) (by omega)]
theorem lb_zero : lb 0 = [] := rfl
theorem lb_pos {n : Nat} (h : 0 < n) : lb n = UInt32.ofNat (n % 4294967296) :: lb (n / 4294967296) := by
  obtain ⟨m, rfl⟩ : ∃ m, n = m + 1 := ⟨n - 1, by omega⟩
  show lbF (m + 1) (m + 1) = _
  simp only [lbF]
  rw [if_neg (by omega), lbF_eq m ((m + 1) / 4294967296) _ (by omega) (Nat.le_refl _)]
  rfl
theorem u32_lt (x : UInt32) : x.toNat < 4294967296 := x.toNat_lt
theorem u32_ofNat {n : Nat} (h : n < 4294967296) : (UInt32.ofNat n).toNat = n := by rw [UInt32.toNat_ofNat']; omega
theorem u32_ext {x y : UInt32} (h : x.toNat = y.toNat) : x = y := UInt32.toNat_inj.1 h
theorem u32_ne {x : UInt32} (h : x ≠ 0) : 0 < x.toNat := by
  rcases Nat.eq_zero_or_pos x.toNat with h0 | h0
  · exact absurd (u32_ext (y := 0) h0) h
  · exact h0

theorem val_lb (n : Nat) : val (lb n) = n := by
  induction n using Nat.strongRecOn with
  | ind n ih =>
    rcases Nat.eq_zero_or_pos n with rfl | h
    · rfl
    · rw [lb_pos h, val, ih _ (by omega), u32_ofNat (by omega)]
      omega
theorem val_append : ∀ (l m : List UInt32), val (l ++ m) = val l + 4294967296 ^ l.length * val m
  | [], m => by simp [val]
  | x :: l, m => by
    rw [List.cons_append, val, val_append l m, val, List.length_cons, Nat.pow_succ, Nat.mul_add, ← Nat.mul_assoc, Nat.mul_comm (4294967296 ^ l.length), Nat.add_assoc]
theorem val_lt : ∀ (l : List UInt32), val l < 4294967296 ^ l.length
  | [] => by simp [val]
  | x :: l => by
    have := val_lt l
    have hx := u32_lt x
    rw [val, List.length_cons, Nat.pow_succ]
    have : 4294967296 * (val l + 1) ≤ 4294967296 * 4294967296 ^ l.length := Nat.mul_le_mul_left _ this
    rw [Nat.mul_comm (4294967296 ^ l.length)]
    omega
theorem val_zeros (n : Nat) : val (List.replicate n 0) = 0 := by
  induction n with
  | zero => rfl
  | succ n ih => rw [List.replicate_succ, val, ih]; rfl
theorem val_one (x : UInt32) : val [x] = x.toNat := by simp [val]
theorem val_take_succ {l : List UInt32} {i : Nat} (h : i < l.length) : val (l.take (i + 1)) = val (l.take i) + 4294967296 ^ i * l[i].toNat := by
  rw [List.take_succ_eq_append_getElem h, val_append, val_one, List.length_take, Nat.min_eq_left (by omega)]
theorem val_drop {l : List UInt32} {i : Nat} (h : i < l.length) : val (l.drop i) = l[i].toNat + 4294967296 * val (l.drop (i + 1)) := by
  rw [List.drop_eq_getElem_cons h, val]
theorem val_split (l : List UInt32) (i : Nat) (h : i ≤ l.length) : val l = val (l.take i) + 4294967296 ^ i * val (l.drop i) := by
  conv => lhs; rw [← List.take_append_drop i l]
  rw [val_append, List.length_take, Nat.min_eq_left h]

theorem val_tr : ∀ (l : List UInt32), val (tr l) = val l
  | [] => rfl
  | x :: l => by
    have ih := val_tr l
    rw [tr]
    split
    · rename_i h
      rw [h] at ih
      split
      · rename_i hx; subst hx; simp [val, ← ih]
      · simp [val, ← ih]
    · rename_i y m h
      rw [h] at ih
      rw [val, ih, val]
theorem tr_eq : ∀ (l : List UInt32), tr l = lb (val l)
  | [] => rfl
  | x :: l => by
    have ih := tr_eq l
    have hx := u32_lt x
    rw [tr, val]
    rcases Nat.eq_zero_or_pos (val l) with h | h
    · rw [h, lb_zero] at ih
      rw [ih, h, Nat.mul_zero, Nat.add_zero]
      by_cases h0 : x = 0
      · subst h0; simp [lb_zero]
      · have := u32_ne h0
        have e : UInt32.ofNat x.toNat = x := u32_ext (by rw [u32_ofNat hx])
        simp only [if_neg h0]
        rw [lb_pos this, Nat.mod_eq_of_lt hx, Nat.div_eq_of_lt hx, lb_zero, e]
    · rw [lb_pos (n := x.toNat + 4294967296 * val l) (by omega), Nat.add_mul_mod_self_left, Nat.add_mul_div_left _ _ (by omega), Nat.div_eq_of_lt hx, Nat.zero_add, Nat.mod_eq_of_lt hx, ← ih]
      have hne : tr l ≠ [] := fun h0 => by
        have := val_tr l
        rw [h0, val] at this
        omega
      split
      · rename_i h0; exact absurd h0 hne
      · rename_i y m h0
        rw [h0]
        congr 1
        exact u32_ext (by rw [u32_ofNat hx])
theorem tr_snoc0 (l : List UInt32) : tr (l ++ [0]) = tr l := by
  rw [tr_eq, tr_eq, val_append, val_one]; simp
theorem tr_snoc {x : UInt32} (h : x ≠ 0) : ∀ (l : List UInt32), tr (l ++ [x]) = l ++ [x]
  | [] => by simp [tr, h]
  | y :: l => by
    rw [List.cons_append, tr, tr_snoc h l]
    cases l <;> rfl
theorem lb_lt {n k : Nat} (h : n < 4294967296 ^ k) : (lb n).length ≤ k := by
  induction k generalizing n with
  | zero => have : n = 0 := by simpa using h
            subst this; simp [lb_zero]
  | succ k ih =>
    rcases Nat.eq_zero_or_pos n with rfl | h0
    · simp [lb_zero]
    · rw [lb_pos h0, List.length_cons]
      have : n / 4294967296 < 4294967296 ^ k := by
        rw [Nat.div_lt_iff_lt_mul (by omega), ← Nat.pow_succ]; exact h
      have := ih this
      omega
theorem lb_ge {n : Nat} (h : 0 < n) : 4294967296 ^ ((lb n).length - 1) ≤ n := by
  induction n using Nat.strongRecOn with
  | ind n ih =>
    rw [lb_pos h, List.length_cons, Nat.add_sub_cancel]
    rcases Nat.eq_zero_or_pos (n / 4294967296) with h0 | h0
    · rw [h0, lb_zero]; exact h
    · have h1 := ih (n / 4294967296) (by omega) h0
      have h2 : 0 < (lb (n / 4294967296)).length := by rw [lb_pos h0]; simp
      obtain ⟨k, hk⟩ : ∃ k, (lb (n / 4294967296)).length = k + 1 := ⟨_, (Nat.sub_add_cancel h2).symm⟩
      rw [hk, Nat.add_sub_cancel] at h1
      rw [hk, Nat.pow_succ]
      omega
theorem lb_len0 {n : Nat} : (lb n).length = 0 ↔ n = 0 := by
  constructor
  · intro h
    rcases Nat.eq_zero_or_pos n with h0 | h0
    · exact h0
    · rw [lb_pos h0] at h; simp at h
  · rintro rfl; rfl
theorem lb_inj {n m : Nat} (h : lb n = lb m) : n = m := by rw [← val_lb n, ← val_lb m, h]
theorem len_lt {n m : Nat} (h : (lb n).length < (lb m).length) : n < m := by
  have h1 := val_lt (lb n)
  rw [val_lb] at h1
  have hm : 0 < m := by
    rcases Nat.eq_zero_or_pos m with rfl | h0
    · simp [lb_zero] at h
    · exact h0
  have h2 := lb_ge hm
  exact Nat.lt_of_lt_of_le h1 (Nat.le_trans (Nat.pow_le_pow_right (by omega) (by omega)) h2)
/-- The last limb is not 0. -/
theorem lb_last {n i : Nat} (h : i + 1 = (lb n).length) : 0 < ((lb n)[i]'(by omega)).toNat := by
  have hn : 0 < n := by
    rcases Nat.eq_zero_or_pos n with h0 | h0
    · subst h0; simp [lb_zero] at h
    · exact h0
  have h1 := lb_ge hn
  have h2 : val (lb n) = val ((lb n).take i) + 4294967296 ^ i * ((lb n)[i]'(by omega)).toNat := by
    rw [← val_take_succ (by omega), h, List.take_length]
  rw [val_lb] at h2
  have h3 := val_lt ((lb n).take i)
  rw [List.length_take, Nat.min_eq_left (by omega)] at h3
  rw [← h, Nat.add_sub_cancel] at h1
  rcases Nat.eq_zero_or_pos ((lb n)[i]'(by omega)).toNat with h0 | h0
  · rw [h0] at h2; omega
  · exact h0
def cmpN (x y : Nat) : Int := if x < y then -1 else if y < x then 1 else 0
/-- Lists that agree from i + 1 on, compared at i. -/
theorem val_cmp {l m : List UInt32} {i : Nat} (hl : i < l.length) (hm : i < m.length) (hd : l.drop (i + 1) = m.drop (i + 1)) (h : l[i].toNat < m[i].toNat) : val l < val m := by
  rw [val_split l (i + 1) (by omega), val_split m (i + 1) (by omega), hd, val_take_succ hl, val_take_succ hm]
  have h1 := val_lt (l.take i)
  rw [List.length_take, Nat.min_eq_left (by omega)] at h1
  have h2 : 4294967296 ^ i * (l[i].toNat + 1) ≤ 4294967296 ^ i * m[i].toNat := Nat.mul_le_mul_left _ h
  rw [Nat.mul_add, Nat.mul_one] at h2
  omega
theorem bpow (i : Nat) : 0 < 4294967296 ^ i := Nat.pow_pos (by omega)
theorem lb_small {n : Nat} (h0 : 0 < n) (h : n < 4294967296) : lb n = [UInt32.ofNat n] := by rw [lb_pos h0, Nat.mod_eq_of_lt h, Nat.div_eq_of_lt h, lb_zero]
end Go.Rl

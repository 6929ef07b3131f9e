/- Walks of package natural: the estimate of a limb of a quotient, and the subtraction. Conditions: each names its own. -/
import Derived.Test.YtifjnhdnpglbpaaN3
import Derived.Test.YtifjnhdnpglbpaaKnuth
namespace Go.Rl
open Go.RowKit Go.Proofs
theorem call_NEst : Callable Try.prog 101 := ⟨_, Try.func101, by kernel_rfl, rfl⟩
theorem call_NRed : Callable Try.prog 100 := ⟨_, Try.func100, by kernel_rfl, rfl⟩

theorem top2 {m : List UInt32} {k : Nat} (h : m.length = k + 2) : val m = ((m[k + 1]'(by omega)).toNat * 4294967296 + (m[k]'(by omega)).toNat) * 4294967296 ^ k + val (m.take k) := by
  rw [val_split m k (by omega), val_drop (show k < m.length by omega), val_drop (show k + 1 < m.length by omega), List.drop_of_length_le (show m.length ≤ k + 1 + 1 by omega), Nat.mul_comm (4294967296 ^ k), Nat.add_comm]
  congr 2
  simp only [val]
  omega
theorem top3 {m : List UInt32} {k : Nat} (h : m.length = k + 3) : val m = (((m[k + 2]'(by omega)).toNat * 4294967296 + (m[k + 1]'(by omega)).toNat) * 4294967296 + (m[k]'(by omega)).toNat) * 4294967296 ^ k + val (m.take k) := by
  rw [val_split m k (by omega), val_drop (show k < m.length by omega), val_drop (show k + 1 < m.length by omega), val_drop (show k + 1 + 1 < m.length by omega), List.drop_of_length_le (show m.length ≤ k + 1 + 1 + 1 by omega), Nat.mul_comm (4294967296 ^ k), Nat.add_comm]
  congr 2
  simp only [val, Nat.add_assoc, Nat.reduceAdd]
  omega
theorem ge64 {a b : UInt64} : a ≥ b ↔ b.toNat ≤ a.toNat := UInt64.le_iff_toNat_le
theorem gt64 {a b : UInt64} : a > b ↔ b.toNat < a.toNat := UInt64.lt_iff_toNat_lt
theorem NEst_spec {w : World} {L m : List UInt32} {u v : Value} {k : Nat} (hu : Wds L u w) (hv : Wds m v w) (hm : m.length = k + 2) (hL : L.length = k + 3) (hk : k ≤ 1099511627776) (h1 : 0 < (m[k + 1]'(by omega)).toNat) (hUV : val L < 4294967296 * val m) :
    Calls Try.prog 101 #[u, v] w (Ret fun r w' => Ext w w' ∧ ∃ q : UInt64, r = U64 q ∧ q.toNat < 4294967296 ∧ (q.toNat - 1) * val m ≤ val L ∧ val L < (q.toNat + 1) * val m) := by
  refine enter (vs := [u, v]) Try.func101 rfl rfl rfl ?_
  have tV := top2 hm
  have tU := top3 hL
  have hPk := bpow k
  have hVl := val_lt (m.take k)
  have hUl := val_lt (L.take k)
  rw [List.length_take, Nat.min_eq_left (by omega)] at hVl hUl
  have b0 := u32_lt (L[k]'(by omega))
  have b1 := u32_lt (L[k + 1]'(by omega))
  have b2 := u32_lt (L[k + 2]'(by omega))
  have c1 := u32_lt (m[k + 1]'(by omega))
  have c0 := u32_lt (m[k]'(by omega))
  have hV0 : 0 < val m := by
    rw [tV]
    have := Nat.mul_le_mul_right (4294967296 ^ k) (show 1 ≤ (m[k + 1]'(by omega)).toNat * 4294967296 + (m[k]'(by omega)).toNat by omega)
    omega
  have hu0 : (L[k + 2]'(by omega)).toNat ≤ (m[k + 1]'(by omega)).toNat := by
    rcases Nat.lt_or_ge (m[k + 1]'(by omega)).toNat (L[k + 2]'(by omega)).toNat with h | h
    · have e1 : ((m[k + 1]'(by omega)).toNat * 4294967296 + (m[k]'(by omega)).toNat + 1) * 4294967296 ^ k * 4294967296 ≤ (((L[k + 2]'(by omega)).toNat * 4294967296 + (L[k + 1]'(by omega)).toNat) * 4294967296 + (L[k]'(by omega)).toNat) * 4294967296 ^ k := by
        rw [Nat.mul_assoc, Nat.mul_comm (4294967296 ^ k), ← Nat.mul_assoc]
        exact Nat.mul_le_mul_right _ (by omega)
      rw [Nat.add_mul _ 1] at e1
      omega
    · exact h
  have hd0 : (m[k + 1]'(by omega)).toUInt64 ≠ 0 := fun h => by
    have := congrArg UInt64.toNat h
    rw [n_64] at this
    simp at this
    omega
  have n01 := n_two (L[k + 2]'(by omega)).toUInt64 (L[k + 1]'(by omega)) (by rw [n_64]; exact b2)
  rw [n_64] at n01
  refine c_seq (c_region (o_assign rfl rfl (o_nil (n_then (c_seq (c_region (o_move rfl rfl (o_len (r := I ((k + 2 : Nat) : Int)) rfl rfl ((by rw [← hm]; exact r_lenW Try.underlying33 hv)) ?_))))))))
  refine o_assign rfl rfl (o_nil (n_then (c_seq (c_grow 13 [0, 1, 5, 23] (by kernel_rfl) (by kernel_rfl) ?_))))
  refine f_move rfl rfl (f_move rfl rfl ?_)
  obtain ⟨a13, p13, q13⟩ := r_ixW Try.underlying33 hu (i := (k + 2 : Nat)) (by omega) .i64
  refine f_indexAddr rfl rfl rfl (fun w _ => p13 w) (f_load rfl rfl (fun w hw => r_load1 Try.underlying79 rfl (hw.cell_some q13)) (f_conv rfl rfl (fun w _ => r_u32_u64 Try.underlying79 Try.underlying31) ?_))
  refine f_bin (v := U64 32) rfl rfl rfl (fun w _ => r_shl_u64 32 (by omega)) (f_move rfl rfl (f_move rfl rfl (f_bin (r := I ((k + 1 : Nat) : Int)) rfl rfl rfl (fun w _ => by have e : ((k + 1 : Nat) : Int) = ((k + 2 : Nat) : Int) - 1 := (by omega); rw [e]; exact r_sub_i (by omega) (by omega)) ?_)))
  obtain ⟨a20, p20, q20⟩ := r_ixW Try.underlying33 hu (i := (k + 1 : Nat)) (by omega) .i64
  refine f_indexAddr rfl rfl rfl (fun w _ => p20 w) (f_load rfl rfl (fun w hw => r_load1 Try.underlying79 rfl (hw.cell_some q20)) (f_conv rfl rfl (fun w _ => r_u32_u64 Try.underlying79 Try.underlying31) ?_))
  refine f_bin rfl rfl rfl (fun w _ => r_or_u64) (f_nil ?_)
  intro wg2 xg2
  rintro _ hq0
  obtain rfl := Eq.symm hq0
  rintro _ hq1
  obtain rfl := Eq.symm hq1
  rintro _ rfl
  rintro _ rfl
  refine o_assign rfl rfl (o_nil (n_then (c_seq (c_grow 17 [0, 1, 5, 7, 39] (by kernel_rfl) (by kernel_rfl) ?_))))
  refine f_move rfl rfl (f_move rfl rfl (f_move rfl rfl (f_bin (r := I ((k + 1 : Nat) : Int)) rfl rfl rfl (fun w _ => by have e : ((k + 1 : Nat) : Int) = ((k + 2 : Nat) : Int) - 1 := (by omega); rw [e]; exact r_sub_i (by omega) (by omega)) ?_)))
  obtain ⟨a28, p28, q28⟩ := r_ixW Try.underlying33 (hv.ext xg2) (i := (k + 1 : Nat)) (by omega) .i64
  refine f_indexAddr rfl rfl rfl (fun w _ => p28 w) (f_load rfl rfl (fun w hw => r_load1 Try.underlying79 rfl (hw.cell_some q28)) (f_conv rfl rfl (fun w _ => r_u32_u64 Try.underlying79 Try.underlying31) ?_))
  refine f_bin rfl rfl rfl (fun w _ => r_quo_u64 hd0) (f_move rfl rfl (f_move rfl rfl (f_move rfl rfl (f_bin (r := I ((k + 1 : Nat) : Int)) rfl rfl rfl (fun w _ => by have e : ((k + 1 : Nat) : Int) = ((k + 2 : Nat) : Int) - 1 := (by omega); rw [e]; exact r_sub_i (by omega) (by omega)) ?_))))
  obtain ⟨a36, p36, q36⟩ := r_ixW Try.underlying33 (hv.ext xg2) (i := (k + 1 : Nat)) (by omega) .i64
  refine f_indexAddr rfl rfl rfl (fun w _ => p36 w) (f_load rfl rfl (fun w hw => r_load1 Try.underlying79 rfl (hw.cell_some q36)) (f_conv rfl rfl (fun w _ => r_u32_u64 Try.underlying79 Try.underlying31) ?_))
  refine f_bin rfl rfl rfl (fun w _ => r_rem_u64 hd0) (f_assign rfl rfl (f_nil ?_))
  intro wg3 xg3
  rintro _ hq0
  obtain rfl := Eq.symm hq0
  rintro _ hq1
  obtain rfl := Eq.symm hq1
  rintro _ rfl
  rintro _ rfl
  rintro _ rfl
  refine o_assign rfl rfl (o_nil (n_then (c_seq (c_block ?_))))
  refine c_loop2 (fun (q : UInt64) (r : UInt64) => [(0, u), (1, v), (5, I ((k + 2 : Nat) : Int)), (7, U64 q), (8, U64 r)]) (fun (q : UInt64) (r : UInt64) w' => Ext w w' ∧ q.toNat * (m[k + 1]'(by omega)).toNat + r.toNat = (L[k + 2]'(by omega)).toNat * 4294967296 + (L[k + 1]'(by omega)).toNat ∧ r.toNat < 4294967296 ∧ ∀ Q, Q * val m ≤ val L → Q ≤ q.toNat) (fun (q : UInt64) (r : UInt64) => q.toNat) (_) (_) ⟨rfl, rfl, rfl, rfl, rfl, trivial⟩ ⟨(xg2.trans xg3), by rw [UInt64.toNat_div, UInt64.toNat_mod, n01, n_64, Nat.mul_comm]; exact Nat.div_add_mod _ _, by rw [UInt64.toNat_mod, n01, n_64]; have := Nat.mod_lt ((L[k + 2]'(by omega)).toNat * 4294967296 + (L[k + 1]'(by omega)).toNat) h1; omega, fun Q hQ => by
      rw [UInt64.toNat_div, n01, n_64]
      refine est_up (V := val m) (U := val L) (P := 4294967296 ^ k * 4294967296) ?_ ?_ h1 hQ
      · rw [tV, Nat.mul_comm (4294967296 ^ k), ← Nat.mul_assoc]
        have := Nat.mul_le_mul_right (4294967296 ^ k) (Nat.le_add_right ((m[k + 1]'(by omega)).toNat * 4294967296) (m[k]'(by omega)).toNat)
        omega
      · rw [tU, Nat.mul_comm (4294967296 ^ k), ← Nat.mul_assoc]
        have := Nat.mul_le_mul_right (4294967296 ^ k) (show ((L[k + 2]'(by omega)).toNat * 4294967296 + (L[k + 1]'(by omega)).toNat) * 4294967296 + (L[k]'(by omega)).toNat + 1 ≤ ((L[k + 2]'(by omega)).toNat * 4294967296 + (L[k + 1]'(by omega)).toNat + 1) * 4294967296 by omega)
        rw [Nat.add_mul _ 1] at this
        omega⟩ ?_
  rintro q r w4 ⟨e4, hqr, hr, hup⟩
  refine c_seq (c_seq ?_)
  by_cases h41 : q ≥ 4294967296
  · refine c_grow 21 [0, 1, 5, 7, 8, 42, 60] (by kernel_rfl) (by kernel_rfl) ?_
    refine f_move rfl rfl (f_bin (v := U64 4294967296) rfl rfl rfl (fun w _ => dec_t h41 r_geq_u64) (f_move rfl rfl (f_no rfl rfl rfl (f_no rfl rfl rfl (f_no rfl rfl rfl (f_no rfl rfl rfl ?_))))))
    refine f_no rfl rfl rfl (f_no rfl rfl rfl (f_no rfl rfl rfl (f_no rfl rfl rfl (f_no rfl rfl rfl (f_no rfl rfl rfl (f_no rfl rfl rfl (f_no rfl rfl rfl (f_no rfl rfl rfl (f_no rfl rfl rfl ?_)))))))))
    refine f_no rfl rfl rfl (f_no rfl rfl rfl (f_no rfl rfl rfl (f_no rfl rfl rfl (f_nil ?_))))
    intro wg4 xg4
    rintro _ hq0
    obtain rfl := Eq.symm hq0
    rintro _ hq1
    obtain rfl := Eq.symm hq1
    rintro _ rfl
    rintro _ rfl
    rintro _ rfl
    rintro _ rfl
    rintro _ rfl
    refine o_pick_t rfl rfl rfl (o_nil (n_then (c_yes rfl (c_skip (n_then (c_block (c_seq (c_region ?_))))))))
    have hlo : ∀ Q, Q * val m ≤ val L → Q + 1 ≤ q.toNat := by
      intro Q hQ
      first
      | (have h41' : 4294967296 ≤ q.toNat := ge64.1 h41
         have h2 : Q * val m < 4294967296 * val m := by omega
         have := Nat.lt_of_mul_lt_mul_right h2
         omega)
      | (have h41' : q.toNat < 4294967296 := Nat.lt_of_not_le fun h => h41 (ge64.2 h)
         have h61' := gt64.1 h61
         have hp : q.toNat * (m[k]'(by omega)).toNat ≤ 4294967295 * 4294967295 := Nat.mul_le_mul (by omega) (by omega)
         rw [n_two r _ hr, n_mul, n_64, Nat.mod_eq_of_lt (by omega)] at h61'
         have h2 := est_down tV tU hUl hqr h61'
         have h3 : Q * val m < q.toNat * val m := by omega
         exact Nat.lt_of_mul_lt_mul_right h3)
    have hq0 := hlo 0 (by simp)
    have hq1 : (q - 1).toNat = q.toNat - 1 := by
      have := u64_lt q
      rw [n_sub]
      show (18446744073709551616 - 1 + q.toNat) % 18446744073709551616 = _
      omega
    have hr1 : (r + (m[k + 1]'(by omega)).toUInt64).toNat = r.toNat + (m[k + 1]'(by omega)).toNat := by rw [n_add, n_64]; omega
    have hqr1 : (q - 1).toNat * (m[k + 1]'(by omega)).toNat + (r + (m[k + 1]'(by omega)).toUInt64).toNat = (L[k + 2]'(by omega)).toNat * 4294967296 + (L[k + 1]'(by omega)).toNat := by
      rw [hq1, hr1, ← hqr]
      obtain ⟨p, hp⟩ : ∃ p, q.toNat = p + 1 := ⟨q.toNat - 1, by omega⟩
      rw [hp, Nat.add_sub_cancel, Nat.add_mul]; omega
    have hup1 : ∀ Q, Q * val m ≤ val L → Q ≤ (q - 1).toNat := fun Q hQ => by
      have := hlo Q hQ
      omega
    refine o_move rfl rfl (o_bin (v := U64 1) rfl rfl rfl (r_sub_u64) (o_assign rfl rfl (o_nil (n_then (c_seq (c_region (o_move rfl rfl (o_move rfl rfl (o_move rfl rfl (o_bin (r := I ((k + 1 : Nat) : Int)) rfl rfl rfl (by have e : ((k + 1 : Nat) : Int) = ((k + 2 : Nat) : Int) - 1 := (by omega); rw [e]; exact r_sub_i (by omega) (by omega)) ?_))))))))))
    obtain ⟨a68, p68, q68⟩ := r_ixW Try.underlying33 (hv.ext (e4.trans xg4)) (i := (k + 1 : Nat)) (by omega) .i64
    refine o_indexAddr rfl rfl rfl (p68 _) (o_load rfl rfl (r_load1 Try.underlying79 rfl q68) (o_conv rfl rfl (r_u32_u64 Try.underlying79 Try.underlying31) ?_))
    refine o_bin rfl rfl rfl (r_add_u64) (o_assign rfl rfl (o_nil (n_then (c_seq (c_region (o_move rfl rfl (o_bin (v := U64 4294967296) rfl rfl rfl (r_geq_u64) (o_nil (n_then ?_)))))))))
    refine c_if rfl (fun h73 => ?_) (fun h73 => ?_)
    · have h73' : 4294967296 ≤ (r + (m[k + 1]'(by omega)).toUInt64).toNat := ge64.1 h73
      have hB := est_lt hu0 b1 hqr1 h73'
      refine c_exit (x_out rfl (x_then (x_here (n_then (c_seq (c_region (o_move rfl rfl (o_assign rfl rfl (o_nil (n_then (c_ret (r_body1 rfl rfl ?_))))))))))))
      first
      | exact ⟨_, rfl, (e4.trans xg4), _, rfl, hB, est_fin tV tU hVl h1 c0 hB hqr1 (.inl h73'), Nat.lt_of_not_le fun h => absurd (hup1 _ h) (by omega)⟩
      | (have h41' : q.toNat < 4294967296 := Nat.lt_of_not_le fun h => h41 (ge64.2 h)
         have h61' : (q * (m[k]'(by omega)).toUInt64).toNat ≤ (r <<< UInt64.ofNat 32 ||| (L[k]'(by omega)).toUInt64).toNat := Nat.le_of_not_lt fun h => h61 (gt64.2 h)
         have hp : q.toNat * (m[k]'(by omega)).toNat ≤ 4294967295 * 4294967295 := Nat.mul_le_mul (by omega) (by omega)
         rw [n_two r _ hr, n_mul, n_64, Nat.mod_eq_of_lt (by omega)] at h61'
         exact ⟨_, rfl, (e4.trans xg4), _, rfl, h41', est_fin tV tU hVl h1 c0 h41' hqr (.inr h61'), Nat.lt_of_not_le fun h => absurd (hup _ h) (by omega)⟩)
    · have h73' : (r + (m[k + 1]'(by omega)).toUInt64).toNat < 4294967296 := Nat.lt_of_not_le fun h => h73 (ge64.2 h)
      refine c_skip (n_block ?_)
      refine n_round2 (q - 1) (r + (m[k + 1]'(by omega)).toUInt64) ⟨rfl, rfl, rfl, rfl, rfl, trivial⟩ ⟨(e4.trans xg4), hqr1, h73', hup1⟩ (by show (q - 1).toNat < q.toNat; omega)
  · refine c_grow 21 [0, 1, 5, 7, 8, 42, 60] (by kernel_rfl) (by kernel_rfl) ?_
    refine f_move rfl rfl (f_bin (v := U64 4294967296) rfl rfl rfl (fun w _ => dec_f h41 r_geq_u64) (f_move rfl rfl (f_yes rfl rfl (f_move rfl rfl (f_yes rfl rfl (f_move rfl rfl ?_))))))
    refine f_yes rfl rfl (f_move rfl rfl (f_yes rfl rfl (f_bin (r := I ((k : Nat) : Int)) rfl rfl rfl (fun w _ => by have e : ((k : Nat) : Int) = ((k + 2 : Nat) : Int) - 2 := (by omega); rw [e]; exact r_sub_i (by omega) (by omega)) ?_)))
    refine f_yes rfl rfl ?_
    obtain ⟨a47, p47, q47⟩ := r_ixW Try.underlying33 (hv.ext e4) (i := (k : Nat)) (by omega) .i64
    refine f_indexAddr rfl rfl rfl (fun w _ => p47 w) (f_yes rfl rfl (f_load rfl rfl (fun w hw => r_load1 Try.underlying79 rfl (hw.cell_some q47)) (f_yes rfl rfl ?_)))
    refine f_conv rfl rfl (fun w _ => r_u32_u64 Try.underlying79 Try.underlying31) (f_yes rfl rfl (f_bin rfl rfl rfl (fun w _ => r_mul_u64) (f_yes rfl rfl ?_)))
    refine f_move rfl rfl (f_yes rfl rfl (f_bin (v := U64 32) rfl rfl rfl (fun w _ => r_shl_u64 32 (by omega)) (f_yes rfl rfl (f_move rfl rfl (f_yes rfl rfl (f_move rfl rfl (f_yes rfl rfl ?_)))))))
    refine f_bin (r := I ((k : Nat) : Int)) rfl rfl rfl (fun w _ => by have e : ((k : Nat) : Int) = ((k + 2 : Nat) : Int) - 2 := (by omega); rw [e]; exact r_sub_i (by omega) (by omega)) ?_
    refine f_yes rfl rfl ?_
    obtain ⟨a56, p56, q56⟩ := r_ixW Try.underlying33 (hu.ext e4) (i := (k : Nat)) (by omega) .i64
    refine f_indexAddr rfl rfl rfl (fun w _ => p56 w) (f_yes rfl rfl (f_load rfl rfl (fun w hw => r_load1 Try.underlying79 rfl (hw.cell_some q56)) (f_yes rfl rfl ?_)))
    refine f_conv rfl rfl (fun w _ => r_u32_u64 Try.underlying79 Try.underlying31) (f_yes rfl rfl (f_bin rfl rfl rfl (fun w _ => r_or_u64) (f_yes rfl rfl ?_)))
    refine f_bin rfl rfl rfl (fun w _ => r_gtr_u64) (f_nil ?_)
    intro wg4 xg4
    rintro _ hq0
    obtain rfl := Eq.symm hq0
    rintro _ hq1
    obtain rfl := Eq.symm hq1
    rintro _ rfl
    rintro _ rfl
    rintro _ rfl
    rintro _ rfl
    rintro _ rfl
    refine o_pick_f rfl rfl rfl (o_nil (n_then ?_))
    refine c_if rfl (fun h61 => ?_) (fun h61 => ?_)
    · refine c_skip (n_then (c_block (c_seq (c_region ?_))))
      have hlo : ∀ Q, Q * val m ≤ val L → Q + 1 ≤ q.toNat := by
        intro Q hQ
        first
        | (have h41' : 4294967296 ≤ q.toNat := ge64.1 h41
           have h2 : Q * val m < 4294967296 * val m := by omega
           have := Nat.lt_of_mul_lt_mul_right h2
           omega)
        | (have h41' : q.toNat < 4294967296 := Nat.lt_of_not_le fun h => h41 (ge64.2 h)
           have h61' := gt64.1 h61
           have hp : q.toNat * (m[k]'(by omega)).toNat ≤ 4294967295 * 4294967295 := Nat.mul_le_mul (by omega) (by omega)
           rw [n_two r _ hr, n_mul, n_64, Nat.mod_eq_of_lt (by omega)] at h61'
           have h2 := est_down tV tU hUl hqr h61'
           have h3 : Q * val m < q.toNat * val m := by omega
           exact Nat.lt_of_mul_lt_mul_right h3)
      have hq0 := hlo 0 (by simp)
      have hq1 : (q - 1).toNat = q.toNat - 1 := by
        have := u64_lt q
        rw [n_sub]
        show (18446744073709551616 - 1 + q.toNat) % 18446744073709551616 = _
        omega
      have hr1 : (r + (m[k + 1]'(by omega)).toUInt64).toNat = r.toNat + (m[k + 1]'(by omega)).toNat := by rw [n_add, n_64]; omega
      have hqr1 : (q - 1).toNat * (m[k + 1]'(by omega)).toNat + (r + (m[k + 1]'(by omega)).toUInt64).toNat = (L[k + 2]'(by omega)).toNat * 4294967296 + (L[k + 1]'(by omega)).toNat := by
        rw [hq1, hr1, ← hqr]
        obtain ⟨p, hp⟩ : ∃ p, q.toNat = p + 1 := ⟨q.toNat - 1, by omega⟩
        rw [hp, Nat.add_sub_cancel, Nat.add_mul]; omega
      have hup1 : ∀ Q, Q * val m ≤ val L → Q ≤ (q - 1).toNat := fun Q hQ => by
        have := hlo Q hQ
        omega
      refine o_move rfl rfl (o_bin (v := U64 1) rfl rfl rfl (r_sub_u64) (o_assign rfl rfl (o_nil (n_then (c_seq (c_region (o_move rfl rfl (o_move rfl rfl (o_move rfl rfl (o_bin (r := I ((k + 1 : Nat) : Int)) rfl rfl rfl (by have e : ((k + 1 : Nat) : Int) = ((k + 2 : Nat) : Int) - 1 := (by omega); rw [e]; exact r_sub_i (by omega) (by omega)) ?_))))))))))
      obtain ⟨a68, p68, q68⟩ := r_ixW Try.underlying33 (hv.ext (e4.trans xg4)) (i := (k + 1 : Nat)) (by omega) .i64
      refine o_indexAddr rfl rfl rfl (p68 _) (o_load rfl rfl (r_load1 Try.underlying79 rfl q68) (o_conv rfl rfl (r_u32_u64 Try.underlying79 Try.underlying31) ?_))
      refine o_bin rfl rfl rfl (r_add_u64) (o_assign rfl rfl (o_nil (n_then (c_seq (c_region (o_move rfl rfl (o_bin (v := U64 4294967296) rfl rfl rfl (r_geq_u64) (o_nil (n_then ?_)))))))))
      refine c_if rfl (fun h73 => ?_) (fun h73 => ?_)
      · have h73' : 4294967296 ≤ (r + (m[k + 1]'(by omega)).toUInt64).toNat := ge64.1 h73
        have hB := est_lt hu0 b1 hqr1 h73'
        refine c_exit (x_out rfl (x_then (x_here (n_then (c_seq (c_region (o_move rfl rfl (o_assign rfl rfl (o_nil (n_then (c_ret (r_body1 rfl rfl ?_))))))))))))
        first
        | exact ⟨_, rfl, (e4.trans xg4), _, rfl, hB, est_fin tV tU hVl h1 c0 hB hqr1 (.inl h73'), Nat.lt_of_not_le fun h => absurd (hup1 _ h) (by omega)⟩
        | (have h41' : q.toNat < 4294967296 := Nat.lt_of_not_le fun h => h41 (ge64.2 h)
           have h61' : (q * (m[k]'(by omega)).toUInt64).toNat ≤ (r <<< UInt64.ofNat 32 ||| (L[k]'(by omega)).toUInt64).toNat := Nat.le_of_not_lt fun h => h61 (gt64.2 h)
           have hp : q.toNat * (m[k]'(by omega)).toNat ≤ 4294967295 * 4294967295 := Nat.mul_le_mul (by omega) (by omega)
           rw [n_two r _ hr, n_mul, n_64, Nat.mod_eq_of_lt (by omega)] at h61'
           exact ⟨_, rfl, (e4.trans xg4), _, rfl, h41', est_fin tV tU hVl h1 c0 h41' hqr (.inr h61'), Nat.lt_of_not_le fun h => absurd (hup _ h) (by omega)⟩)
      · have h73' : (r + (m[k + 1]'(by omega)).toUInt64).toNat < 4294967296 := Nat.lt_of_not_le fun h => h73 (ge64.2 h)
        refine c_skip (n_block ?_)
        refine n_round2 (q - 1) (r + (m[k + 1]'(by omega)).toUInt64) ⟨rfl, rfl, rfl, rfl, rfl, trivial⟩ ⟨(e4.trans xg4), hqr1, h73', hup1⟩ (by show (q - 1).toNat < q.toNat; omega)
    · refine c_exit (x_then (x_then (x_here (n_then (c_seq (c_region (o_move rfl rfl (o_assign rfl rfl (o_nil (n_then (c_ret (r_body1 rfl rfl ?_))))))))))))
      first
      | exact ⟨_, rfl, (e4.trans xg4), _, rfl, hB, est_fin tV tU hVl h1 c0 hB hqr1 (.inl h73'), Nat.lt_of_not_le fun h => absurd (hup1 _ h) (by omega)⟩
      | (have h41' : q.toNat < 4294967296 := Nat.lt_of_not_le fun h => h41 (ge64.2 h)
         have h61' : (q * (m[k]'(by omega)).toUInt64).toNat ≤ (r <<< UInt64.ofNat 32 ||| (L[k]'(by omega)).toUInt64).toNat := Nat.le_of_not_lt fun h => h61 (gt64.2 h)
         have hp : q.toNat * (m[k]'(by omega)).toNat ≤ 4294967295 * 4294967295 := Nat.mul_le_mul (by omega) (by omega)
         rw [n_two r _ hr, n_mul, n_64, Nat.mod_eq_of_lt (by omega)] at h61'
         exact ⟨_, rfl, (e4.trans xg4), _, rfl, h41', est_fin tV tU hVl h1 c0 h41' hqr (.inr h61'), Nat.lt_of_not_le fun h => absurd (hup _ h) (by omega)⟩)
end Go.Rl


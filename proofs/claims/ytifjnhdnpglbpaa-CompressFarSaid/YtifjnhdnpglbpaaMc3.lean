/- Walks of package natural: the estimate of a limb of a quotient, and the subtraction. Conditions: each names its own. -/
import Derived.Test.YtifjnhdnpglbpaaMc2
import Derived.OrdersHeld
namespace Go.Rl
open Go.RowKit Go.Proofs
theorem call_NEst : Callable Try.prog 101 := ⟨_, Try.func101, by kernel_rfl, rfl⟩
theorem call_NRed : Callable Try.prog 100 := ⟨_, Try.func100, by kernel_rfl, rfl⟩

theorem top2 {m : List UInt32} {k : Nat} (h : m.length = k + 2) : val m = ((m[k + 1]'(by omega)).toNat * 4294967296 + (m[k]'(by omega)).toNat) * 4294967296 ^ k + val (m.take k) := by
  rw [val_split m k (by omega), val_drop (show k < m.length by omega), val_drop (show k + 1 < m.length by omega), List.drop_of_length_le (show m.length ≤ k + 1 + 1 by omega), Nat.mul_comm (4294967296 ^ k), Nat.add_comm]
  congr 2
  simp only [val]
  omega
theorem top3 {m : List UInt32} {k : Nat} (h : m.length = k + 3) : val m = (((m[k + 2]'(by omega)).toNat * 4294967296 + (m[k + 1]'(by omega)).toNat) * 4294967296 + (m[k]'(by omega)).toNat) * 4294967296 ^ k + val (m.take k) := by
  rw [val_split m k (by omega), val_drop (show k < m.length by omega), val_drop (show k + 1 < m.length by omega), val_drop (show k + 1 + 1 < m.length by omega), List.drop_of_length_le (show m.length ≤ k + 1 + 1 + 1 by omega), Nat.mul_comm (4294967296 ^ k), Nat.add_comm]
  congr 2
  simp only [val, Nat.add_assoc, Nat.reduceAdd]
  omega
theorem ge64 {a b : UInt64} : a ≥ b ↔ b.toNat ≤ a.toNat := UInt64.le_iff_toNat_le
theorem gt64 {a b : UInt64} : a > b ↔ b.toNat < a.toNat := UInt64.lt_iff_toNat_lt
theorem NEst_spec {w : World} {L m : List UInt32} {u v : Value} {k : Nat} (hu : Wds L u w) (hv : Wds m v w) (hm : m.length = k + 2) (hL : L.length = k + 3) (hk : k ≤ 1099511627776) (h1 : 0 < (m[k + 1]'(by omega)).toNat) (hUV : val L < 4294967296 * val m) :
    Calls Try.prog 101 #[u, v] w (Ret fun r w' => Ext w w' ∧ ∃ q : UInt64, r = U64 q ∧ q.toNat < 4294967296 ∧ (q.toNat - 1) * val m ≤ val L ∧ val L < (q.toNat + 1) * val m) := by
  refine enter (vs := [u, v]) Try.func101 rfl rfl rfl ?_
  have tV := top2 hm
  have tU := top3 hL
  have hPk := bpow k
  have hVl := val_lt (m.take k)
  have hUl := val_lt (L.take k)
  rw [List.length_take, Nat.min_eq_left (by omega)] at hVl hUl
  have b0 := u32_lt (L[k]'(by omega))
  have b1 := u32_lt (L[k + 1]'(by omega))
  have b2 := u32_lt (L[k + 2]'(by omega))
  have c1 := u32_lt (m[k + 1]'(by omega))
  have c0 := u32_lt (m[k]'(by omega))
  have hV0 : 0 < val m := by
    rw [tV]
    have := Nat.mul_le_mul_right (4294967296 ^ k) (show 1 ≤ (m[k + 1]'(by omega)).toNat * 4294967296 + (m[k]'(by omega)).toNat by omega)
    omega
  have hu0 : (L[k + 2]'(by omega)).toNat ≤ (m[k + 1]'(by omega)).toNat := by
    rcases Nat.lt_or_ge (m[k + 1]'(by omega)).toNat (L[k + 2]'(by omega)).toNat with h | h
    · have e1 : ((m[k + 1]'(by omega)).toNat * 4294967296 + (m[k]'(by omega)).toNat + 1) * 4294967296 ^ k * 4294967296 ≤ (((L[k + 2]'(by omega)).toNat * 4294967296 + (L[k + 1]'(by omega)).toNat) * 4294967296 + (L[k]'(by omega)).toNat) * 4294967296 ^ k := by
        rw [Nat.mul_assoc, Nat.mul_comm (4294967296 ^ k), ← Nat.mul_assoc]
        exact Nat.mul_le_mul_right _ (by omega)
      rw [Nat.add_mul _ 1] at e1
      omega
    · exact h
  have hd0 : (m[k + 1]'(by omega)).toUInt64 ≠ 0 := fun h => by
    have := congrArg UInt64.toNat h
    rw [n_64] at this
    simp at this
    omega
  have n01 := n_two (L[k + 2]'(by omega)).toUInt64 (L[k + 1]'(by omega)) (by rw [n_64]; exact b2)
  rw [n_64] at n01
  refine c_seq (c_region (o_assign rfl rfl (o_nil (n_then (c_seq (c_region (o_move rfl rfl (o_len (r := I ((k + 2 : Nat) : Int)) rfl rfl ((by rw [← hm]; exact r_lenW Try.underlying33 hv)) ?_))))))))
  refine o_assign rfl rfl (o_nil (n_then (c_seq (c_grow 13 [0, 1, 5, 23] (by kernel_rfl) (by kernel_rfl) ?_))))
  refine f_move rfl rfl (f_move rfl rfl ?_)
  obtain ⟨a13, p13, q13⟩ := r_ixW Try.underlying33 hu (i := (k + 2 : Nat)) (by omega) .i64
  refine f_indexAddr rfl rfl rfl (fun w _ => p13 w) (f_load rfl rfl (fun w hw => r_load1 Try.underlying79 rfl (hw.cell_some q13)) (f_conv rfl rfl (fun w _ => r_u32_u64 Try.underlying79 Try.underlying31) ?_))
  refine f_bin (v := U64 32) rfl rfl rfl (fun w _ => r_shl_u64 32 (by omega)) (f_move rfl rfl (f_move rfl rfl (f_bin (r := I ((k + 1 : Nat) : Int)) rfl rfl rfl (fun w _ => by have e : ((k + 1 : Nat) : Int) = ((k + 2 : Nat) : Int) - 1 := (by omega); rw [e]; exact r_sub_i (by omega) (by omega)) ?_)))
  obtain ⟨a20, p20, q20⟩ := r_ixW Try.underlying33 hu (i := (k + 1 : Nat)) (by omega) .i64
  refine f_indexAddr rfl rfl rfl (fun w _ => p20 w) (f_load rfl rfl (fun w hw => r_load1 Try.underlying79 rfl (hw.cell_some q20)) (f_conv rfl rfl (fun w _ => r_u32_u64 Try.underlying79 Try.underlying31) ?_))
  refine f_bin rfl rfl rfl (fun w _ => r_or_u64) (f_nil ?_)
  intro wg2 xg2
  rintro _ hq0
  obtain rfl := Eq.symm hq0
  rintro _ hq1
  obtain rfl := Eq.symm hq1
  rintro _ rfl
  rintro _ rfl
  refine o_assign rfl rfl (o_nil (n_then (c_seq (c_grow 17 [0, 1, 5, 7, 39] (by kernel_rfl) (by kernel_rfl) ?_))))
  refine f_move rfl rfl (f_move rfl rfl (f_move rfl rfl (f_bin (r := I ((k + 1 : Nat) : Int)) rfl rfl rfl (fun w _ => by have e : ((k + 1 : Nat) : Int) = ((k + 2 : Nat) : Int) - 1 := (by omega); rw [e]; exact r_sub_i (by omega) (by omega)) ?_)))
  obtain ⟨a28, p28, q28⟩ := r_ixW Try.underlying33 (hv.ext xg2) (i := (k + 1 : Nat)) (by omega) .i64
  refine f_indexAddr rfl rfl rfl (fun w _ => p28 w) (f_load rfl rfl (fun w hw => r_load1 Try.underlying79 rfl (hw.cell_some q28)) (f_conv rfl rfl (fun w _ => r_u32_u64 Try.underlying79 Try.underlying31) ?_))
  refine f_bin rfl rfl rfl (fun w _ => r_quo_u64 hd0) (f_move rfl rfl (f_move rfl rfl (f_move rfl rfl (f_bin (r := I ((k + 1 : Nat) : Int)) rfl rfl rfl (fun w _ => by have e : ((k + 1 : Nat) : Int) = ((k + 2 : Nat) : Int) - 1 := (by omega); rw [e]; exact r_sub_i (by omega) (by omega)) ?_))))
  obtain ⟨a36, p36, q36⟩ := r_ixW Try.underlying33 (hv.ext xg2) (i := (k + 1 : Nat)) (by omega) .i64
  refine f_indexAddr rfl rfl rfl (fun w _ => p36 w) (f_load rfl rfl (fun w hw => r_load1 Try.underlying79 rfl (hw.cell_some q36)) (f_conv rfl rfl (fun w _ => r_u32_u64 Try.underlying79 Try.underlying31) ?_))
  refine f_bin rfl rfl rfl (fun w _ => r_rem_u64 hd0) (f_assign rfl rfl (f_nil ?_))
  intro wg3 xg3
  rintro _ hq0
  obtain rfl := Eq.symm hq0
  rintro _ hq1
  obtain rfl := Eq.symm hq1
  rintro _ rfl
  rintro _ rfl
  rintro _ rfl
  refine o_assign rfl rfl (o_nil (n_then (c_seq (c_block ?_))))
  refine c_loop2 (fun (q : UInt64) (r : UInt64) => [(0, u), (1, v), (5, I ((k + 2 : Nat) : Int)), (7, U64 q), (8, U64 r)]) (fun (q : UInt64) (r : UInt64) w' => Ext w w' ∧ q.toNat * (m[k + 1]'(by omega)).toNat + r.toNat = (L[k + 2]'(by omega)).toNat * 4294967296 + (L[k + 1]'(by omega)).toNat ∧ r.toNat < 4294967296 ∧ ∀ Q, Q * val m ≤ val L → Q ≤ q.toNat) (fun (q : UInt64) (r : UInt64) => q.toNat) (_) (_) ⟨rfl, rfl, rfl, rfl, rfl, trivial⟩ ⟨(xg2.trans xg3), by rw [UInt64.toNat_div, UInt64.toNat_mod, n01, n_64, Nat.mul_comm]; exact Nat.div_add_mod _ _, by rw [UInt64.toNat_mod, n01, n_64]; have := Nat.mod_lt ((L[k + 2]'(by omega)).toNat * 4294967296 + (L[k + 1]'(by omega)).toNat) h1; omega, fun Q hQ => by
      rw [UInt64.toNat_div, n01, n_64]
      refine est_up (V := val m) (U := val L) (P := 4294967296 ^ k * 4294967296) ?_ ?_ h1 hQ
      · rw [tV, Nat.mul_comm (4294967296 ^ k), ← Nat.mul_assoc]
        have := Nat.mul_le_mul_right (4294967296 ^ k) (Nat.le_add_right ((m[k + 1]'(by omega)).toNat * 4294967296) (m[k]'(by omega)).toNat)
        omega
      · rw [tU, Nat.mul_comm (4294967296 ^ k), ← Nat.mul_assoc]
        have := Nat.mul_le_mul_right (4294967296 ^ k) (show ((L[k + 2]'(by omega)).toNat * 4294967296 + (L[k + 1]'(by omega)).toNat) * 4294967296 + (L[k]'(by omega)).toNat + 1 ≤ ((L[k + 2]'(by omega)).toNat * 4294967296 + (L[k + 1]'(by omega)).toNat + 1) * 4294967296 by omega)
        rw [Nat.add_mul _ 1] at this
        omega⟩ ?_
  rintro q r w4 ⟨e4, hqr, hr, hup⟩
  refine c_seq (c_seq ?_)
  by_cases h41 : q ≥ 4294967296
  · refine c_grow 21 [0, 1, 5, 7, 8, 42, 60] (by kernel_rfl) (by kernel_rfl) ?_
    refine f_move rfl rfl (f_bin (v := U64 4294967296) rfl rfl rfl (fun w _ => dec_t h41 r_geq_u64) (f_move rfl rfl (f_no rfl rfl rfl (f_no rfl rfl rfl (f_no rfl rfl rfl (f_no rfl rfl rfl ?_))))))
    refine f_no rfl rfl rfl (f_no rfl rfl rfl (f_no rfl rfl rfl (f_no rfl rfl rfl (f_no rfl rfl rfl (f_no rfl rfl rfl (f_no rfl rfl rfl (f_no rfl rfl rfl (f_no rfl rfl rfl (f_no rfl rfl rfl ?_)))))))))
    refine f_no rfl rfl rfl (f_no rfl rfl rfl (f_no rfl rfl rfl (f_no rfl rfl rfl (f_nil ?_))))
    intro wg4 xg4
    rintro _ hq0
    obtain rfl := Eq.symm hq0
    rintro _ hq1
    obtain rfl := Eq.symm hq1
    rintro _ rfl
    rintro _ rfl
    rintro _ rfl
    rintro _ rfl
    rintro _ rfl
    refine o_pick_t rfl rfl rfl (o_nil (n_then (c_yes rfl (c_skip (n_then (c_block (c_seq (c_region ?_))))))))
    have hlo : ∀ Q, Q * val m ≤ val L → Q + 1 ≤ q.toNat := by
      intro Q hQ
      first
      | (have h41' : 4294967296 ≤ q.toNat := ge64.1 h41
         have h2 : Q * val m < 4294967296 * val m := by omega
         have := Nat.lt_of_mul_lt_mul_right h2
         omega)
      | (have h41' : q.toNat < 4294967296 := Nat.lt_of_not_le fun h => h41 (ge64.2 h)
         have h61' := gt64.1 h61
         have hp : q.toNat * (m[k]'(by omega)).toNat ≤ 4294967295 * 4294967295 := Nat.mul_le_mul (by omega) (by omega)
         rw [n_two r _ hr, n_mul, n_64, Nat.mod_eq_of_lt (by omega)] at h61'
         have h2 := est_down tV tU hUl hqr h61'
         have h3 : Q * val m < q.toNat * val m := by omega
         exact Nat.lt_of_mul_lt_mul_right h3)
    have hq0 := hlo 0 (by simp)
    have hq1 : (q - 1).toNat = q.toNat - 1 := by
      have := u64_lt q
      rw [n_sub]
      show (18446744073709551616 - 1 + q.toNat) % 18446744073709551616 = _
      omega
    have hr1 : (r + (m[k + 1]'(by omega)).toUInt64).toNat = r.toNat + (m[k + 1]'(by omega)).toNat := by rw [n_add, n_64]; omega
    have hqr1 : (q - 1).toNat * (m[k + 1]'(by omega)).toNat + (r + (m[k + 1]'(by omega)).toUInt64).toNat = (L[k + 2]'(by omega)).toNat * 4294967296 + (L[k + 1]'(by omega)).toNat := by
      rw [hq1, hr1, ← hqr]
      obtain ⟨p, hp⟩ : ∃ p, q.toNat = p + 1 := ⟨q.toNat - 1, by omega⟩
      rw [hp, Nat.add_sub_cancel, Nat.add_mul]; omega
    have hup1 : ∀ Q, Q * val m ≤ val L → Q ≤ (q - 1).toNat := fun Q hQ => by
      have := hlo Q hQ
      omega
    refine o_move rfl rfl (o_bin (v := U64 1) rfl rfl rfl (r_sub_u64) (o_assign rfl rfl (o_nil (n_then (c_seq (c_region (o_move rfl rfl (o_move rfl rfl (o_move rfl rfl (o_bin (r := I ((k + 1 : Nat) : Int)) rfl rfl rfl (by have e : ((k + 1 : Nat) : Int) = ((k + 2 : Nat) : Int) - 1 := (by omega); rw [e]; exact r_sub_i (by omega) (by omega)) ?_))))))))))
    obtain ⟨a68, p68, q68⟩ := r_ixW Try.underlying33 (hv.ext (e4.trans xg4)) (i := (k + 1 : Nat)) (by omega) .i64
    refine o_indexAddr rfl rfl rfl (p68 _) (o_load rfl rfl (r_load1 Try.underlying79 rfl q68) (o_conv rfl rfl (r_u32_u64 Try.underlying79 Try.underlying31) ?_))
    refine o_bin rfl rfl rfl (r_add_u64) (o_assign rfl rfl (o_nil (n_then (c_seq (c_region (o_move rfl rfl (o_bin (v := U64 4294967296) rfl rfl rfl (r_geq_u64) (o_nil (n_then ?_)))))))))
    refine c_if rfl (fun h73 => ?_) (fun h73 => ?_)
    · have h73' : 4294967296 ≤ (r + (m[k + 1]'(by omega)).toUInt64).toNat := ge64.1 h73
      have hB := est_lt hu0 b1 hqr1 h73'
      refine c_exit (x_out rfl (x_then (x_here (n_then (c_seq (c_region (o_move rfl rfl (o_assign rfl rfl (o_nil (n_then (c_ret (r_body1 rfl rfl ?_))))))))))))
      first
      | exact ⟨_, rfl, (e4.trans xg4), _, rfl, hB, est_fin tV tU hVl h1 c0 hB hqr1 (.inl h73'), Nat.lt_of_not_le fun h => absurd (hup1 _ h) (by omega)⟩
      | (have h41' : q.toNat < 4294967296 := Nat.lt_of_not_le fun h => h41 (ge64.2 h)
         have h61' : (q * (m[k]'(by omega)).toUInt64).toNat ≤ (r <<< UInt64.ofNat 32 ||| (L[k]'(by omega)).toUInt64).toNat := Nat.le_of_not_lt fun h => h61 (gt64.2 h)
         have hp : q.toNat * (m[k]'(by omega)).toNat ≤ 4294967295 * 4294967295 := Nat.mul_le_mul (by omega) (by omega)
         rw [n_two r _ hr, n_mul, n_64, Nat.mod_eq_of_lt (by omega)] at h61'
         exact ⟨_, rfl, (e4.trans xg4), _, rfl, h41', est_fin tV tU hVl h1 c0 h41' hqr (.inr h61'), Nat.lt_of_not_le fun h => absurd (hup _ h) (by omega)⟩)
    · have h73' : (r + (m[k + 1]'(by omega)).toUInt64).toNat < 4294967296 := Nat.lt_of_not_le fun h => h73 (ge64.2 h)
      refine c_skip (n_block ?_)
      refine n_round2 (q - 1) (r + (m[k + 1]'(by omega)).toUInt64) ⟨rfl, rfl, rfl, rfl, rfl, trivial⟩ ⟨(e4.trans xg4), hqr1, h73', hup1⟩ (by show (q - 1).toNat < q.toNat; omega)
  · refine c_grow 21 [0, 1, 5, 7, 8, 42, 60] (by kernel_rfl) (by kernel_rfl) ?_
    refine f_move rfl rfl (f_bin (v := U64 4294967296) rfl rfl rfl (fun w _ => dec_f h41 r_geq_u64) (f_move rfl rfl (f_yes rfl rfl (f_move rfl rfl (f_yes rfl rfl (f_move rfl rfl ?_))))))
    refine f_yes rfl rfl (f_move rfl rfl (f_yes rfl rfl (f_bin (r := I ((k : Nat) : Int)) rfl rfl rfl (fun w _ => by have e : ((k : Nat) : Int) = ((k + 2 : Nat) : Int) - 2 := (by omega); rw [e]; exact r_sub_i (by omega) (by omega)) ?_)))
    refine f_yes rfl rfl ?_
    obtain ⟨a47, p47, q47⟩ := r_ixW Try.underlying33 (hv.ext e4) (i := (k : Nat)) (by omega) .i64
    refine f_indexAddr rfl rfl rfl (fun w _ => p47 w) (f_yes rfl rfl (f_load rfl rfl (fun w hw => r_load1 Try.underlying79 rfl (hw.cell_some q47)) (f_yes rfl rfl ?_)))
    refine f_conv rfl rfl (fun w _ => r_u32_u64 Try.underlying79 Try.underlying31) (f_yes rfl rfl (f_bin rfl rfl rfl (fun w _ => r_mul_u64) (f_yes rfl rfl ?_)))
    refine f_move rfl rfl (f_yes rfl rfl (f_bin (v := U64 32) rfl rfl rfl (fun w _ => r_shl_u64 32 (by omega)) (f_yes rfl rfl (f_move rfl rfl (f_yes rfl rfl (f_move rfl rfl (f_yes rfl rfl ?_)))))))
    refine f_bin (r := I ((k : Nat) : Int)) rfl rfl rfl (fun w _ => by have e : ((k : Nat) : Int) = ((k + 2 : Nat) : Int) - 2 := (by omega); rw [e]; exact r_sub_i (by omega) (by omega)) ?_
    refine f_yes rfl rfl ?_
    obtain ⟨a56, p56, q56⟩ := r_ixW Try.underlying33 (hu.ext e4) (i := (k : Nat)) (by omega) .i64
    refine f_indexAddr rfl rfl rfl (fun w _ => p56 w) (f_yes rfl rfl (f_load rfl rfl (fun w hw => r_load1 Try.underlying79 rfl (hw.cell_some q56)) (f_yes rfl rfl ?_)))
    refine f_conv rfl rfl (fun w _ => r_u32_u64 Try.underlying79 Try.underlying31) (f_yes rfl rfl (f_bin rfl rfl rfl (fun w _ => r_or_u64) (f_yes rfl rfl ?_)))
    refine f_bin rfl rfl rfl (fun w _ => r_gtr_u64) (f_nil ?_)
    intro wg4 xg4
    rintro _ hq0
    obtain rfl := Eq.symm hq0
    rintro _ hq1
    obtain rfl := Eq.symm hq1
    rintro _ rfl
    rintro _ rfl
    rintro _ rfl
    rintro _ rfl
    rintro _ rfl
    refine o_pick_f rfl rfl rfl (o_nil (n_then ?_))
    refine c_if rfl (fun h61 => ?_) (fun h61 => ?_)
    · refine c_skip (n_then (c_block (c_seq (c_region ?_))))
      have hlo : ∀ Q, Q * val m ≤ val L → Q + 1 ≤ q.toNat := by
        intro Q hQ
        first
        | (have h41' : 4294967296 ≤ q.toNat := ge64.1 h41
           have h2 : Q * val m < 4294967296 * val m := by omega
           have := Nat.lt_of_mul_lt_mul_right h2
           omega)
        | (have h41' : q.toNat < 4294967296 := Nat.lt_of_not_le fun h => h41 (ge64.2 h)
           have h61' := gt64.1 h61
           have hp : q.toNat * (m[k]'(by omega)).toNat ≤ 4294967295 * 4294967295 := Nat.mul_le_mul (by omega) (by omega)
           rw [n_two r _ hr, n_mul, n_64, Nat.mod_eq_of_lt (by omega)] at h61'
           have h2 := est_down tV tU hUl hqr h61'
           have h3 : Q * val m < q.toNat * val m := by omega
           exact Nat.lt_of_mul_lt_mul_right h3)
      have hq0 := hlo 0 (by simp)
      have hq1 : (q - 1).toNat = q.toNat - 1 := by
        have := u64_lt q
        rw [n_sub]
        show (18446744073709551616 - 1 + q.toNat) % 18446744073709551616 = _
        omega
      have hr1 : (r + (m[k + 1]'(by omega)).toUInt64).toNat = r.toNat + (m[k + 1]'(by omega)).toNat := by rw [n_add, n_64]; omega
      have hqr1 : (q - 1).toNat * (m[k + 1]'(by omega)).toNat + (r + (m[k + 1]'(by omega)).toUInt64).toNat = (L[k + 2]'(by omega)).toNat * 4294967296 + (L[k + 1]'(by omega)).toNat := by
        rw [hq1, hr1, ← hqr]
        obtain ⟨p, hp⟩ : ∃ p, q.toNat = p + 1 := ⟨q.toNat - 1, by omega⟩
        rw [hp, Nat.add_sub_cancel, Nat.add_mul]; omega
      have hup1 : ∀ Q, Q * val m ≤ val L → Q ≤ (q - 1).toNat := fun Q hQ => by
        have := hlo Q hQ
        omega
      refine o_move rfl rfl (o_bin (v := U64 1) rfl rfl rfl (r_sub_u64) (o_assign rfl rfl (o_nil (n_then (c_seq (c_region (o_move rfl rfl (o_move rfl rfl (o_move rfl rfl (o_bin (r := I ((k + 1 : Nat) : Int)) rfl rfl rfl (by have e : ((k + 1 : Nat) : Int) = ((k + 2 : Nat) : Int) - 1 := (by omega); rw [e]; exact r_sub_i (by omega) (by omega)) ?_))))))))))
      obtain ⟨a68, p68, q68⟩ := r_ixW Try.underlying33 (hv.ext (e4.trans xg4)) (i := (k + 1 : Nat)) (by omega) .i64
      refine o_indexAddr rfl rfl rfl (p68 _) (o_load rfl rfl (r_load1 Try.underlying79 rfl q68) (o_conv rfl rfl (r_u32_u64 Try.underlying79 Try.underlying31) ?_))
      refine o_bin rfl rfl rfl (r_add_u64) (o_assign rfl rfl (o_nil (n_then (c_seq (c_region (o_move rfl rfl (o_bin (v := U64 4294967296) rfl rfl rfl (r_geq_u64) (o_nil (n_then ?_)))))))))
      refine c_if rfl (fun h73 => ?_) (fun h73 => ?_)
      · have h73' : 4294967296 ≤ (r + (m[k + 1]'(by omega)).toUInt64).toNat := ge64.1 h73
        have hB := est_lt hu0 b1 hqr1 h73'
        refine c_exit (x_out rfl (x_then (x_here (n_then (c_seq (c_region (o_move rfl rfl (o_assign rfl rfl (o_nil (n_then (c_ret (r_body1 rfl rfl ?_))))))))))))
        first
        | exact ⟨_, rfl, (e4.trans xg4), _, rfl, hB, est_fin tV tU hVl h1 c0 hB hqr1 (.inl h73'), Nat.lt_of_not_le fun h => absurd (hup1 _ h) (by omega)⟩
        | (have h41' : q.toNat < 4294967296 := Nat.lt_of_not_le fun h => h41 (ge64.2 h)
           have h61' : (q * (m[k]'(by omega)).toUInt64).toNat ≤ (r <<< UInt64.ofNat 32 ||| (L[k]'(by omega)).toUInt64).toNat := Nat.le_of_not_lt fun h => h61 (gt64.2 h)
           have hp : q.toNat * (m[k]'(by omega)).toNat ≤ 4294967295 * 4294967295 := Nat.mul_le_mul (by omega) (by omega)
           rw [n_two r _ hr, n_mul, n_64, Nat.mod_eq_of_lt (by omega)] at h61'
           exact ⟨_, rfl, (e4.trans xg4), _, rfl, h41', est_fin tV tU hVl h1 c0 h41' hqr (.inr h61'), Nat.lt_of_not_le fun h => absurd (hup _ h) (by omega)⟩)
      · have h73' : (r + (m[k + 1]'(by omega)).toUInt64).toNat < 4294967296 := Nat.lt_of_not_le fun h => h73 (ge64.2 h)
        refine c_skip (n_block ?_)
        refine n_round2 (q - 1) (r + (m[k + 1]'(by omega)).toUInt64) ⟨rfl, rfl, rfl, rfl, rfl, trivial⟩ ⟨(e4.trans xg4), hqr1, h73', hup1⟩ (by show (q - 1).toNat < q.toNat; omega)
    · refine c_exit (x_then (x_then (x_here (n_then (c_seq (c_region (o_move rfl rfl (o_assign rfl rfl (o_nil (n_then (c_ret (r_body1 rfl rfl ?_))))))))))))
      first
      | exact ⟨_, rfl, (e4.trans xg4), _, rfl, hB, est_fin tV tU hVl h1 c0 hB hqr1 (.inl h73'), Nat.lt_of_not_le fun h => absurd (hup1 _ h) (by omega)⟩
      | (have h41' : q.toNat < 4294967296 := Nat.lt_of_not_le fun h => h41 (ge64.2 h)
         have h61' : (q * (m[k]'(by omega)).toUInt64).toNat ≤ (r <<< UInt64.ofNat 32 ||| (L[k]'(by omega)).toUInt64).toNat := Nat.le_of_not_lt fun h => h61 (gt64.2 h)
         have hp : q.toNat * (m[k]'(by omega)).toNat ≤ 4294967295 * 4294967295 := Nat.mul_le_mul (by omega) (by omega)
         rw [n_two r _ hr, n_mul, n_64, Nat.mod_eq_of_lt (by omega)] at h61'
         exact ⟨_, rfl, (e4.trans xg4), _, rfl, h41', est_fin tV tU hVl h1 c0 h41' hqr (.inr h61'), Nat.lt_of_not_le fun h => absurd (hup _ h) (by omega)⟩)
end Go.Rl
/- Walk of package natural: reduce. Conditions: the estimate is at most one too large. -/
namespace Go.Rl
open Go.RowKit Go.Proofs
theorem NRed_spec {w : World} {g : Nat} {pre post : List Value} {L m : List UInt32} {u v : Value} {q : UInt64} (hu : PW g pre L post u w) (hv : Wds m v w) (ha : v.ownBlock = none ∨ v.ownBlock ≠ some g) (hL : L.length = m.length + 1) (hm : m.length ≤ 1099511627776)
    (hq : q.toNat < 4294967296) (h1 : (q.toNat - 1) * val m ≤ val L) (h2 : val L < (q.toNat + 1) * val m) :
    Calls Try.prog 100 #[u, v, U64 q] w (Ret fun r w' => ∃ x F, r = U32 x ∧ w.grownBy w' (some g) ∧ PW g pre F post u w' ∧ F.length = L.length ∧ val L = x.toNat * val m + val F ∧ val F < val m) := by
  refine enter (vs := [u, v, U64 q]) Try.func100 rfl rfl rfl ?_
  refine c_seq (c_region (o_assign rfl rfl (o_nil (n_then (c_seq (c_region (o_assign rfl rfl (o_assign rfl rfl (o_nil (n_then (c_seq (c_seq (c_region (o_move rfl rfl (o_len rfl rfl (r_lenW Try.underlying33 hv) ?_)))))))))))))))
  refine o_move rfl rfl (o_nil (n_then (c_block ?_)))
  refine c_loop4 (fun (i : Nat) (M : List UInt32) (c : UInt64) (b : UInt64) => [(0, u), (1, v), (2, U64 q), (7, U64 c), (8, U64 b), (15, v), (16, I (m.length : Int)), (17, I (i : Int))]) (fun (i : Nat) (M : List UInt32) (c : UInt64) (b : UInt64) w' => w.grownBy w' (some g) ∧ PW g pre M post u w' ∧ M.length = L.length ∧ i ≤ m.length ∧ M.drop i = L.drop i ∧ c.toNat < 4294967296 ∧ b.toNat ≤ 1 ∧ val (L.take i) + 4294967296 ^ i * (c.toNat + b.toNat) = val (M.take i) + q.toNat * val (m.take i)) (fun (i : Nat) (M : List UInt32) (c : UInt64) (b : UInt64) => m.length - i) (0) (L) (0) (0) ⟨rfl, rfl, rfl, rfl, rfl, rfl, rfl, rfl, trivial⟩ ⟨gb_ext (Ext.refl _), hu, rfl, by simp, rfl, by simp, by simp, by simp [val]⟩ ?_
  rintro i M c b w3 ⟨q3, pM, hM, hi, hMi, hc, hb, hinv⟩
  refine c_seq ?_
  have v3 := hv.away ha q3
  refine c_region (o_bin rfl rfl rfl (r_lss_i) (o_nil (n_then (c_seq ?_))))
  refine c_if rfl (fun h18 => ?_) (fun h18 => ?_)
  · refine c_skip (n_then (c_seq (c_block (c_seq (c_region (o_move rfl rfl ?_))))))
    obtain ⟨a20, p20, q20⟩ := r_ixW Try.underlying33 v3 (i := i) (by omega) .i64
    refine o_indexAddr rfl rfl rfl (p20 _) (o_load rfl rfl (r_load1 Try.underlying79 rfl q20) (o_assign rfl rfl (o_assign rfl rfl (o_nil (n_then (c_seq (c_region (o_move rfl rfl ?_))))))))
    refine o_move rfl rfl (o_move rfl rfl (o_conv rfl rfl (r_u32_u64 Try.underlying79 Try.underlying31) (o_bin rfl rfl rfl (r_mul_u64) (o_bin rfl rfl rfl (r_add_u64) ?_))))
    refine o_assign rfl rfl (o_nil (n_then (c_seq (c_region (o_move rfl rfl (o_move rfl rfl ?_))))))
    obtain ⟨a30, p30, q30⟩ := r_ixW Try.underlying33 pM.wds (i := i) (by omega) .i64
    refine o_indexAddr rfl rfl rfl (p30 _) (o_load rfl rfl (r_load1 Try.underlying79 rfl q30) (o_conv rfl rfl (r_u32_u64 Try.underlying79 Try.underlying31) ?_))
    refine o_move rfl rfl (o_conv rfl rfl (r_u64_u32 Try.underlying31 Try.underlying79) (o_conv rfl rfl (r_u32_u64 Try.underlying79 Try.underlying31) ?_))
    refine o_bin rfl rfl rfl (r_sub_u64) (o_move rfl rfl (o_bin rfl rfl rfl (r_sub_u64) (o_assign rfl rfl (o_nil (n_then (c_seq (c_region (o_move rfl rfl (o_move rfl rfl (o_move rfl rfl ?_))))))))))
    refine o_conv rfl rfl (r_u64_u32 Try.underlying31 Try.underlying79) ?_
    obtain ⟨w43, p43, s43, pN, q43, c43⟩ := pM.setP Try.underlying33 (i := i) (by omega) ((((((((M[i])).toUInt64) - (((((c) + (((q) * (((m[i])).toUInt64))))).toUInt32).toUInt64))) - (b)))).toUInt32
    refine o_indexAddr rfl rfl rfl (p43 _) (o_store rfl rfl (s43) (o_nil (n_then (c_seq (c_region (o_move rfl rfl (o_bin rfl rfl rfl (r_shr_u64 63 (by omega)) (o_assign rfl rfl (o_nil ?_)))))))))
    refine n_then (c_region (o_move rfl rfl (o_bin rfl rfl rfl (r_shr_u64 32 (by omega)) (o_assign rfl rfl (o_nil (n_block (n_then (c_region (o_bin (r := I ((i + 1 : Nat) : Int)) rfl rfl rfl (by have e : ((i + 1 : Nat) : Int) = (i : Int) + 1 := (by omega); rw [e]; exact r_add_i (by omega) (by omega)) ?_)))))))))
    refine o_move rfl rfl (o_nil ?_)
    have st := sub_step (L := L) (v := m) (M := M) (i := i) (q := q) (c := c) (b := b) (by omega) (by omega) hM hq hc hb hMi hinv rfl
    refine n_round4 (i + 1) (_) (_) (_) ⟨rfl, rfl, rfl, rfl, rfl, rfl, rfl, rfl, trivial⟩ ⟨q3.trans q43, pN, by simpa using hM, by omega, st.1, st.2.1, st.2.2.1, st.2.2.2⟩ (by omega)
  · refine c_exit (x_then (x_then (x_here (n_then (c_seq ?_)))))
    obtain rfl : i = m.length := by omega
    refine c_region (o_move rfl rfl (o_move rfl rfl (o_len rfl rfl (r_lenW Try.underlying33 v3) ?_)))
    obtain ⟨a52, p52, q52⟩ := r_ixW Try.underlying33 pM.wds (i := m.length) (by omega) .i64
    refine o_indexAddr rfl rfl rfl (p52 _) (o_load rfl rfl (r_load1 Try.underlying79 rfl q52) (o_conv rfl rfl (r_u32_u64 Try.underlying79 Try.underlying31) ?_))
    refine o_move rfl rfl (o_bin rfl rfl rfl (r_sub_u64) (o_move rfl rfl (o_bin rfl rfl rfl (r_sub_u64) (o_assign rfl rfl (o_nil (n_then (c_seq (c_region (o_move rfl rfl (o_move rfl rfl ?_))))))))))
    refine o_len rfl rfl (r_lenW Try.underlying33 v3) (o_move rfl rfl (o_conv rfl rfl (r_u64_u32 Try.underlying31 Try.underlying79) ?_))
    obtain ⟨w64, p64, s64, pN, q64, c64⟩ := pM.setP Try.underlying33 (i := m.length) (by omega) ((((((((M[m.length])).toUInt64) - (c))) - (b)))).toUInt32
    refine o_indexAddr rfl rfl rfl (p64 _) (o_store rfl rfl (s64) ?_)
    have v64 := v3.away ha q64
    have tp := red_top (q := q) hL hM hc hb hMi hinv rfl
    have h63 := n_shr ((((((((M[m.length])).toUInt64) - (c))) - (b)))) (s := 63) (by omega)
    simp only [Nat.reducePow] at h63
    have hNl : (M.set m.length ((((((((M[m.length])).toUInt64) - (c))) - (b)))).toUInt32).length = L.length := by simpa using hM
    have hFl := val_lt (M.set m.length ((((((((M[m.length])).toUInt64) - (c))) - (b)))).toUInt32)
    generalize M.set m.length ((((((((M[m.length])).toUInt64) - (c))) - (b)))).toUInt32 = N at pN tp hNl hFl
    generalize hX : (((((((M[m.length])).toUInt64) - (c))) - (b))) = X at tp h63
    refine o_nil (n_then (c_seq (c_seq (c_region (o_move rfl rfl (o_bin rfl rfl rfl (r_shr_u64 63 (by omega)) (o_bin (v := U64 0) rfl rfl rfl (r_eql_u64) (o_nil (n_then ?_)))))))))
    refine c_if rfl (fun h67 => ?_) (fun h67 => ?_)
    · rw [h67] at h63
      rw [← h63] at tp
      refine c_seq (c_region (o_move rfl rfl (o_conv rfl rfl (r_u64_u32 Try.underlying31 Try.underlying79) (o_assign rfl rfl (o_nil (n_then (c_ret (r_then (r_body1 rfl rfl ?_)))))))))
      exact ⟨_, rfl, q.toUInt32, N, rfl, q3.trans q64, pN, hNl, by
        have e : q.toUInt32.toNat = q.toNat := by rw [n_32]; omega
        have := tp.1
        rw [e]
        simp at this
        omega, by
        have := tp.1
        rw [Nat.add_mul, Nat.one_mul] at h2
        simp at this
        omega⟩
    · have hs : X.toNat / 9223372036854775808 = 1 := by
        rcases Nat.eq_zero_or_pos (X.toNat / 9223372036854775808) with h | h
        · exact absurd (u64_zero (h63.trans h)) h67
        · have := tp.2
          omega
      rw [hs, Nat.mul_one] at tp
      refine c_skip (n_then (c_seq (c_region (o_assign rfl rfl (o_nil (n_then (c_seq (c_seq (c_region (o_move rfl rfl (o_len rfl rfl (r_lenW Try.underlying33 v64) (o_move rfl rfl ?_))))))))))))
      refine o_nil (n_then (c_block ?_))
      refine c_loop3 (fun (i : Nat) (K : List UInt32) (d : UInt64) => [(0, u), (1, v), (2, U64 q), (7, U64 d), (70, v), (71, I (m.length : Int)), (72, I (i : Int))]) (fun (i : Nat) (K : List UInt32) (d : UInt64) w' => w.grownBy w' (some g) ∧ PW g pre K post u w' ∧ K.length = L.length ∧ i ≤ m.length ∧ K.drop i = N.drop i ∧ d.toNat ≤ 1 ∧ val (K.take i) + 4294967296 ^ i * d.toNat = val (N.take i) + val (m.take i)) (fun (i : Nat) (K : List UInt32) (d : UInt64) => m.length - i) (0) (N) (0) ⟨rfl, rfl, rfl, rfl, rfl, rfl, rfl, trivial⟩ ⟨q3.trans q64, pN, hNl, by simp, rfl, by simp, by simp [val]⟩ ?_
      rintro i K d w17 ⟨q17, pK, hK, hi, hKi, hd, hinv2⟩
      refine c_seq ?_
      have v17 := hv.away ha q17
      refine c_region (o_bin rfl rfl rfl (r_lss_i) (o_nil (n_then (c_seq ?_))))
      refine c_if rfl (fun h73 => ?_) (fun h73 => ?_)
      · refine c_skip (n_then (c_seq (c_block (c_seq (c_region (o_move rfl rfl ?_))))))
        obtain ⟨a75, p75, q75⟩ := r_ixW Try.underlying33 v17 (i := i) (by omega) .i64
        refine o_indexAddr rfl rfl rfl (p75 _) (o_load rfl rfl (r_load1 Try.underlying79 rfl q75) (o_assign rfl rfl (o_assign rfl rfl (o_nil (n_then (c_seq (c_region (o_move rfl rfl ?_))))))))
        refine o_move rfl rfl (o_move rfl rfl ?_)
        obtain ⟨a80, p80, q80⟩ := r_ixW Try.underlying33 pK.wds (i := i) (by omega) .i64
        refine o_indexAddr rfl rfl rfl (p80 _) (o_load rfl rfl (r_load1 Try.underlying79 rfl q80) (o_conv rfl rfl (r_u32_u64 Try.underlying79 Try.underlying31) ?_))
        refine o_move rfl rfl (o_conv rfl rfl (r_u32_u64 Try.underlying79 Try.underlying31) (o_bin rfl rfl rfl (r_add_u64) (o_bin rfl rfl rfl (r_add_u64) (o_assign rfl rfl ?_))))
        refine o_nil (n_then (c_seq (c_region (o_move rfl rfl (o_move rfl rfl (o_move rfl rfl (o_conv rfl rfl (r_u64_u32 Try.underlying31 Try.underlying79) ?_)))))))
        obtain ⟨w91, p91, s91, pK', q91, c91⟩ := pK.setP Try.underlying33 (i := i) (by omega) ((((d) + (((((K[i])).toUInt64) + (((m[i])).toUInt64)))))).toUInt32
        refine o_indexAddr rfl rfl rfl (p91 _) (o_store rfl rfl (s91) (o_nil (n_then (c_region (o_move rfl rfl (o_bin rfl rfl rfl (r_shr_u64 32 (by omega)) (o_assign rfl rfl (o_nil (n_block ?_)))))))))
        refine n_then (c_region (o_bin (r := I ((i + 1 : Nat) : Int)) rfl rfl rfl (by have e : ((i + 1 : Nat) : Int) = (i : Int) + 1 := (by omega); rw [e]; exact r_add_i (by omega) (by omega)) ?_))
        refine o_move rfl rfl (o_nil ?_)
        have st := add_step (L := N) (v := m) (M := K) (i := i) (c := d) (by omega) (by omega) (by omega) hd hKi hinv2
        refine n_round3 (i + 1) (_) (_) ⟨rfl, rfl, rfl, rfl, rfl, rfl, rfl, trivial⟩ ⟨q17.trans q91, pK', by simpa using hK, by omega, st.1, st.2.1, st.2.2⟩ (by omega)
      · refine c_exit (x_then (x_then (x_here (n_then (c_seq ?_)))))
        obtain rfl : i = m.length := by omega
        refine c_region (o_move rfl rfl (o_move rfl rfl (o_len rfl rfl (r_lenW Try.underlying33 v17) ?_)))
        obtain ⟨a98, p98, q98⟩ := r_ixW Try.underlying33 pK.wds (i := m.length) (by omega) .i64
        refine o_indexAddr rfl rfl rfl (p98 _) (o_load rfl rfl (r_load1 Try.underlying79 rfl q98) (o_move rfl rfl (o_conv rfl rfl (r_u64_u32 Try.underlying31 Try.underlying79) ?_)))
        refine o_bin rfl rfl rfl (r_add_u32) ?_
        obtain ⟨w103, p103, s103, pK', q103, c103⟩ := pK.setP Try.underlying33 (i := m.length) (by omega) (K[m.length]'(by omega) + d.toUInt32)
        refine o_indexAddr rfl rfl rfl (p103 _) (o_store rfl rfl (s103) (o_nil (n_then (c_seq (c_region (o_move rfl rfl (o_bin (v := U64 1) rfl rfl rfl (r_sub_u64) (o_conv rfl rfl (r_u64_u32 Try.underlying31 Try.underlying79) ?_))))))))
        refine o_assign rfl rfl (o_nil (n_then (c_ret (r_body1 rfl rfl ?_))))
        have rb := red_back (q := q.toNat) hL hNl hK hd hKi hinv2 tp.1 h1
        exact ⟨_, rfl, (q - 1).toUInt32, _, rfl, q17.trans q103, pK', by simpa using hK, by
          have e : (q - 1).toUInt32.toNat = q.toNat - 1 := by
            have h0 := rb.1
            rw [n_32, n_sub]
            show (18446744073709551616 - 1 + q.toNat) % 18446744073709551616 % _ = _
            omega
          rw [e]; exact rb.2.1, rb.2.2⟩
end Go.Rl
/- Walk of package natural: DivMod. Conditions: the divisor is not 0; the numbers are shorter than 2^39 limbs. -/
namespace Go.Rl
open Go.RowKit Go.Proofs
theorem call_NDivMod : Callable Try.prog 90 := ⟨_, Try.func90, by kernel_rfl, rfl⟩
theorem val_drop0 {U : List UInt32} {i j V : Nat} (h : val U < 4294967296 ^ (i + 1) * V) (hV : V < 4294967296 ^ j) (hi : i + j + 1 ≤ U.length) : val (U.drop (i + j + 1)) = 0 := by
  rw [val_split U (i + j + 1) hi] at h
  rcases Nat.eq_zero_or_pos (val (U.drop (i + j + 1))) with h0 | h0
  · exact h0
  · have a : 4294967296 ^ (i + 1) * V ≤ 4294967296 ^ (i + 1) * 4294967296 ^ j := Nat.mul_le_mul_left _ (Nat.le_of_lt hV)
    rw [← Nat.pow_add, show i + 1 + j = i + j + 1 by omega] at a
    have b : 4294967296 ^ (i + j + 1) * 1 ≤ 4294967296 ^ (i + j + 1) * val (U.drop (i + j + 1)) := Nat.mul_le_mul_left _ h0
    omega
theorem val_part {U : List UInt32} {i n : Nat} (h : i + n ≤ U.length) (h0 : val (U.drop (i + n)) = 0) : val U = val (U.take i) + 4294967296 ^ i * val ((U.take (i + n)).drop i) := by
  have h1 := val_split U (i + n) h
  rw [h0, Nat.mul_zero, Nat.add_zero] at h1
  have h2 := val_split (U.take (i + n)) i (by simp; omega)
  rw [List.take_take, Nat.min_eq_left (by omega)] at h2
  rw [h1, h2]
theorem val_joined {U F : List UInt32} {i n : Nat} (h : i + n ≤ U.length) (h0 : val (U.drop (i + n)) = 0) : val (U.take i ++ F ++ U.drop (i + n)) = val (U.take i) + 4294967296 ^ i * val F := by
  rw [val_append, val_append, h0, List.length_take, Nat.min_eq_left (by omega)]; simp
theorem NDivMod_spec {w : World} {l m : List UInt32} {v u : Value} (hv : Wds l v w) (hu : Wds m u w) (hl : l.length ≤ 549755813888) (hml : m.length ≤ 549755813888) (hm : 0 < val m) :
    Calls Try.prog 90 #[v, u] w (Ret fun r w' => Ext w w' ∧ ∃ q s, r = .tuple #[q, s, I 0] ∧ Wds (lb (val l / val m)) q w' ∧ Wds (lb (val l % val m)) s w') := by
  refine enter (vs := [v, u]) Try.func90 rfl rfl rfl ?_
  have hll := lb_lt (val_lt l)
  have hmm := lb_lt (val_lt m)
  have hM0 : 0 < (lb (val m)).length := by
    rcases Nat.eq_zero_or_pos (lb (val m)).length with h | h
    · have := lb_len0.1 h
      omega
    · exact h
  refine c_seq (c_region (o_assign rfl rfl (o_assign rfl rfl (o_assign rfl rfl (o_nil (n_then (c_seq (c_region (o_move rfl rfl (o_call call_trim rfl rfl (trim_spec hv) ?_))))))))))
  rintro v18 _ ⟨rfl, b18⟩
  refine o_move rfl rfl (o_call call_trim rfl rfl (trim_spec hu) ?_)
  rintro v20 _ ⟨rfl, b20⟩
  refine o_assign rfl rfl (o_assign rfl rfl (o_nil (n_then (c_seq (c_block (c_seq (c_region (o_move rfl rfl (o_len (r := I ((lb (val m)).length : Int)) rfl rfl (r_lenW Try.underlying33 b20) ?_)))))))))
  refine o_bin rfl rfl rfl (dec_f (by omega) r_eql_i) (o_assign rfl rfl (o_nil (n_then (c_no rfl (c_seq (c_region (o_move rfl rfl (o_move rfl rfl (o_call call_NCmp rfl rfl ((by have := NCmp_spec b18 b20; rw [val_lb, val_lb] at this; exact this)) ?_)))))))))
  rintro v28 w28 ⟨x28, rfl⟩
  refine o_bin rfl rfl rfl (r_lss_i) (o_assign rfl rfl (o_nil (n_then ?_)))
  refine c_if rfl (fun h25 => ?_) (fun h25 => ?_)
  · have hlt := cmpN_neg.1 h25
    refine c_seq (c_region (o_move rfl rfl (o_call call_NMake rfl rfl ((by have := NMake_spec (b18.ext x28) (by omega); rw [val_lb] at this; exact this)) ?_)))
    rintro v31 w31 ⟨x31, b31⟩
    refine o_assign rfl rfl (o_assign rfl rfl (o_assign rfl rfl (o_nil (n_then (c_ret (r_block (r_then (r_body3 rfl rfl rfl rfl ?_))))))))
    exact ⟨_, rfl, (x28.trans x31), _, _, rfl, by rw [Nat.div_eq_of_lt hlt]; exact Wds.nil _, by rw [Nat.mod_eq_of_lt hlt]; exact b31⟩
  · have hge : val m ≤ val l := Nat.le_of_not_lt fun h => h25 (cmpN_neg.2 h)
    have hlen : (lb (val m)).length ≤ (lb (val l)).length := Nat.le_of_not_lt fun h => by have := len_lt h; omega
    refine c_seq (c_region (o_move rfl rfl (o_len (r := I ((lb (val m)).length : Int)) rfl rfl (r_lenW Try.underlying33 (b20.ext x28)) (o_bin rfl rfl rfl (r_eql_i) ?_))))
    refine o_assign rfl rfl (o_nil (n_then ?_))
    refine c_if rfl (fun h32 => ?_) (fun h32 => ?_)
    · refine c_seq (c_region (o_move rfl rfl (o_move rfl rfl ?_)))
      have hM1 : val m = ((lb (val m))[0]'(by omega)).toNat := by
        have e := val_drop (l := lb (val m)) (i := 0) (by omega)
        rw [List.drop_zero, val_lb, List.drop_of_length_le (by omega)] at e
        simpa [val] using e
      obtain ⟨a39, p39, q39⟩ := r_ixW Try.underlying33 (b20.ext x28) (i := 0) (by omega) .i64
      refine o_indexAddr rfl rfl rfl (p39 _) (o_load rfl rfl (r_load1 Try.underlying79 rfl q39) (o_call call_NShort rfl rfl ((NShort_spec (b18.ext x28) (by omega) (by rw [← hM1]; exact hm))) ?_))
      rintro v41 w41 ⟨x41, q, s, rfl, bq, bs⟩
      refine o_move rfl rfl (o_extract rfl rfl r_ext0 (o_extract rfl rfl r_ext1 (o_assign rfl rfl (o_assign rfl rfl (o_nil (n_then (c_seq (c_region (o_move rfl rfl (o_move rfl rfl (o_assign rfl rfl ?_)))))))))))
      refine o_assign rfl rfl (o_assign rfl rfl (o_nil (n_then (c_ret (r_block (r_then (r_body3 rfl rfl rfl rfl ?_)))))))
      rw [val_lb, ← hM1] at bq bs
      exact ⟨_, rfl, (x28.trans x41), _, _, rfl, bq, bs⟩
    · refine c_skip (n_block (n_then (c_seq ?_)))
      obtain ⟨k, hk⟩ : ∃ k, (lb (val m)).length = k + 2 := ⟨(lb (val m)).length - 2, by omega⟩
      obtain ⟨hs32, hVlen⟩ := norm_len hk
      have htop : (lb (val m))[(lb (val m)).length - 1]'(by omega) = (lb (val m))[k + 1]'(by omega) := by congr 1; omega
      refine c_region (o_move rfl rfl (o_move rfl rfl (o_len (r := I ((lb (val m)).length : Int)) rfl rfl (r_lenW Try.underlying33 (b20.ext x28)) (o_bin (r := I (((lb (val m)).length - 1 : Nat) : Int)) rfl rfl rfl (by have e : (((lb (val m)).length - 1 : Nat) : Int) = ((lb (val m)).length : Int) - 1 := (by omega); rw [e]; exact r_sub_i (by omega) (by omega)) ?_))))
      obtain ⟨a50, p50, q50⟩ := r_ixW Try.underlying33 (b20.ext x28) (i := ((lb (val m)).length - 1 : Nat)) (by omega) .i64
      refine o_indexAddr rfl rfl rfl (p50 _) (o_load rfl rfl (r_load1 Try.underlying79 rfl q50) (o_call call_LZ32 rfl rfl (LZ32_spec) ?_))
      rintro v52 _ ⟨rfl, rfl⟩
      rw [htop]
      obtain ⟨s, hs⟩ : ∃ s, s = 32 - bl ((lb (val m))[k + 1]'(by omega)).toNat := ⟨_, rfl⟩
      rw [← hs] at hs32 hVlen ⊢
      refine o_assign rfl rfl (o_nil (n_then (c_seq (c_region (o_move rfl rfl (o_move rfl rfl (o_call call_NLeft rfl rfl (NLeft_spec (b18.ext x28) (by omega) hs32) ?_)))))))
      rintro v55 w55 ⟨x55, U, oU, hUl, hUv⟩
      refine o_move rfl rfl (o_move rfl rfl (o_call call_NLeft rfl rfl (NLeft_spec (b20.ext (x28.trans x55)) (by omega) hs32) ?_))
      rintro v58 w58 ⟨x58, V, oV, hVl, hVv⟩
      refine o_call call_trim rfl rfl (trim_spec2 oV.wds) ?_
      rintro v59 _ ⟨rfl, b59, ob59⟩
      rw [val_lb] at hUv hVv
      rw [hVv] at b59
      obtain ⟨g, sp, hgb, hgo, pU⟩ := oU.pw (by omega)
      have hV0 : 0 < val m * 2 ^ s := Nat.mul_pos hm (Nat.pow_pos (by omega))
      have hgV : g < w55.heap.size := pU.lt
      have off1 : v59.ownBlock = none ∨ v59.ownBlock ≠ some g := by
        rcases ob59 with h | h
        · exact .inl h
        · exact .inr (by rw [h]; exact oV.off hgV)
      refine o_assign rfl rfl (o_assign rfl rfl (o_nil (n_then (c_seq (c_region (o_move rfl rfl (o_len (r := I ((lb (val l)).length : Int)) rfl rfl (r_lenW Try.underlying33 (b18.ext ((x28.trans x55).trans x58))) ?_)))))))
      refine o_move rfl rfl (o_len (r := I ((lb (val m)).length : Int)) rfl rfl (r_lenW Try.underlying33 (b20.ext ((x28.trans x55).trans x58))) (o_bin (r := I (((lb (val l)).length - (lb (val m)).length : Nat) : Int)) rfl rfl rfl (by have e : (((lb (val l)).length - (lb (val m)).length : Nat) : Int) = ((lb (val l)).length : Int) - ((lb (val m)).length : Int) := (by omega); rw [e]; exact r_sub_i (by omega) (by omega)) ?_))
      refine o_bin (r := I (((((lb (val l)).length - (lb (val m)).length : Nat)) + 1 : Nat) : Int)) rfl rfl rfl (by have e : (((((lb (val l)).length - (lb (val m)).length : Nat)) + 1 : Nat) : Int) = (((lb (val l)).length - (lb (val m)).length : Nat) : Int) + 1 := (by omega); rw [e]; exact r_add_i (by omega) (by omega)) ?_
      obtain ⟨v66, w66, hr66, x66, o66, ob66⟩ := r_mkW Try.underlying33 (w := w58) w58.heap.size (n := (lb (val l)).length - (lb (val m)).length + 1) (by omega) (Nat.le_refl _)
      refine o_makeSlice rfl rfl rfl hr66 (o_assign rfl rfl (o_nil (n_then (c_seq (c_seq (c_region (o_move rfl rfl (o_len (r := I (((lb (val l)).length - (lb (val m)).length + 1 : Nat) : Int)) rfl rfl ((by simpa using r_lenW Try.underlying33 o66.wds)) ?_))))))))
      refine o_bin rfl rfl rfl (r_sub_i (by omega) (by omega)) (o_assign rfl rfl (o_nil (n_then (c_block ?_))))
      refine c_loop3 (fun (j : Nat) (X : List UInt32) (O : List UInt32) => [(9, I (s : Int)), (10, v55), (11, v59), (12, v66), (13, I ((j : Int) - 1))]) (fun (j : Nat) (X : List UInt32) (O : List UInt32) w' => Ext w w' ∧ PW g [] X sp v55 w' ∧ OwnW w58.heap.size O v66 w' ∧ Wds (lb (val m * 2 ^ s)) v59 w' ∧ X.length = (lb (val l)).length + 1 ∧ O.length = (lb (val l)).length - (lb (val m)).length + 1 ∧ j ≤ O.length ∧ val l * 2 ^ s = val (O.drop j) * 4294967296 ^ j * (val m * 2 ^ s) + val X ∧ val X < 4294967296 ^ j * (val m * 2 ^ s)) (fun (j : Nat) (X : List UInt32) (O : List UInt32) => j) ((lb (val l)).length - (lb (val m)).length + 1) (U) (List.replicate ((lb (val l)).length - (lb (val m)).length + 1) 0) ⟨rfl, rfl, rfl, rfl, rfl, trivial⟩ ⟨(((x28.trans x55).trans x58).trans x66), (pU.ext x58).ext x66, o66, b59.ext x66, hUl, by simp, by simp, by rw [List.drop_of_length_le (by simp)]; simp [val, hUv], by
          have h1 := val_lt (lb (val l))
          have h2 := lb_ge hm
          rw [val_lb] at h1
          rw [hUv, ← Nat.mul_assoc]
          refine Nat.mul_lt_mul_of_pos_right ?_ (Nat.pow_pos (by omega))
          have h3 : 4294967296 ^ (lb (val l)).length = 4294967296 ^ ((lb (val l)).length - (lb (val m)).length + 1) * 4294967296 ^ ((lb (val m)).length - 1) := by
            rw [← Nat.pow_add, show (lb (val l)).length - (lb (val m)).length + 1 + ((lb (val m)).length - 1) = (lb (val l)).length by omega]
          rw [h3] at h1
          exact Nat.lt_of_lt_of_le h1 (Nat.mul_le_mul_left _ h2)⟩ ?_
      rintro j X O w13 ⟨e13, pX, oO, f13, hXl, hOl, hj, hA, hX⟩
      refine c_seq (c_seq (c_region (o_move rfl rfl (o_bin rfl rfl rfl (r_geq_i) (o_nil (n_then ?_))))))
      refine c_if rfl (fun h71 => ?_) (fun h71 => ?_)
      · obtain ⟨i, rfl⟩ : ∃ i, j = i + 1 := ⟨j - 1, by omega⟩
        have e : ((i + 1 : Nat) : Int) - 1 = (i : Int) := by omega
        rw [e]
        have hz := val_drop0 hX (by have := val_lt (lb (val m * 2 ^ s)); rwa [val_lb, hVlen] at this) (j := k + 2) (by omega)
        have hXp := val_part (U := X) (i := i) (n := k + 3) (by omega) hz
        refine c_skip (n_then (c_seq (c_block (c_seq (c_region (o_move rfl rfl (o_move rfl rfl (o_move rfl rfl (o_move rfl rfl (o_len (r := I ((k + 2 : Nat) : Int)) rfl rfl ((by rw [← hVlen]; exact r_lenW Try.underlying33 f13)) ?_))))))))))
        refine o_bin (r := I ((i + (k + 2 : Nat) : Nat) : Int)) rfl rfl rfl (by have e : ((i + (k + 2 : Nat) : Nat) : Int) = (i : Int) + ((k + 2 : Nat) : Int) := (by omega); rw [e]; exact r_add_i (by omega) (by omega)) ?_
        refine o_bin (r := I ((((i + (k + 2 : Nat) : Nat)) + 1 : Nat) : Int)) rfl rfl rfl (by have e : ((((i + (k + 2 : Nat) : Nat)) + 1 : Nat) : Int) = ((i + (k + 2 : Nat) : Nat) : Int) + 1 := (by omega); rw [e]; exact r_add_i (by omega) (by omega)) ?_
        obtain ⟨v81, p81, pP⟩ := r_slPW Try.underlying33 pX (lo := i) (hi := i + (k + 2) + 1) (by omega) (by omega) .i64 .i64
        refine o_slice rfl rfl rfl rfl rfl (p81 _) ?_
        have hPl : ((X.take (i + (k + 2) + 1)).drop i).length = k + 3 := by simp; omega
        refine o_assign rfl rfl (o_nil (n_then (c_region (o_move rfl rfl (o_move rfl rfl (o_move rfl rfl (o_move rfl rfl (o_move rfl rfl (o_move rfl rfl (o_call call_NEst rfl rfl (NEst_spec pP.wds f13 hVlen hPl (by omega) (lb_last (by omega)) (by
  rw [val_lb]
  have h1 : 4294967296 ^ i * val ((X.take (i + (k + 3))).drop i) ≤ val X := by rw [hXp]; omega
  rw [Nat.pow_succ, Nat.mul_assoc] at hX
  exact Nat.lt_of_mul_lt_mul_left (Nat.lt_of_le_of_lt h1 hX))) ?_))))))))))
        rintro v88 w88 ⟨x88, q, rfl, hqB, hq1, hq2⟩
        refine o_call call_NRed rfl rfl (NRed_spec (pP.ext x88) (f13.ext x88) off1 (by rw [hPl, hVlen]) (by omega) hqB hq1 hq2) ?_
        rintro v89 w89 ⟨x, F, rfl, q89, pF, hFl, hFv, hFr⟩
        have x89 := (e13.trans x88).of_new q89 (by have := x28.size; omega)
        have o89 := (oO.ext x88).kept q89 (.inr (oO.off (by have := x58.size; omega)))
        have p89 := pX.join (by omega) (by omega) (by rw [hFl, hPl]; omega) pF
        have f89 := (f13.ext x88).away off1 q89
        obtain ⟨g90, w90, p90, s90, o90, q90, hb90, c90, ob90⟩ := o89.setW Try.underlying33 (i := i) (by omega) x
        refine o_indexAddr rfl rfl rfl (p90 _) (o_store rfl rfl (s90) ?_)
        have x90 := x89.of_new q90 (by have := x28.size; have := x55.size; have := x58.size; omega)
        have p90' := p89.kept q90 (fun h => by have := Option.some.inj h; have := x58.size; omega)
        have f90 := f89.away (by
          rcases ob59 with h | h
          · exact .inl h
          · refine .inr fun he => ?_
            rw [h] at he
            have := oV.lt g90 he
            omega) q90
        have hj' := val_joined (U := X) (F := F) (i := i) (n := k + 3) (by omega) hz
        rw [val_lb] at hFv hFr
        have dr := div_round (A := val l * 2 ^ s) (P := 4294967296 ^ i) (Q := val (O.drop (i + 1))) (V := val m * 2 ^ s) hXp (by have := val_lt (X.take i); rwa [List.length_take, Nat.min_eq_left (by omega)] at this) (by rw [← Nat.pow_succ]; exact hA) hFv hFr
        rw [← hj', ← val_set_drop (by omega)] at dr
        refine o_nil (n_block (n_then (c_region (o_move rfl rfl (o_bin rfl rfl rfl (r_sub_i (by omega) (by omega)) (o_assign rfl rfl (o_nil ?_)))))))
        refine n_round3 (i) (_) (_) ⟨rfl, rfl, rfl, rfl, rfl, trivial⟩ ⟨x90, p90', o90, f90, by simp [hFl, hPl, hXl]; omega, by simpa using hOl, by simp; omega, dr.1, dr.2⟩ (by omega)
      · refine c_exit (x_then (x_then (x_here (n_then (c_seq ?_)))))
        obtain rfl : j = 0 := by omega
        rw [Nat.pow_zero, Nat.mul_one, List.drop_zero] at hA
        rw [Nat.pow_zero, Nat.one_mul] at hX
        have hs0 : 0 < 2 ^ s := Nat.pow_pos (by omega)
        have hQ : val l / val m = val O := by
          rw [← Nat.mul_div_mul_right _ _ hs0, hA, Nat.mul_comm (val O), Nat.mul_add_div hV0, Nat.div_eq_of_lt hX, Nat.add_zero]
        have hR : val X / 2 ^ s = val l % val m := by
          have e1 : val X = val l * 2 ^ s % (val m * 2 ^ s) := by rw [hA, Nat.mul_comm (val O), Nat.mul_add_mod, Nat.mod_eq_of_lt hX]
          rw [e1, Nat.mul_mod_mul_right, Nat.mul_div_cancel _ hs0]
        refine c_region (o_move rfl rfl (o_move rfl rfl (o_call call_NShr rfl rfl (NShr_spec pX.wds (by omega) (by omega)) ?_)))
        rintro v94 w94 ⟨x94, r94, rfl, b94⟩
        refine o_move rfl rfl (o_extract rfl rfl r_ext0 (o_extract rfl rfl r_ext1 (o_assign rfl rfl (o_assign rfl rfl (o_nil (n_then (c_seq (c_region (o_move rfl rfl (o_call call_trim rfl rfl (trim_spec ((oO.ext x94).wds)) ?_))))))))))
        rintro v98 _ ⟨rfl, b98⟩
        refine o_move rfl rfl (o_assign rfl rfl (o_assign rfl rfl (o_assign rfl rfl (o_nil (n_then (c_ret (r_body3 rfl rfl rfl rfl ?_)))))))
        exact ⟨_, rfl, (e13.trans x94), _, _, rfl, by rw [hQ]; exact b98, by rw [← hR]; exact b94⟩
end Go.Rl
/- Walks of relucertref01.DivMod and Gcd, and of natural.Gcd. Conditions: the divisor is not 0; the numbers are shorter than 2^38 limbs. -/
namespace Go.Rl
open Go.RowKit Go.Proofs
theorem call_RDivMod : Callable Try.prog 75 := ⟨_, Try.func75, by kernel_rfl, rfl⟩
theorem call_RGcd : Callable Try.prog 74 := ⟨_, Try.func74, by kernel_rfl, rfl⟩
theorem call_NGcd : Callable Try.prog 89 := ⟨_, Try.func89, by kernel_rfl, rfl⟩
theorem lb_len_lt {n m : Nat} (h : n ≤ m) : (lb n).length ≤ (lb m).length := by
  rcases Nat.lt_or_ge (lb m).length (lb n).length with h1 | h1
  · have := len_lt h1; omega
  · exact h1
theorem shl_zero {v t i : Nat} (h : v = 2 ^ (i + 1) * t) : v = 2 ^ i * (2 * t) := by rw [h, Nat.pow_succ, Nat.mul_assoc]
theorem RDivMod_spec {w : World} {l m : List UInt32} {v u : Value} (hv : Wds l v w) (hu : Wds m u w) (hl : l.length ≤ 274877906944) (hml : m.length ≤ 274877906944) (hm : 0 < val m) :
    Calls Try.prog 75 #[v, u] w (Ret fun r w' => Ext w w' ∧ ∃ q s, r = .tuple #[q, s, I 0] ∧ Wds (lb (val l / val m)) q w' ∧ Wds (lb (val l % val m)) s w') := by
  refine enter (vs := [v, u]) Try.func75 rfl rfl rfl ?_
  refine c_seq (c_region (o_assign rfl rfl (o_assign rfl rfl (o_assign rfl rfl (o_nil (n_then (c_seq (c_region (o_move rfl rfl (o_call call_RUint rfl rfl (RUint_spec hv (by omega)) ?_))))))))))
  rintro v16 w16 ⟨x16, hcx⟩
  obtain ⟨x, bx, rfl, hbx⟩ : ∃ (x : UInt64) (bx : Bool), v16 = .tuple #[U64 x, B bx] ∧ (bx = true → x.toNat = val l) := by
    rcases hcx with ⟨_, rfl⟩ | ⟨x, hx, rfl⟩
    · exact ⟨0, false, rfl, fun h => by cases h⟩
    · exact ⟨x, true, rfl, fun _ => hx⟩
  refine o_move rfl rfl (o_extract rfl rfl r_ext0 (o_extract rfl rfl (r_ext1) (o_assign rfl rfl (o_assign rfl rfl (o_nil (n_then (c_seq (c_region (o_move rfl rfl (o_call call_RUint rfl rfl (RUint_spec (hu.ext x16) (by omega)) ?_))))))))))
  rintro v21 w21 ⟨x21, hcy⟩
  obtain ⟨y, bY, rfl, hby⟩ : ∃ (y : UInt64) (bY : Bool), v21 = .tuple #[U64 y, B bY] ∧ (bY = true → y.toNat = val m) := by
    rcases hcy with ⟨_, rfl⟩ | ⟨y, hy, rfl⟩
    · exact ⟨0, false, rfl, fun h => by cases h⟩
    · exact ⟨y, true, rfl, fun _ => hy⟩
  refine o_move rfl rfl (o_extract rfl rfl r_ext0 (o_extract rfl rfl (r_ext1) ?_))
  have hy0 : bY = true → ¬ y = 0 := fun h h0 => by
    have := hby h
    rw [h0] at this
    have e : (0 : UInt64).toNat = 0 := rfl
    omega
  refine o_assign rfl rfl (o_assign rfl rfl (o_nil (n_then (c_seq ?_))))
  refine c_cut (fun _ : Unit => [(0, v), (1, u), (7, U64 x), (8, B bx), (9, U64 y), (10, B bY)]) (fun _ w' => w21 = w') ?_ ?_
  · refine c_seq ?_
    cases bY
    · refine c_region (o_move rfl rfl (o_move rfl rfl (g_no rfl rfl rfl (g_no rfl rfl rfl (o_pick_f rfl rfl rfl (o_nil (n_then (c_no rfl (c_skip ?_)))))))))
      exact n_meet () ⟨rfl, rfl, rfl, rfl, rfl, rfl, trivial⟩ rfl
    · refine c_region (o_move rfl rfl (o_move rfl rfl (g_yes rfl (o_move rfl rfl (g_yes rfl (o_bin (v := U64 0) rfl rfl rfl (dec_f (hy0 rfl) r_eql_u64) (o_pick_t rfl rfl rfl (o_nil ?_))))))))
      refine n_then (c_no rfl (c_skip ?_))
      exact n_meet () ⟨rfl, rfl, rfl, rfl, rfl, rfl, trivial⟩ rfl
  rintro ⟨⟩ _ rfl
  refine n_then (c_seq ?_)
  refine c_cut (fun _ : Unit => [(0, v), (1, u)]) (fun _ w' => w21 = w') ?_ ?_
  · refine c_seq ?_
    rcases bx with _ | _ <;> rcases bY with _ | _
    · refine c_region (o_move rfl rfl (o_move rfl rfl (g_no rfl rfl rfl (o_pick_f rfl rfl rfl (o_nil (n_then (c_no rfl (c_skip ?_))))))))
      exact n_meet () ⟨rfl, rfl, trivial⟩ rfl
    · refine c_region (o_move rfl rfl (o_move rfl rfl (g_no rfl rfl rfl (o_pick_f rfl rfl rfl (o_nil (n_then (c_no rfl (c_skip ?_))))))))
      exact n_meet () ⟨rfl, rfl, trivial⟩ rfl
    · refine c_region (o_move rfl rfl (o_move rfl rfl (g_yes rfl (o_move rfl rfl (o_pick_t rfl rfl rfl (o_nil (n_then (c_no rfl (c_skip ?_)))))))))
      exact n_meet () ⟨rfl, rfl, trivial⟩ rfl
    · have hx := hbx rfl
      have hy := hby rfl
      have hyn := hy0 rfl
      refine c_region (o_move rfl rfl (o_move rfl rfl (g_yes rfl (o_move rfl rfl (o_pick_t rfl rfl rfl (o_nil (n_then (c_yes rfl (c_seq (c_grow 10 [4, 5] (by kernel_rfl) (by kernel_rfl) ?_))))))))))
      refine f_move rfl rfl (f_move rfl rfl (f_bin rfl rfl rfl (fun w _ => r_quo_u64 hyn) (f_call (S := Wds (lb (val l / val m))) call_ROf (Wds.stable _) rfl (fun w hw => by rintro _ rfl; exact Ret.mono ROf_spec fun v w' h => ⟨h.1, by have := h.2; rwa [UInt64.toNat_div, hx, hy] at this⟩) ?_)))
      refine f_move rfl rfl (f_move rfl rfl (f_bin rfl rfl rfl (fun w _ => r_rem_u64 hyn) (f_call (S := Wds (lb (val l % val m))) call_ROf (Wds.stable _) rfl (fun w hw => by rintro _ rfl; exact Ret.mono ROf_spec fun v w' h => ⟨h.1, by have := h.2; rwa [UInt64.toNat_mod, hx, hy] at this⟩) ?_)))
      refine f_assign rfl rfl (f_assign rfl rfl (f_nil ?_))
      intro wg6 xg6
      intro vg4 b4
      intro vg5 b5
      refine o_assign rfl rfl (o_nil (n_then (c_ret (r_then (r_body3 rfl rfl rfl rfl ?_)))))
      exact ⟨_, rfl, ((x16.trans x21).trans xg6), _, _, rfl, b4, b5⟩
  rintro ⟨⟩ _ rfl
  refine n_then (c_seq (c_region (o_move rfl rfl (o_len rfl rfl (r_lenW Try.underlying33 (hv.ext (x16.trans x21))) ?_))))
  obtain ⟨v43, w43, hr43, x43, o43, ob43⟩ := r_mkW Try.underlying32 (w := w21) w21.heap.size (n := l.length) (by omega) (Nat.le_refl _)
  refine o_makeSlice rfl rfl rfl hr43 ?_
  obtain ⟨v44, w44, hr44, x44, o44, ob44⟩ := r_bsW Try.underlying33 (w := w43) w43.heap.size [] (by simp) (Nat.le_refl _)
  refine o_buildSlice (vs := []) rfl rfl hr44 (o_assign rfl rfl (o_assign rfl rfl (o_nil (n_then (c_seq (c_seq (c_region (o_move rfl rfl (o_call call_RBits rfl rfl (RBits_spec (hv.ext (((x16.trans x21).trans x43).trans x44)) (by omega)) ?_)))))))))
  rintro v46 w46 ⟨x46, rfl⟩
  have hbl : bl (val l) ≤ 32 * l.length := bl_le (by have := val_lt l; rwa [show (4294967296 : Nat) ^ l.length = 2 ^ (32 * l.length) by rw [Nat.pow_mul]] at this)
  have hb0 : val l / 2 ^ bl (val l) = 0 := by
    rcases Nat.eq_zero_or_pos (val l) with h | h
    · rw [h]; simp
    · exact Nat.div_eq_of_lt (bl_spec h).2
  refine o_bin rfl rfl rfl (r_sub_i (by omega) (by omega)) (o_assign rfl rfl (o_nil (n_then (c_block ?_))))
  refine c_loop3 (fun (j : Nat) (O : List UInt32) (vr : Value) => [(0, v), (1, u), (11, v43), (12, vr), (13, I ((j : Int) - 1))]) (fun (j : Nat) (O : List UInt32) (vr : Value) w' => Ext w w' ∧ OwnW w21.heap.size O v43 w' ∧ O.length = l.length ∧ Wds (lb (val l / 2 ^ j % val m)) vr w' ∧ j ≤ bl (val l) ∧ val O = 2 ^ j * (val l / 2 ^ j / val m)) (fun (j : Nat) (O : List UInt32) (vr : Value) => j) (bl (val l)) (List.replicate l.length 0) (v44) ⟨rfl, rfl, rfl, rfl, rfl, trivial⟩ ⟨((((x16.trans x21).trans x43).trans x44).trans x46), (o43.ext x44).ext x46, by simp, by rw [hb0, Nat.zero_mod]; exact (o44.ext x46).wds, Nat.le_refl _, by rw [hb0]; simp [val_zeros]⟩ ?_
  rintro j O vr w9 ⟨e9, oq, hO, br, hj, hq⟩
  refine c_seq (c_seq (c_region (o_move rfl rfl (o_bin rfl rfl rfl (r_geq_i) (o_nil (n_then ?_))))))
  refine c_if rfl (fun h49 => ?_) (fun h49 => ?_)
  · obtain ⟨i, rfl⟩ : ∃ i, j = i + 1 := ⟨j - 1, by omega⟩
    have e : ((i + 1 : Nat) : Int) - 1 = (i : Int) := by omega
    rw [e]
    have hib : i / 32 < l.length := by omega
    have hrl : (lb (val l / 2 ^ (i + 1) % val m)).length ≤ m.length := Nat.le_trans (lb_len_lt (Nat.le_of_lt (Nat.mod_lt _ hm))) (lb_lt (val_lt m))
    obtain ⟨rd1, rd2, rd3⟩ := rdiv_round (N := val l) (i := i) hm
    refine c_skip (n_then (c_seq (c_block (c_seq (c_region (o_move rfl rfl ?_))))))
    have hVl := val_lt m
    have hxl := Nat.mod_lt (val l / 2 ^ (i + 1)) hm
    have h2l : ∀ b, b ≤ 1 → (lb (2 * (val l / 2 ^ (i + 1) % val m) + b)).length ≤ m.length + 1 := fun b hb => lb_lt (by have e : (4294967296 : Nat) ^ (m.length + 1) = 4294967296 ^ m.length * 4294967296 := Nat.pow_succ ..; rw [e]; have := bpow m.length; omega)
    refine o_call call_RShl rfl rfl (RShl_spec (k := 1) br (by omega) (by omega)) ?_
    rintro v53 w53 ⟨x53, b53⟩
    refine o_assign rfl rfl (o_nil (n_then (c_seq (c_region (o_move rfl rfl (o_move rfl rfl (o_move rfl rfl (o_bin (r := I ((i / 32 : Nat) : Int)) rfl rfl rfl (by have e : ((i / 32 : Nat) : Int) = (i : Int) / 32 := (by omega); rw [e]; exact r_quo_i (by omega) (by omega) (by omega)) ?_))))))))
    obtain ⟨a58, p58, q58⟩ := r_ixW Try.underlying33 (hv.ext (e9.trans x53)) (i := (i / 32 : Nat)) (by omega) .i64
    refine o_indexAddr rfl rfl rfl (p58 _) (o_load rfl rfl (r_load1 Try.underlying79 rfl q58) (o_move rfl rfl (o_bin (r := I ((i % 32 : Nat) : Int)) rfl rfl rfl (by have e : ((i % 32 : Nat) : Int) = (i : Int) % 32 := (by omega); rw [e]; exact r_rem_i (by omega) (by omega)) ?_)))
    refine o_bin rfl rfl rfl (r_shr_u32 ((i % 32 : Nat)) (by omega)) (o_bin (v := U32 1) rfl rfl rfl (r_and_u32) ?_)
    obtain ⟨v64, w64, hr64, x64, o64, ob64⟩ := r_bsW Try.underlying33 (w := w53) w53.heap.size [((((((l[(i / 32 : Nat)])) >>> UInt32.ofNat ((i % 32 : Nat)))) &&& (1)))] (by simp) (Nat.le_refl _)
    refine o_buildSlice (vs := [(0, U32 (((((((l[(i / 32 : Nat)])) >>> UInt32.ofNat ((i % 32 : Nat)))) &&& (1)))))]) rfl rfl hr64 (o_call call_RAdd rfl rfl (RAdd_spec (b53.ext x64) o64.wds (by rw [val_lb, Nat.pow_one, Nat.mul_comm]; have := h2l 0 (by omega); rw [Nat.add_zero] at this; omega) (by simp)) ?_)
    rintro v65 w65 ⟨x65, b65⟩
    rw [val_lb, val_lb, val_one, bit_of hib, Nat.pow_one, Nat.mul_comm] at b65
    have x6 := (x53.trans x64).trans x65
    refine o_assign rfl rfl (o_nil (n_then (c_seq (c_region (o_move rfl rfl (o_move rfl rfl (o_call call_RCmp rfl rfl (RCmp_spec b65 (hu.ext (((e9.trans x53).trans x64).trans x65))) ?_)))))))
    rintro v68 _ ⟨rfl, rfl⟩
    refine o_bin rfl rfl rfl (r_geq_i) (o_nil (n_then ?_))
    refine c_if rfl (fun h69 => ?_) (fun h69 => ?_)
    · have hle : val m ≤ val (lb (2 * (val l / 2 ^ (i + 1) % val m) + val l / 2 ^ i % 2)) := Nat.le_of_not_lt fun h => by have := cmpN_neg.2 h; omega
      refine c_seq (c_region (o_move rfl rfl (o_move rfl rfl (o_call call_RSub rfl rfl (RSub_spec b65 (hu.ext (((e9.trans x53).trans x64).trans x65)) (by have := h2l (val l / 2 ^ i % 2) (by omega); omega) hle) ?_))))
      rintro v73 w73 ⟨x73, d73, rfl, b73⟩
      rw [val_lb] at b73 hle
      obtain ⟨rm, rq⟩ := rd2 hle
      rw [← rm] at b73
      have oq73 := (oq.ext x6).ext x73
      obtain ⟨g85, _, p85, _, _, _, _, _, ob85⟩ := oq73.setW Try.underlying32 (i := i / 32) (by omega) (O[i / 32]'(by omega) ||| (1 : UInt32) <<< UInt32.ofNat (i % 32))
      refine o_move rfl rfl (o_extract rfl rfl (r_ext0) (o_extract rfl rfl r_ext1 (o_assign rfl rfl (o_nil (n_then (c_grow 10 [0, 1, 11, 12, 13, 84, 85] (by kernel_rfl) (by kernel_rfl) ?_))))))
      refine f_move rfl rfl (f_move rfl rfl (f_bin (r := I ((i / 32 : Nat) : Int)) rfl rfl rfl (fun w _ => by have e : ((i / 32 : Nat) : Int) = (i : Int) / 32 := (by omega); rw [e]; exact r_quo_i (by omega) (by omega) (by omega)) ?_))
      obtain ⟨a79, p79, q79⟩ := r_ixW Try.underlying32 oq73.wds (i := (i / 32 : Nat)) (by omega) .i64
      refine f_indexAddr rfl rfl rfl (fun w _ => p79 w) (f_load rfl rfl (fun w hw => r_load1 Try.underlying79 rfl (hw.cell_some q79)) (f_move rfl rfl (f_bin (r := I ((i % 32 : Nat) : Int)) rfl rfl rfl (fun w _ => by have e : ((i % 32 : Nat) : Int) = (i : Int) % 32 := (by omega); rw [e]; exact r_rem_i (by omega) (by omega)) ?_)))
      refine f_bin (u := U32 1) rfl rfl rfl (fun w _ => r_shl_u32 ((i % 32 : Nat)) (by omega)) (f_bin rfl rfl rfl (fun w _ => r_or_u32) (f_indexAddr rfl rfl rfl (fun w hw => p85 w) ?_))
      refine f_nil ?_
      intro wg15 xg15
      rintro _ hq0
      obtain rfl := Eq.symm hq0
      rintro _ hq1
      obtain rfl := Eq.symm hq1
      rintro _ hq11
      obtain rfl := Eq.symm hq11
      rintro _ hq12
      obtain rfl := Eq.symm hq12
      rintro _ rfl
      rintro _ rfl
      rintro _ rfl
      obtain ⟨g', w', p', s', o', q', hb', c', ob'⟩ := (oq73.ext xg15).setW Try.underlying32 (i := i / 32) (by omega) (O[i / 32]'(by omega) ||| (1 : UInt32) <<< UInt32.ofNat (i % 32))
      obtain rfl : g85 = g' := Option.some.inj (ob85.symm.trans ob')
      refine o_store rfl rfl (s') ?_
      have x15 := (((e9.trans x6).trans x73).trans xg15).of_new q' (by have := x16.size; have := x21.size; omega)
      have sb := setbit (a := O) (i := i) (by omega) hq
      have br' := ((b73.ext xg15).kept q' (.inr (b73.off (by have := oq.lt _ ob85; have := x6.size; omega)))).wds
      refine o_nil (n_block (n_then (c_region (o_move rfl rfl (o_bin rfl rfl rfl (r_sub_i (by omega) (by omega)) (o_assign rfl rfl (o_nil ?_)))))))
      refine n_round3 (i) (_) (d73) ⟨rfl, rfl, rfl, rfl, rfl, trivial⟩ ⟨x15, o', by simpa using hO, br', by omega, by rw [sb, hq, rq, Nat.pow_succ, Nat.mul_assoc, Nat.mul_add, Nat.mul_one]⟩ (by omega)
    · have hlt : 2 * (val l / 2 ^ (i + 1) % val m) + val l / 2 ^ i % 2 < val m := by
        rcases Nat.lt_or_ge (2 * (val l / 2 ^ (i + 1) % val m) + val l / 2 ^ i % 2) (val m) with h | h
        · exact h
        · refine absurd ?_ h69
          rw [val_lb]
          have : ¬ cmpN (2 * (val l / 2 ^ (i + 1) % val m) + val l / 2 ^ i % 2) (val m) < 0 := fun h' => by have := cmpN_neg.1 h'; omega
          omega
      obtain ⟨rm, rq⟩ := rd3 hlt
      rw [← rm] at b65
      refine c_skip (n_block (n_then (c_region (o_move rfl rfl (o_bin rfl rfl rfl (r_sub_i (by omega) (by omega)) (o_assign rfl rfl (o_nil ?_)))))))
      refine n_round3 (i) (O) (v65) ⟨rfl, rfl, rfl, rfl, rfl, trivial⟩ ⟨(((e9.trans x53).trans x64).trans x65), oq.ext x6, hO, b65, by omega, by rw [hq, rq, Nat.pow_succ, Nat.mul_assoc]⟩ (by omega)
  · refine c_exit (x_then (x_then (x_here (n_then (c_seq ?_)))))
    obtain rfl : j = 0 := by omega
    rw [Nat.pow_zero, Nat.div_one, Nat.one_mul] at hq
    rw [Nat.pow_zero, Nat.div_one] at br
    refine c_region (o_move rfl rfl (o_call call_RMake rfl rfl (RMake_spec oq.wds (by omega)) ?_))
    rintro v87 w87 ⟨x87, b87⟩
    refine o_move rfl rfl (o_assign rfl rfl (o_assign rfl rfl (o_assign rfl rfl (o_nil (n_then (c_ret (r_body3 rfl rfl rfl rfl ?_)))))))
    exact ⟨_, rfl, (e9.trans x87), _, _, rfl, by rw [← hq]; exact b87, br.ext x87⟩
theorem RGcd_spec {w : World} {l m : List UInt32} {v u : Value} (hv : Wds l v w) (hu : Wds m u w) (hl : l.length ≤ 274877906944) (hml : m.length ≤ 274877906944) :
    Calls Try.prog 74 #[v, u] w (Ret fun r w' => Ext w w' ∧ Wds (lb (Nat.gcd (val l) (val m))) r w') := by
  refine enter (vs := [v, u]) Try.func74 rfl rfl rfl ?_
  have hll := lb_lt (val_lt l)
  have hmm := lb_lt (val_lt m)
  refine c_seq (c_region (o_assign rfl rfl (o_nil (n_then (c_seq (c_region (o_move rfl rfl (o_call call_RMake rfl rfl (RMake_spec hv (by omega)) ?_))))))))
  rintro v9 w9 ⟨x9, b9⟩
  refine o_move rfl rfl (o_call call_RMake rfl rfl (RMake_spec (hu.ext x9) (by omega)) ?_)
  rintro v11 w11 ⟨x11, b11⟩
  refine o_assign rfl rfl (o_assign rfl rfl (o_nil (n_then (c_seq (c_block ?_)))))
  refine c_loop4 (fun (a : Nat) (b : Nat) (va : Value) (vb : Value) => [(0, va), (1, vb)]) (fun (a : Nat) (b : Nat) (va : Value) (vb : Value) w' => Ext w w' ∧ Wds (lb a) va w' ∧ Wds (lb b) vb w' ∧ Nat.gcd a b = Nat.gcd (val l) (val m) ∧ (lb a).length ≤ 274877906944 ∧ (lb b).length ≤ 274877906944) (fun (a : Nat) (b : Nat) (va : Value) (vb : Value) => b) (val l) (val m) (v9) (v11) ⟨rfl, rfl, trivial⟩ ⟨(x9.trans x11), b9.ext x11, b11, rfl, by omega, by omega⟩ ?_
  rintro a b va vb w2 ⟨e2, ha, hb, hg, hla, hlb⟩
  refine c_seq (c_seq (c_region (o_move rfl rfl (o_len (r := I ((lb b).length : Int)) rfl rfl (r_lenW Try.underlying33 hb) (o_bin rfl rfl rfl (r_gtr_i) ?_)))))
  refine o_nil (n_then ?_)
  refine c_if rfl (fun h14 => ?_) (fun h14 => ?_)
  · have hb0 : 0 < b := by
      rcases Nat.eq_zero_or_pos b with h | h
      · subst h; simp [lb_zero] at h14
      · exact h
    refine c_skip (n_then (c_block (c_seq (c_region (o_move rfl rfl (o_move rfl rfl (o_call call_RDivMod rfl rfl (RDivMod_spec ha hb (by omega) (by omega) (by rw [val_lb]; exact hb0)) ?_)))))))
    rintro v18 w18 ⟨x18, q, r, rfl, bq, br⟩
    rw [val_lb, val_lb] at br
    refine o_move rfl rfl (o_extract rfl rfl r_ext3_0 (o_extract rfl rfl (r_ext3_1) (o_extract rfl rfl r_ext3_2 (o_assign rfl rfl (o_assign rfl rfl (o_assign rfl rfl (o_nil (n_then ?_))))))))
    refine c_region (o_move rfl rfl (o_move rfl rfl (o_assign rfl rfl (o_assign rfl rfl (o_nil (n_block ?_))))))
    refine n_round4 (b) (a % b) (vb) (r) ⟨rfl, rfl, trivial⟩ ⟨(e2.trans x18), hb.ext x18, br, by rw [← hg, Nat.gcd_comm b, ← Nat.gcd_rec, Nat.gcd_comm], hlb, Nat.le_trans (lb_len_lt (Nat.le_of_lt (Nat.mod_lt a hb0))) hlb⟩ (Nat.mod_lt a hb0)
  · refine c_exit (x_then (x_then (x_here (n_then (c_seq (c_region (o_move rfl rfl (o_assign rfl rfl (o_nil (n_then (c_ret (r_body1 rfl rfl ?_))))))))))))
    exact ⟨_, rfl, e2, by
      have hb0 : b = 0 := by
        refine lb_len0.1 ?_
        omega
      rw [← hg, hb0, Nat.gcd_zero_right]; exact ha⟩
theorem NGcd_spec {w : World} {l m : List UInt32} {v u : Value} (hv : Wds l v w) (hu : Wds m u w) (hl : l.length ≤ 274877906944) (hml : m.length ≤ 274877906944) :
    Calls Try.prog 89 #[v, u] w (Ret fun r w' => Ext w w' ∧ Wds (lb (Nat.gcd (val l) (val m))) r w') := by
  refine enter (vs := [v, u]) Try.func89 rfl rfl rfl ?_
  have hll := lb_lt (val_lt l)
  have hmm := lb_lt (val_lt m)
  refine c_seq (c_region (o_assign rfl rfl (o_nil (n_then (c_seq (c_region (o_move rfl rfl (o_call call_trim rfl rfl (trim_spec hv) ?_))))))))
  rintro v16 _ ⟨rfl, b16⟩
  refine o_move rfl rfl (o_call call_trim rfl rfl (trim_spec hu) ?_)
  rintro v18 _ ⟨rfl, b18⟩
  refine o_assign rfl rfl (o_assign rfl rfl (o_nil (n_then (c_seq (c_block ?_)))))
  refine c_loop4 (fun (a : Nat) (b : Nat) (va : Value) (vb : Value) => [(0, va), (1, vb)]) (fun (a : Nat) (b : Nat) (va : Value) (vb : Value) w' => Ext w w' ∧ Wds (lb a) va w' ∧ Wds (lb b) vb w' ∧ Nat.gcd a b = Nat.gcd (val l) (val m) ∧ (lb a).length ≤ 274877906944 ∧ (lb b).length ≤ 274877906944) (fun (a : Nat) (b : Nat) (va : Value) (vb : Value) => b) (val l) (val m) (v16) (v18) ⟨rfl, rfl, trivial⟩ ⟨Ext.refl _, b16, b18, rfl, by omega, by omega⟩ ?_
  rintro a b va vb w2 ⟨e2, ha, hb, hg, hla, hlb⟩
  refine c_seq (c_seq (c_region (o_move rfl rfl (o_len (r := I ((lb b).length : Int)) rfl rfl (r_lenW Try.underlying33 hb) (o_bin rfl rfl rfl (r_gtr_i) ?_)))))
  refine o_nil (n_then ?_)
  refine c_if rfl (fun h21 => ?_) (fun h21 => ?_)
  · have hb0 : 0 < b := by
      rcases Nat.eq_zero_or_pos b with h | h
      · subst h; simp [lb_zero] at h21
      · exact h
    refine c_skip (n_then (c_block (c_seq (c_region (o_move rfl rfl (o_move rfl rfl (o_call call_NDivMod rfl rfl (NDivMod_spec ha hb (by omega) (by omega) (by rw [val_lb]; exact hb0)) ?_)))))))
    rintro v25 w25 ⟨x25, q, r, rfl, bq, br⟩
    rw [val_lb, val_lb] at br
    refine o_move rfl rfl (o_extract rfl rfl r_ext3_0 (o_extract rfl rfl (r_ext3_1) (o_extract rfl rfl r_ext3_2 (o_assign rfl rfl (o_assign rfl rfl (o_assign rfl rfl (o_nil (n_then ?_))))))))
    refine c_region (o_move rfl rfl (o_move rfl rfl (o_assign rfl rfl (o_assign rfl rfl (o_nil (n_block ?_))))))
    refine n_round4 (b) (a % b) (vb) (r) ⟨rfl, rfl, trivial⟩ ⟨(e2.trans x25), hb.ext x25, br, by rw [← hg, Nat.gcd_comm b, ← Nat.gcd_rec, Nat.gcd_comm], hlb, Nat.le_trans (lb_len_lt (Nat.le_of_lt (Nat.mod_lt a hb0))) hlb⟩ (Nat.mod_lt a hb0)
  · refine c_exit (x_then (x_then (x_here (n_then (c_seq (c_seq (c_region (o_move rfl rfl (o_len (r := I ((lb b).length : Int)) rfl rfl (r_lenW Try.underlying33 hb) ?_)))))))))
    refine o_bin rfl rfl rfl (r_eql_i) (o_nil (n_then ?_))
    refine c_if rfl (fun h33 => ?_) (fun h33 => ?_)
    · have hb0 : b = 0 := by
        refine lb_len0.1 ?_
        omega
      refine c_seq (c_region (o_move rfl rfl (o_call call_NMake rfl rfl (NMake_spec ha (by omega)) ?_)))
      rintro v35 w35 ⟨x35, b35⟩
      refine o_assign rfl rfl (o_nil (n_then (c_ret (r_then (r_body1 rfl rfl ?_)))))
      exact ⟨_, rfl, (e2.trans x35), by
        rw [val_lb] at b35
        rw [← hg, hb0, Nat.gcd_zero_right]; exact b35⟩
    · have hb0 : 0 < b := by
        rcases Nat.eq_zero_or_pos b with h | h
        · subst h; simp [lb_zero] at h33
        · exact h
      have hb64 : b < 18446744073709551616 := by
        have := val_lt (lb b)
        rw [val_lb] at this
        have h2 : (4294967296 : Nat) ^ (lb b).length ≤ 4294967296 ^ 2 := Nat.pow_le_pow_right (by omega) (by omega)
        omega
      refine c_skip (n_then (c_seq (c_region (o_move rfl rfl (o_move rfl rfl (o_call call_NDivMod rfl rfl (NDivMod_spec ha hb (by omega) (by omega) (by rw [val_lb]; exact hb0)) ?_))))))
      rintro v39 w39 ⟨x39, q, r, rfl, bq, br⟩
      rw [val_lb, val_lb] at br
      refine o_move rfl rfl (o_extract rfl rfl r_ext3_0 (o_extract rfl rfl (r_ext3_1) (o_extract rfl rfl r_ext3_2 (o_assign rfl rfl (o_assign rfl rfl (o_assign rfl rfl (o_nil (n_then ?_))))))))
      refine c_seq (c_region (o_move rfl rfl (o_call call_NUint rfl rfl (NUint_spec (hb.ext x39)) ?_)))
      rintro v45 _ ⟨rfl, hcx⟩
      obtain ⟨x, hx, rfl⟩ : ∃ x : UInt64, x.toNat = b ∧ v45 = .tuple #[U64 x, B true] := by
        rw [val_lb] at hcx
        rcases hcx with ⟨h, _⟩ | h
        · omega
        · exact h
      refine o_move rfl rfl (o_extract rfl rfl r_ext0 (o_extract rfl rfl r_ext1 (o_assign rfl rfl (o_assign rfl rfl (o_nil (n_then (c_seq (c_region (o_move rfl rfl (o_call call_NUint rfl rfl (NUint_spec br) ?_))))))))))
      rintro v50 _ ⟨rfl, hcy⟩
      obtain ⟨y, hy, rfl⟩ : ∃ y : UInt64, y.toNat = a % b ∧ v50 = .tuple #[U64 y, B true] := by
        have := Nat.mod_lt a hb0
        rw [val_lb] at hcy
        rcases hcy with ⟨h, _⟩ | h
        · omega
        · exact h
      refine o_move rfl rfl (o_extract rfl rfl r_ext0 (o_extract rfl rfl r_ext1 (o_assign rfl rfl (o_assign rfl rfl (o_nil (n_then (c_seq (c_block ?_))))))))
      refine c_loop2 (fun (x' : UInt64) (y' : UInt64) => [(11, U64 x'), (13, U64 y')]) (fun (x' : UInt64) (y' : UInt64) w' => Ext w w' ∧ Nat.gcd x'.toNat y'.toNat = Nat.gcd (val l) (val m)) (fun (x' : UInt64) (y' : UInt64) => y'.toNat) (x) (y) ⟨rfl, rfl, trivial⟩ ⟨(e2.trans x39), by rw [hx, hy, ← hg, Nat.gcd_comm b, ← Nat.gcd_rec, Nat.gcd_comm]⟩ ?_
      rintro x' y' w10 ⟨e10, hxy⟩
      refine c_seq (c_seq (c_region (o_move rfl rfl (o_bin (v := U64 0) rfl rfl rfl (r_gtr_u64) (o_nil (n_then ?_))))))
      refine c_if rfl (fun h54 => ?_) (fun h54 => ?_)
      · have hy0 : 0 < y'.toNat := gt64.1 h54
        have hyn : y' ≠ 0 := fun h => by
          rw [h] at hy0
          exact absurd hy0 (by decide)
        refine c_skip (n_then (c_block (c_grow 5 [11, 58] (by kernel_rfl) (by kernel_rfl) ?_)))
        refine f_move rfl rfl (f_move rfl rfl (f_move rfl rfl (f_bin rfl rfl rfl (fun w _ => r_rem_u64 hyn) (f_assign rfl rfl (f_nil ?_)))))
        intro wg11 xg11
        rintro _ rfl
        rintro _ rfl
        refine o_assign rfl rfl (o_nil (n_block ?_))
        refine n_round2 (y') (x' % y') ⟨rfl, rfl, trivial⟩ ⟨(e10.trans xg11), by rw [UInt64.toNat_mod, ← hxy, Nat.gcd_comm y'.toNat, ← Nat.gcd_rec, Nat.gcd_comm]⟩ (by rw [UInt64.toNat_mod]; exact Nat.mod_lt _ hy0)
      · have hy0 : y'.toNat = 0 := by
          have := mt gt64.2 h54
          have e : (0 : UInt64).toNat = 0 := rfl
          omega
        refine c_exit (x_then (x_then (x_here (n_then (c_seq (c_region (o_move rfl rfl (o_call call_NOf rfl rfl (NOf_spec) ?_))))))))
        rintro v60 w60 ⟨x60, b60⟩
        refine o_assign rfl rfl (o_nil (n_then (c_ret (r_body1 rfl rfl ?_))))
        exact ⟨_, rfl, (e10.trans x60), by rw [← hxy, hy0, Nat.gcd_zero_right]; exact b60⟩
end Go.Rl
/- Rules for a region that draws its order where late operations mutate: quiet operations first, then whichever comes up. Conditions: each rule names its own. -/
namespace Go.Rl
open Go.RowKit

section
variable {P : Program} {ops : Array Oper} {Q : Post} {N : Nat} {D : List Deferred} {S : World → Prop} {fuel : Nat} {listed : Array Bool} {l : Fr} {w : World} {d : Nat} {op : Op} {ty : TypeId} {pos : String} {aft : Array Edge}

/-- Nothing but the plain end. -/
def calm (Q : Post) : Post := fun e a w => e = .normal ∧ Q .normal a w
def HeldJ (P : Program) (ops : Array Oper) (Q : Post) (N : Nat) (D : List Deferred) (S : World → Prop) (fuel : Nat) (listed : Array Bool) (l : Fr) (w : World) : Prop := ∀ a, At N D l a → wpAnyH P .any ops (calm Q) S fuel listed a w
/-- Behind one operation: S anew, and on. -/
def HPost (P : Program) (ops : Array Oper) (Q : Post) (S : World → Prop) (fuel : Nat) (listed : Array Bool) : Post := fun e a w => e = .normal ∧ S w ∧ wpAnyH P .any ops (calm Q) S fuel listed a w

theorem c_held {id : Nat} {os : List Oper} (S : World → Prop) (n : Nat) (hn : os.toArray.size = n) (hm : P.follows .mixedOrders = true)
    (h : HeldJ P os.toArray Q N D S n (Array.replicate n false) l w.drew) : CodeJ P Q N D l w (.region id os.toArray true) := fun a ha => by
  subst hn
  exact wp_mono (wp_region_held (Q := calm Q) (S := S) hm (h a ha)) fun e a w he => by obtain ⟨rfl, h⟩ := he; exact h

def okB (ops : Array Oper) (listed : Array Bool) (i : Nat) : Bool := Region.noSelect ops && Region.free .any ops listed i && (Region.ready .any ops listed).contains i

theorem h_run (i : Nat) {v : Value} (hi : ops[i]? = some ⟨some d, op, ty, pos, aft, none⟩) (hB : okB ops listed i = true) (hd : Nat.blt d N = true) (hS : S w)
    (hrun : ∀ ρ w', Agree l ρ → S w' → (execOp ρ ⟨some d, op, ty, pos, aft, none⟩).run P w' = .ok (.value v) w')
    (k : HeldJ P ops Q N D S fuel (listed.setIfInBounds i true) ((d, v) :: l) w) : HeldJ P ops Q N D S (fuel + 1) listed l w := fun a ha => by
  simp only [okB, Bool.and_eq_true] at hB
  exact wpAnyH_take hi hB.1.1 hB.1.2 hB.2 (fun c a w h => by obtain ⟨h, _⟩ := h; cases h) (.inl ⟨rfl, fun w' hw' => hrun a.eval w' (fun x v hx => ha.ev hx) hw'⟩) hS (k _ (ha.put hd v))
theorem h_pure (i : Nat) {xs : List Operand} {vs : List Value} {r : Value} {f : List Value → Sem Value} (hi : ops[i]? = some ⟨some d, op, ty, pos, aft, none⟩) (he : ∀ ρ, execOp ρ ⟨some d, op, ty, pos, aft, none⟩ = (do pure (Next.value (← f (xs.map ρ))) : Sem Next))
    (hp : evs l xs = some vs) (hB : okB ops listed i = true) (hd : Nat.blt d N = true) (hS : S w) (hrun : ∀ w', S w' → (f vs).run P w' = .ok r w')
    (k : HeldJ P ops Q N D S fuel (listed.setIfInBounds i true) ((d, r) :: l) w) : HeldJ P ops Q N D S (fuel + 1) listed l w :=
  h_run i hi hB hd hS (fun ρ w' hρ hw' => by rw [he, evs_ok hρ hp, Sem.run_bind, hrun w' hw']; rfl) k
theorem evs1 {x : Operand} {v : Value} (h : ev l x = some v) : evs l [x] = some [v] := by simp [evs, h]
theorem evs2 {x y : Operand} {u v : Value} (h : ev l x = some u) (h' : ev l y = some v) : evs l [x, y] = some [u, v] := by simp [evs, h, h']
theorem h_move (i : Nat) {x : Operand} {v : Value} (hi : ops[i]? = some ⟨some d, .move x, ty, pos, aft, none⟩) (hx : ev l x = some v) (hB : okB ops listed i = true) (hd : Nat.blt d N = true) (hS : S w)
    (k : HeldJ P ops Q N D S fuel (listed.setIfInBounds i true) ((d, v) :: l) w) : HeldJ P ops Q N D S (fuel + 1) listed l w :=
  h_run i hi hB hd hS (fun ρ w' hρ _ => by simp [execOp, hρ x _ hx]) k
theorem h_load (i : Nat) {t : TypeId} {x : Operand} {u r : Value} (hi : ops[i]? = some ⟨some d, .load t x, ty, pos, aft, none⟩) (hx : ev l x = some u) (hB : okB ops listed i = true) (hd : Nat.blt d N = true) (hS : S w) (hrun : ∀ w', S w' → (Instr.loadAt t u).run P w' = .ok r w')
    (k : HeldJ P ops Q N D S fuel (listed.setIfInBounds i true) ((d, r) :: l) w) : HeldJ P ops Q N D S (fuel + 1) listed l w :=
  h_pure i (xs := [x]) (f := fun | [a] => Instr.loadAt t a | _ => stuck "") hi (fun _ => rfl) (evs1 hx) hB hd hS hrun k
theorem h_fieldAddr (i : Nat) {s : TypeId} {n : Nat} {x : Operand} {u r : Value} (hi : ops[i]? = some ⟨some d, .fieldAddr s x n, ty, pos, aft, none⟩) (hx : ev l x = some u) (hB : okB ops listed i = true) (hd : Nat.blt d N = true) (hS : S w) (hrun : ∀ w', S w' → (Instr.fieldAt s u n).run P w' = .ok r w')
    (k : HeldJ P ops Q N D S fuel (listed.setIfInBounds i true) ((d, r) :: l) w) : HeldJ P ops Q N D S (fuel + 1) listed l w :=
  h_pure i (xs := [x]) (f := fun | [a] => Instr.fieldAt s a n | _ => stuck "") hi (fun _ => rfl) (evs1 hx) hB hd hS hrun k
theorem h_field (i : Nat) {s : TypeId} {n : Nat} {x : Operand} {u r : Value} (hi : ops[i]? = some ⟨some d, .field s x n, ty, pos, aft, none⟩) (hx : ev l x = some u) (hB : okB ops listed i = true) (hd : Nat.blt d N = true) (hS : S w) (hrun : ∀ w', S w' → (Instr.field s u n).run P w' = .ok r w')
    (k : HeldJ P ops Q N D S fuel (listed.setIfInBounds i true) ((d, r) :: l) w) : HeldJ P ops Q N D S (fuel + 1) listed l w :=
  h_pure i (xs := [x]) (f := fun | [a] => Instr.field s a n | _ => stuck "") hi (fun _ => rfl) (evs1 hx) hB hd hS hrun k
theorem h_conv (i : Nat) {s t : TypeId} {x : Operand} {u r : Value} (hi : ops[i]? = some ⟨some d, .convert s t x, ty, pos, aft, none⟩) (hx : ev l x = some u) (hB : okB ops listed i = true) (hd : Nat.blt d N = true) (hS : S w) (hrun : ∀ w', S w' → (convert s t u).run P w' = .ok r w')
    (k : HeldJ P ops Q N D S fuel (listed.setIfInBounds i true) ((d, r) :: l) w) : HeldJ P ops Q N D S (fuel + 1) listed l w :=
  h_pure i (xs := [x]) (f := fun | [a] => convert s t a | _ => stuck "") hi (fun _ => rfl) (evs1 hx) hB hd hS hrun k
theorem h_bin (i : Nat) {b : BinOp} {t t2 : TypeId} {x y : Operand} {u v r : Value} (hi : ops[i]? = some ⟨some d, .binOp b t x y t2, ty, pos, aft, none⟩) (hx : ev l x = some u) (hy : ev l y = some v) (hB : okB ops listed i = true) (hd : Nat.blt d N = true) (hS : S w) (hrun : ∀ w', S w' → (bin b t x y u v).run P w' = .ok r w')
    (k : HeldJ P ops Q N D S fuel (listed.setIfInBounds i true) ((d, r) :: l) w) : HeldJ P ops Q N D S (fuel + 1) listed l w :=
  h_pure i (xs := [x, y]) (f := fun | [a, c] => bin b t x y a c | _ => stuck "") hi (fun _ => rfl) (evs2 hx hy) hB hd hS hrun k
theorem h_indexAddr (i : Nat) {t : TypeId} {x y : Operand} {u v r : Value} (hi : ops[i]? = some ⟨some d, .indexAddr t x y, ty, pos, aft, none⟩) (hx : ev l x = some u) (hy : ev l y = some v) (hB : okB ops listed i = true) (hd : Nat.blt d N = true) (hS : S w) (hrun : ∀ w', S w' → (Instr.indexAt t u v).run P w' = .ok r w')
    (k : HeldJ P ops Q N D S fuel (listed.setIfInBounds i true) ((d, r) :: l) w) : HeldJ P ops Q N D S (fuel + 1) listed l w :=
  h_pure i (xs := [x, y]) (f := fun | [a, c] => Instr.indexAt t a c | _ => stuck "") hi (fun _ => rfl) (evs2 hx hy) hB hd hS hrun k
theorem h_len (i : Nat) {xs : List Operand} {ts : Array TypeId} {vs : List Value} {r : Value} (hi : ops[i]? = some ⟨some d, .call { callee := .builtin .len, args := xs.toArray, argTypes := ts }, ty, pos, aft, none⟩) (hp : evs l xs = some vs) (hB : okB ops listed i = true) (hd : Nat.blt d N = true) (hS : S w) (hrun : ∀ w', S w' → (Builtin.len_ ts ty vs.toArray).run P w' = .ok r w')
    (k : HeldJ P ops Q N D S fuel (listed.setIfInBounds i true) ((d, r) :: l) w) : HeldJ P ops Q N D S (fuel + 1) listed l w :=
  h_pure i (xs := xs) (f := fun vs => Builtin.len_ ts ty vs.toArray) hi (fun ρ => by simp only [execOp, resolve, invoke, builtin, pure_bind, List.map_toArray]) hp hB hd hS hrun k

/-- One operation that comes up, carried out. -/
theorem wpOp_of_list {o : Oper} {i : Nat} {listed' : Array Bool} {a : Act} (hi : ops[i]? = some o) (h : wpList P ops (HPost P ops Q S fuel listed') [o] a w) :
    wpOp P ops (calm Q) i (fun a' w' => S w' ∧ wpAnyH P .any ops (calm Q) S fuel listed' a' w') a w := by
  unfold wpOp
  simp only [hi]
  unfold wpList at h
  split
  · rename_i hw
    rw [if_pos hw] at h
    rcases h with h | ⟨_, _, _, h, _⟩
    · refine .inl ?_
      unfold Oper.wp at *
      generalize (execOp a.eval o).run P w = r at *
      cases r with
      | ok n w' =>
        cases n <;> simp only [Oper.upon] at h ⊢
        case value u => exact h.2
        case skip => exact h.2
        case defer dd => exact h.2
        case enter f args =>
          refine Calls.mono h fun e w'' he => ?_
          cases e with
          | returned u => exact he.2
          | panicked c => obtain ⟨he, _⟩ := he; cases he
          | outgrown => obtain ⟨_, _, he, _⟩ := he; cases he
        case row row args => exact Rows.mono h fun u w'' he => he.2
      | halt x w' =>
        cases x <;> simp only [Oper.upon] at h ⊢
        case panic u => obtain ⟨he, _⟩ := h; cases he
    · cases h
  · rename_i hw
    rw [if_neg hw] at h
    exact h.2
theorem h_one (i : Nat) {o : Oper} (hr : Region.ready .any ops listed = [i]) (hi : ops[i]? = some o) (h : OpsJ P ops (HPost P ops Q S fuel (listed.setIfInBounds i true)) N D l w [o]) : HeldJ P ops Q N D S (fuel + 1) listed l w := fun a ha =>
  wpAnyH_all hr (by simp) fun j hj => by
    obtain rfl : j = i := by simpa using hj
    exact wpOp_of_list hi (h a ha)
theorem h_two (i j : Nat) {o u : Oper} (hr : Region.ready .any ops listed = [i, j]) (hi : ops[i]? = some o) (hj : ops[j]? = some u) (h : OpsJ P ops (HPost P ops Q S fuel (listed.setIfInBounds i true)) N D l w [o])
    (h' : OpsJ P ops (HPost P ops Q S fuel (listed.setIfInBounds j true)) N D l w [u]) : HeldJ P ops Q N D S (fuel + 1) listed l w := fun a ha =>
  wpAnyH_all hr (by simp) fun k hk => by
    rcases (by simpa using hk : k = i ∨ k = j) with rfl | rfl
    · exact wpOp_of_list hi (h a ha)
    · exact wpOp_of_list hj (h' a ha)
theorem h_next (hS : S w) (k : HeldJ P ops Q N D S fuel listed l w) : OpsJ P ops (HPost P ops Q S fuel listed) N D l w [] := fun a ha => ⟨rfl, hS, k a ha⟩
/-- Several ways that meet. -/
theorem h_meet {α : Type} (fr : α → Fr) (H : α → World → Prop) (listed' : Array Bool) (fuel' : Nat) (k : ∀ x w', H x w' → HeldJ P ops Q N D S fuel' listed' (fr x) w')
    (h : (∀ l' w', (∃ x, Sub (fr x) l' ∧ H x w') → HeldJ P ops Q N D S fuel' listed' l' w') → HeldJ P ops Q N D S fuel listed l w) : HeldJ P ops Q N D S fuel listed l w :=
  h fun _ w' ⟨x, hs, hH⟩ a ha => k x w' hH a (ha.weak hs)
theorem h_eq {listed' : Array Bool} (he : listed = listed') (h : HeldJ P ops Q N D S fuel listed' l w) : HeldJ P ops Q N D S fuel listed l w := he ▸ h
theorem h_done (hr : Region.ready .any ops listed = []) (h : NormJ Q N D l w) : HeldJ P ops Q N D S fuel listed l w := fun a ha => wpAnyH_done hr ⟨rfl, h a ha⟩ _
end
end Go.Rl
/- Walks of the functions that append rationals, and of the statement WireRationals. Conditions: what is appended to is short. -/
namespace Go.Rl
open Go.RowKit Go.Proofs

theorem call_AppendRat : Callable Try.prog 21 := ⟨_, Try.func21, by kernel_rfl, rfl⟩

theorem Ext.at {w w' : World} (hx : Ext w w') {g : Nat} {o : Obj} (h : w.heap[g]? = some o) : w'.heap[g]? = some o := by
  rw [hx.block g (by obtain ⟨h, _⟩ := Array.getElem?_eq_some_iff.1 h; exact h)]
  exact h
theorem OwnB.low {base base' : Nat} {l : List UInt8} {v : Value} {w : World} (h : OwnB base l v w) (hb : base' ≤ base) : OwnB base' l v w := by
  have hge := h.ge
  obtain ⟨n, h⟩ := h
  exact ⟨n, ownsRow_base h fun k hk => Nat.le_trans hb (hge k hk)⟩

theorem OwnB.grown {base : Nat} {l : List UInt8} {u v r : Value} {w w' : World} (h : OwnB base l u w) (hg : Grew w w' v r) (hne : u.ownBlock = none ∨ u.ownBlock ≠ v.ownBlock) : OwnB base l u w' := by
  obtain ⟨n, h⟩ := h
  exact ⟨n, World.ownsRow.kept h hg.grown hne⟩
theorem OwnB.lt {base : Nat} {l : List UInt8} {v : Value} {w : World} (h : OwnB base l v w) : ∀ k, v.ownBlock = some k → k < w.heap.size := by
  obtain ⟨n, h⟩ := h
  exact fun k hk => (World.ownsRow.lt h k hk).2

/-- A rational value: a sign and two rows of limbs. -/
def RatV (b : Bool) (n m : List UInt32) : Fact := fun v w => ∃ x y, v = .agg #[B b, x, y] ∧ Wds n x w ∧ Wds m y w
theorem RatV.ext {b : Bool} {n m : List UInt32} {v : Value} {w w' : World} (h : RatV b n m v w) (hx : Ext w w') : RatV b n m v w' := by
  obtain ⟨x, y, rfl, h1, h2⟩ := h
  exact ⟨x, y, rfl, h1.ext hx, h2.ext hx⟩
def sgn (b : Bool) : UInt8 := if b then 1 else 0
def encR (b : Bool) (n m : List UInt32) : List UInt8 := [sgn b] ++ encN n ++ encN m

theorem size_bool' : (Try.prog.info? 4).map (·.size) = some 1 := by kernel_rfl
theorem size_Nat : (Try.prog.info? 33).map (·.size) = some 1 := by kernel_rfl
theorem size_Rat : (Try.prog.info? 35).map (·.size) = some 3 := by kernel_rfl

section
variable {w : World} {l : List UInt8} {ns : List UInt32} {v nv : Value}


theorem AppendRat_spec {b : Bool} {n m : List UInt32} {rv : Value} (hv : Bts l v w) (hr : RatV b n m rv w) (hl : l.length + 4 * n.length + 4 * m.length ≤ 8796093022208) :
    Calls Try.prog 21 #[v, rv] w (Ret fun r w' => Ext w w' ∧ OwnB w.heap.size (l ++ encR b n m) r w') := by
  obtain ⟨x, y, rfl, hx, hy⟩ := hr
  have hn := encN_len n (by have := hx.len; omega)
  refine enter (vs := [v, .agg #[B b, x, y]]) Try.func21 rfl rfl rfl ?_
  refine c_seq (c_region (o_box rfl rfl r_box ?_))
  have e1 : Ext w (w.alloc (.cells (Value.agg #[B b, x, y]).cells 35)) := Ext.new w _
  have hbx := heap_alloc_new w (.cells (Value.agg #[B b, x, y]).cells 35)
  revert e1 hbx
  generalize w.alloc (.cells (Value.agg #[B b, x, y]).cells 35) = w1
  intro e1 hbx
  have cell : ∀ (i : Nat) (u : Value), (#[B b, x, y] : Array Value)[i]? = some u → ∀ w', Ext w1 w' → w'.cell? ⟨w.heap.size, i, none⟩ = some u := fun i u hu w' hw' => cellAt (hw'.at hbx) hu
  refine o_assign rfl rfl (o_nil (n_then (c_seq (c_region (o_assign rfl rfl (o_nil (n_then ?_)))))))
  refine c_seq (c_cut (fun _ : Unit => [(0, v), (3, .pointer (some ⟨w.heap.size, 0, none⟩)), (5, U8 (sgn b))]) (fun _ w' => w' = w1) ?_ ?_)
  · refine c_seq (c_region ?_)
    refine o_fieldAddr rfl rfl (r_fieldAt Try.underlying35 rfl size_bool' (by omega)) ?_
    refine o_load rfl rfl (r_load1 Try.underlying4 rfl (cell 0 _ rfl _ (Ext.refl _))) ?_
    refine o_nil (n_then ?_)
    cases b with
    | true => exact c_yes rfl (c_region (o_assign rfl rfl (o_nil (n_meet () ⟨rfl, rfl, rfl, trivial⟩ rfl))))
    | false => exact c_no rfl (c_skip (n_meet () ⟨rfl, rfl, rfl, trivial⟩ rfl))
  rintro _ w2 rfl
  refine n_then (c_seq ?_)
  refine c_held (Ext w2) 12 rfl (by kernel_rfl) ?_
  have hd : Ext w2 w2.drew := (Ext.refl w2).drew
  refine h_move 0 rfl rfl (by kernel_rfl) rfl hd ?_
  refine h_move 2 rfl rfl (by kernel_rfl) rfl hd ?_
  refine h_fieldAddr 5 rfl rfl (by kernel_rfl) rfl hd (fun w' _ => r_fieldAt Try.underlying35 rfl size_Nat (by omega)) ?_
  refine h_load 6 rfl rfl (by kernel_rfl) rfl hd (fun w' hw' => r_load1 Try.underlying33 rfl (cell 1 _ rfl _ hw')) ?_
  refine h_fieldAddr 8 rfl rfl (by kernel_rfl) rfl hd (fun w' _ => r_fieldAt Try.underlying35 rfl size_Nat (by omega)) ?_
  refine h_load 9 rfl rfl (by kernel_rfl) rfl hd (fun w' hw' => r_load1 Try.underlying33 rfl (cell 2 _ rfl _ hw')) ?_
  refine h_meet (fun p : Value × Value => [(9, p.1), (11, p.2), (14, x), (17, y)]) (fun p w' => Ext w2 w' ∧ OwnB w2.heap.size l p.1 w' ∧ Bts [sgn b] p.2 w') #[true, true, true, true, false, true, true, false, true, true, false, false] 4 ?_ (fun join => h_two 1 3 (by kernel_rfl) rfl rfl ?_ ?_)
  · rintro ⟨r9, r11⟩ w3 ⟨hx3, ho9, ho11⟩
    dsimp only at ho9 ho11
    refine h_one 4 (by kernel_rfl) rfl ?_
    obtain ⟨r4, w4, hr4, ho4, hg4⟩ := r_appB (ty := 22) ho9 ho11 (by simp only [List.length_cons, List.length_nil]; omega) hx3.size
    have hx4 := hx3.of_grew hg4 ho9.ge
    refine o_append rfl rfl hr4 (h_next hx4 ?_)
    refine h_one 7 (by kernel_rfl) rfl ?_
    refine o_call call_nat rfl rfl (nat_spec hx4 ho4 (hx.ext e1) (by simp only [List.length_append, List.length_cons, List.length_nil]; omega)) ?_
    rintro r5 w5 ⟨ho5, hx5, _⟩
    refine h_next hx5 (h_one 10 (by kernel_rfl) rfl ?_)
    refine o_call call_nat rfl rfl (nat_spec hx5 ho5 (hy.ext e1) (by simp only [List.length_append, List.length_cons, List.length_nil]; omega)) ?_
    rintro r6 w6 ⟨ho6, hx6, _⟩
    refine h_next hx6 (h_one 11 (by kernel_rfl) rfl ?_)
    refine o_assign rfl rfl (h_next hx6 (h_done (by kernel_rfl) (n_then (c_ret ?_))))
    refine r_body1 rfl rfl ?_
    refine ⟨_, rfl, e1.trans hx6, ?_⟩
    have := ho6.low e1.size
    simpa only [encR, List.append_assoc] using this
  · refine o_call call_Clone rfl rfl (Clone_spec ((hv.ext e1).ext hd) (by omega)) ?_
    rintro r9 w3 ⟨hx3, ho9⟩
    obtain ⟨r11, w4, hr11, hx4, ho11, _⟩ := r_bsB (w := w3) w3.heap.size [sgn b] (by simp) (Nat.le_refl _)
    refine h_next (hd.trans hx3) (h_one 3 (by kernel_rfl) rfl ?_)
    refine o_buildSlice (vs := [(0, U8 (sgn b))]) rfl rfl hr11 (h_next ((hd.trans hx3).trans hx4) (h_eq (by kernel_rfl) (join _ _ ⟨(r9, r11), ⟨rfl, rfl, rfl, rfl, trivial⟩, (hd.trans hx3).trans hx4, ?_, ho11.bts⟩)))
    exact (ho9.ext hx4).low hd.size
  · obtain ⟨r11, w3, hr11, hx3, ho11, _⟩ := r_bsB (w := w2.drew) w2.heap.size [sgn b] (by simp) hd.size
    refine o_buildSlice (vs := [(0, U8 (sgn b))]) rfl rfl hr11 (h_next (hd.trans hx3) (h_one 1 (by kernel_rfl) rfl ?_))
    refine o_call call_Clone rfl rfl (Clone_spec (((hv.ext e1).ext hd).ext hx3) (by omega)) ?_
    rintro r9 w4 ⟨hx4, ho9⟩
    refine h_next ((hd.trans hx3).trans hx4) (h_eq (by kernel_rfl) (join _ _ ⟨(r9, r11), ⟨rfl, rfl, rfl, rfl, trivial⟩, (hd.trans hx3).trans hx4, ?_, ho11.bts.ext hx4⟩))
    exact ho9.low (hd.trans hx3).size

end
end Go.Rl
/- Rationals that lie in a block; canonical rationals as plain maths. Conditions: each names its own. -/
namespace Go.Rl
open Go.RowKit Go.Proofs

section
variable {P : Program} {w w' : World}
theorem r_fAt {s : TypeId} {fs : Array Field} {f : Field} {n g o : Nat} (hs : P.underlying s = some (.struct fs)) (hf : fs[n]? = some f) (hk : (P.cellsOf f.type == 0) = false) (ho : f.offset = o) :
    (Instr.fieldAt s (.pointer (some ⟨g, 0, none⟩)) n).run P w = .ok (.pointer (some ⟨g, o, none⟩)) w := by
  have hk' : P.cellsOf f.type ≠ 0 := by simpa using hk
  obtain ⟨k, hk1⟩ : ∃ k, (P.info? f.type).map (·.size) = some k := by
    cases hi : (P.info? f.type).map (·.size) with
    | none => exact absurd (by simp [Program.cellsOf, hi]) hk'
    | some k => exact ⟨k, rfl⟩
  have hk0 : k ≠ 0 := by
    intro h
    apply hk'
    simp [Program.cellsOf, hk1, h]
  rw [r_fieldAt hs hf hk1 hk0, ho, add_mk, Nat.zero_add]
end
section
variable {w w' : World}
theorem RatV.stable (b : Bool) (n m : List UInt32) : Stable (RatV b n m) := fun _ _ _ h hx => h.ext hx
theorem RatV.mk {b : Bool} {n m : List UInt32} {x y : Value} (hx : Wds n x w) (hy : Wds m y w) : RatV b n m (.agg #[B b, x, y]) w := ⟨x, y, rfl, hx, hy⟩
theorem Blk.ldR {g : Nat} {T : TypeId} {a b c : Value} (h : Blk g T [a, b, c] w) : (Instr.loadAt 35 (.pointer (some ⟨g, 0, none⟩))).run Try.prog w = .ok (.agg #[a, b, c]) w :=
  r_ldA h (fun j v hj => by simpa using hj) Try.underlying35 rfl size_Rat
theorem r_boxR {b : Bool} {n m : List UInt32} {v : Value} (h : RatV b n m v w) :
    ∃ g x y w', (Instr.box 35 v).run Try.prog w = .ok (.pointer (some ⟨g, 0, none⟩)) w' ∧ Ext w w' ∧ Blk g 35 [B b, x, y] w' ∧ Wds n x w' ∧ Wds m y w' := by
  obtain ⟨x, y, rfl, hx, hy⟩ := h
  exact ⟨_, x, y, _, r_box, Ext.new w _, Blk.new (T := 35) (.agg #[B b, x, y]) rfl, hx.ext (Ext.new w _), hy.ext (Ext.new w _)⟩
theorem zero_Rat : (Try.prog.info? 35).map (·.zero) = some (some (.agg #[B false, .slice none 0 0, .slice none 0 0])) := by kernel_rfl
theorem r_allocR : ∃ g w', (Instr.alloc 35 true (.tuple #[])).run Try.prog w = .ok (.pointer (some ⟨g, 0, none⟩)) w' ∧ w.heap.size ≤ g ∧ Ext w w' ∧ Blk g 35 [B false, .slice none 0 0, .slice none 0 0] w' :=
  r_allocB zero_Rat rfl
theorem rat_noWord (b : Bool) (A C : Option Addr) (n c m d : Nat) (l : List UInt32) : ∀ (j : Nat) (u : Value), u ∈ l.map U32 → (#[.bool b, .slice A n c, .slice C m d] : Array Value)[j]? ≠ some u := by
  intro j u hu
  obtain ⟨x, _, rfl⟩ := List.mem_map.1 hu
  match j with
  | 0 => simp [U32]
  | 1 => simp [U32]
  | 2 => simp [U32]
  | j + 3 => simp
/-- Limbs stand when a block that holds a rational is written. -/
theorem Wds.byR {l : List UInt32} {v : Value} {g : Nat} {T : TypeId} {b : Bool} {x y : Value} (h : Wds l v w) (hb : Blk g T [B b, x, y] w) (hx : ∃ A n c, x = .slice A n c) (hy : ∃ A n c, y = .slice A n c) (hw : w.grownBy w' (some g)) : Wds l v w' := by
  obtain ⟨A, n, c, rfl⟩ := hx
  obtain ⟨C, m, d, rfl⟩ := hy
  exact Sl.keep h hb (rat_noWord b A C n c m d l) hw
theorem Wds.isS {l : List UInt32} {v : Value} (h : Wds l v w) : ∃ A n c, v = .slice A n c := by
  obtain ⟨A, n, c, rfl, _⟩ := h
  exact ⟨A, n, c, rfl⟩
/-- A rational is stored into a block that holds one. -/
theorem Blk.stR {g : Nat} {b c : Bool} {x y v : Value} {n m : List UInt32} (h : Blk g 35 [B b, x, y] w) (hx : ∃ A n c, x = .slice A n c) (hy : ∃ A n c, y = .slice A n c) (hv : RatV c n m v w) :
    ∃ p q w', v = .agg #[B c, p, q] ∧ (Instr.storeAt 35 (.pointer (some ⟨g, 0, none⟩)) v).run Try.prog w = .ok () w' ∧ w.grownBy w' (some g) ∧ Blk g 35 [B c, p, q] w' ∧ Wds n p w' ∧ Wds m q w' := by
  obtain ⟨p, q, rfl, hp, hq⟩ := hv
  obtain ⟨A, n1, c1, rfl⟩ := hp.isS
  obtain ⟨C, n2, c2, rfl⟩ := hq.isS
  refine ⟨_, _, _, rfl, r_stA (m := [B c, .slice A n1 c1, .slice C n2 c2]) h rfl size_Rat ?_, grownBy_setRow w g _, h.row _, hp.byR h hx hy (grownBy_setRow w g _), hq.byR h hx hy (grownBy_setRow w g _)⟩
  intro u hu
  simp only [List.mem_cons, List.not_mem_nil, or_false] at hu
  rcases hu with rfl | rfl | rfl <;> rfl
theorem r_eql_b {P : Program} {x y : Operand} {t : TypeId} (ht : P.underlying t = some .bool) {a b : Bool} : (bin .eql t x y (B a) (B b)).run P w = .ok (B (decide (a = b))) w := by
  have h : (Op.equal t (B a) (B b)).run P w = .ok (decide (a = b)) w := by
    show (Op.equalIn (9999 + 1) t (.bool a) (.bool b)).run P w = _
    unfold Op.equalIn
    cases a <;> cases b <;> simp [run_underlying ht]
  show (do pure (Value.bool (← Op.equal t (B a) (B b))) : Sem Value).run P w = _
  rw [Sem.run_bind, h]; rfl
theorem r_buildR {c : Bool} {p q : Value} (hp : ∃ A n c, p = .slice A n c) (hq : ∃ A n c, q = .slice A n c) : (Instr.build 35 #[(0, B c), (1, p), (2, q)]).run Try.prog w = .ok (.agg #[B c, p, q]) w := by
  obtain ⟨A, n, d, rfl⟩ := hp
  obtain ⟨C, m, e, rfl⟩ := hq
  exact run_build _ _ _ #[B c, .slice A n d, .slice C m e] (by kernel_rfl)
theorem r_buildR2 {c : Bool} {p : Value} (hp : ∃ A n c, p = .slice A n c) : (Instr.build 35 #[(0, B c), (1, p)]).run Try.prog w = .ok (.agg #[B c, p, .slice none 0 0]) w := by
  obtain ⟨A, n, d, rfl⟩ := hp
  exact run_build _ _ _ #[B c, .slice A n d, .slice none 0 0] (by kernel_rfl)
theorem r_buildR0 : (Instr.build 35 #[]).run Try.prog w = .ok (.agg #[B false, .slice none 0 0, .slice none 0 0]) w :=
  run_build _ _ _ #[B false, .slice none 0 0, .slice none 0 0] (by kernel_rfl)
end

/-! ### Plain maths -/
theorem val_inj : ∀ {l m : List UInt32}, l.length = m.length → val l = val m → l = m
  | [], [], _, _ => rfl
  | [], _ :: _, h, _ => by simp at h
  | _ :: _, [], h, _ => by simp at h
  | x :: l, y :: m, h, hv => by
    have hx := u32_lt x
    have hy := u32_lt y
    rw [val, val] at hv
    have h1 : x.toNat = y.toNat := by omega
    have h2 : val l = val m := by omega
    rw [u32_ext h1, val_inj (by simpa using h) h2]
def ud (m : List UInt32) : List UInt32 := if val m = 0 then [1] else m
theorem val_one1 : val [1] = 1 := rfl
theorem lb_one : lb 1 = [1] := rfl
theorem val_ud (m : List UInt32) : val (ud m) = if val m = 0 then 1 else val m := by unfold ud; split <;> simp_all [val_one1]
theorem ud_pos (m : List UInt32) : 0 < val (ud m) := by rw [val_ud]; split <;> omega
/-- The canonical form of a quotient. -/
def cqN (s : Bool) (n : Nat) : Bool := s && decide (0 < n)
def cqD (n d : Nat) : List UInt32 := if d / Nat.gcd n d = 1 then [] else lb (d / Nat.gcd n d)
/-- Whether a rational is canonical. -/
def rv (s : Bool) (n m : List UInt32) : Bool := decide (s = cqN s (val n) ∧ n = lb (val n / Nat.gcd (val n) (val (ud m))) ∧ m = cqD (val n) (val (ud m)))
theorem gcd_pos {n d : Nat} (h : 0 < d) : 0 < Nat.gcd n d := Nat.gcd_pos_of_pos_right n h
theorem lb_is1 {x : Nat} : lb x = [1] ↔ x = 1 := ⟨fun h => lb_inj (h.trans lb_one.symm), fun h => by rw [h, lb_one]⟩
theorem cq_zero {d : Nat} (h : 0 < d) : cqD 0 d = [] := by unfold cqD; rw [Nat.gcd_zero_left, Nat.div_self h, if_pos rfl]
theorem cq_one {n : Nat} : cqD n 1 = [] := by unfold cqD; rw [Nat.gcd_one_right]; rfl
end Go.Rl
/- Walks of package rational: the canonical form. Conditions: the numbers are shorter than 2^37 limbs. -/
namespace Go.Rl
open Go.RowKit Go.Proofs
theorem call_QOne : Callable Try.prog 92 := ⟨_, Try.func92, by kernel_rfl, rfl⟩
theorem call_QUnit : Callable Try.prog 88 := ⟨_, Try.func88, by kernel_rfl, rfl⟩
theorem call_QUnder : Callable Try.prog 78 := ⟨_, Try.func78, by kernel_rfl, rfl⟩
theorem call_QQuot : Callable Try.prog 77 := ⟨_, Try.func77, by kernel_rfl, rfl⟩
theorem call_QCanon : Callable Try.prog 70 := ⟨_, Try.func70, by kernel_rfl, rfl⟩
theorem call_QValid : Callable Try.prog 56 := ⟨_, Try.func56, by kernel_rfl, rfl⟩
theorem dec_pick {p : Prop} {b : Bool} {dp : Decidable p} (h : b = @decide p dp) : B b = B (@decide p dp) := by rw [h]
theorem QOne_spec {w : World} :
    Calls Try.prog 92 #[] w (Ret fun r w' => Ext w w' ∧ Wds [1] r w') := by
  refine enter (vs := []) Try.func92 rfl rfl rfl ?_
  refine c_seq (c_region (o_assign rfl rfl (o_nil (n_then (c_seq (c_region ?_))))))
  obtain ⟨v1, w1, hr1, x1, o1, ob1⟩ := r_bsW Try.underlying33 (w := w) w.heap.size [1] (by simp) (Nat.le_refl _)
  refine o_buildSlice (vs := [(0, U32 (1))]) rfl rfl hr1 (o_assign rfl rfl (o_nil (n_then (c_ret (r_body1 rfl rfl ?_)))))
  exact ⟨_, rfl, x1, o1.wds⟩
theorem QUnit_spec {w : World} {x : Nat} {v : Value} (hv : Wds (lb x) v w) :
    Calls Try.prog 88 #[v] w (Ret fun r w' => w = w' ∧ r = B (decide (x = 1))) := by
  refine enter (vs := [v]) Try.func88 rfl rfl rfl ?_
  obtain ⟨t, ht⟩ : ∃ t, t = lb x := ⟨_, rfl⟩
  rw [← ht] at hv
  have h1 : x = 1 ↔ t = [1] := by rw [ht]; exact lb_is1.symm
  refine c_seq (c_region (o_assign rfl rfl (o_nil (n_then (c_seq (c_region (o_move rfl rfl (o_len rfl rfl (r_lenW Try.underlying33 hv) (o_bin rfl rfl rfl (r_eql_i) ?_)))))))))
  refine o_move rfl rfl ?_
  refine o_dec (fun h6 => ?_) (fun h6 => ?_)
  · refine g_yes rfl (o_move rfl rfl (g_yes rfl ?_))
    obtain ⟨a8, p8, q8⟩ := r_ixW Try.underlying33 hv (i := 0) (by omega) .i64
    refine o_indexAddr rfl rfl rfl (p8 _) (g_yes rfl (o_load rfl rfl (r_load1 Try.underlying79 rfl q8) (g_yes rfl (o_bin (v := U32 1) rfl rfl rfl (r_eql_u32) (o_pick_t rfl rfl rfl ?_)))))
    refine o_assign rfl rfl (o_nil (n_then (c_ret (r_body1 rfl rfl ?_))))
    exact ⟨_, rfl, rfl, by
      first
      | exact congrArg B (decide_eq_false fun h => h6 (by rw [h1.1 h]; rfl)).symm
      | exact congrArg B (decide_eq_decide.2 (by
          rw [h1]
          obtain ⟨y, rfl⟩ := List.length_eq_one_iff.1 (show t.length = 1 by omega)
          simp))⟩
  · refine g_no rfl rfl rfl (g_no rfl rfl rfl (g_no rfl rfl rfl (g_no rfl rfl rfl (o_pick_f rfl rfl rfl (o_assign rfl rfl (o_nil (n_then (c_ret (r_body1 rfl rfl ?_)))))))))
    exact ⟨_, rfl, rfl, by
      first
      | exact congrArg B (decide_eq_false fun h => h6 (by rw [h1.1 h]; rfl)).symm
      | exact congrArg B (decide_eq_decide.2 (by
          rw [h1]
          obtain ⟨y, rfl⟩ := List.length_eq_one_iff.1 (show t.length = 1 by omega)
          simp))⟩
theorem QUnder_spec {w : World} {b : Bool} {n m : List UInt32} {v : Value} (hv : RatV b n m v w) (hl : m.length ≤ 1099511627776) :
    Calls Try.prog 78 #[v] w (Ret fun r w' => Ext w w' ∧ Wds (ud m) r w') := by
  refine enter (vs := [v]) Try.func78 rfl rfl rfl ?_
  refine c_seq (c_region ?_)
  obtain ⟨g1, y1, z1, w1, hr1, x1, k1, n1, d1⟩ := r_boxR hv
  refine o_box rfl rfl hr1 (o_assign rfl rfl (o_nil (n_then (c_seq (c_seq (c_region (o_fieldAddr rfl rfl (r_fAt (o := 2) Try.underlying35 rfl (by kernel_rfl) rfl) ?_)))))))
  refine o_load rfl rfl (r_load1 Try.underlying33 rfl (k1.cell (i := 2) rfl)) (o_call call_NBits rfl rfl (NBits_spec d1 hl) ?_)
  rintro v5 _ ⟨rfl, rfl⟩
  refine o_bin rfl rfl rfl (r_eql_i) (o_nil (n_then ?_))
  refine c_if rfl (fun h6 => ?_) (fun h6 => ?_)
  · have h0 : val m = 0 := by
      rcases Nat.eq_zero_or_pos (val m) with h | h
      · exact h
      · have := bl_pos h
        omega
    refine c_seq (c_region (o_call (vs := []) call_QOne rfl rfl (QOne_spec) ?_))
    rintro v7 w7 ⟨x7, b7⟩
    refine o_assign rfl rfl (o_nil (n_then (c_ret (r_then (r_body1 rfl rfl ?_)))))
    exact ⟨_, rfl, (x1.trans x7), by unfold ud; rw [if_pos h0]; exact b7⟩
  · have h0 : val m ≠ 0 := fun h => h6 (by rw [h]; rfl)
    refine c_skip (n_then (c_seq (c_region (o_fieldAddr rfl rfl (r_fAt (o := 2) Try.underlying35 rfl (by kernel_rfl) rfl) (o_load rfl rfl (r_load1 Try.underlying33 rfl (k1.cell (i := 2) rfl)) ?_)))))
    refine o_assign rfl rfl (o_nil (n_then (c_ret (r_body1 rfl rfl ?_))))
    exact ⟨_, rfl, x1, by unfold ud; rw [if_neg h0]; exact d1⟩
theorem QQuot_spec {w : World} {s : Bool} {n d : List UInt32} {x y : Value} (hn : Wds n x w) (hd : Wds d y w) (hnl : n.length ≤ 274877906944) (hdl : d.length ≤ 274877906944) (hd0 : 0 < val d) :
    Calls Try.prog 77 #[B s, x, y] w (Ret fun r w' => Ext w w' ∧ RatV (cqN s (val n)) (lb (val n / Nat.gcd (val n) (val d))) (cqD (val n) (val d)) r w') := by
  refine enter (vs := [B s, x, y]) Try.func77 rfl rfl rfl ?_
  have hnn := lb_lt (val_lt n)
  have hdd := lb_lt (val_lt d)
  have hg0 := gcd_pos (n := val n) hd0
  refine c_seq (c_region ?_)
  obtain ⟨g6, w6, hr6, l6, x6, k6⟩ := r_allocR (w := w)
  refine o_alloc rfl hr6 (o_nil (n_then (c_seq (c_region (o_move rfl rfl (o_call call_NMake rfl rfl (NMake_spec (hn.ext x6) (by omega)) ?_))))))
  rintro v9 w9 ⟨x9, b9⟩
  refine o_assign rfl rfl (o_nil (n_then (c_seq (c_seq (c_region (o_move rfl rfl (o_len (r := I ((lb (val n)).length : Int)) rfl rfl (r_lenW Try.underlying33 b9) ?_)))))))
  refine o_bin rfl rfl rfl (r_eql_i) (o_nil (n_then ?_))
  refine c_if rfl (fun h12 => ?_) (fun h12 => ?_)
  · have hn0 : val n = 0 := lb_len0.1 (by omega)
    refine c_seq (c_region ?_)
    refine o_build (vs := []) rfl rfl r_buildR0 ?_
    obtain ⟨p, q, w3, hp, hs, q3, k3, n3, d3⟩ := (k6.ext (x9)).stR ⟨_, _, _, rfl⟩ ⟨_, _, _, rfl⟩ (RatV.mk (b := false) (Wds.nil _) (Wds.nil _))
    refine o_store rfl rfl (hs) (o_nil (n_then (c_ret (r_then ?_))))
    refine r_bodyc rfl rfl k3 Try.underlying35 rfl size_Rat ?_
    exact ⟨_, rfl, ((x6.trans x9)).of_new q3 l6, p, q, by rw [hn0]; unfold cqN; simp, by rw [hn0, Nat.zero_div]; exact n3, by rw [hn0, cq_zero hd0]; exact d3⟩
  · have hn0 : 0 < val n := by
      rcases Nat.eq_zero_or_pos (val n) with h | h
      · rw [h] at h12; simp [lb_zero] at h12
      · exact h
    have hcN : cqN s (val n) = s := by unfold cqN; rw [decide_eq_true hn0, Bool.and_true]
    rw [hcN]
    refine c_skip (n_then (c_seq (c_region (o_move rfl rfl (o_call call_NMake rfl rfl (NMake_spec (hd.ext (x6.trans x9)) (by omega)) ?_)))))
    rintro v15 w15 ⟨x15, b15⟩
    refine o_assign rfl rfl (o_nil (n_then (c_seq (c_seq (c_region (o_move rfl rfl (o_call call_QUnit rfl rfl (QUnit_spec b15) ?_)))))))
    rintro v17 _ ⟨rfl, rfl⟩
    refine o_nil (n_then ?_)
    refine c_if rfl (fun h17 => ?_) (fun h17 => ?_)
    · refine c_seq (c_region (o_move rfl rfl (o_move rfl rfl ?_)))
      refine o_build (vs := [(0, B s), (1, v9)]) rfl rfl (r_buildR2 b9.isS) ?_
      obtain ⟨p, q, w3, hp, hs, q3, k3, n3, d3⟩ := (k6.ext ((x9.trans x15))).stR ⟨_, _, _, rfl⟩ ⟨_, _, _, rfl⟩ (RatV.mk (b := s) (b9.ext (x15)) (Wds.nil _))
      refine o_store rfl rfl (hs) (o_nil (n_then (c_ret (r_then ?_))))
      refine r_bodyc rfl rfl k3 Try.underlying35 rfl size_Rat ?_
      exact ⟨_, rfl, (((x6.trans x9).trans x15)).of_new q3 l6, p, q, rfl, by rw [h17, Nat.gcd_one_right, Nat.div_one]; exact n3, by rw [h17, cq_one]; exact d3⟩
    · obtain ⟨g, hg⟩ : ∃ g, g = Nat.gcd (val n) (val d) := ⟨_, rfl⟩
      rw [← hg] at hg0 ⊢
      have hgl : (lb g).length ≤ d.length := Nat.le_trans (lb_len_lt (by rw [hg]; exact Nat.gcd_le_right _ hd0)) hdd
      refine c_skip (n_then (c_seq ?_))
      refine c_cut (fun p : Value × Value => [(0, B s), (1, p.1), (2, p.2), (6, .pointer (some ⟨g6, 0, none⟩))]) (fun p w' => Ext w15 w' ∧ Wds (lb (val n / g)) p.1 w' ∧ Wds (lb (val d / g)) p.2 w') ?_ ?_
      · refine c_seq (c_region (o_move rfl rfl (o_move rfl rfl (o_call call_NGcd rfl rfl ((by have := NGcd_spec (b9.ext x15) b15 (by omega) (by omega); rw [val_lb, val_lb] at this; exact this)) ?_))))
        rintro v23 w23 ⟨x23, b23⟩
        rw [← hg] at b23
        refine o_assign rfl rfl (o_nil (n_then (c_seq (c_region (o_move rfl rfl (o_call call_QUnit rfl rfl (QUnit_spec b23) ?_))))))
        rintro v25 _ ⟨rfl, rfl⟩
        refine o_not rfl rfl r_not_d (o_nil (n_then ?_))
        refine c_if rfl (fun h26 => ?_) (fun h26 => ?_)
        · refine c_seq (c_region (o_move rfl rfl (o_move rfl rfl (o_call call_NDivMod rfl rfl ((by have := NDivMod_spec (b9.ext (x15.trans x23)) b23 (by omega) (by omega) (by rw [val_lb]; exact hg0); rw [val_lb, val_lb] at this; exact this)) ?_))))
          rintro v30 w30 ⟨x30, q1, s1, rfl, c1, e1⟩
          refine o_move rfl rfl (o_extract rfl rfl (r_ext3_0) (o_extract rfl rfl r_ext3_1 (o_extract rfl rfl r_ext3_2 (o_assign rfl rfl (o_nil (n_then (c_region (o_move rfl rfl (o_move rfl rfl ?_)))))))))
          refine o_call call_NDivMod rfl rfl ((by have := NDivMod_spec (b15.ext (x23.trans x30)) (b23.ext x30) (by omega) (by omega) (by rw [val_lb]; exact hg0); rw [val_lb, val_lb] at this; exact this)) ?_
          rintro v37 w37 ⟨x37, q2, s2, rfl, c2, e2⟩
          refine o_move rfl rfl (o_extract rfl rfl (r_ext3_0) (o_extract rfl rfl r_ext3_1 (o_extract rfl rfl r_ext3_2 (o_assign rfl rfl (o_nil ?_)))))
          exact n_meet (q1, q2) ⟨rfl, rfl, rfl, rfl, trivial⟩ ⟨((x23.trans x30).trans x37), by first | exact (c1.ext x37) | (rw [show g = 1 from Classical.byContradiction fun h => h26 h, Nat.div_one]; exact (c1.ext x37)), by first | exact c2 | (rw [show g = 1 from Classical.byContradiction fun h => h26 h, Nat.div_one]; exact c2)⟩
        · refine c_skip ?_
          exact n_meet (v9, v15) ⟨rfl, rfl, rfl, rfl, trivial⟩ ⟨x23, by first | exact (b9.ext (x15.trans x23)) | (rw [show g = 1 from Classical.byContradiction fun h => h26 h, Nat.div_one]; exact (b9.ext (x15.trans x23))), by first | exact (b15.ext x23) | (rw [show g = 1 from Classical.byContradiction fun h => h26 h, Nat.div_one]; exact (b15.ext x23))⟩
      rintro ⟨v1, v2⟩ w8 ⟨x8, b1, b2⟩
      refine n_then (c_seq ?_)
      refine c_cut (fun p : Value => [(0, B s), (1, v1), (2, p), (6, .pointer (some ⟨g6, 0, none⟩))]) (fun p w' => w8 = w' ∧ Wds (cqD (val n) (val d)) p w') ?_ ?_
      · refine c_seq (c_region (o_move rfl rfl (o_call call_QUnit rfl rfl (QUnit_spec b2) ?_)))
        rintro v42 _ ⟨rfl, rfl⟩
        refine o_nil (n_then ?_)
        refine c_if rfl (fun h42 => ?_) (fun h42 => ?_)
        · refine c_region (o_assign rfl rfl (o_nil ?_))
          exact n_meet (.slice none 0 0) ⟨rfl, rfl, rfl, rfl, trivial⟩ ⟨rfl, by unfold cqD; rw [← hg]; first | (rw [if_pos h42]; exact Wds.nil _) | (rw [if_neg h42]; exact b2)⟩
        · refine c_skip ?_
          exact n_meet (v2) ⟨rfl, rfl, rfl, rfl, trivial⟩ ⟨rfl, by unfold cqD; rw [← hg]; first | (rw [if_pos h42]; exact Wds.nil _) | (rw [if_neg h42]; exact b2)⟩
      rintro v2' _ ⟨rfl, b2'⟩
      refine n_then (c_seq (c_region (o_move rfl rfl (o_move rfl rfl (o_move rfl rfl ?_)))))
      refine o_build (vs := [(0, B s), (1, v1), (2, v2')]) rfl rfl (r_buildR b1.isS b2'.isS) ?_
      obtain ⟨p, q, w3, hp, hs, q3, k3, n3, d3⟩ := (k6.ext (((x9.trans x15).trans x8))).stR ⟨_, _, _, rfl⟩ ⟨_, _, _, rfl⟩ (RatV.mk (b := s) b1 b2')
      refine o_store rfl rfl (hs) (o_nil (n_then (c_ret ?_)))
      refine r_bodyc rfl rfl k3 Try.underlying35 rfl size_Rat ?_
      exact ⟨_, rfl, ((((x6.trans x9).trans x15).trans x8)).of_new q3 l6, p, q, rfl, n3, d3⟩
theorem ud_len {m : List UInt32} (h : m.length ≤ 137438953472) : (ud m).length ≤ 137438953472 := by
  unfold ud
  split
  · simp
  · exact h
theorem QCanon_spec {w : World} {b : Bool} {n m : List UInt32} {v : Value} (hv : RatV b n m v w) (hnl : n.length ≤ 137438953472) (hml : m.length ≤ 137438953472) :
    Calls Try.prog 70 #[v] w (Ret fun r w' => Ext w w' ∧ RatV (cqN b (val n)) (lb (val n / Nat.gcd (val n) (val (ud m)))) (cqD (val n) (val (ud m))) r w') := by
  refine enter (vs := [v]) Try.func70 rfl rfl rfl ?_
  refine c_seq (c_region ?_)
  obtain ⟨g1, y1, z1, w1, hr1, x1, k1, n1, d1⟩ := r_boxR hv
  refine o_box rfl rfl hr1 ?_
  obtain ⟨g2, w2, hr2, l2, x2, k2⟩ := r_allocR (w := w1)
  refine o_alloc rfl hr2 (o_nil (n_then (c_seq (c_grow 7 [2, 9] (by kernel_rfl) (by kernel_rfl) ?_))))
  refine f_fieldAddr rfl rfl (fun w hw => r_fAt (o := 0) Try.underlying35 rfl (by kernel_rfl) rfl) (f_load rfl rfl (fun w hw => r_load1 Try.underlying4 rfl (hw.cell_some (x2.cell_some (k1.cell (i := 0) rfl)))) ?_)
  refine f_fieldAddr rfl rfl (fun w hw => r_fAt (o := 1) Try.underlying35 rfl (by kernel_rfl) rfl) (f_load rfl rfl (fun w hw => r_load1 Try.underlying33 rfl (hw.cell_some (x2.cell_some (k1.cell (i := 1) rfl)))) ?_)
  refine f_load rfl rfl (fun w hw => ((k1.ext x2).ext hw).ldR) (f_call (S := Wds (ud m)) call_QUnder (Wds.stable _) rfl (fun w hw => by rintro _ rfl; exact QUnder_spec (((RatV.mk n1 d1).ext x2).ext hw) (by omega)) ?_)
  refine f_call (S := RatV (cqN b (val n)) (lb (val n / Nat.gcd (val n) (val (ud m)))) (cqD (val n) (val (ud m)))) call_QQuot (RatV.stable _ _ _) rfl (fun w hw => by rintro _ rfl _ rfl z hz; exact QQuot_spec ((n1.ext x2).ext hw) hz (by omega) (by have := ud_len hml; omega) (ud_pos m)) ?_
  refine f_nil ?_
  intro wg1 xg1
  rintro _ rfl
  intro vg9 b9
  obtain ⟨p, q, w3, hp, hs, q3, k3, n3, d3⟩ := (k2.ext xg1).stR ⟨_, _, _, rfl⟩ ⟨_, _, _, rfl⟩ b9
  refine o_store rfl rfl (hs) (o_nil (n_then (c_ret ?_)))
  refine r_bodyc rfl rfl k3 Try.underlying35 rfl size_Rat ?_
  exact ⟨_, rfl, (((x1.trans x2).trans xg1)).of_new q3 (Nat.le_trans x1.size l2), p, q, rfl, n3, d3⟩
theorem cmpN_zero {x y : Nat} : cmpN x y = 0 ↔ x = y := by
  unfold cmpN
  split
  · omega
  · split <;> omega
theorem rv_nil {b : Bool} {n : List UInt32} : rv b n [] = decide (b = cqN b (val n) ∧ n = lb (val n)) := by
  unfold rv
  rw [show val (ud []) = 1 from rfl, Nat.gcd_one_right, Nat.div_one, cq_one]
  simp
theorem QValid_spec {w : World} {b : Bool} {n m : List UInt32} {v : Value} (hv : RatV b n m v w) (hnl : n.length ≤ 137438953472) (hml : m.length ≤ 137438953472) :
    Calls Try.prog 56 #[v] w (Ret fun r w' => Ext w w' ∧ r = B (rv b n m)) := by
  refine enter (vs := [v]) Try.func56 rfl rfl rfl ?_
  obtain ⟨b', hb'⟩ : ∃ b', b' = cqN b (val n) := ⟨_, rfl⟩
  obtain ⟨n', hn'⟩ : ∃ n', n' = lb (val n / Nat.gcd (val n) (val (ud m))) := ⟨_, rfl⟩
  obtain ⟨m', hm'⟩ : ∃ m', m' = cqD (val n) (val (ud m)) := ⟨_, rfl⟩
  have hrv : rv b n m = decide (b = b' ∧ n = n' ∧ m = m') := by rw [hb', hn', hm']; rfl
  refine c_seq (c_region ?_)
  obtain ⟨g1, y1, z1, w1, hr1, x1, k1, n1, d1⟩ := r_boxR hv
  refine o_box rfl rfl hr1 (o_assign rfl rfl (o_nil (n_then (c_seq (c_seq (c_region (o_fieldAddr rfl rfl (r_fAt (o := 2) Try.underlying35 rfl (by kernel_rfl) rfl) ?_)))))))
  refine o_load rfl rfl (r_load1 Try.underlying33 rfl (k1.cell (i := 2) rfl)) (o_len rfl rfl (r_lenW Try.underlying33 d1) (o_bin rfl rfl rfl (r_eql_i) ?_))
  refine o_nil (n_then ?_)
  refine c_if rfl (fun h7 => ?_) (fun h7 => ?_)
  · have hm0 : m = [] := List.eq_nil_of_length_eq_zero (by omega)
    subst hm0
    refine c_seq ?_
    cases b
    · refine c_region (o_fieldAddr rfl rfl (r_fAt (o := 1) Try.underlying35 rfl (by kernel_rfl) rfl) (o_load rfl rfl (r_load1 Try.underlying33 rfl (k1.cell (i := 1) rfl)) ?_))
      refine o_call call_NValid rfl rfl (NValid_spec n1) ?_
      rintro v10 _ ⟨rfl, rfl⟩
      refine o_move rfl rfl ?_
      refine o_dec (fun h11 => ?_) (fun h11 => ?_)
      · refine g_yes rfl (o_fieldAddr rfl rfl (r_fAt (o := 0) Try.underlying35 rfl (by kernel_rfl) rfl) (g_yes rfl (o_load rfl rfl (r_load1 Try.underlying4 rfl (k1.cell (i := 0) rfl)) ?_)))
        refine g_yes rfl (o_not rfl rfl r_not (g_yes rfl (o_move rfl rfl (g_no rfl rfl rfl (g_no rfl rfl rfl (g_no rfl rfl rfl (g_no rfl rfl rfl (g_yes rfl (o_pick_t rfl rfl rfl (o_pick_t rfl rfl rfl ?_))))))))))
        refine o_assign rfl rfl (o_nil (n_then (c_ret (r_then (r_body1 rfl rfl ?_)))))
        exact ⟨_, rfl, x1, by
          rw [rv_nil]
          first
          | exact congrArg B (decide_eq_true ⟨rfl, h11.symm⟩).symm
          | exact congrArg B (decide_eq_false fun h => h11 h.2.symm).symm
          | (have e := @lb_len0 (val n)
             rw [h11] at e
             refine congrArg B (decide_eq_decide.2 ⟨fun h => ⟨(decide_eq_true (show 0 < val n by omega)).symm, h11.symm⟩, fun h => ?_⟩)
             have : 0 < val n := of_decide_eq_true h.1.symm
             omega)⟩
      · refine g_no rfl rfl rfl (g_no rfl rfl rfl (g_no rfl rfl rfl (g_no rfl rfl rfl (g_undef rfl rfl rfl (g_undef rfl rfl rfl (g_undef rfl rfl rfl (g_undef rfl rfl rfl (g_no rfl rfl rfl ?_))))))))
        refine o_pick_f rfl rfl rfl (o_assign rfl rfl (o_nil (n_then (c_ret (r_then (r_body1 rfl rfl ?_))))))
        exact ⟨_, rfl, x1, by
          rw [rv_nil]
          first
          | exact congrArg B (decide_eq_true ⟨rfl, h11.symm⟩).symm
          | exact congrArg B (decide_eq_false fun h => h11 h.2.symm).symm
          | (have e := @lb_len0 (val n)
             rw [h11] at e
             refine congrArg B (decide_eq_decide.2 ⟨fun h => ⟨(decide_eq_true (show 0 < val n by omega)).symm, h11.symm⟩, fun h => ?_⟩)
             have : 0 < val n := of_decide_eq_true h.1.symm
             omega)⟩
    · refine c_region (o_fieldAddr rfl rfl (r_fAt (o := 1) Try.underlying35 rfl (by kernel_rfl) rfl) (o_load rfl rfl (r_load1 Try.underlying33 rfl (k1.cell (i := 1) rfl)) ?_))
      refine o_call call_NValid rfl rfl (NValid_spec n1) ?_
      rintro v10 _ ⟨rfl, rfl⟩
      refine o_move rfl rfl ?_
      refine o_dec (fun h11 => ?_) (fun h11 => ?_)
      · refine g_yes rfl (o_fieldAddr rfl rfl (r_fAt (o := 0) Try.underlying35 rfl (by kernel_rfl) rfl) (g_yes rfl (o_load rfl rfl (r_load1 Try.underlying4 rfl (k1.cell (i := 0) rfl)) ?_)))
        refine g_yes rfl (o_not rfl rfl r_not (g_yes rfl (o_move rfl rfl (g_yes rfl (o_fieldAddr rfl rfl (r_fAt (o := 1) Try.underlying35 rfl (by kernel_rfl) rfl) ?_)))))
        refine g_yes rfl (o_load rfl rfl (r_load1 Try.underlying33 rfl (k1.cell (i := 1) rfl)) (g_yes rfl (o_len rfl rfl (r_lenW Try.underlying33 n1) ?_)))
        refine g_yes rfl (o_bin rfl rfl rfl (r_gtr_i) (g_yes rfl (o_pick_f rfl rfl rfl (o_pick_t rfl rfl rfl (o_assign rfl rfl (o_nil (n_then (c_ret (r_then (r_body1 rfl rfl ?_))))))))))
        exact ⟨_, rfl, x1, by
          rw [rv_nil]
          first
          | exact congrArg B (decide_eq_true ⟨rfl, h11.symm⟩).symm
          | exact congrArg B (decide_eq_false fun h => h11 h.2.symm).symm
          | (have e := @lb_len0 (val n)
             rw [h11] at e
             refine congrArg B (decide_eq_decide.2 ⟨fun h => ⟨(decide_eq_true (show 0 < val n by omega)).symm, h11.symm⟩, fun h => ?_⟩)
             have : 0 < val n := of_decide_eq_true h.1.symm
             omega)⟩
      · refine g_no rfl rfl rfl (g_no rfl rfl rfl (g_no rfl rfl rfl (g_no rfl rfl rfl (g_undef rfl rfl rfl (g_undef rfl rfl rfl (g_undef rfl rfl rfl (g_undef rfl rfl rfl (g_no rfl rfl rfl ?_))))))))
        refine o_pick_f rfl rfl rfl (o_assign rfl rfl (o_nil (n_then (c_ret (r_then (r_body1 rfl rfl ?_))))))
        exact ⟨_, rfl, x1, by
          rw [rv_nil]
          first
          | exact congrArg B (decide_eq_true ⟨rfl, h11.symm⟩).symm
          | exact congrArg B (decide_eq_false fun h => h11 h.2.symm).symm
          | (have e := @lb_len0 (val n)
             rw [h11] at e
             refine congrArg B (decide_eq_decide.2 ⟨fun h => ⟨(decide_eq_true (show 0 < val n by omega)).symm, h11.symm⟩, fun h => ?_⟩)
             have : 0 < val n := of_decide_eq_true h.1.symm
             omega)⟩
  · refine c_skip (n_then (c_seq (c_region (o_load rfl rfl (k1.ldR) (o_call call_QCanon rfl rfl (QCanon_spec (RatV.mk n1 d1) hnl hml) ?_)))))
    rintro v23 w23 ⟨x23, b23⟩
    rw [← hb', ← hn', ← hm'] at b23
    obtain ⟨g3, w3, hr3, l3, x3, k3⟩ := r_allocR (w := w23)
    refine o_alloc rfl hr3 ?_
    obtain ⟨p, q, w4, hp, hs, q4, k4, n3, d3⟩ := k3.stR ⟨_, _, _, rfl⟩ ⟨_, _, _, rfl⟩ (b23.ext x3)
    refine o_store rfl rfl (hs) ?_
    have x4 := (x23.trans x3).of_new q4 (Nat.le_trans x23.size l3)
    refine o_nil (n_then (c_seq (c_region (o_fieldAddr rfl rfl (r_fAt (o := 0) Try.underlying35 rfl (by kernel_rfl) rfl) (o_load rfl rfl (r_load1 Try.underlying4 rfl (x4.cell_some (k1.cell (i := 0) rfl))) ?_)))))
    refine o_fieldAddr rfl rfl (r_fAt (o := 0) Try.underlying35 rfl (by kernel_rfl) rfl) (o_load rfl rfl (r_load1 Try.underlying4 rfl (k4.cell (i := 0) rfl)) ?_)
    refine o_bin rfl rfl rfl (r_eql_b Try.underlying4) (o_move rfl rfl ?_)
    refine o_dec (fun h29 => ?_) (fun h29 => ?_)
    · refine g_yes rfl (o_fieldAddr rfl rfl (r_fAt (o := 1) Try.underlying35 rfl (by kernel_rfl) rfl) (g_yes rfl (o_load rfl rfl (r_load1 Try.underlying33 rfl (x4.cell_some (k1.cell (i := 1) rfl))) ?_)))
      refine g_yes rfl (o_len rfl rfl (r_lenW Try.underlying33 (n1.ext x4)) (g_yes rfl (o_fieldAddr rfl rfl (r_fAt (o := 1) Try.underlying35 rfl (by kernel_rfl) rfl) ?_)))
      refine g_yes rfl (o_load rfl rfl (r_load1 Try.underlying33 rfl (k4.cell (i := 1) rfl)) (g_yes rfl (o_len rfl rfl (r_lenW Try.underlying33 n3) ?_)))
      refine g_yes rfl (o_bin rfl rfl rfl (r_eql_i) (o_pick_t rfl rfl rfl (o_move rfl rfl ?_)))
      refine o_dec (fun h38 => ?_) (fun h38 => ?_)
      · refine g_yes rfl (o_fieldAddr rfl rfl (r_fAt (o := 2) Try.underlying35 rfl (by kernel_rfl) rfl) (g_yes rfl (o_load rfl rfl (r_load1 Try.underlying33 rfl (x4.cell_some (k1.cell (i := 2) rfl))) ?_)))
        refine g_yes rfl (o_len rfl rfl (r_lenW Try.underlying33 (d1.ext x4)) (g_yes rfl (o_fieldAddr rfl rfl (r_fAt (o := 2) Try.underlying35 rfl (by kernel_rfl) rfl) ?_)))
        refine g_yes rfl (o_load rfl rfl (r_load1 Try.underlying33 rfl (k4.cell (i := 2) rfl)) (g_yes rfl (o_len rfl rfl (r_lenW Try.underlying33 d3) ?_)))
        refine g_yes rfl (o_bin rfl rfl rfl (r_eql_i) (o_pick_t rfl rfl rfl (o_move rfl rfl ?_)))
        refine o_dec (fun h47 => ?_) (fun h47 => ?_)
        · refine g_yes rfl (o_fieldAddr rfl rfl (r_fAt (o := 1) Try.underlying35 rfl (by kernel_rfl) rfl) (g_yes rfl (o_load rfl rfl (r_load1 Try.underlying33 rfl (x4.cell_some (k1.cell (i := 1) rfl))) ?_)))
          refine g_yes rfl (o_fieldAddr rfl rfl (r_fAt (o := 1) Try.underlying35 rfl (by kernel_rfl) rfl) (g_yes rfl (o_load rfl rfl (r_load1 Try.underlying33 rfl (k4.cell (i := 1) rfl)) ?_)))
          refine g_yes rfl (o_call call_NCmp rfl rfl (NCmp_spec (n1.ext x4) n3) ?_)
          rintro v52 w52 ⟨x52, rfl⟩
          refine g_yes rfl (o_bin rfl rfl rfl (r_eql_i) (o_pick_t rfl rfl rfl (o_move rfl rfl ?_)))
          refine o_dec (fun h55 => ?_) (fun h55 => ?_)
          · refine g_yes rfl (o_fieldAddr rfl rfl (r_fAt (o := 2) Try.underlying35 rfl (by kernel_rfl) rfl) (g_yes rfl (o_load rfl rfl (r_load1 Try.underlying33 rfl ((x4.trans x52).cell_some (k1.cell (i := 2) rfl))) ?_)))
            refine g_yes rfl (o_fieldAddr rfl rfl (r_fAt (o := 2) Try.underlying35 rfl (by kernel_rfl) rfl) (g_yes rfl (o_load rfl rfl (r_load1 Try.underlying33 rfl (x52.cell_some (k4.cell (i := 2) rfl))) ?_)))
            refine g_yes rfl (o_call call_NCmp rfl rfl (NCmp_spec (d1.ext (x4.trans x52)) (d3.ext x52)) ?_)
            rintro v60 w60 ⟨x60, rfl⟩
            refine g_yes rfl (o_bin rfl rfl rfl (r_eql_i) (o_pick_t rfl rfl rfl (o_assign rfl rfl (o_nil (n_then (c_ret (r_body1 rfl rfl ?_)))))))
            exact ⟨_, rfl, (((x1.trans x4).trans x52).trans x60), by
              rw [hrv]
              first
              | exact congrArg B (decide_eq_decide.2 ⟨fun h => ⟨h29, val_inj (by omega) (cmpN_zero.1 h55), val_inj (by omega) (cmpN_zero.1 h)⟩, fun h => cmpN_zero.2 (by rw [h.2.2])⟩)
              | exact congrArg B (decide_eq_false fun h => h55 (cmpN_zero.2 (by rw [h.2.1]))).symm
              | exact congrArg B (decide_eq_false fun h => h47 (by rw [h.2.2])).symm
              | exact congrArg B (decide_eq_false fun h => h38 (by rw [h.2.1])).symm
              | exact congrArg B (decide_eq_false fun h => h29 h.1).symm⟩
          · refine g_no rfl rfl rfl (g_no rfl rfl rfl (g_no rfl rfl rfl (g_no rfl rfl rfl (g_no rfl rfl rfl (g_no rfl rfl rfl (o_pick_f rfl rfl rfl (o_assign rfl rfl (o_nil (n_then (c_ret (r_body1 rfl rfl ?_)))))))))))
            exact ⟨_, rfl, ((x1.trans x4).trans x52), by
              rw [hrv]
              first
              | exact congrArg B (decide_eq_decide.2 ⟨fun h => ⟨h29, val_inj (by omega) (cmpN_zero.1 h55), val_inj (by omega) (cmpN_zero.1 h)⟩, fun h => cmpN_zero.2 (by rw [h.2.2])⟩)
              | exact congrArg B (decide_eq_false fun h => h55 (cmpN_zero.2 (by rw [h.2.1]))).symm
              | exact congrArg B (decide_eq_false fun h => h47 (by rw [h.2.2])).symm
              | exact congrArg B (decide_eq_false fun h => h38 (by rw [h.2.1])).symm
              | exact congrArg B (decide_eq_false fun h => h29 h.1).symm⟩
        · refine g_no rfl rfl rfl (g_no rfl rfl rfl (g_no rfl rfl rfl (g_no rfl rfl rfl (g_no rfl rfl rfl (g_no rfl rfl rfl (o_pick_f rfl rfl rfl (o_move rfl rfl (g_no rfl rfl rfl (g_no rfl rfl rfl ?_)))))))))
          refine g_no rfl rfl rfl (g_no rfl rfl rfl (g_no rfl rfl rfl (g_no rfl rfl rfl (o_pick_f rfl rfl rfl (o_assign rfl rfl (o_nil (n_then (c_ret (r_body1 rfl rfl ?_)))))))))
          exact ⟨_, rfl, (x1.trans x4), by
            rw [hrv]
            first
            | exact congrArg B (decide_eq_decide.2 ⟨fun h => ⟨h29, val_inj (by omega) (cmpN_zero.1 h55), val_inj (by omega) (cmpN_zero.1 h)⟩, fun h => cmpN_zero.2 (by rw [h.2.2])⟩)
            | exact congrArg B (decide_eq_false fun h => h55 (cmpN_zero.2 (by rw [h.2.1]))).symm
            | exact congrArg B (decide_eq_false fun h => h47 (by rw [h.2.2])).symm
            | exact congrArg B (decide_eq_false fun h => h38 (by rw [h.2.1])).symm
            | exact congrArg B (decide_eq_false fun h => h29 h.1).symm⟩
      · refine g_no rfl rfl rfl (g_no rfl rfl rfl (g_no rfl rfl rfl (g_no rfl rfl rfl (g_no rfl rfl rfl (g_no rfl rfl rfl (g_no rfl rfl rfl (o_pick_f rfl rfl rfl (o_move rfl rfl (g_no rfl rfl rfl ?_)))))))))
        refine g_no rfl rfl rfl (g_no rfl rfl rfl (g_no rfl rfl rfl (g_no rfl rfl rfl (g_no rfl rfl rfl (o_pick_f rfl rfl rfl (o_move rfl rfl (g_no rfl rfl rfl (g_no rfl rfl rfl (g_no rfl rfl rfl ?_)))))))))
        refine g_no rfl rfl rfl (g_no rfl rfl rfl (g_no rfl rfl rfl (o_pick_f rfl rfl rfl (o_assign rfl rfl (o_nil (n_then (c_ret (r_body1 rfl rfl ?_))))))))
        exact ⟨_, rfl, (x1.trans x4), by
          rw [hrv]
          first
          | exact congrArg B (decide_eq_decide.2 ⟨fun h => ⟨h29, val_inj (by omega) (cmpN_zero.1 h55), val_inj (by omega) (cmpN_zero.1 h)⟩, fun h => cmpN_zero.2 (by rw [h.2.2])⟩)
          | exact congrArg B (decide_eq_false fun h => h55 (cmpN_zero.2 (by rw [h.2.1]))).symm
          | exact congrArg B (decide_eq_false fun h => h47 (by rw [h.2.2])).symm
          | exact congrArg B (decide_eq_false fun h => h38 (by rw [h.2.1])).symm
          | exact congrArg B (decide_eq_false fun h => h29 h.1).symm⟩
    · refine g_no rfl rfl rfl (g_no rfl rfl rfl (g_no rfl rfl rfl (g_no rfl rfl rfl (g_no rfl rfl rfl (g_no rfl rfl rfl (g_no rfl rfl rfl (o_pick_f rfl rfl rfl (o_move rfl rfl (g_no rfl rfl rfl ?_)))))))))
      refine g_no rfl rfl rfl (g_no rfl rfl rfl (g_no rfl rfl rfl (g_no rfl rfl rfl (g_no rfl rfl rfl (g_no rfl rfl rfl (o_pick_f rfl rfl rfl (o_move rfl rfl (g_no rfl rfl rfl (g_no rfl rfl rfl ?_)))))))))
      refine g_no rfl rfl rfl (g_no rfl rfl rfl (g_no rfl rfl rfl (g_no rfl rfl rfl (o_pick_f rfl rfl rfl (o_move rfl rfl (g_no rfl rfl rfl (g_no rfl rfl rfl (g_no rfl rfl rfl (g_no rfl rfl rfl ?_)))))))))
      refine g_no rfl rfl rfl (g_no rfl rfl rfl (o_pick_f rfl rfl rfl (o_assign rfl rfl (o_nil (n_then (c_ret (r_body1 rfl rfl ?_)))))))
      exact ⟨_, rfl, (x1.trans x4), by
        rw [hrv]
        first
        | exact congrArg B (decide_eq_decide.2 ⟨fun h => ⟨h29, val_inj (by omega) (cmpN_zero.1 h55), val_inj (by omega) (cmpN_zero.1 h)⟩, fun h => cmpN_zero.2 (by rw [h.2.2])⟩)
        | exact congrArg B (decide_eq_false fun h => h55 (cmpN_zero.2 (by rw [h.2.1]))).symm
        | exact congrArg B (decide_eq_false fun h => h47 (by rw [h.2.2])).symm
        | exact congrArg B (decide_eq_false fun h => h38 (by rw [h.2.1])).symm
        | exact congrArg B (decide_eq_false fun h => h29 h.1).symm⟩
end Go.Rl
/- Walks of package relucertref03: the canonical form. Conditions: the numbers are shorter than 2^37 limbs. -/
namespace Go.Rl
open Go.RowKit Go.Proofs
theorem call_SOne : Callable Try.prog 68 := ⟨_, Try.func68, by kernel_rfl, rfl⟩
theorem call_SQuot : Callable Try.prog 67 := ⟨_, Try.func67, by kernel_rfl, rfl⟩
theorem call_SCanon : Callable Try.prog 48 := ⟨_, Try.func48, by kernel_rfl, rfl⟩
theorem call_SSame : Callable Try.prog 30 := ⟨_, Try.func30, by kernel_rfl, rfl⟩
theorem call_SValid : Callable Try.prog 20 := ⟨_, Try.func20, by kernel_rfl, rfl⟩
theorem SOne_spec {w : World} {m : List UInt32} {v : Value} (hv : Wds m v w) (hl : m.length ≤ 137438953472) :
    Calls Try.prog 68 #[v] w (Ret fun r w' => Ext w w' ∧ Wds (lb (val (ud m))) r w') := by
  refine enter (vs := [v]) Try.func68 rfl rfl rfl ?_
  obtain ⟨t, ht⟩ : ∃ t, t = lb (val m) := ⟨_, rfl⟩
  refine c_seq (c_region (o_assign rfl rfl (o_nil (n_then (c_seq (c_region (o_move rfl rfl (o_call call_RMake rfl rfl (RMake_spec hv (by omega)) ?_))))))))
  rintro v5 w5 ⟨x5, b5⟩
  rw [← ht] at b5
  refine o_assign rfl rfl (o_nil (n_then (c_seq (c_seq (c_region (o_move rfl rfl (o_len rfl rfl (r_lenW Try.underlying33 b5) (o_bin rfl rfl rfl (r_eql_i) (o_nil ?_)))))))))
  refine n_then ?_
  refine c_if rfl (fun h8 => ?_) (fun h8 => ?_)
  · have h0 : val m = 0 := lb_len0.1 (by rw [← ht]; omega)
    refine c_seq (c_region ?_)
    obtain ⟨v9, w9, hr9, x9, o9, ob9⟩ := r_bsW Try.underlying33 (w := w5) w5.heap.size [1] (by simp) (Nat.le_refl _)
    refine o_buildSlice (vs := [(0, U32 (1))]) rfl rfl hr9 (o_assign rfl rfl (o_nil (n_then (c_ret (r_then (r_body1 rfl rfl ?_))))))
    exact ⟨_, rfl, (x5.trans x9), by rw [val_ud, if_pos h0, lb_one]; exact o9.wds⟩
  · have h0 : val m ≠ 0 := fun h => h8 (by rw [ht, h]; rfl)
    refine c_skip (n_then (c_seq (c_region (o_move rfl rfl (o_assign rfl rfl (o_nil (n_then (c_ret (r_body1 rfl rfl ?_)))))))))
    exact ⟨_, rfl, x5, by rw [val_ud, if_neg h0, ← ht]; exact b5⟩
theorem SQuot_spec {w : World} {s : Bool} {n d : List UInt32} {x y : Value} (hn : Wds n x w) (hd : Wds d y w) (hnl : n.length ≤ 274877906944) (hdl : d.length ≤ 274877906944) (hd0 : 0 < val d) :
    Calls Try.prog 67 #[B s, x, y] w (Ret fun r w' => Ext w w' ∧ RatV (cqN s (val n)) (lb (val n / Nat.gcd (val n) (val d))) (cqD (val n) (val d)) r w') := by
  refine enter (vs := [B s, x, y]) Try.func67 rfl rfl rfl ?_
  have hg0 := gcd_pos (n := val n) hd0
  obtain ⟨g, hg⟩ : ∃ g, g = Nat.gcd (val n) (val d) := ⟨_, rfl⟩
  have hgl : (lb g).length ≤ d.length := Nat.le_trans (lb_len_lt (by rw [hg]; exact Nat.gcd_le_right _ hd0)) (lb_lt (val_lt d))
  obtain ⟨e, he⟩ : ∃ e, e = lb (val d / g) := ⟨_, rfl⟩
  obtain ⟨a, ha⟩ : ∃ a, a = lb (val n / g) := ⟨_, rfl⟩
  have hc : decide ((a.length : Int) > 0) = decide (0 < val n) := by
    have e0 := @lb_len0 (val n / g)
    have e1 : val n / g = 0 ↔ val n = 0 := by
      rw [hg]
      constructor
      · intro h
        have := Nat.div_mul_cancel (Nat.gcd_dvd_left (val n) (val d))
        rw [h] at this; omega
      · intro h
        rw [h, Nat.zero_div]
    rw [← ha] at e0
    exact decide_eq_decide.2 (by omega)
  have hq : cqD (val n) (val d) = if e = [1] then [] else e := by
    unfold cqD
    rw [← hg]
    by_cases h1 : val d / g = 1
    · rw [if_pos h1, if_pos (by rw [he, h1, lb_one])]
    · rw [if_neg h1, if_neg (fun h => h1 (lb_is1.1 (he ▸ h))), he]
  rw [← hg] at hg0 ⊢
  rw [← ha]
  refine c_seq (c_region ?_)
  obtain ⟨g6, w6, hr6, l6, x6, k6⟩ := r_allocR (w := w)
  refine o_alloc rfl hr6 (o_nil (n_then (c_seq (c_region (o_move rfl rfl (o_move rfl rfl (o_call call_RGcd rfl rfl (RGcd_spec (hn.ext x6) (hd.ext x6) hnl hdl) ?_)))))))
  rintro v16 w16 ⟨x16, b16⟩
  rw [← hg] at b16
  refine o_assign rfl rfl (o_nil (n_then (c_seq (c_region (o_move rfl rfl (o_move rfl rfl (o_call call_RDivMod rfl rfl ((by have := RDivMod_spec (hn.ext (x6.trans x16)) b16 hnl (by omega) (by rw [val_lb]; exact hg0); rw [val_lb, ← ha] at this; exact this)) ?_)))))))
  rintro v20 w20 ⟨x20, q1, r1, rfl, s1, u1⟩
  refine o_move rfl rfl (o_extract rfl rfl (r_ext3_0) (o_extract rfl rfl r_ext3_1 (o_extract rfl rfl r_ext3_2 (o_assign rfl rfl (o_assign rfl rfl (o_assign rfl rfl (o_nil (n_then ?_))))))))
  refine c_seq (c_region (o_move rfl rfl (o_move rfl rfl (o_call call_RDivMod rfl rfl ((by have := RDivMod_spec (hd.ext ((x6.trans x16).trans x20)) (b16.ext x20) hdl (by omega) (by rw [val_lb]; exact hg0); rw [val_lb, ← he] at this; exact this)) ?_))))
  rintro v27 w27 ⟨x27, q2, r2, rfl, s2, u2⟩
  refine o_move rfl rfl (o_extract rfl rfl (r_ext3_0) (o_extract rfl rfl r_ext3_1 (o_extract rfl rfl r_ext3_2 (o_assign rfl rfl (o_assign rfl rfl (o_assign rfl rfl (o_nil (n_then ?_))))))))
  refine c_seq ?_
  refine c_cut (fun p : Value => [(0, B s), (8, q1), (11, p), (6, .pointer (some ⟨g6, 0, none⟩))]) (fun p w' => w27 = w' ∧ Wds (cqD (val n) (val d)) p w') ?_ ?_
  · refine c_seq (c_region (o_move rfl rfl (o_len rfl rfl (r_lenW Try.underlying33 s2) (o_bin rfl rfl rfl (r_eql_i) (o_move rfl rfl ?_)))))
    refine o_dec (fun h34 => ?_) (fun h34 => ?_)
    · refine g_yes rfl (o_move rfl rfl (g_yes rfl ?_))
      obtain ⟨a36, p36, q36⟩ := r_ixW Try.underlying33 s2 (i := 0) (by omega) .i64
      refine o_indexAddr rfl rfl rfl (p36 _) (g_yes rfl (o_load rfl rfl (r_load1 Try.underlying79 rfl q36) (g_yes rfl (o_bin (v := U32 1) rfl rfl rfl (r_eql_u32) (o_pick_t rfl rfl rfl ?_)))))
      refine o_nil (n_then ?_)
      refine c_if rfl (fun h39 => ?_) (fun h39 => ?_)
      · refine c_region (o_assign rfl rfl (o_nil ?_))
        exact n_meet (.slice none 0 0) ⟨rfl, rfl, rfl, rfl, trivial⟩ ⟨rfl, by
          rw [hq]
          first
          | (rw [if_pos (by
                obtain ⟨y, rfl⟩ := List.length_eq_one_iff.1 (show e.length = 1 by omega)
                simpa using h39)]; exact Wds.nil _)
          | (rw [if_neg (fun h => by subst h; exact h39 rfl)]; exact s2)
          | (rw [if_neg (fun h => by subst h; exact h34 rfl)]; exact s2)⟩
      · refine c_skip ?_
        exact n_meet (q2) ⟨rfl, rfl, rfl, rfl, trivial⟩ ⟨rfl, by
          rw [hq]
          first
          | (rw [if_pos (by
                obtain ⟨y, rfl⟩ := List.length_eq_one_iff.1 (show e.length = 1 by omega)
                simpa using h39)]; exact Wds.nil _)
          | (rw [if_neg (fun h => by subst h; exact h39 rfl)]; exact s2)
          | (rw [if_neg (fun h => by subst h; exact h34 rfl)]; exact s2)⟩
    · refine g_no rfl rfl rfl (g_no rfl rfl rfl (g_no rfl rfl rfl (g_no rfl rfl rfl (o_pick_f rfl rfl rfl (o_nil (n_then (c_no rfl (c_skip ?_))))))))
      exact n_meet (q2) ⟨rfl, rfl, rfl, rfl, trivial⟩ ⟨rfl, by
        rw [hq]
        first
        | (rw [if_pos (by
              obtain ⟨y, rfl⟩ := List.length_eq_one_iff.1 (show e.length = 1 by omega)
              simpa using h39)]; exact Wds.nil _)
        | (rw [if_neg (fun h => by subst h; exact h39 rfl)]; exact s2)
        | (rw [if_neg (fun h => by subst h; exact h34 rfl)]; exact s2)⟩
  rintro v11 _ ⟨rfl, b11⟩
  refine n_then (c_seq ?_)
  cases s
  · refine c_region (o_move rfl rfl (o_move rfl rfl (g_no rfl rfl rfl (g_no rfl rfl rfl (g_no rfl rfl rfl (o_pick_f rfl rfl rfl (o_move rfl rfl (o_move rfl rfl ?_))))))))
    refine o_build (vs := [(0, B (cqN false (val n))), (1, q1), (2, v11)]) rfl rfl (r_buildR s1.isS b11.isS) ?_
    obtain ⟨p, q, w3, hp, hs, q3, k3, n3, d3⟩ := (k6.ext (((x16.trans x20).trans x27))).stR ⟨_, _, _, rfl⟩ ⟨_, _, _, rfl⟩ (RatV.mk (b := cqN false (val n)) (s1.ext x27) b11)
    refine o_store rfl rfl (hs) (o_nil (n_then (c_ret ?_)))
    refine r_bodyc rfl rfl k3 Try.underlying35 rfl size_Rat ?_
    exact ⟨_, rfl, ((((x6.trans x16).trans x20).trans x27)).of_new q3 l6, p, q, rfl, n3, d3⟩
  · refine c_region (o_move rfl rfl (o_move rfl rfl (g_yes rfl (o_move rfl rfl (g_yes rfl (o_len rfl rfl (r_lenW Try.underlying33 (s1.ext x27)) (g_yes rfl (o_bin rfl rfl rfl (r_gtr_i) ?_))))))))
    rw [hc]
    refine o_pick_t rfl rfl rfl (o_move rfl rfl (o_move rfl rfl ?_))
    refine o_build (vs := [(0, B (cqN true (val n))), (1, q1), (2, v11)]) rfl rfl (r_buildR s1.isS b11.isS) ?_
    obtain ⟨p, q, w3, hp, hs, q3, k3, n3, d3⟩ := (k6.ext (((x16.trans x20).trans x27))).stR ⟨_, _, _, rfl⟩ ⟨_, _, _, rfl⟩ (RatV.mk (b := cqN true (val n)) (s1.ext x27) b11)
    refine o_store rfl rfl (hs) (o_nil (n_then (c_ret ?_)))
    refine r_bodyc rfl rfl k3 Try.underlying35 rfl size_Rat ?_
    exact ⟨_, rfl, ((((x6.trans x16).trans x20).trans x27)).of_new q3 l6, p, q, rfl, n3, d3⟩
theorem ud_lb {m : List UInt32} : val (lb (val (ud m))) = val (ud m) := val_lb _
theorem SCanon_spec {w : World} {b : Bool} {n m : List UInt32} {v : Value} (hv : RatV b n m v w) (hnl : n.length ≤ 137438953472) (hml : m.length ≤ 137438953472) :
    Calls Try.prog 48 #[v] w (Ret fun r w' => Ext w w' ∧ RatV (cqN b (val n)) (lb (val n / Nat.gcd (val n) (val (ud m)))) (cqD (val n) (val (ud m))) r w') := by
  refine enter (vs := [v]) Try.func48 rfl rfl rfl ?_
  have hu : (lb (val (ud m))).length ≤ 137438953472 := Nat.le_trans (lb_lt (val_lt _)) (ud_len hml)
  refine c_seq (c_region ?_)
  obtain ⟨g1, y1, z1, w1, hr1, x1, k1, n1, d1⟩ := r_boxR hv
  refine o_box rfl rfl hr1 ?_
  obtain ⟨g2, w2, hr2, l2, x2, k2⟩ := r_allocR (w := w1)
  refine o_alloc rfl hr2 (o_nil (n_then (c_seq (c_grow 8 [2, 10] (by kernel_rfl) (by kernel_rfl) ?_))))
  refine f_fieldAddr rfl rfl (fun w hw => r_fAt (o := 0) Try.underlying35 rfl (by kernel_rfl) rfl) (f_load rfl rfl (fun w hw => r_load1 Try.underlying4 rfl (hw.cell_some (x2.cell_some (k1.cell (i := 0) rfl)))) ?_)
  refine f_fieldAddr rfl rfl (fun w hw => r_fAt (o := 1) Try.underlying35 rfl (by kernel_rfl) rfl) (f_load rfl rfl (fun w hw => r_load1 Try.underlying33 rfl (hw.cell_some (x2.cell_some (k1.cell (i := 1) rfl)))) ?_)
  refine f_fieldAddr rfl rfl (fun w hw => r_fAt (o := 2) Try.underlying35 rfl (by kernel_rfl) rfl) (f_load rfl rfl (fun w hw => r_load1 Try.underlying33 rfl (hw.cell_some (x2.cell_some (k1.cell (i := 2) rfl)))) ?_)
  refine f_call (S := Wds (lb (val (ud m)))) call_SOne (Wds.stable _) rfl (fun w hw => by rintro _ rfl; exact SOne_spec ((d1.ext x2).ext hw) hml) (f_call (S := RatV (cqN b (val n)) (lb (val n / Nat.gcd (val n) (val (ud m)))) (cqD (val n) (val (ud m)))) call_SQuot (RatV.stable _ _ _) rfl (fun w hw => by rintro _ rfl _ rfl z hz; have := SQuot_spec (s := b) ((n1.ext x2).ext hw) hz (by omega) (by omega) (by rw [val_lb]; exact ud_pos m); rw [val_lb] at this; exact this) ?_)
  refine f_nil ?_
  intro wg1 xg1
  rintro _ rfl
  intro vg10 b9
  obtain ⟨p, q, w3, hp, hs, q3, k3, n3, d3⟩ := (k2.ext xg1).stR ⟨_, _, _, rfl⟩ ⟨_, _, _, rfl⟩ b9
  refine o_store rfl rfl (hs) (o_nil (n_then (c_ret ?_)))
  refine r_bodyc rfl rfl k3 Try.underlying35 rfl size_Rat ?_
  exact ⟨_, rfl, (((x1.trans x2).trans xg1)).of_new q3 (Nat.le_trans x1.size l2), p, q, rfl, n3, d3⟩
theorem SSame_spec {w : World} {a b : Bool} {n m p q : List UInt32} {v u : Value} (hv : RatV a n m v w) (hu : RatV b p q u w) :
    Calls Try.prog 30 #[v, u] w (Ret fun r w' => Ext w w' ∧ r = B (decide (a = b ∧ n = p ∧ m = q))) := by
  refine enter (vs := [v, u]) Try.func30 rfl rfl rfl ?_
  refine c_seq (c_region ?_)
  obtain ⟨g2, y2, z2, w2, hr2, x2, k2, n2, d2⟩ := r_boxR hv
  refine o_box rfl rfl hr2 ?_
  obtain ⟨g3, y3, z3, w3, hr3, x3, k3, n3, d3⟩ := r_boxR (hu.ext x2)
  refine o_box rfl rfl hr3 (o_assign rfl rfl (o_nil (n_then (c_seq (c_region (o_fieldAddr rfl rfl (r_fAt (o := 0) Try.underlying35 rfl (by kernel_rfl) rfl) ?_))))))
  refine o_load rfl rfl (r_load1 Try.underlying4 rfl (x3.cell_some (k2.cell (i := 0) rfl))) (o_fieldAddr rfl rfl (r_fAt (o := 0) Try.underlying35 rfl (by kernel_rfl) rfl) ?_)
  refine o_load rfl rfl (r_load1 Try.underlying4 rfl (k3.cell (i := 0) rfl)) (o_bin rfl rfl rfl (r_eql_b Try.underlying4) (o_move rfl rfl ?_))
  refine o_dec (fun h10 => ?_) (fun h10 => ?_)
  · refine g_yes rfl (o_fieldAddr rfl rfl (r_fAt (o := 1) Try.underlying35 rfl (by kernel_rfl) rfl) (g_yes rfl (o_load rfl rfl (r_load1 Try.underlying33 rfl (x3.cell_some (k2.cell (i := 1) rfl))) ?_)))
    refine g_yes rfl (o_fieldAddr rfl rfl (r_fAt (o := 1) Try.underlying35 rfl (by kernel_rfl) rfl) (g_yes rfl (o_load rfl rfl (r_load1 Try.underlying33 rfl (k3.cell (i := 1) rfl)) ?_)))
    refine g_yes rfl (o_call call_RSame rfl rfl (RSame_spec (n2.ext x3) n3) ?_)
    rintro v15 w15 ⟨x15, rfl⟩
    refine o_pick_t rfl rfl rfl (o_move rfl rfl ?_)
    refine o_dec (fun h17 => ?_) (fun h17 => ?_)
    · refine g_yes rfl (o_fieldAddr rfl rfl (r_fAt (o := 2) Try.underlying35 rfl (by kernel_rfl) rfl) (g_yes rfl (o_load rfl rfl (r_load1 Try.underlying33 rfl ((x3.trans x15).cell_some (k2.cell (i := 2) rfl))) ?_)))
      refine g_yes rfl (o_fieldAddr rfl rfl (r_fAt (o := 2) Try.underlying35 rfl (by kernel_rfl) rfl) (g_yes rfl (o_load rfl rfl (r_load1 Try.underlying33 rfl (x15.cell_some (k3.cell (i := 2) rfl))) ?_)))
      refine g_yes rfl (o_call call_RSame rfl rfl (RSame_spec (d2.ext (x3.trans x15)) (d3.ext x15)) ?_)
      rintro v22 w22 ⟨x22, rfl⟩
      refine o_pick_t rfl rfl rfl (o_assign rfl rfl (o_nil (n_then (c_ret (r_body1 rfl rfl ?_)))))
      exact ⟨_, rfl, (((x2.trans x3).trans x15).trans x22), by
        first
        | exact congrArg B (decide_eq_decide.2 ⟨fun h => ⟨h10, h17, h⟩, fun h => h.2.2⟩)
        | exact congrArg B (decide_eq_false fun h => h17 h.2.1).symm
        | exact congrArg B (decide_eq_false fun h => h10 h.1).symm⟩
    · refine g_no rfl rfl rfl (g_no rfl rfl rfl (g_no rfl rfl rfl (g_no rfl rfl rfl (g_no rfl rfl rfl (o_pick_f rfl rfl rfl (o_assign rfl rfl (o_nil (n_then (c_ret (r_body1 rfl rfl ?_))))))))))
      exact ⟨_, rfl, ((x2.trans x3).trans x15), by
        first
        | exact congrArg B (decide_eq_decide.2 ⟨fun h => ⟨h10, h17, h⟩, fun h => h.2.2⟩)
        | exact congrArg B (decide_eq_false fun h => h17 h.2.1).symm
        | exact congrArg B (decide_eq_false fun h => h10 h.1).symm⟩
  · refine g_no rfl rfl rfl (g_no rfl rfl rfl (g_no rfl rfl rfl (g_no rfl rfl rfl (g_no rfl rfl rfl (o_pick_f rfl rfl rfl (o_move rfl rfl (g_no rfl rfl rfl (g_no rfl rfl rfl (g_no rfl rfl rfl ?_)))))))))
    refine g_no rfl rfl rfl (g_no rfl rfl rfl (o_pick_f rfl rfl rfl (o_assign rfl rfl (o_nil (n_then (c_ret (r_body1 rfl rfl ?_)))))))
    exact ⟨_, rfl, (x2.trans x3), by
      first
      | exact congrArg B (decide_eq_decide.2 ⟨fun h => ⟨h10, h17, h⟩, fun h => h.2.2⟩)
      | exact congrArg B (decide_eq_false fun h => h17 h.2.1).symm
      | exact congrArg B (decide_eq_false fun h => h10 h.1).symm⟩
theorem SValid_spec {w : World} {b : Bool} {n m : List UInt32} {v : Value} (hv : RatV b n m v w) (hnl : n.length ≤ 137438953472) (hml : m.length ≤ 137438953472) :
    Calls Try.prog 20 #[v] w (Ret fun r w' => Ext w w' ∧ r = B (rv b n m)) := by
  refine enter (vs := [v]) Try.func20 rfl rfl rfl ?_
  refine c_seq (c_region ?_)
  obtain ⟨g1, y1, z1, w1, hr1, x1, k1, n1, d1⟩ := r_boxR hv
  refine o_box rfl rfl hr1 (o_assign rfl rfl (o_nil (n_then (c_seq (c_grow 4 [6] (by kernel_rfl) (by kernel_rfl) ?_)))))
  refine f_load rfl rfl (fun w hw => (k1.ext hw).ldR) (f_load rfl rfl (fun w hw => (k1.ext hw).ldR) (f_call (S := RatV (cqN b (val n)) (lb (val n / Nat.gcd (val n) (val (ud m)))) (cqD (val n) (val (ud m)))) call_SCanon (RatV.stable _ _ _) rfl (fun w hw => by rintro _ rfl; exact SCanon_spec ((RatV.mk n1 d1).ext hw) hnl hml) ?_))
  refine f_call (S := Is (B (rv b n m))) call_SSame (Stable.is _) rfl (fun w hw => by rintro _ rfl z hz; exact SSame_spec ((RatV.mk n1 d1).ext hw) hz) (f_nil ?_)
  intro wg1 xg1
  rintro _ rfl
  refine o_assign rfl rfl (o_nil (n_then (c_ret (r_body1 rfl rfl ?_))))
  exact ⟨_, rfl, (x1.trans xg1), rfl⟩
end Go.Rl
/- Reading limbs and rationals, in plain words; what stays when a reader moves on. No condition. -/
namespace Go.Rl
open Go.RowKit Go.Proofs

/-! ### What stays -/
/-- Bytes and limbs stay. -/
structure Kp (w w' : World) : Prop where
  size : w.heap.size ≤ w'.heap.size
  bts : ∀ {l : List UInt8} {v : Value}, Bts l v w → Bts l v w'
  wds : ∀ {l : List UInt32} {v : Value}, Wds l v w → Wds l v w'
theorem Kp.of_ext {w w' : World} (h : Ext w w') : Kp w w' := ⟨h.size, fun b => b.ext h, fun b => b.ext h⟩
theorem Kp.refl (w : World) : Kp w w := .of_ext (Ext.refl w)
theorem Kp.trans {a b c : World} (h : Kp a b) (k : Kp b c) : Kp a c := ⟨Nat.le_trans h.size k.size, fun x => k.bts (h.bts x), fun x => k.wds (h.wds x)⟩
theorem Bts.kp {w w' : World} {l : List UInt8} {v : Value} (h : Bts l v w) (k : Kp w w') : Bts l v w' := k.bts h
theorem Wds.kp {w w' : World} {l : List UInt32} {v : Value} (h : Wds l v w) (k : Kp w w') : Wds l v w' := k.wds h
theorem RatV.kp {w w' : World} {b : Bool} {n m : List UInt32} {v : Value} (h : RatV b n m v w) (k : Kp w w') : RatV b n m v w' := by
  obtain ⟨x, y, rfl, h1, h2⟩ := h
  exact ⟨x, y, rfl, h1.kp k, h2.kp k⟩
/-- The reader at block g, of type T. -/
def RdT (T : TypeId) (g : Nat) (st : Option (List UInt8)) (w : World) : Prop := ∃ A n c, Blk g T [.slice A n c, B st.isNone] w ∧ Bts (st.getD []) (.slice A n c) w
theorem RdAt.rdT {g : Nat} {st : Option (List UInt8)} {w : World} (h : RdAt g st w) : RdT 83 g st w := h
theorem RdT.rdAt {g : Nat} {st : Option (List UInt8)} {w : World} (h : RdT 83 g st w) : RdAt g st w := h
section
variable {T : TypeId} {g : Nat} {st : Option (List UInt8)} {w w' : World}
theorem RdT.ext (h : RdT T g st w) (hx : Ext w w') : RdT T g st w' := by
  obtain ⟨A, n, c, h1, h2⟩ := h
  exact ⟨A, n, c, h1.ext hx, h2.ext hx⟩
theorem rd_noWord (A : Option Addr) (n c : Nat) (b : Bool) (l : List UInt32) : ∀ (j : Nat) (u : Value), u ∈ l.map U32 → (#[.slice A n c, .bool b] : Array Value)[j]? ≠ some u := by
  intro j u hu
  obtain ⟨x, _, rfl⟩ := List.mem_map.1 hu
  match j with
  | 0 => simp [U32]
  | 1 => simp [U32]
  | j + 2 => simp
theorem RdT.kp (hr : RdT T g st w) (hw : w.grownBy w' (some g)) : Kp w w' := by
  obtain ⟨A, n, c, h1, _⟩ := hr
  exact ⟨hw.size, fun h => Sl.keep h h1 (rd_noByte A n c _ _) hw, fun h => Sl.keep h h1 (rd_noWord A n c _ _) hw⟩
theorem RdT.other {T' : TypeId} {g' : Nat} {s : Option (List UInt8)} (h : RdT T' g' s w) (hr : RdT T g st w) (hw : w.grownBy w' (some g)) (hne : g' ≠ g) : RdT T' g' s w' := by
  obtain ⟨A, n, c, h1, h2⟩ := h
  exact ⟨A, n, c, h1.other hw (fun e => hne (Option.some.inj e)), h2.kp (hr.kp hw)⟩
/-- The bytes of a reader are replaced. -/
theorem RdT.set {l l' : List UInt8} {v : Value} (h : RdT T g (some l) w) (hv : Bts l' v w) :
    ∃ w', (Instr.storeAt 22 (.pointer (some ⟨g, 0, none⟩)) v).run Try.prog w = .ok () w' ∧ w.grownBy w' (some g) ∧ RdT T g (some l') w' := by
  obtain ⟨A, n, c, h1, h2⟩ := h
  obtain ⟨A', n', c', rfl, h3⟩ := id hv
  have hg := grownBy_setCell w g 0 (.slice A' n' c')
  have hk := RdT.kp (T := T) (st := some l) ⟨A, n, c, h1, h2⟩ hg
  refine ⟨_, r_store1 (i := 0) size_bytes rfl h1 (by simp), hg, A', n', c', h1.set 0 _, hk.bts hv⟩
end

theorem rat_noByte (b : Bool) (A C : Option Addr) (n c m d : Nat) (l : List UInt8) : ∀ (j : Nat) (u : Value), u ∈ l.map U8 → (#[.bool b, .slice A n c, .slice C m d] : Array Value)[j]? ≠ some u := by
  intro j u hu
  obtain ⟨x, _, rfl⟩ := List.mem_map.1 hu
  match j with
  | 0 => simp [U8]
  | 1 => simp [U8]
  | 2 => simp [U8]
  | j + 3 => simp
/-- A rational's block changes. -/
theorem Blk.kpR {g : Nat} {T : TypeId} {b : Bool} {x y : Value} {w w' : World} (h : Blk g T [B b, x, y] w) (hx : ∃ A n c, x = .slice A n c) (hy : ∃ A n c, y = .slice A n c) (hw : w.grownBy w' (some g)) : Kp w w' := by
  obtain ⟨A, n, c, rfl⟩ := hx
  obtain ⟨C, m, d, rfl⟩ := hy
  exact ⟨hw.size, fun k => Sl.keep k h (rat_noByte b A C n c m d _) hw, fun k => Sl.keep k h (rat_noWord b A C n c m d _) hw⟩
theorem RdT.off {T : TypeId} {g g' : Nat} {st : Option (List UInt8)} {w w' : World} (h : RdT T g st w) (k : Kp w w') (hw : w.grownBy w' (some g')) (hne : g ≠ g') : RdT T g st w' := by
  obtain ⟨A, n, c, h1, h2⟩ := h
  exact ⟨A, n, c, h1.other hw (fun e => hne (Option.some.inj e)), h2.kp k⟩
/-- A block that came later changes. -/
theorem gb_new {w w1 w2 : World} {row : Option Nat} {g : Nat} (h : w.grownBy w1 row) (q : w1.grownBy w2 (some g)) (hg : w.heap.size ≤ g) : w.grownBy w2 row :=
  ⟨q.os.trans h.os, q.tape.trans h.tape, q.output.trans h.output, Nat.le_trans h.size q.size, fun i hi hne => (q.block i (Nat.lt_of_lt_of_le hi h.size) (fun e => by have := Option.some.inj e; omega)).trans (h.block i hi hne)⟩
/-- A row in a block and a second result. -/
theorem r_bodyc2 {P : Program} {fn : Func} {R : Ending → World → Prop} {N : Nat} {fr : Fr} {p s : Tmp} {t T : TypeId} {u : Value} {l : List Value} {w : World} {g : Nat} {d : TypeDesc} (hr : fn.results = #[.cell p t, .tmp s]) (hv : lk fr p = some (.pointer (some ⟨g, 0, none⟩))) (hs : lk fr s = some u) (hb : Blk g T l w) (hu : P.underlying t = some d) (hd : d.isRow = true) (hi : (P.info? t).map (·.size) = some l.length)
    (h : R (.returned (.tuple #[.agg l.toArray, u])) w) : ExitJ (bodyPost P fn R) N [] fr w .ret := fun a ha => by
  refine ⟨ha.defers, .tuple #[.agg l.toArray, u], ?_, h⟩
  have hp := ha.at_ p _ hv
  have hp' : a.tmps[p]?.getD undef = .pointer (some ⟨g, 0, none⟩) := by simpa using hp
  have hq := ha.at_ s _ hs
  have hl := run_loadVar_row w g T t l.toArray (0, 0) d hb hu (by cases d <;> first | rfl | exact hd) (by simpa using hi)
  simp [results, hr, hp', asAddr, hl, ← hq]

/-! ### Folded integers -/
def uz (n : Nat) : Int := if n % 2 = 0 then ((n / 2 : Nat) : Int) else -((n / 2 : Nat) : Int) - 1
theorem uz_zig (n : Int) : uz (zig n) = n := by
  unfold uz zig
  split <;> split <;> omega
theorem zig_uz (n : Nat) : zig (uz n) = n := by
  unfold uz zig
  split <;> split <;> omega
theorem r_xor_0 {P : Program} {w : World} {t : TypeId} {x y : Operand} {q : Nat} (hq : q < 9223372036854775808) : (bin .xor t x y (I (q : Int)) (I 0)).run P w = .ok (I (q : Int)) w := by
  have h := r_xor_i (P := P) (w := w) (t := t) (x := x) (y := y) (a := Int64.ofInt q) (b := Int64.ofInt 0)
  rw [Int64.toInt_ofInt_of_le (by simp) (by simp; omega)] at h
  have e : (Int64.ofInt q ^^^ Int64.ofInt 0).toInt = q := by
    rw [show Int64.ofInt 0 = 0 from rfl, Int64.xor_zero, Int64.toInt_ofInt_of_le (by simp) (by simp; omega)]
  rw [e] at h
  exact h
theorem r_xor_1 {P : Program} {w : World} {t : TypeId} {x y : Operand} {q : Nat} (hq : q < 9223372036854775808) : (bin .xor t x y (I (q : Int)) (I (-1))).run P w = .ok (I (-(q : Int) - 1)) w := by
  have h := r_xor_i (P := P) (w := w) (t := t) (x := x) (y := y) (a := Int64.ofInt q) (b := Int64.ofInt (-1))
  rw [Int64.toInt_ofInt_of_le (by simp) (by simp; omega)] at h
  have e : (Int64.ofInt q ^^^ Int64.ofInt (-1)).toInt = -(q : Int) - 1 := by
    have : Int64.ofInt q ^^^ Int64.ofInt (-1) = ~~~ (Int64.ofInt q) := by
      apply Int64.toBitVec_inj.1
      rw [Int64.toBitVec_xor, Int64.toBitVec_not]
      have : (Int64.ofInt (-1)).toBitVec = BitVec.allOnes 64 := by decide
      rw [this, BitVec.xor_allOnes]
    rw [this, Int64.toInt_not, Int64.toInt_ofInt_of_le (by simp) (by simp; omega)]
    exact Int.bmod_eq_of_le (by simp; omega) (by simp; omega)
  rw [e] at h
  exact h

/-! ### Four bytes and a limb -/
def w4 (a b c d : UInt8) : UInt32 := UInt32.ofNat (a.toNat + 256 * b.toNat + 65536 * c.toNat + 16777216 * d.toNat)
theorem w4_nat (a b c d : UInt8) : (w4 a b c d).toNat = a.toNat + 256 * b.toNat + 65536 * c.toNat + 16777216 * d.toNat := by
  have := a.toNat_lt; have := b.toNat_lt; have := c.toNat_lt; have := d.toNat_lt
  unfold w4
  rw [UInt32.toNat_ofNat']
  omega
theorem w4_le4 (x : UInt32) : w4 x.toUInt8 (x >>> UInt32.ofNat 8).toUInt8 (x >>> UInt32.ofNat 16).toUInt8 (x >>> UInt32.ofNat 24).toUInt8 = x := by
  have := u32_lt x
  refine u32_ext ?_
  rw [w4_nat]
  simp only [UInt32.toNat_toUInt8, UInt32.toNat_shiftRight, show (UInt32.ofNat 8).toNat = 8 from rfl, show (UInt32.ofNat 16).toNat = 16 from rfl, show (UInt32.ofNat 24).toNat = 24 from rfl, Nat.shiftRight_eq_div_pow, Nat.reduceMod, Nat.reducePow]
  omega
theorem le4_w4 (a b c d : UInt8) : le4 (w4 a b c d) = [a, b, c, d] := by
  have ha := a.toNat_lt; have hb := b.toNat_lt; have hc := c.toNat_lt; have hd := d.toNat_lt
  have e : ∀ x y : UInt8, x.toNat = y.toNat → x = y := fun x y h => UInt8.toNat_inj.1 h
  have h := w4_nat a b c d
  unfold le4
  congr 1
  · refine e _ _ ?_
    rw [UInt32.toNat_toUInt8, h]; omega
  congr 1
  · refine e _ _ ?_
    rw [UInt32.toNat_toUInt8, UInt32.toNat_shiftRight, h, show (UInt32.ofNat 8).toNat % 32 = 8 from rfl, Nat.shiftRight_eq_div_pow]; omega
  congr 1
  · refine e _ _ ?_
    rw [UInt32.toNat_toUInt8, UInt32.toNat_shiftRight, h, show (UInt32.ofNat 16).toNat % 32 = 16 from rfl, Nat.shiftRight_eq_div_pow]; omega
  congr 1
  · refine e _ _ ?_
    rw [UInt32.toNat_toUInt8, UInt32.toNat_shiftRight, h, show (UInt32.ofNat 24).toNat % 32 = 24 from rfl, Nat.shiftRight_eq_div_pow]; omega
theorem u8_u32 (a : UInt8) : a.toUInt32.toNat = a.toNat := by simp
theorem w4_or (a b c d : UInt8) : ((a.toUInt32 ||| (b.toUInt32 <<< UInt32.ofNat 8)) ||| (c.toUInt32 <<< UInt32.ofNat 16)) ||| (d.toUInt32 <<< UInt32.ofNat 24) = w4 a b c d := by
  have ha := a.toNat_lt; have hb := b.toNat_lt; have hc := c.toNat_lt; have hd := d.toNat_lt
  have sh : ∀ (x : UInt8) (k : Nat), k ≤ 24 → (x.toUInt32 <<< UInt32.ofNat k).toNat = x.toNat <<< k := fun x k hk => by
    have hx := x.toNat_lt
    rw [UInt32.toNat_shiftLeft, u8_u32]
    have : (UInt32.ofNat k).toNat % 32 = k := by rw [UInt32.toNat_ofNat']; omega
    rw [this, Nat.shiftLeft_eq]
    have : 2 ^ k ≤ 2 ^ 24 := Nat.pow_le_pow_right (by omega) hk
    have : x.toNat * 2 ^ k ≤ 255 * 2 ^ 24 := Nat.mul_le_mul (by omega) this
    omega
  refine u32_ext ?_
  rw [w4_nat]
  simp only [UInt32.toNat_or, sh _ 8 (by omega), sh _ 16 (by omega), sh _ 24 (by omega), u8_u32]
  rw [Nat.or_comm a.toNat, ← Nat.shiftLeft_add_eq_or_of_lt (by omega), Nat.or_comm _ (c.toNat <<< 16), ← Nat.shiftLeft_add_eq_or_of_lt (by rw [Nat.shiftLeft_eq]; omega), Nat.or_comm _ (d.toNat <<< 24), ← Nat.shiftLeft_add_eq_or_of_lt (by simp only [Nat.shiftLeft_eq]; omega)]
  simp only [Nat.shiftLeft_eq]
  omega
theorem w4_add (a b c d : UInt8) : ((a.toUInt32 + (b.toUInt32 * 256)) + (c.toUInt32 * 65536)) + (d.toUInt32 * 16777216) = w4 a b c d := by
  have ha := a.toNat_lt; have hb := b.toNat_lt; have hc := c.toNat_lt; have hd := d.toNat_lt
  refine u32_ext ?_
  rw [w4_nat]
  simp only [UInt32.toNat_add, UInt32.toNat_mul, u8_u32, show (256 : UInt32).toNat = 256 from rfl, show (65536 : UInt32).toNat = 65536 from rfl, show (16777216 : UInt32).toNat = 16777216 from rfl]
  omega

def unle4 : List UInt8 → List UInt32
  | a :: b :: c :: d :: l => w4 a b c d :: unle4 l
  | _ => []
theorem unle4_len : ∀ (n : Nat) (l : List UInt8), l.length = 4 * n → (unle4 l).length = n
  | 0, [], _ => rfl
  | n + 1, a :: b :: c :: d :: l, h => by
    have := unle4_len n l (by simp at h; omega)
    simp [unle4, this]
  | n + 1, [], h => by simp at h
  | n + 1, [_], h => by simp at h; omega
  | n + 1, [_, _], h => by simp at h; omega
  | n + 1, [_, _, _], h => by simp at h; omega
theorem unle4_le4s : ∀ (l : List UInt32), unle4 (le4s l) = l
  | [] => rfl
  | x :: l => by
    have e : le4s (x :: l) = le4 x ++ le4s l := by simp [le4s]
    rw [e, le4, List.cons_append, List.cons_append, List.cons_append, List.cons_append, List.nil_append, unle4, w4_le4, unle4_le4s l]
theorem le4s_unle4 : ∀ (n : Nat) (l : List UInt8), l.length = 4 * n → le4s (unle4 l) = l
  | 0, [], _ => rfl
  | n + 1, a :: b :: c :: d :: l, h => by
    have := le4s_unle4 n l (by simp at h; omega)
    have e : ∀ x (l : List UInt32), le4s (x :: l) = le4 x ++ le4s l := fun x l => by simp [le4s]
    rw [unle4, e, this, le4_w4]; rfl
  | n + 1, [], h => by simp at h
  | n + 1, [_], h => by simp at h; omega
  | n + 1, [_, _], h => by simp at h; omega
  | n + 1, [_, _, _], h => by simp at h; omega
/-- One limb more. -/
theorem unle4_next : ∀ (i : Nat) (l : List UInt8) (h : 4 * (i + 1) ≤ l.length), unle4 (l.take (4 * (i + 1))) = unle4 (l.take (4 * i)) ++ [w4 (l[4 * i]) (l[4 * i + 1]) (l[4 * i + 2]) (l[4 * i + 3])]
  | 0, a :: b :: c :: d :: l, _ => by simp [unle4]
  | i + 1, a :: b :: c :: d :: l, h => by
    have := unle4_next i l (by simp at h; omega)
    have e1 : 4 * (i + 1 + 1) = 4 * (i + 1) + 4 := by omega
    have e2 : 4 * (i + 1) = 4 * i + 4 := by omega
    simp only [e1, List.take_succ_cons, unle4, this]
    simp only [e2, List.take_succ_cons, unle4, List.cons_append]
    rfl
  | i, [], h => by simp at h
  | i, [_], h => by simp at h; omega
  | i, [_, _], h => by simp at h; omega
  | i, [_, _, _], h => by simp at h; omega

/-! ### Numbers and rationals -/
/-- Limbs, with their count ahead; only the canonical ones are read. -/
def rdN (l : List UInt8) : Option (List UInt32 × List UInt8) := (rdU l).bind fun p =>
  if p.1 ≤ p.2.length / 4 ∧ lb (val (unle4 (p.2.take (4 * p.1)))) = unle4 (p.2.take (4 * p.1)) then some (unle4 (p.2.take (4 * p.1)), p.2.drop (4 * p.1)) else none
theorem rdN_encN {m : List UInt32} (h : m.length < 18446744073709551616) (hm : lb (val m) = m) (t : List UInt8) : rdN (encN m ++ t) = some (m, t) := by
  have hl := le4s_len m
  have e1 : (le4s m ++ t).take (4 * m.length) = le4s m := by rw [← hl, List.take_left']; rfl
  have e2 : (le4s m ++ t).drop (4 * m.length) = t := by rw [← hl, List.drop_left']; rfl
  unfold rdN encN
  rw [List.append_assoc, rdU_uv h]
  show (if m.length ≤ (le4s m ++ t).length / 4 ∧ lb (val (unle4 ((le4s m ++ t).take (4 * m.length)))) = unle4 ((le4s m ++ t).take (4 * m.length)) then some (unle4 ((le4s m ++ t).take (4 * m.length)), (le4s m ++ t).drop (4 * m.length)) else none) = _
  rw [e1, e2, unle4_le4s, if_pos ⟨by simp only [List.length_append, hl]; omega, hm⟩]
theorem rdN_inv {l t : List UInt8} {m : List UInt32} (h : rdN l = some (m, t)) : l = encN m ++ t ∧ lb (val m) = m ∧ m.length < 18446744073709551616 := by
  unfold rdN at h
  cases hu : rdU l with
  | none => rw [hu] at h; cases h
  | some p =>
    obtain ⟨n, u⟩ := p
    rw [hu] at h
    have h : (if n ≤ u.length / 4 ∧ lb (val (unle4 (u.take (4 * n)))) = unle4 (u.take (4 * n)) then some (unle4 (u.take (4 * n)), u.drop (4 * n)) else none) = some (m, t) := h
    split at h
    · rename_i hc
      simp only [Option.some.injEq, Prod.mk.injEq] at h
      have hl : (u.take (4 * n)).length = 4 * n := by rw [List.length_take]; omega
      have hn := unle4_len n _ hl
      obtain ⟨h1, h2⟩ := rdU_inv hu
      rw [← h.1, ← h.2]
      refine ⟨?_, hc.2, by omega⟩
      unfold encN
      rw [hn, le4s_unle4 n _ hl, List.append_assoc, List.take_append_drop]
      exact h1
    · cases h
/-- A rational: its sign, its numerator, its denominator; only the canonical ones are read. -/
def rdR : List UInt8 → Option ((Bool × List UInt32 × List UInt32) × List UInt8)
  | [] => none
  | c :: l => if 1 < c.toNat then none else (rdN l).bind fun p => (rdN p.2).bind fun q => if rv (decide (c.toNat = 1)) p.1 q.1 = true then some ((decide (c.toNat = 1), p.1, q.1), q.2) else none
end Go.Rl
/- Walks of the reader's limbs and rationals. Conditions: the bytes are not more than 2^39. -/
namespace Go.Rl
open Go.RowKit Go.Proofs
theorem call_rnat : Callable Try.prog 54 := ⟨_, Try.func54, by kernel_rfl, rfl⟩
theorem call_RNat : Callable Try.prog 28 := ⟨_, Try.func28, by kernel_rfl, rfl⟩
theorem call_RRat : Callable Try.prog 29 := ⟨_, Try.func29, by kernel_rfl, rfl⟩
theorem call_RInt : Callable Try.prog 27 := ⟨_, Try.func27, by kernel_rfl, rfl⟩
section
variable {w : World} {g : Nat}
theorem ruv_none {st : Option (List UInt8)} (hr : RdAt g st w) (h : st.bind rdU = none) : Calls Try.prog 52 #[.pointer (some ⟨g, 0, none⟩)] w (Ret fun r w' => w.grownBy w' (some g) ∧ r = .tuple #[U64 0, B false] ∧ ∃ l', RdAt g l' w') := by
  have := ruv_spec hr
  rw [h] at this
  exact this
theorem ruv_some {st : Option (List UInt8)} {n : Nat} {t : List UInt8} (hr : RdAt g st w) (h : st.bind rdU = some (n, t)) : Calls Try.prog 52 #[.pointer (some ⟨g, 0, none⟩)] w (Ret fun r w' => w.grownBy w' (some g) ∧ r = .tuple #[U64 (UInt64.ofNat n), B true] ∧ RdAt g (some t) w') := by
  have := ruv_spec hr
  rw [h] at this
  exact this
end
theorem rdN_u0 {st : Option (List UInt8)} (h : st.bind rdU = none) : st.bind rdN = none := by
  cases st with
  | none => rfl
  | some l =>
    have h : rdU l = none := h
    show rdN l = none
    unfold rdN
    rw [h]; rfl
theorem rdN_u1 {st : Option (List UInt8)} {n : Nat} {t : List UInt8} (h : st.bind rdU = some (n, t)) : st.bind rdN = if n ≤ t.length / 4 ∧ lb (val (unle4 (t.take (4 * n)))) = unle4 (t.take (4 * n)) then some (unle4 (t.take (4 * n)), t.drop (4 * n)) else none := by
  cases st with
  | none => cases h
  | some l =>
    have h : rdU l = some (n, t) := h
    show rdN l = _
    unfold rdN
    rw [h]; rfl
theorem rdU_len {st : Option (List UInt8)} {n : Nat} {t : List UInt8} {k : Nat} (h : st.bind rdU = some (n, t)) (hl : ∀ l, st = some l → l.length ≤ k) : t.length ≤ k ∧ n < 18446744073709551616 := by
  cases st with
  | none => cases h
  | some l =>
    obtain ⟨h1, h2⟩ := rdU_inv (show rdU l = some (n, t) from h)
    have := hl l rfl
    rw [h1, List.length_append] at this
    exact ⟨by omega, h2⟩
def NatR (g : Nat) (w : World) (o : Option (List UInt32 × List UInt8)) (r : Value) (w' : World) : Prop :=
  w.grownBy w' (some g) ∧ match o with
    | some (m, t) => ∃ v, r = .tuple #[v, B true] ∧ Wds m v w' ∧ RdAt g (some t) w'
    | none => ∃ v, r = .tuple #[v, B false] ∧ (∃ m, Wds m v w') ∧ ∃ l', RdAt g l' w'
theorem rnat_spec {w : World} {g : Nat} {st : Option (List UInt8)} (hr : RdAt g st w) (hl : ∀ l, st = some l → l.length ≤ 549755813888) :
    Calls Try.prog 54 #[.pointer (some ⟨g, 0, none⟩)] w (Ret (NatR g w (st.bind rdN))) := by
  refine enter (vs := [.pointer (some ⟨g, 0, none⟩)]) Try.func54 rfl rfl rfl ?_
  refine c_seq (c_region (o_assign rfl rfl (o_assign rfl rfl (o_nil (n_then (c_seq ?_))))))
  rcases hU : st.bind rdU with _ | ⟨n, t⟩
  · refine c_region (o_move rfl rfl (o_call call_ruvarint rfl rfl (ruv_none hr hU) ?_))
    rintro v11 w11 ⟨x11, rfl, l', hr1⟩
    have m11 := (hr.rdT).kp x11
    refine o_move rfl rfl (o_extract rfl rfl (r_ext0) (o_extract rfl rfl (r_ext1) (o_assign rfl rfl (o_assign rfl rfl (o_nil (n_then (c_seq (c_seq (c_region (o_move rfl rfl (o_not rfl rfl r_not ?_)))))))))))
    refine o_move rfl rfl (g_no rfl rfl rfl (g_no rfl rfl rfl (g_no rfl rfl rfl (g_no rfl rfl rfl (g_no rfl rfl rfl (g_no rfl rfl rfl (g_no rfl rfl rfl (g_no rfl rfl rfl (g_no rfl rfl rfl ?_)))))))))
    refine o_pick_t rfl rfl rfl (o_nil (n_then (c_yes rfl (c_seq (c_region (o_assign rfl rfl (o_assign rfl rfl (o_nil (n_then (c_ret (r_then (r_body2 rfl rfl rfl ?_))))))))))))
    exact ⟨_, rfl, x11, by rw [rdN_u0 hU]; exact ⟨_, rfl, ⟨_, Wds.nil _⟩, l', hr1⟩⟩
  · obtain ⟨ht, hn⟩ := rdU_len hU hl
    have hnn : (UInt64.ofNat n).toNat = n := by rw [UInt64.toNat_ofNat']; omega
    refine c_region (o_move rfl rfl (o_call call_ruvarint rfl rfl (ruv_some hr hU) ?_))
    rintro v11 w11 ⟨x11, rfl, hr1⟩
    have m11 := (hr.rdT).kp x11
    refine o_move rfl rfl (o_extract rfl rfl (r_ext0) (o_extract rfl rfl (r_ext1) ?_))
    obtain ⟨A, n', c, k, b⟩ := hr1.rdT
    have b : Bts t (.slice A n' c) w11 := b
    refine o_assign rfl rfl (o_assign rfl rfl (o_nil (n_then (c_seq (c_seq (c_region (o_move rfl rfl (o_not rfl rfl r_not (o_move rfl rfl (g_yes rfl (o_move rfl rfl (g_yes rfl (o_move rfl rfl ?_)))))))))))))
    refine g_yes rfl (o_nilCheck rfl rfl (g_yes rfl (o_fieldAddr rfl rfl (r_fAt (o := 0) Try.underlying83 rfl (by kernel_rfl) rfl) (g_yes rfl (o_load rfl rfl (r_load1 Try.underlying22 rfl (k.cell (i := 0) rfl)) ?_)))))
    refine g_yes rfl (o_len rfl rfl (r_lenB b) (g_yes rfl (o_conv rfl rfl (r_n_u64 Try.underlying3 Try.underlying31) (g_yes rfl (o_bin (v := U64 4) rfl rfl rfl (r_quo_u64 (by decide)) ?_)))))
    refine g_yes rfl (o_bin rfl rfl rfl (r_gtr_u64) (o_pick_f rfl rfl rfl (o_nil (n_then ?_))))
    refine c_if rfl (fun h26 => ?_) (fun h26 => ?_)
    · have hlong : t.length / 4 < n := by
        have h26 := UInt64.lt_iff_toNat_lt.1 h26
        rw [UInt64.toNat_div, hnn, UInt64.toNat_ofNat', show (4 : UInt64).toNat = 4 from rfl] at h26
        omega
      refine c_seq (c_region (o_assign rfl rfl (o_assign rfl rfl (o_nil (n_then (c_ret (r_then (r_body2 rfl rfl rfl ?_))))))))
      exact ⟨_, rfl, x11, by rw [rdN_u1 hU, if_neg (by omega)]; exact ⟨_, rfl, ⟨_, Wds.nil _⟩, _, hr1⟩⟩
    · have hle : n ≤ t.length / 4 := by
        refine Nat.le_of_not_lt fun hh => h26 (UInt64.lt_iff_toNat_lt.2 ?_)
        rw [UInt64.toNat_div, hnn, UInt64.toNat_ofNat', show (4 : UInt64).toNat = 4 from rfl]
        omega
      have h4n : (4 * UInt64.ofNat n).toNat = 4 * n := by
        rw [UInt64.toNat_mul, hnn, show (4 : UInt64).toNat = 4 from rfl]
        omega
      obtain ⟨bs, hbs⟩ : ∃ bs, bs = t.take (4 * n) := ⟨_, rfl⟩
      have hbl : bs.length = 4 * n := by rw [hbs, List.length_take]; omega
      refine c_skip (n_then (c_seq (c_region (o_move rfl rfl (o_move rfl rfl (o_bin (u := U64 4) rfl rfl rfl (r_mul_u64) (o_call call_take rfl rfl ((by have := take_yes (n := 4 * UInt64.ofNat n) hr1 (by rw [h4n]; omega); rw [h4n, ← hbs] at this; exact this)) ?_)))))))
      rintro v31 w31 ⟨b31, rfl, hb31, hr2, g31⟩
      have m31 := (hr1.rdT).kp g31
      refine o_move rfl rfl (o_extract rfl rfl (r_ext0) (o_extract rfl rfl (r_ext1) (o_assign rfl rfl (o_assign rfl rfl (o_nil (n_then (c_seq (c_region (o_assign rfl rfl (o_nil (n_then (c_seq ?_))))))))))))
      refine c_block ?_
      refine c_loop3 (fun (i : Nat) (v : Value) (u : Value) => [(4, U64 (UInt64.ofNat n)), (6, v), (8, u)]) (fun (i : Nat) (v : Value) (u : Value) w' => Ext w31 w' ∧ Bts (bs.drop (4 * i)) v w31 ∧ OwnW w31.heap.size (unle4 (bs.take (4 * i))) u w' ∧ i ≤ n) (fun (i : Nat) (v : Value) (u : Value) => n - i) (0) (b31) (.slice none 0 0) ⟨rfl, rfl, rfl, trivial⟩ ⟨Ext.refl _, by simpa using hb31, by simpa [unle4] using OwnW.nil _ _, by omega⟩ ?_
      rintro i v u w6 ⟨e6, h6, o6, hi⟩
      refine c_seq (c_seq ?_)
      have hdl : (bs.drop (4 * i)).length = 4 * n - 4 * i := by rw [List.length_drop, hbl]
      refine c_region (o_move rfl rfl (o_len rfl rfl (r_lenB (h6.ext e6)) (o_bin rfl rfl rfl (r_gtr_i) (o_nil (n_then ?_)))))
      refine c_if rfl (fun h36 => ?_) (fun h36 => ?_)
      · refine c_skip (n_then (c_seq (c_block ?_)))
        have hdl : (bs.drop (4 * i)).length = 4 * n - 4 * i := by rw [List.length_drop, hbl]
        refine c_grow 24 [4, 6, 39, 62] (by kernel_rfl) (by kernel_rfl) ?_
        refine f_move rfl rfl (f_move rfl rfl ?_)
        obtain ⟨a41, p41, q41⟩ := r_ixB (h6.ext e6) (i := 0) (by omega) .i64
        refine f_indexAddr rfl rfl rfl (fun w _ => p41 w) (f_load rfl rfl (fun w hw => r_load1 Try.underlying5 rfl (hw.cell_some q41)) (f_conv rfl rfl (fun w _ => r_u8_u32 Try.underlying5 Try.underlying79) ?_))
        refine f_move rfl rfl ?_
        obtain ⟨a45, p45, q45⟩ := r_ixB (h6.ext e6) (i := 1) (by omega) .i64
        refine f_indexAddr rfl rfl rfl (fun w _ => p45 w) (f_load rfl rfl (fun w hw => r_load1 Try.underlying5 rfl (hw.cell_some q45)) (f_conv rfl rfl (fun w _ => r_u8_u32 Try.underlying5 Try.underlying79) ?_))
        refine f_bin (v := U64 8) rfl rfl rfl (fun w _ => r_shl_u32 8 (by omega)) (f_bin rfl rfl rfl (fun w _ => r_or_u32) (f_move rfl rfl ?_))
        obtain ⟨a51, p51, q51⟩ := r_ixB (h6.ext e6) (i := 2) (by omega) .i64
        refine f_indexAddr rfl rfl rfl (fun w _ => p51 w) (f_load rfl rfl (fun w hw => r_load1 Try.underlying5 rfl (hw.cell_some q51)) (f_conv rfl rfl (fun w _ => r_u8_u32 Try.underlying5 Try.underlying79) ?_))
        refine f_bin (v := U64 16) rfl rfl rfl (fun w _ => r_shl_u32 16 (by omega)) (f_bin rfl rfl rfl (fun w _ => r_or_u32) (f_move rfl rfl ?_))
        obtain ⟨a57, p57, q57⟩ := r_ixB (h6.ext e6) (i := 3) (by omega) .i64
        refine f_indexAddr rfl rfl rfl (fun w _ => p57 w) (f_load rfl rfl (fun w hw => r_load1 Try.underlying5 rfl (hw.cell_some q57)) (f_conv rfl rfl (fun w _ => r_u8_u32 Try.underlying5 Try.underlying79) ?_))
        refine f_bin (v := U64 24) rfl rfl rfl (fun w _ => r_shl_u32 24 (by omega)) (f_bin rfl rfl rfl (fun w _ => r_or_u32) (f_buildSlice (S := Wds [((((((((((bs.drop (4 * i))[0])).toUInt32) ||| ((((((bs.drop (4 * i))[1])).toUInt32) <<< UInt32.ofNat 8)))) ||| ((((((bs.drop (4 * i))[2])).toUInt32) <<< UInt32.ofNat 16)))) ||| ((((((bs.drop (4 * i))[3])).toUInt32) <<< UInt32.ofNat 24))))]) (Wds.stable _) rfl (fun w' _ => by rintro _ rfl; obtain ⟨r, w2, h1, h2, h3, _⟩ := r_bsW Try.underlying33 (w := w') w'.heap.size [((((((((((bs.drop (4 * i))[0])).toUInt32) ||| ((((((bs.drop (4 * i))[1])).toUInt32) <<< UInt32.ofNat 8)))) ||| ((((((bs.drop (4 * i))[2])).toUInt32) <<< UInt32.ofNat 16)))) ||| ((((((bs.drop (4 * i))[3])).toUInt32) <<< UInt32.ofNat 24))))] (by simp) (Nat.le_refl _); exact ⟨r, w2, h1, h2, h3.wds⟩) ?_))
        refine f_nil ?_
        intro wg8 xg8
        rintro _ rfl
        rintro _ hq6
        obtain rfl := Eq.symm hq6
        rintro _ hq39
        obtain rfl := Eq.symm hq39
        intro vg62 b62
        obtain ⟨v63, w63, hr63, o63, g63⟩ := r_appW Try.underlying33 (ty := 33) (o6.ext xg8) b62 (by have := unle4_len i (bs.take (4 * i)) (by rw [List.length_take]; omega); simp; omega) ((e6.trans xg8)).size
        have x63 := Ext.of_grew ((e6.trans xg8)) g63 (o6.ext xg8).ge
        refine o_append rfl rfl hr63 (o_assign rfl rfl (o_nil (n_block (n_then (c_region (o_move rfl rfl ?_))))))
        obtain ⟨v38, p38, b38⟩ := r_slB_lo h6 (lo := 4) (by omega) .i64
        refine o_slice rfl rfl rfl rfl rfl (p38 _) ?_
        refine o_assign rfl rfl (o_nil ?_)
        refine n_round3 (i + 1) (v38) (v63) ⟨rfl, rfl, rfl, trivial⟩ ⟨x63, by rw [List.drop_drop] at b38; exact b38, by
          rw [unle4_next i bs (by omega)]
          have e := w4_or ((bs.drop (4 * i))[0]) ((bs.drop (4 * i))[1]) ((bs.drop (4 * i))[2]) ((bs.drop (4 * i))[3])
          simp only [List.getElem_drop, Nat.add_zero] at e
          simp only [List.getElem_drop, Nat.add_zero, e] at o63
          exact o63, by omega⟩ (by omega)
      · refine c_exit (x_then (x_then (x_here (n_then (c_seq ?_)))))
        by_cases h66 : UInt64.ofNat n = 0
        · refine c_grow 12 [2, 74] (by kernel_rfl) (by kernel_rfl) ?_
          refine f_move rfl rfl (f_move rfl rfl (f_bin (v := U64 0) rfl rfl rfl (fun w _ => dec_t h66 r_eql_u64) (f_move rfl rfl (f_no rfl rfl rfl (f_no rfl rfl rfl (f_no rfl rfl rfl ?_))))))
          refine f_no rfl rfl rfl (f_no rfl rfl rfl (f_no rfl rfl rfl (f_pick_t rfl rfl rfl (f_assign rfl rfl (f_nil ?_)))))
          intro wg9 xg9
          rintro _ hq2
          obtain rfl := Eq.symm hq2
          rintro _ rfl
          refine o_assign rfl rfl (o_nil (n_then (c_ret (r_body2 rfl rfl rfl ?_))))
          exact ⟨_, rfl, (x11.trans g31).trans (grownBy_of_ext (e6.trans xg9)), by
            rw [rdN_u1 hU, ← hbs]
            first
            | (have hx : (unle4 bs)[(UInt64.ofNat n - 1).toNat] ≠ 0 ↔ lb (val (unle4 bs)) = unle4 bs := by
                 have e : (UInt64.ofNat n - 1).toNat = (unle4 bs).length - 1 := by omega
                 simp only [e]
                 exact can_iff (by omega)
               by_cases hc : lb (val (unle4 bs)) = unle4 bs
               · rw [if_pos ⟨hle, hc⟩, decide_eq_true (hx.2 hc)]
                 exact ⟨u, rfl, o6.wds.ext xg9, hr2.ext (e6.trans xg9)⟩
               · rw [if_neg fun h => hc h.2, decide_eq_false fun h => hc (hx.1 h)]
                 exact ⟨u, rfl, ⟨_, o6.wds.ext xg9⟩, _, hr2.ext (e6.trans xg9)⟩)
            | (have h0 : n = 0 := by
                 have := congrArg UInt64.toNat h66
                 rw [hnn] at this
                 exact this
               have hb0 : unle4 bs = [] := List.eq_nil_of_length_eq_zero (by rw [unle4_len n bs hbl]; exact h0)
               have hb1 : bs.take (4 * i) = bs := List.take_of_length_le (by omega)
               rw [hb1, hb0] at o6
               rw [hb0, if_pos ⟨hle, rfl⟩]
               exact ⟨u, rfl, o6.wds.ext xg9, hr2.ext (e6.trans xg9)⟩)⟩
        · refine c_grow 12 [2, 74] (by kernel_rfl) (by kernel_rfl) ?_
          refine f_move rfl rfl (f_move rfl rfl (f_bin (v := U64 0) rfl rfl rfl (fun w _ => dec_f h66 r_eql_u64) (f_move rfl rfl (f_yes rfl rfl (f_move rfl rfl (f_yes rfl rfl (f_move rfl rfl ?_)))))))
          refine f_yes rfl rfl (f_bin (v := U64 1) rfl rfl rfl (fun w _ => r_sub_u64) (f_yes rfl rfl ?_))
          have hn0 : 0 < n := by
            rcases Nat.eq_zero_or_pos n with h | h
            · exact absurd (by rw [h]; rfl) h66
            · exact h
          have hns := unle4_len n bs hbl
          have hin : i = n := by omega
          have hbi : bs.take (4 * i) = bs := List.take_of_length_le (by omega)
          rw [hbi] at o6
          have hm1 : (UInt64.ofNat n - 1).toNat = n - 1 := by
            rw [UInt64.toNat_sub_of_le _ _ (UInt64.le_iff_toNat_le.2 (by rw [hnn]; exact hn0)), hnn]; rfl
          obtain ⟨a71, p71, q71⟩ := r_ixW Try.underlying33 o6.wds (i := (UInt64.ofNat n - 1).toNat) (by omega) .u64
          refine f_indexAddr rfl rfl rfl (fun w hw => p71 _) (f_yes rfl rfl (f_load rfl rfl (fun w hw => r_load1 Try.underlying79 rfl (hw.cell_some q71)) (f_yes rfl rfl ?_)))
          refine f_bin (v := U32 0) rfl rfl rfl (fun w _ => r_neq_u32) (f_pick_f rfl rfl rfl (f_assign rfl rfl (f_nil ?_)))
          intro wg9 xg9
          rintro _ hq2
          obtain rfl := Eq.symm hq2
          rintro _ rfl
          refine o_assign rfl rfl (o_nil (n_then (c_ret (r_body2 rfl rfl rfl ?_))))
          exact ⟨_, rfl, (x11.trans g31).trans (grownBy_of_ext (e6.trans xg9)), by
            rw [rdN_u1 hU, ← hbs]
            first
            | (have hx : (unle4 bs)[(UInt64.ofNat n - 1).toNat] ≠ 0 ↔ lb (val (unle4 bs)) = unle4 bs := by
                 have e : (UInt64.ofNat n - 1).toNat = (unle4 bs).length - 1 := by omega
                 simp only [e]
                 exact can_iff (by omega)
               by_cases hc : lb (val (unle4 bs)) = unle4 bs
               · rw [if_pos ⟨hle, hc⟩, decide_eq_true (hx.2 hc)]
                 exact ⟨u, rfl, o6.wds.ext xg9, hr2.ext (e6.trans xg9)⟩
               · rw [if_neg fun h => hc h.2, decide_eq_false fun h => hc (hx.1 h)]
                 exact ⟨u, rfl, ⟨_, o6.wds.ext xg9⟩, _, hr2.ext (e6.trans xg9)⟩)
            | (have h0 : n = 0 := by
                 have := congrArg UInt64.toNat h66
                 rw [hnn] at this
                 exact this
               have hb0 : unle4 bs = [] := List.eq_nil_of_length_eq_zero (by rw [unle4_len n bs hbl]; exact h0)
               have hb1 : bs.take (4 * i) = bs := List.take_of_length_le (by omega)
               rw [hb1, hb0] at o6
               rw [hb0, if_pos ⟨hle, rfl⟩]
               exact ⟨u, rfl, o6.wds.ext xg9, hr2.ext (e6.trans xg9)⟩)⟩
section
variable {w : World} {g : Nat}
theorem rnat_none {st : Option (List UInt8)} (hr : RdAt g st w) (hl : ∀ l, st = some l → l.length ≤ 549755813888) (h : st.bind rdN = none) : Calls Try.prog 54 #[.pointer (some ⟨g, 0, none⟩)] w (Ret fun r w' => w.grownBy w' (some g) ∧ ∃ v, r = .tuple #[v, B false] ∧ (∃ m, Wds m v w') ∧ ∃ l', RdAt g l' w') := by
  have := rnat_spec hr hl
  rw [h] at this
  exact this
theorem rnat_some {st : Option (List UInt8)} {m : List UInt32} {t : List UInt8} (hr : RdAt g st w) (hl : ∀ l, st = some l → l.length ≤ 549755813888) (h : st.bind rdN = some (m, t)) : Calls Try.prog 54 #[.pointer (some ⟨g, 0, none⟩)] w (Ret fun r w' => w.grownBy w' (some g) ∧ ∃ v, r = .tuple #[v, B true] ∧ Wds m v w' ∧ RdAt g (some t) w') := by
  have := rnat_spec hr hl
  rw [h] at this
  exact this
theorem Uint_none {st : Option (List UInt8)} (hr : RdAt g st w) (h : st.bind rdU = none) : Calls Try.prog 26 #[.pointer (some ⟨g, 0, none⟩)] w (Ret fun r w' => w.grownBy w' (some g) ∧ r = .tuple #[U64 0, I 5] ∧ RdAt g none w') := by
  have := Uint_spec hr
  rw [h] at this
  exact this
theorem Uint_some {st : Option (List UInt8)} {n : Nat} {t : List UInt8} (hr : RdAt g st w) (h : st.bind rdU = some (n, t)) : Calls Try.prog 26 #[.pointer (some ⟨g, 0, none⟩)] w (Ret fun r w' => w.grownBy w' (some g) ∧ r = .tuple #[U64 (UInt64.ofNat n), I 0] ∧ RdAt g (some t) w') := by
  have := Uint_spec hr
  rw [h] at this
  exact this
end
def NatE (g : Nat) (w : World) (o : Option (List UInt32 × List UInt8)) (r : Value) (w' : World) : Prop :=
  w.grownBy w' (some g) ∧ match o with
    | some (m, t) => ∃ v, r = .tuple #[v, I 0] ∧ Wds m v w' ∧ RdAt g (some t) w'
    | none => r = .tuple #[.slice none 0 0, I 5] ∧ RdAt g none w'
theorem RNat_spec {w : World} {g : Nat} {st : Option (List UInt8)} (hr : RdAt g st w) (hl : ∀ l, st = some l → l.length ≤ 549755813888) :
    Calls Try.prog 28 #[.pointer (some ⟨g, 0, none⟩)] w (Ret (NatE g w (st.bind rdN))) := by
  refine enter (vs := [.pointer (some ⟨g, 0, none⟩)]) Try.func28 rfl rfl rfl ?_
  refine c_seq (c_region (o_assign rfl rfl (o_assign rfl rfl (o_nil (n_then (c_seq (c_seq (c_region (o_move rfl rfl (o_bin rfl rfl rfl (r_eqnilp Try.underlying43) (o_nil ?_)))))))))))
  refine n_then (c_no rfl (c_skip (n_then (c_seq ?_))))
  rcases hN : st.bind rdN with _ | ⟨m, t⟩
  · refine c_region (o_move rfl rfl (o_call call_rnat rfl rfl (rnat_none hr hl hN) ?_))
    rintro v10 w10 ⟨x10, v0, rfl, _, l', hr1⟩
    have m10 := (hr.rdT).kp x10
    refine o_move rfl rfl (o_extract rfl rfl (r_ext0) (o_extract rfl rfl (r_ext1) (o_assign rfl rfl (o_assign rfl rfl (o_nil (n_then (c_seq (c_seq (c_region (o_move rfl rfl (o_not rfl rfl r_not ?_)))))))))))
    refine o_nil (n_then (c_yes rfl (c_seq (c_region (o_move rfl rfl (o_call call_fail rfl rfl (fail_spec hr1) ?_))))))
    rintro v16 w16 ⟨rfl, hr2, g2⟩
    refine o_assign rfl rfl (o_assign rfl rfl (o_nil (n_then (c_ret (r_then (r_body2 rfl rfl rfl ?_))))))
    exact ⟨_, rfl, x10.trans g2, rfl, hr2⟩
  · refine c_region (o_move rfl rfl (o_call call_rnat rfl rfl (rnat_some hr hl hN) ?_))
    rintro v10 w10 ⟨x10, v0, rfl, h0, hr1⟩
    have m10 := (hr.rdT).kp x10
    refine o_move rfl rfl (o_extract rfl rfl (r_ext0) (o_extract rfl rfl (r_ext1) (o_assign rfl rfl (o_assign rfl rfl (o_nil (n_then (c_seq (c_seq (c_region (o_move rfl rfl (o_not rfl rfl r_not ?_)))))))))))
    refine o_nil (n_then (c_no rfl (c_skip (n_then (c_seq (c_region (o_move rfl rfl (o_assign rfl rfl (o_assign rfl rfl (o_nil (n_then (c_ret (r_body2 rfl rfl rfl ?_)))))))))))))
    exact ⟨_, rfl, x10, v0, rfl, h0, hr1⟩
def IntR (g : Nat) (w : World) (o : Option (Nat × List UInt8)) (r : Value) (w' : World) : Prop :=
  w.grownBy w' (some g) ∧ match o with
    | some (n, t) => r = .tuple #[I (uz n), I 0] ∧ RdAt g (some t) w'
    | none => r = .tuple #[I 0, I 5] ∧ RdAt g none w'
theorem r_half {P : Program} {w : World} {s d : TypeId} {n : Nat} (hs : P.underlying s = some (.int .u64)) (hd : P.underlying d = some (.int .i64)) (hn : n < 18446744073709551616) : (convert s d (U64 (UInt64.ofNat n >>> UInt64.ofNat 1))).run P w = .ok (I ((n / 2 : Nat) : Int)) w := by
  have e : (UInt64.ofNat n >>> UInt64.ofNat 1).toNat = n / 2 := by
    rw [UInt64.toNat_shiftRight, UInt64.toNat_ofNat', show (UInt64.ofNat 1).toNat % 64 = 1 from rfl, Nat.shiftRight_eq_div_pow]; omega
  have := r_u64_i (P := P) (w := w) hs hd (a := UInt64.ofNat n >>> UInt64.ofNat 1) (by omega)
  rwa [e] at this
theorem low_n {n : Nat} : (UInt64.ofNat n &&& 1).toNat = n % 2 := by
  rw [UInt64.toNat_and, UInt64.toNat_ofNat', show (1 : UInt64).toNat = 1 from rfl, Nat.and_one_is_mod]; omega
theorem r_low0 {P : Program} {w : World} {s d : TypeId} {n : Nat} (hs : P.underlying s = some (.int .u64)) (hd : P.underlying d = some (.int .i64)) (h : n % 2 = 0) : (convert s d (U64 (UInt64.ofNat n &&& 1))).run P w = .ok (I 0) w := by
  have := r_u64_i (P := P) (w := w) hs hd (a := UInt64.ofNat n &&& 1) (by rw [low_n]; omega)
  rw [low_n, h] at this
  exact this
theorem r_low1 {P : Program} {w : World} {s d : TypeId} {n : Nat} (hs : P.underlying s = some (.int .u64)) (hd : P.underlying d = some (.int .i64)) (h : n % 2 = 1) : (convert s d (U64 (UInt64.ofNat n &&& 1))).run P w = .ok (I 1) w := by
  have := r_u64_i (P := P) (w := w) hs hd (a := UInt64.ofNat n &&& 1) (by rw [low_n]; omega)
  rw [low_n, h] at this
  exact this
theorem RInt_spec {w : World} {g : Nat} {st : Option (List UInt8)} (hr : RdAt g st w) :
    Calls Try.prog 27 #[.pointer (some ⟨g, 0, none⟩)] w (Ret (IntR g w (st.bind rdU))) := by
  refine enter (vs := [.pointer (some ⟨g, 0, none⟩)]) Try.func27 rfl rfl rfl ?_
  refine c_seq (c_region (o_assign rfl rfl (o_assign rfl rfl (o_nil (n_then (c_seq ?_))))))
  rcases hN : st.bind rdU with _ | ⟨n, t⟩
  · refine c_region (o_move rfl rfl (o_call call_Uint rfl rfl (Uint_none hr hN) ?_))
    rintro v8 w8 ⟨x8, rfl, hr1⟩
    have m8 := (hr.rdT).kp x8
    refine o_move rfl rfl (o_extract rfl rfl (r_ext0) (o_extract rfl rfl (r_ext1) (o_assign rfl rfl (o_assign rfl rfl (o_nil (n_then (c_seq (c_seq (c_region (o_move rfl rfl (o_bin rfl rfl rfl (dec_t (by decide) r_neq_i) ?_)))))))))))
    refine o_nil (n_then (c_yes rfl (c_seq (c_region (o_move rfl rfl (o_assign rfl rfl (o_assign rfl rfl (o_nil (n_then (c_ret (r_then (r_body2 rfl rfl rfl ?_))))))))))))
    exact ⟨_, rfl, x8, rfl, hr1⟩
  · refine c_region (o_move rfl rfl (o_call call_Uint rfl rfl (Uint_some hr hN) ?_))
    rintro v8 w8 ⟨x8, rfl, hr1⟩
    have m8 := (hr.rdT).kp x8
    refine o_move rfl rfl (o_extract rfl rfl (r_ext0) (o_extract rfl rfl (r_ext1) (o_assign rfl rfl (o_assign rfl rfl (o_nil (n_then (c_seq (c_seq (c_region (o_move rfl rfl (o_bin rfl rfl rfl (dec_f (by decide) r_neq_i) ?_)))))))))))
    have hnn := (rdU_len (k := (st.getD []).length) hN (by rintro l rfl; exact Nat.le_refl _)).2
    refine o_nil (n_then (c_no rfl (c_skip (n_then (c_seq ?_)))))
    rcases Nat.mod_two_eq_zero_or_one n with hm | hm
    · refine c_region (o_move rfl rfl (o_bin rfl rfl rfl (r_shr_u64 1 (by omega)) (o_conv rfl rfl (r_half Try.underlying31 Try.underlying3 hnn) (o_move rfl rfl ?_))))
      refine o_bin (v := U64 1) rfl rfl rfl (r_and_u64) (o_conv rfl rfl (r_low0 Try.underlying31 Try.underlying3 hm) (o_not rfl rfl (r_neg_i (by omega) (by omega)) ?_))
      refine o_bin rfl rfl rfl (r_xor_0 (by omega)) (o_assign rfl rfl (o_assign rfl rfl (o_nil (n_then (c_ret (r_body2 rfl rfl rfl ?_))))))
      exact ⟨_, rfl, x8, congrArg (fun z => Value.tuple #[I z, I 0]) (show _ = uz n by unfold uz; rw [if_pos hm]), hr1⟩
    · refine c_region (o_move rfl rfl (o_bin rfl rfl rfl (r_shr_u64 1 (by omega)) (o_conv rfl rfl (r_half Try.underlying31 Try.underlying3 hnn) (o_move rfl rfl ?_))))
      refine o_bin (v := U64 1) rfl rfl rfl (r_and_u64) (o_conv rfl rfl (r_low1 Try.underlying31 Try.underlying3 hm) (o_not rfl rfl (r_neg_i (by omega) (by omega)) ?_))
      refine o_bin rfl rfl rfl (r_xor_1 (by omega)) (o_assign rfl rfl (o_assign rfl rfl (o_nil (n_then (c_ret (r_body2 rfl rfl rfl ?_))))))
      exact ⟨_, rfl, x8, congrArg (fun z => Value.tuple #[I z, I 0]) (show _ = uz n by unfold uz; rw [if_neg (by omega)]), hr1⟩
theorem rdR_nil : rdR [] = none := rfl
theorem rdR_big {c : UInt8} {l : List UInt8} (h : 1 < c.toNat) : rdR (c :: l) = none := if_pos h
theorem rdR_n0 {c : UInt8} {l : List UInt8} (h : rdN l = none) : rdR (c :: l) = none := by
  show (if 1 < c.toNat then none else _) = none
  split
  · rfl
  · rw [h]; rfl
theorem rdR_n1 {c : UInt8} {l t : List UInt8} {m : List UInt32} (h1 : ¬ 1 < c.toNat) (h : rdN l = some (m, t)) : rdR (c :: l) = (rdN t).bind fun q => if rv (decide (c.toNat = 1)) m q.1 = true then some ((decide (c.toNat = 1), m, q.1), q.2) else none := by
  show (if 1 < c.toNat then none else _) = _
  rw [if_neg h1, h]; rfl
def RatE (g : Nat) (w : World) (o : Option ((Bool × List UInt32 × List UInt32) × List UInt8)) (r : Value) (w' : World) : Prop :=
  w.grownBy w' (some g) ∧ match o with
    | some (q, t) => ∃ v, r = .tuple #[v, I 0] ∧ RatV q.1 q.2.1 q.2.2 v w' ∧ RdAt g (some t) w'
    | none => ∃ v, r = .tuple #[v, I 5] ∧ RatV false [] [] v w' ∧ RdAt g none w'
theorem RdAt.lt {w : World} {g : Nat} {st : Option (List UInt8)} (h : RdAt g st w) : g < w.heap.size := by
  obtain ⟨A, n, c, h1, _⟩ := h
  exact Blk.lt h1
theorem u8_one {c : UInt8} : c.toNat = 1 ↔ c = 1 := by
  rw [← UInt8.toNat_inj, show (1 : UInt8).toNat = 1 from rfl]
theorem RRat_spec {w : World} {g : Nat} {st : Option (List UInt8)} (hr : RdAt g st w) (hl : ∀ l, st = some l → l.length ≤ 549755813888) :
    Calls Try.prog 29 #[.pointer (some ⟨g, 0, none⟩)] w (Ret (RatE g w (st.bind rdR))) := by
  refine enter (vs := [.pointer (some ⟨g, 0, none⟩)]) Try.func29 rfl rfl rfl ?_
  have hglt := hr.lt
  refine c_seq (c_region ?_)
  obtain ⟨g2, w2, hr2, l2, x2, k2⟩ := r_allocR (w := w)
  refine o_alloc rfl hr2 (o_assign rfl rfl (o_nil (n_then (c_seq (c_seq (c_region (o_move rfl rfl (o_bin rfl rfl rfl (r_eqnilp Try.underlying43) (o_nil (n_then (c_no rfl ?_)))))))))))
  refine c_skip (n_then (c_seq ?_))
  have rr := hr.ext x2
  have kk := k2
  have gg : w.grownBy w2 (some g) := grownBy_of_ext x2
  have hne : some g2 ≠ some g := fun h => by have := Option.some.inj h; omega
  have hne' : g ≠ g2 := by omega
  rcases st with _ | (_ | ⟨c, l⟩)
  · have hR : (none : Option (List UInt8)).bind rdR = none := rfl
    refine c_region (o_move rfl rfl (o_call call_take rfl rfl ((take_failed (n := 1) rr)) ?_))
    rintro v14 _ ⟨rfl, rfl⟩
    refine o_move rfl rfl (o_extract rfl rfl (r_ext0) (o_extract rfl rfl (r_ext1) (o_assign rfl rfl (o_assign rfl rfl (o_nil (n_then (c_seq (c_seq (c_region (o_move rfl rfl (o_not rfl rfl r_not ?_)))))))))))
    refine o_move rfl rfl (g_no rfl rfl rfl (g_no rfl rfl rfl (g_no rfl rfl rfl (g_no rfl rfl rfl (o_pick_t rfl rfl rfl (o_nil (n_then (c_yes rfl (c_seq (c_region ?_))))))))))
    refine o_build (vs := []) rfl rfl r_buildR0 ?_
    refine o_move rfl rfl (o_call call_fail rfl rfl (fail_spec rr) ?_)
    rintro v27 w27 ⟨rfl, rs, g27⟩
    have m27 := (rr.rdT).kp g27
    have gg := gg.trans g27
    have kk := kk.other g27 hne
    have rr := rs
    obtain ⟨p, q, w3, hp, hs3, q3, k3, n3, d3⟩ := kk.stR ⟨_, _, _, rfl⟩ ⟨_, _, _, rfl⟩ (RatV.mk (b := false) (Wds.nil _) (Wds.nil _))
    refine o_store rfl rfl (hs3) (o_assign rfl rfl (o_nil (n_then (c_ret (r_then ?_)))))
    refine r_bodyc2 rfl rfl rfl k3 Try.underlying35 rfl size_Rat ?_
    exact ⟨_, rfl, gb_new gg q3 l2, by rw [hR]; exact ⟨_, rfl, ⟨p, q, rfl, n3, d3⟩, (rr.rdT.off (kk.kpR ⟨_, _, _, rfl⟩ ⟨_, _, _, rfl⟩ q3) q3 hne').rdAt⟩⟩
  · have hR : (some []).bind rdR = none := rfl
    refine c_region (o_move rfl rfl (o_call call_take rfl rfl ((take_no (n := 1) rr (by decide))) ?_))
    rintro v14 _ ⟨rfl, rfl⟩
    refine o_move rfl rfl (o_extract rfl rfl (r_ext0) (o_extract rfl rfl (r_ext1) (o_assign rfl rfl (o_assign rfl rfl (o_nil (n_then (c_seq (c_seq (c_region (o_move rfl rfl (o_not rfl rfl r_not ?_)))))))))))
    refine o_move rfl rfl (g_no rfl rfl rfl (g_no rfl rfl rfl (g_no rfl rfl rfl (g_no rfl rfl rfl (o_pick_t rfl rfl rfl (o_nil (n_then (c_yes rfl (c_seq (c_region ?_))))))))))
    refine o_build (vs := []) rfl rfl r_buildR0 ?_
    refine o_move rfl rfl (o_call call_fail rfl rfl (fail_spec rr) ?_)
    rintro v27 w27 ⟨rfl, rs, g27⟩
    have m27 := (rr.rdT).kp g27
    have gg := gg.trans g27
    have kk := kk.other g27 hne
    have rr := rs
    obtain ⟨p, q, w3, hp, hs3, q3, k3, n3, d3⟩ := kk.stR ⟨_, _, _, rfl⟩ ⟨_, _, _, rfl⟩ (RatV.mk (b := false) (Wds.nil _) (Wds.nil _))
    refine o_store rfl rfl (hs3) (o_assign rfl rfl (o_nil (n_then (c_ret (r_then ?_)))))
    refine r_bodyc2 rfl rfl rfl k3 Try.underlying35 rfl size_Rat ?_
    exact ⟨_, rfl, gb_new gg q3 l2, by rw [hR]; exact ⟨_, rfl, ⟨p, q, rfl, n3, d3⟩, (rr.rdT.off (kk.kpR ⟨_, _, _, rfl⟩ ⟨_, _, _, rfl⟩ q3) q3 hne').rdAt⟩⟩
  · refine c_region (o_move rfl rfl (o_call call_take rfl rfl ((take_yes (n := 1) rr (by simp))) ?_))
    rintro v14 w14 ⟨b14, rfl, hb, rs, g14⟩
    have m14 := (rr.rdT).kp g14
    have gg := gg.trans g14
    have kk := kk.other g14 hne
    have rr : RdAt g (some l) w14 := rs
    have hb : Bts [c] b14 w14 := hb
    refine o_move rfl rfl (o_extract rfl rfl (r_ext0) (o_extract rfl rfl (r_ext1) (o_assign rfl rfl (o_assign rfl rfl (o_nil (n_then (c_seq (c_seq (c_region (o_move rfl rfl (o_not rfl rfl r_not ?_)))))))))))
    refine o_move rfl rfl (g_yes rfl (o_move rfl rfl (g_yes rfl ?_)))
    obtain ⟨a21, p21, q21⟩ := r_ixB hb (i := 0) (by simp) .i64
    refine o_indexAddr rfl rfl rfl (p21 _) (g_yes rfl (o_load rfl rfl (r_load1 Try.underlying5 rfl q21) (g_yes rfl (o_bin (v := U8 1) rfl rfl rfl (r_gtr_u8) (o_pick_f rfl rfl rfl ?_)))))
    refine o_nil (n_then ?_)
    refine c_if rfl (fun h24 => ?_) (fun h24 => ?_)
    · have hc : 1 < c.toNat := by have := UInt8.lt_iff_toNat_lt.1 h24; simpa using this
      have hR : (some (c :: l)).bind rdR = none := rdR_big hc
      refine c_seq (c_region ?_)
      refine o_build (vs := []) rfl rfl r_buildR0 ?_
      refine o_move rfl rfl (o_call call_fail rfl rfl (fail_spec rr) ?_)
      rintro v27 w27 ⟨rfl, rs, g27⟩
      have m27 := (rr.rdT).kp g27
      have gg := gg.trans g27
      have kk := kk.other g27 hne
      have rr := rs
      obtain ⟨p, q, w3, hp, hs3, q3, k3, n3, d3⟩ := kk.stR ⟨_, _, _, rfl⟩ ⟨_, _, _, rfl⟩ (RatV.mk (b := false) (Wds.nil _) (Wds.nil _))
      refine o_store rfl rfl (hs3) (o_assign rfl rfl (o_nil (n_then (c_ret (r_then ?_)))))
      refine r_bodyc2 rfl rfl rfl k3 Try.underlying35 rfl size_Rat ?_
      exact ⟨_, rfl, gb_new gg q3 l2, by rw [hR]; exact ⟨_, rfl, ⟨p, q, rfl, n3, d3⟩, (rr.rdT.off (kk.kpR ⟨_, _, _, rfl⟩ ⟨_, _, _, rfl⟩ q3) q3 hne').rdAt⟩⟩
    · have hc : ¬ 1 < c.toNat := fun hh => h24 (UInt8.lt_iff_toNat_lt.2 (by simpa using hh))
      have hl1 : ∀ l', some l = some l' → l'.length ≤ 549755813888 := fun l' e => by
        have := hl _ rfl
        cases e
        simp at this; omega
      refine c_skip (n_then (c_seq ?_))
      rcases hN : rdN l with _ | ⟨m, t⟩
      · have hR : (some (c :: l)).bind rdR = none := rdR_n0 hN
        refine c_region (o_move rfl rfl (o_call call_rnat rfl rfl ((rnat_none (st := some l) rr hl1 hN)) ?_))
        rintro v30 w30 ⟨g30, v0, rfl, _, _, rs⟩
        have m30 := (rr.rdT).kp g30
        have gg := gg.trans g30
        have kk := kk.other g30 hne
        have rr := rs
        refine o_move rfl rfl (o_extract rfl rfl (r_ext0) (o_extract rfl rfl (r_ext1) (o_assign rfl rfl (o_assign rfl rfl (o_nil (n_then (c_seq (c_seq (c_region (o_move rfl rfl (o_not rfl rfl r_not ?_)))))))))))
        refine o_nil (n_then (c_yes rfl (c_seq (c_region ?_))))
        refine o_build (vs := []) rfl rfl r_buildR0 ?_
        refine o_move rfl rfl (o_call call_fail rfl rfl (fail_spec rr) ?_)
        rintro v37 w37 ⟨rfl, rs, g37⟩
        have m37 := (rr.rdT).kp g37
        have gg := gg.trans g37
        have kk := kk.other g37 hne
        have rr := rs
        obtain ⟨p, q, w3, hp, hs3, q3, k3, n3, d3⟩ := kk.stR ⟨_, _, _, rfl⟩ ⟨_, _, _, rfl⟩ (RatV.mk (b := false) (Wds.nil _) (Wds.nil _))
        refine o_store rfl rfl (hs3) (o_assign rfl rfl (o_nil (n_then (c_ret (r_then ?_)))))
        refine r_bodyc2 rfl rfl rfl k3 Try.underlying35 rfl size_Rat ?_
        exact ⟨_, rfl, gb_new gg q3 l2, by rw [hR]; exact ⟨_, rfl, ⟨p, q, rfl, n3, d3⟩, (rr.rdT.off (kk.kpR ⟨_, _, _, rfl⟩ ⟨_, _, _, rfl⟩ q3) q3 hne').rdAt⟩⟩
      · refine c_region (o_move rfl rfl (o_call call_rnat rfl rfl ((rnat_some (st := some l) rr hl1 hN)) ?_))
        rintro v30 w30 ⟨g30, v0, rfl, h0, rs⟩
        have m30 := (rr.rdT).kp g30
        have gg := gg.trans g30
        have kk := kk.other g30 hne
        have rr := rs
        refine o_move rfl rfl (o_extract rfl rfl (r_ext0) (o_extract rfl rfl (r_ext1) (o_assign rfl rfl (o_assign rfl rfl (o_nil (n_then (c_seq (c_seq (c_region (o_move rfl rfl (o_not rfl rfl r_not ?_)))))))))))
        refine o_nil (n_then (c_no rfl (c_skip (n_then (c_seq ?_)))))
        have hl2 : ∀ l', some t = some l' → l'.length ≤ 549755813888 := fun l' e => by
          cases e
          have h1 := (rdN_inv hN).1
          have := hl1 _ rfl
          rw [h1, List.length_append] at this
          omega
        obtain ⟨s, hs⟩ : ∃ s, s = decide (c.toNat = 1) := ⟨_, rfl⟩
        have hcs : s = decide (([c] : List UInt8)[0]'(Nat.zero_lt_one) = (1 : UInt8)) := by
          rw [hs]
          exact decide_eq_decide.2 ⟨fun h => u8_one.1 h, fun h => u8_one.2 h⟩
        have hR1 := rdR_n1 hc hN
        rw [← hs] at hR1
        rcases hM : rdN t with _ | ⟨m', t'⟩
        rotate_left
        rcases hV : rv s m m'
        · have hR : (some (c :: l)).bind rdR = none := by
            show rdR (c :: l) = none
            rw [hR1, hM]
            exact if_neg (by rw [hV]; simp)
          refine c_region (o_move rfl rfl (o_call call_rnat rfl rfl ((rnat_some (st := some t) rr hl2 hM)) ?_))
          rintro v40 w40 ⟨g40, v1, rfl, h1, rs⟩
          have m40 := (rr.rdT).kp g40
          have gg := gg.trans g40
          have kk := kk.other g40 hne
          have rr := rs
          refine o_move rfl rfl (o_extract rfl rfl (r_ext0) (o_extract rfl rfl (r_ext1) (o_assign rfl rfl (o_assign rfl rfl (o_nil (n_then (c_seq (c_region (o_move rfl rfl ?_)))))))))
          obtain ⟨a44, p44, q44⟩ := r_ixB (hb.kp (m30.trans m40)) (i := 0) (by simp) .i64
          refine o_indexAddr rfl rfl rfl (p44 _) (o_load rfl rfl (r_load1 Try.underlying5 rfl q44) (o_bin (v := U8 1) (r := B s) rfl rfl rfl ((by rw [hcs]; exact r_eql_u8)) ?_))
          refine o_move rfl rfl (o_move rfl rfl ?_)
          refine o_build (vs := [(0, B s), (1, v0), (2, v1)]) rfl rfl (r_buildR h0.isS h1.isS) ?_
          obtain ⟨g8, w8, hr8, l8, x8, k8⟩ := r_allocR (w := w40)
          refine o_alloc rfl hr8 ?_
          obtain ⟨p, q, w4, hp, hs4, q4, k4, n4, d4⟩ := k8.stR ⟨_, _, _, rfl⟩ ⟨_, _, _, rfl⟩ (RatV.mk (b := s) ((h0.kp m40).ext x8) (h1.ext x8))
          refine o_store rfl rfl (hs4) ?_
          have x4 := x8.of_new q4 l8
          have rr := rr.ext x4
          have kk := kk.ext x4
          have gg := gg.trans (grownBy_of_ext x4)
          have hml : m.length ≤ 137438953472 := by
            have := hl1 _ rfl
            rw [(rdN_inv hN).1, List.length_append, encN, List.length_append, le4s_len] at this
            omega
          refine o_nil (n_then (c_seq (c_seq (c_region (o_move rfl rfl (o_not rfl rfl r_not (o_move rfl rfl (g_yes rfl (o_load rfl rfl (k4.ldR) (g_yes rfl ?_))))))))))
          have hml' : m'.length ≤ 137438953472 := by
            have := hl2 _ rfl
            rw [(rdN_inv hM).1, List.length_append, encN, List.length_append, le4s_len] at this
            omega
          refine o_call call_QValid rfl rfl ((by have := QValid_spec (b := s) (RatV.mk n4 d4) hml hml'; rw [hV] at this; exact this)) ?_
          rintro v54 w54 ⟨x54, rfl⟩
          have rr := rr.ext x54
          have kk := kk.ext x54
          have gg := gg.trans (grownBy_of_ext x54)
          refine g_yes rfl (o_not rfl rfl r_not (o_pick_f rfl rfl rfl (o_nil (n_then (c_yes rfl (c_seq (c_region ?_)))))))
          refine o_build (vs := []) rfl rfl r_buildR0 ?_
          refine o_move rfl rfl (o_call call_fail rfl rfl (fail_spec rr) ?_)
          rintro v59 w59 ⟨rfl, rs, g59⟩
          have m59 := (rr.rdT).kp g59
          have gg := gg.trans g59
          have kk := kk.other g59 hne
          have rr := rs
          obtain ⟨p, q, w3, hp, hs3, q3, k3, n3, d3⟩ := kk.stR ⟨_, _, _, rfl⟩ ⟨_, _, _, rfl⟩ (RatV.mk (b := false) (Wds.nil _) (Wds.nil _))
          refine o_store rfl rfl (hs3) (o_assign rfl rfl (o_nil (n_then (c_ret (r_then ?_)))))
          refine r_bodyc2 rfl rfl rfl k3 Try.underlying35 rfl size_Rat ?_
          exact ⟨_, rfl, gb_new gg q3 l2, by rw [hR]; exact ⟨_, rfl, ⟨p, q, rfl, n3, d3⟩, (rr.rdT.off (kk.kpR ⟨_, _, _, rfl⟩ ⟨_, _, _, rfl⟩ q3) q3 hne').rdAt⟩⟩
        · have hR : (some (c :: l)).bind rdR = some ((s, m, m'), t') := by
            show rdR (c :: l) = _
            rw [hR1, hM]
            exact if_pos hV
          refine c_region (o_move rfl rfl (o_call call_rnat rfl rfl ((rnat_some (st := some t) rr hl2 hM)) ?_))
          rintro v40 w40 ⟨g40, v1, rfl, h1, rs⟩
          have m40 := (rr.rdT).kp g40
          have gg := gg.trans g40
          have kk := kk.other g40 hne
          have rr := rs
          refine o_move rfl rfl (o_extract rfl rfl (r_ext0) (o_extract rfl rfl (r_ext1) (o_assign rfl rfl (o_assign rfl rfl (o_nil (n_then (c_seq (c_region (o_move rfl rfl ?_)))))))))
          obtain ⟨a44, p44, q44⟩ := r_ixB (hb.kp (m30.trans m40)) (i := 0) (by simp) .i64
          refine o_indexAddr rfl rfl rfl (p44 _) (o_load rfl rfl (r_load1 Try.underlying5 rfl q44) (o_bin (v := U8 1) (r := B s) rfl rfl rfl ((by rw [hcs]; exact r_eql_u8)) ?_))
          refine o_move rfl rfl (o_move rfl rfl ?_)
          refine o_build (vs := [(0, B s), (1, v0), (2, v1)]) rfl rfl (r_buildR h0.isS h1.isS) ?_
          obtain ⟨g8, w8, hr8, l8, x8, k8⟩ := r_allocR (w := w40)
          refine o_alloc rfl hr8 ?_
          obtain ⟨p, q, w4, hp, hs4, q4, k4, n4, d4⟩ := k8.stR ⟨_, _, _, rfl⟩ ⟨_, _, _, rfl⟩ (RatV.mk (b := s) ((h0.kp m40).ext x8) (h1.ext x8))
          refine o_store rfl rfl (hs4) ?_
          have x4 := x8.of_new q4 l8
          have rr := rr.ext x4
          have kk := kk.ext x4
          have gg := gg.trans (grownBy_of_ext x4)
          have hml : m.length ≤ 137438953472 := by
            have := hl1 _ rfl
            rw [(rdN_inv hN).1, List.length_append, encN, List.length_append, le4s_len] at this
            omega
          refine o_nil (n_then (c_seq (c_seq (c_region (o_move rfl rfl (o_not rfl rfl r_not (o_move rfl rfl (g_yes rfl (o_load rfl rfl (k4.ldR) (g_yes rfl ?_))))))))))
          have hml' : m'.length ≤ 137438953472 := by
            have := hl2 _ rfl
            rw [(rdN_inv hM).1, List.length_append, encN, List.length_append, le4s_len] at this
            omega
          refine o_call call_QValid rfl rfl ((by have := QValid_spec (b := s) (RatV.mk n4 d4) hml hml'; rw [hV] at this; exact this)) ?_
          rintro v54 w54 ⟨x54, rfl⟩
          have rr := rr.ext x54
          have kk := kk.ext x54
          have gg := gg.trans (grownBy_of_ext x54)
          refine g_yes rfl (o_not rfl rfl r_not (o_pick_f rfl rfl rfl (o_nil (n_then (c_no rfl (c_skip (n_then (c_seq (c_region (o_load rfl rfl ((k4.ext x54).ldR) ?_))))))))))
          obtain ⟨p, q, w3, hp, hs3, q3, k3, n3, d3⟩ := kk.stR ⟨_, _, _, rfl⟩ ⟨_, _, _, rfl⟩ ((RatV.mk n4 d4).ext x54)
          refine o_store rfl rfl (hs3) (o_assign rfl rfl (o_nil (n_then (c_ret ?_))))
          refine r_bodyc2 rfl rfl rfl k3 Try.underlying35 rfl size_Rat ?_
          exact ⟨_, rfl, gb_new gg q3 l2, by rw [hR]; exact ⟨_, rfl, ⟨p, q, rfl, n3, d3⟩, (rr.rdT.off (kk.kpR ⟨_, _, _, rfl⟩ ⟨_, _, _, rfl⟩ q3) q3 hne').rdAt⟩⟩
        · have hR : (some (c :: l)).bind rdR = none := by
            show rdR (c :: l) = none
            rw [hR1, hM]; rfl
          refine c_region (o_move rfl rfl (o_call call_rnat rfl rfl ((rnat_none (st := some t) rr hl2 hM)) ?_))
          rintro v40 w40 ⟨g40, v1, rfl, ⟨m', h1⟩, _, rs⟩
          have m40 := (rr.rdT).kp g40
          have gg := gg.trans g40
          have kk := kk.other g40 hne
          have rr := rs
          refine o_move rfl rfl (o_extract rfl rfl (r_ext0) (o_extract rfl rfl (r_ext1) (o_assign rfl rfl (o_assign rfl rfl (o_nil (n_then (c_seq (c_region (o_move rfl rfl ?_)))))))))
          obtain ⟨a44, p44, q44⟩ := r_ixB (hb.kp (m30.trans m40)) (i := 0) (by simp) .i64
          refine o_indexAddr rfl rfl rfl (p44 _) (o_load rfl rfl (r_load1 Try.underlying5 rfl q44) (o_bin (v := U8 1) (r := B s) rfl rfl rfl ((by rw [hcs]; exact r_eql_u8)) ?_))
          refine o_move rfl rfl (o_move rfl rfl ?_)
          refine o_build (vs := [(0, B s), (1, v0), (2, v1)]) rfl rfl (r_buildR h0.isS h1.isS) ?_
          obtain ⟨g8, w8, hr8, l8, x8, k8⟩ := r_allocR (w := w40)
          refine o_alloc rfl hr8 ?_
          obtain ⟨p, q, w4, hp, hs4, q4, k4, n4, d4⟩ := k8.stR ⟨_, _, _, rfl⟩ ⟨_, _, _, rfl⟩ (RatV.mk (b := s) ((h0.kp m40).ext x8) (h1.ext x8))
          refine o_store rfl rfl (hs4) ?_
          have x4 := x8.of_new q4 l8
          have rr := rr.ext x4
          have kk := kk.ext x4
          have gg := gg.trans (grownBy_of_ext x4)
          have hml : m.length ≤ 137438953472 := by
            have := hl1 _ rfl
            rw [(rdN_inv hN).1, List.length_append, encN, List.length_append, le4s_len] at this
            omega
          refine o_nil (n_then (c_seq (c_seq (c_region (o_move rfl rfl (o_not rfl rfl r_not (o_move rfl rfl (g_no rfl rfl rfl (g_no rfl rfl rfl (g_no rfl rfl rfl (o_pick_t rfl rfl rfl (o_nil (n_then ?_)))))))))))))
          refine c_yes rfl (c_seq (c_region ?_))
          refine o_build (vs := []) rfl rfl r_buildR0 ?_
          refine o_move rfl rfl (o_call call_fail rfl rfl (fail_spec rr) ?_)
          rintro v59 w59 ⟨rfl, rs, g59⟩
          have m59 := (rr.rdT).kp g59
          have gg := gg.trans g59
          have kk := kk.other g59 hne
          have rr := rs
          obtain ⟨p, q, w3, hp, hs3, q3, k3, n3, d3⟩ := kk.stR ⟨_, _, _, rfl⟩ ⟨_, _, _, rfl⟩ (RatV.mk (b := false) (Wds.nil _) (Wds.nil _))
          refine o_store rfl rfl (hs3) (o_assign rfl rfl (o_nil (n_then (c_ret (r_then ?_)))))
          refine r_bodyc2 rfl rfl rfl k3 Try.underlying35 rfl size_Rat ?_
          exact ⟨_, rfl, gb_new gg q3 l2, by rw [hR]; exact ⟨_, rfl, ⟨p, q, rfl, n3, d3⟩, (rr.rdT.off (kk.kpR ⟨_, _, _, rfl⟩ ⟨_, _, _, rfl⟩ q3) q3 hne').rdAt⟩⟩
end Go.Rl
/- Walks of the reference's reader. Conditions: the bytes are not more than 2^39. -/
namespace Go.Rl
open Go.RowKit Go.Proofs
theorem call_FNew : Callable Try.prog 32 := ⟨_, Try.func32, by kernel_rfl, rfl⟩
theorem call_Ffail : Callable Try.prog 66 := ⟨_, Try.func66, by kernel_rfl, rfl⟩
theorem call_FUint : Callable Try.prog 46 := ⟨_, Try.func46, by kernel_rfl, rfl⟩
theorem call_FInt : Callable Try.prog 58 := ⟨_, Try.func58, by kernel_rfl, rfl⟩
theorem call_FNat : Callable Try.prog 59 := ⟨_, Try.func59, by kernel_rfl, rfl⟩
theorem call_FRat : Callable Try.prog 60 := ⟨_, Try.func60, by kernel_rfl, rfl⟩
theorem call_FBytes : Callable Try.prog 47 := ⟨_, Try.func47, by kernel_rfl, rfl⟩
theorem call_FText : Callable Try.prog 62 := ⟨_, Try.func62, by kernel_rfl, rfl⟩
theorem call_FLeft : Callable Try.prog 34 := ⟨_, Try.func34, by kernel_rfl, rfl⟩
theorem call_FDone : Callable Try.prog 36 := ⟨_, Try.func36, by kernel_rfl, rfl⟩
theorem zero_RfReader : (Try.prog.info? 91).map (·.zero) = some (some (.agg #[.slice none 0 0, .bool false])) := by kernel_rfl
def RfAt (g : Nat) (st : Option (List UInt8)) (w : World) : Prop := RdT 91 g st w
theorem RfAt.ext {g : Nat} {st : Option (List UInt8)} {w w' : World} (h : RfAt g st w) (hx : Ext w w') : RfAt g st w' := RdT.ext h hx
theorem RfAt.lt {w : World} {g : Nat} {st : Option (List UInt8)} (h : RfAt g st w) : g < w.heap.size := by
  obtain ⟨A, n, c, h1, _⟩ := h
  exact Blk.lt h1
theorem rdU_getD {st : Option (List UInt8)} : st.bind rdU = rdU (st.getD []) := by cases st <;> rfl
theorem add_byte {acc mult : UInt64} {c : UInt8} {k : Nat} (ha : acc.toNat < 128 ^ k) (hk : k ≤ 9) (h9 : k = 9 → c.toNat % 128 ≤ 1) (hm : mult.toNat = 128 ^ k) :
    (acc + (c % 128).toUInt64 * mult).toNat = acc.toNat + (c.toNat % 128) * 128 ^ k := by
  have e1 : ((c % 128).toUInt64).toNat = c.toNat % 128 := by rw [UInt8.toNat_toUInt64, UInt8.toNat_mod]; rfl
  rw [UInt64.toNat_add, UInt64.toNat_mul, e1, hm]
  rcases Nat.lt_or_ge k 9 with h | h
  · have h1 : (c.toNat % 128) * 128 ^ k ≤ 127 * 128 ^ 8 := Nat.mul_le_mul (by omega) (Nat.pow_le_pow_right (by omega) (by omega))
    have h2 : 128 ^ k ≤ 128 ^ 8 := Nat.pow_le_pow_right (by omega) (by omega)
    have e : (128 : Nat) ^ 8 = 72057594037927936 := by decide
    rw [Nat.mod_eq_of_lt (by omega), Nat.mod_eq_of_lt (by omega)]
  · have h' : k = 9 := by omega
    subst h'
    have := h9 rfl
    have e : (128 : Nat) ^ 9 = 9223372036854775808 := by decide
    rw [e] at ha ⊢
    rw [Nat.mod_eq_of_lt (by omega), Nat.mod_eq_of_lt (by omega)]
theorem FNew_spec {w : World} {l : List UInt8} {v : Value} (hv : Bts l v w) (hl : l.length ≤ 140737488355328) :
    Calls Try.prog 32 #[v] w (Ret fun r w' => Ext w w' ∧ ∃ g, w.heap.size ≤ g ∧ r = .pointer (some ⟨g, 0, none⟩) ∧ RfAt g (some l) w') := by
  refine enter (vs := [v]) Try.func32 rfl rfl rfl ?_
  refine c_seq (c_region (o_assign rfl rfl (o_nil (n_then (c_seq (c_region ?_))))))
  obtain ⟨v3, w3, hr3, x3, o3, ob3⟩ := r_bsB (w := w) w.heap.size [] (by simp) (Nat.le_refl _)
  refine o_buildSlice (vs := []) rfl rfl hr3 (o_move rfl rfl ?_)
  obtain ⟨v5, w5, hr5, o5, g5⟩ := r_appB (ty := 22) o3 (hv.ext x3) (by simpa using hl) (x3).size
  have x5 := Ext.of_grew (x3) g5 o3.ge
  refine o_append rfl rfl hr5 ?_
  obtain ⟨A, n, c, rfl, _⟩ := id o5.bts
  refine o_build (vs := [(0, .slice A n c)]) rfl rfl (r := .agg #[.slice A n c, .bool false]) (by simp [Instr.build, run_underlying Try.underlying91, r_zero zero_RfReader, r_sizeOf size_bytes, r_sizeOf size_bool, Instr.fill, Value.cells]) ?_
  refine o_box rfl rfl (r_box) (o_assign rfl rfl (o_nil (n_then (c_ret (r_body1 rfl rfl ?_)))))
  exact ⟨_, rfl, (x5).trans (Ext.new _ _), _, (x5).size, rfl, A, n, c, heap_alloc_new _ _, o5.bts.ext (Ext.new _ _)⟩
theorem Ffail_spec {w : World} {g : Nat} {st : Option (List UInt8)} (hr : RfAt g st w) :
    Calls Try.prog 66 #[.pointer (some ⟨g, 0, none⟩)] w (Ret fun r w' => r = I 5 ∧ RfAt g none w' ∧ w.grownBy w' (some g)) := by
  refine enter (vs := [.pointer (some ⟨g, 0, none⟩)]) Try.func66 rfl rfl rfl ?_
  obtain ⟨A, n, c, k0, b0⟩ := hr
  refine c_seq (c_region (o_assign rfl rfl (o_nil (n_then (c_seq (c_region (o_move rfl rfl (o_move rfl rfl (o_nilCheck rfl rfl (o_fieldAddr rfl rfl (r_fAt (o := 0) Try.underlying91 rfl (by kernel_rfl) rfl) ?_))))))))))
  refine o_store rfl rfl (r_store1 size_bytes rfl k0 (by simp)) ?_
  have k1 := k0.set 0 (.slice none 0 0)
  refine o_nilCheck rfl rfl (o_fieldAddr rfl rfl (r_fAt (o := 1) Try.underlying91 rfl (by kernel_rfl) rfl) (o_store rfl rfl (r_store1 (i := 1) size_bool rfl k1 (by simp)) ?_))
  refine o_nil (n_then (c_seq (c_region (o_assign rfl rfl (o_nil (n_then (c_ret (r_body1 rfl rfl ?_))))))))
  exact ⟨_, rfl, rfl, ⟨none, 0, 0, k1.set 1 (.bool true), Bts.nil _⟩, (grownBy_setCell w g 0 _).trans (grownBy_setCell _ g 1 _)⟩
theorem FLeft_spec {w : World} {g : Nat} {st : Option (List UInt8)} (hr : RfAt g st w) :
    Calls Try.prog 34 #[.pointer (some ⟨g, 0, none⟩)] w (Ret fun r w' => r = I ((st.getD []).length : Nat) ∧ w' = w) := by
  refine enter (vs := [.pointer (some ⟨g, 0, none⟩)]) Try.func34 rfl rfl rfl ?_
  obtain ⟨A, n, c, k0, b0⟩ := hr
  refine c_seq (c_region (o_assign rfl rfl (o_nil (n_then (c_seq (c_region (o_move rfl rfl (o_nilCheck rfl rfl (o_fieldAddr rfl rfl (r_fAt (o := 0) Try.underlying91 rfl (by kernel_rfl) rfl) ?_)))))))))
  refine o_load rfl rfl (r_load1 Try.underlying22 rfl (k0.cell (i := 0) rfl)) (o_len rfl rfl (r_lenB b0) (o_assign rfl rfl (o_nil (n_then (c_ret (r_body1 rfl rfl ?_))))))
  exact ⟨_, rfl, rfl, rfl⟩
theorem FDone_spec {w : World} {g : Nat} {st : Option (List UInt8)} (hr : RfAt g st w) :
    Calls Try.prog 36 #[.pointer (some ⟨g, 0, none⟩)] w (Ret fun r w' => r = I (if st = some [] then 0 else 5) ∧ w' = w) := by
  refine enter (vs := [.pointer (some ⟨g, 0, none⟩)]) Try.func36 rfl rfl rfl ?_
  obtain ⟨A, n, c, k0, b0⟩ := hr
  refine c_seq (c_region (o_assign rfl rfl (o_nil (n_then (c_seq (c_seq ?_))))))
  rcases st with _ | l
  · refine c_region (o_move rfl rfl (o_nilCheck rfl rfl (o_fieldAddr rfl rfl (r_fAt (o := 1) Try.underlying91 rfl (by kernel_rfl) rfl) (o_load rfl rfl (r_load1 Try.underlying4 rfl (k0.cell (i := 1) rfl)) ?_))))
    refine o_move rfl rfl (g_no rfl rfl rfl (g_no rfl rfl rfl (g_no rfl rfl rfl (g_no rfl rfl rfl (g_no rfl rfl rfl (g_no rfl rfl rfl (o_pick_t rfl rfl rfl (o_nil (n_then (c_yes rfl (c_seq ?_)))))))))))
    refine c_region (o_assign rfl rfl (o_nil (n_then (c_ret (r_then (r_body1 rfl rfl ?_))))))
    exact ⟨_, rfl, rfl, rfl⟩
  · have b0 : Bts l (.slice A n c) w := b0
    refine c_region (o_move rfl rfl (o_nilCheck rfl rfl (o_fieldAddr rfl rfl (r_fAt (o := 1) Try.underlying91 rfl (by kernel_rfl) rfl) (o_load rfl rfl (r_load1 Try.underlying4 rfl (k0.cell (i := 1) rfl)) ?_))))
    refine o_move rfl rfl (g_yes rfl (o_move rfl rfl (g_yes rfl (o_nilCheck rfl rfl (g_yes rfl (o_fieldAddr rfl rfl (r_fAt (o := 0) Try.underlying91 rfl (by kernel_rfl) rfl) ?_))))))
    refine g_yes rfl (o_load rfl rfl (r_load1 Try.underlying22 rfl (k0.cell (i := 0) rfl)) (g_yes rfl (o_len rfl rfl (r_lenB b0) (g_yes rfl (o_bin rfl rfl rfl (r_gtr_i) ?_)))))
    refine o_pick_f rfl rfl rfl (o_nil (n_then ?_))
    refine c_if rfl (fun h14 => ?_) (fun h14 => ?_)
    · refine c_seq (c_region (o_assign rfl rfl (o_nil (n_then (c_ret (r_then (r_body1 rfl rfl ?_)))))))
      exact ⟨_, rfl, by rw [if_neg (by rintro ⟨⟩; simp at h14)]; rfl, rfl⟩
    · refine c_skip (n_then (c_seq (c_region (o_assign rfl rfl (o_nil (n_then (c_ret (r_body1 rfl rfl ?_))))))))
      exact ⟨_, rfl, by
        have h0 : l = [] := List.eq_nil_of_length_eq_zero (by omega)
        rw [h0]; rfl, rfl⟩
def FUintR (g : Nat) (w : World) (o : Option (Nat × List UInt8)) (r : Value) (w' : World) : Prop :=
  w.grownBy w' (some g) ∧ match o with
    | some (n, t) => r = .tuple #[U64 (UInt64.ofNat n), I 0] ∧ RfAt g (some t) w'
    | none => r = .tuple #[U64 0, I 5] ∧ RfAt g none w'
theorem rdUk_zero (k : Nat) (l : List UInt8) : rdUk 0 k l = none := rfl
theorem rdUk_step {k : Nat} {c : UInt8} {l : List UInt8} (hk : k ≤ 9) : rdUk (10 - k) k (c :: l) = if (k = 9 ∧ 1 < c.toNat) ∨ (0 < k ∧ c.toNat = 0) then none else if c.toNat < 128 then some (c.toNat * 128 ^ k, l) else (rdUk (10 - (k + 1)) (k + 1) l).map fun p => (p.1 + (c.toNat % 128) * 128 ^ k, p.2) := by
  rw [show 10 - k = (9 - k) + 1 by omega, show 10 - (k + 1) = 9 - k by omega]; rfl
theorem FUint_spec {w : World} {g : Nat} {st : Option (List UInt8)} (hr : RfAt g st w) :
    Calls Try.prog 46 #[.pointer (some ⟨g, 0, none⟩)] w (Ret (FUintR g w (st.bind rdU))) := by
  refine enter (vs := [.pointer (some ⟨g, 0, none⟩)]) Try.func46 rfl rfl rfl ?_
  obtain ⟨A, n, c0, k0, b0⟩ := id hr
  rw [rdU_getD]
  obtain ⟨l, hl0⟩ : ∃ l, l = st.getD [] := ⟨_, rfl⟩
  rw [← hl0] at b0 ⊢
  refine c_seq (c_region (o_assign rfl rfl (o_assign rfl rfl (o_nil (n_then (c_seq (c_region (o_assign rfl rfl (o_assign rfl rfl (o_nil (n_then (c_seq (c_seq (c_region (o_assign rfl rfl (o_nil ?_))))))))))))))))
  refine n_then (c_block ?_)
  refine c_loop3 (fun (i : Nat) (acc : UInt64) (mult : UInt64) => [(0, .pointer (some ⟨g, 0, none⟩)), (4, U64 acc), (5, U64 mult), (6, I (i : Int))]) (fun (i : Nat) (acc : UInt64) (mult : UInt64) w' => w = w' ∧ i ≤ 10 ∧ i ≤ l.length ∧ (i ≤ 9 → mult.toNat = 128 ^ i) ∧ acc.toNat < 128 ^ i ∧ rdU l = (rdUk (10 - i) i (l.drop i)).map fun p => (p.1 + acc.toNat, p.2)) (fun (i : Nat) (acc : UInt64) (mult : UInt64) => 10 - i) (0) (0) (1) ⟨rfl, rfl, rfl, rfl, trivial⟩ ⟨rfl, by omega, by omega, fun _ => rfl, by simp, by simp [rdU]⟩ ?_
  rintro i acc mult _ ⟨rfl, hi, hil, hm, ha, hrd⟩
  refine c_seq (c_seq (c_region (o_move rfl rfl (o_move rfl rfl (o_nilCheck rfl rfl (o_fieldAddr rfl rfl (r_fAt (o := 0) Try.underlying91 rfl (by kernel_rfl) rfl) ?_))))))
  refine o_load rfl rfl (r_load1 Try.underlying22 rfl (k0.cell (i := 0) rfl)) (o_len rfl rfl (r_lenB b0) (o_bin rfl rfl rfl (r_lss_i) (o_move rfl rfl ?_)))
  refine o_dec (fun h15 => ?_) (fun h15 => ?_)
  · refine g_yes rfl (o_move rfl rfl (g_yes rfl (o_bin rfl rfl rfl (r_lss_i) (o_pick_t rfl rfl rfl (o_nil (n_then ?_))))))
    refine c_if rfl (fun h18 => ?_) (fun h18 => ?_)
    · refine c_skip (n_then (c_seq (c_block (c_seq (c_region (o_move rfl rfl (o_nilCheck rfl rfl (o_fieldAddr rfl rfl (r_fAt (o := 0) Try.underlying91 rfl (by kernel_rfl) rfl) ?_))))))))
      refine o_load rfl rfl (r_load1 Try.underlying22 rfl (k0.cell (i := 0) rfl)) (o_move rfl rfl ?_)
      obtain ⟨a26, p26, q26⟩ := r_ixB b0 (i := i) (by omega) .i64
      refine o_indexAddr rfl rfl rfl (p26 _) (o_load rfl rfl (r_load1 Try.underlying5 rfl q26) ?_)
      have hil' : i < l.length := by omega
      have hdr := List.drop_eq_getElem_cons hil'
      have hd : ((l[i] % 128).toUInt64).toNat = l[i].toNat % 128 := by rw [UInt8.toNat_toUInt64, UInt8.toNat_mod]; rfl
      have hst : st = some l := by
        cases st with
        | none => rw [show l = [] from hl0] at hil'; simp at hil'
        | some l' => rw [show l = l' from hl0]
      refine o_bin (v := U8 128) rfl rfl rfl (r_rem_u8 (by decide)) (o_conv rfl rfl (r_u8_u64 Try.underlying5 Try.underlying31) (o_assign rfl rfl (o_nil ?_)))
      refine n_then (c_seq ?_)
      refine c_cut (fun _ : Unit => [(0, .pointer (some ⟨g, 0, none⟩)), (4, U64 acc), (5, U64 mult), (6, I (i : Int)), (7, U64 ((l[i] % 128).toUInt64))]) (fun _ w' => w = w' ∧ (i = 9 → l[i].toNat % 128 ≤ 1)) ?_ ?_
      · refine c_seq (c_region (o_move rfl rfl (o_bin rfl rfl rfl (r_eql_i) (o_move rfl rfl ?_))))
        refine o_dec (fun h32 => ?_) (fun h32 => ?_)
        · refine g_yes rfl (o_move rfl rfl (g_yes rfl (o_bin (v := U64 1) rfl rfl rfl (r_gtr_u64) (o_pick_t rfl rfl rfl (o_nil (n_then ?_))))))
          refine c_if rfl (fun h35 => ?_) (fun h35 => ?_)
          · have hn : rdU l = none := by
              have h35 := UInt64.lt_iff_toNat_lt.1 h35
              rw [hd, show (1 : UInt64).toNat = 1 from rfl] at h35
              rw [hrd, hdr, rdUk_step (by omega), if_pos (Or.inl ⟨by omega, by omega⟩)]; rfl
            refine c_seq (c_region (o_move rfl rfl (o_call call_Ffail rfl rfl (Ffail_spec hr) ?_)))
            rintro v37 w37 ⟨rfl, hr2, gg⟩
            have m37 := RdT.kp hr gg
            refine o_assign rfl rfl (o_assign rfl rfl (o_nil (n_then (c_ret (r_then (r_then (r_block (r_then (r_then (r_block (r_then (r_body2 rfl rfl rfl ?_))))))))))))
            exact ⟨_, rfl, gg, by rw [hn]; exact ⟨rfl, hr2⟩⟩
          · refine c_skip ?_
            exact n_meet () ⟨rfl, rfl, rfl, rfl, rfl, trivial⟩ ⟨rfl, fun h9 => by
              first
              | exact absurd h9 (by omega)
              | (refine Nat.le_of_not_lt fun hh => h35 (UInt64.lt_iff_toNat_lt.2 ?_); rw [hd]; exact hh)⟩
        · refine g_no rfl rfl rfl (g_no rfl rfl rfl (o_pick_f rfl rfl rfl (o_nil (n_then (c_no rfl (c_skip ?_))))))
          exact n_meet () ⟨rfl, rfl, rfl, rfl, rfl, trivial⟩ ⟨rfl, fun h9 => by
            first
            | exact absurd h9 (by omega)
            | (refine Nat.le_of_not_lt fun hh => h35 (UInt64.lt_iff_toNat_lt.2 ?_); rw [hd]; exact hh)⟩
      rintro ⟨⟩ _ ⟨rfl, h9⟩
      refine n_then (c_seq ?_)
      have hab := add_byte (c := l[i]) ha (by omega) h9 (hm (by omega))
      refine c_region (o_move rfl rfl (o_move rfl rfl (o_move rfl rfl (o_bin rfl rfl rfl (r_mul_u64) (o_bin rfl rfl rfl (r_add_u64) (o_assign rfl rfl (o_nil (n_then (c_seq (c_region (o_move rfl rfl ?_)))))))))))
      refine o_bin (v := U64 128) rfl rfl rfl (r_mul_u64) (o_assign rfl rfl (o_nil (n_then (c_seq (c_region (o_move rfl rfl (o_nilCheck rfl rfl (o_fieldAddr rfl rfl (r_fAt (o := 0) Try.underlying91 rfl (by kernel_rfl) rfl) ?_))))))))
      refine o_load rfl rfl (r_load1 Try.underlying22 rfl (k0.cell (i := 0) rfl)) (o_move rfl rfl ?_)
      obtain ⟨a50, p50, q50⟩ := r_ixB b0 (i := i) (by omega) .i64
      refine o_indexAddr rfl rfl rfl (p50 _) (o_load rfl rfl (r_load1 Try.underlying5 rfl q50) (o_bin (v := U8 128) rfl rfl rfl (r_lss_u8) (o_nil (n_then ?_))))
      refine c_if rfl (fun h52 => ?_) (fun h52 => ?_)
      · have hc : l[i].toNat < 128 := UInt8.lt_iff_toNat_lt.1 h52
        refine c_seq ?_
        refine c_cut (fun _ : Unit => [(0, .pointer (some ⟨g, 0, none⟩)), (4, U64 (acc + (l[i] % 128).toUInt64 * mult)), (6, I (i : Int))]) (fun _ w' => w = w' ∧ ¬ (0 < i ∧ l[i].toNat = 0)) ?_ ?_
        · refine c_seq (c_region (o_move rfl rfl (o_bin rfl rfl rfl (r_gtr_i) (o_move rfl rfl ?_))))
          refine o_dec (fun h55 => ?_) (fun h55 => ?_)
          · refine g_yes rfl (o_move rfl rfl (g_yes rfl (o_bin (v := U64 0) rfl rfl rfl (r_eql_u64) (o_pick_t rfl rfl rfl (o_nil (n_then ?_))))))
            refine c_if rfl (fun h58 => ?_) (fun h58 => ?_)
            · have hn : rdU l = none := by
                have h58 := congrArg UInt64.toNat h58
                rw [hd, show (0 : UInt64).toNat = 0 from rfl] at h58
                rw [hrd, hdr, rdUk_step (by omega), if_pos (Or.inr ⟨by omega, by omega⟩)]; rfl
              refine c_seq (c_region (o_move rfl rfl (o_call call_Ffail rfl rfl (Ffail_spec hr) ?_)))
              rintro v60 w60 ⟨rfl, hr2, gg⟩
              have m60 := RdT.kp hr gg
              refine o_assign rfl rfl (o_assign rfl rfl (o_nil (n_then (c_ret (r_then (r_then (r_block (r_then (r_then (r_block (r_then (r_body2 rfl rfl rfl ?_))))))))))))
              exact ⟨_, rfl, gg, by rw [hn]; exact ⟨rfl, hr2⟩⟩
            · refine c_skip ?_
              exact n_meet () ⟨rfl, rfl, rfl, trivial⟩ ⟨rfl, fun hh => by
                first
                | omega
                | exact h58 (by rw [UInt8.toNat_inj.1 (show l[i].toNat = (0 : UInt8).toNat from hh.2)]; rfl)⟩
          · refine g_no rfl rfl rfl (g_no rfl rfl rfl (o_pick_f rfl rfl rfl (o_nil (n_then (c_no rfl (c_skip ?_))))))
            exact n_meet () ⟨rfl, rfl, rfl, trivial⟩ ⟨rfl, fun hh => by
              first
              | omega
              | exact h58 (by rw [UInt8.toNat_inj.1 (show l[i].toNat = (0 : UInt8).toNat from hh.2)]; rfl)⟩
        rintro ⟨⟩ _ ⟨rfl, hz⟩
        refine n_then (c_seq (c_region (o_move rfl rfl (o_move rfl rfl (o_nilCheck rfl rfl (o_fieldAddr rfl rfl (r_fAt (o := 0) Try.underlying91 rfl (by kernel_rfl) rfl) ?_))))))
        refine o_load rfl rfl (r_load1 Try.underlying22 rfl (k0.cell (i := 0) rfl)) (o_move rfl rfl (o_bin (r := I ((i + 1 : Nat) : Int)) rfl rfl rfl (by have e : ((i + 1 : Nat) : Int) = (i : Int) + 1 := (by omega); rw [e]; exact r_add_i (by omega) (by omega)) ?_))
        obtain ⟨v68, p68, b68⟩ := r_slB_lo b0 (lo := i + 1) (by omega) .i64
        refine o_slice rfl rfl rfl rfl rfl (p68 _) (o_nilCheck rfl rfl (o_fieldAddr rfl rfl (r_fAt (o := 0) Try.underlying91 rfl (by kernel_rfl) rfl) ?_))
        obtain ⟨w3, hs3, q3, r3⟩ := RdT.set (by have := hr; rw [hst] at this; exact this) b68
        refine o_store rfl rfl (hs3) (o_nil (n_then (c_seq (c_region (o_move rfl rfl (o_assign rfl rfl (o_assign rfl rfl (o_nil (n_then (c_ret (r_block (r_then (r_then (r_block (r_then (r_body2 rfl rfl rfl ?_))))))))))))))))
        exact ⟨_, rfl, q3, by
          rw [hrd, hdr, rdUk_step (by omega), if_neg (fun hh => hh.elim (fun h => by have := h9 h.1; omega) hz), if_pos hc]
          rw [Nat.mod_eq_of_lt hc] at hab
          exact ⟨by rw [Nat.add_comm, ← hab, UInt64.ofNat_toNat]; rfl, r3⟩⟩
      · have hc : ¬ l[i].toNat < 128 := fun hh => h52 (UInt8.lt_iff_toNat_lt.2 hh)
        refine c_skip (n_block (n_then (c_region (o_move rfl rfl (o_bin (r := I ((i + 1 : Nat) : Int)) rfl rfl rfl (by have e : ((i + 1 : Nat) : Int) = (i : Int) + 1 := (by omega); rw [e]; exact r_add_i (by omega) (by omega)) ?_)))))
        refine o_assign rfl rfl (o_nil ?_)
        refine n_round3 (i + 1) (acc + (l[i] % 128).toUInt64 * mult) (mult * 128) ⟨rfl, rfl, rfl, rfl, trivial⟩ ⟨rfl, by omega, by omega, fun hi9 => by
          rw [UInt64.toNat_mul, hm (by omega), show (128 : UInt64).toNat = 128 from rfl, ← Nat.pow_succ]
          exact Nat.mod_eq_of_lt (Nat.lt_of_le_of_lt (Nat.pow_le_pow_right (by omega) hi9) (by decide)), by
          rw [hab, Nat.pow_succ]
          have : (l[i].toNat % 128) * 128 ^ i ≤ 127 * 128 ^ i := Nat.mul_le_mul_right _ (by omega)
          omega, by
          rw [hrd, hdr, rdUk_step (by omega), hab]
          by_cases hi9 : i = 9
          · subst hi9
            rw [if_pos (Or.inl ⟨rfl, by omega⟩), show 10 - (9 + 1) = 0 by omega, rdUk_zero, Option.map_none, Option.map_none]
          · rw [if_neg (fun hh => by omega), if_neg hc, Option.map_map]
            congr 1
            funext p
            simp only [Function.comp, Prod.mk.injEq, and_true]
            omega⟩ (by omega)
    · refine c_exit (x_then (x_then (x_here (n_then (c_seq (c_region (o_move rfl rfl (o_call call_Ffail rfl rfl (Ffail_spec hr) ?_))))))))
      rintro v73 w73 ⟨rfl, hr2, gg⟩
      have m73 := RdT.kp hr gg
      refine o_assign rfl rfl (o_assign rfl rfl (o_nil (n_then (c_ret (r_body2 rfl rfl rfl ?_)))))
      exact ⟨_, rfl, gg, by
        have hn : rdU l = none := by
          rw [hrd]
          rcases Nat.lt_or_ge i 10 with h | h
          · rw [List.drop_of_length_le (by omega), rdUk_nil]; rfl
          · rw [show 10 - i = 0 by omega]; rfl
        rw [hn]; exact ⟨rfl, hr2⟩⟩
  · refine g_no rfl rfl rfl (g_no rfl rfl rfl (o_pick_f rfl rfl rfl (o_nil (n_then (c_no rfl (c_exit (x_then (x_then (x_here (n_then (c_seq (c_region (o_move rfl rfl (o_call call_Ffail rfl rfl (Ffail_spec hr) ?_))))))))))))))
    rintro v73 w73 ⟨rfl, hr2, gg⟩
    have m73 := RdT.kp hr gg
    refine o_assign rfl rfl (o_assign rfl rfl (o_nil (n_then (c_ret (r_body2 rfl rfl rfl ?_)))))
    exact ⟨_, rfl, gg, by
      have hn : rdU l = none := by
        rw [hrd]
        rcases Nat.lt_or_ge i 10 with h | h
        · rw [List.drop_of_length_le (by omega), rdUk_nil]; rfl
        · rw [show 10 - i = 0 by omega]; rfl
      rw [hn]; exact ⟨rfl, hr2⟩⟩
end Go.Rl
/- Walks of more of the reference's reader. Conditions: the bytes are not more than 2^39. -/
namespace Go.Rl
open Go.RowKit Go.Proofs
section
variable {w : World} {g : Nat}
theorem FUint_none {st : Option (List UInt8)} (hr : RfAt g st w) (h : st.bind rdU = none) : Calls Try.prog 46 #[.pointer (some ⟨g, 0, none⟩)] w (Ret fun r w' => w.grownBy w' (some g) ∧ r = .tuple #[U64 0, I 5] ∧ RfAt g none w') := by
  have := FUint_spec hr
  rw [h] at this
  exact this
theorem FUint_some {st : Option (List UInt8)} {n : Nat} {t : List UInt8} (hr : RfAt g st w) (h : st.bind rdU = some (n, t)) : Calls Try.prog 46 #[.pointer (some ⟨g, 0, none⟩)] w (Ret fun r w' => w.grownBy w' (some g) ∧ r = .tuple #[U64 (UInt64.ofNat n), I 0] ∧ RfAt g (some t) w') := by
  have := FUint_spec hr
  rw [h] at this
  exact this
end
theorem gb_own {w w1 w2 : World} {row row2 : Option Nat} (h : w.grownBy w1 row) (q : w1.grownBy w2 row2) (hg : ∀ k, row2 = some k → w.heap.size ≤ k) : w.grownBy w2 row :=
  ⟨q.os.trans h.os, q.tape.trans h.tape, q.output.trans h.output, Nat.le_trans h.size q.size, fun i hi hne => (q.block i (Nat.lt_of_lt_of_le hi h.size) (fun e => by have := hg i e.symm; omega)).trans (h.block i hi hne)⟩
theorem OwnW.ge' {base : Nat} {l : List UInt32} {v : Value} {w : World} (h : OwnW base l v w) : ∀ k, v.ownBlock = some k → base ≤ k := fun k hk => h.elim fun _ h => (World.ownsRow.lt h k hk).1
theorem r_u64_n {P : Program} {w : World} {s d : TypeId} {n : Nat} (hs : P.underlying s = some (.int .u64)) (hd : P.underlying d = some (.int .i64)) (hn : n < 9223372036854775808) : (convert s d (U64 (UInt64.ofNat n))).run P w = .ok (I (n : Int)) w := by
  have e : (UInt64.ofNat n).toNat = n := by rw [UInt64.toNat_ofNat']; omega
  have := r_u64_i (P := P) (w := w) hs hd (a := UInt64.ofNat n) (by omega)
  rwa [e] at this
theorem r_half2 {P : Program} {w : World} {s d : TypeId} {n : Nat} (hs : P.underlying s = some (.int .u64)) (hd : P.underlying d = some (.int .i64)) (hn : n < 18446744073709551616) : (convert s d (U64 (UInt64.ofNat n / 2))).run P w = .ok (I ((n / 2 : Nat) : Int)) w := by
  have e : (UInt64.ofNat n / 2).toNat = n / 2 := by
    rw [UInt64.toNat_div, UInt64.toNat_ofNat', show (2 : UInt64).toNat = 2 from rfl]; omega
  have := r_u64_i (P := P) (w := w) hs hd (a := UInt64.ofNat n / 2) (by omega)
  rwa [e] at this
theorem odd_n {n : Nat} : UInt64.ofNat n % 2 = 1 ↔ n % 2 = 1 := by
  rw [← UInt64.toNat_inj, UInt64.toNat_mod, UInt64.toNat_ofNat', show (2 : UInt64).toNat = 2 from rfl, show (1 : UInt64).toNat = 1 from rfl]
  omega
def FIntR (g : Nat) (w : World) (o : Option (Nat × List UInt8)) (r : Value) (w' : World) : Prop :=
  w.grownBy w' (some g) ∧ match o with
    | some (n, t) => r = .tuple #[I (uz n), I 0] ∧ RfAt g (some t) w'
    | none => r = .tuple #[I 0, I 5] ∧ RfAt g none w'
theorem FInt_spec {w : World} {g : Nat} {st : Option (List UInt8)} (hr : RfAt g st w) :
    Calls Try.prog 58 #[.pointer (some ⟨g, 0, none⟩)] w (Ret (FIntR g w (st.bind rdU))) := by
  refine enter (vs := [.pointer (some ⟨g, 0, none⟩)]) Try.func58 rfl rfl rfl ?_
  refine c_seq (c_region (o_assign rfl rfl (o_assign rfl rfl (o_nil (n_then (c_seq ?_))))))
  rcases hN : st.bind rdU with _ | ⟨n, t⟩
  · refine c_region (o_move rfl rfl (o_call call_FUint rfl rfl (FUint_none hr hN) ?_))
    rintro v8 w8 ⟨x8, rfl, hr1⟩
    have m8 := RdT.kp hr x8
    refine o_move rfl rfl (o_extract rfl rfl (r_ext0) (o_extract rfl rfl (r_ext1) (o_assign rfl rfl (o_assign rfl rfl (o_nil (n_then (c_seq (c_seq (c_region (o_move rfl rfl (o_bin (v := U64 2) rfl rfl rfl (r_rem_u64 (by decide)) ?_)))))))))))
    refine o_bin (v := U64 1) rfl rfl rfl (dec_f (by decide) r_eql_u64) (o_nil (n_then (c_no rfl (c_skip (n_then (c_seq (c_region (o_move rfl rfl (o_bin (v := U64 2) rfl rfl rfl (r_quo_u64 (by decide)) ?_)))))))))
    refine o_conv rfl rfl (r_u64_i Try.underlying31 Try.underlying3 (by decide)) ?_
    refine o_move rfl rfl (o_assign rfl rfl (o_assign rfl rfl (o_nil (n_then (c_ret (r_body2 rfl rfl rfl ?_))))))
    exact ⟨_, rfl, x8, rfl, hr1⟩
  · have hnn := (rdU_len (k := (st.getD []).length) hN (by rintro l rfl; exact Nat.le_refl _)).2
    refine c_region (o_move rfl rfl (o_call call_FUint rfl rfl (FUint_some hr hN) ?_))
    rintro v8 w8 ⟨x8, rfl, hr1⟩
    have m8 := RdT.kp hr x8
    refine o_move rfl rfl (o_extract rfl rfl (r_ext0) (o_extract rfl rfl (r_ext1) (o_assign rfl rfl (o_assign rfl rfl (o_nil (n_then (c_seq (c_seq (c_region (o_move rfl rfl (o_bin (v := U64 2) rfl rfl rfl (r_rem_u64 (by decide)) ?_)))))))))))
    refine o_bin (v := U64 1) rfl rfl rfl (r_eql_u64) (o_nil (n_then ?_))
    refine c_if rfl (fun h13 => ?_) (fun h13 => ?_)
    · refine c_seq (c_region (o_move rfl rfl (o_bin (v := U64 2) rfl rfl rfl (r_quo_u64 (by decide)) (o_conv rfl rfl (r_half2 Try.underlying31 Try.underlying3 hnn) ?_))))
      refine o_not rfl rfl (r_neg_i (by omega) (by omega)) (o_bin rfl rfl rfl (r_sub_i (by omega) (by omega)) (o_move rfl rfl (o_assign rfl rfl (o_assign rfl rfl (o_nil (n_then ?_))))))
      refine c_ret (r_then (r_body2 rfl rfl rfl ?_))
      exact ⟨_, rfl, x8, congrArg (fun z => Value.tuple #[I z, I 0]) (show _ = uz n by
        unfold uz
        first
        | (have := odd_n.1 h13; rw [if_neg (by omega)])
        | (have := mt odd_n.2 h13; rw [if_pos (by omega)])), hr1⟩
    · refine c_skip (n_then (c_seq (c_region (o_move rfl rfl (o_bin (v := U64 2) rfl rfl rfl (r_quo_u64 (by decide)) (o_conv rfl rfl (r_half2 Try.underlying31 Try.underlying3 hnn) ?_))))))
      refine o_move rfl rfl (o_assign rfl rfl (o_assign rfl rfl (o_nil (n_then (c_ret (r_body2 rfl rfl rfl ?_))))))
      exact ⟨_, rfl, x8, congrArg (fun z => Value.tuple #[I z, I 0]) (show _ = uz n by
        unfold uz
        first
        | (have := odd_n.1 h13; rw [if_neg (by omega)])
        | (have := mt odd_n.2 h13; rw [if_pos (by omega)])), hr1⟩
def FNatE (g : Nat) (w : World) (o : Option (List UInt32 × List UInt8)) (r : Value) (w' : World) : Prop :=
  w.grownBy w' (some g) ∧ match o with
    | some (m, t) => ∃ v, r = .tuple #[v, I 0] ∧ Wds m v w' ∧ RfAt g (some t) w'
    | none => r = .tuple #[.slice none 0 0, I 5] ∧ RfAt g none w'
theorem gtr_n {n m : Nat} (hn : n < 18446744073709551616) (hm : m < 18446744073709551616) : UInt64.ofNat n > UInt64.ofNat m ↔ m < n := by
  show UInt64.ofNat m < UInt64.ofNat n ↔ m < n
  rw [UInt64.lt_iff_toNat_lt, UInt64.toNat_ofNat', UInt64.toNat_ofNat']
  omega
theorem gtr_0 {n : Nat} (hn : n < 18446744073709551616) : UInt64.ofNat n > 0 ↔ 0 < n := gtr_n hn (by decide)
theorem FNat_spec {w : World} {g : Nat} {st : Option (List UInt8)} (hr : RfAt g st w) (hl : ∀ l, st = some l → l.length ≤ 549755813888) :
    Calls Try.prog 59 #[.pointer (some ⟨g, 0, none⟩)] w (Ret (FNatE g w (st.bind rdN))) := by
  refine enter (vs := [.pointer (some ⟨g, 0, none⟩)]) Try.func59 rfl rfl rfl ?_
  have hglt := hr.lt
  refine c_seq (c_region (o_assign rfl rfl (o_assign rfl rfl (o_nil (n_then (c_seq ?_))))))
  rcases hU : st.bind rdU with _ | ⟨n, t⟩
  · refine c_region (o_move rfl rfl (o_call call_FUint rfl rfl (FUint_none hr hU) ?_))
    rintro v10 w10 ⟨x10, rfl, hr1⟩
    have m10 := RdT.kp hr x10
    refine o_move rfl rfl (o_extract rfl rfl (r_ext0) (o_extract rfl rfl (r_ext1) (o_assign rfl rfl (o_assign rfl rfl (o_nil (n_then (c_seq (c_seq (c_region (o_move rfl rfl (o_bin rfl rfl rfl (dec_t (by decide) r_neq_i) ?_)))))))))))
    refine o_nil (n_then (c_yes rfl (c_seq (c_region (o_move rfl rfl (o_assign rfl rfl (o_assign rfl rfl (o_nil (n_then (c_ret (r_then (r_body2 rfl rfl rfl ?_))))))))))))
    exact ⟨_, rfl, x10, by rw [rdN_u0 hU]; exact ⟨rfl, hr1⟩⟩
  · obtain ⟨ht, hn⟩ := rdU_len hU hl
    refine c_region (o_move rfl rfl (o_call call_FUint rfl rfl (FUint_some hr hU) ?_))
    rintro v10 w10 ⟨x10, rfl, hr1⟩
    have m10 := RdT.kp hr x10
    refine o_move rfl rfl (o_extract rfl rfl (r_ext0) (o_extract rfl rfl (r_ext1) ?_))
    obtain ⟨A, n', c, k, b⟩ := id hr1
    have b : Bts t (.slice A n' c) w10 := b
    refine o_assign rfl rfl (o_assign rfl rfl (o_nil (n_then (c_seq (c_seq (c_region (o_move rfl rfl (o_bin rfl rfl rfl (dec_f (by decide) r_neq_i) (o_nil (n_then (c_no rfl (c_skip (n_then ?_)))))))))))))
    refine c_seq (c_seq (c_region (o_move rfl rfl (o_move rfl rfl (o_nilCheck rfl rfl (o_fieldAddr rfl rfl (r_fAt (o := 0) Try.underlying91 rfl (by kernel_rfl) rfl) ?_))))))
    refine o_load rfl rfl (r_load1 Try.underlying22 rfl (k.cell (i := 0) rfl)) (o_len rfl rfl (r_lenB b) (o_bin (r := I ((t.length / 4 : Nat) : Int)) rfl rfl rfl (by have e : ((t.length / 4 : Nat) : Int) = (t.length : Int) / 4 := (by omega); rw [e]; exact r_quo_i (by omega) (by omega) (by omega)) ?_))
    refine o_conv rfl rfl (r_n_u64 Try.underlying3 Try.underlying31) (o_bin rfl rfl rfl (r_gtr_u64) (o_nil (n_then ?_)))
    refine c_if rfl (fun h24 => ?_) (fun h24 => ?_)
    · have hlong : t.length / 4 < n := (gtr_n hn (by omega)).1 h24
      refine c_seq (c_region (o_move rfl rfl (o_call call_Ffail rfl rfl (Ffail_spec hr1) ?_)))
      rintro v26 w26 ⟨rfl, hr2, g26⟩
      have m26 := RdT.kp hr1 g26
      refine o_assign rfl rfl (o_assign rfl rfl (o_nil (n_then (c_ret (r_then (r_body2 rfl rfl rfl ?_))))))
      exact ⟨_, rfl, x10.trans g26, by rw [rdN_u1 hU, if_neg (by omega)]; exact ⟨rfl, hr2⟩⟩
    · have hle : n ≤ t.length / 4 := Nat.le_of_not_lt (mt (gtr_n hn (by omega)).2 h24)
      have hgb : g < w10.heap.size := RfAt.lt hr1
      refine c_skip (n_then (c_seq (c_region (o_assign rfl rfl (o_nil (n_then (c_seq (c_seq (c_region (o_assign rfl rfl (o_nil (n_then (c_block ?_)))))))))))))
      refine c_loop2 (fun (i : Nat) (u : Value) => [(0, .pointer (some ⟨g, 0, none⟩)), (4, U64 (UInt64.ofNat n)), (6, u), (7, I (i : Int))]) (fun (i : Nat) (u : Value) w' => w10.grownBy w' (some g) ∧ (∃ A n' c, Blk g 91 [.slice A n' c, B false] w' ∧ Bts (t.drop (4 * i)) (.slice A n' c) w10) ∧ OwnW w10.heap.size (unle4 (t.take (4 * i))) u w' ∧ i ≤ n) (fun (i : Nat) (u : Value) => n - i) (0) (.slice none 0 0) ⟨rfl, rfl, rfl, rfl, trivial⟩ ⟨grownBy_refl _ _, ⟨A, n', c, k, by simpa using b⟩, by simpa [unle4] using OwnW.nil _ _, by omega⟩ ?_
      rintro i u w8 ⟨g8, ⟨A, n', c, k8, b0⟩, o6, hi⟩
      refine c_seq (c_seq ?_)
      have b8 := b0.kp (RdT.kp hr1 g8)
      have hdl : (t.drop (4 * i)).length = t.length - 4 * i := by rw [List.length_drop]
      refine c_region (o_move rfl rfl (o_move rfl rfl (o_conv rfl rfl (r_u64_n Try.underlying31 Try.underlying3 (by omega)) (o_bin rfl rfl rfl (r_lss_i) (o_nil ?_)))))
      refine n_then ?_
      refine c_if rfl (fun h30 => ?_) (fun h30 => ?_)
      · refine c_skip (n_then (c_seq (c_block (c_seq (c_grow 36 [0, 4, 7, 33, 68] (by kernel_rfl) (by kernel_rfl) ?_)))))
        refine f_move rfl rfl (f_move rfl rfl (f_nilCheck rfl rfl (f_fieldAddr rfl rfl (fun w hw => r_fAt (o := 0) Try.underlying91 rfl (by kernel_rfl) rfl) ?_)))
        refine f_load rfl rfl (fun w hw => r_load1 Try.underlying22 rfl (hw.cell_some (k8.cell (i := 0) rfl))) ?_
        obtain ⟨a38, p38, q38⟩ := r_ixB b8 (i := 0) (by omega) .i64
        refine f_indexAddr rfl rfl rfl (fun w _ => p38 w) (f_load rfl rfl (fun w hw => r_load1 Try.underlying5 rfl (hw.cell_some q38)) (f_conv rfl rfl (fun w _ => r_u8_u32 Try.underlying5 Try.underlying79) ?_))
        refine f_move rfl rfl (f_nilCheck rfl rfl (f_fieldAddr rfl rfl (fun w hw => r_fAt (o := 0) Try.underlying91 rfl (by kernel_rfl) rfl) ?_))
        refine f_load rfl rfl (fun w hw => r_load1 Try.underlying22 rfl (hw.cell_some (k8.cell (i := 0) rfl))) ?_
        obtain ⟨a45, p45, q45⟩ := r_ixB b8 (i := 1) (by omega) .i64
        refine f_indexAddr rfl rfl rfl (fun w _ => p45 w) (f_load rfl rfl (fun w hw => r_load1 Try.underlying5 rfl (hw.cell_some q45)) (f_conv rfl rfl (fun w _ => r_u8_u32 Try.underlying5 Try.underlying79) ?_))
        refine f_bin (v := U32 256) rfl rfl rfl (fun w _ => r_mul_u32) (f_bin rfl rfl rfl (fun w _ => r_add_u32) (f_move rfl rfl (f_nilCheck rfl rfl (f_fieldAddr rfl rfl (fun w hw => r_fAt (o := 0) Try.underlying91 rfl (by kernel_rfl) rfl) ?_))))
        refine f_load rfl rfl (fun w hw => r_load1 Try.underlying22 rfl (hw.cell_some (k8.cell (i := 0) rfl))) ?_
        obtain ⟨a54, p54, q54⟩ := r_ixB b8 (i := 2) (by omega) .i64
        refine f_indexAddr rfl rfl rfl (fun w _ => p54 w) (f_load rfl rfl (fun w hw => r_load1 Try.underlying5 rfl (hw.cell_some q54)) (f_conv rfl rfl (fun w _ => r_u8_u32 Try.underlying5 Try.underlying79) ?_))
        refine f_bin (v := U32 65536) rfl rfl rfl (fun w _ => r_mul_u32) (f_bin rfl rfl rfl (fun w _ => r_add_u32) (f_move rfl rfl (f_nilCheck rfl rfl (f_fieldAddr rfl rfl (fun w hw => r_fAt (o := 0) Try.underlying91 rfl (by kernel_rfl) rfl) ?_))))
        refine f_load rfl rfl (fun w hw => r_load1 Try.underlying22 rfl (hw.cell_some (k8.cell (i := 0) rfl))) ?_
        obtain ⟨a63, p63, q63⟩ := r_ixB b8 (i := 3) (by omega) .i64
        refine f_indexAddr rfl rfl rfl (fun w _ => p63 w) (f_load rfl rfl (fun w hw => r_load1 Try.underlying5 rfl (hw.cell_some q63)) (f_conv rfl rfl (fun w _ => r_u8_u32 Try.underlying5 Try.underlying79) ?_))
        refine f_bin (v := U32 16777216) rfl rfl rfl (fun w _ => r_mul_u32) (f_bin rfl rfl rfl (fun w _ => r_add_u32) (f_buildSlice (S := Wds [w4 ((t.drop (4 * i))[0]'(by omega)) ((t.drop (4 * i))[1]'(by omega)) ((t.drop (4 * i))[2]'(by omega)) ((t.drop (4 * i))[3]'(by omega))]) (Wds.stable _) rfl (fun w' _ => by rintro _ rfl; obtain ⟨r, w2, h1, h2, h3, _⟩ := r_bsW Try.underlying33 (w := w') w'.heap.size [w4 ((t.drop (4 * i))[0]'(by omega)) ((t.drop (4 * i))[1]'(by omega)) ((t.drop (4 * i))[2]'(by omega)) ((t.drop (4 * i))[3]'(by omega))] (by simp) (Nat.le_refl _); rw [← w4_add] at h1; exact ⟨r, w2, h1, h2, h3.wds⟩) ?_))
        refine f_nil ?_
        intro wg10 xg10
        rintro _ rfl
        rintro _ rfl
        rintro _ rfl
        rintro _ hq33
        obtain rfl := Eq.symm hq33
        intro vg68 b68
        obtain ⟨v69, w69, hr69, o69, g69⟩ := r_appW Try.underlying33 (ty := 33) (o6.ext xg10) b68 (by have := unle4_len i (t.take (4 * i)) (by rw [List.length_take]; omega); simp; omega) (Nat.le_trans g8.size xg10.size)
        have gg := gb_own (g8.trans (gb_ext xg10)) g69.grown (fun k hk => o6.ge' k hk)
        have k69 := (k8.ext xg10).other g69.grown (fun e => by have := o6.ge' g e.symm; omega)
        refine o_append rfl rfl hr69 ?_
        refine o_assign rfl rfl (o_nil (n_then (c_region (o_move rfl rfl (o_move rfl rfl (o_nilCheck rfl rfl (o_fieldAddr rfl rfl (r_fAt (o := 0) Try.underlying91 rfl (by kernel_rfl) rfl) ?_)))))))
        refine o_load rfl rfl (r_load1 Try.underlying22 rfl (k69.cell (i := 0) rfl)) ?_
        obtain ⟨v75, p75, b75⟩ := r_slB_lo b0 (lo := 4) (by omega) .i64
        obtain ⟨A5, n5, c5, rfl, _⟩ := id b75
        refine o_slice rfl rfl rfl rfl rfl (p75 _) ?_
        refine o_nilCheck rfl rfl (o_fieldAddr rfl rfl (r_fAt (o := 0) Try.underlying91 rfl (by kernel_rfl) rfl) (o_store rfl rfl (r_store1 (i := 0) size_bytes rfl k69 (by simp)) ?_))
        have g11 := grownBy_setCell w69 g 0 (.slice A5 n5 c5)
        have o11 := o69.kept g11 (.inr (fun e => by have := o69.ge' g e; omega))
        refine o_nil (n_block (n_then (c_region (o_move rfl rfl (o_bin (r := I ((i + 1 : Nat) : Int)) rfl rfl rfl (by have e : ((i + 1 : Nat) : Int) = (i : Int) + 1 := (by omega); rw [e]; exact r_add_i (by omega) (by omega)) ?_)))))
        refine o_assign rfl rfl (o_nil ?_)
        refine n_round2 (i + 1) (v69) ⟨rfl, rfl, rfl, rfl, trivial⟩ ⟨gg.trans g11, ⟨A5, n5, c5, k69.set 0 _, by rw [List.drop_drop] at b75; exact b75⟩, by
          rw [unle4_next i t (by omega)]
          simp only [List.getElem_drop, Nat.add_zero] at o11
          exact o11, by omega⟩ (by omega)
      · refine c_exit (x_then (x_then (x_here (n_then (c_seq (c_seq ?_))))))
        have hin : i = n := by omega
        have r8 : RfAt g (some (t.drop (4 * i))) w8 := ⟨A, n', c, k8, b8⟩
        obtain ⟨bs, hbs⟩ : ∃ bs, bs = t.take (4 * i) := ⟨_, rfl⟩
        have hbs' : bs = t.take (4 * n) := by rw [hbs, hin]
        have hbl : bs.length = 4 * n := by rw [hbs', List.length_take]; omega
        have hns := unle4_len n bs hbl
        rw [← hbs] at o6
        have hnn : (UInt64.ofNat n).toNat = n := by rw [UInt64.toNat_ofNat']; omega
        refine c_region (o_move rfl rfl (o_bin (v := U64 0) rfl rfl rfl (r_gtr_u64) (o_move rfl rfl ?_)))
        refine o_dec (fun h80 => ?_) (fun h80 => ?_)
        · refine g_yes rfl (o_move rfl rfl (g_yes rfl (o_move rfl rfl (g_yes rfl (o_bin (v := U64 1) rfl rfl rfl (r_sub_u64) (g_yes rfl ?_))))))
          have hn0 : 0 < n := by
            rcases Nat.eq_zero_or_pos n with h | h
            · rw [h] at h80; exact absurd h80 (by decide)
            · exact h
          have hm1 : (UInt64.ofNat n - 1).toNat = n - 1 := by
            rw [UInt64.toNat_sub_of_le _ _ (UInt64.le_iff_toNat_le.2 (by rw [hnn]; exact hn0)), hnn]; rfl
          obtain ⟨a84, p84, q84⟩ := r_ixW Try.underlying33 o6.wds (i := (UInt64.ofNat n - 1).toNat) (by omega) .u64
          have hx : (unle4 bs)[(UInt64.ofNat n - 1).toNat] ≠ 0 ↔ lb (val (unle4 bs)) = unle4 bs := by
            have e : (UInt64.ofNat n - 1).toNat = (unle4 bs).length - 1 := by omega
            simp only [e]
            exact can_iff (by omega)
          refine o_indexAddr rfl rfl rfl (p84 _) (g_yes rfl (o_load rfl rfl (r_load1 Try.underlying79 rfl q84) (g_yes rfl (o_bin (v := U32 0) rfl rfl rfl (r_eql_u32) (o_pick_t rfl rfl rfl ?_)))))
          refine o_nil (n_then ?_)
          refine c_if rfl (fun h87 => ?_) (fun h87 => ?_)
          · refine c_seq (c_region (o_move rfl rfl (o_call call_Ffail rfl rfl (Ffail_spec r8) ?_)))
            rintro v89 w89 ⟨rfl, hr2, g89⟩
            have m89 := RdT.kp r8 g89
            refine o_assign rfl rfl (o_assign rfl rfl (o_nil (n_then (c_ret (r_then (r_body2 rfl rfl rfl ?_))))))
            exact ⟨_, rfl, (x10.trans g8).trans g89, by
              rw [rdN_u1 hU, ← hbs', if_neg fun h => hx.2 h.2 h87]
              exact ⟨rfl, hr2⟩⟩
          · refine c_skip (n_then (c_seq (c_region (o_move rfl rfl (o_assign rfl rfl (o_assign rfl rfl (o_nil (n_then (c_ret (r_body2 rfl rfl rfl ?_))))))))))
            exact ⟨_, rfl, x10.trans g8, by
              rw [hin] at r8
              rw [rdN_u1 hU, ← hbs']
              first
              | (have h0 : n = 0 := by
                   rcases Nat.eq_zero_or_pos n with h | h
                   · exact h
                   · exact absurd ((gtr_0 hn).2 h) h80
                 have hb0 : unle4 bs = [] := List.eq_nil_of_length_eq_zero (by rw [hns]; exact h0)
                 rw [hb0] at o6
                 rw [hb0, if_pos ⟨hle, rfl⟩]
                 exact ⟨u, rfl, o6.wds, r8⟩)
              | (have hcan := hx.1 h87
                 rw [if_pos ⟨hle, hcan⟩]
                 exact ⟨u, rfl, o6.wds, r8⟩)⟩
        · refine g_no rfl rfl rfl (g_no rfl rfl rfl (g_no rfl rfl rfl (g_no rfl rfl rfl (g_no rfl rfl rfl (g_no rfl rfl rfl (o_pick_f rfl rfl rfl (o_nil (n_then (c_no rfl (c_skip (n_then (c_seq ?_))))))))))))
          refine c_region (o_move rfl rfl (o_assign rfl rfl (o_assign rfl rfl (o_nil (n_then (c_ret (r_body2 rfl rfl rfl ?_)))))))
          exact ⟨_, rfl, x10.trans g8, by
            rw [hin] at r8
            rw [rdN_u1 hU, ← hbs']
            first
            | (have h0 : n = 0 := by
                 rcases Nat.eq_zero_or_pos n with h | h
                 · exact h
                 · exact absurd ((gtr_0 hn).2 h) h80
               have hb0 : unle4 bs = [] := List.eq_nil_of_length_eq_zero (by rw [hns]; exact h0)
               rw [hb0] at o6
               rw [hb0, if_pos ⟨hle, rfl⟩]
               exact ⟨u, rfl, o6.wds, r8⟩)
            | (have hcan := hx.1 h87
               rw [if_pos ⟨hle, hcan⟩]
               exact ⟨u, rfl, o6.wds, r8⟩)⟩
end Go.Rl
/- Walks of the reference's reader: byte strings, texts, rationals. Conditions: the bytes are not more than 2^39. -/
namespace Go.Rl
open Go.RowKit Go.Proofs
def FBytesR (g : Nat) (w : World) (o : Option (List UInt8 × List UInt8)) (r : Value) (w' : World) : Prop :=
  w.grownBy w' (some g) ∧ match o with
    | some (a, t) => ∃ v, r = .tuple #[v, I 0] ∧ Bts a v w' ∧ RfAt g (some t) w'
    | none => r = .tuple #[.slice none 0 0, I 5] ∧ RfAt g none w'
theorem rdB_u0 {st : Option (List UInt8)} (h : st.bind rdU = none) : st.bind rdB = none := by
  cases st with
  | none => rfl
  | some l =>
    have h : rdU l = none := h
    show rdB l = none
    unfold rdB
    rw [h]; rfl
theorem rdB_u1 {st : Option (List UInt8)} {n : Nat} {t : List UInt8} (h : st.bind rdU = some (n, t)) : st.bind rdB = if n ≤ t.length then some (t.take n, t.drop n) else none := by
  cases st with
  | none => cases h
  | some l =>
    have h : rdU l = some (n, t) := h
    show rdB l = _
    unfold rdB
    rw [h]; rfl
theorem FBytes_spec {w : World} {g : Nat} {st : Option (List UInt8)} (hr : RfAt g st w) (hl : ∀ l, st = some l → l.length ≤ 549755813888) :
    Calls Try.prog 47 #[.pointer (some ⟨g, 0, none⟩)] w (Ret (FBytesR g w (st.bind rdB))) := by
  refine enter (vs := [.pointer (some ⟨g, 0, none⟩)]) Try.func47 rfl rfl rfl ?_
  refine c_seq (c_region (o_assign rfl rfl (o_assign rfl rfl (o_nil (n_then (c_seq ?_))))))
  rcases hU : st.bind rdU with _ | ⟨n, t⟩
  · refine c_region (o_move rfl rfl (o_call call_FUint rfl rfl (FUint_none hr hU) ?_))
    rintro v9 w9 ⟨x9, rfl, hr1⟩
    have m9 := RdT.kp hr x9
    refine o_move rfl rfl (o_extract rfl rfl (r_ext0) (o_extract rfl rfl (r_ext1) (o_assign rfl rfl (o_assign rfl rfl (o_nil (n_then (c_seq (c_seq (c_region (o_move rfl rfl (o_bin rfl rfl rfl (dec_t (by decide) r_neq_i) ?_)))))))))))
    refine o_nil (n_then (c_yes rfl (c_seq (c_region (o_move rfl rfl (o_assign rfl rfl (o_assign rfl rfl (o_nil (n_then (c_ret (r_then (r_body2 rfl rfl rfl ?_))))))))))))
    exact ⟨_, rfl, x9, by rw [rdB_u0 hU]; exact ⟨rfl, hr1⟩⟩
  · obtain ⟨ht, hn⟩ := rdU_len hU hl
    refine c_region (o_move rfl rfl (o_call call_FUint rfl rfl (FUint_some hr hU) ?_))
    rintro v9 w9 ⟨x9, rfl, hr1⟩
    have m9 := RdT.kp hr x9
    refine o_move rfl rfl (o_extract rfl rfl (r_ext0) (o_extract rfl rfl (r_ext1) ?_))
    obtain ⟨A, n', c, k, b⟩ := id hr1
    have b : Bts t (.slice A n' c) w9 := b
    have hgb : g < w9.heap.size := RfAt.lt hr1
    refine o_assign rfl rfl (o_assign rfl rfl (o_nil (n_then (c_seq (c_seq (c_region (o_move rfl rfl (o_bin rfl rfl rfl (dec_f (by decide) r_neq_i) (o_nil (n_then (c_no rfl (c_skip (n_then ?_)))))))))))))
    refine c_seq (c_seq (c_region (o_move rfl rfl (o_move rfl rfl (o_nilCheck rfl rfl (o_fieldAddr rfl rfl (r_fAt (o := 0) Try.underlying91 rfl (by kernel_rfl) rfl) ?_))))))
    refine o_load rfl rfl (r_load1 Try.underlying22 rfl (k.cell (i := 0) rfl)) (o_len rfl rfl (r_lenB b) (o_conv rfl rfl (r_n_u64 Try.underlying3 Try.underlying31) ?_))
    refine o_bin rfl rfl rfl (r_gtr_u64) (o_nil (n_then ?_))
    refine c_if rfl (fun h22 => ?_) (fun h22 => ?_)
    · have hlong : t.length < n := (gtr_n hn (by omega)).1 h22
      refine c_seq (c_region (o_move rfl rfl (o_call call_Ffail rfl rfl (Ffail_spec hr1) ?_)))
      rintro v24 w24 ⟨rfl, hr2, g24⟩
      have m24 := RdT.kp hr1 g24
      refine o_assign rfl rfl (o_assign rfl rfl (o_nil (n_then (c_ret (r_then (r_body2 rfl rfl rfl ?_))))))
      exact ⟨_, rfl, x9.trans g24, by rw [rdB_u1 hU, if_neg (by omega)]; exact ⟨rfl, hr2⟩⟩
    · have hle : n ≤ t.length := Nat.le_of_not_lt (mt (gtr_n hn (by omega)).2 h22)
      have hnn : (UInt64.ofNat n).toNat = n := by rw [UInt64.toNat_ofNat']; omega
      refine c_skip (n_then (c_seq (c_region ?_)))
      obtain ⟨v25, w25, hr25, x25, o25, ob25⟩ := r_bsB (w := w9) w9.heap.size [] (by simp) (Nat.le_refl _)
      refine o_buildSlice (vs := []) rfl rfl hr25 (o_move rfl rfl (o_nilCheck rfl rfl (o_fieldAddr rfl rfl (r_fAt (o := 0) Try.underlying91 rfl (by kernel_rfl) rfl) ?_)))
      refine o_load rfl rfl (r_load1 Try.underlying22 rfl (x25.cell_some (k.cell (i := 0) rfl))) (o_move rfl rfl ?_)
      obtain ⟨v31, p31, b31⟩ := r_slB_hi (b.ext x25) (hi := (UInt64.ofNat n).toNat) (by omega) .u64
      rw [hnn] at b31
      refine o_slice (b := some (U64 (UInt64.ofNat n))) rfl rfl rfl rfl rfl (p31 _) ?_
      obtain ⟨v32, w32, hr32, o32, g32⟩ := r_appB (ty := 22) o25 b31 (by simp; omega) (x25).size
      have x32 := Ext.of_grew (x25) g32 o25.ge
      refine o_append rfl rfl hr32 (o_assign rfl rfl (o_nil (n_then (c_seq (c_region (o_move rfl rfl (o_move rfl rfl (o_nilCheck rfl rfl (o_fieldAddr rfl rfl (r_fAt (o := 0) Try.underlying91 rfl (by kernel_rfl) rfl) ?_)))))))))
      refine o_load rfl rfl (r_load1 Try.underlying22 rfl (x32.cell_some (k.cell (i := 0) rfl))) (o_move rfl rfl ?_)
      obtain ⟨v39, p39, b39⟩ := r_slB_lo (b.ext x32) (lo := (UInt64.ofNat n).toNat) (by omega) .u64
      rw [hnn] at b39
      refine o_slice (a := some (U64 (UInt64.ofNat n))) rfl rfl rfl rfl rfl (p39 _) ?_
      have hr1' := RfAt.ext hr1 x32
      have hvb : Bts (t.take n) v32 w32 := by simpa using (o32).bts
      refine o_nilCheck rfl rfl (o_fieldAddr rfl rfl (r_fAt (o := 0) Try.underlying91 rfl (by kernel_rfl) rfl) ?_)
      obtain ⟨w3, hs3, q3, r3⟩ := RdT.set hr1' b39
      refine o_store rfl rfl (hs3) ?_
      have gg := (x9.trans (gb_ext x32)).trans q3
      refine o_nil (n_then (c_seq (c_region (o_move rfl rfl (o_assign rfl rfl (o_assign rfl rfl (o_nil (n_then (c_ret (r_body2 rfl rfl rfl ?_))))))))))
      exact ⟨_, rfl, gg, by rw [rdB_u1 hU, if_pos hle]; exact ⟨_, rfl, hvb.kp (RdT.kp hr1' q3), r3⟩⟩
theorem rdB_len' {st : Option (List UInt8)} {a t : List UInt8} {k : Nat} (h : st.bind rdB = some (a, t)) (hl : ∀ l, st = some l → l.length ≤ k) : a.length ≤ k := by
  cases st with
  | none => cases h
  | some l => exact Nat.le_trans (rdB_len (show rdB l = some (a, t) from h)) (hl l rfl)
section
variable {w : World} {g : Nat}
theorem FBytes_none {st : Option (List UInt8)} (hr : RfAt g st w) (hl : ∀ l, st = some l → l.length ≤ 549755813888) (h : st.bind rdB = none) : Calls Try.prog 47 #[.pointer (some ⟨g, 0, none⟩)] w (Ret fun r w' => w.grownBy w' (some g) ∧ r = .tuple #[.slice none 0 0, I 5] ∧ RfAt g none w') := by
  have := FBytes_spec hr hl
  rw [h] at this
  exact this
theorem FBytes_some {st : Option (List UInt8)} {a t : List UInt8} (hr : RfAt g st w) (hl : ∀ l, st = some l → l.length ≤ 549755813888) (h : st.bind rdB = some (a, t)) : Calls Try.prog 47 #[.pointer (some ⟨g, 0, none⟩)] w (Ret fun r w' => w.grownBy w' (some g) ∧ ∃ v, r = .tuple #[v, I 0] ∧ Bts a v w' ∧ RfAt g (some t) w') := by
  have := FBytes_spec hr hl
  rw [h] at this
  exact this
theorem FNat_none {st : Option (List UInt8)} (hr : RfAt g st w) (hl : ∀ l, st = some l → l.length ≤ 549755813888) (h : st.bind rdN = none) : Calls Try.prog 59 #[.pointer (some ⟨g, 0, none⟩)] w (Ret fun r w' => w.grownBy w' (some g) ∧ r = .tuple #[.slice none 0 0, I 5] ∧ RfAt g none w') := by
  have := FNat_spec hr hl
  rw [h] at this
  exact this
theorem FNat_some {st : Option (List UInt8)} {m : List UInt32} {t : List UInt8} (hr : RfAt g st w) (hl : ∀ l, st = some l → l.length ≤ 549755813888) (h : st.bind rdN = some (m, t)) : Calls Try.prog 59 #[.pointer (some ⟨g, 0, none⟩)] w (Ret fun r w' => w.grownBy w' (some g) ∧ ∃ v, r = .tuple #[v, I 0] ∧ Wds m v w' ∧ RfAt g (some t) w') := by
  have := FNat_spec hr hl
  rw [h] at this
  exact this
end
def FTextR (g : Nat) (w : World) (o : Option (List UInt8 × List UInt8)) (r : Value) (w' : World) : Prop :=
  w.grownBy w' (some g) ∧ match o with
    | some (a, t) => r = .tuple #[S a, I 0] ∧ RfAt g (some t) w'
    | none => r = .tuple #[S [], I 5] ∧ RfAt g none w'
theorem FText_spec {w : World} {g : Nat} {st : Option (List UInt8)} (hr : RfAt g st w) (hl : ∀ l, st = some l → l.length ≤ 549755813888) :
    Calls Try.prog 62 #[.pointer (some ⟨g, 0, none⟩)] w (Ret (FTextR g w (st.bind rdB))) := by
  refine enter (vs := [.pointer (some ⟨g, 0, none⟩)]) Try.func62 rfl rfl rfl ?_
  refine c_seq (c_region (o_assign rfl rfl (o_assign rfl rfl (o_nil (n_then (c_seq ?_))))))
  rcases hU : st.bind rdB with _ | ⟨a, t⟩
  · refine c_region (o_move rfl rfl (o_call call_FBytes rfl rfl (FBytes_none hr hl hU) ?_))
    rintro v8 w8 ⟨x8, rfl, hr1⟩
    have m8 := RdT.kp hr x8
    have hnil := Bts.nil w8
    refine o_move rfl rfl (o_extract rfl rfl (r_ext0) (o_extract rfl rfl (r_ext1) (o_assign rfl rfl (o_assign rfl rfl (o_nil (n_then (c_seq (c_region (o_move rfl rfl (o_conv rfl rfl (r_str hnil) ?_))))))))))
    refine o_move rfl rfl (o_assign rfl rfl (o_assign rfl rfl (o_nil (n_then (c_ret (r_body2 rfl rfl rfl ?_))))))
    exact ⟨_, rfl, x8, rfl, hr1⟩
  · refine c_region (o_move rfl rfl (o_call call_FBytes rfl rfl (FBytes_some hr hl hU) ?_))
    rintro v8 w8 ⟨x8, v0, rfl, hb, hr1⟩
    have m8 := RdT.kp hr x8
    refine o_move rfl rfl (o_extract rfl rfl (r_ext0) (o_extract rfl rfl (r_ext1) (o_assign rfl rfl (o_assign rfl rfl (o_nil (n_then (c_seq (c_region (o_move rfl rfl (o_conv rfl rfl (r_str hb) ?_))))))))))
    refine o_move rfl rfl (o_assign rfl rfl (o_assign rfl rfl (o_nil (n_then (c_ret (r_body2 rfl rfl rfl ?_))))))
    exact ⟨_, rfl, x8, rfl, hr1⟩
end Go.Rl

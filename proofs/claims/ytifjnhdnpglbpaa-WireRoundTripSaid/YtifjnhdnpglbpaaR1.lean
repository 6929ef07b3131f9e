/- Walks of package relucertref01. Conditions: the numbers are shorter than 2^39 limbs. -/
import Derived.Test.YtifjnhdnpglbpaaN3
import Derived.Test.YtifjnhdnpglbpaaNat3
namespace Go.Rl
open Go.RowKit Go.Proofs
theorem call_RMake : Callable Try.prog 76 := ⟨_, Try.func76, by kernel_rfl, rfl⟩
theorem call_ROf : Callable Try.prog 81 := ⟨_, Try.func81, by kernel_rfl, rfl⟩
theorem call_RUint : Callable Try.prog 80 := ⟨_, Try.func80, by kernel_rfl, rfl⟩
theorem call_RLimb : Callable Try.prog 93 := ⟨_, Try.func93, by kernel_rfl, rfl⟩
theorem call_RCmp : Callable Try.prog 85 := ⟨_, Try.func85, by kernel_rfl, rfl⟩
theorem call_RSame : Callable Try.prog 57 := ⟨_, Try.func57, by kernel_rfl, rfl⟩
theorem call_RAdd : Callable Try.prog 84 := ⟨_, Try.func84, by kernel_rfl, rfl⟩
theorem call_RSub : Callable Try.prog 86 := ⟨_, Try.func86, by kernel_rfl, rfl⟩
theorem call_RShl : Callable Try.prog 83 := ⟨_, Try.func83, by kernel_rfl, rfl⟩
theorem call_RBits : Callable Try.prog 82 := ⟨_, Try.func82, by kernel_rfl, rfl⟩

theorem RMake_own {w : World} {l : List UInt32} {v : Value} (hv : Wds l v w) (hl : l.length ≤ 8796093022208) :
    Calls Try.prog 76 #[v] w (Ret fun r w' => Ext w w' ∧ OwnW w.heap.size (lb (val l)) r w') := by
  refine enter (vs := [v]) Try.func76 rfl rfl rfl ?_
  refine c_seq (c_region (o_assign rfl rfl (o_nil (n_then (c_seq (c_region (o_move rfl rfl (o_len rfl rfl (r_lenW Try.underlying32 hv) (o_assign rfl rfl (o_nil (n_then (c_seq ?_))))))))))))
  refine c_block ?_
  refine c_loop (α := Nat) (fun n => [(0, v), (3, I (n : Int))]) (fun n w' => w = w' ∧ n ≤ l.length ∧ val (l.take n) = val l) (fun n => n) (l.length) ⟨rfl, rfl, trivial⟩ ⟨rfl, Nat.le_refl _, by rw [List.take_length]⟩ ?_
  rintro n _ ⟨rfl, hn, hval⟩
  refine c_seq (c_seq (c_region (o_move rfl rfl (o_bin rfl rfl rfl (r_gtr_i) (o_move rfl rfl ?_)))))
  refine o_dec (fun h8 => ?_) (fun h8 => ?_)
  · refine g_yes rfl (o_move rfl rfl (g_yes rfl (o_move rfl rfl (g_yes rfl (o_bin (r := I ((n - 1 : Nat) : Int)) rfl rfl rfl (by have e : ((n - 1 : Nat) : Int) = (n : Int) - 1 := (by omega); rw [e]; exact r_sub_i (by omega) (by omega)) ?_)))))
    refine g_yes rfl ?_
    obtain ⟨a12, p12, q12⟩ := r_ixW Try.underlying32 hv (i := (n - 1 : Nat)) (by omega) .i64
    refine o_indexAddr rfl rfl rfl (p12 _) (g_yes rfl (o_load rfl rfl (r_load1 Try.underlying79 rfl q12) (g_yes rfl (o_bin (v := U32 0) rfl rfl rfl (r_eql_u32) (o_pick_t rfl rfl rfl ?_)))))
    refine o_nil (n_then ?_)
    refine c_if rfl (fun h15 => ?_) (fun h15 => ?_)
    · refine c_skip (n_then (c_block (c_region (o_move rfl rfl (o_bin (r := I ((n - 1 : Nat) : Int)) rfl rfl rfl (by have e : ((n - 1 : Nat) : Int) = (n : Int) - 1 := (by omega); rw [e]; exact r_sub_i (by omega) (by omega)) ?_)))))
      refine o_assign rfl rfl (o_nil (n_block ?_))
      refine n_round (n - 1) ⟨rfl, rfl, trivial⟩ ⟨rfl, by omega, by rw [trim_step (by omega) hn h15]; exact hval⟩ (by omega)
    · refine c_exit (x_then (x_then (x_here (n_then (c_seq (c_region ?_))))))
      obtain ⟨v18, w18, hr18, x18, o18, ob18⟩ := r_bsW Try.underlying33 (w := w) w.heap.size [] (by simp) (Nat.le_refl _)
      refine o_buildSlice (vs := []) rfl rfl hr18 (o_move rfl rfl (o_move rfl rfl ?_))
      obtain ⟨v21, p21, b21⟩ := r_slW_hi Try.underlying32 (hv.ext x18) (hi := n) hn .i64
      refine o_slice rfl rfl rfl rfl rfl (p21 _) ?_
      obtain ⟨v22, w22, hr22, o22, g22⟩ := r_appW2 Try.underlying33 Try.underlying32 (ty := 33) o18 b21 (by simp; omega) (x18).size
      have x22 := Ext.of_grew (x18) g22 o18.ge
      refine o_append rfl rfl hr22 (o_assign rfl rfl (o_nil (n_then (c_ret (r_body1 rfl rfl ?_)))))
      exact ⟨_, rfl, x22, by
        have e : lb (val l) = l.take n := by
          first
          | rw [← hval, trim_done (by omega) hn h15]
          | (have h0 : n = 0 := by omega
             subst h0
             rw [← hval]; rfl)
        rw [e]; simpa using o22⟩
  · refine g_no rfl rfl rfl (g_no rfl rfl rfl (g_no rfl rfl rfl (g_no rfl rfl rfl (g_no rfl rfl rfl (g_no rfl rfl rfl (o_pick_f rfl rfl rfl (o_nil (n_then (c_no rfl (c_exit (x_then (x_then ?_))))))))))))
    refine x_here (n_then (c_seq (c_region ?_)))
    obtain ⟨v18, w18, hr18, x18, o18, ob18⟩ := r_bsW Try.underlying33 (w := w) w.heap.size [] (by simp) (Nat.le_refl _)
    refine o_buildSlice (vs := []) rfl rfl hr18 (o_move rfl rfl (o_move rfl rfl ?_))
    obtain ⟨v21, p21, b21⟩ := r_slW_hi Try.underlying32 (hv.ext x18) (hi := n) hn .i64
    refine o_slice rfl rfl rfl rfl rfl (p21 _) ?_
    obtain ⟨v22, w22, hr22, o22, g22⟩ := r_appW2 Try.underlying33 Try.underlying32 (ty := 33) o18 b21 (by simp; omega) (x18).size
    have x22 := Ext.of_grew (x18) g22 o18.ge
    refine o_append rfl rfl hr22 (o_assign rfl rfl (o_nil (n_then (c_ret (r_body1 rfl rfl ?_)))))
    exact ⟨_, rfl, x22, by
      have e : lb (val l) = l.take n := by
        first
        | rw [← hval, trim_done (by omega) hn h15]
        | (have h0 : n = 0 := by omega
           subst h0
           rw [← hval]; rfl)
      rw [e]; simpa using o22⟩
theorem RMake_spec {w : World} {l : List UInt32} {v : Value} (hv : Wds l v w) (hl : l.length ≤ 8796093022208) :
    Calls Try.prog 76 #[v] w (Ret fun r w' => Ext w w' ∧ Wds (lb (val l)) r w') :=
  (RMake_own hv hl).mono fun _ _ ⟨r, he, h1, h2⟩ => ⟨r, he, h1, h2.wds⟩
theorem ROf_spec {w : World} {x : UInt64} :
    Calls Try.prog 81 #[U64 x] w (Ret fun r w' => Ext w w' ∧ Wds (lb x.toNat) r w') := by
  refine enter (vs := [U64 x]) Try.func81 rfl rfl rfl ?_
  refine c_seq (c_region (o_assign rfl rfl (o_nil (n_then (c_seq (c_region (o_move rfl rfl (o_conv rfl rfl (r_u64_u32 Try.underlying31 Try.underlying79) (o_move rfl rfl ?_)))))))))
  refine o_bin rfl rfl rfl (r_shr_u64 32 (by omega)) (o_conv rfl rfl (r_u64_u32 Try.underlying31 Try.underlying79) ?_)
  obtain ⟨v8, w8, hr8, x8, o8, ob8⟩ := r_bsW Try.underlying32 (w := w) w.heap.size [x.toUInt32, (x >>> UInt64.ofNat 32).toUInt32] (by simp) (Nat.le_refl _)
  refine o_buildSlice (vs := [(0, U32 (x.toUInt32)), (1, U32 ((x >>> UInt64.ofNat 32).toUInt32))]) rfl rfl hr8 (o_call call_RMake rfl rfl (RMake_spec o8.wds (by simp)) ?_)
  rintro v9 w9 ⟨x9, b9⟩
  refine o_assign rfl rfl (o_nil (n_then (c_ret (r_body1 rfl rfl ?_))))
  exact ⟨_, rfl, (x8.trans x9), by
    have e : val [x.toUInt32, (x >>> UInt64.ofNat 32).toUInt32] = x.toNat := by
      have h1 := n_32 x
      have h2 : ((x >>> UInt64.ofNat 32).toUInt32).toNat = x.toNat / 4294967296 := by
        have := u64_lt x
        rw [n_32, u64_shr32]
        omega
      simp only [val, h1, h2]; omega
    rw [e] at b9; exact b9⟩
theorem RLimb_spec {w : World} {l : List UInt32} {v : Value} {i : Nat} (hv : Wds l v w) :
    Calls Try.prog 93 #[v, I (i : Int)] w (Ret fun r w' => w = w' ∧ r = U32 (l.getD i 0)) := by
  refine enter (vs := [v, I (i : Int)]) Try.func93 rfl rfl rfl ?_
  refine c_seq (c_region (o_assign rfl rfl (o_nil (n_then (c_seq (c_seq (c_region (o_move rfl rfl (o_move rfl rfl (o_len rfl rfl (r_lenW Try.underlying33 hv) (o_bin rfl rfl rfl (r_lss_i) ?_)))))))))))
  refine o_nil (n_then ?_)
  refine c_if rfl (fun h8 => ?_) (fun h8 => ?_)
  · refine c_seq (c_region (o_move rfl rfl (o_move rfl rfl ?_)))
    obtain ⟨a11, p11, q11⟩ := r_ixW Try.underlying33 hv (i := i) (by omega) .i64
    refine o_indexAddr rfl rfl rfl (p11 _) (o_load rfl rfl (r_load1 Try.underlying79 rfl q11) (o_assign rfl rfl (o_nil (n_then (c_ret (r_then (r_body1 rfl rfl ?_)))))))
    exact ⟨_, rfl, rfl, by simp [List.getD, List.getElem?_eq_getElem (show i < l.length by omega)]⟩
  · refine c_skip (n_then (c_seq (c_region (o_assign rfl rfl (o_nil (n_then (c_ret (r_body1 rfl rfl ?_))))))))
    exact ⟨_, rfl, rfl, by simp [List.getD, List.getElem?_eq_none (show l.length ≤ i by omega)]; rfl⟩
theorem RCmp_spec {w : World} {l m : List UInt32} {v u : Value} (hv : Wds l v w) (hu : Wds m u w) :
    Calls Try.prog 85 #[v, u] w (Ret fun r w' => w = w' ∧ r = I (cmpN (val l) (val m))) := by
  refine enter (vs := [v, u]) Try.func85 rfl rfl rfl ?_
  have hll := hv.len
  have hml := hu.len
  obtain ⟨n, hn⟩ : ∃ n, n = max l.length m.length := ⟨_, rfl⟩
  have hln : l.length ≤ n := by omega
  have hmn : m.length ≤ n := by omega
  refine c_seq (c_region (o_assign rfl rfl (o_nil (n_then (c_seq (c_seq (c_region (o_move rfl rfl (o_len rfl rfl (r_lenW Try.underlying33 hv) (o_move rfl rfl (o_len rfl rfl (r_lenW Try.underlying33 hu) ?_)))))))))))
  refine o_max (r := I ((n : Nat) : Int)) (vs := [I (l.length : Int), I (m.length : Int)]) rfl rfl (by rw [hn]; exact r_max_i) ?_
  refine o_bin rfl rfl rfl (r_sub_i (by omega) (by omega)) (o_assign rfl rfl (o_nil (n_then (c_block ?_))))
  refine c_loop (α := Nat) (fun k => [(0, v), (1, u), (5, I ((k : Int) - 1))]) (fun k w' => w = w' ∧ k ≤ n ∧ (pad l n).drop k = (pad m n).drop k) (fun k => k) (n) ⟨rfl, rfl, rfl, trivial⟩ ⟨rfl, Nat.le_refl _, by rw [List.drop_of_length_le (by rw [pad_len hln]; exact Nat.le_refl _), List.drop_of_length_le (by rw [pad_len hmn]; exact Nat.le_refl _)]⟩ ?_
  rintro k _ ⟨rfl, hk, hd⟩
  refine c_seq (c_seq (c_region (o_move rfl rfl (o_bin rfl rfl rfl (r_geq_i) (o_nil (n_then ?_))))))
  refine c_if rfl (fun h13 => ?_) (fun h13 => ?_)
  · obtain ⟨j, rfl⟩ : ∃ j, k = j + 1 := ⟨k - 1, by omega⟩
    have e : ((j + 1 : Nat) : Int) - 1 = (j : Int) := by omega
    rw [e]
    refine c_skip (n_then (c_seq (c_block (c_seq (c_seq (c_region (o_move rfl rfl (o_move rfl rfl (o_call call_RLimb rfl rfl (RLimb_spec hv) ?_)))))))))
    rintro v18 _ ⟨rfl, rfl⟩
    refine o_move rfl rfl (o_move rfl rfl (o_call call_RLimb rfl rfl (RLimb_spec hu) ?_))
    rintro v21 _ ⟨rfl, rfl⟩
    refine o_bin rfl rfl rfl (r_lss_u32) (o_nil (n_then ?_))
    refine c_if rfl (fun h22 => ?_) (fun h22 => ?_)
    · refine c_seq (c_region (o_assign rfl rfl (o_nil (n_then (c_ret (r_then (r_block (r_then (r_then (r_block (r_then (r_body1 rfl rfl ?_))))))))))))
      exact ⟨_, rfl, rfl, congrArg I (cmpN_lt (pad_lt hln hmn (by omega) hd (lt32.1 h22))).symm⟩
    · refine c_skip (n_then (c_seq (c_region (o_move rfl rfl (o_move rfl rfl (o_call call_RLimb rfl rfl (RLimb_spec hv) ?_))))))
      rintro v25 _ ⟨rfl, rfl⟩
      refine o_move rfl rfl (o_move rfl rfl (o_call call_RLimb rfl rfl (RLimb_spec hu) ?_))
      rintro v28 _ ⟨rfl, rfl⟩
      refine o_bin rfl rfl rfl (r_gtr_u32) (o_nil (n_then ?_))
      refine c_if rfl (fun h29 => ?_) (fun h29 => ?_)
      · refine c_seq (c_region (o_assign rfl rfl (o_nil (n_then (c_ret (r_block (r_then (r_then (r_block (r_then (r_body1 rfl rfl ?_)))))))))))
        exact ⟨_, rfl, rfl, congrArg I (cmpN_gt (pad_lt hmn hln (by omega) hd.symm (lt32.1 h29))).symm⟩
      · refine c_skip (n_block (n_then (c_region (o_move rfl rfl (o_bin rfl rfl rfl (r_sub_i (by omega) (by omega)) (o_assign rfl rfl (o_nil ?_)))))))
        refine n_round j ⟨rfl, rfl, rfl, trivial⟩ ⟨rfl, by omega, pad_next hln hmn (by omega) hd (by
          have a := mt lt32.2 h22
          have b := mt (lt32 (a := m.getD j 0) (b := l.getD j 0)).2 h29
          omega)⟩ (by omega)
  · refine c_exit (x_then (x_then (x_here (n_then (c_seq (c_region (o_assign rfl rfl (o_nil (n_then (c_ret (r_body1 rfl rfl ?_)))))))))))
    exact ⟨_, rfl, rfl, by
      obtain rfl : k = 0 := by omega
      rw [List.drop_zero, List.drop_zero] at hd
      rw [pad_all hd, cmpN_eq]; rfl⟩
theorem RSame_spec {w : World} {l m : List UInt32} {v u : Value} (hv : Wds l v w) (hu : Wds m u w) :
    Calls Try.prog 57 #[v, u] w (Ret fun r w' => Ext w w' ∧ r = B (decide (l = m))) := by
  refine enter (vs := [v, u]) Try.func57 rfl rfl rfl ?_
  have hll := hv.len
  refine c_seq (c_region (o_assign rfl rfl (o_nil (n_then (c_seq (c_seq (c_region (o_move rfl rfl (o_len rfl rfl (r_lenW Try.underlying33 hv) (o_move rfl rfl (o_len rfl rfl (r_lenW Try.underlying33 hu) ?_)))))))))))
  refine o_bin rfl rfl rfl (r_neq_i) (o_nil (n_then ?_))
  refine c_if rfl (fun h10 => ?_) (fun h10 => ?_)
  · refine c_seq (c_region (o_assign rfl rfl (o_nil (n_then (c_ret (r_then (r_body1 rfl rfl ?_)))))))
    exact ⟨_, rfl, Ext.refl _, congrArg B (decide_eq_false fun h => by subst h; exact h10 rfl).symm⟩
  · have hlen : l.length = m.length := by omega
    refine c_skip (n_then (c_seq (c_seq (c_region (o_assign rfl rfl (o_nil (n_then (c_block ?_))))))))
    refine c_loop (α := Nat) (fun i => [(0, v), (1, u), (5, I (i : Int))]) (fun i w' => Ext w w' ∧ i ≤ l.length ∧ l.take i = m.take i) (fun i => l.length - i) (0) ⟨rfl, rfl, rfl, trivial⟩ ⟨Ext.refl _, by omega, rfl⟩ ?_
    rintro i w4 ⟨e4, hi, ht⟩
    refine c_seq (c_seq (c_region (o_move rfl rfl (o_move rfl rfl (o_len rfl rfl (r_lenW Try.underlying33 (hv.ext e4)) (o_bin rfl rfl rfl (r_lss_i) (o_nil (n_then ?_))))))))
    refine c_if rfl (fun h14 => ?_) (fun h14 => ?_)
    · refine c_skip (n_then (c_seq (c_block (c_seq (c_grow 8 [0, 1, 5, 20, 24] (by kernel_rfl) (by kernel_rfl) ?_)))))
      refine f_move rfl rfl (f_move rfl rfl ?_)
      obtain ⟨a19, p19, q19⟩ := r_ixW Try.underlying33 (hv.ext e4) (i := i) (by omega) .i64
      refine f_indexAddr rfl rfl rfl (fun w _ => p19 w) (f_load rfl rfl (fun w hw => r_load1 Try.underlying79 rfl (hw.cell_some q19)) (f_move rfl rfl (f_move rfl rfl ?_)))
      obtain ⟨a23, p23, q23⟩ := r_ixW Try.underlying33 (hu.ext e4) (i := i) (by omega) .i64
      refine f_indexAddr rfl rfl rfl (fun w _ => p23 w) (f_load rfl rfl (fun w hw => r_load1 Try.underlying79 rfl (hw.cell_some q23)) (f_nil ?_))
      intro wg6 xg6
      rintro _ hq0
      obtain rfl := Eq.symm hq0
      rintro _ hq1
      obtain rfl := Eq.symm hq1
      rintro _ rfl
      rintro _ rfl
      rintro _ rfl
      refine o_bin rfl rfl rfl (r_neq_u32) (o_nil (n_then ?_))
      refine c_if rfl (fun h25 => ?_) (fun h25 => ?_)
      · have hne : l ≠ m := fun h => by subst h; exact h25 rfl
        refine c_seq (c_region (o_assign rfl rfl (o_nil (n_then (c_ret (r_block (r_then (r_then (r_block (r_then (r_body1 rfl rfl ?_)))))))))))
        exact ⟨_, rfl, (e4.trans xg6), congrArg B (decide_eq_false hne).symm⟩
      · refine c_skip (n_block (n_then (c_region (o_move rfl rfl (o_bin (r := I ((i + 1 : Nat) : Int)) rfl rfl rfl (by have e : ((i + 1 : Nat) : Int) = (i : Int) + 1 := (by omega); rw [e]; exact r_add_i (by omega) (by omega)) ?_)))))
        refine o_assign rfl rfl (o_nil ?_)
        refine n_round (i + 1) ⟨rfl, rfl, rfl, trivial⟩ ⟨(e4.trans xg6), by omega, by rw [List.take_succ_eq_append_getElem (show i < l.length by omega), List.take_succ_eq_append_getElem (show i < m.length by omega), ht, show l[i] = m[i] from Classical.byContradiction fun h => h25 h]⟩ (by omega)
    · refine c_exit (x_then (x_then (x_here (n_then (c_seq (c_region (o_assign rfl rfl (o_nil (n_then (c_ret (r_body1 rfl rfl ?_)))))))))))
      exact ⟨_, rfl, e4, congrArg B (decide_eq_true (by
        rw [List.take_of_length_le (by omega), List.take_of_length_le (by omega)] at ht
        exact ht)).symm⟩
theorem RUint_spec {w : World} {l : List UInt32} {v : Value} (hv : Wds l v w) (hl : l.length ≤ 8796093022208) :
    Calls Try.prog 80 #[v] w (Ret fun r w' => Ext w w' ∧ ((18446744073709551616 ≤ val l ∧ r = .tuple #[U64 0, B false]) ∨ ∃ x : UInt64, x.toNat = val l ∧ r = .tuple #[U64 x, B true])) := by
  refine enter (vs := [v]) Try.func80 rfl rfl rfl ?_
  refine c_seq (c_region (o_assign rfl rfl (o_assign rfl rfl (o_nil (n_then (c_seq (c_region (o_move rfl rfl (o_call call_RMake rfl rfl (RMake_spec hv hl) ?_)))))))))
  rintro v5 w5 ⟨x5, b5⟩
  refine o_assign rfl rfl (o_nil (n_then (c_seq (c_seq ?_))))
  obtain ⟨t, ht⟩ : ∃ t, t = lb (val l) := ⟨_, rfl⟩
  have hval : val t = val l := by rw [ht, val_lb]
  have h64 : t.length ≤ 2 ∨ 18446744073709551616 ≤ val l := by
    rcases Nat.lt_or_ge (val l) 18446744073709551616 with h | h
    · exact .inl (by rw [ht]; exact lb_lt (n := val l) (k := 2) h)
    · exact .inr h
  rw [← ht] at b5
  refine c_region (o_move rfl rfl (o_len rfl rfl (r_lenW Try.underlying33 b5) (o_nil (n_then (c_block (c_seq (c_region (o_bin rfl rfl rfl (r_eql_i) (o_assign rfl rfl ?_)))))))))
  refine o_nil (n_then ?_)
  refine c_if rfl (fun h8 => ?_) (fun h8 => ?_)
  · refine c_seq (c_region (o_assign rfl rfl (o_assign rfl rfl (o_nil (n_then (c_ret (r_block (r_then (r_body2 rfl rfl rfl ?_)))))))))
    exact ⟨_, rfl, x5, .inr ⟨0, by
      have : t = [] := List.eq_nil_of_length_eq_zero (by omega)
      rw [← hval, this]; rfl, rfl⟩⟩
  · refine c_seq (c_region (o_bin rfl rfl rfl (r_eql_i) (o_assign rfl rfl (o_nil (n_then ?_)))))
    refine c_if rfl (fun h10 => ?_) (fun h10 => ?_)
    · refine c_seq (c_region (o_move rfl rfl ?_))
      obtain ⟨a13, p13, q13⟩ := r_ixW Try.underlying33 b5 (i := 0) (by omega) .i64
      refine o_indexAddr rfl rfl rfl (p13 _) (o_load rfl rfl (r_load1 Try.underlying79 rfl q13) (o_conv rfl rfl (r_u32_u64 Try.underlying79 Try.underlying31) ?_))
      refine o_assign rfl rfl (o_assign rfl rfl (o_nil (n_then (c_ret (r_block (r_then (r_body2 rfl rfl rfl ?_)))))))
      exact ⟨_, rfl, x5, .inr ⟨_, by
        obtain ⟨x, rfl⟩ := List.length_eq_one_iff.1 (show t.length = 1 by omega)
        rw [n_64, ← hval]; simp [val], rfl⟩⟩
    · refine c_seq (c_region (o_bin rfl rfl rfl (r_eql_i) (o_assign rfl rfl (o_nil (n_then ?_)))))
      refine c_if rfl (fun h16 => ?_) (fun h16 => ?_)
      · refine c_seq (c_grow 11 [2] (by kernel_rfl) (by kernel_rfl) ?_)
        refine f_move rfl rfl ?_
        obtain ⟨a19, p19, q19⟩ := r_ixW Try.underlying33 b5 (i := 0) (by omega) .i64
        refine f_indexAddr rfl rfl rfl (fun w _ => p19 w) (f_load rfl rfl (fun w hw => r_load1 Try.underlying79 rfl (hw.cell_some q19)) (f_conv rfl rfl (fun w _ => r_u32_u64 Try.underlying79 Try.underlying31) ?_))
        refine f_move rfl rfl ?_
        obtain ⟨a23, p23, q23⟩ := r_ixW Try.underlying33 b5 (i := 1) (by omega) .i64
        refine f_indexAddr rfl rfl rfl (fun w _ => p23 w) (f_load rfl rfl (fun w hw => r_load1 Try.underlying79 rfl (hw.cell_some q23)) (f_conv rfl rfl (fun w _ => r_u32_u64 Try.underlying79 Try.underlying31) ?_))
        refine f_bin (v := U64 32) rfl rfl rfl (fun w _ => r_shl_u64 32 (by omega)) (f_bin rfl rfl rfl (fun w _ => r_or_u64) (f_assign rfl rfl (f_nil ?_)))
        intro wg8 xg8
        rintro _ rfl
        refine o_assign rfl rfl (o_nil (n_then (c_ret (r_block (r_then (r_body2 rfl rfl rfl ?_))))))
        exact ⟨_, rfl, (x5.trans xg8), .inr ⟨_, by
          have e1 := val_drop (l := t) (i := 0) (by omega)
          have e2 := val_drop (l := t) (i := 1) (by omega)
          simp only [Nat.zero_add, Nat.reduceAdd, List.drop_zero] at e1 e2
          rw [List.drop_of_length_le (show t.length ≤ 2 by omega)] at e2
          rw [limb2 (n_64 _) (u32_lt _), ← hval, e1, e2]
          simp [val], rfl⟩⟩
      · refine c_skip (n_block (n_then (c_seq (c_region (o_assign rfl rfl (o_assign rfl rfl (o_nil (n_then (c_ret (r_body2 rfl rfl rfl ?_))))))))))
        exact ⟨_, rfl, x5, .inl ⟨by omega, rfl⟩⟩
theorem RAdd_spec {w : World} {l m : List UInt32} {v u : Value} (hv : Wds l v w) (hu : Wds m u w) (hl : l.length ≤ 1099511627776) (hm : m.length ≤ 1099511627776) :
    Calls Try.prog 84 #[v, u] w (Ret fun r w' => Ext w w' ∧ Wds (lb (val l + val m)) r w') := by
  refine enter (vs := [v, u]) Try.func84 rfl rfl rfl ?_
  refine c_seq (c_region (o_assign rfl rfl (o_nil (n_then (c_seq (c_region (o_assign rfl rfl (o_nil (n_then (c_seq (c_region (o_assign rfl rfl (o_nil (n_then (c_seq (c_seq (c_region (o_assign rfl rfl ?_))))))))))))))))))
  refine o_nil (n_then (c_block ?_))
  refine c_loop4 (fun (i : Nat) (vo : Value) (O : List UInt32) (c : UInt64) => [(0, v), (1, u), (5, vo), (6, U64 c), (7, I (i : Int))]) (fun (i : Nat) (vo : Value) (O : List UInt32) (c : UInt64) w' => Ext w w' ∧ OwnW w.heap.size O vo w' ∧ O.length = i ∧ i ≤ max l.length m.length ∧ c.toNat ≤ 1 ∧ val O + 4294967296 ^ i * c.toNat = val (l.take i) + val (m.take i)) (fun (i : Nat) (vo : Value) (O : List UInt32) (c : UInt64) => max l.length m.length - i) (0) (.slice none 0 0) ([]) (0) ⟨rfl, rfl, rfl, rfl, rfl, trivial⟩ ⟨Ext.refl _, OwnW.nil _ _, rfl, by simp, by simp, by simp [val]⟩ ?_
  rintro i vo O c w4 ⟨e4, oO, hO, hi, hc, hinv⟩
  refine c_seq (c_seq (c_region (o_move rfl rfl (o_move rfl rfl (o_len rfl rfl (r_lenW Try.underlying33 (hv.ext e4)) (o_bin rfl rfl rfl (r_lss_i) (o_move rfl rfl ?_)))))))
  refine o_dec (fun h12 => ?_) (fun h12 => ?_)
  · refine g_no rfl rfl rfl (g_no rfl rfl rfl (g_no rfl rfl rfl (g_no rfl rfl rfl (o_pick_t rfl rfl rfl (o_nil (n_then (c_yes rfl (c_skip (n_then (c_seq (c_block (c_seq ?_))))))))))))
    have hlt : i < max l.length m.length := by
      first
      | (have := h12; omega)
      | (have := h17; omega)
    have st := radd_step (a := l) (b := m) hO hc hinv
    refine c_region (o_move rfl rfl (o_move rfl rfl (o_move rfl rfl (o_call call_RLimb rfl rfl (RLimb_spec (hv.ext e4)) ?_))))
    rintro v23 _ ⟨rfl, rfl⟩
    refine o_conv rfl rfl (r_u32_u64 Try.underlying79 Try.underlying31) (o_move rfl rfl (o_move rfl rfl (o_call call_RLimb rfl rfl (RLimb_spec (hu.ext e4)) ?_)))
    rintro v27 _ ⟨rfl, rfl⟩
    refine o_conv rfl rfl (r_u32_u64 Try.underlying79 Try.underlying31) (o_bin rfl rfl rfl (r_add_u64) (o_bin rfl rfl rfl (r_add_u64) (o_assign rfl rfl ?_)))
    refine o_nil (n_then (c_seq (c_region (o_move rfl rfl (o_move rfl rfl (o_conv rfl rfl (r_u64_u32 Try.underlying31 Try.underlying79) ?_))))))
    obtain ⟨v34, w34, hr34, x34, o34, ob34⟩ := r_bsW Try.underlying32 (w := w4) w4.heap.size [((((c) + (((((l.getD i 0)).toUInt64) + (((m.getD i 0)).toUInt64))))).toUInt32)] (by simp) (Nat.le_refl _)
    refine o_buildSlice (vs := [(0, U32 (((((c) + (((((l.getD i 0)).toUInt64) + (((m.getD i 0)).toUInt64))))).toUInt32)))]) rfl rfl hr34 ?_
    obtain ⟨v35, w35, hr35, o35, g35⟩ := r_appW Try.underlying32 (ty := 32) (oO.ext x34) o34.wds (by simp; omega) ((e4.trans x34)).size
    have x35 := Ext.of_grew ((e4.trans x34)) g35 (oO.ext x34).ge
    refine o_append rfl rfl hr35 (o_assign rfl rfl (o_nil (n_then (c_region (o_move rfl rfl (o_bin rfl rfl rfl (r_shr_u64 32 (by omega)) (o_assign rfl rfl (o_nil (n_block (n_then (c_region ?_)))))))))))
    refine o_move rfl rfl (o_bin (r := I ((i + 1 : Nat) : Int)) rfl rfl rfl (by have e : ((i + 1 : Nat) : Int) = (i : Int) + 1 := (by omega); rw [e]; exact r_add_i (by omega) (by omega)) ?_)
    refine o_assign rfl rfl (o_nil ?_)
    refine n_round4 (i + 1) (_) (_) (_) ⟨rfl, rfl, rfl, rfl, rfl, trivial⟩ ⟨x35, o35, by simp [hO], by omega, st.2, st.1⟩ (by omega)
  · refine g_yes rfl (o_move rfl rfl (g_yes rfl (o_move rfl rfl (g_yes rfl (o_len rfl rfl (r_lenW Try.underlying33 (hu.ext e4)) (g_yes rfl (o_bin rfl rfl rfl (r_lss_i) ?_)))))))
    refine o_pick_f rfl rfl rfl (o_nil (n_then ?_))
    refine c_if rfl (fun h17 => ?_) (fun h17 => ?_)
    · refine c_skip (n_then (c_seq (c_block (c_seq ?_))))
      have hlt : i < max l.length m.length := by
        first
        | (have := h12; omega)
        | (have := h17; omega)
      have st := radd_step (a := l) (b := m) hO hc hinv
      refine c_region (o_move rfl rfl (o_move rfl rfl (o_move rfl rfl (o_call call_RLimb rfl rfl (RLimb_spec (hv.ext e4)) ?_))))
      rintro v23 _ ⟨rfl, rfl⟩
      refine o_conv rfl rfl (r_u32_u64 Try.underlying79 Try.underlying31) (o_move rfl rfl (o_move rfl rfl (o_call call_RLimb rfl rfl (RLimb_spec (hu.ext e4)) ?_)))
      rintro v27 _ ⟨rfl, rfl⟩
      refine o_conv rfl rfl (r_u32_u64 Try.underlying79 Try.underlying31) (o_bin rfl rfl rfl (r_add_u64) (o_bin rfl rfl rfl (r_add_u64) (o_assign rfl rfl ?_)))
      refine o_nil (n_then (c_seq (c_region (o_move rfl rfl (o_move rfl rfl (o_conv rfl rfl (r_u64_u32 Try.underlying31 Try.underlying79) ?_))))))
      obtain ⟨v34, w34, hr34, x34, o34, ob34⟩ := r_bsW Try.underlying32 (w := w4) w4.heap.size [((((c) + (((((l.getD i 0)).toUInt64) + (((m.getD i 0)).toUInt64))))).toUInt32)] (by simp) (Nat.le_refl _)
      refine o_buildSlice (vs := [(0, U32 (((((c) + (((((l.getD i 0)).toUInt64) + (((m.getD i 0)).toUInt64))))).toUInt32)))]) rfl rfl hr34 ?_
      obtain ⟨v35, w35, hr35, o35, g35⟩ := r_appW Try.underlying32 (ty := 32) (oO.ext x34) o34.wds (by simp; omega) ((e4.trans x34)).size
      have x35 := Ext.of_grew ((e4.trans x34)) g35 (oO.ext x34).ge
      refine o_append rfl rfl hr35 (o_assign rfl rfl (o_nil (n_then (c_region (o_move rfl rfl (o_bin rfl rfl rfl (r_shr_u64 32 (by omega)) (o_assign rfl rfl (o_nil (n_block (n_then (c_region ?_)))))))))))
      refine o_move rfl rfl (o_bin (r := I ((i + 1 : Nat) : Int)) rfl rfl rfl (by have e : ((i + 1 : Nat) : Int) = (i : Int) + 1 := (by omega); rw [e]; exact r_add_i (by omega) (by omega)) ?_)
      refine o_assign rfl rfl (o_nil ?_)
      refine n_round4 (i + 1) (_) (_) (_) ⟨rfl, rfl, rfl, rfl, rfl, trivial⟩ ⟨x35, o35, by simp [hO], by omega, st.2, st.1⟩ (by omega)
    · refine c_exit (x_then (x_then (x_here (n_then (c_seq ?_)))))
      have hge : max l.length m.length ≤ i := by
        first
        | (have := h17; omega)
      rw [val_take_all _ (by omega), val_take_all _ (by omega)] at hinv
      refine c_region (o_move rfl rfl (o_move rfl rfl (o_conv rfl rfl (r_u64_u32 Try.underlying31 Try.underlying79) ?_)))
      obtain ⟨v41, w41, hr41, x41, o41, ob41⟩ := r_bsW Try.underlying32 (w := w4) w4.heap.size [((c).toUInt32)] (by simp) (Nat.le_refl _)
      refine o_buildSlice (vs := [(0, U32 (((c).toUInt32)))]) rfl rfl hr41 ?_
      obtain ⟨v42, w42, hr42, o42, g42⟩ := r_appW Try.underlying32 (ty := 32) (oO.ext x41) o41.wds (by simp; omega) ((e4.trans x41)).size
      have x42 := Ext.of_grew ((e4.trans x41)) g42 (oO.ext x41).ge
      refine o_append rfl rfl hr42 (o_call call_RMake rfl rfl (RMake_spec o42.wds (by simp; omega)) ?_)
      rintro v43 w43 ⟨x43, b43⟩
      refine o_assign rfl rfl (o_nil (n_then (c_ret (r_body1 rfl rfl ?_))))
      exact ⟨_, rfl, (x42.trans x43), by rw [← hinv, ← radd_end hO hc]; exact b43⟩
theorem RSub_spec {w : World} {l m : List UInt32} {v u : Value} (hv : Wds l v w) (hu : Wds m u w) (hl : l.length ≤ 1099511627776) (hle : val m ≤ val l) :
    Calls Try.prog 86 #[v, u] w (Ret fun r w' => Ext w w' ∧ ∃ d, r = .tuple #[d, I 0] ∧ OwnW w.heap.size (lb (val l - val m)) d w') := by
  refine enter (vs := [v, u]) Try.func86 rfl rfl rfl ?_
  refine c_seq (c_region (o_assign rfl rfl (o_assign rfl rfl (o_nil (n_then (c_seq (c_seq (c_region (o_move rfl rfl (o_move rfl rfl (o_call call_RCmp rfl rfl (RCmp_spec hv hu) ?_)))))))))))
  rintro v13 _ ⟨rfl, rfl⟩
  refine o_bin rfl rfl rfl (dec_f (fun h => by have := cmpN_neg.1 h; omega) r_lss_i) (o_nil (n_then (c_no rfl (c_skip (n_then (c_seq (c_region (o_assign rfl rfl (o_nil (n_then (c_seq ?_)))))))))))
  refine c_region (o_assign rfl rfl (o_nil (n_then (c_seq (c_seq (c_region (o_assign rfl rfl (o_nil (n_then (c_block ?_))))))))))
  refine c_loop4 (fun (i : Nat) (vo : Value) (O : List UInt32) (d : UInt64) => [(0, v), (1, u), (6, vo), (7, U64 d), (8, I (i : Int))]) (fun (i : Nat) (vo : Value) (O : List UInt32) (d : UInt64) w' => Ext w w' ∧ OwnW w.heap.size O vo w' ∧ O.length = i ∧ i ≤ l.length ∧ d.toNat ≤ 1 ∧ val (l.take i) + 4294967296 ^ i * d.toNat = val O + val (m.take i)) (fun (i : Nat) (vo : Value) (O : List UInt32) (d : UInt64) => l.length - i) (0) (.slice none 0 0) ([]) (0) ⟨rfl, rfl, rfl, rfl, rfl, trivial⟩ ⟨Ext.refl _, OwnW.nil _ _, rfl, by simp, by simp, by simp [val]⟩ ?_
  rintro i vo O d w6 ⟨e6, oO, hO, hi, hd, hinv⟩
  refine c_seq (c_seq (c_region (o_move rfl rfl (o_move rfl rfl (o_len rfl rfl (r_lenW Try.underlying33 (hv.ext e6)) (o_bin rfl rfl rfl (r_lss_i) (o_nil (n_then ?_))))))))
  refine c_if rfl (fun h18 => ?_) (fun h18 => ?_)
  · refine c_skip (n_then (c_seq (c_block (c_seq ?_))))
    have hlt : i < l.length := by omega
    have hxa := n_64 (l.getD i 0)
    have hyb : ((m.getD i 0).toUInt64 + d).toNat = (m.getD i 0).toNat + d.toNat := by
      have := u32_lt (m.getD i 0)
      rw [n_add, n_64]; omega
    refine c_region (o_move rfl rfl (o_move rfl rfl (o_call call_RLimb rfl rfl (RLimb_spec (hv.ext e6)) ?_)))
    rintro v23 _ ⟨rfl, rfl⟩
    refine o_conv rfl rfl (r_u32_u64 Try.underlying79 Try.underlying31) (o_move rfl rfl (o_move rfl rfl (o_call call_RLimb rfl rfl (RLimb_spec (hu.ext e6)) ?_)))
    rintro v27 _ ⟨rfl, rfl⟩
    refine o_conv rfl rfl (r_u32_u64 Try.underlying79 Try.underlying31) (o_move rfl rfl (o_bin rfl rfl rfl (r_add_u64) (o_assign rfl rfl (o_assign rfl rfl ?_))))
    refine o_nil (n_then (c_seq (c_region (o_assign rfl rfl (o_nil (n_then (c_seq (c_seq (c_region (o_move rfl rfl (o_move rfl rfl (o_bin rfl rfl rfl (r_lss_u64) (o_nil (n_then ?_))))))))))))))
    refine c_if rfl (fun h33 => ?_) (fun h33 => ?_)
    · have hlt2 : (l.getD i 0).toNat < (m.getD i 0).toNat + d.toNat := by
        have := UInt64.lt_iff_toNat_lt.1 h33
        rwa [hxa, hyb] at this
      have st := rsub_step (a := l) (b := m) hO hd hinv (.inl ⟨rfl, hlt2, rfl⟩)
      refine c_seq (c_region (o_move rfl rfl (o_bin (v := U64 4294967296) rfl rfl rfl (r_add_u64) (o_assign rfl rfl (o_nil (n_then (c_region (o_assign rfl rfl (o_nil (n_then (c_region (o_move rfl rfl ?_))))))))))))
      refine o_move rfl rfl (o_move rfl rfl (o_bin rfl rfl rfl (r_sub_u64) (o_conv rfl rfl (r_u64_u32 Try.underlying31 Try.underlying79) ?_)))
      obtain ⟨v41, w41, hr41, x41, o41, ob41⟩ := r_bsW Try.underlying32 (w := w6) w6.heap.size [((((((((l.getD i 0)).toUInt64) + (4294967296))) - (((((m.getD i 0)).toUInt64) + (d))))).toUInt32)] (by simp) (Nat.le_refl _)
      refine o_buildSlice (vs := [(0, U32 (((((((((l.getD i 0)).toUInt64) + (4294967296))) - (((((m.getD i 0)).toUInt64) + (d))))).toUInt32)))]) rfl rfl hr41 ?_
      obtain ⟨v42, w42, hr42, o42, g42⟩ := r_appW Try.underlying32 (ty := 32) (oO.ext x41) o41.wds (by simp; omega) ((e6.trans x41)).size
      have x42 := Ext.of_grew ((e6.trans x41)) g42 (oO.ext x41).ge
      refine o_append rfl rfl hr42 (o_assign rfl rfl (o_nil (n_block (n_then (c_region (o_move rfl rfl (o_bin (r := I ((i + 1 : Nat) : Int)) rfl rfl rfl (by have e : ((i + 1 : Nat) : Int) = (i : Int) + 1 := (by omega); rw [e]; exact r_add_i (by omega) (by omega)) ?_)))))))
      refine o_assign rfl rfl (o_nil ?_)
      refine n_round4 (i + 1) (_) (_) (_) ⟨rfl, rfl, rfl, rfl, rfl, trivial⟩ ⟨x42, o42, by simp [hO], by omega, st.2, st.1⟩ (by omega)
    · have hge2 : (m.getD i 0).toNat + d.toNat ≤ (l.getD i 0).toNat := by
        have := mt UInt64.lt_iff_toNat_lt.2 h33
        rw [hxa, hyb] at this
        omega
      have st := rsub_step (a := l) (b := m) hO hd hinv (.inr ⟨rfl, hge2, rfl⟩)
      refine c_skip (n_then (c_region (o_move rfl rfl (o_move rfl rfl (o_move rfl rfl (o_bin rfl rfl rfl (r_sub_u64) (o_conv rfl rfl (r_u64_u32 Try.underlying31 Try.underlying79) ?_)))))))
      obtain ⟨v41, w41, hr41, x41, o41, ob41⟩ := r_bsW Try.underlying32 (w := w6) w6.heap.size [((((((l.getD i 0)).toUInt64) - (((((m.getD i 0)).toUInt64) + (d))))).toUInt32)] (by simp) (Nat.le_refl _)
      refine o_buildSlice (vs := [(0, U32 (((((((l.getD i 0)).toUInt64) - (((((m.getD i 0)).toUInt64) + (d))))).toUInt32)))]) rfl rfl hr41 ?_
      obtain ⟨v42, w42, hr42, o42, g42⟩ := r_appW Try.underlying32 (ty := 32) (oO.ext x41) o41.wds (by simp; omega) ((e6.trans x41)).size
      have x42 := Ext.of_grew ((e6.trans x41)) g42 (oO.ext x41).ge
      refine o_append rfl rfl hr42 (o_assign rfl rfl (o_nil (n_block (n_then (c_region (o_move rfl rfl (o_bin (r := I ((i + 1 : Nat) : Int)) rfl rfl rfl (by have e : ((i + 1 : Nat) : Int) = (i : Int) + 1 := (by omega); rw [e]; exact r_add_i (by omega) (by omega)) ?_)))))))
      refine o_assign rfl rfl (o_nil ?_)
      refine n_round4 (i + 1) (_) (_) (_) ⟨rfl, rfl, rfl, rfl, rfl, trivial⟩ ⟨x42, o42, by simp [hO], by omega, st.2, st.1⟩ (by omega)
  · refine c_exit (x_then (x_then (x_here (n_then (c_seq ?_)))))
    have hil : i = l.length := by omega
    have hOl := val_lt O
    rw [hO, hil] at hOl
    have hml : val (m.take i) = val m ∧ d.toNat = 0 := by
      have h1 := val_split m (min i m.length) (by omega)
      have h2 : m.take (min i m.length) = m.take i := by
        rcases Nat.le_total i m.length with h | h
        · rw [Nat.min_eq_left h]
        · rw [Nat.min_eq_right h, List.take_of_length_le (Nat.le_refl _), List.take_of_length_le h]
      rw [h2] at h1
      have hll := val_lt l
      rw [hil, List.take_length] at hinv
      have hz : val (m.drop (min i m.length)) = 0 := by
        rcases Nat.le_total i m.length with h | h
        · rw [Nat.min_eq_left h] at h1 ⊢
          rcases Nat.eq_zero_or_pos (val (m.drop i)) with h0 | h0
          · exact h0
          · have : 4294967296 ^ i * 1 ≤ 4294967296 ^ i * val (m.drop i) := Nat.mul_le_mul_left _ h0
            rw [hil] at this h1
            omega
        · rw [Nat.min_eq_right h, List.drop_of_length_le (Nat.le_refl _)]; rfl
      rw [hz, Nat.mul_zero, Nat.add_zero] at h1
      refine ⟨h1.symm, ?_⟩
      rcases (show d.toNat = 0 ∨ d.toNat = 1 by omega) with h | h
      · exact h
      · rw [hil] at h1
        rw [h, Nat.mul_one, ← h1] at hinv
        omega
    have hres : val l - val m = val O := by
      rw [hml.1, hml.2, hil, List.take_length] at hinv
      omega
    refine c_region (o_move rfl rfl (o_call call_RMake rfl rfl (RMake_own oO.wds (by omega)) ?_))
    rintro v44 w44 ⟨x44, b44⟩
    refine o_assign rfl rfl (o_assign rfl rfl (o_nil (n_then (c_ret (r_body2 rfl rfl rfl ?_)))))
    exact ⟨_, rfl, (e6.trans x44), _, rfl, by rw [hres]; exact b44.low e6.size⟩
theorem RShl_spec {w : World} {l : List UInt32} {v : Value} {k : Nat} (hv : Wds l v w) (hl : l.length ≤ 1099511627776) (hk : k ≤ 1099511627776) :
    Calls Try.prog 83 #[v, I (k : Int)] w (Ret fun r w' => Ext w w' ∧ Wds (lb (val l * 2 ^ k)) r w') := by
  refine enter (vs := [v, I (k : Int)]) Try.func83 rfl rfl rfl ?_
  refine c_seq (c_region (o_assign rfl rfl (o_nil (n_then (c_seq (c_region (o_move rfl rfl (o_bin (r := I ((k / 32 : Nat) : Int)) rfl rfl rfl (by have e : ((k / 32 : Nat) : Int) = (k : Int) / 32 := (by omega); rw [e]; exact r_quo_i (by omega) (by omega) (by omega)) ?_))))))))
  obtain ⟨v10, w10, hr10, x10, o10, ob10⟩ := r_mkW Try.underlying32 (w := w) w.heap.size (n := k / 32) (by omega) (Nat.le_refl _)
  refine o_makeSlice rfl rfl rfl hr10 (o_assign rfl rfl (o_nil (n_then (c_seq (c_region (o_assign rfl rfl (o_nil (n_then (c_seq (c_seq (c_region (o_assign rfl rfl (o_nil (n_then (c_block ?_)))))))))))))))
  refine c_loop4 (fun (i : Nat) (vo : Value) (O : List UInt32) (c : UInt64) => [(0, v), (1, I (k : Int)), (5, vo), (6, U64 c), (7, I (i : Int))]) (fun (i : Nat) (vo : Value) (O : List UInt32) (c : UInt64) w' => Ext w w' ∧ OwnW w.heap.size O vo w' ∧ O.length = k / 32 + i ∧ i ≤ l.length ∧ c.toNat < 2 ^ (k % 32) ∧ val O + 4294967296 ^ (k / 32 + i) * c.toNat = val (l.take i) * (4294967296 ^ (k / 32) * 2 ^ (k % 32))) (fun (i : Nat) (vo : Value) (O : List UInt32) (c : UInt64) => l.length - i) (0) (v10) (List.replicate (k / 32) 0) (0) ⟨rfl, rfl, rfl, rfl, rfl, trivial⟩ ⟨x10, o10, by simp, by simp, by simp; exact Nat.pow_pos (by omega), by simp [val, val_zeros]⟩ ?_
  rintro i vo O c w4 ⟨e4, oO, hO, hi, hc, hinv⟩
  refine c_seq (c_seq (c_region (o_move rfl rfl (o_move rfl rfl (o_len rfl rfl (r_lenW Try.underlying33 (hv.ext e4)) (o_bin rfl rfl rfl (r_lss_i) (o_nil (n_then ?_))))))))
  refine c_if rfl (fun h14 => ?_) (fun h14 => ?_)
  · refine c_skip (n_then (c_seq (c_block (c_seq ?_))))
    have hlt : i < l.length := by omega
    have st := rshl_step (Nat.mod_lt k (show 0 < 32 by omega)) hlt hO hc hinv
    refine c_region (o_move rfl rfl (o_move rfl rfl (o_move rfl rfl ?_)))
    obtain ⟨a20, p20, q20⟩ := r_ixW Try.underlying33 (hv.ext e4) (i := i) (by omega) .i64
    refine o_indexAddr rfl rfl rfl (p20 _) (o_load rfl rfl (r_load1 Try.underlying79 rfl q20) (o_conv rfl rfl (r_u32_u64 Try.underlying79 Try.underlying31) ?_))
    refine o_move rfl rfl (o_bin (r := I ((k % 32 : Nat) : Int)) rfl rfl rfl (by have e : ((k % 32 : Nat) : Int) = (k : Int) % 32 := (by omega); rw [e]; exact r_rem_i (by omega) (by omega)) ?_)
    refine o_bin rfl rfl rfl (r_shl_u64 ((k % 32 : Nat)) (by omega)) (o_bin rfl rfl rfl (r_or_u64) (o_assign rfl rfl (o_nil (n_then (c_seq (c_region (o_move rfl rfl (o_move rfl rfl ?_))))))))
    refine o_conv rfl rfl (r_u64_u32 Try.underlying31 Try.underlying79) ?_
    obtain ⟨v30, w30, hr30, x30, o30, ob30⟩ := r_bsW Try.underlying32 (w := w4) w4.heap.size [((((c) ||| (((((l[i])).toUInt64) <<< UInt64.ofNat ((k % 32 : Nat)))))).toUInt32)] (by simp) (Nat.le_refl _)
    refine o_buildSlice (vs := [(0, U32 (((((c) ||| (((((l[i])).toUInt64) <<< UInt64.ofNat ((k % 32 : Nat)))))).toUInt32)))]) rfl rfl hr30 ?_
    obtain ⟨v31, w31, hr31, o31, g31⟩ := r_appW Try.underlying32 (ty := 32) (oO.ext x30) o30.wds (by simp; omega) ((e4.trans x30)).size
    have x31 := Ext.of_grew ((e4.trans x30)) g31 (oO.ext x30).ge
    refine o_append rfl rfl hr31 (o_assign rfl rfl (o_nil (n_then (c_region (o_move rfl rfl (o_bin rfl rfl rfl (r_shr_u64 32 (by omega)) (o_assign rfl rfl (o_nil (n_block (n_then (c_region ?_)))))))))))
    refine o_move rfl rfl (o_bin (r := I ((i + 1 : Nat) : Int)) rfl rfl rfl (by have e : ((i + 1 : Nat) : Int) = (i : Int) + 1 := (by omega); rw [e]; exact r_add_i (by omega) (by omega)) ?_)
    refine o_assign rfl rfl (o_nil ?_)
    refine n_round4 (i + 1) (_) (_) (_) ⟨rfl, rfl, rfl, rfl, rfl, trivial⟩ ⟨x31, o31, by simp [hO]; omega, by omega, st.2, st.1⟩ (by omega)
  · refine c_exit (x_then (x_then (x_here (n_then (c_seq ?_)))))
    rw [val_take_all _ (by omega)] at hinv
    have e32 : 4294967296 ^ (k / 32) * 2 ^ (k % 32) = 2 ^ k := by
      have h3 : (4294967296 : Nat) ^ (k / 32) = 2 ^ (32 * (k / 32)) := by rw [Nat.pow_mul]
      rw [h3, ← Nat.pow_add, Nat.div_add_mod]
    have hc1 : c.toNat < 4294967296 := Nat.lt_of_lt_of_le hc (Nat.pow_le_pow_right (show 0 < 2 by omega) (show k % 32 ≤ 32 by omega))
    have hend : val (O ++ [c.toUInt32]) = val l * 2 ^ k := by
      rw [val_append, val_one, hO, n_32, Nat.mod_eq_of_lt hc1, hinv, e32]
    refine c_region (o_move rfl rfl (o_move rfl rfl (o_conv rfl rfl (r_u64_u32 Try.underlying31 Try.underlying79) ?_)))
    obtain ⟨v37, w37, hr37, x37, o37, ob37⟩ := r_bsW Try.underlying32 (w := w4) w4.heap.size [((c).toUInt32)] (by simp) (Nat.le_refl _)
    refine o_buildSlice (vs := [(0, U32 (((c).toUInt32)))]) rfl rfl hr37 ?_
    obtain ⟨v38, w38, hr38, o38, g38⟩ := r_appW Try.underlying32 (ty := 32) (oO.ext x37) o37.wds (by simp; omega) ((e4.trans x37)).size
    have x38 := Ext.of_grew ((e4.trans x37)) g38 (oO.ext x37).ge
    refine o_append rfl rfl hr38 (o_call call_RMake rfl rfl (RMake_spec o38.wds (by simp; omega)) ?_)
    rintro v39 w39 ⟨x39, b39⟩
    refine o_assign rfl rfl (o_nil (n_then (c_ret (r_body1 rfl rfl ?_))))
    exact ⟨_, rfl, (x38.trans x39), by rw [← hend]; exact b39⟩
theorem RBits_spec {w : World} {l : List UInt32} {v : Value} (hv : Wds l v w) (hl : l.length ≤ 1099511627776) :
    Calls Try.prog 82 #[v] w (Ret fun r w' => Ext w w' ∧ r = I ((bl (val l) : Nat) : Int)) := by
  refine enter (vs := [v]) Try.func82 rfl rfl rfl ?_
  have hll := lb_lt (val_lt l)
  refine c_seq (c_region (o_assign rfl rfl (o_nil (n_then (c_seq (c_region (o_move rfl rfl (o_call call_RMake rfl rfl (RMake_spec hv (by omega)) ?_))))))))
  rintro v6 w6 ⟨x6, b6⟩
  refine o_assign rfl rfl (o_nil (n_then (c_seq (c_seq (c_region (o_move rfl rfl (o_len (r := I ((lb (val l)).length : Int)) rfl rfl (r_lenW Try.underlying33 b6) ?_)))))))
  refine o_bin rfl rfl rfl (r_eql_i) (o_nil (n_then ?_))
  refine c_if rfl (fun h9 => ?_) (fun h9 => ?_)
  · refine c_seq (c_region (o_assign rfl rfl (o_nil (n_then (c_ret (r_then (r_body1 rfl rfl ?_)))))))
    exact ⟨_, rfl, x6, by
      have : val l = 0 := lb_len0.1 (by omega)
      rw [this]; rfl⟩
  · refine c_skip (n_then (c_seq (c_region (o_move rfl rfl (o_len (r := I ((lb (val l)).length : Int)) rfl rfl (r_lenW Try.underlying33 b6) (o_bin (r := I (((lb (val l)).length - 1 : Nat) : Int)) rfl rfl rfl (by have e : (((lb (val l)).length - 1 : Nat) : Int) = ((lb (val l)).length : Int) - 1 := (by omega); rw [e]; exact r_sub_i (by omega) (by omega)) ?_))))))
    refine o_bin (r := I ((32 * ((lb (val l)).length - 1 : Nat) : Nat) : Int)) rfl rfl rfl (by have e : ((32 * ((lb (val l)).length - 1 : Nat) : Nat) : Int) = 32 * (((lb (val l)).length - 1 : Nat) : Int) := (by omega); rw [e]; exact r_mul_i (by omega) (by omega)) ?_
    refine o_assign rfl rfl (o_nil (n_then (c_seq (c_seq (c_region (o_move rfl rfl (o_move rfl rfl (o_len (r := I ((lb (val l)).length : Int)) rfl rfl (r_lenW Try.underlying33 b6) ?_))))))))
    refine o_bin (r := I (((lb (val l)).length - 1 : Nat) : Int)) rfl rfl rfl (by have e : (((lb (val l)).length - 1 : Nat) : Int) = ((lb (val l)).length : Int) - 1 := (by omega); rw [e]; exact r_sub_i (by omega) (by omega)) ?_
    obtain ⟨a18, p18, q18⟩ := r_ixW Try.underlying33 b6 (i := ((lb (val l)).length - 1 : Nat)) (by omega) .i64
    refine o_indexAddr rfl rfl rfl (p18 _) (o_load rfl rfl (r_load1 Try.underlying79 rfl q18) (o_assign rfl rfl (o_nil (n_then (c_block ?_)))))
    refine c_loop2 (fun (k : Nat) (x : UInt32) => [(3, I (k : Int)), (4, U32 x)]) (fun (k : Nat) (x : UInt32) w' => w6 = w' ∧ k + bl x.toNat = bl (val l)) (fun (k : Nat) (x : UInt32) => x.toNat) (32 * ((lb (val l)).length - 1)) ((lb (val l))[(lb (val l)).length - 1]'(by omega)) ⟨rfl, rfl, trivial⟩ ⟨rfl, (bl_lb (by omega)).symm⟩ ?_
    rintro k x _ ⟨rfl, hinv⟩
    refine c_seq (c_seq (c_region (o_move rfl rfl (o_bin (v := U32 0) rfl rfl rfl (r_gtr_u32) (o_nil (n_then ?_))))))
    refine c_if rfl (fun h21 => ?_) (fun h21 => ?_)
    · have hx : 0 < x.toNat := lt32.1 h21
      have hb := bl_step hx
      have hs : (x >>> UInt32.ofNat 1).toNat = x.toNat / 2 := n_shr32 x (s := 1) (by omega)
      have hbl := bl_le (n := val l) (k := 32 * l.length) (by have := val_lt l; rwa [show (4294967296 : Nat) ^ l.length = 2 ^ (32 * l.length) by rw [Nat.pow_mul]] at this)
      refine c_skip (n_then (c_seq (c_block (c_region (o_move rfl rfl (o_bin (r := I ((k + 1 : Nat) : Int)) rfl rfl rfl (by have e : ((k + 1 : Nat) : Int) = (k : Int) + 1 := (by omega); rw [e]; exact r_add_i (by omega) (by omega)) ?_))))))
      refine o_assign rfl rfl (o_nil (n_block (n_then (c_region (o_move rfl rfl (o_bin rfl rfl rfl (r_shr_u32 1 (by omega)) (o_assign rfl rfl (o_nil ?_))))))))
      refine n_round2 (k + 1) (_) ⟨rfl, rfl, trivial⟩ ⟨rfl, by rw [hs]; omega⟩ (by omega)
    · refine c_exit (x_then (x_then (x_here (n_then (c_seq (c_region (o_move rfl rfl (o_assign rfl rfl (o_nil (n_then (c_ret (r_body1 rfl rfl ?_))))))))))))
      exact ⟨_, rfl, x6, by
        have hx : x.toNat = 0 := by
          have := mt (lt32 (a := 0) (b := x)).2 h21
          have e : (0 : UInt32).toNat = 0 := rfl
          omega
        rw [hx, bl_zero, Nat.add_zero] at hinv
        rw [hinv]⟩
end Go.Rl


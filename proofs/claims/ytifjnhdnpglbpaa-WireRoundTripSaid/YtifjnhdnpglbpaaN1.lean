/- Walks of package natural: canonical form, comparison, conversion. Conditions: each names its own. -/
import Derived.Test.YtifjnhdnpglbpaaWord
namespace Go.Rl
open Go.RowKit Go.Proofs
theorem call_trim : Callable Try.prog 79 := ⟨_, Try.func79, by kernel_rfl, rfl⟩
theorem call_CloneN : Callable Try.prog 94 := ⟨_, Try.func94, by kernel_rfl, rfl⟩
theorem call_NMake : Callable Try.prog 87 := ⟨_, Try.func87, by kernel_rfl, rfl⟩
theorem call_NValid : Callable Try.prog 69 := ⟨_, Try.func69, by kernel_rfl, rfl⟩
theorem call_NOf : Callable Try.prog 96 := ⟨_, Try.func96, by kernel_rfl, rfl⟩
theorem call_NUint : Callable Try.prog 95 := ⟨_, Try.func95, by kernel_rfl, rfl⟩
theorem call_NCmp : Callable Try.prog 71 := ⟨_, Try.func71, by kernel_rfl, rfl⟩

theorem trim_step {l : List UInt32} {n : Nat} (h0 : 0 < n) (hn : n ≤ l.length) (h : l[n - 1]'(by omega) = 0) : val (l.take (n - 1)) = val (l.take n) := by
  obtain ⟨m, rfl⟩ : ∃ m, n = m + 1 := ⟨n - 1, by omega⟩
  simp only [Nat.add_sub_cancel] at h ⊢
  rw [val_take_succ (by omega), h]; simp
theorem trim_done {l : List UInt32} {n : Nat} (h0 : 0 < n) (hn : n ≤ l.length) (h : ¬ l[n - 1]'(by omega) = 0) : lb (val (l.take n)) = l.take n := by
  obtain ⟨m, rfl⟩ : ∃ m, n = m + 1 := ⟨n - 1, by omega⟩
  simp only [Nat.add_sub_cancel] at h
  rw [← tr_eq, List.take_succ_eq_append_getElem (by omega), tr_snoc h]
theorem can_iff {l : List UInt32} (h0 : 0 < l.length) : l[l.length - 1]'(by omega) ≠ 0 ↔ lb (val l) = l := by
  constructor
  · intro h
    have := trim_done (n := l.length) h0 (Nat.le_refl _) h
    rwa [List.take_length] at this
  · intro h h1
    have h2 := trim_step (n := l.length) h0 (Nat.le_refl _) h1
    rw [List.take_length] at h2
    have h3 : (lb (val l)).length ≤ l.length - 1 := by
      refine lb_lt ?_
      rw [← h2]
      have := val_lt (l.take (l.length - 1))
      rwa [List.length_take, Nat.min_eq_left (by omega)] at this
    rw [h] at h3
    omega
theorem u64_shr32 (x : UInt64) : (x >>> UInt64.ofNat 32).toNat = x.toNat / 4294967296 := by
  rw [UInt64.toNat_shiftRight]
  show x.toNat >>> 32 = _
  rw [Nat.shiftRight_eq_div_pow]
theorem trim_spec2 {w : World} {l : List UInt32} {v : Value} (hv : Wds l v w) :
    Calls Try.prog 79 #[v] w (Ret fun r w' => w = w' ∧ Wds (lb (val l)) r w ∧ (r.ownBlock = none ∨ r.ownBlock = v.ownBlock)) := by
  refine enter (vs := [v]) Try.func79 rfl rfl rfl ?_
  have hl := hv.len
  refine c_seq (c_region (o_assign rfl rfl (o_nil (n_then (c_seq (c_region (o_move rfl rfl (o_len rfl rfl (r_lenW Try.underlying33 hv) (o_assign rfl rfl (o_nil (n_then ?_)))))))))))
  refine c_seq (c_block ?_)
  refine c_loop (α := Nat) (fun n => [(0, v), (3, I (n : Int))]) (fun n w' => w = w' ∧ n ≤ l.length ∧ val (l.take n) = val l) (fun n => n) (l.length) ⟨rfl, rfl, trivial⟩ ⟨rfl, Nat.le_refl _, by rw [List.take_length]⟩ ?_
  rintro n _ ⟨rfl, hn, hval⟩
  refine c_seq (c_seq (c_region (o_move rfl rfl (o_bin rfl rfl rfl (r_gtr_i) (o_move rfl rfl ?_)))))
  refine o_dec (fun h8 => ?_) (fun h8 => ?_)
  · refine g_yes rfl (o_move rfl rfl (g_yes rfl (o_move rfl rfl (g_yes rfl (o_bin (r := I ((n - 1 : Nat) : Int)) rfl rfl rfl (by have e : ((n - 1 : Nat) : Int) = (n : Int) - 1 := (by omega); rw [e]; exact r_sub_i (by omega) (by omega)) ?_)))))
    refine g_yes rfl ?_
    obtain ⟨a12, p12, q12⟩ := r_ixW Try.underlying33 hv (i := (n - 1 : Nat)) (by omega) .i64
    refine o_indexAddr rfl rfl rfl (p12 _) (g_yes rfl (o_load rfl rfl (r_load1 Try.underlying79 rfl q12) (g_yes rfl (o_bin (v := U32 0) rfl rfl rfl (r_eql_u32) (o_pick_t rfl rfl rfl ?_)))))
    refine o_nil (n_then ?_)
    refine c_if rfl (fun h15 => ?_) (fun h15 => ?_)
    · refine c_skip (n_then (c_block (c_region (o_move rfl rfl (o_bin (r := I ((n - 1 : Nat) : Int)) rfl rfl rfl (by have e : ((n - 1 : Nat) : Int) = (n : Int) - 1 := (by omega); rw [e]; exact r_sub_i (by omega) (by omega)) ?_)))))
      refine o_assign rfl rfl (o_nil (n_block ?_))
      refine n_round (n - 1) ⟨rfl, rfl, trivial⟩ ⟨rfl, by omega, by rw [trim_step (by omega) hn h15]; exact hval⟩ (by omega)
    · refine c_exit (x_then (x_then (x_here (n_then (c_seq (c_seq (c_region (o_move rfl rfl (o_bin rfl rfl rfl (r_eql_i) (o_nil (n_then ?_)))))))))))
      refine c_if rfl (fun h19 => ?_) (fun h19 => ?_)
      · refine c_seq (c_region (o_assign rfl rfl (o_nil (n_then (c_ret (r_then (r_body1 rfl rfl ?_)))))))
        exact ⟨_, rfl, rfl, by
          obtain rfl : n = 0 := by omega
          rw [← hval]; exact Wds.nil _, .inl rfl⟩
      · refine c_skip (n_then (c_seq (c_region (o_move rfl rfl (o_move rfl rfl ?_)))))
        obtain ⟨v22, p22, b22, ob22⟩ := r_slW_hi2 Try.underlying33 hv (hi := n) hn .i64
        refine o_slice rfl rfl rfl rfl rfl (p22 _) (o_assign rfl rfl (o_nil (n_then (c_ret (r_body1 rfl rfl ?_)))))
        exact ⟨_, rfl, rfl, by
          first
          | (exfalso; omega)
          | (rw [← hval, trim_done (by omega) hn h15]; exact b22), .inr ob22⟩
  · refine g_no rfl rfl rfl (g_no rfl rfl rfl (g_no rfl rfl rfl (g_no rfl rfl rfl (g_no rfl rfl rfl (g_no rfl rfl rfl (o_pick_f rfl rfl rfl (o_nil (n_then (c_no rfl (c_exit (x_then (x_then ?_))))))))))))
    refine x_here (n_then (c_seq (c_seq (c_region (o_move rfl rfl (o_bin rfl rfl rfl (r_eql_i) (o_nil (n_then ?_))))))))
    refine c_if rfl (fun h19 => ?_) (fun h19 => ?_)
    · refine c_seq (c_region (o_assign rfl rfl (o_nil (n_then (c_ret (r_then (r_body1 rfl rfl ?_)))))))
      exact ⟨_, rfl, rfl, by
        obtain rfl : n = 0 := by omega
        rw [← hval]; exact Wds.nil _, .inl rfl⟩
    · refine c_skip (n_then (c_seq (c_region (o_move rfl rfl (o_move rfl rfl ?_)))))
      obtain ⟨v22, p22, b22, ob22⟩ := r_slW_hi2 Try.underlying33 hv (hi := n) hn .i64
      refine o_slice rfl rfl rfl rfl rfl (p22 _) (o_assign rfl rfl (o_nil (n_then (c_ret (r_body1 rfl rfl ?_)))))
      exact ⟨_, rfl, rfl, by
        first
        | (exfalso; omega)
        | (rw [← hval, trim_done (by omega) hn h15]; exact b22), .inr ob22⟩
theorem trim_spec {w : World} {l : List UInt32} {v : Value} (hv : Wds l v w) :
    Calls Try.prog 79 #[v] w (Ret fun r w' => w = w' ∧ Wds (lb (val l)) r w) :=
  (trim_spec2 hv).mono fun _ _ ⟨r, he, h1, h2, _⟩ => ⟨r, he, h1, h2⟩
theorem CloneN_spec {w : World} {l : List UInt32} {v : Value} (hv : Wds l v w) (hl : l.length ≤ 17592186044416) :
    Calls Try.prog 94 #[v] w (Ret fun r w' => Ext w w' ∧ OwnW w.heap.size l r w') := by
  obtain ⟨A, n, c, rfl, hnc, hcm, hll, hc, hnone⟩ := id hv
  refine enter (vs := [.slice A n c]) Try.func94 rfl rfl rfl ?_
  refine c_seq (c_region (o_assign rfl rfl (o_nil (n_then (c_seq (c_seq (c_region (o_move rfl rfl (o_bin rfl rfl rfl (r_eqnil Try.underlying33) (o_nil (n_then ?_)))))))))))
  refine c_cond rfl (fun h4 => ?_) (fun h4 => ?_)
  · refine c_seq (c_region (o_assign rfl rfl (o_nil (n_then (c_ret (r_then (r_body1 rfl rfl ?_)))))))
    have hA : A = none := by simpa using h4
    have := hnone hA
    have hnil : l = [] := List.eq_nil_of_length_eq_zero (by simp at hll; omega)
    subst hnil
    exact ⟨_, rfl, Ext.refl _, OwnW.nil _ _⟩
  · refine c_skip (n_then (c_seq (c_region ?_)))
    obtain ⟨v5, w5, hr5, x5, o5, ob5⟩ := r_bsW Try.underlying33 (w := w) w.heap.size [] (by simp) (Nat.le_refl _)
    refine o_buildSlice (vs := []) rfl rfl hr5 (o_move rfl rfl ?_)
    obtain ⟨v7, w7, hr7, o7, g7⟩ := r_appW Try.underlying33 (ty := 33) o5 (hv.ext x5) (by simp; omega) (x5).size
    have x7 := Ext.of_grew (x5) g7 o5.ge
    refine o_append rfl rfl hr7 (o_assign rfl rfl (o_nil (n_then (c_ret (r_body1 rfl rfl ?_)))))
    exact ⟨_, rfl, x7, by simpa using o7⟩
theorem NMake_spec {w : World} {l : List UInt32} {v : Value} (hv : Wds l v w) (hl : l.length ≤ 17592186044416) :
    Calls Try.prog 87 #[v] w (Ret fun r w' => Ext w w' ∧ Wds (lb (val l)) r w') := by
  refine enter (vs := [v]) Try.func87 rfl rfl rfl ?_
  have hll := lb_lt (val_lt l)
  refine c_seq (c_region (o_assign rfl rfl (o_nil (n_then (c_seq (c_region (o_move rfl rfl (o_call call_trim rfl rfl (trim_spec hv) ?_))))))))
  rintro v4 _ ⟨rfl, b4⟩
  refine o_call call_CloneN rfl rfl (CloneN_spec b4 (by omega)) ?_
  rintro v5 w5 ⟨x5, o5⟩
  refine o_assign rfl rfl (o_nil (n_then (c_ret (r_body1 rfl rfl ?_))))
  exact ⟨_, rfl, x5, o5.wds⟩
theorem NValid_spec {w : World} {l : List UInt32} {v : Value} (hv : Wds l v w) :
    Calls Try.prog 69 #[v] w (Ret fun r w' => w = w' ∧ r = B (decide (lb (val l) = l))) := by
  refine enter (vs := [v]) Try.func69 rfl rfl rfl ?_
  have hl := hv.len
  refine c_seq (c_region (o_assign rfl rfl (o_nil (n_then (c_seq (c_region (o_move rfl rfl (o_len rfl rfl (r_lenW Try.underlying33 hv) (o_bin rfl rfl rfl (r_eql_i) ?_)))))))))
  refine o_move rfl rfl ?_
  refine o_dec (fun h6 => ?_) (fun h6 => ?_)
  · refine g_no rfl rfl rfl (g_no rfl rfl rfl (g_no rfl rfl rfl (g_no rfl rfl rfl (g_no rfl rfl rfl (g_no rfl rfl rfl (g_no rfl rfl rfl (o_pick_t rfl rfl rfl (o_assign rfl rfl (o_nil ?_)))))))))
    refine n_then (c_ret (r_body1 rfl rfl ?_))
    exact ⟨_, rfl, rfl, by
      first
      | (have h0 : l = [] := List.eq_nil_of_length_eq_zero (by omega)
         subst h0; rfl)
      | exact congrArg B (decide_eq_decide.2 (can_iff (by omega)))⟩
  · refine g_yes rfl (o_move rfl rfl (g_yes rfl (o_move rfl rfl (g_yes rfl (o_len rfl rfl (r_lenW Try.underlying33 hv) (g_yes rfl (o_bin (r := I ((l.length - 1 : Nat) : Int)) rfl rfl rfl (by have e : ((l.length - 1 : Nat) : Int) = (l.length : Int) - 1 := (by omega); rw [e]; exact r_sub_i (by omega) (by omega)) ?_)))))))
    refine g_yes rfl ?_
    obtain ⟨a11, p11, q11⟩ := r_ixW Try.underlying33 hv (i := (l.length - 1 : Nat)) (by omega) .i64
    refine o_indexAddr rfl rfl rfl (p11 _) (g_yes rfl (o_load rfl rfl (r_load1 Try.underlying79 rfl q11) (g_yes rfl (o_bin (v := U32 0) rfl rfl rfl (r_neq_u32) (o_pick_f rfl rfl rfl ?_)))))
    refine o_assign rfl rfl (o_nil (n_then (c_ret (r_body1 rfl rfl ?_))))
    exact ⟨_, rfl, rfl, by
      first
      | (have h0 : l = [] := List.eq_nil_of_length_eq_zero (by omega)
         subst h0; rfl)
      | exact congrArg B (decide_eq_decide.2 (can_iff (by omega)))⟩
theorem NOf_spec {w : World} {x : UInt64} :
    Calls Try.prog 96 #[U64 x] w (Ret fun r w' => Ext w w' ∧ Wds (lb x.toNat) r w') := by
  refine enter (vs := [U64 x]) Try.func96 rfl rfl rfl ?_
  refine c_seq (c_region (o_assign rfl rfl (o_nil (n_then (c_seq (c_region (o_move rfl rfl (o_conv rfl rfl (r_u64_u32 Try.underlying31 Try.underlying79) (o_move rfl rfl ?_)))))))))
  refine o_bin rfl rfl rfl (r_shr_u64 32 (by omega)) (o_conv rfl rfl (r_u64_u32 Try.underlying31 Try.underlying79) ?_)
  obtain ⟨v8, w8, hr8, x8, o8, ob8⟩ := r_bsW Try.underlying33 (w := w) w.heap.size [x.toUInt32, (x >>> UInt64.ofNat 32).toUInt32] (by simp) (Nat.le_refl _)
  refine o_buildSlice (vs := [(0, U32 (x.toUInt32)), (1, U32 ((x >>> UInt64.ofNat 32).toUInt32))]) rfl rfl hr8 (o_call call_trim rfl rfl (trim_spec o8.wds) ?_)
  rintro v9 _ ⟨rfl, b9⟩
  refine o_assign rfl rfl (o_nil (n_then (c_ret (r_body1 rfl rfl ?_))))
  exact ⟨_, rfl, x8, by
    have e : val [x.toUInt32, (x >>> UInt64.ofNat 32).toUInt32] = x.toNat := by
      have h1 : (x.toUInt32).toNat = x.toNat % 4294967296 := UInt64.toNat_toUInt32 x
      have h2 : ((x >>> UInt64.ofNat 32).toUInt32).toNat = x.toNat / 4294967296 := by
        have := x.toNat_lt
        rw [UInt64.toNat_toUInt32, u64_shr32]
        omega
      simp only [val, h1, h2]; omega
    rw [e] at b9; exact b9⟩
end Go.Rl


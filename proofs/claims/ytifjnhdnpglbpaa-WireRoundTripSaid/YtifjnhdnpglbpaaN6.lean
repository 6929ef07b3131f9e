/- Walk of package natural: DivMod. Conditions: the divisor is not 0; the numbers are shorter than 2^39 limbs. -/
import Derived.Test.YtifjnhdnpglbpaaN5
namespace Go.Rl
open Go.RowKit Go.Proofs
theorem call_NDivMod : Callable Try.prog 90 := ⟨_, Try.func90, by kernel_rfl, rfl⟩
theorem val_drop0 {U : List UInt32} {i j V : Nat} (h : val U < 4294967296 ^ (i + 1) * V) (hV : V < 4294967296 ^ j) (hi : i + j + 1 ≤ U.length) : val (U.drop (i + j + 1)) = 0 := by
  rw [val_split U (i + j + 1) hi] at h
  rcases Nat.eq_zero_or_pos (val (U.drop (i + j + 1))) with h0 | h0
  · exact h0
  · have a : 4294967296 ^ (i + 1) * V ≤ 4294967296 ^ (i + 1) * 4294967296 ^ j := Nat.mul_le_mul_left _ (Nat.le_of_lt hV)
    rw [← Nat.pow_add, show i + 1 + j = i + j + 1 by omega] at a
    have b : 4294967296 ^ (i + j + 1) * 1 ≤ 4294967296 ^ (i + j + 1) * val (U.drop (i + j + 1)) := Nat.mul_le_mul_left _ h0
    omega
theorem val_part {U : List UInt32} {i n : Nat} (h : i + n ≤ U.length) (h0 : val (U.drop (i + n)) = 0) : val U = val (U.take i) + 4294967296 ^ i * val ((U.take (i + n)).drop i) := by
  have h1 := val_split U (i + n) h
  rw [h0, Nat.mul_zero, Nat.add_zero] at h1
  have h2 := val_split (U.take (i + n)) i (by simp; omega)
  rw [List.take_take, Nat.min_eq_left (by omega)] at h2
  rw [h1, h2]
theorem val_joined {U F : List UInt32} {i n : Nat} (h : i + n ≤ U.length) (h0 : val (U.drop (i + n)) = 0) : val (U.take i ++ F ++ U.drop (i + n)) = val (U.take i) + 4294967296 ^ i * val F := by
  rw [val_append, val_append, h0, List.length_take, Nat.min_eq_left (by omega)]; simp
theorem NDivMod_spec {w : World} {l m : List UInt32} {v u : Value} (hv : Wds l v w) (hu : Wds m u w) (hl : l.length ≤ 549755813888) (hml : m.length ≤ 549755813888) (hm : 0 < val m) :
    Calls Try.prog 90 #[v, u] w (Ret fun r w' => Ext w w' ∧ ∃ q s, r = .tuple #[q, s, I 0] ∧ Wds (lb (val l / val m)) q w' ∧ Wds (lb (val l % val m)) s w') := by
  refine enter (vs := [v, u]) Try.func90 rfl rfl rfl ?_
  have hll := lb_lt (val_lt l)
  have hmm := lb_lt (val_lt m)
  have hM0 : 0 < (lb (val m)).length := by
    rcases Nat.eq_zero_or_pos (lb (val m)).length with h | h
    · have := lb_len0.1 h
      omega
    · exact h
  refine c_seq (c_region (o_assign rfl rfl (o_assign rfl rfl (o_assign rfl rfl (o_nil (n_then (c_seq (c_region (o_move rfl rfl (o_call call_trim rfl rfl (trim_spec hv) ?_))))))))))
  rintro v18 _ ⟨rfl, b18⟩
  refine o_move rfl rfl (o_call call_trim rfl rfl (trim_spec hu) ?_)
  rintro v20 _ ⟨rfl, b20⟩
  refine o_assign rfl rfl (o_assign rfl rfl (o_nil (n_then (c_seq (c_block (c_seq (c_region (o_move rfl rfl (o_len (r := I ((lb (val m)).length : Int)) rfl rfl (r_lenW Try.underlying33 b20) ?_)))))))))
  refine o_bin rfl rfl rfl (dec_f (by omega) r_eql_i) (o_assign rfl rfl (o_nil (n_then (c_no rfl (c_seq (c_region (o_move rfl rfl (o_move rfl rfl (o_call call_NCmp rfl rfl ((by have := NCmp_spec b18 b20; rw [val_lb, val_lb] at this; exact this)) ?_)))))))))
  rintro v28 w28 ⟨x28, rfl⟩
  refine o_bin rfl rfl rfl (r_lss_i) (o_assign rfl rfl (o_nil (n_then ?_)))
  refine c_if rfl (fun h25 => ?_) (fun h25 => ?_)
  · have hlt := cmpN_neg.1 h25
    refine c_seq (c_region (o_move rfl rfl (o_call call_NMake rfl rfl ((by have := NMake_spec (b18.ext x28) (by omega); rw [val_lb] at this; exact this)) ?_)))
    rintro v31 w31 ⟨x31, b31⟩
    refine o_assign rfl rfl (o_assign rfl rfl (o_assign rfl rfl (o_nil (n_then (c_ret (r_block (r_then (r_body3 rfl rfl rfl rfl ?_))))))))
    exact ⟨_, rfl, (x28.trans x31), _, _, rfl, by rw [Nat.div_eq_of_lt hlt]; exact Wds.nil _, by rw [Nat.mod_eq_of_lt hlt]; exact b31⟩
  · have hge : val m ≤ val l := Nat.le_of_not_lt fun h => h25 (cmpN_neg.2 h)
    have hlen : (lb (val m)).length ≤ (lb (val l)).length := Nat.le_of_not_lt fun h => by have := len_lt h; omega
    refine c_seq (c_region (o_move rfl rfl (o_len (r := I ((lb (val m)).length : Int)) rfl rfl (r_lenW Try.underlying33 (b20.ext x28)) (o_bin rfl rfl rfl (r_eql_i) ?_))))
    refine o_assign rfl rfl (o_nil (n_then ?_))
    refine c_if rfl (fun h32 => ?_) (fun h32 => ?_)
    · refine c_seq (c_region (o_move rfl rfl (o_move rfl rfl ?_)))
      have hM1 : val m = ((lb (val m))[0]'(by omega)).toNat := by
        have e := val_drop (l := lb (val m)) (i := 0) (by omega)
        rw [List.drop_zero, val_lb, List.drop_of_length_le (by omega)] at e
        simpa [val] using e
      obtain ⟨a39, p39, q39⟩ := r_ixW Try.underlying33 (b20.ext x28) (i := 0) (by omega) .i64
      refine o_indexAddr rfl rfl rfl (p39 _) (o_load rfl rfl (r_load1 Try.underlying79 rfl q39) (o_call call_NShort rfl rfl ((NShort_spec (b18.ext x28) (by omega) (by rw [← hM1]; exact hm))) ?_))
      rintro v41 w41 ⟨x41, q, s, rfl, bq, bs⟩
      refine o_move rfl rfl (o_extract rfl rfl r_ext0 (o_extract rfl rfl r_ext1 (o_assign rfl rfl (o_assign rfl rfl (o_nil (n_then (c_seq (c_region (o_move rfl rfl (o_move rfl rfl (o_assign rfl rfl ?_)))))))))))
      refine o_assign rfl rfl (o_assign rfl rfl (o_nil (n_then (c_ret (r_block (r_then (r_body3 rfl rfl rfl rfl ?_)))))))
      rw [val_lb, ← hM1] at bq bs
      exact ⟨_, rfl, (x28.trans x41), _, _, rfl, bq, bs⟩
    · refine c_skip (n_block (n_then (c_seq ?_)))
      obtain ⟨k, hk⟩ : ∃ k, (lb (val m)).length = k + 2 := ⟨(lb (val m)).length - 2, by omega⟩
      obtain ⟨hs32, hVlen⟩ := norm_len hk
      have htop : (lb (val m))[(lb (val m)).length - 1]'(by omega) = (lb (val m))[k + 1]'(by omega) := by congr 1; omega
      refine c_region (o_move rfl rfl (o_move rfl rfl (o_len (r := I ((lb (val m)).length : Int)) rfl rfl (r_lenW Try.underlying33 (b20.ext x28)) (o_bin (r := I (((lb (val m)).length - 1 : Nat) : Int)) rfl rfl rfl (by have e : (((lb (val m)).length - 1 : Nat) : Int) = ((lb (val m)).length : Int) - 1 := (by omega); rw [e]; exact r_sub_i (by omega) (by omega)) ?_))))
      obtain ⟨a50, p50, q50⟩ := r_ixW Try.underlying33 (b20.ext x28) (i := ((lb (val m)).length - 1 : Nat)) (by omega) .i64
      refine o_indexAddr rfl rfl rfl (p50 _) (o_load rfl rfl (r_load1 Try.underlying79 rfl q50) (o_call call_LZ32 rfl rfl (LZ32_spec) ?_))
      rintro v52 _ ⟨rfl, rfl⟩
      rw [htop]
      obtain ⟨s, hs⟩ : ∃ s, s = 32 - bl ((lb (val m))[k + 1]'(by omega)).toNat := ⟨_, rfl⟩
      rw [← hs] at hs32 hVlen ⊢
      refine o_assign rfl rfl (o_nil (n_then (c_seq (c_region (o_move rfl rfl (o_move rfl rfl (o_call call_NLeft rfl rfl (NLeft_spec (b18.ext x28) (by omega) hs32) ?_)))))))
      rintro v55 w55 ⟨x55, U, oU, hUl, hUv⟩
      refine o_move rfl rfl (o_move rfl rfl (o_call call_NLeft rfl rfl (NLeft_spec (b20.ext (x28.trans x55)) (by omega) hs32) ?_))
      rintro v58 w58 ⟨x58, V, oV, hVl, hVv⟩
      refine o_call call_trim rfl rfl (trim_spec2 oV.wds) ?_
      rintro v59 _ ⟨rfl, b59, ob59⟩
      rw [val_lb] at hUv hVv
      rw [hVv] at b59
      obtain ⟨g, sp, hgb, hgo, pU⟩ := oU.pw (by omega)
      have hV0 : 0 < val m * 2 ^ s := Nat.mul_pos hm (Nat.pow_pos (by omega))
      have hgV : g < w55.heap.size := pU.lt
      have off1 : v59.ownBlock = none ∨ v59.ownBlock ≠ some g := by
        rcases ob59 with h | h
        · exact .inl h
        · exact .inr (by rw [h]; exact oV.off hgV)
      refine o_assign rfl rfl (o_assign rfl rfl (o_nil (n_then (c_seq (c_region (o_move rfl rfl (o_len (r := I ((lb (val l)).length : Int)) rfl rfl (r_lenW Try.underlying33 (b18.ext ((x28.trans x55).trans x58))) ?_)))))))
      refine o_move rfl rfl (o_len (r := I ((lb (val m)).length : Int)) rfl rfl (r_lenW Try.underlying33 (b20.ext ((x28.trans x55).trans x58))) (o_bin (r := I (((lb (val l)).length - (lb (val m)).length : Nat) : Int)) rfl rfl rfl (by have e : (((lb (val l)).length - (lb (val m)).length : Nat) : Int) = ((lb (val l)).length : Int) - ((lb (val m)).length : Int) := (by omega); rw [e]; exact r_sub_i (by omega) (by omega)) ?_))
      refine o_bin (r := I (((((lb (val l)).length - (lb (val m)).length : Nat)) + 1 : Nat) : Int)) rfl rfl rfl (by have e : (((((lb (val l)).length - (lb (val m)).length : Nat)) + 1 : Nat) : Int) = (((lb (val l)).length - (lb (val m)).length : Nat) : Int) + 1 := (by omega); rw [e]; exact r_add_i (by omega) (by omega)) ?_
      obtain ⟨v66, w66, hr66, x66, o66, ob66⟩ := r_mkW Try.underlying33 (w := w58) w58.heap.size (n := (lb (val l)).length - (lb (val m)).length + 1) (by omega) (Nat.le_refl _)
      refine o_makeSlice rfl rfl rfl hr66 (o_assign rfl rfl (o_nil (n_then (c_seq (c_seq (c_region (o_move rfl rfl (o_len (r := I (((lb (val l)).length - (lb (val m)).length + 1 : Nat) : Int)) rfl rfl ((by simpa using r_lenW Try.underlying33 o66.wds)) ?_))))))))
      refine o_bin rfl rfl rfl (r_sub_i (by omega) (by omega)) (o_assign rfl rfl (o_nil (n_then (c_block ?_))))
      refine c_loop3 (fun (j : Nat) (X : List UInt32) (O : List UInt32) => [(9, I (s : Int)), (10, v55), (11, v59), (12, v66), (13, I ((j : Int) - 1))]) (fun (j : Nat) (X : List UInt32) (O : List UInt32) w' => Ext w w' ∧ PW g [] X sp v55 w' ∧ OwnW w58.heap.size O v66 w' ∧ Wds (lb (val m * 2 ^ s)) v59 w' ∧ X.length = (lb (val l)).length + 1 ∧ O.length = (lb (val l)).length - (lb (val m)).length + 1 ∧ j ≤ O.length ∧ val l * 2 ^ s = val (O.drop j) * 4294967296 ^ j * (val m * 2 ^ s) + val X ∧ val X < 4294967296 ^ j * (val m * 2 ^ s)) (fun (j : Nat) (X : List UInt32) (O : List UInt32) => j) ((lb (val l)).length - (lb (val m)).length + 1) (U) (List.replicate ((lb (val l)).length - (lb (val m)).length + 1) 0) ⟨rfl, rfl, rfl, rfl, rfl, trivial⟩ ⟨(((x28.trans x55).trans x58).trans x66), (pU.ext x58).ext x66, o66, b59.ext x66, hUl, by simp, by simp, by rw [List.drop_of_length_le (by simp)]; simp [val, hUv], by
          have h1 := val_lt (lb (val l))
          have h2 := lb_ge hm
          rw [val_lb] at h1
          rw [hUv, ← Nat.mul_assoc]
          refine Nat.mul_lt_mul_of_pos_right ?_ (Nat.pow_pos (by omega))
          have h3 : 4294967296 ^ (lb (val l)).length = 4294967296 ^ ((lb (val l)).length - (lb (val m)).length + 1) * 4294967296 ^ ((lb (val m)).length - 1) := by
            rw [← Nat.pow_add, show (lb (val l)).length - (lb (val m)).length + 1 + ((lb (val m)).length - 1) = (lb (val l)).length by omega]
          rw [h3] at h1
          exact Nat.lt_of_lt_of_le h1 (Nat.mul_le_mul_left _ h2)⟩ ?_
      rintro j X O w13 ⟨e13, pX, oO, f13, hXl, hOl, hj, hA, hX⟩
      refine c_seq (c_seq (c_region (o_move rfl rfl (o_bin rfl rfl rfl (r_geq_i) (o_nil (n_then ?_))))))
      refine c_if rfl (fun h71 => ?_) (fun h71 => ?_)
      · obtain ⟨i, rfl⟩ : ∃ i, j = i + 1 := ⟨j - 1, by omega⟩
        have e : ((i + 1 : Nat) : Int) - 1 = (i : Int) := by omega
        rw [e]
        have hz := val_drop0 hX (by have := val_lt (lb (val m * 2 ^ s)); rwa [val_lb, hVlen] at this) (j := k + 2) (by omega)
        have hXp := val_part (U := X) (i := i) (n := k + 3) (by omega) hz
        refine c_skip (n_then (c_seq (c_block (c_seq (c_region (o_move rfl rfl (o_move rfl rfl (o_move rfl rfl (o_move rfl rfl (o_len (r := I ((k + 2 : Nat) : Int)) rfl rfl ((by rw [← hVlen]; exact r_lenW Try.underlying33 f13)) ?_))))))))))
        refine o_bin (r := I ((i + (k + 2 : Nat) : Nat) : Int)) rfl rfl rfl (by have e : ((i + (k + 2 : Nat) : Nat) : Int) = (i : Int) + ((k + 2 : Nat) : Int) := (by omega); rw [e]; exact r_add_i (by omega) (by omega)) ?_
        refine o_bin (r := I ((((i + (k + 2 : Nat) : Nat)) + 1 : Nat) : Int)) rfl rfl rfl (by have e : ((((i + (k + 2 : Nat) : Nat)) + 1 : Nat) : Int) = ((i + (k + 2 : Nat) : Nat) : Int) + 1 := (by omega); rw [e]; exact r_add_i (by omega) (by omega)) ?_
        obtain ⟨v81, p81, pP⟩ := r_slPW Try.underlying33 pX (lo := i) (hi := i + (k + 2) + 1) (by omega) (by omega) .i64 .i64
        refine o_slice rfl rfl rfl rfl rfl (p81 _) ?_
        have hPl : ((X.take (i + (k + 2) + 1)).drop i).length = k + 3 := by simp; omega
        refine o_assign rfl rfl (o_nil (n_then (c_region (o_move rfl rfl (o_move rfl rfl (o_move rfl rfl (o_move rfl rfl (o_move rfl rfl (o_move rfl rfl (o_call call_NEst rfl rfl (NEst_spec pP.wds f13 hVlen hPl (by omega) (lb_last (by omega)) (by
  rw [val_lb]
  have h1 : 4294967296 ^ i * val ((X.take (i + (k + 3))).drop i) ≤ val X := by rw [hXp]; omega
  rw [Nat.pow_succ, Nat.mul_assoc] at hX
  exact Nat.lt_of_mul_lt_mul_left (Nat.lt_of_le_of_lt h1 hX))) ?_))))))))))
        rintro v88 w88 ⟨x88, q, rfl, hqB, hq1, hq2⟩
        refine o_call call_NRed rfl rfl (NRed_spec (pP.ext x88) (f13.ext x88) off1 (by rw [hPl, hVlen]) (by omega) hqB hq1 hq2) ?_
        rintro v89 w89 ⟨x, F, rfl, q89, pF, hFl, hFv, hFr⟩
        have x89 := (e13.trans x88).of_new q89 (by have := x28.size; omega)
        have o89 := (oO.ext x88).kept q89 (.inr (oO.off (by have := x58.size; omega)))
        have p89 := pX.join (by omega) (by omega) (by rw [hFl, hPl]; omega) pF
        have f89 := (f13.ext x88).away off1 q89
        obtain ⟨g90, w90, p90, s90, o90, q90, hb90, c90, ob90⟩ := o89.setW Try.underlying33 (i := i) (by omega) x
        refine o_indexAddr rfl rfl rfl (p90 _) (o_store rfl rfl (s90) ?_)
        have x90 := x89.of_new q90 (by have := x28.size; have := x55.size; have := x58.size; omega)
        have p90' := p89.kept q90 (fun h => by have := Option.some.inj h; have := x58.size; omega)
        have f90 := f89.away (by
          rcases ob59 with h | h
          · exact .inl h
          · refine .inr fun he => ?_
            rw [h] at he
            have := oV.lt g90 he
            omega) q90
        have hj' := val_joined (U := X) (F := F) (i := i) (n := k + 3) (by omega) hz
        rw [val_lb] at hFv hFr
        have dr := div_round (A := val l * 2 ^ s) (P := 4294967296 ^ i) (Q := val (O.drop (i + 1))) (V := val m * 2 ^ s) hXp (by have := val_lt (X.take i); rwa [List.length_take, Nat.min_eq_left (by omega)] at this) (by rw [← Nat.pow_succ]; exact hA) hFv hFr
        rw [← hj', ← val_set_drop (by omega)] at dr
        refine o_nil (n_block (n_then (c_region (o_move rfl rfl (o_bin rfl rfl rfl (r_sub_i (by omega) (by omega)) (o_assign rfl rfl (o_nil ?_)))))))
        refine n_round3 (i) (_) (_) ⟨rfl, rfl, rfl, rfl, rfl, trivial⟩ ⟨x90, p90', o90, f90, by simp [hFl, hPl, hXl]; omega, by simpa using hOl, by simp; omega, dr.1, dr.2⟩ (by omega)
      · refine c_exit (x_then (x_then (x_here (n_then (c_seq ?_)))))
        obtain rfl : j = 0 := by omega
        rw [Nat.pow_zero, Nat.mul_one, List.drop_zero] at hA
        rw [Nat.pow_zero, Nat.one_mul] at hX
        have hs0 : 0 < 2 ^ s := Nat.pow_pos (by omega)
        have hQ : val l / val m = val O := by
          rw [← Nat.mul_div_mul_right _ _ hs0, hA, Nat.mul_comm (val O), Nat.mul_add_div hV0, Nat.div_eq_of_lt hX, Nat.add_zero]
        have hR : val X / 2 ^ s = val l % val m := by
          have e1 : val X = val l * 2 ^ s % (val m * 2 ^ s) := by rw [hA, Nat.mul_comm (val O), Nat.mul_add_mod, Nat.mod_eq_of_lt hX]
          rw [e1, Nat.mul_mod_mul_right, Nat.mul_div_cancel _ hs0]
        refine c_region (o_move rfl rfl (o_move rfl rfl (o_call call_NShr rfl rfl (NShr_spec pX.wds (by omega) (by omega)) ?_)))
        rintro v94 w94 ⟨x94, r94, rfl, b94⟩
        refine o_move rfl rfl (o_extract rfl rfl r_ext0 (o_extract rfl rfl r_ext1 (o_assign rfl rfl (o_assign rfl rfl (o_nil (n_then (c_seq (c_region (o_move rfl rfl (o_call call_trim rfl rfl (trim_spec ((oO.ext x94).wds)) ?_))))))))))
        rintro v98 _ ⟨rfl, b98⟩
        refine o_move rfl rfl (o_assign rfl rfl (o_assign rfl rfl (o_assign rfl rfl (o_nil (n_then (c_ret (r_body3 rfl rfl rfl rfl ?_)))))))
        exact ⟨_, rfl, (e13.trans x94), _, _, rfl, by rw [hQ]; exact b98, by rw [← hR]; exact b94⟩
end Go.Rl


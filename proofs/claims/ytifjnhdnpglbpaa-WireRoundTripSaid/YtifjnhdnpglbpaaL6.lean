/- The statement WireUnique: what is read is written again in the same bytes. No condition. -/
import Derived.Test.YtifjnhdnpglbpaaL5
namespace Go.Rl
open Go.RowKit Go.Proofs
theorem uz_lo {n : Nat} (h : n < 18446744073709551616) : -9223372036854775808 ≤ uz n := by unfold uz; split <;> omega
theorem uz_hi {n : Nat} (h : n < 18446744073709551616) : uz n ≤ 9223372036854775807 := by unfold uz; split <;> omega
theorem WireUnique_walk {w : World} {d : List UInt8} {v : Value} {k : UInt8} (hd : Bts d v w) :
    Calls Try.prog 12 #[v, U8 k] w (Ret fun r w' => r = B true ∧ Ext w w') := by
  refine enter (vs := [v, U8 k]) Try.func12 rfl rfl rfl ?_
  refine c_seq (c_region (o_assign rfl rfl (o_nil (n_then (c_seq (c_seq (c_region (o_call call_awake rfl rfl (awake_spec _) ?_))))))))
  rintro v17 w17 ⟨rfl, x17⟩
  refine o_not rfl rfl r_not (o_move rfl rfl (g_yes rfl (o_move rfl rfl (g_yes rfl (o_len rfl rfl (r_lenB (hd.ext x17)) (g_yes rfl (o_bin rfl rfl rfl (r_gtr_i) (o_pick_f rfl rfl rfl ?_))))))))
  refine o_nil (n_then ?_)
  refine c_if rfl (fun h23 => ?_) (fun h23 => ?_)
  · refine c_seq (c_region (o_call call_awake rfl rfl (awake_spec _) ?_))
    rintro v24 w24 ⟨rfl, x24⟩
    refine o_assign rfl rfl (o_nil (n_then (c_ret (r_then (r_body1 rfl rfl ?_)))))
    exact ⟨_, rfl, rfl, (x17.trans x24)⟩
  · refine c_skip (n_then (c_seq (c_region (o_move rfl rfl (o_call call_New rfl rfl ((New_spec (hd.ext x17) (by omega))) ?_)))))
    rintro v26 w26 ⟨x26, g, lg, rfl, rr⟩
    have hg : w.heap.size ≤ g := Nat.le_trans x17.size lg
    have hf : Few (some d) := fun l e => by cases e; omega
    refine o_assign rfl rfl (o_nil (n_then (c_seq (c_region (o_assign rfl rfl (o_nil (n_then (c_seq (c_region (o_assign rfl rfl (o_nil (n_then (c_seq ?_)))))))))))))
    refine c_cut (fun p : Value × Int => [(0, v), (5, .pointer (some ⟨g, 0, none⟩)), (6, p.1), (7, I p.2)]) (fun p w' => Ext w w' ∧ ((p.2 = 5 ∧ RdAt g none w') ∨ (p.2 = 0 ∧ ∃ a t, d = a ++ t ∧ Bts a p.1 w' ∧ RdAt g (some t) w'))) ?_ ?_
    · refine c_seq (c_region (o_move rfl rfl (o_bin (v := U8 4) rfl rfl rfl (r_rem_u8 (by decide)) (o_nil (n_then (c_block (c_seq (c_region (o_bin (v := U8 0) rfl rfl rfl (r_eql_u8) (o_assign rfl rfl ?_))))))))))
      refine o_nil (n_then ?_)
      refine c_if rfl (fun h37 => ?_) (fun h37 => ?_)
      · refine c_seq ?_
        rcases hU : rdU d with _ | ⟨n, t⟩
        · refine c_region (o_move rfl rfl (o_call call_Uint rfl rfl ((WU_no (st := some d) rr hU)) ?_))
          rintro v41 w41 ⟨x41, rfl, r1⟩
          have x41 := ((x17.trans x26)).of_new x41 hg
          refine o_move rfl rfl (o_extract rfl rfl (r_ext0) (o_extract rfl rfl (r_ext1) (o_assign rfl rfl (o_assign rfl rfl (o_nil (n_then (c_region (o_move rfl rfl (o_call call_AppendUint rfl rfl (AppendUint_spec (Bts.nil _) (by simp)) ?_)))))))))
          rintro v45 w45 ⟨x45, o45⟩
          refine o_move rfl rfl (o_assign rfl rfl (o_assign rfl rfl (o_nil (n_block ?_))))
          exact n_meet (v45, 5) ⟨rfl, rfl, rfl, rfl, trivial⟩ ⟨(x41.trans x45), Or.inl ⟨rfl, r1.ext x45⟩⟩
        · refine c_region (o_move rfl rfl (o_call call_Uint rfl rfl ((WU_ok (st := some d) rr hU)) ?_))
          rintro v41 w41 ⟨x41, rfl, r1⟩
          have x41 := ((x17.trans x26)).of_new x41 hg
          refine o_move rfl rfl (o_extract rfl rfl (r_ext0) (o_extract rfl rfl (r_ext1) (o_assign rfl rfl (o_assign rfl rfl (o_nil (n_then (c_region (o_move rfl rfl (o_call call_AppendUint rfl rfl (AppendUint_spec (Bts.nil _) (by simp)) ?_)))))))))
          rintro v45 w45 ⟨x45, o45⟩
          refine o_move rfl rfl (o_assign rfl rfl (o_assign rfl rfl (o_nil (n_block ?_))))
          exact n_meet (v45, 0) ⟨rfl, rfl, rfl, rfl, trivial⟩ ⟨(x41.trans x45), Or.inr ⟨rfl, uv n, t, (rdU_inv hU).1, by have := o45.bts; rw [List.nil_append, UInt64.toNat_ofNat_of_lt' (rdU_inv hU).2] at this; exact this, r1.ext x45⟩⟩
      · refine c_seq (c_region (o_bin (v := U8 1) rfl rfl rfl (r_eql_u8) (o_assign rfl rfl (o_nil (n_then ?_)))))
        refine c_if rfl (fun h47 => ?_) (fun h47 => ?_)
        · refine c_seq ?_
          rcases hU : rdU d with _ | ⟨n, t⟩
          · refine c_region (o_move rfl rfl (o_call call_RInt rfl rfl ((WI_no (st := some d) rr hU)) ?_))
            rintro v51 w51 ⟨x51, rfl, r1⟩
            have x51 := ((x17.trans x26)).of_new x51 hg
            refine o_move rfl rfl (o_extract rfl rfl (r_ext0) (o_extract rfl rfl (r_ext1) (o_assign rfl rfl (o_assign rfl rfl (o_nil (n_then (c_region (o_move rfl rfl (o_call call_AppendInt rfl rfl (AppendInt_spec (Bts.nil _) (by simp) (by decide) (by decide)) ?_)))))))))
            rintro v55 w55 ⟨x55, o55⟩
            refine o_move rfl rfl (o_assign rfl rfl (o_assign rfl rfl (o_nil (n_block ?_))))
            exact n_meet (v55, 5) ⟨rfl, rfl, rfl, rfl, trivial⟩ ⟨(x51.trans x55), Or.inl ⟨rfl, r1.ext x55⟩⟩
          · refine c_region (o_move rfl rfl (o_call call_RInt rfl rfl ((WI_ok (st := some d) rr hU)) ?_))
            rintro v51 w51 ⟨x51, rfl, r1⟩
            have x51 := ((x17.trans x26)).of_new x51 hg
            refine o_move rfl rfl (o_extract rfl rfl (r_ext0) (o_extract rfl rfl (r_ext1) (o_assign rfl rfl (o_assign rfl rfl (o_nil (n_then (c_region (o_move rfl rfl (o_call call_AppendInt rfl rfl (AppendInt_spec (Bts.nil _) (by simp) (uz_lo (rdU_inv hU).2) (uz_hi (rdU_inv hU).2)) ?_)))))))))
            rintro v55 w55 ⟨x55, o55⟩
            refine o_move rfl rfl (o_assign rfl rfl (o_assign rfl rfl (o_nil (n_block ?_))))
            exact n_meet (v55, 0) ⟨rfl, rfl, rfl, rfl, trivial⟩ ⟨(x51.trans x55), Or.inr ⟨rfl, uv n, t, (rdU_inv hU).1, by have := o55.bts; rw [List.nil_append, zig_uz] at this; exact this, r1.ext x55⟩⟩
        · refine c_seq (c_region (o_bin (v := U8 2) rfl rfl rfl (r_eql_u8) (o_assign rfl rfl (o_nil (n_then ?_)))))
          refine c_if rfl (fun h57 => ?_) (fun h57 => ?_)
          · refine c_seq ?_
            rcases hU : rdR d with _ | ⟨⟨b, n, m⟩, t⟩
            · refine c_region (o_move rfl rfl (o_call call_RRat rfl rfl ((WR_no (st := some d) rr hf hU)) ?_))
              rintro v61 w61 ⟨x61, v0, rfl, h0, r1⟩
              have x61 := ((x17.trans x26)).of_new x61 hg
              refine o_move rfl rfl (o_extract rfl rfl (r_ext0) (o_extract rfl rfl (r_ext1) ?_))
              obtain ⟨g12, w12, hr12, l12, x12, k12⟩ := r_allocR (w := w61)
              refine o_alloc rfl hr12 ?_
              obtain ⟨p1, q1, w5, hp1, hs1, e1, k1, n1, d1⟩ := k12.stR ⟨_, _, _, rfl⟩ ⟨_, _, _, rfl⟩ (h0.ext x12)
              refine o_store rfl rfl (hs1) ?_
              have x5 := x12.of_new e1 l12
              refine o_assign rfl rfl (o_nil (n_then (c_region (o_load rfl rfl (k1.ldR) (o_call call_AppendRat rfl rfl (AppendRat_spec (Bts.nil _) (RatV.mk n1 d1) (by simp)) ?_)))))
              rintro v65 w65 ⟨x65, o65⟩
              refine o_move rfl rfl (o_assign rfl rfl (o_assign rfl rfl (o_nil (n_block ?_))))
              exact n_meet (v65, 5) ⟨rfl, rfl, rfl, rfl, trivial⟩ ⟨((x61.trans x5).trans x65), Or.inl ⟨rfl, r1.ext (x5.trans x65)⟩⟩
            · refine c_region (o_move rfl rfl (o_call call_RRat rfl rfl ((WR_ok (st := some d) rr hf hU)) ?_))
              rintro v61 w61 ⟨x61, v0, rfl, h0, r1⟩
              have x61 := ((x17.trans x26)).of_new x61 hg
              refine o_move rfl rfl (o_extract rfl rfl (r_ext0) (o_extract rfl rfl (r_ext1) ?_))
              obtain ⟨g12, w12, hr12, l12, x12, k12⟩ := r_allocR (w := w61)
              refine o_alloc rfl hr12 ?_
              obtain ⟨p1, q1, w5, hp1, hs1, e1, k1, n1, d1⟩ := k12.stR ⟨_, _, _, rfl⟩ ⟨_, _, _, rfl⟩ (h0.ext x12)
              refine o_store rfl rfl (hs1) ?_
              have x5 := x12.of_new e1 l12
              refine o_assign rfl rfl (o_nil (n_then (c_region (o_load rfl rfl (k1.ldR) (o_call call_AppendRat rfl rfl (AppendRat_spec (Bts.nil _) (RatV.mk n1 d1) (by have := (rdR_inv hU).2.2; simp only [List.length_nil]; omega)) ?_)))))
              rintro v65 w65 ⟨x65, o65⟩
              refine o_move rfl rfl (o_assign rfl rfl (o_assign rfl rfl (o_nil (n_block ?_))))
              exact n_meet (v65, 0) ⟨rfl, rfl, rfl, rfl, trivial⟩ ⟨((x61.trans x5).trans x65), Or.inr ⟨rfl, encR b n m, t, (rdR_inv hU).1, by have := o65.bts; rw [List.nil_append] at this; exact this, r1.ext (x5.trans x65)⟩⟩
          · refine c_seq ?_
            rcases hU : rdB d with _ | ⟨a, t⟩
            · refine c_region (o_move rfl rfl (o_call call_Text rfl rfl ((WT_no (st := some d) rr hf hU)) ?_))
              rintro v31 w31 ⟨x31, rfl, r1⟩
              have x31 := ((x17.trans x26)).of_new x31 hg
              refine o_move rfl rfl (o_extract rfl rfl (r_ext0) (o_extract rfl rfl (r_ext1) (o_assign rfl rfl (o_assign rfl rfl (o_nil (n_then (c_region (o_move rfl rfl (o_call call_AppendText rfl rfl (AppendText_spec (Bts.nil _) (by simp)) ?_)))))))))
              rintro v35 w35 ⟨x35, o35⟩
              refine o_move rfl rfl (o_assign rfl rfl (o_assign rfl rfl (o_nil (n_block ?_))))
              exact n_meet (v35, 5) ⟨rfl, rfl, rfl, rfl, trivial⟩ ⟨(x31.trans x35), Or.inl ⟨rfl, r1.ext x35⟩⟩
            · refine c_region (o_move rfl rfl (o_call call_Text rfl rfl ((WT_ok (st := some d) rr hf hU)) ?_))
              rintro v31 w31 ⟨x31, rfl, r1⟩
              have x31 := ((x17.trans x26)).of_new x31 hg
              refine o_move rfl rfl (o_extract rfl rfl (r_ext0) (o_extract rfl rfl (r_ext1) (o_assign rfl rfl (o_assign rfl rfl (o_nil (n_then (c_region (o_move rfl rfl (o_call call_AppendText rfl rfl (AppendText_spec (Bts.nil _) (by have := rdB_len hU; simp only [List.length_nil]; omega)) ?_)))))))))
              rintro v35 w35 ⟨x35, o35⟩
              refine o_move rfl rfl (o_assign rfl rfl (o_assign rfl rfl (o_nil (n_block ?_))))
              exact n_meet (v35, 0) ⟨rfl, rfl, rfl, rfl, trivial⟩ ⟨(x31.trans x35), Or.inr ⟨rfl, encB a, t, rdB_inv hU, by have := o35.bts; rw [List.nil_append] at this; exact this, r1.ext x35⟩⟩
    rintro ⟨x, e⟩ w9 ⟨e9, h9⟩
    refine n_then (c_seq (c_seq ?_))
    rcases h9 with ⟨rfl, r9⟩ | ⟨rfl, a, t, hat, ba, r9⟩
    · refine c_region (o_move rfl rfl (o_bin rfl rfl rfl (dec_t (show (5 : Int) ≠ 0 by decide) r_neq_i) (o_nil (n_then (c_yes rfl (c_seq (c_region (o_move rfl rfl (o_bin rfl rfl rfl (dec_t rfl r_eql_i) ?_)))))))))
      refine o_move rfl rfl (g_yes rfl (o_move rfl rfl (g_yes rfl (o_call call_Left rfl rfl (Left_s r9) ?_))))
      rintro v73 _ ⟨rfl, rfl⟩
      refine g_yes rfl (o_bin rfl rfl rfl (dec_t rfl r_eql_i) (o_pick_t rfl rfl rfl (o_move rfl rfl (g_yes rfl (o_move rfl rfl (g_yes rfl (o_call call_Done rfl rfl (Done_s r9) ?_)))))))
      rintro v78 _ ⟨rfl, rfl⟩
      refine g_yes rfl (o_bin rfl rfl rfl (dec_t rfl r_eql_i) (o_pick_t rfl rfl rfl (o_assign rfl rfl (o_nil (n_then (c_ret (r_then (r_body1 rfl rfl ?_))))))))
      exact ⟨_, rfl, rfl, e9⟩
    · have hal : d.length = a.length + t.length := by rw [hat, List.length_append]
      refine c_region (o_move rfl rfl (o_bin rfl rfl rfl (dec_f (show ¬ (0 : Int) ≠ 0 by decide) r_neq_i) (o_nil (n_then (c_no rfl (c_skip (n_then (c_seq (c_region (o_move rfl rfl (o_len rfl rfl (r_lenB (hd.ext e9)) ?_)))))))))))
      refine o_move rfl rfl (o_call call_Left rfl rfl ((show Calls _ _ _ _ (Ret fun r w' => w9 = w' ∧ r = I ((t.length : Nat) : Int)) from Left_s r9)) ?_)
      rintro v84 _ ⟨rfl, rfl⟩
      refine o_bin (r := I ((a.length : Nat) : Int)) rfl rfl rfl (by have e : ((a.length : Nat) : Int) = (d.length : Int) - ((t.length : Nat) : Int) := (by omega); rw [e]; exact r_sub_i (by omega) (by omega)) ?_
      refine o_assign rfl rfl (o_nil (n_then (c_seq (c_grow 17 [102] (by kernel_rfl) (by kernel_rfl) ?_))))
      refine f_move rfl rfl (f_bin rfl rfl rfl (fun w _ => dec_t (by omega) r_geq_i) (f_move rfl rfl (f_yes rfl rfl (f_move rfl rfl (f_yes rfl rfl (f_move rfl rfl (f_yes rfl rfl (f_len (vs := [v]) rfl rfl (fun w hw => r_lenB ((hd.ext e9).ext hw)) ?_))))))))
      refine f_yes rfl rfl (f_bin rfl rfl rfl (fun w _ => dec_t (by omega) r_leq_i) (f_pick_t rfl rfl rfl (f_move rfl rfl (f_yes rfl rfl (f_move rfl rfl (f_yes rfl rfl (f_conv rfl rfl (fun w hw => r_str (ba.ext hw)) ?_)))))))
      refine f_yes rfl rfl (f_move rfl rfl (f_yes rfl rfl (f_move rfl rfl (f_yes rfl rfl ?_))))
      obtain ⟨v99, p99, b99⟩ := r_slB_hi (hd.ext e9) (hi := a.length) (by omega) .i64
      refine f_slice rfl rfl rfl rfl (fun w _ => p99 w) (f_yes rfl rfl (f_conv rfl rfl (fun w hw => r_str (b99.ext hw)) (f_yes rfl rfl (f_bin rfl rfl rfl (fun w _ => dec_t (by rw [hat]; simp) r_eql_s) ?_))))
      refine f_pick_t rfl rfl rfl (f_nil ?_)
      intro wg21 xg21
      rintro _ rfl
      refine o_assign rfl rfl (o_nil (n_then (c_ret (r_body1 rfl rfl ?_))))
      exact ⟨_, rfl, rfl, (e9.trans xg21)⟩
end Go.Rl


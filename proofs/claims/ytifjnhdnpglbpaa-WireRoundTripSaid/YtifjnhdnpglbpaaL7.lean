/- The statement WireNil: a reader that is nil answers as one that has failed. No condition. -/
import Derived.Test.YtifjnhdnpglbpaaL6
namespace Go.Rl
open Go.RowKit Go.Proofs
theorem WU_nil {w : World} :
    Calls Try.prog 26 #[.pointer none] w (Ret fun r w' => w = w' ∧ r = .tuple #[U64 0, I 5]) := by
  refine enter (vs := [.pointer none]) Try.func26 rfl rfl rfl ?_
  refine c_seq (c_region (o_assign rfl rfl (o_assign rfl rfl (o_nil (n_then (c_seq (c_seq (c_region (o_move rfl rfl (o_bin rfl rfl rfl (r_eqnilp Try.underlying43) (o_nil ?_)))))))))))
  refine n_then (c_yes rfl (c_seq (c_region (o_assign rfl rfl (o_assign rfl rfl (o_nil (n_then (c_ret (r_then (r_body2 rfl rfl rfl ?_))))))))))
  exact ⟨_, rfl, rfl, rfl⟩
theorem WN_nil {w : World} :
    Calls Try.prog 28 #[.pointer none] w (Ret fun r w' => w = w' ∧ r = .tuple #[.slice none 0 0, I 5]) := by
  refine enter (vs := [.pointer none]) Try.func28 rfl rfl rfl ?_
  refine c_seq (c_region (o_assign rfl rfl (o_assign rfl rfl (o_nil (n_then (c_seq (c_seq (c_region (o_move rfl rfl (o_bin rfl rfl rfl (r_eqnilp Try.underlying43) (o_nil ?_)))))))))))
  refine n_then (c_yes rfl (c_seq (c_region (o_assign rfl rfl (o_assign rfl rfl (o_nil (n_then (c_ret (r_then (r_body2 rfl rfl rfl ?_))))))))))
  exact ⟨_, rfl, rfl, rfl⟩
theorem WB_nil {w : World} :
    Calls Try.prog 61 #[.pointer none] w (Ret fun r w' => w = w' ∧ r = .tuple #[.slice none 0 0, I 5]) := by
  refine enter (vs := [.pointer none]) Try.func61 rfl rfl rfl ?_
  refine c_seq (c_region (o_assign rfl rfl (o_assign rfl rfl (o_nil (n_then (c_seq (c_seq (c_region (o_move rfl rfl (o_bin rfl rfl rfl (r_eqnilp Try.underlying43) (o_nil ?_)))))))))))
  refine n_then (c_yes rfl (c_seq (c_region (o_assign rfl rfl (o_assign rfl rfl (o_nil (n_then (c_ret (r_then (r_body2 rfl rfl rfl ?_))))))))))
  exact ⟨_, rfl, rfl, rfl⟩
theorem WL_nil {w : World} :
    Calls Try.prog 31 #[.pointer none] w (Ret fun r w' => w = w' ∧ r = I 0) := by
  refine enter (vs := [.pointer none]) Try.func31 rfl rfl rfl ?_
  refine c_seq (c_region (o_assign rfl rfl (o_nil (n_then (c_seq (c_seq (c_region (o_move rfl rfl (o_bin rfl rfl rfl (r_eqnilp Try.underlying43) (o_nil (n_then (c_yes rfl ?_))))))))))))
  refine c_seq (c_region (o_assign rfl rfl (o_nil (n_then (c_ret (r_then (r_body1 rfl rfl ?_)))))))
  exact ⟨_, rfl, rfl, rfl⟩
theorem WD_nil {w : World} :
    Calls Try.prog 35 #[.pointer none] w (Ret fun r w' => w = w' ∧ r = I 0) := by
  refine enter (vs := [.pointer none]) Try.func35 rfl rfl rfl ?_
  refine c_seq (c_region (o_assign rfl rfl (o_nil (n_then (c_seq (c_seq (c_region (o_move rfl rfl (o_bin rfl rfl rfl (r_nenilp Try.underlying43) (o_move rfl rfl (g_no rfl rfl rfl ?_)))))))))))
  refine g_no rfl rfl rfl (g_no rfl rfl rfl (g_no rfl rfl rfl (g_no rfl rfl rfl (g_undef rfl rfl rfl (g_undef rfl rfl rfl (g_undef rfl rfl rfl (g_undef rfl rfl rfl (g_undef rfl rfl rfl ?_))))))))
  refine g_undef rfl rfl rfl (g_no rfl rfl rfl (o_pick_f rfl rfl rfl (o_nil (n_then (c_no rfl (c_skip (n_then (c_seq (c_region (o_assign rfl rfl (o_nil (n_then (c_ret (r_body1 rfl rfl ?_))))))))))))))
  exact ⟨_, rfl, rfl, rfl⟩
theorem WI_nil {w : World} :
    Calls Try.prog 27 #[.pointer none] w (Ret fun r w' => w = w' ∧ r = .tuple #[I 0, I 5]) := by
  refine enter (vs := [.pointer none]) Try.func27 rfl rfl rfl ?_
  refine c_seq (c_region (o_assign rfl rfl (o_assign rfl rfl (o_nil (n_then (c_seq (c_region (o_move rfl rfl (o_call call_Uint rfl rfl (WU_nil) ?_)))))))))
  rintro v8 _ ⟨rfl, rfl⟩
  refine o_move rfl rfl (o_extract rfl rfl (r_ext0) (o_extract rfl rfl (r_ext1) (o_assign rfl rfl (o_assign rfl rfl (o_nil (n_then (c_seq (c_seq (c_region (o_move rfl rfl (o_bin rfl rfl rfl (dec_t (by decide) r_neq_i) ?_)))))))))))
  refine o_nil (n_then (c_yes rfl (c_seq (c_region (o_move rfl rfl (o_assign rfl rfl (o_assign rfl rfl (o_nil (n_then (c_ret (r_then (r_body2 rfl rfl rfl ?_))))))))))))
  exact ⟨_, rfl, rfl, rfl⟩
theorem WT_nil {w : World} :
    Calls Try.prog 37 #[.pointer none] w (Ret fun r w' => w = w' ∧ r = .tuple #[S [], I 5]) := by
  refine enter (vs := [.pointer none]) Try.func37 rfl rfl rfl ?_
  refine c_seq (c_region (o_assign rfl rfl (o_assign rfl rfl (o_nil (n_then (c_seq (c_region (o_move rfl rfl (o_call call_Bytes rfl rfl (WB_nil) ?_)))))))))
  rintro v8 _ ⟨rfl, rfl⟩
  refine o_move rfl rfl (o_extract rfl rfl (r_ext0) (o_extract rfl rfl (r_ext1) (o_assign rfl rfl (o_assign rfl rfl (o_nil (n_then (c_seq (c_region (o_move rfl rfl (o_conv rfl rfl (r_str (Bts.nil _)) ?_))))))))))
  refine o_move rfl rfl (o_assign rfl rfl (o_assign rfl rfl (o_nil (n_then (c_ret (r_body2 rfl rfl rfl ?_))))))
  exact ⟨_, rfl, rfl, rfl⟩
theorem WR_nil {w : World} :
    Calls Try.prog 29 #[.pointer none] w (Ret fun r w' => Ext w w' ∧ ∃ v, r = .tuple #[v, I 5] ∧ RatV false [] [] v w') := by
  refine enter (vs := [.pointer none]) Try.func29 rfl rfl rfl ?_
  refine c_seq (c_region ?_)
  obtain ⟨g2, w2, hr2, l2, x2, k2⟩ := r_allocR (w := w)
  refine o_alloc rfl hr2 (o_assign rfl rfl (o_nil (n_then (c_seq (c_seq (c_region (o_move rfl rfl (o_bin rfl rfl rfl (r_eqnilp Try.underlying43) (o_nil (n_then (c_yes rfl ?_)))))))))))
  refine c_seq (c_region ?_)
  refine o_build (vs := []) rfl rfl r_buildR0 ?_
  obtain ⟨p, q, w3, hp, hs3, q3, k3, n3, d3⟩ := k2.stR ⟨_, _, _, rfl⟩ ⟨_, _, _, rfl⟩ (RatV.mk (b := false) (Wds.nil _) (Wds.nil _))
  refine o_store rfl rfl (hs3) (o_assign rfl rfl (o_nil (n_then (c_ret (r_then ?_)))))
  refine r_bodyc2 rfl rfl rfl k3 Try.underlying35 rfl size_Rat ?_
  exact ⟨_, rfl, x2.of_new q3 l2, _, rfl, p, q, rfl, n3, d3⟩
theorem wstep_nil {w : World} {g' : Nat} {k : UInt8} (hf : RfAt g' (some []) w) :
    Calls Try.prog 33 #[.pointer none, .pointer (some ⟨g', 0, none⟩), U8 k] w (Ret fun r w' => r = B true ∧ (∀ w0, Ext w0 w → w0.heap.size ≤ g' → Ext w0 w')) := by
  refine enter (vs := [.pointer none, .pointer (some ⟨g', 0, none⟩), U8 k]) Try.func33 rfl rfl rfl ?_
  have hgl' := RfAt.lt hf
  have hl : Few (some []) := fun l e => by cases e; simp
  refine c_seq (c_region (o_assign rfl rfl (o_nil (n_then (c_seq (c_seq (c_region (o_move rfl rfl (o_bin (v := U8 6) rfl rfl rfl (r_rem_u8 (by decide)) (o_nil (n_then (c_block (c_seq (c_region ?_))))))))))))))
  refine o_bin (v := U8 0) rfl rfl rfl (r_eql_u8) (o_assign rfl rfl (o_nil (n_then ?_)))
  refine c_if rfl (fun h33 => ?_) (fun h33 => ?_)
  · refine c_seq (c_region (o_move rfl rfl (o_call call_Uint rfl rfl (WU_nil) ?_)))
    rintro v37 _ ⟨rfl, rfl⟩
    refine o_move rfl rfl (o_extract rfl rfl (r_ext0) (o_extract rfl rfl (r_ext1) (o_assign rfl rfl (o_assign rfl rfl (o_nil (n_then (c_seq (c_region (o_move rfl rfl (o_call call_FUint rfl rfl ((FU_no hf rfl)) ?_))))))))))
    rintro v42 w42 ⟨x42, rfl, f2⟩
    have m42 := RdT.kp hf x42
    refine o_move rfl rfl (o_extract rfl rfl (r_ext0) (o_extract rfl rfl (r_ext1) (o_assign rfl rfl (o_assign rfl rfl (o_nil (n_then (c_seq (c_region (o_move rfl rfl (o_move rfl rfl (o_bin rfl rfl rfl (dec_t rfl r_eql_u64) ?_)))))))))))
    refine o_move rfl rfl (g_yes rfl (o_move rfl rfl (g_yes rfl (o_move rfl rfl (g_yes rfl (o_bin rfl rfl rfl (dec_t rfl r_eql_i) (o_pick_t rfl rfl rfl (o_assign rfl rfl (o_nil (n_then ?_))))))))))
    refine c_ret (r_block (r_then (r_body1 rfl rfl ?_)))
    exact ⟨_, rfl, rfl, fun w0 hx h2 => hx.of_new x42 h2⟩
  · refine c_seq (c_region (o_bin (v := U8 1) rfl rfl rfl (r_eql_u8) (o_assign rfl rfl (o_nil (n_then ?_)))))
    refine c_if rfl (fun h53 => ?_) (fun h53 => ?_)
    · refine c_seq (c_region (o_move rfl rfl (o_call call_RInt rfl rfl (WI_nil) ?_)))
      rintro v57 _ ⟨rfl, rfl⟩
      refine o_move rfl rfl (o_extract rfl rfl (r_ext0) (o_extract rfl rfl (r_ext1) (o_assign rfl rfl (o_assign rfl rfl (o_nil (n_then (c_seq (c_region (o_move rfl rfl (o_call call_FInt rfl rfl ((FI_no hf rfl)) ?_))))))))))
      rintro v62 w62 ⟨x62, rfl, f2⟩
      have m62 := RdT.kp hf x62
      refine o_move rfl rfl (o_extract rfl rfl (r_ext0) (o_extract rfl rfl (r_ext1) (o_assign rfl rfl (o_assign rfl rfl (o_nil (n_then (c_seq (c_region (o_move rfl rfl (o_move rfl rfl (o_bin rfl rfl rfl (dec_t rfl r_eql_i) ?_)))))))))))
      refine o_move rfl rfl (g_yes rfl (o_move rfl rfl (g_yes rfl (o_move rfl rfl (g_yes rfl (o_bin rfl rfl rfl (dec_t rfl r_eql_i) (o_pick_t rfl rfl rfl (o_assign rfl rfl (o_nil (n_then ?_))))))))))
      refine c_ret (r_block (r_then (r_body1 rfl rfl ?_)))
      exact ⟨_, rfl, rfl, fun w0 hx h2 => hx.of_new x62 h2⟩
    · refine c_seq (c_region (o_bin (v := U8 2) rfl rfl rfl (r_eql_u8) (o_assign rfl rfl (o_nil (n_then ?_)))))
      refine c_if rfl (fun h73 => ?_) (fun h73 => ?_)
      · refine c_seq (c_region (o_move rfl rfl (o_call call_RNat rfl rfl (WN_nil) ?_)))
        rintro v77 _ ⟨rfl, rfl⟩
        refine o_move rfl rfl (o_extract rfl rfl (r_ext0) (o_extract rfl rfl (r_ext1) (o_assign rfl rfl (o_assign rfl rfl (o_nil (n_then (c_seq (c_region (o_move rfl rfl (o_call call_FNat rfl rfl ((FN_no hf hl rfl)) ?_))))))))))
        rintro v82 w82 ⟨x82, rfl, f2⟩
        have m82 := RdT.kp hf x82
        refine o_move rfl rfl (o_extract rfl rfl (r_ext0) (o_extract rfl rfl (r_ext1) (o_assign rfl rfl (o_assign rfl rfl (o_nil (n_then (c_seq (c_region (o_move rfl rfl (o_move rfl rfl (o_bin rfl rfl rfl (dec_t rfl r_eql_i) ?_)))))))))))
        refine o_move rfl rfl (g_yes rfl (o_move rfl rfl (g_yes rfl ?_)))
        refine o_build (vs := [(1, .slice none 0 0)]) rfl rfl (r_build1N ⟨_, _, _, rfl⟩) ?_
        refine g_yes rfl (o_move rfl rfl (g_yes rfl ?_))
        refine o_build (vs := [(1, .slice none 0 0)]) rfl rfl (r_build1N ⟨_, _, _, rfl⟩) ?_
        refine g_yes rfl (o_call call_SSame rfl rfl ((SSame_refl (RatV.mk (b := false) (Wds.nil _) (Wds.nil _)) (RatV.mk (b := false) (Wds.nil _) (Wds.nil _)))) ?_)
        rintro v93 w93 ⟨x93, rfl⟩
        refine o_pick_t rfl rfl rfl (o_assign rfl rfl (o_nil (n_then (c_ret (r_block (r_then (r_body1 rfl rfl ?_)))))))
        exact ⟨_, rfl, rfl, fun w0 hx h2 => (hx.of_new x82 h2).trans x93⟩
      · refine c_seq (c_region (o_bin (v := U8 3) rfl rfl rfl (r_eql_u8) (o_assign rfl rfl (o_nil (n_then ?_)))))
        refine c_if rfl (fun h95 => ?_) (fun h95 => ?_)
        · refine c_seq (c_region (o_move rfl rfl (o_call call_RRat rfl rfl (WR_nil) ?_)))
          rintro v99 w99 ⟨x99, v0, rfl, h0⟩
          refine o_move rfl rfl (o_extract rfl rfl (r_ext0) (o_extract rfl rfl (r_ext1) ?_))
          obtain ⟨g19, w19, hr19, l19, x19, k19⟩ := r_allocR (w := w99)
          refine o_alloc rfl hr19 ?_
          obtain ⟨p1, q1, w5, hp1, hs1, e1, k1, n1, d1⟩ := k19.stR ⟨_, _, _, rfl⟩ ⟨_, _, _, rfl⟩ (h0.ext x19)
          refine o_store rfl rfl (hs1) ?_
          have x5 := x19.of_new e1 l19
          have f1 := RfAt.ext hf (x99.trans x5)
          have hg19 : some g19 ≠ some g' := fun e => by have := Option.some.inj e; have := x99.size; omega
          refine o_assign rfl rfl (o_nil (n_then (c_seq (c_region (o_move rfl rfl (o_call call_FRat rfl rfl ((FR_no f1 hl rfl)) ?_))))))
          rintro v104 w104 ⟨x104, u0, rfl, j0, f2⟩
          have m104 := RdT.kp f1 x104
          have k1 := k1.other x104 hg19
          have n1 := n1.kp m104
          have d1 := d1.kp m104
          refine o_move rfl rfl (o_extract rfl rfl (r_ext0) (o_extract rfl rfl (r_ext1) ?_))
          obtain ⟨g21, w21, hr21, l21, x21, k21⟩ := r_allocR (w := w104)
          refine o_alloc rfl hr21 ?_
          obtain ⟨p2, q2, w6, hp2, hs2, e2, k2, n2, d2⟩ := k21.stR ⟨_, _, _, rfl⟩ ⟨_, _, _, rfl⟩ (j0.ext x21)
          refine o_store rfl rfl (hs2) ?_
          have x6 := x21.of_new e2 l21
          refine o_assign rfl rfl (o_nil (n_then (c_seq (c_region (o_move rfl rfl (o_move rfl rfl (o_bin rfl rfl rfl (dec_t rfl r_eql_i) (o_move rfl rfl (g_yes rfl (o_load rfl rfl ((k1.ext x6).ldR) ?_))))))))))
          refine g_yes rfl (o_load rfl rfl (k2.ldR) (g_yes rfl (o_call call_SSame rfl rfl ((SSame_refl ((RatV.mk n1 d1).ext x6) (RatV.mk n2 d2))) ?_)))
          rintro v113 w113 ⟨x113, rfl⟩
          refine o_pick_t rfl rfl rfl (o_assign rfl rfl (o_nil (n_then (c_ret (r_block (r_then (r_body1 rfl rfl ?_)))))))
          exact ⟨_, rfl, rfl, fun w0 hx h2 => ((hx.trans (x99.trans x5)).of_new x104 h2).trans (x6.trans x113)⟩
        · refine c_seq (c_region (o_bin (v := U8 4) rfl rfl rfl (r_eql_u8) (o_assign rfl rfl (o_nil (n_then ?_)))))
          refine c_if rfl (fun h115 => ?_) (fun h115 => ?_)
          · refine c_seq (c_region (o_move rfl rfl (o_call call_Bytes rfl rfl (WB_nil) ?_)))
            rintro v119 _ ⟨rfl, rfl⟩
            refine o_move rfl rfl (o_extract rfl rfl (r_ext0) (o_extract rfl rfl (r_ext1) (o_assign rfl rfl (o_assign rfl rfl (o_nil (n_then (c_seq (c_region (o_move rfl rfl (o_call call_FBytes rfl rfl ((FB_no hf hl rfl)) ?_))))))))))
            rintro v124 w124 ⟨x124, rfl, f2⟩
            have m124 := RdT.kp hf x124
            refine o_move rfl rfl (o_extract rfl rfl (r_ext0) (o_extract rfl rfl (r_ext1) (o_assign rfl rfl (o_assign rfl rfl (o_nil (n_then (c_seq (c_region (o_move rfl rfl (o_move rfl rfl (o_bin rfl rfl rfl (dec_t rfl r_eql_i) ?_)))))))))))
            refine o_move rfl rfl (g_yes rfl (o_move rfl rfl (g_yes rfl (o_conv rfl rfl (r_str (Bts.nil _)) (g_yes rfl (o_move rfl rfl (g_yes rfl (o_conv rfl rfl (r_str (Bts.nil _)) (g_yes rfl ?_)))))))))
            refine o_bin rfl rfl rfl (dec_t rfl r_eql_s) (o_pick_t rfl rfl rfl (o_assign rfl rfl (o_nil (n_then (c_ret (r_block (r_then (r_body1 rfl rfl ?_))))))))
            exact ⟨_, rfl, rfl, fun w0 hx h2 => hx.of_new x124 h2⟩
          · refine c_skip (n_block (n_then (c_seq (c_region (o_move rfl rfl (o_call call_Text rfl rfl (WT_nil) ?_))))))
            rintro v139 _ ⟨rfl, rfl⟩
            refine o_move rfl rfl (o_extract rfl rfl (r_ext0) (o_extract rfl rfl (r_ext1) (o_assign rfl rfl (o_assign rfl rfl (o_nil (n_then (c_seq (c_region (o_move rfl rfl (o_call call_FText rfl rfl ((FT_no hf hl rfl)) ?_))))))))))
            rintro v144 w144 ⟨x144, rfl, f2⟩
            have m144 := RdT.kp hf x144
            refine o_move rfl rfl (o_extract rfl rfl (r_ext0) (o_extract rfl rfl (r_ext1) (o_assign rfl rfl (o_assign rfl rfl (o_nil (n_then (c_seq (c_region (o_move rfl rfl (o_move rfl rfl (o_bin rfl rfl rfl (dec_t rfl r_eql_i) ?_)))))))))))
            refine o_move rfl rfl (g_yes rfl (o_move rfl rfl (g_yes rfl (o_move rfl rfl (g_yes rfl (o_bin rfl rfl rfl (dec_t rfl r_eql_s) (o_pick_t rfl rfl rfl (o_assign rfl rfl (o_nil (n_then ?_))))))))))
            refine c_ret (r_body1 rfl rfl ?_)
            exact ⟨_, rfl, rfl, fun w0 hx h2 => hx.of_new x144 h2⟩
theorem WireNil_walk {w : World} {k : UInt8} :
    Calls Try.prog 13 #[U8 k] w (Ret fun r w' => r = B true ∧ Ext w w') := by
  refine enter (vs := [U8 k]) Try.func13 rfl rfl rfl ?_
  refine c_seq (c_region (o_assign rfl rfl (o_nil (n_then (c_seq (c_seq (c_region (o_call call_awake rfl rfl (awake_spec _) ?_))))))))
  rintro v5 w5 ⟨rfl, x5⟩
  refine o_not rfl rfl r_not (o_nil (n_then (c_no rfl (c_skip (n_then (c_seq (c_region (o_assign rfl rfl (o_nil (n_then (c_seq (c_region (o_move rfl rfl (o_call call_Left rfl rfl (WL_nil) ?_))))))))))))))
  rintro v8 _ ⟨rfl, rfl⟩
  refine o_bin rfl rfl rfl (dec_t rfl r_eql_i) (o_move rfl rfl (g_yes rfl (o_move rfl rfl (g_yes rfl (o_call call_Done rfl rfl (WD_nil) ?_)))))
  rintro v12 _ ⟨rfl, rfl⟩
  refine g_yes rfl (o_bin rfl rfl rfl (dec_t rfl r_eql_i) (o_pick_t rfl rfl rfl (o_assign rfl rfl (o_nil (n_then (c_seq (c_region (o_move rfl rfl (o_move rfl rfl (g_yes rfl (o_move rfl rfl ?_)))))))))))
  refine g_yes rfl (o_call call_FNew rfl rfl ((FNew_spec (Bts.nil _) (by simp))) ?_)
  rintro v18 w18 ⟨x18, g', lg', rfl, hf⟩
  refine g_yes rfl (o_move rfl rfl (g_yes rfl (o_call call_wstep rfl rfl ((wstep_nil hf)) ?_)))
  rintro v20 w20 ⟨rfl, E20⟩
  have x20 := E20 w ((x5.trans x18)) (Nat.le_trans x5.size lg')
  refine o_pick_t rfl rfl rfl (o_move rfl rfl (g_yes rfl (o_move rfl rfl (g_yes rfl (o_call call_Done rfl rfl (WD_nil) ?_)))))
  rintro v24 _ ⟨rfl, rfl⟩
  refine g_yes rfl (o_bin rfl rfl rfl (dec_t rfl r_eql_i) (o_pick_t rfl rfl rfl (o_assign rfl rfl (o_nil (n_then (c_ret (r_body1 rfl rfl ?_)))))))
  exact ⟨_, rfl, rfl, x20⟩
end Go.Rl


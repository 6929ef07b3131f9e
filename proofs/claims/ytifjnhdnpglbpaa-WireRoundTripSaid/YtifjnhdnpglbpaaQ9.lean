/- A step of two readers at once: the walk. Conditions: the bytes are not more than 2^39. -/
import Derived.Test.YtifjnhdnpglbpaaQ8
namespace Go.Rl
open Go.RowKit Go.Proofs
theorem wstep_spec {w : World} {g g' : Nat} {st : Option (List UInt8)} {k : UInt8} (hr : RdAt g st w) (hf : RfAt g' st w) (hne : g ≠ g') (hl : Few st) :
    Calls Try.prog 33 #[.pointer (some ⟨g, 0, none⟩), .pointer (some ⟨g', 0, none⟩), U8 k] w (Ret fun r w' => r = B true ∧ Kp w w' ∧ (∀ w0, Ext w0 w → w0.heap.size ≤ g → w0.heap.size ≤ g' → Ext w0 w') ∧ ∃ st', RdAt g st' w' ∧ RfAt g' st' w' ∧ Few st') := by
  refine enter (vs := [.pointer (some ⟨g, 0, none⟩), .pointer (some ⟨g', 0, none⟩), U8 k]) Try.func33 rfl rfl rfl ?_
  have hne' := hne.symm
  have hgl := hr.lt
  have hgl' := RfAt.lt hf
  refine c_seq (c_region (o_assign rfl rfl (o_nil (n_then (c_seq (c_seq (c_region (o_move rfl rfl (o_bin (v := U8 6) rfl rfl rfl (r_rem_u8 (by decide)) (o_nil (n_then (c_block (c_seq (c_region ?_))))))))))))))
  refine o_bin (v := U8 0) rfl rfl rfl (r_eql_u8) (o_assign rfl rfl (o_nil (n_then ?_)))
  refine c_if rfl (fun h33 => ?_) (fun h33 => ?_)
  · refine c_seq ?_
    rcases hU : st.bind rdU with _ | ⟨n, t⟩
    · refine c_region (o_move rfl rfl (o_call call_Uint rfl rfl ((WU_no hr hU)) ?_))
      rintro v37 w37 ⟨x37, rfl, r1⟩
      have m37 := (hr.rdT).kp x37
      have f1 := RdT.other hf hr.rdT x37 hne'
      refine o_move rfl rfl (o_extract rfl rfl (r_ext0) (o_extract rfl rfl (r_ext1) (o_assign rfl rfl (o_assign rfl rfl (o_nil (n_then (c_seq (c_region (o_move rfl rfl (o_call call_FUint rfl rfl ((FU_no f1 hU)) ?_))))))))))
      rintro v42 w42 ⟨x42, rfl, f2⟩
      have m42 := RdT.kp f1 x42
      have r2 := (RdT.other r1.rdT f1 x42 hne).rdAt
      refine o_move rfl rfl (o_extract rfl rfl (r_ext0) (o_extract rfl rfl (r_ext1) (o_assign rfl rfl (o_assign rfl rfl (o_nil (n_then (c_seq (c_region (o_move rfl rfl (o_move rfl rfl (o_bin rfl rfl rfl (dec_t rfl r_eql_u64) ?_)))))))))))
      refine o_move rfl rfl (g_yes rfl (o_move rfl rfl (g_yes rfl (o_move rfl rfl (g_yes rfl (o_bin rfl rfl rfl (dec_t rfl r_eql_i) (o_pick_t rfl rfl rfl (o_assign rfl rfl (o_nil (n_then ?_))))))))))
      refine c_ret (r_block (r_then (r_body1 rfl rfl ?_)))
      exact ⟨_, rfl, rfl, m37.trans m42, fun w0 hx h1 h2 => ((hx.of_new x37 h1).of_new x42 h2), _, r2, f2, Few.none⟩
    · refine c_region (o_move rfl rfl (o_call call_Uint rfl rfl ((WU_ok hr hU)) ?_))
      rintro v37 w37 ⟨x37, rfl, r1⟩
      have m37 := (hr.rdT).kp x37
      have f1 := RdT.other hf hr.rdT x37 hne'
      refine o_move rfl rfl (o_extract rfl rfl (r_ext0) (o_extract rfl rfl (r_ext1) (o_assign rfl rfl (o_assign rfl rfl (o_nil (n_then (c_seq (c_region (o_move rfl rfl (o_call call_FUint rfl rfl ((FU_ok f1 hU)) ?_))))))))))
      rintro v42 w42 ⟨x42, rfl, f2⟩
      have m42 := RdT.kp f1 x42
      have r2 := (RdT.other r1.rdT f1 x42 hne).rdAt
      refine o_move rfl rfl (o_extract rfl rfl (r_ext0) (o_extract rfl rfl (r_ext1) (o_assign rfl rfl (o_assign rfl rfl (o_nil (n_then (c_seq (c_region (o_move rfl rfl (o_move rfl rfl (o_bin rfl rfl rfl (dec_t rfl r_eql_u64) ?_)))))))))))
      refine o_move rfl rfl (g_yes rfl (o_move rfl rfl (g_yes rfl (o_move rfl rfl (g_yes rfl (o_bin rfl rfl rfl (dec_t rfl r_eql_i) (o_pick_t rfl rfl rfl (o_assign rfl rfl (o_nil (n_then ?_))))))))))
      refine c_ret (r_block (r_then (r_body1 rfl rfl ?_)))
      exact ⟨_, rfl, rfl, m37.trans m42, fun w0 hx h1 h2 => ((hx.of_new x37 h1).of_new x42 h2), _, r2, f2, hl.u hU⟩
  · refine c_seq (c_region (o_bin (v := U8 1) rfl rfl rfl (r_eql_u8) (o_assign rfl rfl (o_nil (n_then ?_)))))
    refine c_if rfl (fun h53 => ?_) (fun h53 => ?_)
    · refine c_seq ?_
      rcases hU : st.bind rdU with _ | ⟨n, t⟩
      · refine c_region (o_move rfl rfl (o_call call_RInt rfl rfl ((WI_no hr hU)) ?_))
        rintro v57 w57 ⟨x57, rfl, r1⟩
        have m57 := (hr.rdT).kp x57
        have f1 := RdT.other hf hr.rdT x57 hne'
        refine o_move rfl rfl (o_extract rfl rfl (r_ext0) (o_extract rfl rfl (r_ext1) (o_assign rfl rfl (o_assign rfl rfl (o_nil (n_then (c_seq (c_region (o_move rfl rfl (o_call call_FInt rfl rfl ((FI_no f1 hU)) ?_))))))))))
        rintro v62 w62 ⟨x62, rfl, f2⟩
        have m62 := RdT.kp f1 x62
        have r2 := (RdT.other r1.rdT f1 x62 hne).rdAt
        refine o_move rfl rfl (o_extract rfl rfl (r_ext0) (o_extract rfl rfl (r_ext1) (o_assign rfl rfl (o_assign rfl rfl (o_nil (n_then (c_seq (c_region (o_move rfl rfl (o_move rfl rfl (o_bin rfl rfl rfl (dec_t rfl r_eql_i) ?_)))))))))))
        refine o_move rfl rfl (g_yes rfl (o_move rfl rfl (g_yes rfl (o_move rfl rfl (g_yes rfl (o_bin rfl rfl rfl (dec_t rfl r_eql_i) (o_pick_t rfl rfl rfl (o_assign rfl rfl (o_nil (n_then ?_))))))))))
        refine c_ret (r_block (r_then (r_body1 rfl rfl ?_)))
        exact ⟨_, rfl, rfl, m57.trans m62, fun w0 hx h1 h2 => ((hx.of_new x57 h1).of_new x62 h2), _, r2, f2, Few.none⟩
      · refine c_region (o_move rfl rfl (o_call call_RInt rfl rfl ((WI_ok hr hU)) ?_))
        rintro v57 w57 ⟨x57, rfl, r1⟩
        have m57 := (hr.rdT).kp x57
        have f1 := RdT.other hf hr.rdT x57 hne'
        refine o_move rfl rfl (o_extract rfl rfl (r_ext0) (o_extract rfl rfl (r_ext1) (o_assign rfl rfl (o_assign rfl rfl (o_nil (n_then (c_seq (c_region (o_move rfl rfl (o_call call_FInt rfl rfl ((FI_ok f1 hU)) ?_))))))))))
        rintro v62 w62 ⟨x62, rfl, f2⟩
        have m62 := RdT.kp f1 x62
        have r2 := (RdT.other r1.rdT f1 x62 hne).rdAt
        refine o_move rfl rfl (o_extract rfl rfl (r_ext0) (o_extract rfl rfl (r_ext1) (o_assign rfl rfl (o_assign rfl rfl (o_nil (n_then (c_seq (c_region (o_move rfl rfl (o_move rfl rfl (o_bin rfl rfl rfl (dec_t rfl r_eql_i) ?_)))))))))))
        refine o_move rfl rfl (g_yes rfl (o_move rfl rfl (g_yes rfl (o_move rfl rfl (g_yes rfl (o_bin rfl rfl rfl (dec_t rfl r_eql_i) (o_pick_t rfl rfl rfl (o_assign rfl rfl (o_nil (n_then ?_))))))))))
        refine c_ret (r_block (r_then (r_body1 rfl rfl ?_)))
        exact ⟨_, rfl, rfl, m57.trans m62, fun w0 hx h1 h2 => ((hx.of_new x57 h1).of_new x62 h2), _, r2, f2, hl.u hU⟩
    · refine c_seq (c_region (o_bin (v := U8 2) rfl rfl rfl (r_eql_u8) (o_assign rfl rfl (o_nil (n_then ?_)))))
      refine c_if rfl (fun h73 => ?_) (fun h73 => ?_)
      · refine c_seq ?_
        rcases hU : st.bind rdN with _ | ⟨m, t⟩
        · refine c_region (o_move rfl rfl (o_call call_RNat rfl rfl ((WN_no hr hl hU)) ?_))
          rintro v77 w77 ⟨x77, rfl, r1⟩
          have m77 := (hr.rdT).kp x77
          have f1 := RdT.other hf hr.rdT x77 hne'
          refine o_move rfl rfl (o_extract rfl rfl (r_ext0) (o_extract rfl rfl (r_ext1) (o_assign rfl rfl (o_assign rfl rfl (o_nil (n_then (c_seq (c_region (o_move rfl rfl (o_call call_FNat rfl rfl ((FN_no f1 hl hU)) ?_))))))))))
          rintro v82 w82 ⟨x82, rfl, f2⟩
          have m82 := RdT.kp f1 x82
          have r2 := (RdT.other r1.rdT f1 x82 hne).rdAt
          refine o_move rfl rfl (o_extract rfl rfl (r_ext0) (o_extract rfl rfl (r_ext1) (o_assign rfl rfl (o_assign rfl rfl (o_nil (n_then (c_seq (c_region (o_move rfl rfl (o_move rfl rfl (o_bin rfl rfl rfl (dec_t rfl r_eql_i) ?_)))))))))))
          refine o_move rfl rfl (g_yes rfl (o_move rfl rfl (g_yes rfl ?_)))
          refine o_build (vs := [(1, .slice none 0 0)]) rfl rfl (r_build1N ⟨_, _, _, rfl⟩) ?_
          refine g_yes rfl (o_move rfl rfl (g_yes rfl ?_))
          refine o_build (vs := [(1, .slice none 0 0)]) rfl rfl (r_build1N ⟨_, _, _, rfl⟩) ?_
          refine g_yes rfl (o_call call_SSame rfl rfl ((SSame_refl (RatV.mk (b := false) (Wds.nil _) (Wds.nil _)) (RatV.mk (b := false) (Wds.nil _) (Wds.nil _)))) ?_)
          rintro v93 w93 ⟨x93, rfl⟩
          refine o_pick_t rfl rfl rfl (o_assign rfl rfl (o_nil (n_then (c_ret (r_block (r_then (r_body1 rfl rfl ?_)))))))
          exact ⟨_, rfl, rfl, (m77.trans m82).trans (Kp.of_ext x93), fun w0 hx h1 h2 => ((hx.of_new x77 h1).of_new x82 h2).trans x93, _, r2.ext x93, RfAt.ext f2 x93, Few.none⟩
        · refine c_region (o_move rfl rfl (o_call call_RNat rfl rfl ((WN_ok hr hl hU)) ?_))
          rintro v77 w77 ⟨x77, v0, rfl, h0, r1⟩
          have m77 := (hr.rdT).kp x77
          have f1 := RdT.other hf hr.rdT x77 hne'
          refine o_move rfl rfl (o_extract rfl rfl (r_ext0) (o_extract rfl rfl (r_ext1) (o_assign rfl rfl (o_assign rfl rfl (o_nil (n_then (c_seq (c_region (o_move rfl rfl (o_call call_FNat rfl rfl ((FN_ok f1 hl hU)) ?_))))))))))
          rintro v82 w82 ⟨x82, u0, rfl, j0, f2⟩
          have m82 := RdT.kp f1 x82
          have r2 := (RdT.other r1.rdT f1 x82 hne).rdAt
          refine o_move rfl rfl (o_extract rfl rfl (r_ext0) (o_extract rfl rfl (r_ext1) (o_assign rfl rfl (o_assign rfl rfl (o_nil (n_then (c_seq (c_region (o_move rfl rfl (o_move rfl rfl (o_bin rfl rfl rfl (dec_t rfl r_eql_i) ?_)))))))))))
          refine o_move rfl rfl (g_yes rfl (o_move rfl rfl (g_yes rfl ?_)))
          refine o_build (vs := [(1, v0)]) rfl rfl (r_build1N h0.isS) ?_
          refine g_yes rfl (o_move rfl rfl (g_yes rfl ?_))
          refine o_build (vs := [(1, u0)]) rfl rfl (r_build1N j0.isS) ?_
          refine g_yes rfl (o_call call_SSame rfl rfl ((SSame_refl (RatV.mk (b := false) (h0.kp m82) (Wds.nil _)) (RatV.mk (b := false) j0 (Wds.nil _)))) ?_)
          rintro v93 w93 ⟨x93, rfl⟩
          refine o_pick_t rfl rfl rfl (o_assign rfl rfl (o_nil (n_then (c_ret (r_block (r_then (r_body1 rfl rfl ?_)))))))
          exact ⟨_, rfl, rfl, (m77.trans m82).trans (Kp.of_ext x93), fun w0 hx h1 h2 => ((hx.of_new x77 h1).of_new x82 h2).trans x93, _, r2.ext x93, RfAt.ext f2 x93, hl.n hU⟩
      · refine c_seq (c_region (o_bin (v := U8 3) rfl rfl rfl (r_eql_u8) (o_assign rfl rfl (o_nil (n_then ?_)))))
        refine c_if rfl (fun h95 => ?_) (fun h95 => ?_)
        · refine c_seq ?_
          rcases hU : st.bind rdR with _ | ⟨⟨b, n, m⟩, t⟩
          · refine c_region (o_move rfl rfl (o_call call_RRat rfl rfl ((WR_no hr hl hU)) ?_))
            rintro v99 w99 ⟨x99, v0, rfl, h0, r1⟩
            have m99 := (hr.rdT).kp x99
            have f1 := RdT.other hf hr.rdT x99 hne'
            refine o_move rfl rfl (o_extract rfl rfl (r_ext0) (o_extract rfl rfl (r_ext1) ?_))
            obtain ⟨g19, w19, hr19, l19, x19, k19⟩ := r_allocR (w := w99)
            refine o_alloc rfl hr19 ?_
            obtain ⟨p1, q1, w5, hp1, hs1, e1, k1, n1, d1⟩ := k19.stR ⟨_, _, _, rfl⟩ ⟨_, _, _, rfl⟩ (h0.ext x19)
            refine o_store rfl rfl (hs1) ?_
            have x5 := x19.of_new e1 l19
            have r1 := r1.ext x5
            have f1 := RfAt.ext f1 x5
            have hg19 : some g19 ≠ some g' := fun e => by have := Option.some.inj e; have := m99.size; omega
            refine o_assign rfl rfl (o_nil (n_then (c_seq (c_region (o_move rfl rfl (o_call call_FRat rfl rfl ((FR_no f1 hl hU)) ?_))))))
            rintro v104 w104 ⟨x104, u0, rfl, j0, f2⟩
            have m104 := RdT.kp f1 x104
            have r2 := (RdT.other r1.rdT f1 x104 hne).rdAt
            have k1 := k1.other x104 hg19
            have n1 := n1.kp m104
            have d1 := d1.kp m104
            refine o_move rfl rfl (o_extract rfl rfl (r_ext0) (o_extract rfl rfl (r_ext1) ?_))
            obtain ⟨g21, w21, hr21, l21, x21, k21⟩ := r_allocR (w := w104)
            refine o_alloc rfl hr21 ?_
            obtain ⟨p2, q2, w6, hp2, hs2, e2, k2, n2, d2⟩ := k21.stR ⟨_, _, _, rfl⟩ ⟨_, _, _, rfl⟩ (j0.ext x21)
            refine o_store rfl rfl (hs2) ?_
            have x6 := x21.of_new e2 l21
            refine o_assign rfl rfl (o_nil (n_then (c_seq (c_region (o_move rfl rfl (o_move rfl rfl (o_bin rfl rfl rfl (dec_t rfl r_eql_i) (o_move rfl rfl (g_yes rfl (o_load rfl rfl ((k1.ext x6).ldR) ?_))))))))))
            refine g_yes rfl (o_load rfl rfl (k2.ldR) (g_yes rfl (o_call call_SSame rfl rfl ((SSame_refl ((RatV.mk n1 d1).ext x6) (RatV.mk n2 d2))) ?_)))
            rintro v113 w113 ⟨x113, rfl⟩
            refine o_pick_t rfl rfl rfl (o_assign rfl rfl (o_nil (n_then (c_ret (r_block (r_then (r_body1 rfl rfl ?_)))))))
            exact ⟨_, rfl, rfl, ((m99.trans (Kp.of_ext x5)).trans m104).trans (Kp.of_ext (x6.trans x113)), fun w0 hx h1 h2 => (((hx.of_new x99 h1).trans x5).of_new x104 h2).trans (x6.trans x113), _, r2.ext (x6.trans x113), RfAt.ext f2 (x6.trans x113), Few.none⟩
          · refine c_region (o_move rfl rfl (o_call call_RRat rfl rfl ((WR_ok hr hl hU)) ?_))
            rintro v99 w99 ⟨x99, v0, rfl, h0, r1⟩
            have m99 := (hr.rdT).kp x99
            have f1 := RdT.other hf hr.rdT x99 hne'
            refine o_move rfl rfl (o_extract rfl rfl (r_ext0) (o_extract rfl rfl (r_ext1) ?_))
            obtain ⟨g19, w19, hr19, l19, x19, k19⟩ := r_allocR (w := w99)
            refine o_alloc rfl hr19 ?_
            obtain ⟨p1, q1, w5, hp1, hs1, e1, k1, n1, d1⟩ := k19.stR ⟨_, _, _, rfl⟩ ⟨_, _, _, rfl⟩ (h0.ext x19)
            refine o_store rfl rfl (hs1) ?_
            have x5 := x19.of_new e1 l19
            have r1 := r1.ext x5
            have f1 := RfAt.ext f1 x5
            have hg19 : some g19 ≠ some g' := fun e => by have := Option.some.inj e; have := m99.size; omega
            refine o_assign rfl rfl (o_nil (n_then (c_seq (c_region (o_move rfl rfl (o_call call_FRat rfl rfl ((FR_ok f1 hl hU)) ?_))))))
            rintro v104 w104 ⟨x104, u0, rfl, j0, f2⟩
            have m104 := RdT.kp f1 x104
            have r2 := (RdT.other r1.rdT f1 x104 hne).rdAt
            have k1 := k1.other x104 hg19
            have n1 := n1.kp m104
            have d1 := d1.kp m104
            refine o_move rfl rfl (o_extract rfl rfl (r_ext0) (o_extract rfl rfl (r_ext1) ?_))
            obtain ⟨g21, w21, hr21, l21, x21, k21⟩ := r_allocR (w := w104)
            refine o_alloc rfl hr21 ?_
            obtain ⟨p2, q2, w6, hp2, hs2, e2, k2, n2, d2⟩ := k21.stR ⟨_, _, _, rfl⟩ ⟨_, _, _, rfl⟩ (j0.ext x21)
            refine o_store rfl rfl (hs2) ?_
            have x6 := x21.of_new e2 l21
            refine o_assign rfl rfl (o_nil (n_then (c_seq (c_region (o_move rfl rfl (o_move rfl rfl (o_bin rfl rfl rfl (dec_t rfl r_eql_i) (o_move rfl rfl (g_yes rfl (o_load rfl rfl ((k1.ext x6).ldR) ?_))))))))))
            refine g_yes rfl (o_load rfl rfl (k2.ldR) (g_yes rfl (o_call call_SSame rfl rfl ((SSame_refl ((RatV.mk n1 d1).ext x6) (RatV.mk n2 d2))) ?_)))
            rintro v113 w113 ⟨x113, rfl⟩
            refine o_pick_t rfl rfl rfl (o_assign rfl rfl (o_nil (n_then (c_ret (r_block (r_then (r_body1 rfl rfl ?_)))))))
            exact ⟨_, rfl, rfl, ((m99.trans (Kp.of_ext x5)).trans m104).trans (Kp.of_ext (x6.trans x113)), fun w0 hx h1 h2 => (((hx.of_new x99 h1).trans x5).of_new x104 h2).trans (x6.trans x113), _, r2.ext (x6.trans x113), RfAt.ext f2 (x6.trans x113), hl.r hU⟩
        · refine c_seq (c_region (o_bin (v := U8 4) rfl rfl rfl (r_eql_u8) (o_assign rfl rfl (o_nil (n_then ?_)))))
          refine c_if rfl (fun h115 => ?_) (fun h115 => ?_)
          · refine c_seq ?_
            rcases hU : st.bind rdB with _ | ⟨a, t⟩
            · refine c_region (o_move rfl rfl (o_call call_Bytes rfl rfl ((WB_no hr hl hU)) ?_))
              rintro v119 w119 ⟨x119, rfl, r1⟩
              have m119 := (hr.rdT).kp x119
              have f1 := RdT.other hf hr.rdT x119 hne'
              refine o_move rfl rfl (o_extract rfl rfl (r_ext0) (o_extract rfl rfl (r_ext1) (o_assign rfl rfl (o_assign rfl rfl (o_nil (n_then (c_seq (c_region (o_move rfl rfl (o_call call_FBytes rfl rfl ((FB_no f1 hl hU)) ?_))))))))))
              rintro v124 w124 ⟨x124, rfl, f2⟩
              have m124 := RdT.kp f1 x124
              have r2 := (RdT.other r1.rdT f1 x124 hne).rdAt
              refine o_move rfl rfl (o_extract rfl rfl (r_ext0) (o_extract rfl rfl (r_ext1) (o_assign rfl rfl (o_assign rfl rfl (o_nil (n_then (c_seq (c_region (o_move rfl rfl (o_move rfl rfl (o_bin rfl rfl rfl (dec_t rfl r_eql_i) ?_)))))))))))
              refine o_move rfl rfl (g_yes rfl (o_move rfl rfl (g_yes rfl (o_conv rfl rfl (r_str (Bts.nil _)) (g_yes rfl (o_move rfl rfl (g_yes rfl (o_conv rfl rfl (r_str (Bts.nil _)) (g_yes rfl ?_)))))))))
              refine o_bin rfl rfl rfl (dec_t rfl r_eql_s) (o_pick_t rfl rfl rfl (o_assign rfl rfl (o_nil (n_then (c_ret (r_block (r_then (r_body1 rfl rfl ?_))))))))
              exact ⟨_, rfl, rfl, m119.trans m124, fun w0 hx h1 h2 => ((hx.of_new x119 h1).of_new x124 h2), _, r2, f2, Few.none⟩
            · refine c_region (o_move rfl rfl (o_call call_Bytes rfl rfl ((WB_ok hr hl hU)) ?_))
              rintro v119 w119 ⟨x119, v0, rfl, h0, r1⟩
              have m119 := (hr.rdT).kp x119
              have f1 := RdT.other hf hr.rdT x119 hne'
              refine o_move rfl rfl (o_extract rfl rfl (r_ext0) (o_extract rfl rfl (r_ext1) (o_assign rfl rfl (o_assign rfl rfl (o_nil (n_then (c_seq (c_region (o_move rfl rfl (o_call call_FBytes rfl rfl ((FB_ok f1 hl hU)) ?_))))))))))
              rintro v124 w124 ⟨x124, u0, rfl, j0, f2⟩
              have m124 := RdT.kp f1 x124
              have r2 := (RdT.other r1.rdT f1 x124 hne).rdAt
              refine o_move rfl rfl (o_extract rfl rfl (r_ext0) (o_extract rfl rfl (r_ext1) (o_assign rfl rfl (o_assign rfl rfl (o_nil (n_then (c_seq (c_region (o_move rfl rfl (o_move rfl rfl (o_bin rfl rfl rfl (dec_t rfl r_eql_i) ?_)))))))))))
              refine o_move rfl rfl (g_yes rfl (o_move rfl rfl (g_yes rfl (o_conv rfl rfl (r_str (h0.kp m124)) (g_yes rfl (o_move rfl rfl (g_yes rfl (o_conv rfl rfl (r_str j0) (g_yes rfl (o_bin rfl rfl rfl (dec_t rfl r_eql_s) ?_))))))))))
              refine o_pick_t rfl rfl rfl (o_assign rfl rfl (o_nil (n_then (c_ret (r_block (r_then (r_body1 rfl rfl ?_)))))))
              exact ⟨_, rfl, rfl, m119.trans m124, fun w0 hx h1 h2 => ((hx.of_new x119 h1).of_new x124 h2), _, r2, f2, hl.b hU⟩
          · refine c_skip (n_block (n_then (c_seq ?_)))
            rcases hU : st.bind rdB with _ | ⟨a, t⟩
            · refine c_region (o_move rfl rfl (o_call call_Text rfl rfl ((WT_no hr hl hU)) ?_))
              rintro v139 w139 ⟨x139, rfl, r1⟩
              have m139 := (hr.rdT).kp x139
              have f1 := RdT.other hf hr.rdT x139 hne'
              refine o_move rfl rfl (o_extract rfl rfl (r_ext0) (o_extract rfl rfl (r_ext1) (o_assign rfl rfl (o_assign rfl rfl (o_nil (n_then (c_seq (c_region (o_move rfl rfl (o_call call_FText rfl rfl ((FT_no f1 hl hU)) ?_))))))))))
              rintro v144 w144 ⟨x144, rfl, f2⟩
              have m144 := RdT.kp f1 x144
              have r2 := (RdT.other r1.rdT f1 x144 hne).rdAt
              refine o_move rfl rfl (o_extract rfl rfl (r_ext0) (o_extract rfl rfl (r_ext1) (o_assign rfl rfl (o_assign rfl rfl (o_nil (n_then (c_seq (c_region (o_move rfl rfl (o_move rfl rfl (o_bin rfl rfl rfl (dec_t rfl r_eql_i) ?_)))))))))))
              refine o_move rfl rfl (g_yes rfl (o_move rfl rfl (g_yes rfl (o_move rfl rfl (g_yes rfl (o_bin rfl rfl rfl (dec_t rfl r_eql_s) (o_pick_t rfl rfl rfl (o_assign rfl rfl (o_nil (n_then ?_))))))))))
              refine c_ret (r_body1 rfl rfl ?_)
              exact ⟨_, rfl, rfl, m139.trans m144, fun w0 hx h1 h2 => ((hx.of_new x139 h1).of_new x144 h2), _, r2, f2, Few.none⟩
            · refine c_region (o_move rfl rfl (o_call call_Text rfl rfl ((WT_ok hr hl hU)) ?_))
              rintro v139 w139 ⟨x139, rfl, r1⟩
              have m139 := (hr.rdT).kp x139
              have f1 := RdT.other hf hr.rdT x139 hne'
              refine o_move rfl rfl (o_extract rfl rfl (r_ext0) (o_extract rfl rfl (r_ext1) (o_assign rfl rfl (o_assign rfl rfl (o_nil (n_then (c_seq (c_region (o_move rfl rfl (o_call call_FText rfl rfl ((FT_ok f1 hl hU)) ?_))))))))))
              rintro v144 w144 ⟨x144, rfl, f2⟩
              have m144 := RdT.kp f1 x144
              have r2 := (RdT.other r1.rdT f1 x144 hne).rdAt
              refine o_move rfl rfl (o_extract rfl rfl (r_ext0) (o_extract rfl rfl (r_ext1) (o_assign rfl rfl (o_assign rfl rfl (o_nil (n_then (c_seq (c_region (o_move rfl rfl (o_move rfl rfl (o_bin rfl rfl rfl (dec_t rfl r_eql_i) ?_)))))))))))
              refine o_move rfl rfl (g_yes rfl (o_move rfl rfl (g_yes rfl (o_move rfl rfl (g_yes rfl (o_bin rfl rfl rfl (dec_t rfl r_eql_s) (o_pick_t rfl rfl rfl (o_assign rfl rfl (o_nil (n_then ?_))))))))))
              refine c_ret (r_body1 rfl rfl ?_)
              exact ⟨_, rfl, rfl, m139.trans m144, fun w0 hx h1 h2 => ((hx.of_new x139 h1).of_new x144 h2), _, r2, f2, hl.b hU⟩
end Go.Rl


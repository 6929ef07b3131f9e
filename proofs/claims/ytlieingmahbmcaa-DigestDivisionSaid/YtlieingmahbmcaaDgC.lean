/- Walks of the statements DigestNil and DigestClone, and of the digest's methods on nil. Conditions: the three byte strings of DigestClone are together shorter than 2^63. -/
import Derived.Test.YtlieingmahbmcaaDgB
namespace Go.Rl
open Go.RowKit Go.Proofs

section
variable {w : World} {g : Nat} {T : TypeId}
theorem Blk.st32 {l : List Value} {m : List UInt8} (h : Blk g T l w) (hl : l.length = 32) (hm : m.length = 32) :
    ∃ w', (Instr.storeAt 35 (.pointer (some ⟨g, 0, none⟩)) (.agg (m.map U8).toArray)).run Try.prog w = .ok () w' ∧ w.grownBy w' (some g) ∧ Blk g T (m.map U8) w' :=
  ⟨_, r_stA h (by simp [hl, hm]) (by rw [List.length_map, hm]; exact size32) (one_ofB _), grownBy_setRow w g _, h.row _⟩
theorem Blk.ld32 {m : List UInt8} (h : Blk g T (m.map U8) w) (hm : m.length = 32) : (Instr.loadAt 35 (.pointer (some ⟨g, 0, none⟩))).run Try.prog w = .ok (.agg (m.map U8).toArray) w :=
  r_ldA h (fun j v hj => by simpa using hj) Try.underlying35 rfl (by rw [List.length_map, hm]; exact size32)
end
theorem Write_nil {w : World} {v : Value} :
    Calls Try.prog 26 #[.pointer none, v] w (Ret fun _ w' => w = w') := by
  refine enter (vs := [.pointer none, v]) Try.func26 rfl rfl rfl ?_
  refine c_seq (c_seq (c_region (o_move rfl rfl (o_bin rfl rfl rfl (r_eqnilp Try.underlying40) (o_nil (n_then (c_yes rfl (c_ret (r_then (r_body0 rfl ?_))))))))))
  exact ⟨_, rfl, rfl⟩
theorem HSum_nil {w : World} :
    Calls Try.prog 27 #[.pointer none] w (Ret fun r w' => Ext w w' ∧ r = .agg ((dig []).map U8).toArray) := by
  refine enter (vs := [.pointer none]) Try.func27 rfl rfl rfl ?_
  refine c_seq (c_region ?_)
  obtain ⟨g, w2, hr2, n2, x2, b2⟩ := r_allocB (P := Try.prog) (w := w) (l := (List.replicate 32 0).map U8) zero32 rfl
  refine o_alloc rfl (hr2) (o_nil (n_then (c_seq (c_seq (c_region (o_move rfl rfl (o_bin rfl rfl rfl (r_eqnilp Try.underlying40) (o_nil (n_then (c_yes rfl (c_seq (c_region ?_))))))))))))
  refine o_call (vs := []) call_HNew rfl rfl (New0_spec w2) ?_
  rintro v12 w12 ⟨x12, g1, hg1, rfl, hA⟩
  refine o_call call_HSum rfl rfl (HSum_spec (m := []) hA) ?_
  rintro v13 w13 ⟨x13, rfl⟩
  obtain ⟨w3, hs, q3, b3⟩ := ((b2.ext x12).ext x13).st32 (m := dig []) (by simp) (dig_len _)
  refine o_store rfl rfl (hs) (o_nil (n_then (c_ret (r_then ?_))))
  refine r_bodyc rfl rfl b3 Try.underlying35 rfl (by rw [List.length_map, dig_len]; exact size32) ?_
  exact ⟨_, rfl, ((x2.trans x12).trans x13).of_new q3 n2, rfl⟩
theorem HClone_nil {w : World} :
    Calls Try.prog 28 #[.pointer none] w (Ret fun r w' => w = w' ∧ r = .pointer none) := by
  refine enter (vs := [.pointer none]) Try.func28 rfl rfl rfl ?_
  refine c_seq (c_region (o_assign rfl rfl (o_nil (n_then (c_seq (c_seq (c_region (o_move rfl rfl (o_bin rfl rfl rfl (r_eqnilp Try.underlying40) (o_nil (n_then (c_yes rfl ?_))))))))))))
  refine c_seq (c_region (o_assign rfl rfl (o_nil (n_then (c_ret (r_then (r_body1 rfl rfl ?_)))))))
  exact ⟨_, rfl, rfl, rfl⟩
theorem DigestNil_walk {w : World} {l : List UInt8} {v : Value} (_ : Bts l v w) :
    Calls Try.prog 10 #[v] w (Ret fun r w' => r = B true ∧ Ext w w') := by
  refine enter (vs := [v]) Try.func10 rfl rfl rfl ?_
  refine c_seq (c_region (o_assign rfl rfl (o_nil (n_then (c_seq (c_seq (c_region (o_call call_dawake rfl rfl (dawake_spec w) ?_))))))))
  rintro v4 w4 ⟨rfl, x4⟩
  refine o_not rfl rfl r_not (o_nil (n_then (c_no rfl (c_skip (n_then (c_seq (c_region (o_assign rfl rfl (o_nil (n_then (c_seq (c_region (o_move rfl rfl (o_move rfl rfl (o_call call_Write rfl rfl (Write_nil) ?_)))))))))))))))
  rintro v8 _ rfl
  refine o_nil (n_then (c_seq (c_region (o_move rfl rfl (o_call call_HSum rfl rfl (HSum_nil) ?_)))))
  rintro v10 w10 ⟨x10, rfl⟩
  refine o_call (vs := [.slice none 0 0]) call_rSum rfl rfl (rSum_spec (Bts.nil w10) (by simp)) ?_
  rintro v11 w11 ⟨x11, rfl⟩
  refine o_bin rfl rfl rfl (r_eqlA (dig_len _)) (o_move rfl rfl (g_yes rfl (o_move rfl rfl (g_yes rfl (o_call call_HClone rfl rfl (HClone_nil) ?_)))))
  rintro v15 _ ⟨rfl, rfl⟩
  refine g_yes rfl (o_bin rfl rfl rfl (r_eqnilp Try.underlying40) (o_pick_t rfl rfl rfl (o_move rfl rfl (g_yes rfl (o_call (vs := []) call_HNew rfl rfl (New0_spec w11) ?_)))))
  rintro v19 w19 ⟨x19, g1, hg1, rfl, hA⟩
  refine g_yes rfl (o_call call_HSum rfl rfl (HSum_spec (m := []) hA) ?_)
  rintro v20 w20 ⟨x20, rfl⟩
  refine g_yes rfl (o_move rfl rfl (g_yes rfl (o_call call_HSum rfl rfl (HSum_nil) ?_)))
  rintro v22 w22 ⟨x22, rfl⟩
  refine g_yes rfl (o_bin rfl rfl rfl (r_eqlA (dig_len _)) (o_pick_t rfl rfl rfl (o_assign rfl rfl (o_nil (n_then (c_ret (r_body1 rfl rfl ?_)))))))
  exact ⟨_, rfl, rfl, (((((x4.trans x10).trans x11).trans x19).trans x20).trans x22)⟩
theorem DigestClone_walk {w : World} {a b c : List UInt8} {va vb vc : Value} (ha : Bts a va w) (hb : Bts b vb w) (hc : Bts c vc w) (la : a.length ≤ 140737488351232) (lb : b.length ≤ 140737488351232) (lc : c.length ≤ 140737488351232) :
    Calls Try.prog 9 #[va, vb, vc] w (Ret fun r w' => r = B true ∧ Ext w w') := by
  refine enter (vs := [va, vb, vc]) Try.func9 rfl rfl rfl ?_
  refine c_seq (c_region (o_assign rfl rfl (o_nil (n_then (c_seq (c_seq (c_region (o_call call_dawake rfl rfl (dawake_spec w) ?_))))))))
  rintro v11 w11 ⟨rfl, x11⟩
  refine o_not rfl rfl r_not (o_move rfl rfl (g_yes rfl (o_move rfl rfl (g_yes rfl (o_len rfl rfl (r_lenB (ha.ext x11)) (g_yes rfl (o_move rfl rfl (g_yes rfl (o_len rfl rfl (r_lenB (hb.ext x11)) ?_)))))))))
  refine g_yes rfl (o_bin rfl rfl rfl (r_add_i (by omega) (by omega)) (g_yes rfl (o_move rfl rfl (g_yes rfl (o_len rfl rfl (r_lenB (hc.ext x11)) (g_yes rfl (o_bin rfl rfl rfl (r_add_i (by omega) (by omega)) ?_)))))))
  refine g_yes rfl (o_bin rfl rfl rfl (r_gtr_i) (o_pick_f rfl rfl rfl (o_nil (n_then ?_))))
  refine c_if rfl (fun h23 => ?_) (fun h23 => ?_)
  · refine c_seq (c_region (o_call call_dawake rfl rfl (dawake_spec w11) ?_))
    rintro v24 w24 ⟨rfl, x24⟩
    refine o_assign rfl rfl (o_nil (n_then (c_ret (r_then (r_body1 rfl rfl ?_)))))
    exact ⟨_, rfl, rfl, (x11.trans x24)⟩
  · refine c_skip (n_then (c_seq (c_region (o_call (vs := []) call_HNew rfl rfl (New0_spec w11) ?_))))
    rintro v25 w25 ⟨x25, g, hg, rfl, hA⟩
    refine o_assign rfl rfl (o_nil (n_then (c_seq (c_region ?_))))
    have hgw : w.heap.size ≤ g := Nat.le_trans x11.size hg
    refine o_move rfl rfl (o_move rfl rfl (o_call call_Write rfl rfl (Write_spec hA (ha.ext (x11.trans x25)) (ha.old hgw)) ?_))
    rintro v28 w28 ⟨q28, h28⟩
    have x28 := (x11.trans x25).of_new q28 hgw
    refine o_nil (n_then (c_seq (c_region (o_move rfl rfl (o_call call_HClone rfl rfl (HClone_spec h28) ?_)))))
    rintro v30 w30 ⟨x30, g', hg', rfl, hC⟩
    have ltg : g < g' := Nat.lt_of_lt_of_le h28.lt hg'
    have ne1 : some g' ≠ some g := fun h => by cases h; omega
    have ne2 : some g ≠ some g' := fun h => by cases h; omega
    have hgw' : w.heap.size ≤ g' := by omega
    refine o_assign rfl rfl (o_nil (n_then (c_seq (c_seq (c_region (o_move rfl rfl (o_bin rfl rfl rfl (r_eqnilp Try.underlying40) (o_nil (n_then (c_no rfl (c_skip (n_then (c_seq ?_)))))))))))))
    refine c_region (o_move rfl rfl (o_move rfl rfl (o_call call_Write rfl rfl (Write_spec (h28.ext x30) (hb.ext (x28.trans x30)) (hb.old hgw)) ?_)))
    rintro v35 w35 ⟨q35, h35⟩
    have x35 := (x28.trans x30).of_new q35 hgw
    refine o_nil (n_then (c_seq (c_region (o_move rfl rfl (o_move rfl rfl (o_call call_Write rfl rfl (Write_spec (hC.other q35 ne1) (hc.ext x35) (hc.old hgw')) ?_))))))
    rintro v38 w38 ⟨q38, h38⟩
    have x38 := x35.of_new q38 hgw'
    have h35' := h35.other q38 ne2
    rw [List.nil_append, UInt64.zero_add, ← UInt64.ofNat_add, ← List.length_append] at h38 h35'
    refine o_nil (n_then (c_seq (c_region ?_)))
    obtain ⟨v39, w39, hr39, x39, o39, ob39⟩ := r_bsB (w := w38) w38.heap.size [] (by simp) (Nat.le_refl _)
    refine o_buildSlice (vs := []) rfl rfl hr39 (o_move rfl rfl ?_)
    obtain ⟨v41, w41, hr41, o41, g41⟩ := r_appB (ty := 22) o39 (ha.ext (x38.trans x39)) (by simp only [List.length_nil]; omega) (x39).size
    have x41 := Ext.of_grew (x39) g41 o39.ge
    refine o_append rfl rfl hr41 (o_move rfl rfl ?_)
    obtain ⟨v43, w43, hr43, o43, g43⟩ := r_appB (ty := 22) o41 (hb.ext (x38.trans x41)) (by simp only [List.nil_append]; omega) (x41).size
    have x43 := Ext.of_grew (x41) g43 o41.ge
    refine o_append rfl rfl hr43 (o_call call_rSum rfl rfl (rSum_spec o43.bts (by simp only [List.nil_append, List.length_append]; omega)) ?_)
    rintro v44 w44 ⟨x44, rfl⟩
    obtain ⟨gx, w9, hr9, n9, x9, b9⟩ := r_allocB (P := Try.prog) (w := w44) (l := (List.replicate 32 0).map U8) zero32 rfl
    refine o_alloc rfl (hr9) ?_
    obtain ⟨w9', hs9, q9, c9⟩ := b9.st32 (m := dig ([] ++ a ++ b)) (by simp) (dig_len _)
    have x9' := x9.of_new q9 n9
    refine o_store rfl rfl (hs9) (o_nil (n_then (c_seq (c_region ?_))))
    obtain ⟨v45, w45, hr45, x45, o45, ob45⟩ := r_bsB (w := w9') w9'.heap.size [] (by simp) (Nat.le_refl _)
    refine o_buildSlice (vs := []) rfl rfl hr45 (o_move rfl rfl ?_)
    obtain ⟨v47, w47, hr47, o47, g47⟩ := r_appB (ty := 22) o45 (ha.ext ((((x38.trans x43).trans x44).trans x9').trans x45)) (by simp only [List.length_nil]; omega) (x45).size
    have x47 := Ext.of_grew (x45) g47 o45.ge
    refine o_append rfl rfl hr47 (o_move rfl rfl ?_)
    obtain ⟨v49, w49, hr49, o49, g49⟩ := r_appB (ty := 22) o47 (hc.ext ((((x38.trans x43).trans x44).trans x9').trans x47)) (by simp only [List.nil_append]; omega) (x47).size
    have x49 := Ext.of_grew (x47) g49 o47.ge
    refine o_append rfl rfl hr49 (o_call call_rSum rfl rfl (rSum_spec o49.bts (by simp only [List.nil_append, List.length_append]; omega)) ?_)
    rintro v50 w50 ⟨x50, rfl⟩
    obtain ⟨gy, w10, hr10, n10, x10, b10⟩ := r_allocB (P := Try.prog) (w := w50) (l := (List.replicate 32 0).map U8) zero32 rfl
    refine o_alloc rfl (hr10) ?_
    obtain ⟨w10', hs10, q10, c10⟩ := b10.st32 (m := dig ([] ++ a ++ c)) (by simp) (dig_len _)
    have x10' := x10.of_new q10 n10
    refine o_store rfl rfl (hs10) (o_nil (n_then (c_seq (c_grow 10 [60] (by kernel_rfl) (by kernel_rfl) ?_))))
    have H1 := h35'.ext ((((((x43.trans x44).trans x9').trans x49).trans x50).trans x10'))
    have H2 := h38.ext ((((((x43.trans x44).trans x9').trans x49).trans x50).trans x10'))
    have C9 := (c9.ext ((x49.trans x50).trans x10'))
    rw [List.nil_append] at C9 c10
    refine f_move rfl rfl (f_call (S := Is (.agg ((dig (a ++ b)).map U8).toArray)) call_HSum (Stable.is _) rfl (fun w hw => by rintro _ rfl; exact HSum_spec (H1.ext hw)) ?_)
    refine f_load rfl rfl (fun w hw => (C9.ext hw).ld32 (dig_len _)) (f_bin rfl rfl rfl (fun w _ => r_eqlA (dig_len _)) (f_move rfl rfl (f_yes rfl rfl (f_move rfl rfl (f_yes rfl rfl ?_)))))
    refine f_call (S := Is (.agg ((dig (a ++ c)).map U8).toArray)) call_HSum (Stable.is _) rfl (fun w hw => by rintro _ rfl; exact HSum_spec (H2.ext hw)) (f_yes rfl rfl ?_)
    refine f_load rfl rfl (fun w hw => (c10.ext hw).ld32 (dig_len _)) (f_yes rfl rfl (f_bin rfl rfl rfl (fun w _ => r_eqlA (dig_len _)) (f_pick_t rfl rfl rfl (f_nil ?_))))
    intro wg12 xg12
    rintro _ rfl
    refine o_assign rfl rfl (o_nil (n_then (c_ret (r_body1 rfl rfl ?_))))
    exact ⟨_, rfl, rfl, (((((((x38.trans x43).trans x44).trans x9').trans x49).trans x50).trans x10').trans xg12)⟩
end Go.Rl


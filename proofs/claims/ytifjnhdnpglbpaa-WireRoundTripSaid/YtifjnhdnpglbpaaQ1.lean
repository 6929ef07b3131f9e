/- Walks of package rational: the canonical form. Conditions: the numbers are shorter than 2^37 limbs. -/
import Derived.Test.YtifjnhdnpglbpaaRatB
namespace Go.Rl
open Go.RowKit Go.Proofs
theorem call_QOne : Callable Try.prog 92 := ⟨_, Try.func92, by kernel_rfl, rfl⟩
theorem call_QUnit : Callable Try.prog 88 := ⟨_, Try.func88, by kernel_rfl, rfl⟩
theorem call_QUnder : Callable Try.prog 78 := ⟨_, Try.func78, by kernel_rfl, rfl⟩
theorem call_QQuot : Callable Try.prog 77 := ⟨_, Try.func77, by kernel_rfl, rfl⟩
theorem call_QCanon : Callable Try.prog 70 := ⟨_, Try.func70, by kernel_rfl, rfl⟩
theorem call_QValid : Callable Try.prog 56 := ⟨_, Try.func56, by kernel_rfl, rfl⟩
theorem dec_pick {p : Prop} {b : Bool} {dp : Decidable p} (h : b = @decide p dp) : B b = B (@decide p dp) := by rw [h]
theorem QOne_spec {w : World} :
    Calls Try.prog 92 #[] w (Ret fun r w' => Ext w w' ∧ Wds [1] r w') := by
  refine enter (vs := []) Try.func92 rfl rfl rfl ?_
  refine c_seq (c_region (o_assign rfl rfl (o_nil (n_then (c_seq (c_region ?_))))))
  obtain ⟨v1, w1, hr1, x1, o1, ob1⟩ := r_bsW Try.underlying33 (w := w) w.heap.size [1] (by simp) (Nat.le_refl _)
  refine o_buildSlice (vs := [(0, U32 (1))]) rfl rfl hr1 (o_assign rfl rfl (o_nil (n_then (c_ret (r_body1 rfl rfl ?_)))))
  exact ⟨_, rfl, x1, o1.wds⟩
theorem QUnit_spec {w : World} {x : Nat} {v : Value} (hv : Wds (lb x) v w) :
    Calls Try.prog 88 #[v] w (Ret fun r w' => w = w' ∧ r = B (decide (x = 1))) := by
  refine enter (vs := [v]) Try.func88 rfl rfl rfl ?_
  obtain ⟨t, ht⟩ : ∃ t, t = lb x := ⟨_, rfl⟩
  rw [← ht] at hv
  have h1 : x = 1 ↔ t = [1] := by rw [ht]; exact lb_is1.symm
  refine c_seq (c_region (o_assign rfl rfl (o_nil (n_then (c_seq (c_region (o_move rfl rfl (o_len rfl rfl (r_lenW Try.underlying33 hv) (o_bin rfl rfl rfl (r_eql_i) ?_)))))))))
  refine o_move rfl rfl ?_
  refine o_dec (fun h6 => ?_) (fun h6 => ?_)
  · refine g_yes rfl (o_move rfl rfl (g_yes rfl ?_))
    obtain ⟨a8, p8, q8⟩ := r_ixW Try.underlying33 hv (i := 0) (by omega) .i64
    refine o_indexAddr rfl rfl rfl (p8 _) (g_yes rfl (o_load rfl rfl (r_load1 Try.underlying79 rfl q8) (g_yes rfl (o_bin (v := U32 1) rfl rfl rfl (r_eql_u32) (o_pick_t rfl rfl rfl ?_)))))
    refine o_assign rfl rfl (o_nil (n_then (c_ret (r_body1 rfl rfl ?_))))
    exact ⟨_, rfl, rfl, by
      first
      | exact congrArg B (decide_eq_false fun h => h6 (by rw [h1.1 h]; rfl)).symm
      | exact congrArg B (decide_eq_decide.2 (by
          rw [h1]
          obtain ⟨y, rfl⟩ := List.length_eq_one_iff.1 (show t.length = 1 by omega)
          simp))⟩
  · refine g_no rfl rfl rfl (g_no rfl rfl rfl (g_no rfl rfl rfl (g_no rfl rfl rfl (o_pick_f rfl rfl rfl (o_assign rfl rfl (o_nil (n_then (c_ret (r_body1 rfl rfl ?_)))))))))
    exact ⟨_, rfl, rfl, by
      first
      | exact congrArg B (decide_eq_false fun h => h6 (by rw [h1.1 h]; rfl)).symm
      | exact congrArg B (decide_eq_decide.2 (by
          rw [h1]
          obtain ⟨y, rfl⟩ := List.length_eq_one_iff.1 (show t.length = 1 by omega)
          simp))⟩
theorem QUnder_spec {w : World} {b : Bool} {n m : List UInt32} {v : Value} (hv : RatV b n m v w) (hl : m.length ≤ 1099511627776) :
    Calls Try.prog 78 #[v] w (Ret fun r w' => Ext w w' ∧ Wds (ud m) r w') := by
  refine enter (vs := [v]) Try.func78 rfl rfl rfl ?_
  refine c_seq (c_region ?_)
  obtain ⟨g1, y1, z1, w1, hr1, x1, k1, n1, d1⟩ := r_boxR hv
  refine o_box rfl rfl hr1 (o_assign rfl rfl (o_nil (n_then (c_seq (c_seq (c_region (o_fieldAddr rfl rfl (r_fAt (o := 2) Try.underlying35 rfl (by kernel_rfl) rfl) ?_)))))))
  refine o_load rfl rfl (r_load1 Try.underlying33 rfl (k1.cell (i := 2) rfl)) (o_call call_NBits rfl rfl (NBits_spec d1 hl) ?_)
  rintro v5 _ ⟨rfl, rfl⟩
  refine o_bin rfl rfl rfl (r_eql_i) (o_nil (n_then ?_))
  refine c_if rfl (fun h6 => ?_) (fun h6 => ?_)
  · have h0 : val m = 0 := by
      rcases Nat.eq_zero_or_pos (val m) with h | h
      · exact h
      · have := bl_pos h
        omega
    refine c_seq (c_region (o_call (vs := []) call_QOne rfl rfl (QOne_spec) ?_))
    rintro v7 w7 ⟨x7, b7⟩
    refine o_assign rfl rfl (o_nil (n_then (c_ret (r_then (r_body1 rfl rfl ?_)))))
    exact ⟨_, rfl, (x1.trans x7), by unfold ud; rw [if_pos h0]; exact b7⟩
  · have h0 : val m ≠ 0 := fun h => h6 (by rw [h]; rfl)
    refine c_skip (n_then (c_seq (c_region (o_fieldAddr rfl rfl (r_fAt (o := 2) Try.underlying35 rfl (by kernel_rfl) rfl) (o_load rfl rfl (r_load1 Try.underlying33 rfl (k1.cell (i := 2) rfl)) ?_)))))
    refine o_assign rfl rfl (o_nil (n_then (c_ret (r_body1 rfl rfl ?_))))
    exact ⟨_, rfl, x1, by unfold ud; rw [if_neg h0]; exact d1⟩
theorem QQuot_spec {w : World} {s : Bool} {n d : List UInt32} {x y : Value} (hn : Wds n x w) (hd : Wds d y w) (hnl : n.length ≤ 274877906944) (hdl : d.length ≤ 274877906944) (hd0 : 0 < val d) :
    Calls Try.prog 77 #[B s, x, y] w (Ret fun r w' => Ext w w' ∧ RatV (cqN s (val n)) (lb (val n / Nat.gcd (val n) (val d))) (cqD (val n) (val d)) r w') := by
  refine enter (vs := [B s, x, y]) Try.func77 rfl rfl rfl ?_
  have hnn := lb_lt (val_lt n)
  have hdd := lb_lt (val_lt d)
  have hg0 := gcd_pos (n := val n) hd0
  refine c_seq (c_region ?_)
  obtain ⟨g6, w6, hr6, l6, x6, k6⟩ := r_allocR (w := w)
  refine o_alloc rfl hr6 (o_nil (n_then (c_seq (c_region (o_move rfl rfl (o_call call_NMake rfl rfl (NMake_spec (hn.ext x6) (by omega)) ?_))))))
  rintro v9 w9 ⟨x9, b9⟩
  refine o_assign rfl rfl (o_nil (n_then (c_seq (c_seq (c_region (o_move rfl rfl (o_len (r := I ((lb (val n)).length : Int)) rfl rfl (r_lenW Try.underlying33 b9) ?_)))))))
  refine o_bin rfl rfl rfl (r_eql_i) (o_nil (n_then ?_))
  refine c_if rfl (fun h12 => ?_) (fun h12 => ?_)
  · have hn0 : val n = 0 := lb_len0.1 (by omega)
    refine c_seq (c_region ?_)
    refine o_build (vs := []) rfl rfl r_buildR0 ?_
    obtain ⟨p, q, w3, hp, hs, q3, k3, n3, d3⟩ := (k6.ext (x9)).stR ⟨_, _, _, rfl⟩ ⟨_, _, _, rfl⟩ (RatV.mk (b := false) (Wds.nil _) (Wds.nil _))
    refine o_store rfl rfl (hs) (o_nil (n_then (c_ret (r_then ?_))))
    refine r_bodyc rfl rfl k3 Try.underlying35 rfl size_Rat ?_
    exact ⟨_, rfl, ((x6.trans x9)).of_new q3 l6, p, q, by rw [hn0]; unfold cqN; simp, by rw [hn0, Nat.zero_div]; exact n3, by rw [hn0, cq_zero hd0]; exact d3⟩
  · have hn0 : 0 < val n := by
      rcases Nat.eq_zero_or_pos (val n) with h | h
      · rw [h] at h12; simp [lb_zero] at h12
      · exact h
    have hcN : cqN s (val n) = s := by unfold cqN; rw [decide_eq_true hn0, Bool.and_true]
    rw [hcN]
    refine c_skip (n_then (c_seq (c_region (o_move rfl rfl (o_call call_NMake rfl rfl (NMake_spec (hd.ext (x6.trans x9)) (by omega)) ?_)))))
    rintro v15 w15 ⟨x15, b15⟩
    refine o_assign rfl rfl (o_nil (n_then (c_seq (c_seq (c_region (o_move rfl rfl (o_call call_QUnit rfl rfl (QUnit_spec b15) ?_)))))))
    rintro v17 _ ⟨rfl, rfl⟩
    refine o_nil (n_then ?_)
    refine c_if rfl (fun h17 => ?_) (fun h17 => ?_)
    · refine c_seq (c_region (o_move rfl rfl (o_move rfl rfl ?_)))
      refine o_build (vs := [(0, B s), (1, v9)]) rfl rfl (r_buildR2 b9.isS) ?_
      obtain ⟨p, q, w3, hp, hs, q3, k3, n3, d3⟩ := (k6.ext ((x9.trans x15))).stR ⟨_, _, _, rfl⟩ ⟨_, _, _, rfl⟩ (RatV.mk (b := s) (b9.ext (x15)) (Wds.nil _))
      refine o_store rfl rfl (hs) (o_nil (n_then (c_ret (r_then ?_))))
      refine r_bodyc rfl rfl k3 Try.underlying35 rfl size_Rat ?_
      exact ⟨_, rfl, (((x6.trans x9).trans x15)).of_new q3 l6, p, q, rfl, by rw [h17, Nat.gcd_one_right, Nat.div_one]; exact n3, by rw [h17, cq_one]; exact d3⟩
    · obtain ⟨g, hg⟩ : ∃ g, g = Nat.gcd (val n) (val d) := ⟨_, rfl⟩
      rw [← hg] at hg0 ⊢
      have hgl : (lb g).length ≤ d.length := Nat.le_trans (lb_len_lt (by rw [hg]; exact Nat.gcd_le_right _ hd0)) hdd
      refine c_skip (n_then (c_seq ?_))
      refine c_cut (fun p : Value × Value => [(0, B s), (1, p.1), (2, p.2), (6, .pointer (some ⟨g6, 0, none⟩))]) (fun p w' => Ext w15 w' ∧ Wds (lb (val n / g)) p.1 w' ∧ Wds (lb (val d / g)) p.2 w') ?_ ?_
      · refine c_seq (c_region (o_move rfl rfl (o_move rfl rfl (o_call call_NGcd rfl rfl ((by have := NGcd_spec (b9.ext x15) b15 (by omega) (by omega); rw [val_lb, val_lb] at this; exact this)) ?_))))
        rintro v23 w23 ⟨x23, b23⟩
        rw [← hg] at b23
        refine o_assign rfl rfl (o_nil (n_then (c_seq (c_region (o_move rfl rfl (o_call call_QUnit rfl rfl (QUnit_spec b23) ?_))))))
        rintro v25 _ ⟨rfl, rfl⟩
        refine o_not rfl rfl r_not_d (o_nil (n_then ?_))
        refine c_if rfl (fun h26 => ?_) (fun h26 => ?_)
        · refine c_seq (c_region (o_move rfl rfl (o_move rfl rfl (o_call call_NDivMod rfl rfl ((by have := NDivMod_spec (b9.ext (x15.trans x23)) b23 (by omega) (by omega) (by rw [val_lb]; exact hg0); rw [val_lb, val_lb] at this; exact this)) ?_))))
          rintro v30 w30 ⟨x30, q1, s1, rfl, c1, e1⟩
          refine o_move rfl rfl (o_extract rfl rfl (r_ext3_0) (o_extract rfl rfl r_ext3_1 (o_extract rfl rfl r_ext3_2 (o_assign rfl rfl (o_nil (n_then (c_region (o_move rfl rfl (o_move rfl rfl ?_)))))))))
          refine o_call call_NDivMod rfl rfl ((by have := NDivMod_spec (b15.ext (x23.trans x30)) (b23.ext x30) (by omega) (by omega) (by rw [val_lb]; exact hg0); rw [val_lb, val_lb] at this; exact this)) ?_
          rintro v37 w37 ⟨x37, q2, s2, rfl, c2, e2⟩
          refine o_move rfl rfl (o_extract rfl rfl (r_ext3_0) (o_extract rfl rfl r_ext3_1 (o_extract rfl rfl r_ext3_2 (o_assign rfl rfl (o_nil ?_)))))
          exact n_meet (q1, q2) ⟨rfl, rfl, rfl, rfl, trivial⟩ ⟨((x23.trans x30).trans x37), by first | exact (c1.ext x37) | (rw [show g = 1 from Classical.byContradiction fun h => h26 h, Nat.div_one]; exact (c1.ext x37)), by first | exact c2 | (rw [show g = 1 from Classical.byContradiction fun h => h26 h, Nat.div_one]; exact c2)⟩
        · refine c_skip ?_
          exact n_meet (v9, v15) ⟨rfl, rfl, rfl, rfl, trivial⟩ ⟨x23, by first | exact (b9.ext (x15.trans x23)) | (rw [show g = 1 from Classical.byContradiction fun h => h26 h, Nat.div_one]; exact (b9.ext (x15.trans x23))), by first | exact (b15.ext x23) | (rw [show g = 1 from Classical.byContradiction fun h => h26 h, Nat.div_one]; exact (b15.ext x23))⟩
      rintro ⟨v1, v2⟩ w8 ⟨x8, b1, b2⟩
      refine n_then (c_seq ?_)
      refine c_cut (fun p : Value => [(0, B s), (1, v1), (2, p), (6, .pointer (some ⟨g6, 0, none⟩))]) (fun p w' => w8 = w' ∧ Wds (cqD (val n) (val d)) p w') ?_ ?_
      · refine c_seq (c_region (o_move rfl rfl (o_call call_QUnit rfl rfl (QUnit_spec b2) ?_)))
        rintro v42 _ ⟨rfl, rfl⟩
        refine o_nil (n_then ?_)
        refine c_if rfl (fun h42 => ?_) (fun h42 => ?_)
        · refine c_region (o_assign rfl rfl (o_nil ?_))
          exact n_meet (.slice none 0 0) ⟨rfl, rfl, rfl, rfl, trivial⟩ ⟨rfl, by unfold cqD; rw [← hg]; first | (rw [if_pos h42]; exact Wds.nil _) | (rw [if_neg h42]; exact b2)⟩
        · refine c_skip ?_
          exact n_meet (v2) ⟨rfl, rfl, rfl, rfl, trivial⟩ ⟨rfl, by unfold cqD; rw [← hg]; first | (rw [if_pos h42]; exact Wds.nil _) | (rw [if_neg h42]; exact b2)⟩
      rintro v2' _ ⟨rfl, b2'⟩
      refine n_then (c_seq (c_region (o_move rfl rfl (o_move rfl rfl (o_move rfl rfl ?_)))))
      refine o_build (vs := [(0, B s), (1, v1), (2, v2')]) rfl rfl (r_buildR b1.isS b2'.isS) ?_
      obtain ⟨p, q, w3, hp, hs, q3, k3, n3, d3⟩ := (k6.ext (((x9.trans x15).trans x8))).stR ⟨_, _, _, rfl⟩ ⟨_, _, _, rfl⟩ (RatV.mk (b := s) b1 b2')
      refine o_store rfl rfl (hs) (o_nil (n_then (c_ret ?_)))
      refine r_bodyc rfl rfl k3 Try.underlying35 rfl size_Rat ?_
      exact ⟨_, rfl, ((((x6.trans x9).trans x15).trans x8)).of_new q3 l6, p, q, rfl, n3, d3⟩
theorem ud_len {m : List UInt32} (h : m.length ≤ 137438953472) : (ud m).length ≤ 137438953472 := by
  unfold ud
  split
  · simp
  · exact h
theorem QCanon_spec {w : World} {b : Bool} {n m : List UInt32} {v : Value} (hv : RatV b n m v w) (hnl : n.length ≤ 137438953472) (hml : m.length ≤ 137438953472) :
    Calls Try.prog 70 #[v] w (Ret fun r w' => Ext w w' ∧ RatV (cqN b (val n)) (lb (val n / Nat.gcd (val n) (val (ud m)))) (cqD (val n) (val (ud m))) r w') := by
  refine enter (vs := [v]) Try.func70 rfl rfl rfl ?_
  refine c_seq (c_region ?_)
  obtain ⟨g1, y1, z1, w1, hr1, x1, k1, n1, d1⟩ := r_boxR hv
  refine o_box rfl rfl hr1 ?_
  obtain ⟨g2, w2, hr2, l2, x2, k2⟩ := r_allocR (w := w1)
  refine o_alloc rfl hr2 (o_nil (n_then (c_seq (c_grow 7 [2, 9] (by kernel_rfl) (by kernel_rfl) ?_))))
  refine f_fieldAddr rfl rfl (fun w hw => r_fAt (o := 0) Try.underlying35 rfl (by kernel_rfl) rfl) (f_load rfl rfl (fun w hw => r_load1 Try.underlying4 rfl (hw.cell_some (x2.cell_some (k1.cell (i := 0) rfl)))) ?_)
  refine f_fieldAddr rfl rfl (fun w hw => r_fAt (o := 1) Try.underlying35 rfl (by kernel_rfl) rfl) (f_load rfl rfl (fun w hw => r_load1 Try.underlying33 rfl (hw.cell_some (x2.cell_some (k1.cell (i := 1) rfl)))) ?_)
  refine f_load rfl rfl (fun w hw => ((k1.ext x2).ext hw).ldR) (f_call (S := Wds (ud m)) call_QUnder (Wds.stable _) rfl (fun w hw => by rintro _ rfl; exact QUnder_spec (((RatV.mk n1 d1).ext x2).ext hw) (by omega)) ?_)
  refine f_call (S := RatV (cqN b (val n)) (lb (val n / Nat.gcd (val n) (val (ud m)))) (cqD (val n) (val (ud m)))) call_QQuot (RatV.stable _ _ _) rfl (fun w hw => by rintro _ rfl _ rfl z hz; exact QQuot_spec ((n1.ext x2).ext hw) hz (by omega) (by have := ud_len hml; omega) (ud_pos m)) ?_
  refine f_nil ?_
  intro wg1 xg1
  rintro _ rfl
  intro vg9 b9
  obtain ⟨p, q, w3, hp, hs, q3, k3, n3, d3⟩ := (k2.ext xg1).stR ⟨_, _, _, rfl⟩ ⟨_, _, _, rfl⟩ b9
  refine o_store rfl rfl (hs) (o_nil (n_then (c_ret ?_)))
  refine r_bodyc rfl rfl k3 Try.underlying35 rfl size_Rat ?_
  exact ⟨_, rfl, (((x1.trans x2).trans xg1)).of_new q3 (Nat.le_trans x1.size l2), p, q, rfl, n3, d3⟩
theorem cmpN_zero {x y : Nat} : cmpN x y = 0 ↔ x = y := by
  unfold cmpN
  split
  · omega
  · split <;> omega
theorem rv_nil {b : Bool} {n : List UInt32} : rv b n [] = decide (b = cqN b (val n) ∧ n = lb (val n)) := by
  unfold rv
  rw [show val (ud []) = 1 from rfl, Nat.gcd_one_right, Nat.div_one, cq_one]
  simp
theorem QValid_spec {w : World} {b : Bool} {n m : List UInt32} {v : Value} (hv : RatV b n m v w) (hnl : n.length ≤ 137438953472) (hml : m.length ≤ 137438953472) :
    Calls Try.prog 56 #[v] w (Ret fun r w' => Ext w w' ∧ r = B (rv b n m)) := by
  refine enter (vs := [v]) Try.func56 rfl rfl rfl ?_
  obtain ⟨b', hb'⟩ : ∃ b', b' = cqN b (val n) := ⟨_, rfl⟩
  obtain ⟨n', hn'⟩ : ∃ n', n' = lb (val n / Nat.gcd (val n) (val (ud m))) := ⟨_, rfl⟩
  obtain ⟨m', hm'⟩ : ∃ m', m' = cqD (val n) (val (ud m)) := ⟨_, rfl⟩
  have hrv : rv b n m = decide (b = b' ∧ n = n' ∧ m = m') := by rw [hb', hn', hm']; rfl
  refine c_seq (c_region ?_)
  obtain ⟨g1, y1, z1, w1, hr1, x1, k1, n1, d1⟩ := r_boxR hv
  refine o_box rfl rfl hr1 (o_assign rfl rfl (o_nil (n_then (c_seq (c_seq (c_region (o_fieldAddr rfl rfl (r_fAt (o := 2) Try.underlying35 rfl (by kernel_rfl) rfl) ?_)))))))
  refine o_load rfl rfl (r_load1 Try.underlying33 rfl (k1.cell (i := 2) rfl)) (o_len rfl rfl (r_lenW Try.underlying33 d1) (o_bin rfl rfl rfl (r_eql_i) ?_))
  refine o_nil (n_then ?_)
  refine c_if rfl (fun h7 => ?_) (fun h7 => ?_)
  · have hm0 : m = [] := List.eq_nil_of_length_eq_zero (by omega)
    subst hm0
    refine c_seq ?_
    cases b
    · refine c_region (o_fieldAddr rfl rfl (r_fAt (o := 1) Try.underlying35 rfl (by kernel_rfl) rfl) (o_load rfl rfl (r_load1 Try.underlying33 rfl (k1.cell (i := 1) rfl)) ?_))
      refine o_call call_NValid rfl rfl (NValid_spec n1) ?_
      rintro v10 _ ⟨rfl, rfl⟩
      refine o_move rfl rfl ?_
      refine o_dec (fun h11 => ?_) (fun h11 => ?_)
      · refine g_yes rfl (o_fieldAddr rfl rfl (r_fAt (o := 0) Try.underlying35 rfl (by kernel_rfl) rfl) (g_yes rfl (o_load rfl rfl (r_load1 Try.underlying4 rfl (k1.cell (i := 0) rfl)) ?_)))
        refine g_yes rfl (o_not rfl rfl r_not (g_yes rfl (o_move rfl rfl (g_no rfl rfl rfl (g_no rfl rfl rfl (g_no rfl rfl rfl (g_no rfl rfl rfl (g_yes rfl (o_pick_t rfl rfl rfl (o_pick_t rfl rfl rfl ?_))))))))))
        refine o_assign rfl rfl (o_nil (n_then (c_ret (r_then (r_body1 rfl rfl ?_)))))
        exact ⟨_, rfl, x1, by
          rw [rv_nil]
          first
          | exact congrArg B (decide_eq_true ⟨rfl, h11.symm⟩).symm
          | exact congrArg B (decide_eq_false fun h => h11 h.2.symm).symm
          | (have e := @lb_len0 (val n)
             rw [h11] at e
             refine congrArg B (decide_eq_decide.2 ⟨fun h => ⟨(decide_eq_true (show 0 < val n by omega)).symm, h11.symm⟩, fun h => ?_⟩)
             have : 0 < val n := of_decide_eq_true h.1.symm
             omega)⟩
      · refine g_no rfl rfl rfl (g_no rfl rfl rfl (g_no rfl rfl rfl (g_no rfl rfl rfl (g_undef rfl rfl rfl (g_undef rfl rfl rfl (g_undef rfl rfl rfl (g_undef rfl rfl rfl (g_no rfl rfl rfl ?_))))))))
        refine o_pick_f rfl rfl rfl (o_assign rfl rfl (o_nil (n_then (c_ret (r_then (r_body1 rfl rfl ?_))))))
        exact ⟨_, rfl, x1, by
          rw [rv_nil]
          first
          | exact congrArg B (decide_eq_true ⟨rfl, h11.symm⟩).symm
          | exact congrArg B (decide_eq_false fun h => h11 h.2.symm).symm
          | (have e := @lb_len0 (val n)
             rw [h11] at e
             refine congrArg B (decide_eq_decide.2 ⟨fun h => ⟨(decide_eq_true (show 0 < val n by omega)).symm, h11.symm⟩, fun h => ?_⟩)
             have : 0 < val n := of_decide_eq_true h.1.symm
             omega)⟩
    · refine c_region (o_fieldAddr rfl rfl (r_fAt (o := 1) Try.underlying35 rfl (by kernel_rfl) rfl) (o_load rfl rfl (r_load1 Try.underlying33 rfl (k1.cell (i := 1) rfl)) ?_))
      refine o_call call_NValid rfl rfl (NValid_spec n1) ?_
      rintro v10 _ ⟨rfl, rfl⟩
      refine o_move rfl rfl ?_
      refine o_dec (fun h11 => ?_) (fun h11 => ?_)
      · refine g_yes rfl (o_fieldAddr rfl rfl (r_fAt (o := 0) Try.underlying35 rfl (by kernel_rfl) rfl) (g_yes rfl (o_load rfl rfl (r_load1 Try.underlying4 rfl (k1.cell (i := 0) rfl)) ?_)))
        refine g_yes rfl (o_not rfl rfl r_not (g_yes rfl (o_move rfl rfl (g_yes rfl (o_fieldAddr rfl rfl (r_fAt (o := 1) Try.underlying35 rfl (by kernel_rfl) rfl) ?_)))))
        refine g_yes rfl (o_load rfl rfl (r_load1 Try.underlying33 rfl (k1.cell (i := 1) rfl)) (g_yes rfl (o_len rfl rfl (r_lenW Try.underlying33 n1) ?_)))
        refine g_yes rfl (o_bin rfl rfl rfl (r_gtr_i) (g_yes rfl (o_pick_f rfl rfl rfl (o_pick_t rfl rfl rfl (o_assign rfl rfl (o_nil (n_then (c_ret (r_then (r_body1 rfl rfl ?_))))))))))
        exact ⟨_, rfl, x1, by
          rw [rv_nil]
          first
          | exact congrArg B (decide_eq_true ⟨rfl, h11.symm⟩).symm
          | exact congrArg B (decide_eq_false fun h => h11 h.2.symm).symm
          | (have e := @lb_len0 (val n)
             rw [h11] at e
             refine congrArg B (decide_eq_decide.2 ⟨fun h => ⟨(decide_eq_true (show 0 < val n by omega)).symm, h11.symm⟩, fun h => ?_⟩)
             have : 0 < val n := of_decide_eq_true h.1.symm
             omega)⟩
      · refine g_no rfl rfl rfl (g_no rfl rfl rfl (g_no rfl rfl rfl (g_no rfl rfl rfl (g_undef rfl rfl rfl (g_undef rfl rfl rfl (g_undef rfl rfl rfl (g_undef rfl rfl rfl (g_no rfl rfl rfl ?_))))))))
        refine o_pick_f rfl rfl rfl (o_assign rfl rfl (o_nil (n_then (c_ret (r_then (r_body1 rfl rfl ?_))))))
        exact ⟨_, rfl, x1, by
          rw [rv_nil]
          first
          | exact congrArg B (decide_eq_true ⟨rfl, h11.symm⟩).symm
          | exact congrArg B (decide_eq_false fun h => h11 h.2.symm).symm
          | (have e := @lb_len0 (val n)
             rw [h11] at e
             refine congrArg B (decide_eq_decide.2 ⟨fun h => ⟨(decide_eq_true (show 0 < val n by omega)).symm, h11.symm⟩, fun h => ?_⟩)
             have : 0 < val n := of_decide_eq_true h.1.symm
             omega)⟩
  · refine c_skip (n_then (c_seq (c_region (o_load rfl rfl (k1.ldR) (o_call call_QCanon rfl rfl (QCanon_spec (RatV.mk n1 d1) hnl hml) ?_)))))
    rintro v23 w23 ⟨x23, b23⟩
    rw [← hb', ← hn', ← hm'] at b23
    obtain ⟨g3, w3, hr3, l3, x3, k3⟩ := r_allocR (w := w23)
    refine o_alloc rfl hr3 ?_
    obtain ⟨p, q, w4, hp, hs, q4, k4, n3, d3⟩ := k3.stR ⟨_, _, _, rfl⟩ ⟨_, _, _, rfl⟩ (b23.ext x3)
    refine o_store rfl rfl (hs) ?_
    have x4 := (x23.trans x3).of_new q4 (Nat.le_trans x23.size l3)
    refine o_nil (n_then (c_seq (c_region (o_fieldAddr rfl rfl (r_fAt (o := 0) Try.underlying35 rfl (by kernel_rfl) rfl) (o_load rfl rfl (r_load1 Try.underlying4 rfl (x4.cell_some (k1.cell (i := 0) rfl))) ?_)))))
    refine o_fieldAddr rfl rfl (r_fAt (o := 0) Try.underlying35 rfl (by kernel_rfl) rfl) (o_load rfl rfl (r_load1 Try.underlying4 rfl (k4.cell (i := 0) rfl)) ?_)
    refine o_bin rfl rfl rfl (r_eql_b Try.underlying4) (o_move rfl rfl ?_)
    refine o_dec (fun h29 => ?_) (fun h29 => ?_)
    · refine g_yes rfl (o_fieldAddr rfl rfl (r_fAt (o := 1) Try.underlying35 rfl (by kernel_rfl) rfl) (g_yes rfl (o_load rfl rfl (r_load1 Try.underlying33 rfl (x4.cell_some (k1.cell (i := 1) rfl))) ?_)))
      refine g_yes rfl (o_len rfl rfl (r_lenW Try.underlying33 (n1.ext x4)) (g_yes rfl (o_fieldAddr rfl rfl (r_fAt (o := 1) Try.underlying35 rfl (by kernel_rfl) rfl) ?_)))
      refine g_yes rfl (o_load rfl rfl (r_load1 Try.underlying33 rfl (k4.cell (i := 1) rfl)) (g_yes rfl (o_len rfl rfl (r_lenW Try.underlying33 n3) ?_)))
      refine g_yes rfl (o_bin rfl rfl rfl (r_eql_i) (o_pick_t rfl rfl rfl (o_move rfl rfl ?_)))
      refine o_dec (fun h38 => ?_) (fun h38 => ?_)
      · refine g_yes rfl (o_fieldAddr rfl rfl (r_fAt (o := 2) Try.underlying35 rfl (by kernel_rfl) rfl) (g_yes rfl (o_load rfl rfl (r_load1 Try.underlying33 rfl (x4.cell_some (k1.cell (i := 2) rfl))) ?_)))
        refine g_yes rfl (o_len rfl rfl (r_lenW Try.underlying33 (d1.ext x4)) (g_yes rfl (o_fieldAddr rfl rfl (r_fAt (o := 2) Try.underlying35 rfl (by kernel_rfl) rfl) ?_)))
        refine g_yes rfl (o_load rfl rfl (r_load1 Try.underlying33 rfl (k4.cell (i := 2) rfl)) (g_yes rfl (o_len rfl rfl (r_lenW Try.underlying33 d3) ?_)))
        refine g_yes rfl (o_bin rfl rfl rfl (r_eql_i) (o_pick_t rfl rfl rfl (o_move rfl rfl ?_)))
        refine o_dec (fun h47 => ?_) (fun h47 => ?_)
        · refine g_yes rfl (o_fieldAddr rfl rfl (r_fAt (o := 1) Try.underlying35 rfl (by kernel_rfl) rfl) (g_yes rfl (o_load rfl rfl (r_load1 Try.underlying33 rfl (x4.cell_some (k1.cell (i := 1) rfl))) ?_)))
          refine g_yes rfl (o_fieldAddr rfl rfl (r_fAt (o := 1) Try.underlying35 rfl (by kernel_rfl) rfl) (g_yes rfl (o_load rfl rfl (r_load1 Try.underlying33 rfl (k4.cell (i := 1) rfl)) ?_)))
          refine g_yes rfl (o_call call_NCmp rfl rfl (NCmp_spec (n1.ext x4) n3) ?_)
          rintro v52 w52 ⟨x52, rfl⟩
          refine g_yes rfl (o_bin rfl rfl rfl (r_eql_i) (o_pick_t rfl rfl rfl (o_move rfl rfl ?_)))
          refine o_dec (fun h55 => ?_) (fun h55 => ?_)
          · refine g_yes rfl (o_fieldAddr rfl rfl (r_fAt (o := 2) Try.underlying35 rfl (by kernel_rfl) rfl) (g_yes rfl (o_load rfl rfl (r_load1 Try.underlying33 rfl ((x4.trans x52).cell_some (k1.cell (i := 2) rfl))) ?_)))
            refine g_yes rfl (o_fieldAddr rfl rfl (r_fAt (o := 2) Try.underlying35 rfl (by kernel_rfl) rfl) (g_yes rfl (o_load rfl rfl (r_load1 Try.underlying33 rfl (x52.cell_some (k4.cell (i := 2) rfl))) ?_)))
            refine g_yes rfl (o_call call_NCmp rfl rfl (NCmp_spec (d1.ext (x4.trans x52)) (d3.ext x52)) ?_)
            rintro v60 w60 ⟨x60, rfl⟩
            refine g_yes rfl (o_bin rfl rfl rfl (r_eql_i) (o_pick_t rfl rfl rfl (o_assign rfl rfl (o_nil (n_then (c_ret (r_body1 rfl rfl ?_)))))))
            exact ⟨_, rfl, (((x1.trans x4).trans x52).trans x60), by
              rw [hrv]
              first
              | exact congrArg B (decide_eq_decide.2 ⟨fun h => ⟨h29, val_inj (by omega) (cmpN_zero.1 h55), val_inj (by omega) (cmpN_zero.1 h)⟩, fun h => cmpN_zero.2 (by rw [h.2.2])⟩)
              | exact congrArg B (decide_eq_false fun h => h55 (cmpN_zero.2 (by rw [h.2.1]))).symm
              | exact congrArg B (decide_eq_false fun h => h47 (by rw [h.2.2])).symm
              | exact congrArg B (decide_eq_false fun h => h38 (by rw [h.2.1])).symm
              | exact congrArg B (decide_eq_false fun h => h29 h.1).symm⟩
          · refine g_no rfl rfl rfl (g_no rfl rfl rfl (g_no rfl rfl rfl (g_no rfl rfl rfl (g_no rfl rfl rfl (g_no rfl rfl rfl (o_pick_f rfl rfl rfl (o_assign rfl rfl (o_nil (n_then (c_ret (r_body1 rfl rfl ?_)))))))))))
            exact ⟨_, rfl, ((x1.trans x4).trans x52), by
              rw [hrv]
              first
              | exact congrArg B (decide_eq_decide.2 ⟨fun h => ⟨h29, val_inj (by omega) (cmpN_zero.1 h55), val_inj (by omega) (cmpN_zero.1 h)⟩, fun h => cmpN_zero.2 (by rw [h.2.2])⟩)
              | exact congrArg B (decide_eq_false fun h => h55 (cmpN_zero.2 (by rw [h.2.1]))).symm
              | exact congrArg B (decide_eq_false fun h => h47 (by rw [h.2.2])).symm
              | exact congrArg B (decide_eq_false fun h => h38 (by rw [h.2.1])).symm
              | exact congrArg B (decide_eq_false fun h => h29 h.1).symm⟩
        · refine g_no rfl rfl rfl (g_no rfl rfl rfl (g_no rfl rfl rfl (g_no rfl rfl rfl (g_no rfl rfl rfl (g_no rfl rfl rfl (o_pick_f rfl rfl rfl (o_move rfl rfl (g_no rfl rfl rfl (g_no rfl rfl rfl ?_)))))))))
          refine g_no rfl rfl rfl (g_no rfl rfl rfl (g_no rfl rfl rfl (g_no rfl rfl rfl (o_pick_f rfl rfl rfl (o_assign rfl rfl (o_nil (n_then (c_ret (r_body1 rfl rfl ?_)))))))))
          exact ⟨_, rfl, (x1.trans x4), by
            rw [hrv]
            first
            | exact congrArg B (decide_eq_decide.2 ⟨fun h => ⟨h29, val_inj (by omega) (cmpN_zero.1 h55), val_inj (by omega) (cmpN_zero.1 h)⟩, fun h => cmpN_zero.2 (by rw [h.2.2])⟩)
            | exact congrArg B (decide_eq_false fun h => h55 (cmpN_zero.2 (by rw [h.2.1]))).symm
            | exact congrArg B (decide_eq_false fun h => h47 (by rw [h.2.2])).symm
            | exact congrArg B (decide_eq_false fun h => h38 (by rw [h.2.1])).symm
            | exact congrArg B (decide_eq_false fun h => h29 h.1).symm⟩
      · refine g_no rfl rfl rfl (g_no rfl rfl rfl (g_no rfl rfl rfl (g_no rfl rfl rfl (g_no rfl rfl rfl (g_no rfl rfl rfl (g_no rfl rfl rfl (o_pick_f rfl rfl rfl (o_move rfl rfl (g_no rfl rfl rfl ?_)))))))))
        refine g_no rfl rfl rfl (g_no rfl rfl rfl (g_no rfl rfl rfl (g_no rfl rfl rfl (g_no rfl rfl rfl (o_pick_f rfl rfl rfl (o_move rfl rfl (g_no rfl rfl rfl (g_no rfl rfl rfl (g_no rfl rfl rfl ?_)))))))))
        refine g_no rfl rfl rfl (g_no rfl rfl rfl (g_no rfl rfl rfl (o_pick_f rfl rfl rfl (o_assign rfl rfl (o_nil (n_then (c_ret (r_body1 rfl rfl ?_))))))))
        exact ⟨_, rfl, (x1.trans x4), by
          rw [hrv]
          first
          | exact congrArg B (decide_eq_decide.2 ⟨fun h => ⟨h29, val_inj (by omega) (cmpN_zero.1 h55), val_inj (by omega) (cmpN_zero.1 h)⟩, fun h => cmpN_zero.2 (by rw [h.2.2])⟩)
          | exact congrArg B (decide_eq_false fun h => h55 (cmpN_zero.2 (by rw [h.2.1]))).symm
          | exact congrArg B (decide_eq_false fun h => h47 (by rw [h.2.2])).symm
          | exact congrArg B (decide_eq_false fun h => h38 (by rw [h.2.1])).symm
          | exact congrArg B (decide_eq_false fun h => h29 h.1).symm⟩
    · refine g_no rfl rfl rfl (g_no rfl rfl rfl (g_no rfl rfl rfl (g_no rfl rfl rfl (g_no rfl rfl rfl (g_no rfl rfl rfl (g_no rfl rfl rfl (o_pick_f rfl rfl rfl (o_move rfl rfl (g_no rfl rfl rfl ?_)))))))))
      refine g_no rfl rfl rfl (g_no rfl rfl rfl (g_no rfl rfl rfl (g_no rfl rfl rfl (g_no rfl rfl rfl (g_no rfl rfl rfl (o_pick_f rfl rfl rfl (o_move rfl rfl (g_no rfl rfl rfl (g_no rfl rfl rfl ?_)))))))))
      refine g_no rfl rfl rfl (g_no rfl rfl rfl (g_no rfl rfl rfl (g_no rfl rfl rfl (o_pick_f rfl rfl rfl (o_move rfl rfl (g_no rfl rfl rfl (g_no rfl rfl rfl (g_no rfl rfl rfl (g_no rfl rfl rfl ?_)))))))))
      refine g_no rfl rfl rfl (g_no rfl rfl rfl (o_pick_f rfl rfl rfl (o_assign rfl rfl (o_nil (n_then (c_ret (r_body1 rfl rfl ?_)))))))
      exact ⟨_, rfl, (x1.trans x4), by
        rw [hrv]
        first
        | exact congrArg B (decide_eq_decide.2 ⟨fun h => ⟨h29, val_inj (by omega) (cmpN_zero.1 h55), val_inj (by omega) (cmpN_zero.1 h)⟩, fun h => cmpN_zero.2 (by rw [h.2.2])⟩)
        | exact congrArg B (decide_eq_false fun h => h55 (cmpN_zero.2 (by rw [h.2.1]))).symm
        | exact congrArg B (decide_eq_false fun h => h47 (by rw [h.2.2])).symm
        | exact congrArg B (decide_eq_false fun h => h38 (by rw [h.2.1])).symm
        | exact congrArg B (decide_eq_false fun h => h29 h.1).symm⟩
end Go.Rl


/- Walks of package rational: the canonical form. Conditions: the numbers are shorter than 2^37 limbs. -/
import Derived.Test.YtaehfoogjjglcaaAm2
import Derived.Lib.AppendStr
import Derived.Laws.IdiomStrings
namespace Go.Rl
open Go.RowKit Go.Proofs
theorem call_QOne : Callable Try.prog 76 := ⟨_, Try.func76, by kernel_rfl, rfl⟩
theorem call_QUnit : Callable Try.prog 72 := ⟨_, Try.func72, by kernel_rfl, rfl⟩
theorem call_QUnder : Callable Try.prog 62 := ⟨_, Try.func62, by kernel_rfl, rfl⟩
theorem call_QQuot : Callable Try.prog 61 := ⟨_, Try.func61, by kernel_rfl, rfl⟩
theorem call_QCanon : Callable Try.prog 48 := ⟨_, Try.func48, by kernel_rfl, rfl⟩
theorem call_QValid : Callable Try.prog 25 := ⟨_, Try.func25, by kernel_rfl, rfl⟩
theorem dec_pick {p : Prop} {b : Bool} {dp : Decidable p} (h : b = @decide p dp) : B b = B (@decide p dp) := by rw [h]
theorem QOne_spec {w : World} :
    Calls Try.prog 76 #[] w (Ret fun r w' => Ext w w' ∧ Wds [1] r w') := by
  refine enter (vs := []) Try.func76 rfl rfl rfl ?_
  refine c_seq (c_region (o_assign rfl rfl (o_nil (n_then (c_seq (c_region ?_))))))
  obtain ⟨v1, w1, hr1, x1, o1, ob1⟩ := r_bsW Try.underlying39 (w := w) w.heap.size [1] (by simp) (Nat.le_refl _)
  refine o_buildSlice (vs := [(0, U32 (1))]) rfl rfl hr1 (o_assign rfl rfl (o_nil (n_then (c_ret (r_body1 rfl rfl ?_)))))
  exact ⟨_, rfl, x1, o1.wds⟩
theorem QUnit_spec {w : World} {x : Nat} {v : Value} (hv : Wds (lb x) v w) :
    Calls Try.prog 72 #[v] w (Ret fun r w' => w = w' ∧ r = B (decide (x = 1))) := by
  refine enter (vs := [v]) Try.func72 rfl rfl rfl ?_
  obtain ⟨t, ht⟩ : ∃ t, t = lb x := ⟨_, rfl⟩
  rw [← ht] at hv
  have h1 : x = 1 ↔ t = [1] := by rw [ht]; exact lb_is1.symm
  refine c_seq (c_region (o_assign rfl rfl (o_nil (n_then (c_seq (c_region (o_move rfl rfl (o_len rfl rfl (r_lenW Try.underlying39 hv) (o_bin rfl rfl rfl (r_eql_i) ?_)))))))))
  refine o_move rfl rfl ?_
  refine o_dec (fun h6 => ?_) (fun h6 => ?_)
  · refine g_yes rfl (o_move rfl rfl (g_yes rfl ?_))
    obtain ⟨a8, p8, q8⟩ := r_ixW Try.underlying39 hv (i := 0) (by omega) .i64
    refine o_indexAddr rfl rfl rfl (p8 _) (g_yes rfl (o_load rfl rfl (r_load1 Try.underlying88 rfl q8) (g_yes rfl (o_bin (v := U32 1) rfl rfl rfl (r_eql_u32) (o_pick_t rfl rfl rfl ?_)))))
    refine o_assign rfl rfl (o_nil (n_then (c_ret (r_body1 rfl rfl ?_))))
    exact ⟨_, rfl, rfl, by
      first
      | exact congrArg B (decide_eq_false fun h => h6 (by rw [h1.1 h]; rfl)).symm
      | exact congrArg B (decide_eq_decide.2 (by
          rw [h1]
          obtain ⟨y, rfl⟩ := List.length_eq_one_iff.1 (show t.length = 1 by omega)
          simp))⟩
  · refine g_no rfl rfl rfl (g_no rfl rfl rfl (g_no rfl rfl rfl (g_no rfl rfl rfl (o_pick_f rfl rfl rfl (o_assign rfl rfl (o_nil (n_then (c_ret (r_body1 rfl rfl ?_)))))))))
    exact ⟨_, rfl, rfl, by
      first
      | exact congrArg B (decide_eq_false fun h => h6 (by rw [h1.1 h]; rfl)).symm
      | exact congrArg B (decide_eq_decide.2 (by
          rw [h1]
          obtain ⟨y, rfl⟩ := List.length_eq_one_iff.1 (show t.length = 1 by omega)
          simp))⟩
theorem QUnder_spec {w : World} {b : Bool} {n m : List UInt32} {v : Value} (hv : RatV b n m v w) (hl : m.length ≤ 1099511627776) :
    Calls Try.prog 62 #[v] w (Ret fun r w' => Ext w w' ∧ Wds (ud m) r w') := by
  refine enter (vs := [v]) Try.func62 rfl rfl rfl ?_
  refine c_seq (c_region ?_)
  obtain ⟨g1, y1, z1, w1, hr1, x1, k1, n1, d1⟩ := r_boxR hv
  refine o_box rfl rfl hr1 (o_assign rfl rfl (o_nil (n_then (c_seq (c_seq (c_region (o_fieldAddr rfl rfl (r_fAt (o := 2) Try.underlying41 rfl (by kernel_rfl) rfl) ?_)))))))
  refine o_load rfl rfl (r_load1 Try.underlying39 rfl (k1.cell (i := 2) rfl)) (o_call call_NBits rfl rfl (NBits_spec d1 hl) ?_)
  rintro v5 _ ⟨rfl, rfl⟩
  refine o_bin rfl rfl rfl (r_eql_i) (o_nil (n_then ?_))
  refine c_if rfl (fun h6 => ?_) (fun h6 => ?_)
  · have h0 : val m = 0 := by
      rcases Nat.eq_zero_or_pos (val m) with h | h
      · exact h
      · have := bl_pos h
        omega
    refine c_seq (c_region (o_call (vs := []) call_QOne rfl rfl (QOne_spec) ?_))
    rintro v7 w7 ⟨x7, b7⟩
    refine o_assign rfl rfl (o_nil (n_then (c_ret (r_then (r_body1 rfl rfl ?_)))))
    exact ⟨_, rfl, (x1.trans x7), by unfold ud; rw [if_pos h0]; exact b7⟩
  · have h0 : val m ≠ 0 := fun h => h6 (by rw [h]; rfl)
    refine c_skip (n_then (c_seq (c_region (o_fieldAddr rfl rfl (r_fAt (o := 2) Try.underlying41 rfl (by kernel_rfl) rfl) (o_load rfl rfl (r_load1 Try.underlying39 rfl (k1.cell (i := 2) rfl)) ?_)))))
    refine o_assign rfl rfl (o_nil (n_then (c_ret (r_body1 rfl rfl ?_))))
    exact ⟨_, rfl, x1, by unfold ud; rw [if_neg h0]; exact d1⟩
theorem QQuot_spec {w : World} {s : Bool} {n d : List UInt32} {x y : Value} (hn : Wds n x w) (hd : Wds d y w) (hnl : n.length ≤ 274877906944) (hdl : d.length ≤ 274877906944) (hd0 : 0 < val d) :
    Calls Try.prog 61 #[B s, x, y] w (Ret fun r w' => Ext w w' ∧ RatV (cqN s (val n)) (lb (val n / Nat.gcd (val n) (val d))) (cqD (val n) (val d)) r w') := by
  refine enter (vs := [B s, x, y]) Try.func61 rfl rfl rfl ?_
  have hnn := lb_lt (val_lt n)
  have hdd := lb_lt (val_lt d)
  have hg0 := gcd_pos (n := val n) hd0
  refine c_seq (c_region ?_)
  obtain ⟨g6, w6, hr6, l6, x6, k6⟩ := r_allocR (w := w)
  refine o_alloc rfl hr6 (o_nil (n_then (c_seq (c_region (o_move rfl rfl (o_call call_NMake rfl rfl (NMake_spec (hn.ext x6) (by omega)) ?_))))))
  rintro v9 w9 ⟨x9, b9⟩
  refine o_assign rfl rfl (o_nil (n_then (c_seq (c_seq (c_region (o_move rfl rfl (o_len (r := I ((lb (val n)).length : Int)) rfl rfl (r_lenW Try.underlying39 b9) ?_)))))))
  refine o_bin rfl rfl rfl (r_eql_i) (o_nil (n_then ?_))
  refine c_if rfl (fun h12 => ?_) (fun h12 => ?_)
  · have hn0 : val n = 0 := lb_len0.1 (by omega)
    refine c_seq (c_region ?_)
    refine o_build (vs := []) rfl rfl r_buildR0 ?_
    obtain ⟨p, q, w3, hp, hs, q3, k3, n3, d3⟩ := (k6.ext (x9)).stR ⟨_, _, _, rfl⟩ ⟨_, _, _, rfl⟩ (RatV.mk (b := false) (Wds.nil _) (Wds.nil _))
    refine o_store rfl rfl (hs) (o_nil (n_then (c_ret (r_then ?_))))
    refine r_bodyc rfl rfl k3 Try.underlying41 rfl size_Rat ?_
    exact ⟨_, rfl, ((x6.trans x9)).of_new q3 l6, p, q, by rw [hn0]; unfold cqN; simp, by rw [hn0, Nat.zero_div]; exact n3, by rw [hn0, cq_zero hd0]; exact d3⟩
  · have hn0 : 0 < val n := by
      rcases Nat.eq_zero_or_pos (val n) with h | h
      · rw [h] at h12; simp [lb_zero] at h12
      · exact h
    have hcN : cqN s (val n) = s := by unfold cqN; rw [decide_eq_true hn0, Bool.and_true]
    rw [hcN]
    refine c_skip (n_then (c_seq (c_region (o_move rfl rfl (o_call call_NMake rfl rfl (NMake_spec (hd.ext (x6.trans x9)) (by omega)) ?_)))))
    rintro v15 w15 ⟨x15, b15⟩
    refine o_assign rfl rfl (o_nil (n_then (c_seq (c_seq (c_region (o_move rfl rfl (o_call call_QUnit rfl rfl (QUnit_spec b15) ?_)))))))
    rintro v17 _ ⟨rfl, rfl⟩
    refine o_nil (n_then ?_)
    refine c_if rfl (fun h17 => ?_) (fun h17 => ?_)
    · refine c_seq (c_region (o_move rfl rfl (o_move rfl rfl ?_)))
      refine o_build (vs := [(0, B s), (1, v9)]) rfl rfl (r_buildR2 b9.isS) ?_
      obtain ⟨p, q, w3, hp, hs, q3, k3, n3, d3⟩ := (k6.ext ((x9.trans x15))).stR ⟨_, _, _, rfl⟩ ⟨_, _, _, rfl⟩ (RatV.mk (b := s) (b9.ext (x15)) (Wds.nil _))
      refine o_store rfl rfl (hs) (o_nil (n_then (c_ret (r_then ?_))))
      refine r_bodyc rfl rfl k3 Try.underlying41 rfl size_Rat ?_
      exact ⟨_, rfl, (((x6.trans x9).trans x15)).of_new q3 l6, p, q, rfl, by rw [h17, Nat.gcd_one_right, Nat.div_one]; exact n3, by rw [h17, cq_one]; exact d3⟩
    · obtain ⟨g, hg⟩ : ∃ g, g = Nat.gcd (val n) (val d) := ⟨_, rfl⟩
      rw [← hg] at hg0 ⊢
      have hgl : (lb g).length ≤ d.length := Nat.le_trans (lb_len_lt (by rw [hg]; exact Nat.gcd_le_right _ hd0)) hdd
      refine c_skip (n_then (c_seq ?_))
      refine c_cut (fun p : Value × Value => [(0, B s), (1, p.1), (2, p.2), (6, .pointer (some ⟨g6, 0, none⟩))]) (fun p w' => Ext w15 w' ∧ Wds (lb (val n / g)) p.1 w' ∧ Wds (lb (val d / g)) p.2 w') ?_ ?_
      · refine c_seq (c_region (o_move rfl rfl (o_move rfl rfl (o_call call_NGcd rfl rfl ((by have := NGcd_spec (b9.ext x15) b15 (by omega) (by omega); rw [val_lb, val_lb] at this; exact this)) ?_))))
        rintro v23 w23 ⟨x23, b23⟩
        rw [← hg] at b23
        refine o_assign rfl rfl (o_nil (n_then (c_seq (c_region (o_move rfl rfl (o_call call_QUnit rfl rfl (QUnit_spec b23) ?_))))))
        rintro v25 _ ⟨rfl, rfl⟩
        refine o_not rfl rfl r_not_d (o_nil (n_then ?_))
        refine c_if rfl (fun h26 => ?_) (fun h26 => ?_)
        · refine c_seq (c_region (o_move rfl rfl (o_move rfl rfl (o_call call_NDivMod rfl rfl ((by have := NDivMod_spec (b9.ext (x15.trans x23)) b23 (by omega) (by omega) (by rw [val_lb]; exact hg0); rw [val_lb, val_lb] at this; exact this)) ?_))))
          rintro v30 w30 ⟨x30, q1, s1, rfl, c1, e1⟩
          refine o_move rfl rfl (o_extract rfl rfl (r_ext3_0) (o_extract rfl rfl r_ext3_1 (o_extract rfl rfl r_ext3_2 (o_assign rfl rfl (o_nil (n_then (c_region (o_move rfl rfl (o_move rfl rfl ?_)))))))))
          refine o_call call_NDivMod rfl rfl ((by have := NDivMod_spec (b15.ext (x23.trans x30)) (b23.ext x30) (by omega) (by omega) (by rw [val_lb]; exact hg0); rw [val_lb, val_lb] at this; exact this)) ?_
          rintro v37 w37 ⟨x37, q2, s2, rfl, c2, e2⟩
          refine o_move rfl rfl (o_extract rfl rfl (r_ext3_0) (o_extract rfl rfl r_ext3_1 (o_extract rfl rfl r_ext3_2 (o_assign rfl rfl (o_nil ?_)))))
          exact n_meet (q1, q2) ⟨rfl, rfl, rfl, rfl, trivial⟩ ⟨((x23.trans x30).trans x37), by first | exact (c1.ext x37) | (rw [show g = 1 from Classical.byContradiction fun h => h26 h, Nat.div_one]; exact (c1.ext x37)), by first | exact c2 | (rw [show g = 1 from Classical.byContradiction fun h => h26 h, Nat.div_one]; exact c2)⟩
        · refine c_skip ?_
          exact n_meet (v9, v15) ⟨rfl, rfl, rfl, rfl, trivial⟩ ⟨x23, by first | exact (b9.ext (x15.trans x23)) | (rw [show g = 1 from Classical.byContradiction fun h => h26 h, Nat.div_one]; exact (b9.ext (x15.trans x23))), by first | exact (b15.ext x23) | (rw [show g = 1 from Classical.byContradiction fun h => h26 h, Nat.div_one]; exact (b15.ext x23))⟩
      rintro ⟨v1, v2⟩ w8 ⟨x8, b1, b2⟩
      refine n_then (c_seq ?_)
      refine c_cut (fun p : Value => [(0, B s), (1, v1), (2, p), (6, .pointer (some ⟨g6, 0, none⟩))]) (fun p w' => w8 = w' ∧ Wds (cqD (val n) (val d)) p w') ?_ ?_
      · refine c_seq (c_region (o_move rfl rfl (o_call call_QUnit rfl rfl (QUnit_spec b2) ?_)))
        rintro v42 _ ⟨rfl, rfl⟩
        refine o_nil (n_then ?_)
        refine c_if rfl (fun h42 => ?_) (fun h42 => ?_)
        · refine c_region (o_assign rfl rfl (o_nil ?_))
          exact n_meet (.slice none 0 0) ⟨rfl, rfl, rfl, rfl, trivial⟩ ⟨rfl, by unfold cqD; rw [← hg]; first | (rw [if_pos h42]; exact Wds.nil _) | (rw [if_neg h42]; exact b2)⟩
        · refine c_skip ?_
          exact n_meet (v2) ⟨rfl, rfl, rfl, rfl, trivial⟩ ⟨rfl, by unfold cqD; rw [← hg]; first | (rw [if_pos h42]; exact Wds.nil _) | (rw [if_neg h42]; exact b2)⟩
      rintro v2' _ ⟨rfl, b2'⟩
      refine n_then (c_seq (c_region (o_move rfl rfl (o_move rfl rfl (o_move rfl rfl ?_)))))
      refine o_build (vs := [(0, B s), (1, v1), (2, v2')]) rfl rfl (r_buildR b1.isS b2'.isS) ?_
      obtain ⟨p, q, w3, hp, hs, q3, k3, n3, d3⟩ := (k6.ext (((x9.trans x15).trans x8))).stR ⟨_, _, _, rfl⟩ ⟨_, _, _, rfl⟩ (RatV.mk (b := s) b1 b2')
      refine o_store rfl rfl (hs) (o_nil (n_then (c_ret ?_)))
      refine r_bodyc rfl rfl k3 Try.underlying41 rfl size_Rat ?_
      exact ⟨_, rfl, ((((x6.trans x9).trans x15).trans x8)).of_new q3 l6, p, q, rfl, n3, d3⟩
theorem ud_len {m : List UInt32} (h : m.length ≤ 137438953472) : (ud m).length ≤ 137438953472 := by
  unfold ud
  split
  · simp
  · exact h
theorem QCanon_spec {w : World} {b : Bool} {n m : List UInt32} {v : Value} (hv : RatV b n m v w) (hnl : n.length ≤ 137438953472) (hml : m.length ≤ 137438953472) :
    Calls Try.prog 48 #[v] w (Ret fun r w' => Ext w w' ∧ RatV (cqN b (val n)) (lb (val n / Nat.gcd (val n) (val (ud m)))) (cqD (val n) (val (ud m))) r w') := by
  refine enter (vs := [v]) Try.func48 rfl rfl rfl ?_
  refine c_seq (c_region ?_)
  obtain ⟨g1, y1, z1, w1, hr1, x1, k1, n1, d1⟩ := r_boxR hv
  refine o_box rfl rfl hr1 ?_
  obtain ⟨g2, w2, hr2, l2, x2, k2⟩ := r_allocR (w := w1)
  refine o_alloc rfl hr2 (o_nil (n_then (c_seq (c_grow 7 [2, 9] (by kernel_rfl) (by kernel_rfl) ?_))))
  refine f_fieldAddr rfl rfl (fun w hw => r_fAt (o := 0) Try.underlying41 rfl (by kernel_rfl) rfl) (f_load rfl rfl (fun w hw => r_load1 Try.underlying4 rfl (hw.cell_some (x2.cell_some (k1.cell (i := 0) rfl)))) ?_)
  refine f_fieldAddr rfl rfl (fun w hw => r_fAt (o := 1) Try.underlying41 rfl (by kernel_rfl) rfl) (f_load rfl rfl (fun w hw => r_load1 Try.underlying39 rfl (hw.cell_some (x2.cell_some (k1.cell (i := 1) rfl)))) ?_)
  refine f_load rfl rfl (fun w hw => ((k1.ext x2).ext hw).ldR) (f_call (S := Wds (ud m)) call_QUnder (Wds.stable _) rfl (fun w hw => by rintro _ rfl; exact QUnder_spec (((RatV.mk n1 d1).ext x2).ext hw) (by omega)) ?_)
  refine f_call (S := RatV (cqN b (val n)) (lb (val n / Nat.gcd (val n) (val (ud m)))) (cqD (val n) (val (ud m)))) call_QQuot (RatV.stable _ _ _) rfl (fun w hw => by rintro _ rfl _ rfl z hz; exact QQuot_spec ((n1.ext x2).ext hw) hz (by omega) (by have := ud_len hml; omega) (ud_pos m)) ?_
  refine f_nil ?_
  intro wg1 xg1
  rintro _ rfl
  intro vg9 b9
  obtain ⟨p, q, w3, hp, hs, q3, k3, n3, d3⟩ := (k2.ext xg1).stR ⟨_, _, _, rfl⟩ ⟨_, _, _, rfl⟩ b9
  refine o_store rfl rfl (hs) (o_nil (n_then (c_ret ?_)))
  refine r_bodyc rfl rfl k3 Try.underlying41 rfl size_Rat ?_
  exact ⟨_, rfl, (((x1.trans x2).trans xg1)).of_new q3 (Nat.le_trans x1.size l2), p, q, rfl, n3, d3⟩
theorem cmpN_zero {x y : Nat} : cmpN x y = 0 ↔ x = y := by
  unfold cmpN
  split
  · omega
  · split <;> omega
theorem rv_nil {b : Bool} {n : List UInt32} : rv b n [] = decide (b = cqN b (val n) ∧ n = lb (val n)) := by
  unfold rv
  rw [show val (ud []) = 1 from rfl, Nat.gcd_one_right, Nat.div_one, cq_one]
  simp
theorem QValid_spec {w : World} {b : Bool} {n m : List UInt32} {v : Value} (hv : RatV b n m v w) (hnl : n.length ≤ 137438953472) (hml : m.length ≤ 137438953472) :
    Calls Try.prog 25 #[v] w (Ret fun r w' => Ext w w' ∧ r = B (rv b n m)) := by
  refine enter (vs := [v]) Try.func25 rfl rfl rfl ?_
  obtain ⟨b', hb'⟩ : ∃ b', b' = cqN b (val n) := ⟨_, rfl⟩
  obtain ⟨n', hn'⟩ : ∃ n', n' = lb (val n / Nat.gcd (val n) (val (ud m))) := ⟨_, rfl⟩
  obtain ⟨m', hm'⟩ : ∃ m', m' = cqD (val n) (val (ud m)) := ⟨_, rfl⟩
  have hrv : rv b n m = decide (b = b' ∧ n = n' ∧ m = m') := by rw [hb', hn', hm']; rfl
  refine c_seq (c_region ?_)
  obtain ⟨g1, y1, z1, w1, hr1, x1, k1, n1, d1⟩ := r_boxR hv
  refine o_box rfl rfl hr1 (o_assign rfl rfl (o_nil (n_then (c_seq (c_seq (c_region (o_fieldAddr rfl rfl (r_fAt (o := 2) Try.underlying41 rfl (by kernel_rfl) rfl) ?_)))))))
  refine o_load rfl rfl (r_load1 Try.underlying39 rfl (k1.cell (i := 2) rfl)) (o_len rfl rfl (r_lenW Try.underlying39 d1) (o_bin rfl rfl rfl (r_eql_i) ?_))
  refine o_nil (n_then ?_)
  refine c_if rfl (fun h7 => ?_) (fun h7 => ?_)
  · have hm0 : m = [] := List.eq_nil_of_length_eq_zero (by omega)
    subst hm0
    refine c_seq ?_
    cases b
    · refine c_region (o_fieldAddr rfl rfl (r_fAt (o := 1) Try.underlying41 rfl (by kernel_rfl) rfl) (o_load rfl rfl (r_load1 Try.underlying39 rfl (k1.cell (i := 1) rfl)) ?_))
      refine o_call call_NValid rfl rfl (NValid_spec n1) ?_
      rintro v10 _ ⟨rfl, rfl⟩
      refine o_move rfl rfl ?_
      refine o_dec (fun h11 => ?_) (fun h11 => ?_)
      · refine g_yes rfl (o_fieldAddr rfl rfl (r_fAt (o := 0) Try.underlying41 rfl (by kernel_rfl) rfl) (g_yes rfl (o_load rfl rfl (r_load1 Try.underlying4 rfl (k1.cell (i := 0) rfl)) ?_)))
        refine g_yes rfl (o_not rfl rfl r_not (g_yes rfl (o_move rfl rfl (g_no rfl rfl rfl (g_no rfl rfl rfl (g_no rfl rfl rfl (g_no rfl rfl rfl (g_yes rfl (o_pick_t rfl rfl rfl (o_pick_t rfl rfl rfl ?_))))))))))
        refine o_assign rfl rfl (o_nil (n_then (c_ret (r_then (r_body1 rfl rfl ?_)))))
        exact ⟨_, rfl, x1, by
          rw [rv_nil]
          first
          | exact congrArg B (decide_eq_true ⟨rfl, h11.symm⟩).symm
          | exact congrArg B (decide_eq_false fun h => h11 h.2.symm).symm
          | (have e := @lb_len0 (val n)
             rw [h11] at e
             refine congrArg B (decide_eq_decide.2 ⟨fun h => ⟨(decide_eq_true (show 0 < val n by omega)).symm, h11.symm⟩, fun h => ?_⟩)
             have : 0 < val n := of_decide_eq_true h.1.symm
             omega)⟩
      · refine g_no rfl rfl rfl (g_no rfl rfl rfl (g_no rfl rfl rfl (g_no rfl rfl rfl (g_undef rfl rfl rfl (g_undef rfl rfl rfl (g_undef rfl rfl rfl (g_undef rfl rfl rfl (g_no rfl rfl rfl ?_))))))))
        refine o_pick_f rfl rfl rfl (o_assign rfl rfl (o_nil (n_then (c_ret (r_then (r_body1 rfl rfl ?_))))))
        exact ⟨_, rfl, x1, by
          rw [rv_nil]
          first
          | exact congrArg B (decide_eq_true ⟨rfl, h11.symm⟩).symm
          | exact congrArg B (decide_eq_false fun h => h11 h.2.symm).symm
          | (have e := @lb_len0 (val n)
             rw [h11] at e
             refine congrArg B (decide_eq_decide.2 ⟨fun h => ⟨(decide_eq_true (show 0 < val n by omega)).symm, h11.symm⟩, fun h => ?_⟩)
             have : 0 < val n := of_decide_eq_true h.1.symm
             omega)⟩
    · refine c_region (o_fieldAddr rfl rfl (r_fAt (o := 1) Try.underlying41 rfl (by kernel_rfl) rfl) (o_load rfl rfl (r_load1 Try.underlying39 rfl (k1.cell (i := 1) rfl)) ?_))
      refine o_call call_NValid rfl rfl (NValid_spec n1) ?_
      rintro v10 _ ⟨rfl, rfl⟩
      refine o_move rfl rfl ?_
      refine o_dec (fun h11 => ?_) (fun h11 => ?_)
      · refine g_yes rfl (o_fieldAddr rfl rfl (r_fAt (o := 0) Try.underlying41 rfl (by kernel_rfl) rfl) (g_yes rfl (o_load rfl rfl (r_load1 Try.underlying4 rfl (k1.cell (i := 0) rfl)) ?_)))
        refine g_yes rfl (o_not rfl rfl r_not (g_yes rfl (o_move rfl rfl (g_yes rfl (o_fieldAddr rfl rfl (r_fAt (o := 1) Try.underlying41 rfl (by kernel_rfl) rfl) ?_)))))
        refine g_yes rfl (o_load rfl rfl (r_load1 Try.underlying39 rfl (k1.cell (i := 1) rfl)) (g_yes rfl (o_len rfl rfl (r_lenW Try.underlying39 n1) ?_)))
        refine g_yes rfl (o_bin rfl rfl rfl (r_gtr_i) (g_yes rfl (o_pick_f rfl rfl rfl (o_pick_t rfl rfl rfl (o_assign rfl rfl (o_nil (n_then (c_ret (r_then (r_body1 rfl rfl ?_))))))))))
        exact ⟨_, rfl, x1, by
          rw [rv_nil]
          first
          | exact congrArg B (decide_eq_true ⟨rfl, h11.symm⟩).symm
          | exact congrArg B (decide_eq_false fun h => h11 h.2.symm).symm
          | (have e := @lb_len0 (val n)
             rw [h11] at e
             refine congrArg B (decide_eq_decide.2 ⟨fun h => ⟨(decide_eq_true (show 0 < val n by omega)).symm, h11.symm⟩, fun h => ?_⟩)
             have : 0 < val n := of_decide_eq_true h.1.symm
             omega)⟩
      · refine g_no rfl rfl rfl (g_no rfl rfl rfl (g_no rfl rfl rfl (g_no rfl rfl rfl (g_undef rfl rfl rfl (g_undef rfl rfl rfl (g_undef rfl rfl rfl (g_undef rfl rfl rfl (g_no rfl rfl rfl ?_))))))))
        refine o_pick_f rfl rfl rfl (o_assign rfl rfl (o_nil (n_then (c_ret (r_then (r_body1 rfl rfl ?_))))))
        exact ⟨_, rfl, x1, by
          rw [rv_nil]
          first
          | exact congrArg B (decide_eq_true ⟨rfl, h11.symm⟩).symm
          | exact congrArg B (decide_eq_false fun h => h11 h.2.symm).symm
          | (have e := @lb_len0 (val n)
             rw [h11] at e
             refine congrArg B (decide_eq_decide.2 ⟨fun h => ⟨(decide_eq_true (show 0 < val n by omega)).symm, h11.symm⟩, fun h => ?_⟩)
             have : 0 < val n := of_decide_eq_true h.1.symm
             omega)⟩
  · refine c_skip (n_then (c_seq (c_region (o_load rfl rfl (k1.ldR) (o_call call_QCanon rfl rfl (QCanon_spec (RatV.mk n1 d1) hnl hml) ?_)))))
    rintro v23 w23 ⟨x23, b23⟩
    rw [← hb', ← hn', ← hm'] at b23
    obtain ⟨g3, w3, hr3, l3, x3, k3⟩ := r_allocR (w := w23)
    refine o_alloc rfl hr3 ?_
    obtain ⟨p, q, w4, hp, hs, q4, k4, n3, d3⟩ := k3.stR ⟨_, _, _, rfl⟩ ⟨_, _, _, rfl⟩ (b23.ext x3)
    refine o_store rfl rfl (hs) ?_
    have x4 := (x23.trans x3).of_new q4 (Nat.le_trans x23.size l3)
    refine o_nil (n_then (c_seq (c_region (o_fieldAddr rfl rfl (r_fAt (o := 0) Try.underlying41 rfl (by kernel_rfl) rfl) (o_load rfl rfl (r_load1 Try.underlying4 rfl (x4.cell_some (k1.cell (i := 0) rfl))) ?_)))))
    refine o_fieldAddr rfl rfl (r_fAt (o := 0) Try.underlying41 rfl (by kernel_rfl) rfl) (o_load rfl rfl (r_load1 Try.underlying4 rfl (k4.cell (i := 0) rfl)) ?_)
    refine o_bin rfl rfl rfl (r_eql_b Try.underlying4) (o_move rfl rfl ?_)
    refine o_dec (fun h29 => ?_) (fun h29 => ?_)
    · refine g_yes rfl (o_fieldAddr rfl rfl (r_fAt (o := 1) Try.underlying41 rfl (by kernel_rfl) rfl) (g_yes rfl (o_load rfl rfl (r_load1 Try.underlying39 rfl (x4.cell_some (k1.cell (i := 1) rfl))) ?_)))
      refine g_yes rfl (o_len rfl rfl (r_lenW Try.underlying39 (n1.ext x4)) (g_yes rfl (o_fieldAddr rfl rfl (r_fAt (o := 1) Try.underlying41 rfl (by kernel_rfl) rfl) ?_)))
      refine g_yes rfl (o_load rfl rfl (r_load1 Try.underlying39 rfl (k4.cell (i := 1) rfl)) (g_yes rfl (o_len rfl rfl (r_lenW Try.underlying39 n3) ?_)))
      refine g_yes rfl (o_bin rfl rfl rfl (r_eql_i) (o_pick_t rfl rfl rfl (o_move rfl rfl ?_)))
      refine o_dec (fun h38 => ?_) (fun h38 => ?_)
      · refine g_yes rfl (o_fieldAddr rfl rfl (r_fAt (o := 2) Try.underlying41 rfl (by kernel_rfl) rfl) (g_yes rfl (o_load rfl rfl (r_load1 Try.underlying39 rfl (x4.cell_some (k1.cell (i := 2) rfl))) ?_)))
        refine g_yes rfl (o_len rfl rfl (r_lenW Try.underlying39 (d1.ext x4)) (g_yes rfl (o_fieldAddr rfl rfl (r_fAt (o := 2) Try.underlying41 rfl (by kernel_rfl) rfl) ?_)))
        refine g_yes rfl (o_load rfl rfl (r_load1 Try.underlying39 rfl (k4.cell (i := 2) rfl)) (g_yes rfl (o_len rfl rfl (r_lenW Try.underlying39 d3) ?_)))
        refine g_yes rfl (o_bin rfl rfl rfl (r_eql_i) (o_pick_t rfl rfl rfl (o_move rfl rfl ?_)))
        refine o_dec (fun h47 => ?_) (fun h47 => ?_)
        · refine g_yes rfl (o_fieldAddr rfl rfl (r_fAt (o := 1) Try.underlying41 rfl (by kernel_rfl) rfl) (g_yes rfl (o_load rfl rfl (r_load1 Try.underlying39 rfl (x4.cell_some (k1.cell (i := 1) rfl))) ?_)))
          refine g_yes rfl (o_fieldAddr rfl rfl (r_fAt (o := 1) Try.underlying41 rfl (by kernel_rfl) rfl) (g_yes rfl (o_load rfl rfl (r_load1 Try.underlying39 rfl (k4.cell (i := 1) rfl)) ?_)))
          refine g_yes rfl (o_call call_NCmp rfl rfl (NCmp_spec (n1.ext x4) n3) ?_)
          rintro v52 w52 ⟨x52, rfl⟩
          refine g_yes rfl (o_bin rfl rfl rfl (r_eql_i) (o_pick_t rfl rfl rfl (o_move rfl rfl ?_)))
          refine o_dec (fun h55 => ?_) (fun h55 => ?_)
          · refine g_yes rfl (o_fieldAddr rfl rfl (r_fAt (o := 2) Try.underlying41 rfl (by kernel_rfl) rfl) (g_yes rfl (o_load rfl rfl (r_load1 Try.underlying39 rfl ((x4.trans x52).cell_some (k1.cell (i := 2) rfl))) ?_)))
            refine g_yes rfl (o_fieldAddr rfl rfl (r_fAt (o := 2) Try.underlying41 rfl (by kernel_rfl) rfl) (g_yes rfl (o_load rfl rfl (r_load1 Try.underlying39 rfl (x52.cell_some (k4.cell (i := 2) rfl))) ?_)))
            refine g_yes rfl (o_call call_NCmp rfl rfl (NCmp_spec (d1.ext (x4.trans x52)) (d3.ext x52)) ?_)
            rintro v60 w60 ⟨x60, rfl⟩
            refine g_yes rfl (o_bin rfl rfl rfl (r_eql_i) (o_pick_t rfl rfl rfl (o_assign rfl rfl (o_nil (n_then (c_ret (r_body1 rfl rfl ?_)))))))
            exact ⟨_, rfl, (((x1.trans x4).trans x52).trans x60), by
              rw [hrv]
              first
              | exact congrArg B (decide_eq_decide.2 ⟨fun h => ⟨h29, val_inj (by omega) (cmpN_zero.1 h55), val_inj (by omega) (cmpN_zero.1 h)⟩, fun h => cmpN_zero.2 (by rw [h.2.2])⟩)
              | exact congrArg B (decide_eq_false fun h => h55 (cmpN_zero.2 (by rw [h.2.1]))).symm
              | exact congrArg B (decide_eq_false fun h => h47 (by rw [h.2.2])).symm
              | exact congrArg B (decide_eq_false fun h => h38 (by rw [h.2.1])).symm
              | exact congrArg B (decide_eq_false fun h => h29 h.1).symm⟩
          · refine g_no rfl rfl rfl (g_no rfl rfl rfl (g_no rfl rfl rfl (g_no rfl rfl rfl (g_no rfl rfl rfl (g_no rfl rfl rfl (o_pick_f rfl rfl rfl (o_assign rfl rfl (o_nil (n_then (c_ret (r_body1 rfl rfl ?_)))))))))))
            exact ⟨_, rfl, ((x1.trans x4).trans x52), by
              rw [hrv]
              first
              | exact congrArg B (decide_eq_decide.2 ⟨fun h => ⟨h29, val_inj (by omega) (cmpN_zero.1 h55), val_inj (by omega) (cmpN_zero.1 h)⟩, fun h => cmpN_zero.2 (by rw [h.2.2])⟩)
              | exact congrArg B (decide_eq_false fun h => h55 (cmpN_zero.2 (by rw [h.2.1]))).symm
              | exact congrArg B (decide_eq_false fun h => h47 (by rw [h.2.2])).symm
              | exact congrArg B (decide_eq_false fun h => h38 (by rw [h.2.1])).symm
              | exact congrArg B (decide_eq_false fun h => h29 h.1).symm⟩
        · refine g_no rfl rfl rfl (g_no rfl rfl rfl (g_no rfl rfl rfl (g_no rfl rfl rfl (g_no rfl rfl rfl (g_no rfl rfl rfl (o_pick_f rfl rfl rfl (o_move rfl rfl (g_no rfl rfl rfl (g_no rfl rfl rfl ?_)))))))))
          refine g_no rfl rfl rfl (g_no rfl rfl rfl (g_no rfl rfl rfl (g_no rfl rfl rfl (o_pick_f rfl rfl rfl (o_assign rfl rfl (o_nil (n_then (c_ret (r_body1 rfl rfl ?_)))))))))
          exact ⟨_, rfl, (x1.trans x4), by
            rw [hrv]
            first
            | exact congrArg B (decide_eq_decide.2 ⟨fun h => ⟨h29, val_inj (by omega) (cmpN_zero.1 h55), val_inj (by omega) (cmpN_zero.1 h)⟩, fun h => cmpN_zero.2 (by rw [h.2.2])⟩)
            | exact congrArg B (decide_eq_false fun h => h55 (cmpN_zero.2 (by rw [h.2.1]))).symm
            | exact congrArg B (decide_eq_false fun h => h47 (by rw [h.2.2])).symm
            | exact congrArg B (decide_eq_false fun h => h38 (by rw [h.2.1])).symm
            | exact congrArg B (decide_eq_false fun h => h29 h.1).symm⟩
      · refine g_no rfl rfl rfl (g_no rfl rfl rfl (g_no rfl rfl rfl (g_no rfl rfl rfl (g_no rfl rfl rfl (g_no rfl rfl rfl (g_no rfl rfl rfl (o_pick_f rfl rfl rfl (o_move rfl rfl (g_no rfl rfl rfl ?_)))))))))
        refine g_no rfl rfl rfl (g_no rfl rfl rfl (g_no rfl rfl rfl (g_no rfl rfl rfl (g_no rfl rfl rfl (o_pick_f rfl rfl rfl (o_move rfl rfl (g_no rfl rfl rfl (g_no rfl rfl rfl (g_no rfl rfl rfl ?_)))))))))
        refine g_no rfl rfl rfl (g_no rfl rfl rfl (g_no rfl rfl rfl (o_pick_f rfl rfl rfl (o_assign rfl rfl (o_nil (n_then (c_ret (r_body1 rfl rfl ?_))))))))
        exact ⟨_, rfl, (x1.trans x4), by
          rw [hrv]
          first
          | exact congrArg B (decide_eq_decide.2 ⟨fun h => ⟨h29, val_inj (by omega) (cmpN_zero.1 h55), val_inj (by omega) (cmpN_zero.1 h)⟩, fun h => cmpN_zero.2 (by rw [h.2.2])⟩)
          | exact congrArg B (decide_eq_false fun h => h55 (cmpN_zero.2 (by rw [h.2.1]))).symm
          | exact congrArg B (decide_eq_false fun h => h47 (by rw [h.2.2])).symm
          | exact congrArg B (decide_eq_false fun h => h38 (by rw [h.2.1])).symm
          | exact congrArg B (decide_eq_false fun h => h29 h.1).symm⟩
    · refine g_no rfl rfl rfl (g_no rfl rfl rfl (g_no rfl rfl rfl (g_no rfl rfl rfl (g_no rfl rfl rfl (g_no rfl rfl rfl (g_no rfl rfl rfl (o_pick_f rfl rfl rfl (o_move rfl rfl (g_no rfl rfl rfl ?_)))))))))
      refine g_no rfl rfl rfl (g_no rfl rfl rfl (g_no rfl rfl rfl (g_no rfl rfl rfl (g_no rfl rfl rfl (g_no rfl rfl rfl (o_pick_f rfl rfl rfl (o_move rfl rfl (g_no rfl rfl rfl (g_no rfl rfl rfl ?_)))))))))
      refine g_no rfl rfl rfl (g_no rfl rfl rfl (g_no rfl rfl rfl (g_no rfl rfl rfl (o_pick_f rfl rfl rfl (o_move rfl rfl (g_no rfl rfl rfl (g_no rfl rfl rfl (g_no rfl rfl rfl (g_no rfl rfl rfl ?_)))))))))
      refine g_no rfl rfl rfl (g_no rfl rfl rfl (o_pick_f rfl rfl rfl (o_assign rfl rfl (o_nil (n_then (c_ret (r_body1 rfl rfl ?_)))))))
      exact ⟨_, rfl, (x1.trans x4), by
        rw [hrv]
        first
        | exact congrArg B (decide_eq_decide.2 ⟨fun h => ⟨h29, val_inj (by omega) (cmpN_zero.1 h55), val_inj (by omega) (cmpN_zero.1 h)⟩, fun h => cmpN_zero.2 (by rw [h.2.2])⟩)
        | exact congrArg B (decide_eq_false fun h => h55 (cmpN_zero.2 (by rw [h.2.1]))).symm
        | exact congrArg B (decide_eq_false fun h => h47 (by rw [h.2.2])).symm
        | exact congrArg B (decide_eq_false fun h => h38 (by rw [h.2.1])).symm
        | exact congrArg B (decide_eq_false fun h => h29 h.1).symm⟩
end Go.Rl
/- Walks of package relucertref03: the canonical form. Conditions: the numbers are shorter than 2^37 limbs. -/
namespace Go.Rl
open Go.RowKit Go.Proofs
theorem ud_lb {m : List UInt32} : val (lb (val (ud m))) = val (ud m) := val_lb _
end Go.Rl
/- Walks of the functions that append byte strings and texts. Conditions: what is appended to is short. -/
namespace Go.Rl
open Go.RowKit Go.Proofs Go.Lib


theorem strCells_S (l : List UInt8) : strCells ⟨l.toArray⟩ = l.map U8 := by
  simp [strCells]
  intro a _
  rfl
section
variable {w w0 : World} {l m : List UInt8} {v x : Value}
/-- The bytes of a text, anew. -/
theorem r_bytes (h : l.length ≤ 140737488355328) : ∃ r w', (convert 9 29 (S l)).run Try.prog w = .ok r w' ∧ Ext w w' ∧ Bts l r w' := by
  have hr := run_bytes_of_string (P := Try.prog) w 9 29 5 ⟨l.toArray⟩ Try.underlying9 Try.underlying29 Try.underlying5
  have hsz : (⟨l.toArray⟩ : ByteArray).size = l.length := by simp [ByteArray.size]
  refine ⟨_, _, hr, (Ext.refl w).drew.trans (Ext.new w.drew _), ?_⟩
  rw [hsz]
  have hge := grownCap_ge w l.length 0 5
  refine ⟨some ⟨w.heap.size, 0, none⟩, l.length, grownCap w l.length 0 5, rfl, hge, grownCap_le_maxLen w l.length 0 _ (by unfold maxLen; omega), by simp, fun _ => ⟨_, rfl, fun j u hu => ?_⟩, fun h => by cases h⟩
  have hws : w.drew.heap.size = w.heap.size := rfl
  have hg := heap_alloc_new w.drew (.cells (bytesRow ⟨l.toArray⟩ (grownCap w l.length 0 5)) 5 ((bytesRow ⟨l.toArray⟩ (grownCap w l.length 0 5)).size, (bytesRow ⟨l.toArray⟩ (grownCap w l.length 0 5)).size + 1))
  have hadd : (⟨w.heap.size, 0, none⟩ : Addr).add j = ⟨w.heap.size, j, none⟩ := by unfold Addr.add; split <;> simp_all
  rw [hws] at hg
  rw [hadd, cell_of_row _ _ j _ _ _ hg]
  rw [List.getElem?_map, Option.map_eq_some_iff] at hu
  obtain ⟨b, hb, rfl⟩ := hu
  obtain ⟨hj, hb⟩ := List.getElem?_eq_some_iff.1 hb
  unfold bytesRow
  rw [Array.getElem?_append_left (by simpa using hj)]
  simp [hj, hb, U8]
/-- append of a text's bytes onto a row of its own -/
theorem r_appS {base : Nat} {ty : TypeId} (hv : OwnB base l v w) (hb : l.length + m.length ≤ 140737488355328) (hbase : base ≤ w.heap.size) :
    ∃ r w', (Builtin.append_ #[29, 9] ty #[v, S m]).run Try.prog w = .ok r w' ∧ OwnB base (l ++ m) r w' ∧ w.grownBy w' v.ownBlock := by
  obtain ⟨n, hv⟩ := hv
  obtain ⟨i, hi, hz, hsize, hby⟩ := info_parts info_u8
  have hln : (l.map U8).length = n := by simpa using hv.1
  have hsz : (⟨m.toArray⟩ : ByteArray).size = m.length := by simp [ByteArray.size]
  simp only [List.length_map] at hln
  obtain ⟨r, w', h1, h2, h3, _⟩ := run_append_own_string (P := Try.prog) w base 29 9 ty 5 i Try.underlying29 Try.underlying9 hi hz hsize hby v n _ hv ⟨m.toArray⟩ (by rw [hsz]; unfold maxLen; omega) (by rw [hsz]; omega) hbase
  rw [strCells_S m, ← List.map_append] at h2
  exact ⟨r, w', h1, ⟨_, h2⟩, h3⟩
theorem Ext.of_own {base : Nat} {w' : World} (hx : Ext w0 w) (h : w.grownBy w' v.ownBlock) (hv : OwnB base l v w) (hb : w0.heap.size ≤ base) : Ext w0 w' :=
  hx.of_grown h fun k hk => Nat.le_trans hb (hv.ge k hk)

def encB (m : List UInt8) : List UInt8 := uv m.length ++ m
end
end Go.Rl
/- Walks of more of the reader: byte strings, texts, what is left. Conditions: the reader is not nil. -/
namespace Go.Rl
open Go.RowKit Go.Proofs

theorem call_Done : Callable Try.prog 22 := ⟨_, Try.func22, by kernel_rfl, rfl⟩

/-- A byte string with its length, read. -/
def rdB (l : List UInt8) : Option (List UInt8 × List UInt8) := (rdU l).bind fun p => if p.1 ≤ p.2.length then some (p.2.take p.1, p.2.drop p.1) else none
theorem rdB_encB {m : List UInt8} (h : m.length < 18446744073709551616) (t : List UInt8) : rdB (encB m ++ t) = some (m, t) := by
  unfold rdB encB
  rw [List.append_assoc, rdU_uv h]
  simp

section
variable {w : World} {g : Nat}
theorem ruv_spec {st : Option (List UInt8)} (hr : RdAt g st w) : Calls Try.prog 67 #[.pointer (some ⟨g, 0, none⟩)] w (Ret fun r w' => w.grownBy w' (some g) ∧ match st.bind rdU with
      | some (n, t) => r = .tuple #[U64 (UInt64.ofNat n), B true] ∧ RdAt g (some t) w'
      | none => r = .tuple #[U64 0, B false] ∧ ∃ l', RdAt g l' w') := by
  cases st with
  | none => exact (ruvarint_failed hr).mono fun e w' ⟨v, he, hv, hw⟩ => ⟨v, he, by subst hw; exact ⟨grownBy_refl _ _, hv, none, hr⟩⟩
  | some l =>
    refine (ruvarint_spec hr).mono fun e w' ⟨v, he, hg, hv⟩ => ⟨v, he, hg, ?_⟩
    show match rdU l with | some (n, t) => _ | none => _
    cases hrd : rdU l with
    | none => rw [hrd] at hv; exact ⟨hv.1, hv.2.imp' some fun _ h => h⟩
    | some p => rw [hrd] at hv; exact hv


def BytesR (g : Nat) (w : World) (o : Option (List UInt8 × List UInt8)) (r : Value) (w' : World) : Prop :=
  w.grownBy w' (some g) ∧ match o with
    | some (a, t) => ∃ v, r = .tuple #[v, I 0] ∧ Bts a v w' ∧ RdAt g (some t) w'
    | none => r = .tuple #[.slice none 0 0, I 5] ∧ RdAt g none w'
theorem rdB_len {l a t : List UInt8} (h : rdB l = some (a, t)) : a.length ≤ l.length := by
  unfold rdB at h
  cases hu : rdU l with
  | none => rw [hu] at h; cases h
  | some p =>
    obtain ⟨n, u⟩ := p
    rw [hu] at h
    have h : (if n ≤ u.length then some (u.take n, u.drop n) else none) = some (a, t) := h
    split at h
    · simp only [Option.some.injEq, Prod.mk.injEq] at h
      have := (rdU_inv hu).1
      rw [this, ← h.1]
      simp only [List.length_append, List.length_take]
      omega
    · cases h

def TextR (g : Nat) (w : World) (o : Option (List UInt8 × List UInt8)) (r : Value) (w' : World) : Prop :=
  w.grownBy w' (some g) ∧ match o with
    | some (a, t) => r = .tuple #[S a, I 0] ∧ RdAt g (some t) w'
    | none => r = .tuple #[S [], I 5] ∧ RdAt g none w'

theorem Done_spec {st : Option (List UInt8)} (hr : RdAt g st w) :
    Calls Try.prog 22 #[.pointer (some ⟨g, 0, none⟩)] w (Ret fun r w' => r = I (if st = some [] then 0 else 5) ∧ w' = w) := by
  obtain ⟨A, n, c, h1, h2, _⟩ := hr
  refine enter (vs := [.pointer (some ⟨g, 0, none⟩)]) Try.func22 rfl rfl rfl ?_
  refine c_seq (c_region (o_assign rfl rfl (o_nil (n_then (c_seq (c_seq (c_region (o_move rfl rfl ?_))))))))
  refine o_bin rfl rfl rfl (r_nenilp Try.underlying52) ?_
  refine o_move rfl rfl (g_yes rfl (o_move rfl rfl (g_yes rfl ?_)))
  refine o_nilCheck rfl rfl ?_
  refine g_yes rfl (o_fieldAddr rfl rfl (r_fieldAt Try.underlying78 rfl size_bool (by omega)) ?_)
  refine g_yes rfl (o_load rfl rfl (r_load1 Try.underlying4 rfl (cellAt (i := 1) h1 rfl)) ?_)
  cases st with
  | none =>
    refine g_yes rfl (o_move rfl rfl ?_)
    iterate 6 refine g_no rfl rfl rfl ?_
    refine g_yes rfl (o_pick_t rfl rfl rfl (o_pick_t rfl rfl rfl (o_nil (n_then ?_))))
    refine c_yes rfl ?_
    refine c_seq (c_region (o_assign rfl rfl (o_nil (n_then (c_ret (r_then ?_))))))
    refine r_body1 rfl rfl ?_
    exact ⟨_, rfl, rfl, rfl⟩
  | some l =>
    have h2' : Bts l (.slice A n c) w := h2
    refine g_yes rfl (o_move rfl rfl (g_yes rfl (o_move rfl rfl (g_yes rfl ?_))))
    refine o_nilCheck rfl rfl ?_
    refine g_yes rfl (o_fieldAddr rfl rfl (r_fieldAt Try.underlying78 rfl size_bytes (by omega)) ?_)
    refine g_yes rfl (o_load rfl rfl (r_load1 Try.underlying29 rfl (cellAt (i := 0) h1 rfl)) ?_)
    refine g_yes rfl (o_len rfl rfl (r_lenB h2') ?_)
    refine g_yes rfl (o_bin rfl rfl rfl r_gtr_i ?_)
    refine g_yes rfl (o_pick_f rfl rfl rfl (o_pick_t rfl rfl rfl (o_nil (n_then ?_))))
    refine c_if rfl (fun h => ?_) (fun h => ?_)
    · refine c_seq (c_region (o_assign rfl rfl (o_nil (n_then (c_ret (r_then ?_))))))
      refine r_body1 rfl rfl ?_
      have : some l ≠ some [] := by rintro ⟨⟩; simp at h
      rw [if_neg this]
      exact ⟨_, rfl, rfl, rfl⟩
    · refine c_skip (n_then (c_seq (c_region (o_assign rfl rfl (o_nil (n_then (c_ret ?_)))))))
      refine r_body1 rfl rfl ?_
      have : l = [] := List.eq_nil_of_length_eq_zero (by omega)
      subst this
      exact ⟨_, rfl, rfl, rfl⟩
end
end Go.Rl
/- Reading limbs and rationals, in plain words; what stays when a reader moves on. No condition. -/
namespace Go.Rl
open Go.RowKit Go.Proofs

/-! ### What stays -/
/-- Bytes and limbs stay. -/
structure Kp (w w' : World) : Prop where
  size : w.heap.size ≤ w'.heap.size
  bts : ∀ {l : List UInt8} {v : Value}, Bts l v w → Bts l v w'
  wds : ∀ {l : List UInt32} {v : Value}, Wds l v w → Wds l v w'
theorem Kp.of_ext {w w' : World} (h : Ext w w') : Kp w w' := ⟨h.size, fun b => b.ext h, fun b => b.ext h⟩
theorem Kp.refl (w : World) : Kp w w := .of_ext (Ext.refl w)
theorem Kp.trans {a b c : World} (h : Kp a b) (k : Kp b c) : Kp a c := ⟨Nat.le_trans h.size k.size, fun x => k.bts (h.bts x), fun x => k.wds (h.wds x)⟩
theorem Bts.kp {w w' : World} {l : List UInt8} {v : Value} (h : Bts l v w) (k : Kp w w') : Bts l v w' := k.bts h
theorem Wds.kp {w w' : World} {l : List UInt32} {v : Value} (h : Wds l v w) (k : Kp w w') : Wds l v w' := k.wds h
theorem RatV.kp {w w' : World} {b : Bool} {n m : List UInt32} {v : Value} (h : RatV b n m v w) (k : Kp w w') : RatV b n m v w' := by
  obtain ⟨x, y, rfl, h1, h2⟩ := h
  exact ⟨x, y, rfl, h1.kp k, h2.kp k⟩
/-- The reader at block g, of type T. -/
def RdT (T : TypeId) (g : Nat) (st : Option (List UInt8)) (w : World) : Prop := ∃ A n c, Blk g T [.slice A n c, B st.isNone] w ∧ Bts (st.getD []) (.slice A n c) w ∧ LocB A g
theorem RdAt.rdT {g : Nat} {st : Option (List UInt8)} {w : World} (h : RdAt g st w) : RdT 78 g st w := h
theorem RdT.rdAt {g : Nat} {st : Option (List UInt8)} {w : World} (h : RdT 78 g st w) : RdAt g st w := h
section
variable {T : TypeId} {g : Nat} {st : Option (List UInt8)} {w w' : World}
theorem RdT.ext (h : RdT T g st w) (hx : Ext w w') : RdT T g st w' := by
  obtain ⟨A, n, c, h1, h2, h3⟩ := h
  exact ⟨A, n, c, h1.ext hx, h2.ext hx, h3⟩
theorem rd_noWord (A : Option Addr) (n c : Nat) (b : Bool) (l : List UInt32) : ∀ (j : Nat) (u : Value), u ∈ l.map U32 → (#[.slice A n c, .bool b] : Array Value)[j]? ≠ some u := by
  intro j u hu
  obtain ⟨x, _, rfl⟩ := List.mem_map.1 hu
  match j with
  | 0 => simp [U32]
  | 1 => simp [U32]
  | j + 2 => simp
theorem RdT.kp (hr : RdT T g st w) (hw : w.grownBy w' (some g)) : Kp w w' := by
  obtain ⟨A, n, c, h1, _⟩ := hr
  exact ⟨hw.size, fun h => Sl.keep h h1 (rd_noByte A n c _ _) hw, fun h => Sl.keep h h1 (rd_noWord A n c _ _) hw⟩
theorem RdT.other {T' : TypeId} {g' : Nat} {s : Option (List UInt8)} (h : RdT T' g' s w) (hr : RdT T g st w) (hw : w.grownBy w' (some g)) (hne : g' ≠ g) : RdT T' g' s w' := by
  obtain ⟨A, n, c, h1, h2, h3⟩ := h
  exact ⟨A, n, c, h1.other hw (fun e => hne (Option.some.inj e)), h2.kp (hr.kp hw), h3⟩
/-- The bytes of a reader are replaced. -/
theorem RdT.set {l l' : List UInt8} {v : Value} (h : RdT T g (some l) w) (hv : Bts l' v w) (hloc : ∀ A n c, v = .slice A n c → LocB A g) :
    ∃ w', (Instr.storeAt 29 (.pointer (some ⟨g, 0, none⟩)) v).run Try.prog w = .ok () w' ∧ w.grownBy w' (some g) ∧ RdT T g (some l') w' := by
  obtain ⟨A, n, c, h1, h2, h4⟩ := h
  obtain ⟨A', n', c', rfl, h3⟩ := id hv
  have hg := grownBy_setCell w g 0 (.slice A' n' c')
  have hk := RdT.kp (T := T) (st := some l) ⟨A, n, c, h1, h2, h4⟩ hg
  refine ⟨_, r_store1 (i := 0) size_bytes rfl h1 (by simp), hg, A', n', c', h1.set 0 _, hk.bts hv, hloc _ _ _ rfl⟩
end

theorem rat_noByte (b : Bool) (A C : Option Addr) (n c m d : Nat) (l : List UInt8) : ∀ (j : Nat) (u : Value), u ∈ l.map U8 → (#[.bool b, .slice A n c, .slice C m d] : Array Value)[j]? ≠ some u := by
  intro j u hu
  obtain ⟨x, _, rfl⟩ := List.mem_map.1 hu
  match j with
  | 0 => simp [U8]
  | 1 => simp [U8]
  | 2 => simp [U8]
  | j + 3 => simp
/-- A rational's block changes. -/
theorem Blk.kpR {g : Nat} {T : TypeId} {b : Bool} {x y : Value} {w w' : World} (h : Blk g T [B b, x, y] w) (hx : ∃ A n c, x = .slice A n c) (hy : ∃ A n c, y = .slice A n c) (hw : w.grownBy w' (some g)) : Kp w w' := by
  obtain ⟨A, n, c, rfl⟩ := hx
  obtain ⟨C, m, d, rfl⟩ := hy
  exact ⟨hw.size, fun k => Sl.keep k h (rat_noByte b A C n c m d _) hw, fun k => Sl.keep k h (rat_noWord b A C n c m d _) hw⟩
theorem RdT.off {T : TypeId} {g g' : Nat} {st : Option (List UInt8)} {w w' : World} (h : RdT T g st w) (k : Kp w w') (hw : w.grownBy w' (some g')) (hne : g ≠ g') : RdT T g st w' := by
  obtain ⟨A, n, c, h1, h2, h3⟩ := h
  exact ⟨A, n, c, h1.other hw (fun e => hne (Option.some.inj e)), h2.kp k, h3⟩
/-- A block that came later changes. -/
theorem gb_new {w w1 w2 : World} {row : Option Nat} {g : Nat} (h : w.grownBy w1 row) (q : w1.grownBy w2 (some g)) (hg : w.heap.size ≤ g) : w.grownBy w2 row :=
  ⟨q.os.trans h.os, q.tape.trans h.tape, q.output.trans h.output, Nat.le_trans h.size q.size, fun i hi hne => (q.block i (Nat.lt_of_lt_of_le hi h.size) (fun e => by have := Option.some.inj e; omega)).trans (h.block i hi hne)⟩
/-- A row in a block and a second result. -/
theorem r_bodyc2 {P : Program} {fn : Func} {R : Ending → World → Prop} {N : Nat} {fr : Fr} {p s : Tmp} {t T : TypeId} {u : Value} {l : List Value} {w : World} {g : Nat} {d : TypeDesc} (hr : fn.results = #[.cell p t, .tmp s]) (hv : lk fr p = some (.pointer (some ⟨g, 0, none⟩))) (hs : lk fr s = some u) (hb : Blk g T l w) (hu : P.underlying t = some d) (hd : d.isRow = true) (hi : (P.info? t).map (·.size) = some l.length)
    (h : R (.returned (.tuple #[.agg l.toArray, u])) w) : ExitJ (bodyPost P fn R) N [] fr w .ret := fun a ha => by
  refine ⟨ha.defers, .tuple #[.agg l.toArray, u], ?_, h⟩
  have hp := ha.at_ p _ hv
  have hp' : a.tmps[p]?.getD undef = .pointer (some ⟨g, 0, none⟩) := by simpa using hp
  have hq := ha.at_ s _ hs
  have hl := run_loadVar_row w g T t l.toArray (0, 0) d hb hu (by cases d <;> first | rfl | exact hd) (by simpa using hi)
  simp [results, hr, hp', asAddr, hl, ← hq]

/-! ### Folded integers -/
def uz (n : Nat) : Int := if n % 2 = 0 then ((n / 2 : Nat) : Int) else -((n / 2 : Nat) : Int) - 1
theorem uz_zig (n : Int) : uz (zig n) = n := by
  unfold uz zig
  split <;> split <;> omega
theorem zig_uz (n : Nat) : zig (uz n) = n := by
  unfold uz zig
  split <;> split <;> omega
theorem r_xor_0 {P : Program} {w : World} {t : TypeId} {x y : Operand} {q : Nat} (hq : q < 9223372036854775808) : (bin .xor t x y (I (q : Int)) (I 0)).run P w = .ok (I (q : Int)) w := by
  have h := r_xor_i (P := P) (w := w) (t := t) (x := x) (y := y) (a := Int64.ofInt q) (b := Int64.ofInt 0)
  rw [Int64.toInt_ofInt_of_le (by simp) (by simp; omega)] at h
  have e : (Int64.ofInt q ^^^ Int64.ofInt 0).toInt = q := by
    rw [show Int64.ofInt 0 = 0 from rfl, Int64.xor_zero, Int64.toInt_ofInt_of_le (by simp) (by simp; omega)]
  rw [e] at h
  exact h
theorem r_xor_1 {P : Program} {w : World} {t : TypeId} {x y : Operand} {q : Nat} (hq : q < 9223372036854775808) : (bin .xor t x y (I (q : Int)) (I (-1))).run P w = .ok (I (-(q : Int) - 1)) w := by
  have h := r_xor_i (P := P) (w := w) (t := t) (x := x) (y := y) (a := Int64.ofInt q) (b := Int64.ofInt (-1))
  rw [Int64.toInt_ofInt_of_le (by simp) (by simp; omega)] at h
  have e : (Int64.ofInt q ^^^ Int64.ofInt (-1)).toInt = -(q : Int) - 1 := by
    have : Int64.ofInt q ^^^ Int64.ofInt (-1) = ~~~ (Int64.ofInt q) := by
      apply Int64.toBitVec_inj.1
      rw [Int64.toBitVec_xor, Int64.toBitVec_not]
      have : (Int64.ofInt (-1)).toBitVec = BitVec.allOnes 64 := by decide
      rw [this, BitVec.xor_allOnes]
    rw [this, Int64.toInt_not, Int64.toInt_ofInt_of_le (by simp) (by simp; omega)]
    exact Int.bmod_eq_of_le (by simp; omega) (by simp; omega)
  rw [e] at h
  exact h

/-! ### Four bytes and a limb -/
def w4 (a b c d : UInt8) : UInt32 := UInt32.ofNat (a.toNat + 256 * b.toNat + 65536 * c.toNat + 16777216 * d.toNat)
theorem w4_nat (a b c d : UInt8) : (w4 a b c d).toNat = a.toNat + 256 * b.toNat + 65536 * c.toNat + 16777216 * d.toNat := by
  have := a.toNat_lt; have := b.toNat_lt; have := c.toNat_lt; have := d.toNat_lt
  unfold w4
  rw [UInt32.toNat_ofNat']
  omega
theorem w4_le4 (x : UInt32) : w4 x.toUInt8 (x >>> UInt32.ofNat 8).toUInt8 (x >>> UInt32.ofNat 16).toUInt8 (x >>> UInt32.ofNat 24).toUInt8 = x := by
  have := u32_lt x
  refine u32_ext ?_
  rw [w4_nat]
  simp only [UInt32.toNat_toUInt8, UInt32.toNat_shiftRight, show (UInt32.ofNat 8).toNat = 8 from rfl, show (UInt32.ofNat 16).toNat = 16 from rfl, show (UInt32.ofNat 24).toNat = 24 from rfl, Nat.shiftRight_eq_div_pow, Nat.reduceMod, Nat.reducePow]
  omega
theorem le4_w4 (a b c d : UInt8) : le4 (w4 a b c d) = [a, b, c, d] := by
  have ha := a.toNat_lt; have hb := b.toNat_lt; have hc := c.toNat_lt; have hd := d.toNat_lt
  have e : ∀ x y : UInt8, x.toNat = y.toNat → x = y := fun x y h => UInt8.toNat_inj.1 h
  have h := w4_nat a b c d
  unfold le4
  congr 1
  · refine e _ _ ?_
    rw [UInt32.toNat_toUInt8, h]; omega
  congr 1
  · refine e _ _ ?_
    rw [UInt32.toNat_toUInt8, UInt32.toNat_shiftRight, h, show (UInt32.ofNat 8).toNat % 32 = 8 from rfl, Nat.shiftRight_eq_div_pow]; omega
  congr 1
  · refine e _ _ ?_
    rw [UInt32.toNat_toUInt8, UInt32.toNat_shiftRight, h, show (UInt32.ofNat 16).toNat % 32 = 16 from rfl, Nat.shiftRight_eq_div_pow]; omega
  congr 1
  · refine e _ _ ?_
    rw [UInt32.toNat_toUInt8, UInt32.toNat_shiftRight, h, show (UInt32.ofNat 24).toNat % 32 = 24 from rfl, Nat.shiftRight_eq_div_pow]; omega
theorem u8_u32 (a : UInt8) : a.toUInt32.toNat = a.toNat := by simp
theorem w4_or (a b c d : UInt8) : ((a.toUInt32 ||| (b.toUInt32 <<< UInt32.ofNat 8)) ||| (c.toUInt32 <<< UInt32.ofNat 16)) ||| (d.toUInt32 <<< UInt32.ofNat 24) = w4 a b c d := by
  have ha := a.toNat_lt; have hb := b.toNat_lt; have hc := c.toNat_lt; have hd := d.toNat_lt
  have sh : ∀ (x : UInt8) (k : Nat), k ≤ 24 → (x.toUInt32 <<< UInt32.ofNat k).toNat = x.toNat <<< k := fun x k hk => by
    have hx := x.toNat_lt
    rw [UInt32.toNat_shiftLeft, u8_u32]
    have : (UInt32.ofNat k).toNat % 32 = k := by rw [UInt32.toNat_ofNat']; omega
    rw [this, Nat.shiftLeft_eq]
    have : 2 ^ k ≤ 2 ^ 24 := Nat.pow_le_pow_right (by omega) hk
    have : x.toNat * 2 ^ k ≤ 255 * 2 ^ 24 := Nat.mul_le_mul (by omega) this
    omega
  refine u32_ext ?_
  rw [w4_nat]
  simp only [UInt32.toNat_or, sh _ 8 (by omega), sh _ 16 (by omega), sh _ 24 (by omega), u8_u32]
  rw [Nat.or_comm a.toNat, ← Nat.shiftLeft_add_eq_or_of_lt (by omega), Nat.or_comm _ (c.toNat <<< 16), ← Nat.shiftLeft_add_eq_or_of_lt (by rw [Nat.shiftLeft_eq]; omega), Nat.or_comm _ (d.toNat <<< 24), ← Nat.shiftLeft_add_eq_or_of_lt (by simp only [Nat.shiftLeft_eq]; omega)]
  simp only [Nat.shiftLeft_eq]
  omega
theorem w4_add (a b c d : UInt8) : ((a.toUInt32 + (b.toUInt32 * 256)) + (c.toUInt32 * 65536)) + (d.toUInt32 * 16777216) = w4 a b c d := by
  have ha := a.toNat_lt; have hb := b.toNat_lt; have hc := c.toNat_lt; have hd := d.toNat_lt
  refine u32_ext ?_
  rw [w4_nat]
  simp only [UInt32.toNat_add, UInt32.toNat_mul, u8_u32, show (256 : UInt32).toNat = 256 from rfl, show (65536 : UInt32).toNat = 65536 from rfl, show (16777216 : UInt32).toNat = 16777216 from rfl]
  omega

def unle4 : List UInt8 → List UInt32
  | a :: b :: c :: d :: l => w4 a b c d :: unle4 l
  | _ => []
theorem unle4_len : ∀ (n : Nat) (l : List UInt8), l.length = 4 * n → (unle4 l).length = n
  | 0, [], _ => rfl
  | n + 1, a :: b :: c :: d :: l, h => by
    have := unle4_len n l (by simp at h; omega)
    simp [unle4, this]
  | n + 1, [], h => by simp at h
  | n + 1, [_], h => by simp at h; omega
  | n + 1, [_, _], h => by simp at h; omega
  | n + 1, [_, _, _], h => by simp at h; omega
theorem unle4_le4s : ∀ (l : List UInt32), unle4 (le4s l) = l
  | [] => rfl
  | x :: l => by
    have e : le4s (x :: l) = le4 x ++ le4s l := by simp [le4s]
    rw [e, le4, List.cons_append, List.cons_append, List.cons_append, List.cons_append, List.nil_append, unle4, w4_le4, unle4_le4s l]
theorem le4s_unle4 : ∀ (n : Nat) (l : List UInt8), l.length = 4 * n → le4s (unle4 l) = l
  | 0, [], _ => rfl
  | n + 1, a :: b :: c :: d :: l, h => by
    have := le4s_unle4 n l (by simp at h; omega)
    have e : ∀ x (l : List UInt32), le4s (x :: l) = le4 x ++ le4s l := fun x l => by simp [le4s]
    rw [unle4, e, this, le4_w4]; rfl
  | n + 1, [], h => by simp at h
  | n + 1, [_], h => by simp at h; omega
  | n + 1, [_, _], h => by simp at h; omega
  | n + 1, [_, _, _], h => by simp at h; omega
/-- One limb more. -/
theorem unle4_next : ∀ (i : Nat) (l : List UInt8) (h : 4 * (i + 1) ≤ l.length), unle4 (l.take (4 * (i + 1))) = unle4 (l.take (4 * i)) ++ [w4 (l[4 * i]) (l[4 * i + 1]) (l[4 * i + 2]) (l[4 * i + 3])]
  | 0, a :: b :: c :: d :: l, _ => by simp [unle4]
  | i + 1, a :: b :: c :: d :: l, h => by
    have := unle4_next i l (by simp at h; omega)
    have e1 : 4 * (i + 1 + 1) = 4 * (i + 1) + 4 := by omega
    have e2 : 4 * (i + 1) = 4 * i + 4 := by omega
    simp only [e1, List.take_succ_cons, unle4, this]
    simp only [e2, List.take_succ_cons, unle4, List.cons_append]
    rfl
  | i, [], h => by simp at h
  | i, [_], h => by simp at h; omega
  | i, [_, _], h => by simp at h; omega
  | i, [_, _, _], h => by simp at h; omega

/-! ### Numbers and rationals -/
/-- Limbs, with their count ahead; only the canonical ones are read. -/
def rdN (l : List UInt8) : Option (List UInt32 × List UInt8) := (rdU l).bind fun p =>
  if p.1 ≤ p.2.length / 4 ∧ lb (val (unle4 (p.2.take (4 * p.1)))) = unle4 (p.2.take (4 * p.1)) then some (unle4 (p.2.take (4 * p.1)), p.2.drop (4 * p.1)) else none
theorem rdN_encN {m : List UInt32} (h : m.length < 18446744073709551616) (hm : lb (val m) = m) (t : List UInt8) : rdN (encN m ++ t) = some (m, t) := by
  have hl := le4s_len m
  have e1 : (le4s m ++ t).take (4 * m.length) = le4s m := by rw [← hl, List.take_left']; rfl
  have e2 : (le4s m ++ t).drop (4 * m.length) = t := by rw [← hl, List.drop_left']; rfl
  unfold rdN encN
  rw [List.append_assoc, rdU_uv h]
  show (if m.length ≤ (le4s m ++ t).length / 4 ∧ lb (val (unle4 ((le4s m ++ t).take (4 * m.length)))) = unle4 ((le4s m ++ t).take (4 * m.length)) then some (unle4 ((le4s m ++ t).take (4 * m.length)), (le4s m ++ t).drop (4 * m.length)) else none) = _
  rw [e1, e2, unle4_le4s, if_pos ⟨by simp only [List.length_append, hl]; omega, hm⟩]
theorem rdN_inv {l t : List UInt8} {m : List UInt32} (h : rdN l = some (m, t)) : l = encN m ++ t ∧ lb (val m) = m ∧ m.length < 18446744073709551616 := by
  unfold rdN at h
  cases hu : rdU l with
  | none => rw [hu] at h; cases h
  | some p =>
    obtain ⟨n, u⟩ := p
    rw [hu] at h
    have h : (if n ≤ u.length / 4 ∧ lb (val (unle4 (u.take (4 * n)))) = unle4 (u.take (4 * n)) then some (unle4 (u.take (4 * n)), u.drop (4 * n)) else none) = some (m, t) := h
    split at h
    · rename_i hc
      simp only [Option.some.injEq, Prod.mk.injEq] at h
      have hl : (u.take (4 * n)).length = 4 * n := by rw [List.length_take]; omega
      have hn := unle4_len n _ hl
      obtain ⟨h1, h2⟩ := rdU_inv hu
      rw [← h.1, ← h.2]
      refine ⟨?_, hc.2, by omega⟩
      unfold encN
      rw [hn, le4s_unle4 n _ hl, List.append_assoc, List.take_append_drop]
      exact h1
    · cases h
/-- A rational: its sign, its numerator, its denominator; only the canonical ones are read. -/
def rdR : List UInt8 → Option ((Bool × List UInt32 × List UInt32) × List UInt8)
  | [] => none
  | c :: l => if 1 < c.toNat then none else (rdN l).bind fun p => (rdN p.2).bind fun q => if rv (decide (c.toNat = 1)) p.1 q.1 = true then some ((decide (c.toNat = 1), p.1, q.1), q.2) else none
end Go.Rl
/- Walks of the reader's limbs and rationals. Conditions: the bytes are not more than 2^39. -/
namespace Go.Rl
open Go.RowKit Go.Proofs
theorem call_rnat : Callable Try.prog 70 := ⟨_, Try.func70, by kernel_rfl, rfl⟩
theorem call_RRat : Callable Try.prog 59 := ⟨_, Try.func59, by kernel_rfl, rfl⟩
theorem call_RInt : Callable Try.prog 58 := ⟨_, Try.func58, by kernel_rfl, rfl⟩
section
variable {w : World} {g : Nat}
theorem ruv_none {st : Option (List UInt8)} (hr : RdAt g st w) (h : st.bind rdU = none) : Calls Try.prog 67 #[.pointer (some ⟨g, 0, none⟩)] w (Ret fun r w' => w.grownBy w' (some g) ∧ r = .tuple #[U64 0, B false] ∧ ∃ l', RdAt g l' w') := by
  have := ruv_spec hr
  rw [h] at this
  exact this
theorem ruv_some {st : Option (List UInt8)} {n : Nat} {t : List UInt8} (hr : RdAt g st w) (h : st.bind rdU = some (n, t)) : Calls Try.prog 67 #[.pointer (some ⟨g, 0, none⟩)] w (Ret fun r w' => w.grownBy w' (some g) ∧ r = .tuple #[U64 (UInt64.ofNat n), B true] ∧ RdAt g (some t) w') := by
  have := ruv_spec hr
  rw [h] at this
  exact this
end
theorem rdN_u0 {st : Option (List UInt8)} (h : st.bind rdU = none) : st.bind rdN = none := by
  cases st with
  | none => rfl
  | some l =>
    have h : rdU l = none := h
    show rdN l = none
    unfold rdN
    rw [h]; rfl
theorem rdN_u1 {st : Option (List UInt8)} {n : Nat} {t : List UInt8} (h : st.bind rdU = some (n, t)) : st.bind rdN = if n ≤ t.length / 4 ∧ lb (val (unle4 (t.take (4 * n)))) = unle4 (t.take (4 * n)) then some (unle4 (t.take (4 * n)), t.drop (4 * n)) else none := by
  cases st with
  | none => cases h
  | some l =>
    have h : rdU l = some (n, t) := h
    show rdN l = _
    unfold rdN
    rw [h]; rfl
theorem rdU_len {st : Option (List UInt8)} {n : Nat} {t : List UInt8} {k : Nat} (h : st.bind rdU = some (n, t)) (hl : ∀ l, st = some l → l.length ≤ k) : t.length ≤ k ∧ n < 18446744073709551616 := by
  cases st with
  | none => cases h
  | some l =>
    obtain ⟨h1, h2⟩ := rdU_inv (show rdU l = some (n, t) from h)
    have := hl l rfl
    rw [h1, List.length_append] at this
    exact ⟨by omega, h2⟩
/-- A slice whose array is new. -/
def NewS (b : Nat) (v : Value) : Prop := ∀ k, v.ownBlock = some k → b ≤ k
theorem agg_inj3 {s t : Bool} {a b c d : Value} (h : (Value.agg #[B s, a, b]) = .agg #[B t, c, d]) : a = c ∧ b = d := by
  injection h with h
  have := congrArg Array.toList h
  simp only [List.cons.injEq] at this
  exact ⟨this.2.1, this.2.2.1⟩
def NatR (g : Nat) (w : World) (o : Option (List UInt32 × List UInt8)) (r : Value) (w' : World) : Prop :=
  w.grownBy w' (some g) ∧ match o with
    | some (m, t) => ∃ v, r = .tuple #[v, B true] ∧ Wds m v w' ∧ RdAt g (some t) w' ∧ NewS w.heap.size v
    | none => ∃ v, r = .tuple #[v, B false] ∧ (∃ m, Wds m v w') ∧ ∃ l', RdAt g l' w'
theorem rnat_spec {w : World} {g : Nat} {st : Option (List UInt8)} (hr : RdAt g st w) (hl : ∀ l, st = some l → l.length ≤ 549755813888) :
    Calls Try.prog 70 #[.pointer (some ⟨g, 0, none⟩)] w (Ret (NatR g w (st.bind rdN))) := by
  refine enter (vs := [.pointer (some ⟨g, 0, none⟩)]) Try.func70 rfl rfl rfl ?_
  refine c_seq (c_region (o_assign rfl rfl (o_assign rfl rfl (o_nil (n_then (c_seq ?_))))))
  rcases hU : st.bind rdU with _ | ⟨n, t⟩
  · refine c_region (o_move rfl rfl (o_call call_ruvarint rfl rfl (ruv_none hr hU) ?_))
    rintro v11 w11 ⟨x11, rfl, l', hr1⟩
    have m11 := (hr.rdT).kp x11
    refine o_move rfl rfl (o_extract rfl rfl (r_ext0) (o_extract rfl rfl (r_ext1) (o_assign rfl rfl (o_assign rfl rfl (o_nil (n_then (c_seq (c_seq (c_region (o_move rfl rfl (o_not rfl rfl r_not ?_)))))))))))
    refine o_move rfl rfl (g_no rfl rfl rfl (g_no rfl rfl rfl (g_no rfl rfl rfl (g_no rfl rfl rfl (g_no rfl rfl rfl (g_no rfl rfl rfl (g_no rfl rfl rfl (g_no rfl rfl rfl (g_no rfl rfl rfl ?_)))))))))
    refine o_pick_t rfl rfl rfl (o_nil (n_then (c_yes rfl (c_seq (c_region (o_assign rfl rfl (o_assign rfl rfl (o_nil (n_then (c_ret (r_then (r_body2 rfl rfl rfl ?_))))))))))))
    exact ⟨_, rfl, x11, by rw [rdN_u0 hU]; exact ⟨_, rfl, ⟨_, Wds.nil _⟩, l', hr1⟩⟩
  · obtain ⟨ht, hn⟩ := rdU_len hU hl
    have hnn : (UInt64.ofNat n).toNat = n := by rw [UInt64.toNat_ofNat']; omega
    refine c_region (o_move rfl rfl (o_call call_ruvarint rfl rfl (ruv_some hr hU) ?_))
    rintro v11 w11 ⟨x11, rfl, hr1⟩
    have m11 := (hr.rdT).kp x11
    refine o_move rfl rfl (o_extract rfl rfl (r_ext0) (o_extract rfl rfl (r_ext1) ?_))
    obtain ⟨A, n', c, k, b, _⟩ := hr1.rdT
    have b : Bts t (.slice A n' c) w11 := b
    refine o_assign rfl rfl (o_assign rfl rfl (o_nil (n_then (c_seq (c_seq (c_region (o_move rfl rfl (o_not rfl rfl r_not (o_move rfl rfl (g_yes rfl (o_move rfl rfl (g_yes rfl (o_move rfl rfl ?_)))))))))))))
    refine g_yes rfl (o_nilCheck rfl rfl (g_yes rfl (o_fieldAddr rfl rfl (r_fAt (o := 0) Try.underlying78 rfl (by kernel_rfl) rfl) (g_yes rfl (o_load rfl rfl (r_load1 Try.underlying29 rfl (k.cell (i := 0) rfl)) ?_)))))
    refine g_yes rfl (o_len rfl rfl (r_lenB b) (g_yes rfl (o_conv rfl rfl (r_n_u64 Try.underlying3 Try.underlying69) (g_yes rfl (o_bin (v := U64 4) rfl rfl rfl (r_quo_u64 (by decide)) ?_)))))
    refine g_yes rfl (o_bin rfl rfl rfl (r_gtr_u64) (o_pick_f rfl rfl rfl (o_nil (n_then ?_))))
    refine c_if rfl (fun h26 => ?_) (fun h26 => ?_)
    · have hlong : t.length / 4 < n := by
        have h26 := UInt64.lt_iff_toNat_lt.1 h26
        rw [UInt64.toNat_div, hnn, UInt64.toNat_ofNat', show (4 : UInt64).toNat = 4 from rfl] at h26
        omega
      refine c_seq (c_region (o_assign rfl rfl (o_assign rfl rfl (o_nil (n_then (c_ret (r_then (r_body2 rfl rfl rfl ?_))))))))
      exact ⟨_, rfl, x11, by rw [rdN_u1 hU, if_neg (by omega)]; exact ⟨_, rfl, ⟨_, Wds.nil _⟩, _, hr1⟩⟩
    · have hle : n ≤ t.length / 4 := by
        refine Nat.le_of_not_lt fun hh => h26 (UInt64.lt_iff_toNat_lt.2 ?_)
        rw [UInt64.toNat_div, hnn, UInt64.toNat_ofNat', show (4 : UInt64).toNat = 4 from rfl]
        omega
      have h4n : (4 * UInt64.ofNat n).toNat = 4 * n := by
        rw [UInt64.toNat_mul, hnn, show (4 : UInt64).toNat = 4 from rfl]
        omega
      obtain ⟨bs, hbs⟩ : ∃ bs, bs = t.take (4 * n) := ⟨_, rfl⟩
      have hbl : bs.length = 4 * n := by rw [hbs, List.length_take]; omega
      refine c_skip (n_then (c_seq (c_region (o_move rfl rfl (o_move rfl rfl (o_bin (u := U64 4) rfl rfl rfl (r_mul_u64) (o_call call_take rfl rfl ((by have := take_yes (n := 4 * UInt64.ofNat n) hr1 (by rw [h4n]; omega); rw [h4n, ← hbs] at this; exact this)) ?_)))))))
      rintro v31 w31 ⟨b31, rfl, hb31, hr2, g31⟩
      have m31 := (hr1.rdT).kp g31
      refine o_move rfl rfl (o_extract rfl rfl (r_ext0) (o_extract rfl rfl (r_ext1) (o_assign rfl rfl (o_assign rfl rfl (o_nil (n_then (c_seq (c_region (o_assign rfl rfl (o_nil (n_then (c_seq ?_))))))))))))
      refine c_block ?_
      refine c_loop3 (fun (i : Nat) (v : Value) (u : Value) => [(4, U64 (UInt64.ofNat n)), (6, v), (8, u)]) (fun (i : Nat) (v : Value) (u : Value) w' => Ext w31 w' ∧ Bts (bs.drop (4 * i)) v w31 ∧ OwnW w31.heap.size (unle4 (bs.take (4 * i))) u w' ∧ i ≤ n) (fun (i : Nat) (v : Value) (u : Value) => n - i) (0) (b31) (.slice none 0 0) ⟨rfl, rfl, rfl, trivial⟩ ⟨Ext.refl _, by simpa using hb31, by simpa [unle4] using OwnW.nil _ _, by omega⟩ ?_
      rintro i v u w6 ⟨e6, h6, o6, hi⟩
      refine c_seq (c_seq ?_)
      have hdl : (bs.drop (4 * i)).length = 4 * n - 4 * i := by rw [List.length_drop, hbl]
      refine c_region (o_move rfl rfl (o_len rfl rfl (r_lenB (h6.ext e6)) (o_bin rfl rfl rfl (r_gtr_i) (o_nil (n_then ?_)))))
      refine c_if rfl (fun h36 => ?_) (fun h36 => ?_)
      · refine c_skip (n_then (c_seq (c_block ?_)))
        have hdl : (bs.drop (4 * i)).length = 4 * n - 4 * i := by rw [List.length_drop, hbl]
        refine c_grow 24 [4, 6, 39, 62] (by kernel_rfl) (by kernel_rfl) ?_
        refine f_move rfl rfl (f_move rfl rfl ?_)
        obtain ⟨a41, p41, q41⟩ := r_ixB (h6.ext e6) (i := 0) (by omega) .i64
        refine f_indexAddr rfl rfl rfl (fun w _ => p41 w) (f_load rfl rfl (fun w hw => r_load1 Try.underlying5 rfl (hw.cell_some q41)) (f_conv rfl rfl (fun w _ => r_u8_u32 Try.underlying5 Try.underlying88) ?_))
        refine f_move rfl rfl ?_
        obtain ⟨a45, p45, q45⟩ := r_ixB (h6.ext e6) (i := 1) (by omega) .i64
        refine f_indexAddr rfl rfl rfl (fun w _ => p45 w) (f_load rfl rfl (fun w hw => r_load1 Try.underlying5 rfl (hw.cell_some q45)) (f_conv rfl rfl (fun w _ => r_u8_u32 Try.underlying5 Try.underlying88) ?_))
        refine f_bin (v := U64 8) rfl rfl rfl (fun w _ => r_shl_u32 8 (by omega)) (f_bin rfl rfl rfl (fun w _ => r_or_u32) (f_move rfl rfl ?_))
        obtain ⟨a51, p51, q51⟩ := r_ixB (h6.ext e6) (i := 2) (by omega) .i64
        refine f_indexAddr rfl rfl rfl (fun w _ => p51 w) (f_load rfl rfl (fun w hw => r_load1 Try.underlying5 rfl (hw.cell_some q51)) (f_conv rfl rfl (fun w _ => r_u8_u32 Try.underlying5 Try.underlying88) ?_))
        refine f_bin (v := U64 16) rfl rfl rfl (fun w _ => r_shl_u32 16 (by omega)) (f_bin rfl rfl rfl (fun w _ => r_or_u32) (f_move rfl rfl ?_))
        obtain ⟨a57, p57, q57⟩ := r_ixB (h6.ext e6) (i := 3) (by omega) .i64
        refine f_indexAddr rfl rfl rfl (fun w _ => p57 w) (f_load rfl rfl (fun w hw => r_load1 Try.underlying5 rfl (hw.cell_some q57)) (f_conv rfl rfl (fun w _ => r_u8_u32 Try.underlying5 Try.underlying88) ?_))
        refine f_bin (v := U64 24) rfl rfl rfl (fun w _ => r_shl_u32 24 (by omega)) (f_bin rfl rfl rfl (fun w _ => r_or_u32) (f_buildSlice (S := Wds [((((((((((bs.drop (4 * i))[0])).toUInt32) ||| ((((((bs.drop (4 * i))[1])).toUInt32) <<< UInt32.ofNat 8)))) ||| ((((((bs.drop (4 * i))[2])).toUInt32) <<< UInt32.ofNat 16)))) ||| ((((((bs.drop (4 * i))[3])).toUInt32) <<< UInt32.ofNat 24))))]) (Wds.stable _) rfl (fun w' _ => by rintro _ rfl; obtain ⟨r, w2, h1, h2, h3, _⟩ := r_bsW Try.underlying39 (w := w') w'.heap.size [((((((((((bs.drop (4 * i))[0])).toUInt32) ||| ((((((bs.drop (4 * i))[1])).toUInt32) <<< UInt32.ofNat 8)))) ||| ((((((bs.drop (4 * i))[2])).toUInt32) <<< UInt32.ofNat 16)))) ||| ((((((bs.drop (4 * i))[3])).toUInt32) <<< UInt32.ofNat 24))))] (by simp) (Nat.le_refl _); exact ⟨r, w2, h1, h2, h3.wds⟩) ?_))
        refine f_nil ?_
        intro wg8 xg8
        rintro _ rfl
        rintro _ hq6
        obtain rfl := Eq.symm hq6
        rintro _ hq39
        obtain rfl := Eq.symm hq39
        intro vg62 b62
        obtain ⟨v63, w63, hr63, o63, g63⟩ := r_appW Try.underlying39 (ty := 39) (o6.ext xg8) b62 (by have := unle4_len i (bs.take (4 * i)) (by rw [List.length_take]; omega); simp; omega) ((e6.trans xg8)).size
        have x63 := Ext.of_grew ((e6.trans xg8)) g63 (o6.ext xg8).ge
        refine o_append rfl rfl hr63 (o_assign rfl rfl (o_nil (n_block (n_then (c_region (o_move rfl rfl ?_))))))
        obtain ⟨v38, p38, b38⟩ := r_slB_lo h6 (lo := 4) (by omega) .i64
        refine o_slice rfl rfl rfl rfl rfl (p38 _) ?_
        refine o_assign rfl rfl (o_nil ?_)
        refine n_round3 (i + 1) (v38) (v63) ⟨rfl, rfl, rfl, trivial⟩ ⟨x63, by rw [List.drop_drop] at b38; exact b38, by
          rw [unle4_next i bs (by omega)]
          have e := w4_or ((bs.drop (4 * i))[0]) ((bs.drop (4 * i))[1]) ((bs.drop (4 * i))[2]) ((bs.drop (4 * i))[3])
          simp only [List.getElem_drop, Nat.add_zero] at e
          simp only [List.getElem_drop, Nat.add_zero, e] at o63
          exact o63, by omega⟩ (by omega)
      · refine c_exit (x_then (x_then (x_here (n_then (c_seq ?_)))))
        by_cases h66 : UInt64.ofNat n = 0
        · refine c_grow 12 [2, 74] (by kernel_rfl) (by kernel_rfl) ?_
          refine f_move rfl rfl (f_move rfl rfl (f_bin (v := U64 0) rfl rfl rfl (fun w _ => dec_t h66 r_eql_u64) (f_move rfl rfl (f_no rfl rfl rfl (f_no rfl rfl rfl (f_no rfl rfl rfl ?_))))))
          refine f_no rfl rfl rfl (f_no rfl rfl rfl (f_no rfl rfl rfl (f_pick_t rfl rfl rfl (f_assign rfl rfl (f_nil ?_)))))
          intro wg9 xg9
          rintro _ hq2
          obtain rfl := Eq.symm hq2
          rintro _ rfl
          refine o_assign rfl rfl (o_nil (n_then (c_ret (r_body2 rfl rfl rfl ?_))))
          exact ⟨_, rfl, (x11.trans g31).trans (grownBy_of_ext (e6.trans xg9)), by
            rw [rdN_u1 hU, ← hbs]
            first
            | (have hx : (unle4 bs)[(UInt64.ofNat n - 1).toNat] ≠ 0 ↔ lb (val (unle4 bs)) = unle4 bs := by
                 have e : (UInt64.ofNat n - 1).toNat = (unle4 bs).length - 1 := by omega
                 simp only [e]
                 exact can_iff (by omega)
               by_cases hc : lb (val (unle4 bs)) = unle4 bs
               · rw [if_pos ⟨hle, hc⟩, decide_eq_true (hx.2 hc)]
                 exact ⟨u, rfl, o6.wds.ext xg9, hr2.ext (e6.trans xg9), fun k hk => Nat.le_trans (x11.trans g31).size (o6.ge k hk)⟩
               · rw [if_neg fun h => hc h.2, decide_eq_false fun h => hc (hx.1 h)]
                 exact ⟨u, rfl, ⟨_, o6.wds.ext xg9⟩, _, hr2.ext (e6.trans xg9)⟩)
            | (have h0 : n = 0 := by
                 have := congrArg UInt64.toNat h66
                 rw [hnn] at this
                 exact this
               have hb0 : unle4 bs = [] := List.eq_nil_of_length_eq_zero (by rw [unle4_len n bs hbl]; exact h0)
               have hb1 : bs.take (4 * i) = bs := List.take_of_length_le (by omega)
               rw [hb1, hb0] at o6
               rw [hb0, if_pos ⟨hle, rfl⟩]
               exact ⟨u, rfl, o6.wds.ext xg9, hr2.ext (e6.trans xg9), fun k hk => Nat.le_trans (x11.trans g31).size (o6.ge k hk)⟩)⟩
        · refine c_grow 12 [2, 74] (by kernel_rfl) (by kernel_rfl) ?_
          refine f_move rfl rfl (f_move rfl rfl (f_bin (v := U64 0) rfl rfl rfl (fun w _ => dec_f h66 r_eql_u64) (f_move rfl rfl (f_yes rfl rfl (f_move rfl rfl (f_yes rfl rfl (f_move rfl rfl ?_)))))))
          refine f_yes rfl rfl (f_bin (v := U64 1) rfl rfl rfl (fun w _ => r_sub_u64) (f_yes rfl rfl ?_))
          have hn0 : 0 < n := by
            rcases Nat.eq_zero_or_pos n with h | h
            · exact absurd (by rw [h]; rfl) h66
            · exact h
          have hns := unle4_len n bs hbl
          have hin : i = n := by omega
          have hbi : bs.take (4 * i) = bs := List.take_of_length_le (by omega)
          rw [hbi] at o6
          have hm1 : (UInt64.ofNat n - 1).toNat = n - 1 := by
            rw [UInt64.toNat_sub_of_le _ _ (UInt64.le_iff_toNat_le.2 (by rw [hnn]; exact hn0)), hnn]; rfl
          obtain ⟨a71, p71, q71⟩ := r_ixW Try.underlying39 o6.wds (i := (UInt64.ofNat n - 1).toNat) (by omega) .u64
          refine f_indexAddr rfl rfl rfl (fun w hw => p71 _) (f_yes rfl rfl (f_load rfl rfl (fun w hw => r_load1 Try.underlying88 rfl (hw.cell_some q71)) (f_yes rfl rfl ?_)))
          refine f_bin (v := U32 0) rfl rfl rfl (fun w _ => r_neq_u32) (f_pick_f rfl rfl rfl (f_assign rfl rfl (f_nil ?_)))
          intro wg9 xg9
          rintro _ hq2
          obtain rfl := Eq.symm hq2
          rintro _ rfl
          refine o_assign rfl rfl (o_nil (n_then (c_ret (r_body2 rfl rfl rfl ?_))))
          exact ⟨_, rfl, (x11.trans g31).trans (grownBy_of_ext (e6.trans xg9)), by
            rw [rdN_u1 hU, ← hbs]
            first
            | (have hx : (unle4 bs)[(UInt64.ofNat n - 1).toNat] ≠ 0 ↔ lb (val (unle4 bs)) = unle4 bs := by
                 have e : (UInt64.ofNat n - 1).toNat = (unle4 bs).length - 1 := by omega
                 simp only [e]
                 exact can_iff (by omega)
               by_cases hc : lb (val (unle4 bs)) = unle4 bs
               · rw [if_pos ⟨hle, hc⟩, decide_eq_true (hx.2 hc)]
                 exact ⟨u, rfl, o6.wds.ext xg9, hr2.ext (e6.trans xg9), fun k hk => Nat.le_trans (x11.trans g31).size (o6.ge k hk)⟩
               · rw [if_neg fun h => hc h.2, decide_eq_false fun h => hc (hx.1 h)]
                 exact ⟨u, rfl, ⟨_, o6.wds.ext xg9⟩, _, hr2.ext (e6.trans xg9)⟩)
            | (have h0 : n = 0 := by
                 have := congrArg UInt64.toNat h66
                 rw [hnn] at this
                 exact this
               have hb0 : unle4 bs = [] := List.eq_nil_of_length_eq_zero (by rw [unle4_len n bs hbl]; exact h0)
               have hb1 : bs.take (4 * i) = bs := List.take_of_length_le (by omega)
               rw [hb1, hb0] at o6
               rw [hb0, if_pos ⟨hle, rfl⟩]
               exact ⟨u, rfl, o6.wds.ext xg9, hr2.ext (e6.trans xg9), fun k hk => Nat.le_trans (x11.trans g31).size (o6.ge k hk)⟩)⟩
section
variable {w : World} {g : Nat}
theorem rnat_none {st : Option (List UInt8)} (hr : RdAt g st w) (hl : ∀ l, st = some l → l.length ≤ 549755813888) (h : st.bind rdN = none) : Calls Try.prog 70 #[.pointer (some ⟨g, 0, none⟩)] w (Ret fun r w' => w.grownBy w' (some g) ∧ ∃ v, r = .tuple #[v, B false] ∧ (∃ m, Wds m v w') ∧ ∃ l', RdAt g l' w') := by
  have := rnat_spec hr hl
  rw [h] at this
  exact this
theorem rnat_someF {st : Option (List UInt8)} {m : List UInt32} {t : List UInt8} (hr : RdAt g st w) (hl : ∀ l, st = some l → l.length ≤ 549755813888) (h : st.bind rdN = some (m, t)) : Calls Try.prog 70 #[.pointer (some ⟨g, 0, none⟩)] w (Ret fun r w' => w.grownBy w' (some g) ∧ ∃ v, r = .tuple #[v, B true] ∧ Wds m v w' ∧ RdAt g (some t) w' ∧ NewS w.heap.size v) := by
  have := rnat_spec hr hl
  rw [h] at this
  exact this
theorem rnat_some {st : Option (List UInt8)} {m : List UInt32} {t : List UInt8} (hr : RdAt g st w) (hl : ∀ l, st = some l → l.length ≤ 549755813888) (h : st.bind rdN = some (m, t)) : Calls Try.prog 70 #[.pointer (some ⟨g, 0, none⟩)] w (Ret fun r w' => w.grownBy w' (some g) ∧ ∃ v, r = .tuple #[v, B true] ∧ Wds m v w' ∧ RdAt g (some t) w') := by
  exact (rnat_someF hr hl h).mono fun _ _ ⟨r, h0, h1, v, h2, h3, h4, _⟩ => ⟨r, h0, h1, v, h2, h3, h4⟩
theorem Uint_none {st : Option (List UInt8)} (hr : RdAt g st w) (h : st.bind rdU = none) : Calls Try.prog 57 #[.pointer (some ⟨g, 0, none⟩)] w (Ret fun r w' => w.grownBy w' (some g) ∧ r = .tuple #[U64 0, I 5] ∧ RdAt g none w') := by
  have := Uint_spec hr
  rw [h] at this
  exact this
theorem Uint_some {st : Option (List UInt8)} {n : Nat} {t : List UInt8} (hr : RdAt g st w) (h : st.bind rdU = some (n, t)) : Calls Try.prog 57 #[.pointer (some ⟨g, 0, none⟩)] w (Ret fun r w' => w.grownBy w' (some g) ∧ r = .tuple #[U64 (UInt64.ofNat n), I 0] ∧ RdAt g (some t) w') := by
  have := Uint_spec hr
  rw [h] at this
  exact this
end
def NatE (g : Nat) (w : World) (o : Option (List UInt32 × List UInt8)) (r : Value) (w' : World) : Prop :=
  w.grownBy w' (some g) ∧ match o with
    | some (m, t) => ∃ v, r = .tuple #[v, I 0] ∧ Wds m v w' ∧ RdAt g (some t) w'
    | none => r = .tuple #[.slice none 0 0, I 5] ∧ RdAt g none w'
def IntR (g : Nat) (w : World) (o : Option (Nat × List UInt8)) (r : Value) (w' : World) : Prop :=
  w.grownBy w' (some g) ∧ match o with
    | some (n, t) => r = .tuple #[I (uz n), I 0] ∧ RdAt g (some t) w'
    | none => r = .tuple #[I 0, I 5] ∧ RdAt g none w'
theorem r_half {P : Program} {w : World} {s d : TypeId} {n : Nat} (hs : P.underlying s = some (.int .u64)) (hd : P.underlying d = some (.int .i64)) (hn : n < 18446744073709551616) : (convert s d (U64 (UInt64.ofNat n >>> UInt64.ofNat 1))).run P w = .ok (I ((n / 2 : Nat) : Int)) w := by
  have e : (UInt64.ofNat n >>> UInt64.ofNat 1).toNat = n / 2 := by
    rw [UInt64.toNat_shiftRight, UInt64.toNat_ofNat', show (UInt64.ofNat 1).toNat % 64 = 1 from rfl, Nat.shiftRight_eq_div_pow]; omega
  have := r_u64_i (P := P) (w := w) hs hd (a := UInt64.ofNat n >>> UInt64.ofNat 1) (by omega)
  rwa [e] at this
theorem low_n {n : Nat} : (UInt64.ofNat n &&& 1).toNat = n % 2 := by
  rw [UInt64.toNat_and, UInt64.toNat_ofNat', show (1 : UInt64).toNat = 1 from rfl, Nat.and_one_is_mod]; omega
theorem r_low0 {P : Program} {w : World} {s d : TypeId} {n : Nat} (hs : P.underlying s = some (.int .u64)) (hd : P.underlying d = some (.int .i64)) (h : n % 2 = 0) : (convert s d (U64 (UInt64.ofNat n &&& 1))).run P w = .ok (I 0) w := by
  have := r_u64_i (P := P) (w := w) hs hd (a := UInt64.ofNat n &&& 1) (by rw [low_n]; omega)
  rw [low_n, h] at this
  exact this
theorem r_low1 {P : Program} {w : World} {s d : TypeId} {n : Nat} (hs : P.underlying s = some (.int .u64)) (hd : P.underlying d = some (.int .i64)) (h : n % 2 = 1) : (convert s d (U64 (UInt64.ofNat n &&& 1))).run P w = .ok (I 1) w := by
  have := r_u64_i (P := P) (w := w) hs hd (a := UInt64.ofNat n &&& 1) (by rw [low_n]; omega)
  rw [low_n, h] at this
  exact this
theorem RInt_spec {w : World} {g : Nat} {st : Option (List UInt8)} (hr : RdAt g st w) :
    Calls Try.prog 58 #[.pointer (some ⟨g, 0, none⟩)] w (Ret (IntR g w (st.bind rdU))) := by
  refine enter (vs := [.pointer (some ⟨g, 0, none⟩)]) Try.func58 rfl rfl rfl ?_
  refine c_seq (c_region (o_assign rfl rfl (o_assign rfl rfl (o_nil (n_then (c_seq ?_))))))
  rcases hN : st.bind rdU with _ | ⟨n, t⟩
  · refine c_region (o_move rfl rfl (o_call call_Uint rfl rfl (Uint_none hr hN) ?_))
    rintro v8 w8 ⟨x8, rfl, hr1⟩
    have m8 := (hr.rdT).kp x8
    refine o_move rfl rfl (o_extract rfl rfl (r_ext0) (o_extract rfl rfl (r_ext1) (o_assign rfl rfl (o_assign rfl rfl (o_nil (n_then (c_seq (c_seq (c_region (o_move rfl rfl (o_bin rfl rfl rfl (dec_t (by decide) r_neq_i) ?_)))))))))))
    refine o_nil (n_then (c_yes rfl (c_seq (c_region (o_move rfl rfl (o_assign rfl rfl (o_assign rfl rfl (o_nil (n_then (c_ret (r_then (r_body2 rfl rfl rfl ?_))))))))))))
    exact ⟨_, rfl, x8, rfl, hr1⟩
  · refine c_region (o_move rfl rfl (o_call call_Uint rfl rfl (Uint_some hr hN) ?_))
    rintro v8 w8 ⟨x8, rfl, hr1⟩
    have m8 := (hr.rdT).kp x8
    refine o_move rfl rfl (o_extract rfl rfl (r_ext0) (o_extract rfl rfl (r_ext1) (o_assign rfl rfl (o_assign rfl rfl (o_nil (n_then (c_seq (c_seq (c_region (o_move rfl rfl (o_bin rfl rfl rfl (dec_f (by decide) r_neq_i) ?_)))))))))))
    have hnn := (rdU_len (k := (st.getD []).length) hN (by rintro l rfl; exact Nat.le_refl _)).2
    refine o_nil (n_then (c_no rfl (c_skip (n_then (c_seq ?_)))))
    rcases Nat.mod_two_eq_zero_or_one n with hm | hm
    · refine c_region (o_move rfl rfl (o_bin rfl rfl rfl (r_shr_u64 1 (by omega)) (o_conv rfl rfl (r_half Try.underlying69 Try.underlying3 hnn) (o_move rfl rfl ?_))))
      refine o_bin (v := U64 1) rfl rfl rfl (r_and_u64) (o_conv rfl rfl (r_low0 Try.underlying69 Try.underlying3 hm) (o_not rfl rfl (r_neg_i (by omega) (by omega)) ?_))
      refine o_bin rfl rfl rfl (r_xor_0 (by omega)) (o_assign rfl rfl (o_assign rfl rfl (o_nil (n_then (c_ret (r_body2 rfl rfl rfl ?_))))))
      exact ⟨_, rfl, x8, congrArg (fun z => Value.tuple #[I z, I 0]) (show _ = uz n by unfold uz; rw [if_pos hm]), hr1⟩
    · refine c_region (o_move rfl rfl (o_bin rfl rfl rfl (r_shr_u64 1 (by omega)) (o_conv rfl rfl (r_half Try.underlying69 Try.underlying3 hnn) (o_move rfl rfl ?_))))
      refine o_bin (v := U64 1) rfl rfl rfl (r_and_u64) (o_conv rfl rfl (r_low1 Try.underlying69 Try.underlying3 hm) (o_not rfl rfl (r_neg_i (by omega) (by omega)) ?_))
      refine o_bin rfl rfl rfl (r_xor_1 (by omega)) (o_assign rfl rfl (o_assign rfl rfl (o_nil (n_then (c_ret (r_body2 rfl rfl rfl ?_))))))
      exact ⟨_, rfl, x8, congrArg (fun z => Value.tuple #[I z, I 0]) (show _ = uz n by unfold uz; rw [if_neg (by omega)]), hr1⟩
theorem rdR_nil : rdR [] = none := rfl
theorem rdR_big {c : UInt8} {l : List UInt8} (h : 1 < c.toNat) : rdR (c :: l) = none := if_pos h
theorem rdR_n0 {c : UInt8} {l : List UInt8} (h : rdN l = none) : rdR (c :: l) = none := by
  show (if 1 < c.toNat then none else _) = none
  split
  · rfl
  · rw [h]; rfl
theorem rdR_n1 {c : UInt8} {l t : List UInt8} {m : List UInt32} (h1 : ¬ 1 < c.toNat) (h : rdN l = some (m, t)) : rdR (c :: l) = (rdN t).bind fun q => if rv (decide (c.toNat = 1)) m q.1 = true then some ((decide (c.toNat = 1), m, q.1), q.2) else none := by
  show (if 1 < c.toNat then none else _) = _
  rw [if_neg h1, h]; rfl
def RatE (g : Nat) (w : World) (o : Option ((Bool × List UInt32 × List UInt32) × List UInt8)) (r : Value) (w' : World) : Prop :=
  w.grownBy w' (some g) ∧ match o with
    | some (q, t) => ∃ v, r = .tuple #[v, I 0] ∧ RatV q.1 q.2.1 q.2.2 v w' ∧ RdAt g (some t) w'
    | none => ∃ v, r = .tuple #[v, I 5] ∧ RatV false [] [] v w' ∧ RdAt g none w'
def RatEF (g : Nat) (w : World) (o : Option ((Bool × List UInt32 × List UInt32) × List UInt8)) (r : Value) (w' : World) : Prop :=
  w.grownBy w' (some g) ∧ match o with
    | some (q, t) => ∃ x y, r = .tuple #[.agg #[B q.1, x, y], I 0] ∧ Wds q.2.1 x w' ∧ Wds q.2.2 y w' ∧ RdAt g (some t) w' ∧ NewS w.heap.size x ∧ NewS w.heap.size y
    | none => ∃ v, r = .tuple #[v, I 5] ∧ RatV false [] [] v w' ∧ RdAt g none w'
theorem RatEF.e {g : Nat} {w w' : World} {o : Option ((Bool × List UInt32 × List UInt32) × List UInt8)} {r : Value} (h : RatEF g w o r w') : RatE g w o r w' := by
  refine ⟨h.1, ?_⟩
  have h2 := h.2
  cases o with
  | none => exact h2
  | some p =>
    obtain ⟨q, t⟩ := p
    obtain ⟨x, y, h3, h4, h5, h6, _⟩ := h2
    exact ⟨_, h3, ⟨x, y, rfl, h4, h5⟩, h6⟩
theorem RdAt.lt {w : World} {g : Nat} {st : Option (List UInt8)} (h : RdAt g st w) : g < w.heap.size := by
  obtain ⟨A, n, c, h1, _⟩ := h
  exact Blk.lt h1
theorem u8_one {c : UInt8} : c.toNat = 1 ↔ c = 1 := by
  rw [← UInt8.toNat_inj, show (1 : UInt8).toNat = 1 from rfl]
theorem RRat_specF {w : World} {g : Nat} {st : Option (List UInt8)} (hr : RdAt g st w) (hl : ∀ l, st = some l → l.length ≤ 549755813888) :
    Calls Try.prog 59 #[.pointer (some ⟨g, 0, none⟩)] w (Ret (RatEF g w (st.bind rdR))) := by
  refine enter (vs := [.pointer (some ⟨g, 0, none⟩)]) Try.func59 rfl rfl rfl ?_
  have hglt := hr.lt
  refine c_seq (c_region ?_)
  obtain ⟨g2, w2, hr2, l2, x2, k2⟩ := r_allocR (w := w)
  refine o_alloc rfl hr2 (o_assign rfl rfl (o_nil (n_then (c_seq (c_seq (c_region (o_move rfl rfl (o_bin rfl rfl rfl (r_eqnilp Try.underlying52) (o_nil (n_then (c_no rfl ?_)))))))))))
  refine c_skip (n_then (c_seq ?_))
  have rr := hr.ext x2
  have kk := k2
  have gg : w.grownBy w2 (some g) := grownBy_of_ext x2
  have hne : some g2 ≠ some g := fun h => by have := Option.some.inj h; omega
  have hne' : g ≠ g2 := by omega
  rcases st with _ | (_ | ⟨c, l⟩)
  · have hR : (none : Option (List UInt8)).bind rdR = none := rfl
    refine c_region (o_move rfl rfl (o_call call_take rfl rfl ((take_failed (n := 1) rr)) ?_))
    rintro v14 _ ⟨rfl, rfl⟩
    refine o_move rfl rfl (o_extract rfl rfl (r_ext0) (o_extract rfl rfl (r_ext1) (o_assign rfl rfl (o_assign rfl rfl (o_nil (n_then (c_seq (c_seq (c_region (o_move rfl rfl (o_not rfl rfl r_not ?_)))))))))))
    refine o_move rfl rfl (g_no rfl rfl rfl (g_no rfl rfl rfl (g_no rfl rfl rfl (g_no rfl rfl rfl (o_pick_t rfl rfl rfl (o_nil (n_then (c_yes rfl (c_seq (c_region ?_))))))))))
    refine o_build (vs := []) rfl rfl r_buildR0 ?_
    refine o_move rfl rfl (o_call call_fail rfl rfl (fail_spec rr) ?_)
    rintro v27 w27 ⟨rfl, rs, g27⟩
    have m27 := (rr.rdT).kp g27
    have gg := gg.trans g27
    have kk := kk.other g27 hne
    have rr := rs
    obtain ⟨p, q, w3, hp, hs3, q3, k3, n3, d3⟩ := kk.stR ⟨_, _, _, rfl⟩ ⟨_, _, _, rfl⟩ (RatV.mk (b := false) (Wds.nil _) (Wds.nil _))
    refine o_store rfl rfl (hs3) (o_assign rfl rfl (o_nil (n_then (c_ret (r_then ?_)))))
    refine r_bodyc2 rfl rfl rfl k3 Try.underlying41 rfl size_Rat ?_
    exact ⟨_, rfl, gb_new gg q3 l2, by rw [hR]; exact ⟨_, rfl, ⟨p, q, rfl, n3, d3⟩, (rr.rdT.off (kk.kpR ⟨_, _, _, rfl⟩ ⟨_, _, _, rfl⟩ q3) q3 hne').rdAt⟩⟩
  · have hR : (some []).bind rdR = none := rfl
    refine c_region (o_move rfl rfl (o_call call_take rfl rfl ((take_no (n := 1) rr (by decide))) ?_))
    rintro v14 _ ⟨rfl, rfl⟩
    refine o_move rfl rfl (o_extract rfl rfl (r_ext0) (o_extract rfl rfl (r_ext1) (o_assign rfl rfl (o_assign rfl rfl (o_nil (n_then (c_seq (c_seq (c_region (o_move rfl rfl (o_not rfl rfl r_not ?_)))))))))))
    refine o_move rfl rfl (g_no rfl rfl rfl (g_no rfl rfl rfl (g_no rfl rfl rfl (g_no rfl rfl rfl (o_pick_t rfl rfl rfl (o_nil (n_then (c_yes rfl (c_seq (c_region ?_))))))))))
    refine o_build (vs := []) rfl rfl r_buildR0 ?_
    refine o_move rfl rfl (o_call call_fail rfl rfl (fail_spec rr) ?_)
    rintro v27 w27 ⟨rfl, rs, g27⟩
    have m27 := (rr.rdT).kp g27
    have gg := gg.trans g27
    have kk := kk.other g27 hne
    have rr := rs
    obtain ⟨p, q, w3, hp, hs3, q3, k3, n3, d3⟩ := kk.stR ⟨_, _, _, rfl⟩ ⟨_, _, _, rfl⟩ (RatV.mk (b := false) (Wds.nil _) (Wds.nil _))
    refine o_store rfl rfl (hs3) (o_assign rfl rfl (o_nil (n_then (c_ret (r_then ?_)))))
    refine r_bodyc2 rfl rfl rfl k3 Try.underlying41 rfl size_Rat ?_
    exact ⟨_, rfl, gb_new gg q3 l2, by rw [hR]; exact ⟨_, rfl, ⟨p, q, rfl, n3, d3⟩, (rr.rdT.off (kk.kpR ⟨_, _, _, rfl⟩ ⟨_, _, _, rfl⟩ q3) q3 hne').rdAt⟩⟩
  · refine c_region (o_move rfl rfl (o_call call_take rfl rfl ((take_yes (n := 1) rr (by simp))) ?_))
    rintro v14 w14 ⟨b14, rfl, hb, rs, g14⟩
    have m14 := (rr.rdT).kp g14
    have gg := gg.trans g14
    have hs14 := gg.size
    have kk := kk.other g14 hne
    have rr : RdAt g (some l) w14 := rs
    have hb : Bts [c] b14 w14 := hb
    refine o_move rfl rfl (o_extract rfl rfl (r_ext0) (o_extract rfl rfl (r_ext1) (o_assign rfl rfl (o_assign rfl rfl (o_nil (n_then (c_seq (c_seq (c_region (o_move rfl rfl (o_not rfl rfl r_not ?_)))))))))))
    refine o_move rfl rfl (g_yes rfl (o_move rfl rfl (g_yes rfl ?_)))
    obtain ⟨a21, p21, q21⟩ := r_ixB hb (i := 0) (by simp) .i64
    refine o_indexAddr rfl rfl rfl (p21 _) (g_yes rfl (o_load rfl rfl (r_load1 Try.underlying5 rfl q21) (g_yes rfl (o_bin (v := U8 1) rfl rfl rfl (r_gtr_u8) (o_pick_f rfl rfl rfl ?_)))))
    refine o_nil (n_then ?_)
    refine c_if rfl (fun h24 => ?_) (fun h24 => ?_)
    · have hc : 1 < c.toNat := by have := UInt8.lt_iff_toNat_lt.1 h24; simpa using this
      have hR : (some (c :: l)).bind rdR = none := rdR_big hc
      refine c_seq (c_region ?_)
      refine o_build (vs := []) rfl rfl r_buildR0 ?_
      refine o_move rfl rfl (o_call call_fail rfl rfl (fail_spec rr) ?_)
      rintro v27 w27 ⟨rfl, rs, g27⟩
      have m27 := (rr.rdT).kp g27
      have gg := gg.trans g27
      have kk := kk.other g27 hne
      have rr := rs
      obtain ⟨p, q, w3, hp, hs3, q3, k3, n3, d3⟩ := kk.stR ⟨_, _, _, rfl⟩ ⟨_, _, _, rfl⟩ (RatV.mk (b := false) (Wds.nil _) (Wds.nil _))
      refine o_store rfl rfl (hs3) (o_assign rfl rfl (o_nil (n_then (c_ret (r_then ?_)))))
      refine r_bodyc2 rfl rfl rfl k3 Try.underlying41 rfl size_Rat ?_
      exact ⟨_, rfl, gb_new gg q3 l2, by rw [hR]; exact ⟨_, rfl, ⟨p, q, rfl, n3, d3⟩, (rr.rdT.off (kk.kpR ⟨_, _, _, rfl⟩ ⟨_, _, _, rfl⟩ q3) q3 hne').rdAt⟩⟩
    · have hc : ¬ 1 < c.toNat := fun hh => h24 (UInt8.lt_iff_toNat_lt.2 (by simpa using hh))
      have hl1 : ∀ l', some l = some l' → l'.length ≤ 549755813888 := fun l' e => by
        have := hl _ rfl
        cases e
        simp at this; omega
      refine c_skip (n_then (c_seq ?_))
      rcases hN : rdN l with _ | ⟨m, t⟩
      · have hR : (some (c :: l)).bind rdR = none := rdR_n0 hN
        refine c_region (o_move rfl rfl (o_call call_rnat rfl rfl ((rnat_none (st := some l) rr hl1 hN)) ?_))
        rintro v30 w30 ⟨g30, v0, rfl, _, _, rs⟩
        have m30 := (rr.rdT).kp g30
        have gg := gg.trans g30
        have hs30 := gg.size
        have kk := kk.other g30 hne
        have rr := rs
        refine o_move rfl rfl (o_extract rfl rfl (r_ext0) (o_extract rfl rfl (r_ext1) (o_assign rfl rfl (o_assign rfl rfl (o_nil (n_then (c_seq (c_seq (c_region (o_move rfl rfl (o_not rfl rfl r_not ?_)))))))))))
        refine o_nil (n_then (c_yes rfl (c_seq (c_region ?_))))
        refine o_build (vs := []) rfl rfl r_buildR0 ?_
        refine o_move rfl rfl (o_call call_fail rfl rfl (fail_spec rr) ?_)
        rintro v37 w37 ⟨rfl, rs, g37⟩
        have m37 := (rr.rdT).kp g37
        have gg := gg.trans g37
        have kk := kk.other g37 hne
        have rr := rs
        obtain ⟨p, q, w3, hp, hs3, q3, k3, n3, d3⟩ := kk.stR ⟨_, _, _, rfl⟩ ⟨_, _, _, rfl⟩ (RatV.mk (b := false) (Wds.nil _) (Wds.nil _))
        refine o_store rfl rfl (hs3) (o_assign rfl rfl (o_nil (n_then (c_ret (r_then ?_)))))
        refine r_bodyc2 rfl rfl rfl k3 Try.underlying41 rfl size_Rat ?_
        exact ⟨_, rfl, gb_new gg q3 l2, by rw [hR]; exact ⟨_, rfl, ⟨p, q, rfl, n3, d3⟩, (rr.rdT.off (kk.kpR ⟨_, _, _, rfl⟩ ⟨_, _, _, rfl⟩ q3) q3 hne').rdAt⟩⟩
      · refine c_region (o_move rfl rfl (o_call call_rnat rfl rfl ((rnat_someF (st := some l) rr hl1 hN)) ?_))
        rintro v30 w30 ⟨g30, v0, rfl, h0, rs, f0⟩
        have m30 := (rr.rdT).kp g30
        have gg := gg.trans g30
        have hs30 := gg.size
        have kk := kk.other g30 hne
        have rr := rs
        refine o_move rfl rfl (o_extract rfl rfl (r_ext0) (o_extract rfl rfl (r_ext1) (o_assign rfl rfl (o_assign rfl rfl (o_nil (n_then (c_seq (c_seq (c_region (o_move rfl rfl (o_not rfl rfl r_not ?_)))))))))))
        refine o_nil (n_then (c_no rfl (c_skip (n_then (c_seq ?_)))))
        have hl2 : ∀ l', some t = some l' → l'.length ≤ 549755813888 := fun l' e => by
          cases e
          have h1 := (rdN_inv hN).1
          have := hl1 _ rfl
          rw [h1, List.length_append] at this
          omega
        obtain ⟨s, hs⟩ : ∃ s, s = decide (c.toNat = 1) := ⟨_, rfl⟩
        have hcs : s = decide (([c] : List UInt8)[0]'(Nat.zero_lt_one) = (1 : UInt8)) := by
          rw [hs]
          exact decide_eq_decide.2 ⟨fun h => u8_one.1 h, fun h => u8_one.2 h⟩
        have hR1 := rdR_n1 hc hN
        rw [← hs] at hR1
        rcases hM : rdN t with _ | ⟨m', t'⟩
        rotate_left
        rcases hV : rv s m m'
        · have hR : (some (c :: l)).bind rdR = none := by
            show rdR (c :: l) = none
            rw [hR1, hM]
            exact if_neg (by rw [hV]; simp)
          refine c_region (o_move rfl rfl (o_call call_rnat rfl rfl ((rnat_some (st := some t) rr hl2 hM)) ?_))
          rintro v40 w40 ⟨g40, v1, rfl, h1, rs⟩
          have m40 := (rr.rdT).kp g40
          have gg := gg.trans g40
          have kk := kk.other g40 hne
          have rr := rs
          refine o_move rfl rfl (o_extract rfl rfl (r_ext0) (o_extract rfl rfl (r_ext1) (o_assign rfl rfl (o_assign rfl rfl (o_nil (n_then (c_seq (c_region (o_move rfl rfl ?_)))))))))
          obtain ⟨a44, p44, q44⟩ := r_ixB (hb.kp (m30.trans m40)) (i := 0) (by simp) .i64
          refine o_indexAddr rfl rfl rfl (p44 _) (o_load rfl rfl (r_load1 Try.underlying5 rfl q44) (o_bin (v := U8 1) (r := B s) rfl rfl rfl ((by rw [hcs]; exact r_eql_u8)) ?_))
          refine o_move rfl rfl (o_move rfl rfl ?_)
          refine o_build (vs := [(0, B s), (1, v0), (2, v1)]) rfl rfl (r_buildR h0.isS h1.isS) ?_
          obtain ⟨g8, w8, hr8, l8, x8, k8⟩ := r_allocR (w := w40)
          refine o_alloc rfl hr8 ?_
          obtain ⟨p, q, w4, hp, hs4, q4, k4, n4, d4⟩ := k8.stR ⟨_, _, _, rfl⟩ ⟨_, _, _, rfl⟩ (RatV.mk (b := s) ((h0.kp m40).ext x8) (h1.ext x8))
          refine o_store rfl rfl (hs4) ?_
          have x4 := x8.of_new q4 l8
          have rr := rr.ext x4
          have kk := kk.ext x4
          have gg := gg.trans (grownBy_of_ext x4)
          have hml : m.length ≤ 137438953472 := by
            have := hl1 _ rfl
            rw [(rdN_inv hN).1, List.length_append, encN, List.length_append, le4s_len] at this
            omega
          refine o_nil (n_then (c_seq (c_seq (c_region (o_move rfl rfl (o_not rfl rfl r_not (o_move rfl rfl (g_yes rfl (o_load rfl rfl (k4.ldR) (g_yes rfl ?_))))))))))
          have hml' : m'.length ≤ 137438953472 := by
            have := hl2 _ rfl
            rw [(rdN_inv hM).1, List.length_append, encN, List.length_append, le4s_len] at this
            omega
          refine o_call call_QValid rfl rfl ((by have := QValid_spec (b := s) (RatV.mk n4 d4) hml hml'; rw [hV] at this; exact this)) ?_
          rintro v54 w54 ⟨x54, rfl⟩
          have rr := rr.ext x54
          have kk := kk.ext x54
          have gg := gg.trans (grownBy_of_ext x54)
          refine g_yes rfl (o_not rfl rfl r_not (o_pick_f rfl rfl rfl (o_nil (n_then (c_yes rfl (c_seq (c_region ?_)))))))
          refine o_build (vs := []) rfl rfl r_buildR0 ?_
          refine o_move rfl rfl (o_call call_fail rfl rfl (fail_spec rr) ?_)
          rintro v59 w59 ⟨rfl, rs, g59⟩
          have m59 := (rr.rdT).kp g59
          have gg := gg.trans g59
          have kk := kk.other g59 hne
          have rr := rs
          obtain ⟨p, q, w3, hp, hs3, q3, k3, n3, d3⟩ := kk.stR ⟨_, _, _, rfl⟩ ⟨_, _, _, rfl⟩ (RatV.mk (b := false) (Wds.nil _) (Wds.nil _))
          refine o_store rfl rfl (hs3) (o_assign rfl rfl (o_nil (n_then (c_ret (r_then ?_)))))
          refine r_bodyc2 rfl rfl rfl k3 Try.underlying41 rfl size_Rat ?_
          exact ⟨_, rfl, gb_new gg q3 l2, by rw [hR]; exact ⟨_, rfl, ⟨p, q, rfl, n3, d3⟩, (rr.rdT.off (kk.kpR ⟨_, _, _, rfl⟩ ⟨_, _, _, rfl⟩ q3) q3 hne').rdAt⟩⟩
        · have hR : (some (c :: l)).bind rdR = some ((s, m, m'), t') := by
            show rdR (c :: l) = _
            rw [hR1, hM]
            exact if_pos hV
          refine c_region (o_move rfl rfl (o_call call_rnat rfl rfl ((rnat_someF (st := some t) rr hl2 hM)) ?_))
          rintro v40 w40 ⟨g40, v1, rfl, h1, rs, f1⟩
          have m40 := (rr.rdT).kp g40
          have gg := gg.trans g40
          have kk := kk.other g40 hne
          have rr := rs
          refine o_move rfl rfl (o_extract rfl rfl (r_ext0) (o_extract rfl rfl (r_ext1) (o_assign rfl rfl (o_assign rfl rfl (o_nil (n_then (c_seq (c_region (o_move rfl rfl ?_)))))))))
          obtain ⟨a44, p44, q44⟩ := r_ixB (hb.kp (m30.trans m40)) (i := 0) (by simp) .i64
          refine o_indexAddr rfl rfl rfl (p44 _) (o_load rfl rfl (r_load1 Try.underlying5 rfl q44) (o_bin (v := U8 1) (r := B s) rfl rfl rfl ((by rw [hcs]; exact r_eql_u8)) ?_))
          refine o_move rfl rfl (o_move rfl rfl ?_)
          refine o_build (vs := [(0, B s), (1, v0), (2, v1)]) rfl rfl (r_buildR h0.isS h1.isS) ?_
          obtain ⟨g8, w8, hr8, l8, x8, k8⟩ := r_allocR (w := w40)
          refine o_alloc rfl hr8 ?_
          obtain ⟨p, q, w4, hp, hs4, q4, k4, n4, d4⟩ := k8.stR ⟨_, _, _, rfl⟩ ⟨_, _, _, rfl⟩ (RatV.mk (b := s) ((h0.kp m40).ext x8) (h1.ext x8))
          refine o_store rfl rfl (hs4) ?_
          have x4 := x8.of_new q4 l8
          have rr := rr.ext x4
          have kk := kk.ext x4
          have gg := gg.trans (grownBy_of_ext x4)
          have hml : m.length ≤ 137438953472 := by
            have := hl1 _ rfl
            rw [(rdN_inv hN).1, List.length_append, encN, List.length_append, le4s_len] at this
            omega
          refine o_nil (n_then (c_seq (c_seq (c_region (o_move rfl rfl (o_not rfl rfl r_not (o_move rfl rfl (g_yes rfl (o_load rfl rfl (k4.ldR) (g_yes rfl ?_))))))))))
          have hml' : m'.length ≤ 137438953472 := by
            have := hl2 _ rfl
            rw [(rdN_inv hM).1, List.length_append, encN, List.length_append, le4s_len] at this
            omega
          refine o_call call_QValid rfl rfl ((by have := QValid_spec (b := s) (RatV.mk n4 d4) hml hml'; rw [hV] at this; exact this)) ?_
          rintro v54 w54 ⟨x54, rfl⟩
          have rr := rr.ext x54
          have kk := kk.ext x54
          have gg := gg.trans (grownBy_of_ext x54)
          refine g_yes rfl (o_not rfl rfl r_not (o_pick_f rfl rfl rfl (o_nil (n_then (c_no rfl (c_skip (n_then (c_seq (c_region (o_load rfl rfl ((k4.ext x54).ldR) ?_))))))))))
          obtain ⟨ea, eb⟩ := agg_inj3 hp
          obtain ⟨p, q, w3, hp, hs3, q3, k3, n3, d3⟩ := kk.stR ⟨_, _, _, rfl⟩ ⟨_, _, _, rfl⟩ ((RatV.mk n4 d4).ext x54)
          refine o_store rfl rfl (hs3) (o_assign rfl rfl (o_nil (n_then (c_ret ?_))))
          refine r_bodyc2 rfl rfl rfl k3 Try.underlying41 rfl size_Rat ?_
          exact ⟨_, rfl, gb_new gg q3 l2, by
            rw [hR]
            obtain ⟨ec, ed⟩ := agg_inj3 hp
            exact ⟨p, q, rfl, n3, d3, (rr.rdT.off (kk.kpR ⟨_, _, _, rfl⟩ ⟨_, _, _, rfl⟩ q3) q3 hne').rdAt, ec ▸ ea ▸ (fun k hk => Nat.le_trans hs14 (f0 k hk)), ed ▸ eb ▸ (fun k hk => Nat.le_trans hs30 (f1 k hk))⟩⟩
        · have hR : (some (c :: l)).bind rdR = none := by
            show rdR (c :: l) = none
            rw [hR1, hM]; rfl
          refine c_region (o_move rfl rfl (o_call call_rnat rfl rfl ((rnat_none (st := some t) rr hl2 hM)) ?_))
          rintro v40 w40 ⟨g40, v1, rfl, ⟨m', h1⟩, _, rs⟩
          have m40 := (rr.rdT).kp g40
          have gg := gg.trans g40
          have kk := kk.other g40 hne
          have rr := rs
          refine o_move rfl rfl (o_extract rfl rfl (r_ext0) (o_extract rfl rfl (r_ext1) (o_assign rfl rfl (o_assign rfl rfl (o_nil (n_then (c_seq (c_region (o_move rfl rfl ?_)))))))))
          obtain ⟨a44, p44, q44⟩ := r_ixB (hb.kp (m30.trans m40)) (i := 0) (by simp) .i64
          refine o_indexAddr rfl rfl rfl (p44 _) (o_load rfl rfl (r_load1 Try.underlying5 rfl q44) (o_bin (v := U8 1) (r := B s) rfl rfl rfl ((by rw [hcs]; exact r_eql_u8)) ?_))
          refine o_move rfl rfl (o_move rfl rfl ?_)
          refine o_build (vs := [(0, B s), (1, v0), (2, v1)]) rfl rfl (r_buildR h0.isS h1.isS) ?_
          obtain ⟨g8, w8, hr8, l8, x8, k8⟩ := r_allocR (w := w40)
          refine o_alloc rfl hr8 ?_
          obtain ⟨p, q, w4, hp, hs4, q4, k4, n4, d4⟩ := k8.stR ⟨_, _, _, rfl⟩ ⟨_, _, _, rfl⟩ (RatV.mk (b := s) ((h0.kp m40).ext x8) (h1.ext x8))
          refine o_store rfl rfl (hs4) ?_
          have x4 := x8.of_new q4 l8
          have rr := rr.ext x4
          have kk := kk.ext x4
          have gg := gg.trans (grownBy_of_ext x4)
          have hml : m.length ≤ 137438953472 := by
            have := hl1 _ rfl
            rw [(rdN_inv hN).1, List.length_append, encN, List.length_append, le4s_len] at this
            omega
          refine o_nil (n_then (c_seq (c_seq (c_region (o_move rfl rfl (o_not rfl rfl r_not (o_move rfl rfl (g_no rfl rfl rfl (g_no rfl rfl rfl (g_no rfl rfl rfl (o_pick_t rfl rfl rfl (o_nil (n_then ?_)))))))))))))
          refine c_yes rfl (c_seq (c_region ?_))
          refine o_build (vs := []) rfl rfl r_buildR0 ?_
          refine o_move rfl rfl (o_call call_fail rfl rfl (fail_spec rr) ?_)
          rintro v59 w59 ⟨rfl, rs, g59⟩
          have m59 := (rr.rdT).kp g59
          have gg := gg.trans g59
          have kk := kk.other g59 hne
          have rr := rs
          obtain ⟨p, q, w3, hp, hs3, q3, k3, n3, d3⟩ := kk.stR ⟨_, _, _, rfl⟩ ⟨_, _, _, rfl⟩ (RatV.mk (b := false) (Wds.nil _) (Wds.nil _))
          refine o_store rfl rfl (hs3) (o_assign rfl rfl (o_nil (n_then (c_ret (r_then ?_)))))
          refine r_bodyc2 rfl rfl rfl k3 Try.underlying41 rfl size_Rat ?_
          exact ⟨_, rfl, gb_new gg q3 l2, by rw [hR]; exact ⟨_, rfl, ⟨p, q, rfl, n3, d3⟩, (rr.rdT.off (kk.kpR ⟨_, _, _, rfl⟩ ⟨_, _, _, rfl⟩ q3) q3 hne').rdAt⟩⟩
theorem RRat_spec {w : World} {g : Nat} {st : Option (List UInt8)} (hr : RdAt g st w) (hl : ∀ l, st = some l → l.length ≤ 549755813888) :
    Calls Try.prog 59 #[.pointer (some ⟨g, 0, none⟩)] w (Ret (RatE g w (st.bind rdR))) := (RRat_specF hr hl).mono fun _ _ ⟨r, h, h'⟩ => ⟨r, h, h'.e⟩
end Go.Rl
/- Walks of the reference's reader. Conditions: the bytes are not more than 2^39. -/
namespace Go.Rl
open Go.RowKit Go.Proofs
theorem rdU_getD {st : Option (List UInt8)} : st.bind rdU = rdU (st.getD []) := by cases st <;> rfl
theorem add_byte {acc mult : UInt64} {c : UInt8} {k : Nat} (ha : acc.toNat < 128 ^ k) (hk : k ≤ 9) (h9 : k = 9 → c.toNat % 128 ≤ 1) (hm : mult.toNat = 128 ^ k) :
    (acc + (c % 128).toUInt64 * mult).toNat = acc.toNat + (c.toNat % 128) * 128 ^ k := by
  have e1 : ((c % 128).toUInt64).toNat = c.toNat % 128 := by rw [UInt8.toNat_toUInt64, UInt8.toNat_mod]; rfl
  rw [UInt64.toNat_add, UInt64.toNat_mul, e1, hm]
  rcases Nat.lt_or_ge k 9 with h | h
  · have h1 : (c.toNat % 128) * 128 ^ k ≤ 127 * 128 ^ 8 := Nat.mul_le_mul (by omega) (Nat.pow_le_pow_right (by omega) (by omega))
    have h2 : 128 ^ k ≤ 128 ^ 8 := Nat.pow_le_pow_right (by omega) (by omega)
    have e : (128 : Nat) ^ 8 = 72057594037927936 := by decide
    rw [Nat.mod_eq_of_lt (by omega), Nat.mod_eq_of_lt (by omega)]
  · have h' : k = 9 := by omega
    subst h'
    have := h9 rfl
    have e : (128 : Nat) ^ 9 = 9223372036854775808 := by decide
    rw [e] at ha ⊢
    rw [Nat.mod_eq_of_lt (by omega), Nat.mod_eq_of_lt (by omega)]
theorem rdUk_zero (k : Nat) (l : List UInt8) : rdUk 0 k l = none := rfl
theorem rdUk_step {k : Nat} {c : UInt8} {l : List UInt8} (hk : k ≤ 9) : rdUk (10 - k) k (c :: l) = if (k = 9 ∧ 1 < c.toNat) ∨ (0 < k ∧ c.toNat = 0) then none else if c.toNat < 128 then some (c.toNat * 128 ^ k, l) else (rdUk (10 - (k + 1)) (k + 1) l).map fun p => (p.1 + (c.toNat % 128) * 128 ^ k, p.2) := by
  rw [show 10 - k = (9 - k) + 1 by omega, show 10 - (k + 1) = 9 - k by omega]; rfl
end Go.Rl
/- Walks of more of the reference's reader. Conditions: the bytes are not more than 2^39. -/
namespace Go.Rl
open Go.RowKit Go.Proofs
section
variable {w : World} {g : Nat}
end
theorem gb_own {w w1 w2 : World} {row row2 : Option Nat} (h : w.grownBy w1 row) (q : w1.grownBy w2 row2) (hg : ∀ k, row2 = some k → w.heap.size ≤ k) : w.grownBy w2 row :=
  ⟨q.os.trans h.os, q.tape.trans h.tape, q.output.trans h.output, Nat.le_trans h.size q.size, fun i hi hne => (q.block i (Nat.lt_of_lt_of_le hi h.size) (fun e => by have := hg i e.symm; omega)).trans (h.block i hi hne)⟩
theorem OwnW.ge' {base : Nat} {l : List UInt32} {v : Value} {w : World} (h : OwnW base l v w) : ∀ k, v.ownBlock = some k → base ≤ k := fun k hk => h.elim fun _ h => (World.ownsRow.lt h k hk).1
theorem r_u64_n {P : Program} {w : World} {s d : TypeId} {n : Nat} (hs : P.underlying s = some (.int .u64)) (hd : P.underlying d = some (.int .i64)) (hn : n < 9223372036854775808) : (convert s d (U64 (UInt64.ofNat n))).run P w = .ok (I (n : Int)) w := by
  have e : (UInt64.ofNat n).toNat = n := by rw [UInt64.toNat_ofNat']; omega
  have := r_u64_i (P := P) (w := w) hs hd (a := UInt64.ofNat n) (by omega)
  rwa [e] at this
theorem r_half2 {P : Program} {w : World} {s d : TypeId} {n : Nat} (hs : P.underlying s = some (.int .u64)) (hd : P.underlying d = some (.int .i64)) (hn : n < 18446744073709551616) : (convert s d (U64 (UInt64.ofNat n / 2))).run P w = .ok (I ((n / 2 : Nat) : Int)) w := by
  have e : (UInt64.ofNat n / 2).toNat = n / 2 := by
    rw [UInt64.toNat_div, UInt64.toNat_ofNat', show (2 : UInt64).toNat = 2 from rfl]; omega
  have := r_u64_i (P := P) (w := w) hs hd (a := UInt64.ofNat n / 2) (by omega)
  rwa [e] at this
theorem odd_n {n : Nat} : UInt64.ofNat n % 2 = 1 ↔ n % 2 = 1 := by
  rw [← UInt64.toNat_inj, UInt64.toNat_mod, UInt64.toNat_ofNat', show (2 : UInt64).toNat = 2 from rfl, show (1 : UInt64).toNat = 1 from rfl]
  omega
theorem gtr_n {n m : Nat} (hn : n < 18446744073709551616) (hm : m < 18446744073709551616) : UInt64.ofNat n > UInt64.ofNat m ↔ m < n := by
  show UInt64.ofNat m < UInt64.ofNat n ↔ m < n
  rw [UInt64.lt_iff_toNat_lt, UInt64.toNat_ofNat', UInt64.toNat_ofNat']
  omega
theorem gtr_0 {n : Nat} (hn : n < 18446744073709551616) : UInt64.ofNat n > 0 ↔ 0 < n := gtr_n hn (by decide)
end Go.Rl
/- Walks of the reference's reader: byte strings, texts, rationals. Conditions: the bytes are not more than 2^39. -/
namespace Go.Rl
open Go.RowKit Go.Proofs
theorem rdB_u0 {st : Option (List UInt8)} (h : st.bind rdU = none) : st.bind rdB = none := by
  cases st with
  | none => rfl
  | some l =>
    have h : rdU l = none := h
    show rdB l = none
    unfold rdB
    rw [h]; rfl
theorem rdB_u1 {st : Option (List UInt8)} {n : Nat} {t : List UInt8} (h : st.bind rdU = some (n, t)) : st.bind rdB = if n ≤ t.length then some (t.take n, t.drop n) else none := by
  cases st with
  | none => cases h
  | some l =>
    have h : rdU l = some (n, t) := h
    show rdB l = _
    unfold rdB
    rw [h]; rfl
theorem rdB_len' {st : Option (List UInt8)} {a t : List UInt8} {k : Nat} (h : st.bind rdB = some (a, t)) (hl : ∀ l, st = some l → l.length ≤ k) : a.length ≤ k := by
  cases st with
  | none => cases h
  | some l => exact Nat.le_trans (rdB_len (show rdB l = some (a, t) from h)) (hl l rfl)
section
variable {w : World} {g : Nat}
end
end Go.Rl
/- The reference's reader of rationals. Conditions: the bytes are not more than 2^39. -/
namespace Go.Rl
open Go.RowKit Go.Proofs
theorem Blk.st1 {P : Program} {w : World} {T t : TypeId} {g : Nat} {l : List Value} {v : Value} (h : Blk g T l w) (i : Nat) (hs : (P.info? t).map (·.size) = some 1) (hv : ∃ A n c, v = .slice A n c) (hi : i < l.length) :
    ∃ w', (Instr.storeAt t (.pointer (some ⟨g, i, none⟩)) v).run P w = .ok () w' ∧ w.grownBy w' (some g) ∧ Blk g T (l.set i v) w' := by
  obtain ⟨A, n, c, rfl⟩ := hv
  exact ⟨_, r_store1 hs rfl h (by simpa using hi), grownBy_setCell w g i _, h.set i _⟩
theorem r_buildR1 {w : World} {b : Bool} : (Instr.build 41 #[(0, B b)]).run Try.prog w = .ok (.agg #[B b, .slice none 0 0, .slice none 0 0]) w :=
  run_build _ _ _ #[B b, .slice none 0 0, .slice none 0 0] (by kernel_rfl)
end Go.Rl
/- A step of two readers at once. Conditions: the bytes are not more than 2^39. -/
namespace Go.Rl
open Go.RowKit Go.Proofs
theorem rdB_inv {l a t : List UInt8} (h : rdB l = some (a, t)) : l = encB a ++ t := by
  unfold rdB at h
  cases hu : rdU l with
  | none => rw [hu] at h; cases h
  | some p =>
    obtain ⟨n, u⟩ := p
    rw [hu] at h
    have h : (if n ≤ u.length then some (u.take n, u.drop n) else none) = some (a, t) := h
    split at h
    · simp only [Option.some.injEq, Prod.mk.injEq] at h
      have e := (rdU_inv hu).1
      have hl : (u.take n).length = n := by rw [List.length_take]; omega
      rw [e, ← h.1, ← h.2, encB, hl, List.append_assoc, List.take_append_drop]
    · cases h
theorem rdR_inv {l t : List UInt8} {b : Bool} {n m : List UInt32} (h : rdR l = some ((b, n, m), t)) : l = encR b n m ++ t ∧ rv b n m = true ∧ 4 * (n.length + m.length) ≤ l.length := by
  cases l with
  | nil => cases h
  | cons c l =>
    by_cases hc : 1 < c.toNat
    · rw [rdR_big hc] at h; cases h
    · cases hN : rdN l with
      | none => rw [rdR_n0 hN] at h; cases h
      | some p =>
        obtain ⟨n', u⟩ := p
        rw [rdR_n1 hc hN] at h
        cases hM : rdN u with
        | none => rw [hM] at h; cases h
        | some q =>
          obtain ⟨m', u'⟩ := q
          rw [hM] at h
          have h : (if rv (decide (c.toNat = 1)) n' m' = true then some ((decide (c.toNat = 1), n', m'), u') else none) = some ((b, n, m), t) := h
          split at h
          · rename_i hv
            simp only [Option.some.injEq, Prod.mk.injEq] at h
            obtain ⟨⟨rfl, rfl, rfl⟩, rfl⟩ := h
            have hcs : c = sgn (decide (c.toNat = 1)) := by
              by_cases h1 : c.toNat = 1
              · rw [decide_eq_true h1, u8_one.1 h1]; rfl
              · rw [decide_eq_false h1]
                exact UInt8.toNat_inj.1 (show c.toNat = (0 : UInt8).toNat by rw [show (0 : UInt8).toNat = 0 from rfl]; omega)
            have e : c :: l = encR (decide (c.toNat = 1)) n' m' ++ u' := by
              rw [encR, ← hcs, (rdN_inv hN).1, (rdN_inv hM).1]
              simp
            refine ⟨e, hv, ?_⟩
            rw [e]
            simp only [encR, encN, List.length_append, le4s_len]
            omega
          · cases h
theorem rv_can {b : Bool} {n m : List UInt32} (h : rv b n m = true) : lb (val n) = n ∧ lb (val m) = m := by
  obtain ⟨_, h2, h3⟩ := of_decide_eq_true h
  constructor
  · obtain ⟨x, hx⟩ : ∃ x, x = val n / Nat.gcd (val n) (val (ud m)) := ⟨_, rfl⟩
    rw [← hx] at h2
    rw [h2, val_lb]
  · unfold cqD at h3
    split at h3
    · rw [h3]; rfl
    · obtain ⟨x, hx⟩ : ∃ x, x = val (ud m) / Nat.gcd (val n) (val (ud m)) := ⟨_, rfl⟩
      rw [← hx] at h3
      rw [h3, val_lb]
theorem rdR_encR {b : Bool} {n m : List UInt32} (h : rv b n m = true) (hn : n.length < 18446744073709551616) (hm : m.length < 18446744073709551616) (t : List UInt8) : rdR (encR b n m ++ t) = some ((b, n, m), t) := by
  have hs : ¬ 1 < (sgn b).toNat := by cases b <;> decide
  have hd : decide ((sgn b).toNat = 1) = b := by cases b <;> decide
  have e : encR b n m ++ t = sgn b :: (encN n ++ (encN m ++ t)) := by simp [encR]
  rw [e, rdR_n1 hs (rdN_encN hn (rv_can h).1 _), hd, rdN_encN hm (rv_can h).2]
  exact if_pos h
/-- Not too many bytes are left. -/
def Few (st : Option (List UInt8)) : Prop := ∀ l, st = some l → l.length ≤ 549755813888
theorem Few.none : Few none := fun _ h => by cases h
theorem Few.u {st : Option (List UInt8)} {n : Nat} {t : List UInt8} (h : Few st) (hu : st.bind rdU = some (n, t)) : Few (some t) := fun l e => by cases e; exact (rdU_len hu h).1
theorem Few.of {st : Option (List UInt8)} {l t p : List UInt8} (h : Few st) (e : st = some l) (hp : l = p ++ t) : Few (some t) := fun x hx => by
  cases hx
  have := h l e
  rw [hp, List.length_append] at this
  omega
theorem bind_some {α : Type} {st : Option (List UInt8)} {f : List UInt8 → Option α} {y : α} (h : st.bind f = some y) : ∃ l, st = some l ∧ f l = some y := by
  cases st with
  | none => cases h
  | some l => exact ⟨l, rfl, h⟩
theorem Few.n {st : Option (List UInt8)} {m : List UInt32} {t : List UInt8} (h : Few st) (hu : st.bind rdN = some (m, t)) : Few (some t) := by
  obtain ⟨l, e, hl⟩ := bind_some hu
  exact h.of e (rdN_inv hl).1
theorem Few.r {st : Option (List UInt8)} {q : Bool × List UInt32 × List UInt32} {t : List UInt8} (h : Few st) (hu : st.bind rdR = some (q, t)) : Few (some t) := by
  obtain ⟨l, e, hl⟩ := bind_some hu
  obtain ⟨b, n, m⟩ := q
  exact h.of e (rdR_inv hl).1
theorem Few.b {st : Option (List UInt8)} {a t : List UInt8} (h : Few st) (hu : st.bind rdB = some (a, t)) : Few (some t) := by
  obtain ⟨l, e, hl⟩ := bind_some hu
  exact h.of e (rdB_inv hl)
theorem r_build1N {w : World} {p : Value} (hp : ∃ A n c, p = .slice A n c) : (Instr.build 41 #[(1, p)]).run Try.prog w = .ok (.agg #[B false, p, .slice none 0 0]) w := by
  obtain ⟨A, n, d, rfl⟩ := hp
  exact run_build _ _ _ #[B false, .slice A n d, .slice none 0 0] (by kernel_rfl)
/-! What a call on the wire's reader and on the reference's leaves, by cases. -/
section
variable {w : World} {g : Nat} {st : Option (List UInt8)}
theorem WU_no (hr : RdAt g st w) (h : st.bind rdU = none) : Calls Try.prog 57 #[.pointer (some ⟨g, 0, none⟩)] w (Ret fun r w' => w.grownBy w' (some g) ∧ r = .tuple #[U64 0, I 5] ∧ RdAt g none w') := by
  have := Uint_spec hr
  rw [h] at this
  exact this
theorem WU_ok {n : Nat} {t : List UInt8} (hr : RdAt g st w) (h : st.bind rdU = some (n, t)) : Calls Try.prog 57 #[.pointer (some ⟨g, 0, none⟩)] w (Ret fun r w' => w.grownBy w' (some g) ∧ r = .tuple #[U64 (UInt64.ofNat n), I 0] ∧ RdAt g (some t) w') := by
  have := Uint_spec hr
  rw [h] at this
  exact this
theorem WI_no (hr : RdAt g st w) (h : st.bind rdU = none) : Calls Try.prog 58 #[.pointer (some ⟨g, 0, none⟩)] w (Ret fun r w' => w.grownBy w' (some g) ∧ r = .tuple #[I 0, I 5] ∧ RdAt g none w') := by
  have := RInt_spec hr
  rw [h] at this
  exact this
theorem WI_ok {n : Nat} {t : List UInt8} (hr : RdAt g st w) (h : st.bind rdU = some (n, t)) : Calls Try.prog 58 #[.pointer (some ⟨g, 0, none⟩)] w (Ret fun r w' => w.grownBy w' (some g) ∧ r = .tuple #[I (uz n), I 0] ∧ RdAt g (some t) w') := by
  have := RInt_spec hr
  rw [h] at this
  exact this
theorem WR_no (hr : RdAt g st w) (hl : Few st) (h : st.bind rdR = none) : Calls Try.prog 59 #[.pointer (some ⟨g, 0, none⟩)] w (Ret fun r w' => w.grownBy w' (some g) ∧ ∃ v, r = .tuple #[v, I 5] ∧ RatV false [] [] v w' ∧ RdAt g none w') := by
  have := RRat_spec hr hl
  rw [h] at this
  exact this
theorem WR_ok {b : Bool} {n m : List UInt32} {t : List UInt8} (hr : RdAt g st w) (hl : Few st) (h : st.bind rdR = some ((b, n, m), t)) : Calls Try.prog 59 #[.pointer (some ⟨g, 0, none⟩)] w (Ret fun r w' => w.grownBy w' (some g) ∧ ∃ v, r = .tuple #[v, I 0] ∧ RatV b n m v w' ∧ RdAt g (some t) w') := by
  have := RRat_spec hr hl
  rw [h] at this
  exact this
end
end Go.Rl
/- Plain maths: the digest as a function on lists. Nothing of a program. -/
namespace Go.Rl

def rotr (x : UInt32) (n : Nat) : UInt32 := (x >>> UInt32.ofNat n) ||| (x <<< UInt32.ofNat (32 - n))
/-- The constants of the rounds. -/
def kc : List UInt32 := [0x428a2f98, 0x71374491, 0xb5c0fbcf, 0xe9b5dba5, 0x3956c25b, 0x59f111f1, 0x923f82a4, 0xab1c5ed5, 0xd807aa98, 0x12835b01, 0x243185be, 0x550c7dc3, 0x72be5d74, 0x80deb1fe, 0x9bdc06a7, 0xc19bf174, 0xe49b69c1, 0xefbe4786, 0x0fc19dc6, 0x240ca1cc, 0x2de92c6f, 0x4a7484aa, 0x5cb0a9dc, 0x76f988da, 0x983e5152, 0xa831c66d, 0xb00327c8, 0xbf597fc7, 0xc6e00bf3, 0xd5a79147, 0x06ca6351, 0x14292967, 0x27b70a85, 0x2e1b2138, 0x4d2c6dfc, 0x53380d13, 0x650a7354, 0x766a0abb, 0x81c2c92e, 0x92722c85, 0xa2bfe8a1, 0xa81a664b, 0xc24b8b70, 0xc76c51a3, 0xd192e819, 0xd6990624, 0xf40e3585, 0x106aa070, 0x19a4c116, 0x1e376c08, 0x2748774c, 0x34b0bcb5, 0x391c0cb3, 0x4ed8aa4a, 0x5b9cca4f, 0x682e6ff3, 0x748f82ee, 0x78a5636f, 0x84c87814, 0x8cc70208, 0x90befffa, 0xa4506ceb, 0xbef9a3f7, 0xc67178f2]
/-- The initial state. -/
def iv : List UInt32 := [0x6a09e667, 0xbb67ae85, 0x3c6ef372, 0xa54ff53a, 0x510e527f, 0x9b05688c, 0x1f83d9ab, 0x5be0cd19]
/-- A word of a block. -/
def word (b : List UInt8) (t : Nat) : UInt32 := ((((b.getD (4 * t) 0).toUInt32 <<< UInt32.ofNat 24) ||| ((b.getD (4 * t + 1) 0).toUInt32 <<< UInt32.ofNat 16)) ||| ((b.getD (4 * t + 2) 0).toUInt32 <<< UInt32.ofNat 8)) ||| (b.getD (4 * t + 3) 0).toUInt32
def nextW (l : List UInt32) : UInt32 :=
  let t := l.length
  let x := l.getD (t - 15) 0
  let y := l.getD (t - 2) 0
  l.getD (t - 16) 0 + (rotr x 7 ^^^ rotr x 18 ^^^ x >>> UInt32.ofNat 3) + l.getD (t - 7) 0 + (rotr y 17 ^^^ rotr y 19 ^^^ y >>> UInt32.ofNat 10)
/-- The first words. -/
def words (b : List UInt8) (k : Nat) : List UInt32 := (List.range k).map (word b)
def sched (b : List UInt8) : Nat → List UInt32
  | 0 => words b 16
  | k + 1 => sched b k ++ [nextW (sched b k)]
theorem sched_len (b : List UInt8) : ∀ k, (sched b k).length = 16 + k
  | 0 => by simp [sched, words]
  | k + 1 => by simp [sched, sched_len b k]; omega
/-- One round. -/
def t1 (s : List UInt32) (k w : UInt32) : UInt32 :=
  let e := s.getD 4 0
  s.getD 7 0 + (rotr e 6 ^^^ rotr e 11 ^^^ rotr e 25) + (e &&& s.getD 5 0 ^^^ ~~~e &&& s.getD 6 0) + k + w
def t2 (s : List UInt32) : UInt32 :=
  let a := s.getD 0 0
  (rotr a 2 ^^^ rotr a 13 ^^^ rotr a 22) + (a &&& s.getD 1 0 ^^^ a &&& s.getD 2 0 ^^^ s.getD 1 0 &&& s.getD 2 0)
def rnd (s : List UInt32) (k w : UInt32) : List UInt32 := [t1 s k w + t2 s, s.getD 0 0, s.getD 1 0, s.getD 2 0, s.getD 3 0 + t1 s k w, s.getD 4 0, s.getD 5 0, s.getD 6 0]
def rounds (b : List UInt8) (s : List UInt32) : Nat → List UInt32
  | 0 => s
  | i + 1 => rnd (rounds b s i) (kc.getD i 0) ((sched b 48).getD i 0)
theorem rounds_len (b : List UInt8) (s : List UInt32) (hs : s.length = 8) : ∀ i, (rounds b s i).length = 8
  | 0 => hs
  | _ + 1 => rfl
/-- The state behind a block. -/
def cmpr (s : List UInt32) (b : List UInt8) : List UInt32 := List.zipWith (· + ·) s (rounds b s 64)
theorem cmpr_len (s : List UInt32) (b : List UInt8) (hs : s.length = 8) : (cmpr s b).length = 8 := by
  simp [cmpr, hs, rounds_len b s hs]
/-- The state behind the first blocks. -/
def shN (m : List UInt8) : Nat → List UInt32
  | 0 => iv
  | k + 1 => cmpr (shN m k) ((m.drop (64 * k)).take 64)
theorem shN_len (m : List UInt8) : ∀ k, (shN m k).length = 8
  | 0 => rfl
  | k + 1 => cmpr_len _ _ (shN_len m k)
theorem shN_append (m x : List UInt8) : ∀ k, 64 * k ≤ m.length → shN (m ++ x) k = shN m k
  | 0, _ => rfl
  | k + 1, h => by
    have h0 : 64 * k ≤ m.length := by omega
    have h1 : 64 ≤ (m.drop (64 * k)).length := by simp; omega
    rw [shN, shN, shN_append m x k h0, List.drop_append_of_le_length h0, List.take_append_of_le_length h1]
def sh (m : List UInt8) : List UInt32 := shN m (m.length / 64)
theorem sh_len (m : List UInt8) : (sh m).length = 8 := shN_len m _
theorem sh_tail (p t : List UInt8) (hp : p.length % 64 = 0) (ht : t.length < 64) : sh (p ++ t) = sh p := by
  have : (p ++ t).length / 64 = p.length / 64 := by simp only [List.length_append]; omega
  unfold sh
  rw [this, shN_append p t _ (by omega)]
theorem sh_block (p b : List UInt8) (hp : p.length % 64 = 0) (hb : b.length = 64) : sh (p ++ b) = cmpr (sh p) b := by
  have h1 : (p ++ b).length / 64 = p.length / 64 + 1 := by simp only [List.length_append]; omega
  unfold sh
  rw [h1, shN, shN_append p b _ (by omega)]
  have h2 : 64 * (p.length / 64) = p.length := by omega
  rw [h2, List.drop_left, ← hb, List.take_length]
def be4 (x : UInt32) : List UInt8 := [(x >>> UInt32.ofNat 24).toUInt8, (x >>> UInt32.ofNat 16).toUInt8, (x >>> UInt32.ofNat 8).toUInt8, x.toUInt8]
def be8 (n : UInt64) : List UInt8 := (List.range 8).map fun i => (n >>> UInt64.ofNat (56 - 8 * i)).toUInt8
def padZ (n : Nat) : Nat := (119 - n % 64) % 64
def padded (m : List UInt8) : List UInt8 := m ++ [128] ++ List.replicate (padZ m.length) 0 ++ be8 (UInt64.ofNat m.length * 8)
theorem padded_len (m : List UInt8) : (padded m).length % 64 = 0 := by
  simp only [padded, padZ, be8, List.length_append, List.length_cons, List.length_nil, List.length_replicate, List.length_map, List.length_range]; omega
/-- The digest. -/
def dig (m : List UInt8) : List UInt8 := (sh (padded m)).flatMap be4
end Go.Rl
/- Plain maths: models as data, their bytes, reading them back. Nothing of a program but the names of what it imports. -/
namespace Go.Rl
open Go.RowKit

abbrev RatD := Bool × List UInt32 × List UInt32
def dIn (n : Int) : Dt := .int .i64 n
def dRat (q : RatD) : Dt := .st [.bool q.1, dNat q.2.1, dNat q.2.2]
structure LayD where
  kd : Int
  fr : Int
  ou : Int
  kh : Int
  kw : Int
  sr : Int
  pd : Int
  ws : List RatD
  bs : List RatD
structure ModD where
  inp : List Int
  lays : List LayD
theorem LayD.eq_iff {a b : LayD} : a = b ↔ a.kd = b.kd ∧ a.fr = b.fr ∧ a.ou = b.ou ∧ a.kh = b.kh ∧ a.kw = b.kw ∧ a.sr = b.sr ∧ a.pd = b.pd ∧ a.ws = b.ws ∧ a.bs = b.bs := by
  constructor
  · rintro rfl; exact ⟨rfl, rfl, rfl, rfl, rfl, rfl, rfl, rfl, rfl⟩
  · rintro ⟨h1, h2, h3, h4, h5, h6, h7, h8, h9⟩
    cases a; cases b; simp_all
theorem ModD.eq_iff {a b : ModD} : a = b ↔ a.inp = b.inp ∧ a.lays = b.lays := by
  constructor
  · rintro rfl; exact ⟨rfl, rfl⟩
  · rintro ⟨h1, h2⟩
    cases a; cases b; simp_all
instance : DecidableEq LayD := fun _ _ => decidable_of_iff _ LayD.eq_iff.symm
instance : DecidableEq ModD := fun _ _ => decidable_of_iff _ ModD.eq_iff.symm
def dRats (l : List RatD) : Dt := .sl (l.map dRat)
def dLay (l : LayD) : Dt := .st [dIn l.kd, dIn l.fr, dIn l.ou, dIn l.kh, dIn l.kw, dIn l.sr, dIn l.pd, dRats l.ws, dRats l.bs]
def dInts (l : List Int) : Dt := .sl (l.map dIn)
def dMod (m : ModD) : Dt := .st [dInts m.inp, .sl (m.lays.map dLay)]
def i64 (n : Int) : Prop := -9223372036854775808 ≤ n ∧ n ≤ 9223372036854775807
def LayD.ints (l : LayD) : List Int := [l.kd, l.fr, l.ou, l.kh, l.kw, l.sr, l.pd]
def LayD.wf (l : LayD) : Prop := ∀ n ∈ l.ints, i64 n
def ModD.wf (m : ModD) : Prop := (∀ n ∈ m.inp, i64 n) ∧ ∀ l ∈ m.lays, l.wf

/-! ### bytes -/
def encI (n : Int) : List UInt8 := uv (zig n)
def encQ (q : RatD) : List UInt8 := encR q.1 q.2.1 q.2.2
def encQs (l : List RatD) : List UInt8 := uv l.length ++ l.flatMap encQ
def encL (l : LayD) : List UInt8 := l.ints.flatMap encI ++ encQs l.ws ++ encQs l.bs
def encM (m : ModD) : List UInt8 := uv m.inp.length ++ m.inp.flatMap encI ++ uv m.lays.length ++ m.lays.flatMap encL
def rlum : List UInt8 := [82, 76, 85, 77]
def fileM (m : ModD) : List UInt8 := rlum ++ encM m ++ dig (rlum ++ encM m)

/-! ### reading -/
def rdI (l : List UInt8) : Option (Int × List UInt8) := (rdU l).map fun p => (uz p.1, p.2)
def rdMany {α : Type} (f : List UInt8 → Option (α × List UInt8)) : Nat → List UInt8 → Option (List α × List UInt8)
  | 0, l => some ([], l)
  | n + 1, l => (f l).bind fun p => (rdMany f n p.2).map fun q => (p.1 :: q.1, q.2)
def rdList {α : Type} (f : List UInt8 → Option (α × List UInt8)) (l : List UInt8) : Option (List α × List UInt8) := (rdU l).bind fun p => rdMany f p.1 p.2
def rdQs : List UInt8 → Option (List RatD × List UInt8) := rdList rdR
def rdL (l : List UInt8) : Option (LayD × List UInt8) :=
  (rdI l).bind fun a => (rdI a.2).bind fun b => (rdI b.2).bind fun c => (rdI c.2).bind fun d => (rdI d.2).bind fun e => (rdI e.2).bind fun f => (rdI f.2).bind fun g =>
    (rdQs g.2).bind fun x => (rdQs x.2).bind fun y => some (⟨a.1, b.1, c.1, d.1, e.1, f.1, g.1, x.1, y.1⟩, y.2)
def rdM (l : List UInt8) : Option (ModD × List UInt8) := (rdList rdI l).bind fun a => (rdList rdL a.2).bind fun b => some (⟨a.1, b.1⟩, b.2)

theorem rdI_enc {n : Int} (h : i64 n) (t : List UInt8) : rdI (encI n ++ t) = some (n, t) := by
  unfold rdI encI
  rw [rdU_uv (zig_lt h.1 h.2)]
  simp [uz_zig]
theorem rdMany_enc {α : Type} {f : List UInt8 → Option (α × List UInt8)} {e : α → List UInt8} : ∀ (l : List α) (t : List UInt8), (∀ x ∈ l, ∀ t, f (e x ++ t) = some (x, t)) → rdMany f l.length (l.flatMap e ++ t) = some (l, t)
  | [], t, _ => rfl
  | x :: l, t, h => by
    simp only [List.flatMap_cons, List.append_assoc, List.length_cons, rdMany]
    rw [h x (by simp)]
    simp only [Option.bind_some]
    rw [rdMany_enc l t fun y hy => h y (by simp [hy])]
    rfl
theorem rdList_enc {α : Type} {f : List UInt8 → Option (α × List UInt8)} {e : α → List UInt8} {l : List α} (hl : l.length < 18446744073709551616) (h : ∀ x ∈ l, ∀ t, f (e x ++ t) = some (x, t)) (t : List UInt8) : rdList f (uv l.length ++ l.flatMap e ++ t) = some (l, t) := by
  unfold rdList
  rw [List.append_assoc, rdU_uv hl]
  exact rdMany_enc l t h
/-- A rational that reads back: canonical, not too long. -/
def okQ (q : RatD) : Prop := rv q.1 q.2.1 q.2.2 = true ∧ q.2.1.length < 18446744073709551616 ∧ q.2.2.length < 18446744073709551616
theorem rdQ_enc {q : RatD} (h : okQ q) (t : List UInt8) : rdR (encQ q ++ t) = some (q, t) := rdR_encR h.1 h.2.1 h.2.2 t
theorem rdQs_enc {l : List RatD} (hl : l.length < 18446744073709551616) (h : ∀ q ∈ l, okQ q) (t : List UInt8) : rdQs (encQs l ++ t) = some (l, t) := rdList_enc hl (fun q hq => rdQ_enc (h q hq)) t
structure LayD.ok (l : LayD) : Prop where
  wf : l.wf
  wl : l.ws.length < 18446744073709551616
  bl : l.bs.length < 18446744073709551616
  wq : ∀ q ∈ l.ws, okQ q
  bq : ∀ q ∈ l.bs, okQ q
theorem rdL_enc {l : LayD} (h : l.ok) (t : List UInt8) : rdL (encL l ++ t) = some (l, t) := by
  obtain ⟨kd, fr, ou, kh, kw, sr, pd, ws, bs⟩ := l
  have hw := h.wf
  simp only [LayD.wf, LayD.ints, List.mem_cons, List.not_mem_nil, or_false, forall_eq_or_imp, forall_eq] at hw
  obtain ⟨h1, h2, h3, h4, h5, h6, h7⟩ := hw
  simp only [encL, LayD.ints, List.flatMap_cons, List.flatMap_nil, List.append_nil, List.append_assoc, rdL]
  rw [rdI_enc h1]; simp only [Option.bind_some]
  rw [rdI_enc h2]; simp only [Option.bind_some]
  rw [rdI_enc h3]; simp only [Option.bind_some]
  rw [rdI_enc h4]; simp only [Option.bind_some]
  rw [rdI_enc h5]; simp only [Option.bind_some]
  rw [rdI_enc h6]; simp only [Option.bind_some]
  rw [rdI_enc h7]; simp only [Option.bind_some]
  rw [rdQs_enc h.wl h.wq]; simp only [Option.bind_some]
  rw [rdQs_enc h.bl h.bq]; simp only [Option.bind_some]
structure ModD.ok (m : ModD) : Prop where
  il : m.inp.length < 18446744073709551616
  ll : m.lays.length < 18446744073709551616
  iw : ∀ n ∈ m.inp, i64 n
  lo : ∀ l ∈ m.lays, l.ok
theorem rdM_enc {m : ModD} (h : m.ok) (t : List UInt8) : rdM (encM m ++ t) = some (m, t) := by
  obtain ⟨inp, lays⟩ := m
  unfold rdM encM
  have e : uv inp.length ++ inp.flatMap encI ++ uv lays.length ++ lays.flatMap encL ++ t = uv inp.length ++ inp.flatMap encI ++ (uv lays.length ++ lays.flatMap encL ++ t) := by simp only [List.append_assoc]
  simp only []
  rw [e, rdList_enc h.il (fun n hn => rdI_enc (h.iw n hn))]
  simp only [Option.bind_some]
  rw [rdList_enc h.ll (fun l hl => rdL_enc (h.lo l hl))]
  rfl
/-- One more item behind those that were read. -/
theorem rdMany_snoc {α : Type} {f : List UInt8 → Option (α × List UInt8)} : ∀ (k n : Nat) (l : List UInt8), rdMany f (k + n) l = (rdMany f k l).bind fun p => (rdMany f n p.2).map fun q => (p.1 ++ q.1, q.2)
  | 0, n, l => by simp [rdMany]
  | k + 1, n, l => by
    rw [Nat.add_right_comm]
    simp only [rdMany]
    cases f l with
    | none => rfl
    | some p =>
      simp only [Option.bind_some]
      rw [rdMany_snoc k n p.2]
      cases rdMany f k p.2 with
      | none => rfl
      | some q =>
        simp only [Option.bind_some, Option.map_some]
        cases rdMany f n q.2 with
        | none => rfl
        | some s => rfl
end Go.Rl
/- Structs in blocks and in rows, slices of structs: facts and runs. Conditions: each lemma names its own. -/
namespace Go.Rl
open Go.RowKit Go.Proofs
section
variable {α : Type} {f : α → Dt} {l : List α} {v : Value} {w w' : World}
/-- A slice whose elements read as f of the list's members. -/
def DsV (f : α → Dt) (l : List α) (v : Value) (w : World) : Prop := Rp w (.sl (l.map f)) [v]
theorem DsV.ext (h : DsV f l v w) (hx : Ext w w') : DsV f l v w' := Rp.ext hx h
theorem DsV.stable (f : α → Dt) (l : List α) : Stable (DsV f l) := fun _ _ _ h hx => h.ext hx
theorem DsV.isS (h : DsV f l v w) : ∃ A n c, v = .slice A n c := by
  unfold DsV at h
  simp only [Rp] at h
  obtain ⟨A, n, c, hv, _⟩ := h
  exact ⟨A, n, c, by simpa using hv⟩
theorem DsV.one (h : DsV f l v w) : v.oneCell' = true := by obtain ⟨A, n, c, rfl⟩ := h.isS; rfl
theorem Wds.one {l : List UInt32} (h : Wds l v w) : v.oneCell' = true := by obtain ⟨A, n, c, rfl⟩ := h.isS; rfl
theorem DsV.nil (f : α → Dt) (w : World) : DsV f [] (.slice none 0 0) w := Rp.nilSl
theorem DsV.len (h : DsV f l v w) : l.length ≤ 9223372036854775807 := by
  have := Rp.slLen h
  simpa using this
theorem r_lenDs {P : Program} {t e : TypeId} {ty : TypeId} (ht : P.underlying t = some (.slice e)) (h : DsV f l v w) : (Builtin.len_ #[t] ty #[v]).run P w = .ok (I l.length) w := by
  have := r_lenD (ty := ty) ht h
  simpa using this
theorem r_ixDs {P : Program} {t e : TypeId} {sz : Nat} (ht : P.underlying t = some (.slice e)) (hz : (P.info? e).map (·.size) = some sz) (hs : ∀ x, (f x).size = sz) (h0 : 0 < sz) (h : DsV f l v w) {i : Nat} (hi : i < l.length) (k : IntKind) :
    ∃ ad cs, (∀ w' : World, (Instr.indexAt t v (.int k i)).run P w' = .ok (.pointer (some ad)) w') ∧ Cells w ad cs ∧ Rp w (f l[i]) cs := by
  obtain ⟨ad, cs, h1, h2, h3⟩ := r_ixD ht hz h (by simp [hs]) h0 (i := i) (by simpa using hi) k
  exact ⟨ad, cs, h1, h2, by simpa using h3⟩
theorem Cells.at {ad : Addr} {xs : List Value} (h : Cells w ad xs) {j : Nat} {u : Value} (hj : xs[j]? = some u) : w.cell? (ad.add j) = some u := h j u hj
/-- a field of a struct that lies somewhere -/
theorem r_fC {P : Program} {s : TypeId} {fs : Array Field} {fd : Field} {n o : Nat} {a : Addr} (hs : P.underlying s = some (.struct fs)) (hf : fs[n]? = some fd) (hk : (P.cellsOf fd.type == 0) = false) (ho : fd.offset = o) :
    (Instr.fieldAt s (.pointer (some a)) n).run P w = .ok (.pointer (some (a.add o))) w := by
  have hk' : P.cellsOf fd.type ≠ 0 := by simpa using hk
  obtain ⟨k, hk1⟩ : ∃ k, (P.info? fd.type).map (·.size) = some k := by
    cases hi : (P.info? fd.type).map (·.size) with
    | none => exact absurd (by simp [Program.cellsOf, hi]) hk'
    | some k => exact ⟨k, rfl⟩
  have hk0 : k ≠ 0 := by
    intro h
    apply hk'
    simp [Program.cellsOf, hk1, h]
  rw [r_fieldAt hs hf hk1 hk0, ho]
theorem r_fC2 {P : Program} {s : TypeId} {fs : Array Field} {fd : Field} {n o b : Nat} {a : Addr} (hs : P.underlying s = some (.struct fs)) (hf : fs[n]? = some fd) (hk : (P.cellsOf fd.type == 0) = false) (ho : fd.offset = o) :
    (Instr.fieldAt s (.pointer (some (a.add b))) n).run P w = .ok (.pointer (some (a.add (b + o)))) w := by
  rw [r_fC hs hf hk ho, add_add]
/-- a struct loaded whole -/
theorem Cells.ld {P : Program} {t : TypeId} {d : TypeDesc} {ad : Addr} {cs : List Value} (h : Cells w ad cs) (ht : P.underlying t = some d) (hd : d.isRow = true) (hz : (P.info? t).map (·.size) = some cs.length) : (Instr.loadAt t (.pointer (some ad))).run P w = .ok (.agg cs.toArray) w := r_ldR h ht hd hz
theorem Blk.ld {P : Program} {t T : TypeId} {d : TypeDesc} {g : Nat} {cs : List Value} (h : Blk g T cs w) (ht : P.underlying t = some d) (hd : d.isRow = true) (hz : (P.info? t).map (·.size) = some cs.length) : (Instr.loadAt t (.pointer (some ⟨g, 0, none⟩))).run P w = .ok (.agg cs.toArray) w :=
  r_ldA h (fun j v hj => by simpa using hj) ht hd hz
theorem Blk.ldO {P : Program} {t T : TypeId} {d : TypeDesc} {g o : Nat} {cs ms : List Value} (h : Blk g T cs w) (hm : ∀ j v, ms[j]? = some v → cs[o + j]? = some v) (ht : P.underlying t = some d) (hd : d.isRow = true) (hz : (P.info? t).map (·.size) = some ms.length) : (Instr.loadAt t (.pointer (some ⟨g, o, none⟩))).run P w = .ok (.agg ms.toArray) w :=
  r_ldA h hm ht hd hz
/-- a struct put into a block of its own -/
theorem r_boxS {P : Program} {T : TypeId} {cs : List Value} : ∃ g w', (Instr.box T (.agg cs.toArray)).run P w = .ok (.pointer (some ⟨g, 0, none⟩)) w' ∧ w.heap.size ≤ g ∧ Ext w w' ∧ Blk g T cs w' :=
  ⟨_, _, r_box, Nat.le_refl _, Ext.new w _, Blk.new (T := T) (.agg cs.toArray) rfl⟩
/-- every cell holds one value -/
def Ones (l : List Value) : Prop := ∀ v ∈ l, v.oneCell' = true
theorem Ones.nil : Ones [] := fun _ h => by simp at h
theorem Ones.cons {v : Value} {l : List Value} (h : v.oneCell' = true) (h' : Ones l) : Ones (v :: l) := fun u hu => by
  rcases List.mem_cons.1 hu with rfl | hu
  · exact h
  · exact h' u hu
theorem Blk.stS {P : Program} {t T : TypeId} {g : Nat} {l m : List Value} (h : Blk g T l w) (hl : l.length = m.length) (hi : (P.info? t).map (·.size) = some m.length) (h1 : Ones m) :
    ∃ w', (Instr.storeAt t (.pointer (some ⟨g, 0, none⟩)) (.agg m.toArray)).run P w = .ok () w' ∧ w.grownBy w' (some g) ∧ Blk g T m w' :=
  ⟨_, r_stA h hl hi h1, grownBy_setRow w g _, h.row m⟩
/-- one cell of a struct in a block -/
theorem Blk.stC {P : Program} {t T : TypeId} {g i : Nat} {l : List Value} {v : Value} (h : Blk g T l w) (hs : (P.info? t).map (·.size) = some 1) (hv : v.oneCell' = true) (hi : i < l.length) :
    ∃ w', (Instr.storeAt t (.pointer (some ⟨g, i, none⟩)) v).run P w = .ok () w' ∧ w.grownBy w' (some g) ∧ Blk g T (l.set i v) w' := by
  have h' := h
  unfold Blk at h'
  obtain h2 := r_store1 (P := P) (t := t) (v := v) hs hv h' (by simpa using hi)
  exact ⟨_, h2, grownBy_setCell w g i v, h.set i v⟩
end
end Go.Rl
/- Models in memory: what their cells hold. Nothing of a program but the names of what it imports. -/
namespace Go.Rl
open Go.RowKit
section
variable {w : World} {cs : List Value}
theorem dIn_size (n : Int) : (dIn n).size = 1 := rfl
theorem dRat_size (q : RatD) : (dRat q).size = 3 := by simp [dRat, Dt.size, Dt.sizeAll, dNat]
theorem dRats_size (l : List RatD) : (dRats l).size = 1 := rfl
theorem dLay_size (l : LayD) : (dLay l).size = 9 := by simp [dLay, dIn, dRats, Dt.size, Dt.sizeAll]
theorem dMod_size (m : ModD) : (dMod m).size = 2 := by simp [dMod, dInts, Dt.size, Dt.sizeAll]
theorem dIn_inv {n : Int} (h : Rp w (dIn n) cs) : cs = [I n] := by simp only [dIn, Rp] at h; exact h
theorem dRats_inv {l : List RatD} (h : Rp w (dRats l) cs) : ∃ v, cs = [v] ∧ DsV dRat l v w := by
  obtain ⟨v, rfl, h, _⟩ := Rp.isSlice h
  exact ⟨v, rfl, h⟩
theorem dRat_inv {q : RatD} (h : Rp w (dRat q) cs) : ∃ x y, cs = [B q.1, x, y] ∧ Wds q.2.1 x w ∧ Wds q.2.2 y w := by
  simp only [dRat, Rp, RpAll] at h
  obtain ⟨_, _, rfl, rfl, _, _, rfl, h1, _, _, rfl, h2, rfl⟩ := h
  obtain ⟨x, rfl, hx, _⟩ := Rp.isSlice h1
  obtain ⟨y, rfl, hy, _⟩ := Rp.isSlice h2
  exact ⟨x, y, rfl, Rp.wds.1 hx, Rp.wds.1 hy⟩
theorem dRat_mk {q : RatD} {x y : Value} (hx : Wds q.2.1 x w) (hy : Wds q.2.2 y w) : Rp w (dRat q) [B q.1, x, y] := by
  simp only [dRat, Rp, RpAll]
  exact ⟨_, _, rfl, rfl, _, _, rfl, Rp.wds.2 hx, _, _, rfl, Rp.wds.2 hy, rfl⟩
theorem dLay_inv {l : LayD} (h : Rp w (dLay l) cs) : ∃ x y, cs = [I l.kd, I l.fr, I l.ou, I l.kh, I l.kw, I l.sr, I l.pd, x, y] ∧ DsV dRat l.ws x w ∧ DsV dRat l.bs y w := by
  simp only [dLay, dIn, Rp, RpAll] at h
  obtain ⟨_, _, rfl, rfl, _, _, rfl, rfl, _, _, rfl, rfl, _, _, rfl, rfl, _, _, rfl, rfl, _, _, rfl, rfl, _, _, rfl, rfl, _, _, rfl, h1, _, _, rfl, h2, rfl⟩ := h
  obtain ⟨x, rfl, hx⟩ := dRats_inv h1
  obtain ⟨y, rfl, hy⟩ := dRats_inv h2
  exact ⟨x, y, rfl, hx, hy⟩
theorem dLay_mk {l : LayD} {x y : Value} (hx : DsV dRat l.ws x w) (hy : DsV dRat l.bs y w) : Rp w (dLay l) [I l.kd, I l.fr, I l.ou, I l.kh, I l.kw, I l.sr, I l.pd, x, y] := by
  simp only [dLay, dIn, Rp, RpAll]
  exact ⟨_, _, rfl, rfl, _, _, rfl, rfl, _, _, rfl, rfl, _, _, rfl, rfl, _, _, rfl, rfl, _, _, rfl, rfl, _, _, rfl, rfl, _, _, rfl, hx, _, _, rfl, hy, rfl⟩
theorem dMod_inv {m : ModD} (h : Rp w (dMod m) cs) : ∃ x y, cs = [x, y] ∧ DsV dIn m.inp x w ∧ DsV dLay m.lays y w := by
  simp only [dMod, RpAll, Rp.eq_5] at h
  obtain ⟨_, _, rfl, h1, _, _, rfl, h2, rfl⟩ := h
  obtain ⟨x, rfl, hx, _⟩ := Rp.isSlice h1
  obtain ⟨y, rfl, hy, _⟩ := Rp.isSlice h2
  exact ⟨x, y, rfl, hx, hy⟩
theorem dMod_mk {m : ModD} {x y : Value} (hx : DsV dIn m.inp x w) (hy : DsV dLay m.lays y w) : Rp w (dMod m) [x, y] := by
  simp only [dMod, RpAll, Rp.eq_5]
  exact ⟨_, _, rfl, hx, _, _, rfl, hy, rfl⟩
/-- A rational's value, a layer's value, a model's value. -/
def RatS (q : RatD) (v : Value) (w : World) : Prop := RatV q.1 q.2.1 q.2.2 v w
def LayV (l : LayD) (v : Value) (w : World) : Prop := ∃ x y, v = .agg #[I l.kd, I l.fr, I l.ou, I l.kh, I l.kw, I l.sr, I l.pd, x, y] ∧ DsV dRat l.ws x w ∧ DsV dRat l.bs y w
def ModV (m : ModD) (v : Value) (w : World) : Prop := ∃ x y, v = .agg #[x, y] ∧ DsV dIn m.inp x w ∧ DsV dLay m.lays y w
theorem LayV.ext {l : LayD} {v : Value} {w w' : World} (h : LayV l v w) (hx : Ext w w') : LayV l v w' := by
  obtain ⟨x, y, h0, h1, h2⟩ := h
  exact ⟨x, y, h0, h1.ext hx, h2.ext hx⟩
theorem ModV.ext {m : ModD} {v : Value} {w w' : World} (h : ModV m v w) (hx : Ext w w') : ModV m v w' := by
  obtain ⟨x, y, h0, h1, h2⟩ := h
  exact ⟨x, y, h0, h1.ext hx, h2.ext hx⟩
end
end Go.Rl
/- Equality of models walked, both sides: relucertref11.Ints, relucertref12.limbs, Rat, Rats, SameLayer, Equal. No condition. -/
namespace Go.Rl
open Go.RowKit Go.Proofs
theorem call_TInts : Callable Try.prog 14 := ⟨_, Try.func14, by kernel_rfl, rfl⟩
theorem call_TLimbs : Callable Try.prog 64 := ⟨_, Try.func64, by kernel_rfl, rfl⟩
theorem call_TRat : Callable Try.prog 53 := ⟨_, Try.func53, by kernel_rfl, rfl⟩
theorem call_TRats : Callable Try.prog 27 := ⟨_, Try.func27, by kernel_rfl, rfl⟩
theorem call_TSameL : Callable Try.prog 15 := ⟨_, Try.func15, by kernel_rfl, rfl⟩
theorem call_TEqual : Callable Try.prog 7 := ⟨_, Try.func7, by kernel_rfl, rfl⟩
theorem TInts_spec {w : World} {l m : List Int} {v u : Value} (hv : DsV dIn l v w) (hu : DsV dIn m u w) :
    Calls Try.prog 14 #[v, u] w (Ret fun r w' => Ext w w' ∧ r = B (decide (l = m))) := by
  refine enter (vs := [v, u]) Try.func14 rfl rfl rfl ?_
  have hll := hv.len
  refine c_seq (c_region (o_assign rfl rfl (o_nil (n_then (c_seq (c_seq (c_region (o_move rfl rfl (o_len rfl rfl (r_lenDs Try.underlying22 hv) (o_move rfl rfl (o_len rfl rfl (r_lenDs Try.underlying22 hu) ?_)))))))))))
  refine o_bin rfl rfl rfl (r_neq_i) (o_nil (n_then ?_))
  refine c_if rfl (fun h10 => ?_) (fun h10 => ?_)
  · have hne : l ≠ m := fun h => h10 (by rw [h])
    refine c_seq (c_region (o_assign rfl rfl (o_nil (n_then (c_ret (r_then (r_body1 rfl rfl ?_)))))))
    exact ⟨_, rfl, Ext.refl _, congrArg B (decide_eq_false hne).symm⟩
  · have hlen : l.length = m.length := by omega
    refine c_skip (n_then (c_seq (c_seq (c_region (o_assign rfl rfl (o_nil (n_then (c_block ?_))))))))
    refine c_loop (α := Nat) (fun x => [(0, v), (1, u), (5, I (x : Int))]) (fun x w' => Ext w w' ∧ x ≤ l.length ∧ l.take x = m.take x) (fun x => l.length - x) (0) ⟨rfl, rfl, rfl, trivial⟩ ⟨Ext.refl _, by omega, rfl⟩ ?_
    rintro i w4 ⟨e4, hi, ht⟩
    refine c_seq (c_seq (c_region (o_move rfl rfl (o_move rfl rfl (o_len rfl rfl (r_lenDs Try.underlying22 (hv.ext e4)) (o_bin rfl rfl rfl (r_lss_i) (o_nil (n_then ?_))))))))
    refine c_if rfl (fun h14 => ?_) (fun h14 => ?_)
    · refine c_skip (n_then (c_seq (c_block (c_seq (c_grow 8 [0, 1, 5, 20, 24] (by kernel_rfl) (by kernel_rfl) ?_)))))
      refine f_move rfl rfl (f_move rfl rfl ?_)
      obtain ⟨a19, c19, p19, q19, h19⟩ := r_ixDs (P := Try.prog) (sz := 1) Try.underlying22 (by kernel_rfl) dIn_size (by omega) (hv.ext e4) (i := i) (by omega) .i64
      obtain ⟨e19, he19⟩ : ∃ e, e = l[i]'(by omega) := ⟨_, rfl⟩
      rw [← he19] at h19
      obtain rfl := dIn_inv h19
      refine f_indexAddr rfl rfl rfl (fun w _ => p19 w) (f_load rfl rfl (fun w hw => r_load1 Try.underlying3 rfl (hw.cell_some q19.cell0)) (f_move rfl rfl (f_move rfl rfl ?_)))
      obtain ⟨a23, c23, p23, q23, h23⟩ := r_ixDs (P := Try.prog) (sz := 1) Try.underlying22 (by kernel_rfl) dIn_size (by omega) (hu.ext e4) (i := i) (by omega) .i64
      obtain ⟨e23, he23⟩ : ∃ e, e = m[i]'(by omega) := ⟨_, rfl⟩
      rw [← he23] at h23
      obtain rfl := dIn_inv h23
      refine f_indexAddr rfl rfl rfl (fun w _ => p23 w) (f_load rfl rfl (fun w hw => r_load1 Try.underlying3 rfl (hw.cell_some q23.cell0)) (f_nil ?_))
      intro wg6 xg6
      rintro _ hq0
      obtain rfl := Eq.symm hq0
      rintro _ hq1
      obtain rfl := Eq.symm hq1
      rintro _ rfl
      rintro _ rfl
      rintro _ rfl
      refine o_bin rfl rfl rfl (r_neq_i) (o_nil (n_then ?_))
      refine c_if rfl (fun h25 => ?_) (fun h25 => ?_)
      · have hne : l ≠ m := fun h => h25 (by subst h; rw [he19, he23])
        refine c_seq (c_region (o_assign rfl rfl (o_nil (n_then (c_ret (r_block (r_then (r_then (r_block (r_then (r_body1 rfl rfl ?_)))))))))))
        exact ⟨_, rfl, (e4.trans xg6), congrArg B (decide_eq_false hne).symm⟩
      · have he : l[i]'(by omega) = m[i]'(by omega) := by rw [← he19, ← he23]; exact Classical.byContradiction fun h => h25 h
        refine c_skip (n_block (n_then (c_region (o_move rfl rfl (o_bin (r := I ((i + 1 : Nat) : Int)) rfl rfl rfl (by have e : ((i + 1 : Nat) : Int) = (i : Int) + 1 := (by omega); rw [e]; exact r_add_i (by omega) (by omega)) ?_)))))
        refine o_assign rfl rfl (o_nil ?_)
        refine n_round (i + 1) ⟨rfl, rfl, rfl, trivial⟩ ⟨(e4.trans xg6), by omega, by rw [List.take_succ_eq_append_getElem (by omega), List.take_succ_eq_append_getElem (by omega), ht, he]⟩ (by omega)
    · refine c_exit (x_then (x_then (x_here (n_then (c_seq (c_region (o_assign rfl rfl (o_nil (n_then (c_ret (r_body1 rfl rfl ?_)))))))))))
      exact ⟨_, rfl, e4, by
        rw [List.take_of_length_le (by omega), List.take_of_length_le (by omega)] at ht
        rw [decide_eq_true ht]; rfl⟩
theorem TLimbs_spec {w : World} {l m : List UInt32} {v u : Value} (hv : Wds l v w) (hu : Wds m u w) :
    Calls Try.prog 64 #[v, u] w (Ret fun r w' => Ext w w' ∧ r = B (decide (l = m))) := by
  refine enter (vs := [v, u]) Try.func64 rfl rfl rfl ?_
  have hll := hv.len
  refine c_seq (c_region (o_assign rfl rfl (o_nil (n_then (c_seq (c_seq (c_region (o_move rfl rfl (o_len rfl rfl (r_lenW Try.underlying39 hv) (o_move rfl rfl (o_len rfl rfl (r_lenW Try.underlying39 hu) ?_)))))))))))
  refine o_bin rfl rfl rfl (r_neq_i) (o_nil (n_then ?_))
  refine c_if rfl (fun h10 => ?_) (fun h10 => ?_)
  · have hne : l ≠ m := fun h => h10 (by rw [h])
    refine c_seq (c_region (o_assign rfl rfl (o_nil (n_then (c_ret (r_then (r_body1 rfl rfl ?_)))))))
    exact ⟨_, rfl, Ext.refl _, congrArg B (decide_eq_false hne).symm⟩
  · have hlen : l.length = m.length := by omega
    refine c_skip (n_then (c_seq (c_seq (c_region (o_assign rfl rfl (o_nil (n_then (c_block ?_))))))))
    refine c_loop (α := Nat) (fun x => [(0, v), (1, u), (5, I (x : Int))]) (fun x w' => Ext w w' ∧ x ≤ l.length ∧ l.take x = m.take x) (fun x => l.length - x) (0) ⟨rfl, rfl, rfl, trivial⟩ ⟨Ext.refl _, by omega, rfl⟩ ?_
    rintro i w4 ⟨e4, hi, ht⟩
    refine c_seq (c_seq (c_region (o_move rfl rfl (o_move rfl rfl (o_len rfl rfl (r_lenW Try.underlying39 (hv.ext e4)) (o_bin rfl rfl rfl (r_lss_i) (o_nil (n_then ?_))))))))
    refine c_if rfl (fun h14 => ?_) (fun h14 => ?_)
    · refine c_skip (n_then (c_seq (c_block (c_seq (c_grow 8 [0, 1, 5, 20, 24] (by kernel_rfl) (by kernel_rfl) ?_)))))
      refine f_move rfl rfl (f_move rfl rfl ?_)
      obtain ⟨a19, p19, q19⟩ := r_ixW Try.underlying39 (hv.ext e4) (i := i) (by omega) .i64
      refine f_indexAddr rfl rfl rfl (fun w _ => p19 w) (f_load rfl rfl (fun w hw => r_load1 Try.underlying88 rfl (hw.cell_some q19)) (f_move rfl rfl (f_move rfl rfl ?_)))
      obtain ⟨a23, p23, q23⟩ := r_ixW Try.underlying39 (hu.ext e4) (i := i) (by omega) .i64
      refine f_indexAddr rfl rfl rfl (fun w _ => p23 w) (f_load rfl rfl (fun w hw => r_load1 Try.underlying88 rfl (hw.cell_some q23)) (f_nil ?_))
      intro wg6 xg6
      rintro _ hq0
      obtain rfl := Eq.symm hq0
      rintro _ hq1
      obtain rfl := Eq.symm hq1
      rintro _ rfl
      rintro _ rfl
      rintro _ rfl
      refine o_bin rfl rfl rfl (r_neq_u32) (o_nil (n_then ?_))
      refine c_if rfl (fun h25 => ?_) (fun h25 => ?_)
      · have hne : l ≠ m := fun h => h25 (by subst h; rfl)
        refine c_seq (c_region (o_assign rfl rfl (o_nil (n_then (c_ret (r_block (r_then (r_then (r_block (r_then (r_body1 rfl rfl ?_)))))))))))
        exact ⟨_, rfl, (e4.trans xg6), congrArg B (decide_eq_false hne).symm⟩
      · have he : l[i]'(by omega) = m[i]'(by omega) := Classical.byContradiction fun h => h25 h
        refine c_skip (n_block (n_then (c_region (o_move rfl rfl (o_bin (r := I ((i + 1 : Nat) : Int)) rfl rfl rfl (by have e : ((i + 1 : Nat) : Int) = (i : Int) + 1 := (by omega); rw [e]; exact r_add_i (by omega) (by omega)) ?_)))))
        refine o_assign rfl rfl (o_nil ?_)
        refine n_round (i + 1) ⟨rfl, rfl, rfl, trivial⟩ ⟨(e4.trans xg6), by omega, by rw [List.take_succ_eq_append_getElem (by omega), List.take_succ_eq_append_getElem (by omega), ht, he]⟩ (by omega)
    · refine c_exit (x_then (x_then (x_here (n_then (c_seq (c_region (o_assign rfl rfl (o_nil (n_then (c_ret (r_body1 rfl rfl ?_)))))))))))
      exact ⟨_, rfl, e4, by
        rw [List.take_of_length_le (by omega), List.take_of_length_le (by omega)] at ht
        rw [decide_eq_true ht]; rfl⟩
theorem TRat_spec {w : World} {a b : RatD} {x y p q : Value} (ha : Wds a.2.1 x w) (ha' : Wds a.2.2 y w) (hb : Wds b.2.1 p w) (hb' : Wds b.2.2 q w) :
    Calls Try.prog 53 #[.agg #[B a.1, x, y], .agg #[B b.1, p, q]] w (Ret fun r w' => Ext w w' ∧ r = B (decide (a = b))) := by
  refine enter (vs := [.agg #[B a.1, x, y], .agg #[B b.1, p, q]]) Try.func53 rfl rfl rfl ?_
  refine c_seq (c_region ?_)
  obtain ⟨g2, w2, hr2, l2, x2, k2⟩ := r_boxS (P := Try.prog) (w := w) (T := 41) (cs := [B a.1, x, y])
  refine o_box rfl rfl hr2 ?_
  obtain ⟨g3, w3, hr3, l3, x3, k3⟩ := r_boxS (P := Try.prog) (w := w2) (T := 41) (cs := [B b.1, p, q])
  refine o_box rfl rfl hr3 (o_assign rfl rfl (o_nil (n_then (c_seq (c_region (o_fieldAddr rfl rfl (r_fAt (o := 0) Try.underlying41 rfl (by kernel_rfl) rfl) ?_))))))
  refine o_load rfl rfl (r_load1 Try.underlying4 rfl (x3.cell_some (k2.cell (i := 0) rfl))) (o_fieldAddr rfl rfl (r_fAt (o := 0) Try.underlying41 rfl (by kernel_rfl) rfl) ?_)
  refine o_load rfl rfl (r_load1 Try.underlying4 rfl (k3.cell (i := 0) rfl)) (o_bin rfl rfl rfl (r_eql_b Try.underlying4) (o_move rfl rfl ?_))
  refine o_dec (fun h10 => ?_) (fun h10 => ?_)
  · refine g_yes rfl (o_fieldAddr rfl rfl (r_fAt (o := 1) Try.underlying41 rfl (by kernel_rfl) rfl) (g_yes rfl (o_load rfl rfl (r_load1 Try.underlying39 rfl (x3.cell_some (k2.cell (i := 1) rfl))) ?_)))
    refine g_yes rfl (o_fieldAddr rfl rfl (r_fAt (o := 1) Try.underlying41 rfl (by kernel_rfl) rfl) (g_yes rfl (o_load rfl rfl (r_load1 Try.underlying39 rfl (k3.cell (i := 1) rfl)) ?_)))
    refine g_yes rfl (o_call call_TLimbs rfl rfl (TLimbs_spec (ha.ext (x2.trans x3)) (hb.ext (x2.trans x3))) ?_)
    rintro v15 w15 ⟨x15, rfl⟩
    refine o_pick_t rfl rfl rfl (o_move rfl rfl ?_)
    refine o_dec (fun h17 => ?_) (fun h17 => ?_)
    · refine g_yes rfl (o_fieldAddr rfl rfl (r_fAt (o := 2) Try.underlying41 rfl (by kernel_rfl) rfl) (g_yes rfl (o_load rfl rfl (r_load1 Try.underlying39 rfl ((x3.trans x15).cell_some (k2.cell (i := 2) rfl))) ?_)))
      refine g_yes rfl (o_fieldAddr rfl rfl (r_fAt (o := 2) Try.underlying41 rfl (by kernel_rfl) rfl) (g_yes rfl (o_load rfl rfl (r_load1 Try.underlying39 rfl (x15.cell_some (k3.cell (i := 2) rfl))) ?_)))
      refine g_yes rfl (o_call call_TLimbs rfl rfl (TLimbs_spec (ha'.ext ((x2.trans x3).trans x15)) (hb'.ext ((x2.trans x3).trans x15))) ?_)
      rintro v22 w22 ⟨x22, rfl⟩
      refine o_pick_t rfl rfl rfl (o_assign rfl rfl (o_nil (n_then (c_ret (r_body1 rfl rfl ?_)))))
      exact ⟨_, rfl, (((x2.trans x3).trans x15).trans x22), by
        first
        | exact congrArg B (decide_eq_decide.2 ⟨fun h => Prod.ext h10 (Prod.ext h17 h), fun h => by rw [h]⟩)
        | exact congrArg B (decide_eq_false fun h => h17 (by rw [h])).symm
        | exact congrArg B (decide_eq_false fun h => h10 (by rw [h])).symm⟩
    · refine g_no rfl rfl rfl (g_no rfl rfl rfl (g_no rfl rfl rfl (g_no rfl rfl rfl (g_no rfl rfl rfl (o_pick_f rfl rfl rfl (o_assign rfl rfl (o_nil (n_then (c_ret (r_body1 rfl rfl ?_))))))))))
      exact ⟨_, rfl, ((x2.trans x3).trans x15), by
        first
        | exact congrArg B (decide_eq_decide.2 ⟨fun h => Prod.ext h10 (Prod.ext h17 h), fun h => by rw [h]⟩)
        | exact congrArg B (decide_eq_false fun h => h17 (by rw [h])).symm
        | exact congrArg B (decide_eq_false fun h => h10 (by rw [h])).symm⟩
  · refine g_no rfl rfl rfl (g_no rfl rfl rfl (g_no rfl rfl rfl (g_no rfl rfl rfl (g_no rfl rfl rfl (o_pick_f rfl rfl rfl (o_move rfl rfl (g_no rfl rfl rfl (g_no rfl rfl rfl (g_no rfl rfl rfl ?_)))))))))
    refine g_no rfl rfl rfl (g_no rfl rfl rfl (o_pick_f rfl rfl rfl (o_assign rfl rfl (o_nil (n_then (c_ret (r_body1 rfl rfl ?_)))))))
    exact ⟨_, rfl, (x2.trans x3), by
      first
      | exact congrArg B (decide_eq_decide.2 ⟨fun h => Prod.ext h10 (Prod.ext h17 h), fun h => by rw [h]⟩)
      | exact congrArg B (decide_eq_false fun h => h17 (by rw [h])).symm
      | exact congrArg B (decide_eq_false fun h => h10 (by rw [h])).symm⟩
theorem TRats_spec {w : World} {l m : List RatD} {v u : Value} (hv : DsV dRat l v w) (hu : DsV dRat m u w) :
    Calls Try.prog 27 #[v, u] w (Ret fun r w' => Ext w w' ∧ r = B (decide (l = m))) := by
  refine enter (vs := [v, u]) Try.func27 rfl rfl rfl ?_
  have hll := hv.len
  refine c_seq (c_region (o_assign rfl rfl (o_nil (n_then (c_seq (c_seq (c_region (o_move rfl rfl (o_len rfl rfl (r_lenDs Try.underlying35 hv) (o_move rfl rfl (o_len rfl rfl (r_lenDs Try.underlying35 hu) ?_)))))))))))
  refine o_bin rfl rfl rfl (r_neq_i) (o_nil (n_then ?_))
  refine c_if rfl (fun h10 => ?_) (fun h10 => ?_)
  · have hne : l ≠ m := fun h => h10 (by rw [h])
    refine c_seq (c_region (o_assign rfl rfl (o_nil (n_then (c_ret (r_then (r_body1 rfl rfl ?_)))))))
    exact ⟨_, rfl, Ext.refl _, congrArg B (decide_eq_false hne).symm⟩
  · have hlen : l.length = m.length := by omega
    refine c_skip (n_then (c_seq (c_seq (c_region (o_assign rfl rfl (o_nil (n_then (c_block ?_))))))))
    refine c_loop (α := Nat) (fun x => [(0, v), (1, u), (5, I (x : Int))]) (fun x w' => Ext w w' ∧ x ≤ l.length ∧ l.take x = m.take x) (fun x => l.length - x) (0) ⟨rfl, rfl, rfl, trivial⟩ ⟨Ext.refl _, by omega, rfl⟩ ?_
    rintro i w4 ⟨e4, hi, ht⟩
    refine c_seq (c_seq (c_region (o_move rfl rfl (o_move rfl rfl (o_len rfl rfl (r_lenDs Try.underlying35 (hv.ext e4)) (o_bin rfl rfl rfl (r_lss_i) (o_nil (n_then ?_))))))))
    refine c_if rfl (fun h14 => ?_) (fun h14 => ?_)
    · refine c_skip (n_then (c_seq (c_block (c_seq (c_grow 9 [0, 1, 5, 25] (by kernel_rfl) (by kernel_rfl) ?_)))))
      refine f_move rfl rfl (f_move rfl rfl ?_)
      obtain ⟨a19, c19, p19, q19, h19⟩ := r_ixDs (P := Try.prog) (sz := 3) Try.underlying35 (by kernel_rfl) dRat_size (by omega) (hv.ext e4) (i := i) (by omega) .i64
      obtain ⟨e19, he19⟩ : ∃ e, e = l[i]'(by omega) := ⟨_, rfl⟩
      rw [← he19] at h19
      obtain ⟨x19_0, x19_1, rfl, f19_0, f19_1⟩ := dRat_inv h19
      refine f_indexAddr rfl rfl rfl (fun w _ => p19 w) (f_load rfl rfl (fun w hw => (q19.ext hw).ld Try.underlying41 rfl (by kernel_rfl)) (f_move rfl rfl ?_))
      refine f_move rfl rfl ?_
      obtain ⟨a23, c23, p23, q23, h23⟩ := r_ixDs (P := Try.prog) (sz := 3) Try.underlying35 (by kernel_rfl) dRat_size (by omega) (hu.ext e4) (i := i) (by omega) .i64
      obtain ⟨e23, he23⟩ : ∃ e, e = m[i]'(by omega) := ⟨_, rfl⟩
      rw [← he23] at h23
      obtain ⟨x23_0, x23_1, rfl, f23_0, f23_1⟩ := dRat_inv h23
      refine f_indexAddr rfl rfl rfl (fun w _ => p23 w) (f_load rfl rfl (fun w hw => (q23.ext hw).ld Try.underlying41 rfl (by kernel_rfl)) (f_call (S := Is (B (decide (e19 = e23)))) call_TRat (Stable.is _) rfl (fun w hw => by rintro _ rfl _ rfl; exact Ret.mono (TRat_spec (f19_0.ext hw) (f19_1.ext hw) (f23_0.ext hw) (f23_1.ext hw)) fun v w' h => h) ?_))
      refine f_nil ?_
      intro wg6 xg6
      rintro _ hq0
      obtain rfl := Eq.symm hq0
      rintro _ hq1
      obtain rfl := Eq.symm hq1
      rintro _ rfl
      rintro _ rfl
      refine o_not rfl rfl r_not (o_nil (n_then ?_))
      refine c_cond rfl (fun h26 => ?_) (fun h26 => ?_)
      · have hne : l ≠ m := fun h => absurd (show e19 = e23 by subst h; rw [he19, he23]) (by simpa using h26)
        refine c_seq (c_region (o_assign rfl rfl (o_nil (n_then (c_ret (r_block (r_then (r_then (r_block (r_then (r_body1 rfl rfl ?_)))))))))))
        exact ⟨_, rfl, (e4.trans xg6), congrArg B (decide_eq_false hne).symm⟩
      · have he : l[i]'(by omega) = m[i]'(by omega) := by rw [← he19, ← he23]; simpa using h26
        refine c_skip (n_block (n_then (c_region (o_move rfl rfl (o_bin (r := I ((i + 1 : Nat) : Int)) rfl rfl rfl (by have e : ((i + 1 : Nat) : Int) = (i : Int) + 1 := (by omega); rw [e]; exact r_add_i (by omega) (by omega)) ?_)))))
        refine o_assign rfl rfl (o_nil ?_)
        refine n_round (i + 1) ⟨rfl, rfl, rfl, trivial⟩ ⟨(e4.trans xg6), by omega, by rw [List.take_succ_eq_append_getElem (by omega), List.take_succ_eq_append_getElem (by omega), ht, he]⟩ (by omega)
    · refine c_exit (x_then (x_then (x_here (n_then (c_seq (c_region (o_assign rfl rfl (o_nil (n_then (c_ret (r_body1 rfl rfl ?_)))))))))))
      exact ⟨_, rfl, e4, by
        rw [List.take_of_length_le (by omega), List.take_of_length_le (by omega)] at ht
        rw [decide_eq_true ht]; rfl⟩
theorem TSameL_spec {w : World} {a b : LayD} {x y p q : Value} (ha : DsV dRat a.ws x w) (ha' : DsV dRat a.bs y w) (hb : DsV dRat b.ws p w) (hb' : DsV dRat b.bs q w) :
    Calls Try.prog 15 #[.agg #[I a.kd, I a.fr, I a.ou, I a.kh, I a.kw, I a.sr, I a.pd, x, y], .agg #[I b.kd, I b.fr, I b.ou, I b.kh, I b.kw, I b.sr, I b.pd, p, q]] w (Ret fun r w' => Ext w w' ∧ r = B (decide (a = b))) := by
  refine enter (vs := [.agg #[I a.kd, I a.fr, I a.ou, I a.kh, I a.kw, I a.sr, I a.pd, x, y], .agg #[I b.kd, I b.fr, I b.ou, I b.kh, I b.kw, I b.sr, I b.pd, p, q]]) Try.func15 rfl rfl rfl ?_
  refine c_seq (c_region ?_)
  obtain ⟨g2, w2, hr2, l2, x2, k2⟩ := r_boxS (P := Try.prog) (w := w) (T := 37) (cs := [I a.kd, I a.fr, I a.ou, I a.kh, I a.kw, I a.sr, I a.pd, x, y])
  refine o_box rfl rfl hr2 ?_
  obtain ⟨g3, w3, hr3, l3, x3, k3⟩ := r_boxS (P := Try.prog) (w := w2) (T := 37) (cs := [I b.kd, I b.fr, I b.ou, I b.kh, I b.kw, I b.sr, I b.pd, p, q])
  refine o_box rfl rfl hr3 (o_assign rfl rfl (o_nil (n_then (c_seq (c_region (o_fieldAddr rfl rfl (r_fAt (o := 0) Try.underlying37 rfl (by kernel_rfl) rfl) ?_))))))
  refine o_load rfl rfl (r_load1 Try.underlying3 rfl (x3.cell_some (k2.cell (i := 0) rfl))) (o_fieldAddr rfl rfl (r_fAt (o := 0) Try.underlying37 rfl (by kernel_rfl) rfl) ?_)
  refine o_load rfl rfl (r_load1 Try.underlying3 rfl (k3.cell (i := 0) rfl)) (o_bin rfl rfl rfl (r_eql_i) (o_move rfl rfl ?_))
  refine o_dec (fun h10 => ?_) (fun h10 => ?_)
  · refine g_yes rfl (o_fieldAddr rfl rfl (r_fAt (o := 1) Try.underlying37 rfl (by kernel_rfl) rfl) (g_yes rfl (o_load rfl rfl (r_load1 Try.underlying3 rfl (x3.cell_some (k2.cell (i := 1) rfl))) ?_)))
    refine g_yes rfl (o_fieldAddr rfl rfl (r_fAt (o := 1) Try.underlying37 rfl (by kernel_rfl) rfl) (g_yes rfl (o_load rfl rfl (r_load1 Try.underlying3 rfl (k3.cell (i := 1) rfl)) ?_)))
    refine g_yes rfl (o_bin rfl rfl rfl (r_eql_i) (o_pick_t rfl rfl rfl (o_move rfl rfl ?_)))
    refine o_dec (fun h17 => ?_) (fun h17 => ?_)
    · refine g_yes rfl (o_fieldAddr rfl rfl (r_fAt (o := 2) Try.underlying37 rfl (by kernel_rfl) rfl) (g_yes rfl (o_load rfl rfl (r_load1 Try.underlying3 rfl (x3.cell_some (k2.cell (i := 2) rfl))) ?_)))
      refine g_yes rfl (o_fieldAddr rfl rfl (r_fAt (o := 2) Try.underlying37 rfl (by kernel_rfl) rfl) (g_yes rfl (o_load rfl rfl (r_load1 Try.underlying3 rfl (k3.cell (i := 2) rfl)) ?_)))
      refine g_yes rfl (o_bin rfl rfl rfl (r_eql_i) (o_pick_t rfl rfl rfl (o_move rfl rfl ?_)))
      refine o_dec (fun h24 => ?_) (fun h24 => ?_)
      · refine g_yes rfl (o_fieldAddr rfl rfl (r_fAt (o := 3) Try.underlying37 rfl (by kernel_rfl) rfl) (g_yes rfl (o_load rfl rfl (r_load1 Try.underlying3 rfl (x3.cell_some (k2.cell (i := 3) rfl))) ?_)))
        refine g_yes rfl (o_fieldAddr rfl rfl (r_fAt (o := 3) Try.underlying37 rfl (by kernel_rfl) rfl) (g_yes rfl (o_load rfl rfl (r_load1 Try.underlying3 rfl (k3.cell (i := 3) rfl)) ?_)))
        refine g_yes rfl (o_bin rfl rfl rfl (r_eql_i) (o_pick_t rfl rfl rfl (o_move rfl rfl ?_)))
        refine o_dec (fun h31 => ?_) (fun h31 => ?_)
        · refine g_yes rfl (o_fieldAddr rfl rfl (r_fAt (o := 4) Try.underlying37 rfl (by kernel_rfl) rfl) (g_yes rfl (o_load rfl rfl (r_load1 Try.underlying3 rfl (x3.cell_some (k2.cell (i := 4) rfl))) ?_)))
          refine g_yes rfl (o_fieldAddr rfl rfl (r_fAt (o := 4) Try.underlying37 rfl (by kernel_rfl) rfl) (g_yes rfl (o_load rfl rfl (r_load1 Try.underlying3 rfl (k3.cell (i := 4) rfl)) ?_)))
          refine g_yes rfl (o_bin rfl rfl rfl (r_eql_i) (o_pick_t rfl rfl rfl (o_move rfl rfl ?_)))
          refine o_dec (fun h38 => ?_) (fun h38 => ?_)
          · refine g_yes rfl (o_fieldAddr rfl rfl (r_fAt (o := 5) Try.underlying37 rfl (by kernel_rfl) rfl) (g_yes rfl (o_load rfl rfl (r_load1 Try.underlying3 rfl (x3.cell_some (k2.cell (i := 5) rfl))) ?_)))
            refine g_yes rfl (o_fieldAddr rfl rfl (r_fAt (o := 5) Try.underlying37 rfl (by kernel_rfl) rfl) (g_yes rfl (o_load rfl rfl (r_load1 Try.underlying3 rfl (k3.cell (i := 5) rfl)) ?_)))
            refine g_yes rfl (o_bin rfl rfl rfl (r_eql_i) (o_pick_t rfl rfl rfl (o_move rfl rfl ?_)))
            refine o_dec (fun h45 => ?_) (fun h45 => ?_)
            · refine g_yes rfl (o_fieldAddr rfl rfl (r_fAt (o := 6) Try.underlying37 rfl (by kernel_rfl) rfl) (g_yes rfl (o_load rfl rfl (r_load1 Try.underlying3 rfl (x3.cell_some (k2.cell (i := 6) rfl))) ?_)))
              refine g_yes rfl (o_fieldAddr rfl rfl (r_fAt (o := 6) Try.underlying37 rfl (by kernel_rfl) rfl) (g_yes rfl (o_load rfl rfl (r_load1 Try.underlying3 rfl (k3.cell (i := 6) rfl)) ?_)))
              refine g_yes rfl (o_bin rfl rfl rfl (r_eql_i) (o_pick_t rfl rfl rfl (o_move rfl rfl ?_)))
              refine o_dec (fun h52 => ?_) (fun h52 => ?_)
              · refine g_yes rfl (o_fieldAddr rfl rfl (r_fAt (o := 7) Try.underlying37 rfl (by kernel_rfl) rfl) (g_yes rfl (o_load rfl rfl (r_load1 Try.underlying35 rfl (x3.cell_some (k2.cell (i := 7) rfl))) ?_)))
                refine g_yes rfl (o_fieldAddr rfl rfl (r_fAt (o := 7) Try.underlying37 rfl (by kernel_rfl) rfl) (g_yes rfl (o_load rfl rfl (r_load1 Try.underlying35 rfl (k3.cell (i := 7) rfl)) ?_)))
                refine g_yes rfl (o_call call_TRats rfl rfl (TRats_spec (ha.ext (x2.trans x3)) (hb.ext (x2.trans x3))) ?_)
                rintro v57 w57 ⟨x57, rfl⟩
                refine o_pick_t rfl rfl rfl (o_move rfl rfl ?_)
                refine o_dec (fun h59 => ?_) (fun h59 => ?_)
                · refine g_yes rfl (o_fieldAddr rfl rfl (r_fAt (o := 8) Try.underlying37 rfl (by kernel_rfl) rfl) (g_yes rfl (o_load rfl rfl (r_load1 Try.underlying35 rfl ((x3.trans x57).cell_some (k2.cell (i := 8) rfl))) ?_)))
                  refine g_yes rfl (o_fieldAddr rfl rfl (r_fAt (o := 8) Try.underlying37 rfl (by kernel_rfl) rfl) (g_yes rfl (o_load rfl rfl (r_load1 Try.underlying35 rfl (x57.cell_some (k3.cell (i := 8) rfl))) ?_)))
                  refine g_yes rfl (o_call call_TRats rfl rfl (TRats_spec (ha'.ext ((x2.trans x3).trans x57)) (hb'.ext ((x2.trans x3).trans x57))) ?_)
                  rintro v64 w64 ⟨x64, rfl⟩
                  refine o_pick_t rfl rfl rfl (o_assign rfl rfl (o_nil (n_then (c_ret (r_body1 rfl rfl ?_)))))
                  exact ⟨_, rfl, (((x2.trans x3).trans x57).trans x64), by
                    first
                    | exact congrArg B (decide_eq_decide.2 (by rw [LayD.eq_iff]; exact ⟨fun h => ⟨h10, h17, h24, h31, h38, h45, h52, h59, h⟩, fun h => h.2.2.2.2.2.2.2.2⟩))
                    | exact congrArg B (decide_eq_false fun h => by subst h; first | exact h59 rfl | exact h52 rfl | exact h45 rfl | exact h38 rfl | exact h31 rfl | exact h24 rfl | exact h17 rfl | exact h10 rfl).symm⟩
                · refine g_no rfl rfl rfl (g_no rfl rfl rfl (g_no rfl rfl rfl (g_no rfl rfl rfl (g_no rfl rfl rfl (o_pick_f rfl rfl rfl (o_assign rfl rfl (o_nil (n_then (c_ret (r_body1 rfl rfl ?_))))))))))
                  exact ⟨_, rfl, ((x2.trans x3).trans x57), by
                    first
                    | exact congrArg B (decide_eq_decide.2 (by rw [LayD.eq_iff]; exact ⟨fun h => ⟨h10, h17, h24, h31, h38, h45, h52, h59, h⟩, fun h => h.2.2.2.2.2.2.2.2⟩))
                    | exact congrArg B (decide_eq_false fun h => by subst h; first | exact h59 rfl | exact h52 rfl | exact h45 rfl | exact h38 rfl | exact h31 rfl | exact h24 rfl | exact h17 rfl | exact h10 rfl).symm⟩
              · refine g_no rfl rfl rfl (g_no rfl rfl rfl (g_no rfl rfl rfl (g_no rfl rfl rfl (g_no rfl rfl rfl (o_pick_f rfl rfl rfl (o_move rfl rfl (g_no rfl rfl rfl (g_no rfl rfl rfl (g_no rfl rfl rfl ?_)))))))))
                refine g_no rfl rfl rfl (g_no rfl rfl rfl (o_pick_f rfl rfl rfl (o_assign rfl rfl (o_nil (n_then (c_ret (r_body1 rfl rfl ?_)))))))
                exact ⟨_, rfl, (x2.trans x3), by
                  first
                  | exact congrArg B (decide_eq_decide.2 (by rw [LayD.eq_iff]; exact ⟨fun h => ⟨h10, h17, h24, h31, h38, h45, h52, h59, h⟩, fun h => h.2.2.2.2.2.2.2.2⟩))
                  | exact congrArg B (decide_eq_false fun h => by subst h; first | exact h59 rfl | exact h52 rfl | exact h45 rfl | exact h38 rfl | exact h31 rfl | exact h24 rfl | exact h17 rfl | exact h10 rfl).symm⟩
            · refine g_no rfl rfl rfl (g_no rfl rfl rfl (g_no rfl rfl rfl (g_no rfl rfl rfl (g_no rfl rfl rfl (o_pick_f rfl rfl rfl (o_move rfl rfl (g_no rfl rfl rfl (g_no rfl rfl rfl (g_no rfl rfl rfl ?_)))))))))
              refine g_no rfl rfl rfl (g_no rfl rfl rfl (o_pick_f rfl rfl rfl (o_move rfl rfl (g_no rfl rfl rfl (g_no rfl rfl rfl (g_no rfl rfl rfl (g_no rfl rfl rfl (g_no rfl rfl rfl (o_pick_f rfl rfl rfl ?_)))))))))
              refine o_assign rfl rfl (o_nil (n_then (c_ret (r_body1 rfl rfl ?_))))
              exact ⟨_, rfl, (x2.trans x3), by
                first
                | exact congrArg B (decide_eq_decide.2 (by rw [LayD.eq_iff]; exact ⟨fun h => ⟨h10, h17, h24, h31, h38, h45, h52, h59, h⟩, fun h => h.2.2.2.2.2.2.2.2⟩))
                | exact congrArg B (decide_eq_false fun h => by subst h; first | exact h59 rfl | exact h52 rfl | exact h45 rfl | exact h38 rfl | exact h31 rfl | exact h24 rfl | exact h17 rfl | exact h10 rfl).symm⟩
          · refine g_no rfl rfl rfl (g_no rfl rfl rfl (g_no rfl rfl rfl (g_no rfl rfl rfl (g_no rfl rfl rfl (o_pick_f rfl rfl rfl (o_move rfl rfl (g_no rfl rfl rfl (g_no rfl rfl rfl (g_no rfl rfl rfl ?_)))))))))
            refine g_no rfl rfl rfl (g_no rfl rfl rfl (o_pick_f rfl rfl rfl (o_move rfl rfl (g_no rfl rfl rfl (g_no rfl rfl rfl (g_no rfl rfl rfl (g_no rfl rfl rfl (g_no rfl rfl rfl (o_pick_f rfl rfl rfl ?_)))))))))
            refine o_move rfl rfl (g_no rfl rfl rfl (g_no rfl rfl rfl (g_no rfl rfl rfl (g_no rfl rfl rfl (g_no rfl rfl rfl (o_pick_f rfl rfl rfl (o_assign rfl rfl (o_nil (n_then (c_ret (r_body1 rfl rfl ?_)))))))))))
            exact ⟨_, rfl, (x2.trans x3), by
              first
              | exact congrArg B (decide_eq_decide.2 (by rw [LayD.eq_iff]; exact ⟨fun h => ⟨h10, h17, h24, h31, h38, h45, h52, h59, h⟩, fun h => h.2.2.2.2.2.2.2.2⟩))
              | exact congrArg B (decide_eq_false fun h => by subst h; first | exact h59 rfl | exact h52 rfl | exact h45 rfl | exact h38 rfl | exact h31 rfl | exact h24 rfl | exact h17 rfl | exact h10 rfl).symm⟩
        · refine g_no rfl rfl rfl (g_no rfl rfl rfl (g_no rfl rfl rfl (g_no rfl rfl rfl (g_no rfl rfl rfl (o_pick_f rfl rfl rfl (o_move rfl rfl (g_no rfl rfl rfl (g_no rfl rfl rfl (g_no rfl rfl rfl ?_)))))))))
          refine g_no rfl rfl rfl (g_no rfl rfl rfl (o_pick_f rfl rfl rfl (o_move rfl rfl (g_no rfl rfl rfl (g_no rfl rfl rfl (g_no rfl rfl rfl (g_no rfl rfl rfl (g_no rfl rfl rfl (o_pick_f rfl rfl rfl ?_)))))))))
          refine o_move rfl rfl (g_no rfl rfl rfl (g_no rfl rfl rfl (g_no rfl rfl rfl (g_no rfl rfl rfl (g_no rfl rfl rfl (o_pick_f rfl rfl rfl (o_move rfl rfl (g_no rfl rfl rfl (g_no rfl rfl rfl ?_)))))))))
          refine g_no rfl rfl rfl (g_no rfl rfl rfl (g_no rfl rfl rfl (o_pick_f rfl rfl rfl (o_assign rfl rfl (o_nil (n_then (c_ret (r_body1 rfl rfl ?_))))))))
          exact ⟨_, rfl, (x2.trans x3), by
            first
            | exact congrArg B (decide_eq_decide.2 (by rw [LayD.eq_iff]; exact ⟨fun h => ⟨h10, h17, h24, h31, h38, h45, h52, h59, h⟩, fun h => h.2.2.2.2.2.2.2.2⟩))
            | exact congrArg B (decide_eq_false fun h => by subst h; first | exact h59 rfl | exact h52 rfl | exact h45 rfl | exact h38 rfl | exact h31 rfl | exact h24 rfl | exact h17 rfl | exact h10 rfl).symm⟩
      · refine g_no rfl rfl rfl (g_no rfl rfl rfl (g_no rfl rfl rfl (g_no rfl rfl rfl (g_no rfl rfl rfl (o_pick_f rfl rfl rfl (o_move rfl rfl (g_no rfl rfl rfl (g_no rfl rfl rfl (g_no rfl rfl rfl ?_)))))))))
        refine g_no rfl rfl rfl (g_no rfl rfl rfl (o_pick_f rfl rfl rfl (o_move rfl rfl (g_no rfl rfl rfl (g_no rfl rfl rfl (g_no rfl rfl rfl (g_no rfl rfl rfl (g_no rfl rfl rfl (o_pick_f rfl rfl rfl ?_)))))))))
        refine o_move rfl rfl (g_no rfl rfl rfl (g_no rfl rfl rfl (g_no rfl rfl rfl (g_no rfl rfl rfl (g_no rfl rfl rfl (o_pick_f rfl rfl rfl (o_move rfl rfl (g_no rfl rfl rfl (g_no rfl rfl rfl ?_)))))))))
        refine g_no rfl rfl rfl (g_no rfl rfl rfl (g_no rfl rfl rfl (o_pick_f rfl rfl rfl (o_move rfl rfl (g_no rfl rfl rfl (g_no rfl rfl rfl (g_no rfl rfl rfl (g_no rfl rfl rfl (g_no rfl rfl rfl ?_)))))))))
        refine o_pick_f rfl rfl rfl (o_assign rfl rfl (o_nil (n_then (c_ret (r_body1 rfl rfl ?_)))))
        exact ⟨_, rfl, (x2.trans x3), by
          first
          | exact congrArg B (decide_eq_decide.2 (by rw [LayD.eq_iff]; exact ⟨fun h => ⟨h10, h17, h24, h31, h38, h45, h52, h59, h⟩, fun h => h.2.2.2.2.2.2.2.2⟩))
          | exact congrArg B (decide_eq_false fun h => by subst h; first | exact h59 rfl | exact h52 rfl | exact h45 rfl | exact h38 rfl | exact h31 rfl | exact h24 rfl | exact h17 rfl | exact h10 rfl).symm⟩
    · refine g_no rfl rfl rfl (g_no rfl rfl rfl (g_no rfl rfl rfl (g_no rfl rfl rfl (g_no rfl rfl rfl (o_pick_f rfl rfl rfl (o_move rfl rfl (g_no rfl rfl rfl (g_no rfl rfl rfl (g_no rfl rfl rfl ?_)))))))))
      refine g_no rfl rfl rfl (g_no rfl rfl rfl (o_pick_f rfl rfl rfl (o_move rfl rfl (g_no rfl rfl rfl (g_no rfl rfl rfl (g_no rfl rfl rfl (g_no rfl rfl rfl (g_no rfl rfl rfl (o_pick_f rfl rfl rfl ?_)))))))))
      refine o_move rfl rfl (g_no rfl rfl rfl (g_no rfl rfl rfl (g_no rfl rfl rfl (g_no rfl rfl rfl (g_no rfl rfl rfl (o_pick_f rfl rfl rfl (o_move rfl rfl (g_no rfl rfl rfl (g_no rfl rfl rfl ?_)))))))))
      refine g_no rfl rfl rfl (g_no rfl rfl rfl (g_no rfl rfl rfl (o_pick_f rfl rfl rfl (o_move rfl rfl (g_no rfl rfl rfl (g_no rfl rfl rfl (g_no rfl rfl rfl (g_no rfl rfl rfl (g_no rfl rfl rfl ?_)))))))))
      refine o_pick_f rfl rfl rfl (o_move rfl rfl (g_no rfl rfl rfl (g_no rfl rfl rfl (g_no rfl rfl rfl (g_no rfl rfl rfl (g_no rfl rfl rfl (o_pick_f rfl rfl rfl (o_assign rfl rfl (o_nil ?_)))))))))
      refine n_then (c_ret (r_body1 rfl rfl ?_))
      exact ⟨_, rfl, (x2.trans x3), by
        first
        | exact congrArg B (decide_eq_decide.2 (by rw [LayD.eq_iff]; exact ⟨fun h => ⟨h10, h17, h24, h31, h38, h45, h52, h59, h⟩, fun h => h.2.2.2.2.2.2.2.2⟩))
        | exact congrArg B (decide_eq_false fun h => by subst h; first | exact h59 rfl | exact h52 rfl | exact h45 rfl | exact h38 rfl | exact h31 rfl | exact h24 rfl | exact h17 rfl | exact h10 rfl).symm⟩
  · refine g_no rfl rfl rfl (g_no rfl rfl rfl (g_no rfl rfl rfl (g_no rfl rfl rfl (g_no rfl rfl rfl (o_pick_f rfl rfl rfl (o_move rfl rfl (g_no rfl rfl rfl (g_no rfl rfl rfl (g_no rfl rfl rfl ?_)))))))))
    refine g_no rfl rfl rfl (g_no rfl rfl rfl (o_pick_f rfl rfl rfl (o_move rfl rfl (g_no rfl rfl rfl (g_no rfl rfl rfl (g_no rfl rfl rfl (g_no rfl rfl rfl (g_no rfl rfl rfl (o_pick_f rfl rfl rfl ?_)))))))))
    refine o_move rfl rfl (g_no rfl rfl rfl (g_no rfl rfl rfl (g_no rfl rfl rfl (g_no rfl rfl rfl (g_no rfl rfl rfl (o_pick_f rfl rfl rfl (o_move rfl rfl (g_no rfl rfl rfl (g_no rfl rfl rfl ?_)))))))))
    refine g_no rfl rfl rfl (g_no rfl rfl rfl (g_no rfl rfl rfl (o_pick_f rfl rfl rfl (o_move rfl rfl (g_no rfl rfl rfl (g_no rfl rfl rfl (g_no rfl rfl rfl (g_no rfl rfl rfl (g_no rfl rfl rfl ?_)))))))))
    refine o_pick_f rfl rfl rfl (o_move rfl rfl (g_no rfl rfl rfl (g_no rfl rfl rfl (g_no rfl rfl rfl (g_no rfl rfl rfl (g_no rfl rfl rfl (o_pick_f rfl rfl rfl (o_move rfl rfl (g_no rfl rfl rfl ?_)))))))))
    refine g_no rfl rfl rfl (g_no rfl rfl rfl (g_no rfl rfl rfl (g_no rfl rfl rfl (o_pick_f rfl rfl rfl (o_assign rfl rfl (o_nil (n_then (c_ret (r_body1 rfl rfl ?_)))))))))
    exact ⟨_, rfl, (x2.trans x3), by
      first
      | exact congrArg B (decide_eq_decide.2 (by rw [LayD.eq_iff]; exact ⟨fun h => ⟨h10, h17, h24, h31, h38, h45, h52, h59, h⟩, fun h => h.2.2.2.2.2.2.2.2⟩))
      | exact congrArg B (decide_eq_false fun h => by subst h; first | exact h59 rfl | exact h52 rfl | exact h45 rfl | exact h38 rfl | exact h31 rfl | exact h24 rfl | exact h17 rfl | exact h10 rfl).symm⟩
theorem TEqual_spec {w : World} {a b : ModD} {x y p q : Value} (ha : DsV dIn a.inp x w) (ha' : DsV dLay a.lays y w) (hb : DsV dIn b.inp p w) (hb' : DsV dLay b.lays q w) :
    Calls Try.prog 7 #[.agg #[x, y], .agg #[p, q]] w (Ret fun r w' => Ext w w' ∧ r = B (decide (a = b))) := by
  refine enter (vs := [.agg #[x, y], .agg #[p, q]]) Try.func7 rfl rfl rfl ?_
  have hll := ha'.len
  refine c_seq (c_region ?_)
  obtain ⟨g2, w2, hr2, l2, x2, k2⟩ := r_boxS (P := Try.prog) (w := w) (T := 25) (cs := [x, y])
  refine o_box rfl rfl hr2 ?_
  obtain ⟨g3, w3, hr3, l3, x3, k3⟩ := r_boxS (P := Try.prog) (w := w2) (T := 25) (cs := [p, q])
  refine o_box rfl rfl hr3 (o_assign rfl rfl (o_nil (n_then (c_seq (c_seq (c_region (o_fieldAddr rfl rfl (r_fAt (o := 0) Try.underlying25 rfl (by kernel_rfl) rfl) ?_)))))))
  refine o_load rfl rfl (r_load1 Try.underlying22 rfl (x3.cell_some (k2.cell (i := 0) rfl))) (o_fieldAddr rfl rfl (r_fAt (o := 0) Try.underlying25 rfl (by kernel_rfl) rfl) ?_)
  refine o_load rfl rfl (r_load1 Try.underlying22 rfl (k3.cell (i := 0) rfl)) (o_call call_TInts rfl rfl (TInts_spec (ha.ext (x2.trans x3)) (hb.ext (x2.trans x3))) ?_)
  rintro v10 w10 ⟨x10, rfl⟩
  refine o_not rfl rfl r_not_d (o_move rfl rfl ?_)
  refine o_dec (fun h12 => ?_) (fun h12 => ?_)
  · refine g_no rfl rfl rfl (g_no rfl rfl rfl (g_no rfl rfl rfl (g_no rfl rfl rfl (g_no rfl rfl rfl (g_no rfl rfl rfl (g_no rfl rfl rfl (o_pick_t rfl rfl rfl (o_nil (n_then (c_yes rfl ?_))))))))))
    refine c_seq (c_region (o_assign rfl rfl (o_nil (n_then (c_ret (r_then (r_body1 rfl rfl ?_)))))))
    exact ⟨_, rfl, ((x2.trans x3).trans x10), congrArg B (decide_eq_false (fun h => by subst h; first | exact h12 rfl | exact h20 rfl)).symm⟩
  · refine g_yes rfl (o_fieldAddr rfl rfl (r_fAt (o := 1) Try.underlying25 rfl (by kernel_rfl) rfl) (g_yes rfl (o_load rfl rfl (r_load1 Try.underlying23 rfl ((x3.trans x10).cell_some (k2.cell (i := 1) rfl))) ?_)))
    refine g_yes rfl (o_len rfl rfl (r_lenDs Try.underlying23 (ha'.ext ((x2.trans x3).trans x10))) (g_yes rfl (o_fieldAddr rfl rfl (r_fAt (o := 1) Try.underlying25 rfl (by kernel_rfl) rfl) ?_)))
    refine g_yes rfl (o_load rfl rfl (r_load1 Try.underlying23 rfl (x10.cell_some (k3.cell (i := 1) rfl))) (g_yes rfl (o_len rfl rfl (r_lenDs Try.underlying23 (hb'.ext ((x2.trans x3).trans x10))) ?_)))
    refine g_yes rfl (o_bin rfl rfl rfl (r_neq_i) (o_pick_f rfl rfl rfl (o_nil (n_then ?_))))
    refine c_if rfl (fun h20 => ?_) (fun h20 => ?_)
    · refine c_seq (c_region (o_assign rfl rfl (o_nil (n_then (c_ret (r_then (r_body1 rfl rfl ?_)))))))
      exact ⟨_, rfl, ((x2.trans x3).trans x10), congrArg B (decide_eq_false (fun h => by subst h; first | exact h12 rfl | exact h20 rfl)).symm⟩
    · have hlen : a.lays.length = b.lays.length := by omega
      refine c_skip (n_then (c_seq (c_seq (c_region (o_assign rfl rfl (o_nil (n_then (c_block ?_))))))))
      refine c_loop (α := Nat) (fun x => [(2, .pointer (some ⟨g2, 0, none⟩)), (3, .pointer (some ⟨g3, 0, none⟩)), (5, I (x : Int))]) (fun x w' => Ext w w' ∧ Ext w10 w' ∧ x ≤ a.lays.length ∧ a.lays.take x = b.lays.take x) (fun x => a.lays.length - x) (0) ⟨rfl, rfl, rfl, trivial⟩ ⟨((x2.trans x3).trans x10), Ext.refl _, by omega, rfl⟩ ?_
      rintro i w4 ⟨e4, e10, hi, ht⟩
      refine c_seq (c_seq (c_region (o_move rfl rfl (o_fieldAddr rfl rfl (r_fAt (o := 1) Try.underlying25 rfl (by kernel_rfl) rfl) (o_load rfl rfl (r_load1 Try.underlying23 rfl (((x3.trans x10).trans e10).cell_some (k2.cell (i := 1) rfl))) ?_)))))
      refine o_len rfl rfl (r_lenDs Try.underlying23 (ha'.ext e4)) (o_bin rfl rfl rfl (r_lss_i) (o_nil (n_then ?_)))
      refine c_if rfl (fun h25 => ?_) (fun h25 => ?_)
      · refine c_skip (n_then (c_seq (c_block (c_seq (c_grow 11 [2, 3, 5, 38] (by kernel_rfl) (by kernel_rfl) ?_)))))
        refine f_fieldAddr rfl rfl (fun w hw => r_fAt (o := 1) Try.underlying25 rfl (by kernel_rfl) rfl) (f_load rfl rfl (fun w hw => r_load1 Try.underlying23 rfl (hw.cell_some (((x3.trans x10).trans e10).cell_some (k2.cell (i := 1) rfl)))) ?_)
        refine f_move rfl rfl ?_
        obtain ⟨a31, c31, p31, q31, h31⟩ := r_ixDs (P := Try.prog) (sz := 9) Try.underlying23 (by kernel_rfl) dLay_size (by omega) (ha'.ext e4) (i := i) (by omega) .i64
        obtain ⟨e31, he31⟩ : ∃ e, e = a.lays[i]'(by omega) := ⟨_, rfl⟩
        rw [← he31] at h31
        obtain ⟨x31_0, x31_1, rfl, f31_0, f31_1⟩ := dLay_inv h31
        refine f_indexAddr rfl rfl rfl (fun w _ => p31 w) (f_load rfl rfl (fun w hw => (q31.ext hw).ld Try.underlying37 rfl (by kernel_rfl)) (f_fieldAddr rfl rfl (fun w hw => r_fAt (o := 1) Try.underlying25 rfl (by kernel_rfl) rfl) ?_))
        refine f_load rfl rfl (fun w hw => r_load1 Try.underlying23 rfl (hw.cell_some ((x10.trans e10).cell_some (k3.cell (i := 1) rfl)))) (f_move rfl rfl ?_)
        obtain ⟨a36, c36, p36, q36, h36⟩ := r_ixDs (P := Try.prog) (sz := 9) Try.underlying23 (by kernel_rfl) dLay_size (by omega) (hb'.ext e4) (i := i) (by omega) .i64
        obtain ⟨e36, he36⟩ : ∃ e, e = b.lays[i]'(by omega) := ⟨_, rfl⟩
        rw [← he36] at h36
        obtain ⟨x36_0, x36_1, rfl, f36_0, f36_1⟩ := dLay_inv h36
        refine f_indexAddr rfl rfl rfl (fun w _ => p36 w) (f_load rfl rfl (fun w hw => (q36.ext hw).ld Try.underlying37 rfl (by kernel_rfl)) (f_call (S := Is (B (decide (e31 = e36)))) call_TSameL (Stable.is _) rfl (fun w hw => by rintro _ rfl _ rfl; exact Ret.mono (TSameL_spec (f31_0.ext hw) (f31_1.ext hw) (f36_0.ext hw) (f36_1.ext hw)) fun v w' h => h) ?_))
        refine f_nil ?_
        intro wg6 xg6
        rintro _ rfl
        rintro _ rfl
        rintro _ rfl
        rintro _ rfl
        refine o_not rfl rfl r_not (o_nil (n_then ?_))
        refine c_cond rfl (fun h39 => ?_) (fun h39 => ?_)
        · refine c_seq (c_region (o_assign rfl rfl (o_nil (n_then (c_ret (r_block (r_then (r_then (r_block (r_then (r_body1 rfl rfl ?_)))))))))))
          exact ⟨_, rfl, (e4.trans xg6), congrArg B (decide_eq_false (fun h => absurd (show e31 = e36 by subst h; rw [he31, he36]) (by simpa using h39))).symm⟩
        · have he : a.lays[i]'(by omega) = b.lays[i]'(by omega) := by rw [← he31, ← he36]; simpa using h39
          refine c_skip (n_block (n_then (c_region (o_move rfl rfl (o_bin (r := I ((i + 1 : Nat) : Int)) rfl rfl rfl (by have e : ((i + 1 : Nat) : Int) = (i : Int) + 1 := (by omega); rw [e]; exact r_add_i (by omega) (by omega)) ?_)))))
          refine o_assign rfl rfl (o_nil ?_)
          refine n_round (i + 1) ⟨rfl, rfl, rfl, trivial⟩ ⟨(e4.trans xg6), (e10.trans xg6), by omega, by rw [List.take_succ_eq_append_getElem (by omega), List.take_succ_eq_append_getElem (by omega), ht, he]⟩ (by omega)
      · refine c_exit (x_then (x_then (x_here (n_then (c_seq (c_region (o_assign rfl rfl (o_nil (n_then (c_ret (r_body1 rfl rfl ?_)))))))))))
        exact ⟨_, rfl, e4, by
          rw [List.take_of_length_le (by omega), List.take_of_length_le (by omega)] at ht
          have he : a = b := ModD.eq_iff.2 ⟨Classical.byContradiction h12, ht⟩
          rw [decide_eq_true he]; rfl⟩
end Go.Rl
/- Validity of models walked: shapes, and the reference's side: relucertref11.Valid, relucertref12.within, multiple, canonical, layer, Valid, Params. Conditions: rationals of at most 2^30 limbs, not more layers. -/
namespace Go.Rl
open Go.RowKit Go.Proofs
theorem call_AShape : Callable Try.prog 23 := ⟨_, Try.func23, by kernel_rfl, rfl⟩
theorem mul_rng {a b m n : Int} (h1 : 1 ≤ a) (h2 : a ≤ m) (h3 : 1 ≤ b) (h4 : b ≤ n) : 1 ≤ a * b ∧ a * b ≤ m * n :=
  ⟨by have := Int.mul_le_mul h1 h3 (by omega) (by omega); omega, Int.mul_le_mul h2 h4 (by omega) (by omega)⟩
def shp : Int → List Int → Bool
  | _, [] => true
  | s, d :: l => decide (1 ≤ d ∧ d ≤ 16384 ∧ s * d ≤ 16384) && shp (s * d) l
def shapeOk (l : List Int) : Bool := decide (1 ≤ l.length ∧ l.length ≤ 4) && shp 1 l
theorem shp_step {s : Int} {l : List Int} {i : Nat} (hi : i < l.length) : shp s (l.drop i) = (decide (1 ≤ l[i] ∧ l[i] ≤ 16384 ∧ s * l[i] ≤ 16384) && shp (s * l[i]) (l.drop (i + 1))) := by
  rw [List.drop_eq_getElem_cons hi]; rfl
theorem shape_no {l : List Int} {i : Nat} {s : Int} (hi : i < l.length) (hS : shp 1 l = shp s (l.drop i)) (h : ¬ (1 ≤ l[i] ∧ l[i] ≤ 16384 ∧ s * l[i] ≤ 16384)) : false = shapeOk l := by
  unfold shapeOk
  rw [hS, shp_step hi, decide_eq_false h]
  simp
theorem shape_len {l : List Int} (h : ¬ (1 ≤ l.length ∧ l.length ≤ 4)) : false = shapeOk l := by
  unfold shapeOk
  rw [decide_eq_false h]
  rfl
theorem shape_yes {l : List Int} {s : Int} (h : 1 ≤ l.length ∧ l.length ≤ 4) (hS : shp 1 l = shp s (l.drop l.length)) : true = shapeOk l := by
  unfold shapeOk
  rw [hS, List.drop_length, decide_eq_true h]
  rfl
theorem shp_next {l : List Int} {i : Nat} {s : Int} (hi : i < l.length) (hS : shp 1 l = shp s (l.drop i)) (h : 1 ≤ l[i] ∧ l[i] ≤ 16384 ∧ s * l[i] ≤ 16384) : shp 1 l = shp (s * l[i]) (l.drop (i + 1)) := by
  rw [hS, shp_step hi, decide_eq_true h]
  rfl
theorem AShape_spec {w : World} {l : List Int} {v : Value} (hv : DsV dIn l v w) :
    Calls Try.prog 23 #[v] w (Ret fun r w' => Ext w w' ∧ r = B (shapeOk l)) := by
  refine enter (vs := [v]) Try.func23 rfl rfl rfl ?_
  have hll := hv.len
  refine c_seq (c_region (o_assign rfl rfl (o_nil (n_then (c_seq (c_seq (c_region (o_move rfl rfl (o_len rfl rfl (r_lenDs Try.underlying22 hv) (o_bin rfl rfl rfl (r_lss_i) (o_move rfl rfl ?_)))))))))))
  refine o_dec (fun h9 => ?_) (fun h9 => ?_)
  · refine g_no rfl rfl rfl (g_no rfl rfl rfl (g_no rfl rfl rfl (o_pick_t rfl rfl rfl (o_nil (n_then (c_yes rfl (c_seq (c_region (o_assign rfl rfl (o_nil (n_then (c_ret (r_then (r_body1 rfl rfl ?_))))))))))))))
    exact ⟨_, rfl, Ext.refl _, congrArg B (shape_len (by omega))⟩
  · refine g_yes rfl (o_move rfl rfl (g_yes rfl (o_len rfl rfl (r_lenDs Try.underlying22 hv) (g_yes rfl (o_bin rfl rfl rfl (r_gtr_i) (o_pick_f rfl rfl rfl (o_nil (n_then ?_))))))))
    refine c_if rfl (fun h13 => ?_) (fun h13 => ?_)
    · refine c_seq (c_region (o_assign rfl rfl (o_nil (n_then (c_ret (r_then (r_body1 rfl rfl ?_)))))))
      exact ⟨_, rfl, Ext.refl _, congrArg B (shape_len (by omega))⟩
    · refine c_skip (n_then (c_seq (c_region (o_assign rfl rfl (o_nil (n_then (c_seq (c_seq (c_region (o_move rfl rfl (o_len rfl rfl (r_lenDs Try.underlying22 hv) (o_move rfl rfl (o_nil ?_)))))))))))))
      refine n_then (c_block ?_)
      refine c_loop2 (fun (i : Nat) (s : Int) => [(3, I s), (14, v), (15, I (l.length : Int)), (16, I (i : Int))]) (fun (i : Nat) (s : Int) w' => Ext w w' ∧ i ≤ l.length ∧ 1 ≤ s ∧ s ≤ 16384 ∧ shp 1 l = shp s (l.drop i)) (fun (i : Nat) (s : Int) => l.length - i) (0) (1) ⟨rfl, rfl, rfl, rfl, trivial⟩ ⟨Ext.refl _, by omega, by omega, by omega, rfl⟩ ?_
      rintro i s w4 ⟨e4, hi, hs1, hs2, hS⟩
      refine c_seq (c_region (o_bin rfl rfl rfl (r_lss_i) (o_nil (n_then (c_seq ?_)))))
      refine c_if rfl (fun h17 => ?_) (fun h17 => ?_)
      · refine c_skip (n_then (c_seq (c_block (c_seq (c_region ?_)))))
        obtain ⟨a18, c18, p18, q18, h18⟩ := r_ixDs (P := Try.prog) (sz := 1) Try.underlying22 (by kernel_rfl) dIn_size (by omega) (hv.ext e4) (i := i) (by omega) .i64
        obtain ⟨e18, he18⟩ : ∃ e, e = l[i]'(by omega) := ⟨_, rfl⟩
        rw [← he18] at h18
        obtain rfl := dIn_inv h18
        refine o_indexAddr rfl rfl rfl (p18 _) (o_load rfl rfl (r_load1 Try.underlying3 rfl q18.cell0) (o_assign rfl rfl (o_nil (n_then (c_seq (c_seq (c_region (o_move rfl rfl ?_))))))))
        refine o_bin rfl rfl rfl (r_lss_i) (o_move rfl rfl ?_)
        refine o_dec (fun h22 => ?_) (fun h22 => ?_)
        · refine g_no rfl rfl rfl (g_no rfl rfl rfl (o_pick_t rfl rfl rfl (o_move rfl rfl (g_no rfl rfl rfl (g_no rfl rfl rfl (g_no rfl rfl rfl (g_no rfl rfl rfl (o_pick_t rfl rfl rfl (o_nil ?_)))))))))
          refine n_then (c_yes rfl (c_seq (c_region (o_assign rfl rfl (o_nil (n_then (c_ret (r_then (r_block (r_then (r_then (r_block (r_then (r_body1 rfl rfl ?_))))))))))))))
          exact ⟨_, rfl, e4, congrArg B (shape_no (by omega) hS (by rw [← he18]; omega))⟩
        · refine g_yes rfl (o_move rfl rfl (g_yes rfl (o_bin rfl rfl rfl (r_gtr_i) (o_pick_f rfl rfl rfl (o_move rfl rfl ?_)))))
          refine o_dec (fun h26 => ?_) (fun h26 => ?_)
          · refine g_no rfl rfl rfl (g_no rfl rfl rfl (g_no rfl rfl rfl (g_no rfl rfl rfl (o_pick_t rfl rfl rfl (o_nil (n_then (c_yes rfl (c_seq (c_region (o_assign rfl rfl (o_nil (n_then (c_ret (r_then ?_))))))))))))))
            refine r_block (r_then (r_then (r_block (r_then (r_body1 rfl rfl ?_)))))
            exact ⟨_, rfl, e4, congrArg B (shape_no (by omega) hS (by rw [← he18]; omega))⟩
          · refine g_yes rfl (o_move rfl rfl (g_yes rfl (o_move rfl rfl (g_yes rfl ?_))))
            have hb := mul_rng hs1 hs2 (show 1 ≤ e18 by omega) (show e18 ≤ 16384 by omega)
            refine o_bin rfl rfl rfl (r_mul_i (by omega) (by omega)) (g_yes rfl (o_bin rfl rfl rfl (r_gtr_i) (o_pick_f rfl rfl rfl (o_nil (n_then ?_)))))
            refine c_if rfl (fun h31 => ?_) (fun h31 => ?_)
            · refine c_seq (c_region (o_assign rfl rfl (o_nil (n_then (c_ret (r_then (r_block (r_then (r_then (r_block (r_then (r_body1 rfl rfl ?_))))))))))))
              exact ⟨_, rfl, e4, congrArg B (shape_no (by omega) hS (by rw [← he18]; omega))⟩
            · refine c_skip (n_then (c_region (o_move rfl rfl (o_move rfl rfl ?_))))
              have hb := mul_rng hs1 hs2 (show 1 ≤ e18 by omega) (show e18 ≤ 16384 by omega)
              refine o_bin rfl rfl rfl (r_mul_i (by omega) (by omega)) (o_assign rfl rfl (o_nil (n_block (n_then (c_region (o_bin (r := I ((i + 1 : Nat) : Int)) rfl rfl rfl (by have e : ((i + 1 : Nat) : Int) = (i : Int) + 1 := (by omega); rw [e]; exact r_add_i (by omega) (by omega)) ?_))))))
              refine o_move rfl rfl (o_nil ?_)
              refine n_round2 (i + 1) (s * e18) ⟨rfl, rfl, rfl, rfl, trivial⟩ ⟨e4, by omega, by omega, by omega, by have := shp_next (by omega) hS (by rw [← he18]; omega); rwa [← he18] at this⟩ (by omega)
      · refine c_exit (x_then (x_then (x_here (n_then (c_seq (c_region (o_assign rfl rfl (o_nil (n_then (c_ret (r_body1 rfl rfl ?_)))))))))))
        exact ⟨_, rfl, e4, congrArg B (shape_yes (by omega) (by rw [show l.length = i by omega]; exact hS))⟩
def mulOk (n d : Int) : Bool := decide (0 < n ∧ n ≤ 16384 ∧ n % d = 0)
def canQ (l : List RatD) : Bool := l.all fun q => rv q.1 q.2.1 q.2.2
def small (l : List RatD) : Prop := ∀ q ∈ l, q.2.1.length ≤ 1073741824 ∧ q.2.2.length ≤ 1073741824
theorem canQ_drop {l : List RatD} {i : Nat} (hi : i < l.length) : canQ (l.drop i) = (rv l[i].1 l[i].2.1 l[i].2.2 && canQ (l.drop (i + 1))) := by
  rw [List.drop_eq_getElem_cons hi]; rfl
def sideB (n : Int) : Bool := decide (1 ≤ n ∧ n ≤ 64)
def kernB (l : LayD) : Bool := decide ((1 ≤ l.kh ∧ l.kh ≤ 64) ∧ (1 ≤ l.kw ∧ l.kw ≤ 64) ∧ (1 ≤ l.sr ∧ l.sr ≤ 64))
def noneB (l : LayD) : Bool := decide ((l.ws.length : Int) = 0 ∧ (l.bs.length : Int) = 0)
def flatB (l : LayD) : Bool := decide (l.kh = 0 ∧ l.kw = 0 ∧ l.sr = 0 ∧ l.pd = 0)
/-- What a layer must fulfil, but for its numbers. -/
def layC (l : LayD) (i : Int) : Prop :=
  if l.kd = 1 then flatB l = true ∧ l.fr = 0 ∧ (1 ≤ l.ou ∧ l.ou ≤ 16384) ∧ (l.bs.length : Int) = l.ou ∧ mulOk l.ws.length l.ou = true
  else if l.kd = 2 then kernB l = true ∧ l.fr = 0 ∧ l.pd ≥ 0 ∧ l.pd < l.kh ∧ l.pd < l.kw ∧ (1 ≤ l.ou ∧ l.ou ≤ 16384) ∧ (l.bs.length : Int) = l.ou ∧ mulOk l.ws.length (l.ou * l.kh * l.kw) = true
  else if l.kd = 3 ∨ l.kd = 4 then kernB l = true ∧ l.fr = 0 ∧ l.pd = 0 ∧ l.ou = 0 ∧ noneB l = true
  else if l.kd = 5 ∨ l.kd = 6 then flatB l = true ∧ l.fr = 0 ∧ l.ou = 0 ∧ noneB l = true
  else if l.kd = 7 then flatB l = true ∧ (-1 ≤ l.fr ∧ l.fr ≤ i - 1) ∧ l.ou = 0 ∧ noneB l = true
  else False
instance (l : LayD) (i : Int) : Decidable (layC l i) := by unfold layC; infer_instance
def layOk (l : LayD) (i : Int) : Bool := canQ l.ws && canQ l.bs && decide (layC l i)
section
variable {l : LayD} {i : Int}
theorem layC_1 (h : l.kd = 1) : layC l i ↔ flatB l = true ∧ l.fr = 0 ∧ (1 ≤ l.ou ∧ l.ou ≤ 16384) ∧ (l.bs.length : Int) = l.ou ∧ mulOk l.ws.length l.ou = true := by unfold layC; rw [if_pos h]
theorem layC_2 (h : l.kd = 2) : layC l i ↔ kernB l = true ∧ l.fr = 0 ∧ l.pd ≥ 0 ∧ l.pd < l.kh ∧ l.pd < l.kw ∧ (1 ≤ l.ou ∧ l.ou ≤ 16384) ∧ (l.bs.length : Int) = l.ou ∧ mulOk l.ws.length (l.ou * l.kh * l.kw) = true := by unfold layC; rw [if_neg (by omega), if_pos h]
theorem layC_3 (h : l.kd = 3 ∨ l.kd = 4) : layC l i ↔ kernB l = true ∧ l.fr = 0 ∧ l.pd = 0 ∧ l.ou = 0 ∧ noneB l = true := by unfold layC; rw [if_neg (by omega), if_neg (by omega), if_pos h]
theorem layC_5 (h : l.kd = 5 ∨ l.kd = 6) : layC l i ↔ flatB l = true ∧ l.fr = 0 ∧ l.ou = 0 ∧ noneB l = true := by unfold layC; rw [if_neg (by omega), if_neg (by omega), if_neg (by omega), if_pos h]
theorem layC_7 (h : l.kd = 7) : layC l i ↔ flatB l = true ∧ (-1 ≤ l.fr ∧ l.fr ≤ i - 1) ∧ l.ou = 0 ∧ noneB l = true := by unfold layC; rw [if_neg (by omega), if_neg (by omega), if_neg (by omega), if_neg (by omega), if_pos h]
theorem layC_no (h : ¬ (1 ≤ l.kd ∧ l.kd ≤ 7)) : ¬ layC l i := by unfold layC; rw [if_neg (by omega), if_neg (by omega), if_neg (by omega), if_neg (by omega), if_neg (by omega)]; exact id
theorem layOk_c (h1 : canQ l.ws = true) (h2 : canQ l.bs = true) : layOk l i = decide (layC l i) := by unfold layOk; rw [h1, h2]; rfl
theorem layOk_no {c : Prop} (h1 : canQ l.ws = true) (h2 : canQ l.bs = true) (h : layC l i ↔ c) (hc : ¬ c) : false = layOk l i := by rw [layOk_c h1 h2]; exact (decide_eq_false fun x => hc (h.1 x)).symm
theorem layOk_if {c : Prop} {b : Bool} (h1 : canQ l.ws = true) (h2 : canQ l.bs = true) (h : layC l i ↔ c) (hc : c ↔ b = true) : b = layOk l i := by
  rw [layOk_c h1 h2, Bool.eq_iff_iff, decide_eq_true_iff, h, hc]
end
def laysOk : Nat → List LayD → Bool
  | _, [] => true
  | i, l :: t => layOk l i && laysOk (i + 1) t
def validM (m : ModD) : Bool := shapeOk m.inp && decide (m.lays.length ≤ 64) && laysOk 0 m.lays
def smallM (m : ModD) : Prop := ∀ l ∈ m.lays, small l.ws ∧ small l.bs
theorem laysOk_drop {l : List LayD} {i : Nat} (hi : i < l.length) : laysOk i (l.drop i) = (layOk l[i] i && laysOk (i + 1) (l.drop (i + 1))) := by
  rw [List.drop_eq_getElem_cons hi]; rfl
end Go.Rl
/- Equality of models walked, the program's side: slices.Equal, slices.EqualFunc, model.rats, same, Equal. No condition. -/
namespace Go.Rl
open Go.RowKit Go.Proofs
theorem call_EqN : Callable Try.prog 52 := ⟨_, Try.func52, by kernel_rfl, rfl⟩
theorem call_EqI : Callable Try.prog 11 := ⟨_, Try.func11, by kernel_rfl, rfl⟩
theorem call_MRat : Callable Try.prog 51 := ⟨_, Try.func51, by kernel_rfl, rfl⟩
theorem call_EqFR : Callable Try.prog 50 := ⟨_, Try.func50, by kernel_rfl, rfl⟩
theorem call_MRats : Callable Try.prog 26 := ⟨_, Try.func26, by kernel_rfl, rfl⟩
theorem call_MSame : Callable Try.prog 13 := ⟨_, Try.func13, by kernel_rfl, rfl⟩
theorem call_EqFL : Callable Try.prog 12 := ⟨_, Try.func12, by kernel_rfl, rfl⟩
theorem call_MEqual : Callable Try.prog 6 := ⟨_, Try.func6, by kernel_rfl, rfl⟩
theorem EqN_spec {w : World} {l m : List UInt32} {v u : Value} (hv : Wds l v w) (hu : Wds m u w) :
    Calls Try.prog 52 #[v, u] w (Ret fun r w' => Ext w w' ∧ r = B (decide (l = m))) := by
  refine enter (vs := [v, u]) Try.func52 rfl rfl rfl ?_
  have hll := hv.len
  refine c_seq (c_region (o_assign rfl rfl (o_nil (n_then (c_seq (c_seq (c_region (o_move rfl rfl (o_len rfl rfl (r_lenW Try.underlying39 hv) (o_move rfl rfl (o_len rfl rfl (r_lenW Try.underlying39 hu) ?_)))))))))))
  refine o_bin rfl rfl rfl (r_neq_i) (o_nil (n_then ?_))
  refine c_if rfl (fun h10 => ?_) (fun h10 => ?_)
  · have hne : l ≠ m := fun h => h10 (by rw [h])
    refine c_seq (c_region (o_assign rfl rfl (o_nil (n_then (c_ret (r_then (r_body1 rfl rfl ?_)))))))
    exact ⟨_, rfl, Ext.refl _, congrArg B (decide_eq_false hne).symm⟩
  · have hlen : l.length = m.length := by omega
    refine c_skip (n_then (c_seq (c_seq (c_region (o_move rfl rfl (o_len rfl rfl (r_lenW Try.underlying39 hv) (o_move rfl rfl (o_nil (n_then (c_block ?_))))))))))
    refine c_loop (α := Nat) (fun x => [(0, v), (1, u), (12, I (l.length : Int)), (13, I (x : Int))]) (fun x w' => Ext w w' ∧ x ≤ l.length ∧ l.take x = m.take x) (fun x => l.length - x) (0) ⟨rfl, rfl, rfl, rfl, trivial⟩ ⟨Ext.refl _, by omega, rfl⟩ ?_
    rintro i w4 ⟨e4, hi, ht⟩
    refine c_seq (c_region (o_bin rfl rfl rfl (r_lss_i) (o_nil (n_then (c_seq ?_)))))
    refine c_if rfl (fun h14 => ?_) (fun h14 => ?_)
    · refine c_skip (n_then (c_seq (c_block (c_seq (c_region (o_move rfl rfl (o_assign rfl rfl (o_nil (n_then (c_seq (c_grow 8 [0, 1, 12, 13, 19, 23] (by kernel_rfl) (by kernel_rfl) ?_)))))))))))
      refine f_move rfl rfl (f_move rfl rfl ?_)
      obtain ⟨a18, p18, q18⟩ := r_ixW Try.underlying39 (hv.ext e4) (i := i) (by omega) .i64
      refine f_indexAddr rfl rfl rfl (fun w _ => p18 w) (f_load rfl rfl (fun w hw => r_load1 Try.underlying88 rfl (hw.cell_some q18)) (f_move rfl rfl (f_move rfl rfl ?_)))
      obtain ⟨a22, p22, q22⟩ := r_ixW Try.underlying39 (hu.ext e4) (i := i) (by omega) .i64
      refine f_indexAddr rfl rfl rfl (fun w _ => p22 w) (f_load rfl rfl (fun w hw => r_load1 Try.underlying88 rfl (hw.cell_some q22)) (f_nil ?_))
      intro wg6 xg6
      rintro _ hq0
      obtain rfl := Eq.symm hq0
      rintro _ hq1
      obtain rfl := Eq.symm hq1
      rintro _ rfl
      rintro _ rfl
      rintro _ rfl
      rintro _ rfl
      refine o_bin rfl rfl rfl (r_neq_u32) (o_nil (n_then ?_))
      refine c_if rfl (fun h24 => ?_) (fun h24 => ?_)
      · have hne : l ≠ m := fun h => h24 (by subst h; rfl)
        refine c_seq (c_region (o_assign rfl rfl (o_nil (n_then (c_ret (r_block (r_then (r_then (r_block (r_then (r_body1 rfl rfl ?_)))))))))))
        exact ⟨_, rfl, (e4.trans xg6), congrArg B (decide_eq_false hne).symm⟩
      · have he : l[i]'(by omega) = m[i]'(by omega) := Classical.byContradiction fun h => h24 h
        refine c_skip (n_block (n_then (c_region (o_bin (r := I ((i + 1 : Nat) : Int)) rfl rfl rfl (by have e : ((i + 1 : Nat) : Int) = (i : Int) + 1 := (by omega); rw [e]; exact r_add_i (by omega) (by omega)) ?_))))
        refine o_move rfl rfl (o_nil ?_)
        refine n_round (i + 1) ⟨rfl, rfl, rfl, rfl, trivial⟩ ⟨(e4.trans xg6), by omega, by rw [List.take_succ_eq_append_getElem (by omega), List.take_succ_eq_append_getElem (by omega), ht, he]⟩ (by omega)
    · refine c_exit (x_then (x_then (x_here (n_then (c_seq (c_region (o_assign rfl rfl (o_nil (n_then (c_ret (r_body1 rfl rfl ?_)))))))))))
      exact ⟨_, rfl, e4, by
        rw [List.take_of_length_le (by omega), List.take_of_length_le (by omega)] at ht
        rw [decide_eq_true ht]; rfl⟩
theorem EqI_spec {w : World} {l m : List Int} {v u : Value} (hv : DsV dIn l v w) (hu : DsV dIn m u w) :
    Calls Try.prog 11 #[v, u] w (Ret fun r w' => Ext w w' ∧ r = B (decide (l = m))) := by
  refine enter (vs := [v, u]) Try.func11 rfl rfl rfl ?_
  have hll := hv.len
  refine c_seq (c_region (o_assign rfl rfl (o_nil (n_then (c_seq (c_seq (c_region (o_move rfl rfl (o_len rfl rfl (r_lenDs Try.underlying22 hv) (o_move rfl rfl (o_len rfl rfl (r_lenDs Try.underlying22 hu) ?_)))))))))))
  refine o_bin rfl rfl rfl (r_neq_i) (o_nil (n_then ?_))
  refine c_if rfl (fun h10 => ?_) (fun h10 => ?_)
  · have hne : l ≠ m := fun h => h10 (by rw [h])
    refine c_seq (c_region (o_assign rfl rfl (o_nil (n_then (c_ret (r_then (r_body1 rfl rfl ?_)))))))
    exact ⟨_, rfl, Ext.refl _, congrArg B (decide_eq_false hne).symm⟩
  · have hlen : l.length = m.length := by omega
    refine c_skip (n_then (c_seq (c_seq (c_region (o_move rfl rfl (o_len rfl rfl (r_lenDs Try.underlying22 hv) (o_move rfl rfl (o_nil (n_then (c_block ?_))))))))))
    refine c_loop (α := Nat) (fun x => [(0, v), (1, u), (12, I (l.length : Int)), (13, I (x : Int))]) (fun x w' => Ext w w' ∧ x ≤ l.length ∧ l.take x = m.take x) (fun x => l.length - x) (0) ⟨rfl, rfl, rfl, rfl, trivial⟩ ⟨Ext.refl _, by omega, rfl⟩ ?_
    rintro i w4 ⟨e4, hi, ht⟩
    refine c_seq (c_region (o_bin rfl rfl rfl (r_lss_i) (o_nil (n_then (c_seq ?_)))))
    refine c_if rfl (fun h14 => ?_) (fun h14 => ?_)
    · refine c_skip (n_then (c_seq (c_block (c_seq (c_region (o_move rfl rfl (o_assign rfl rfl (o_nil (n_then (c_seq (c_grow 8 [0, 1, 12, 13, 19, 23] (by kernel_rfl) (by kernel_rfl) ?_)))))))))))
      refine f_move rfl rfl (f_move rfl rfl ?_)
      obtain ⟨a18, c18, p18, q18, h18⟩ := r_ixDs (P := Try.prog) (sz := 1) Try.underlying22 (by kernel_rfl) dIn_size (by omega) (hv.ext e4) (i := i) (by omega) .i64
      obtain ⟨e18, he18⟩ : ∃ e, e = l[i]'(by omega) := ⟨_, rfl⟩
      rw [← he18] at h18
      obtain rfl := dIn_inv h18
      refine f_indexAddr rfl rfl rfl (fun w _ => p18 w) (f_load rfl rfl (fun w hw => r_load1 Try.underlying3 rfl (hw.cell_some q18.cell0)) (f_move rfl rfl (f_move rfl rfl ?_)))
      obtain ⟨a22, c22, p22, q22, h22⟩ := r_ixDs (P := Try.prog) (sz := 1) Try.underlying22 (by kernel_rfl) dIn_size (by omega) (hu.ext e4) (i := i) (by omega) .i64
      obtain ⟨e22, he22⟩ : ∃ e, e = m[i]'(by omega) := ⟨_, rfl⟩
      rw [← he22] at h22
      obtain rfl := dIn_inv h22
      refine f_indexAddr rfl rfl rfl (fun w _ => p22 w) (f_load rfl rfl (fun w hw => r_load1 Try.underlying3 rfl (hw.cell_some q22.cell0)) (f_nil ?_))
      intro wg6 xg6
      rintro _ hq0
      obtain rfl := Eq.symm hq0
      rintro _ hq1
      obtain rfl := Eq.symm hq1
      rintro _ rfl
      rintro _ rfl
      rintro _ rfl
      rintro _ rfl
      refine o_bin rfl rfl rfl (r_neq_i) (o_nil (n_then ?_))
      refine c_if rfl (fun h24 => ?_) (fun h24 => ?_)
      · have hne : l ≠ m := fun h => h24 (by subst h; rw [he18, he22])
        refine c_seq (c_region (o_assign rfl rfl (o_nil (n_then (c_ret (r_block (r_then (r_then (r_block (r_then (r_body1 rfl rfl ?_)))))))))))
        exact ⟨_, rfl, (e4.trans xg6), congrArg B (decide_eq_false hne).symm⟩
      · have he : l[i]'(by omega) = m[i]'(by omega) := by rw [← he18, ← he22]; exact Classical.byContradiction fun h => h24 h
        refine c_skip (n_block (n_then (c_region (o_bin (r := I ((i + 1 : Nat) : Int)) rfl rfl rfl (by have e : ((i + 1 : Nat) : Int) = (i : Int) + 1 := (by omega); rw [e]; exact r_add_i (by omega) (by omega)) ?_))))
        refine o_move rfl rfl (o_nil ?_)
        refine n_round (i + 1) ⟨rfl, rfl, rfl, rfl, trivial⟩ ⟨(e4.trans xg6), by omega, by rw [List.take_succ_eq_append_getElem (by omega), List.take_succ_eq_append_getElem (by omega), ht, he]⟩ (by omega)
    · refine c_exit (x_then (x_then (x_here (n_then (c_seq (c_region (o_assign rfl rfl (o_nil (n_then (c_ret (r_body1 rfl rfl ?_)))))))))))
      exact ⟨_, rfl, e4, by
        rw [List.take_of_length_le (by omega), List.take_of_length_le (by omega)] at ht
        rw [decide_eq_true ht]; rfl⟩
theorem MRat_spec {w : World} {a b : RatD} {x y p q : Value} (ha : Wds a.2.1 x w) (ha' : Wds a.2.2 y w) (hb : Wds b.2.1 p w) (hb' : Wds b.2.2 q w) :
    Calls Try.prog 51 #[.agg #[B a.1, x, y], .agg #[B b.1, p, q]] w (Ret fun r w' => Ext w w' ∧ r = B (decide (a = b))) := by
  refine enter (vs := [.agg #[B a.1, x, y], .agg #[B b.1, p, q]]) Try.func51 rfl rfl rfl ?_
  refine c_seq (c_region ?_)
  obtain ⟨g2, w2, hr2, l2, x2, k2⟩ := r_boxS (P := Try.prog) (w := w) (T := 41) (cs := [B a.1, x, y])
  refine o_box rfl rfl hr2 ?_
  obtain ⟨g3, w3, hr3, l3, x3, k3⟩ := r_boxS (P := Try.prog) (w := w2) (T := 41) (cs := [B b.1, p, q])
  refine o_box rfl rfl hr3 (o_assign rfl rfl (o_nil (n_then (c_seq (c_region (o_fieldAddr rfl rfl (r_fAt (o := 0) Try.underlying41 rfl (by kernel_rfl) rfl) ?_))))))
  refine o_load rfl rfl (r_load1 Try.underlying4 rfl (x3.cell_some (k2.cell (i := 0) rfl))) (o_fieldAddr rfl rfl (r_fAt (o := 0) Try.underlying41 rfl (by kernel_rfl) rfl) ?_)
  refine o_load rfl rfl (r_load1 Try.underlying4 rfl (k3.cell (i := 0) rfl)) (o_bin rfl rfl rfl (r_eql_b Try.underlying4) (o_move rfl rfl ?_))
  refine o_dec (fun h10 => ?_) (fun h10 => ?_)
  · refine g_yes rfl (o_fieldAddr rfl rfl (r_fAt (o := 1) Try.underlying41 rfl (by kernel_rfl) rfl) (g_yes rfl (o_load rfl rfl (r_load1 Try.underlying39 rfl (x3.cell_some (k2.cell (i := 1) rfl))) ?_)))
    refine g_yes rfl (o_fieldAddr rfl rfl (r_fAt (o := 1) Try.underlying41 rfl (by kernel_rfl) rfl) (g_yes rfl (o_load rfl rfl (r_load1 Try.underlying39 rfl (k3.cell (i := 1) rfl)) ?_)))
    refine g_yes rfl (o_call call_EqN rfl rfl (EqN_spec (ha.ext (x2.trans x3)) (hb.ext (x2.trans x3))) ?_)
    rintro v15 w15 ⟨x15, rfl⟩
    refine o_pick_t rfl rfl rfl (o_move rfl rfl ?_)
    refine o_dec (fun h17 => ?_) (fun h17 => ?_)
    · refine g_yes rfl (o_fieldAddr rfl rfl (r_fAt (o := 2) Try.underlying41 rfl (by kernel_rfl) rfl) (g_yes rfl (o_load rfl rfl (r_load1 Try.underlying39 rfl ((x3.trans x15).cell_some (k2.cell (i := 2) rfl))) ?_)))
      refine g_yes rfl (o_fieldAddr rfl rfl (r_fAt (o := 2) Try.underlying41 rfl (by kernel_rfl) rfl) (g_yes rfl (o_load rfl rfl (r_load1 Try.underlying39 rfl (x15.cell_some (k3.cell (i := 2) rfl))) ?_)))
      refine g_yes rfl (o_call call_EqN rfl rfl (EqN_spec (ha'.ext ((x2.trans x3).trans x15)) (hb'.ext ((x2.trans x3).trans x15))) ?_)
      rintro v22 w22 ⟨x22, rfl⟩
      refine o_pick_t rfl rfl rfl (o_assign rfl rfl (o_nil (n_then (c_ret (r_body1 rfl rfl ?_)))))
      exact ⟨_, rfl, (((x2.trans x3).trans x15).trans x22), by
        first
        | exact congrArg B (decide_eq_decide.2 ⟨fun h => Prod.ext h10 (Prod.ext h17 h), fun h => by rw [h]⟩)
        | exact congrArg B (decide_eq_false fun h => h17 (by rw [h])).symm
        | exact congrArg B (decide_eq_false fun h => h10 (by rw [h])).symm⟩
    · refine g_no rfl rfl rfl (g_no rfl rfl rfl (g_no rfl rfl rfl (g_no rfl rfl rfl (g_no rfl rfl rfl (o_pick_f rfl rfl rfl (o_assign rfl rfl (o_nil (n_then (c_ret (r_body1 rfl rfl ?_))))))))))
      exact ⟨_, rfl, ((x2.trans x3).trans x15), by
        first
        | exact congrArg B (decide_eq_decide.2 ⟨fun h => Prod.ext h10 (Prod.ext h17 h), fun h => by rw [h]⟩)
        | exact congrArg B (decide_eq_false fun h => h17 (by rw [h])).symm
        | exact congrArg B (decide_eq_false fun h => h10 (by rw [h])).symm⟩
  · refine g_no rfl rfl rfl (g_no rfl rfl rfl (g_no rfl rfl rfl (g_no rfl rfl rfl (g_no rfl rfl rfl (o_pick_f rfl rfl rfl (o_move rfl rfl (g_no rfl rfl rfl (g_no rfl rfl rfl (g_no rfl rfl rfl ?_)))))))))
    refine g_no rfl rfl rfl (g_no rfl rfl rfl (o_pick_f rfl rfl rfl (o_assign rfl rfl (o_nil (n_then (c_ret (r_body1 rfl rfl ?_)))))))
    exact ⟨_, rfl, (x2.trans x3), by
      first
      | exact congrArg B (decide_eq_decide.2 ⟨fun h => Prod.ext h10 (Prod.ext h17 h), fun h => by rw [h]⟩)
      | exact congrArg B (decide_eq_false fun h => h17 (by rw [h])).symm
      | exact congrArg B (decide_eq_false fun h => h10 (by rw [h])).symm⟩
theorem EqFR_spec {w : World} {l m : List RatD} {v u : Value} (hv : DsV dRat l v w) (hu : DsV dRat m u w) :
    Calls Try.prog 50 #[v, u, .func (.func 51) #[] #[]] w (Ret fun r w' => Ext w w' ∧ r = B (decide (l = m))) := by
  refine enter (vs := [v, u, .func (.func 51) #[] #[]]) Try.func50 rfl rfl rfl ?_
  have hll := hv.len
  refine c_seq (c_region (o_assign rfl rfl (o_nil (n_then (c_seq (c_seq (c_region (o_move rfl rfl (o_len rfl rfl (r_lenDs Try.underlying35 hv) (o_move rfl rfl (o_len rfl rfl (r_lenDs Try.underlying35 hu) ?_)))))))))))
  refine o_bin rfl rfl rfl (r_neq_i) (o_nil (n_then ?_))
  refine c_if rfl (fun h14 => ?_) (fun h14 => ?_)
  · have hne : l ≠ m := fun h => h14 (by rw [h])
    refine c_seq (c_region (o_assign rfl rfl (o_nil (n_then (c_ret (r_then (r_body1 rfl rfl ?_)))))))
    exact ⟨_, rfl, Ext.refl _, congrArg B (decide_eq_false hne).symm⟩
  · have hlen : l.length = m.length := by omega
    refine c_skip (n_then (c_seq (c_seq (c_region (o_move rfl rfl (o_len rfl rfl (r_lenDs Try.underlying35 hv) (o_move rfl rfl (o_nil (n_then (c_block ?_))))))))))
    refine c_loop (α := Nat) (fun x => [(0, v), (1, u), (2, .func (.func 51) #[] #[]), (15, v), (16, I (l.length : Int)), (17, I (x : Int))]) (fun x w' => Ext w w' ∧ x ≤ l.length ∧ l.take x = m.take x) (fun x => l.length - x) (0) ⟨rfl, rfl, rfl, rfl, rfl, rfl, trivial⟩ ⟨Ext.refl _, by omega, rfl⟩ ?_
    rintro i w4 ⟨e4, hi, ht⟩
    refine c_seq (c_region (o_bin rfl rfl rfl (r_lss_i) (o_nil (n_then (c_seq ?_)))))
    refine c_if rfl (fun h18 => ?_) (fun h18 => ?_)
    · refine c_skip (n_then (c_seq (c_block (c_seq (c_region (o_move rfl rfl ?_))))))
      obtain ⟨a20, c20, p20, q20, h20⟩ := r_ixDs (P := Try.prog) (sz := 3) Try.underlying35 (by kernel_rfl) dRat_size (by omega) (hv.ext e4) (i := i) (by omega) .i64
      obtain ⟨e20, he20⟩ : ∃ e, e = l[i]'(by omega) := ⟨_, rfl⟩
      rw [← he20] at h20
      obtain ⟨x20_0, x20_1, rfl, f20_0, f20_1⟩ := dRat_inv h20
      refine o_indexAddr rfl rfl rfl (p20 _) (o_load rfl rfl (q20.ld Try.underlying41 rfl (by kernel_rfl)) ?_)
      obtain ⟨g8, w8, hr8, l8, x8, k8⟩ := r_allocB (P := Try.prog) (w := w4) (t := 41) (z := .agg #[B false, .slice none 0 0, .slice none 0 0]) (l := [B false, .slice none 0 0, .slice none 0 0]) (by kernel_rfl) rfl
      refine o_alloc rfl hr8 (o_assign rfl rfl ?_)
      obtain ⟨w5_5, s5_5, q5_5, k5_5⟩ := k8.stS (P := Try.prog) (t := 41) (m := [B e20.1, x20_0, x20_1]) rfl (by kernel_rfl) (Ones.cons rfl (Ones.cons f20_0.one (Ones.cons f20_1.one Ones.nil)))
      refine o_store rfl rfl s5_5 ?_
      have x5_5 := Ext.of_new (x8) q5_5 l8
      refine o_nil (n_then (c_seq (c_region (o_move rfl rfl (o_move rfl rfl ?_)))))
      obtain ⟨a24, c24, p24, q24, h24⟩ := r_ixDs (P := Try.prog) (sz := 3) Try.underlying35 (by kernel_rfl) dRat_size (by omega) (hu.ext (e4.trans x5_5)) (i := i) (by omega) .i64
      obtain ⟨e24, he24⟩ : ∃ e, e = m[i]'(by omega) := ⟨_, rfl⟩
      rw [← he24] at h24
      obtain ⟨x24_0, x24_1, rfl, f24_0, f24_1⟩ := dRat_inv h24
      refine o_indexAddr rfl rfl rfl (p24 _) (o_load rfl rfl (q24.ld Try.underlying41 rfl (by kernel_rfl)) ?_)
      obtain ⟨g9, w9, hr9, l9, x9, k9⟩ := r_allocB (P := Try.prog) (w := w5_5) (t := 41) (z := .agg #[B false, .slice none 0 0, .slice none 0 0]) (l := [B false, .slice none 0 0, .slice none 0 0]) (by kernel_rfl) rfl
      refine o_alloc rfl hr9 ?_
      obtain ⟨w6_5, s6_5, q6_5, k6_5⟩ := k9.stS (P := Try.prog) (t := 41) (m := [B e24.1, x24_0, x24_1]) rfl (by kernel_rfl) (Ones.cons rfl (Ones.cons f24_0.one (Ones.cons f24_1.one Ones.nil)))
      refine o_store rfl rfl s6_5 ?_
      have x6_5 := Ext.of_new (x9) q6_5 l9
      refine o_nil (n_then (c_seq (c_region (o_move rfl rfl (o_load rfl rfl ((k5_5.ext x6_5).ld Try.underlying41 rfl (by kernel_rfl)) (o_load rfl rfl (k6_5.ld Try.underlying41 rfl (by kernel_rfl)) ?_))))))
      refine o_callfn rfl call_MRat rfl rfl ((MRat_spec (f20_0.ext (x5_5.trans x6_5)) (f20_1.ext (x5_5.trans x6_5)) (f24_0.ext x6_5) (f24_1.ext x6_5))) ?_
      rintro v29 w29 ⟨x29, rfl⟩
      refine o_not rfl rfl r_not (o_nil (n_then ?_))
      refine c_cond rfl (fun h30 => ?_) (fun h30 => ?_)
      · have hne : l ≠ m := fun h => absurd (show e20 = e24 by subst h; rw [he20, he24]) (by simpa using h30)
        refine c_seq (c_region (o_assign rfl rfl (o_nil (n_then (c_ret (r_block (r_then (r_then (r_block (r_then (r_body1 rfl rfl ?_)))))))))))
        exact ⟨_, rfl, (((e4.trans x5_5).trans x6_5).trans x29), congrArg B (decide_eq_false hne).symm⟩
      · have he : l[i]'(by omega) = m[i]'(by omega) := by rw [← he20, ← he24]; simpa using h30
        refine c_skip (n_block (n_then (c_region (o_bin (r := I ((i + 1 : Nat) : Int)) rfl rfl rfl (by have e : ((i + 1 : Nat) : Int) = (i : Int) + 1 := (by omega); rw [e]; exact r_add_i (by omega) (by omega)) ?_))))
        refine o_move rfl rfl (o_nil ?_)
        refine n_round (i + 1) ⟨rfl, rfl, rfl, rfl, rfl, rfl, trivial⟩ ⟨(((e4.trans x5_5).trans x6_5).trans x29), by omega, by rw [List.take_succ_eq_append_getElem (by omega), List.take_succ_eq_append_getElem (by omega), ht, he]⟩ (by omega)
    · refine c_exit (x_then (x_then (x_here (n_then (c_seq (c_region (o_assign rfl rfl (o_nil (n_then (c_ret (r_body1 rfl rfl ?_)))))))))))
      exact ⟨_, rfl, e4, by
        rw [List.take_of_length_le (by omega), List.take_of_length_le (by omega)] at ht
        rw [decide_eq_true ht]; rfl⟩
theorem MRats_spec {w : World} {l m : List RatD} {v u : Value} (hv : DsV dRat l v w) (hu : DsV dRat m u w) :
    Calls Try.prog 26 #[v, u] w (Ret fun r w' => Ext w w' ∧ r = B (decide (l = m))) := by
  refine enter (vs := [v, u]) Try.func26 rfl rfl rfl ?_
  refine c_seq (c_region (o_assign rfl rfl (o_nil (n_then (c_seq (c_region (o_move rfl rfl (o_move rfl rfl (o_call call_EqFR rfl rfl (EqFR_spec hv hu) ?_)))))))))
  rintro v7 w7 ⟨x7, rfl⟩
  refine o_assign rfl rfl (o_nil (n_then (c_ret (r_body1 rfl rfl ?_))))
  exact ⟨_, rfl, x7, rfl⟩
theorem MSame_spec {w : World} {a b : LayD} {x y p q : Value} (ha : DsV dRat a.ws x w) (ha' : DsV dRat a.bs y w) (hb : DsV dRat b.ws p w) (hb' : DsV dRat b.bs q w) :
    Calls Try.prog 13 #[.agg #[I a.kd, I a.fr, I a.ou, I a.kh, I a.kw, I a.sr, I a.pd, x, y], .agg #[I b.kd, I b.fr, I b.ou, I b.kh, I b.kw, I b.sr, I b.pd, p, q]] w (Ret fun r w' => Ext w w' ∧ r = B (decide (a = b))) := by
  refine enter (vs := [.agg #[I a.kd, I a.fr, I a.ou, I a.kh, I a.kw, I a.sr, I a.pd, x, y], .agg #[I b.kd, I b.fr, I b.ou, I b.kh, I b.kw, I b.sr, I b.pd, p, q]]) Try.func13 rfl rfl rfl ?_
  refine c_seq (c_region ?_)
  obtain ⟨g2, w2, hr2, l2, x2, k2⟩ := r_boxS (P := Try.prog) (w := w) (T := 37) (cs := [I a.kd, I a.fr, I a.ou, I a.kh, I a.kw, I a.sr, I a.pd, x, y])
  refine o_box rfl rfl hr2 ?_
  obtain ⟨g3, w3, hr3, l3, x3, k3⟩ := r_boxS (P := Try.prog) (w := w2) (T := 37) (cs := [I b.kd, I b.fr, I b.ou, I b.kh, I b.kw, I b.sr, I b.pd, p, q])
  refine o_box rfl rfl hr3 (o_assign rfl rfl (o_nil (n_then (c_seq (c_region (o_fieldAddr rfl rfl (r_fAt (o := 0) Try.underlying37 rfl (by kernel_rfl) rfl) ?_))))))
  refine o_load rfl rfl (r_load1 Try.underlying3 rfl (x3.cell_some (k2.cell (i := 0) rfl))) (o_fieldAddr rfl rfl (r_fAt (o := 0) Try.underlying37 rfl (by kernel_rfl) rfl) ?_)
  refine o_load rfl rfl (r_load1 Try.underlying3 rfl (k3.cell (i := 0) rfl)) (o_bin rfl rfl rfl (r_eql_i) (o_move rfl rfl ?_))
  refine o_dec (fun h10 => ?_) (fun h10 => ?_)
  · refine g_yes rfl (o_fieldAddr rfl rfl (r_fAt (o := 1) Try.underlying37 rfl (by kernel_rfl) rfl) (g_yes rfl (o_load rfl rfl (r_load1 Try.underlying3 rfl (x3.cell_some (k2.cell (i := 1) rfl))) ?_)))
    refine g_yes rfl (o_fieldAddr rfl rfl (r_fAt (o := 1) Try.underlying37 rfl (by kernel_rfl) rfl) (g_yes rfl (o_load rfl rfl (r_load1 Try.underlying3 rfl (k3.cell (i := 1) rfl)) ?_)))
    refine g_yes rfl (o_bin rfl rfl rfl (r_eql_i) (o_pick_t rfl rfl rfl (o_move rfl rfl ?_)))
    refine o_dec (fun h17 => ?_) (fun h17 => ?_)
    · refine g_yes rfl (o_fieldAddr rfl rfl (r_fAt (o := 2) Try.underlying37 rfl (by kernel_rfl) rfl) (g_yes rfl (o_load rfl rfl (r_load1 Try.underlying3 rfl (x3.cell_some (k2.cell (i := 2) rfl))) ?_)))
      refine g_yes rfl (o_fieldAddr rfl rfl (r_fAt (o := 2) Try.underlying37 rfl (by kernel_rfl) rfl) (g_yes rfl (o_load rfl rfl (r_load1 Try.underlying3 rfl (k3.cell (i := 2) rfl)) ?_)))
      refine g_yes rfl (o_bin rfl rfl rfl (r_eql_i) (o_pick_t rfl rfl rfl (o_move rfl rfl ?_)))
      refine o_dec (fun h24 => ?_) (fun h24 => ?_)
      · refine g_yes rfl (o_fieldAddr rfl rfl (r_fAt (o := 3) Try.underlying37 rfl (by kernel_rfl) rfl) (g_yes rfl (o_load rfl rfl (r_load1 Try.underlying3 rfl (x3.cell_some (k2.cell (i := 3) rfl))) ?_)))
        refine g_yes rfl (o_fieldAddr rfl rfl (r_fAt (o := 3) Try.underlying37 rfl (by kernel_rfl) rfl) (g_yes rfl (o_load rfl rfl (r_load1 Try.underlying3 rfl (k3.cell (i := 3) rfl)) ?_)))
        refine g_yes rfl (o_bin rfl rfl rfl (r_eql_i) (o_pick_t rfl rfl rfl (o_move rfl rfl ?_)))
        refine o_dec (fun h31 => ?_) (fun h31 => ?_)
        · refine g_yes rfl (o_fieldAddr rfl rfl (r_fAt (o := 4) Try.underlying37 rfl (by kernel_rfl) rfl) (g_yes rfl (o_load rfl rfl (r_load1 Try.underlying3 rfl (x3.cell_some (k2.cell (i := 4) rfl))) ?_)))
          refine g_yes rfl (o_fieldAddr rfl rfl (r_fAt (o := 4) Try.underlying37 rfl (by kernel_rfl) rfl) (g_yes rfl (o_load rfl rfl (r_load1 Try.underlying3 rfl (k3.cell (i := 4) rfl)) ?_)))
          refine g_yes rfl (o_bin rfl rfl rfl (r_eql_i) (o_pick_t rfl rfl rfl (o_move rfl rfl ?_)))
          refine o_dec (fun h38 => ?_) (fun h38 => ?_)
          · refine g_yes rfl (o_fieldAddr rfl rfl (r_fAt (o := 5) Try.underlying37 rfl (by kernel_rfl) rfl) (g_yes rfl (o_load rfl rfl (r_load1 Try.underlying3 rfl (x3.cell_some (k2.cell (i := 5) rfl))) ?_)))
            refine g_yes rfl (o_fieldAddr rfl rfl (r_fAt (o := 5) Try.underlying37 rfl (by kernel_rfl) rfl) (g_yes rfl (o_load rfl rfl (r_load1 Try.underlying3 rfl (k3.cell (i := 5) rfl)) ?_)))
            refine g_yes rfl (o_bin rfl rfl rfl (r_eql_i) (o_pick_t rfl rfl rfl (o_move rfl rfl ?_)))
            refine o_dec (fun h45 => ?_) (fun h45 => ?_)
            · refine g_yes rfl (o_fieldAddr rfl rfl (r_fAt (o := 6) Try.underlying37 rfl (by kernel_rfl) rfl) (g_yes rfl (o_load rfl rfl (r_load1 Try.underlying3 rfl (x3.cell_some (k2.cell (i := 6) rfl))) ?_)))
              refine g_yes rfl (o_fieldAddr rfl rfl (r_fAt (o := 6) Try.underlying37 rfl (by kernel_rfl) rfl) (g_yes rfl (o_load rfl rfl (r_load1 Try.underlying3 rfl (k3.cell (i := 6) rfl)) ?_)))
              refine g_yes rfl (o_bin rfl rfl rfl (r_eql_i) (o_pick_t rfl rfl rfl (o_move rfl rfl ?_)))
              refine o_dec (fun h52 => ?_) (fun h52 => ?_)
              · refine g_yes rfl (o_fieldAddr rfl rfl (r_fAt (o := 7) Try.underlying37 rfl (by kernel_rfl) rfl) (g_yes rfl (o_load rfl rfl (r_load1 Try.underlying35 rfl (x3.cell_some (k2.cell (i := 7) rfl))) ?_)))
                refine g_yes rfl (o_fieldAddr rfl rfl (r_fAt (o := 7) Try.underlying37 rfl (by kernel_rfl) rfl) (g_yes rfl (o_load rfl rfl (r_load1 Try.underlying35 rfl (k3.cell (i := 7) rfl)) ?_)))
                refine g_yes rfl (o_call call_MRats rfl rfl (MRats_spec (ha.ext (x2.trans x3)) (hb.ext (x2.trans x3))) ?_)
                rintro v57 w57 ⟨x57, rfl⟩
                refine o_pick_t rfl rfl rfl (o_move rfl rfl ?_)
                refine o_dec (fun h59 => ?_) (fun h59 => ?_)
                · refine g_yes rfl (o_fieldAddr rfl rfl (r_fAt (o := 8) Try.underlying37 rfl (by kernel_rfl) rfl) (g_yes rfl (o_load rfl rfl (r_load1 Try.underlying35 rfl ((x3.trans x57).cell_some (k2.cell (i := 8) rfl))) ?_)))
                  refine g_yes rfl (o_fieldAddr rfl rfl (r_fAt (o := 8) Try.underlying37 rfl (by kernel_rfl) rfl) (g_yes rfl (o_load rfl rfl (r_load1 Try.underlying35 rfl (x57.cell_some (k3.cell (i := 8) rfl))) ?_)))
                  refine g_yes rfl (o_call call_MRats rfl rfl (MRats_spec (ha'.ext ((x2.trans x3).trans x57)) (hb'.ext ((x2.trans x3).trans x57))) ?_)
                  rintro v64 w64 ⟨x64, rfl⟩
                  refine o_pick_t rfl rfl rfl (o_assign rfl rfl (o_nil (n_then (c_ret (r_body1 rfl rfl ?_)))))
                  exact ⟨_, rfl, (((x2.trans x3).trans x57).trans x64), by
                    first
                    | exact congrArg B (decide_eq_decide.2 (by rw [LayD.eq_iff]; exact ⟨fun h => ⟨h10, h17, h24, h31, h38, h45, h52, h59, h⟩, fun h => h.2.2.2.2.2.2.2.2⟩))
                    | exact congrArg B (decide_eq_false fun h => by subst h; first | exact h59 rfl | exact h52 rfl | exact h45 rfl | exact h38 rfl | exact h31 rfl | exact h24 rfl | exact h17 rfl | exact h10 rfl).symm⟩
                · refine g_no rfl rfl rfl (g_no rfl rfl rfl (g_no rfl rfl rfl (g_no rfl rfl rfl (g_no rfl rfl rfl (o_pick_f rfl rfl rfl (o_assign rfl rfl (o_nil (n_then (c_ret (r_body1 rfl rfl ?_))))))))))
                  exact ⟨_, rfl, ((x2.trans x3).trans x57), by
                    first
                    | exact congrArg B (decide_eq_decide.2 (by rw [LayD.eq_iff]; exact ⟨fun h => ⟨h10, h17, h24, h31, h38, h45, h52, h59, h⟩, fun h => h.2.2.2.2.2.2.2.2⟩))
                    | exact congrArg B (decide_eq_false fun h => by subst h; first | exact h59 rfl | exact h52 rfl | exact h45 rfl | exact h38 rfl | exact h31 rfl | exact h24 rfl | exact h17 rfl | exact h10 rfl).symm⟩
              · refine g_no rfl rfl rfl (g_no rfl rfl rfl (g_no rfl rfl rfl (g_no rfl rfl rfl (g_no rfl rfl rfl (o_pick_f rfl rfl rfl (o_move rfl rfl (g_no rfl rfl rfl (g_no rfl rfl rfl (g_no rfl rfl rfl ?_)))))))))
                refine g_no rfl rfl rfl (g_no rfl rfl rfl (o_pick_f rfl rfl rfl (o_assign rfl rfl (o_nil (n_then (c_ret (r_body1 rfl rfl ?_)))))))
                exact ⟨_, rfl, (x2.trans x3), by
                  first
                  | exact congrArg B (decide_eq_decide.2 (by rw [LayD.eq_iff]; exact ⟨fun h => ⟨h10, h17, h24, h31, h38, h45, h52, h59, h⟩, fun h => h.2.2.2.2.2.2.2.2⟩))
                  | exact congrArg B (decide_eq_false fun h => by subst h; first | exact h59 rfl | exact h52 rfl | exact h45 rfl | exact h38 rfl | exact h31 rfl | exact h24 rfl | exact h17 rfl | exact h10 rfl).symm⟩
            · refine g_no rfl rfl rfl (g_no rfl rfl rfl (g_no rfl rfl rfl (g_no rfl rfl rfl (g_no rfl rfl rfl (o_pick_f rfl rfl rfl (o_move rfl rfl (g_no rfl rfl rfl (g_no rfl rfl rfl (g_no rfl rfl rfl ?_)))))))))
              refine g_no rfl rfl rfl (g_no rfl rfl rfl (o_pick_f rfl rfl rfl (o_move rfl rfl (g_no rfl rfl rfl (g_no rfl rfl rfl (g_no rfl rfl rfl (g_no rfl rfl rfl (g_no rfl rfl rfl (o_pick_f rfl rfl rfl ?_)))))))))
              refine o_assign rfl rfl (o_nil (n_then (c_ret (r_body1 rfl rfl ?_))))
              exact ⟨_, rfl, (x2.trans x3), by
                first
                | exact congrArg B (decide_eq_decide.2 (by rw [LayD.eq_iff]; exact ⟨fun h => ⟨h10, h17, h24, h31, h38, h45, h52, h59, h⟩, fun h => h.2.2.2.2.2.2.2.2⟩))
                | exact congrArg B (decide_eq_false fun h => by subst h; first | exact h59 rfl | exact h52 rfl | exact h45 rfl | exact h38 rfl | exact h31 rfl | exact h24 rfl | exact h17 rfl | exact h10 rfl).symm⟩
          · refine g_no rfl rfl rfl (g_no rfl rfl rfl (g_no rfl rfl rfl (g_no rfl rfl rfl (g_no rfl rfl rfl (o_pick_f rfl rfl rfl (o_move rfl rfl (g_no rfl rfl rfl (g_no rfl rfl rfl (g_no rfl rfl rfl ?_)))))))))
            refine g_no rfl rfl rfl (g_no rfl rfl rfl (o_pick_f rfl rfl rfl (o_move rfl rfl (g_no rfl rfl rfl (g_no rfl rfl rfl (g_no rfl rfl rfl (g_no rfl rfl rfl (g_no rfl rfl rfl (o_pick_f rfl rfl rfl ?_)))))))))
            refine o_move rfl rfl (g_no rfl rfl rfl (g_no rfl rfl rfl (g_no rfl rfl rfl (g_no rfl rfl rfl (g_no rfl rfl rfl (o_pick_f rfl rfl rfl (o_assign rfl rfl (o_nil (n_then (c_ret (r_body1 rfl rfl ?_)))))))))))
            exact ⟨_, rfl, (x2.trans x3), by
              first
              | exact congrArg B (decide_eq_decide.2 (by rw [LayD.eq_iff]; exact ⟨fun h => ⟨h10, h17, h24, h31, h38, h45, h52, h59, h⟩, fun h => h.2.2.2.2.2.2.2.2⟩))
              | exact congrArg B (decide_eq_false fun h => by subst h; first | exact h59 rfl | exact h52 rfl | exact h45 rfl | exact h38 rfl | exact h31 rfl | exact h24 rfl | exact h17 rfl | exact h10 rfl).symm⟩
        · refine g_no rfl rfl rfl (g_no rfl rfl rfl (g_no rfl rfl rfl (g_no rfl rfl rfl (g_no rfl rfl rfl (o_pick_f rfl rfl rfl (o_move rfl rfl (g_no rfl rfl rfl (g_no rfl rfl rfl (g_no rfl rfl rfl ?_)))))))))
          refine g_no rfl rfl rfl (g_no rfl rfl rfl (o_pick_f rfl rfl rfl (o_move rfl rfl (g_no rfl rfl rfl (g_no rfl rfl rfl (g_no rfl rfl rfl (g_no rfl rfl rfl (g_no rfl rfl rfl (o_pick_f rfl rfl rfl ?_)))))))))
          refine o_move rfl rfl (g_no rfl rfl rfl (g_no rfl rfl rfl (g_no rfl rfl rfl (g_no rfl rfl rfl (g_no rfl rfl rfl (o_pick_f rfl rfl rfl (o_move rfl rfl (g_no rfl rfl rfl (g_no rfl rfl rfl ?_)))))))))
          refine g_no rfl rfl rfl (g_no rfl rfl rfl (g_no rfl rfl rfl (o_pick_f rfl rfl rfl (o_assign rfl rfl (o_nil (n_then (c_ret (r_body1 rfl rfl ?_))))))))
          exact ⟨_, rfl, (x2.trans x3), by
            first
            | exact congrArg B (decide_eq_decide.2 (by rw [LayD.eq_iff]; exact ⟨fun h => ⟨h10, h17, h24, h31, h38, h45, h52, h59, h⟩, fun h => h.2.2.2.2.2.2.2.2⟩))
            | exact congrArg B (decide_eq_false fun h => by subst h; first | exact h59 rfl | exact h52 rfl | exact h45 rfl | exact h38 rfl | exact h31 rfl | exact h24 rfl | exact h17 rfl | exact h10 rfl).symm⟩
      · refine g_no rfl rfl rfl (g_no rfl rfl rfl (g_no rfl rfl rfl (g_no rfl rfl rfl (g_no rfl rfl rfl (o_pick_f rfl rfl rfl (o_move rfl rfl (g_no rfl rfl rfl (g_no rfl rfl rfl (g_no rfl rfl rfl ?_)))))))))
        refine g_no rfl rfl rfl (g_no rfl rfl rfl (o_pick_f rfl rfl rfl (o_move rfl rfl (g_no rfl rfl rfl (g_no rfl rfl rfl (g_no rfl rfl rfl (g_no rfl rfl rfl (g_no rfl rfl rfl (o_pick_f rfl rfl rfl ?_)))))))))
        refine o_move rfl rfl (g_no rfl rfl rfl (g_no rfl rfl rfl (g_no rfl rfl rfl (g_no rfl rfl rfl (g_no rfl rfl rfl (o_pick_f rfl rfl rfl (o_move rfl rfl (g_no rfl rfl rfl (g_no rfl rfl rfl ?_)))))))))
        refine g_no rfl rfl rfl (g_no rfl rfl rfl (g_no rfl rfl rfl (o_pick_f rfl rfl rfl (o_move rfl rfl (g_no rfl rfl rfl (g_no rfl rfl rfl (g_no rfl rfl rfl (g_no rfl rfl rfl (g_no rfl rfl rfl ?_)))))))))
        refine o_pick_f rfl rfl rfl (o_assign rfl rfl (o_nil (n_then (c_ret (r_body1 rfl rfl ?_)))))
        exact ⟨_, rfl, (x2.trans x3), by
          first
          | exact congrArg B (decide_eq_decide.2 (by rw [LayD.eq_iff]; exact ⟨fun h => ⟨h10, h17, h24, h31, h38, h45, h52, h59, h⟩, fun h => h.2.2.2.2.2.2.2.2⟩))
          | exact congrArg B (decide_eq_false fun h => by subst h; first | exact h59 rfl | exact h52 rfl | exact h45 rfl | exact h38 rfl | exact h31 rfl | exact h24 rfl | exact h17 rfl | exact h10 rfl).symm⟩
    · refine g_no rfl rfl rfl (g_no rfl rfl rfl (g_no rfl rfl rfl (g_no rfl rfl rfl (g_no rfl rfl rfl (o_pick_f rfl rfl rfl (o_move rfl rfl (g_no rfl rfl rfl (g_no rfl rfl rfl (g_no rfl rfl rfl ?_)))))))))
      refine g_no rfl rfl rfl (g_no rfl rfl rfl (o_pick_f rfl rfl rfl (o_move rfl rfl (g_no rfl rfl rfl (g_no rfl rfl rfl (g_no rfl rfl rfl (g_no rfl rfl rfl (g_no rfl rfl rfl (o_pick_f rfl rfl rfl ?_)))))))))
      refine o_move rfl rfl (g_no rfl rfl rfl (g_no rfl rfl rfl (g_no rfl rfl rfl (g_no rfl rfl rfl (g_no rfl rfl rfl (o_pick_f rfl rfl rfl (o_move rfl rfl (g_no rfl rfl rfl (g_no rfl rfl rfl ?_)))))))))
      refine g_no rfl rfl rfl (g_no rfl rfl rfl (g_no rfl rfl rfl (o_pick_f rfl rfl rfl (o_move rfl rfl (g_no rfl rfl rfl (g_no rfl rfl rfl (g_no rfl rfl rfl (g_no rfl rfl rfl (g_no rfl rfl rfl ?_)))))))))
      refine o_pick_f rfl rfl rfl (o_move rfl rfl (g_no rfl rfl rfl (g_no rfl rfl rfl (g_no rfl rfl rfl (g_no rfl rfl rfl (g_no rfl rfl rfl (o_pick_f rfl rfl rfl (o_assign rfl rfl (o_nil ?_)))))))))
      refine n_then (c_ret (r_body1 rfl rfl ?_))
      exact ⟨_, rfl, (x2.trans x3), by
        first
        | exact congrArg B (decide_eq_decide.2 (by rw [LayD.eq_iff]; exact ⟨fun h => ⟨h10, h17, h24, h31, h38, h45, h52, h59, h⟩, fun h => h.2.2.2.2.2.2.2.2⟩))
        | exact congrArg B (decide_eq_false fun h => by subst h; first | exact h59 rfl | exact h52 rfl | exact h45 rfl | exact h38 rfl | exact h31 rfl | exact h24 rfl | exact h17 rfl | exact h10 rfl).symm⟩
  · refine g_no rfl rfl rfl (g_no rfl rfl rfl (g_no rfl rfl rfl (g_no rfl rfl rfl (g_no rfl rfl rfl (o_pick_f rfl rfl rfl (o_move rfl rfl (g_no rfl rfl rfl (g_no rfl rfl rfl (g_no rfl rfl rfl ?_)))))))))
    refine g_no rfl rfl rfl (g_no rfl rfl rfl (o_pick_f rfl rfl rfl (o_move rfl rfl (g_no rfl rfl rfl (g_no rfl rfl rfl (g_no rfl rfl rfl (g_no rfl rfl rfl (g_no rfl rfl rfl (o_pick_f rfl rfl rfl ?_)))))))))
    refine o_move rfl rfl (g_no rfl rfl rfl (g_no rfl rfl rfl (g_no rfl rfl rfl (g_no rfl rfl rfl (g_no rfl rfl rfl (o_pick_f rfl rfl rfl (o_move rfl rfl (g_no rfl rfl rfl (g_no rfl rfl rfl ?_)))))))))
    refine g_no rfl rfl rfl (g_no rfl rfl rfl (g_no rfl rfl rfl (o_pick_f rfl rfl rfl (o_move rfl rfl (g_no rfl rfl rfl (g_no rfl rfl rfl (g_no rfl rfl rfl (g_no rfl rfl rfl (g_no rfl rfl rfl ?_)))))))))
    refine o_pick_f rfl rfl rfl (o_move rfl rfl (g_no rfl rfl rfl (g_no rfl rfl rfl (g_no rfl rfl rfl (g_no rfl rfl rfl (g_no rfl rfl rfl (o_pick_f rfl rfl rfl (o_move rfl rfl (g_no rfl rfl rfl ?_)))))))))
    refine g_no rfl rfl rfl (g_no rfl rfl rfl (g_no rfl rfl rfl (g_no rfl rfl rfl (o_pick_f rfl rfl rfl (o_assign rfl rfl (o_nil (n_then (c_ret (r_body1 rfl rfl ?_)))))))))
    exact ⟨_, rfl, (x2.trans x3), by
      first
      | exact congrArg B (decide_eq_decide.2 (by rw [LayD.eq_iff]; exact ⟨fun h => ⟨h10, h17, h24, h31, h38, h45, h52, h59, h⟩, fun h => h.2.2.2.2.2.2.2.2⟩))
      | exact congrArg B (decide_eq_false fun h => by subst h; first | exact h59 rfl | exact h52 rfl | exact h45 rfl | exact h38 rfl | exact h31 rfl | exact h24 rfl | exact h17 rfl | exact h10 rfl).symm⟩
theorem EqFL_spec {w : World} {l m : List LayD} {v u : Value} (hv : DsV dLay l v w) (hu : DsV dLay m u w) :
    Calls Try.prog 12 #[v, u, .func (.func 13) #[] #[]] w (Ret fun r w' => Ext w w' ∧ r = B (decide (l = m))) := by
  refine enter (vs := [v, u, .func (.func 13) #[] #[]]) Try.func12 rfl rfl rfl ?_
  have hll := hv.len
  refine c_seq (c_region (o_assign rfl rfl (o_nil (n_then (c_seq (c_seq (c_region (o_move rfl rfl (o_len rfl rfl (r_lenDs Try.underlying23 hv) (o_move rfl rfl (o_len rfl rfl (r_lenDs Try.underlying23 hu) ?_)))))))))))
  refine o_bin rfl rfl rfl (r_neq_i) (o_nil (n_then ?_))
  refine c_if rfl (fun h14 => ?_) (fun h14 => ?_)
  · have hne : l ≠ m := fun h => h14 (by rw [h])
    refine c_seq (c_region (o_assign rfl rfl (o_nil (n_then (c_ret (r_then (r_body1 rfl rfl ?_)))))))
    exact ⟨_, rfl, Ext.refl _, congrArg B (decide_eq_false hne).symm⟩
  · have hlen : l.length = m.length := by omega
    refine c_skip (n_then (c_seq (c_seq (c_region (o_move rfl rfl (o_len rfl rfl (r_lenDs Try.underlying23 hv) (o_move rfl rfl (o_nil (n_then (c_block ?_))))))))))
    refine c_loop (α := Nat) (fun x => [(0, v), (1, u), (2, .func (.func 13) #[] #[]), (15, v), (16, I (l.length : Int)), (17, I (x : Int))]) (fun x w' => Ext w w' ∧ x ≤ l.length ∧ l.take x = m.take x) (fun x => l.length - x) (0) ⟨rfl, rfl, rfl, rfl, rfl, rfl, trivial⟩ ⟨Ext.refl _, by omega, rfl⟩ ?_
    rintro i w4 ⟨e4, hi, ht⟩
    refine c_seq (c_region (o_bin rfl rfl rfl (r_lss_i) (o_nil (n_then (c_seq ?_)))))
    refine c_if rfl (fun h18 => ?_) (fun h18 => ?_)
    · refine c_skip (n_then (c_seq (c_block (c_seq (c_region (o_move rfl rfl ?_))))))
      obtain ⟨a20, c20, p20, q20, h20⟩ := r_ixDs (P := Try.prog) (sz := 9) Try.underlying23 (by kernel_rfl) dLay_size (by omega) (hv.ext e4) (i := i) (by omega) .i64
      obtain ⟨e20, he20⟩ : ∃ e, e = l[i]'(by omega) := ⟨_, rfl⟩
      rw [← he20] at h20
      obtain ⟨x20_0, x20_1, rfl, f20_0, f20_1⟩ := dLay_inv h20
      refine o_indexAddr rfl rfl rfl (p20 _) (o_load rfl rfl (q20.ld Try.underlying37 rfl (by kernel_rfl)) ?_)
      obtain ⟨g8, w8, hr8, l8, x8, k8⟩ := r_allocB (P := Try.prog) (w := w4) (t := 37) (z := .agg #[I 0, I 0, I 0, I 0, I 0, I 0, I 0, .slice none 0 0, .slice none 0 0]) (l := [I 0, I 0, I 0, I 0, I 0, I 0, I 0, .slice none 0 0, .slice none 0 0]) (by kernel_rfl) rfl
      refine o_alloc rfl hr8 (o_assign rfl rfl ?_)
      obtain ⟨w5_5, s5_5, q5_5, k5_5⟩ := k8.stS (P := Try.prog) (t := 37) (m := [I e20.kd, I e20.fr, I e20.ou, I e20.kh, I e20.kw, I e20.sr, I e20.pd, x20_0, x20_1]) rfl (by kernel_rfl) (Ones.cons rfl (Ones.cons rfl (Ones.cons rfl (Ones.cons rfl (Ones.cons rfl (Ones.cons rfl (Ones.cons rfl (Ones.cons f20_0.one (Ones.cons f20_1.one Ones.nil)))))))))
      refine o_store rfl rfl s5_5 ?_
      have x5_5 := Ext.of_new (x8) q5_5 l8
      refine o_nil (n_then (c_seq (c_region (o_move rfl rfl (o_move rfl rfl ?_)))))
      obtain ⟨a24, c24, p24, q24, h24⟩ := r_ixDs (P := Try.prog) (sz := 9) Try.underlying23 (by kernel_rfl) dLay_size (by omega) (hu.ext (e4.trans x5_5)) (i := i) (by omega) .i64
      obtain ⟨e24, he24⟩ : ∃ e, e = m[i]'(by omega) := ⟨_, rfl⟩
      rw [← he24] at h24
      obtain ⟨x24_0, x24_1, rfl, f24_0, f24_1⟩ := dLay_inv h24
      refine o_indexAddr rfl rfl rfl (p24 _) (o_load rfl rfl (q24.ld Try.underlying37 rfl (by kernel_rfl)) ?_)
      obtain ⟨g9, w9, hr9, l9, x9, k9⟩ := r_allocB (P := Try.prog) (w := w5_5) (t := 37) (z := .agg #[I 0, I 0, I 0, I 0, I 0, I 0, I 0, .slice none 0 0, .slice none 0 0]) (l := [I 0, I 0, I 0, I 0, I 0, I 0, I 0, .slice none 0 0, .slice none 0 0]) (by kernel_rfl) rfl
      refine o_alloc rfl hr9 ?_
      obtain ⟨w6_5, s6_5, q6_5, k6_5⟩ := k9.stS (P := Try.prog) (t := 37) (m := [I e24.kd, I e24.fr, I e24.ou, I e24.kh, I e24.kw, I e24.sr, I e24.pd, x24_0, x24_1]) rfl (by kernel_rfl) (Ones.cons rfl (Ones.cons rfl (Ones.cons rfl (Ones.cons rfl (Ones.cons rfl (Ones.cons rfl (Ones.cons rfl (Ones.cons f24_0.one (Ones.cons f24_1.one Ones.nil)))))))))
      refine o_store rfl rfl s6_5 ?_
      have x6_5 := Ext.of_new (x9) q6_5 l9
      refine o_nil (n_then (c_seq (c_region (o_move rfl rfl (o_load rfl rfl ((k5_5.ext x6_5).ld Try.underlying37 rfl (by kernel_rfl)) (o_load rfl rfl (k6_5.ld Try.underlying37 rfl (by kernel_rfl)) ?_))))))
      refine o_callfn rfl call_MSame rfl rfl ((MSame_spec (f20_0.ext (x5_5.trans x6_5)) (f20_1.ext (x5_5.trans x6_5)) (f24_0.ext x6_5) (f24_1.ext x6_5))) ?_
      rintro v29 w29 ⟨x29, rfl⟩
      refine o_not rfl rfl r_not (o_nil (n_then ?_))
      refine c_cond rfl (fun h30 => ?_) (fun h30 => ?_)
      · have hne : l ≠ m := fun h => absurd (show e20 = e24 by subst h; rw [he20, he24]) (by simpa using h30)
        refine c_seq (c_region (o_assign rfl rfl (o_nil (n_then (c_ret (r_block (r_then (r_then (r_block (r_then (r_body1 rfl rfl ?_)))))))))))
        exact ⟨_, rfl, (((e4.trans x5_5).trans x6_5).trans x29), congrArg B (decide_eq_false hne).symm⟩
      · have he : l[i]'(by omega) = m[i]'(by omega) := by rw [← he20, ← he24]; simpa using h30
        refine c_skip (n_block (n_then (c_region (o_bin (r := I ((i + 1 : Nat) : Int)) rfl rfl rfl (by have e : ((i + 1 : Nat) : Int) = (i : Int) + 1 := (by omega); rw [e]; exact r_add_i (by omega) (by omega)) ?_))))
        refine o_move rfl rfl (o_nil ?_)
        refine n_round (i + 1) ⟨rfl, rfl, rfl, rfl, rfl, rfl, trivial⟩ ⟨(((e4.trans x5_5).trans x6_5).trans x29), by omega, by rw [List.take_succ_eq_append_getElem (by omega), List.take_succ_eq_append_getElem (by omega), ht, he]⟩ (by omega)
    · refine c_exit (x_then (x_then (x_here (n_then (c_seq (c_region (o_assign rfl rfl (o_nil (n_then (c_ret (r_body1 rfl rfl ?_)))))))))))
      exact ⟨_, rfl, e4, by
        rw [List.take_of_length_le (by omega), List.take_of_length_le (by omega)] at ht
        rw [decide_eq_true ht]; rfl⟩
theorem MEqual_spec {w : World} {a b : ModD} {x y p q : Value} (ha : DsV dIn a.inp x w) (ha' : DsV dLay a.lays y w) (hb : DsV dIn b.inp p w) (hb' : DsV dLay b.lays q w) :
    Calls Try.prog 6 #[.agg #[x, y], .agg #[p, q]] w (Ret fun r w' => Ext w w' ∧ r = B (decide (a = b))) := by
  refine enter (vs := [.agg #[x, y], .agg #[p, q]]) Try.func6 rfl rfl rfl ?_
  refine c_seq (c_region ?_)
  obtain ⟨g2, w2, hr2, l2, x2, k2⟩ := r_boxS (P := Try.prog) (w := w) (T := 25) (cs := [x, y])
  refine o_box rfl rfl hr2 ?_
  obtain ⟨g3, w3, hr3, l3, x3, k3⟩ := r_boxS (P := Try.prog) (w := w2) (T := 25) (cs := [p, q])
  refine o_box rfl rfl hr3 (o_assign rfl rfl (o_nil (n_then (c_seq (c_region (o_fieldAddr rfl rfl (r_fAt (o := 0) Try.underlying25 rfl (by kernel_rfl) rfl) ?_))))))
  refine o_load rfl rfl (r_load1 Try.underlying22 rfl (x3.cell_some (k2.cell (i := 0) rfl))) (o_fieldAddr rfl rfl (r_fAt (o := 0) Try.underlying25 rfl (by kernel_rfl) rfl) ?_)
  refine o_load rfl rfl (r_load1 Try.underlying22 rfl (k3.cell (i := 0) rfl)) (o_call call_EqI rfl rfl (EqI_spec (ha.ext (x2.trans x3)) (hb.ext (x2.trans x3))) ?_)
  rintro v9 w9 ⟨x9, rfl⟩
  refine o_move rfl rfl ?_
  refine o_dec (fun h10 => ?_) (fun h10 => ?_)
  · refine g_yes rfl (o_fieldAddr rfl rfl (r_fAt (o := 1) Try.underlying25 rfl (by kernel_rfl) rfl) (g_yes rfl (o_load rfl rfl (r_load1 Try.underlying23 rfl ((x3.trans x9).cell_some (k2.cell (i := 1) rfl))) ?_)))
    refine g_yes rfl (o_fieldAddr rfl rfl (r_fAt (o := 1) Try.underlying25 rfl (by kernel_rfl) rfl) (g_yes rfl (o_load rfl rfl (r_load1 Try.underlying23 rfl (x9.cell_some (k3.cell (i := 1) rfl))) ?_)))
    refine g_yes rfl (o_call call_EqFL rfl rfl (EqFL_spec (ha'.ext ((x2.trans x3).trans x9)) (hb'.ext ((x2.trans x3).trans x9))) ?_)
    rintro v15 w15 ⟨x15, rfl⟩
    refine o_pick_t rfl rfl rfl (o_assign rfl rfl (o_nil (n_then (c_ret (r_body1 rfl rfl ?_)))))
    exact ⟨_, rfl, (((x2.trans x3).trans x9).trans x15), by
      first
      | exact congrArg B (decide_eq_decide.2 (by rw [ModD.eq_iff]; exact ⟨fun h => ⟨h10, h⟩, fun h => h.2⟩))
      | exact congrArg B (decide_eq_false fun h => by subst h; exact h10 rfl).symm⟩
  · refine g_no rfl rfl rfl (g_no rfl rfl rfl (g_no rfl rfl rfl (g_no rfl rfl rfl (g_no rfl rfl rfl (o_pick_f rfl rfl rfl (o_assign rfl rfl (o_nil (n_then (c_ret (r_body1 rfl rfl ?_))))))))))
    exact ⟨_, rfl, ((x2.trans x3).trans x9), by
      first
      | exact congrArg B (decide_eq_decide.2 (by rw [ModD.eq_iff]; exact ⟨fun h => ⟨h10, h⟩, fun h => h.2⟩))
      | exact congrArg B (decide_eq_false fun h => by subst h; exact h10 rfl).symm⟩
end Go.Rl
/- A map's new entry; maps whose keys are integers. Conditions: the key is not there yet. -/
namespace Go.Rl
open Go.RowKit Go.Proofs
open Go.Maps (Keyed)
section ops
variable {P : Program} {ops : Array Oper} {Q : Post} {N : Nat} {D : List Deferred} {l : Fr} {w w' : World} {rest : List Oper} {d : Nat} {ty : TypeId} {pos : String} {aft : Array Edge}
theorem o_insert {t : TypeId} {x y z : Operand} {u v r : Value} (hx : ev l x = some u) (hy : ev l y = some v) (hz : ev l z = some r) (hrun : (Instr.mapUpdate t u v r).run P w = .ok () w') (k : OpsJ P ops Q N D l w' rest) : OpsJ P ops Q N D l w (⟨none, .insert t x y z, ty, pos, aft, none⟩ :: rest) :=
  o_act (fun ρ hρ => by
    have : execOp ρ ⟨none, .insert t x y z, ty, pos, aft, none⟩ = (do Instr.mapUpdate t (ρ x) (ρ y) (ρ z); pure Next.skip : Sem Next) := rfl
    rw [this, hρ x _ hx, hρ y _ hy, hρ z _ hz, Sem.run_bind, hrun]; rfl) k
end ops
section
variable {P : Program} {w : World} {t k e : TypeId} {m : Nat} {es : List MapEntry} {clock : Nat} {x : Value}
theorem r_insertNew (K : Keyed P k) (ht : P.underlying t = some (.map k e)) (hm : w.heap[m]? = some (.map es.toArray clock)) (hk : KeysOk P k es) {lx : Lit} (hx : keyOf P k x = some lx) (hno : ∀ e ∈ es, e.key ≠ x) (v : Value) :
    ∃ w', (Instr.mapUpdate t (.map (some m)) x v).run P w = .ok () w' ∧ w.grownBy w' (some m) ∧ w'.heap[m]? = some (.map (es ++ [({ key := x, val := v, born := clock } : MapEntry)]).toArray (clock + 1)) := by
  rcases K.find w hx es hk with ⟨h1, h2⟩ | ⟨j, e0, h1, h2, h3⟩
  · refine ⟨_, ?_, grownBy_putObj' w m (.map (es ++ [({ key := x, val := v, born := clock } : MapEntry)]).toArray (clock + 1)), putObj_at hm⟩
    have hs := run_setObj_map (P := P) (o' := .map (es ++ [({ key := x, val := v, born := clock } : MapEntry)]).toArray (clock + 1)) hm
    simp [Instr.mapUpdate, run_underlying ht, MapKept.run_getObj_map hm, K.check w false hx, h1, Result.andThen] at hs ⊢
    simp [hs]
  · exact absurd h3 (hno e0 (List.mem_of_getElem? h2))
end
theorem keyedI : Keyed Try.prog 3 := Go.Maps.int_keyed Try.underlying3
theorem keyOfI {n : Int} (h1 : -9223372036854775808 ≤ n) (h2 : n ≤ 9223372036854775807) : keyOf Try.prog 3 (I n) = some (.int .i64 n) := Go.Maps.keyOf_int_mk Try.underlying3 (by
  have : -9223372036854775808 ≤ n ∧ n ≤ 9223372036854775807 := ⟨h1, h2⟩
  simpa [Lit.wf, IntKind.min, IntKind.max, IntKind.signed, IntKind.bits] using this)
/-- Entries with the keys 1, 2, .., in this order. -/
def entsI : Nat → List Value → List MapEntry
  | _, [] => []
  | i, v :: l => ({ key := I ((i + 1 : Nat) : Int), val := v, born := i } : MapEntry) :: entsI (i + 1) l
theorem entsI_snoc : ∀ (i : Nat) (l : List Value) (v : Value), entsI i (l ++ [v]) = entsI i l ++ [({ key := I ((i + l.length + 1 : Nat) : Int), val := v, born := i + l.length } : MapEntry)]
  | i, [], v => by simp [entsI]
  | i, u :: l, v => by
    simp only [List.cons_append, entsI, entsI_snoc (i + 1) l v, List.length_cons]
    have e1 : i + 1 + l.length + 1 = i + (l.length + 1) + 1 := by omega
    have e2 : i + 1 + l.length = i + (l.length + 1) := by omega
    rw [e1, e2]
theorem entsI_key : ∀ (i : Nat) (l : List Value) (e : MapEntry), e ∈ entsI i l → ∃ j v, l[j]? = some v ∧ e.key = I ((i + j + 1 : Nat) : Int) ∧ e.val = v
  | i, [], e, h => by simp [entsI] at h
  | i, v :: l, e, h => by
    rcases List.mem_cons.1 h with rfl | h
    · exact ⟨0, v, rfl, rfl, rfl⟩
    · obtain ⟨j, u, h1, h2, h3⟩ := entsI_key (i + 1) l e h
      exact ⟨j + 1, u, h1, by rw [h2, show i + 1 + j + 1 = i + (j + 1) + 1 by omega], h3⟩
theorem I_inj {a b : Int} (h : I a = I b) : a = b := by
  unfold I at h
  injection h
theorem entsI_get : ∀ (i : Nat) (l : List Value) (j : Nat) (v : Value), l[j]? = some v → ∃ e ∈ entsI i l, e.key = I ((i + j + 1 : Nat) : Int)
  | i, [], j, v, h => by simp at h
  | i, u :: l, 0, v, h => ⟨_, List.mem_cons_self .., rfl⟩
  | i, u :: l, j + 1, v, h => by
    obtain ⟨e, h1, h2⟩ := entsI_get (i + 1) l j v (by simpa using h)
    exact ⟨e, List.mem_cons_of_mem _ h1, by rw [h2, show i + 1 + j + 1 = i + (j + 1) + 1 by omega]⟩
section
variable {w : World} {m : Nat} {l : List Value} {t e : TypeId}
theorem entsI_keys (hl : l.length ≤ 1000) : KeysOk Try.prog 3 (entsI 0 l) := fun x hx => by
  obtain ⟨j, v, h1, h2, _⟩ := entsI_key 0 l x hx
  have := (List.getElem?_eq_some_iff.1 h1).1
  exact ⟨_, by rw [h2]; exact keyOfI (by omega) (by omega)⟩
theorem r_insI (ht : Try.prog.underlying t = some (.map 3 e)) (hl : l.length ≤ 1000) (hm : w.heap[m]? = some (.map (entsI 0 l).toArray l.length)) (n : Int) (hn : n = ((l.length + 1 : Nat) : Int)) (v : Value) :
    ∃ w', (Instr.mapUpdate t (.map (some m)) (I n) v).run Try.prog w = .ok () w' ∧ w.grownBy w' (some m) ∧ w'.heap[m]? = some (.map (entsI 0 (l ++ [v])).toArray (l ++ [v]).length) := by
  subst hn
  obtain ⟨w', h1, h2, h3⟩ := r_insertNew keyedI ht hm (entsI_keys hl) (keyOfI (n := ((l.length + 1 : Nat) : Int)) (by omega) (by omega)) (fun x hx h => by
    obtain ⟨j, u, h1, h2, _⟩ := entsI_key 0 l x hx
    have := (List.getElem?_eq_some_iff.1 h1).1
    have := I_inj (h2.symm.trans h)
    omega) v
  refine ⟨w', h1, h2, ?_⟩
  rw [h3, entsI_snoc]
  simp
theorem r_lookI (ht : Try.prog.underlying t = some (.map 3 e)) {z : Value} (hz : (Try.prog.info? e).map (·.zero) = some (some z)) (hl : l.length ≤ 1000) {c : Nat} (hm : w.heap[m]? = some (.map (entsI 0 l).toArray c)) {n : Int} (h1 : -9223372036854775808 ≤ n) (h2 : n ≤ 9223372036854775807) :
    ((Instr.lookup t (.map (some m)) (I n) true).run Try.prog w = .ok (.tuple #[z, B false]) w ∧ ¬ (1 ≤ n ∧ n ≤ (l.length : Int))) ∨
    ∃ (j : Nat) (v : Value), (Instr.lookup t (.map (some m)) (I n) true).run Try.prog w = .ok (.tuple #[v, B true]) w ∧ l[j]? = some v ∧ n = ((j + 1 : Nat) : Int) := by
  rcases r_lookup (P := Try.prog) keyedI ht hz hm (entsI_keys hl) (keyOfI h1 h2) with ⟨_, h3, h4⟩ | ⟨j, x, _, h3, h4, h5⟩
  · refine .inl ⟨h3, fun hn => ?_⟩
    obtain ⟨x, h5, h6⟩ := entsI_get 0 l (n - 1).toNat (l[(n - 1).toNat]'(by omega)) (List.getElem?_eq_getElem (by omega))
    refine h4 x h5 (h6.trans ?_)
    have e : ((0 + (n - 1).toNat + 1 : Nat) : Int) = n := by omega
    rw [e]
  · obtain ⟨i, v, h6, h7, h8⟩ := entsI_key 0 l x (List.mem_of_getElem? h4)
    refine .inr ⟨i, v, by rw [← h8]; exact h3, h6, ?_⟩
    have := I_inj (h5.symm.trans h7)
    omega
end
theorem Blk.k0 {w : World} {g : Nat} {T : TypeId} {v : Value} {l : List Value} (h : Blk g T (v :: l) w) : w.cell? ⟨g, 0, none⟩ = some v := h.cell (i := 0) rfl
end Go.Rl

/- Equality of models walked, both sides: relucertref11.Ints, relucertref12.limbs, Rat, Rats, SameLayer, Equal. No condition. -/
import Derived.Test.YtaehfoogjjglcaaGreatAm3
import Derived.Lib.SlBytesConst
import Derived.ArgAppend
namespace Go.Rl
open Go.RowKit Go.Proofs
theorem call_TInts : Callable Tryz.prog 32 := ⟨_, Tryz.func32, by kernel_rfl, rfl⟩
theorem call_TLimbs : Callable Tryz.prog 103 := ⟨_, Tryz.func103, by kernel_rfl, rfl⟩
theorem call_TRat : Callable Tryz.prog 85 := ⟨_, Tryz.func85, by kernel_rfl, rfl⟩
theorem call_TRats : Callable Tryz.prog 59 := ⟨_, Tryz.func59, by kernel_rfl, rfl⟩
theorem call_TSameL : Callable Tryz.prog 33 := ⟨_, Tryz.func33, by kernel_rfl, rfl⟩
theorem call_TEqual : Callable Tryz.prog 14 := ⟨_, Tryz.func14, by kernel_rfl, rfl⟩
theorem TInts_spec {w : World} {l m : List Int} {v u : Value} (hv : DsV dIn l v w) (hu : DsV dIn m u w) :
    Calls Tryz.prog 32 #[v, u] w (Ret fun r w' => Ext w w' ∧ r = B (decide (l = m))) := by
  refine enter (vs := [v, u]) Tryz.func32 rfl rfl rfl ?_
  have hll := hv.len
  refine c_seq (c_region (o_assign rfl rfl (o_nil (n_then (c_seq (c_seq (c_region (o_move rfl rfl (o_len rfl rfl (r_lenDs Tryz.underlying22 hv) (o_move rfl rfl (o_len rfl rfl (r_lenDs Tryz.underlying22 hu) ?_)))))))))))
  refine o_bin rfl rfl rfl (r_neq_i) (o_nil (n_then ?_))
  refine c_if rfl (fun h10 => ?_) (fun h10 => ?_)
  · have hne : l ≠ m := fun h => h10 (by rw [h])
    refine c_seq (c_region (o_assign rfl rfl (o_nil (n_then (c_ret (r_then (r_body1 rfl rfl ?_)))))))
    exact ⟨_, rfl, Ext.refl _, congrArg B (decide_eq_false hne).symm⟩
  · have hlen : l.length = m.length := by omega
    refine c_skip (n_then (c_seq (c_seq (c_region (o_assign rfl rfl (o_nil (n_then (c_block ?_))))))))
    refine c_loop (α := Nat) (fun x => [(0, v), (1, u), (5, I (x : Int))]) (fun x w' => Ext w w' ∧ x ≤ l.length ∧ l.take x = m.take x) (fun x => l.length - x) (0) ⟨rfl, rfl, rfl, trivial⟩ ⟨Ext.refl _, by omega, rfl⟩ ?_
    rintro i w4 ⟨e4, hi, ht⟩
    refine c_seq (c_seq (c_region (o_move rfl rfl (o_move rfl rfl (o_len rfl rfl (r_lenDs Tryz.underlying22 (hv.ext e4)) (o_bin rfl rfl rfl (r_lss_i) (o_nil (n_then ?_))))))))
    refine c_if rfl (fun h14 => ?_) (fun h14 => ?_)
    · refine c_skip (n_then (c_seq (c_block (c_seq (c_grow 8 [0, 1, 5, 20, 24] (by kernel_rfl) (by kernel_rfl) ?_)))))
      refine f_move rfl rfl (f_move rfl rfl ?_)
      obtain ⟨a19, c19, p19, q19, h19⟩ := r_ixDs (P := Tryz.prog) (sz := 1) Tryz.underlying22 (by kernel_rfl) dIn_size (by omega) (hv.ext e4) (i := i) (by omega) .i64
      obtain ⟨e19, he19⟩ : ∃ e, e = l[i]'(by omega) := ⟨_, rfl⟩
      rw [← he19] at h19
      obtain rfl := dIn_inv h19
      refine f_indexAddr rfl rfl rfl (fun w _ => p19 w) (f_load rfl rfl (fun w hw => r_load1 Tryz.underlying3 rfl (hw.cell_some q19.cell0)) (f_move rfl rfl (f_move rfl rfl ?_)))
      obtain ⟨a23, c23, p23, q23, h23⟩ := r_ixDs (P := Tryz.prog) (sz := 1) Tryz.underlying22 (by kernel_rfl) dIn_size (by omega) (hu.ext e4) (i := i) (by omega) .i64
      obtain ⟨e23, he23⟩ : ∃ e, e = m[i]'(by omega) := ⟨_, rfl⟩
      rw [← he23] at h23
      obtain rfl := dIn_inv h23
      refine f_indexAddr rfl rfl rfl (fun w _ => p23 w) (f_load rfl rfl (fun w hw => r_load1 Tryz.underlying3 rfl (hw.cell_some q23.cell0)) (f_nil ?_))
      intro wg6 xg6
      rintro _ hq0
      obtain rfl := Eq.symm hq0
      rintro _ hq1
      obtain rfl := Eq.symm hq1
      rintro _ rfl
      rintro _ rfl
      rintro _ rfl
      refine o_bin rfl rfl rfl (r_neq_i) (o_nil (n_then ?_))
      refine c_if rfl (fun h25 => ?_) (fun h25 => ?_)
      · have hne : l ≠ m := fun h => h25 (by subst h; rw [he19, he23])
        refine c_seq (c_region (o_assign rfl rfl (o_nil (n_then (c_ret (r_block (r_then (r_then (r_block (r_then (r_body1 rfl rfl ?_)))))))))))
        exact ⟨_, rfl, (e4.trans xg6), congrArg B (decide_eq_false hne).symm⟩
      · have he : l[i]'(by omega) = m[i]'(by omega) := by rw [← he19, ← he23]; exact Classical.byContradiction fun h => h25 h
        refine c_skip (n_block (n_then (c_region (o_move rfl rfl (o_bin (r := I ((i + 1 : Nat) : Int)) rfl rfl rfl (by have e : ((i + 1 : Nat) : Int) = (i : Int) + 1 := (by omega); rw [e]; exact r_add_i (by omega) (by omega)) ?_)))))
        refine o_assign rfl rfl (o_nil ?_)
        refine n_round (i + 1) ⟨rfl, rfl, rfl, trivial⟩ ⟨(e4.trans xg6), by omega, by rw [List.take_succ_eq_append_getElem (by omega), List.take_succ_eq_append_getElem (by omega), ht, he]⟩ (by omega)
    · refine c_exit (x_then (x_then (x_here (n_then (c_seq (c_region (o_assign rfl rfl (o_nil (n_then (c_ret (r_body1 rfl rfl ?_)))))))))))
      exact ⟨_, rfl, e4, by
        rw [List.take_of_length_le (by omega), List.take_of_length_le (by omega)] at ht
        rw [decide_eq_true ht]; rfl⟩
theorem TLimbs_spec {w : World} {l m : List UInt32} {v u : Value} (hv : Wds l v w) (hu : Wds m u w) :
    Calls Tryz.prog 103 #[v, u] w (Ret fun r w' => Ext w w' ∧ r = B (decide (l = m))) := by
  refine enter (vs := [v, u]) Tryz.func103 rfl rfl rfl ?_
  have hll := hv.len
  refine c_seq (c_region (o_assign rfl rfl (o_nil (n_then (c_seq (c_seq (c_region (o_move rfl rfl (o_len rfl rfl (r_lenW Tryz.underlying40 hv) (o_move rfl rfl (o_len rfl rfl (r_lenW Tryz.underlying40 hu) ?_)))))))))))
  refine o_bin rfl rfl rfl (r_neq_i) (o_nil (n_then ?_))
  refine c_if rfl (fun h10 => ?_) (fun h10 => ?_)
  · have hne : l ≠ m := fun h => h10 (by rw [h])
    refine c_seq (c_region (o_assign rfl rfl (o_nil (n_then (c_ret (r_then (r_body1 rfl rfl ?_)))))))
    exact ⟨_, rfl, Ext.refl _, congrArg B (decide_eq_false hne).symm⟩
  · have hlen : l.length = m.length := by omega
    refine c_skip (n_then (c_seq (c_seq (c_region (o_assign rfl rfl (o_nil (n_then (c_block ?_))))))))
    refine c_loop (α := Nat) (fun x => [(0, v), (1, u), (5, I (x : Int))]) (fun x w' => Ext w w' ∧ x ≤ l.length ∧ l.take x = m.take x) (fun x => l.length - x) (0) ⟨rfl, rfl, rfl, trivial⟩ ⟨Ext.refl _, by omega, rfl⟩ ?_
    rintro i w4 ⟨e4, hi, ht⟩
    refine c_seq (c_seq (c_region (o_move rfl rfl (o_move rfl rfl (o_len rfl rfl (r_lenW Tryz.underlying40 (hv.ext e4)) (o_bin rfl rfl rfl (r_lss_i) (o_nil (n_then ?_))))))))
    refine c_if rfl (fun h14 => ?_) (fun h14 => ?_)
    · refine c_skip (n_then (c_seq (c_block (c_seq (c_grow 8 [0, 1, 5, 20, 24] (by kernel_rfl) (by kernel_rfl) ?_)))))
      refine f_move rfl rfl (f_move rfl rfl ?_)
      obtain ⟨a19, p19, q19⟩ := r_ixW Tryz.underlying40 (hv.ext e4) (i := i) (by omega) .i64
      refine f_indexAddr rfl rfl rfl (fun w _ => p19 w) (f_load rfl rfl (fun w hw => r_load1 Tryz.underlying65 rfl (hw.cell_some q19)) (f_move rfl rfl (f_move rfl rfl ?_)))
      obtain ⟨a23, p23, q23⟩ := r_ixW Tryz.underlying40 (hu.ext e4) (i := i) (by omega) .i64
      refine f_indexAddr rfl rfl rfl (fun w _ => p23 w) (f_load rfl rfl (fun w hw => r_load1 Tryz.underlying65 rfl (hw.cell_some q23)) (f_nil ?_))
      intro wg6 xg6
      rintro _ hq0
      obtain rfl := Eq.symm hq0
      rintro _ hq1
      obtain rfl := Eq.symm hq1
      rintro _ rfl
      rintro _ rfl
      rintro _ rfl
      refine o_bin rfl rfl rfl (r_neq_u32) (o_nil (n_then ?_))
      refine c_if rfl (fun h25 => ?_) (fun h25 => ?_)
      · have hne : l ≠ m := fun h => h25 (by subst h; rfl)
        refine c_seq (c_region (o_assign rfl rfl (o_nil (n_then (c_ret (r_block (r_then (r_then (r_block (r_then (r_body1 rfl rfl ?_)))))))))))
        exact ⟨_, rfl, (e4.trans xg6), congrArg B (decide_eq_false hne).symm⟩
      · have he : l[i]'(by omega) = m[i]'(by omega) := Classical.byContradiction fun h => h25 h
        refine c_skip (n_block (n_then (c_region (o_move rfl rfl (o_bin (r := I ((i + 1 : Nat) : Int)) rfl rfl rfl (by have e : ((i + 1 : Nat) : Int) = (i : Int) + 1 := (by omega); rw [e]; exact r_add_i (by omega) (by omega)) ?_)))))
        refine o_assign rfl rfl (o_nil ?_)
        refine n_round (i + 1) ⟨rfl, rfl, rfl, trivial⟩ ⟨(e4.trans xg6), by omega, by rw [List.take_succ_eq_append_getElem (by omega), List.take_succ_eq_append_getElem (by omega), ht, he]⟩ (by omega)
    · refine c_exit (x_then (x_then (x_here (n_then (c_seq (c_region (o_assign rfl rfl (o_nil (n_then (c_ret (r_body1 rfl rfl ?_)))))))))))
      exact ⟨_, rfl, e4, by
        rw [List.take_of_length_le (by omega), List.take_of_length_le (by omega)] at ht
        rw [decide_eq_true ht]; rfl⟩
theorem TRat_spec {w : World} {a b : RatD} {x y p q : Value} (ha : Wds a.2.1 x w) (ha' : Wds a.2.2 y w) (hb : Wds b.2.1 p w) (hb' : Wds b.2.2 q w) :
    Calls Tryz.prog 85 #[.agg #[B a.1, x, y], .agg #[B b.1, p, q]] w (Ret fun r w' => Ext w w' ∧ r = B (decide (a = b))) := by
  refine enter (vs := [.agg #[B a.1, x, y], .agg #[B b.1, p, q]]) Tryz.func85 rfl rfl rfl ?_
  refine c_seq (c_region ?_)
  obtain ⟨g2, w2, hr2, l2, x2, k2⟩ := r_boxS (P := Tryz.prog) (w := w) (T := 42) (cs := [B a.1, x, y])
  refine o_box rfl rfl hr2 ?_
  obtain ⟨g3, w3, hr3, l3, x3, k3⟩ := r_boxS (P := Tryz.prog) (w := w2) (T := 42) (cs := [B b.1, p, q])
  refine o_box rfl rfl hr3 (o_assign rfl rfl (o_nil (n_then (c_seq (c_region (o_fieldAddr rfl rfl (r_fAt (o := 0) Tryz.underlying42 rfl (by kernel_rfl) rfl) ?_))))))
  refine o_load rfl rfl (r_load1 Tryz.underlying4 rfl (x3.cell_some (k2.cell (i := 0) rfl))) (o_fieldAddr rfl rfl (r_fAt (o := 0) Tryz.underlying42 rfl (by kernel_rfl) rfl) ?_)
  refine o_load rfl rfl (r_load1 Tryz.underlying4 rfl (k3.cell (i := 0) rfl)) (o_bin rfl rfl rfl (r_eql_b Tryz.underlying4) (o_move rfl rfl ?_))
  refine o_dec (fun h10 => ?_) (fun h10 => ?_)
  · refine g_yes rfl (o_fieldAddr rfl rfl (r_fAt (o := 1) Tryz.underlying42 rfl (by kernel_rfl) rfl) (g_yes rfl (o_load rfl rfl (r_load1 Tryz.underlying40 rfl (x3.cell_some (k2.cell (i := 1) rfl))) ?_)))
    refine g_yes rfl (o_fieldAddr rfl rfl (r_fAt (o := 1) Tryz.underlying42 rfl (by kernel_rfl) rfl) (g_yes rfl (o_load rfl rfl (r_load1 Tryz.underlying40 rfl (k3.cell (i := 1) rfl)) ?_)))
    refine g_yes rfl (o_call call_TLimbs rfl rfl (TLimbs_spec (ha.ext (x2.trans x3)) (hb.ext (x2.trans x3))) ?_)
    rintro v15 w15 ⟨x15, rfl⟩
    refine o_pick_t rfl rfl rfl (o_move rfl rfl ?_)
    refine o_dec (fun h17 => ?_) (fun h17 => ?_)
    · refine g_yes rfl (o_fieldAddr rfl rfl (r_fAt (o := 2) Tryz.underlying42 rfl (by kernel_rfl) rfl) (g_yes rfl (o_load rfl rfl (r_load1 Tryz.underlying40 rfl ((x3.trans x15).cell_some (k2.cell (i := 2) rfl))) ?_)))
      refine g_yes rfl (o_fieldAddr rfl rfl (r_fAt (o := 2) Tryz.underlying42 rfl (by kernel_rfl) rfl) (g_yes rfl (o_load rfl rfl (r_load1 Tryz.underlying40 rfl (x15.cell_some (k3.cell (i := 2) rfl))) ?_)))
      refine g_yes rfl (o_call call_TLimbs rfl rfl (TLimbs_spec (ha'.ext ((x2.trans x3).trans x15)) (hb'.ext ((x2.trans x3).trans x15))) ?_)
      rintro v22 w22 ⟨x22, rfl⟩
      refine o_pick_t rfl rfl rfl (o_assign rfl rfl (o_nil (n_then (c_ret (r_body1 rfl rfl ?_)))))
      exact ⟨_, rfl, (((x2.trans x3).trans x15).trans x22), by
        first
        | exact congrArg B (decide_eq_decide.2 ⟨fun h => Prod.ext h10 (Prod.ext h17 h), fun h => by rw [h]⟩)
        | exact congrArg B (decide_eq_false fun h => h17 (by rw [h])).symm
        | exact congrArg B (decide_eq_false fun h => h10 (by rw [h])).symm⟩
    · refine g_no rfl rfl rfl (g_no rfl rfl rfl (g_no rfl rfl rfl (g_no rfl rfl rfl (g_no rfl rfl rfl (o_pick_f rfl rfl rfl (o_assign rfl rfl (o_nil (n_then (c_ret (r_body1 rfl rfl ?_))))))))))
      exact ⟨_, rfl, ((x2.trans x3).trans x15), by
        first
        | exact congrArg B (decide_eq_decide.2 ⟨fun h => Prod.ext h10 (Prod.ext h17 h), fun h => by rw [h]⟩)
        | exact congrArg B (decide_eq_false fun h => h17 (by rw [h])).symm
        | exact congrArg B (decide_eq_false fun h => h10 (by rw [h])).symm⟩
  · refine g_no rfl rfl rfl (g_no rfl rfl rfl (g_no rfl rfl rfl (g_no rfl rfl rfl (g_no rfl rfl rfl (o_pick_f rfl rfl rfl (o_move rfl rfl (g_no rfl rfl rfl (g_no rfl rfl rfl (g_no rfl rfl rfl ?_)))))))))
    refine g_no rfl rfl rfl (g_no rfl rfl rfl (o_pick_f rfl rfl rfl (o_assign rfl rfl (o_nil (n_then (c_ret (r_body1 rfl rfl ?_)))))))
    exact ⟨_, rfl, (x2.trans x3), by
      first
      | exact congrArg B (decide_eq_decide.2 ⟨fun h => Prod.ext h10 (Prod.ext h17 h), fun h => by rw [h]⟩)
      | exact congrArg B (decide_eq_false fun h => h17 (by rw [h])).symm
      | exact congrArg B (decide_eq_false fun h => h10 (by rw [h])).symm⟩
theorem TRats_spec {w : World} {l m : List RatD} {v u : Value} (hv : DsV dRat l v w) (hu : DsV dRat m u w) :
    Calls Tryz.prog 59 #[v, u] w (Ret fun r w' => Ext w w' ∧ r = B (decide (l = m))) := by
  refine enter (vs := [v, u]) Tryz.func59 rfl rfl rfl ?_
  have hll := hv.len
  refine c_seq (c_region (o_assign rfl rfl (o_nil (n_then (c_seq (c_seq (c_region (o_move rfl rfl (o_len rfl rfl (r_lenDs Tryz.underlying44 hv) (o_move rfl rfl (o_len rfl rfl (r_lenDs Tryz.underlying44 hu) ?_)))))))))))
  refine o_bin rfl rfl rfl (r_neq_i) (o_nil (n_then ?_))
  refine c_if rfl (fun h10 => ?_) (fun h10 => ?_)
  · have hne : l ≠ m := fun h => h10 (by rw [h])
    refine c_seq (c_region (o_assign rfl rfl (o_nil (n_then (c_ret (r_then (r_body1 rfl rfl ?_)))))))
    exact ⟨_, rfl, Ext.refl _, congrArg B (decide_eq_false hne).symm⟩
  · have hlen : l.length = m.length := by omega
    refine c_skip (n_then (c_seq (c_seq (c_region (o_assign rfl rfl (o_nil (n_then (c_block ?_))))))))
    refine c_loop (α := Nat) (fun x => [(0, v), (1, u), (5, I (x : Int))]) (fun x w' => Ext w w' ∧ x ≤ l.length ∧ l.take x = m.take x) (fun x => l.length - x) (0) ⟨rfl, rfl, rfl, trivial⟩ ⟨Ext.refl _, by omega, rfl⟩ ?_
    rintro i w4 ⟨e4, hi, ht⟩
    refine c_seq (c_seq (c_region (o_move rfl rfl (o_move rfl rfl (o_len rfl rfl (r_lenDs Tryz.underlying44 (hv.ext e4)) (o_bin rfl rfl rfl (r_lss_i) (o_nil (n_then ?_))))))))
    refine c_if rfl (fun h14 => ?_) (fun h14 => ?_)
    · refine c_skip (n_then (c_seq (c_block (c_seq (c_grow 9 [0, 1, 5, 25] (by kernel_rfl) (by kernel_rfl) ?_)))))
      refine f_move rfl rfl (f_move rfl rfl ?_)
      obtain ⟨a19, c19, p19, q19, h19⟩ := r_ixDs (P := Tryz.prog) (sz := 3) Tryz.underlying44 (by kernel_rfl) dRat_size (by omega) (hv.ext e4) (i := i) (by omega) .i64
      obtain ⟨e19, he19⟩ : ∃ e, e = l[i]'(by omega) := ⟨_, rfl⟩
      rw [← he19] at h19
      obtain ⟨x19_0, x19_1, rfl, f19_0, f19_1⟩ := dRat_inv h19
      refine f_indexAddr rfl rfl rfl (fun w _ => p19 w) (f_load rfl rfl (fun w hw => (q19.ext hw).ld Tryz.underlying42 rfl (by kernel_rfl)) (f_move rfl rfl ?_))
      refine f_move rfl rfl ?_
      obtain ⟨a23, c23, p23, q23, h23⟩ := r_ixDs (P := Tryz.prog) (sz := 3) Tryz.underlying44 (by kernel_rfl) dRat_size (by omega) (hu.ext e4) (i := i) (by omega) .i64
      obtain ⟨e23, he23⟩ : ∃ e, e = m[i]'(by omega) := ⟨_, rfl⟩
      rw [← he23] at h23
      obtain ⟨x23_0, x23_1, rfl, f23_0, f23_1⟩ := dRat_inv h23
      refine f_indexAddr rfl rfl rfl (fun w _ => p23 w) (f_load rfl rfl (fun w hw => (q23.ext hw).ld Tryz.underlying42 rfl (by kernel_rfl)) (f_call (S := Is (B (decide (e19 = e23)))) call_TRat (Stable.is _) rfl (fun w hw => by rintro _ rfl _ rfl; exact Ret.mono (TRat_spec (f19_0.ext hw) (f19_1.ext hw) (f23_0.ext hw) (f23_1.ext hw)) fun v w' h => h) ?_))
      refine f_nil ?_
      intro wg6 xg6
      rintro _ hq0
      obtain rfl := Eq.symm hq0
      rintro _ hq1
      obtain rfl := Eq.symm hq1
      rintro _ rfl
      rintro _ rfl
      refine o_not rfl rfl r_not (o_nil (n_then ?_))
      refine c_cond rfl (fun h26 => ?_) (fun h26 => ?_)
      · have hne : l ≠ m := fun h => absurd (show e19 = e23 by subst h; rw [he19, he23]) (by simpa using h26)
        refine c_seq (c_region (o_assign rfl rfl (o_nil (n_then (c_ret (r_block (r_then (r_then (r_block (r_then (r_body1 rfl rfl ?_)))))))))))
        exact ⟨_, rfl, (e4.trans xg6), congrArg B (decide_eq_false hne).symm⟩
      · have he : l[i]'(by omega) = m[i]'(by omega) := by rw [← he19, ← he23]; simpa using h26
        refine c_skip (n_block (n_then (c_region (o_move rfl rfl (o_bin (r := I ((i + 1 : Nat) : Int)) rfl rfl rfl (by have e : ((i + 1 : Nat) : Int) = (i : Int) + 1 := (by omega); rw [e]; exact r_add_i (by omega) (by omega)) ?_)))))
        refine o_assign rfl rfl (o_nil ?_)
        refine n_round (i + 1) ⟨rfl, rfl, rfl, trivial⟩ ⟨(e4.trans xg6), by omega, by rw [List.take_succ_eq_append_getElem (by omega), List.take_succ_eq_append_getElem (by omega), ht, he]⟩ (by omega)
    · refine c_exit (x_then (x_then (x_here (n_then (c_seq (c_region (o_assign rfl rfl (o_nil (n_then (c_ret (r_body1 rfl rfl ?_)))))))))))
      exact ⟨_, rfl, e4, by
        rw [List.take_of_length_le (by omega), List.take_of_length_le (by omega)] at ht
        rw [decide_eq_true ht]; rfl⟩
theorem TSameL_spec {w : World} {a b : LayD} {x y p q : Value} (ha : DsV dRat a.ws x w) (ha' : DsV dRat a.bs y w) (hb : DsV dRat b.ws p w) (hb' : DsV dRat b.bs q w) :
    Calls Tryz.prog 33 #[.agg #[I a.kd, I a.fr, I a.ou, I a.kh, I a.kw, I a.sr, I a.pd, x, y], .agg #[I b.kd, I b.fr, I b.ou, I b.kh, I b.kw, I b.sr, I b.pd, p, q]] w (Ret fun r w' => Ext w w' ∧ r = B (decide (a = b))) := by
  refine enter (vs := [.agg #[I a.kd, I a.fr, I a.ou, I a.kh, I a.kw, I a.sr, I a.pd, x, y], .agg #[I b.kd, I b.fr, I b.ou, I b.kh, I b.kw, I b.sr, I b.pd, p, q]]) Tryz.func33 rfl rfl rfl ?_
  refine c_seq (c_region ?_)
  obtain ⟨g2, w2, hr2, l2, x2, k2⟩ := r_boxS (P := Tryz.prog) (w := w) (T := 46) (cs := [I a.kd, I a.fr, I a.ou, I a.kh, I a.kw, I a.sr, I a.pd, x, y])
  refine o_box rfl rfl hr2 ?_
  obtain ⟨g3, w3, hr3, l3, x3, k3⟩ := r_boxS (P := Tryz.prog) (w := w2) (T := 46) (cs := [I b.kd, I b.fr, I b.ou, I b.kh, I b.kw, I b.sr, I b.pd, p, q])
  refine o_box rfl rfl hr3 (o_assign rfl rfl (o_nil (n_then (c_seq (c_region (o_fieldAddr rfl rfl (r_fAt (o := 0) Tryz.underlying46 rfl (by kernel_rfl) rfl) ?_))))))
  refine o_load rfl rfl (r_load1 Tryz.underlying3 rfl (x3.cell_some (k2.cell (i := 0) rfl))) (o_fieldAddr rfl rfl (r_fAt (o := 0) Tryz.underlying46 rfl (by kernel_rfl) rfl) ?_)
  refine o_load rfl rfl (r_load1 Tryz.underlying3 rfl (k3.cell (i := 0) rfl)) (o_bin rfl rfl rfl (r_eql_i) (o_move rfl rfl ?_))
  refine o_dec (fun h10 => ?_) (fun h10 => ?_)
  · refine g_yes rfl (o_fieldAddr rfl rfl (r_fAt (o := 1) Tryz.underlying46 rfl (by kernel_rfl) rfl) (g_yes rfl (o_load rfl rfl (r_load1 Tryz.underlying3 rfl (x3.cell_some (k2.cell (i := 1) rfl))) ?_)))
    refine g_yes rfl (o_fieldAddr rfl rfl (r_fAt (o := 1) Tryz.underlying46 rfl (by kernel_rfl) rfl) (g_yes rfl (o_load rfl rfl (r_load1 Tryz.underlying3 rfl (k3.cell (i := 1) rfl)) ?_)))
    refine g_yes rfl (o_bin rfl rfl rfl (r_eql_i) (o_pick_t rfl rfl rfl (o_move rfl rfl ?_)))
    refine o_dec (fun h17 => ?_) (fun h17 => ?_)
    · refine g_yes rfl (o_fieldAddr rfl rfl (r_fAt (o := 2) Tryz.underlying46 rfl (by kernel_rfl) rfl) (g_yes rfl (o_load rfl rfl (r_load1 Tryz.underlying3 rfl (x3.cell_some (k2.cell (i := 2) rfl))) ?_)))
      refine g_yes rfl (o_fieldAddr rfl rfl (r_fAt (o := 2) Tryz.underlying46 rfl (by kernel_rfl) rfl) (g_yes rfl (o_load rfl rfl (r_load1 Tryz.underlying3 rfl (k3.cell (i := 2) rfl)) ?_)))
      refine g_yes rfl (o_bin rfl rfl rfl (r_eql_i) (o_pick_t rfl rfl rfl (o_move rfl rfl ?_)))
      refine o_dec (fun h24 => ?_) (fun h24 => ?_)
      · refine g_yes rfl (o_fieldAddr rfl rfl (r_fAt (o := 3) Tryz.underlying46 rfl (by kernel_rfl) rfl) (g_yes rfl (o_load rfl rfl (r_load1 Tryz.underlying3 rfl (x3.cell_some (k2.cell (i := 3) rfl))) ?_)))
        refine g_yes rfl (o_fieldAddr rfl rfl (r_fAt (o := 3) Tryz.underlying46 rfl (by kernel_rfl) rfl) (g_yes rfl (o_load rfl rfl (r_load1 Tryz.underlying3 rfl (k3.cell (i := 3) rfl)) ?_)))
        refine g_yes rfl (o_bin rfl rfl rfl (r_eql_i) (o_pick_t rfl rfl rfl (o_move rfl rfl ?_)))
        refine o_dec (fun h31 => ?_) (fun h31 => ?_)
        · refine g_yes rfl (o_fieldAddr rfl rfl (r_fAt (o := 4) Tryz.underlying46 rfl (by kernel_rfl) rfl) (g_yes rfl (o_load rfl rfl (r_load1 Tryz.underlying3 rfl (x3.cell_some (k2.cell (i := 4) rfl))) ?_)))
          refine g_yes rfl (o_fieldAddr rfl rfl (r_fAt (o := 4) Tryz.underlying46 rfl (by kernel_rfl) rfl) (g_yes rfl (o_load rfl rfl (r_load1 Tryz.underlying3 rfl (k3.cell (i := 4) rfl)) ?_)))
          refine g_yes rfl (o_bin rfl rfl rfl (r_eql_i) (o_pick_t rfl rfl rfl (o_move rfl rfl ?_)))
          refine o_dec (fun h38 => ?_) (fun h38 => ?_)
          · refine g_yes rfl (o_fieldAddr rfl rfl (r_fAt (o := 5) Tryz.underlying46 rfl (by kernel_rfl) rfl) (g_yes rfl (o_load rfl rfl (r_load1 Tryz.underlying3 rfl (x3.cell_some (k2.cell (i := 5) rfl))) ?_)))
            refine g_yes rfl (o_fieldAddr rfl rfl (r_fAt (o := 5) Tryz.underlying46 rfl (by kernel_rfl) rfl) (g_yes rfl (o_load rfl rfl (r_load1 Tryz.underlying3 rfl (k3.cell (i := 5) rfl)) ?_)))
            refine g_yes rfl (o_bin rfl rfl rfl (r_eql_i) (o_pick_t rfl rfl rfl (o_move rfl rfl ?_)))
            refine o_dec (fun h45 => ?_) (fun h45 => ?_)
            · refine g_yes rfl (o_fieldAddr rfl rfl (r_fAt (o := 6) Tryz.underlying46 rfl (by kernel_rfl) rfl) (g_yes rfl (o_load rfl rfl (r_load1 Tryz.underlying3 rfl (x3.cell_some (k2.cell (i := 6) rfl))) ?_)))
              refine g_yes rfl (o_fieldAddr rfl rfl (r_fAt (o := 6) Tryz.underlying46 rfl (by kernel_rfl) rfl) (g_yes rfl (o_load rfl rfl (r_load1 Tryz.underlying3 rfl (k3.cell (i := 6) rfl)) ?_)))
              refine g_yes rfl (o_bin rfl rfl rfl (r_eql_i) (o_pick_t rfl rfl rfl (o_move rfl rfl ?_)))
              refine o_dec (fun h52 => ?_) (fun h52 => ?_)
              · refine g_yes rfl (o_fieldAddr rfl rfl (r_fAt (o := 7) Tryz.underlying46 rfl (by kernel_rfl) rfl) (g_yes rfl (o_load rfl rfl (r_load1 Tryz.underlying44 rfl (x3.cell_some (k2.cell (i := 7) rfl))) ?_)))
                refine g_yes rfl (o_fieldAddr rfl rfl (r_fAt (o := 7) Tryz.underlying46 rfl (by kernel_rfl) rfl) (g_yes rfl (o_load rfl rfl (r_load1 Tryz.underlying44 rfl (k3.cell (i := 7) rfl)) ?_)))
                refine g_yes rfl (o_call call_TRats rfl rfl (TRats_spec (ha.ext (x2.trans x3)) (hb.ext (x2.trans x3))) ?_)
                rintro v57 w57 ⟨x57, rfl⟩
                refine o_pick_t rfl rfl rfl (o_move rfl rfl ?_)
                refine o_dec (fun h59 => ?_) (fun h59 => ?_)
                · refine g_yes rfl (o_fieldAddr rfl rfl (r_fAt (o := 8) Tryz.underlying46 rfl (by kernel_rfl) rfl) (g_yes rfl (o_load rfl rfl (r_load1 Tryz.underlying44 rfl ((x3.trans x57).cell_some (k2.cell (i := 8) rfl))) ?_)))
                  refine g_yes rfl (o_fieldAddr rfl rfl (r_fAt (o := 8) Tryz.underlying46 rfl (by kernel_rfl) rfl) (g_yes rfl (o_load rfl rfl (r_load1 Tryz.underlying44 rfl (x57.cell_some (k3.cell (i := 8) rfl))) ?_)))
                  refine g_yes rfl (o_call call_TRats rfl rfl (TRats_spec (ha'.ext ((x2.trans x3).trans x57)) (hb'.ext ((x2.trans x3).trans x57))) ?_)
                  rintro v64 w64 ⟨x64, rfl⟩
                  refine o_pick_t rfl rfl rfl (o_assign rfl rfl (o_nil (n_then (c_ret (r_body1 rfl rfl ?_)))))
                  exact ⟨_, rfl, (((x2.trans x3).trans x57).trans x64), by
                    first
                    | exact congrArg B (decide_eq_decide.2 (by rw [LayD.eq_iff]; exact ⟨fun h => ⟨h10, h17, h24, h31, h38, h45, h52, h59, h⟩, fun h => h.2.2.2.2.2.2.2.2⟩))
                    | exact congrArg B (decide_eq_false fun h => by subst h; first | exact h59 rfl | exact h52 rfl | exact h45 rfl | exact h38 rfl | exact h31 rfl | exact h24 rfl | exact h17 rfl | exact h10 rfl).symm⟩
                · refine g_no rfl rfl rfl (g_no rfl rfl rfl (g_no rfl rfl rfl (g_no rfl rfl rfl (g_no rfl rfl rfl (o_pick_f rfl rfl rfl (o_assign rfl rfl (o_nil (n_then (c_ret (r_body1 rfl rfl ?_))))))))))
                  exact ⟨_, rfl, ((x2.trans x3).trans x57), by
                    first
                    | exact congrArg B (decide_eq_decide.2 (by rw [LayD.eq_iff]; exact ⟨fun h => ⟨h10, h17, h24, h31, h38, h45, h52, h59, h⟩, fun h => h.2.2.2.2.2.2.2.2⟩))
                    | exact congrArg B (decide_eq_false fun h => by subst h; first | exact h59 rfl | exact h52 rfl | exact h45 rfl | exact h38 rfl | exact h31 rfl | exact h24 rfl | exact h17 rfl | exact h10 rfl).symm⟩
              · refine g_no rfl rfl rfl (g_no rfl rfl rfl (g_no rfl rfl rfl (g_no rfl rfl rfl (g_no rfl rfl rfl (o_pick_f rfl rfl rfl (o_move rfl rfl (g_no rfl rfl rfl (g_no rfl rfl rfl (g_no rfl rfl rfl ?_)))))))))
                refine g_no rfl rfl rfl (g_no rfl rfl rfl (o_pick_f rfl rfl rfl (o_assign rfl rfl (o_nil (n_then (c_ret (r_body1 rfl rfl ?_)))))))
                exact ⟨_, rfl, (x2.trans x3), by
                  first
                  | exact congrArg B (decide_eq_decide.2 (by rw [LayD.eq_iff]; exact ⟨fun h => ⟨h10, h17, h24, h31, h38, h45, h52, h59, h⟩, fun h => h.2.2.2.2.2.2.2.2⟩))
                  | exact congrArg B (decide_eq_false fun h => by subst h; first | exact h59 rfl | exact h52 rfl | exact h45 rfl | exact h38 rfl | exact h31 rfl | exact h24 rfl | exact h17 rfl | exact h10 rfl).symm⟩
            · refine g_no rfl rfl rfl (g_no rfl rfl rfl (g_no rfl rfl rfl (g_no rfl rfl rfl (g_no rfl rfl rfl (o_pick_f rfl rfl rfl (o_move rfl rfl (g_no rfl rfl rfl (g_no rfl rfl rfl (g_no rfl rfl rfl ?_)))))))))
              refine g_no rfl rfl rfl (g_no rfl rfl rfl (o_pick_f rfl rfl rfl (o_move rfl rfl (g_no rfl rfl rfl (g_no rfl rfl rfl (g_no rfl rfl rfl (g_no rfl rfl rfl (g_no rfl rfl rfl (o_pick_f rfl rfl rfl ?_)))))))))
              refine o_assign rfl rfl (o_nil (n_then (c_ret (r_body1 rfl rfl ?_))))
              exact ⟨_, rfl, (x2.trans x3), by
                first
                | exact congrArg B (decide_eq_decide.2 (by rw [LayD.eq_iff]; exact ⟨fun h => ⟨h10, h17, h24, h31, h38, h45, h52, h59, h⟩, fun h => h.2.2.2.2.2.2.2.2⟩))
                | exact congrArg B (decide_eq_false fun h => by subst h; first | exact h59 rfl | exact h52 rfl | exact h45 rfl | exact h38 rfl | exact h31 rfl | exact h24 rfl | exact h17 rfl | exact h10 rfl).symm⟩
          · refine g_no rfl rfl rfl (g_no rfl rfl rfl (g_no rfl rfl rfl (g_no rfl rfl rfl (g_no rfl rfl rfl (o_pick_f rfl rfl rfl (o_move rfl rfl (g_no rfl rfl rfl (g_no rfl rfl rfl (g_no rfl rfl rfl ?_)))))))))
            refine g_no rfl rfl rfl (g_no rfl rfl rfl (o_pick_f rfl rfl rfl (o_move rfl rfl (g_no rfl rfl rfl (g_no rfl rfl rfl (g_no rfl rfl rfl (g_no rfl rfl rfl (g_no rfl rfl rfl (o_pick_f rfl rfl rfl ?_)))))))))
            refine o_move rfl rfl (g_no rfl rfl rfl (g_no rfl rfl rfl (g_no rfl rfl rfl (g_no rfl rfl rfl (g_no rfl rfl rfl (o_pick_f rfl rfl rfl (o_assign rfl rfl (o_nil (n_then (c_ret (r_body1 rfl rfl ?_)))))))))))
            exact ⟨_, rfl, (x2.trans x3), by
              first
              | exact congrArg B (decide_eq_decide.2 (by rw [LayD.eq_iff]; exact ⟨fun h => ⟨h10, h17, h24, h31, h38, h45, h52, h59, h⟩, fun h => h.2.2.2.2.2.2.2.2⟩))
              | exact congrArg B (decide_eq_false fun h => by subst h; first | exact h59 rfl | exact h52 rfl | exact h45 rfl | exact h38 rfl | exact h31 rfl | exact h24 rfl | exact h17 rfl | exact h10 rfl).symm⟩
        · refine g_no rfl rfl rfl (g_no rfl rfl rfl (g_no rfl rfl rfl (g_no rfl rfl rfl (g_no rfl rfl rfl (o_pick_f rfl rfl rfl (o_move rfl rfl (g_no rfl rfl rfl (g_no rfl rfl rfl (g_no rfl rfl rfl ?_)))))))))
          refine g_no rfl rfl rfl (g_no rfl rfl rfl (o_pick_f rfl rfl rfl (o_move rfl rfl (g_no rfl rfl rfl (g_no rfl rfl rfl (g_no rfl rfl rfl (g_no rfl rfl rfl (g_no rfl rfl rfl (o_pick_f rfl rfl rfl ?_)))))))))
          refine o_move rfl rfl (g_no rfl rfl rfl (g_no rfl rfl rfl (g_no rfl rfl rfl (g_no rfl rfl rfl (g_no rfl rfl rfl (o_pick_f rfl rfl rfl (o_move rfl rfl (g_no rfl rfl rfl (g_no rfl rfl rfl ?_)))))))))
          refine g_no rfl rfl rfl (g_no rfl rfl rfl (g_no rfl rfl rfl (o_pick_f rfl rfl rfl (o_assign rfl rfl (o_nil (n_then (c_ret (r_body1 rfl rfl ?_))))))))
          exact ⟨_, rfl, (x2.trans x3), by
            first
            | exact congrArg B (decide_eq_decide.2 (by rw [LayD.eq_iff]; exact ⟨fun h => ⟨h10, h17, h24, h31, h38, h45, h52, h59, h⟩, fun h => h.2.2.2.2.2.2.2.2⟩))
            | exact congrArg B (decide_eq_false fun h => by subst h; first | exact h59 rfl | exact h52 rfl | exact h45 rfl | exact h38 rfl | exact h31 rfl | exact h24 rfl | exact h17 rfl | exact h10 rfl).symm⟩
      · refine g_no rfl rfl rfl (g_no rfl rfl rfl (g_no rfl rfl rfl (g_no rfl rfl rfl (g_no rfl rfl rfl (o_pick_f rfl rfl rfl (o_move rfl rfl (g_no rfl rfl rfl (g_no rfl rfl rfl (g_no rfl rfl rfl ?_)))))))))
        refine g_no rfl rfl rfl (g_no rfl rfl rfl (o_pick_f rfl rfl rfl (o_move rfl rfl (g_no rfl rfl rfl (g_no rfl rfl rfl (g_no rfl rfl rfl (g_no rfl rfl rfl (g_no rfl rfl rfl (o_pick_f rfl rfl rfl ?_)))))))))
        refine o_move rfl rfl (g_no rfl rfl rfl (g_no rfl rfl rfl (g_no rfl rfl rfl (g_no rfl rfl rfl (g_no rfl rfl rfl (o_pick_f rfl rfl rfl (o_move rfl rfl (g_no rfl rfl rfl (g_no rfl rfl rfl ?_)))))))))
        refine g_no rfl rfl rfl (g_no rfl rfl rfl (g_no rfl rfl rfl (o_pick_f rfl rfl rfl (o_move rfl rfl (g_no rfl rfl rfl (g_no rfl rfl rfl (g_no rfl rfl rfl (g_no rfl rfl rfl (g_no rfl rfl rfl ?_)))))))))
        refine o_pick_f rfl rfl rfl (o_assign rfl rfl (o_nil (n_then (c_ret (r_body1 rfl rfl ?_)))))
        exact ⟨_, rfl, (x2.trans x3), by
          first
          | exact congrArg B (decide_eq_decide.2 (by rw [LayD.eq_iff]; exact ⟨fun h => ⟨h10, h17, h24, h31, h38, h45, h52, h59, h⟩, fun h => h.2.2.2.2.2.2.2.2⟩))
          | exact congrArg B (decide_eq_false fun h => by subst h; first | exact h59 rfl | exact h52 rfl | exact h45 rfl | exact h38 rfl | exact h31 rfl | exact h24 rfl | exact h17 rfl | exact h10 rfl).symm⟩
    · refine g_no rfl rfl rfl (g_no rfl rfl rfl (g_no rfl rfl rfl (g_no rfl rfl rfl (g_no rfl rfl rfl (o_pick_f rfl rfl rfl (o_move rfl rfl (g_no rfl rfl rfl (g_no rfl rfl rfl (g_no rfl rfl rfl ?_)))))))))
      refine g_no rfl rfl rfl (g_no rfl rfl rfl (o_pick_f rfl rfl rfl (o_move rfl rfl (g_no rfl rfl rfl (g_no rfl rfl rfl (g_no rfl rfl rfl (g_no rfl rfl rfl (g_no rfl rfl rfl (o_pick_f rfl rfl rfl ?_)))))))))
      refine o_move rfl rfl (g_no rfl rfl rfl (g_no rfl rfl rfl (g_no rfl rfl rfl (g_no rfl rfl rfl (g_no rfl rfl rfl (o_pick_f rfl rfl rfl (o_move rfl rfl (g_no rfl rfl rfl (g_no rfl rfl rfl ?_)))))))))
      refine g_no rfl rfl rfl (g_no rfl rfl rfl (g_no rfl rfl rfl (o_pick_f rfl rfl rfl (o_move rfl rfl (g_no rfl rfl rfl (g_no rfl rfl rfl (g_no rfl rfl rfl (g_no rfl rfl rfl (g_no rfl rfl rfl ?_)))))))))
      refine o_pick_f rfl rfl rfl (o_move rfl rfl (g_no rfl rfl rfl (g_no rfl rfl rfl (g_no rfl rfl rfl (g_no rfl rfl rfl (g_no rfl rfl rfl (o_pick_f rfl rfl rfl (o_assign rfl rfl (o_nil ?_)))))))))
      refine n_then (c_ret (r_body1 rfl rfl ?_))
      exact ⟨_, rfl, (x2.trans x3), by
        first
        | exact congrArg B (decide_eq_decide.2 (by rw [LayD.eq_iff]; exact ⟨fun h => ⟨h10, h17, h24, h31, h38, h45, h52, h59, h⟩, fun h => h.2.2.2.2.2.2.2.2⟩))
        | exact congrArg B (decide_eq_false fun h => by subst h; first | exact h59 rfl | exact h52 rfl | exact h45 rfl | exact h38 rfl | exact h31 rfl | exact h24 rfl | exact h17 rfl | exact h10 rfl).symm⟩
  · refine g_no rfl rfl rfl (g_no rfl rfl rfl (g_no rfl rfl rfl (g_no rfl rfl rfl (g_no rfl rfl rfl (o_pick_f rfl rfl rfl (o_move rfl rfl (g_no rfl rfl rfl (g_no rfl rfl rfl (g_no rfl rfl rfl ?_)))))))))
    refine g_no rfl rfl rfl (g_no rfl rfl rfl (o_pick_f rfl rfl rfl (o_move rfl rfl (g_no rfl rfl rfl (g_no rfl rfl rfl (g_no rfl rfl rfl (g_no rfl rfl rfl (g_no rfl rfl rfl (o_pick_f rfl rfl rfl ?_)))))))))
    refine o_move rfl rfl (g_no rfl rfl rfl (g_no rfl rfl rfl (g_no rfl rfl rfl (g_no rfl rfl rfl (g_no rfl rfl rfl (o_pick_f rfl rfl rfl (o_move rfl rfl (g_no rfl rfl rfl (g_no rfl rfl rfl ?_)))))))))
    refine g_no rfl rfl rfl (g_no rfl rfl rfl (g_no rfl rfl rfl (o_pick_f rfl rfl rfl (o_move rfl rfl (g_no rfl rfl rfl (g_no rfl rfl rfl (g_no rfl rfl rfl (g_no rfl rfl rfl (g_no rfl rfl rfl ?_)))))))))
    refine o_pick_f rfl rfl rfl (o_move rfl rfl (g_no rfl rfl rfl (g_no rfl rfl rfl (g_no rfl rfl rfl (g_no rfl rfl rfl (g_no rfl rfl rfl (o_pick_f rfl rfl rfl (o_move rfl rfl (g_no rfl rfl rfl ?_)))))))))
    refine g_no rfl rfl rfl (g_no rfl rfl rfl (g_no rfl rfl rfl (g_no rfl rfl rfl (o_pick_f rfl rfl rfl (o_assign rfl rfl (o_nil (n_then (c_ret (r_body1 rfl rfl ?_)))))))))
    exact ⟨_, rfl, (x2.trans x3), by
      first
      | exact congrArg B (decide_eq_decide.2 (by rw [LayD.eq_iff]; exact ⟨fun h => ⟨h10, h17, h24, h31, h38, h45, h52, h59, h⟩, fun h => h.2.2.2.2.2.2.2.2⟩))
      | exact congrArg B (decide_eq_false fun h => by subst h; first | exact h59 rfl | exact h52 rfl | exact h45 rfl | exact h38 rfl | exact h31 rfl | exact h24 rfl | exact h17 rfl | exact h10 rfl).symm⟩
theorem TEqual_spec {w : World} {a b : ModD} {x y p q : Value} (ha : DsV dIn a.inp x w) (ha' : DsV dLay a.lays y w) (hb : DsV dIn b.inp p w) (hb' : DsV dLay b.lays q w) :
    Calls Tryz.prog 14 #[.agg #[x, y], .agg #[p, q]] w (Ret fun r w' => Ext w w' ∧ r = B (decide (a = b))) := by
  refine enter (vs := [.agg #[x, y], .agg #[p, q]]) Tryz.func14 rfl rfl rfl ?_
  have hll := ha'.len
  refine c_seq (c_region ?_)
  obtain ⟨g2, w2, hr2, l2, x2, k2⟩ := r_boxS (P := Tryz.prog) (w := w) (T := 25) (cs := [x, y])
  refine o_box rfl rfl hr2 ?_
  obtain ⟨g3, w3, hr3, l3, x3, k3⟩ := r_boxS (P := Tryz.prog) (w := w2) (T := 25) (cs := [p, q])
  refine o_box rfl rfl hr3 (o_assign rfl rfl (o_nil (n_then (c_seq (c_seq (c_region (o_fieldAddr rfl rfl (r_fAt (o := 0) Tryz.underlying25 rfl (by kernel_rfl) rfl) ?_)))))))
  refine o_load rfl rfl (r_load1 Tryz.underlying22 rfl (x3.cell_some (k2.cell (i := 0) rfl))) (o_fieldAddr rfl rfl (r_fAt (o := 0) Tryz.underlying25 rfl (by kernel_rfl) rfl) ?_)
  refine o_load rfl rfl (r_load1 Tryz.underlying22 rfl (k3.cell (i := 0) rfl)) (o_call call_TInts rfl rfl (TInts_spec (ha.ext (x2.trans x3)) (hb.ext (x2.trans x3))) ?_)
  rintro v10 w10 ⟨x10, rfl⟩
  refine o_not rfl rfl r_not_d (o_move rfl rfl ?_)
  refine o_dec (fun h12 => ?_) (fun h12 => ?_)
  · refine g_no rfl rfl rfl (g_no rfl rfl rfl (g_no rfl rfl rfl (g_no rfl rfl rfl (g_no rfl rfl rfl (g_no rfl rfl rfl (g_no rfl rfl rfl (o_pick_t rfl rfl rfl (o_nil (n_then (c_yes rfl ?_))))))))))
    refine c_seq (c_region (o_assign rfl rfl (o_nil (n_then (c_ret (r_then (r_body1 rfl rfl ?_)))))))
    exact ⟨_, rfl, ((x2.trans x3).trans x10), congrArg B (decide_eq_false (fun h => by subst h; first | exact h12 rfl | exact h20 rfl)).symm⟩
  · refine g_yes rfl (o_fieldAddr rfl rfl (r_fAt (o := 1) Tryz.underlying25 rfl (by kernel_rfl) rfl) (g_yes rfl (o_load rfl rfl (r_load1 Tryz.underlying23 rfl ((x3.trans x10).cell_some (k2.cell (i := 1) rfl))) ?_)))
    refine g_yes rfl (o_len rfl rfl (r_lenDs Tryz.underlying23 (ha'.ext ((x2.trans x3).trans x10))) (g_yes rfl (o_fieldAddr rfl rfl (r_fAt (o := 1) Tryz.underlying25 rfl (by kernel_rfl) rfl) ?_)))
    refine g_yes rfl (o_load rfl rfl (r_load1 Tryz.underlying23 rfl (x10.cell_some (k3.cell (i := 1) rfl))) (g_yes rfl (o_len rfl rfl (r_lenDs Tryz.underlying23 (hb'.ext ((x2.trans x3).trans x10))) ?_)))
    refine g_yes rfl (o_bin rfl rfl rfl (r_neq_i) (o_pick_f rfl rfl rfl (o_nil (n_then ?_))))
    refine c_if rfl (fun h20 => ?_) (fun h20 => ?_)
    · refine c_seq (c_region (o_assign rfl rfl (o_nil (n_then (c_ret (r_then (r_body1 rfl rfl ?_)))))))
      exact ⟨_, rfl, ((x2.trans x3).trans x10), congrArg B (decide_eq_false (fun h => by subst h; first | exact h12 rfl | exact h20 rfl)).symm⟩
    · have hlen : a.lays.length = b.lays.length := by omega
      refine c_skip (n_then (c_seq (c_seq (c_region (o_assign rfl rfl (o_nil (n_then (c_block ?_))))))))
      refine c_loop (α := Nat) (fun x => [(2, .pointer (some ⟨g2, 0, none⟩)), (3, .pointer (some ⟨g3, 0, none⟩)), (5, I (x : Int))]) (fun x w' => Ext w w' ∧ Ext w10 w' ∧ x ≤ a.lays.length ∧ a.lays.take x = b.lays.take x) (fun x => a.lays.length - x) (0) ⟨rfl, rfl, rfl, trivial⟩ ⟨((x2.trans x3).trans x10), Ext.refl _, by omega, rfl⟩ ?_
      rintro i w4 ⟨e4, e10, hi, ht⟩
      refine c_seq (c_seq (c_region (o_move rfl rfl (o_fieldAddr rfl rfl (r_fAt (o := 1) Tryz.underlying25 rfl (by kernel_rfl) rfl) (o_load rfl rfl (r_load1 Tryz.underlying23 rfl (((x3.trans x10).trans e10).cell_some (k2.cell (i := 1) rfl))) ?_)))))
      refine o_len rfl rfl (r_lenDs Tryz.underlying23 (ha'.ext e4)) (o_bin rfl rfl rfl (r_lss_i) (o_nil (n_then ?_)))
      refine c_if rfl (fun h25 => ?_) (fun h25 => ?_)
      · refine c_skip (n_then (c_seq (c_block (c_seq (c_grow 11 [2, 3, 5, 38] (by kernel_rfl) (by kernel_rfl) ?_)))))
        refine f_fieldAddr rfl rfl (fun w hw => r_fAt (o := 1) Tryz.underlying25 rfl (by kernel_rfl) rfl) (f_load rfl rfl (fun w hw => r_load1 Tryz.underlying23 rfl (hw.cell_some (((x3.trans x10).trans e10).cell_some (k2.cell (i := 1) rfl)))) ?_)
        refine f_move rfl rfl ?_
        obtain ⟨a31, c31, p31, q31, h31⟩ := r_ixDs (P := Tryz.prog) (sz := 9) Tryz.underlying23 (by kernel_rfl) dLay_size (by omega) (ha'.ext e4) (i := i) (by omega) .i64
        obtain ⟨e31, he31⟩ : ∃ e, e = a.lays[i]'(by omega) := ⟨_, rfl⟩
        rw [← he31] at h31
        obtain ⟨x31_0, x31_1, rfl, f31_0, f31_1⟩ := dLay_inv h31
        refine f_indexAddr rfl rfl rfl (fun w _ => p31 w) (f_load rfl rfl (fun w hw => (q31.ext hw).ld Tryz.underlying46 rfl (by kernel_rfl)) (f_fieldAddr rfl rfl (fun w hw => r_fAt (o := 1) Tryz.underlying25 rfl (by kernel_rfl) rfl) ?_))
        refine f_load rfl rfl (fun w hw => r_load1 Tryz.underlying23 rfl (hw.cell_some ((x10.trans e10).cell_some (k3.cell (i := 1) rfl)))) (f_move rfl rfl ?_)
        obtain ⟨a36, c36, p36, q36, h36⟩ := r_ixDs (P := Tryz.prog) (sz := 9) Tryz.underlying23 (by kernel_rfl) dLay_size (by omega) (hb'.ext e4) (i := i) (by omega) .i64
        obtain ⟨e36, he36⟩ : ∃ e, e = b.lays[i]'(by omega) := ⟨_, rfl⟩
        rw [← he36] at h36
        obtain ⟨x36_0, x36_1, rfl, f36_0, f36_1⟩ := dLay_inv h36
        refine f_indexAddr rfl rfl rfl (fun w _ => p36 w) (f_load rfl rfl (fun w hw => (q36.ext hw).ld Tryz.underlying46 rfl (by kernel_rfl)) (f_call (S := Is (B (decide (e31 = e36)))) call_TSameL (Stable.is _) rfl (fun w hw => by rintro _ rfl _ rfl; exact Ret.mono (TSameL_spec (f31_0.ext hw) (f31_1.ext hw) (f36_0.ext hw) (f36_1.ext hw)) fun v w' h => h) ?_))
        refine f_nil ?_
        intro wg6 xg6
        rintro _ rfl
        rintro _ rfl
        rintro _ rfl
        rintro _ rfl
        refine o_not rfl rfl r_not (o_nil (n_then ?_))
        refine c_cond rfl (fun h39 => ?_) (fun h39 => ?_)
        · refine c_seq (c_region (o_assign rfl rfl (o_nil (n_then (c_ret (r_block (r_then (r_then (r_block (r_then (r_body1 rfl rfl ?_)))))))))))
          exact ⟨_, rfl, (e4.trans xg6), congrArg B (decide_eq_false (fun h => absurd (show e31 = e36 by subst h; rw [he31, he36]) (by simpa using h39))).symm⟩
        · have he : a.lays[i]'(by omega) = b.lays[i]'(by omega) := by rw [← he31, ← he36]; simpa using h39
          refine c_skip (n_block (n_then (c_region (o_move rfl rfl (o_bin (r := I ((i + 1 : Nat) : Int)) rfl rfl rfl (by have e : ((i + 1 : Nat) : Int) = (i : Int) + 1 := (by omega); rw [e]; exact r_add_i (by omega) (by omega)) ?_)))))
          refine o_assign rfl rfl (o_nil ?_)
          refine n_round (i + 1) ⟨rfl, rfl, rfl, trivial⟩ ⟨(e4.trans xg6), (e10.trans xg6), by omega, by rw [List.take_succ_eq_append_getElem (by omega), List.take_succ_eq_append_getElem (by omega), ht, he]⟩ (by omega)
      · refine c_exit (x_then (x_then (x_here (n_then (c_seq (c_region (o_assign rfl rfl (o_nil (n_then (c_ret (r_body1 rfl rfl ?_)))))))))))
        exact ⟨_, rfl, e4, by
          rw [List.take_of_length_le (by omega), List.take_of_length_le (by omega)] at ht
          have he : a = b := ModD.eq_iff.2 ⟨Classical.byContradiction h12, ht⟩
          rw [decide_eq_true he]; rfl⟩
end Go.Rl
/- Validity of models walked: shapes, and the reference's side: relucertref11.Valid, relucertref12.within, multiple, canonical, layer, Valid, Params. Conditions: rationals of at most 2^30 limbs, not more layers. -/
namespace Go.Rl
open Go.RowKit Go.Proofs
theorem call_TShape : Callable Tryz.prog 27 := ⟨_, Tryz.func27, by kernel_rfl, rfl⟩
theorem call_AShape : Callable Tryz.prog 37 := ⟨_, Tryz.func37, by kernel_rfl, rfl⟩
theorem call_TWithin : Callable Tryz.prog 52 := ⟨_, Tryz.func52, by kernel_rfl, rfl⟩
theorem call_TMult : Callable Tryz.prog 54 := ⟨_, Tryz.func54, by kernel_rfl, rfl⟩
theorem call_TCanon : Callable Tryz.prog 53 := ⟨_, Tryz.func53, by kernel_rfl, rfl⟩
theorem call_TLayer : Callable Tryz.prog 28 := ⟨_, Tryz.func28, by kernel_rfl, rfl⟩
theorem call_TValid : Callable Tryz.prog 12 := ⟨_, Tryz.func12, by kernel_rfl, rfl⟩
theorem call_TParams : Callable Tryz.prog 19 := ⟨_, Tryz.func19, by kernel_rfl, rfl⟩
theorem call_AParams : Callable Tryz.prog 18 := ⟨_, Tryz.func18, by kernel_rfl, rfl⟩
theorem mul_rng {a b m n : Int} (h1 : 1 ≤ a) (h2 : a ≤ m) (h3 : 1 ≤ b) (h4 : b ≤ n) : 1 ≤ a * b ∧ a * b ≤ m * n :=
  ⟨by have := Int.mul_le_mul h1 h3 (by omega) (by omega); omega, Int.mul_le_mul h2 h4 (by omega) (by omega)⟩
def shp : Int → List Int → Bool
  | _, [] => true
  | s, d :: l => decide (1 ≤ d ∧ d ≤ 16384 ∧ s * d ≤ 16384) && shp (s * d) l
def shapeOk (l : List Int) : Bool := decide (1 ≤ l.length ∧ l.length ≤ 4) && shp 1 l
theorem shp_step {s : Int} {l : List Int} {i : Nat} (hi : i < l.length) : shp s (l.drop i) = (decide (1 ≤ l[i] ∧ l[i] ≤ 16384 ∧ s * l[i] ≤ 16384) && shp (s * l[i]) (l.drop (i + 1))) := by
  rw [List.drop_eq_getElem_cons hi]; rfl
theorem shape_no {l : List Int} {i : Nat} {s : Int} (hi : i < l.length) (hS : shp 1 l = shp s (l.drop i)) (h : ¬ (1 ≤ l[i] ∧ l[i] ≤ 16384 ∧ s * l[i] ≤ 16384)) : false = shapeOk l := by
  unfold shapeOk
  rw [hS, shp_step hi, decide_eq_false h]
  simp
theorem shape_len {l : List Int} (h : ¬ (1 ≤ l.length ∧ l.length ≤ 4)) : false = shapeOk l := by
  unfold shapeOk
  rw [decide_eq_false h]
  rfl
theorem shape_yes {l : List Int} {s : Int} (h : 1 ≤ l.length ∧ l.length ≤ 4) (hS : shp 1 l = shp s (l.drop l.length)) : true = shapeOk l := by
  unfold shapeOk
  rw [hS, List.drop_length, decide_eq_true h]
  rfl
theorem shp_next {l : List Int} {i : Nat} {s : Int} (hi : i < l.length) (hS : shp 1 l = shp s (l.drop i)) (h : 1 ≤ l[i] ∧ l[i] ≤ 16384 ∧ s * l[i] ≤ 16384) : shp 1 l = shp (s * l[i]) (l.drop (i + 1)) := by
  rw [hS, shp_step hi, decide_eq_true h]
  rfl
theorem TShape_spec {w : World} {l : List Int} {v : Value} (hv : DsV dIn l v w) :
    Calls Tryz.prog 27 #[v] w (Ret fun r w' => Ext w w' ∧ r = B (shapeOk l)) := by
  refine enter (vs := [v]) Tryz.func27 rfl rfl rfl ?_
  have hll := hv.len
  refine c_seq (c_region (o_assign rfl rfl (o_nil (n_then (c_seq (c_seq (c_region (o_move rfl rfl (o_len rfl rfl (r_lenDs Tryz.underlying22 hv) (o_bin rfl rfl rfl (r_lss_i) (o_move rfl rfl ?_)))))))))))
  refine o_dec (fun h8 => ?_) (fun h8 => ?_)
  · refine g_no rfl rfl rfl (g_no rfl rfl rfl (g_no rfl rfl rfl (o_pick_t rfl rfl rfl (o_nil (n_then (c_yes rfl (c_seq (c_region (o_assign rfl rfl (o_nil (n_then (c_ret (r_then (r_body1 rfl rfl ?_))))))))))))))
    exact ⟨_, rfl, Ext.refl _, congrArg B (shape_len (by omega))⟩
  · refine g_yes rfl (o_move rfl rfl (g_yes rfl (o_len rfl rfl (r_lenDs Tryz.underlying22 hv) (g_yes rfl (o_bin rfl rfl rfl (r_gtr_i) (o_pick_f rfl rfl rfl (o_nil (n_then ?_))))))))
    refine c_if rfl (fun h12 => ?_) (fun h12 => ?_)
    · refine c_seq (c_region (o_assign rfl rfl (o_nil (n_then (c_ret (r_then (r_body1 rfl rfl ?_)))))))
      exact ⟨_, rfl, Ext.refl _, congrArg B (shape_len (by omega))⟩
    · refine c_skip (n_then (c_seq (c_region (o_assign rfl rfl (o_nil (n_then (c_seq (c_seq (c_region (o_assign rfl rfl (o_nil (n_then (c_block ?_)))))))))))))
      refine c_loop2 (fun (i : Nat) (s : Int) => [(0, v), (3, I s), (4, I (i : Int))]) (fun (i : Nat) (s : Int) w' => Ext w w' ∧ i ≤ l.length ∧ 1 ≤ s ∧ s ≤ 16384 ∧ shp 1 l = shp s (l.drop i)) (fun (i : Nat) (s : Int) => l.length - i) (0) (1) ⟨rfl, rfl, rfl, trivial⟩ ⟨Ext.refl _, by omega, by omega, by omega, rfl⟩ ?_
      rintro i s w4 ⟨e4, hi, hs1, hs2, hS⟩
      refine c_seq (c_seq (c_region (o_move rfl rfl (o_move rfl rfl (o_len rfl rfl (r_lenDs Tryz.underlying22 (hv.ext e4)) (o_bin rfl rfl rfl (r_lss_i) (o_nil (n_then ?_))))))))
      refine c_if rfl (fun h16 => ?_) (fun h16 => ?_)
      · refine c_skip (n_then (c_seq (c_block (c_seq (c_seq (c_region (o_move rfl rfl (o_move rfl rfl ?_))))))))
        obtain ⟨a21, c21, p21, q21, h21⟩ := r_ixDs (P := Tryz.prog) (sz := 1) Tryz.underlying22 (by kernel_rfl) dIn_size (by omega) (hv.ext e4) (i := i) (by omega) .i64
        obtain ⟨e21, he21⟩ : ∃ e, e = l[i]'(by omega) := ⟨_, rfl⟩
        rw [← he21] at h21
        obtain rfl := dIn_inv h21
        refine o_indexAddr rfl rfl rfl (p21 _) (o_load rfl rfl (r_load1 Tryz.underlying3 rfl q21.cell0) (o_bin rfl rfl rfl (r_lss_i) (o_move rfl rfl ?_)))
        refine o_dec (fun h24 => ?_) (fun h24 => ?_)
        · refine g_no rfl rfl rfl (g_no rfl rfl rfl (g_no rfl rfl rfl (g_no rfl rfl rfl (g_no rfl rfl rfl (o_pick_t rfl rfl rfl (o_nil (n_then (c_yes rfl (c_seq (c_region (o_assign rfl rfl (o_nil ?_))))))))))))
          refine n_then (c_ret (r_then (r_block (r_then (r_then (r_block (r_then (r_body1 rfl rfl ?_))))))))
          exact ⟨_, rfl, e4, congrArg B (shape_no (by omega) hS (by rw [← he21]; omega))⟩
        · refine g_yes rfl (o_move rfl rfl (g_yes rfl (o_move rfl rfl (g_yes rfl ?_))))
          obtain ⟨a27, c27, p27, q27, h27⟩ := r_ixDs (P := Tryz.prog) (sz := 1) Tryz.underlying22 (by kernel_rfl) dIn_size (by omega) (hv.ext e4) (i := i) (by omega) .i64
          rw [← he21] at h27
          obtain rfl := dIn_inv h27
          refine o_indexAddr rfl rfl rfl (p27 _) (g_yes rfl (o_load rfl rfl (r_load1 Tryz.underlying3 rfl q27.cell0) (g_yes rfl (o_bin rfl rfl rfl (r_gtr_i) (o_pick_f rfl rfl rfl ?_)))))
          refine o_nil (n_then ?_)
          refine c_if rfl (fun h30 => ?_) (fun h30 => ?_)
          · refine c_seq (c_region (o_assign rfl rfl (o_nil (n_then (c_ret (r_then (r_block (r_then (r_then (r_block (r_then (r_body1 rfl rfl ?_))))))))))))
            exact ⟨_, rfl, e4, congrArg B (shape_no (by omega) hS (by rw [← he21]; omega))⟩
          · refine c_skip (n_then (c_seq (c_region (o_move rfl rfl (o_move rfl rfl (o_move rfl rfl ?_))))))
            obtain ⟨a34, c34, p34, q34, h34⟩ := r_ixDs (P := Tryz.prog) (sz := 1) Tryz.underlying22 (by kernel_rfl) dIn_size (by omega) (hv.ext e4) (i := i) (by omega) .i64
            rw [← he21] at h34
            obtain rfl := dIn_inv h34
            refine o_indexAddr rfl rfl rfl (p34 _) (o_load rfl rfl (r_load1 Tryz.underlying3 rfl q34.cell0) ?_)
            have hb := mul_rng hs1 hs2 (show 1 ≤ e21 by omega) (show e21 ≤ 16384 by omega)
            refine o_bin rfl rfl rfl (r_mul_i (by omega) (by omega)) (o_assign rfl rfl (o_nil (n_then (c_seq (c_region (o_move rfl rfl (o_bin rfl rfl rfl (r_gtr_i) (o_nil (n_then ?_)))))))))
            refine c_if rfl (fun h38 => ?_) (fun h38 => ?_)
            · refine c_seq (c_region (o_assign rfl rfl (o_nil (n_then (c_ret (r_block (r_then (r_then (r_block (r_then (r_body1 rfl rfl ?_)))))))))))
              exact ⟨_, rfl, e4, congrArg B (shape_no (by omega) hS (by rw [← he21]; omega))⟩
            · refine c_skip (n_block (n_then (c_region (o_move rfl rfl (o_bin (r := I ((i + 1 : Nat) : Int)) rfl rfl rfl (by have e : ((i + 1 : Nat) : Int) = (i : Int) + 1 := (by omega); rw [e]; exact r_add_i (by omega) (by omega)) ?_)))))
              refine o_assign rfl rfl (o_nil ?_)
              refine n_round2 (i + 1) (s * e21) ⟨rfl, rfl, rfl, trivial⟩ ⟨e4, by omega, by omega, by omega, by have := shp_next (by omega) hS (by rw [← he21]; omega); rwa [← he21] at this⟩ (by omega)
      · refine c_exit (x_then (x_then (x_here (n_then (c_seq (c_region (o_assign rfl rfl (o_nil (n_then (c_ret (r_body1 rfl rfl ?_)))))))))))
        exact ⟨_, rfl, e4, congrArg B (shape_yes (by omega) (by rw [show l.length = i by omega]; exact hS))⟩
theorem AShape_spec {w : World} {l : List Int} {v : Value} (hv : DsV dIn l v w) :
    Calls Tryz.prog 37 #[v] w (Ret fun r w' => Ext w w' ∧ r = B (shapeOk l)) := by
  refine enter (vs := [v]) Tryz.func37 rfl rfl rfl ?_
  have hll := hv.len
  refine c_seq (c_region (o_assign rfl rfl (o_nil (n_then (c_seq (c_seq (c_region (o_move rfl rfl (o_len rfl rfl (r_lenDs Tryz.underlying22 hv) (o_bin rfl rfl rfl (r_lss_i) (o_move rfl rfl ?_)))))))))))
  refine o_dec (fun h9 => ?_) (fun h9 => ?_)
  · refine g_no rfl rfl rfl (g_no rfl rfl rfl (g_no rfl rfl rfl (o_pick_t rfl rfl rfl (o_nil (n_then (c_yes rfl (c_seq (c_region (o_assign rfl rfl (o_nil (n_then (c_ret (r_then (r_body1 rfl rfl ?_))))))))))))))
    exact ⟨_, rfl, Ext.refl _, congrArg B (shape_len (by omega))⟩
  · refine g_yes rfl (o_move rfl rfl (g_yes rfl (o_len rfl rfl (r_lenDs Tryz.underlying22 hv) (g_yes rfl (o_bin rfl rfl rfl (r_gtr_i) (o_pick_f rfl rfl rfl (o_nil (n_then ?_))))))))
    refine c_if rfl (fun h13 => ?_) (fun h13 => ?_)
    · refine c_seq (c_region (o_assign rfl rfl (o_nil (n_then (c_ret (r_then (r_body1 rfl rfl ?_)))))))
      exact ⟨_, rfl, Ext.refl _, congrArg B (shape_len (by omega))⟩
    · refine c_skip (n_then (c_seq (c_region (o_assign rfl rfl (o_nil (n_then (c_seq (c_seq (c_region (o_move rfl rfl (o_len rfl rfl (r_lenDs Tryz.underlying22 hv) (o_move rfl rfl (o_nil ?_)))))))))))))
      refine n_then (c_block ?_)
      refine c_loop2 (fun (i : Nat) (s : Int) => [(3, I s), (14, v), (15, I (l.length : Int)), (16, I (i : Int))]) (fun (i : Nat) (s : Int) w' => Ext w w' ∧ i ≤ l.length ∧ 1 ≤ s ∧ s ≤ 16384 ∧ shp 1 l = shp s (l.drop i)) (fun (i : Nat) (s : Int) => l.length - i) (0) (1) ⟨rfl, rfl, rfl, rfl, trivial⟩ ⟨Ext.refl _, by omega, by omega, by omega, rfl⟩ ?_
      rintro i s w4 ⟨e4, hi, hs1, hs2, hS⟩
      refine c_seq (c_region (o_bin rfl rfl rfl (r_lss_i) (o_nil (n_then (c_seq ?_)))))
      refine c_if rfl (fun h17 => ?_) (fun h17 => ?_)
      · refine c_skip (n_then (c_seq (c_block (c_seq (c_region ?_)))))
        obtain ⟨a18, c18, p18, q18, h18⟩ := r_ixDs (P := Tryz.prog) (sz := 1) Tryz.underlying22 (by kernel_rfl) dIn_size (by omega) (hv.ext e4) (i := i) (by omega) .i64
        obtain ⟨e18, he18⟩ : ∃ e, e = l[i]'(by omega) := ⟨_, rfl⟩
        rw [← he18] at h18
        obtain rfl := dIn_inv h18
        refine o_indexAddr rfl rfl rfl (p18 _) (o_load rfl rfl (r_load1 Tryz.underlying3 rfl q18.cell0) (o_assign rfl rfl (o_nil (n_then (c_seq (c_seq (c_region (o_move rfl rfl ?_))))))))
        refine o_bin rfl rfl rfl (r_lss_i) (o_move rfl rfl ?_)
        refine o_dec (fun h22 => ?_) (fun h22 => ?_)
        · refine g_no rfl rfl rfl (g_no rfl rfl rfl (o_pick_t rfl rfl rfl (o_move rfl rfl (g_no rfl rfl rfl (g_no rfl rfl rfl (g_no rfl rfl rfl (g_no rfl rfl rfl (o_pick_t rfl rfl rfl (o_nil ?_)))))))))
          refine n_then (c_yes rfl (c_seq (c_region (o_assign rfl rfl (o_nil (n_then (c_ret (r_then (r_block (r_then (r_then (r_block (r_then (r_body1 rfl rfl ?_))))))))))))))
          exact ⟨_, rfl, e4, congrArg B (shape_no (by omega) hS (by rw [← he18]; omega))⟩
        · refine g_yes rfl (o_move rfl rfl (g_yes rfl (o_bin rfl rfl rfl (r_gtr_i) (o_pick_f rfl rfl rfl (o_move rfl rfl ?_)))))
          refine o_dec (fun h26 => ?_) (fun h26 => ?_)
          · refine g_no rfl rfl rfl (g_no rfl rfl rfl (g_no rfl rfl rfl (g_no rfl rfl rfl (o_pick_t rfl rfl rfl (o_nil (n_then (c_yes rfl (c_seq (c_region (o_assign rfl rfl (o_nil (n_then (c_ret (r_then ?_))))))))))))))
            refine r_block (r_then (r_then (r_block (r_then (r_body1 rfl rfl ?_)))))
            exact ⟨_, rfl, e4, congrArg B (shape_no (by omega) hS (by rw [← he18]; omega))⟩
          · refine g_yes rfl (o_move rfl rfl (g_yes rfl (o_move rfl rfl (g_yes rfl ?_))))
            have hb := mul_rng hs1 hs2 (show 1 ≤ e18 by omega) (show e18 ≤ 16384 by omega)
            refine o_bin rfl rfl rfl (r_mul_i (by omega) (by omega)) (g_yes rfl (o_bin rfl rfl rfl (r_gtr_i) (o_pick_f rfl rfl rfl (o_nil (n_then ?_)))))
            refine c_if rfl (fun h31 => ?_) (fun h31 => ?_)
            · refine c_seq (c_region (o_assign rfl rfl (o_nil (n_then (c_ret (r_then (r_block (r_then (r_then (r_block (r_then (r_body1 rfl rfl ?_))))))))))))
              exact ⟨_, rfl, e4, congrArg B (shape_no (by omega) hS (by rw [← he18]; omega))⟩
            · refine c_skip (n_then (c_region (o_move rfl rfl (o_move rfl rfl ?_))))
              have hb := mul_rng hs1 hs2 (show 1 ≤ e18 by omega) (show e18 ≤ 16384 by omega)
              refine o_bin rfl rfl rfl (r_mul_i (by omega) (by omega)) (o_assign rfl rfl (o_nil (n_block (n_then (c_region (o_bin (r := I ((i + 1 : Nat) : Int)) rfl rfl rfl (by have e : ((i + 1 : Nat) : Int) = (i : Int) + 1 := (by omega); rw [e]; exact r_add_i (by omega) (by omega)) ?_))))))
              refine o_move rfl rfl (o_nil ?_)
              refine n_round2 (i + 1) (s * e18) ⟨rfl, rfl, rfl, rfl, trivial⟩ ⟨e4, by omega, by omega, by omega, by have := shp_next (by omega) hS (by rw [← he18]; omega); rwa [← he18] at this⟩ (by omega)
      · refine c_exit (x_then (x_then (x_here (n_then (c_seq (c_region (o_assign rfl rfl (o_nil (n_then (c_ret (r_body1 rfl rfl ?_)))))))))))
        exact ⟨_, rfl, e4, congrArg B (shape_yes (by omega) (by rw [show l.length = i by omega]; exact hS))⟩
theorem TWithin_spec {w : World} {n a b : Int} :
    Calls Tryz.prog 52 #[I n, I a, I b] w (Ret fun r w' => w = w' ∧ r = B (decide (a ≤ n ∧ n ≤ b))) := by
  refine enter (vs := [I n, I a, I b]) Tryz.func52 rfl rfl rfl ?_
  refine c_seq (c_region (o_assign rfl rfl (o_nil (n_then (c_seq (c_region (o_move rfl rfl (o_move rfl rfl (o_bin rfl rfl rfl (r_geq_i) (o_move rfl rfl ?_))))))))))
  refine o_dec (fun h10 => ?_) (fun h10 => ?_)
  · refine g_yes rfl (o_move rfl rfl (g_yes rfl (o_move rfl rfl (g_yes rfl (o_bin rfl rfl rfl (r_leq_i) (o_pick_t rfl rfl rfl (o_assign rfl rfl (o_nil (n_then (c_ret (r_body1 rfl rfl ?_)))))))))))
    exact ⟨_, rfl, rfl, by
      first
      | exact congrArg B (decide_eq_decide.2 ⟨fun h => ⟨by omega, h⟩, fun h => h.2⟩)
      | exact congrArg B (decide_eq_false (by omega)).symm⟩
  · refine g_no rfl rfl rfl (g_no rfl rfl rfl (g_no rfl rfl rfl (o_pick_f rfl rfl rfl (o_assign rfl rfl (o_nil (n_then (c_ret (r_body1 rfl rfl ?_))))))))
    exact ⟨_, rfl, rfl, by
      first
      | exact congrArg B (decide_eq_decide.2 ⟨fun h => ⟨by omega, h⟩, fun h => h.2⟩)
      | exact congrArg B (decide_eq_false (by omega)).symm⟩
def mulOk (n d : Int) : Bool := decide (0 < n ∧ n ≤ 16384 ∧ n % d = 0)
theorem TMult_spec {w : World} {n d : Int} (hn : 0 ≤ n) (hd : 1 ≤ d) :
    Calls Tryz.prog 54 #[I n, I d] w (Ret fun r w' => w = w' ∧ r = B (mulOk n d)) := by
  refine enter (vs := [I n, I d]) Tryz.func54 rfl rfl rfl ?_
  refine c_seq (c_region (o_assign rfl rfl (o_nil (n_then (c_seq (c_region (o_move rfl rfl (o_bin rfl rfl rfl (r_gtr_i) (o_move rfl rfl ?_)))))))))
  refine o_dec (fun h7 => ?_) (fun h7 => ?_)
  · refine g_yes rfl (o_move rfl rfl (g_yes rfl (o_bin rfl rfl rfl (r_leq_i) (o_pick_t rfl rfl rfl (o_move rfl rfl ?_)))))
    refine o_dec (fun h11 => ?_) (fun h11 => ?_)
    · refine g_yes rfl (o_move rfl rfl (g_yes rfl (o_move rfl rfl (g_yes rfl (o_bin rfl rfl rfl (r_rem_i (by omega) (by omega)) (g_yes rfl (o_bin rfl rfl rfl (r_eql_i) (o_pick_t rfl rfl rfl ?_))))))))
      refine o_assign rfl rfl (o_nil (n_then (c_ret (r_body1 rfl rfl ?_))))
      exact ⟨_, rfl, rfl, by
        unfold mulOk
        first
        | exact congrArg B (decide_eq_decide.2 ⟨fun h => ⟨by omega, by omega, h⟩, fun h => h.2.2⟩)
        | exact congrArg B (decide_eq_false (by omega)).symm⟩
    · refine g_no rfl rfl rfl (g_no rfl rfl rfl (g_no rfl rfl rfl (g_no rfl rfl rfl (o_pick_f rfl rfl rfl (o_assign rfl rfl (o_nil (n_then (c_ret (r_body1 rfl rfl ?_)))))))))
      exact ⟨_, rfl, rfl, by
        unfold mulOk
        first
        | exact congrArg B (decide_eq_decide.2 ⟨fun h => ⟨by omega, by omega, h⟩, fun h => h.2.2⟩)
        | exact congrArg B (decide_eq_false (by omega)).symm⟩
  · refine g_no rfl rfl rfl (g_no rfl rfl rfl (o_pick_f rfl rfl rfl (o_move rfl rfl (g_no rfl rfl rfl (g_no rfl rfl rfl (g_no rfl rfl rfl (g_no rfl rfl rfl (o_pick_f rfl rfl rfl (o_assign rfl rfl ?_)))))))))
    refine o_nil (n_then (c_ret (r_body1 rfl rfl ?_)))
    exact ⟨_, rfl, rfl, by
      unfold mulOk
      first
      | exact congrArg B (decide_eq_decide.2 ⟨fun h => ⟨by omega, by omega, h⟩, fun h => h.2.2⟩)
      | exact congrArg B (decide_eq_false (by omega)).symm⟩
def canQ (l : List RatD) : Bool := l.all fun q => rv q.1 q.2.1 q.2.2
def small (l : List RatD) : Prop := ∀ q ∈ l, q.2.1.length ≤ 1073741824 ∧ q.2.2.length ≤ 1073741824
theorem canQ_drop {l : List RatD} {i : Nat} (hi : i < l.length) : canQ (l.drop i) = (rv l[i].1 l[i].2.1 l[i].2.2 && canQ (l.drop (i + 1))) := by
  rw [List.drop_eq_getElem_cons hi]; rfl
theorem TCanon_spec {w : World} {l : List RatD} {v : Value} (hv : DsV dRat l v w) (hs : small l) :
    Calls Tryz.prog 53 #[v] w (Ret fun r w' => Ext w w' ∧ r = B (canQ l)) := by
  refine enter (vs := [v]) Tryz.func53 rfl rfl rfl ?_
  have hll := hv.len
  refine c_seq (c_region (o_assign rfl rfl (o_nil (n_then (c_seq (c_seq (c_region (o_assign rfl rfl (o_nil (n_then (c_block ?_)))))))))))
  refine c_loop (α := Nat) (fun x => [(0, v), (3, I (x : Int))]) (fun x w' => Ext w w' ∧ x ≤ l.length ∧ canQ l = canQ (l.drop x)) (fun x => l.length - x) (0) ⟨rfl, rfl, trivial⟩ ⟨Ext.refl _, by omega, rfl⟩ ?_
  rintro i w4 ⟨e4, hi, hS⟩
  refine c_seq (c_seq (c_region (o_move rfl rfl (o_move rfl rfl (o_len rfl rfl (r_lenDs Tryz.underlying44 (hv.ext e4)) (o_bin rfl rfl rfl (r_lss_i) (o_nil (n_then ?_))))))))
  refine c_if rfl (fun h7 => ?_) (fun h7 => ?_)
  · refine c_skip (n_then (c_seq (c_block (c_seq (c_region (o_move rfl rfl (o_move rfl rfl ?_)))))))
    obtain ⟨a12, c12, p12, q12, h12⟩ := r_ixDs (P := Tryz.prog) (sz := 3) Tryz.underlying44 (by kernel_rfl) dRat_size (by omega) (hv.ext e4) (i := i) (by omega) .i64
    obtain ⟨e12, he12⟩ : ∃ e, e = l[i]'(by omega) := ⟨_, rfl⟩
    rw [← he12] at h12
    obtain ⟨x12_0, x12_1, rfl, f12_0, f12_1⟩ := dRat_inv h12
    refine o_indexAddr rfl rfl rfl (p12 _) ?_
    have hq := hs e12 (by rw [he12]; exact List.getElem_mem _)
    refine o_load rfl rfl (q12.ld Tryz.underlying42 rfl (by kernel_rfl)) (o_call call_SValid rfl rfl ((SValid_spec (RatV.mk f12_0 f12_1) (by omega) (by omega))) ?_)
    rintro v14 w14 ⟨x14, rfl⟩
    refine o_not rfl rfl r_not (o_nil (n_then ?_))
    refine c_cond rfl (fun h15 => ?_) (fun h15 => ?_)
    · have h15 : rv e12.1 e12.2.1 e12.2.2 = false := by simpa using h15
      refine c_seq (c_region (o_assign rfl rfl (o_nil (n_then (c_ret (r_block (r_then (r_then (r_block (r_then (r_body1 rfl rfl ?_)))))))))))
      exact ⟨_, rfl, (e4.trans x14), by rw [hS, canQ_drop (by omega), ← he12, h15]; rfl⟩
    · have h15 : rv e12.1 e12.2.1 e12.2.2 = true := by simpa using h15
      refine c_skip (n_block (n_then (c_region (o_move rfl rfl (o_bin (r := I ((i + 1 : Nat) : Int)) rfl rfl rfl (by have e : ((i + 1 : Nat) : Int) = (i : Int) + 1 := (by omega); rw [e]; exact r_add_i (by omega) (by omega)) ?_)))))
      refine o_assign rfl rfl (o_nil ?_)
      refine n_round (i + 1) ⟨rfl, rfl, trivial⟩ ⟨(e4.trans x14), by omega, by rw [hS, canQ_drop (by omega), ← he12, h15]; rfl⟩ (by omega)
  · refine c_exit (x_then (x_then (x_here (n_then (c_seq (c_region (o_assign rfl rfl (o_nil (n_then (c_ret (r_body1 rfl rfl ?_)))))))))))
    exact ⟨_, rfl, e4, by rw [hS, List.drop_of_length_le (by omega)]; rfl⟩
def sideB (n : Int) : Bool := decide (1 ≤ n ∧ n ≤ 64)
def kernB (l : LayD) : Bool := decide ((1 ≤ l.kh ∧ l.kh ≤ 64) ∧ (1 ≤ l.kw ∧ l.kw ≤ 64) ∧ (1 ≤ l.sr ∧ l.sr ≤ 64))
def noneB (l : LayD) : Bool := decide ((l.ws.length : Int) = 0 ∧ (l.bs.length : Int) = 0)
def flatB (l : LayD) : Bool := decide (l.kh = 0 ∧ l.kw = 0 ∧ l.sr = 0 ∧ l.pd = 0)
/-- What a layer must fulfil, but for its numbers. -/
def layC (l : LayD) (i : Int) : Prop :=
  if l.kd = 1 then flatB l = true ∧ l.fr = 0 ∧ (1 ≤ l.ou ∧ l.ou ≤ 16384) ∧ (l.bs.length : Int) = l.ou ∧ mulOk l.ws.length l.ou = true
  else if l.kd = 2 then kernB l = true ∧ l.fr = 0 ∧ l.pd ≥ 0 ∧ l.pd < l.kh ∧ l.pd < l.kw ∧ (1 ≤ l.ou ∧ l.ou ≤ 16384) ∧ (l.bs.length : Int) = l.ou ∧ mulOk l.ws.length (l.ou * l.kh * l.kw) = true
  else if l.kd = 3 ∨ l.kd = 4 then kernB l = true ∧ l.fr = 0 ∧ l.pd = 0 ∧ l.ou = 0 ∧ noneB l = true
  else if l.kd = 5 ∨ l.kd = 6 then flatB l = true ∧ l.fr = 0 ∧ l.ou = 0 ∧ noneB l = true
  else if l.kd = 7 then flatB l = true ∧ (-1 ≤ l.fr ∧ l.fr ≤ i - 1) ∧ l.ou = 0 ∧ noneB l = true
  else False
instance (l : LayD) (i : Int) : Decidable (layC l i) := by unfold layC; infer_instance
def layOk (l : LayD) (i : Int) : Bool := canQ l.ws && canQ l.bs && decide (layC l i)
section
variable {l : LayD} {i : Int}
theorem layC_1 (h : l.kd = 1) : layC l i ↔ flatB l = true ∧ l.fr = 0 ∧ (1 ≤ l.ou ∧ l.ou ≤ 16384) ∧ (l.bs.length : Int) = l.ou ∧ mulOk l.ws.length l.ou = true := by unfold layC; rw [if_pos h]
theorem layC_2 (h : l.kd = 2) : layC l i ↔ kernB l = true ∧ l.fr = 0 ∧ l.pd ≥ 0 ∧ l.pd < l.kh ∧ l.pd < l.kw ∧ (1 ≤ l.ou ∧ l.ou ≤ 16384) ∧ (l.bs.length : Int) = l.ou ∧ mulOk l.ws.length (l.ou * l.kh * l.kw) = true := by unfold layC; rw [if_neg (by omega), if_pos h]
theorem layC_3 (h : l.kd = 3 ∨ l.kd = 4) : layC l i ↔ kernB l = true ∧ l.fr = 0 ∧ l.pd = 0 ∧ l.ou = 0 ∧ noneB l = true := by unfold layC; rw [if_neg (by omega), if_neg (by omega), if_pos h]
theorem layC_5 (h : l.kd = 5 ∨ l.kd = 6) : layC l i ↔ flatB l = true ∧ l.fr = 0 ∧ l.ou = 0 ∧ noneB l = true := by unfold layC; rw [if_neg (by omega), if_neg (by omega), if_neg (by omega), if_pos h]
theorem layC_7 (h : l.kd = 7) : layC l i ↔ flatB l = true ∧ (-1 ≤ l.fr ∧ l.fr ≤ i - 1) ∧ l.ou = 0 ∧ noneB l = true := by unfold layC; rw [if_neg (by omega), if_neg (by omega), if_neg (by omega), if_neg (by omega), if_pos h]
theorem layC_no (h : ¬ (1 ≤ l.kd ∧ l.kd ≤ 7)) : ¬ layC l i := by unfold layC; rw [if_neg (by omega), if_neg (by omega), if_neg (by omega), if_neg (by omega), if_neg (by omega)]; exact id
theorem layOk_c (h1 : canQ l.ws = true) (h2 : canQ l.bs = true) : layOk l i = decide (layC l i) := by unfold layOk; rw [h1, h2]; rfl
theorem layOk_no {c : Prop} (h1 : canQ l.ws = true) (h2 : canQ l.bs = true) (h : layC l i ↔ c) (hc : ¬ c) : false = layOk l i := by rw [layOk_c h1 h2]; exact (decide_eq_false fun x => hc (h.1 x)).symm
theorem layOk_if {c : Prop} {b : Bool} (h1 : canQ l.ws = true) (h2 : canQ l.bs = true) (h : layC l i ↔ c) (hc : c ↔ b = true) : b = layOk l i := by
  rw [layOk_c h1 h2, Bool.eq_iff_iff, decide_eq_true_iff, h, hc]
end
theorem TLayer_spec {w : World} {a : LayD} {x y : Value} {i : Int} (ha : DsV dRat a.ws x w) (ha' : DsV dRat a.bs y w) (hs : small a.ws) (hs' : small a.bs) (hi : 0 ≤ i) (hi' : i ≤ 1073741824) :
    Calls Tryz.prog 28 #[.agg #[I a.kd, I a.fr, I a.ou, I a.kh, I a.kw, I a.sr, I a.pd, x, y], I i] w (Ret fun r w' => Ext w w' ∧ r = B (layOk a i)) := by
  refine enter (vs := [.agg #[I a.kd, I a.fr, I a.ou, I a.kh, I a.kw, I a.sr, I a.pd, x, y], I i]) Tryz.func28 rfl rfl rfl ?_
  refine c_seq (c_region ?_)
  obtain ⟨g2, w2, hr2, l2, x2, k2⟩ := r_boxS (P := Tryz.prog) (w := w) (T := 46) (cs := [I a.kd, I a.fr, I a.ou, I a.kh, I a.kw, I a.sr, I a.pd, x, y])
  refine o_box rfl rfl hr2 (o_assign rfl rfl (o_nil (n_then (c_seq ?_))))
  refine c_cut (fun b : Bool => [(1, I i), (2, .pointer (some ⟨g2, 0, none⟩)), (5, B b)]) (fun b w' => w2 = w' ∧ b = kernB a) ?_ ?_
  · refine c_region (o_fieldAddr rfl rfl (r_fAt (o := 3) Tryz.underlying46 rfl (by kernel_rfl) rfl) (o_load rfl rfl (r_load1 Tryz.underlying3 rfl (k2.cell (i := 3) rfl)) ?_))
    refine o_call call_TWithin rfl rfl (TWithin_spec) ?_
    rintro v10 _ ⟨rfl, rfl⟩
    refine o_move rfl rfl ?_
    refine o_dec (fun h11 => ?_) (fun h11 => ?_)
    · refine g_yes rfl (o_fieldAddr rfl rfl (r_fAt (o := 4) Tryz.underlying46 rfl (by kernel_rfl) rfl) (g_yes rfl (o_load rfl rfl (r_load1 Tryz.underlying3 rfl (k2.cell (i := 4) rfl)) ?_)))
      refine g_yes rfl (o_call call_TWithin rfl rfl (TWithin_spec) ?_)
      rintro v14 _ ⟨rfl, rfl⟩
      refine o_pick_t rfl rfl rfl (o_move rfl rfl ?_)
      refine o_dec (fun h16 => ?_) (fun h16 => ?_)
      · refine g_yes rfl (o_fieldAddr rfl rfl (r_fAt (o := 5) Tryz.underlying46 rfl (by kernel_rfl) rfl) (g_yes rfl (o_load rfl rfl (r_load1 Tryz.underlying3 rfl (k2.cell (i := 5) rfl)) ?_)))
        refine g_yes rfl (o_call call_TWithin rfl rfl (TWithin_spec) ?_)
        rintro v19 _ ⟨rfl, rfl⟩
        refine o_pick_t rfl rfl rfl (o_assign rfl rfl (o_nil ?_))
        exact n_meet ((decide (1 ≤ a.sr ∧ a.sr ≤ 64))) ⟨rfl, rfl, rfl, trivial⟩ ⟨rfl, by
          unfold kernB
          first
          | exact decide_eq_decide.2 ⟨fun h => ⟨h11, h16, h⟩, fun h => h.2.2⟩
          | exact (decide_eq_false (fun h => h16 h.2.1)).symm
          | exact (decide_eq_false (fun h => h11 h.1)).symm⟩
      · refine g_no rfl rfl rfl (g_no rfl rfl rfl (g_no rfl rfl rfl (o_pick_f rfl rfl rfl (o_assign rfl rfl (o_nil ?_)))))
        exact n_meet (false) ⟨rfl, rfl, rfl, trivial⟩ ⟨rfl, by
          unfold kernB
          first
          | exact decide_eq_decide.2 ⟨fun h => ⟨h11, h16, h⟩, fun h => h.2.2⟩
          | exact (decide_eq_false (fun h => h16 h.2.1)).symm
          | exact (decide_eq_false (fun h => h11 h.1)).symm⟩
    · refine g_no rfl rfl rfl (g_no rfl rfl rfl (g_no rfl rfl rfl (o_pick_f rfl rfl rfl (o_move rfl rfl (g_no rfl rfl rfl (g_no rfl rfl rfl (g_no rfl rfl rfl (o_pick_f rfl rfl rfl (o_assign rfl rfl ?_)))))))))
      refine o_nil ?_
      exact n_meet (false) ⟨rfl, rfl, rfl, trivial⟩ ⟨rfl, by
        unfold kernB
        first
        | exact decide_eq_decide.2 ⟨fun h => ⟨h11, h16, h⟩, fun h => h.2.2⟩
        | exact (decide_eq_false (fun h => h16 h.2.1)).symm
        | exact (decide_eq_false (fun h => h11 h.1)).symm⟩
  rintro b5 _ ⟨rfl, hb5⟩
  refine n_then (c_seq ?_)
  refine c_cut (fun b : Bool => [(1, I i), (2, .pointer (some ⟨g2, 0, none⟩)), (5, B b5), (6, B b)]) (fun b w' => w2 = w' ∧ b = noneB a) ?_ ?_
  · refine c_region (o_fieldAddr rfl rfl (r_fAt (o := 7) Tryz.underlying46 rfl (by kernel_rfl) rfl) (o_load rfl rfl (r_load1 Tryz.underlying44 rfl (k2.cell (i := 7) rfl)) ?_))
    refine o_len rfl rfl (r_lenDs Tryz.underlying44 (ha.ext x2)) (o_bin rfl rfl rfl (r_eql_i) (o_move rfl rfl ?_))
    refine o_dec (fun h25 => ?_) (fun h25 => ?_)
    · refine g_yes rfl (o_fieldAddr rfl rfl (r_fAt (o := 8) Tryz.underlying46 rfl (by kernel_rfl) rfl) (g_yes rfl (o_load rfl rfl (r_load1 Tryz.underlying44 rfl (k2.cell (i := 8) rfl)) ?_)))
      refine g_yes rfl (o_len rfl rfl (r_lenDs Tryz.underlying44 (ha'.ext x2)) (g_yes rfl (o_bin rfl rfl rfl (r_eql_i) (o_pick_t rfl rfl rfl (o_assign rfl rfl (o_nil ?_))))))
      exact n_meet ((decide ((a.bs.length : Int) = 0))) ⟨rfl, rfl, rfl, rfl, trivial⟩ ⟨rfl, by
        unfold noneB
        first
        | exact decide_eq_decide.2 ⟨fun h => ⟨h25, h⟩, fun h => h.2⟩
        | exact (decide_eq_false (fun h => h25 h.1)).symm⟩
    · refine g_no rfl rfl rfl (g_no rfl rfl rfl (g_no rfl rfl rfl (g_no rfl rfl rfl (o_pick_f rfl rfl rfl (o_assign rfl rfl (o_nil ?_))))))
      exact n_meet (false) ⟨rfl, rfl, rfl, rfl, trivial⟩ ⟨rfl, by
        unfold noneB
        first
        | exact decide_eq_decide.2 ⟨fun h => ⟨h25, h⟩, fun h => h.2⟩
        | exact (decide_eq_false (fun h => h25 h.1)).symm⟩
  rintro b6 _ ⟨rfl, hb6⟩
  refine n_then (c_seq ?_)
  refine c_cut (fun b : Bool => [(1, I i), (2, .pointer (some ⟨g2, 0, none⟩)), (5, B b5), (6, B b6), (7, B b)]) (fun b w' => w2 = w' ∧ b = flatB a) ?_ ?_
  · refine c_region (o_fieldAddr rfl rfl (r_fAt (o := 3) Tryz.underlying46 rfl (by kernel_rfl) rfl) (o_load rfl rfl (r_load1 Tryz.underlying3 rfl (k2.cell (i := 3) rfl)) ?_))
    refine o_bin rfl rfl rfl (r_eql_i) (o_move rfl rfl ?_)
    refine o_dec (fun h34 => ?_) (fun h34 => ?_)
    · refine g_yes rfl (o_fieldAddr rfl rfl (r_fAt (o := 4) Tryz.underlying46 rfl (by kernel_rfl) rfl) (g_yes rfl (o_load rfl rfl (r_load1 Tryz.underlying3 rfl (k2.cell (i := 4) rfl)) ?_)))
      refine g_yes rfl (o_bin rfl rfl rfl (r_eql_i) (o_pick_t rfl rfl rfl (o_move rfl rfl ?_)))
      refine o_dec (fun h39 => ?_) (fun h39 => ?_)
      · refine g_yes rfl (o_fieldAddr rfl rfl (r_fAt (o := 5) Tryz.underlying46 rfl (by kernel_rfl) rfl) (g_yes rfl (o_load rfl rfl (r_load1 Tryz.underlying3 rfl (k2.cell (i := 5) rfl)) ?_)))
        refine g_yes rfl (o_bin rfl rfl rfl (r_eql_i) (o_pick_t rfl rfl rfl (o_move rfl rfl ?_)))
        refine o_dec (fun h44 => ?_) (fun h44 => ?_)
        · refine g_yes rfl (o_fieldAddr rfl rfl (r_fAt (o := 6) Tryz.underlying46 rfl (by kernel_rfl) rfl) (g_yes rfl (o_load rfl rfl (r_load1 Tryz.underlying3 rfl (k2.cell (i := 6) rfl)) ?_)))
          refine g_yes rfl (o_bin rfl rfl rfl (r_eql_i) (o_pick_t rfl rfl rfl (o_assign rfl rfl (o_nil ?_))))
          exact n_meet ((decide (a.pd = 0))) ⟨rfl, rfl, rfl, rfl, rfl, trivial⟩ ⟨rfl, by
            unfold flatB
            first
            | exact decide_eq_decide.2 ⟨fun h => ⟨h34, h39, h44, h⟩, fun h => h.2.2.2⟩
            | exact (decide_eq_false (fun h => h44 h.2.2.1)).symm
            | exact (decide_eq_false (fun h => h39 h.2.1)).symm
            | exact (decide_eq_false (fun h => h34 h.1)).symm⟩
        · refine g_no rfl rfl rfl (g_no rfl rfl rfl (g_no rfl rfl rfl (o_pick_f rfl rfl rfl (o_assign rfl rfl (o_nil ?_)))))
          exact n_meet (false) ⟨rfl, rfl, rfl, rfl, rfl, trivial⟩ ⟨rfl, by
            unfold flatB
            first
            | exact decide_eq_decide.2 ⟨fun h => ⟨h34, h39, h44, h⟩, fun h => h.2.2.2⟩
            | exact (decide_eq_false (fun h => h44 h.2.2.1)).symm
            | exact (decide_eq_false (fun h => h39 h.2.1)).symm
            | exact (decide_eq_false (fun h => h34 h.1)).symm⟩
      · refine g_no rfl rfl rfl (g_no rfl rfl rfl (g_no rfl rfl rfl (o_pick_f rfl rfl rfl (o_move rfl rfl (g_no rfl rfl rfl (g_no rfl rfl rfl (g_no rfl rfl rfl (o_pick_f rfl rfl rfl (o_assign rfl rfl ?_)))))))))
        refine o_nil ?_
        exact n_meet (false) ⟨rfl, rfl, rfl, rfl, rfl, trivial⟩ ⟨rfl, by
          unfold flatB
          first
          | exact decide_eq_decide.2 ⟨fun h => ⟨h34, h39, h44, h⟩, fun h => h.2.2.2⟩
          | exact (decide_eq_false (fun h => h44 h.2.2.1)).symm
          | exact (decide_eq_false (fun h => h39 h.2.1)).symm
          | exact (decide_eq_false (fun h => h34 h.1)).symm⟩
    · refine g_no rfl rfl rfl (g_no rfl rfl rfl (g_no rfl rfl rfl (o_pick_f rfl rfl rfl (o_move rfl rfl (g_no rfl rfl rfl (g_no rfl rfl rfl (g_no rfl rfl rfl (o_pick_f rfl rfl rfl (o_move rfl rfl ?_)))))))))
      refine g_no rfl rfl rfl (g_no rfl rfl rfl (g_no rfl rfl rfl (o_pick_f rfl rfl rfl (o_assign rfl rfl (o_nil ?_)))))
      exact n_meet (false) ⟨rfl, rfl, rfl, rfl, rfl, trivial⟩ ⟨rfl, by
        unfold flatB
        first
        | exact decide_eq_decide.2 ⟨fun h => ⟨h34, h39, h44, h⟩, fun h => h.2.2.2⟩
        | exact (decide_eq_false (fun h => h44 h.2.2.1)).symm
        | exact (decide_eq_false (fun h => h39 h.2.1)).symm
        | exact (decide_eq_false (fun h => h34 h.1)).symm⟩
  rintro b7 _ ⟨rfl, hb7⟩
  refine n_then (c_seq (c_seq ?_))
  rcases hc1 : canQ a.ws <;> rcases hc2 : canQ a.bs
  · refine c_region (o_fieldAddr rfl rfl (r_fAt (o := 7) Tryz.underlying46 rfl (by kernel_rfl) rfl) (o_load rfl rfl (r_load1 Tryz.underlying44 rfl (k2.cell (i := 7) rfl)) ?_))
    refine o_call call_TCanon rfl rfl ((by have := TCanon_spec (ha.ext x2) hs; rw [hc1] at this; exact this)) ?_
    rintro v51 w51 ⟨x51, rfl⟩
    refine o_not rfl rfl r_not (o_move rfl rfl (g_no rfl rfl rfl (g_no rfl rfl rfl (g_no rfl rfl rfl (g_no rfl rfl rfl (o_pick_t rfl rfl rfl (o_nil (n_then (c_yes rfl (c_seq (c_region (o_assign rfl rfl ?_))))))))))))
    refine o_nil (n_then (c_ret (r_then (r_body1 rfl rfl ?_))))
    exact ⟨_, rfl, (x2.trans x51), congrArg B (by unfold layOk; rw [hc1]; first | rfl | (rw [hc2]; rfl))⟩
  · refine c_region (o_fieldAddr rfl rfl (r_fAt (o := 7) Tryz.underlying46 rfl (by kernel_rfl) rfl) (o_load rfl rfl (r_load1 Tryz.underlying44 rfl (k2.cell (i := 7) rfl)) ?_))
    refine o_call call_TCanon rfl rfl ((by have := TCanon_spec (ha.ext x2) hs; rw [hc1] at this; exact this)) ?_
    rintro v51 w51 ⟨x51, rfl⟩
    refine o_not rfl rfl r_not (o_move rfl rfl (g_no rfl rfl rfl (g_no rfl rfl rfl (g_no rfl rfl rfl (g_no rfl rfl rfl (o_pick_t rfl rfl rfl (o_nil (n_then (c_yes rfl (c_seq (c_region (o_assign rfl rfl ?_))))))))))))
    refine o_nil (n_then (c_ret (r_then (r_body1 rfl rfl ?_))))
    exact ⟨_, rfl, (x2.trans x51), congrArg B (by unfold layOk; rw [hc1]; first | rfl | (rw [hc2]; rfl))⟩
  · refine c_region (o_fieldAddr rfl rfl (r_fAt (o := 7) Tryz.underlying46 rfl (by kernel_rfl) rfl) (o_load rfl rfl (r_load1 Tryz.underlying44 rfl (k2.cell (i := 7) rfl)) ?_))
    refine o_call call_TCanon rfl rfl ((by have := TCanon_spec (ha.ext x2) hs; rw [hc1] at this; exact this)) ?_
    rintro v51 w51 ⟨x51, rfl⟩
    refine o_not rfl rfl r_not (o_move rfl rfl (g_yes rfl (o_fieldAddr rfl rfl (r_fAt (o := 8) Tryz.underlying46 rfl (by kernel_rfl) rfl) (g_yes rfl (o_load rfl rfl (r_load1 Tryz.underlying44 rfl (x51.cell_some (k2.cell (i := 8) rfl))) ?_)))))
    refine g_yes rfl (o_call call_TCanon rfl rfl ((by have := TCanon_spec (ha'.ext (x2.trans x51)) hs'; rw [hc2] at this; exact this)) ?_)
    rintro v56 w56 ⟨x56, rfl⟩
    refine g_yes rfl (o_not rfl rfl r_not (o_pick_f rfl rfl rfl (o_nil (n_then (c_yes rfl (c_seq (c_region (o_assign rfl rfl (o_nil (n_then (c_ret (r_then (r_body1 rfl rfl ?_)))))))))))))
    exact ⟨_, rfl, ((x2.trans x51).trans x56), congrArg B (by unfold layOk; rw [hc1]; first | rfl | (rw [hc2]; rfl))⟩
  · refine c_region (o_fieldAddr rfl rfl (r_fAt (o := 7) Tryz.underlying46 rfl (by kernel_rfl) rfl) (o_load rfl rfl (r_load1 Tryz.underlying44 rfl (k2.cell (i := 7) rfl)) ?_))
    refine o_call call_TCanon rfl rfl ((by have := TCanon_spec (ha.ext x2) hs; rw [hc1] at this; exact this)) ?_
    rintro v51 w51 ⟨x51, rfl⟩
    refine o_not rfl rfl r_not (o_move rfl rfl (g_yes rfl (o_fieldAddr rfl rfl (r_fAt (o := 8) Tryz.underlying46 rfl (by kernel_rfl) rfl) (g_yes rfl (o_load rfl rfl (r_load1 Tryz.underlying44 rfl (x51.cell_some (k2.cell (i := 8) rfl))) ?_)))))
    refine g_yes rfl (o_call call_TCanon rfl rfl ((by have := TCanon_spec (ha'.ext (x2.trans x51)) hs'; rw [hc2] at this; exact this)) ?_)
    rintro v56 w56 ⟨x56, rfl⟩
    refine g_yes rfl (o_not rfl rfl r_not (o_pick_f rfl rfl rfl (o_nil (n_then (c_no rfl (c_skip (n_then (c_seq (c_seq (c_region (o_fieldAddr rfl rfl (r_fAt (o := 0) Tryz.underlying46 rfl (by kernel_rfl) rfl) ?_)))))))))))
    refine o_load rfl rfl (r_load1 Tryz.underlying3 rfl ((x51.trans x56).cell_some (k2.cell (i := 0) rfl))) (o_nil (n_then (c_block (c_seq (c_region (o_bin rfl rfl rfl (r_eql_i) ?_))))))
    refine o_assign rfl rfl (o_nil (n_then ?_))
    refine c_if rfl (fun h61 => ?_) (fun h61 => ?_)
    · refine c_seq ?_
      cases b7
      · refine c_region (o_move rfl rfl (o_move rfl rfl (g_no rfl rfl rfl (g_no rfl rfl rfl (g_no rfl rfl rfl (o_pick_f rfl rfl rfl (o_move rfl rfl (g_no rfl rfl rfl (g_no rfl rfl rfl (g_no rfl rfl rfl ?_))))))))))
        refine o_pick_f rfl rfl rfl (o_move rfl rfl (g_no rfl rfl rfl (g_no rfl rfl rfl (g_no rfl rfl rfl (g_no rfl rfl rfl (g_no rfl rfl rfl (g_no rfl rfl rfl (o_pick_f rfl rfl rfl (o_move rfl rfl ?_)))))))))
        refine g_no rfl rfl rfl (g_no rfl rfl rfl (g_no rfl rfl rfl (g_no rfl rfl rfl (g_no rfl rfl rfl (g_no rfl rfl rfl (o_pick_f rfl rfl rfl (o_assign rfl rfl (o_nil (n_then (c_ret (r_block ?_)))))))))))
        refine r_then (r_body1 rfl rfl ?_)
        exact ⟨_, rfl, ((x2.trans x51).trans x56), by
          have hL := layC_1 (i := i) h61
          first
          | exact congrArg B (layOk_if hc1 hc2 hL ⟨fun h => h.2.2.2.2, fun h => ⟨hb7.symm, h69, h74, h82, h⟩⟩)
          | exact congrArg B (layOk_no hc1 hc2 hL fun h => h82 h.2.2.2.1)
          | exact congrArg B (layOk_no hc1 hc2 hL fun h => h74 h.2.2.1)
          | exact congrArg B (layOk_no hc1 hc2 hL fun h => h69 h.2.1)
          | exact congrArg B (layOk_no hc1 hc2 hL fun h => by rw [← hb7] at h; exact absurd h.1 (by decide))⟩
      · refine c_region (o_move rfl rfl (o_move rfl rfl (g_yes rfl (o_fieldAddr rfl rfl (r_fAt (o := 1) Tryz.underlying46 rfl (by kernel_rfl) rfl) (g_yes rfl ?_)))))
        refine o_load rfl rfl (r_load1 Tryz.underlying3 rfl ((x51.trans x56).cell_some (k2.cell (i := 1) rfl))) (g_yes rfl (o_bin rfl rfl rfl (r_eql_i) (o_pick_t rfl rfl rfl ?_)))
        refine o_move rfl rfl ?_
        refine o_dec (fun h69 => ?_) (fun h69 => ?_)
        · refine g_yes rfl (o_fieldAddr rfl rfl (r_fAt (o := 2) Tryz.underlying46 rfl (by kernel_rfl) rfl) (g_yes rfl (o_load rfl rfl (r_load1 Tryz.underlying3 rfl ((x51.trans x56).cell_some (k2.cell (i := 2) rfl))) ?_)))
          refine g_yes rfl (o_call call_TWithin rfl rfl (TWithin_spec) ?_)
          rintro v72 _ ⟨rfl, rfl⟩
          refine o_pick_t rfl rfl rfl (o_move rfl rfl ?_)
          refine o_dec (fun h74 => ?_) (fun h74 => ?_)
          · refine g_yes rfl (o_fieldAddr rfl rfl (r_fAt (o := 8) Tryz.underlying46 rfl (by kernel_rfl) rfl) (g_yes rfl (o_load rfl rfl (r_load1 Tryz.underlying44 rfl ((x51.trans x56).cell_some (k2.cell (i := 8) rfl))) ?_)))
            refine g_yes rfl (o_len rfl rfl (r_lenDs Tryz.underlying44 (ha'.ext ((x2.trans x51).trans x56))) (g_yes rfl (o_fieldAddr rfl rfl (r_fAt (o := 2) Tryz.underlying46 rfl (by kernel_rfl) rfl) ?_)))
            refine g_yes rfl (o_load rfl rfl (r_load1 Tryz.underlying3 rfl ((x51.trans x56).cell_some (k2.cell (i := 2) rfl))) (g_yes rfl (o_bin rfl rfl rfl (r_eql_i) (o_pick_t rfl rfl rfl ?_))))
            refine o_move rfl rfl ?_
            refine o_dec (fun h82 => ?_) (fun h82 => ?_)
            · refine g_yes rfl (o_fieldAddr rfl rfl (r_fAt (o := 7) Tryz.underlying46 rfl (by kernel_rfl) rfl) (g_yes rfl (o_load rfl rfl (r_load1 Tryz.underlying44 rfl ((x51.trans x56).cell_some (k2.cell (i := 7) rfl))) ?_)))
              refine g_yes rfl (o_len rfl rfl (r_lenDs Tryz.underlying44 (ha.ext ((x2.trans x51).trans x56))) (g_yes rfl (o_fieldAddr rfl rfl (r_fAt (o := 2) Tryz.underlying46 rfl (by kernel_rfl) rfl) ?_)))
              refine g_yes rfl (o_load rfl rfl (r_load1 Tryz.underlying3 rfl ((x51.trans x56).cell_some (k2.cell (i := 2) rfl))) (g_yes rfl (o_call call_TMult rfl rfl ((TMult_spec (by omega) h74.1)) ?_)))
              rintro v88 _ ⟨rfl, rfl⟩
              refine o_pick_t rfl rfl rfl (o_assign rfl rfl (o_nil (n_then (c_ret (r_block (r_then (r_body1 rfl rfl ?_)))))))
              exact ⟨_, rfl, ((x2.trans x51).trans x56), by
                have hL := layC_1 (i := i) h61
                first
                | exact congrArg B (layOk_if hc1 hc2 hL ⟨fun h => h.2.2.2.2, fun h => ⟨hb7.symm, h69, h74, h82, h⟩⟩)
                | exact congrArg B (layOk_no hc1 hc2 hL fun h => h82 h.2.2.2.1)
                | exact congrArg B (layOk_no hc1 hc2 hL fun h => h74 h.2.2.1)
                | exact congrArg B (layOk_no hc1 hc2 hL fun h => h69 h.2.1)
                | exact congrArg B (layOk_no hc1 hc2 hL fun h => by rw [← hb7] at h; exact absurd h.1 (by decide))⟩
            · refine g_no rfl rfl rfl (g_no rfl rfl rfl (g_no rfl rfl rfl (g_no rfl rfl rfl (g_no rfl rfl rfl (g_no rfl rfl rfl (o_pick_f rfl rfl rfl (o_assign rfl rfl (o_nil (n_then (c_ret (r_block ?_)))))))))))
              refine r_then (r_body1 rfl rfl ?_)
              exact ⟨_, rfl, ((x2.trans x51).trans x56), by
                have hL := layC_1 (i := i) h61
                first
                | exact congrArg B (layOk_if hc1 hc2 hL ⟨fun h => h.2.2.2.2, fun h => ⟨hb7.symm, h69, h74, h82, h⟩⟩)
                | exact congrArg B (layOk_no hc1 hc2 hL fun h => h82 h.2.2.2.1)
                | exact congrArg B (layOk_no hc1 hc2 hL fun h => h74 h.2.2.1)
                | exact congrArg B (layOk_no hc1 hc2 hL fun h => h69 h.2.1)
                | exact congrArg B (layOk_no hc1 hc2 hL fun h => by rw [← hb7] at h; exact absurd h.1 (by decide))⟩
          · refine g_no rfl rfl rfl (g_no rfl rfl rfl (g_no rfl rfl rfl (g_no rfl rfl rfl (g_no rfl rfl rfl (g_no rfl rfl rfl (o_pick_f rfl rfl rfl (o_move rfl rfl (g_no rfl rfl rfl (g_no rfl rfl rfl ?_)))))))))
            refine g_no rfl rfl rfl (g_no rfl rfl rfl (g_no rfl rfl rfl (g_no rfl rfl rfl (o_pick_f rfl rfl rfl (o_assign rfl rfl (o_nil (n_then (c_ret (r_block (r_then (r_body1 rfl rfl ?_)))))))))))
            exact ⟨_, rfl, ((x2.trans x51).trans x56), by
              have hL := layC_1 (i := i) h61
              first
              | exact congrArg B (layOk_if hc1 hc2 hL ⟨fun h => h.2.2.2.2, fun h => ⟨hb7.symm, h69, h74, h82, h⟩⟩)
              | exact congrArg B (layOk_no hc1 hc2 hL fun h => h82 h.2.2.2.1)
              | exact congrArg B (layOk_no hc1 hc2 hL fun h => h74 h.2.2.1)
              | exact congrArg B (layOk_no hc1 hc2 hL fun h => h69 h.2.1)
              | exact congrArg B (layOk_no hc1 hc2 hL fun h => by rw [← hb7] at h; exact absurd h.1 (by decide))⟩
        · refine g_no rfl rfl rfl (g_no rfl rfl rfl (g_no rfl rfl rfl (o_pick_f rfl rfl rfl (o_move rfl rfl (g_no rfl rfl rfl (g_no rfl rfl rfl (g_no rfl rfl rfl (g_no rfl rfl rfl (g_no rfl rfl rfl ?_)))))))))
          refine g_no rfl rfl rfl (o_pick_f rfl rfl rfl (o_move rfl rfl (g_no rfl rfl rfl (g_no rfl rfl rfl (g_no rfl rfl rfl (g_no rfl rfl rfl (g_no rfl rfl rfl (g_no rfl rfl rfl (o_pick_f rfl rfl rfl ?_)))))))))
          refine o_assign rfl rfl (o_nil (n_then (c_ret (r_block (r_then (r_body1 rfl rfl ?_))))))
          exact ⟨_, rfl, ((x2.trans x51).trans x56), by
            have hL := layC_1 (i := i) h61
            first
            | exact congrArg B (layOk_if hc1 hc2 hL ⟨fun h => h.2.2.2.2, fun h => ⟨hb7.symm, h69, h74, h82, h⟩⟩)
            | exact congrArg B (layOk_no hc1 hc2 hL fun h => h82 h.2.2.2.1)
            | exact congrArg B (layOk_no hc1 hc2 hL fun h => h74 h.2.2.1)
            | exact congrArg B (layOk_no hc1 hc2 hL fun h => h69 h.2.1)
            | exact congrArg B (layOk_no hc1 hc2 hL fun h => by rw [← hb7] at h; exact absurd h.1 (by decide))⟩
    · refine c_seq (c_region (o_bin rfl rfl rfl (r_eql_i) (o_assign rfl rfl (o_nil (n_then ?_)))))
      refine c_if rfl (fun h90 => ?_) (fun h90 => ?_)
      · refine c_seq ?_
        cases b5
        · refine c_region (o_move rfl rfl (o_move rfl rfl (g_no rfl rfl rfl (g_no rfl rfl rfl (g_no rfl rfl rfl (o_pick_f rfl rfl rfl (o_move rfl rfl (g_no rfl rfl rfl (g_no rfl rfl rfl (g_no rfl rfl rfl ?_))))))))))
          refine o_pick_f rfl rfl rfl (o_move rfl rfl (g_no rfl rfl rfl (g_no rfl rfl rfl (g_no rfl rfl rfl (g_no rfl rfl rfl (g_no rfl rfl rfl (o_pick_f rfl rfl rfl (o_move rfl rfl (g_no rfl rfl rfl ?_)))))))))
          refine g_no rfl rfl rfl (g_no rfl rfl rfl (g_no rfl rfl rfl (g_no rfl rfl rfl (o_pick_f rfl rfl rfl (o_move rfl rfl (g_no rfl rfl rfl (g_no rfl rfl rfl (g_no rfl rfl rfl (o_pick_f rfl rfl rfl ?_)))))))))
          refine o_move rfl rfl (g_no rfl rfl rfl (g_no rfl rfl rfl (g_no rfl rfl rfl (g_no rfl rfl rfl (g_no rfl rfl rfl (g_no rfl rfl rfl (o_pick_f rfl rfl rfl (o_move rfl rfl (g_no rfl rfl rfl ?_)))))))))
          refine g_no rfl rfl rfl (g_no rfl rfl rfl (g_no rfl rfl rfl (g_no rfl rfl rfl (g_no rfl rfl rfl (g_no rfl rfl rfl (g_no rfl rfl rfl (g_no rfl rfl rfl (g_no rfl rfl rfl (g_no rfl rfl rfl ?_)))))))))
          refine g_no rfl rfl rfl (o_pick_f rfl rfl rfl (o_assign rfl rfl (o_nil (n_then (c_ret (r_block (r_then (r_body1 rfl rfl ?_))))))))
          exact ⟨_, rfl, ((x2.trans x51).trans x56), by
            have hL := layC_2 (i := i) h90
            first
            | exact congrArg B (layOk_if hc1 hc2 hL ⟨fun h => h.2.2.2.2.2.2.2, fun h => ⟨hb5.symm, h98, h103, h110, h117, h122, h130, h⟩⟩)
            | exact congrArg B (layOk_no hc1 hc2 hL fun h => h130 h.2.2.2.2.2.2.1)
            | exact congrArg B (layOk_no hc1 hc2 hL fun h => h122 h.2.2.2.2.2.1)
            | exact congrArg B (layOk_no hc1 hc2 hL fun h => h117 h.2.2.2.2.1)
            | exact congrArg B (layOk_no hc1 hc2 hL fun h => h110 h.2.2.2.1)
            | exact congrArg B (layOk_no hc1 hc2 hL fun h => h103 h.2.2.1)
            | exact congrArg B (layOk_no hc1 hc2 hL fun h => h98 h.2.1)
            | exact congrArg B (layOk_no hc1 hc2 hL fun h => by rw [← hb5] at h; exact absurd h.1 (by decide))⟩
        · refine c_region (o_move rfl rfl (o_move rfl rfl (g_yes rfl (o_fieldAddr rfl rfl (r_fAt (o := 1) Tryz.underlying46 rfl (by kernel_rfl) rfl) (g_yes rfl ?_)))))
          refine o_load rfl rfl (r_load1 Tryz.underlying3 rfl ((x51.trans x56).cell_some (k2.cell (i := 1) rfl))) (g_yes rfl (o_bin rfl rfl rfl (r_eql_i) (o_pick_t rfl rfl rfl ?_)))
          refine o_move rfl rfl ?_
          refine o_dec (fun h98 => ?_) (fun h98 => ?_)
          · refine g_yes rfl (o_fieldAddr rfl rfl (r_fAt (o := 6) Tryz.underlying46 rfl (by kernel_rfl) rfl) (g_yes rfl (o_load rfl rfl (r_load1 Tryz.underlying3 rfl ((x51.trans x56).cell_some (k2.cell (i := 6) rfl))) ?_)))
            refine g_yes rfl (o_bin rfl rfl rfl (r_geq_i) (o_pick_t rfl rfl rfl (o_move rfl rfl ?_)))
            refine o_dec (fun h103 => ?_) (fun h103 => ?_)
            · refine g_yes rfl (o_fieldAddr rfl rfl (r_fAt (o := 6) Tryz.underlying46 rfl (by kernel_rfl) rfl) (g_yes rfl (o_load rfl rfl (r_load1 Tryz.underlying3 rfl ((x51.trans x56).cell_some (k2.cell (i := 6) rfl))) ?_)))
              refine g_yes rfl (o_fieldAddr rfl rfl (r_fAt (o := 3) Tryz.underlying46 rfl (by kernel_rfl) rfl) (g_yes rfl (o_load rfl rfl (r_load1 Tryz.underlying3 rfl ((x51.trans x56).cell_some (k2.cell (i := 3) rfl))) ?_)))
              refine g_yes rfl (o_bin rfl rfl rfl (r_lss_i) (o_pick_t rfl rfl rfl (o_move rfl rfl ?_)))
              refine o_dec (fun h110 => ?_) (fun h110 => ?_)
              · refine g_yes rfl (o_fieldAddr rfl rfl (r_fAt (o := 6) Tryz.underlying46 rfl (by kernel_rfl) rfl) (g_yes rfl (o_load rfl rfl (r_load1 Tryz.underlying3 rfl ((x51.trans x56).cell_some (k2.cell (i := 6) rfl))) ?_)))
                refine g_yes rfl (o_fieldAddr rfl rfl (r_fAt (o := 4) Tryz.underlying46 rfl (by kernel_rfl) rfl) (g_yes rfl (o_load rfl rfl (r_load1 Tryz.underlying3 rfl ((x51.trans x56).cell_some (k2.cell (i := 4) rfl))) ?_)))
                refine g_yes rfl (o_bin rfl rfl rfl (r_lss_i) (o_pick_t rfl rfl rfl (o_move rfl rfl ?_)))
                refine o_dec (fun h117 => ?_) (fun h117 => ?_)
                · refine g_yes rfl (o_fieldAddr rfl rfl (r_fAt (o := 2) Tryz.underlying46 rfl (by kernel_rfl) rfl) (g_yes rfl (o_load rfl rfl (r_load1 Tryz.underlying3 rfl ((x51.trans x56).cell_some (k2.cell (i := 2) rfl))) ?_)))
                  refine g_yes rfl (o_call call_TWithin rfl rfl (TWithin_spec) ?_)
                  rintro v120 _ ⟨rfl, rfl⟩
                  refine o_pick_t rfl rfl rfl (o_move rfl rfl ?_)
                  refine o_dec (fun h122 => ?_) (fun h122 => ?_)
                  · refine g_yes rfl (o_fieldAddr rfl rfl (r_fAt (o := 8) Tryz.underlying46 rfl (by kernel_rfl) rfl) (g_yes rfl (o_load rfl rfl (r_load1 Tryz.underlying44 rfl ((x51.trans x56).cell_some (k2.cell (i := 8) rfl))) ?_)))
                    refine g_yes rfl (o_len rfl rfl (r_lenDs Tryz.underlying44 (ha'.ext ((x2.trans x51).trans x56))) (g_yes rfl (o_fieldAddr rfl rfl (r_fAt (o := 2) Tryz.underlying46 rfl (by kernel_rfl) rfl) ?_)))
                    refine g_yes rfl (o_load rfl rfl (r_load1 Tryz.underlying3 rfl ((x51.trans x56).cell_some (k2.cell (i := 2) rfl))) (g_yes rfl (o_bin rfl rfl rfl (r_eql_i) (o_pick_t rfl rfl rfl ?_))))
                    refine o_move rfl rfl ?_
                    refine o_dec (fun h130 => ?_) (fun h130 => ?_)
                    · refine g_yes rfl (o_fieldAddr rfl rfl (r_fAt (o := 7) Tryz.underlying46 rfl (by kernel_rfl) rfl) (g_yes rfl (o_load rfl rfl (r_load1 Tryz.underlying44 rfl ((x51.trans x56).cell_some (k2.cell (i := 7) rfl))) ?_)))
                      refine g_yes rfl (o_len rfl rfl (r_lenDs Tryz.underlying44 (ha.ext ((x2.trans x51).trans x56))) (g_yes rfl (o_fieldAddr rfl rfl (r_fAt (o := 2) Tryz.underlying46 rfl (by kernel_rfl) rfl) ?_)))
                      refine g_yes rfl (o_load rfl rfl (r_load1 Tryz.underlying3 rfl ((x51.trans x56).cell_some (k2.cell (i := 2) rfl))) (g_yes rfl (o_fieldAddr rfl rfl (r_fAt (o := 3) Tryz.underlying46 rfl (by kernel_rfl) rfl) ?_)))
                      refine g_yes rfl (o_load rfl rfl (r_load1 Tryz.underlying3 rfl ((x51.trans x56).cell_some (k2.cell (i := 3) rfl))) (g_yes rfl ?_))
                      have hk := of_decide_eq_true hb5.symm
                      have m1 := mul_rng h122.1 h122.2 hk.1.1 hk.1.2
                      refine o_bin rfl rfl rfl (r_mul_i (by omega) (by omega)) (g_yes rfl (o_fieldAddr rfl rfl (r_fAt (o := 4) Tryz.underlying46 rfl (by kernel_rfl) rfl) ?_))
                      refine g_yes rfl (o_load rfl rfl (r_load1 Tryz.underlying3 rfl ((x51.trans x56).cell_some (k2.cell (i := 4) rfl))) (g_yes rfl ?_))
                      have m2 := mul_rng m1.1 m1.2 hk.2.1.1 hk.2.1.2
                      refine o_bin rfl rfl rfl (r_mul_i (by omega) (by omega)) (g_yes rfl (o_call call_TMult rfl rfl ((TMult_spec (by omega) m2.1)) ?_))
                      rintro v142 _ ⟨rfl, rfl⟩
                      refine o_pick_t rfl rfl rfl (o_assign rfl rfl (o_nil (n_then (c_ret (r_block (r_then (r_body1 rfl rfl ?_)))))))
                      exact ⟨_, rfl, ((x2.trans x51).trans x56), by
                        have hL := layC_2 (i := i) h90
                        first
                        | exact congrArg B (layOk_if hc1 hc2 hL ⟨fun h => h.2.2.2.2.2.2.2, fun h => ⟨hb5.symm, h98, h103, h110, h117, h122, h130, h⟩⟩)
                        | exact congrArg B (layOk_no hc1 hc2 hL fun h => h130 h.2.2.2.2.2.2.1)
                        | exact congrArg B (layOk_no hc1 hc2 hL fun h => h122 h.2.2.2.2.2.1)
                        | exact congrArg B (layOk_no hc1 hc2 hL fun h => h117 h.2.2.2.2.1)
                        | exact congrArg B (layOk_no hc1 hc2 hL fun h => h110 h.2.2.2.1)
                        | exact congrArg B (layOk_no hc1 hc2 hL fun h => h103 h.2.2.1)
                        | exact congrArg B (layOk_no hc1 hc2 hL fun h => h98 h.2.1)
                        | exact congrArg B (layOk_no hc1 hc2 hL fun h => by rw [← hb5] at h; exact absurd h.1 (by decide))⟩
                    · refine g_no rfl rfl rfl (g_no rfl rfl rfl (g_no rfl rfl rfl (g_no rfl rfl rfl (g_no rfl rfl rfl (g_no rfl rfl rfl (g_no rfl rfl rfl (g_no rfl rfl rfl (g_no rfl rfl rfl (g_no rfl rfl rfl ?_)))))))))
                      refine g_no rfl rfl rfl (g_no rfl rfl rfl (o_pick_f rfl rfl rfl (o_assign rfl rfl (o_nil (n_then (c_ret (r_block (r_then (r_body1 rfl rfl ?_)))))))))
                      exact ⟨_, rfl, ((x2.trans x51).trans x56), by
                        have hL := layC_2 (i := i) h90
                        first
                        | exact congrArg B (layOk_if hc1 hc2 hL ⟨fun h => h.2.2.2.2.2.2.2, fun h => ⟨hb5.symm, h98, h103, h110, h117, h122, h130, h⟩⟩)
                        | exact congrArg B (layOk_no hc1 hc2 hL fun h => h130 h.2.2.2.2.2.2.1)
                        | exact congrArg B (layOk_no hc1 hc2 hL fun h => h122 h.2.2.2.2.2.1)
                        | exact congrArg B (layOk_no hc1 hc2 hL fun h => h117 h.2.2.2.2.1)
                        | exact congrArg B (layOk_no hc1 hc2 hL fun h => h110 h.2.2.2.1)
                        | exact congrArg B (layOk_no hc1 hc2 hL fun h => h103 h.2.2.1)
                        | exact congrArg B (layOk_no hc1 hc2 hL fun h => h98 h.2.1)
                        | exact congrArg B (layOk_no hc1 hc2 hL fun h => by rw [← hb5] at h; exact absurd h.1 (by decide))⟩
                  · refine g_no rfl rfl rfl (g_no rfl rfl rfl (g_no rfl rfl rfl (g_no rfl rfl rfl (g_no rfl rfl rfl (g_no rfl rfl rfl (o_pick_f rfl rfl rfl (o_move rfl rfl (g_no rfl rfl rfl (g_no rfl rfl rfl ?_)))))))))
                    refine g_no rfl rfl rfl (g_no rfl rfl rfl (g_no rfl rfl rfl (g_no rfl rfl rfl (g_no rfl rfl rfl (g_no rfl rfl rfl (g_no rfl rfl rfl (g_no rfl rfl rfl (g_no rfl rfl rfl (g_no rfl rfl rfl ?_)))))))))
                    refine o_pick_f rfl rfl rfl (o_assign rfl rfl (o_nil (n_then (c_ret (r_block (r_then (r_body1 rfl rfl ?_)))))))
                    exact ⟨_, rfl, ((x2.trans x51).trans x56), by
                      have hL := layC_2 (i := i) h90
                      first
                      | exact congrArg B (layOk_if hc1 hc2 hL ⟨fun h => h.2.2.2.2.2.2.2, fun h => ⟨hb5.symm, h98, h103, h110, h117, h122, h130, h⟩⟩)
                      | exact congrArg B (layOk_no hc1 hc2 hL fun h => h130 h.2.2.2.2.2.2.1)
                      | exact congrArg B (layOk_no hc1 hc2 hL fun h => h122 h.2.2.2.2.2.1)
                      | exact congrArg B (layOk_no hc1 hc2 hL fun h => h117 h.2.2.2.2.1)
                      | exact congrArg B (layOk_no hc1 hc2 hL fun h => h110 h.2.2.2.1)
                      | exact congrArg B (layOk_no hc1 hc2 hL fun h => h103 h.2.2.1)
                      | exact congrArg B (layOk_no hc1 hc2 hL fun h => h98 h.2.1)
                      | exact congrArg B (layOk_no hc1 hc2 hL fun h => by rw [← hb5] at h; exact absurd h.1 (by decide))⟩
                · refine g_no rfl rfl rfl (g_no rfl rfl rfl (g_no rfl rfl rfl (o_pick_f rfl rfl rfl (o_move rfl rfl (g_no rfl rfl rfl (g_no rfl rfl rfl (g_no rfl rfl rfl (g_no rfl rfl rfl (g_no rfl rfl rfl ?_)))))))))
                  refine g_no rfl rfl rfl (o_pick_f rfl rfl rfl (o_move rfl rfl (g_no rfl rfl rfl (g_no rfl rfl rfl (g_no rfl rfl rfl (g_no rfl rfl rfl (g_no rfl rfl rfl (g_no rfl rfl rfl (g_no rfl rfl rfl ?_)))))))))
                  refine g_no rfl rfl rfl (g_no rfl rfl rfl (g_no rfl rfl rfl (g_no rfl rfl rfl (g_no rfl rfl rfl (o_pick_f rfl rfl rfl (o_assign rfl rfl (o_nil (n_then (c_ret (r_block (r_then (r_body1 rfl rfl ?_))))))))))))
                  exact ⟨_, rfl, ((x2.trans x51).trans x56), by
                    have hL := layC_2 (i := i) h90
                    first
                    | exact congrArg B (layOk_if hc1 hc2 hL ⟨fun h => h.2.2.2.2.2.2.2, fun h => ⟨hb5.symm, h98, h103, h110, h117, h122, h130, h⟩⟩)
                    | exact congrArg B (layOk_no hc1 hc2 hL fun h => h130 h.2.2.2.2.2.2.1)
                    | exact congrArg B (layOk_no hc1 hc2 hL fun h => h122 h.2.2.2.2.2.1)
                    | exact congrArg B (layOk_no hc1 hc2 hL fun h => h117 h.2.2.2.2.1)
                    | exact congrArg B (layOk_no hc1 hc2 hL fun h => h110 h.2.2.2.1)
                    | exact congrArg B (layOk_no hc1 hc2 hL fun h => h103 h.2.2.1)
                    | exact congrArg B (layOk_no hc1 hc2 hL fun h => h98 h.2.1)
                    | exact congrArg B (layOk_no hc1 hc2 hL fun h => by rw [← hb5] at h; exact absurd h.1 (by decide))⟩
              · refine g_no rfl rfl rfl (g_no rfl rfl rfl (g_no rfl rfl rfl (g_no rfl rfl rfl (g_no rfl rfl rfl (o_pick_f rfl rfl rfl (o_move rfl rfl (g_no rfl rfl rfl (g_no rfl rfl rfl (g_no rfl rfl rfl ?_)))))))))
                refine o_pick_f rfl rfl rfl (o_move rfl rfl (g_no rfl rfl rfl (g_no rfl rfl rfl (g_no rfl rfl rfl (g_no rfl rfl rfl (g_no rfl rfl rfl (g_no rfl rfl rfl (o_pick_f rfl rfl rfl (o_move rfl rfl ?_)))))))))
                refine g_no rfl rfl rfl (g_no rfl rfl rfl (g_no rfl rfl rfl (g_no rfl rfl rfl (g_no rfl rfl rfl (g_no rfl rfl rfl (g_no rfl rfl rfl (g_no rfl rfl rfl (g_no rfl rfl rfl (g_no rfl rfl rfl ?_)))))))))
                refine g_no rfl rfl rfl (g_no rfl rfl rfl (o_pick_f rfl rfl rfl (o_assign rfl rfl (o_nil (n_then (c_ret (r_block (r_then (r_body1 rfl rfl ?_)))))))))
                exact ⟨_, rfl, ((x2.trans x51).trans x56), by
                  have hL := layC_2 (i := i) h90
                  first
                  | exact congrArg B (layOk_if hc1 hc2 hL ⟨fun h => h.2.2.2.2.2.2.2, fun h => ⟨hb5.symm, h98, h103, h110, h117, h122, h130, h⟩⟩)
                  | exact congrArg B (layOk_no hc1 hc2 hL fun h => h130 h.2.2.2.2.2.2.1)
                  | exact congrArg B (layOk_no hc1 hc2 hL fun h => h122 h.2.2.2.2.2.1)
                  | exact congrArg B (layOk_no hc1 hc2 hL fun h => h117 h.2.2.2.2.1)
                  | exact congrArg B (layOk_no hc1 hc2 hL fun h => h110 h.2.2.2.1)
                  | exact congrArg B (layOk_no hc1 hc2 hL fun h => h103 h.2.2.1)
                  | exact congrArg B (layOk_no hc1 hc2 hL fun h => h98 h.2.1)
                  | exact congrArg B (layOk_no hc1 hc2 hL fun h => by rw [← hb5] at h; exact absurd h.1 (by decide))⟩
            · refine g_no rfl rfl rfl (g_no rfl rfl rfl (g_no rfl rfl rfl (g_no rfl rfl rfl (g_no rfl rfl rfl (o_pick_f rfl rfl rfl (o_move rfl rfl (g_no rfl rfl rfl (g_no rfl rfl rfl (g_no rfl rfl rfl ?_)))))))))
              refine g_no rfl rfl rfl (g_no rfl rfl rfl (o_pick_f rfl rfl rfl (o_move rfl rfl (g_no rfl rfl rfl (g_no rfl rfl rfl (g_no rfl rfl rfl (o_pick_f rfl rfl rfl (o_move rfl rfl (g_no rfl rfl rfl ?_)))))))))
              refine g_no rfl rfl rfl (g_no rfl rfl rfl (g_no rfl rfl rfl (g_no rfl rfl rfl (g_no rfl rfl rfl (o_pick_f rfl rfl rfl (o_move rfl rfl (g_no rfl rfl rfl (g_no rfl rfl rfl (g_no rfl rfl rfl ?_)))))))))
              refine g_no rfl rfl rfl (g_no rfl rfl rfl (g_no rfl rfl rfl (g_no rfl rfl rfl (g_no rfl rfl rfl (g_no rfl rfl rfl (g_no rfl rfl rfl (g_no rfl rfl rfl (g_no rfl rfl rfl (o_pick_f rfl rfl rfl ?_)))))))))
              refine o_assign rfl rfl (o_nil (n_then (c_ret (r_block (r_then (r_body1 rfl rfl ?_))))))
              exact ⟨_, rfl, ((x2.trans x51).trans x56), by
                have hL := layC_2 (i := i) h90
                first
                | exact congrArg B (layOk_if hc1 hc2 hL ⟨fun h => h.2.2.2.2.2.2.2, fun h => ⟨hb5.symm, h98, h103, h110, h117, h122, h130, h⟩⟩)
                | exact congrArg B (layOk_no hc1 hc2 hL fun h => h130 h.2.2.2.2.2.2.1)
                | exact congrArg B (layOk_no hc1 hc2 hL fun h => h122 h.2.2.2.2.2.1)
                | exact congrArg B (layOk_no hc1 hc2 hL fun h => h117 h.2.2.2.2.1)
                | exact congrArg B (layOk_no hc1 hc2 hL fun h => h110 h.2.2.2.1)
                | exact congrArg B (layOk_no hc1 hc2 hL fun h => h103 h.2.2.1)
                | exact congrArg B (layOk_no hc1 hc2 hL fun h => h98 h.2.1)
                | exact congrArg B (layOk_no hc1 hc2 hL fun h => by rw [← hb5] at h; exact absurd h.1 (by decide))⟩
          · refine g_no rfl rfl rfl (g_no rfl rfl rfl (g_no rfl rfl rfl (o_pick_f rfl rfl rfl (o_move rfl rfl (g_no rfl rfl rfl (g_no rfl rfl rfl (g_no rfl rfl rfl (g_no rfl rfl rfl (g_no rfl rfl rfl ?_)))))))))
            refine o_pick_f rfl rfl rfl (o_move rfl rfl (g_no rfl rfl rfl (g_no rfl rfl rfl (g_no rfl rfl rfl (g_no rfl rfl rfl (g_no rfl rfl rfl (o_pick_f rfl rfl rfl (o_move rfl rfl (g_no rfl rfl rfl ?_)))))))))
            refine g_no rfl rfl rfl (g_no rfl rfl rfl (o_pick_f rfl rfl rfl (o_move rfl rfl (g_no rfl rfl rfl (g_no rfl rfl rfl (g_no rfl rfl rfl (g_no rfl rfl rfl (g_no rfl rfl rfl (g_no rfl rfl rfl ?_)))))))))
            refine o_pick_f rfl rfl rfl (o_move rfl rfl (g_no rfl rfl rfl (g_no rfl rfl rfl (g_no rfl rfl rfl (g_no rfl rfl rfl (g_no rfl rfl rfl (g_no rfl rfl rfl (g_no rfl rfl rfl (g_no rfl rfl rfl ?_)))))))))
            refine g_no rfl rfl rfl (g_no rfl rfl rfl (g_no rfl rfl rfl (g_no rfl rfl rfl (o_pick_f rfl rfl rfl (o_assign rfl rfl (o_nil (n_then (c_ret (r_block (r_then (r_body1 rfl rfl ?_)))))))))))
            exact ⟨_, rfl, ((x2.trans x51).trans x56), by
              have hL := layC_2 (i := i) h90
              first
              | exact congrArg B (layOk_if hc1 hc2 hL ⟨fun h => h.2.2.2.2.2.2.2, fun h => ⟨hb5.symm, h98, h103, h110, h117, h122, h130, h⟩⟩)
              | exact congrArg B (layOk_no hc1 hc2 hL fun h => h130 h.2.2.2.2.2.2.1)
              | exact congrArg B (layOk_no hc1 hc2 hL fun h => h122 h.2.2.2.2.2.1)
              | exact congrArg B (layOk_no hc1 hc2 hL fun h => h117 h.2.2.2.2.1)
              | exact congrArg B (layOk_no hc1 hc2 hL fun h => h110 h.2.2.2.1)
              | exact congrArg B (layOk_no hc1 hc2 hL fun h => h103 h.2.2.1)
              | exact congrArg B (layOk_no hc1 hc2 hL fun h => h98 h.2.1)
              | exact congrArg B (layOk_no hc1 hc2 hL fun h => by rw [← hb5] at h; exact absurd h.1 (by decide))⟩
      · refine c_seq ?_
        refine c_cut (fun b : Bool => [(1, I i), (2, .pointer (some ⟨g2, 0, none⟩)), (5, B b5), (6, B b6), (7, B b7), (60, I a.kd), (144, B b)]) (fun b w' => w56 = w' ∧ b = decide (a.kd = 3 ∨ a.kd = 4)) ?_ ?_
        · refine c_seq (c_region (o_bin rfl rfl rfl (r_eql_i) (o_assign rfl rfl (o_nil (n_then ?_)))))
          refine c_if rfl (fun h144 => ?_) (fun h144 => ?_)
          · refine c_skip ?_
            exact n_meet ((decide (a.kd = 3))) ⟨rfl, rfl, rfl, rfl, rfl, rfl, rfl, trivial⟩ ⟨rfl, by first | exact decide_eq_decide.2 (by omega)⟩
          · refine c_region (o_bin rfl rfl rfl (r_eql_i) (o_assign rfl rfl (o_nil ?_)))
            exact n_meet ((decide (a.kd = 4))) ⟨rfl, rfl, rfl, rfl, rfl, rfl, rfl, trivial⟩ ⟨rfl, by first | exact decide_eq_decide.2 (by omega)⟩
        rintro b144 _ ⟨rfl, hb144⟩
        refine n_then ?_
        refine c_cond rfl (fun h144 => ?_) (fun h144 => ?_)
        · refine c_seq ?_
          cases b5
          · refine c_region (o_move rfl rfl (o_move rfl rfl (g_no rfl rfl rfl (g_no rfl rfl rfl (g_no rfl rfl rfl (o_pick_f rfl rfl rfl (o_move rfl rfl (g_no rfl rfl rfl (g_no rfl rfl rfl (g_no rfl rfl rfl ?_))))))))))
            refine o_pick_f rfl rfl rfl (o_move rfl rfl (g_no rfl rfl rfl (g_no rfl rfl rfl (g_no rfl rfl rfl (o_pick_f rfl rfl rfl (o_move rfl rfl (g_no rfl rfl rfl (o_pick_f rfl rfl rfl ?_))))))))
            refine o_assign rfl rfl (o_nil (n_then (c_ret (r_block (r_then (r_body1 rfl rfl ?_))))))
            exact ⟨_, rfl, ((x2.trans x51).trans x56), by
              have hL := layC_3 (i := i) (of_decide_eq_true (hb144.symm.trans h144))
              first
              | exact congrArg B (layOk_if hc1 hc2 hL ⟨fun h => hb6.trans h.2.2.2.2, fun h => ⟨hb5.symm, h153, h158, h163, hb6.symm.trans h⟩⟩)
              | exact congrArg B (layOk_no hc1 hc2 hL fun h => h163 h.2.2.2.1)
              | exact congrArg B (layOk_no hc1 hc2 hL fun h => h158 h.2.2.1)
              | exact congrArg B (layOk_no hc1 hc2 hL fun h => h153 h.2.1)
              | exact congrArg B (layOk_no hc1 hc2 hL fun h => by rw [← hb5] at h; exact absurd h.1 (by decide))⟩
          · refine c_region (o_move rfl rfl (o_move rfl rfl (g_yes rfl (o_fieldAddr rfl rfl (r_fAt (o := 1) Tryz.underlying46 rfl (by kernel_rfl) rfl) (g_yes rfl ?_)))))
            refine o_load rfl rfl (r_load1 Tryz.underlying3 rfl ((x51.trans x56).cell_some (k2.cell (i := 1) rfl))) (g_yes rfl (o_bin rfl rfl rfl (r_eql_i) (o_pick_t rfl rfl rfl ?_)))
            refine o_move rfl rfl ?_
            refine o_dec (fun h153 => ?_) (fun h153 => ?_)
            · refine g_yes rfl (o_fieldAddr rfl rfl (r_fAt (o := 6) Tryz.underlying46 rfl (by kernel_rfl) rfl) (g_yes rfl (o_load rfl rfl (r_load1 Tryz.underlying3 rfl ((x51.trans x56).cell_some (k2.cell (i := 6) rfl))) ?_)))
              refine g_yes rfl (o_bin rfl rfl rfl (r_eql_i) (o_pick_t rfl rfl rfl (o_move rfl rfl ?_)))
              refine o_dec (fun h158 => ?_) (fun h158 => ?_)
              · refine g_yes rfl (o_fieldAddr rfl rfl (r_fAt (o := 2) Tryz.underlying46 rfl (by kernel_rfl) rfl) (g_yes rfl (o_load rfl rfl (r_load1 Tryz.underlying3 rfl ((x51.trans x56).cell_some (k2.cell (i := 2) rfl))) ?_)))
                refine g_yes rfl (o_bin rfl rfl rfl (r_eql_i) (o_pick_t rfl rfl rfl (o_move rfl rfl ?_)))
                refine o_dec (fun h163 => ?_) (fun h163 => ?_)
                · refine g_yes rfl (o_move rfl rfl (o_pick_t rfl rfl rfl (o_assign rfl rfl (o_nil (n_then (c_ret (r_block (r_then (r_body1 rfl rfl ?_)))))))))
                  exact ⟨_, rfl, ((x2.trans x51).trans x56), by
                    have hL := layC_3 (i := i) (of_decide_eq_true (hb144.symm.trans h144))
                    first
                    | exact congrArg B (layOk_if hc1 hc2 hL ⟨fun h => hb6.trans h.2.2.2.2, fun h => ⟨hb5.symm, h153, h158, h163, hb6.symm.trans h⟩⟩)
                    | exact congrArg B (layOk_no hc1 hc2 hL fun h => h163 h.2.2.2.1)
                    | exact congrArg B (layOk_no hc1 hc2 hL fun h => h158 h.2.2.1)
                    | exact congrArg B (layOk_no hc1 hc2 hL fun h => h153 h.2.1)
                    | exact congrArg B (layOk_no hc1 hc2 hL fun h => by rw [← hb5] at h; exact absurd h.1 (by decide))⟩
                · refine g_no rfl rfl rfl (o_pick_f rfl rfl rfl (o_assign rfl rfl (o_nil (n_then (c_ret (r_block (r_then (r_body1 rfl rfl ?_))))))))
                  exact ⟨_, rfl, ((x2.trans x51).trans x56), by
                    have hL := layC_3 (i := i) (of_decide_eq_true (hb144.symm.trans h144))
                    first
                    | exact congrArg B (layOk_if hc1 hc2 hL ⟨fun h => hb6.trans h.2.2.2.2, fun h => ⟨hb5.symm, h153, h158, h163, hb6.symm.trans h⟩⟩)
                    | exact congrArg B (layOk_no hc1 hc2 hL fun h => h163 h.2.2.2.1)
                    | exact congrArg B (layOk_no hc1 hc2 hL fun h => h158 h.2.2.1)
                    | exact congrArg B (layOk_no hc1 hc2 hL fun h => h153 h.2.1)
                    | exact congrArg B (layOk_no hc1 hc2 hL fun h => by rw [← hb5] at h; exact absurd h.1 (by decide))⟩
              · refine g_no rfl rfl rfl (g_no rfl rfl rfl (g_no rfl rfl rfl (o_pick_f rfl rfl rfl (o_move rfl rfl (g_no rfl rfl rfl (o_pick_f rfl rfl rfl (o_assign rfl rfl (o_nil (n_then (c_ret (r_block ?_)))))))))))
                refine r_then (r_body1 rfl rfl ?_)
                exact ⟨_, rfl, ((x2.trans x51).trans x56), by
                  have hL := layC_3 (i := i) (of_decide_eq_true (hb144.symm.trans h144))
                  first
                  | exact congrArg B (layOk_if hc1 hc2 hL ⟨fun h => hb6.trans h.2.2.2.2, fun h => ⟨hb5.symm, h153, h158, h163, hb6.symm.trans h⟩⟩)
                  | exact congrArg B (layOk_no hc1 hc2 hL fun h => h163 h.2.2.2.1)
                  | exact congrArg B (layOk_no hc1 hc2 hL fun h => h158 h.2.2.1)
                  | exact congrArg B (layOk_no hc1 hc2 hL fun h => h153 h.2.1)
                  | exact congrArg B (layOk_no hc1 hc2 hL fun h => by rw [← hb5] at h; exact absurd h.1 (by decide))⟩
            · refine g_no rfl rfl rfl (g_no rfl rfl rfl (g_no rfl rfl rfl (o_pick_f rfl rfl rfl (o_move rfl rfl (g_no rfl rfl rfl (g_no rfl rfl rfl (g_no rfl rfl rfl (o_pick_f rfl rfl rfl (o_move rfl rfl ?_)))))))))
              refine g_no rfl rfl rfl (o_pick_f rfl rfl rfl (o_assign rfl rfl (o_nil (n_then (c_ret (r_block (r_then (r_body1 rfl rfl ?_))))))))
              exact ⟨_, rfl, ((x2.trans x51).trans x56), by
                have hL := layC_3 (i := i) (of_decide_eq_true (hb144.symm.trans h144))
                first
                | exact congrArg B (layOk_if hc1 hc2 hL ⟨fun h => hb6.trans h.2.2.2.2, fun h => ⟨hb5.symm, h153, h158, h163, hb6.symm.trans h⟩⟩)
                | exact congrArg B (layOk_no hc1 hc2 hL fun h => h163 h.2.2.2.1)
                | exact congrArg B (layOk_no hc1 hc2 hL fun h => h158 h.2.2.1)
                | exact congrArg B (layOk_no hc1 hc2 hL fun h => h153 h.2.1)
                | exact congrArg B (layOk_no hc1 hc2 hL fun h => by rw [← hb5] at h; exact absurd h.1 (by decide))⟩
        · refine c_seq ?_
          refine c_cut (fun b : Bool => [(1, I i), (2, .pointer (some ⟨g2, 0, none⟩)), (5, B b5), (6, B b6), (7, B b7), (60, I a.kd), (166, B b)]) (fun b w' => w56 = w' ∧ b = decide (a.kd = 5 ∨ a.kd = 6)) ?_ ?_
          · refine c_seq (c_region (o_bin rfl rfl rfl (r_eql_i) (o_assign rfl rfl (o_nil (n_then ?_)))))
            refine c_if rfl (fun h166 => ?_) (fun h166 => ?_)
            · refine c_skip ?_
              exact n_meet ((decide (a.kd = 5))) ⟨rfl, rfl, rfl, rfl, rfl, rfl, rfl, trivial⟩ ⟨rfl, by first | exact decide_eq_decide.2 (by omega)⟩
            · refine c_region (o_bin rfl rfl rfl (r_eql_i) (o_assign rfl rfl (o_nil ?_)))
              exact n_meet ((decide (a.kd = 6))) ⟨rfl, rfl, rfl, rfl, rfl, rfl, rfl, trivial⟩ ⟨rfl, by first | exact decide_eq_decide.2 (by omega)⟩
          rintro b166 _ ⟨rfl, hb166⟩
          refine n_then ?_
          refine c_cond rfl (fun h166 => ?_) (fun h166 => ?_)
          · refine c_seq ?_
            cases b7
            · refine c_region (o_move rfl rfl (o_move rfl rfl (g_no rfl rfl rfl (g_no rfl rfl rfl (g_no rfl rfl rfl (o_pick_f rfl rfl rfl (o_move rfl rfl (g_no rfl rfl rfl (g_no rfl rfl rfl (g_no rfl rfl rfl ?_))))))))))
              refine o_pick_f rfl rfl rfl (o_move rfl rfl (g_no rfl rfl rfl (o_pick_f rfl rfl rfl (o_assign rfl rfl (o_nil (n_then (c_ret (r_block (r_then (r_body1 rfl rfl ?_))))))))))
              exact ⟨_, rfl, ((x2.trans x51).trans x56), by
                have hL := layC_5 (i := i) (of_decide_eq_true (hb166.symm.trans h166))
                first
                | exact congrArg B (layOk_if hc1 hc2 hL ⟨fun h => hb6.trans h.2.2.2, fun h => ⟨hb7.symm, h175, h180, hb6.symm.trans h⟩⟩)
                | exact congrArg B (layOk_no hc1 hc2 hL fun h => h180 h.2.2.1)
                | exact congrArg B (layOk_no hc1 hc2 hL fun h => h175 h.2.1)
                | exact congrArg B (layOk_no hc1 hc2 hL fun h => by rw [← hb7] at h; exact absurd h.1 (by decide))⟩
            · refine c_region (o_move rfl rfl (o_move rfl rfl (g_yes rfl (o_fieldAddr rfl rfl (r_fAt (o := 1) Tryz.underlying46 rfl (by kernel_rfl) rfl) (g_yes rfl ?_)))))
              refine o_load rfl rfl (r_load1 Tryz.underlying3 rfl ((x51.trans x56).cell_some (k2.cell (i := 1) rfl))) (g_yes rfl (o_bin rfl rfl rfl (r_eql_i) (o_pick_t rfl rfl rfl ?_)))
              refine o_move rfl rfl ?_
              refine o_dec (fun h175 => ?_) (fun h175 => ?_)
              · refine g_yes rfl (o_fieldAddr rfl rfl (r_fAt (o := 2) Tryz.underlying46 rfl (by kernel_rfl) rfl) (g_yes rfl (o_load rfl rfl (r_load1 Tryz.underlying3 rfl ((x51.trans x56).cell_some (k2.cell (i := 2) rfl))) ?_)))
                refine g_yes rfl (o_bin rfl rfl rfl (r_eql_i) (o_pick_t rfl rfl rfl (o_move rfl rfl ?_)))
                refine o_dec (fun h180 => ?_) (fun h180 => ?_)
                · refine g_yes rfl (o_move rfl rfl (o_pick_t rfl rfl rfl (o_assign rfl rfl (o_nil (n_then (c_ret (r_block (r_then (r_body1 rfl rfl ?_)))))))))
                  exact ⟨_, rfl, ((x2.trans x51).trans x56), by
                    have hL := layC_5 (i := i) (of_decide_eq_true (hb166.symm.trans h166))
                    first
                    | exact congrArg B (layOk_if hc1 hc2 hL ⟨fun h => hb6.trans h.2.2.2, fun h => ⟨hb7.symm, h175, h180, hb6.symm.trans h⟩⟩)
                    | exact congrArg B (layOk_no hc1 hc2 hL fun h => h180 h.2.2.1)
                    | exact congrArg B (layOk_no hc1 hc2 hL fun h => h175 h.2.1)
                    | exact congrArg B (layOk_no hc1 hc2 hL fun h => by rw [← hb7] at h; exact absurd h.1 (by decide))⟩
                · refine g_no rfl rfl rfl (o_pick_f rfl rfl rfl (o_assign rfl rfl (o_nil (n_then (c_ret (r_block (r_then (r_body1 rfl rfl ?_))))))))
                  exact ⟨_, rfl, ((x2.trans x51).trans x56), by
                    have hL := layC_5 (i := i) (of_decide_eq_true (hb166.symm.trans h166))
                    first
                    | exact congrArg B (layOk_if hc1 hc2 hL ⟨fun h => hb6.trans h.2.2.2, fun h => ⟨hb7.symm, h175, h180, hb6.symm.trans h⟩⟩)
                    | exact congrArg B (layOk_no hc1 hc2 hL fun h => h180 h.2.2.1)
                    | exact congrArg B (layOk_no hc1 hc2 hL fun h => h175 h.2.1)
                    | exact congrArg B (layOk_no hc1 hc2 hL fun h => by rw [← hb7] at h; exact absurd h.1 (by decide))⟩
              · refine g_no rfl rfl rfl (g_no rfl rfl rfl (g_no rfl rfl rfl (o_pick_f rfl rfl rfl (o_move rfl rfl (g_no rfl rfl rfl (o_pick_f rfl rfl rfl (o_assign rfl rfl (o_nil (n_then (c_ret (r_block ?_)))))))))))
                refine r_then (r_body1 rfl rfl ?_)
                exact ⟨_, rfl, ((x2.trans x51).trans x56), by
                  have hL := layC_5 (i := i) (of_decide_eq_true (hb166.symm.trans h166))
                  first
                  | exact congrArg B (layOk_if hc1 hc2 hL ⟨fun h => hb6.trans h.2.2.2, fun h => ⟨hb7.symm, h175, h180, hb6.symm.trans h⟩⟩)
                  | exact congrArg B (layOk_no hc1 hc2 hL fun h => h180 h.2.2.1)
                  | exact congrArg B (layOk_no hc1 hc2 hL fun h => h175 h.2.1)
                  | exact congrArg B (layOk_no hc1 hc2 hL fun h => by rw [← hb7] at h; exact absurd h.1 (by decide))⟩
          · refine c_seq (c_region (o_bin rfl rfl rfl (r_eql_i) (o_assign rfl rfl (o_nil (n_then ?_)))))
            refine c_if rfl (fun h183 => ?_) (fun h183 => ?_)
            · refine c_seq ?_
              cases b7
              · refine c_region (o_move rfl rfl (o_move rfl rfl (g_no rfl rfl rfl (g_no rfl rfl rfl (g_no rfl rfl rfl (g_no rfl rfl rfl (g_no rfl rfl rfl (o_pick_f rfl rfl rfl (o_move rfl rfl (g_no rfl rfl rfl ?_))))))))))
                refine g_no rfl rfl rfl (g_no rfl rfl rfl (o_pick_f rfl rfl rfl (o_move rfl rfl (g_no rfl rfl rfl (o_pick_f rfl rfl rfl (o_assign rfl rfl (o_nil (n_then (c_ret (r_block (r_then (r_body1 rfl rfl ?_))))))))))))
                exact ⟨_, rfl, ((x2.trans x51).trans x56), by
                  have hL := layC_7 (i := i) h183
                  first
                  | exact congrArg B (layOk_if hc1 hc2 hL ⟨fun h => hb6.trans h.2.2.2, fun h => ⟨hb7.symm, h193, h198, hb6.symm.trans h⟩⟩)
                  | exact congrArg B (layOk_no hc1 hc2 hL fun h => h198 h.2.2.1)
                  | exact congrArg B (layOk_no hc1 hc2 hL fun h => h193 h.2.1)
                  | exact congrArg B (layOk_no hc1 hc2 hL fun h => by rw [← hb7] at h; exact absurd h.1 (by decide))⟩
              · refine c_region (o_move rfl rfl (o_move rfl rfl (g_yes rfl (o_fieldAddr rfl rfl (r_fAt (o := 1) Tryz.underlying46 rfl (by kernel_rfl) rfl) (g_yes rfl ?_)))))
                refine o_load rfl rfl (r_load1 Tryz.underlying3 rfl ((x51.trans x56).cell_some (k2.cell (i := 1) rfl))) (g_yes rfl (o_move rfl rfl (g_yes rfl (o_bin rfl rfl rfl (r_sub_i (by omega) (by omega)) ?_))))
                refine g_yes rfl (o_call call_TWithin rfl rfl (TWithin_spec) ?_)
                rintro v191 _ ⟨rfl, rfl⟩
                refine o_pick_t rfl rfl rfl (o_move rfl rfl ?_)
                refine o_dec (fun h193 => ?_) (fun h193 => ?_)
                · refine g_yes rfl (o_fieldAddr rfl rfl (r_fAt (o := 2) Tryz.underlying46 rfl (by kernel_rfl) rfl) (g_yes rfl (o_load rfl rfl (r_load1 Tryz.underlying3 rfl ((x51.trans x56).cell_some (k2.cell (i := 2) rfl))) ?_)))
                  refine g_yes rfl (o_bin rfl rfl rfl (r_eql_i) (o_pick_t rfl rfl rfl (o_move rfl rfl ?_)))
                  refine o_dec (fun h198 => ?_) (fun h198 => ?_)
                  · refine g_yes rfl (o_move rfl rfl (o_pick_t rfl rfl rfl (o_assign rfl rfl (o_nil (n_then (c_ret (r_block (r_then (r_body1 rfl rfl ?_)))))))))
                    exact ⟨_, rfl, ((x2.trans x51).trans x56), by
                      have hL := layC_7 (i := i) h183
                      first
                      | exact congrArg B (layOk_if hc1 hc2 hL ⟨fun h => hb6.trans h.2.2.2, fun h => ⟨hb7.symm, h193, h198, hb6.symm.trans h⟩⟩)
                      | exact congrArg B (layOk_no hc1 hc2 hL fun h => h198 h.2.2.1)
                      | exact congrArg B (layOk_no hc1 hc2 hL fun h => h193 h.2.1)
                      | exact congrArg B (layOk_no hc1 hc2 hL fun h => by rw [← hb7] at h; exact absurd h.1 (by decide))⟩
                  · refine g_no rfl rfl rfl (o_pick_f rfl rfl rfl (o_assign rfl rfl (o_nil (n_then (c_ret (r_block (r_then (r_body1 rfl rfl ?_))))))))
                    exact ⟨_, rfl, ((x2.trans x51).trans x56), by
                      have hL := layC_7 (i := i) h183
                      first
                      | exact congrArg B (layOk_if hc1 hc2 hL ⟨fun h => hb6.trans h.2.2.2, fun h => ⟨hb7.symm, h193, h198, hb6.symm.trans h⟩⟩)
                      | exact congrArg B (layOk_no hc1 hc2 hL fun h => h198 h.2.2.1)
                      | exact congrArg B (layOk_no hc1 hc2 hL fun h => h193 h.2.1)
                      | exact congrArg B (layOk_no hc1 hc2 hL fun h => by rw [← hb7] at h; exact absurd h.1 (by decide))⟩
                · refine g_no rfl rfl rfl (g_no rfl rfl rfl (g_no rfl rfl rfl (o_pick_f rfl rfl rfl (o_move rfl rfl (g_no rfl rfl rfl (o_pick_f rfl rfl rfl (o_assign rfl rfl (o_nil (n_then (c_ret (r_block ?_)))))))))))
                  refine r_then (r_body1 rfl rfl ?_)
                  exact ⟨_, rfl, ((x2.trans x51).trans x56), by
                    have hL := layC_7 (i := i) h183
                    first
                    | exact congrArg B (layOk_if hc1 hc2 hL ⟨fun h => hb6.trans h.2.2.2, fun h => ⟨hb7.symm, h193, h198, hb6.symm.trans h⟩⟩)
                    | exact congrArg B (layOk_no hc1 hc2 hL fun h => h198 h.2.2.1)
                    | exact congrArg B (layOk_no hc1 hc2 hL fun h => h193 h.2.1)
                    | exact congrArg B (layOk_no hc1 hc2 hL fun h => by rw [← hb7] at h; exact absurd h.1 (by decide))⟩
            · refine c_skip (n_block (n_then (c_seq (c_region (o_assign rfl rfl (o_nil (n_then (c_ret (r_body1 rfl rfl ?_)))))))))
              exact ⟨_, rfl, ((x2.trans x51).trans x56), by
                have k1 := of_decide_eq_false (hb144.symm.trans h144)
                have k2 := of_decide_eq_false (hb166.symm.trans h166)
                rw [layOk_c hc1 hc2]; exact congrArg B (decide_eq_false (layC_no (by omega))).symm⟩
def laysOk : Nat → List LayD → Bool
  | _, [] => true
  | i, l :: t => layOk l i && laysOk (i + 1) t
def validM (m : ModD) : Bool := shapeOk m.inp && decide (m.lays.length ≤ 64) && laysOk 0 m.lays
def smallM (m : ModD) : Prop := ∀ l ∈ m.lays, small l.ws ∧ small l.bs
theorem laysOk_drop {l : List LayD} {i : Nat} (hi : i < l.length) : laysOk i (l.drop i) = (layOk l[i] i && laysOk (i + 1) (l.drop (i + 1))) := by
  rw [List.drop_eq_getElem_cons hi]; rfl
theorem TValid_spec {w : World} {m : ModD} {x y : Value} (ha : DsV dIn m.inp x w) (ha' : DsV dLay m.lays y w) (hs : smallM m) :
    Calls Tryz.prog 12 #[.agg #[x, y]] w (Ret fun r w' => Ext w w' ∧ r = B (validM m)) := by
  refine enter (vs := [.agg #[x, y]]) Tryz.func12 rfl rfl rfl ?_
  have hll := ha'.len
  refine c_seq (c_region ?_)
  obtain ⟨g1, w1, hr1, l1, x1, k1⟩ := r_boxS (P := Tryz.prog) (w := w) (T := 25) (cs := [x, y])
  refine o_box rfl rfl hr1 (o_assign rfl rfl (o_nil (n_then (c_seq (c_seq ?_)))))
  rcases hc : shapeOk m.inp
  · refine c_region (o_fieldAddr rfl rfl (r_fAt (o := 0) Tryz.underlying25 rfl (by kernel_rfl) rfl) (o_load rfl rfl (r_load1 Tryz.underlying22 rfl (k1.cell (i := 0) rfl)) ?_))
    refine o_call call_TShape rfl rfl ((by have := TShape_spec (ha.ext x1); rw [hc] at this; exact this)) ?_
    rintro v6 w6 ⟨x6, rfl⟩
    refine o_not rfl rfl r_not (o_move rfl rfl (g_no rfl rfl rfl (g_no rfl rfl rfl (g_no rfl rfl rfl (g_no rfl rfl rfl (o_pick_t rfl rfl rfl (o_nil (n_then (c_yes rfl (c_seq (c_region (o_assign rfl rfl ?_))))))))))))
    refine o_nil (n_then (c_ret (r_then (r_body1 rfl rfl ?_))))
    exact ⟨_, rfl, (x1.trans x6), congrArg B (by unfold validM; rw [hc]; first | rfl | (rw [decide_eq_false (by omega)]; rfl))⟩
  · refine c_region (o_fieldAddr rfl rfl (r_fAt (o := 0) Tryz.underlying25 rfl (by kernel_rfl) rfl) (o_load rfl rfl (r_load1 Tryz.underlying22 rfl (k1.cell (i := 0) rfl)) ?_))
    refine o_call call_TShape rfl rfl ((by have := TShape_spec (ha.ext x1); rw [hc] at this; exact this)) ?_
    rintro v6 w6 ⟨x6, rfl⟩
    refine o_not rfl rfl r_not (o_move rfl rfl (g_yes rfl (o_fieldAddr rfl rfl (r_fAt (o := 1) Tryz.underlying25 rfl (by kernel_rfl) rfl) (g_yes rfl (o_load rfl rfl (r_load1 Tryz.underlying23 rfl (x6.cell_some (k1.cell (i := 1) rfl))) ?_)))))
    refine g_yes rfl (o_len rfl rfl (r_lenDs Tryz.underlying23 (ha'.ext (x1.trans x6))) (g_yes rfl (o_bin rfl rfl rfl (r_gtr_i) (o_pick_f rfl rfl rfl (o_nil (n_then ?_))))))
    refine c_if rfl (fun h13 => ?_) (fun h13 => ?_)
    · refine c_seq (c_region (o_assign rfl rfl (o_nil (n_then (c_ret (r_then (r_body1 rfl rfl ?_)))))))
      exact ⟨_, rfl, (x1.trans x6), congrArg B (by unfold validM; rw [hc]; first | rfl | (rw [decide_eq_false (by omega)]; rfl))⟩
    · refine c_skip (n_then (c_seq (c_seq (c_region (o_assign rfl rfl (o_nil (n_then (c_block ?_))))))))
      refine c_loop (α := Nat) (fun x => [(1, .pointer (some ⟨g1, 0, none⟩)), (3, I (x : Int))]) (fun x w' => Ext w w' ∧ Ext w1 w' ∧ x ≤ m.lays.length ∧ laysOk 0 m.lays = laysOk x (m.lays.drop x)) (fun x => m.lays.length - x) (0) ⟨rfl, rfl, trivial⟩ ⟨(x1.trans x6), x6, by omega, rfl⟩ ?_
      rintro i w4 ⟨e4, e1, hi, hS⟩
      refine c_seq (c_seq (c_region (o_move rfl rfl (o_fieldAddr rfl rfl (r_fAt (o := 1) Tryz.underlying25 rfl (by kernel_rfl) rfl) (o_load rfl rfl (r_load1 Tryz.underlying23 rfl (e1.cell_some (k1.cell (i := 1) rfl))) ?_)))))
      refine o_len rfl rfl (r_lenDs Tryz.underlying23 (ha'.ext e4)) (o_bin rfl rfl rfl (r_lss_i) (o_nil (n_then ?_)))
      refine c_if rfl (fun h18 => ?_) (fun h18 => ?_)
      · refine c_skip (n_then (c_seq (c_block (c_seq (c_region (o_fieldAddr rfl rfl (r_fAt (o := 1) Tryz.underlying25 rfl (by kernel_rfl) rfl) (o_load rfl rfl (r_load1 Tryz.underlying23 rfl (e1.cell_some (k1.cell (i := 1) rfl))) ?_)))))))
        refine o_move rfl rfl ?_
        obtain ⟨a24, c24, p24, q24, h24⟩ := r_ixDs (P := Tryz.prog) (sz := 9) Tryz.underlying23 (by kernel_rfl) dLay_size (by omega) (ha'.ext e4) (i := i) (by omega) .i64
        obtain ⟨e24, he24⟩ : ∃ e, e = m.lays[i]'(by omega) := ⟨_, rfl⟩
        rw [← he24] at h24
        obtain ⟨x24_0, x24_1, rfl, f24_0, f24_1⟩ := dLay_inv h24
        refine o_indexAddr rfl rfl rfl (p24 _) ?_
        have hq := hs e24 (by rw [he24]; exact List.getElem_mem _)
        refine o_load rfl rfl (q24.ld Tryz.underlying46 rfl (by kernel_rfl)) (o_move rfl rfl (o_call call_TLayer rfl rfl ((TLayer_spec f24_0 f24_1 hq.1 hq.2 (by omega) (by omega))) ?_))
        rintro v27 w27 ⟨x27, rfl⟩
        refine o_not rfl rfl r_not (o_nil (n_then ?_))
        refine c_cond rfl (fun h28 => ?_) (fun h28 => ?_)
        · have h28 : layOk e24 i = false := by simpa using h28
          refine c_seq (c_region (o_assign rfl rfl (o_nil (n_then (c_ret (r_block (r_then (r_then (r_block (r_then (r_body1 rfl rfl ?_)))))))))))
          exact ⟨_, rfl, (e4.trans x27), congrArg B (by unfold validM; rw [hS, laysOk_drop (by omega), ← he24, h28]; simp)⟩
        · have h28 : layOk e24 i = true := by simpa using h28
          refine c_skip (n_block (n_then (c_region (o_move rfl rfl (o_bin (r := I ((i + 1 : Nat) : Int)) rfl rfl rfl (by have e : ((i + 1 : Nat) : Int) = (i : Int) + 1 := (by omega); rw [e]; exact r_add_i (by omega) (by omega)) ?_)))))
          refine o_assign rfl rfl (o_nil ?_)
          refine n_round (i + 1) ⟨rfl, rfl, trivial⟩ ⟨(e4.trans x27), (e1.trans x27), by omega, by rw [hS, laysOk_drop (by omega), ← he24, h28]; rfl⟩ (by omega)
      · refine c_exit (x_then (x_then (x_here (n_then (c_seq (c_region (o_assign rfl rfl (o_nil (n_then (c_ret (r_body1 rfl rfl ?_)))))))))))
        exact ⟨_, rfl, e4, congrArg B (by unfold validM; rw [hc, hS, List.drop_of_length_le (by omega), decide_eq_true (by omega)]; rfl)⟩
end Go.Rl
/- Equality of models walked, the program's side: slices.Equal, slices.EqualFunc, model.rats, same, Equal. No condition. -/
namespace Go.Rl
open Go.RowKit Go.Proofs
theorem call_EqN : Callable Tryz.prog 95 := ⟨_, Tryz.func95, by kernel_rfl, rfl⟩
theorem call_EqI : Callable Tryz.prog 40 := ⟨_, Tryz.func40, by kernel_rfl, rfl⟩
theorem call_MRat : Callable Tryz.prog 94 := ⟨_, Tryz.func94, by kernel_rfl, rfl⟩
theorem call_EqFR : Callable Tryz.prog 93 := ⟨_, Tryz.func93, by kernel_rfl, rfl⟩
theorem call_MRats : Callable Tryz.prog 77 := ⟨_, Tryz.func77, by kernel_rfl, rfl⟩
theorem call_MSame : Callable Tryz.prog 42 := ⟨_, Tryz.func42, by kernel_rfl, rfl⟩
theorem call_EqFL : Callable Tryz.prog 41 := ⟨_, Tryz.func41, by kernel_rfl, rfl⟩
theorem call_MEqual : Callable Tryz.prog 20 := ⟨_, Tryz.func20, by kernel_rfl, rfl⟩
theorem EqN_spec {w : World} {l m : List UInt32} {v u : Value} (hv : Wds l v w) (hu : Wds m u w) :
    Calls Tryz.prog 95 #[v, u] w (Ret fun r w' => Ext w w' ∧ r = B (decide (l = m))) := by
  refine enter (vs := [v, u]) Tryz.func95 rfl rfl rfl ?_
  have hll := hv.len
  refine c_seq (c_region (o_assign rfl rfl (o_nil (n_then (c_seq (c_seq (c_region (o_move rfl rfl (o_len rfl rfl (r_lenW Tryz.underlying40 hv) (o_move rfl rfl (o_len rfl rfl (r_lenW Tryz.underlying40 hu) ?_)))))))))))
  refine o_bin rfl rfl rfl (r_neq_i) (o_nil (n_then ?_))
  refine c_if rfl (fun h10 => ?_) (fun h10 => ?_)
  · have hne : l ≠ m := fun h => h10 (by rw [h])
    refine c_seq (c_region (o_assign rfl rfl (o_nil (n_then (c_ret (r_then (r_body1 rfl rfl ?_)))))))
    exact ⟨_, rfl, Ext.refl _, congrArg B (decide_eq_false hne).symm⟩
  · have hlen : l.length = m.length := by omega
    refine c_skip (n_then (c_seq (c_seq (c_region (o_move rfl rfl (o_len rfl rfl (r_lenW Tryz.underlying40 hv) (o_move rfl rfl (o_nil (n_then (c_block ?_))))))))))
    refine c_loop (α := Nat) (fun x => [(0, v), (1, u), (12, I (l.length : Int)), (13, I (x : Int))]) (fun x w' => Ext w w' ∧ x ≤ l.length ∧ l.take x = m.take x) (fun x => l.length - x) (0) ⟨rfl, rfl, rfl, rfl, trivial⟩ ⟨Ext.refl _, by omega, rfl⟩ ?_
    rintro i w4 ⟨e4, hi, ht⟩
    refine c_seq (c_region (o_bin rfl rfl rfl (r_lss_i) (o_nil (n_then (c_seq ?_)))))
    refine c_if rfl (fun h14 => ?_) (fun h14 => ?_)
    · refine c_skip (n_then (c_seq (c_block (c_seq (c_region (o_move rfl rfl (o_assign rfl rfl (o_nil (n_then (c_seq (c_grow 8 [0, 1, 12, 13, 19, 23] (by kernel_rfl) (by kernel_rfl) ?_)))))))))))
      refine f_move rfl rfl (f_move rfl rfl ?_)
      obtain ⟨a18, p18, q18⟩ := r_ixW Tryz.underlying40 (hv.ext e4) (i := i) (by omega) .i64
      refine f_indexAddr rfl rfl rfl (fun w _ => p18 w) (f_load rfl rfl (fun w hw => r_load1 Tryz.underlying65 rfl (hw.cell_some q18)) (f_move rfl rfl (f_move rfl rfl ?_)))
      obtain ⟨a22, p22, q22⟩ := r_ixW Tryz.underlying40 (hu.ext e4) (i := i) (by omega) .i64
      refine f_indexAddr rfl rfl rfl (fun w _ => p22 w) (f_load rfl rfl (fun w hw => r_load1 Tryz.underlying65 rfl (hw.cell_some q22)) (f_nil ?_))
      intro wg6 xg6
      rintro _ hq0
      obtain rfl := Eq.symm hq0
      rintro _ hq1
      obtain rfl := Eq.symm hq1
      rintro _ rfl
      rintro _ rfl
      rintro _ rfl
      rintro _ rfl
      refine o_bin rfl rfl rfl (r_neq_u32) (o_nil (n_then ?_))
      refine c_if rfl (fun h24 => ?_) (fun h24 => ?_)
      · have hne : l ≠ m := fun h => h24 (by subst h; rfl)
        refine c_seq (c_region (o_assign rfl rfl (o_nil (n_then (c_ret (r_block (r_then (r_then (r_block (r_then (r_body1 rfl rfl ?_)))))))))))
        exact ⟨_, rfl, (e4.trans xg6), congrArg B (decide_eq_false hne).symm⟩
      · have he : l[i]'(by omega) = m[i]'(by omega) := Classical.byContradiction fun h => h24 h
        refine c_skip (n_block (n_then (c_region (o_bin (r := I ((i + 1 : Nat) : Int)) rfl rfl rfl (by have e : ((i + 1 : Nat) : Int) = (i : Int) + 1 := (by omega); rw [e]; exact r_add_i (by omega) (by omega)) ?_))))
        refine o_move rfl rfl (o_nil ?_)
        refine n_round (i + 1) ⟨rfl, rfl, rfl, rfl, trivial⟩ ⟨(e4.trans xg6), by omega, by rw [List.take_succ_eq_append_getElem (by omega), List.take_succ_eq_append_getElem (by omega), ht, he]⟩ (by omega)
    · refine c_exit (x_then (x_then (x_here (n_then (c_seq (c_region (o_assign rfl rfl (o_nil (n_then (c_ret (r_body1 rfl rfl ?_)))))))))))
      exact ⟨_, rfl, e4, by
        rw [List.take_of_length_le (by omega), List.take_of_length_le (by omega)] at ht
        rw [decide_eq_true ht]; rfl⟩
theorem EqI_spec {w : World} {l m : List Int} {v u : Value} (hv : DsV dIn l v w) (hu : DsV dIn m u w) :
    Calls Tryz.prog 40 #[v, u] w (Ret fun r w' => Ext w w' ∧ r = B (decide (l = m))) := by
  refine enter (vs := [v, u]) Tryz.func40 rfl rfl rfl ?_
  have hll := hv.len
  refine c_seq (c_region (o_assign rfl rfl (o_nil (n_then (c_seq (c_seq (c_region (o_move rfl rfl (o_len rfl rfl (r_lenDs Tryz.underlying22 hv) (o_move rfl rfl (o_len rfl rfl (r_lenDs Tryz.underlying22 hu) ?_)))))))))))
  refine o_bin rfl rfl rfl (r_neq_i) (o_nil (n_then ?_))
  refine c_if rfl (fun h10 => ?_) (fun h10 => ?_)
  · have hne : l ≠ m := fun h => h10 (by rw [h])
    refine c_seq (c_region (o_assign rfl rfl (o_nil (n_then (c_ret (r_then (r_body1 rfl rfl ?_)))))))
    exact ⟨_, rfl, Ext.refl _, congrArg B (decide_eq_false hne).symm⟩
  · have hlen : l.length = m.length := by omega
    refine c_skip (n_then (c_seq (c_seq (c_region (o_move rfl rfl (o_len rfl rfl (r_lenDs Tryz.underlying22 hv) (o_move rfl rfl (o_nil (n_then (c_block ?_))))))))))
    refine c_loop (α := Nat) (fun x => [(0, v), (1, u), (12, I (l.length : Int)), (13, I (x : Int))]) (fun x w' => Ext w w' ∧ x ≤ l.length ∧ l.take x = m.take x) (fun x => l.length - x) (0) ⟨rfl, rfl, rfl, rfl, trivial⟩ ⟨Ext.refl _, by omega, rfl⟩ ?_
    rintro i w4 ⟨e4, hi, ht⟩
    refine c_seq (c_region (o_bin rfl rfl rfl (r_lss_i) (o_nil (n_then (c_seq ?_)))))
    refine c_if rfl (fun h14 => ?_) (fun h14 => ?_)
    · refine c_skip (n_then (c_seq (c_block (c_seq (c_region (o_move rfl rfl (o_assign rfl rfl (o_nil (n_then (c_seq (c_grow 8 [0, 1, 12, 13, 19, 23] (by kernel_rfl) (by kernel_rfl) ?_)))))))))))
      refine f_move rfl rfl (f_move rfl rfl ?_)
      obtain ⟨a18, c18, p18, q18, h18⟩ := r_ixDs (P := Tryz.prog) (sz := 1) Tryz.underlying22 (by kernel_rfl) dIn_size (by omega) (hv.ext e4) (i := i) (by omega) .i64
      obtain ⟨e18, he18⟩ : ∃ e, e = l[i]'(by omega) := ⟨_, rfl⟩
      rw [← he18] at h18
      obtain rfl := dIn_inv h18
      refine f_indexAddr rfl rfl rfl (fun w _ => p18 w) (f_load rfl rfl (fun w hw => r_load1 Tryz.underlying3 rfl (hw.cell_some q18.cell0)) (f_move rfl rfl (f_move rfl rfl ?_)))
      obtain ⟨a22, c22, p22, q22, h22⟩ := r_ixDs (P := Tryz.prog) (sz := 1) Tryz.underlying22 (by kernel_rfl) dIn_size (by omega) (hu.ext e4) (i := i) (by omega) .i64
      obtain ⟨e22, he22⟩ : ∃ e, e = m[i]'(by omega) := ⟨_, rfl⟩
      rw [← he22] at h22
      obtain rfl := dIn_inv h22
      refine f_indexAddr rfl rfl rfl (fun w _ => p22 w) (f_load rfl rfl (fun w hw => r_load1 Tryz.underlying3 rfl (hw.cell_some q22.cell0)) (f_nil ?_))
      intro wg6 xg6
      rintro _ hq0
      obtain rfl := Eq.symm hq0
      rintro _ hq1
      obtain rfl := Eq.symm hq1
      rintro _ rfl
      rintro _ rfl
      rintro _ rfl
      rintro _ rfl
      refine o_bin rfl rfl rfl (r_neq_i) (o_nil (n_then ?_))
      refine c_if rfl (fun h24 => ?_) (fun h24 => ?_)
      · have hne : l ≠ m := fun h => h24 (by subst h; rw [he18, he22])
        refine c_seq (c_region (o_assign rfl rfl (o_nil (n_then (c_ret (r_block (r_then (r_then (r_block (r_then (r_body1 rfl rfl ?_)))))))))))
        exact ⟨_, rfl, (e4.trans xg6), congrArg B (decide_eq_false hne).symm⟩
      · have he : l[i]'(by omega) = m[i]'(by omega) := by rw [← he18, ← he22]; exact Classical.byContradiction fun h => h24 h
        refine c_skip (n_block (n_then (c_region (o_bin (r := I ((i + 1 : Nat) : Int)) rfl rfl rfl (by have e : ((i + 1 : Nat) : Int) = (i : Int) + 1 := (by omega); rw [e]; exact r_add_i (by omega) (by omega)) ?_))))
        refine o_move rfl rfl (o_nil ?_)
        refine n_round (i + 1) ⟨rfl, rfl, rfl, rfl, trivial⟩ ⟨(e4.trans xg6), by omega, by rw [List.take_succ_eq_append_getElem (by omega), List.take_succ_eq_append_getElem (by omega), ht, he]⟩ (by omega)
    · refine c_exit (x_then (x_then (x_here (n_then (c_seq (c_region (o_assign rfl rfl (o_nil (n_then (c_ret (r_body1 rfl rfl ?_)))))))))))
      exact ⟨_, rfl, e4, by
        rw [List.take_of_length_le (by omega), List.take_of_length_le (by omega)] at ht
        rw [decide_eq_true ht]; rfl⟩
theorem MRat_spec {w : World} {a b : RatD} {x y p q : Value} (ha : Wds a.2.1 x w) (ha' : Wds a.2.2 y w) (hb : Wds b.2.1 p w) (hb' : Wds b.2.2 q w) :
    Calls Tryz.prog 94 #[.agg #[B a.1, x, y], .agg #[B b.1, p, q]] w (Ret fun r w' => Ext w w' ∧ r = B (decide (a = b))) := by
  refine enter (vs := [.agg #[B a.1, x, y], .agg #[B b.1, p, q]]) Tryz.func94 rfl rfl rfl ?_
  refine c_seq (c_region ?_)
  obtain ⟨g2, w2, hr2, l2, x2, k2⟩ := r_boxS (P := Tryz.prog) (w := w) (T := 42) (cs := [B a.1, x, y])
  refine o_box rfl rfl hr2 ?_
  obtain ⟨g3, w3, hr3, l3, x3, k3⟩ := r_boxS (P := Tryz.prog) (w := w2) (T := 42) (cs := [B b.1, p, q])
  refine o_box rfl rfl hr3 (o_assign rfl rfl (o_nil (n_then (c_seq (c_region (o_fieldAddr rfl rfl (r_fAt (o := 0) Tryz.underlying42 rfl (by kernel_rfl) rfl) ?_))))))
  refine o_load rfl rfl (r_load1 Tryz.underlying4 rfl (x3.cell_some (k2.cell (i := 0) rfl))) (o_fieldAddr rfl rfl (r_fAt (o := 0) Tryz.underlying42 rfl (by kernel_rfl) rfl) ?_)
  refine o_load rfl rfl (r_load1 Tryz.underlying4 rfl (k3.cell (i := 0) rfl)) (o_bin rfl rfl rfl (r_eql_b Tryz.underlying4) (o_move rfl rfl ?_))
  refine o_dec (fun h10 => ?_) (fun h10 => ?_)
  · refine g_yes rfl (o_fieldAddr rfl rfl (r_fAt (o := 1) Tryz.underlying42 rfl (by kernel_rfl) rfl) (g_yes rfl (o_load rfl rfl (r_load1 Tryz.underlying40 rfl (x3.cell_some (k2.cell (i := 1) rfl))) ?_)))
    refine g_yes rfl (o_fieldAddr rfl rfl (r_fAt (o := 1) Tryz.underlying42 rfl (by kernel_rfl) rfl) (g_yes rfl (o_load rfl rfl (r_load1 Tryz.underlying40 rfl (k3.cell (i := 1) rfl)) ?_)))
    refine g_yes rfl (o_call call_EqN rfl rfl (EqN_spec (ha.ext (x2.trans x3)) (hb.ext (x2.trans x3))) ?_)
    rintro v15 w15 ⟨x15, rfl⟩
    refine o_pick_t rfl rfl rfl (o_move rfl rfl ?_)
    refine o_dec (fun h17 => ?_) (fun h17 => ?_)
    · refine g_yes rfl (o_fieldAddr rfl rfl (r_fAt (o := 2) Tryz.underlying42 rfl (by kernel_rfl) rfl) (g_yes rfl (o_load rfl rfl (r_load1 Tryz.underlying40 rfl ((x3.trans x15).cell_some (k2.cell (i := 2) rfl))) ?_)))
      refine g_yes rfl (o_fieldAddr rfl rfl (r_fAt (o := 2) Tryz.underlying42 rfl (by kernel_rfl) rfl) (g_yes rfl (o_load rfl rfl (r_load1 Tryz.underlying40 rfl (x15.cell_some (k3.cell (i := 2) rfl))) ?_)))
      refine g_yes rfl (o_call call_EqN rfl rfl (EqN_spec (ha'.ext ((x2.trans x3).trans x15)) (hb'.ext ((x2.trans x3).trans x15))) ?_)
      rintro v22 w22 ⟨x22, rfl⟩
      refine o_pick_t rfl rfl rfl (o_assign rfl rfl (o_nil (n_then (c_ret (r_body1 rfl rfl ?_)))))
      exact ⟨_, rfl, (((x2.trans x3).trans x15).trans x22), by
        first
        | exact congrArg B (decide_eq_decide.2 ⟨fun h => Prod.ext h10 (Prod.ext h17 h), fun h => by rw [h]⟩)
        | exact congrArg B (decide_eq_false fun h => h17 (by rw [h])).symm
        | exact congrArg B (decide_eq_false fun h => h10 (by rw [h])).symm⟩
    · refine g_no rfl rfl rfl (g_no rfl rfl rfl (g_no rfl rfl rfl (g_no rfl rfl rfl (g_no rfl rfl rfl (o_pick_f rfl rfl rfl (o_assign rfl rfl (o_nil (n_then (c_ret (r_body1 rfl rfl ?_))))))))))
      exact ⟨_, rfl, ((x2.trans x3).trans x15), by
        first
        | exact congrArg B (decide_eq_decide.2 ⟨fun h => Prod.ext h10 (Prod.ext h17 h), fun h => by rw [h]⟩)
        | exact congrArg B (decide_eq_false fun h => h17 (by rw [h])).symm
        | exact congrArg B (decide_eq_false fun h => h10 (by rw [h])).symm⟩
  · refine g_no rfl rfl rfl (g_no rfl rfl rfl (g_no rfl rfl rfl (g_no rfl rfl rfl (g_no rfl rfl rfl (o_pick_f rfl rfl rfl (o_move rfl rfl (g_no rfl rfl rfl (g_no rfl rfl rfl (g_no rfl rfl rfl ?_)))))))))
    refine g_no rfl rfl rfl (g_no rfl rfl rfl (o_pick_f rfl rfl rfl (o_assign rfl rfl (o_nil (n_then (c_ret (r_body1 rfl rfl ?_)))))))
    exact ⟨_, rfl, (x2.trans x3), by
      first
      | exact congrArg B (decide_eq_decide.2 ⟨fun h => Prod.ext h10 (Prod.ext h17 h), fun h => by rw [h]⟩)
      | exact congrArg B (decide_eq_false fun h => h17 (by rw [h])).symm
      | exact congrArg B (decide_eq_false fun h => h10 (by rw [h])).symm⟩
theorem EqFR_spec {w : World} {l m : List RatD} {v u : Value} (hv : DsV dRat l v w) (hu : DsV dRat m u w) :
    Calls Tryz.prog 93 #[v, u, .func (.func 94) #[] #[]] w (Ret fun r w' => Ext w w' ∧ r = B (decide (l = m))) := by
  refine enter (vs := [v, u, .func (.func 94) #[] #[]]) Tryz.func93 rfl rfl rfl ?_
  have hll := hv.len
  refine c_seq (c_region (o_assign rfl rfl (o_nil (n_then (c_seq (c_seq (c_region (o_move rfl rfl (o_len rfl rfl (r_lenDs Tryz.underlying44 hv) (o_move rfl rfl (o_len rfl rfl (r_lenDs Tryz.underlying44 hu) ?_)))))))))))
  refine o_bin rfl rfl rfl (r_neq_i) (o_nil (n_then ?_))
  refine c_if rfl (fun h14 => ?_) (fun h14 => ?_)
  · have hne : l ≠ m := fun h => h14 (by rw [h])
    refine c_seq (c_region (o_assign rfl rfl (o_nil (n_then (c_ret (r_then (r_body1 rfl rfl ?_)))))))
    exact ⟨_, rfl, Ext.refl _, congrArg B (decide_eq_false hne).symm⟩
  · have hlen : l.length = m.length := by omega
    refine c_skip (n_then (c_seq (c_seq (c_region (o_move rfl rfl (o_len rfl rfl (r_lenDs Tryz.underlying44 hv) (o_move rfl rfl (o_nil (n_then (c_block ?_))))))))))
    refine c_loop (α := Nat) (fun x => [(0, v), (1, u), (2, .func (.func 94) #[] #[]), (15, v), (16, I (l.length : Int)), (17, I (x : Int))]) (fun x w' => Ext w w' ∧ x ≤ l.length ∧ l.take x = m.take x) (fun x => l.length - x) (0) ⟨rfl, rfl, rfl, rfl, rfl, rfl, trivial⟩ ⟨Ext.refl _, by omega, rfl⟩ ?_
    rintro i w4 ⟨e4, hi, ht⟩
    refine c_seq (c_region (o_bin rfl rfl rfl (r_lss_i) (o_nil (n_then (c_seq ?_)))))
    refine c_if rfl (fun h18 => ?_) (fun h18 => ?_)
    · refine c_skip (n_then (c_seq (c_block (c_seq (c_region (o_move rfl rfl ?_))))))
      obtain ⟨a20, c20, p20, q20, h20⟩ := r_ixDs (P := Tryz.prog) (sz := 3) Tryz.underlying44 (by kernel_rfl) dRat_size (by omega) (hv.ext e4) (i := i) (by omega) .i64
      obtain ⟨e20, he20⟩ : ∃ e, e = l[i]'(by omega) := ⟨_, rfl⟩
      rw [← he20] at h20
      obtain ⟨x20_0, x20_1, rfl, f20_0, f20_1⟩ := dRat_inv h20
      refine o_indexAddr rfl rfl rfl (p20 _) (o_load rfl rfl (q20.ld Tryz.underlying42 rfl (by kernel_rfl)) ?_)
      obtain ⟨g8, w8, hr8, l8, x8, k8⟩ := r_allocB (P := Tryz.prog) (w := w4) (t := 42) (z := .agg #[B false, .slice none 0 0, .slice none 0 0]) (l := [B false, .slice none 0 0, .slice none 0 0]) (by kernel_rfl) rfl
      refine o_alloc rfl hr8 (o_assign rfl rfl ?_)
      obtain ⟨w5_5, s5_5, q5_5, k5_5⟩ := k8.stS (P := Tryz.prog) (t := 42) (m := [B e20.1, x20_0, x20_1]) rfl (by kernel_rfl) (Ones.cons rfl (Ones.cons f20_0.one (Ones.cons f20_1.one Ones.nil)))
      refine o_store rfl rfl s5_5 ?_
      have x5_5 := Ext.of_new (x8) q5_5 l8
      refine o_nil (n_then (c_seq (c_region (o_move rfl rfl (o_move rfl rfl ?_)))))
      obtain ⟨a24, c24, p24, q24, h24⟩ := r_ixDs (P := Tryz.prog) (sz := 3) Tryz.underlying44 (by kernel_rfl) dRat_size (by omega) (hu.ext (e4.trans x5_5)) (i := i) (by omega) .i64
      obtain ⟨e24, he24⟩ : ∃ e, e = m[i]'(by omega) := ⟨_, rfl⟩
      rw [← he24] at h24
      obtain ⟨x24_0, x24_1, rfl, f24_0, f24_1⟩ := dRat_inv h24
      refine o_indexAddr rfl rfl rfl (p24 _) (o_load rfl rfl (q24.ld Tryz.underlying42 rfl (by kernel_rfl)) ?_)
      obtain ⟨g9, w9, hr9, l9, x9, k9⟩ := r_allocB (P := Tryz.prog) (w := w5_5) (t := 42) (z := .agg #[B false, .slice none 0 0, .slice none 0 0]) (l := [B false, .slice none 0 0, .slice none 0 0]) (by kernel_rfl) rfl
      refine o_alloc rfl hr9 ?_
      obtain ⟨w6_5, s6_5, q6_5, k6_5⟩ := k9.stS (P := Tryz.prog) (t := 42) (m := [B e24.1, x24_0, x24_1]) rfl (by kernel_rfl) (Ones.cons rfl (Ones.cons f24_0.one (Ones.cons f24_1.one Ones.nil)))
      refine o_store rfl rfl s6_5 ?_
      have x6_5 := Ext.of_new (x9) q6_5 l9
      refine o_nil (n_then (c_seq (c_region (o_move rfl rfl (o_load rfl rfl ((k5_5.ext x6_5).ld Tryz.underlying42 rfl (by kernel_rfl)) (o_load rfl rfl (k6_5.ld Tryz.underlying42 rfl (by kernel_rfl)) ?_))))))
      refine o_callfn rfl call_MRat rfl rfl ((MRat_spec (f20_0.ext (x5_5.trans x6_5)) (f20_1.ext (x5_5.trans x6_5)) (f24_0.ext x6_5) (f24_1.ext x6_5))) ?_
      rintro v29 w29 ⟨x29, rfl⟩
      refine o_not rfl rfl r_not (o_nil (n_then ?_))
      refine c_cond rfl (fun h30 => ?_) (fun h30 => ?_)
      · have hne : l ≠ m := fun h => absurd (show e20 = e24 by subst h; rw [he20, he24]) (by simpa using h30)
        refine c_seq (c_region (o_assign rfl rfl (o_nil (n_then (c_ret (r_block (r_then (r_then (r_block (r_then (r_body1 rfl rfl ?_)))))))))))
        exact ⟨_, rfl, (((e4.trans x5_5).trans x6_5).trans x29), congrArg B (decide_eq_false hne).symm⟩
      · have he : l[i]'(by omega) = m[i]'(by omega) := by rw [← he20, ← he24]; simpa using h30
        refine c_skip (n_block (n_then (c_region (o_bin (r := I ((i + 1 : Nat) : Int)) rfl rfl rfl (by have e : ((i + 1 : Nat) : Int) = (i : Int) + 1 := (by omega); rw [e]; exact r_add_i (by omega) (by omega)) ?_))))
        refine o_move rfl rfl (o_nil ?_)
        refine n_round (i + 1) ⟨rfl, rfl, rfl, rfl, rfl, rfl, trivial⟩ ⟨(((e4.trans x5_5).trans x6_5).trans x29), by omega, by rw [List.take_succ_eq_append_getElem (by omega), List.take_succ_eq_append_getElem (by omega), ht, he]⟩ (by omega)
    · refine c_exit (x_then (x_then (x_here (n_then (c_seq (c_region (o_assign rfl rfl (o_nil (n_then (c_ret (r_body1 rfl rfl ?_)))))))))))
      exact ⟨_, rfl, e4, by
        rw [List.take_of_length_le (by omega), List.take_of_length_le (by omega)] at ht
        rw [decide_eq_true ht]; rfl⟩
theorem MRats_spec {w : World} {l m : List RatD} {v u : Value} (hv : DsV dRat l v w) (hu : DsV dRat m u w) :
    Calls Tryz.prog 77 #[v, u] w (Ret fun r w' => Ext w w' ∧ r = B (decide (l = m))) := by
  refine enter (vs := [v, u]) Tryz.func77 rfl rfl rfl ?_
  refine c_seq (c_region (o_assign rfl rfl (o_nil (n_then (c_seq (c_region (o_move rfl rfl (o_move rfl rfl (o_call call_EqFR rfl rfl (EqFR_spec hv hu) ?_)))))))))
  rintro v7 w7 ⟨x7, rfl⟩
  refine o_assign rfl rfl (o_nil (n_then (c_ret (r_body1 rfl rfl ?_))))
  exact ⟨_, rfl, x7, rfl⟩
theorem MSame_spec {w : World} {a b : LayD} {x y p q : Value} (ha : DsV dRat a.ws x w) (ha' : DsV dRat a.bs y w) (hb : DsV dRat b.ws p w) (hb' : DsV dRat b.bs q w) :
    Calls Tryz.prog 42 #[.agg #[I a.kd, I a.fr, I a.ou, I a.kh, I a.kw, I a.sr, I a.pd, x, y], .agg #[I b.kd, I b.fr, I b.ou, I b.kh, I b.kw, I b.sr, I b.pd, p, q]] w (Ret fun r w' => Ext w w' ∧ r = B (decide (a = b))) := by
  refine enter (vs := [.agg #[I a.kd, I a.fr, I a.ou, I a.kh, I a.kw, I a.sr, I a.pd, x, y], .agg #[I b.kd, I b.fr, I b.ou, I b.kh, I b.kw, I b.sr, I b.pd, p, q]]) Tryz.func42 rfl rfl rfl ?_
  refine c_seq (c_region ?_)
  obtain ⟨g2, w2, hr2, l2, x2, k2⟩ := r_boxS (P := Tryz.prog) (w := w) (T := 46) (cs := [I a.kd, I a.fr, I a.ou, I a.kh, I a.kw, I a.sr, I a.pd, x, y])
  refine o_box rfl rfl hr2 ?_
  obtain ⟨g3, w3, hr3, l3, x3, k3⟩ := r_boxS (P := Tryz.prog) (w := w2) (T := 46) (cs := [I b.kd, I b.fr, I b.ou, I b.kh, I b.kw, I b.sr, I b.pd, p, q])
  refine o_box rfl rfl hr3 (o_assign rfl rfl (o_nil (n_then (c_seq (c_region (o_fieldAddr rfl rfl (r_fAt (o := 0) Tryz.underlying46 rfl (by kernel_rfl) rfl) ?_))))))
  refine o_load rfl rfl (r_load1 Tryz.underlying3 rfl (x3.cell_some (k2.cell (i := 0) rfl))) (o_fieldAddr rfl rfl (r_fAt (o := 0) Tryz.underlying46 rfl (by kernel_rfl) rfl) ?_)
  refine o_load rfl rfl (r_load1 Tryz.underlying3 rfl (k3.cell (i := 0) rfl)) (o_bin rfl rfl rfl (r_eql_i) (o_move rfl rfl ?_))
  refine o_dec (fun h10 => ?_) (fun h10 => ?_)
  · refine g_yes rfl (o_fieldAddr rfl rfl (r_fAt (o := 1) Tryz.underlying46 rfl (by kernel_rfl) rfl) (g_yes rfl (o_load rfl rfl (r_load1 Tryz.underlying3 rfl (x3.cell_some (k2.cell (i := 1) rfl))) ?_)))
    refine g_yes rfl (o_fieldAddr rfl rfl (r_fAt (o := 1) Tryz.underlying46 rfl (by kernel_rfl) rfl) (g_yes rfl (o_load rfl rfl (r_load1 Tryz.underlying3 rfl (k3.cell (i := 1) rfl)) ?_)))
    refine g_yes rfl (o_bin rfl rfl rfl (r_eql_i) (o_pick_t rfl rfl rfl (o_move rfl rfl ?_)))
    refine o_dec (fun h17 => ?_) (fun h17 => ?_)
    · refine g_yes rfl (o_fieldAddr rfl rfl (r_fAt (o := 2) Tryz.underlying46 rfl (by kernel_rfl) rfl) (g_yes rfl (o_load rfl rfl (r_load1 Tryz.underlying3 rfl (x3.cell_some (k2.cell (i := 2) rfl))) ?_)))
      refine g_yes rfl (o_fieldAddr rfl rfl (r_fAt (o := 2) Tryz.underlying46 rfl (by kernel_rfl) rfl) (g_yes rfl (o_load rfl rfl (r_load1 Tryz.underlying3 rfl (k3.cell (i := 2) rfl)) ?_)))
      refine g_yes rfl (o_bin rfl rfl rfl (r_eql_i) (o_pick_t rfl rfl rfl (o_move rfl rfl ?_)))
      refine o_dec (fun h24 => ?_) (fun h24 => ?_)
      · refine g_yes rfl (o_fieldAddr rfl rfl (r_fAt (o := 3) Tryz.underlying46 rfl (by kernel_rfl) rfl) (g_yes rfl (o_load rfl rfl (r_load1 Tryz.underlying3 rfl (x3.cell_some (k2.cell (i := 3) rfl))) ?_)))
        refine g_yes rfl (o_fieldAddr rfl rfl (r_fAt (o := 3) Tryz.underlying46 rfl (by kernel_rfl) rfl) (g_yes rfl (o_load rfl rfl (r_load1 Tryz.underlying3 rfl (k3.cell (i := 3) rfl)) ?_)))
        refine g_yes rfl (o_bin rfl rfl rfl (r_eql_i) (o_pick_t rfl rfl rfl (o_move rfl rfl ?_)))
        refine o_dec (fun h31 => ?_) (fun h31 => ?_)
        · refine g_yes rfl (o_fieldAddr rfl rfl (r_fAt (o := 4) Tryz.underlying46 rfl (by kernel_rfl) rfl) (g_yes rfl (o_load rfl rfl (r_load1 Tryz.underlying3 rfl (x3.cell_some (k2.cell (i := 4) rfl))) ?_)))
          refine g_yes rfl (o_fieldAddr rfl rfl (r_fAt (o := 4) Tryz.underlying46 rfl (by kernel_rfl) rfl) (g_yes rfl (o_load rfl rfl (r_load1 Tryz.underlying3 rfl (k3.cell (i := 4) rfl)) ?_)))
          refine g_yes rfl (o_bin rfl rfl rfl (r_eql_i) (o_pick_t rfl rfl rfl (o_move rfl rfl ?_)))
          refine o_dec (fun h38 => ?_) (fun h38 => ?_)
          · refine g_yes rfl (o_fieldAddr rfl rfl (r_fAt (o := 5) Tryz.underlying46 rfl (by kernel_rfl) rfl) (g_yes rfl (o_load rfl rfl (r_load1 Tryz.underlying3 rfl (x3.cell_some (k2.cell (i := 5) rfl))) ?_)))
            refine g_yes rfl (o_fieldAddr rfl rfl (r_fAt (o := 5) Tryz.underlying46 rfl (by kernel_rfl) rfl) (g_yes rfl (o_load rfl rfl (r_load1 Tryz.underlying3 rfl (k3.cell (i := 5) rfl)) ?_)))
            refine g_yes rfl (o_bin rfl rfl rfl (r_eql_i) (o_pick_t rfl rfl rfl (o_move rfl rfl ?_)))
            refine o_dec (fun h45 => ?_) (fun h45 => ?_)
            · refine g_yes rfl (o_fieldAddr rfl rfl (r_fAt (o := 6) Tryz.underlying46 rfl (by kernel_rfl) rfl) (g_yes rfl (o_load rfl rfl (r_load1 Tryz.underlying3 rfl (x3.cell_some (k2.cell (i := 6) rfl))) ?_)))
              refine g_yes rfl (o_fieldAddr rfl rfl (r_fAt (o := 6) Tryz.underlying46 rfl (by kernel_rfl) rfl) (g_yes rfl (o_load rfl rfl (r_load1 Tryz.underlying3 rfl (k3.cell (i := 6) rfl)) ?_)))
              refine g_yes rfl (o_bin rfl rfl rfl (r_eql_i) (o_pick_t rfl rfl rfl (o_move rfl rfl ?_)))
              refine o_dec (fun h52 => ?_) (fun h52 => ?_)
              · refine g_yes rfl (o_fieldAddr rfl rfl (r_fAt (o := 7) Tryz.underlying46 rfl (by kernel_rfl) rfl) (g_yes rfl (o_load rfl rfl (r_load1 Tryz.underlying44 rfl (x3.cell_some (k2.cell (i := 7) rfl))) ?_)))
                refine g_yes rfl (o_fieldAddr rfl rfl (r_fAt (o := 7) Tryz.underlying46 rfl (by kernel_rfl) rfl) (g_yes rfl (o_load rfl rfl (r_load1 Tryz.underlying44 rfl (k3.cell (i := 7) rfl)) ?_)))
                refine g_yes rfl (o_call call_MRats rfl rfl (MRats_spec (ha.ext (x2.trans x3)) (hb.ext (x2.trans x3))) ?_)
                rintro v57 w57 ⟨x57, rfl⟩
                refine o_pick_t rfl rfl rfl (o_move rfl rfl ?_)
                refine o_dec (fun h59 => ?_) (fun h59 => ?_)
                · refine g_yes rfl (o_fieldAddr rfl rfl (r_fAt (o := 8) Tryz.underlying46 rfl (by kernel_rfl) rfl) (g_yes rfl (o_load rfl rfl (r_load1 Tryz.underlying44 rfl ((x3.trans x57).cell_some (k2.cell (i := 8) rfl))) ?_)))
                  refine g_yes rfl (o_fieldAddr rfl rfl (r_fAt (o := 8) Tryz.underlying46 rfl (by kernel_rfl) rfl) (g_yes rfl (o_load rfl rfl (r_load1 Tryz.underlying44 rfl (x57.cell_some (k3.cell (i := 8) rfl))) ?_)))
                  refine g_yes rfl (o_call call_MRats rfl rfl (MRats_spec (ha'.ext ((x2.trans x3).trans x57)) (hb'.ext ((x2.trans x3).trans x57))) ?_)
                  rintro v64 w64 ⟨x64, rfl⟩
                  refine o_pick_t rfl rfl rfl (o_assign rfl rfl (o_nil (n_then (c_ret (r_body1 rfl rfl ?_)))))
                  exact ⟨_, rfl, (((x2.trans x3).trans x57).trans x64), by
                    first
                    | exact congrArg B (decide_eq_decide.2 (by rw [LayD.eq_iff]; exact ⟨fun h => ⟨h10, h17, h24, h31, h38, h45, h52, h59, h⟩, fun h => h.2.2.2.2.2.2.2.2⟩))
                    | exact congrArg B (decide_eq_false fun h => by subst h; first | exact h59 rfl | exact h52 rfl | exact h45 rfl | exact h38 rfl | exact h31 rfl | exact h24 rfl | exact h17 rfl | exact h10 rfl).symm⟩
                · refine g_no rfl rfl rfl (g_no rfl rfl rfl (g_no rfl rfl rfl (g_no rfl rfl rfl (g_no rfl rfl rfl (o_pick_f rfl rfl rfl (o_assign rfl rfl (o_nil (n_then (c_ret (r_body1 rfl rfl ?_))))))))))
                  exact ⟨_, rfl, ((x2.trans x3).trans x57), by
                    first
                    | exact congrArg B (decide_eq_decide.2 (by rw [LayD.eq_iff]; exact ⟨fun h => ⟨h10, h17, h24, h31, h38, h45, h52, h59, h⟩, fun h => h.2.2.2.2.2.2.2.2⟩))
                    | exact congrArg B (decide_eq_false fun h => by subst h; first | exact h59 rfl | exact h52 rfl | exact h45 rfl | exact h38 rfl | exact h31 rfl | exact h24 rfl | exact h17 rfl | exact h10 rfl).symm⟩
              · refine g_no rfl rfl rfl (g_no rfl rfl rfl (g_no rfl rfl rfl (g_no rfl rfl rfl (g_no rfl rfl rfl (o_pick_f rfl rfl rfl (o_move rfl rfl (g_no rfl rfl rfl (g_no rfl rfl rfl (g_no rfl rfl rfl ?_)))))))))
                refine g_no rfl rfl rfl (g_no rfl rfl rfl (o_pick_f rfl rfl rfl (o_assign rfl rfl (o_nil (n_then (c_ret (r_body1 rfl rfl ?_)))))))
                exact ⟨_, rfl, (x2.trans x3), by
                  first
                  | exact congrArg B (decide_eq_decide.2 (by rw [LayD.eq_iff]; exact ⟨fun h => ⟨h10, h17, h24, h31, h38, h45, h52, h59, h⟩, fun h => h.2.2.2.2.2.2.2.2⟩))
                  | exact congrArg B (decide_eq_false fun h => by subst h; first | exact h59 rfl | exact h52 rfl | exact h45 rfl | exact h38 rfl | exact h31 rfl | exact h24 rfl | exact h17 rfl | exact h10 rfl).symm⟩
            · refine g_no rfl rfl rfl (g_no rfl rfl rfl (g_no rfl rfl rfl (g_no rfl rfl rfl (g_no rfl rfl rfl (o_pick_f rfl rfl rfl (o_move rfl rfl (g_no rfl rfl rfl (g_no rfl rfl rfl (g_no rfl rfl rfl ?_)))))))))
              refine g_no rfl rfl rfl (g_no rfl rfl rfl (o_pick_f rfl rfl rfl (o_move rfl rfl (g_no rfl rfl rfl (g_no rfl rfl rfl (g_no rfl rfl rfl (g_no rfl rfl rfl (g_no rfl rfl rfl (o_pick_f rfl rfl rfl ?_)))))))))
              refine o_assign rfl rfl (o_nil (n_then (c_ret (r_body1 rfl rfl ?_))))
              exact ⟨_, rfl, (x2.trans x3), by
                first
                | exact congrArg B (decide_eq_decide.2 (by rw [LayD.eq_iff]; exact ⟨fun h => ⟨h10, h17, h24, h31, h38, h45, h52, h59, h⟩, fun h => h.2.2.2.2.2.2.2.2⟩))
                | exact congrArg B (decide_eq_false fun h => by subst h; first | exact h59 rfl | exact h52 rfl | exact h45 rfl | exact h38 rfl | exact h31 rfl | exact h24 rfl | exact h17 rfl | exact h10 rfl).symm⟩
          · refine g_no rfl rfl rfl (g_no rfl rfl rfl (g_no rfl rfl rfl (g_no rfl rfl rfl (g_no rfl rfl rfl (o_pick_f rfl rfl rfl (o_move rfl rfl (g_no rfl rfl rfl (g_no rfl rfl rfl (g_no rfl rfl rfl ?_)))))))))
            refine g_no rfl rfl rfl (g_no rfl rfl rfl (o_pick_f rfl rfl rfl (o_move rfl rfl (g_no rfl rfl rfl (g_no rfl rfl rfl (g_no rfl rfl rfl (g_no rfl rfl rfl (g_no rfl rfl rfl (o_pick_f rfl rfl rfl ?_)))))))))
            refine o_move rfl rfl (g_no rfl rfl rfl (g_no rfl rfl rfl (g_no rfl rfl rfl (g_no rfl rfl rfl (g_no rfl rfl rfl (o_pick_f rfl rfl rfl (o_assign rfl rfl (o_nil (n_then (c_ret (r_body1 rfl rfl ?_)))))))))))
            exact ⟨_, rfl, (x2.trans x3), by
              first
              | exact congrArg B (decide_eq_decide.2 (by rw [LayD.eq_iff]; exact ⟨fun h => ⟨h10, h17, h24, h31, h38, h45, h52, h59, h⟩, fun h => h.2.2.2.2.2.2.2.2⟩))
              | exact congrArg B (decide_eq_false fun h => by subst h; first | exact h59 rfl | exact h52 rfl | exact h45 rfl | exact h38 rfl | exact h31 rfl | exact h24 rfl | exact h17 rfl | exact h10 rfl).symm⟩
        · refine g_no rfl rfl rfl (g_no rfl rfl rfl (g_no rfl rfl rfl (g_no rfl rfl rfl (g_no rfl rfl rfl (o_pick_f rfl rfl rfl (o_move rfl rfl (g_no rfl rfl rfl (g_no rfl rfl rfl (g_no rfl rfl rfl ?_)))))))))
          refine g_no rfl rfl rfl (g_no rfl rfl rfl (o_pick_f rfl rfl rfl (o_move rfl rfl (g_no rfl rfl rfl (g_no rfl rfl rfl (g_no rfl rfl rfl (g_no rfl rfl rfl (g_no rfl rfl rfl (o_pick_f rfl rfl rfl ?_)))))))))
          refine o_move rfl rfl (g_no rfl rfl rfl (g_no rfl rfl rfl (g_no rfl rfl rfl (g_no rfl rfl rfl (g_no rfl rfl rfl (o_pick_f rfl rfl rfl (o_move rfl rfl (g_no rfl rfl rfl (g_no rfl rfl rfl ?_)))))))))
          refine g_no rfl rfl rfl (g_no rfl rfl rfl (g_no rfl rfl rfl (o_pick_f rfl rfl rfl (o_assign rfl rfl (o_nil (n_then (c_ret (r_body1 rfl rfl ?_))))))))
          exact ⟨_, rfl, (x2.trans x3), by
            first
            | exact congrArg B (decide_eq_decide.2 (by rw [LayD.eq_iff]; exact ⟨fun h => ⟨h10, h17, h24, h31, h38, h45, h52, h59, h⟩, fun h => h.2.2.2.2.2.2.2.2⟩))
            | exact congrArg B (decide_eq_false fun h => by subst h; first | exact h59 rfl | exact h52 rfl | exact h45 rfl | exact h38 rfl | exact h31 rfl | exact h24 rfl | exact h17 rfl | exact h10 rfl).symm⟩
      · refine g_no rfl rfl rfl (g_no rfl rfl rfl (g_no rfl rfl rfl (g_no rfl rfl rfl (g_no rfl rfl rfl (o_pick_f rfl rfl rfl (o_move rfl rfl (g_no rfl rfl rfl (g_no rfl rfl rfl (g_no rfl rfl rfl ?_)))))))))
        refine g_no rfl rfl rfl (g_no rfl rfl rfl (o_pick_f rfl rfl rfl (o_move rfl rfl (g_no rfl rfl rfl (g_no rfl rfl rfl (g_no rfl rfl rfl (g_no rfl rfl rfl (g_no rfl rfl rfl (o_pick_f rfl rfl rfl ?_)))))))))
        refine o_move rfl rfl (g_no rfl rfl rfl (g_no rfl rfl rfl (g_no rfl rfl rfl (g_no rfl rfl rfl (g_no rfl rfl rfl (o_pick_f rfl rfl rfl (o_move rfl rfl (g_no rfl rfl rfl (g_no rfl rfl rfl ?_)))))))))
        refine g_no rfl rfl rfl (g_no rfl rfl rfl (g_no rfl rfl rfl (o_pick_f rfl rfl rfl (o_move rfl rfl (g_no rfl rfl rfl (g_no rfl rfl rfl (g_no rfl rfl rfl (g_no rfl rfl rfl (g_no rfl rfl rfl ?_)))))))))
        refine o_pick_f rfl rfl rfl (o_assign rfl rfl (o_nil (n_then (c_ret (r_body1 rfl rfl ?_)))))
        exact ⟨_, rfl, (x2.trans x3), by
          first
          | exact congrArg B (decide_eq_decide.2 (by rw [LayD.eq_iff]; exact ⟨fun h => ⟨h10, h17, h24, h31, h38, h45, h52, h59, h⟩, fun h => h.2.2.2.2.2.2.2.2⟩))
          | exact congrArg B (decide_eq_false fun h => by subst h; first | exact h59 rfl | exact h52 rfl | exact h45 rfl | exact h38 rfl | exact h31 rfl | exact h24 rfl | exact h17 rfl | exact h10 rfl).symm⟩
    · refine g_no rfl rfl rfl (g_no rfl rfl rfl (g_no rfl rfl rfl (g_no rfl rfl rfl (g_no rfl rfl rfl (o_pick_f rfl rfl rfl (o_move rfl rfl (g_no rfl rfl rfl (g_no rfl rfl rfl (g_no rfl rfl rfl ?_)))))))))
      refine g_no rfl rfl rfl (g_no rfl rfl rfl (o_pick_f rfl rfl rfl (o_move rfl rfl (g_no rfl rfl rfl (g_no rfl rfl rfl (g_no rfl rfl rfl (g_no rfl rfl rfl (g_no rfl rfl rfl (o_pick_f rfl rfl rfl ?_)))))))))
      refine o_move rfl rfl (g_no rfl rfl rfl (g_no rfl rfl rfl (g_no rfl rfl rfl (g_no rfl rfl rfl (g_no rfl rfl rfl (o_pick_f rfl rfl rfl (o_move rfl rfl (g_no rfl rfl rfl (g_no rfl rfl rfl ?_)))))))))
      refine g_no rfl rfl rfl (g_no rfl rfl rfl (g_no rfl rfl rfl (o_pick_f rfl rfl rfl (o_move rfl rfl (g_no rfl rfl rfl (g_no rfl rfl rfl (g_no rfl rfl rfl (g_no rfl rfl rfl (g_no rfl rfl rfl ?_)))))))))
      refine o_pick_f rfl rfl rfl (o_move rfl rfl (g_no rfl rfl rfl (g_no rfl rfl rfl (g_no rfl rfl rfl (g_no rfl rfl rfl (g_no rfl rfl rfl (o_pick_f rfl rfl rfl (o_assign rfl rfl (o_nil ?_)))))))))
      refine n_then (c_ret (r_body1 rfl rfl ?_))
      exact ⟨_, rfl, (x2.trans x3), by
        first
        | exact congrArg B (decide_eq_decide.2 (by rw [LayD.eq_iff]; exact ⟨fun h => ⟨h10, h17, h24, h31, h38, h45, h52, h59, h⟩, fun h => h.2.2.2.2.2.2.2.2⟩))
        | exact congrArg B (decide_eq_false fun h => by subst h; first | exact h59 rfl | exact h52 rfl | exact h45 rfl | exact h38 rfl | exact h31 rfl | exact h24 rfl | exact h17 rfl | exact h10 rfl).symm⟩
  · refine g_no rfl rfl rfl (g_no rfl rfl rfl (g_no rfl rfl rfl (g_no rfl rfl rfl (g_no rfl rfl rfl (o_pick_f rfl rfl rfl (o_move rfl rfl (g_no rfl rfl rfl (g_no rfl rfl rfl (g_no rfl rfl rfl ?_)))))))))
    refine g_no rfl rfl rfl (g_no rfl rfl rfl (o_pick_f rfl rfl rfl (o_move rfl rfl (g_no rfl rfl rfl (g_no rfl rfl rfl (g_no rfl rfl rfl (g_no rfl rfl rfl (g_no rfl rfl rfl (o_pick_f rfl rfl rfl ?_)))))))))
    refine o_move rfl rfl (g_no rfl rfl rfl (g_no rfl rfl rfl (g_no rfl rfl rfl (g_no rfl rfl rfl (g_no rfl rfl rfl (o_pick_f rfl rfl rfl (o_move rfl rfl (g_no rfl rfl rfl (g_no rfl rfl rfl ?_)))))))))
    refine g_no rfl rfl rfl (g_no rfl rfl rfl (g_no rfl rfl rfl (o_pick_f rfl rfl rfl (o_move rfl rfl (g_no rfl rfl rfl (g_no rfl rfl rfl (g_no rfl rfl rfl (g_no rfl rfl rfl (g_no rfl rfl rfl ?_)))))))))
    refine o_pick_f rfl rfl rfl (o_move rfl rfl (g_no rfl rfl rfl (g_no rfl rfl rfl (g_no rfl rfl rfl (g_no rfl rfl rfl (g_no rfl rfl rfl (o_pick_f rfl rfl rfl (o_move rfl rfl (g_no rfl rfl rfl ?_)))))))))
    refine g_no rfl rfl rfl (g_no rfl rfl rfl (g_no rfl rfl rfl (g_no rfl rfl rfl (o_pick_f rfl rfl rfl (o_assign rfl rfl (o_nil (n_then (c_ret (r_body1 rfl rfl ?_)))))))))
    exact ⟨_, rfl, (x2.trans x3), by
      first
      | exact congrArg B (decide_eq_decide.2 (by rw [LayD.eq_iff]; exact ⟨fun h => ⟨h10, h17, h24, h31, h38, h45, h52, h59, h⟩, fun h => h.2.2.2.2.2.2.2.2⟩))
      | exact congrArg B (decide_eq_false fun h => by subst h; first | exact h59 rfl | exact h52 rfl | exact h45 rfl | exact h38 rfl | exact h31 rfl | exact h24 rfl | exact h17 rfl | exact h10 rfl).symm⟩
theorem EqFL_spec {w : World} {l m : List LayD} {v u : Value} (hv : DsV dLay l v w) (hu : DsV dLay m u w) :
    Calls Tryz.prog 41 #[v, u, .func (.func 42) #[] #[]] w (Ret fun r w' => Ext w w' ∧ r = B (decide (l = m))) := by
  refine enter (vs := [v, u, .func (.func 42) #[] #[]]) Tryz.func41 rfl rfl rfl ?_
  have hll := hv.len
  refine c_seq (c_region (o_assign rfl rfl (o_nil (n_then (c_seq (c_seq (c_region (o_move rfl rfl (o_len rfl rfl (r_lenDs Tryz.underlying23 hv) (o_move rfl rfl (o_len rfl rfl (r_lenDs Tryz.underlying23 hu) ?_)))))))))))
  refine o_bin rfl rfl rfl (r_neq_i) (o_nil (n_then ?_))
  refine c_if rfl (fun h14 => ?_) (fun h14 => ?_)
  · have hne : l ≠ m := fun h => h14 (by rw [h])
    refine c_seq (c_region (o_assign rfl rfl (o_nil (n_then (c_ret (r_then (r_body1 rfl rfl ?_)))))))
    exact ⟨_, rfl, Ext.refl _, congrArg B (decide_eq_false hne).symm⟩
  · have hlen : l.length = m.length := by omega
    refine c_skip (n_then (c_seq (c_seq (c_region (o_move rfl rfl (o_len rfl rfl (r_lenDs Tryz.underlying23 hv) (o_move rfl rfl (o_nil (n_then (c_block ?_))))))))))
    refine c_loop (α := Nat) (fun x => [(0, v), (1, u), (2, .func (.func 42) #[] #[]), (15, v), (16, I (l.length : Int)), (17, I (x : Int))]) (fun x w' => Ext w w' ∧ x ≤ l.length ∧ l.take x = m.take x) (fun x => l.length - x) (0) ⟨rfl, rfl, rfl, rfl, rfl, rfl, trivial⟩ ⟨Ext.refl _, by omega, rfl⟩ ?_
    rintro i w4 ⟨e4, hi, ht⟩
    refine c_seq (c_region (o_bin rfl rfl rfl (r_lss_i) (o_nil (n_then (c_seq ?_)))))
    refine c_if rfl (fun h18 => ?_) (fun h18 => ?_)
    · refine c_skip (n_then (c_seq (c_block (c_seq (c_region (o_move rfl rfl ?_))))))
      obtain ⟨a20, c20, p20, q20, h20⟩ := r_ixDs (P := Tryz.prog) (sz := 9) Tryz.underlying23 (by kernel_rfl) dLay_size (by omega) (hv.ext e4) (i := i) (by omega) .i64
      obtain ⟨e20, he20⟩ : ∃ e, e = l[i]'(by omega) := ⟨_, rfl⟩
      rw [← he20] at h20
      obtain ⟨x20_0, x20_1, rfl, f20_0, f20_1⟩ := dLay_inv h20
      refine o_indexAddr rfl rfl rfl (p20 _) (o_load rfl rfl (q20.ld Tryz.underlying46 rfl (by kernel_rfl)) ?_)
      obtain ⟨g8, w8, hr8, l8, x8, k8⟩ := r_allocB (P := Tryz.prog) (w := w4) (t := 46) (z := .agg #[I 0, I 0, I 0, I 0, I 0, I 0, I 0, .slice none 0 0, .slice none 0 0]) (l := [I 0, I 0, I 0, I 0, I 0, I 0, I 0, .slice none 0 0, .slice none 0 0]) (by kernel_rfl) rfl
      refine o_alloc rfl hr8 (o_assign rfl rfl ?_)
      obtain ⟨w5_5, s5_5, q5_5, k5_5⟩ := k8.stS (P := Tryz.prog) (t := 46) (m := [I e20.kd, I e20.fr, I e20.ou, I e20.kh, I e20.kw, I e20.sr, I e20.pd, x20_0, x20_1]) rfl (by kernel_rfl) (Ones.cons rfl (Ones.cons rfl (Ones.cons rfl (Ones.cons rfl (Ones.cons rfl (Ones.cons rfl (Ones.cons rfl (Ones.cons f20_0.one (Ones.cons f20_1.one Ones.nil)))))))))
      refine o_store rfl rfl s5_5 ?_
      have x5_5 := Ext.of_new (x8) q5_5 l8
      refine o_nil (n_then (c_seq (c_region (o_move rfl rfl (o_move rfl rfl ?_)))))
      obtain ⟨a24, c24, p24, q24, h24⟩ := r_ixDs (P := Tryz.prog) (sz := 9) Tryz.underlying23 (by kernel_rfl) dLay_size (by omega) (hu.ext (e4.trans x5_5)) (i := i) (by omega) .i64
      obtain ⟨e24, he24⟩ : ∃ e, e = m[i]'(by omega) := ⟨_, rfl⟩
      rw [← he24] at h24
      obtain ⟨x24_0, x24_1, rfl, f24_0, f24_1⟩ := dLay_inv h24
      refine o_indexAddr rfl rfl rfl (p24 _) (o_load rfl rfl (q24.ld Tryz.underlying46 rfl (by kernel_rfl)) ?_)
      obtain ⟨g9, w9, hr9, l9, x9, k9⟩ := r_allocB (P := Tryz.prog) (w := w5_5) (t := 46) (z := .agg #[I 0, I 0, I 0, I 0, I 0, I 0, I 0, .slice none 0 0, .slice none 0 0]) (l := [I 0, I 0, I 0, I 0, I 0, I 0, I 0, .slice none 0 0, .slice none 0 0]) (by kernel_rfl) rfl
      refine o_alloc rfl hr9 ?_
      obtain ⟨w6_5, s6_5, q6_5, k6_5⟩ := k9.stS (P := Tryz.prog) (t := 46) (m := [I e24.kd, I e24.fr, I e24.ou, I e24.kh, I e24.kw, I e24.sr, I e24.pd, x24_0, x24_1]) rfl (by kernel_rfl) (Ones.cons rfl (Ones.cons rfl (Ones.cons rfl (Ones.cons rfl (Ones.cons rfl (Ones.cons rfl (Ones.cons rfl (Ones.cons f24_0.one (Ones.cons f24_1.one Ones.nil)))))))))
      refine o_store rfl rfl s6_5 ?_
      have x6_5 := Ext.of_new (x9) q6_5 l9
      refine o_nil (n_then (c_seq (c_region (o_move rfl rfl (o_load rfl rfl ((k5_5.ext x6_5).ld Tryz.underlying46 rfl (by kernel_rfl)) (o_load rfl rfl (k6_5.ld Tryz.underlying46 rfl (by kernel_rfl)) ?_))))))
      refine o_callfn rfl call_MSame rfl rfl ((MSame_spec (f20_0.ext (x5_5.trans x6_5)) (f20_1.ext (x5_5.trans x6_5)) (f24_0.ext x6_5) (f24_1.ext x6_5))) ?_
      rintro v29 w29 ⟨x29, rfl⟩
      refine o_not rfl rfl r_not (o_nil (n_then ?_))
      refine c_cond rfl (fun h30 => ?_) (fun h30 => ?_)
      · have hne : l ≠ m := fun h => absurd (show e20 = e24 by subst h; rw [he20, he24]) (by simpa using h30)
        refine c_seq (c_region (o_assign rfl rfl (o_nil (n_then (c_ret (r_block (r_then (r_then (r_block (r_then (r_body1 rfl rfl ?_)))))))))))
        exact ⟨_, rfl, (((e4.trans x5_5).trans x6_5).trans x29), congrArg B (decide_eq_false hne).symm⟩
      · have he : l[i]'(by omega) = m[i]'(by omega) := by rw [← he20, ← he24]; simpa using h30
        refine c_skip (n_block (n_then (c_region (o_bin (r := I ((i + 1 : Nat) : Int)) rfl rfl rfl (by have e : ((i + 1 : Nat) : Int) = (i : Int) + 1 := (by omega); rw [e]; exact r_add_i (by omega) (by omega)) ?_))))
        refine o_move rfl rfl (o_nil ?_)
        refine n_round (i + 1) ⟨rfl, rfl, rfl, rfl, rfl, rfl, trivial⟩ ⟨(((e4.trans x5_5).trans x6_5).trans x29), by omega, by rw [List.take_succ_eq_append_getElem (by omega), List.take_succ_eq_append_getElem (by omega), ht, he]⟩ (by omega)
    · refine c_exit (x_then (x_then (x_here (n_then (c_seq (c_region (o_assign rfl rfl (o_nil (n_then (c_ret (r_body1 rfl rfl ?_)))))))))))
      exact ⟨_, rfl, e4, by
        rw [List.take_of_length_le (by omega), List.take_of_length_le (by omega)] at ht
        rw [decide_eq_true ht]; rfl⟩
theorem MEqual_spec {w : World} {a b : ModD} {x y p q : Value} (ha : DsV dIn a.inp x w) (ha' : DsV dLay a.lays y w) (hb : DsV dIn b.inp p w) (hb' : DsV dLay b.lays q w) :
    Calls Tryz.prog 20 #[.agg #[x, y], .agg #[p, q]] w (Ret fun r w' => Ext w w' ∧ r = B (decide (a = b))) := by
  refine enter (vs := [.agg #[x, y], .agg #[p, q]]) Tryz.func20 rfl rfl rfl ?_
  refine c_seq (c_region ?_)
  obtain ⟨g2, w2, hr2, l2, x2, k2⟩ := r_boxS (P := Tryz.prog) (w := w) (T := 25) (cs := [x, y])
  refine o_box rfl rfl hr2 ?_
  obtain ⟨g3, w3, hr3, l3, x3, k3⟩ := r_boxS (P := Tryz.prog) (w := w2) (T := 25) (cs := [p, q])
  refine o_box rfl rfl hr3 (o_assign rfl rfl (o_nil (n_then (c_seq (c_region (o_fieldAddr rfl rfl (r_fAt (o := 0) Tryz.underlying25 rfl (by kernel_rfl) rfl) ?_))))))
  refine o_load rfl rfl (r_load1 Tryz.underlying22 rfl (x3.cell_some (k2.cell (i := 0) rfl))) (o_fieldAddr rfl rfl (r_fAt (o := 0) Tryz.underlying25 rfl (by kernel_rfl) rfl) ?_)
  refine o_load rfl rfl (r_load1 Tryz.underlying22 rfl (k3.cell (i := 0) rfl)) (o_call call_EqI rfl rfl (EqI_spec (ha.ext (x2.trans x3)) (hb.ext (x2.trans x3))) ?_)
  rintro v9 w9 ⟨x9, rfl⟩
  refine o_move rfl rfl ?_
  refine o_dec (fun h10 => ?_) (fun h10 => ?_)
  · refine g_yes rfl (o_fieldAddr rfl rfl (r_fAt (o := 1) Tryz.underlying25 rfl (by kernel_rfl) rfl) (g_yes rfl (o_load rfl rfl (r_load1 Tryz.underlying23 rfl ((x3.trans x9).cell_some (k2.cell (i := 1) rfl))) ?_)))
    refine g_yes rfl (o_fieldAddr rfl rfl (r_fAt (o := 1) Tryz.underlying25 rfl (by kernel_rfl) rfl) (g_yes rfl (o_load rfl rfl (r_load1 Tryz.underlying23 rfl (x9.cell_some (k3.cell (i := 1) rfl))) ?_)))
    refine g_yes rfl (o_call call_EqFL rfl rfl (EqFL_spec (ha'.ext ((x2.trans x3).trans x9)) (hb'.ext ((x2.trans x3).trans x9))) ?_)
    rintro v15 w15 ⟨x15, rfl⟩
    refine o_pick_t rfl rfl rfl (o_assign rfl rfl (o_nil (n_then (c_ret (r_body1 rfl rfl ?_)))))
    exact ⟨_, rfl, (((x2.trans x3).trans x9).trans x15), by
      first
      | exact congrArg B (decide_eq_decide.2 (by rw [ModD.eq_iff]; exact ⟨fun h => ⟨h10, h⟩, fun h => h.2⟩))
      | exact congrArg B (decide_eq_false fun h => by subst h; exact h10 rfl).symm⟩
  · refine g_no rfl rfl rfl (g_no rfl rfl rfl (g_no rfl rfl rfl (g_no rfl rfl rfl (g_no rfl rfl rfl (o_pick_f rfl rfl rfl (o_assign rfl rfl (o_nil (n_then (c_ret (r_body1 rfl rfl ?_))))))))))
    exact ⟨_, rfl, ((x2.trans x3).trans x9), by
      first
      | exact congrArg B (decide_eq_decide.2 (by rw [ModD.eq_iff]; exact ⟨fun h => ⟨h10, h⟩, fun h => h.2⟩))
      | exact congrArg B (decide_eq_false fun h => by subst h; exact h10 rfl).symm⟩
end Go.Rl
/- A map's new entry; maps whose keys are integers. Conditions: the key is not there yet. -/
namespace Go.Rl
open Go.RowKit Go.Proofs
open Go.Maps (Keyed)
section ops
variable {P : Program} {ops : Array Oper} {Q : Post} {N : Nat} {D : List Deferred} {l : Fr} {w w' : World} {rest : List Oper} {d : Nat} {ty : TypeId} {pos : String} {aft : Array Edge}
theorem o_insert {t : TypeId} {x y z : Operand} {u v r : Value} (hx : ev l x = some u) (hy : ev l y = some v) (hz : ev l z = some r) (hrun : (Instr.mapUpdate t u v r).run P w = .ok () w') (k : OpsJ P ops Q N D l w' rest) : OpsJ P ops Q N D l w (⟨none, .insert t x y z, ty, pos, aft, none⟩ :: rest) :=
  o_act (fun ρ hρ => by
    have : execOp ρ ⟨none, .insert t x y z, ty, pos, aft, none⟩ = (do Instr.mapUpdate t (ρ x) (ρ y) (ρ z); pure Next.skip : Sem Next) := rfl
    rw [this, hρ x _ hx, hρ y _ hy, hρ z _ hz, Sem.run_bind, hrun]; rfl) k
end ops
section
variable {P : Program} {w : World} {t k e : TypeId} {m : Nat} {es : List MapEntry} {clock : Nat} {x : Value}
theorem r_insertNew (K : Keyed P k) (ht : P.underlying t = some (.map k e)) (hm : w.heap[m]? = some (.map es.toArray clock)) (hk : KeysOk P k es) {lx : Lit} (hx : keyOf P k x = some lx) (hno : ∀ e ∈ es, e.key ≠ x) (v : Value) :
    ∃ w', (Instr.mapUpdate t (.map (some m)) x v).run P w = .ok () w' ∧ w.grownBy w' (some m) ∧ w'.heap[m]? = some (.map (es ++ [({ key := x, val := v, born := clock } : MapEntry)]).toArray (clock + 1)) := by
  rcases K.find w hx es hk with ⟨h1, h2⟩ | ⟨j, e0, h1, h2, h3⟩
  · refine ⟨_, ?_, grownBy_putObj' w m (.map (es ++ [({ key := x, val := v, born := clock } : MapEntry)]).toArray (clock + 1)), putObj_at hm⟩
    have hs := run_setObj_map (P := P) (o' := .map (es ++ [({ key := x, val := v, born := clock } : MapEntry)]).toArray (clock + 1)) hm
    simp [Instr.mapUpdate, run_underlying ht, MapKept.run_getObj_map hm, K.check w false hx, h1, Result.andThen] at hs ⊢
    simp [hs]
  · exact absurd h3 (hno e0 (List.mem_of_getElem? h2))
end
theorem keyedI : Keyed Tryz.prog 3 := Go.Maps.int_keyed Tryz.underlying3
theorem keyOfI {n : Int} (h1 : -9223372036854775808 ≤ n) (h2 : n ≤ 9223372036854775807) : keyOf Tryz.prog 3 (I n) = some (.int .i64 n) := Go.Maps.keyOf_int_mk Tryz.underlying3 (by
  have : -9223372036854775808 ≤ n ∧ n ≤ 9223372036854775807 := ⟨h1, h2⟩
  simpa [Lit.wf, IntKind.min, IntKind.max, IntKind.signed, IntKind.bits] using this)
/-- Entries with the keys 1, 2, .., in this order. -/
def entsI : Nat → List Value → List MapEntry
  | _, [] => []
  | i, v :: l => ({ key := I ((i + 1 : Nat) : Int), val := v, born := i } : MapEntry) :: entsI (i + 1) l
theorem entsI_snoc : ∀ (i : Nat) (l : List Value) (v : Value), entsI i (l ++ [v]) = entsI i l ++ [({ key := I ((i + l.length + 1 : Nat) : Int), val := v, born := i + l.length } : MapEntry)]
  | i, [], v => by simp [entsI]
  | i, u :: l, v => by
    simp only [List.cons_append, entsI, entsI_snoc (i + 1) l v, List.length_cons]
    have e1 : i + 1 + l.length + 1 = i + (l.length + 1) + 1 := by omega
    have e2 : i + 1 + l.length = i + (l.length + 1) := by omega
    rw [e1, e2]
theorem entsI_key : ∀ (i : Nat) (l : List Value) (e : MapEntry), e ∈ entsI i l → ∃ j v, l[j]? = some v ∧ e.key = I ((i + j + 1 : Nat) : Int) ∧ e.val = v
  | i, [], e, h => by simp [entsI] at h
  | i, v :: l, e, h => by
    rcases List.mem_cons.1 h with rfl | h
    · exact ⟨0, v, rfl, rfl, rfl⟩
    · obtain ⟨j, u, h1, h2, h3⟩ := entsI_key (i + 1) l e h
      exact ⟨j + 1, u, h1, by rw [h2, show i + 1 + j + 1 = i + (j + 1) + 1 by omega], h3⟩
theorem I_inj {a b : Int} (h : I a = I b) : a = b := by
  unfold I at h
  injection h
theorem entsI_get : ∀ (i : Nat) (l : List Value) (j : Nat) (v : Value), l[j]? = some v → ∃ e ∈ entsI i l, e.key = I ((i + j + 1 : Nat) : Int)
  | i, [], j, v, h => by simp at h
  | i, u :: l, 0, v, h => ⟨_, List.mem_cons_self .., rfl⟩
  | i, u :: l, j + 1, v, h => by
    obtain ⟨e, h1, h2⟩ := entsI_get (i + 1) l j v (by simpa using h)
    exact ⟨e, List.mem_cons_of_mem _ h1, by rw [h2, show i + 1 + j + 1 = i + (j + 1) + 1 by omega]⟩
section
variable {w : World} {m : Nat} {l : List Value} {t e : TypeId}
theorem entsI_keys (hl : l.length ≤ 1000) : KeysOk Tryz.prog 3 (entsI 0 l) := fun x hx => by
  obtain ⟨j, v, h1, h2, _⟩ := entsI_key 0 l x hx
  have := (List.getElem?_eq_some_iff.1 h1).1
  exact ⟨_, by rw [h2]; exact keyOfI (by omega) (by omega)⟩
theorem r_insI (ht : Tryz.prog.underlying t = some (.map 3 e)) (hl : l.length ≤ 1000) (hm : w.heap[m]? = some (.map (entsI 0 l).toArray l.length)) (n : Int) (hn : n = ((l.length + 1 : Nat) : Int)) (v : Value) :
    ∃ w', (Instr.mapUpdate t (.map (some m)) (I n) v).run Tryz.prog w = .ok () w' ∧ w.grownBy w' (some m) ∧ w'.heap[m]? = some (.map (entsI 0 (l ++ [v])).toArray (l ++ [v]).length) := by
  subst hn
  obtain ⟨w', h1, h2, h3⟩ := r_insertNew keyedI ht hm (entsI_keys hl) (keyOfI (n := ((l.length + 1 : Nat) : Int)) (by omega) (by omega)) (fun x hx h => by
    obtain ⟨j, u, h1, h2, _⟩ := entsI_key 0 l x hx
    have := (List.getElem?_eq_some_iff.1 h1).1
    have := I_inj (h2.symm.trans h)
    omega) v
  refine ⟨w', h1, h2, ?_⟩
  rw [h3, entsI_snoc]
  simp
theorem r_lookI (ht : Tryz.prog.underlying t = some (.map 3 e)) {z : Value} (hz : (Tryz.prog.info? e).map (·.zero) = some (some z)) (hl : l.length ≤ 1000) {c : Nat} (hm : w.heap[m]? = some (.map (entsI 0 l).toArray c)) {n : Int} (h1 : -9223372036854775808 ≤ n) (h2 : n ≤ 9223372036854775807) :
    ((Instr.lookup t (.map (some m)) (I n) true).run Tryz.prog w = .ok (.tuple #[z, B false]) w ∧ ¬ (1 ≤ n ∧ n ≤ (l.length : Int))) ∨
    ∃ (j : Nat) (v : Value), (Instr.lookup t (.map (some m)) (I n) true).run Tryz.prog w = .ok (.tuple #[v, B true]) w ∧ l[j]? = some v ∧ n = ((j + 1 : Nat) : Int) := by
  rcases r_lookup (P := Tryz.prog) keyedI ht hz hm (entsI_keys hl) (keyOfI h1 h2) with ⟨_, h3, h4⟩ | ⟨j, x, _, h3, h4, h5⟩
  · refine .inl ⟨h3, fun hn => ?_⟩
    obtain ⟨x, h5, h6⟩ := entsI_get 0 l (n - 1).toNat (l[(n - 1).toNat]'(by omega)) (List.getElem?_eq_getElem (by omega))
    refine h4 x h5 (h6.trans ?_)
    have e : ((0 + (n - 1).toNat + 1 : Nat) : Int) = n := by omega
    rw [e]
  · obtain ⟨i, v, h6, h7, h8⟩ := entsI_key 0 l x (List.mem_of_getElem? h4)
    refine .inr ⟨i, v, by rw [← h8]; exact h3, h6, ?_⟩
    have := I_inj (h5.symm.trans h7)
    omega
end
theorem Blk.k0 {w : World} {g : Nat} {T : TypeId} {v : Value} {l : List Value} (h : Blk g T (v :: l) w) : w.cell? ⟨g, 0, none⟩ = some v := h.cell (i := 0) rfl
end Go.Rl
/- Validity of models walked, the program's side: the conditions of the kinds. Conditions: rationals of at most 2^30 limbs. -/
namespace Go.Rl
open Go.RowKit Go.Proofs
theorem call_ASide : Callable Tryz.prog 89 := ⟨_, Tryz.func89, by kernel_rfl, rfl⟩
theorem call_AKernel : Callable Tryz.prog 68 := ⟨_, Tryz.func68, by kernel_rfl, rfl⟩
theorem call_AWeights : Callable Tryz.prog 71 := ⟨_, Tryz.func71, by kernel_rfl, rfl⟩
theorem call_MOut : Callable Tryz.prog 65 := ⟨_, Tryz.func65, by kernel_rfl, rfl⟩
theorem call_MOnly : Callable Tryz.prog 66 := ⟨_, Tryz.func66, by kernel_rfl, rfl⟩
theorem call_MPool : Callable Tryz.prog 67 := ⟨_, Tryz.func67, by kernel_rfl, rfl⟩
theorem call_MBare : Callable Tryz.prog 69 := ⟨_, Tryz.func69, by kernel_rfl, rfl⟩
theorem call_MDense : Callable Tryz.prog 70 := ⟨_, Tryz.func70, by kernel_rfl, rfl⟩
theorem call_MConv : Callable Tryz.prog 72 := ⟨_, Tryz.func72, by kernel_rfl, rfl⟩
theorem call_MAdd : Callable Tryz.prog 73 := ⟨_, Tryz.func73, by kernel_rfl, rfl⟩
theorem call_MConds : Callable Tryz.prog 38 := ⟨_, Tryz.func38, by kernel_rfl, rfl⟩
theorem call_AValid : Callable Tryz.prog 17 := ⟨_, Tryz.func17, by kernel_rfl, rfl⟩
theorem ASide_spec {w : World} {n : Int} :
    Calls Tryz.prog 89 #[I n] w (Ret fun r w' => w = w' ∧ r = B (decide (1 ≤ n ∧ n ≤ 64))) := by
  refine enter (vs := [I n]) Tryz.func89 rfl rfl rfl ?_
  refine c_seq (c_region (o_assign rfl rfl (o_nil (n_then (c_seq (c_region (o_move rfl rfl (o_bin rfl rfl rfl (r_geq_i) (o_move rfl rfl ?_)))))))))
  refine o_dec (fun h5 => ?_) (fun h5 => ?_)
  · refine g_yes rfl (o_move rfl rfl (g_yes rfl (o_bin rfl rfl rfl (r_leq_i) (o_pick_t rfl rfl rfl (o_assign rfl rfl (o_nil (n_then (c_ret (r_body1 rfl rfl ?_)))))))))
    exact ⟨_, rfl, rfl, by
      first
      | exact congrArg B (decide_eq_decide.2 ⟨fun h => ⟨by omega, h⟩, fun h => h.2⟩)
      | exact congrArg B (decide_eq_false (by omega)).symm⟩
  · refine g_no rfl rfl rfl (g_no rfl rfl rfl (o_pick_f rfl rfl rfl (o_assign rfl rfl (o_nil (n_then (c_ret (r_body1 rfl rfl ?_)))))))
    exact ⟨_, rfl, rfl, by
      first
      | exact congrArg B (decide_eq_decide.2 ⟨fun h => ⟨by omega, h⟩, fun h => h.2⟩)
      | exact congrArg B (decide_eq_false (by omega)).symm⟩
theorem AKernel_spec {w : World} {a : LayD} {x y : Value} :
    Calls Tryz.prog 68 #[.agg #[I a.kd, I a.fr, I a.ou, I a.kh, I a.kw, I a.sr, I a.pd, x, y]] w (Ret fun r w' => Ext w w' ∧ r = B (kernB a)) := by
  refine enter (vs := [.agg #[I a.kd, I a.fr, I a.ou, I a.kh, I a.kw, I a.sr, I a.pd, x, y]]) Tryz.func68 rfl rfl rfl ?_
  refine c_seq (c_region ?_)
  obtain ⟨g1, w1, hr1, l1, x1, k1⟩ := r_boxS (P := Tryz.prog) (w := w) (T := 46) (cs := [I a.kd, I a.fr, I a.ou, I a.kh, I a.kw, I a.sr, I a.pd, x, y])
  refine o_box rfl rfl hr1 (o_assign rfl rfl (o_nil (n_then (c_seq (c_region (o_fieldAddr rfl rfl (r_fAt (o := 3) Tryz.underlying46 rfl (by kernel_rfl) rfl) ?_))))))
  refine o_load rfl rfl (r_load1 Tryz.underlying3 rfl (k1.cell (i := 3) rfl)) (o_call call_ASide rfl rfl (ASide_spec) ?_)
  rintro v5 _ ⟨rfl, rfl⟩
  refine o_move rfl rfl ?_
  refine o_dec (fun h6 => ?_) (fun h6 => ?_)
  · refine g_yes rfl (o_fieldAddr rfl rfl (r_fAt (o := 4) Tryz.underlying46 rfl (by kernel_rfl) rfl) (g_yes rfl (o_load rfl rfl (r_load1 Tryz.underlying3 rfl (k1.cell (i := 4) rfl)) ?_)))
    refine g_yes rfl (o_call call_ASide rfl rfl (ASide_spec) ?_)
    rintro v9 _ ⟨rfl, rfl⟩
    refine o_pick_t rfl rfl rfl (o_move rfl rfl ?_)
    refine o_dec (fun h11 => ?_) (fun h11 => ?_)
    · refine g_yes rfl (o_fieldAddr rfl rfl (r_fAt (o := 5) Tryz.underlying46 rfl (by kernel_rfl) rfl) (g_yes rfl (o_load rfl rfl (r_load1 Tryz.underlying3 rfl (k1.cell (i := 5) rfl)) ?_)))
      refine g_yes rfl (o_call call_ASide rfl rfl (ASide_spec) ?_)
      rintro v14 _ ⟨rfl, rfl⟩
      refine o_pick_t rfl rfl rfl (o_assign rfl rfl (o_nil (n_then (c_ret (r_body1 rfl rfl ?_)))))
      exact ⟨_, rfl, x1, by
        unfold kernB
        first
        | exact congrArg B (decide_eq_decide.2 ⟨fun h => ⟨h6, h11, h⟩, fun h => h.2.2⟩)
        | exact congrArg B (decide_eq_false (fun h => h11 h.2.1)).symm
        | exact congrArg B (decide_eq_false (fun h => h6 h.1)).symm⟩
    · refine g_no rfl rfl rfl (g_no rfl rfl rfl (g_no rfl rfl rfl (o_pick_f rfl rfl rfl (o_assign rfl rfl (o_nil (n_then (c_ret (r_body1 rfl rfl ?_))))))))
      exact ⟨_, rfl, x1, by
        unfold kernB
        first
        | exact congrArg B (decide_eq_decide.2 ⟨fun h => ⟨h6, h11, h⟩, fun h => h.2.2⟩)
        | exact congrArg B (decide_eq_false (fun h => h11 h.2.1)).symm
        | exact congrArg B (decide_eq_false (fun h => h6 h.1)).symm⟩
  · refine g_no rfl rfl rfl (g_no rfl rfl rfl (g_no rfl rfl rfl (o_pick_f rfl rfl rfl (o_move rfl rfl (g_no rfl rfl rfl (g_no rfl rfl rfl (g_no rfl rfl rfl (o_pick_f rfl rfl rfl (o_assign rfl rfl ?_)))))))))
    refine o_nil (n_then (c_ret (r_body1 rfl rfl ?_)))
    exact ⟨_, rfl, x1, by
      unfold kernB
      first
      | exact congrArg B (decide_eq_decide.2 ⟨fun h => ⟨h6, h11, h⟩, fun h => h.2.2⟩)
      | exact congrArg B (decide_eq_false (fun h => h11 h.2.1)).symm
      | exact congrArg B (decide_eq_false (fun h => h6 h.1)).symm⟩
theorem AWeights_spec {w : World} {a : LayD} {x y : Value} {d : Int} (ha : DsV dRat a.ws x w) (hb : DsV dRat a.bs y w) (hd : 1 ≤ d) :
    Calls Tryz.prog 71 #[.agg #[I a.kd, I a.fr, I a.ou, I a.kh, I a.kw, I a.sr, I a.pd, x, y], I d] w (Ret fun r w' => Ext w w' ∧ r = B (decide ((a.bs.length : Int) = a.ou ∧ mulOk a.ws.length d = true))) := by
  refine enter (vs := [.agg #[I a.kd, I a.fr, I a.ou, I a.kh, I a.kw, I a.sr, I a.pd, x, y], I d]) Tryz.func71 rfl rfl rfl ?_
  have hll := ha.len
  refine c_seq (c_region ?_)
  obtain ⟨g2, w2, hr2, l2, x2, k2⟩ := r_boxS (P := Tryz.prog) (w := w) (T := 46) (cs := [I a.kd, I a.fr, I a.ou, I a.kh, I a.kw, I a.sr, I a.pd, x, y])
  refine o_box rfl rfl hr2 (o_assign rfl rfl (o_nil (n_then (c_seq (c_region (o_fieldAddr rfl rfl (r_fAt (o := 8) Tryz.underlying46 rfl (by kernel_rfl) rfl) ?_))))))
  refine o_load rfl rfl (r_load1 Tryz.underlying44 rfl (k2.cell (i := 8) rfl)) (o_len rfl rfl (r_lenDs Tryz.underlying44 (hb.ext x2)) (o_fieldAddr rfl rfl (r_fAt (o := 2) Tryz.underlying46 rfl (by kernel_rfl) rfl) ?_))
  refine o_load rfl rfl (r_load1 Tryz.underlying3 rfl (k2.cell (i := 2) rfl)) (o_bin rfl rfl rfl (r_eql_i) (o_move rfl rfl ?_))
  refine o_dec (fun h11 => ?_) (fun h11 => ?_)
  · refine g_yes rfl (o_fieldAddr rfl rfl (r_fAt (o := 7) Tryz.underlying46 rfl (by kernel_rfl) rfl) (g_yes rfl (o_load rfl rfl (r_load1 Tryz.underlying44 rfl (k2.cell (i := 7) rfl)) ?_)))
    refine g_yes rfl (o_len rfl rfl (r_lenDs Tryz.underlying44 (ha.ext x2)) (g_yes rfl (o_bin rfl rfl rfl (r_gtr_i) (o_pick_t rfl rfl rfl (o_move rfl rfl ?_)))))
    refine o_dec (fun h17 => ?_) (fun h17 => ?_)
    · refine g_yes rfl (o_fieldAddr rfl rfl (r_fAt (o := 7) Tryz.underlying46 rfl (by kernel_rfl) rfl) (g_yes rfl (o_load rfl rfl (r_load1 Tryz.underlying44 rfl (k2.cell (i := 7) rfl)) ?_)))
      refine g_yes rfl (o_len rfl rfl (r_lenDs Tryz.underlying44 (ha.ext x2)) (g_yes rfl (o_bin rfl rfl rfl (r_leq_i) (o_pick_t rfl rfl rfl (o_move rfl rfl ?_)))))
      refine o_dec (fun h23 => ?_) (fun h23 => ?_)
      · refine g_yes rfl (o_fieldAddr rfl rfl (r_fAt (o := 7) Tryz.underlying46 rfl (by kernel_rfl) rfl) (g_yes rfl (o_load rfl rfl (r_load1 Tryz.underlying44 rfl (k2.cell (i := 7) rfl)) ?_)))
        refine g_yes rfl (o_len rfl rfl (r_lenDs Tryz.underlying44 (ha.ext x2)) (g_yes rfl (o_move rfl rfl (g_yes rfl (o_bin rfl rfl rfl (r_rem_i (by omega) (by omega)) ?_)))))
        refine g_yes rfl (o_bin rfl rfl rfl (r_eql_i) (o_pick_t rfl rfl rfl (o_assign rfl rfl (o_nil (n_then (c_ret (r_body1 rfl rfl ?_)))))))
        exact ⟨_, rfl, x2, by
          unfold mulOk
          first
          | exact congrArg B (decide_eq_decide.2 (by rw [decide_eq_true_iff]; omega))
          | exact congrArg B (decide_eq_false (by rw [decide_eq_true_iff]; omega)).symm⟩
      · refine g_no rfl rfl rfl (g_no rfl rfl rfl (g_no rfl rfl rfl (g_no rfl rfl rfl (g_no rfl rfl rfl (g_no rfl rfl rfl (o_pick_f rfl rfl rfl (o_assign rfl rfl (o_nil (n_then (c_ret (r_body1 rfl rfl ?_)))))))))))
        exact ⟨_, rfl, x2, by
          unfold mulOk
          first
          | exact congrArg B (decide_eq_decide.2 (by rw [decide_eq_true_iff]; omega))
          | exact congrArg B (decide_eq_false (by rw [decide_eq_true_iff]; omega)).symm⟩
    · refine g_no rfl rfl rfl (g_no rfl rfl rfl (g_no rfl rfl rfl (g_no rfl rfl rfl (o_pick_f rfl rfl rfl (o_move rfl rfl (g_no rfl rfl rfl (g_no rfl rfl rfl (g_no rfl rfl rfl (g_no rfl rfl rfl ?_)))))))))
      refine g_no rfl rfl rfl (g_no rfl rfl rfl (o_pick_f rfl rfl rfl (o_assign rfl rfl (o_nil (n_then (c_ret (r_body1 rfl rfl ?_)))))))
      exact ⟨_, rfl, x2, by
        unfold mulOk
        first
        | exact congrArg B (decide_eq_decide.2 (by rw [decide_eq_true_iff]; omega))
        | exact congrArg B (decide_eq_false (by rw [decide_eq_true_iff]; omega)).symm⟩
  · refine g_no rfl rfl rfl (g_no rfl rfl rfl (g_no rfl rfl rfl (g_no rfl rfl rfl (o_pick_f rfl rfl rfl (o_move rfl rfl (g_no rfl rfl rfl (g_no rfl rfl rfl (g_no rfl rfl rfl (g_no rfl rfl rfl ?_)))))))))
    refine o_pick_f rfl rfl rfl (o_move rfl rfl (g_no rfl rfl rfl (g_no rfl rfl rfl (g_no rfl rfl rfl (g_no rfl rfl rfl (g_no rfl rfl rfl (g_no rfl rfl rfl (o_pick_f rfl rfl rfl (o_assign rfl rfl ?_)))))))))
    refine o_nil (n_then (c_ret (r_body1 rfl rfl ?_)))
    exact ⟨_, rfl, x2, by
      unfold mulOk
      first
      | exact congrArg B (decide_eq_decide.2 (by rw [decide_eq_true_iff]; omega))
      | exact congrArg B (decide_eq_false (by rw [decide_eq_true_iff]; omega)).symm⟩
theorem MOut_spec {w : World} {a : LayD} {x y : Value} :
    Calls Tryz.prog 65 #[.agg #[I a.kd, I a.fr, I a.ou, I a.kh, I a.kw, I a.sr, I a.pd, x, y]] w (Ret fun r w' => Ext w w' ∧ r = B (decide (1 ≤ a.ou ∧ a.ou ≤ 16384))) := by
  refine enter (vs := [.agg #[I a.kd, I a.fr, I a.ou, I a.kh, I a.kw, I a.sr, I a.pd, x, y]]) Tryz.func65 rfl rfl rfl ?_
  refine c_seq (c_region ?_)
  obtain ⟨g1, w1, hr1, l1, x1, k1⟩ := r_boxS (P := Tryz.prog) (w := w) (T := 46) (cs := [I a.kd, I a.fr, I a.ou, I a.kh, I a.kw, I a.sr, I a.pd, x, y])
  refine o_box rfl rfl hr1 (o_assign rfl rfl (o_nil (n_then (c_seq (c_region (o_fieldAddr rfl rfl (r_fAt (o := 2) Tryz.underlying46 rfl (by kernel_rfl) rfl) ?_))))))
  refine o_load rfl rfl (r_load1 Tryz.underlying3 rfl (k1.cell (i := 2) rfl)) (o_bin rfl rfl rfl (r_geq_i) (o_move rfl rfl ?_))
  refine o_dec (fun h6 => ?_) (fun h6 => ?_)
  · refine g_yes rfl (o_fieldAddr rfl rfl (r_fAt (o := 2) Tryz.underlying46 rfl (by kernel_rfl) rfl) (g_yes rfl (o_load rfl rfl (r_load1 Tryz.underlying3 rfl (k1.cell (i := 2) rfl)) ?_)))
    refine g_yes rfl (o_bin rfl rfl rfl (r_leq_i) (o_pick_t rfl rfl rfl (o_assign rfl rfl (o_nil (n_then (c_ret (r_body1 rfl rfl ?_)))))))
    exact ⟨_, rfl, x1, by
      first
      | exact congrArg B (decide_eq_decide.2 ⟨fun h => ⟨by omega, h⟩, fun h => h.2⟩)
      | exact congrArg B (decide_eq_false (by omega)).symm⟩
  · refine g_no rfl rfl rfl (g_no rfl rfl rfl (g_no rfl rfl rfl (o_pick_f rfl rfl rfl (o_assign rfl rfl (o_nil (n_then (c_ret (r_body1 rfl rfl ?_))))))))
    exact ⟨_, rfl, x1, by
      first
      | exact congrArg B (decide_eq_decide.2 ⟨fun h => ⟨by omega, h⟩, fun h => h.2⟩)
      | exact congrArg B (decide_eq_false (by omega)).symm⟩
theorem MOnly_spec {w : World} {a u : LayD} {x y p q : Value} (ha : DsV dRat a.ws x w) (hb : DsV dRat a.bs y w) (hu : DsV dRat u.ws p w) (hv : DsV dRat u.bs q w) :
    Calls Tryz.prog 66 #[.agg #[I a.kd, I a.fr, I a.ou, I a.kh, I a.kw, I a.sr, I a.pd, x, y], .agg #[I u.kd, I u.fr, I u.ou, I u.kh, I u.kw, I u.sr, I u.pd, p, q]] w (Ret fun r w' => Ext w w' ∧ r = B (decide (a = { u with kd := a.kd }))) := by
  refine enter (vs := [.agg #[I a.kd, I a.fr, I a.ou, I a.kh, I a.kw, I a.sr, I a.pd, x, y], .agg #[I u.kd, I u.fr, I u.ou, I u.kh, I u.kw, I u.sr, I u.pd, p, q]]) Tryz.func66 rfl rfl rfl ?_
  refine c_seq (c_region ?_)
  obtain ⟨g2, w2, hr2, l2, x2, k2⟩ := r_boxS (P := Tryz.prog) (w := w) (T := 46) (cs := [I a.kd, I a.fr, I a.ou, I a.kh, I a.kw, I a.sr, I a.pd, x, y])
  refine o_box rfl rfl hr2 ?_
  obtain ⟨g3, w3, hr3, l3, x3, k3⟩ := r_boxS (P := Tryz.prog) (w := w2) (T := 46) (cs := [I u.kd, I u.fr, I u.ou, I u.kh, I u.kw, I u.sr, I u.pd, p, q])
  refine o_box rfl rfl hr3 (o_assign rfl rfl (o_nil (n_then (c_seq (c_region (o_fieldAddr rfl rfl (r_fAt (o := 0) Tryz.underlying46 rfl (by kernel_rfl) rfl) ?_))))))
  refine o_load rfl rfl (r_load1 Tryz.underlying3 rfl (x3.cell_some (k2.cell (i := 0) rfl))) (o_fieldAddr rfl rfl (r_fAt (o := 0) Tryz.underlying46 rfl (by kernel_rfl) rfl) ?_)
  obtain ⟨w1_3, s1_3, q1_3, k1_3⟩ := k3.stC (P := Tryz.prog) (t := 3) (i := 0) (v := I a.kd) (by kernel_rfl) rfl (by simp)
  refine o_store rfl rfl s1_3 ?_
  have x1_3 := Ext.of_new (x3) q1_3 l3
  refine o_nil (n_then (c_seq (c_region (o_load rfl rfl ((k2.ext x1_3).ld Tryz.underlying46 rfl (by kernel_rfl)) (o_load rfl rfl (k1_3.ld Tryz.underlying46 rfl (by kernel_rfl)) ?_)))))
  refine o_call call_MSame rfl rfl ((MSame_spec (b := { u with kd := a.kd }) (ha.ext (x2.trans x1_3)) (hb.ext (x2.trans x1_3)) (hu.ext (x2.trans x1_3)) (hv.ext (x2.trans x1_3)))) ?_
  rintro v10 w10 ⟨x10, rfl⟩
  refine o_assign rfl rfl (o_nil (n_then (c_ret (r_body1 rfl rfl ?_))))
  exact ⟨_, rfl, ((x2.trans x1_3).trans x10), rfl⟩
abbrev fvOut : Value := .func (.func 65) #[] #[]
abbrev fvOnly : Value := .func (.func 66) #[] #[]
theorem MPool_spec {w : World} {a : LayD} {x y : Value} {i : Int} {g : Nat} {T : TypeId} (ha : DsV dRat a.ws x w) (hb : DsV dRat a.bs y w) (hg : Blk g T [fvOnly] w) :
    Calls Tryz.prog 67 #[.agg #[I a.kd, I a.fr, I a.ou, I a.kh, I a.kw, I a.sr, I a.pd, x, y], I i, .pointer (some ⟨g, 0, none⟩)] w (Ret fun r w' => Ext w w' ∧ r = B (decide (kernB a = true ∧ a = ⟨a.kd, 0, 0, a.kh, a.kw, a.sr, 0, [], []⟩))) := by
  refine enter (vs := [.agg #[I a.kd, I a.fr, I a.ou, I a.kh, I a.kw, I a.sr, I a.pd, x, y], I i, .pointer (some ⟨g, 0, none⟩)]) Tryz.func67 rfl rfl rfl ?_
  refine c_seq (c_region ?_)
  obtain ⟨g3, w3, hr3, l3, x3, k3⟩ := r_boxS (P := Tryz.prog) (w := w) (T := 46) (cs := [I a.kd, I a.fr, I a.ou, I a.kh, I a.kw, I a.sr, I a.pd, x, y])
  refine o_box rfl rfl hr3 (o_assign rfl rfl (o_nil (n_then (c_seq ?_))))
  rcases hk : kernB a
  · refine c_region (o_load rfl rfl (k3.ld Tryz.underlying46 rfl (by kernel_rfl)) (o_call call_AKernel rfl rfl ((by have := AKernel_spec (w := w3) (a := a) (x := x) (y := y); rw [hk] at this; exact this)) ?_))
    rintro v7 w7 ⟨x7, rfl⟩
    refine o_move rfl rfl (g_no rfl rfl rfl (g_no rfl rfl rfl (g_no rfl rfl rfl (g_no rfl rfl rfl (g_no rfl rfl rfl (g_no rfl rfl rfl (g_no rfl rfl rfl (g_no rfl rfl rfl (g_no rfl rfl rfl ?_)))))))))
    refine g_no rfl rfl rfl (o_pick_f rfl rfl rfl (o_assign rfl rfl (o_nil (n_then (c_ret (r_body1 rfl rfl ?_))))))
    exact ⟨_, rfl, (x3.trans x7), by
      first
      | exact congrArg B (decide_eq_decide.2 ⟨fun h => ⟨rfl, h⟩, fun h => h.2⟩)
      | exact congrArg B (decide_eq_false (fun h => absurd h.1 (by decide))).symm⟩
  · refine c_region (o_load rfl rfl (k3.ld Tryz.underlying46 rfl (by kernel_rfl)) (o_call call_AKernel rfl rfl ((by have := AKernel_spec (w := w3) (a := a) (x := x) (y := y); rw [hk] at this; exact this)) ?_))
    rintro v7 w7 ⟨x7, rfl⟩
    refine o_move rfl rfl (g_yes rfl (o_load rfl rfl (r_load1 Tryz.underlying63 rfl ((x3.trans x7).cell_some hg.k0)) (g_yes rfl (o_load rfl rfl ((k3.ext x7).ld Tryz.underlying46 rfl (by kernel_rfl)) ?_))))
    refine g_yes rfl (o_fieldAddr rfl rfl (r_fAt (o := 3) Tryz.underlying46 rfl (by kernel_rfl) rfl) (g_yes rfl (o_load rfl rfl (r_load1 Tryz.underlying3 rfl (x7.cell_some (k3.cell (i := 3) rfl))) ?_)))
    refine g_yes rfl (o_fieldAddr rfl rfl (r_fAt (o := 4) Tryz.underlying46 rfl (by kernel_rfl) rfl) (g_yes rfl (o_load rfl rfl (r_load1 Tryz.underlying3 rfl (x7.cell_some (k3.cell (i := 4) rfl))) ?_)))
    refine g_yes rfl (o_fieldAddr rfl rfl (r_fAt (o := 5) Tryz.underlying46 rfl (by kernel_rfl) rfl) (g_yes rfl (o_load rfl rfl (r_load1 Tryz.underlying3 rfl (x7.cell_some (k3.cell (i := 5) rfl))) ?_)))
    refine g_yes rfl (o_build (vs := [(3, I a.kh), (4, I a.kw), (5, I a.sr)]) (r := .agg #[I 0, I 0, I 0, I a.kh, I a.kw, I a.sr, I 0, .slice none 0 0, .slice none 0 0]) rfl rfl (by exact run_build _ _ _ _ (by kernel_rfl)) ?_)
    refine g_yes rfl (o_callfn rfl call_MOnly rfl rfl ((MOnly_spec (u := ⟨0, 0, 0, a.kh, a.kw, a.sr, 0, [], []⟩) (ha.ext (x3.trans x7)) (hb.ext (x3.trans x7)) (DsV.nil _ _) (DsV.nil _ _))) ?_)
    rintro v18 w18 ⟨x18, rfl⟩
    refine o_pick_t rfl rfl rfl (o_assign rfl rfl (o_nil (n_then (c_ret (r_body1 rfl rfl ?_)))))
    exact ⟨_, rfl, ((x3.trans x7).trans x18), by
      first
      | exact congrArg B (decide_eq_decide.2 ⟨fun h => ⟨rfl, h⟩, fun h => h.2⟩)
      | exact congrArg B (decide_eq_false (fun h => absurd h.1 (by decide))).symm⟩
theorem MBare_spec {w : World} {a : LayD} {x y : Value} {i : Int} {g : Nat} {T : TypeId} (ha : DsV dRat a.ws x w) (hb : DsV dRat a.bs y w) (hg : Blk g T [fvOnly] w) :
    Calls Tryz.prog 69 #[.agg #[I a.kd, I a.fr, I a.ou, I a.kh, I a.kw, I a.sr, I a.pd, x, y], I i, .pointer (some ⟨g, 0, none⟩)] w (Ret fun r w' => Ext w w' ∧ r = B (decide (a = ⟨a.kd, 0, 0, 0, 0, 0, 0, [], []⟩))) := by
  refine enter (vs := [.agg #[I a.kd, I a.fr, I a.ou, I a.kh, I a.kw, I a.sr, I a.pd, x, y], I i, .pointer (some ⟨g, 0, none⟩)]) Tryz.func69 rfl rfl rfl ?_
  refine c_seq (c_region ?_)
  obtain ⟨g3, w3, hr3, l3, x3, k3⟩ := r_boxS (P := Tryz.prog) (w := w) (T := 46) (cs := [I a.kd, I a.fr, I a.ou, I a.kh, I a.kw, I a.sr, I a.pd, x, y])
  refine o_box rfl rfl hr3 (o_assign rfl rfl (o_nil (n_then (c_seq (c_region (o_load rfl rfl (r_load1 Tryz.underlying63 rfl (x3.cell_some hg.k0)) ?_))))))
  refine o_load rfl rfl (k3.ld Tryz.underlying46 rfl (by kernel_rfl)) (o_build (vs := []) (r := .agg #[I 0, I 0, I 0, I 0, I 0, I 0, I 0, .slice none 0 0, .slice none 0 0]) rfl rfl (by exact run_build _ _ _ _ (by kernel_rfl)) ?_)
  refine o_callfn rfl call_MOnly rfl rfl ((MOnly_spec (u := ⟨0, 0, 0, 0, 0, 0, 0, [], []⟩) (ha.ext x3) (hb.ext x3) (DsV.nil _ _) (DsV.nil _ _))) ?_
  rintro v9 w9 ⟨x9, rfl⟩
  refine o_assign rfl rfl (o_nil (n_then (c_ret (r_body1 rfl rfl ?_))))
  exact ⟨_, rfl, (x3.trans x9), rfl⟩
theorem MDense_spec {w : World} {a : LayD} {x y : Value} {i : Int} {g1 g : Nat} {T1 T : TypeId} (ha : DsV dRat a.ws x w) (hb : DsV dRat a.bs y w) (hg1 : Blk g1 T1 [fvOut] w) (hg : Blk g T [fvOnly] w) :
    Calls Tryz.prog 70 #[.agg #[I a.kd, I a.fr, I a.ou, I a.kh, I a.kw, I a.sr, I a.pd, x, y], I i, .pointer (some ⟨g1, 0, none⟩), .pointer (some ⟨g, 0, none⟩)] w (Ret fun r w' => Ext w w' ∧ r = B (decide ((1 ≤ a.ou ∧ a.ou ≤ 16384) ∧ ((a.bs.length : Int) = a.ou ∧ mulOk a.ws.length a.ou = true) ∧ a = ⟨a.kd, 0, a.ou, 0, 0, 0, 0, a.ws, a.bs⟩))) := by
  refine enter (vs := [.agg #[I a.kd, I a.fr, I a.ou, I a.kh, I a.kw, I a.sr, I a.pd, x, y], I i, .pointer (some ⟨g1, 0, none⟩), .pointer (some ⟨g, 0, none⟩)]) Tryz.func70 rfl rfl rfl ?_
  refine c_seq (c_region ?_)
  obtain ⟨g4, w4, hr4, l4, x4, k4⟩ := r_boxS (P := Tryz.prog) (w := w) (T := 46) (cs := [I a.kd, I a.fr, I a.ou, I a.kh, I a.kw, I a.sr, I a.pd, x, y])
  refine o_box rfl rfl hr4 (o_assign rfl rfl (o_nil (n_then (c_seq (c_region (o_load rfl rfl (r_load1 Tryz.underlying102 rfl (x4.cell_some hg1.k0)) (o_load rfl rfl (k4.ld Tryz.underlying46 rfl (by kernel_rfl)) ?_)))))))
  refine o_callfn rfl call_MOut rfl rfl ((MOut_spec)) ?_
  rintro v9 w9 ⟨x9, rfl⟩
  refine o_move rfl rfl ?_
  refine o_dec (fun h10 => ?_) (fun h10 => ?_)
  · refine g_yes rfl (o_load rfl rfl ((k4.ext x9).ld Tryz.underlying46 rfl (by kernel_rfl)) (g_yes rfl (o_fieldAddr rfl rfl (r_fAt (o := 2) Tryz.underlying46 rfl (by kernel_rfl) rfl) ?_)))
    refine g_yes rfl (o_load rfl rfl (r_load1 Tryz.underlying3 rfl (x9.cell_some (k4.cell (i := 2) rfl))) (g_yes rfl (o_call call_AWeights rfl rfl ((AWeights_spec (ha.ext (x4.trans x9)) (hb.ext (x4.trans x9)) h10.1)) ?_)))
    rintro v14 w14 ⟨x14, rfl⟩
    refine o_pick_t rfl rfl rfl (o_move rfl rfl ?_)
    refine o_dec (fun h16 => ?_) (fun h16 => ?_)
    · refine g_yes rfl (o_load rfl rfl (r_load1 Tryz.underlying63 rfl (((x4.trans x9).trans x14).cell_some hg.k0)) (g_yes rfl (o_load rfl rfl ((k4.ext (x9.trans x14)).ld Tryz.underlying46 rfl (by kernel_rfl)) ?_)))
      refine g_yes rfl (o_fieldAddr rfl rfl (r_fAt (o := 2) Tryz.underlying46 rfl (by kernel_rfl) rfl) (g_yes rfl (o_load rfl rfl (r_load1 Tryz.underlying3 rfl ((x9.trans x14).cell_some (k4.cell (i := 2) rfl))) ?_)))
      refine g_yes rfl (o_fieldAddr rfl rfl (r_fAt (o := 7) Tryz.underlying46 rfl (by kernel_rfl) rfl) (g_yes rfl (o_load rfl rfl (r_load1 Tryz.underlying44 rfl ((x9.trans x14).cell_some (k4.cell (i := 7) rfl))) ?_)))
      refine g_yes rfl (o_fieldAddr rfl rfl (r_fAt (o := 8) Tryz.underlying46 rfl (by kernel_rfl) rfl) (g_yes rfl (o_load rfl rfl (r_load1 Tryz.underlying44 rfl ((x9.trans x14).cell_some (k4.cell (i := 8) rfl))) ?_)))
      refine g_yes rfl (o_build (vs := [(2, I a.ou), (7, x), (8, y)]) (r := .agg #[I 0, I 0, I a.ou, I 0, I 0, I 0, I 0, x, y]) rfl rfl (by obtain ⟨_, _, _, rfl⟩ := ha.isS; obtain ⟨_, _, _, rfl⟩ := hb.isS; exact run_build _ _ _ _ (by kernel_rfl)) ?_)
      refine g_yes rfl (o_callfn rfl call_MOnly rfl rfl ((MOnly_spec (u := ⟨0, 0, a.ou, 0, 0, 0, 0, a.ws, a.bs⟩) (ha.ext ((x4.trans x9).trans x14)) (hb.ext ((x4.trans x9).trans x14)) (ha.ext ((x4.trans x9).trans x14)) (hb.ext ((x4.trans x9).trans x14)))) ?_)
      rintro v26 w26 ⟨x26, rfl⟩
      refine o_pick_t rfl rfl rfl (o_assign rfl rfl (o_nil (n_then (c_ret (r_body1 rfl rfl ?_)))))
      exact ⟨_, rfl, (((x4.trans x9).trans x14).trans x26), by
        first
        | exact congrArg B (decide_eq_decide.2 ⟨fun h => ⟨h10, h16, h⟩, fun h => h.2.2⟩)
        | exact congrArg B (decide_eq_false (fun h => h16 h.2.1)).symm
        | exact congrArg B (decide_eq_false (fun h => h10 h.1)).symm⟩
    · refine g_no rfl rfl rfl (g_no rfl rfl rfl (g_no rfl rfl rfl (g_no rfl rfl rfl (g_no rfl rfl rfl (g_no rfl rfl rfl (g_no rfl rfl rfl (g_no rfl rfl rfl (g_no rfl rfl rfl (g_no rfl rfl rfl ?_)))))))))
      refine o_pick_f rfl rfl rfl (o_assign rfl rfl (o_nil (n_then (c_ret (r_body1 rfl rfl ?_)))))
      exact ⟨_, rfl, ((x4.trans x9).trans x14), by
        first
        | exact congrArg B (decide_eq_decide.2 ⟨fun h => ⟨h10, h16, h⟩, fun h => h.2.2⟩)
        | exact congrArg B (decide_eq_false (fun h => h16 h.2.1)).symm
        | exact congrArg B (decide_eq_false (fun h => h10 h.1)).symm⟩
  · refine g_no rfl rfl rfl (g_no rfl rfl rfl (g_no rfl rfl rfl (g_no rfl rfl rfl (o_pick_f rfl rfl rfl (o_move rfl rfl (g_no rfl rfl rfl (g_no rfl rfl rfl (g_no rfl rfl rfl (g_no rfl rfl rfl ?_)))))))))
    refine g_no rfl rfl rfl (g_no rfl rfl rfl (g_no rfl rfl rfl (g_no rfl rfl rfl (g_no rfl rfl rfl (g_no rfl rfl rfl (o_pick_f rfl rfl rfl (o_assign rfl rfl (o_nil (n_then (c_ret (r_body1 rfl rfl ?_)))))))))))
    exact ⟨_, rfl, (x4.trans x9), by
      first
      | exact congrArg B (decide_eq_decide.2 ⟨fun h => ⟨h10, h16, h⟩, fun h => h.2.2⟩)
      | exact congrArg B (decide_eq_false (fun h => h16 h.2.1)).symm
      | exact congrArg B (decide_eq_false (fun h => h10 h.1)).symm⟩
theorem MConv_spec {w : World} {a : LayD} {x y : Value} {i : Int} {g1 g : Nat} {T1 T : TypeId} (ha : DsV dRat a.ws x w) (hb : DsV dRat a.bs y w) (hg1 : Blk g1 T1 [fvOut] w) (hg : Blk g T [fvOnly] w) :
    Calls Tryz.prog 72 #[.agg #[I a.kd, I a.fr, I a.ou, I a.kh, I a.kw, I a.sr, I a.pd, x, y], I i, .pointer (some ⟨g1, 0, none⟩), .pointer (some ⟨g, 0, none⟩)] w (Ret fun r w' => Ext w w' ∧ r = B (decide ((1 ≤ a.ou ∧ a.ou ≤ 16384) ∧ kernB a = true ∧ a.pd ≥ 0 ∧ a.pd < a.kh ∧ a.pd < a.kw ∧ ((a.bs.length : Int) = a.ou ∧ mulOk a.ws.length (a.ou * a.kh * a.kw) = true) ∧ a = ⟨a.kd, 0, a.ou, a.kh, a.kw, a.sr, a.pd, a.ws, a.bs⟩))) := by
  refine enter (vs := [.agg #[I a.kd, I a.fr, I a.ou, I a.kh, I a.kw, I a.sr, I a.pd, x, y], I i, .pointer (some ⟨g1, 0, none⟩), .pointer (some ⟨g, 0, none⟩)]) Tryz.func72 rfl rfl rfl ?_
  refine c_seq (c_region ?_)
  obtain ⟨g4, w4, hr4, l4, x4, k4⟩ := r_boxS (P := Tryz.prog) (w := w) (T := 46) (cs := [I a.kd, I a.fr, I a.ou, I a.kh, I a.kw, I a.sr, I a.pd, x, y])
  refine o_box rfl rfl hr4 (o_assign rfl rfl (o_nil (n_then (c_seq (c_region (o_load rfl rfl (r_load1 Tryz.underlying102 rfl (x4.cell_some hg1.k0)) (o_load rfl rfl (k4.ld Tryz.underlying46 rfl (by kernel_rfl)) ?_)))))))
  refine o_callfn rfl call_MOut rfl rfl ((MOut_spec)) ?_
  rintro v9 w9 ⟨x9, rfl⟩
  refine o_move rfl rfl ?_
  refine o_dec (fun h10 => ?_) (fun h10 => ?_)
  · refine g_yes rfl (o_load rfl rfl ((k4.ext x9).ld Tryz.underlying46 rfl (by kernel_rfl)) (g_yes rfl (o_call call_AKernel rfl rfl (AKernel_spec) ?_)))
    rintro v12 w12 ⟨x12, rfl⟩
    refine o_pick_t rfl rfl rfl (o_move rfl rfl ?_)
    refine o_dec (fun h14 => ?_) (fun h14 => ?_)
    · refine g_yes rfl (o_fieldAddr rfl rfl (r_fAt (o := 6) Tryz.underlying46 rfl (by kernel_rfl) rfl) (g_yes rfl (o_load rfl rfl (r_load1 Tryz.underlying3 rfl ((x9.trans x12).cell_some (k4.cell (i := 6) rfl))) ?_)))
      refine g_yes rfl (o_bin rfl rfl rfl (r_geq_i) (o_pick_t rfl rfl rfl (o_move rfl rfl ?_)))
      refine o_dec (fun h19 => ?_) (fun h19 => ?_)
      · refine g_yes rfl (o_fieldAddr rfl rfl (r_fAt (o := 6) Tryz.underlying46 rfl (by kernel_rfl) rfl) (g_yes rfl (o_load rfl rfl (r_load1 Tryz.underlying3 rfl ((x9.trans x12).cell_some (k4.cell (i := 6) rfl))) ?_)))
        refine g_yes rfl (o_fieldAddr rfl rfl (r_fAt (o := 3) Tryz.underlying46 rfl (by kernel_rfl) rfl) (g_yes rfl (o_load rfl rfl (r_load1 Tryz.underlying3 rfl ((x9.trans x12).cell_some (k4.cell (i := 3) rfl))) ?_)))
        refine g_yes rfl (o_bin rfl rfl rfl (r_lss_i) (o_pick_t rfl rfl rfl (o_move rfl rfl ?_)))
        refine o_dec (fun h26 => ?_) (fun h26 => ?_)
        · refine g_yes rfl (o_fieldAddr rfl rfl (r_fAt (o := 6) Tryz.underlying46 rfl (by kernel_rfl) rfl) (g_yes rfl (o_load rfl rfl (r_load1 Tryz.underlying3 rfl ((x9.trans x12).cell_some (k4.cell (i := 6) rfl))) ?_)))
          refine g_yes rfl (o_fieldAddr rfl rfl (r_fAt (o := 4) Tryz.underlying46 rfl (by kernel_rfl) rfl) (g_yes rfl (o_load rfl rfl (r_load1 Tryz.underlying3 rfl ((x9.trans x12).cell_some (k4.cell (i := 4) rfl))) ?_)))
          refine g_yes rfl (o_bin rfl rfl rfl (r_lss_i) (o_pick_t rfl rfl rfl (o_move rfl rfl ?_)))
          refine o_dec (fun h33 => ?_) (fun h33 => ?_)
          · refine g_yes rfl (o_load rfl rfl ((k4.ext (x9.trans x12)).ld Tryz.underlying46 rfl (by kernel_rfl)) (g_yes rfl (o_fieldAddr rfl rfl (r_fAt (o := 2) Tryz.underlying46 rfl (by kernel_rfl) rfl) ?_)))
            refine g_yes rfl (o_load rfl rfl (r_load1 Tryz.underlying3 rfl ((x9.trans x12).cell_some (k4.cell (i := 2) rfl))) (g_yes rfl (o_fieldAddr rfl rfl (r_fAt (o := 3) Tryz.underlying46 rfl (by kernel_rfl) rfl) ?_)))
            refine g_yes rfl (o_load rfl rfl (r_load1 Tryz.underlying3 rfl ((x9.trans x12).cell_some (k4.cell (i := 3) rfl))) (g_yes rfl ?_))
            have m1 := mul_rng h10.1 h10.2 h14.1.1 h14.1.2
            refine o_bin rfl rfl rfl (r_mul_i (by omega) (by omega)) (g_yes rfl (o_fieldAddr rfl rfl (r_fAt (o := 4) Tryz.underlying46 rfl (by kernel_rfl) rfl) ?_))
            refine g_yes rfl (o_load rfl rfl (r_load1 Tryz.underlying3 rfl ((x9.trans x12).cell_some (k4.cell (i := 4) rfl))) (g_yes rfl ?_))
            have m2 := mul_rng m1.1 m1.2 h14.2.1.1 h14.2.1.2
            refine o_bin rfl rfl rfl (r_mul_i (by omega) (by omega)) (g_yes rfl (o_call call_AWeights rfl rfl ((AWeights_spec (ha.ext ((x4.trans x9).trans x12)) (hb.ext ((x4.trans x9).trans x12)) m2.1)) ?_))
            rintro v43 w43 ⟨x43, rfl⟩
            refine o_pick_t rfl rfl rfl (o_move rfl rfl ?_)
            refine o_dec (fun h45 => ?_) (fun h45 => ?_)
            · refine g_yes rfl (o_load rfl rfl (r_load1 Tryz.underlying63 rfl ((((x4.trans x9).trans x12).trans x43).cell_some hg.k0)) (g_yes rfl ?_))
              refine o_load rfl rfl ((k4.ext ((x9.trans x12).trans x43)).ld Tryz.underlying46 rfl (by kernel_rfl)) (g_yes rfl (o_fieldAddr rfl rfl (r_fAt (o := 2) Tryz.underlying46 rfl (by kernel_rfl) rfl) ?_))
              refine g_yes rfl (o_load rfl rfl (r_load1 Tryz.underlying3 rfl (((x9.trans x12).trans x43).cell_some (k4.cell (i := 2) rfl))) (g_yes rfl (o_fieldAddr rfl rfl (r_fAt (o := 3) Tryz.underlying46 rfl (by kernel_rfl) rfl) ?_)))
              refine g_yes rfl (o_load rfl rfl (r_load1 Tryz.underlying3 rfl (((x9.trans x12).trans x43).cell_some (k4.cell (i := 3) rfl))) (g_yes rfl (o_fieldAddr rfl rfl (r_fAt (o := 4) Tryz.underlying46 rfl (by kernel_rfl) rfl) ?_)))
              refine g_yes rfl (o_load rfl rfl (r_load1 Tryz.underlying3 rfl (((x9.trans x12).trans x43).cell_some (k4.cell (i := 4) rfl))) (g_yes rfl (o_fieldAddr rfl rfl (r_fAt (o := 5) Tryz.underlying46 rfl (by kernel_rfl) rfl) ?_)))
              refine g_yes rfl (o_load rfl rfl (r_load1 Tryz.underlying3 rfl (((x9.trans x12).trans x43).cell_some (k4.cell (i := 5) rfl))) (g_yes rfl (o_fieldAddr rfl rfl (r_fAt (o := 6) Tryz.underlying46 rfl (by kernel_rfl) rfl) ?_)))
              refine g_yes rfl (o_load rfl rfl (r_load1 Tryz.underlying3 rfl (((x9.trans x12).trans x43).cell_some (k4.cell (i := 6) rfl))) (g_yes rfl (o_fieldAddr rfl rfl (r_fAt (o := 7) Tryz.underlying46 rfl (by kernel_rfl) rfl) ?_)))
              refine g_yes rfl (o_load rfl rfl (r_load1 Tryz.underlying44 rfl (((x9.trans x12).trans x43).cell_some (k4.cell (i := 7) rfl))) (g_yes rfl (o_fieldAddr rfl rfl (r_fAt (o := 8) Tryz.underlying46 rfl (by kernel_rfl) rfl) ?_)))
              refine g_yes rfl (o_load rfl rfl (r_load1 Tryz.underlying44 rfl (((x9.trans x12).trans x43).cell_some (k4.cell (i := 8) rfl))) (g_yes rfl (o_build (vs := [(2, I a.ou), (3, I a.kh), (4, I a.kw), (5, I a.sr), (6, I a.pd), (7, x), (8, y)]) (r := .agg #[I 0, I 0, I a.ou, I a.kh, I a.kw, I a.sr, I a.pd, x, y]) rfl rfl (by obtain ⟨_, _, _, rfl⟩ := ha.isS; obtain ⟨_, _, _, rfl⟩ := hb.isS; exact run_build _ _ _ _ (by kernel_rfl)) ?_)))
              refine g_yes rfl (o_callfn rfl call_MOnly rfl rfl ((MOnly_spec (u := ⟨0, 0, a.ou, a.kh, a.kw, a.sr, a.pd, a.ws, a.bs⟩) (ha.ext (((x4.trans x9).trans x12).trans x43)) (hb.ext (((x4.trans x9).trans x12).trans x43)) (ha.ext (((x4.trans x9).trans x12).trans x43)) (hb.ext (((x4.trans x9).trans x12).trans x43)))) ?_)
              rintro v63 w63 ⟨x63, rfl⟩
              refine o_pick_t rfl rfl rfl (o_assign rfl rfl (o_nil (n_then (c_ret (r_body1 rfl rfl ?_)))))
              exact ⟨_, rfl, ((((x4.trans x9).trans x12).trans x43).trans x63), by
                first
                | exact congrArg B (decide_eq_decide.2 ⟨fun h => ⟨h10, decide_eq_true h14, h19, h26, h33, h45, h⟩, fun h => h.2.2.2.2.2.2⟩)
                | exact congrArg B (decide_eq_false (fun h => h45 h.2.2.2.2.2.1)).symm
                | exact congrArg B (decide_eq_false (fun h => h33 h.2.2.2.2.1)).symm
                | exact congrArg B (decide_eq_false (fun h => h26 h.2.2.2.1)).symm
                | exact congrArg B (decide_eq_false (fun h => h19 h.2.2.1)).symm
                | exact congrArg B (decide_eq_false (fun h => h14 (of_decide_eq_true h.2.1))).symm
                | exact congrArg B (decide_eq_false (fun h => h10 h.1)).symm⟩
            · refine g_no rfl rfl rfl (g_no rfl rfl rfl (g_no rfl rfl rfl (g_no rfl rfl rfl (g_no rfl rfl rfl (g_no rfl rfl rfl (g_no rfl rfl rfl (g_no rfl rfl rfl (g_no rfl rfl rfl (g_no rfl rfl rfl ?_)))))))))
              refine g_no rfl rfl rfl (g_no rfl rfl rfl (g_no rfl rfl rfl (g_no rfl rfl rfl (g_no rfl rfl rfl (g_no rfl rfl rfl (g_no rfl rfl rfl (g_no rfl rfl rfl (o_pick_f rfl rfl rfl (o_assign rfl rfl ?_)))))))))
              refine o_nil (n_then (c_ret (r_body1 rfl rfl ?_)))
              exact ⟨_, rfl, (((x4.trans x9).trans x12).trans x43), by
                first
                | exact congrArg B (decide_eq_decide.2 ⟨fun h => ⟨h10, decide_eq_true h14, h19, h26, h33, h45, h⟩, fun h => h.2.2.2.2.2.2⟩)
                | exact congrArg B (decide_eq_false (fun h => h45 h.2.2.2.2.2.1)).symm
                | exact congrArg B (decide_eq_false (fun h => h33 h.2.2.2.2.1)).symm
                | exact congrArg B (decide_eq_false (fun h => h26 h.2.2.2.1)).symm
                | exact congrArg B (decide_eq_false (fun h => h19 h.2.2.1)).symm
                | exact congrArg B (decide_eq_false (fun h => h14 (of_decide_eq_true h.2.1))).symm
                | exact congrArg B (decide_eq_false (fun h => h10 h.1)).symm⟩
          · refine g_no rfl rfl rfl (g_no rfl rfl rfl (g_no rfl rfl rfl (g_no rfl rfl rfl (g_no rfl rfl rfl (g_no rfl rfl rfl (g_no rfl rfl rfl (g_no rfl rfl rfl (g_no rfl rfl rfl (g_no rfl rfl rfl ?_)))))))))
            refine o_pick_f rfl rfl rfl (o_move rfl rfl (g_no rfl rfl rfl (g_no rfl rfl rfl (g_no rfl rfl rfl (g_no rfl rfl rfl (g_no rfl rfl rfl (g_no rfl rfl rfl (g_no rfl rfl rfl (g_no rfl rfl rfl ?_)))))))))
            refine g_no rfl rfl rfl (g_no rfl rfl rfl (g_no rfl rfl rfl (g_no rfl rfl rfl (g_no rfl rfl rfl (g_no rfl rfl rfl (g_no rfl rfl rfl (g_no rfl rfl rfl (g_no rfl rfl rfl (g_no rfl rfl rfl ?_)))))))))
            refine o_pick_f rfl rfl rfl (o_assign rfl rfl (o_nil (n_then (c_ret (r_body1 rfl rfl ?_)))))
            exact ⟨_, rfl, ((x4.trans x9).trans x12), by
              first
              | exact congrArg B (decide_eq_decide.2 ⟨fun h => ⟨h10, decide_eq_true h14, h19, h26, h33, h45, h⟩, fun h => h.2.2.2.2.2.2⟩)
              | exact congrArg B (decide_eq_false (fun h => h45 h.2.2.2.2.2.1)).symm
              | exact congrArg B (decide_eq_false (fun h => h33 h.2.2.2.2.1)).symm
              | exact congrArg B (decide_eq_false (fun h => h26 h.2.2.2.1)).symm
              | exact congrArg B (decide_eq_false (fun h => h19 h.2.2.1)).symm
              | exact congrArg B (decide_eq_false (fun h => h14 (of_decide_eq_true h.2.1))).symm
              | exact congrArg B (decide_eq_false (fun h => h10 h.1)).symm⟩
        · refine g_no rfl rfl rfl (g_no rfl rfl rfl (g_no rfl rfl rfl (g_no rfl rfl rfl (g_no rfl rfl rfl (o_pick_f rfl rfl rfl (o_move rfl rfl (g_no rfl rfl rfl (g_no rfl rfl rfl (g_no rfl rfl rfl ?_)))))))))
          refine g_no rfl rfl rfl (g_no rfl rfl rfl (g_no rfl rfl rfl (g_no rfl rfl rfl (g_no rfl rfl rfl (g_no rfl rfl rfl (g_no rfl rfl rfl (o_pick_f rfl rfl rfl (o_move rfl rfl (g_no rfl rfl rfl ?_)))))))))
          refine g_no rfl rfl rfl (g_no rfl rfl rfl (g_no rfl rfl rfl (g_no rfl rfl rfl (g_no rfl rfl rfl (g_no rfl rfl rfl (g_no rfl rfl rfl (g_no rfl rfl rfl (g_no rfl rfl rfl (g_no rfl rfl rfl ?_)))))))))
          refine g_no rfl rfl rfl (g_no rfl rfl rfl (g_no rfl rfl rfl (g_no rfl rfl rfl (g_no rfl rfl rfl (g_no rfl rfl rfl (g_no rfl rfl rfl (o_pick_f rfl rfl rfl (o_assign rfl rfl (o_nil ?_)))))))))
          refine n_then (c_ret (r_body1 rfl rfl ?_))
          exact ⟨_, rfl, ((x4.trans x9).trans x12), by
            first
            | exact congrArg B (decide_eq_decide.2 ⟨fun h => ⟨h10, decide_eq_true h14, h19, h26, h33, h45, h⟩, fun h => h.2.2.2.2.2.2⟩)
            | exact congrArg B (decide_eq_false (fun h => h45 h.2.2.2.2.2.1)).symm
            | exact congrArg B (decide_eq_false (fun h => h33 h.2.2.2.2.1)).symm
            | exact congrArg B (decide_eq_false (fun h => h26 h.2.2.2.1)).symm
            | exact congrArg B (decide_eq_false (fun h => h19 h.2.2.1)).symm
            | exact congrArg B (decide_eq_false (fun h => h14 (of_decide_eq_true h.2.1))).symm
            | exact congrArg B (decide_eq_false (fun h => h10 h.1)).symm⟩
      · refine g_no rfl rfl rfl (g_no rfl rfl rfl (g_no rfl rfl rfl (g_no rfl rfl rfl (g_no rfl rfl rfl (o_pick_f rfl rfl rfl (o_move rfl rfl (g_no rfl rfl rfl (g_no rfl rfl rfl (g_no rfl rfl rfl ?_)))))))))
        refine g_no rfl rfl rfl (g_no rfl rfl rfl (o_pick_f rfl rfl rfl (o_move rfl rfl (g_no rfl rfl rfl (g_no rfl rfl rfl (g_no rfl rfl rfl (g_no rfl rfl rfl (g_no rfl rfl rfl (g_no rfl rfl rfl ?_)))))))))
        refine g_no rfl rfl rfl (g_no rfl rfl rfl (g_no rfl rfl rfl (g_no rfl rfl rfl (o_pick_f rfl rfl rfl (o_move rfl rfl (g_no rfl rfl rfl (g_no rfl rfl rfl (g_no rfl rfl rfl (g_no rfl rfl rfl ?_)))))))))
        refine g_no rfl rfl rfl (g_no rfl rfl rfl (g_no rfl rfl rfl (g_no rfl rfl rfl (g_no rfl rfl rfl (g_no rfl rfl rfl (g_no rfl rfl rfl (g_no rfl rfl rfl (g_no rfl rfl rfl (g_no rfl rfl rfl ?_)))))))))
        refine g_no rfl rfl rfl (g_no rfl rfl rfl (g_no rfl rfl rfl (g_no rfl rfl rfl (o_pick_f rfl rfl rfl (o_assign rfl rfl (o_nil (n_then (c_ret (r_body1 rfl rfl ?_)))))))))
        exact ⟨_, rfl, ((x4.trans x9).trans x12), by
          first
          | exact congrArg B (decide_eq_decide.2 ⟨fun h => ⟨h10, decide_eq_true h14, h19, h26, h33, h45, h⟩, fun h => h.2.2.2.2.2.2⟩)
          | exact congrArg B (decide_eq_false (fun h => h45 h.2.2.2.2.2.1)).symm
          | exact congrArg B (decide_eq_false (fun h => h33 h.2.2.2.2.1)).symm
          | exact congrArg B (decide_eq_false (fun h => h26 h.2.2.2.1)).symm
          | exact congrArg B (decide_eq_false (fun h => h19 h.2.2.1)).symm
          | exact congrArg B (decide_eq_false (fun h => h14 (of_decide_eq_true h.2.1))).symm
          | exact congrArg B (decide_eq_false (fun h => h10 h.1)).symm⟩
    · refine g_no rfl rfl rfl (g_no rfl rfl rfl (g_no rfl rfl rfl (o_pick_f rfl rfl rfl (o_move rfl rfl (g_no rfl rfl rfl (g_no rfl rfl rfl (g_no rfl rfl rfl (g_no rfl rfl rfl (g_no rfl rfl rfl ?_)))))))))
      refine o_pick_f rfl rfl rfl (o_move rfl rfl (g_no rfl rfl rfl (g_no rfl rfl rfl (g_no rfl rfl rfl (g_no rfl rfl rfl (g_no rfl rfl rfl (o_pick_f rfl rfl rfl (o_move rfl rfl (g_no rfl rfl rfl ?_)))))))))
      refine g_no rfl rfl rfl (g_no rfl rfl rfl (g_no rfl rfl rfl (g_no rfl rfl rfl (g_no rfl rfl rfl (g_no rfl rfl rfl (g_no rfl rfl rfl (g_no rfl rfl rfl (g_no rfl rfl rfl (o_pick_f rfl rfl rfl ?_)))))))))
      refine o_move rfl rfl (g_no rfl rfl rfl (g_no rfl rfl rfl (g_no rfl rfl rfl (g_no rfl rfl rfl (g_no rfl rfl rfl (g_no rfl rfl rfl (g_no rfl rfl rfl (g_no rfl rfl rfl (g_no rfl rfl rfl ?_)))))))))
      refine g_no rfl rfl rfl (g_no rfl rfl rfl (g_no rfl rfl rfl (g_no rfl rfl rfl (g_no rfl rfl rfl (g_no rfl rfl rfl (g_no rfl rfl rfl (g_no rfl rfl rfl (g_no rfl rfl rfl (o_pick_f rfl rfl rfl ?_)))))))))
      refine o_assign rfl rfl (o_nil (n_then (c_ret (r_body1 rfl rfl ?_))))
      exact ⟨_, rfl, ((x4.trans x9).trans x12), by
        first
        | exact congrArg B (decide_eq_decide.2 ⟨fun h => ⟨h10, decide_eq_true h14, h19, h26, h33, h45, h⟩, fun h => h.2.2.2.2.2.2⟩)
        | exact congrArg B (decide_eq_false (fun h => h45 h.2.2.2.2.2.1)).symm
        | exact congrArg B (decide_eq_false (fun h => h33 h.2.2.2.2.1)).symm
        | exact congrArg B (decide_eq_false (fun h => h26 h.2.2.2.1)).symm
        | exact congrArg B (decide_eq_false (fun h => h19 h.2.2.1)).symm
        | exact congrArg B (decide_eq_false (fun h => h14 (of_decide_eq_true h.2.1))).symm
        | exact congrArg B (decide_eq_false (fun h => h10 h.1)).symm⟩
  · refine g_no rfl rfl rfl (g_no rfl rfl rfl (o_pick_f rfl rfl rfl (o_move rfl rfl (g_no rfl rfl rfl (g_no rfl rfl rfl (g_no rfl rfl rfl (o_pick_f rfl rfl rfl (o_move rfl rfl (g_no rfl rfl rfl ?_)))))))))
    refine g_no rfl rfl rfl (g_no rfl rfl rfl (g_no rfl rfl rfl (g_no rfl rfl rfl (o_pick_f rfl rfl rfl (o_move rfl rfl (g_no rfl rfl rfl (g_no rfl rfl rfl (g_no rfl rfl rfl (g_no rfl rfl rfl ?_)))))))))
    refine g_no rfl rfl rfl (o_pick_f rfl rfl rfl (o_move rfl rfl (g_no rfl rfl rfl (g_no rfl rfl rfl (g_no rfl rfl rfl (g_no rfl rfl rfl (g_no rfl rfl rfl (g_no rfl rfl rfl (g_no rfl rfl rfl ?_)))))))))
    refine g_no rfl rfl rfl (g_no rfl rfl rfl (g_no rfl rfl rfl (o_pick_f rfl rfl rfl (o_move rfl rfl (g_no rfl rfl rfl (g_no rfl rfl rfl (g_no rfl rfl rfl (g_no rfl rfl rfl (g_no rfl rfl rfl ?_)))))))))
    refine g_no rfl rfl rfl (g_no rfl rfl rfl (g_no rfl rfl rfl (g_no rfl rfl rfl (g_no rfl rfl rfl (g_no rfl rfl rfl (g_no rfl rfl rfl (g_no rfl rfl rfl (g_no rfl rfl rfl (g_no rfl rfl rfl ?_)))))))))
    refine g_no rfl rfl rfl (g_no rfl rfl rfl (g_no rfl rfl rfl (o_pick_f rfl rfl rfl (o_assign rfl rfl (o_nil (n_then (c_ret (r_body1 rfl rfl ?_))))))))
    exact ⟨_, rfl, (x4.trans x9), by
      first
      | exact congrArg B (decide_eq_decide.2 ⟨fun h => ⟨h10, decide_eq_true h14, h19, h26, h33, h45, h⟩, fun h => h.2.2.2.2.2.2⟩)
      | exact congrArg B (decide_eq_false (fun h => h45 h.2.2.2.2.2.1)).symm
      | exact congrArg B (decide_eq_false (fun h => h33 h.2.2.2.2.1)).symm
      | exact congrArg B (decide_eq_false (fun h => h26 h.2.2.2.1)).symm
      | exact congrArg B (decide_eq_false (fun h => h19 h.2.2.1)).symm
      | exact congrArg B (decide_eq_false (fun h => h14 (of_decide_eq_true h.2.1))).symm
      | exact congrArg B (decide_eq_false (fun h => h10 h.1)).symm⟩
theorem MAdd_spec {w : World} {a : LayD} {x y : Value} {i : Int} {g : Nat} {T : TypeId} (ha : DsV dRat a.ws x w) (hb : DsV dRat a.bs y w) (hg : Blk g T [fvOnly] w) :
    Calls Tryz.prog 73 #[.agg #[I a.kd, I a.fr, I a.ou, I a.kh, I a.kw, I a.sr, I a.pd, x, y], I i, .pointer (some ⟨g, 0, none⟩)] w (Ret fun r w' => Ext w w' ∧ r = B (decide (a.fr ≥ -1 ∧ a.fr < i ∧ a = ⟨a.kd, a.fr, 0, 0, 0, 0, 0, [], []⟩))) := by
  refine enter (vs := [.agg #[I a.kd, I a.fr, I a.ou, I a.kh, I a.kw, I a.sr, I a.pd, x, y], I i, .pointer (some ⟨g, 0, none⟩)]) Tryz.func73 rfl rfl rfl ?_
  refine c_seq (c_region ?_)
  obtain ⟨g3, w3, hr3, l3, x3, k3⟩ := r_boxS (P := Tryz.prog) (w := w) (T := 46) (cs := [I a.kd, I a.fr, I a.ou, I a.kh, I a.kw, I a.sr, I a.pd, x, y])
  refine o_box rfl rfl hr3 (o_assign rfl rfl (o_nil (n_then (c_seq (c_region (o_fieldAddr rfl rfl (r_fAt (o := 1) Tryz.underlying46 rfl (by kernel_rfl) rfl) ?_))))))
  refine o_load rfl rfl (r_load1 Tryz.underlying3 rfl (k3.cell (i := 1) rfl)) (o_bin rfl rfl rfl (r_geq_i) (o_move rfl rfl ?_))
  refine o_dec (fun h9 => ?_) (fun h9 => ?_)
  · refine g_yes rfl (o_fieldAddr rfl rfl (r_fAt (o := 1) Tryz.underlying46 rfl (by kernel_rfl) rfl) (g_yes rfl (o_load rfl rfl (r_load1 Tryz.underlying3 rfl (k3.cell (i := 1) rfl)) ?_)))
    refine g_yes rfl (o_move rfl rfl (g_yes rfl (o_bin rfl rfl rfl (r_lss_i) (o_pick_t rfl rfl rfl (o_move rfl rfl ?_)))))
    refine o_dec (fun h15 => ?_) (fun h15 => ?_)
    · refine g_yes rfl (o_load rfl rfl (r_load1 Tryz.underlying63 rfl (x3.cell_some hg.k0)) (g_yes rfl (o_load rfl rfl (k3.ld Tryz.underlying46 rfl (by kernel_rfl)) ?_)))
      refine g_yes rfl (o_fieldAddr rfl rfl (r_fAt (o := 1) Tryz.underlying46 rfl (by kernel_rfl) rfl) (g_yes rfl (o_load rfl rfl (r_load1 Tryz.underlying3 rfl (k3.cell (i := 1) rfl)) ?_)))
      refine g_yes rfl (o_build (vs := [(1, I a.fr)]) (r := .agg #[I 0, I a.fr, I 0, I 0, I 0, I 0, I 0, .slice none 0 0, .slice none 0 0]) rfl rfl (by exact run_build _ _ _ _ (by kernel_rfl)) ?_)
      refine g_yes rfl (o_callfn rfl call_MOnly rfl rfl ((MOnly_spec (u := ⟨0, a.fr, 0, 0, 0, 0, 0, [], []⟩) (ha.ext x3) (hb.ext x3) (DsV.nil _ _) (DsV.nil _ _))) ?_)
      rintro v21 w21 ⟨x21, rfl⟩
      refine o_pick_t rfl rfl rfl (o_assign rfl rfl (o_nil (n_then (c_ret (r_body1 rfl rfl ?_)))))
      exact ⟨_, rfl, (x3.trans x21), by
        first
        | exact congrArg B (decide_eq_decide.2 ⟨fun h => ⟨h9, h15, h⟩, fun h => h.2.2⟩)
        | exact congrArg B (decide_eq_false (fun h => h15 h.2.1)).symm
        | exact congrArg B (decide_eq_false (fun h => h9 h.1)).symm⟩
    · refine g_no rfl rfl rfl (g_no rfl rfl rfl (g_no rfl rfl rfl (g_no rfl rfl rfl (g_no rfl rfl rfl (g_no rfl rfl rfl (o_pick_f rfl rfl rfl (o_assign rfl rfl (o_nil (n_then (c_ret (r_body1 rfl rfl ?_)))))))))))
      exact ⟨_, rfl, x3, by
        first
        | exact congrArg B (decide_eq_decide.2 ⟨fun h => ⟨h9, h15, h⟩, fun h => h.2.2⟩)
        | exact congrArg B (decide_eq_false (fun h => h15 h.2.1)).symm
        | exact congrArg B (decide_eq_false (fun h => h9 h.1)).symm⟩
  · refine g_no rfl rfl rfl (g_no rfl rfl rfl (g_no rfl rfl rfl (g_no rfl rfl rfl (o_pick_f rfl rfl rfl (o_move rfl rfl (g_no rfl rfl rfl (g_no rfl rfl rfl (g_no rfl rfl rfl (g_no rfl rfl rfl ?_)))))))))
    refine g_no rfl rfl rfl (g_no rfl rfl rfl (o_pick_f rfl rfl rfl (o_assign rfl rfl (o_nil (n_then (c_ret (r_body1 rfl rfl ?_)))))))
    exact ⟨_, rfl, x3, by
      first
      | exact congrArg B (decide_eq_decide.2 ⟨fun h => ⟨h9, h15, h⟩, fun h => h.2.2⟩)
      | exact congrArg B (decide_eq_false (fun h => h15 h.2.1)).symm
      | exact congrArg B (decide_eq_false (fun h => h9 h.1)).symm⟩
end Go.Rl
/- Validity of models walked, the program's side: conditions, Valid. Conditions: rationals of at most 2^30 limbs; integers in range. -/
namespace Go.Rl
open Go.RowKit Go.Proofs
section
variable {a : LayD} {i : Int}
theorem noneB_iff : noneB a = true ↔ a.ws = [] ∧ a.bs = [] := by
  unfold noneB
  rw [decide_eq_true_iff]
  constructor
  · rintro ⟨h1, h2⟩
    exact ⟨List.eq_nil_of_length_eq_zero (by omega), List.eq_nil_of_length_eq_zero (by omega)⟩
  · rintro ⟨h1, h2⟩
    rw [h1, h2]; exact ⟨rfl, rfl⟩
theorem flatB_iff : flatB a = true ↔ a.kh = 0 ∧ a.kw = 0 ∧ a.sr = 0 ∧ a.pd = 0 := by unfold flatB; rw [decide_eq_true_iff]
theorem cond_pool (h : a.kd = 3 ∨ a.kd = 4) : (kernB a = true ∧ a = ⟨a.kd, 0, 0, a.kh, a.kw, a.sr, 0, [], []⟩) ↔ layC a i := by
  rw [layC_3 h, noneB_iff]
  constructor
  · rintro ⟨hk, he⟩
    obtain ⟨_, h2, h3, _, _, _, h7, h8, h9⟩ := LayD.eq_iff.1 he
    exact ⟨hk, h2, h7, h3, h8, h9⟩
  · rintro ⟨hk, h2, h7, h3, h8, h9⟩
    exact ⟨hk, LayD.eq_iff.2 ⟨rfl, h2, h3, rfl, rfl, rfl, h7, h8, h9⟩⟩
theorem cond_bare (h : a.kd = 5 ∨ a.kd = 6) : a = ⟨a.kd, 0, 0, 0, 0, 0, 0, [], []⟩ ↔ layC a i := by
  rw [layC_5 h, noneB_iff, flatB_iff]
  constructor
  · intro he
    obtain ⟨_, h2, h3, h4, h5, h6, h7, h8, h9⟩ := LayD.eq_iff.1 he
    exact ⟨⟨h4, h5, h6, h7⟩, h2, h3, h8, h9⟩
  · rintro ⟨⟨h4, h5, h6, h7⟩, h2, h3, h8, h9⟩
    exact LayD.eq_iff.2 ⟨rfl, h2, h3, h4, h5, h6, h7, h8, h9⟩
theorem cond_dense (h : a.kd = 1) : ((1 ≤ a.ou ∧ a.ou ≤ 16384) ∧ ((a.bs.length : Int) = a.ou ∧ mulOk a.ws.length a.ou = true) ∧ a = ⟨a.kd, 0, a.ou, 0, 0, 0, 0, a.ws, a.bs⟩) ↔ layC a i := by
  rw [layC_1 h, flatB_iff]
  constructor
  · rintro ⟨ho, ⟨hb, hm⟩, he⟩
    obtain ⟨_, h2, _, h4, h5, h6, h7, _, _⟩ := LayD.eq_iff.1 he
    exact ⟨⟨h4, h5, h6, h7⟩, h2, ho, hb, hm⟩
  · rintro ⟨⟨h4, h5, h6, h7⟩, h2, ho, hb, hm⟩
    exact ⟨ho, ⟨hb, hm⟩, LayD.eq_iff.2 ⟨rfl, h2, rfl, h4, h5, h6, h7, rfl, rfl⟩⟩
theorem cond_conv (h : a.kd = 2) : ((1 ≤ a.ou ∧ a.ou ≤ 16384) ∧ kernB a = true ∧ a.pd ≥ 0 ∧ a.pd < a.kh ∧ a.pd < a.kw ∧ ((a.bs.length : Int) = a.ou ∧ mulOk a.ws.length (a.ou * a.kh * a.kw) = true) ∧ a = ⟨a.kd, 0, a.ou, a.kh, a.kw, a.sr, a.pd, a.ws, a.bs⟩) ↔ layC a i := by
  rw [layC_2 h]
  constructor
  · rintro ⟨ho, hk, h1, h2, h3, ⟨hb, hm⟩, he⟩
    exact ⟨hk, (LayD.eq_iff.1 he).2.1, h1, h2, h3, ho, hb, hm⟩
  · rintro ⟨hk, hf, h1, h2, h3, ho, hb, hm⟩
    exact ⟨ho, hk, h1, h2, h3, ⟨hb, hm⟩, LayD.eq_iff.2 ⟨rfl, hf, rfl, rfl, rfl, rfl, rfl, rfl, rfl⟩⟩
theorem cond_add (h : a.kd = 7) : (a.fr ≥ -1 ∧ a.fr < i ∧ a = ⟨a.kd, a.fr, 0, 0, 0, 0, 0, [], []⟩) ↔ layC a i := by
  rw [layC_7 h, noneB_iff, flatB_iff]
  constructor
  · rintro ⟨h1, h2, he⟩
    obtain ⟨_, _, h3, h4, h5, h6, h7, h8, h9⟩ := LayD.eq_iff.1 he
    exact ⟨⟨h4, h5, h6, h7⟩, ⟨by omega, by omega⟩, h3, h8, h9⟩
  · rintro ⟨⟨h4, h5, h6, h7⟩, ⟨h1, h2⟩, h3, h8, h9⟩
    exact ⟨by omega, by omega, LayD.eq_iff.2 ⟨rfl, rfl, h3, h4, h5, h6, h7, h8, h9⟩⟩
end
/-- A value that may be called as the condition of a kind. -/
def CondV (g1 g2 : Nat) (T1 T2 : TypeId) (fv : Value) (kd : Int) : Prop := ∃ f fs lb, fv = .func (.func f) fs lb ∧ Callable Tryz.prog f ∧ ∀ (w : World) (a : LayD) (x y : Value) (i : Int), a.kd = kd → DsV dRat a.ws x w → DsV dRat a.bs y w → Blk g1 T1 [fvOut] w → Blk g2 T2 [fvOnly] w →
  Calls Tryz.prog f (fs ++ #[.agg #[I a.kd, I a.fr, I a.ou, I a.kh, I a.kw, I a.sr, I a.pd, x, y], I i] ++ lb) w (Ret fun r w' => Ext w w' ∧ r = B (decide (layC a i)))
def condFs (g1 g2 : Nat) : List Value := [.func (.func 70) #[] #[.pointer (some ⟨g1, 0, none⟩), .pointer (some ⟨g2, 0, none⟩)], .func (.func 72) #[] #[.pointer (some ⟨g1, 0, none⟩), .pointer (some ⟨g2, 0, none⟩)],
  .func (.func 67) #[] #[.pointer (some ⟨g2, 0, none⟩)], .func (.func 67) #[] #[.pointer (some ⟨g2, 0, none⟩)], .func (.func 69) #[] #[.pointer (some ⟨g2, 0, none⟩)], .func (.func 69) #[] #[.pointer (some ⟨g2, 0, none⟩)], .func (.func 73) #[] #[.pointer (some ⟨g2, 0, none⟩)]]
theorem cond_at {g1 g2 j : Nat} {T1 T2 : TypeId} {fv : Value} (h : (condFs g1 g2)[j]? = some fv) : CondV g1 g2 T1 T2 fv ((j + 1 : Nat) : Int) := by
  match j, h with
  | 0, h =>
    obtain rfl := Option.some.inj h
    exact ⟨_, _, _, rfl, call_MDense, fun w a x y i hk hx hy h1 h2 => Ret.mono (MDense_spec (i := i) hx hy h1 h2) fun r w' h => ⟨h.1, by rw [h.2]; exact congrArg B (decide_eq_decide.2 (cond_dense (by omega)))⟩⟩
  | 1, h =>
    obtain rfl := Option.some.inj h
    exact ⟨_, _, _, rfl, call_MConv, fun w a x y i hk hx hy h1 h2 => Ret.mono (MConv_spec (i := i) hx hy h1 h2) fun r w' h => ⟨h.1, by rw [h.2]; exact congrArg B (decide_eq_decide.2 (cond_conv (by omega)))⟩⟩
  | 2, h =>
    obtain rfl := Option.some.inj h
    exact ⟨_, _, _, rfl, call_MPool, fun w a x y i hk hx hy h1 h2 => Ret.mono (MPool_spec (i := i) hx hy h2) fun r w' h => ⟨h.1, by rw [h.2]; exact congrArg B (decide_eq_decide.2 (cond_pool (by omega)))⟩⟩
  | 3, h =>
    obtain rfl := Option.some.inj h
    exact ⟨_, _, _, rfl, call_MPool, fun w a x y i hk hx hy h1 h2 => Ret.mono (MPool_spec (i := i) hx hy h2) fun r w' h => ⟨h.1, by rw [h.2]; exact congrArg B (decide_eq_decide.2 (cond_pool (by omega)))⟩⟩
  | 4, h =>
    obtain rfl := Option.some.inj h
    exact ⟨_, _, _, rfl, call_MBare, fun w a x y i hk hx hy h1 h2 => Ret.mono (MBare_spec (i := i) hx hy h2) fun r w' h => ⟨h.1, by rw [h.2]; exact congrArg B (decide_eq_decide.2 (cond_bare (by omega)))⟩⟩
  | 5, h =>
    obtain rfl := Option.some.inj h
    exact ⟨_, _, _, rfl, call_MBare, fun w a x y i hk hx hy h1 h2 => Ret.mono (MBare_spec (i := i) hx hy h2) fun r w' h => ⟨h.1, by rw [h.2]; exact congrArg B (decide_eq_decide.2 (cond_bare (by omega)))⟩⟩
  | 6, h =>
    obtain rfl := Option.some.inj h
    exact ⟨_, _, _, rfl, call_MAdd, fun w a x y i hk hx hy h1 h2 => Ret.mono (MAdd_spec (i := i) hx hy h2) fun r w' h => ⟨h.1, by rw [h.2]; exact congrArg B (decide_eq_decide.2 (cond_add (by omega)))⟩⟩
  | j + 7, h => simp [condFs] at h
theorem MConds_spec {w : World} :
    Calls Tryz.prog 38 #[] w (Ret fun r w' => Ext w w' ∧ ∃ m g1 g2 T1 T2, r = .map (some m) ∧ w'.heap[m]? = some (.map (entsI 0 (condFs g1 g2)).toArray 7) ∧ Blk g1 T1 [fvOut] w' ∧ Blk g2 T2 [fvOnly] w') := by
  refine enter (vs := []) Tryz.func38 rfl rfl rfl ?_
  refine c_seq (c_region (o_assign rfl rfl (o_nil (n_then (c_seq (c_region ?_))))))
  obtain ⟨g1, w1, hr1, l1, x1, k1⟩ := r_allocB (P := Tryz.prog) (w := w) (t := 102) (z := .nilFunc) (l := [.nilFunc]) (by kernel_rfl) rfl
  refine o_alloc rfl hr1 ?_
  obtain ⟨w1', s1, q1, k1'⟩ := k1.stC (P := Tryz.prog) (t := 102) (i := 0) (v := fvOut) (by kernel_rfl) rfl (by simp)
  refine o_store rfl rfl s1 ?_
  have x1' := Ext.of_new x1 q1 l1
  refine o_nil (n_then (c_seq (c_region ?_)))
  obtain ⟨g2, w2, hr2, l2, x2, k2⟩ := r_allocB (P := Tryz.prog) (w := w1') (t := 63) (z := .nilFunc) (l := [.nilFunc]) (by kernel_rfl) rfl
  refine o_alloc rfl hr2 ?_
  obtain ⟨w2', s2, q2, k2'⟩ := k2.stC (P := Tryz.prog) (t := 63) (i := 0) (v := fvOnly) (by kernel_rfl) rfl (by simp)
  refine o_store rfl rfl s2 ?_
  have x2' := Ext.of_new x2 q2 l2
  refine o_nil (n_then (c_seq (c_region ?_)))
  refine o_makeFunc (us := []) (vs := [.pointer (some ⟨g2, 0, none⟩)]) rfl rfl rfl ?_
  refine o_assign rfl rfl (o_nil (n_then (c_seq (c_region ?_))))
  refine o_makeFunc (us := []) (vs := [.pointer (some ⟨g2, 0, none⟩)]) rfl rfl rfl ?_
  refine o_assign rfl rfl (o_nil (n_then (c_seq (c_region ?_))))
  refine o_makeMap rfl ?_
  obtain ⟨m, hm⟩ : ∃ m, m = w2'.heap.size := ⟨_, rfl⟩
  obtain ⟨w3, hw3⟩ : ∃ w3, w3 = w2'.alloc (.map #[] 0) := ⟨_, rfl⟩
  rw [← hw3, ← hm]
  have xm : Ext w2' w3 := by rw [hw3]; exact Ext.new _ _
  have mm : w3.heap[m]? = some (.map (entsI 0 []).toArray ([] : List Value).length) := by rw [hw3, hm]; exact heap_alloc_new w2' _
  have hmle : w2'.heap.size ≤ m := Nat.le_of_eq hm.symm
  refine o_makeFunc (us := []) (vs := [.pointer (some ⟨g1, 0, none⟩), .pointer (some ⟨g2, 0, none⟩)]) rfl rfl rfl ?_
  obtain ⟨w4, s4, q4, m4⟩ := r_insI Tryz.underlying70 (by simp) mm 1 rfl (.func (.func 70) #[] #[.pointer (some ⟨g1, 0, none⟩), .pointer (some ⟨g2, 0, none⟩)])
  refine o_insert rfl rfl rfl s4 ?_
  have xm := Ext.of_new xm q4 hmle
  refine o_makeFunc (us := []) (vs := [.pointer (some ⟨g1, 0, none⟩), .pointer (some ⟨g2, 0, none⟩)]) rfl rfl rfl ?_
  obtain ⟨w5, s5, q5, m5⟩ := r_insI Tryz.underlying70 (by simp) m4 2 rfl (.func (.func 72) #[] #[.pointer (some ⟨g1, 0, none⟩), .pointer (some ⟨g2, 0, none⟩)])
  refine o_insert rfl rfl rfl s5 ?_
  have xm := Ext.of_new xm q5 hmle
  refine o_move rfl rfl ?_
  obtain ⟨w6, s6, q6, m6⟩ := r_insI Tryz.underlying70 (by simp) m5 3 rfl (.func (.func 67) #[] #[.pointer (some ⟨g2, 0, none⟩)])
  refine o_insert rfl rfl rfl s6 ?_
  have xm := Ext.of_new xm q6 hmle
  refine o_move rfl rfl ?_
  obtain ⟨w7, s7, q7, m7⟩ := r_insI Tryz.underlying70 (by simp) m6 4 rfl (.func (.func 67) #[] #[.pointer (some ⟨g2, 0, none⟩)])
  refine o_insert rfl rfl rfl s7 ?_
  have xm := Ext.of_new xm q7 hmle
  refine o_move rfl rfl ?_
  obtain ⟨w8, s8, q8, m8⟩ := r_insI Tryz.underlying70 (by simp) m7 5 rfl (.func (.func 69) #[] #[.pointer (some ⟨g2, 0, none⟩)])
  refine o_insert rfl rfl rfl s8 ?_
  have xm := Ext.of_new xm q8 hmle
  refine o_move rfl rfl ?_
  obtain ⟨w9, s9, q9, m9⟩ := r_insI Tryz.underlying70 (by simp) m8 6 rfl (.func (.func 69) #[] #[.pointer (some ⟨g2, 0, none⟩)])
  refine o_insert rfl rfl rfl s9 ?_
  have xm := Ext.of_new xm q9 hmle
  refine o_makeFunc (us := []) (vs := [.pointer (some ⟨g2, 0, none⟩)]) rfl rfl rfl ?_
  obtain ⟨wA, sA, qA, mA⟩ := r_insI Tryz.underlying70 (by simp) m9 7 rfl (.func (.func 73) #[] #[.pointer (some ⟨g2, 0, none⟩)])
  refine o_insert rfl rfl rfl sA ?_
  have xm := Ext.of_new xm qA hmle
  refine o_move rfl rfl (o_assign rfl rfl (o_nil (n_then (c_ret (r_body1 rfl rfl ?_)))))
  exact ⟨_, rfl, ((x1'.trans x2').trans xm), m, g1, g2, _, _, rfl, mA, (k1'.ext x2').ext xm, k2'.ext xm⟩
theorem info_rats : (Tryz.prog.info? 44).map (fun i => (i.zero, i.size, i.bytes)) = some (some (.slice none 0 0), 1, 24) := by kernel_rfl
theorem r_bsRs {w : World} {l m : List RatD} {x y : Value} (hx : DsV dRat l x w) (hy : DsV dRat m y w) :
    ∃ r w', (Instr.buildSlice 74 2 (number 0 [x, y]).toArray).run Tryz.prog w = .ok r w' ∧ Ext w w' ∧ DsV dRats [l, m] r w' := by
  have h1 : ∀ u ∈ [x, y], u.oneCell' = true := Ones.cons hx.one (Ones.cons hy.one Ones.nil)
  obtain ⟨r, w', h2, h3, h4, _⟩ := r_buildSlice (P := Tryz.prog) (w := w) (base := 0) Tryz.underlying74 info_rats [x, y] h1 (by simp) (Nat.zero_le _)
  refine ⟨r, w', h2, h3, Rp.ofSl (sz := 1) (Sl.of_own h4) ?_ (by simp [dRats_size]) (by omega)⟩
  have a1 : Rp w' (dRats l) [x] := hx.ext h3
  have a2 : Rp w' (dRats m) [y] := hy.ext h3
  simpa using RpAll.cons a1 (RpAll.cons a2 RpAll.nil)
theorem canQ_at {l : List RatD} {i : Nat} (hi : i < l.length) (h : canQ l = canQ (l.drop i)) (hr : rv l[i].1 l[i].2.1 l[i].2.2 = false) : canQ l = false := by
  rw [h, canQ_drop hi, hr]; rfl
theorem canQ_next {l : List RatD} {i : Nat} (hi : i < l.length) (h : canQ l = canQ (l.drop i)) (hr : rv l[i].1 l[i].2.1 l[i].2.2 = true) : canQ l = canQ (l.drop (i + 1)) := by
  rw [h, canQ_drop hi, hr]; rfl
theorem canQ_end {l : List RatD} (h : canQ l = canQ (l.drop l.length)) : canQ l = true := by
  rw [h, List.drop_length]; rfl
theorem lays_no {m : ModD} {i : Nat} (hi : i < m.lays.length) (hS : laysOk 0 m.lays = laysOk i (m.lays.drop i)) (h : layOk m.lays[i] i = false) : false = validM m := by
  unfold validM
  rw [hS, laysOk_drop hi, h]
  simp
theorem AValid_spec {w : World} {m : ModD} {x y : Value} (ha : DsV dIn m.inp x w) (hb : DsV dLay m.lays y w) (hs : smallM m) (hw : ∀ l ∈ m.lays, i64 l.kd) :
    Calls Tryz.prog 17 #[.agg #[x, y]] w (Ret fun r w' => Ext w w' ∧ r = B (validM m)) := by
  refine enter (vs := [.agg #[x, y]]) Tryz.func17 rfl rfl rfl ?_
  have hll := hb.len
  refine c_seq (c_region ?_)
  obtain ⟨g1, w1, hr1, l1, x1, k1⟩ := r_boxS (P := Tryz.prog) (w := w) (T := 25) (cs := [x, y])
  refine o_box rfl rfl hr1 (o_assign rfl rfl (o_nil (n_then (c_seq (c_seq ?_)))))
  rcases hc : shapeOk m.inp
  · refine c_region (o_fieldAddr rfl rfl (r_fAt (o := 0) Tryz.underlying25 rfl (by kernel_rfl) rfl) (o_load rfl rfl (r_load1 Tryz.underlying22 rfl (k1.cell (i := 0) rfl)) ?_))
    refine o_call call_AShape rfl rfl ((by have := AShape_spec (ha.ext x1); rw [hc] at this; exact this)) ?_
    rintro v14 w14 ⟨x14, rfl⟩
    refine o_not rfl rfl r_not (o_move rfl rfl (g_no rfl rfl rfl (g_no rfl rfl rfl (g_no rfl rfl rfl (g_no rfl rfl rfl (o_pick_t rfl rfl rfl (o_nil (n_then (c_yes rfl (c_seq (c_region (o_assign rfl rfl ?_))))))))))))
    refine o_nil (n_then (c_ret (r_then (r_body1 rfl rfl ?_))))
    exact ⟨_, rfl, (x1.trans x14), congrArg B (by unfold validM; rw [hc]; first | rfl | (rw [decide_eq_false (by omega)]; rfl))⟩
  · refine c_region (o_fieldAddr rfl rfl (r_fAt (o := 0) Tryz.underlying25 rfl (by kernel_rfl) rfl) (o_load rfl rfl (r_load1 Tryz.underlying22 rfl (k1.cell (i := 0) rfl)) ?_))
    refine o_call call_AShape rfl rfl ((by have := AShape_spec (ha.ext x1); rw [hc] at this; exact this)) ?_
    rintro v14 w14 ⟨x14, rfl⟩
    refine o_not rfl rfl r_not (o_move rfl rfl (g_yes rfl (o_fieldAddr rfl rfl (r_fAt (o := 1) Tryz.underlying25 rfl (by kernel_rfl) rfl) (g_yes rfl (o_load rfl rfl (r_load1 Tryz.underlying23 rfl (x14.cell_some (k1.cell (i := 1) rfl))) ?_)))))
    refine g_yes rfl (o_len rfl rfl (r_lenDs Tryz.underlying23 (hb.ext (x1.trans x14))) (g_yes rfl (o_bin rfl rfl rfl (r_gtr_i) (o_pick_f rfl rfl rfl (o_nil (n_then ?_))))))
    refine c_if rfl (fun h21 => ?_) (fun h21 => ?_)
    · refine c_seq (c_region (o_assign rfl rfl (o_nil (n_then (c_ret (r_then (r_body1 rfl rfl ?_)))))))
      exact ⟨_, rfl, (x1.trans x14), congrArg B (by unfold validM; rw [hc]; first | rfl | (rw [decide_eq_false (by omega)]; rfl))⟩
    · refine c_skip (n_then (c_seq (c_region (o_call call_MConds rfl rfl (MConds_spec) ?_))))
      rintro v22 w22 ⟨x22, mm, g1, g2, T1, T2, rfl, hm, b1, b2⟩
      refine o_assign rfl rfl (o_nil (n_then (c_seq (c_seq (c_region (o_fieldAddr rfl rfl (r_fAt (o := 1) Tryz.underlying25 rfl (by kernel_rfl) rfl) (o_load rfl rfl (r_load1 Tryz.underlying23 rfl ((x14.trans x22).cell_some (k1.cell (i := 1) rfl))) ?_)))))))
      refine o_len rfl rfl (r_lenDs Tryz.underlying23 (hb.ext ((x1.trans x14).trans x22))) (o_move rfl rfl (o_nil (n_then (c_block ?_))))
      refine c_loop (α := Nat) (fun x => [(3, .map (some mm)), (24, y), (25, I (m.lays.length : Int)), (26, I (x : Int))]) (fun x w' => Ext w w' ∧ Ext w22 w' ∧ x ≤ m.lays.length ∧ laysOk 0 m.lays = laysOk x (m.lays.drop x)) (fun x => m.lays.length - x) (0) ⟨rfl, rfl, rfl, rfl, trivial⟩ ⟨((x1.trans x14).trans x22), Ext.refl _, by omega, rfl⟩ ?_
      rintro i wL ⟨e5, e22, hi, hS⟩
      refine c_seq (c_region (o_bin rfl rfl rfl (r_lss_i) (o_nil (n_then (c_seq ?_)))))
      refine c_if rfl (fun h27 => ?_) (fun h27 => ?_)
      · refine c_skip (n_then (c_seq (c_block (c_seq (c_region (o_move rfl rfl ?_))))))
        obtain ⟨a29, c29, p29, q29, h29⟩ := r_ixDs (P := Tryz.prog) (sz := 9) Tryz.underlying23 (by kernel_rfl) dLay_size (by omega) (hb.ext e5) (i := i) (by omega) .i64
        obtain ⟨e29, he29⟩ : ∃ e, e = m.lays[i]'(by omega) := ⟨_, rfl⟩
        rw [← he29] at h29
        obtain ⟨x29_0, x29_1, rfl, f29_0, f29_1⟩ := dLay_inv h29
        refine o_indexAddr rfl rfl rfl (p29 _) (o_load rfl rfl (q29.ld Tryz.underlying46 rfl (by kernel_rfl)) ?_)
        obtain ⟨g5, w5, hr5, l5, x5, k5⟩ := r_allocB (P := Tryz.prog) (w := wL) (t := 46) (z := .agg #[I 0, I 0, I 0, I 0, I 0, I 0, I 0, .slice none 0 0, .slice none 0 0]) (l := [I 0, I 0, I 0, I 0, I 0, I 0, I 0, .slice none 0 0, .slice none 0 0]) (by kernel_rfl) rfl
        refine o_alloc rfl hr5 (o_assign rfl rfl ?_)
        obtain ⟨w6_5, s6_5, q6_5, k6_5⟩ := k5.stS (P := Tryz.prog) (t := 46) (m := [I e29.kd, I e29.fr, I e29.ou, I e29.kh, I e29.kw, I e29.sr, I e29.pd, x29_0, x29_1]) rfl (by kernel_rfl) (Ones.cons rfl (Ones.cons rfl (Ones.cons rfl (Ones.cons rfl (Ones.cons rfl (Ones.cons rfl (Ones.cons rfl (Ones.cons f29_0.one (Ones.cons f29_1.one Ones.nil)))))))))
        refine o_store rfl rfl s6_5 ?_
        have x6_5 := Ext.of_new (x5) q6_5 l5
        refine o_nil (n_then (c_seq ?_))
        have hq := hs e29 (by rw [he29]; exact List.getElem_mem _)
        have hk := hw e29 (by rw [he29]; exact List.getElem_mem _)
        rcases r_lookI (w := w6_5) (z := .nilFunc) Tryz.underlying70 (by kernel_rfl) (by simp [condFs]) (((e22.trans x6_5)).heap_some hm) hk.1 hk.2 with ⟨hl, hno⟩ | ⟨j, fv, hl, hj, hkd⟩
        · refine c_region (o_move rfl rfl (o_fieldAddr rfl rfl (r_fAt (o := 0) Tryz.underlying46 rfl (by kernel_rfl) rfl) (o_load rfl rfl (r_load1 Tryz.underlying3 rfl (k6_5.cell (i := 0) rfl)) ?_)))
          refine o_lookup rfl rfl rfl hl ?_
          refine o_move rfl rfl (o_extract rfl rfl (r_ext0) (o_extract rfl rfl (r_ext1) (o_assign rfl rfl (o_assign rfl rfl (o_nil (n_then (c_seq (c_seq (c_region (o_move rfl rfl (o_not rfl rfl r_not ?_)))))))))))
          refine o_move rfl rfl (g_no rfl rfl rfl (g_no rfl rfl rfl (g_no rfl rfl rfl (g_no rfl rfl rfl (g_no rfl rfl rfl (o_pick_t rfl rfl rfl (o_nil (n_then (c_yes rfl (c_seq (c_region (o_assign rfl rfl ?_))))))))))))
          refine o_nil (n_then (c_ret (r_then (r_block (r_then (r_then (r_block (r_then (r_body1 rfl rfl ?_)))))))))
          exact ⟨_, rfl, (e5.trans x6_5), congrArg B (lays_no (by omega) hS (by
            rw [← he29]
            unfold layOk
            first
            | (rw [decide_eq_false (layC_no hno)]; simp)
            | (rw [decide_eq_false h46]; simp)))⟩
        · obtain ⟨f, fs, lb, rfl, hf, hcall⟩ := cond_at (T1 := T1) (T2 := T2) hj
          refine c_region (o_move rfl rfl (o_fieldAddr rfl rfl (r_fAt (o := 0) Tryz.underlying46 rfl (by kernel_rfl) rfl) (o_load rfl rfl (r_load1 Tryz.underlying3 rfl (k6_5.cell (i := 0) rfl)) ?_)))
          refine o_lookup rfl rfl rfl hl ?_
          refine o_move rfl rfl (o_extract rfl rfl (r_ext0) (o_extract rfl rfl (r_ext1) (o_assign rfl rfl (o_assign rfl rfl (o_nil (n_then (c_seq (c_seq (c_region (o_move rfl rfl (o_not rfl rfl r_not ?_)))))))))))
          refine o_move rfl rfl (g_yes rfl (o_move rfl rfl (g_yes rfl (o_load rfl rfl (k6_5.ld Tryz.underlying46 rfl (by kernel_rfl)) (g_yes rfl (o_move rfl rfl ?_))))))
          refine g_yes rfl (o_callfn rfl hf rfl rfl ((hcall _ e29 _ _ (i : Int) hkd (f29_0.ext x6_5) (f29_1.ext x6_5) (b1.ext ((e22.trans x6_5))) (b2.ext ((e22.trans x6_5))))) ?_)
          rintro v44 w44 ⟨x44, rfl⟩
          refine g_yes rfl (o_not rfl rfl r_not_d (o_pick_f rfl rfl rfl (o_nil (n_then ?_))))
          refine c_if rfl (fun h46 => ?_) (fun h46 => ?_)
          · refine c_seq (c_region (o_assign rfl rfl (o_nil (n_then (c_ret (r_then (r_block (r_then (r_then (r_block (r_then (r_body1 rfl rfl ?_))))))))))))
            exact ⟨_, rfl, ((e5.trans x6_5).trans x44), congrArg B (lays_no (by omega) hS (by
              rw [← he29]
              unfold layOk
              first
              | (rw [decide_eq_false (layC_no hno)]; simp)
              | (rw [decide_eq_false h46]; simp)))⟩
          · refine c_skip (n_then (c_seq (c_region (o_fieldAddr rfl rfl (r_fAt (o := 7) Tryz.underlying46 rfl (by kernel_rfl) rfl) (o_load rfl rfl (r_load1 Tryz.underlying44 rfl (x44.cell_some (k6_5.cell (i := 7) rfl))) ?_)))))
            refine o_fieldAddr rfl rfl (r_fAt (o := 8) Tryz.underlying46 rfl (by kernel_rfl) rfl) (o_load rfl rfl (r_load1 Tryz.underlying44 rfl (x44.cell_some (k6_5.cell (i := 8) rfl))) ?_)
            obtain ⟨v51, w51, hr51, x51, b51⟩ := r_bsRs (f29_0.ext (x6_5.trans x44)) (f29_1.ext (x6_5.trans x44))
            refine o_buildSlice (vs := [(0, x29_0), (1, x29_1)]) rfl rfl hr51 ?_
            refine o_len rfl rfl (r_lenDs Tryz.underlying74 b51) (o_move rfl rfl (o_nil (n_then (c_block ?_))))
            refine c_loop (α := Nat) (fun x => [(3, .map (some mm)), (24, y), (25, I (m.lays.length : Int)), (26, I (i : Int)), (51, v51), (52, I (2 : Int)), (53, I (x : Int))]) (fun x w' => Ext w w' ∧ Ext w22 w' ∧ Ext w51 w' ∧ x ≤ 2 ∧ (1 ≤ x → canQ e29.ws = true) ∧ (2 ≤ x → canQ e29.bs = true)) (fun x => 2 - x) (0) ⟨rfl, rfl, rfl, rfl, rfl, rfl, rfl, trivial⟩ ⟨(((e5.trans x6_5).trans x44).trans x51), (((e22.trans x6_5).trans x44).trans x51), Ext.refl _, by omega, fun h => absurd h (by omega), fun h => absurd h (by omega)⟩ ?_
            rintro j wM ⟨e5, e22, e51, hj2, hc1, hc2⟩
            refine c_seq (c_region (o_bin rfl rfl rfl (r_lss_i) (o_nil (n_then (c_seq ?_)))))
            refine c_if rfl (fun h54 => ?_) (fun h54 => ?_)
            · refine c_skip (n_then (c_seq (c_block (c_seq (c_region ?_)))))
              have hj3 : j < [e29.ws, e29.bs].length := by simp; omega
              obtain ⟨a55, c55, p55, q55, h55⟩ := r_ixDs (P := Tryz.prog) (sz := 1) Tryz.underlying74 (by kernel_rfl) dRats_size (by omega) (b51.ext e51) (i := j) (hj3) .i64
              obtain ⟨e55, he55⟩ : ∃ e, e = ([e29.ws, e29.bs])[j]'(hj3) := ⟨_, rfl⟩
              rw [← he55] at h55
              obtain ⟨x55_0, rfl, f55_0⟩ := dRats_inv h55
              refine o_indexAddr rfl rfl rfl (p55 _) ?_
              have hl55 := f55_0.len
              refine o_load rfl rfl (r_load1 Tryz.underlying44 rfl q55.cell0) (o_assign rfl rfl (o_nil (n_then (c_seq (c_region (o_move rfl rfl (o_len rfl rfl (r_lenDs Tryz.underlying44 f55_0) ?_)))))))
              refine o_move rfl rfl (o_nil (n_then (c_block ?_)))
              refine c_loop (α := Nat) (fun x => [(3, .map (some mm)), (24, y), (25, I (m.lays.length : Int)), (26, I (i : Int)), (51, v51), (52, I (2 : Int)), (53, I (j : Int)), (57, x55_0), (58, I (e55.length : Int)), (59, I (x : Int))]) (fun x w' => Ext w w' ∧ Ext w22 w' ∧ Ext w51 w' ∧ Ext wM w' ∧ x ≤ e55.length ∧ canQ e55 = canQ (e55.drop x)) (fun x => e55.length - x) (0) ⟨rfl, rfl, rfl, rfl, rfl, rfl, rfl, rfl, rfl, rfl, trivial⟩ ⟨e5, e22, e51, Ext.refl _, by omega, rfl⟩ ?_
              rintro k wN ⟨e5, e22, e51, eM, hk2, hC⟩
              refine c_seq (c_region (o_bin rfl rfl rfl (r_lss_i) (o_nil (n_then (c_seq ?_)))))
              refine c_if rfl (fun h60 => ?_) (fun h60 => ?_)
              · refine c_skip (n_then (c_seq (c_block (c_seq (c_region ?_)))))
                obtain ⟨a61, c61, p61, q61, h61⟩ := r_ixDs (P := Tryz.prog) (sz := 3) Tryz.underlying44 (by kernel_rfl) dRat_size (by omega) (f55_0.ext eM) (i := k) (by omega) .i64
                obtain ⟨e61, he61⟩ : ∃ e, e = e55[k]'(by omega) := ⟨_, rfl⟩
                rw [← he61] at h61
                obtain ⟨x61_0, x61_1, rfl, f61_0, f61_1⟩ := dRat_inv h61
                refine o_indexAddr rfl rfl rfl (p61 _) ?_
                have hr : e61.2.1.length ≤ 1073741824 ∧ e61.2.2.length ≤ 1073741824 := by
                  have hm : e61 ∈ e55 := by rw [he61]; exact List.getElem_mem _
                  rcases (show j = 0 ∨ j = 1 by omega) with rfl | rfl
                  · exact hq.1 _ (by rw [he55] at hm; exact hm)
                  · exact hq.2 _ (by rw [he55] at hm; exact hm)
                refine o_load rfl rfl (q61.ld Tryz.underlying42 rfl (by kernel_rfl)) ?_
                obtain ⟨g11, w11, hr11, l11, x11, k11⟩ := r_allocB (P := Tryz.prog) (w := wN) (t := 42) (z := .agg #[B false, .slice none 0 0, .slice none 0 0]) (l := [B false, .slice none 0 0, .slice none 0 0]) (by kernel_rfl) rfl
                refine o_alloc rfl hr11 ?_
                obtain ⟨w15_3, s15_3, q15_3, k15_3⟩ := k11.stS (P := Tryz.prog) (t := 42) (m := [B e61.1, x61_0, x61_1]) rfl (by kernel_rfl) (Ones.cons rfl (Ones.cons f61_0.one (Ones.cons f61_1.one Ones.nil)))
                refine o_store rfl rfl s15_3 ?_
                have x15_3 := Ext.of_new (x11) q15_3 l11
                refine o_nil (n_then (c_seq (c_region (o_load rfl rfl (k15_3.ld Tryz.underlying42 rfl (by kernel_rfl)) (o_call call_QValid rfl rfl ((QValid_spec (RatV.mk (f61_0.ext x15_3) (f61_1.ext x15_3)) (by omega) (by omega))) ?_)))))
                rintro v64 w64 ⟨x64, rfl⟩
                refine o_not rfl rfl r_not (o_nil (n_then ?_))
                refine c_cond rfl (fun h65 => ?_) (fun h65 => ?_)
                · have h65 : rv e61.1 e61.2.1 e61.2.2 = false := by simpa using h65
                  have hno := canQ_at (by omega) hC (by rw [← he61]; exact h65)
                  refine c_seq (c_region (o_assign rfl rfl (o_nil (n_then (c_ret (r_block (r_then (r_then (r_block (r_block (r_then (r_then (r_block (r_block (r_then (r_then (r_block (r_then (r_body1 rfl rfl ?_)))))))))))))))))))
                  exact ⟨_, rfl, ((e5.trans x15_3).trans x64), congrArg B (lays_no (by omega) hS (by
                    rw [← he29]
                    unfold layOk
                    rcases (show j = 0 ∨ j = 1 by omega) with rfl | rfl
                    · rw [he55] at hno
                      rw [show canQ e29.ws = false from hno]; rfl
                    · rw [he55] at hno
                      rw [show canQ e29.bs = false from hno]; simp))⟩
                · have h65 : rv e61.1 e61.2.1 e61.2.2 = true := by simpa using h65
                  refine c_skip (n_block (n_then (c_region (o_bin (r := I ((k + 1 : Nat) : Int)) rfl rfl rfl (by have e : ((k + 1 : Nat) : Int) = (k : Int) + 1 := (by omega); rw [e]; exact r_add_i (by omega) (by omega)) ?_))))
                  refine o_move rfl rfl (o_nil ?_)
                  refine n_round (k + 1) ⟨rfl, rfl, rfl, rfl, rfl, rfl, rfl, rfl, rfl, rfl, trivial⟩ ⟨((e5.trans x15_3).trans x64), ((e22.trans x15_3).trans x64), ((e51.trans x15_3).trans x64), ((eM.trans x15_3).trans x64), by omega, canQ_next (by omega) hC (by rw [← he61]; exact h65)⟩ (by omega)
              · refine c_exit (x_then (x_then (x_here (n_block (n_then ?_)))))
                have hyes := canQ_end (by rw [show e55.length = k by omega]; exact hC)
                have hcA : canQ e29.ws = true := by
                  rcases (show j = 0 ∨ j = 1 by omega) with rfl | rfl
                  · rw [he55] at hyes; exact hyes
                  · exact hc1 (by omega)
                have hcB : 2 ≤ j + 1 → canQ e29.bs = true := fun hj => by
                  obtain rfl : j = 1 := by omega
                  rw [he55] at hyes; exact hyes
                refine c_region (o_bin (r := I ((j + 1 : Nat) : Int)) rfl rfl rfl (by have e : ((j + 1 : Nat) : Int) = (j : Int) + 1 := (by omega); rw [e]; exact r_add_i (by omega) (by omega)) ?_)
                refine o_move rfl rfl (o_nil ?_)
                refine n_round (j + 1) ⟨rfl, rfl, rfl, rfl, rfl, rfl, rfl, trivial⟩ ⟨e5, e22, e51, by omega, fun _ => hcA, hcB⟩ (by omega)
            · refine c_exit (x_then (x_then (x_here (n_block (n_then ?_)))))
              have hok : layOk e29 i = true := by
                unfold layOk
                rw [hc1 (by omega), hc2 (by omega), decide_eq_true (Classical.byContradiction h46)]; rfl
              refine c_region (o_bin (r := I ((i + 1 : Nat) : Int)) rfl rfl rfl (by have e : ((i + 1 : Nat) : Int) = (i : Int) + 1 := (by omega); rw [e]; exact r_add_i (by omega) (by omega)) ?_)
              refine o_move rfl rfl (o_nil ?_)
              refine n_round (i + 1) ⟨rfl, rfl, rfl, rfl, trivial⟩ ⟨e5, e22, by omega, by rw [hS, laysOk_drop (by omega), ← he29, hok]; rfl⟩ (by omega)
      · refine c_exit (x_then (x_then (x_here (n_then (c_seq (c_region (o_assign rfl rfl (o_nil (n_then (c_ret (r_body1 rfl rfl ?_)))))))))))
        exact ⟨_, rfl, e5, congrArg B (by unfold validM; rw [hc, hS, List.drop_of_length_le (by omega), decide_eq_true (by omega)]; rfl)⟩
end Go.Rl
/- A literal row of bytes. No condition. -/
namespace Go.Rl
open Go.RowKit Go.Proofs
/-- A literal row of bytes, and the mark behind it. -/
theorem r_lit {w : World} (l : List UInt8) (hl : l.length ≤ 16777216) : ∃ v w1 w2, (Instr.buildSlice 28 l.length (number 0 (l.map U8)).toArray).run Tryz.prog w = .ok v w1 ∧ (convert 28 28 v).run Tryz.prog w1 = .ok v w2 ∧ Ext w w2 ∧ Bts l v w2 := by
  obtain ⟨i, hi, hz0, hs, _⟩ := info_parts info_u8
  have hf : ∀ Z : Array Value, Z.size = (l.map U8).length → Instr.fill (fun i => some (i * 1, 1)) Z (number 0 (l.map U8)) = some (l.map U8).toArray := fun Z hZ => by
    have := fill_number (l.map U8) [] Z.toList (fun v hv => one_cells (one_U8 l v hv)) (by simpa using hZ)
    simpa using this
  have hle : ¬ (l.length * 1 > 2 ^ 24) := by omega
  have hinfo : (typeInfo 5).run Tryz.prog w = .ok i w := by simp [typeInfo, hi]
  have hsz : (sizeOf 5).run Tryz.prog w = .ok 1 w := by simp [sizeOf, hinfo, hs]
  have hzv : (zeroValue 5).run Tryz.prog w = .ok (.int .u8 0) w := by simp [zeroValue, hinfo, hz0]
  have hrun : (Instr.buildSlice 28 l.length (number 0 (l.map U8)).toArray).run Tryz.prog w = .ok (.slice (some ⟨w.heap.size, 0, none⟩) l.length l.length) (w.alloc (.cells (l.map U8).toArray 5)) := by
    simp only [Instr.buildSlice, Sem.run_bind, run_underlying Tryz.underlying28, Result.andThen_ok, hsz, if_neg hle]
    by_cases h0 : l.length * 1 = 0
    · rw [if_pos h0]
      simp only [Sem.run_bind, Sem.run_pure, Result.andThen_ok]
      rw [hf _ (by simp)]
      simp [newRow]
    · rw [if_neg h0]
      simp only [Sem.run_bind, Sem.run_pure, Result.andThen_ok, hzv]
      rw [hf _ (by simp [Value.cells])]
      simp [newRow]
  refine ⟨_, _, _, hrun, Go.Lib.run_convert_bytes_const w 28 5 _ _ _ Tryz.underlying28 Tryz.underlying5, Ext.new w _, ?_⟩
  have hg := heap_alloc_new w (.cells (l.map U8).toArray 5 ((l.map U8).toArray.size, (l.map U8).toArray.size + 1))
  refine ⟨_, _, _, rfl, Nat.le_refl _, by unfold maxLen; omega, by simp, fun _ => ⟨_, rfl, fun j u hu => ?_⟩, fun h => by cases h⟩
  rw [Addr.add_mid, Nat.zero_add, cell_of_row _ _ j _ _ _ hg]
  simpa using hu
end Go.Rl
/- Rows that are full or owned: appended to, sliced at the front. No condition. -/
namespace Go.Rl
open Go.RowKit Go.Proofs
theorem run_slice_hi {P : Program} {t e : TypeId} {sz : Nat} (ht : P.underlying t = some (.slice e)) (hsz : (P.info? e).map (·.size) = some sz) {A : Option Addr} {n c hi : Nat} (h1 : hi ≤ n) (hnc : n ≤ c) (h0 : A = none → c = 0) (kh : IntKind) (w : World) :
    (Instr.sliceAt t (.slice A n c) none (some (.int kh hi)) none).run P w = .ok (.slice A hi c) w := by
  obtain ⟨i, hi', hs⟩ := Option.map_eq_some_iff.1 hsz
  have hb : ∀ w : World, (Instr.sliceBounds true n c none (some (.int kh hi)) none).run P w = .ok (0, hi, c) w := fun w => by
    have a1 := run_sliceBound (P := P) (w := w) kh (hi : Int) c .sliceAcap (by omega) (by omega)
    simp only [Int.toNat_natCast] at a1
    simp [Instr.sliceBounds, a1]
  have : (Instr.sliceAt t (.slice A n c) none (some (.int kh hi)) none).run P w = .ok (.slice (if c = 0 then A else A.map (·.add (0 * sz))) (hi - 0) (c - 0)) w := by
    simp [Instr.sliceAt, Instr.slice, run_underlying ht, hb, sizeOf, typeInfo, hi', hs]
  rw [this]
  have hA' : (if c = 0 then A else A.map (·.add (0 * sz))) = A := by
    split
    · rfl
    · cases A <;> simp [add_zero]
  rw [hA']
  rfl
section
variable {w0 w : World} {l m : List UInt8} {v x : Value} {ty : TypeId}
/-- Bytes that an append never changes in place: a row of the call's own, or one without room. -/
def GrB (base : Nat) (l : List UInt8) (v : Value) (w : World) : Prop := OwnB base l v w ∨ (Bts l v w ∧ ∃ ad, v = .slice (some ad) l.length l.length)
theorem GrB.ext {base : Nat} {w' : World} (h : GrB base l v w) (hx : Ext w w') : GrB base l v w' := h.imp (·.ext hx) fun h => ⟨h.1.ext hx, h.2⟩
theorem r_litF {w : World} (l : List UInt8) (hl : l.length ≤ 16777216) (h0 : 0 < l.length) : ∃ v w1 w2, (Instr.buildSlice 28 l.length (number 0 (l.map U8)).toArray).run Tryz.prog w = .ok v w1 ∧ (convert 28 28 v).run Tryz.prog w1 = .ok v w2 ∧ Ext w w2 ∧ Bts l v w2 ∧ ∃ ad, v = .slice (some ad) l.length l.length := by
  obtain ⟨v, w1, w2, h1, h2, h3, h4⟩ := r_lit (w := w) l hl
  refine ⟨v, w1, w2, h1, h2, h3, h4, ?_⟩
  obtain ⟨r, w', h5, h6, h7, h8⟩ := r_bsB (w := w) 0 l hl (Nat.zero_le _)
  rw [h1] at h5
  obtain ⟨rfl, rfl⟩ := Result.ok.inj h5
  obtain ⟨n, hn, ⟨rfl, rfl⟩ | ⟨g, cap, cur, rfl, hg, hcur, hnc, hcm, hcs, htk⟩⟩ := h7
  · cases h8
  · have hln : n = l.length := by simpa using hn.symm
    subst hln
    have hz : cap = l.length := by
      obtain ⟨i, hi, hz0, hs, _⟩ := info_parts info_u8
      have hf : ∀ Z : Array Value, Z.size = (l.map U8).length → Instr.fill (fun i => some (i * 1, 1)) Z (number 0 (l.map U8)) = some (l.map U8).toArray := fun Z hZ => by
        have := fill_number (l.map U8) [] Z.toList (fun v hv => one_cells (one_U8 l v hv)) (by simpa using hZ)
        simpa using this
      have hle : ¬ (l.length * 1 > 2 ^ 24) := by omega
      have hinfo : (typeInfo 5).run Tryz.prog w = .ok i w := by simp [typeInfo, hi]
      have hsz : (sizeOf 5).run Tryz.prog w = .ok 1 w := by simp [sizeOf, hinfo, hs]
      have hzv : (zeroValue 5).run Tryz.prog w = .ok (.int .u8 0) w := by simp [zeroValue, hinfo, hz0]
      have hrun : (Instr.buildSlice 28 l.length (number 0 (l.map U8)).toArray).run Tryz.prog w = .ok (.slice (some ⟨w.heap.size, 0, none⟩) l.length l.length) (w.alloc (.cells (l.map U8).toArray 5)) := by
        simp only [Instr.buildSlice, Sem.run_bind, run_underlying Tryz.underlying28, Result.andThen_ok, hsz, if_neg hle]
        rw [if_neg (by omega)]
        simp only [Sem.run_bind, Sem.run_pure, Result.andThen_ok, hzv]
        rw [hf _ (by simp [Value.cells])]
        simp [newRow]
      rw [h1] at hrun
      have := (Result.ok.inj hrun).1
      injection this
    subst hz
    exact ⟨_, rfl⟩
theorem r_appG (h0 : Ext w0 w) (hv : GrB w0.heap.size l v w) (hx : Bts m x w) (hm : 0 < m.length) (hb : l.length + m.length ≤ 140737488355328) :
    ∃ r w', (Builtin.append_ #[28, 28] ty #[v, x]).run Tryz.prog w = .ok r w' ∧ OwnB w0.heap.size (l ++ m) r w' ∧ Ext w0 w' := by
  rcases hv with hv | ⟨hv, ad, rfl⟩
  · obtain ⟨r, w', h1, h2, h3⟩ := r_appB (ty := ty) hv hx hb h0.size
    exact ⟨r, w', h1, h2, Ext.of_grew h0 h3 hv.ge⟩
  · obtain ⟨i, hi, hz, hsize, hby⟩ := info_parts info_u8
    obtain ⟨A, n, c, hA, hnc, hcm, hl, hc, _⟩ := hv
    injection hA with hA hn hc'
    subst hA hn hc'
    obtain ⟨A', n', c', rfl, hnc', hcm', hl', hcl', _⟩ := hx
    have hn' : n' = m.length := by simpa using hl'.symm
    obtain ⟨ad', hA', hcl2⟩ := hcl' (by omega)
    subst hA'
    have hold : ∀ j u, (l.map U8)[j]? = some u → w.cell? (ad.add j) = some u := fun j u hu => by
      have hj : j < l.length := by
        have := (List.getElem?_eq_some_iff.1 hu).1
        simpa using this
      obtain ⟨ad2, h2, h3⟩ := hc (by omega)
      cases h2
      exact h3 j u hu
    obtain ⟨r, w', h1, h2, h3⟩ := run_append_arg_grows (P := Tryz.prog) w 28 ty 5 i (.int .u8 0) 1 1 Tryz.underlying28 hi hz hsize hby rfl (by omega) ad l.length l.length (l.map U8) (by simp) hold ad' n' c' (m.map U8) hl' hcl2 (by omega) (by unfold maxLen; omega) (by omega)
    refine ⟨r, w', h1, ⟨l.length + n', ?_⟩, h0.of_grown h3 (fun k hk => by cases hk)⟩
    rw [List.map_append]
    exact ownsRow_base h2 (fun k hk => Nat.le_trans h0.size (World.ownsRow.lt h2 k hk).1)
theorem r_appSE (h0 : Ext w0 w) (hv : OwnB w0.heap.size l v w) (hb : l.length + m.length ≤ 140737488355328) :
    ∃ r w', (Builtin.append_ #[28, 9] ty #[v, S m]).run Tryz.prog w = .ok r w' ∧ OwnB w0.heap.size (l ++ m) r w' ∧ Ext w0 w' := by
  obtain ⟨r, w', h1, h2, h3⟩ := r_appS (ty := ty) (m := m) hv hb h0.size
  exact ⟨r, w', h1, h2, h0.of_grown h3 hv.ge⟩
theorem r_slBO {base : Nat} (h : OwnB base l v w) {hi : Nat} (h2 : hi ≤ l.length) (kh : IntKind) :
    ∃ r, (∀ w' : World, (Instr.sliceAt 28 v none (some (.int kh hi)) none).run Tryz.prog w' = .ok r w') ∧ OwnB base (l.take hi) r w := by
  obtain ⟨n, hn, ⟨rfl, rfl⟩ | ⟨g, cap, cur, rfl, hg, hcur, hnc, hcm, hcs, htk⟩⟩ := h
  · have hl : l = [] := by simpa using hn
    subst hl
    have : hi = 0 := by simpa using h2
    subst this
    exact ⟨_, fun w' => run_slice_hi Tryz.underlying28 size_u8 (Nat.le_refl _) (Nat.le_refl _) (fun _ => rfl) kh w', OwnB.nil _ _⟩
  · have hln : n = l.length := by simpa using hn.symm
    refine ⟨_, fun w' => run_slice_hi Tryz.underlying28 size_u8 (hi := hi) (by omega) hnc (fun h => by cases h) kh w', ⟨hi, by simp; omega, .inr ⟨g, cap, cur, rfl, hg, hcur, by omega, hcm, hcs, ?_⟩⟩⟩
    rw [List.map_take, ← htk, List.take_take]
    congr 1
    omega
end
end Go.Rl
/- A slice of bytes that lies in a block and is appended to. Conditions: each lemma names its own. -/
namespace Go.Rl
open Go.RowKit Go.Proofs
section
variable {w0 w w' : World} {l m : List UInt8} {v x : Value} {ty t t2 T : TypeId} {g base : Nat}
theorem append_tyB (ht : Tryz.prog.underlying t = some (.slice 5)) (ht2 : Tryz.prog.underlying t2 = some (.slice 5)) (a b : Value) : (Builtin.append_ #[t, t2] ty #[a, b]).run Tryz.prog w = (Builtin.append_ #[28, 28] ty #[a, b]).run Tryz.prog w := by
  unfold Builtin.append_
  cases a <;> simp [Sem.run_bind, run_underlying ht, run_underlying ht2, run_underlying Tryz.underlying28]
/-- Block g holds the slice v, which reads as l; what comes after base alone may change. -/
structure WrAt (T : TypeId) (base g : Nat) (l : List UInt8) (v : Value) (w : World) : Prop where
  ge : base ≤ g
  blk : Blk g T [v] w
  row : GrB base l v w
  new : ∀ k, v.ownBlock = some k → base ≤ k
  off : v.ownBlock ≠ some g
  lt : ∀ k, v.ownBlock = some k → k < w.heap.size
theorem GrB.bts (h : GrB base l v w) : Bts l v w := h.elim (·.bts) (·.1)
theorem WrAt.ext (h : WrAt T base g l v w) (hx : Ext w w') : WrAt T base g l v w' := ⟨h.ge, h.blk.ext hx, h.row.ext hx, h.new, h.off, fun k hk => Nat.lt_of_lt_of_le (h.lt k hk) hx.size⟩
theorem WrAt.off_new {k : Nat} (h : WrAt T base g l v w) (hk : w.heap.size ≤ k) : ¬ (k = g ∨ v.ownBlock = some k) := by
  rintro (rfl | h1)
  · have := h.blk.lt; omega
  · have := h.lt k h1; omega
/-- From w to w' the writer at block g went on: only its block, its row and new blocks differ. -/
structure WrStep (g : Nat) (v : Value) (w : World) (v' : Value) (w' : World) : Prop where
  mv : Mv (fun k => k = g ∨ v.ownBlock = some k) w w'
  own : ∀ k, v'.ownBlock = some k → v.ownBlock = some k ∨ w.heap.size ≤ k
theorem WrStep.of_ext (h : Ext w w') : WrStep g v w v w' := ⟨Mv.of_ext h, fun _ h => .inl h⟩
theorem WrStep.refl : WrStep g v w v w := WrStep.of_ext (Ext.refl w)
theorem WrStep.trans {v1 v2 : Value} {w1 w2 : World} (h : WrStep g v w v1 w1) (k : WrStep g v1 w1 v2 w2) : WrStep g v w v2 w2 := by
  refine ⟨h.mv.trans k.mv fun n hn hlt => ?_, fun n hn => ?_⟩
  · rcases hn with hn | hn
    · exact .inl hn
    · rcases h.own n hn with h1 | h1
      · exact .inr h1
      · omega
  · rcases k.own n hn with h1 | h1
    · exact h.own n h1
    · exact .inr (Nat.le_trans h.mv.size h1)
theorem WrStep.off {k : Nat} {v1 : Value} {w1 : World} (h : WrStep g v w v1 w1) (hn : ¬ (k = g ∨ v.ownBlock = some k)) (hk : k < w.heap.size) : ¬ (k = g ∨ v1.ownBlock = some k) := by
  rintro (h1 | h1)
  · exact hn (.inl h1)
  · rcases h.own k h1 with h2 | h2
    · exact hn (.inr h2)
    · omega
theorem WrStep.ext {v1 : Value} {w1 : World} (h : WrStep g v w v1 w1) (h0 : Ext w0 w) (hg : w0.heap.size ≤ g) (hv : ∀ k, v.ownBlock = some k → w0.heap.size ≤ k) : Ext w0 w1 :=
  h.mv.ext_from h0 fun k hk => by
    rcases hk with rfl | hk
    · exact hg
    · exact hv k hk
/-- Deep data that the writer does not touch. -/
def WrX (g : Nat) (v : Value) : Nat → Prop := fun k => k = g ∨ v.ownBlock = some k
theorem RpX.step {v1 : Value} {w1 : World} {d : Dt} {cs : List Value} (h : RpX (WrX g v) w d cs) (k : WrStep g v w v1 w1) : RpX (WrX g v1) w1 d cs := h.mv k.mv fun n hn => by
  rcases hn with hn | hn
  · exact .inl (.inl hn)
  · rcases k.own n hn with h1 | h1
    · exact .inl (.inr h1)
    · exact .inr h1
/-- What lies below w0 is not touched. -/
theorem Rp.wrX {d : Dt} {cs : List Value} (h : Rp w0 d cs) (hx : Ext w0 w) (hg : w0.heap.size ≤ g) (hv : ∀ k, v.ownBlock = some k → w0.heap.size ≤ k) : RpX (WrX g v) w d cs := (h.x.ext hx).weak fun k hk => by
  rcases hk with rfl | hk
  · exact .inl hg
  · exact .inl (hv k hk)
/-- append alone -/
theorem WrAt.app (ht : Tryz.prog.underlying t = some (.slice 5)) (ht2 : Tryz.prog.underlying t2 = some (.slice 5)) (h : WrAt T base g l v w) (h0 : base ≤ w.heap.size) (hx : Bts m x w) (hm : 0 < m.length) (hb : l.length + m.length ≤ 140737488355328) :
    ∃ r w1, (Builtin.append_ #[t, t2] ty #[v, x]).run Tryz.prog w = .ok r w1 ∧ OwnB base (l ++ m) r w1 ∧ WrStep g v w r w1 := by
  rcases h.row with hv | ⟨hv, hfull⟩
  · obtain ⟨r, w1, h1, h2, h3⟩ := r_appB (ty := ty) hv hx hb h0
    refine ⟨r, w1, (append_tyB ht ht2 v x).trans h1, h2, ⟨Mv.of_grown h3.grown fun k hk _ => .inr hk, fun k hk => ?_⟩⟩
    rcases h3.own with h4 | h4
    · rw [h4] at hk; exact .inl hk
    · exact .inr (h4 k hk)
  · obtain ⟨r, w1, h1, h2, h3⟩ := r_appG (ty := ty) (w0 := w) (Ext.refl w) (.inr ⟨hv, hfull⟩) hx hm hb
    exact ⟨r, w1, (append_tyB ht ht2 v x).trans h1, h2.low h0, ⟨Mv.of_ext h3, fun k hk => .inr (h2.ge k hk)⟩⟩
theorem WrAt.put (ht : Tryz.prog.underlying t = some (.slice 5)) (hs : (Tryz.prog.info? t).map (·.size) = some 1) (ht2 : Tryz.prog.underlying t2 = some (.slice 5)) (h : WrAt T base g l v w) (h0 : base ≤ w.heap.size) (hx : Bts m x w) (hm : 0 < m.length) (hb : l.length + m.length ≤ 140737488355328) :
    ∃ r w1 w2, (Builtin.append_ #[t, t2] ty #[v, x]).run Tryz.prog w = .ok r w1 ∧ (Instr.storeAt t (.pointer (some ⟨g, 0, none⟩)) r).run Tryz.prog w1 = .ok () w2 ∧ WrAt T base g (l ++ m) r w2 ∧ WrStep g v w r w2 := by
  have key : ∃ r w1, (Builtin.append_ #[28, 28] ty #[v, x]).run Tryz.prog w = .ok r w1 ∧ OwnB base (l ++ m) r w1 ∧ WrStep g v w r w1 ∧ Blk g T [v] w1 ∧ r.ownBlock ≠ some g := by
    rcases h.row with hv | ⟨hv, hfull⟩
    · obtain ⟨r, w1, h1, h2, h3⟩ := r_appB (ty := ty) hv hx hb h0
      refine ⟨r, w1, h1, h2, ⟨Mv.of_grown h3.grown fun k hk _ => .inr hk, fun k hk => ?_⟩, h.blk.other h3.grown (Ne.symm h.off), ?_⟩
      · rcases h3.own with h4 | h4
        · rw [h4] at hk; exact .inl hk
        · exact .inr (h4 k hk)
      · rcases h3.own with h4 | h4
        · rw [h4]; exact h.off
        · intro h5
          have := h4 g h5
          have := h.blk.lt
          omega
    · obtain ⟨r, w1, h1, h2, h3⟩ := r_appG (ty := ty) (w0 := w) (Ext.refl w) (.inr ⟨hv, hfull⟩) hx hm hb
      refine ⟨r, w1, h1, h2.low h0, ⟨Mv.of_ext h3, fun k hk => .inr (h2.ge k hk)⟩, h.blk.ext h3, fun h5 => ?_⟩
      have := h2.ge g h5
      have := h.blk.lt
      omega
  obtain ⟨r, w1, h1, h2, h3, h4, h5⟩ := key
  have hr1 : r.oneCell' = true := by
    obtain ⟨A, n, c, rfl, _⟩ := h2.bts
    rfl
  obtain ⟨w2, h6, h7, h8⟩ := h4.stC (P := Tryz.prog) (t := t) (i := 0) (v := r) hs hr1 (by simp)
  refine ⟨r, w1, w2, (append_tyB ht ht2 v x).trans h1, h6, ⟨h.ge, h8, .inl ?_, h2.ge, h5, fun k hk => Nat.lt_of_lt_of_le (h2.lt k hk) h7.size⟩, h3.trans ⟨Mv.of_grown h7 fun k hk _ => .inl (Option.some.inj hk).symm, fun k hk => .inl hk⟩⟩
  obtain ⟨n, h9⟩ := h2
  exact ⟨n, World.ownsRow.kept h9 h7 (.inr h5)⟩
/-- A literal row of bytes of a named type. -/
theorem r_litT (ht : Tryz.prog.underlying t = some (.slice 5)) (l : List UInt8) (hl : l.length ≤ 16777216) (h0 : 0 < l.length) : ∃ v w1 w2, (Instr.buildSlice t l.length (number 0 (l.map U8)).toArray).run Tryz.prog w = .ok v w1 ∧ (convert t t v).run Tryz.prog w1 = .ok v w2 ∧ Ext w w2 ∧ Bts l v w2 ∧ ∃ ad, v = .slice (some ad) l.length l.length ∧ w.heap.size ≤ ad.block ∧ ad.block < w2.heap.size := by
  obtain ⟨i, hi, hz0, hs, _⟩ := info_parts info_u8
  have hf : ∀ Z : Array Value, Z.size = (l.map U8).length → Instr.fill (fun i => some (i * 1, 1)) Z (number 0 (l.map U8)) = some (l.map U8).toArray := fun Z hZ => by
    have := fill_number (l.map U8) [] Z.toList (fun v hv => one_cells (one_U8 l v hv)) (by simpa using hZ)
    simpa using this
  have hle : ¬ (l.length * 1 > 2 ^ 24) := by omega
  have hinfo : (typeInfo 5).run Tryz.prog w = .ok i w := by simp [typeInfo, hi]
  have hsz : (sizeOf 5).run Tryz.prog w = .ok 1 w := by simp [sizeOf, hinfo, hs]
  have hzv : (zeroValue 5).run Tryz.prog w = .ok (.int .u8 0) w := by simp [zeroValue, hinfo, hz0]
  have hrun : (Instr.buildSlice t l.length (number 0 (l.map U8)).toArray).run Tryz.prog w = .ok (.slice (some ⟨w.heap.size, 0, none⟩) l.length l.length) (w.alloc (.cells (l.map U8).toArray 5)) := by
    simp only [Instr.buildSlice, Sem.run_bind, run_underlying ht, Result.andThen_ok, hsz, if_neg hle]
    rw [if_neg (by omega)]
    simp only [Sem.run_bind, Sem.run_pure, Result.andThen_ok, hzv]
    rw [hf _ (by simp [Value.cells])]
    simp [newRow]
  refine ⟨_, _, _, hrun, Go.Lib.run_convert_bytes_const w t 5 _ _ _ ht Tryz.underlying5, Ext.new w _, ?_, ⟨_, rfl, Nat.le_refl _, by simp⟩⟩
  have hg := heap_alloc_new w (.cells (l.map U8).toArray 5 ((l.map U8).toArray.size, (l.map U8).toArray.size + 1))
  refine ⟨_, _, _, rfl, Nat.le_refl _, by unfold maxLen; omega, by simp, fun _ => ⟨_, rfl, fun j u hu => ?_⟩, fun h => by cases h⟩
  rw [Addr.add_mid, Nat.zero_add, cell_of_row _ _ j _ _ _ hg]
  simpa using hu
/-- A new writer: its bytes lie in a literal row. -/
theorem r_newW {ad : Addr} {z : Value} (hz : (Tryz.prog.info? T).map (·.zero) = some (some z)) (hzc : z.cells = [z].toArray) (hs : (Tryz.prog.info? t).map (·.size) = some 1) (h0 : Ext w0 w) (hv : Bts l v w) (he : v = .slice (some ad) l.length l.length) (hn : w0.heap.size ≤ ad.block) (hlt : ad.block < w.heap.size) :
    ∃ g wa wb, (Instr.alloc T true (.tuple #[])).run Tryz.prog w = .ok (.pointer (some ⟨g, 0, none⟩)) wa ∧ (Instr.storeAt t (.pointer (some ⟨g, 0, none⟩)) v).run Tryz.prog wa = .ok () wb ∧ Ext w0 wb ∧ WrAt T w0.heap.size g l v wb := by
  subst he
  obtain ⟨g, wa, h1, h2, h3, h4⟩ := r_allocB (P := Tryz.prog) (w := w) (t := T) (l := [z]) hz hzc
  obtain ⟨wb, h5, h6, h7⟩ := h4.stC (P := Tryz.prog) (t := t) (i := 0) (v := .slice (some ad) l.length l.length) hs rfl (by simp)
  have hx : Ext w wb := h3.of_new h6 h2
  have hg0 : w0.heap.size ≤ g := Nat.le_trans h0.size h2
  refine ⟨g, wa, wb, h1, h5, h0.trans hx, ⟨hg0, h7, .inr ⟨hv.ext hx, _, rfl⟩, fun k hk => ?_, fun hk => ?_, fun k hk => ?_⟩⟩
  · cases hk; exact hn
  · cases hk; omega
  · cases hk; exact Nat.lt_of_lt_of_le hlt hx.size
end
end Go.Rl

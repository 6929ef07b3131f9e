/- Validity of models walked, the program's side: the conditions of the kinds. Conditions: rationals of at most 2^30 limbs. -/
import Derived.Test.YtaehfoogjjglcaaAm3
import Derived.Lib.SlBytesConst
import Derived.ArgAppend
import Derived.ChangeKeysEq
import Derived.Laws.StructEq
namespace Go.Rl
open Go.RowKit Go.Proofs
theorem call_ASide : Callable Try.prog 60 := ⟨_, Try.func60, by kernel_rfl, rfl⟩
theorem call_AKernel : Callable Try.prog 41 := ⟨_, Try.func41, by kernel_rfl, rfl⟩
theorem call_AWeights : Callable Try.prog 44 := ⟨_, Try.func44, by kernel_rfl, rfl⟩
theorem call_MOut : Callable Try.prog 38 := ⟨_, Try.func38, by kernel_rfl, rfl⟩
theorem call_MOnly : Callable Try.prog 39 := ⟨_, Try.func39, by kernel_rfl, rfl⟩
theorem call_MPool : Callable Try.prog 40 := ⟨_, Try.func40, by kernel_rfl, rfl⟩
theorem call_MBare : Callable Try.prog 42 := ⟨_, Try.func42, by kernel_rfl, rfl⟩
theorem call_MDense : Callable Try.prog 43 := ⟨_, Try.func43, by kernel_rfl, rfl⟩
theorem call_MConv : Callable Try.prog 45 := ⟨_, Try.func45, by kernel_rfl, rfl⟩
theorem call_MAdd : Callable Try.prog 46 := ⟨_, Try.func46, by kernel_rfl, rfl⟩
theorem call_MConds : Callable Try.prog 24 := ⟨_, Try.func24, by kernel_rfl, rfl⟩
theorem call_AValid : Callable Try.prog 10 := ⟨_, Try.func10, by kernel_rfl, rfl⟩
theorem ASide_spec {w : World} {n : Int} :
    Calls Try.prog 60 #[I n] w (Ret fun r w' => w = w' ∧ r = B (decide (1 ≤ n ∧ n ≤ 64))) := by
  refine enter (vs := [I n]) Try.func60 rfl rfl rfl ?_
  refine c_seq (c_region (o_assign rfl rfl (o_nil (n_then (c_seq (c_region (o_move rfl rfl (o_bin rfl rfl rfl (r_geq_i) (o_move rfl rfl ?_)))))))))
  refine o_dec (fun h5 => ?_) (fun h5 => ?_)
  · refine g_yes rfl (o_move rfl rfl (g_yes rfl (o_bin rfl rfl rfl (r_leq_i) (o_pick_t rfl rfl rfl (o_assign rfl rfl (o_nil (n_then (c_ret (r_body1 rfl rfl ?_)))))))))
    exact ⟨_, rfl, rfl, by
      first
      | exact congrArg B (decide_eq_decide.2 ⟨fun h => ⟨by omega, h⟩, fun h => h.2⟩)
      | exact congrArg B (decide_eq_false (by omega)).symm⟩
  · refine g_no rfl rfl rfl (g_no rfl rfl rfl (o_pick_f rfl rfl rfl (o_assign rfl rfl (o_nil (n_then (c_ret (r_body1 rfl rfl ?_)))))))
    exact ⟨_, rfl, rfl, by
      first
      | exact congrArg B (decide_eq_decide.2 ⟨fun h => ⟨by omega, h⟩, fun h => h.2⟩)
      | exact congrArg B (decide_eq_false (by omega)).symm⟩
theorem AKernel_spec {w : World} {a : LayD} {x y : Value} :
    Calls Try.prog 41 #[.agg #[I a.kd, I a.fr, I a.ou, I a.kh, I a.kw, I a.sr, I a.pd, x, y]] w (Ret fun r w' => Ext w w' ∧ r = B (kernB a)) := by
  refine enter (vs := [.agg #[I a.kd, I a.fr, I a.ou, I a.kh, I a.kw, I a.sr, I a.pd, x, y]]) Try.func41 rfl rfl rfl ?_
  refine c_seq (c_region ?_)
  obtain ⟨g1, w1, hr1, l1, x1, k1⟩ := r_boxS (P := Try.prog) (w := w) (T := 37) (cs := [I a.kd, I a.fr, I a.ou, I a.kh, I a.kw, I a.sr, I a.pd, x, y])
  refine o_box rfl rfl hr1 (o_assign rfl rfl (o_nil (n_then (c_seq (c_region (o_fieldAddr rfl rfl (r_fAt (o := 3) Try.underlying37 rfl (by kernel_rfl) rfl) ?_))))))
  refine o_load rfl rfl (r_load1 Try.underlying3 rfl (k1.cell (i := 3) rfl)) (o_call call_ASide rfl rfl (ASide_spec) ?_)
  rintro v5 _ ⟨rfl, rfl⟩
  refine o_move rfl rfl ?_
  refine o_dec (fun h6 => ?_) (fun h6 => ?_)
  · refine g_yes rfl (o_fieldAddr rfl rfl (r_fAt (o := 4) Try.underlying37 rfl (by kernel_rfl) rfl) (g_yes rfl (o_load rfl rfl (r_load1 Try.underlying3 rfl (k1.cell (i := 4) rfl)) ?_)))
    refine g_yes rfl (o_call call_ASide rfl rfl (ASide_spec) ?_)
    rintro v9 _ ⟨rfl, rfl⟩
    refine o_pick_t rfl rfl rfl (o_move rfl rfl ?_)
    refine o_dec (fun h11 => ?_) (fun h11 => ?_)
    · refine g_yes rfl (o_fieldAddr rfl rfl (r_fAt (o := 5) Try.underlying37 rfl (by kernel_rfl) rfl) (g_yes rfl (o_load rfl rfl (r_load1 Try.underlying3 rfl (k1.cell (i := 5) rfl)) ?_)))
      refine g_yes rfl (o_call call_ASide rfl rfl (ASide_spec) ?_)
      rintro v14 _ ⟨rfl, rfl⟩
      refine o_pick_t rfl rfl rfl (o_assign rfl rfl (o_nil (n_then (c_ret (r_body1 rfl rfl ?_)))))
      exact ⟨_, rfl, x1, by
        unfold kernB
        first
        | exact congrArg B (decide_eq_decide.2 ⟨fun h => ⟨h6, h11, h⟩, fun h => h.2.2⟩)
        | exact congrArg B (decide_eq_false (fun h => h11 h.2.1)).symm
        | exact congrArg B (decide_eq_false (fun h => h6 h.1)).symm⟩
    · refine g_no rfl rfl rfl (g_no rfl rfl rfl (g_no rfl rfl rfl (o_pick_f rfl rfl rfl (o_assign rfl rfl (o_nil (n_then (c_ret (r_body1 rfl rfl ?_))))))))
      exact ⟨_, rfl, x1, by
        unfold kernB
        first
        | exact congrArg B (decide_eq_decide.2 ⟨fun h => ⟨h6, h11, h⟩, fun h => h.2.2⟩)
        | exact congrArg B (decide_eq_false (fun h => h11 h.2.1)).symm
        | exact congrArg B (decide_eq_false (fun h => h6 h.1)).symm⟩
  · refine g_no rfl rfl rfl (g_no rfl rfl rfl (g_no rfl rfl rfl (o_pick_f rfl rfl rfl (o_move rfl rfl (g_no rfl rfl rfl (g_no rfl rfl rfl (g_no rfl rfl rfl (o_pick_f rfl rfl rfl (o_assign rfl rfl ?_)))))))))
    refine o_nil (n_then (c_ret (r_body1 rfl rfl ?_)))
    exact ⟨_, rfl, x1, by
      unfold kernB
      first
      | exact congrArg B (decide_eq_decide.2 ⟨fun h => ⟨h6, h11, h⟩, fun h => h.2.2⟩)
      | exact congrArg B (decide_eq_false (fun h => h11 h.2.1)).symm
      | exact congrArg B (decide_eq_false (fun h => h6 h.1)).symm⟩
theorem AWeights_spec {w : World} {a : LayD} {x y : Value} {d : Int} (ha : DsV dRat a.ws x w) (hb : DsV dRat a.bs y w) (hd : 1 ≤ d) :
    Calls Try.prog 44 #[.agg #[I a.kd, I a.fr, I a.ou, I a.kh, I a.kw, I a.sr, I a.pd, x, y], I d] w (Ret fun r w' => Ext w w' ∧ r = B (decide ((a.bs.length : Int) = a.ou ∧ mulOk a.ws.length d = true))) := by
  refine enter (vs := [.agg #[I a.kd, I a.fr, I a.ou, I a.kh, I a.kw, I a.sr, I a.pd, x, y], I d]) Try.func44 rfl rfl rfl ?_
  have hll := ha.len
  refine c_seq (c_region ?_)
  obtain ⟨g2, w2, hr2, l2, x2, k2⟩ := r_boxS (P := Try.prog) (w := w) (T := 37) (cs := [I a.kd, I a.fr, I a.ou, I a.kh, I a.kw, I a.sr, I a.pd, x, y])
  refine o_box rfl rfl hr2 (o_assign rfl rfl (o_nil (n_then (c_seq (c_region (o_fieldAddr rfl rfl (r_fAt (o := 8) Try.underlying37 rfl (by kernel_rfl) rfl) ?_))))))
  refine o_load rfl rfl (r_load1 Try.underlying35 rfl (k2.cell (i := 8) rfl)) (o_len rfl rfl (r_lenDs Try.underlying35 (hb.ext x2)) (o_fieldAddr rfl rfl (r_fAt (o := 2) Try.underlying37 rfl (by kernel_rfl) rfl) ?_))
  refine o_load rfl rfl (r_load1 Try.underlying3 rfl (k2.cell (i := 2) rfl)) (o_bin rfl rfl rfl (r_eql_i) (o_move rfl rfl ?_))
  refine o_dec (fun h11 => ?_) (fun h11 => ?_)
  · refine g_yes rfl (o_fieldAddr rfl rfl (r_fAt (o := 7) Try.underlying37 rfl (by kernel_rfl) rfl) (g_yes rfl (o_load rfl rfl (r_load1 Try.underlying35 rfl (k2.cell (i := 7) rfl)) ?_)))
    refine g_yes rfl (o_len rfl rfl (r_lenDs Try.underlying35 (ha.ext x2)) (g_yes rfl (o_bin rfl rfl rfl (r_gtr_i) (o_pick_t rfl rfl rfl (o_move rfl rfl ?_)))))
    refine o_dec (fun h17 => ?_) (fun h17 => ?_)
    · refine g_yes rfl (o_fieldAddr rfl rfl (r_fAt (o := 7) Try.underlying37 rfl (by kernel_rfl) rfl) (g_yes rfl (o_load rfl rfl (r_load1 Try.underlying35 rfl (k2.cell (i := 7) rfl)) ?_)))
      refine g_yes rfl (o_len rfl rfl (r_lenDs Try.underlying35 (ha.ext x2)) (g_yes rfl (o_bin rfl rfl rfl (r_leq_i) (o_pick_t rfl rfl rfl (o_move rfl rfl ?_)))))
      refine o_dec (fun h23 => ?_) (fun h23 => ?_)
      · refine g_yes rfl (o_fieldAddr rfl rfl (r_fAt (o := 7) Try.underlying37 rfl (by kernel_rfl) rfl) (g_yes rfl (o_load rfl rfl (r_load1 Try.underlying35 rfl (k2.cell (i := 7) rfl)) ?_)))
        refine g_yes rfl (o_len rfl rfl (r_lenDs Try.underlying35 (ha.ext x2)) (g_yes rfl (o_move rfl rfl (g_yes rfl (o_bin rfl rfl rfl (r_rem_i (by omega) (by omega)) ?_)))))
        refine g_yes rfl (o_bin rfl rfl rfl (r_eql_i) (o_pick_t rfl rfl rfl (o_assign rfl rfl (o_nil (n_then (c_ret (r_body1 rfl rfl ?_)))))))
        exact ⟨_, rfl, x2, by
          unfold mulOk
          first
          | exact congrArg B (decide_eq_decide.2 (by rw [decide_eq_true_iff]; omega))
          | exact congrArg B (decide_eq_false (by rw [decide_eq_true_iff]; omega)).symm⟩
      · refine g_no rfl rfl rfl (g_no rfl rfl rfl (g_no rfl rfl rfl (g_no rfl rfl rfl (g_no rfl rfl rfl (g_no rfl rfl rfl (o_pick_f rfl rfl rfl (o_assign rfl rfl (o_nil (n_then (c_ret (r_body1 rfl rfl ?_)))))))))))
        exact ⟨_, rfl, x2, by
          unfold mulOk
          first
          | exact congrArg B (decide_eq_decide.2 (by rw [decide_eq_true_iff]; omega))
          | exact congrArg B (decide_eq_false (by rw [decide_eq_true_iff]; omega)).symm⟩
    · refine g_no rfl rfl rfl (g_no rfl rfl rfl (g_no rfl rfl rfl (g_no rfl rfl rfl (o_pick_f rfl rfl rfl (o_move rfl rfl (g_no rfl rfl rfl (g_no rfl rfl rfl (g_no rfl rfl rfl (g_no rfl rfl rfl ?_)))))))))
      refine g_no rfl rfl rfl (g_no rfl rfl rfl (o_pick_f rfl rfl rfl (o_assign rfl rfl (o_nil (n_then (c_ret (r_body1 rfl rfl ?_)))))))
      exact ⟨_, rfl, x2, by
        unfold mulOk
        first
        | exact congrArg B (decide_eq_decide.2 (by rw [decide_eq_true_iff]; omega))
        | exact congrArg B (decide_eq_false (by rw [decide_eq_true_iff]; omega)).symm⟩
  · refine g_no rfl rfl rfl (g_no rfl rfl rfl (g_no rfl rfl rfl (g_no rfl rfl rfl (o_pick_f rfl rfl rfl (o_move rfl rfl (g_no rfl rfl rfl (g_no rfl rfl rfl (g_no rfl rfl rfl (g_no rfl rfl rfl ?_)))))))))
    refine o_pick_f rfl rfl rfl (o_move rfl rfl (g_no rfl rfl rfl (g_no rfl rfl rfl (g_no rfl rfl rfl (g_no rfl rfl rfl (g_no rfl rfl rfl (g_no rfl rfl rfl (o_pick_f rfl rfl rfl (o_assign rfl rfl ?_)))))))))
    refine o_nil (n_then (c_ret (r_body1 rfl rfl ?_)))
    exact ⟨_, rfl, x2, by
      unfold mulOk
      first
      | exact congrArg B (decide_eq_decide.2 (by rw [decide_eq_true_iff]; omega))
      | exact congrArg B (decide_eq_false (by rw [decide_eq_true_iff]; omega)).symm⟩
theorem MOut_spec {w : World} {a : LayD} {x y : Value} :
    Calls Try.prog 38 #[.agg #[I a.kd, I a.fr, I a.ou, I a.kh, I a.kw, I a.sr, I a.pd, x, y]] w (Ret fun r w' => Ext w w' ∧ r = B (decide (1 ≤ a.ou ∧ a.ou ≤ 16384))) := by
  refine enter (vs := [.agg #[I a.kd, I a.fr, I a.ou, I a.kh, I a.kw, I a.sr, I a.pd, x, y]]) Try.func38 rfl rfl rfl ?_
  refine c_seq (c_region ?_)
  obtain ⟨g1, w1, hr1, l1, x1, k1⟩ := r_boxS (P := Try.prog) (w := w) (T := 37) (cs := [I a.kd, I a.fr, I a.ou, I a.kh, I a.kw, I a.sr, I a.pd, x, y])
  refine o_box rfl rfl hr1 (o_assign rfl rfl (o_nil (n_then (c_seq (c_region (o_fieldAddr rfl rfl (r_fAt (o := 2) Try.underlying37 rfl (by kernel_rfl) rfl) ?_))))))
  refine o_load rfl rfl (r_load1 Try.underlying3 rfl (k1.cell (i := 2) rfl)) (o_bin rfl rfl rfl (r_geq_i) (o_move rfl rfl ?_))
  refine o_dec (fun h6 => ?_) (fun h6 => ?_)
  · refine g_yes rfl (o_fieldAddr rfl rfl (r_fAt (o := 2) Try.underlying37 rfl (by kernel_rfl) rfl) (g_yes rfl (o_load rfl rfl (r_load1 Try.underlying3 rfl (k1.cell (i := 2) rfl)) ?_)))
    refine g_yes rfl (o_bin rfl rfl rfl (r_leq_i) (o_pick_t rfl rfl rfl (o_assign rfl rfl (o_nil (n_then (c_ret (r_body1 rfl rfl ?_)))))))
    exact ⟨_, rfl, x1, by
      first
      | exact congrArg B (decide_eq_decide.2 ⟨fun h => ⟨by omega, h⟩, fun h => h.2⟩)
      | exact congrArg B (decide_eq_false (by omega)).symm⟩
  · refine g_no rfl rfl rfl (g_no rfl rfl rfl (g_no rfl rfl rfl (o_pick_f rfl rfl rfl (o_assign rfl rfl (o_nil (n_then (c_ret (r_body1 rfl rfl ?_))))))))
    exact ⟨_, rfl, x1, by
      first
      | exact congrArg B (decide_eq_decide.2 ⟨fun h => ⟨by omega, h⟩, fun h => h.2⟩)
      | exact congrArg B (decide_eq_false (by omega)).symm⟩
theorem MOnly_spec {w : World} {a u : LayD} {x y p q : Value} (ha : DsV dRat a.ws x w) (hb : DsV dRat a.bs y w) (hu : DsV dRat u.ws p w) (hv : DsV dRat u.bs q w) :
    Calls Try.prog 39 #[.agg #[I a.kd, I a.fr, I a.ou, I a.kh, I a.kw, I a.sr, I a.pd, x, y], .agg #[I u.kd, I u.fr, I u.ou, I u.kh, I u.kw, I u.sr, I u.pd, p, q]] w (Ret fun r w' => Ext w w' ∧ r = B (decide (a = { u with kd := a.kd }))) := by
  refine enter (vs := [.agg #[I a.kd, I a.fr, I a.ou, I a.kh, I a.kw, I a.sr, I a.pd, x, y], .agg #[I u.kd, I u.fr, I u.ou, I u.kh, I u.kw, I u.sr, I u.pd, p, q]]) Try.func39 rfl rfl rfl ?_
  refine c_seq (c_region ?_)
  obtain ⟨g2, w2, hr2, l2, x2, k2⟩ := r_boxS (P := Try.prog) (w := w) (T := 37) (cs := [I a.kd, I a.fr, I a.ou, I a.kh, I a.kw, I a.sr, I a.pd, x, y])
  refine o_box rfl rfl hr2 ?_
  obtain ⟨g3, w3, hr3, l3, x3, k3⟩ := r_boxS (P := Try.prog) (w := w2) (T := 37) (cs := [I u.kd, I u.fr, I u.ou, I u.kh, I u.kw, I u.sr, I u.pd, p, q])
  refine o_box rfl rfl hr3 (o_assign rfl rfl (o_nil (n_then (c_seq (c_region (o_fieldAddr rfl rfl (r_fAt (o := 0) Try.underlying37 rfl (by kernel_rfl) rfl) ?_))))))
  refine o_load rfl rfl (r_load1 Try.underlying3 rfl (x3.cell_some (k2.cell (i := 0) rfl))) (o_fieldAddr rfl rfl (r_fAt (o := 0) Try.underlying37 rfl (by kernel_rfl) rfl) ?_)
  obtain ⟨w1_3, s1_3, q1_3, k1_3⟩ := k3.stC (P := Try.prog) (t := 3) (i := 0) (v := I a.kd) (by kernel_rfl) rfl (by simp)
  refine o_store rfl rfl s1_3 ?_
  have x1_3 := Ext.of_new (x3) q1_3 l3
  refine o_nil (n_then (c_seq (c_region (o_load rfl rfl ((k2.ext x1_3).ld Try.underlying37 rfl (by kernel_rfl)) (o_load rfl rfl (k1_3.ld Try.underlying37 rfl (by kernel_rfl)) ?_)))))
  refine o_call call_MSame rfl rfl ((MSame_spec (b := { u with kd := a.kd }) (ha.ext (x2.trans x1_3)) (hb.ext (x2.trans x1_3)) (hu.ext (x2.trans x1_3)) (hv.ext (x2.trans x1_3)))) ?_
  rintro v10 w10 ⟨x10, rfl⟩
  refine o_assign rfl rfl (o_nil (n_then (c_ret (r_body1 rfl rfl ?_))))
  exact ⟨_, rfl, ((x2.trans x1_3).trans x10), rfl⟩
abbrev fvOut : Value := .func (.func 38) #[] #[]
abbrev fvOnly : Value := .func (.func 39) #[] #[]
theorem MPool_spec {w : World} {a : LayD} {x y : Value} {i : Int} {g : Nat} {T : TypeId} (ha : DsV dRat a.ws x w) (hb : DsV dRat a.bs y w) (hg : Blk g T [fvOnly] w) :
    Calls Try.prog 40 #[.agg #[I a.kd, I a.fr, I a.ou, I a.kh, I a.kw, I a.sr, I a.pd, x, y], I i, .pointer (some ⟨g, 0, none⟩)] w (Ret fun r w' => Ext w w' ∧ r = B (decide (kernB a = true ∧ a = ⟨a.kd, 0, 0, a.kh, a.kw, a.sr, 0, [], []⟩))) := by
  refine enter (vs := [.agg #[I a.kd, I a.fr, I a.ou, I a.kh, I a.kw, I a.sr, I a.pd, x, y], I i, .pointer (some ⟨g, 0, none⟩)]) Try.func40 rfl rfl rfl ?_
  refine c_seq (c_region ?_)
  obtain ⟨g3, w3, hr3, l3, x3, k3⟩ := r_boxS (P := Try.prog) (w := w) (T := 37) (cs := [I a.kd, I a.fr, I a.ou, I a.kh, I a.kw, I a.sr, I a.pd, x, y])
  refine o_box rfl rfl hr3 (o_assign rfl rfl (o_nil (n_then (c_seq ?_))))
  rcases hk : kernB a
  · refine c_region (o_load rfl rfl (k3.ld Try.underlying37 rfl (by kernel_rfl)) (o_call call_AKernel rfl rfl ((by have := AKernel_spec (w := w3) (a := a) (x := x) (y := y); rw [hk] at this; exact this)) ?_))
    rintro v7 w7 ⟨x7, rfl⟩
    refine o_move rfl rfl (g_no rfl rfl rfl (g_no rfl rfl rfl (g_no rfl rfl rfl (g_no rfl rfl rfl (g_no rfl rfl rfl (g_no rfl rfl rfl (g_no rfl rfl rfl (g_no rfl rfl rfl (g_no rfl rfl rfl ?_)))))))))
    refine g_no rfl rfl rfl (o_pick_f rfl rfl rfl (o_assign rfl rfl (o_nil (n_then (c_ret (r_body1 rfl rfl ?_))))))
    exact ⟨_, rfl, (x3.trans x7), by
      first
      | exact congrArg B (decide_eq_decide.2 ⟨fun h => ⟨rfl, h⟩, fun h => h.2⟩)
      | exact congrArg B (decide_eq_false (fun h => absurd h.1 (by decide))).symm⟩
  · refine c_region (o_load rfl rfl (k3.ld Try.underlying37 rfl (by kernel_rfl)) (o_call call_AKernel rfl rfl ((by have := AKernel_spec (w := w3) (a := a) (x := x) (y := y); rw [hk] at this; exact this)) ?_))
    rintro v7 w7 ⟨x7, rfl⟩
    refine o_move rfl rfl (g_yes rfl (o_load rfl rfl (r_load1 Try.underlying44 rfl ((x3.trans x7).cell_some hg.k0)) (g_yes rfl (o_load rfl rfl ((k3.ext x7).ld Try.underlying37 rfl (by kernel_rfl)) ?_))))
    refine g_yes rfl (o_fieldAddr rfl rfl (r_fAt (o := 3) Try.underlying37 rfl (by kernel_rfl) rfl) (g_yes rfl (o_load rfl rfl (r_load1 Try.underlying3 rfl (x7.cell_some (k3.cell (i := 3) rfl))) ?_)))
    refine g_yes rfl (o_fieldAddr rfl rfl (r_fAt (o := 4) Try.underlying37 rfl (by kernel_rfl) rfl) (g_yes rfl (o_load rfl rfl (r_load1 Try.underlying3 rfl (x7.cell_some (k3.cell (i := 4) rfl))) ?_)))
    refine g_yes rfl (o_fieldAddr rfl rfl (r_fAt (o := 5) Try.underlying37 rfl (by kernel_rfl) rfl) (g_yes rfl (o_load rfl rfl (r_load1 Try.underlying3 rfl (x7.cell_some (k3.cell (i := 5) rfl))) ?_)))
    refine g_yes rfl (o_build (vs := [(3, I a.kh), (4, I a.kw), (5, I a.sr)]) (r := .agg #[I 0, I 0, I 0, I a.kh, I a.kw, I a.sr, I 0, .slice none 0 0, .slice none 0 0]) rfl rfl (by exact run_build _ _ _ _ (by kernel_rfl)) ?_)
    refine g_yes rfl (o_callfn rfl call_MOnly rfl rfl ((MOnly_spec (u := ⟨0, 0, 0, a.kh, a.kw, a.sr, 0, [], []⟩) (ha.ext (x3.trans x7)) (hb.ext (x3.trans x7)) (DsV.nil _ _) (DsV.nil _ _))) ?_)
    rintro v18 w18 ⟨x18, rfl⟩
    refine o_pick_t rfl rfl rfl (o_assign rfl rfl (o_nil (n_then (c_ret (r_body1 rfl rfl ?_)))))
    exact ⟨_, rfl, ((x3.trans x7).trans x18), by
      first
      | exact congrArg B (decide_eq_decide.2 ⟨fun h => ⟨rfl, h⟩, fun h => h.2⟩)
      | exact congrArg B (decide_eq_false (fun h => absurd h.1 (by decide))).symm⟩
theorem MBare_spec {w : World} {a : LayD} {x y : Value} {i : Int} {g : Nat} {T : TypeId} (ha : DsV dRat a.ws x w) (hb : DsV dRat a.bs y w) (hg : Blk g T [fvOnly] w) :
    Calls Try.prog 42 #[.agg #[I a.kd, I a.fr, I a.ou, I a.kh, I a.kw, I a.sr, I a.pd, x, y], I i, .pointer (some ⟨g, 0, none⟩)] w (Ret fun r w' => Ext w w' ∧ r = B (decide (a = ⟨a.kd, 0, 0, 0, 0, 0, 0, [], []⟩))) := by
  refine enter (vs := [.agg #[I a.kd, I a.fr, I a.ou, I a.kh, I a.kw, I a.sr, I a.pd, x, y], I i, .pointer (some ⟨g, 0, none⟩)]) Try.func42 rfl rfl rfl ?_
  refine c_seq (c_region ?_)
  obtain ⟨g3, w3, hr3, l3, x3, k3⟩ := r_boxS (P := Try.prog) (w := w) (T := 37) (cs := [I a.kd, I a.fr, I a.ou, I a.kh, I a.kw, I a.sr, I a.pd, x, y])
  refine o_box rfl rfl hr3 (o_assign rfl rfl (o_nil (n_then (c_seq (c_region (o_load rfl rfl (r_load1 Try.underlying44 rfl (x3.cell_some hg.k0)) ?_))))))
  refine o_load rfl rfl (k3.ld Try.underlying37 rfl (by kernel_rfl)) (o_build (vs := []) (r := .agg #[I 0, I 0, I 0, I 0, I 0, I 0, I 0, .slice none 0 0, .slice none 0 0]) rfl rfl (by exact run_build _ _ _ _ (by kernel_rfl)) ?_)
  refine o_callfn rfl call_MOnly rfl rfl ((MOnly_spec (u := ⟨0, 0, 0, 0, 0, 0, 0, [], []⟩) (ha.ext x3) (hb.ext x3) (DsV.nil _ _) (DsV.nil _ _))) ?_
  rintro v9 w9 ⟨x9, rfl⟩
  refine o_assign rfl rfl (o_nil (n_then (c_ret (r_body1 rfl rfl ?_))))
  exact ⟨_, rfl, (x3.trans x9), rfl⟩
theorem MDense_spec {w : World} {a : LayD} {x y : Value} {i : Int} {g1 g : Nat} {T1 T : TypeId} (ha : DsV dRat a.ws x w) (hb : DsV dRat a.bs y w) (hg1 : Blk g1 T1 [fvOut] w) (hg : Blk g T [fvOnly] w) :
    Calls Try.prog 43 #[.agg #[I a.kd, I a.fr, I a.ou, I a.kh, I a.kw, I a.sr, I a.pd, x, y], I i, .pointer (some ⟨g1, 0, none⟩), .pointer (some ⟨g, 0, none⟩)] w (Ret fun r w' => Ext w w' ∧ r = B (decide ((1 ≤ a.ou ∧ a.ou ≤ 16384) ∧ ((a.bs.length : Int) = a.ou ∧ mulOk a.ws.length a.ou = true) ∧ a = ⟨a.kd, 0, a.ou, 0, 0, 0, 0, a.ws, a.bs⟩))) := by
  refine enter (vs := [.agg #[I a.kd, I a.fr, I a.ou, I a.kh, I a.kw, I a.sr, I a.pd, x, y], I i, .pointer (some ⟨g1, 0, none⟩), .pointer (some ⟨g, 0, none⟩)]) Try.func43 rfl rfl rfl ?_
  refine c_seq (c_region ?_)
  obtain ⟨g4, w4, hr4, l4, x4, k4⟩ := r_boxS (P := Try.prog) (w := w) (T := 37) (cs := [I a.kd, I a.fr, I a.ou, I a.kh, I a.kw, I a.sr, I a.pd, x, y])
  refine o_box rfl rfl hr4 (o_assign rfl rfl (o_nil (n_then (c_seq (c_region (o_load rfl rfl (r_load1 Try.underlying82 rfl (x4.cell_some hg1.k0)) (o_load rfl rfl (k4.ld Try.underlying37 rfl (by kernel_rfl)) ?_)))))))
  refine o_callfn rfl call_MOut rfl rfl ((MOut_spec)) ?_
  rintro v9 w9 ⟨x9, rfl⟩
  refine o_move rfl rfl ?_
  refine o_dec (fun h10 => ?_) (fun h10 => ?_)
  · refine g_yes rfl (o_load rfl rfl ((k4.ext x9).ld Try.underlying37 rfl (by kernel_rfl)) (g_yes rfl (o_fieldAddr rfl rfl (r_fAt (o := 2) Try.underlying37 rfl (by kernel_rfl) rfl) ?_)))
    refine g_yes rfl (o_load rfl rfl (r_load1 Try.underlying3 rfl (x9.cell_some (k4.cell (i := 2) rfl))) (g_yes rfl (o_call call_AWeights rfl rfl ((AWeights_spec (ha.ext (x4.trans x9)) (hb.ext (x4.trans x9)) h10.1)) ?_)))
    rintro v14 w14 ⟨x14, rfl⟩
    refine o_pick_t rfl rfl rfl (o_move rfl rfl ?_)
    refine o_dec (fun h16 => ?_) (fun h16 => ?_)
    · refine g_yes rfl (o_load rfl rfl (r_load1 Try.underlying44 rfl (((x4.trans x9).trans x14).cell_some hg.k0)) (g_yes rfl (o_load rfl rfl ((k4.ext (x9.trans x14)).ld Try.underlying37 rfl (by kernel_rfl)) ?_)))
      refine g_yes rfl (o_fieldAddr rfl rfl (r_fAt (o := 2) Try.underlying37 rfl (by kernel_rfl) rfl) (g_yes rfl (o_load rfl rfl (r_load1 Try.underlying3 rfl ((x9.trans x14).cell_some (k4.cell (i := 2) rfl))) ?_)))
      refine g_yes rfl (o_fieldAddr rfl rfl (r_fAt (o := 7) Try.underlying37 rfl (by kernel_rfl) rfl) (g_yes rfl (o_load rfl rfl (r_load1 Try.underlying35 rfl ((x9.trans x14).cell_some (k4.cell (i := 7) rfl))) ?_)))
      refine g_yes rfl (o_fieldAddr rfl rfl (r_fAt (o := 8) Try.underlying37 rfl (by kernel_rfl) rfl) (g_yes rfl (o_load rfl rfl (r_load1 Try.underlying35 rfl ((x9.trans x14).cell_some (k4.cell (i := 8) rfl))) ?_)))
      refine g_yes rfl (o_build (vs := [(2, I a.ou), (7, x), (8, y)]) (r := .agg #[I 0, I 0, I a.ou, I 0, I 0, I 0, I 0, x, y]) rfl rfl (by obtain ⟨_, _, _, rfl⟩ := ha.isS; obtain ⟨_, _, _, rfl⟩ := hb.isS; exact run_build _ _ _ _ (by kernel_rfl)) ?_)
      refine g_yes rfl (o_callfn rfl call_MOnly rfl rfl ((MOnly_spec (u := ⟨0, 0, a.ou, 0, 0, 0, 0, a.ws, a.bs⟩) (ha.ext ((x4.trans x9).trans x14)) (hb.ext ((x4.trans x9).trans x14)) (ha.ext ((x4.trans x9).trans x14)) (hb.ext ((x4.trans x9).trans x14)))) ?_)
      rintro v26 w26 ⟨x26, rfl⟩
      refine o_pick_t rfl rfl rfl (o_assign rfl rfl (o_nil (n_then (c_ret (r_body1 rfl rfl ?_)))))
      exact ⟨_, rfl, (((x4.trans x9).trans x14).trans x26), by
        first
        | exact congrArg B (decide_eq_decide.2 ⟨fun h => ⟨h10, h16, h⟩, fun h => h.2.2⟩)
        | exact congrArg B (decide_eq_false (fun h => h16 h.2.1)).symm
        | exact congrArg B (decide_eq_false (fun h => h10 h.1)).symm⟩
    · refine g_no rfl rfl rfl (g_no rfl rfl rfl (g_no rfl rfl rfl (g_no rfl rfl rfl (g_no rfl rfl rfl (g_no rfl rfl rfl (g_no rfl rfl rfl (g_no rfl rfl rfl (g_no rfl rfl rfl (g_no rfl rfl rfl ?_)))))))))
      refine o_pick_f rfl rfl rfl (o_assign rfl rfl (o_nil (n_then (c_ret (r_body1 rfl rfl ?_)))))
      exact ⟨_, rfl, ((x4.trans x9).trans x14), by
        first
        | exact congrArg B (decide_eq_decide.2 ⟨fun h => ⟨h10, h16, h⟩, fun h => h.2.2⟩)
        | exact congrArg B (decide_eq_false (fun h => h16 h.2.1)).symm
        | exact congrArg B (decide_eq_false (fun h => h10 h.1)).symm⟩
  · refine g_no rfl rfl rfl (g_no rfl rfl rfl (g_no rfl rfl rfl (g_no rfl rfl rfl (o_pick_f rfl rfl rfl (o_move rfl rfl (g_no rfl rfl rfl (g_no rfl rfl rfl (g_no rfl rfl rfl (g_no rfl rfl rfl ?_)))))))))
    refine g_no rfl rfl rfl (g_no rfl rfl rfl (g_no rfl rfl rfl (g_no rfl rfl rfl (g_no rfl rfl rfl (g_no rfl rfl rfl (o_pick_f rfl rfl rfl (o_assign rfl rfl (o_nil (n_then (c_ret (r_body1 rfl rfl ?_)))))))))))
    exact ⟨_, rfl, (x4.trans x9), by
      first
      | exact congrArg B (decide_eq_decide.2 ⟨fun h => ⟨h10, h16, h⟩, fun h => h.2.2⟩)
      | exact congrArg B (decide_eq_false (fun h => h16 h.2.1)).symm
      | exact congrArg B (decide_eq_false (fun h => h10 h.1)).symm⟩
theorem MConv_spec {w : World} {a : LayD} {x y : Value} {i : Int} {g1 g : Nat} {T1 T : TypeId} (ha : DsV dRat a.ws x w) (hb : DsV dRat a.bs y w) (hg1 : Blk g1 T1 [fvOut] w) (hg : Blk g T [fvOnly] w) :
    Calls Try.prog 45 #[.agg #[I a.kd, I a.fr, I a.ou, I a.kh, I a.kw, I a.sr, I a.pd, x, y], I i, .pointer (some ⟨g1, 0, none⟩), .pointer (some ⟨g, 0, none⟩)] w (Ret fun r w' => Ext w w' ∧ r = B (decide ((1 ≤ a.ou ∧ a.ou ≤ 16384) ∧ kernB a = true ∧ a.pd ≥ 0 ∧ a.pd < a.kh ∧ a.pd < a.kw ∧ ((a.bs.length : Int) = a.ou ∧ mulOk a.ws.length (a.ou * a.kh * a.kw) = true) ∧ a = ⟨a.kd, 0, a.ou, a.kh, a.kw, a.sr, a.pd, a.ws, a.bs⟩))) := by
  refine enter (vs := [.agg #[I a.kd, I a.fr, I a.ou, I a.kh, I a.kw, I a.sr, I a.pd, x, y], I i, .pointer (some ⟨g1, 0, none⟩), .pointer (some ⟨g, 0, none⟩)]) Try.func45 rfl rfl rfl ?_
  refine c_seq (c_region ?_)
  obtain ⟨g4, w4, hr4, l4, x4, k4⟩ := r_boxS (P := Try.prog) (w := w) (T := 37) (cs := [I a.kd, I a.fr, I a.ou, I a.kh, I a.kw, I a.sr, I a.pd, x, y])
  refine o_box rfl rfl hr4 (o_assign rfl rfl (o_nil (n_then (c_seq (c_region (o_load rfl rfl (r_load1 Try.underlying82 rfl (x4.cell_some hg1.k0)) (o_load rfl rfl (k4.ld Try.underlying37 rfl (by kernel_rfl)) ?_)))))))
  refine o_callfn rfl call_MOut rfl rfl ((MOut_spec)) ?_
  rintro v9 w9 ⟨x9, rfl⟩
  refine o_move rfl rfl ?_
  refine o_dec (fun h10 => ?_) (fun h10 => ?_)
  · refine g_yes rfl (o_load rfl rfl ((k4.ext x9).ld Try.underlying37 rfl (by kernel_rfl)) (g_yes rfl (o_call call_AKernel rfl rfl (AKernel_spec) ?_)))
    rintro v12 w12 ⟨x12, rfl⟩
    refine o_pick_t rfl rfl rfl (o_move rfl rfl ?_)
    refine o_dec (fun h14 => ?_) (fun h14 => ?_)
    · refine g_yes rfl (o_fieldAddr rfl rfl (r_fAt (o := 6) Try.underlying37 rfl (by kernel_rfl) rfl) (g_yes rfl (o_load rfl rfl (r_load1 Try.underlying3 rfl ((x9.trans x12).cell_some (k4.cell (i := 6) rfl))) ?_)))
      refine g_yes rfl (o_bin rfl rfl rfl (r_geq_i) (o_pick_t rfl rfl rfl (o_move rfl rfl ?_)))
      refine o_dec (fun h19 => ?_) (fun h19 => ?_)
      · refine g_yes rfl (o_fieldAddr rfl rfl (r_fAt (o := 6) Try.underlying37 rfl (by kernel_rfl) rfl) (g_yes rfl (o_load rfl rfl (r_load1 Try.underlying3 rfl ((x9.trans x12).cell_some (k4.cell (i := 6) rfl))) ?_)))
        refine g_yes rfl (o_fieldAddr rfl rfl (r_fAt (o := 3) Try.underlying37 rfl (by kernel_rfl) rfl) (g_yes rfl (o_load rfl rfl (r_load1 Try.underlying3 rfl ((x9.trans x12).cell_some (k4.cell (i := 3) rfl))) ?_)))
        refine g_yes rfl (o_bin rfl rfl rfl (r_lss_i) (o_pick_t rfl rfl rfl (o_move rfl rfl ?_)))
        refine o_dec (fun h26 => ?_) (fun h26 => ?_)
        · refine g_yes rfl (o_fieldAddr rfl rfl (r_fAt (o := 6) Try.underlying37 rfl (by kernel_rfl) rfl) (g_yes rfl (o_load rfl rfl (r_load1 Try.underlying3 rfl ((x9.trans x12).cell_some (k4.cell (i := 6) rfl))) ?_)))
          refine g_yes rfl (o_fieldAddr rfl rfl (r_fAt (o := 4) Try.underlying37 rfl (by kernel_rfl) rfl) (g_yes rfl (o_load rfl rfl (r_load1 Try.underlying3 rfl ((x9.trans x12).cell_some (k4.cell (i := 4) rfl))) ?_)))
          refine g_yes rfl (o_bin rfl rfl rfl (r_lss_i) (o_pick_t rfl rfl rfl (o_move rfl rfl ?_)))
          refine o_dec (fun h33 => ?_) (fun h33 => ?_)
          · refine g_yes rfl (o_load rfl rfl ((k4.ext (x9.trans x12)).ld Try.underlying37 rfl (by kernel_rfl)) (g_yes rfl (o_fieldAddr rfl rfl (r_fAt (o := 2) Try.underlying37 rfl (by kernel_rfl) rfl) ?_)))
            refine g_yes rfl (o_load rfl rfl (r_load1 Try.underlying3 rfl ((x9.trans x12).cell_some (k4.cell (i := 2) rfl))) (g_yes rfl (o_fieldAddr rfl rfl (r_fAt (o := 3) Try.underlying37 rfl (by kernel_rfl) rfl) ?_)))
            refine g_yes rfl (o_load rfl rfl (r_load1 Try.underlying3 rfl ((x9.trans x12).cell_some (k4.cell (i := 3) rfl))) (g_yes rfl ?_))
            have m1 := mul_rng h10.1 h10.2 h14.1.1 h14.1.2
            refine o_bin rfl rfl rfl (r_mul_i (by omega) (by omega)) (g_yes rfl (o_fieldAddr rfl rfl (r_fAt (o := 4) Try.underlying37 rfl (by kernel_rfl) rfl) ?_))
            refine g_yes rfl (o_load rfl rfl (r_load1 Try.underlying3 rfl ((x9.trans x12).cell_some (k4.cell (i := 4) rfl))) (g_yes rfl ?_))
            have m2 := mul_rng m1.1 m1.2 h14.2.1.1 h14.2.1.2
            refine o_bin rfl rfl rfl (r_mul_i (by omega) (by omega)) (g_yes rfl (o_call call_AWeights rfl rfl ((AWeights_spec (ha.ext ((x4.trans x9).trans x12)) (hb.ext ((x4.trans x9).trans x12)) m2.1)) ?_))
            rintro v43 w43 ⟨x43, rfl⟩
            refine o_pick_t rfl rfl rfl (o_move rfl rfl ?_)
            refine o_dec (fun h45 => ?_) (fun h45 => ?_)
            · refine g_yes rfl (o_load rfl rfl (r_load1 Try.underlying44 rfl ((((x4.trans x9).trans x12).trans x43).cell_some hg.k0)) (g_yes rfl ?_))
              refine o_load rfl rfl ((k4.ext ((x9.trans x12).trans x43)).ld Try.underlying37 rfl (by kernel_rfl)) (g_yes rfl (o_fieldAddr rfl rfl (r_fAt (o := 2) Try.underlying37 rfl (by kernel_rfl) rfl) ?_))
              refine g_yes rfl (o_load rfl rfl (r_load1 Try.underlying3 rfl (((x9.trans x12).trans x43).cell_some (k4.cell (i := 2) rfl))) (g_yes rfl (o_fieldAddr rfl rfl (r_fAt (o := 3) Try.underlying37 rfl (by kernel_rfl) rfl) ?_)))
              refine g_yes rfl (o_load rfl rfl (r_load1 Try.underlying3 rfl (((x9.trans x12).trans x43).cell_some (k4.cell (i := 3) rfl))) (g_yes rfl (o_fieldAddr rfl rfl (r_fAt (o := 4) Try.underlying37 rfl (by kernel_rfl) rfl) ?_)))
              refine g_yes rfl (o_load rfl rfl (r_load1 Try.underlying3 rfl (((x9.trans x12).trans x43).cell_some (k4.cell (i := 4) rfl))) (g_yes rfl (o_fieldAddr rfl rfl (r_fAt (o := 5) Try.underlying37 rfl (by kernel_rfl) rfl) ?_)))
              refine g_yes rfl (o_load rfl rfl (r_load1 Try.underlying3 rfl (((x9.trans x12).trans x43).cell_some (k4.cell (i := 5) rfl))) (g_yes rfl (o_fieldAddr rfl rfl (r_fAt (o := 6) Try.underlying37 rfl (by kernel_rfl) rfl) ?_)))
              refine g_yes rfl (o_load rfl rfl (r_load1 Try.underlying3 rfl (((x9.trans x12).trans x43).cell_some (k4.cell (i := 6) rfl))) (g_yes rfl (o_fieldAddr rfl rfl (r_fAt (o := 7) Try.underlying37 rfl (by kernel_rfl) rfl) ?_)))
              refine g_yes rfl (o_load rfl rfl (r_load1 Try.underlying35 rfl (((x9.trans x12).trans x43).cell_some (k4.cell (i := 7) rfl))) (g_yes rfl (o_fieldAddr rfl rfl (r_fAt (o := 8) Try.underlying37 rfl (by kernel_rfl) rfl) ?_)))
              refine g_yes rfl (o_load rfl rfl (r_load1 Try.underlying35 rfl (((x9.trans x12).trans x43).cell_some (k4.cell (i := 8) rfl))) (g_yes rfl (o_build (vs := [(2, I a.ou), (3, I a.kh), (4, I a.kw), (5, I a.sr), (6, I a.pd), (7, x), (8, y)]) (r := .agg #[I 0, I 0, I a.ou, I a.kh, I a.kw, I a.sr, I a.pd, x, y]) rfl rfl (by obtain ⟨_, _, _, rfl⟩ := ha.isS; obtain ⟨_, _, _, rfl⟩ := hb.isS; exact run_build _ _ _ _ (by kernel_rfl)) ?_)))
              refine g_yes rfl (o_callfn rfl call_MOnly rfl rfl ((MOnly_spec (u := ⟨0, 0, a.ou, a.kh, a.kw, a.sr, a.pd, a.ws, a.bs⟩) (ha.ext (((x4.trans x9).trans x12).trans x43)) (hb.ext (((x4.trans x9).trans x12).trans x43)) (ha.ext (((x4.trans x9).trans x12).trans x43)) (hb.ext (((x4.trans x9).trans x12).trans x43)))) ?_)
              rintro v63 w63 ⟨x63, rfl⟩
              refine o_pick_t rfl rfl rfl (o_assign rfl rfl (o_nil (n_then (c_ret (r_body1 rfl rfl ?_)))))
              exact ⟨_, rfl, ((((x4.trans x9).trans x12).trans x43).trans x63), by
                first
                | exact congrArg B (decide_eq_decide.2 ⟨fun h => ⟨h10, decide_eq_true h14, h19, h26, h33, h45, h⟩, fun h => h.2.2.2.2.2.2⟩)
                | exact congrArg B (decide_eq_false (fun h => h45 h.2.2.2.2.2.1)).symm
                | exact congrArg B (decide_eq_false (fun h => h33 h.2.2.2.2.1)).symm
                | exact congrArg B (decide_eq_false (fun h => h26 h.2.2.2.1)).symm
                | exact congrArg B (decide_eq_false (fun h => h19 h.2.2.1)).symm
                | exact congrArg B (decide_eq_false (fun h => h14 (of_decide_eq_true h.2.1))).symm
                | exact congrArg B (decide_eq_false (fun h => h10 h.1)).symm⟩
            · refine g_no rfl rfl rfl (g_no rfl rfl rfl (g_no rfl rfl rfl (g_no rfl rfl rfl (g_no rfl rfl rfl (g_no rfl rfl rfl (g_no rfl rfl rfl (g_no rfl rfl rfl (g_no rfl rfl rfl (g_no rfl rfl rfl ?_)))))))))
              refine g_no rfl rfl rfl (g_no rfl rfl rfl (g_no rfl rfl rfl (g_no rfl rfl rfl (g_no rfl rfl rfl (g_no rfl rfl rfl (g_no rfl rfl rfl (g_no rfl rfl rfl (o_pick_f rfl rfl rfl (o_assign rfl rfl ?_)))))))))
              refine o_nil (n_then (c_ret (r_body1 rfl rfl ?_)))
              exact ⟨_, rfl, (((x4.trans x9).trans x12).trans x43), by
                first
                | exact congrArg B (decide_eq_decide.2 ⟨fun h => ⟨h10, decide_eq_true h14, h19, h26, h33, h45, h⟩, fun h => h.2.2.2.2.2.2⟩)
                | exact congrArg B (decide_eq_false (fun h => h45 h.2.2.2.2.2.1)).symm
                | exact congrArg B (decide_eq_false (fun h => h33 h.2.2.2.2.1)).symm
                | exact congrArg B (decide_eq_false (fun h => h26 h.2.2.2.1)).symm
                | exact congrArg B (decide_eq_false (fun h => h19 h.2.2.1)).symm
                | exact congrArg B (decide_eq_false (fun h => h14 (of_decide_eq_true h.2.1))).symm
                | exact congrArg B (decide_eq_false (fun h => h10 h.1)).symm⟩
          · refine g_no rfl rfl rfl (g_no rfl rfl rfl (g_no rfl rfl rfl (g_no rfl rfl rfl (g_no rfl rfl rfl (g_no rfl rfl rfl (g_no rfl rfl rfl (g_no rfl rfl rfl (g_no rfl rfl rfl (g_no rfl rfl rfl ?_)))))))))
            refine o_pick_f rfl rfl rfl (o_move rfl rfl (g_no rfl rfl rfl (g_no rfl rfl rfl (g_no rfl rfl rfl (g_no rfl rfl rfl (g_no rfl rfl rfl (g_no rfl rfl rfl (g_no rfl rfl rfl (g_no rfl rfl rfl ?_)))))))))
            refine g_no rfl rfl rfl (g_no rfl rfl rfl (g_no rfl rfl rfl (g_no rfl rfl rfl (g_no rfl rfl rfl (g_no rfl rfl rfl (g_no rfl rfl rfl (g_no rfl rfl rfl (g_no rfl rfl rfl (g_no rfl rfl rfl ?_)))))))))
            refine o_pick_f rfl rfl rfl (o_assign rfl rfl (o_nil (n_then (c_ret (r_body1 rfl rfl ?_)))))
            exact ⟨_, rfl, ((x4.trans x9).trans x12), by
              first
              | exact congrArg B (decide_eq_decide.2 ⟨fun h => ⟨h10, decide_eq_true h14, h19, h26, h33, h45, h⟩, fun h => h.2.2.2.2.2.2⟩)
              | exact congrArg B (decide_eq_false (fun h => h45 h.2.2.2.2.2.1)).symm
              | exact congrArg B (decide_eq_false (fun h => h33 h.2.2.2.2.1)).symm
              | exact congrArg B (decide_eq_false (fun h => h26 h.2.2.2.1)).symm
              | exact congrArg B (decide_eq_false (fun h => h19 h.2.2.1)).symm
              | exact congrArg B (decide_eq_false (fun h => h14 (of_decide_eq_true h.2.1))).symm
              | exact congrArg B (decide_eq_false (fun h => h10 h.1)).symm⟩
        · refine g_no rfl rfl rfl (g_no rfl rfl rfl (g_no rfl rfl rfl (g_no rfl rfl rfl (g_no rfl rfl rfl (o_pick_f rfl rfl rfl (o_move rfl rfl (g_no rfl rfl rfl (g_no rfl rfl rfl (g_no rfl rfl rfl ?_)))))))))
          refine g_no rfl rfl rfl (g_no rfl rfl rfl (g_no rfl rfl rfl (g_no rfl rfl rfl (g_no rfl rfl rfl (g_no rfl rfl rfl (g_no rfl rfl rfl (o_pick_f rfl rfl rfl (o_move rfl rfl (g_no rfl rfl rfl ?_)))))))))
          refine g_no rfl rfl rfl (g_no rfl rfl rfl (g_no rfl rfl rfl (g_no rfl rfl rfl (g_no rfl rfl rfl (g_no rfl rfl rfl (g_no rfl rfl rfl (g_no rfl rfl rfl (g_no rfl rfl rfl (g_no rfl rfl rfl ?_)))))))))
          refine g_no rfl rfl rfl (g_no rfl rfl rfl (g_no rfl rfl rfl (g_no rfl rfl rfl (g_no rfl rfl rfl (g_no rfl rfl rfl (g_no rfl rfl rfl (o_pick_f rfl rfl rfl (o_assign rfl rfl (o_nil ?_)))))))))
          refine n_then (c_ret (r_body1 rfl rfl ?_))
          exact ⟨_, rfl, ((x4.trans x9).trans x12), by
            first
            | exact congrArg B (decide_eq_decide.2 ⟨fun h => ⟨h10, decide_eq_true h14, h19, h26, h33, h45, h⟩, fun h => h.2.2.2.2.2.2⟩)
            | exact congrArg B (decide_eq_false (fun h => h45 h.2.2.2.2.2.1)).symm
            | exact congrArg B (decide_eq_false (fun h => h33 h.2.2.2.2.1)).symm
            | exact congrArg B (decide_eq_false (fun h => h26 h.2.2.2.1)).symm
            | exact congrArg B (decide_eq_false (fun h => h19 h.2.2.1)).symm
            | exact congrArg B (decide_eq_false (fun h => h14 (of_decide_eq_true h.2.1))).symm
            | exact congrArg B (decide_eq_false (fun h => h10 h.1)).symm⟩
      · refine g_no rfl rfl rfl (g_no rfl rfl rfl (g_no rfl rfl rfl (g_no rfl rfl rfl (g_no rfl rfl rfl (o_pick_f rfl rfl rfl (o_move rfl rfl (g_no rfl rfl rfl (g_no rfl rfl rfl (g_no rfl rfl rfl ?_)))))))))
        refine g_no rfl rfl rfl (g_no rfl rfl rfl (o_pick_f rfl rfl rfl (o_move rfl rfl (g_no rfl rfl rfl (g_no rfl rfl rfl (g_no rfl rfl rfl (g_no rfl rfl rfl (g_no rfl rfl rfl (g_no rfl rfl rfl ?_)))))))))
        refine g_no rfl rfl rfl (g_no rfl rfl rfl (g_no rfl rfl rfl (g_no rfl rfl rfl (o_pick_f rfl rfl rfl (o_move rfl rfl (g_no rfl rfl rfl (g_no rfl rfl rfl (g_no rfl rfl rfl (g_no rfl rfl rfl ?_)))))))))
        refine g_no rfl rfl rfl (g_no rfl rfl rfl (g_no rfl rfl rfl (g_no rfl rfl rfl (g_no rfl rfl rfl (g_no rfl rfl rfl (g_no rfl rfl rfl (g_no rfl rfl rfl (g_no rfl rfl rfl (g_no rfl rfl rfl ?_)))))))))
        refine g_no rfl rfl rfl (g_no rfl rfl rfl (g_no rfl rfl rfl (g_no rfl rfl rfl (o_pick_f rfl rfl rfl (o_assign rfl rfl (o_nil (n_then (c_ret (r_body1 rfl rfl ?_)))))))))
        exact ⟨_, rfl, ((x4.trans x9).trans x12), by
          first
          | exact congrArg B (decide_eq_decide.2 ⟨fun h => ⟨h10, decide_eq_true h14, h19, h26, h33, h45, h⟩, fun h => h.2.2.2.2.2.2⟩)
          | exact congrArg B (decide_eq_false (fun h => h45 h.2.2.2.2.2.1)).symm
          | exact congrArg B (decide_eq_false (fun h => h33 h.2.2.2.2.1)).symm
          | exact congrArg B (decide_eq_false (fun h => h26 h.2.2.2.1)).symm
          | exact congrArg B (decide_eq_false (fun h => h19 h.2.2.1)).symm
          | exact congrArg B (decide_eq_false (fun h => h14 (of_decide_eq_true h.2.1))).symm
          | exact congrArg B (decide_eq_false (fun h => h10 h.1)).symm⟩
    · refine g_no rfl rfl rfl (g_no rfl rfl rfl (g_no rfl rfl rfl (o_pick_f rfl rfl rfl (o_move rfl rfl (g_no rfl rfl rfl (g_no rfl rfl rfl (g_no rfl rfl rfl (g_no rfl rfl rfl (g_no rfl rfl rfl ?_)))))))))
      refine o_pick_f rfl rfl rfl (o_move rfl rfl (g_no rfl rfl rfl (g_no rfl rfl rfl (g_no rfl rfl rfl (g_no rfl rfl rfl (g_no rfl rfl rfl (o_pick_f rfl rfl rfl (o_move rfl rfl (g_no rfl rfl rfl ?_)))))))))
      refine g_no rfl rfl rfl (g_no rfl rfl rfl (g_no rfl rfl rfl (g_no rfl rfl rfl (g_no rfl rfl rfl (g_no rfl rfl rfl (g_no rfl rfl rfl (g_no rfl rfl rfl (g_no rfl rfl rfl (o_pick_f rfl rfl rfl ?_)))))))))
      refine o_move rfl rfl (g_no rfl rfl rfl (g_no rfl rfl rfl (g_no rfl rfl rfl (g_no rfl rfl rfl (g_no rfl rfl rfl (g_no rfl rfl rfl (g_no rfl rfl rfl (g_no rfl rfl rfl (g_no rfl rfl rfl ?_)))))))))
      refine g_no rfl rfl rfl (g_no rfl rfl rfl (g_no rfl rfl rfl (g_no rfl rfl rfl (g_no rfl rfl rfl (g_no rfl rfl rfl (g_no rfl rfl rfl (g_no rfl rfl rfl (g_no rfl rfl rfl (o_pick_f rfl rfl rfl ?_)))))))))
      refine o_assign rfl rfl (o_nil (n_then (c_ret (r_body1 rfl rfl ?_))))
      exact ⟨_, rfl, ((x4.trans x9).trans x12), by
        first
        | exact congrArg B (decide_eq_decide.2 ⟨fun h => ⟨h10, decide_eq_true h14, h19, h26, h33, h45, h⟩, fun h => h.2.2.2.2.2.2⟩)
        | exact congrArg B (decide_eq_false (fun h => h45 h.2.2.2.2.2.1)).symm
        | exact congrArg B (decide_eq_false (fun h => h33 h.2.2.2.2.1)).symm
        | exact congrArg B (decide_eq_false (fun h => h26 h.2.2.2.1)).symm
        | exact congrArg B (decide_eq_false (fun h => h19 h.2.2.1)).symm
        | exact congrArg B (decide_eq_false (fun h => h14 (of_decide_eq_true h.2.1))).symm
        | exact congrArg B (decide_eq_false (fun h => h10 h.1)).symm⟩
  · refine g_no rfl rfl rfl (g_no rfl rfl rfl (o_pick_f rfl rfl rfl (o_move rfl rfl (g_no rfl rfl rfl (g_no rfl rfl rfl (g_no rfl rfl rfl (o_pick_f rfl rfl rfl (o_move rfl rfl (g_no rfl rfl rfl ?_)))))))))
    refine g_no rfl rfl rfl (g_no rfl rfl rfl (g_no rfl rfl rfl (g_no rfl rfl rfl (o_pick_f rfl rfl rfl (o_move rfl rfl (g_no rfl rfl rfl (g_no rfl rfl rfl (g_no rfl rfl rfl (g_no rfl rfl rfl ?_)))))))))
    refine g_no rfl rfl rfl (o_pick_f rfl rfl rfl (o_move rfl rfl (g_no rfl rfl rfl (g_no rfl rfl rfl (g_no rfl rfl rfl (g_no rfl rfl rfl (g_no rfl rfl rfl (g_no rfl rfl rfl (g_no rfl rfl rfl ?_)))))))))
    refine g_no rfl rfl rfl (g_no rfl rfl rfl (g_no rfl rfl rfl (o_pick_f rfl rfl rfl (o_move rfl rfl (g_no rfl rfl rfl (g_no rfl rfl rfl (g_no rfl rfl rfl (g_no rfl rfl rfl (g_no rfl rfl rfl ?_)))))))))
    refine g_no rfl rfl rfl (g_no rfl rfl rfl (g_no rfl rfl rfl (g_no rfl rfl rfl (g_no rfl rfl rfl (g_no rfl rfl rfl (g_no rfl rfl rfl (g_no rfl rfl rfl (g_no rfl rfl rfl (g_no rfl rfl rfl ?_)))))))))
    refine g_no rfl rfl rfl (g_no rfl rfl rfl (g_no rfl rfl rfl (o_pick_f rfl rfl rfl (o_assign rfl rfl (o_nil (n_then (c_ret (r_body1 rfl rfl ?_))))))))
    exact ⟨_, rfl, (x4.trans x9), by
      first
      | exact congrArg B (decide_eq_decide.2 ⟨fun h => ⟨h10, decide_eq_true h14, h19, h26, h33, h45, h⟩, fun h => h.2.2.2.2.2.2⟩)
      | exact congrArg B (decide_eq_false (fun h => h45 h.2.2.2.2.2.1)).symm
      | exact congrArg B (decide_eq_false (fun h => h33 h.2.2.2.2.1)).symm
      | exact congrArg B (decide_eq_false (fun h => h26 h.2.2.2.1)).symm
      | exact congrArg B (decide_eq_false (fun h => h19 h.2.2.1)).symm
      | exact congrArg B (decide_eq_false (fun h => h14 (of_decide_eq_true h.2.1))).symm
      | exact congrArg B (decide_eq_false (fun h => h10 h.1)).symm⟩
theorem MAdd_spec {w : World} {a : LayD} {x y : Value} {i : Int} {g : Nat} {T : TypeId} (ha : DsV dRat a.ws x w) (hb : DsV dRat a.bs y w) (hg : Blk g T [fvOnly] w) :
    Calls Try.prog 46 #[.agg #[I a.kd, I a.fr, I a.ou, I a.kh, I a.kw, I a.sr, I a.pd, x, y], I i, .pointer (some ⟨g, 0, none⟩)] w (Ret fun r w' => Ext w w' ∧ r = B (decide (a.fr ≥ -1 ∧ a.fr < i ∧ a = ⟨a.kd, a.fr, 0, 0, 0, 0, 0, [], []⟩))) := by
  refine enter (vs := [.agg #[I a.kd, I a.fr, I a.ou, I a.kh, I a.kw, I a.sr, I a.pd, x, y], I i, .pointer (some ⟨g, 0, none⟩)]) Try.func46 rfl rfl rfl ?_
  refine c_seq (c_region ?_)
  obtain ⟨g3, w3, hr3, l3, x3, k3⟩ := r_boxS (P := Try.prog) (w := w) (T := 37) (cs := [I a.kd, I a.fr, I a.ou, I a.kh, I a.kw, I a.sr, I a.pd, x, y])
  refine o_box rfl rfl hr3 (o_assign rfl rfl (o_nil (n_then (c_seq (c_region (o_fieldAddr rfl rfl (r_fAt (o := 1) Try.underlying37 rfl (by kernel_rfl) rfl) ?_))))))
  refine o_load rfl rfl (r_load1 Try.underlying3 rfl (k3.cell (i := 1) rfl)) (o_bin rfl rfl rfl (r_geq_i) (o_move rfl rfl ?_))
  refine o_dec (fun h9 => ?_) (fun h9 => ?_)
  · refine g_yes rfl (o_fieldAddr rfl rfl (r_fAt (o := 1) Try.underlying37 rfl (by kernel_rfl) rfl) (g_yes rfl (o_load rfl rfl (r_load1 Try.underlying3 rfl (k3.cell (i := 1) rfl)) ?_)))
    refine g_yes rfl (o_move rfl rfl (g_yes rfl (o_bin rfl rfl rfl (r_lss_i) (o_pick_t rfl rfl rfl (o_move rfl rfl ?_)))))
    refine o_dec (fun h15 => ?_) (fun h15 => ?_)
    · refine g_yes rfl (o_load rfl rfl (r_load1 Try.underlying44 rfl (x3.cell_some hg.k0)) (g_yes rfl (o_load rfl rfl (k3.ld Try.underlying37 rfl (by kernel_rfl)) ?_)))
      refine g_yes rfl (o_fieldAddr rfl rfl (r_fAt (o := 1) Try.underlying37 rfl (by kernel_rfl) rfl) (g_yes rfl (o_load rfl rfl (r_load1 Try.underlying3 rfl (k3.cell (i := 1) rfl)) ?_)))
      refine g_yes rfl (o_build (vs := [(1, I a.fr)]) (r := .agg #[I 0, I a.fr, I 0, I 0, I 0, I 0, I 0, .slice none 0 0, .slice none 0 0]) rfl rfl (by exact run_build _ _ _ _ (by kernel_rfl)) ?_)
      refine g_yes rfl (o_callfn rfl call_MOnly rfl rfl ((MOnly_spec (u := ⟨0, a.fr, 0, 0, 0, 0, 0, [], []⟩) (ha.ext x3) (hb.ext x3) (DsV.nil _ _) (DsV.nil _ _))) ?_)
      rintro v21 w21 ⟨x21, rfl⟩
      refine o_pick_t rfl rfl rfl (o_assign rfl rfl (o_nil (n_then (c_ret (r_body1 rfl rfl ?_)))))
      exact ⟨_, rfl, (x3.trans x21), by
        first
        | exact congrArg B (decide_eq_decide.2 ⟨fun h => ⟨h9, h15, h⟩, fun h => h.2.2⟩)
        | exact congrArg B (decide_eq_false (fun h => h15 h.2.1)).symm
        | exact congrArg B (decide_eq_false (fun h => h9 h.1)).symm⟩
    · refine g_no rfl rfl rfl (g_no rfl rfl rfl (g_no rfl rfl rfl (g_no rfl rfl rfl (g_no rfl rfl rfl (g_no rfl rfl rfl (o_pick_f rfl rfl rfl (o_assign rfl rfl (o_nil (n_then (c_ret (r_body1 rfl rfl ?_)))))))))))
      exact ⟨_, rfl, x3, by
        first
        | exact congrArg B (decide_eq_decide.2 ⟨fun h => ⟨h9, h15, h⟩, fun h => h.2.2⟩)
        | exact congrArg B (decide_eq_false (fun h => h15 h.2.1)).symm
        | exact congrArg B (decide_eq_false (fun h => h9 h.1)).symm⟩
  · refine g_no rfl rfl rfl (g_no rfl rfl rfl (g_no rfl rfl rfl (g_no rfl rfl rfl (o_pick_f rfl rfl rfl (o_move rfl rfl (g_no rfl rfl rfl (g_no rfl rfl rfl (g_no rfl rfl rfl (g_no rfl rfl rfl ?_)))))))))
    refine g_no rfl rfl rfl (g_no rfl rfl rfl (o_pick_f rfl rfl rfl (o_assign rfl rfl (o_nil (n_then (c_ret (r_body1 rfl rfl ?_)))))))
    exact ⟨_, rfl, x3, by
      first
      | exact congrArg B (decide_eq_decide.2 ⟨fun h => ⟨h9, h15, h⟩, fun h => h.2.2⟩)
      | exact congrArg B (decide_eq_false (fun h => h15 h.2.1)).symm
      | exact congrArg B (decide_eq_false (fun h => h9 h.1)).symm⟩
end Go.Rl
/- Validity of models walked, the program's side: conditions, Valid. Conditions: rationals of at most 2^30 limbs; integers in range. -/
namespace Go.Rl
open Go.RowKit Go.Proofs
section
variable {a : LayD} {i : Int}
theorem noneB_iff : noneB a = true ↔ a.ws = [] ∧ a.bs = [] := by
  unfold noneB
  rw [decide_eq_true_iff]
  constructor
  · rintro ⟨h1, h2⟩
    exact ⟨List.eq_nil_of_length_eq_zero (by omega), List.eq_nil_of_length_eq_zero (by omega)⟩
  · rintro ⟨h1, h2⟩
    rw [h1, h2]; exact ⟨rfl, rfl⟩
theorem flatB_iff : flatB a = true ↔ a.kh = 0 ∧ a.kw = 0 ∧ a.sr = 0 ∧ a.pd = 0 := by unfold flatB; rw [decide_eq_true_iff]
theorem cond_pool (h : a.kd = 3 ∨ a.kd = 4) : (kernB a = true ∧ a = ⟨a.kd, 0, 0, a.kh, a.kw, a.sr, 0, [], []⟩) ↔ layC a i := by
  rw [layC_3 h, noneB_iff]
  constructor
  · rintro ⟨hk, he⟩
    obtain ⟨_, h2, h3, _, _, _, h7, h8, h9⟩ := LayD.eq_iff.1 he
    exact ⟨hk, h2, h7, h3, h8, h9⟩
  · rintro ⟨hk, h2, h7, h3, h8, h9⟩
    exact ⟨hk, LayD.eq_iff.2 ⟨rfl, h2, h3, rfl, rfl, rfl, h7, h8, h9⟩⟩
theorem cond_bare (h : a.kd = 5 ∨ a.kd = 6) : a = ⟨a.kd, 0, 0, 0, 0, 0, 0, [], []⟩ ↔ layC a i := by
  rw [layC_5 h, noneB_iff, flatB_iff]
  constructor
  · intro he
    obtain ⟨_, h2, h3, h4, h5, h6, h7, h8, h9⟩ := LayD.eq_iff.1 he
    exact ⟨⟨h4, h5, h6, h7⟩, h2, h3, h8, h9⟩
  · rintro ⟨⟨h4, h5, h6, h7⟩, h2, h3, h8, h9⟩
    exact LayD.eq_iff.2 ⟨rfl, h2, h3, h4, h5, h6, h7, h8, h9⟩
theorem cond_dense (h : a.kd = 1) : ((1 ≤ a.ou ∧ a.ou ≤ 16384) ∧ ((a.bs.length : Int) = a.ou ∧ mulOk a.ws.length a.ou = true) ∧ a = ⟨a.kd, 0, a.ou, 0, 0, 0, 0, a.ws, a.bs⟩) ↔ layC a i := by
  rw [layC_1 h, flatB_iff]
  constructor
  · rintro ⟨ho, ⟨hb, hm⟩, he⟩
    obtain ⟨_, h2, _, h4, h5, h6, h7, _, _⟩ := LayD.eq_iff.1 he
    exact ⟨⟨h4, h5, h6, h7⟩, h2, ho, hb, hm⟩
  · rintro ⟨⟨h4, h5, h6, h7⟩, h2, ho, hb, hm⟩
    exact ⟨ho, ⟨hb, hm⟩, LayD.eq_iff.2 ⟨rfl, h2, rfl, h4, h5, h6, h7, rfl, rfl⟩⟩
theorem cond_conv (h : a.kd = 2) : ((1 ≤ a.ou ∧ a.ou ≤ 16384) ∧ kernB a = true ∧ a.pd ≥ 0 ∧ a.pd < a.kh ∧ a.pd < a.kw ∧ ((a.bs.length : Int) = a.ou ∧ mulOk a.ws.length (a.ou * a.kh * a.kw) = true) ∧ a = ⟨a.kd, 0, a.ou, a.kh, a.kw, a.sr, a.pd, a.ws, a.bs⟩) ↔ layC a i := by
  rw [layC_2 h]
  constructor
  · rintro ⟨ho, hk, h1, h2, h3, ⟨hb, hm⟩, he⟩
    exact ⟨hk, (LayD.eq_iff.1 he).2.1, h1, h2, h3, ho, hb, hm⟩
  · rintro ⟨hk, hf, h1, h2, h3, ho, hb, hm⟩
    exact ⟨ho, hk, h1, h2, h3, ⟨hb, hm⟩, LayD.eq_iff.2 ⟨rfl, hf, rfl, rfl, rfl, rfl, rfl, rfl, rfl⟩⟩
theorem cond_add (h : a.kd = 7) : (a.fr ≥ -1 ∧ a.fr < i ∧ a = ⟨a.kd, a.fr, 0, 0, 0, 0, 0, [], []⟩) ↔ layC a i := by
  rw [layC_7 h, noneB_iff, flatB_iff]
  constructor
  · rintro ⟨h1, h2, he⟩
    obtain ⟨_, _, h3, h4, h5, h6, h7, h8, h9⟩ := LayD.eq_iff.1 he
    exact ⟨⟨h4, h5, h6, h7⟩, ⟨by omega, by omega⟩, h3, h8, h9⟩
  · rintro ⟨⟨h4, h5, h6, h7⟩, ⟨h1, h2⟩, h3, h8, h9⟩
    exact ⟨by omega, by omega, LayD.eq_iff.2 ⟨rfl, rfl, h3, h4, h5, h6, h7, h8, h9⟩⟩
end
/-- A value that may be called as the condition of a kind. -/
def CondV (g1 g2 : Nat) (T1 T2 : TypeId) (fv : Value) (kd : Int) : Prop := ∃ f fs lb, fv = .func (.func f) fs lb ∧ Callable Try.prog f ∧ ∀ (w : World) (a : LayD) (x y : Value) (i : Int), a.kd = kd → DsV dRat a.ws x w → DsV dRat a.bs y w → Blk g1 T1 [fvOut] w → Blk g2 T2 [fvOnly] w →
  Calls Try.prog f (fs ++ #[.agg #[I a.kd, I a.fr, I a.ou, I a.kh, I a.kw, I a.sr, I a.pd, x, y], I i] ++ lb) w (Ret fun r w' => Ext w w' ∧ r = B (decide (layC a i)))
def condFs (g1 g2 : Nat) : List Value := [.func (.func 43) #[] #[.pointer (some ⟨g1, 0, none⟩), .pointer (some ⟨g2, 0, none⟩)], .func (.func 45) #[] #[.pointer (some ⟨g1, 0, none⟩), .pointer (some ⟨g2, 0, none⟩)],
  .func (.func 40) #[] #[.pointer (some ⟨g2, 0, none⟩)], .func (.func 40) #[] #[.pointer (some ⟨g2, 0, none⟩)], .func (.func 42) #[] #[.pointer (some ⟨g2, 0, none⟩)], .func (.func 42) #[] #[.pointer (some ⟨g2, 0, none⟩)], .func (.func 46) #[] #[.pointer (some ⟨g2, 0, none⟩)]]
theorem cond_at {g1 g2 j : Nat} {T1 T2 : TypeId} {fv : Value} (h : (condFs g1 g2)[j]? = some fv) : CondV g1 g2 T1 T2 fv ((j + 1 : Nat) : Int) := by
  match j, h with
  | 0, h =>
    obtain rfl := Option.some.inj h
    exact ⟨_, _, _, rfl, call_MDense, fun w a x y i hk hx hy h1 h2 => Ret.mono (MDense_spec (i := i) hx hy h1 h2) fun r w' h => ⟨h.1, by rw [h.2]; exact congrArg B (decide_eq_decide.2 (cond_dense (by omega)))⟩⟩
  | 1, h =>
    obtain rfl := Option.some.inj h
    exact ⟨_, _, _, rfl, call_MConv, fun w a x y i hk hx hy h1 h2 => Ret.mono (MConv_spec (i := i) hx hy h1 h2) fun r w' h => ⟨h.1, by rw [h.2]; exact congrArg B (decide_eq_decide.2 (cond_conv (by omega)))⟩⟩
  | 2, h =>
    obtain rfl := Option.some.inj h
    exact ⟨_, _, _, rfl, call_MPool, fun w a x y i hk hx hy h1 h2 => Ret.mono (MPool_spec (i := i) hx hy h2) fun r w' h => ⟨h.1, by rw [h.2]; exact congrArg B (decide_eq_decide.2 (cond_pool (by omega)))⟩⟩
  | 3, h =>
    obtain rfl := Option.some.inj h
    exact ⟨_, _, _, rfl, call_MPool, fun w a x y i hk hx hy h1 h2 => Ret.mono (MPool_spec (i := i) hx hy h2) fun r w' h => ⟨h.1, by rw [h.2]; exact congrArg B (decide_eq_decide.2 (cond_pool (by omega)))⟩⟩
  | 4, h =>
    obtain rfl := Option.some.inj h
    exact ⟨_, _, _, rfl, call_MBare, fun w a x y i hk hx hy h1 h2 => Ret.mono (MBare_spec (i := i) hx hy h2) fun r w' h => ⟨h.1, by rw [h.2]; exact congrArg B (decide_eq_decide.2 (cond_bare (by omega)))⟩⟩
  | 5, h =>
    obtain rfl := Option.some.inj h
    exact ⟨_, _, _, rfl, call_MBare, fun w a x y i hk hx hy h1 h2 => Ret.mono (MBare_spec (i := i) hx hy h2) fun r w' h => ⟨h.1, by rw [h.2]; exact congrArg B (decide_eq_decide.2 (cond_bare (by omega)))⟩⟩
  | 6, h =>
    obtain rfl := Option.some.inj h
    exact ⟨_, _, _, rfl, call_MAdd, fun w a x y i hk hx hy h1 h2 => Ret.mono (MAdd_spec (i := i) hx hy h2) fun r w' h => ⟨h.1, by rw [h.2]; exact congrArg B (decide_eq_decide.2 (cond_add (by omega)))⟩⟩
  | j + 7, h => simp [condFs] at h
theorem MConds_spec {w : World} :
    Calls Try.prog 24 #[] w (Ret fun r w' => Ext w w' ∧ ∃ m g1 g2 T1 T2, r = .map (some m) ∧ w'.heap[m]? = some (.map (entsI 0 (condFs g1 g2)).toArray 7) ∧ Blk g1 T1 [fvOut] w' ∧ Blk g2 T2 [fvOnly] w') := by
  refine enter (vs := []) Try.func24 rfl rfl rfl ?_
  refine c_seq (c_region (o_assign rfl rfl (o_nil (n_then (c_seq (c_region ?_))))))
  obtain ⟨g1, w1, hr1, l1, x1, k1⟩ := r_allocB (P := Try.prog) (w := w) (t := 82) (z := .nilFunc) (l := [.nilFunc]) (by kernel_rfl) rfl
  refine o_alloc rfl hr1 ?_
  obtain ⟨w1', s1, q1, k1'⟩ := k1.stC (P := Try.prog) (t := 82) (i := 0) (v := fvOut) (by kernel_rfl) rfl (by simp)
  refine o_store rfl rfl s1 ?_
  have x1' := Ext.of_new x1 q1 l1
  refine o_nil (n_then (c_seq (c_region ?_)))
  obtain ⟨g2, w2, hr2, l2, x2, k2⟩ := r_allocB (P := Try.prog) (w := w1') (t := 44) (z := .nilFunc) (l := [.nilFunc]) (by kernel_rfl) rfl
  refine o_alloc rfl hr2 ?_
  obtain ⟨w2', s2, q2, k2'⟩ := k2.stC (P := Try.prog) (t := 44) (i := 0) (v := fvOnly) (by kernel_rfl) rfl (by simp)
  refine o_store rfl rfl s2 ?_
  have x2' := Ext.of_new x2 q2 l2
  refine o_nil (n_then (c_seq (c_region ?_)))
  refine o_makeFunc (us := []) (vs := [.pointer (some ⟨g2, 0, none⟩)]) rfl rfl rfl ?_
  refine o_assign rfl rfl (o_nil (n_then (c_seq (c_region ?_))))
  refine o_makeFunc (us := []) (vs := [.pointer (some ⟨g2, 0, none⟩)]) rfl rfl rfl ?_
  refine o_assign rfl rfl (o_nil (n_then (c_seq (c_region ?_))))
  refine o_makeMap rfl ?_
  obtain ⟨m, hm⟩ : ∃ m, m = w2'.heap.size := ⟨_, rfl⟩
  obtain ⟨w3, hw3⟩ : ∃ w3, w3 = w2'.alloc (.map #[] 0) := ⟨_, rfl⟩
  rw [← hw3, ← hm]
  have xm : Ext w2' w3 := by rw [hw3]; exact Ext.new _ _
  have mm : w3.heap[m]? = some (.map (entsI 0 []).toArray ([] : List Value).length) := by rw [hw3, hm]; exact heap_alloc_new w2' _
  have hmle : w2'.heap.size ≤ m := Nat.le_of_eq hm.symm
  refine o_makeFunc (us := []) (vs := [.pointer (some ⟨g1, 0, none⟩), .pointer (some ⟨g2, 0, none⟩)]) rfl rfl rfl ?_
  obtain ⟨w4, s4, q4, m4⟩ := r_insI Try.underlying59 (by simp) mm 1 rfl (.func (.func 43) #[] #[.pointer (some ⟨g1, 0, none⟩), .pointer (some ⟨g2, 0, none⟩)])
  refine o_insert rfl rfl rfl s4 ?_
  have xm := Ext.of_new xm q4 hmle
  refine o_makeFunc (us := []) (vs := [.pointer (some ⟨g1, 0, none⟩), .pointer (some ⟨g2, 0, none⟩)]) rfl rfl rfl ?_
  obtain ⟨w5, s5, q5, m5⟩ := r_insI Try.underlying59 (by simp) m4 2 rfl (.func (.func 45) #[] #[.pointer (some ⟨g1, 0, none⟩), .pointer (some ⟨g2, 0, none⟩)])
  refine o_insert rfl rfl rfl s5 ?_
  have xm := Ext.of_new xm q5 hmle
  refine o_move rfl rfl ?_
  obtain ⟨w6, s6, q6, m6⟩ := r_insI Try.underlying59 (by simp) m5 3 rfl (.func (.func 40) #[] #[.pointer (some ⟨g2, 0, none⟩)])
  refine o_insert rfl rfl rfl s6 ?_
  have xm := Ext.of_new xm q6 hmle
  refine o_move rfl rfl ?_
  obtain ⟨w7, s7, q7, m7⟩ := r_insI Try.underlying59 (by simp) m6 4 rfl (.func (.func 40) #[] #[.pointer (some ⟨g2, 0, none⟩)])
  refine o_insert rfl rfl rfl s7 ?_
  have xm := Ext.of_new xm q7 hmle
  refine o_move rfl rfl ?_
  obtain ⟨w8, s8, q8, m8⟩ := r_insI Try.underlying59 (by simp) m7 5 rfl (.func (.func 42) #[] #[.pointer (some ⟨g2, 0, none⟩)])
  refine o_insert rfl rfl rfl s8 ?_
  have xm := Ext.of_new xm q8 hmle
  refine o_move rfl rfl ?_
  obtain ⟨w9, s9, q9, m9⟩ := r_insI Try.underlying59 (by simp) m8 6 rfl (.func (.func 42) #[] #[.pointer (some ⟨g2, 0, none⟩)])
  refine o_insert rfl rfl rfl s9 ?_
  have xm := Ext.of_new xm q9 hmle
  refine o_makeFunc (us := []) (vs := [.pointer (some ⟨g2, 0, none⟩)]) rfl rfl rfl ?_
  obtain ⟨wA, sA, qA, mA⟩ := r_insI Try.underlying59 (by simp) m9 7 rfl (.func (.func 46) #[] #[.pointer (some ⟨g2, 0, none⟩)])
  refine o_insert rfl rfl rfl sA ?_
  have xm := Ext.of_new xm qA hmle
  refine o_move rfl rfl (o_assign rfl rfl (o_nil (n_then (c_ret (r_body1 rfl rfl ?_)))))
  exact ⟨_, rfl, ((x1'.trans x2').trans xm), m, g1, g2, _, _, rfl, mA, (k1'.ext x2').ext xm, k2'.ext xm⟩
theorem info_rats : (Try.prog.info? 35).map (fun i => (i.zero, i.size, i.bytes)) = some (some (.slice none 0 0), 1, 24) := by kernel_rfl
theorem r_bsRs {w : World} {l m : List RatD} {x y : Value} (hx : DsV dRat l x w) (hy : DsV dRat m y w) :
    ∃ r w', (Instr.buildSlice 64 2 (number 0 [x, y]).toArray).run Try.prog w = .ok r w' ∧ Ext w w' ∧ DsV dRats [l, m] r w' := by
  have h1 : ∀ u ∈ [x, y], u.oneCell' = true := Ones.cons hx.one (Ones.cons hy.one Ones.nil)
  obtain ⟨r, w', h2, h3, h4, _⟩ := r_buildSlice (P := Try.prog) (w := w) (base := 0) Try.underlying64 info_rats [x, y] h1 (by simp) (Nat.zero_le _)
  refine ⟨r, w', h2, h3, Rp.ofSl (sz := 1) (Sl.of_own h4) ?_ (by simp [dRats_size]) (by omega)⟩
  have a1 : Rp w' (dRats l) [x] := hx.ext h3
  have a2 : Rp w' (dRats m) [y] := hy.ext h3
  simpa using RpAll.cons a1 (RpAll.cons a2 RpAll.nil)
theorem canQ_at {l : List RatD} {i : Nat} (hi : i < l.length) (h : canQ l = canQ (l.drop i)) (hr : rv l[i].1 l[i].2.1 l[i].2.2 = false) : canQ l = false := by
  rw [h, canQ_drop hi, hr]; rfl
theorem canQ_next {l : List RatD} {i : Nat} (hi : i < l.length) (h : canQ l = canQ (l.drop i)) (hr : rv l[i].1 l[i].2.1 l[i].2.2 = true) : canQ l = canQ (l.drop (i + 1)) := by
  rw [h, canQ_drop hi, hr]; rfl
theorem canQ_end {l : List RatD} (h : canQ l = canQ (l.drop l.length)) : canQ l = true := by
  rw [h, List.drop_length]; rfl
theorem lays_no {m : ModD} {i : Nat} (hi : i < m.lays.length) (hS : laysOk 0 m.lays = laysOk i (m.lays.drop i)) (h : layOk m.lays[i] i = false) : false = validM m := by
  unfold validM
  rw [hS, laysOk_drop hi, h]
  simp
theorem AValid_spec {w : World} {m : ModD} {x y : Value} (ha : DsV dIn m.inp x w) (hb : DsV dLay m.lays y w) (hs : smallM m) (hw : ∀ l ∈ m.lays, i64 l.kd) :
    Calls Try.prog 10 #[.agg #[x, y]] w (Ret fun r w' => Ext w w' ∧ r = B (validM m)) := by
  refine enter (vs := [.agg #[x, y]]) Try.func10 rfl rfl rfl ?_
  have hll := hb.len
  refine c_seq (c_region ?_)
  obtain ⟨g1, w1, hr1, l1, x1, k1⟩ := r_boxS (P := Try.prog) (w := w) (T := 25) (cs := [x, y])
  refine o_box rfl rfl hr1 (o_assign rfl rfl (o_nil (n_then (c_seq (c_seq ?_)))))
  rcases hc : shapeOk m.inp
  · refine c_region (o_fieldAddr rfl rfl (r_fAt (o := 0) Try.underlying25 rfl (by kernel_rfl) rfl) (o_load rfl rfl (r_load1 Try.underlying22 rfl (k1.cell (i := 0) rfl)) ?_))
    refine o_call call_AShape rfl rfl ((by have := AShape_spec (ha.ext x1); rw [hc] at this; exact this)) ?_
    rintro v14 w14 ⟨x14, rfl⟩
    refine o_not rfl rfl r_not (o_move rfl rfl (g_no rfl rfl rfl (g_no rfl rfl rfl (g_no rfl rfl rfl (g_no rfl rfl rfl (o_pick_t rfl rfl rfl (o_nil (n_then (c_yes rfl (c_seq (c_region (o_assign rfl rfl ?_))))))))))))
    refine o_nil (n_then (c_ret (r_then (r_body1 rfl rfl ?_))))
    exact ⟨_, rfl, (x1.trans x14), congrArg B (by unfold validM; rw [hc]; first | rfl | (rw [decide_eq_false (by omega)]; rfl))⟩
  · refine c_region (o_fieldAddr rfl rfl (r_fAt (o := 0) Try.underlying25 rfl (by kernel_rfl) rfl) (o_load rfl rfl (r_load1 Try.underlying22 rfl (k1.cell (i := 0) rfl)) ?_))
    refine o_call call_AShape rfl rfl ((by have := AShape_spec (ha.ext x1); rw [hc] at this; exact this)) ?_
    rintro v14 w14 ⟨x14, rfl⟩
    refine o_not rfl rfl r_not (o_move rfl rfl (g_yes rfl (o_fieldAddr rfl rfl (r_fAt (o := 1) Try.underlying25 rfl (by kernel_rfl) rfl) (g_yes rfl (o_load rfl rfl (r_load1 Try.underlying23 rfl (x14.cell_some (k1.cell (i := 1) rfl))) ?_)))))
    refine g_yes rfl (o_len rfl rfl (r_lenDs Try.underlying23 (hb.ext (x1.trans x14))) (g_yes rfl (o_bin rfl rfl rfl (r_gtr_i) (o_pick_f rfl rfl rfl (o_nil (n_then ?_))))))
    refine c_if rfl (fun h21 => ?_) (fun h21 => ?_)
    · refine c_seq (c_region (o_assign rfl rfl (o_nil (n_then (c_ret (r_then (r_body1 rfl rfl ?_)))))))
      exact ⟨_, rfl, (x1.trans x14), congrArg B (by unfold validM; rw [hc]; first | rfl | (rw [decide_eq_false (by omega)]; rfl))⟩
    · refine c_skip (n_then (c_seq (c_region (o_call call_MConds rfl rfl (MConds_spec) ?_))))
      rintro v22 w22 ⟨x22, mm, g1, g2, T1, T2, rfl, hm, b1, b2⟩
      refine o_assign rfl rfl (o_nil (n_then (c_seq (c_seq (c_region (o_fieldAddr rfl rfl (r_fAt (o := 1) Try.underlying25 rfl (by kernel_rfl) rfl) (o_load rfl rfl (r_load1 Try.underlying23 rfl ((x14.trans x22).cell_some (k1.cell (i := 1) rfl))) ?_)))))))
      refine o_len rfl rfl (r_lenDs Try.underlying23 (hb.ext ((x1.trans x14).trans x22))) (o_move rfl rfl (o_nil (n_then (c_block ?_))))
      refine c_loop (α := Nat) (fun x => [(3, .map (some mm)), (24, y), (25, I (m.lays.length : Int)), (26, I (x : Int))]) (fun x w' => Ext w w' ∧ Ext w22 w' ∧ x ≤ m.lays.length ∧ laysOk 0 m.lays = laysOk x (m.lays.drop x)) (fun x => m.lays.length - x) (0) ⟨rfl, rfl, rfl, rfl, trivial⟩ ⟨((x1.trans x14).trans x22), Ext.refl _, by omega, rfl⟩ ?_
      rintro i wL ⟨e5, e22, hi, hS⟩
      refine c_seq (c_region (o_bin rfl rfl rfl (r_lss_i) (o_nil (n_then (c_seq ?_)))))
      refine c_if rfl (fun h27 => ?_) (fun h27 => ?_)
      · refine c_skip (n_then (c_seq (c_block (c_seq (c_region (o_move rfl rfl ?_))))))
        obtain ⟨a29, c29, p29, q29, h29⟩ := r_ixDs (P := Try.prog) (sz := 9) Try.underlying23 (by kernel_rfl) dLay_size (by omega) (hb.ext e5) (i := i) (by omega) .i64
        obtain ⟨e29, he29⟩ : ∃ e, e = m.lays[i]'(by omega) := ⟨_, rfl⟩
        rw [← he29] at h29
        obtain ⟨x29_0, x29_1, rfl, f29_0, f29_1⟩ := dLay_inv h29
        refine o_indexAddr rfl rfl rfl (p29 _) (o_load rfl rfl (q29.ld Try.underlying37 rfl (by kernel_rfl)) ?_)
        obtain ⟨g5, w5, hr5, l5, x5, k5⟩ := r_allocB (P := Try.prog) (w := wL) (t := 37) (z := .agg #[I 0, I 0, I 0, I 0, I 0, I 0, I 0, .slice none 0 0, .slice none 0 0]) (l := [I 0, I 0, I 0, I 0, I 0, I 0, I 0, .slice none 0 0, .slice none 0 0]) (by kernel_rfl) rfl
        refine o_alloc rfl hr5 (o_assign rfl rfl ?_)
        obtain ⟨w6_5, s6_5, q6_5, k6_5⟩ := k5.stS (P := Try.prog) (t := 37) (m := [I e29.kd, I e29.fr, I e29.ou, I e29.kh, I e29.kw, I e29.sr, I e29.pd, x29_0, x29_1]) rfl (by kernel_rfl) (Ones.cons rfl (Ones.cons rfl (Ones.cons rfl (Ones.cons rfl (Ones.cons rfl (Ones.cons rfl (Ones.cons rfl (Ones.cons f29_0.one (Ones.cons f29_1.one Ones.nil)))))))))
        refine o_store rfl rfl s6_5 ?_
        have x6_5 := Ext.of_new (x5) q6_5 l5
        refine o_nil (n_then (c_seq ?_))
        have hq := hs e29 (by rw [he29]; exact List.getElem_mem _)
        have hk := hw e29 (by rw [he29]; exact List.getElem_mem _)
        rcases r_lookI (w := w6_5) (z := .nilFunc) Try.underlying59 (by kernel_rfl) (by simp [condFs]) (((e22.trans x6_5)).heap_some hm) hk.1 hk.2 with ⟨hl, hno⟩ | ⟨j, fv, hl, hj, hkd⟩
        · refine c_region (o_move rfl rfl (o_fieldAddr rfl rfl (r_fAt (o := 0) Try.underlying37 rfl (by kernel_rfl) rfl) (o_load rfl rfl (r_load1 Try.underlying3 rfl (k6_5.cell (i := 0) rfl)) ?_)))
          refine o_lookup rfl rfl rfl hl ?_
          refine o_move rfl rfl (o_extract rfl rfl (r_ext0) (o_extract rfl rfl (r_ext1) (o_assign rfl rfl (o_assign rfl rfl (o_nil (n_then (c_seq (c_seq (c_region (o_move rfl rfl (o_not rfl rfl r_not ?_)))))))))))
          refine o_move rfl rfl (g_no rfl rfl rfl (g_no rfl rfl rfl (g_no rfl rfl rfl (g_no rfl rfl rfl (g_no rfl rfl rfl (o_pick_t rfl rfl rfl (o_nil (n_then (c_yes rfl (c_seq (c_region (o_assign rfl rfl ?_))))))))))))
          refine o_nil (n_then (c_ret (r_then (r_block (r_then (r_then (r_block (r_then (r_body1 rfl rfl ?_)))))))))
          exact ⟨_, rfl, (e5.trans x6_5), congrArg B (lays_no (by omega) hS (by
            rw [← he29]
            unfold layOk
            first
            | (rw [decide_eq_false (layC_no hno)]; simp)
            | (rw [decide_eq_false h46]; simp)))⟩
        · obtain ⟨f, fs, lb, rfl, hf, hcall⟩ := cond_at (T1 := T1) (T2 := T2) hj
          refine c_region (o_move rfl rfl (o_fieldAddr rfl rfl (r_fAt (o := 0) Try.underlying37 rfl (by kernel_rfl) rfl) (o_load rfl rfl (r_load1 Try.underlying3 rfl (k6_5.cell (i := 0) rfl)) ?_)))
          refine o_lookup rfl rfl rfl hl ?_
          refine o_move rfl rfl (o_extract rfl rfl (r_ext0) (o_extract rfl rfl (r_ext1) (o_assign rfl rfl (o_assign rfl rfl (o_nil (n_then (c_seq (c_seq (c_region (o_move rfl rfl (o_not rfl rfl r_not ?_)))))))))))
          refine o_move rfl rfl (g_yes rfl (o_move rfl rfl (g_yes rfl (o_load rfl rfl (k6_5.ld Try.underlying37 rfl (by kernel_rfl)) (g_yes rfl (o_move rfl rfl ?_))))))
          refine g_yes rfl (o_callfn rfl hf rfl rfl ((hcall _ e29 _ _ (i : Int) hkd (f29_0.ext x6_5) (f29_1.ext x6_5) (b1.ext ((e22.trans x6_5))) (b2.ext ((e22.trans x6_5))))) ?_)
          rintro v44 w44 ⟨x44, rfl⟩
          refine g_yes rfl (o_not rfl rfl r_not_d (o_pick_f rfl rfl rfl (o_nil (n_then ?_))))
          refine c_if rfl (fun h46 => ?_) (fun h46 => ?_)
          · refine c_seq (c_region (o_assign rfl rfl (o_nil (n_then (c_ret (r_then (r_block (r_then (r_then (r_block (r_then (r_body1 rfl rfl ?_))))))))))))
            exact ⟨_, rfl, ((e5.trans x6_5).trans x44), congrArg B (lays_no (by omega) hS (by
              rw [← he29]
              unfold layOk
              first
              | (rw [decide_eq_false (layC_no hno)]; simp)
              | (rw [decide_eq_false h46]; simp)))⟩
          · refine c_skip (n_then (c_seq (c_region (o_fieldAddr rfl rfl (r_fAt (o := 7) Try.underlying37 rfl (by kernel_rfl) rfl) (o_load rfl rfl (r_load1 Try.underlying35 rfl (x44.cell_some (k6_5.cell (i := 7) rfl))) ?_)))))
            refine o_fieldAddr rfl rfl (r_fAt (o := 8) Try.underlying37 rfl (by kernel_rfl) rfl) (o_load rfl rfl (r_load1 Try.underlying35 rfl (x44.cell_some (k6_5.cell (i := 8) rfl))) ?_)
            obtain ⟨v51, w51, hr51, x51, b51⟩ := r_bsRs (f29_0.ext (x6_5.trans x44)) (f29_1.ext (x6_5.trans x44))
            refine o_buildSlice (vs := [(0, x29_0), (1, x29_1)]) rfl rfl hr51 ?_
            refine o_len rfl rfl (r_lenDs Try.underlying64 b51) (o_move rfl rfl (o_nil (n_then (c_block ?_))))
            refine c_loop (α := Nat) (fun x => [(3, .map (some mm)), (24, y), (25, I (m.lays.length : Int)), (26, I (i : Int)), (51, v51), (52, I (2 : Int)), (53, I (x : Int))]) (fun x w' => Ext w w' ∧ Ext w22 w' ∧ Ext w51 w' ∧ x ≤ 2 ∧ (1 ≤ x → canQ e29.ws = true) ∧ (2 ≤ x → canQ e29.bs = true)) (fun x => 2 - x) (0) ⟨rfl, rfl, rfl, rfl, rfl, rfl, rfl, trivial⟩ ⟨(((e5.trans x6_5).trans x44).trans x51), (((e22.trans x6_5).trans x44).trans x51), Ext.refl _, by omega, fun h => absurd h (by omega), fun h => absurd h (by omega)⟩ ?_
            rintro j wM ⟨e5, e22, e51, hj2, hc1, hc2⟩
            refine c_seq (c_region (o_bin rfl rfl rfl (r_lss_i) (o_nil (n_then (c_seq ?_)))))
            refine c_if rfl (fun h54 => ?_) (fun h54 => ?_)
            · refine c_skip (n_then (c_seq (c_block (c_seq (c_region ?_)))))
              have hj3 : j < [e29.ws, e29.bs].length := by simp; omega
              obtain ⟨a55, c55, p55, q55, h55⟩ := r_ixDs (P := Try.prog) (sz := 1) Try.underlying64 (by kernel_rfl) dRats_size (by omega) (b51.ext e51) (i := j) (hj3) .i64
              obtain ⟨e55, he55⟩ : ∃ e, e = ([e29.ws, e29.bs])[j]'(hj3) := ⟨_, rfl⟩
              rw [← he55] at h55
              obtain ⟨x55_0, rfl, f55_0⟩ := dRats_inv h55
              refine o_indexAddr rfl rfl rfl (p55 _) ?_
              have hl55 := f55_0.len
              refine o_load rfl rfl (r_load1 Try.underlying35 rfl q55.cell0) (o_assign rfl rfl (o_nil (n_then (c_seq (c_region (o_move rfl rfl (o_len rfl rfl (r_lenDs Try.underlying35 f55_0) ?_)))))))
              refine o_move rfl rfl (o_nil (n_then (c_block ?_)))
              refine c_loop (α := Nat) (fun x => [(3, .map (some mm)), (24, y), (25, I (m.lays.length : Int)), (26, I (i : Int)), (51, v51), (52, I (2 : Int)), (53, I (j : Int)), (57, x55_0), (58, I (e55.length : Int)), (59, I (x : Int))]) (fun x w' => Ext w w' ∧ Ext w22 w' ∧ Ext w51 w' ∧ Ext wM w' ∧ x ≤ e55.length ∧ canQ e55 = canQ (e55.drop x)) (fun x => e55.length - x) (0) ⟨rfl, rfl, rfl, rfl, rfl, rfl, rfl, rfl, rfl, rfl, trivial⟩ ⟨e5, e22, e51, Ext.refl _, by omega, rfl⟩ ?_
              rintro k wN ⟨e5, e22, e51, eM, hk2, hC⟩
              refine c_seq (c_region (o_bin rfl rfl rfl (r_lss_i) (o_nil (n_then (c_seq ?_)))))
              refine c_if rfl (fun h60 => ?_) (fun h60 => ?_)
              · refine c_skip (n_then (c_seq (c_block (c_seq (c_region ?_)))))
                obtain ⟨a61, c61, p61, q61, h61⟩ := r_ixDs (P := Try.prog) (sz := 3) Try.underlying35 (by kernel_rfl) dRat_size (by omega) (f55_0.ext eM) (i := k) (by omega) .i64
                obtain ⟨e61, he61⟩ : ∃ e, e = e55[k]'(by omega) := ⟨_, rfl⟩
                rw [← he61] at h61
                obtain ⟨x61_0, x61_1, rfl, f61_0, f61_1⟩ := dRat_inv h61
                refine o_indexAddr rfl rfl rfl (p61 _) ?_
                have hr : e61.2.1.length ≤ 1073741824 ∧ e61.2.2.length ≤ 1073741824 := by
                  have hm : e61 ∈ e55 := by rw [he61]; exact List.getElem_mem _
                  rcases (show j = 0 ∨ j = 1 by omega) with rfl | rfl
                  · exact hq.1 _ (by rw [he55] at hm; exact hm)
                  · exact hq.2 _ (by rw [he55] at hm; exact hm)
                refine o_load rfl rfl (q61.ld Try.underlying41 rfl (by kernel_rfl)) ?_
                obtain ⟨g11, w11, hr11, l11, x11, k11⟩ := r_allocB (P := Try.prog) (w := wN) (t := 41) (z := .agg #[B false, .slice none 0 0, .slice none 0 0]) (l := [B false, .slice none 0 0, .slice none 0 0]) (by kernel_rfl) rfl
                refine o_alloc rfl hr11 ?_
                obtain ⟨w15_3, s15_3, q15_3, k15_3⟩ := k11.stS (P := Try.prog) (t := 41) (m := [B e61.1, x61_0, x61_1]) rfl (by kernel_rfl) (Ones.cons rfl (Ones.cons f61_0.one (Ones.cons f61_1.one Ones.nil)))
                refine o_store rfl rfl s15_3 ?_
                have x15_3 := Ext.of_new (x11) q15_3 l11
                refine o_nil (n_then (c_seq (c_region (o_load rfl rfl (k15_3.ld Try.underlying41 rfl (by kernel_rfl)) (o_call call_QValid rfl rfl ((QValid_spec (RatV.mk (f61_0.ext x15_3) (f61_1.ext x15_3)) (by omega) (by omega))) ?_)))))
                rintro v64 w64 ⟨x64, rfl⟩
                refine o_not rfl rfl r_not (o_nil (n_then ?_))
                refine c_cond rfl (fun h65 => ?_) (fun h65 => ?_)
                · have h65 : rv e61.1 e61.2.1 e61.2.2 = false := by simpa using h65
                  have hno := canQ_at (by omega) hC (by rw [← he61]; exact h65)
                  refine c_seq (c_region (o_assign rfl rfl (o_nil (n_then (c_ret (r_block (r_then (r_then (r_block (r_block (r_then (r_then (r_block (r_block (r_then (r_then (r_block (r_then (r_body1 rfl rfl ?_)))))))))))))))))))
                  exact ⟨_, rfl, ((e5.trans x15_3).trans x64), congrArg B (lays_no (by omega) hS (by
                    rw [← he29]
                    unfold layOk
                    rcases (show j = 0 ∨ j = 1 by omega) with rfl | rfl
                    · rw [he55] at hno
                      rw [show canQ e29.ws = false from hno]; rfl
                    · rw [he55] at hno
                      rw [show canQ e29.bs = false from hno]; simp))⟩
                · have h65 : rv e61.1 e61.2.1 e61.2.2 = true := by simpa using h65
                  refine c_skip (n_block (n_then (c_region (o_bin (r := I ((k + 1 : Nat) : Int)) rfl rfl rfl (by have e : ((k + 1 : Nat) : Int) = (k : Int) + 1 := (by omega); rw [e]; exact r_add_i (by omega) (by omega)) ?_))))
                  refine o_move rfl rfl (o_nil ?_)
                  refine n_round (k + 1) ⟨rfl, rfl, rfl, rfl, rfl, rfl, rfl, rfl, rfl, rfl, trivial⟩ ⟨((e5.trans x15_3).trans x64), ((e22.trans x15_3).trans x64), ((e51.trans x15_3).trans x64), ((eM.trans x15_3).trans x64), by omega, canQ_next (by omega) hC (by rw [← he61]; exact h65)⟩ (by omega)
              · refine c_exit (x_then (x_then (x_here (n_block (n_then ?_)))))
                have hyes := canQ_end (by rw [show e55.length = k by omega]; exact hC)
                have hcA : canQ e29.ws = true := by
                  rcases (show j = 0 ∨ j = 1 by omega) with rfl | rfl
                  · rw [he55] at hyes; exact hyes
                  · exact hc1 (by omega)
                have hcB : 2 ≤ j + 1 → canQ e29.bs = true := fun hj => by
                  obtain rfl : j = 1 := by omega
                  rw [he55] at hyes; exact hyes
                refine c_region (o_bin (r := I ((j + 1 : Nat) : Int)) rfl rfl rfl (by have e : ((j + 1 : Nat) : Int) = (j : Int) + 1 := (by omega); rw [e]; exact r_add_i (by omega) (by omega)) ?_)
                refine o_move rfl rfl (o_nil ?_)
                refine n_round (j + 1) ⟨rfl, rfl, rfl, rfl, rfl, rfl, rfl, trivial⟩ ⟨e5, e22, e51, by omega, fun _ => hcA, hcB⟩ (by omega)
            · refine c_exit (x_then (x_then (x_here (n_block (n_then ?_)))))
              have hok : layOk e29 i = true := by
                unfold layOk
                rw [hc1 (by omega), hc2 (by omega), decide_eq_true (Classical.byContradiction h46)]; rfl
              refine c_region (o_bin (r := I ((i + 1 : Nat) : Int)) rfl rfl rfl (by have e : ((i + 1 : Nat) : Int) = (i : Int) + 1 := (by omega); rw [e]; exact r_add_i (by omega) (by omega)) ?_)
              refine o_move rfl rfl (o_nil ?_)
              refine n_round (i + 1) ⟨rfl, rfl, rfl, rfl, trivial⟩ ⟨e5, e22, by omega, by rw [hS, laysOk_drop (by omega), ← he29, hok]; rfl⟩ (by omega)
      · refine c_exit (x_then (x_then (x_here (n_then (c_seq (c_region (o_assign rfl rfl (o_nil (n_then (c_ret (r_body1 rfl rfl ?_)))))))))))
        exact ⟨_, rfl, e5, congrArg B (by unfold validM; rw [hc, hS, List.drop_of_length_le (by omega), decide_eq_true (by omega)]; rfl)⟩
end Go.Rl
/- A literal row of bytes. No condition. -/
namespace Go.Rl
open Go.RowKit Go.Proofs
/-- A literal row of bytes, and the mark behind it. -/
theorem r_lit {w : World} (l : List UInt8) (hl : l.length ≤ 16777216) : ∃ v w1 w2, (Instr.buildSlice 29 l.length (number 0 (l.map U8)).toArray).run Try.prog w = .ok v w1 ∧ (convert 29 29 v).run Try.prog w1 = .ok v w2 ∧ Ext w w2 ∧ Bts l v w2 := by
  obtain ⟨i, hi, hz0, hs, _⟩ := info_parts info_u8
  have hf : ∀ Z : Array Value, Z.size = (l.map U8).length → Instr.fill (fun i => some (i * 1, 1)) Z (number 0 (l.map U8)) = some (l.map U8).toArray := fun Z hZ => by
    have := fill_number (l.map U8) [] Z.toList (fun v hv => one_cells (one_U8 l v hv)) (by simpa using hZ)
    simpa using this
  have hle : ¬ (l.length * 1 > 2 ^ 24) := by omega
  have hinfo : (typeInfo 5).run Try.prog w = .ok i w := by simp [typeInfo, hi]
  have hsz : (sizeOf 5).run Try.prog w = .ok 1 w := by simp [sizeOf, hinfo, hs]
  have hzv : (zeroValue 5).run Try.prog w = .ok (.int .u8 0) w := by simp [zeroValue, hinfo, hz0]
  have hrun : (Instr.buildSlice 29 l.length (number 0 (l.map U8)).toArray).run Try.prog w = .ok (.slice (some ⟨w.heap.size, 0, none⟩) l.length l.length) (w.alloc (.cells (l.map U8).toArray 5)) := by
    simp only [Instr.buildSlice, Sem.run_bind, run_underlying Try.underlying29, Result.andThen_ok, hsz, if_neg hle]
    by_cases h0 : l.length * 1 = 0
    · rw [if_pos h0]
      simp only [Sem.run_bind, Sem.run_pure, Result.andThen_ok]
      rw [hf _ (by simp)]
      simp [newRow]
    · rw [if_neg h0]
      simp only [Sem.run_bind, Sem.run_pure, Result.andThen_ok, hzv]
      rw [hf _ (by simp [Value.cells])]
      simp [newRow]
  refine ⟨_, _, _, hrun, Go.Lib.run_convert_bytes_const w 29 5 _ _ _ Try.underlying29 Try.underlying5, Ext.new w _, ?_⟩
  have hg := heap_alloc_new w (.cells (l.map U8).toArray 5 ((l.map U8).toArray.size, (l.map U8).toArray.size + 1))
  refine ⟨_, _, _, rfl, Nat.le_refl _, by unfold maxLen; omega, by simp, fun _ => ⟨_, rfl, fun j u hu => ?_⟩, fun h => by cases h⟩
  rw [Addr.add_mid, Nat.zero_add, cell_of_row _ _ j _ _ _ hg]
  simpa using hu
end Go.Rl
/- Rows that are full or owned: appended to, sliced at the front. No condition. -/
namespace Go.Rl
open Go.RowKit Go.Proofs
theorem run_slice_hi {P : Program} {t e : TypeId} {sz : Nat} (ht : P.underlying t = some (.slice e)) (hsz : (P.info? e).map (·.size) = some sz) {A : Option Addr} {n c hi : Nat} (h1 : hi ≤ n) (hnc : n ≤ c) (h0 : A = none → c = 0) (kh : IntKind) (w : World) :
    (Instr.sliceAt t (.slice A n c) none (some (.int kh hi)) none).run P w = .ok (.slice A hi c) w := by
  obtain ⟨i, hi', hs⟩ := Option.map_eq_some_iff.1 hsz
  have hb : ∀ w : World, (Instr.sliceBounds true n c none (some (.int kh hi)) none).run P w = .ok (0, hi, c) w := fun w => by
    have a1 := run_sliceBound (P := P) (w := w) kh (hi : Int) c .sliceAcap (by omega) (by omega)
    simp only [Int.toNat_natCast] at a1
    simp [Instr.sliceBounds, a1]
  have : (Instr.sliceAt t (.slice A n c) none (some (.int kh hi)) none).run P w = .ok (.slice (if c = 0 then A else A.map (·.add (0 * sz))) (hi - 0) (c - 0)) w := by
    simp [Instr.sliceAt, Instr.slice, run_underlying ht, hb, sizeOf, typeInfo, hi', hs]
  rw [this]
  have hA' : (if c = 0 then A else A.map (·.add (0 * sz))) = A := by
    split
    · rfl
    · cases A <;> simp [add_zero]
  rw [hA']
  rfl
section
variable {w0 w : World} {l m : List UInt8} {v x : Value} {ty : TypeId}
/-- Bytes that an append never changes in place: a row of the call's own, or one without room. -/
def GrB (base : Nat) (l : List UInt8) (v : Value) (w : World) : Prop := OwnB base l v w ∨ (Bts l v w ∧ ∃ ad, v = .slice (some ad) l.length l.length)
theorem GrB.ext {base : Nat} {w' : World} (h : GrB base l v w) (hx : Ext w w') : GrB base l v w' := h.imp (·.ext hx) fun h => ⟨h.1.ext hx, h.2⟩
theorem r_litF {w : World} (l : List UInt8) (hl : l.length ≤ 16777216) (h0 : 0 < l.length) : ∃ v w1 w2, (Instr.buildSlice 29 l.length (number 0 (l.map U8)).toArray).run Try.prog w = .ok v w1 ∧ (convert 29 29 v).run Try.prog w1 = .ok v w2 ∧ Ext w w2 ∧ Bts l v w2 ∧ ∃ ad, v = .slice (some ad) l.length l.length := by
  obtain ⟨v, w1, w2, h1, h2, h3, h4⟩ := r_lit (w := w) l hl
  refine ⟨v, w1, w2, h1, h2, h3, h4, ?_⟩
  obtain ⟨r, w', h5, h6, h7, h8⟩ := r_bsB (w := w) 0 l hl (Nat.zero_le _)
  rw [h1] at h5
  obtain ⟨rfl, rfl⟩ := Result.ok.inj h5
  obtain ⟨n, hn, ⟨rfl, rfl⟩ | ⟨g, cap, cur, rfl, hg, hcur, hnc, hcm, hcs, htk⟩⟩ := h7
  · cases h8
  · have hln : n = l.length := by simpa using hn.symm
    subst hln
    have hz : cap = l.length := by
      obtain ⟨i, hi, hz0, hs, _⟩ := info_parts info_u8
      have hf : ∀ Z : Array Value, Z.size = (l.map U8).length → Instr.fill (fun i => some (i * 1, 1)) Z (number 0 (l.map U8)) = some (l.map U8).toArray := fun Z hZ => by
        have := fill_number (l.map U8) [] Z.toList (fun v hv => one_cells (one_U8 l v hv)) (by simpa using hZ)
        simpa using this
      have hle : ¬ (l.length * 1 > 2 ^ 24) := by omega
      have hinfo : (typeInfo 5).run Try.prog w = .ok i w := by simp [typeInfo, hi]
      have hsz : (sizeOf 5).run Try.prog w = .ok 1 w := by simp [sizeOf, hinfo, hs]
      have hzv : (zeroValue 5).run Try.prog w = .ok (.int .u8 0) w := by simp [zeroValue, hinfo, hz0]
      have hrun : (Instr.buildSlice 29 l.length (number 0 (l.map U8)).toArray).run Try.prog w = .ok (.slice (some ⟨w.heap.size, 0, none⟩) l.length l.length) (w.alloc (.cells (l.map U8).toArray 5)) := by
        simp only [Instr.buildSlice, Sem.run_bind, run_underlying Try.underlying29, Result.andThen_ok, hsz, if_neg hle]
        rw [if_neg (by omega)]
        simp only [Sem.run_bind, Sem.run_pure, Result.andThen_ok, hzv]
        rw [hf _ (by simp [Value.cells])]
        simp [newRow]
      rw [h1] at hrun
      have := (Result.ok.inj hrun).1
      injection this
    subst hz
    exact ⟨_, rfl⟩
theorem r_appG (h0 : Ext w0 w) (hv : GrB w0.heap.size l v w) (hx : Bts m x w) (hm : 0 < m.length) (hb : l.length + m.length ≤ 140737488355328) :
    ∃ r w', (Builtin.append_ #[29, 29] ty #[v, x]).run Try.prog w = .ok r w' ∧ OwnB w0.heap.size (l ++ m) r w' ∧ Ext w0 w' := by
  rcases hv with hv | ⟨hv, ad, rfl⟩
  · obtain ⟨r, w', h1, h2, h3⟩ := r_appB (ty := ty) hv hx hb h0.size
    exact ⟨r, w', h1, h2, Ext.of_grew h0 h3 hv.ge⟩
  · obtain ⟨i, hi, hz, hsize, hby⟩ := info_parts info_u8
    obtain ⟨A, n, c, hA, hnc, hcm, hl, hc, _⟩ := hv
    injection hA with hA hn hc'
    subst hA hn hc'
    obtain ⟨A', n', c', rfl, hnc', hcm', hl', hcl', _⟩ := hx
    have hn' : n' = m.length := by simpa using hl'.symm
    obtain ⟨ad', hA', hcl2⟩ := hcl' (by omega)
    subst hA'
    have hold : ∀ j u, (l.map U8)[j]? = some u → w.cell? (ad.add j) = some u := fun j u hu => by
      have hj : j < l.length := by
        have := (List.getElem?_eq_some_iff.1 hu).1
        simpa using this
      obtain ⟨ad2, h2, h3⟩ := hc (by omega)
      cases h2
      exact h3 j u hu
    obtain ⟨r, w', h1, h2, h3⟩ := run_append_arg_grows (P := Try.prog) w 29 ty 5 i (.int .u8 0) 1 1 Try.underlying29 hi hz hsize hby rfl (by omega) ad l.length l.length (l.map U8) (by simp) hold ad' n' c' (m.map U8) hl' hcl2 (by omega) (by unfold maxLen; omega) (by omega)
    refine ⟨r, w', h1, ⟨l.length + n', ?_⟩, h0.of_grown h3 (fun k hk => by cases hk)⟩
    rw [List.map_append]
    exact ownsRow_base h2 (fun k hk => Nat.le_trans h0.size (World.ownsRow.lt h2 k hk).1)
theorem r_appSE (h0 : Ext w0 w) (hv : OwnB w0.heap.size l v w) (hb : l.length + m.length ≤ 140737488355328) :
    ∃ r w', (Builtin.append_ #[29, 9] ty #[v, S m]).run Try.prog w = .ok r w' ∧ OwnB w0.heap.size (l ++ m) r w' ∧ Ext w0 w' := by
  obtain ⟨r, w', h1, h2, h3⟩ := r_appS (ty := ty) (m := m) hv hb h0.size
  exact ⟨r, w', h1, h2, h0.of_grown h3 hv.ge⟩
theorem r_slBO {base : Nat} (h : OwnB base l v w) {hi : Nat} (h2 : hi ≤ l.length) (kh : IntKind) :
    ∃ r, (∀ w' : World, (Instr.sliceAt 29 v none (some (.int kh hi)) none).run Try.prog w' = .ok r w') ∧ OwnB base (l.take hi) r w := by
  obtain ⟨n, hn, ⟨rfl, rfl⟩ | ⟨g, cap, cur, rfl, hg, hcur, hnc, hcm, hcs, htk⟩⟩ := h
  · have hl : l = [] := by simpa using hn
    subst hl
    have : hi = 0 := by simpa using h2
    subst this
    exact ⟨_, fun w' => run_slice_hi Try.underlying29 size_u8 (Nat.le_refl _) (Nat.le_refl _) (fun _ => rfl) kh w', OwnB.nil _ _⟩
  · have hln : n = l.length := by simpa using hn.symm
    refine ⟨_, fun w' => run_slice_hi Try.underlying29 size_u8 (hi := hi) (by omega) hnc (fun h => by cases h) kh w', ⟨hi, by simp; omega, .inr ⟨g, cap, cur, rfl, hg, hcur, by omega, hcm, hcs, ?_⟩⟩⟩
    rw [List.map_take, ← htk, List.take_take]
    congr 1
    omega
end
end Go.Rl
/- A slice of bytes that lies in a block and is appended to. Conditions: each lemma names its own. -/
namespace Go.Rl
open Go.RowKit Go.Proofs
section
variable {w0 w w' : World} {l m : List UInt8} {v x : Value} {ty t t2 T : TypeId} {g base : Nat}
theorem append_tyB (ht : Try.prog.underlying t = some (.slice 5)) (ht2 : Try.prog.underlying t2 = some (.slice 5)) (a b : Value) : (Builtin.append_ #[t, t2] ty #[a, b]).run Try.prog w = (Builtin.append_ #[29, 29] ty #[a, b]).run Try.prog w := by
  unfold Builtin.append_
  cases a <;> simp [Sem.run_bind, run_underlying ht, run_underlying ht2, run_underlying Try.underlying29]
/-- Block g holds the slice v, which reads as l; what comes after base alone may change. -/
structure WrAt (T : TypeId) (base g : Nat) (l : List UInt8) (v : Value) (w : World) : Prop where
  ge : base ≤ g
  blk : Blk g T [v] w
  row : GrB base l v w
  new : ∀ k, v.ownBlock = some k → base ≤ k
  off : v.ownBlock ≠ some g
  lt : ∀ k, v.ownBlock = some k → k < w.heap.size
theorem GrB.bts (h : GrB base l v w) : Bts l v w := h.elim (·.bts) (·.1)
theorem WrAt.ext (h : WrAt T base g l v w) (hx : Ext w w') : WrAt T base g l v w' := ⟨h.ge, h.blk.ext hx, h.row.ext hx, h.new, h.off, fun k hk => Nat.lt_of_lt_of_le (h.lt k hk) hx.size⟩
theorem WrAt.off_new {k : Nat} (h : WrAt T base g l v w) (hk : w.heap.size ≤ k) : ¬ (k = g ∨ v.ownBlock = some k) := by
  rintro (rfl | h1)
  · have := h.blk.lt; omega
  · have := h.lt k h1; omega
/-- From w to w' the writer at block g went on: only its block, its row and new blocks differ. -/
structure WrStep (g : Nat) (v : Value) (w : World) (v' : Value) (w' : World) : Prop where
  mv : Mv (fun k => k = g ∨ v.ownBlock = some k) w w'
  own : ∀ k, v'.ownBlock = some k → v.ownBlock = some k ∨ w.heap.size ≤ k
theorem WrStep.of_ext (h : Ext w w') : WrStep g v w v w' := ⟨Mv.of_ext h, fun _ h => .inl h⟩
theorem WrStep.refl : WrStep g v w v w := WrStep.of_ext (Ext.refl w)
theorem WrStep.trans {v1 v2 : Value} {w1 w2 : World} (h : WrStep g v w v1 w1) (k : WrStep g v1 w1 v2 w2) : WrStep g v w v2 w2 := by
  refine ⟨h.mv.trans k.mv fun n hn hlt => ?_, fun n hn => ?_⟩
  · rcases hn with hn | hn
    · exact .inl hn
    · rcases h.own n hn with h1 | h1
      · exact .inr h1
      · omega
  · rcases k.own n hn with h1 | h1
    · exact h.own n h1
    · exact .inr (Nat.le_trans h.mv.size h1)
theorem WrStep.off {k : Nat} {v1 : Value} {w1 : World} (h : WrStep g v w v1 w1) (hn : ¬ (k = g ∨ v.ownBlock = some k)) (hk : k < w.heap.size) : ¬ (k = g ∨ v1.ownBlock = some k) := by
  rintro (h1 | h1)
  · exact hn (.inl h1)
  · rcases h.own k h1 with h2 | h2
    · exact hn (.inr h2)
    · omega
theorem WrStep.ext {v1 : Value} {w1 : World} (h : WrStep g v w v1 w1) (h0 : Ext w0 w) (hg : w0.heap.size ≤ g) (hv : ∀ k, v.ownBlock = some k → w0.heap.size ≤ k) : Ext w0 w1 :=
  h.mv.ext_from h0 fun k hk => by
    rcases hk with rfl | hk
    · exact hg
    · exact hv k hk
/-- Deep data that the writer does not touch. -/
def WrX (g : Nat) (v : Value) : Nat → Prop := fun k => k = g ∨ v.ownBlock = some k
theorem RpX.step {v1 : Value} {w1 : World} {d : Dt} {cs : List Value} (h : RpX (WrX g v) w d cs) (k : WrStep g v w v1 w1) : RpX (WrX g v1) w1 d cs := h.mv k.mv fun n hn => by
  rcases hn with hn | hn
  · exact .inl (.inl hn)
  · rcases k.own n hn with h1 | h1
    · exact .inl (.inr h1)
    · exact .inr h1
/-- What lies below w0 is not touched. -/
theorem Rp.wrX {d : Dt} {cs : List Value} (h : Rp w0 d cs) (hx : Ext w0 w) (hg : w0.heap.size ≤ g) (hv : ∀ k, v.ownBlock = some k → w0.heap.size ≤ k) : RpX (WrX g v) w d cs := (h.x.ext hx).weak fun k hk => by
  rcases hk with rfl | hk
  · exact .inl hg
  · exact .inl (hv k hk)
/-- append alone -/
theorem WrAt.app (ht : Try.prog.underlying t = some (.slice 5)) (ht2 : Try.prog.underlying t2 = some (.slice 5)) (h : WrAt T base g l v w) (h0 : base ≤ w.heap.size) (hx : Bts m x w) (hm : 0 < m.length) (hb : l.length + m.length ≤ 140737488355328) :
    ∃ r w1, (Builtin.append_ #[t, t2] ty #[v, x]).run Try.prog w = .ok r w1 ∧ OwnB base (l ++ m) r w1 ∧ WrStep g v w r w1 := by
  rcases h.row with hv | ⟨hv, hfull⟩
  · obtain ⟨r, w1, h1, h2, h3⟩ := r_appB (ty := ty) hv hx hb h0
    refine ⟨r, w1, (append_tyB ht ht2 v x).trans h1, h2, ⟨Mv.of_grown h3.grown fun k hk _ => .inr hk, fun k hk => ?_⟩⟩
    rcases h3.own with h4 | h4
    · rw [h4] at hk; exact .inl hk
    · exact .inr (h4 k hk)
  · obtain ⟨r, w1, h1, h2, h3⟩ := r_appG (ty := ty) (w0 := w) (Ext.refl w) (.inr ⟨hv, hfull⟩) hx hm hb
    exact ⟨r, w1, (append_tyB ht ht2 v x).trans h1, h2.low h0, ⟨Mv.of_ext h3, fun k hk => .inr (h2.ge k hk)⟩⟩
theorem WrAt.put (ht : Try.prog.underlying t = some (.slice 5)) (hs : (Try.prog.info? t).map (·.size) = some 1) (ht2 : Try.prog.underlying t2 = some (.slice 5)) (h : WrAt T base g l v w) (h0 : base ≤ w.heap.size) (hx : Bts m x w) (hm : 0 < m.length) (hb : l.length + m.length ≤ 140737488355328) :
    ∃ r w1 w2, (Builtin.append_ #[t, t2] ty #[v, x]).run Try.prog w = .ok r w1 ∧ (Instr.storeAt t (.pointer (some ⟨g, 0, none⟩)) r).run Try.prog w1 = .ok () w2 ∧ WrAt T base g (l ++ m) r w2 ∧ WrStep g v w r w2 := by
  have key : ∃ r w1, (Builtin.append_ #[29, 29] ty #[v, x]).run Try.prog w = .ok r w1 ∧ OwnB base (l ++ m) r w1 ∧ WrStep g v w r w1 ∧ Blk g T [v] w1 ∧ r.ownBlock ≠ some g := by
    rcases h.row with hv | ⟨hv, hfull⟩
    · obtain ⟨r, w1, h1, h2, h3⟩ := r_appB (ty := ty) hv hx hb h0
      refine ⟨r, w1, h1, h2, ⟨Mv.of_grown h3.grown fun k hk _ => .inr hk, fun k hk => ?_⟩, h.blk.other h3.grown (Ne.symm h.off), ?_⟩
      · rcases h3.own with h4 | h4
        · rw [h4] at hk; exact .inl hk
        · exact .inr (h4 k hk)
      · rcases h3.own with h4 | h4
        · rw [h4]; exact h.off
        · intro h5
          have := h4 g h5
          have := h.blk.lt
          omega
    · obtain ⟨r, w1, h1, h2, h3⟩ := r_appG (ty := ty) (w0 := w) (Ext.refl w) (.inr ⟨hv, hfull⟩) hx hm hb
      refine ⟨r, w1, h1, h2.low h0, ⟨Mv.of_ext h3, fun k hk => .inr (h2.ge k hk)⟩, h.blk.ext h3, fun h5 => ?_⟩
      have := h2.ge g h5
      have := h.blk.lt
      omega
  obtain ⟨r, w1, h1, h2, h3, h4, h5⟩ := key
  have hr1 : r.oneCell' = true := by
    obtain ⟨A, n, c, rfl, _⟩ := h2.bts
    rfl
  obtain ⟨w2, h6, h7, h8⟩ := h4.stC (P := Try.prog) (t := t) (i := 0) (v := r) hs hr1 (by simp)
  refine ⟨r, w1, w2, (append_tyB ht ht2 v x).trans h1, h6, ⟨h.ge, h8, .inl ?_, h2.ge, h5, fun k hk => Nat.lt_of_lt_of_le (h2.lt k hk) h7.size⟩, h3.trans ⟨Mv.of_grown h7 fun k hk _ => .inl (Option.some.inj hk).symm, fun k hk => .inl hk⟩⟩
  obtain ⟨n, h9⟩ := h2
  exact ⟨n, World.ownsRow.kept h9 h7 (.inr h5)⟩
/-- A literal row of bytes of a named type. -/
theorem r_litT (ht : Try.prog.underlying t = some (.slice 5)) (l : List UInt8) (hl : l.length ≤ 16777216) (h0 : 0 < l.length) : ∃ v w1 w2, (Instr.buildSlice t l.length (number 0 (l.map U8)).toArray).run Try.prog w = .ok v w1 ∧ (convert t t v).run Try.prog w1 = .ok v w2 ∧ Ext w w2 ∧ Bts l v w2 ∧ ∃ ad, v = .slice (some ad) l.length l.length ∧ w.heap.size ≤ ad.block ∧ ad.block < w2.heap.size := by
  obtain ⟨i, hi, hz0, hs, _⟩ := info_parts info_u8
  have hf : ∀ Z : Array Value, Z.size = (l.map U8).length → Instr.fill (fun i => some (i * 1, 1)) Z (number 0 (l.map U8)) = some (l.map U8).toArray := fun Z hZ => by
    have := fill_number (l.map U8) [] Z.toList (fun v hv => one_cells (one_U8 l v hv)) (by simpa using hZ)
    simpa using this
  have hle : ¬ (l.length * 1 > 2 ^ 24) := by omega
  have hinfo : (typeInfo 5).run Try.prog w = .ok i w := by simp [typeInfo, hi]
  have hsz : (sizeOf 5).run Try.prog w = .ok 1 w := by simp [sizeOf, hinfo, hs]
  have hzv : (zeroValue 5).run Try.prog w = .ok (.int .u8 0) w := by simp [zeroValue, hinfo, hz0]
  have hrun : (Instr.buildSlice t l.length (number 0 (l.map U8)).toArray).run Try.prog w = .ok (.slice (some ⟨w.heap.size, 0, none⟩) l.length l.length) (w.alloc (.cells (l.map U8).toArray 5)) := by
    simp only [Instr.buildSlice, Sem.run_bind, run_underlying ht, Result.andThen_ok, hsz, if_neg hle]
    rw [if_neg (by omega)]
    simp only [Sem.run_bind, Sem.run_pure, Result.andThen_ok, hzv]
    rw [hf _ (by simp [Value.cells])]
    simp [newRow]
  refine ⟨_, _, _, hrun, Go.Lib.run_convert_bytes_const w t 5 _ _ _ ht Try.underlying5, Ext.new w _, ?_, ⟨_, rfl, Nat.le_refl _, by simp⟩⟩
  have hg := heap_alloc_new w (.cells (l.map U8).toArray 5 ((l.map U8).toArray.size, (l.map U8).toArray.size + 1))
  refine ⟨_, _, _, rfl, Nat.le_refl _, by unfold maxLen; omega, by simp, fun _ => ⟨_, rfl, fun j u hu => ?_⟩, fun h => by cases h⟩
  rw [Addr.add_mid, Nat.zero_add, cell_of_row _ _ j _ _ _ hg]
  simpa using hu
/-- A new writer: its bytes lie in a literal row. -/
theorem r_newW {ad : Addr} {z : Value} (hz : (Try.prog.info? T).map (·.zero) = some (some z)) (hzc : z.cells = [z].toArray) (hs : (Try.prog.info? t).map (·.size) = some 1) (h0 : Ext w0 w) (hv : Bts l v w) (he : v = .slice (some ad) l.length l.length) (hn : w0.heap.size ≤ ad.block) (hlt : ad.block < w.heap.size) :
    ∃ g wa wb, (Instr.alloc T true (.tuple #[])).run Try.prog w = .ok (.pointer (some ⟨g, 0, none⟩)) wa ∧ (Instr.storeAt t (.pointer (some ⟨g, 0, none⟩)) v).run Try.prog wa = .ok () wb ∧ Ext w0 wb ∧ WrAt T w0.heap.size g l v wb := by
  subst he
  obtain ⟨g, wa, h1, h2, h3, h4⟩ := r_allocB (P := Try.prog) (w := w) (t := T) (l := [z]) hz hzc
  obtain ⟨wb, h5, h6, h7⟩ := h4.stC (P := Try.prog) (t := t) (i := 0) (v := .slice (some ad) l.length l.length) hs rfl (by simp)
  have hx : Ext w wb := h3.of_new h6 h2
  have hg0 : w0.heap.size ≤ g := Nat.le_trans h0.size h2
  refine ⟨g, wa, wb, h1, h5, h0.trans hx, ⟨hg0, h7, .inr ⟨hv.ext hx, _, rfl⟩, fun k hk => ?_, fun hk => ?_, fun k hk => ?_⟩⟩
  · cases hk; exact hn
  · cases hk; omega
  · cases hk; exact Nat.lt_of_lt_of_le hlt hx.size
end
end Go.Rl
/- Regions that draw their order, whose late operations are walked in a given order: quiet ones may be taken early. Conditions: each rule names its own. -/
namespace Go.Rl
open Go.RowKit

section
variable {P : Program} {ops : Array Oper} {Env : World → Prop} {Rl : World → World → Prop} {mo : Bool} {Pn : List PanicEntry → World → Prop} {N : Nat}

def chainG (ops : Array Oper) (n : Nat) : Bool :=
  (List.range ops.size).all fun t => decide (t ≤ n) || (List.range t).any fun j => decide (n ≤ j) && Region.waitsFor .any ops t j
theorem tail_waitsG {n : Nat} {listed : Array Bool} (hs : Region.sinkB .any ops n = true) (hc : chainG ops n = true) (inv : HeadInv .any ops n listed) :
    ∀ (d i : Nat), n - i = d → i < n → listed.getD i true = false → ∀ t, n ≤ t → t ∉ Region.ready .any ops listed := by
  intro d
  induction d using Nat.strongRecOn with
  | _ d ih =>
    intro i hd hi hun t ht hr
    obtain ⟨_, ot, hot, hall⟩ := mem_ready.1 hr
    have htlt : t < ops.size := (Array.getElem?_eq_some_iff.1 hot).1
    by_cases htn : t = n
    · subst htn
      have h1 := List.all_eq_true.1 hs i (List.mem_range.2 hi)
      obtain ⟨j, hj, hj2⟩ := List.any_eq_true.1 h1
      simp only [Bool.and_eq_true, decide_eq_true_eq] at hj2
      obtain ⟨oj, hoj, e, he, hb, hon⟩ := Region.waitsFor_spec hj2.2
      have hjle : j ≤ t := by have := List.mem_range.1 hj; omega
      by_cases hjt : j = t
      · subst hjt
        have : oj = ot := Option.some.inj (hoj.symm.trans hot)
        subst this
        have h2 := hall e he hb
        rw [hon, getD_both hun] at h2
        cases h2
      · cases hl : listed.getD j false with
        | true =>
          have h2 := inv.closed j oj hoj hl e he hb
          rw [hon, getD_both hun] at h2
          cases h2
        | false =>
          have hjs : j < listed.size := by rw [inv.size]; omega
          exact ih (t - j) (by omega) j rfl (by omega) (getD_in hjs hl) t (Nat.le_refl _) hr
    · have h1 := List.all_eq_true.1 hc t (List.mem_range.2 htlt)
      simp only [Bool.or_eq_true, decide_eq_true_eq] at h1
      rcases h1 with h1 | h1
      · omega
      · obtain ⟨j, hj, hj2⟩ := List.any_eq_true.1 h1
        simp only [Bool.and_eq_true, decide_eq_true_eq] at hj2
        have hjt := List.mem_range.1 hj
        obtain ⟨o', ho', e, he, hb, hon⟩ := Region.waitsFor_spec hj2.2
        have : o' = ot := Option.some.inj (ho'.symm.trans hot)
        subst this
        have h2 := hall e he hb
        rw [hon, getD_both (inv.tail j hj2.1 (by omega))] at h2
        cases h2

/-- Operations whose value is theirs alone. -/
def quietB (o : Oper) : Bool := o.guard.isNone && o.dst.isSome && match o.op with | .extract .. | .move _ | .assign _ => true | _ => false
theorem quiet_run {o : Oper} (h : quietB o = true) (ρ : Operand → Value) : (∃ v, ∀ w, (execOp ρ o).run P w = .ok (.value v) w) ∨ ∃ x, (∀ v, x ≠ .panic v) ∧ ∀ w, (execOp ρ o).run P w = .halt x w := by
  obtain ⟨dst, op, ty, pos, aft, g⟩ := o
  unfold quietB at h
  simp only [Bool.and_eq_true] at h
  have h2 := h.2
  cases op <;> simp only [] at h2
  case move x => exact .inl ⟨ρ x, fun w => by simp [execOp]⟩
  case assign x => exact .inl ⟨ρ x, fun w => by simp [execOp]⟩
  case extract x n =>
    have e : execOp ρ ⟨dst, .extract x n, ty, pos, aft, g⟩ = (do pure (Next.value (← Instr.extract (ρ x) n)) : Sem Next) := rfl
    rw [e]
    cases hx : ρ x with
    | tuple vs =>
      cases hv : vs[n]? with
      | some v => exact .inl ⟨v, fun w => by simp [Instr.extract, hv]⟩
      | none => exact .inr ⟨.stuck "Extract: no such component", fun v => by simp, fun w => by simp [Instr.extract, hv, stuck, Sem.run]⟩
    | _ => exact .inr ⟨.stuck "Extract: tuple expected", fun v => by simp, fun w => by simp [Instr.extract, stuck, Sem.run]⟩
  all_goals cases h2

def okPerm (ops : Array Oper) : List Nat → Array Bool → Bool
  | [], listed => (Region.ready .any ops listed).isEmpty
  | i :: rest, listed => (decide (Region.ready .any ops listed = [i]) || ((match ops[i]? with | some o => quietB o | none => false) && Region.free .any ops listed i && (Region.ready .any ops listed).contains i)) && okPerm ops rest (listed.setIfInBounds i true)
theorem wpAny_of_perm {Q : Post} (hsel : Region.noSelect ops = true) : ∀ (perm : List Nat) (os : List Oper) (listed : Array Bool) (a : Act) (w : World), (perm.map fun i => ops[i]?) = os.map some → okPerm ops perm listed = true → wpList P ops (calm Q) os a w → wpAny P .any ops (calm Q) perm.length listed a w
  | [], os, listed, a, w, ho, hB, h => by
    have : os = [] := by cases os with | nil => rfl | cons o os => simp at ho
    subst this
    exact ⟨by simpa [okPerm] using hB, h⟩
  | i :: perm, os, listed, a, w, ho, hB, h => by
    cases os with
    | nil => simp at ho
    | cons o os =>
      simp only [List.map_cons, List.cons.injEq] at ho
      obtain ⟨h0, ho⟩ := ho
      simp only [okPerm, Bool.and_eq_true, Bool.or_eq_true, decide_eq_true_eq] at hB
      obtain ⟨hB1, hB2⟩ := hB
      have nolet : ¬ LetsOut (calm Q) := fun ⟨_, _, hq⟩ => by obtain ⟨hq, _⟩ := hq; cases hq
      rcases hB1 with hr | ⟨⟨hq, hf⟩, hr⟩
      · refine ⟨fun h1 => (by rw [hr] at h1; cases h1), fun k hk => ?_⟩
        rw [hr] at hk
        have hik : k = i := by simpa using hk
        subst hik
        have hw : wpOp P ops (calm Q) k (wpList P ops (calm Q) os) a w := by unfold wpOp; simp only [h0]; exact h
        exact wpOp_mono (fun a' w' h' => wpAny_of_perm hsel perm os _ a' w' ho hB2 h') hw
      · rw [h0] at hq
        have hq : quietB o = true := hq
        have hwant : Region.wanted o (yielded ops a.tmps) = true := by
          unfold quietB at hq
          simp only [Bool.and_eq_true, Option.isNone_iff_eq_none] at hq
          unfold Region.wanted
          rw [hq.1.1]
        unfold wpList at h
        rw [if_pos hwant] at h
        have h := h.resolve_right fun h => nolet h.2
        unfold Oper.wp at h
        rcases quiet_run (P := P) hq a.eval with ⟨v, hv⟩ | ⟨x, hx, hv⟩
        · rw [hv w] at h
          exact wpAny_take h0 hsel hf hr (fun c a w hp => by obtain ⟨hp, _⟩ := hp; cases hp) (.inl ⟨hwant, hv⟩) (wpAny_of_perm hsel perm os _ _ w ho hB2 h)
        · rw [hv w] at h
          cases x <;> first | exact absurd rfl (hx _) | exact h.elim

theorem wpAnyF_firstG {n i : Nat} {oi : Oper} {S : Fact} {L : Array Bool → Facts → Zst → Prop} (hi : ops[i]? = some oi) (hcalls : mo = true → callsB .any ops = true)
    (hs : Region.sinkB .any ops n = true) (hc : chainG ops n = true) (hin : i < n)
    (hdone : ∀ listed F Z, L listed F Z → ∀ j ∈ Region.ready .any ops listed, n ≤ j) :
    ∀ (f : Nat) (listed : Array Bool) (F : Facts) (Z Z' : Zst), HeadInv .any ops n listed →
      (∀ j oj, ops[j]? = some oj → j ≠ i → listed.getD j true = false → (∀ e ∈ oj.after, Region.binds .any e = true → e.on ≠ i) → oi.apart ops oj = true) →
      i ∈ Region.ready .any ops listed → GStep P ops Env Rl mo Pn N F Z oi S Z' →
      wpAnyF P .any ops Env Rl mo Pn N n L f (listed.setIfInBounds i true) (upd F oi.dst S) Z' → wpAnyF P .any ops Env Rl mo Pn N n L (f + 1) listed F Z :=
  wpAnyF_firstT hi hcalls hin (fun _ inv hun t ht => tail_waitsG hs hc inv _ i rfl hin hun t ht) hdone

def permHead (ops : Array Oper) (n : Nat) (perm : List Nat) : Nat → Nat → Array Bool → Bool
  | 0, _, listed => okPerm ops perm listed && (Region.ready .any ops listed).all fun j => decide (n ≤ j)
  | f + 1, k, listed => (Region.ready .any ops listed).contains k && Region.free .any ops listed k && permHead ops n perm f (k + 1) (listed.setIfInBounds k true)
theorem wpAnyF_lexG {n : Nat} {perm : List Nat} {Lq : Facts → Zst → Prop} (hcalls : mo = true → callsB .any ops = true) (hs : Region.sinkB .any ops n = true) (hc : chainG ops n = true) :
    ∀ (l : List Oper) (k : Nat) (listed : Array Bool) (F : Facts) (Z : Zst), (∀ j, j < l.length → l[j]? = ops[k + j]?) → k + l.length = n → HeadInv .any ops n listed →
    permHead ops n perm l.length k listed = true → (∀ t, StableR Rl (F t)) → StableZ Z → wpF P ops Env Rl mo Pn N l F Z Lq →
    wpAnyF P .any ops Env Rl mo Pn N n (fun listed' F' Z' => (okPerm ops perm listed' = true ∧ (Region.ready .any ops listed').all (fun j => decide (n ≤ j)) = true) ∧ Lq F' Z') l.length listed F Z
  | [], k, listed, F, Z, _, hk, _, hB, _, _, h => by
    simp only [List.length_nil, permHead, Bool.and_eq_true] at hB
    exact ⟨hB, h⟩
  | o :: l, k, listed, F, Z, hl, hk, inv, hB, hF, hZ, h => by
    have h0 : ops[k]? = some o := by simpa using (hl 0 (by simp)).symm
    simp only [List.length_cons, permHead, Bool.and_eq_true] at hB
    obtain ⟨⟨hr, hf⟩, hB'⟩ := hB
    have hkn : k < n := by simp only [List.length_cons] at hk; omega
    have hr' : k ∈ Region.ready .any ops listed := by simpa using hr
    obtain ⟨S, Z', hspec, hrest⟩ := h hF hZ
    exact wpAnyF_firstG h0 hcalls hs hc hkn (fun listed' F' Z' hL j hj => by simpa using List.all_eq_true.1 hL.1.2 j hj) l.length listed F Z Z' inv (Region.free_spec h0 hf) hr' hspec
      (wpAnyF_lexG hcalls hs hc l (k + 1) _ _ _ (fun j hj => by have := hl (j + 1) (by simp; omega); simpa [Nat.add_assoc, Nat.add_comm 1 j] using this) (by simp only [List.length_cons] at hk; omega) (inv.set hr' hkn) hB' (stable_upd hF hspec.stable) (hspec.zst hZ) hrest)
/-- n head operations, then perm. -/
def growB (ops : Array Oper) (n : Nat) (perm : List Nat) : Bool :=
  Region.noSelect ops && decide (n < ops.size) && Region.sinkB .any ops n && chainG ops n && decide (n + perm.length = ops.size) && permHead ops n perm n 0 (Array.replicate ops.size false)
def pick (os : List Oper) : List Nat → List Oper
  | [] => []
  | i :: is => match os[i]? with | some o => o :: pick os is | none => pick os is

theorem wp_any_growP {Q : Post} {a : Act} {D : List Deferred} {F : Facts} {Z : Zst} {w : World} {l : List Oper} {n : Nat} {perm : List Nat} (hE : EnvOk Env Rl) (hP : ∀ c w, ¬ Pn c w) (hcalls : mo = true → callsB .any l.toArray = true) (hB : growB l.toArray n perm = true) (hp : (perm.all fun i => decide (i < l.length)) = true)
    (hF : ∀ t, StableR Rl (F t)) (hZ : StableZ Z) (hz : Z w) (he : Env w) (hsat : Sat N D F a { w with drawn := w.drawn + 1 })
    (h : wpF P l.toArray Env Rl mo Pn N (l.take n) F Z (fun F Z => ∀ a' w', Env w' → Sat N D F a' w' → Z w' → wpList P l.toArray (calm Q) (pick l perm) a' w')) : wpAny P .any l.toArray (calm Q) l.toArray.size (Array.replicate l.toArray.size false) a { w with drawn := w.drawn + 1 } := by
  have hdr : Ext w { w with drawn := w.drawn + 1 } := ⟨rfl, rfl, rfl, Nat.le_refl _, fun _ _ => rfl⟩
  simp only [growB, Bool.and_eq_true, decide_eq_true_eq] at hB
  obtain ⟨⟨⟨⟨⟨hsel, hn⟩, hs⟩, hc⟩, hlen⟩, hlex⟩ := hB
  have hn' : n < l.length := by simpa using hn
  have htl : (l.take n).length = n := by simp; omega
  have inv0 : HeadInv .any l.toArray n (Array.replicate l.toArray.size false) :=
    ⟨by simp, fun j oj _ hl => (by rw [getD_replicate_false] at hl; cases hl), fun t _ ht => getD_in (by simpa using ht) (getD_replicate_false _ _)⟩
  have H := wpAnyF_lexG (perm := perm) hcalls hs hc (l.take n) 0 _ _ _ (fun j hj => by
    have hj' : j < n := by rw [htl] at hj; exact hj
    simp [hj']) (by simpa using htl) inv0 (by rw [htl]; exact hlex) hF hZ h
  have hpick : ∀ (perm : List Nat), (perm.all fun i => decide (i < l.length)) = true → (perm.map fun i => l.toArray[i]?) = (pick l perm).map some := by
    intro perm
    induction perm with
    | nil => intro _; rfl
    | cons i is ih =>
      intro hp
      simp only [List.all_cons, Bool.and_eq_true, decide_eq_true_eq] at hp
      have e : l[i]? = some l[i] := List.getElem?_eq_getElem hp.1
      simp only [List.map_cons, pick, e, List.getElem?_toArray]
      rw [← ih hp.2]
      simp
  have := wpAny_of_facts (D := D) (Q' := calm Q) (g := perm.length) hE (fun c _ w _ h => absurd h (hP c w)) (fun listed F Z hL hF hZ a' w' he hsat hz => wpAny_of_perm hsel perm (pick l perm) listed a' w' (hpick perm hp) hL.1.1 (hL.2 a' w' he hsat hz)) _ _ _ _ H hF hZ a { w with drawn := w.drawn + 1 } (hE.keep _ _ he (hE.ext _ _ hdr)) hsat (hZ _ _ hz hdr)
  rw [htl, hlen] at this
  exact this
theorem sat_fr {D : List Deferred} {l : Fr} {a : Act} {w : World} (ha : At N D l a) : Sat N D (frF l) a w := ⟨ha.size, ha.defers, fun t => by
  show frF l t (a.tmps.getD t undef) _
  unfold frF
  cases hv : lk l t with
  | some v => exact ha.at_ t v hv
  | none => trivial⟩
theorem c_growPE {Q : Post} {D : List Deferred} {l : Fr} {w : World} {id : Nat} {os : List Oper} (n : Nat) (perm : List Nat) (ts : List Nat) (Env : World → Prop) (Rl : World → World → Prop) (mo : Bool) (Z : Zst) (hE : EnvOk Env Rl) (he : Env w) (hZ : StableZ Z) (hz : Z w) (hcalls : mo = true → callsB .any os.toArray = true) (hm : P.follows .mixedOrders = true) (hB : growB os.toArray n perm = true) (hp : (perm.all fun i => decide (i < os.length)) = true)
    (h : wpF P os.toArray Env Rl mo NoP N (os.take n) (frF l) Z (fun F Z => ∀ w', Env w' → Z w' → OpenJ F w' ts (fun l' => OpsJ P os.toArray (calm Q) N D l' w' (pick os perm)))) : CodeJ P Q N D l w (.region id os.toArray true) := fun a ha => by
  refine wp_mono (wp_region_any (Q := calm Q) hm (wp_any_growP (D := D) hE (fun _ _ h => h) hcalls hB hp (frF_stable l) hZ hz he (sat_fr ha) (wpF_mono _ _ _ (fun F Z hK a' w' he hs hz => ?_) h))) fun e a w he => by obtain ⟨rfl, h⟩ := he; exact h
  obtain ⟨l', hl', hk⟩ := OpenJ.use hs (hK w' he hz)
  exact hk a' hl'
theorem c_growP {Q : Post} {D : List Deferred} {l : Fr} {w : World} {id : Nat} {os : List Oper} (n : Nat) (perm : List Nat) (ts : List Nat) (hm : P.follows .mixedOrders = true) (hB : growB os.toArray n perm = true) (hp : (perm.all fun i => decide (i < os.length)) = true)
    (h : wpF P os.toArray (Ext w) Ext false NoP N (os.take n) (frF l) (fun _ => True) (fun F _ => ∀ w', Ext w w' → OpenJ F w' ts (fun l' => OpsJ P os.toArray (calm Q) N D l' w' (pick os perm)))) : CodeJ P Q N D l w (.region id os.toArray true) :=
  c_growPE n perm ts (Ext w) Ext false (fun _ => True) (EnvOk.plain w) (Ext.refl w) StableZ.triv trivial (fun h => by cases h) hm hB hp (wpF_mono _ _ _ (fun _ _ h w' he _ => h w' he) h)
theorem n_calm {Q : Post} {D : List Deferred} {l : Fr} {w : World} (h : NormJ Q N D l w) : NormJ (calm Q) N D l w := fun a ha => ⟨rfl, h a ha⟩
theorem noOut_calm {Q : Post} : ¬ LetsOut (calm Q) := fun ⟨_, _, hq⟩ => by
  obtain ⟨hq, _⟩ := hq
  cases hq
theorem I.c_held {Q : Post} {D : List Deferred} {l : Fr} {w : World} {rd : Option Nat} {id : Nat} {os : List Oper} (S : World → Prop) (n : Nat) (hn : os.toArray.size = n) (hm : P.follows .mixedOrders = true) (hd : noDefer os = true)
    (h : HeldJ P os.toArray Q N D S n (Array.replicate n false) l w.drew) : CodeI rd P Q N D l w (.region id os.toArray true) := fun a ha => by
  subst hn
  refine wpIn_mono (wpIn_region_draw (Q := calm Q) fun t => opsIn_of noOut_calm (.inr hd) _ _ _ ?_) fun e a w he => by obtain ⟨rfl, h⟩ := he; exact h
  simp only [Region.schedule, hm, Bool.true_or, if_true]
  exact wpAny_sound os.toArray.size t _ a _ (wpAny_of_held _ _ _ _ (h a ha))
end
end Go.Rl
/- Regions that draw their order and whose first operation, a quiet one, may be late: it is taken early. Conditions: each rule names its own. -/
namespace Go.Rl
open Go.RowKit

section
variable {P : Program} {ops : Array Oper} {Env : World → Prop} {Rl : World → World → Prop} {mo : Bool} {Pn : List PanicEntry → World → Prop} {N : Nat}
def sinkQ (ops : Array Oper) (n : Nat) : Bool :=
  (List.range n).all fun i => decide (i = 0) || (List.range (n + 1)).any fun j => decide (i < j) && Region.waitsFor .any ops j i
theorem tail_waitsQ {n : Nat} {listed : Array Bool} (hs : sinkQ ops n = true) (hc : chainG ops n = true) (inv : HeadInv .any ops n listed) :
    ∀ (d i : Nat), n - i = d → 0 < i → i < n → listed.getD i true = false → ∀ t, n ≤ t → t ∉ Region.ready .any ops listed := by
  intro d
  induction d using Nat.strongRecOn with
  | _ d ih =>
    intro i hd h0 hi hun t ht hr
    obtain ⟨_, ot, hot, hall⟩ := mem_ready.1 hr
    have htlt : t < ops.size := (Array.getElem?_eq_some_iff.1 hot).1
    by_cases htn : t = n
    · subst htn
      have h1 := List.all_eq_true.1 hs i (List.mem_range.2 hi)
      simp only [Bool.or_eq_true, decide_eq_true_eq] at h1
      obtain ⟨j, hj, hj2⟩ := List.any_eq_true.1 (h1.resolve_left (by omega))
      simp only [Bool.and_eq_true, decide_eq_true_eq] at hj2
      obtain ⟨oj, hoj, e, he, hb, hon⟩ := Region.waitsFor_spec hj2.2
      have hjle : j ≤ t := by have := List.mem_range.1 hj; omega
      by_cases hjt : j = t
      · subst hjt
        have : oj = ot := Option.some.inj (hoj.symm.trans hot)
        subst this
        have h2 := hall e he hb
        rw [hon, getD_both hun] at h2
        cases h2
      · cases hl : listed.getD j false with
        | true =>
          have h2 := inv.closed j oj hoj hl e he hb
          rw [hon, getD_both hun] at h2
          cases h2
        | false =>
          have hjs : j < listed.size := by rw [inv.size]; omega
          exact ih (t - j) (by omega) j rfl (by omega) (by omega) (getD_in hjs hl) t (Nat.le_refl _) hr
    · have h1 := List.all_eq_true.1 hc t (List.mem_range.2 htlt)
      simp only [Bool.or_eq_true, decide_eq_true_eq] at h1
      rcases h1 with h1 | h1
      · omega
      · obtain ⟨j, hj, hj2⟩ := List.any_eq_true.1 h1
        simp only [Bool.and_eq_true, decide_eq_true_eq] at hj2
        have hjt := List.mem_range.1 hj
        obtain ⟨o', ho', e, he, hb, hon⟩ := Region.waitsFor_spec hj2.2
        have : o' = ot := Option.some.inj (ho'.symm.trans hot)
        subst this
        have h2 := hall e he hb
        rw [hon, getD_both (inv.tail j hj2.1 (by omega))] at h2
        cases h2
theorem wpAnyF_firstQ {n i : Nat} {oi : Oper} {S : Fact} {L : Array Bool → Facts → Zst → Prop} (hi : ops[i]? = some oi) (hcalls : mo = true → callsB .any ops = true)
    (hs : sinkQ ops n = true) (hc : chainG ops n = true) (hi0 : 0 < i) (hin : i < n)
    (hdone : ∀ listed F Z, L listed F Z → ∀ j ∈ Region.ready .any ops listed, n ≤ j) :
    ∀ (f : Nat) (listed : Array Bool) (F : Facts) (Z Z' : Zst), HeadInv .any ops n listed →
      (∀ j oj, ops[j]? = some oj → j ≠ i → listed.getD j true = false → (∀ e ∈ oj.after, Region.binds .any e = true → e.on ≠ i) → oi.apart ops oj = true) →
      i ∈ Region.ready .any ops listed → GStep P ops Env Rl mo Pn N F Z oi S Z' →
      wpAnyF P .any ops Env Rl mo Pn N n L f (listed.setIfInBounds i true) (upd F oi.dst S) Z' → wpAnyF P .any ops Env Rl mo Pn N n L (f + 1) listed F Z :=
  wpAnyF_firstT hi hcalls hin (fun _ inv hun t ht => tail_waitsQ hs hc inv _ i rfl hi0 hin hun t ht) hdone
theorem wpAnyF_lexQ {n : Nat} {perm : List Nat} {Lq : Facts → Zst → Prop} (hcalls : mo = true → callsB .any ops = true) (hs : sinkQ ops n = true) (hc : chainG ops n = true) :
    ∀ (l : List Oper) (k : Nat) (listed : Array Bool) (F : Facts) (Z : Zst), 0 < k → (∀ j, j < l.length → l[j]? = ops[k + j]?) → k + l.length = n → HeadInv .any ops n listed →
    permHead ops n perm l.length k listed = true → (∀ t, StableR Rl (F t)) → StableZ Z → wpF P ops Env Rl mo Pn N l F Z Lq →
    wpAnyF P .any ops Env Rl mo Pn N n (fun listed' F' Z' => (okPerm ops perm listed' = true ∧ (Region.ready .any ops listed').all (fun j => decide (n ≤ j)) = true) ∧ Lq F' Z') l.length listed F Z
  | [], k, listed, F, Z, _, _, hk, _, hB, _, _, h => by
    simp only [List.length_nil, permHead, Bool.and_eq_true] at hB
    exact ⟨hB, h⟩
  | o :: l, k, listed, F, Z, hk0, hl, hk, inv, hB, hF, hZ, h => by
    have h0 : ops[k]? = some o := by simpa using (hl 0 (by simp)).symm
    simp only [List.length_cons, permHead, Bool.and_eq_true] at hB
    obtain ⟨⟨hr, hf⟩, hB'⟩ := hB
    have hkn : k < n := by simp only [List.length_cons] at hk; omega
    have hr' : k ∈ Region.ready .any ops listed := by simpa using hr
    obtain ⟨S, Z', hspec, hrest⟩ := h hF hZ
    exact wpAnyF_firstQ h0 hcalls hs hc hk0 hkn (fun listed' F' Z' hL j hj => by simpa using List.all_eq_true.1 hL.1.2 j hj) l.length listed F Z Z' inv (Region.free_spec h0 hf) hr' hspec
      (wpAnyF_lexQ hcalls hs hc l (k + 1) _ _ _ (by omega) (fun j hj => by have := hl (j + 1) (by simp; omega); simpa [Nat.add_assoc, Nat.add_comm 1 j] using this) (by simp only [List.length_cons] at hk; omega) (inv.set hr' hkn) hB' (stable_upd hF hspec.stable) (hspec.zst hZ) hrest)
/-- The first operation, then the others of the first n, then perm. -/
def growQ (ops : Array Oper) (n : Nat) (perm : List Nat) : Bool :=
  Region.noSelect ops && decide (0 < n) && decide (n < ops.size) && sinkQ ops n && chainG ops n && decide (n + perm.length = ops.size) && Region.free .any ops (Array.replicate ops.size false) 0 && (Region.ready .any ops (Array.replicate ops.size false)).contains 0 && permHead ops n perm (n - 1) 1 ((Array.replicate ops.size false).setIfInBounds 0 true)
theorem c_growQ {Q : Post} {D : List Deferred} {l : Fr} {w : World} {id d : Nat} {x : Operand} {v : Value} {ty : TypeId} {pos : String} {aft : Array Edge} {os : List Oper} (n : Nat) (perm : List Nat) (ts : List Nat) (hm : P.follows .mixedOrders = true)
    (hB : growQ ((⟨some d, .move x, ty, pos, aft, none⟩ : Oper) :: os).toArray n perm = true) (hp : (perm.all fun i => decide (i < os.length + 1)) = true) (hx : ev l x = some v) (hd : Nat.blt d N = true)
    (h : wpF P ((⟨some d, .move x, ty, pos, aft, none⟩ : Oper) :: os).toArray (Ext w) Ext false NoP N (os.take (n - 1)) (frF ((d, v) :: l)) (fun _ => True) (fun F _ => ∀ w', Ext w w' → OpenJ F w' ts (fun l' => OpsJ P ((⟨some d, .move x, ty, pos, aft, none⟩ : Oper) :: os).toArray (calm Q) N D l' w' (pick ((⟨some d, .move x, ty, pos, aft, none⟩ : Oper) :: os) perm)))) : CodeJ P Q N D l w (.region id ((⟨some d, .move x, ty, pos, aft, none⟩ : Oper) :: os).toArray true) := fun a ha => by
  obtain ⟨o, ho⟩ : ∃ o : Oper, o = ⟨some d, .move x, ty, pos, aft, none⟩ := ⟨_, rfl⟩
  rw [← ho] at hB h ⊢
  have ha' := ha.put hd v
  have hsat : Sat N D (frF ((d, v) :: l)) (a.put (some d) v) { w with drawn := w.drawn + 1 } := ⟨ha'.size, ha'.defers, fun t => by
    show frF ((d, v) :: l) t ((a.put (some d) v).tmps.getD t undef) _
    unfold frF
    cases hv : lk ((d, v) :: l) t with
    | some v => exact ha'.at_ t v hv
    | none => trivial⟩
  simp only [growQ, Bool.and_eq_true, decide_eq_true_eq] at hB
  obtain ⟨⟨⟨⟨⟨⟨⟨⟨hsel, hn0⟩, hn⟩, hs⟩, hc⟩, hlen⟩, hf⟩, hr⟩, hlex⟩ := hB
  have hn' : n < os.length + 1 := by simpa using hn
  have htl : (os.take (n - 1)).length = n - 1 := by simp; omega
  have h00 : (o :: os).toArray[0]? = some o := by simp
  have inv0 : HeadInv .any (o :: os).toArray n (Array.replicate (o :: os).toArray.size false) :=
    ⟨by simp, fun j oj _ hl => (by rw [getD_replicate_false] at hl; cases hl), fun t _ ht => getD_in (by simpa using ht) (getD_replicate_false _ _)⟩
  have hr' : 0 ∈ Region.ready .any (o :: os).toArray (Array.replicate (o :: os).toArray.size false) := by simpa using hr
  have H := wpAnyF_lexQ (perm := perm) (fun h => by cases h) hs hc (os.take (n - 1)) 1 _ _ _ (by omega) (fun j hj => by
    have hj' : j < n - 1 := by rw [htl] at hj; exact hj
    simp [hj', Nat.add_comm 1 j]) (by rw [htl]; omega) (inv0.set hr' (by omega)) (by rw [htl]; exact hlex) (frF_stable _) StableZ.triv (wpF_mono _ _ _ (fun F Z hK a' w' he hs => by
      obtain ⟨l', hl', hk⟩ := OpenJ.use hs (hK w' he)
      exact hk a' hl' : ∀ F (Z : Zst), _ → (∀ a' w', Ext w w' → Sat N D F a' w' → wpList P (o :: os).toArray (calm Q) (pick (o :: os) perm) a' w')) h)
  have hpick : ∀ (perm : List Nat), (perm.all fun i => decide (i < (o :: os).length)) = true → (perm.map fun i => (o :: os).toArray[i]?) = (pick (o :: os) perm).map some := by
    intro perm
    induction perm with
    | nil => intro _; rfl
    | cons i is ih =>
      intro hp
      simp only [List.all_cons, Bool.and_eq_true, decide_eq_true_eq] at hp
      have e : (o :: os)[i]? = some (o :: os)[i] := List.getElem?_eq_getElem hp.1
      simp only [List.map_cons, pick, e, List.getElem?_toArray]
      rw [← ih hp.2]
      simp
  have rest := wpAny_of_facts (D := D) (Q' := calm Q) (g := perm.length) (EnvOk.plain w) (fun _ _ _ _ h => h.elim) (fun listed F Z hL hF hZ a' w' he hsat hz => wpAny_of_perm hsel perm (pick (o :: os) perm) listed a' w' (hpick perm (by simpa using hp)) hL.1.1 (hL.2 a' w' he hsat)) _ _ _ _ H (frF_stable _) StableZ.triv (a.put (some d) v) { w with drawn := w.drawn + 1 } ⟨rfl, rfl, rfl, Nat.le_refl _, fun _ _ => rfl⟩ hsat trivial
  rw [htl] at rest
  refine wp_mono (wp_region_any (Q := calm Q) hm ?_) fun e a w he => by obtain ⟨rfl, h⟩ := he; exact h
  have hsz : (o :: os).toArray.size = (n - 1 + perm.length) + 1 := by rw [← hlen]; omega
  rw [show wpAny P .any (o :: os).toArray (calm Q) (o :: os).toArray.size = wpAny P .any (o :: os).toArray (calm Q) ((n - 1 + perm.length) + 1) by rw [hsz]]
  have hval : (∀ w' : World, (execOp a.eval o).run P w' = .ok (.value v) w') := fun w' => by
    rw [ho]
    have hv : a.eval x = v := ha.ev hx
    simp [execOp, hv]
  have hdst : o.dst = some d := by rw [ho]
  exact wpAny_take h00 hsel hf hr (fun c a w hp => by obtain ⟨hp, _⟩ := hp; cases hp) (.inl ⟨by rw [ho]; rfl, hval⟩) (by rw [hdst]; exact rest)
end
end Go.Rl
/- The model's writer walked: count, ints, rats. Conditions: what is written is short. -/
namespace Go.Rl
open Go.RowKit Go.Proofs
theorem call_WCount : Callable Try.prog 16 := ⟨_, Try.func16, by kernel_rfl, rfl⟩
theorem call_WInts : Callable Try.prog 17 := ⟨_, Try.func17, by kernel_rfl, rfl⟩
theorem call_WRats : Callable Try.prog 18 := ⟨_, Try.func18, by kernel_rfl, rfl⟩
theorem size_writer : (Try.prog.info? 45).map (·.size) = some 1 := by kernel_rfl
/-- The writer at block g goes on: its bytes become l. -/
def WrE (base g : Nat) (l : List UInt8) (v : Value) (w : World) (w' : World) : Prop := ∃ v', WrAt 45 base g l v' w' ∧ WrStep g v w v' w'
theorem encI_len {n : Int} (h : i64 n) : 1 ≤ (encI n).length ∧ (encI n).length ≤ 10 := ⟨uv_pos _, uv_len (zig_lt h.1 h.2)⟩
theorem encN_pos (l : List UInt32) : 1 ≤ (encN l).length := by
  have := uv_pos l.length
  simp only [encN, List.length_append]
  omega
theorem encQ_len {q : RatD} (h1 : q.2.1.length ≤ 1073741824) (h2 : q.2.2.length ≤ 1073741824) : 1 ≤ (encQ q).length ∧ (encQ q).length ≤ 21 + 4 * q.2.1.length + 4 * q.2.2.length := by
  have a := encN_len q.2.1 (by omega)
  have b := encN_len q.2.2 (by omega)
  simp only [encQ, encR, List.length_append, List.length_cons, List.length_nil]
  omega
def lenQs : List RatD → Nat
  | [] => 0
  | q :: l => 21 + 4 * q.2.1.length + 4 * q.2.2.length + lenQs l
theorem lenQs_drop {l : List RatD} {i : Nat} (hi : i < l.length) : lenQs (l.drop i) = 21 + 4 * l[i].2.1.length + 4 * l[i].2.2.length + lenQs (l.drop (i + 1)) := by
  rw [List.drop_eq_getElem_cons hi]; rfl
theorem flatMap_snoc {α β : Type} {f : α → List β} {l : List α} {i : Nat} (hi : i < l.length) : (l.take (i + 1)).flatMap f = (l.take i).flatMap f ++ f l[i] := by
  rw [List.take_succ_eq_append_getElem hi, List.flatMap_append, List.flatMap_singleton]
theorem WCount_spec {w : World} {b g : Nat} {l : List UInt8} {n : Nat} {v : Value} (hW : WrAt 45 b g l v w) (h0 : b ≤ w.heap.size) (hl : l.length ≤ 35184372088832) (hn : n ≤ 9223372036854775807) :
    Calls Try.prog 16 #[.pointer (some ⟨g, 0, none⟩), I (n : Int)] w (Ret fun _ w' => WrE b g (l ++ uv n) v w w') := by
  refine enter (vs := [.pointer (some ⟨g, 0, none⟩), I (n : Int)]) Try.func16 rfl rfl rfl ?_
  have kg := hW.blk
  have hun : (UInt64.ofNat n).toNat = n := by rw [UInt64.toNat_ofNat']; omega
  refine c_growQ 7 [7, 8, 9] [4, 7, 10] (by kernel_rfl) (by kernel_rfl) rfl rfl rfl ?_
  refine f_move rfl rfl (f_nilCheck rfl rfl (f_load rfl rfl (fun w hw => r_load1 Try.underlying45 rfl (hw.cell_some kg.k0)) (f_move rfl rfl (f_conv rfl rfl (fun w hw => r_n_u64 Try.underlying3 Try.underlying69) ?_))))
  refine f_call (S := Bts (uv n)) call_AppendUint (Bts.stable _) rfl (fun w hw => by rintro _ rfl _ rfl; exact Ret.mono (AppendUint_spec (n := UInt64.ofNat n) (Bts.nil _) (by simp)) fun v w' h => ⟨h.1, by have := h.2.bts; rwa [hun, List.nil_append] at this⟩) ?_
  refine f_nil ?_
  intro wg0 xg0
  rintro _ rfl
  rintro _ hq7
  obtain rfl := Eq.symm hq7
  intro vg10 b10
  have hun2 := uv_pos n
  have hun3 := uv_len (n := n) (by omega)
  obtain ⟨v11, w11, w12, hr11, hs11, hW', st12⟩ := WrAt.put (ty := 45) Try.underlying45 size_writer Try.underlying29 (hW.ext xg0) (Nat.le_trans h0 xg0.size) b10 (by omega) (by omega)
  refine o_append rfl rfl hr11 ?_
  refine o_nilCheck rfl rfl (o_store rfl rfl (hs11) (o_nil (n_calm (n_body0 rfl ?_))))
  exact ⟨_, rfl, v11, hW', (WrStep.of_ext xg0).trans st12⟩
theorem WInts_spec {w : World} {b g : Nat} {l : List UInt8} {ns : List Int} {nv v : Value} (hW : WrAt 45 b g l v w) (h0 : b ≤ w.heap.size) (hv : RpX (WrX g v) w (dInts ns) [nv]) (hi64 : ∀ n ∈ ns, i64 n) (hl : l.length + 10 * ns.length ≤ 35184372088832) :
    Calls Try.prog 17 #[.pointer (some ⟨g, 0, none⟩), nv] w (Ret fun _ w' => WrE b g (l ++ ns.flatMap encI) v w w') := by
  refine enter (vs := [.pointer (some ⟨g, 0, none⟩), nv]) Try.func17 rfl rfl rfl ?_
  have hd : DsV dIn ns nv w := hv.rp
  have hll := hd.len
  refine c_seq (c_region (o_move rfl rfl (o_len rfl rfl (r_lenDs Try.underlying22 hd) (o_move rfl rfl (o_nil (n_then (c_block ?_)))))))
  refine c_loop2 (fun (i : Nat) (u : Value) => [(0, .pointer (some ⟨g, 0, none⟩)), (6, nv), (7, I (ns.length : Int)), (8, I (i : Int))]) (fun (i : Nat) (u : Value) w' => WrAt 45 b g (l ++ (ns.take i).flatMap encI) u w' ∧ WrStep g v w u w' ∧ i ≤ ns.length ∧ ((ns.take i).flatMap encI).length ≤ 10 * i) (fun (i : Nat) (u : Value) => ns.length - i) (0) (v) ⟨rfl, rfl, rfl, rfl, trivial⟩ ⟨by simpa using hW, WrStep.refl, by omega, by simp⟩ ?_
  rintro i u wL ⟨hW1, st1, hi, hle⟩
  refine c_seq (c_region (o_bin rfl rfl rfl (r_lss_i) (o_nil (n_then (c_seq ?_)))))
  refine c_if rfl (fun h9 => ?_) (fun h9 => ?_)
  · have hd1 : DsV dIn ns nv wL := (hv.step st1).rp
    refine c_skip (n_then (c_seq (c_block (c_seq (c_region ?_)))))
    obtain ⟨a10, c10, p10, q10, h10⟩ := r_ixDs (P := Try.prog) (sz := 1) Try.underlying22 (by kernel_rfl) dIn_size (by omega) hd1 (i := i) (by omega) .i64
    obtain ⟨e10, he10⟩ : ∃ e, e = ns[i]'(by omega) := ⟨_, rfl⟩
    rw [← he10] at h10
    obtain rfl := dIn_inv h10
    refine o_indexAddr rfl rfl rfl (p10 _) ?_
    have hn := hi64 e10 (by rw [he10]; exact List.getElem_mem _)
    have hen := encI_len hn
    refine o_load rfl rfl (r_load1 Try.underlying3 rfl q10.cell0) (o_assign rfl rfl (o_nil (n_then ?_)))
    have kg := hW1.blk
    refine c_growQ 6 [6, 7, 8] [0, 6, 7, 8, 12, 15, 17] (by kernel_rfl) (by kernel_rfl) rfl rfl rfl ?_
    refine f_move rfl rfl (f_nilCheck rfl rfl (f_load rfl rfl (fun w hw => r_load1 Try.underlying45 rfl (hw.cell_some kg.k0)) (f_move rfl rfl (f_call (S := Bts (encI e10)) call_AppendInt (Bts.stable _) rfl (fun w hw => by rintro _ rfl _ rfl; exact Ret.mono (AppendInt_spec (n := e10) (Bts.nil _) (by simp) hn.1 hn.2) fun v w' h => ⟨h.1, by have := h.2.bts; rwa [List.nil_append] at this⟩) ?_))))
    refine f_nil ?_
    intro wg3 xg3
    rintro _ rfl
    rintro _ hq6
    obtain rfl := Eq.symm hq6
    rintro _ rfl
    rintro _ rfl
    rintro _ rfl
    rintro _ hq15
    obtain rfl := Eq.symm hq15
    intro vg17 b17
    obtain ⟨v18, w18, w19, hr18, hs18, hW2, st19⟩ := WrAt.put (ty := 45) Try.underlying45 size_writer Try.underlying29 (hW1.ext xg3) (Nat.le_trans h0 (Nat.le_trans st1.mv.size xg3.size)) b17 (by omega) (by simp only [List.length_append]; omega)
    refine o_append rfl rfl hr18 ?_
    refine o_nilCheck rfl rfl (o_store rfl rfl (hs18) (o_nil (n_calm (n_block (n_then (c_region (o_bin (r := I ((i + 1 : Nat) : Int)) rfl rfl rfl (by have e : ((i + 1 : Nat) : Int) = (i : Int) + 1 := (by omega); rw [e]; exact r_add_i (by omega) (by omega)) ?_)))))))
    refine o_move rfl rfl (o_nil ?_)
    refine n_round2 (i + 1) (v18) ⟨rfl, rfl, rfl, rfl, trivial⟩ ⟨by rw [flatMap_snoc (by omega), ← he10, ← List.append_assoc]; exact hW2, (st1.trans (WrStep.of_ext xg3)).trans st19, by omega, by rw [flatMap_snoc (by omega), ← he10, List.length_append]; omega⟩ (by omega)
  · refine c_exit (x_then (x_then (x_here (n_body0 rfl ?_))))
    exact ⟨_, rfl, u, by rw [List.take_of_length_le (by omega)] at hW1; exact hW1, st1⟩
theorem WRats_spec {w : World} {b g : Nat} {l : List UInt8} {qs : List RatD} {qv v : Value} (hW : WrAt 45 b g l v w) (h0 : b ≤ w.heap.size) (hv : RpX (WrX g v) w (dRats qs) [qv]) (hs : small qs) (hl : l.length + lenQs qs ≤ 17592186044416) :
    Calls Try.prog 18 #[.pointer (some ⟨g, 0, none⟩), qv] w (Ret fun _ w' => WrE b g (l ++ encQs qs) v w w') := by
  refine enter (vs := [.pointer (some ⟨g, 0, none⟩), qv]) Try.func18 rfl rfl rfl ?_
  have hd : DsV dRat qs qv w := hv.rp
  have hll := hd.len
  refine c_seq (c_region (o_move rfl rfl (o_move rfl rfl (o_len rfl rfl (r_lenDs Try.underlying35 hd) (o_call call_WCount rfl rfl ((WCount_spec hW h0 (by omega) (by omega))) ?_)))))
  rintro v9 w9 ⟨v9, hW9, st9⟩
  have m9 := st9.mv
  have hd9 : DsV dRat qs qv w9 := (hv.step st9).rp
  refine o_nil (n_then (c_seq (c_region (o_move rfl rfl (o_len rfl rfl (r_lenDs Try.underlying35 hd9) (o_move rfl rfl (o_nil (n_then (c_block ?_)))))))))
  refine c_loop2 (fun (i : Nat) (u : Value) => [(0, .pointer (some ⟨g, 0, none⟩)), (10, qv), (11, I (qs.length : Int)), (12, I (i : Int))]) (fun (i : Nat) (u : Value) w' => WrAt 45 b g (l ++ uv qs.length ++ (qs.take i).flatMap encQ) u w' ∧ WrStep g v w u w' ∧ i ≤ qs.length ∧ ((qs.take i).flatMap encQ).length + lenQs (qs.drop i) ≤ lenQs qs) (fun (i : Nat) (u : Value) => qs.length - i) (0) (v9) ⟨rfl, rfl, rfl, rfl, trivial⟩ ⟨by simpa using hW9, st9, by omega, by simp⟩ ?_
  rintro i u wL ⟨hW1, st1, hi, hle⟩
  refine c_seq (c_region (o_bin rfl rfl rfl (r_lss_i) (o_nil (n_then (c_seq ?_)))))
  refine c_if rfl (fun h13 => ?_) (fun h13 => ?_)
  · have hd1 : DsV dRat qs qv wL := (hv.step st1).rp
    refine c_skip (n_then (c_seq (c_block (c_seq (c_region ?_)))))
    obtain ⟨a14, c14, p14, q14, h14⟩ := r_ixDs (P := Try.prog) (sz := 3) Try.underlying35 (by kernel_rfl) dRat_size (by omega) hd1 (i := i) (by omega) .i64
    obtain ⟨e14, he14⟩ : ∃ e, e = qs[i]'(by omega) := ⟨_, rfl⟩
    rw [← he14] at h14
    obtain ⟨x14_0, x14_1, rfl, f14_0, f14_1⟩ := dRat_inv h14
    refine o_indexAddr rfl rfl rfl (p14 _) ?_
    have hn := hs e14 (by rw [he14]; exact List.getElem_mem _)
    have hen := encQ_len hn.1 hn.2
    have hlq : lenQs (qs.drop i) = 21 + 4 * e14.2.1.length + 4 * e14.2.2.length + lenQs (qs.drop (i + 1)) := by rw [lenQs_drop (by omega), ← he14]
    refine o_load rfl rfl (q14.ld Try.underlying41 rfl (by kernel_rfl)) ?_
    obtain ⟨g5, w5, hr5, l5, x5, k5⟩ := r_allocB (P := Try.prog) (w := wL) (t := 41) (z := .agg #[B false, .slice none 0 0, .slice none 0 0]) (l := [B false, .slice none 0 0, .slice none 0 0]) (by kernel_rfl) rfl
    refine o_alloc rfl hr5 ?_
    obtain ⟨w3_3, s3_3, q3_3, k3_3⟩ := k5.stS (P := Try.prog) (t := 41) (m := [B e14.1, x14_0, x14_1]) rfl (by kernel_rfl) (Ones.cons rfl (Ones.cons f14_0.one (Ones.cons f14_1.one Ones.nil)))
    refine o_store rfl rfl s3_3 ?_
    have x3_3 := Ext.of_new (x5) q3_3 l5
    refine o_nil (n_then ?_)
    have hW1 := hW1.ext (x3_3)
    have st1 := st1.trans (WrStep.of_ext (x3_3))
    have kg := hW1.blk
    refine c_growQ 6 [6, 7, 8] [0, 10, 11, 12, 16, 19, 21] (by kernel_rfl) (by kernel_rfl) rfl rfl rfl ?_
    refine f_move rfl rfl (f_nilCheck rfl rfl (f_load rfl rfl (fun w hw => r_load1 Try.underlying45 rfl (hw.cell_some kg.k0)) (f_load rfl rfl (fun w hw => (k3_3.ext hw).ld Try.underlying41 rfl (by kernel_rfl)) ?_)))
    refine f_call (S := Bts (encQ e14)) call_AppendRat (Bts.stable _) rfl (fun w hw => by rintro _ rfl _ rfl; exact Ret.mono (AppendRat_spec (Bts.nil _) (RatV.mk ((f14_0.ext x3_3).ext hw) ((f14_1.ext x3_3).ext hw)) (by simp only [List.length_nil]; omega)) fun v w' h => ⟨h.1, by have := h.2.bts; rwa [List.nil_append] at this⟩) ?_
    refine f_nil ?_
    intro wg4 xg4
    rintro _ rfl
    rintro _ hq10
    obtain rfl := Eq.symm hq10
    rintro _ rfl
    rintro _ rfl
    rintro _ rfl
    rintro _ hq19
    obtain rfl := Eq.symm hq19
    intro vg21 b21
    have hun := uv_len (n := qs.length) (by omega)
    obtain ⟨v22, w22, w23, hr22, hs22, hW2, st23⟩ := WrAt.put (ty := 45) Try.underlying45 size_writer Try.underlying29 (hW1.ext xg4) (Nat.le_trans h0 (Nat.le_trans st1.mv.size xg4.size)) b21 (by omega) (by simp only [List.length_append]; omega)
    refine o_append rfl rfl hr22 ?_
    refine o_nilCheck rfl rfl (o_store rfl rfl (hs22) (o_nil (n_calm (n_block (n_then (c_region (o_bin (r := I ((i + 1 : Nat) : Int)) rfl rfl rfl (by have e : ((i + 1 : Nat) : Int) = (i : Int) + 1 := (by omega); rw [e]; exact r_add_i (by omega) (by omega)) ?_)))))))
    refine o_move rfl rfl (o_nil ?_)
    refine n_round2 (i + 1) (v22) ⟨rfl, rfl, rfl, rfl, trivial⟩ ⟨by rw [flatMap_snoc (by omega), ← he14, ← List.append_assoc]; exact hW2, (st1.trans (WrStep.of_ext xg4)).trans st23, by omega, by rw [flatMap_snoc (by omega), ← he14, List.length_append]; omega⟩ (by omega)
  · refine c_exit (x_then (x_then (x_here (n_body0 rfl ?_))))
    exact ⟨_, rfl, u, by rw [List.take_of_length_le (by omega), List.append_assoc] at hW1; exact hW1, st1⟩
end Go.Rl
/- Walks of the small functions of the digest, both sides. No condition. -/
namespace Go.Rl
open Go.RowKit Go.Proofs

theorem zero64 : (Try.prog.info? 107).map (·.zero) = some (some (.agg (List.replicate 64 (U32 0)).toArray)) := by kernel_rfl
theorem size64 : (Try.prog.info? 107).map (·.size) = some 64 := by kernel_rfl

theorem call_right : Callable Try.prog 65 := ⟨_, Try.func65, by kernel_rfl, rfl⟩
theorem call_constants : Callable Try.prog 66 := ⟨_, Try.func66, by kernel_rfl, rfl⟩
theorem right_spec {w : World} {x : UInt32} (n : Nat) (h0 : 0 < n) (h1 : n < 32) :
    Calls Try.prog 65 #[U32 x, I (n : Int)] w (Ret fun r w' => Ext w w' ∧ r = U32 (rotr x n)) := by
  refine enter (vs := [U32 x, I (n : Int)]) Try.func65 rfl rfl rfl ?_
  refine c_seq (c_region (o_assign rfl rfl (o_nil (n_then (c_seq ?_)))))
  have e : (32 : Int) - (n : Int) = ((32 - n : Nat) : Int) := by omega
  refine c_grow 8 [12] (by kernel_rfl) (by kernel_rfl) ?_
  refine f_move rfl rfl (f_move rfl rfl ?_)
  refine f_bin rfl rfl rfl (fun w _ => r_shr_u32 n h1) ?_
  refine f_move rfl rfl (f_move rfl rfl ?_)
  refine f_bin (r := I ((32 - n : Nat) : Int)) rfl rfl rfl (fun w _ => by rw [← e]; exact r_sub_i (by omega) (by omega)) ?_
  refine f_bin rfl rfl rfl (fun w _ => r_shl_u32 (32 - n) (by omega)) ?_
  refine f_bin rfl rfl rfl (fun w _ => r_or_u32) ?_
  refine f_nil ?_
  intro w' hw
  rintro _ rfl
  refine o_assign rfl rfl (o_nil (n_then (c_ret ?_)))
  refine r_body1 rfl rfl ?_
  exact ⟨_, rfl, hw, rfl⟩
theorem constants_spec (w : World) :
    Calls Try.prog 66 #[] w (Ret fun r w' => Ext w w' ∧ r = .agg (kc.map U32).toArray) := by
  refine enter (vs := []) Try.func66 rfl rfl rfl ?_
  refine c_seq (c_region (o_alloc rfl (r_alloc zero64) (o_nil (n_then (c_seq (c_region ?_))))))
  refine o_build rfl rfl (run_build _ _ _ (kc.map U32).toArray (by kernel_rfl)) ?_
  have hb := Blk.new (w := w) (T := 107) (.agg (List.replicate 64 (U32 0)).toArray) rfl
  refine o_store rfl rfl (r_stA hb rfl size64 (one_of _)) ?_
  refine o_nil (n_then (c_ret ?_))
  refine r_bodyc rfl rfl (hb.row _) Try.underlying107 rfl size64 ?_
  refine ⟨_, rfl, ?_, rfl⟩
  exact (Ext.new w _).of_grown (grownBy_setRow _ _ _) fun k hk => by
    obtain rfl := Option.some.inj hk
    exact Nat.le_refl _
end Go.Rl
/- Runs over the arrays of the digest, and plain facts on them. Conditions: each names its own. -/
namespace Go.Rl
open Go.RowKit Go.Proofs

theorem zero8 : (Try.prog.info? 92).map (·.zero) = some (some (.agg (List.replicate 8 (U32 0)).toArray)) := by kernel_rfl
theorem size8 : (Try.prog.info? 92).map (·.size) = some 8 := by kernel_rfl
section
variable {w : World} {g o : Nat} {T : TypeId}
theorem r_ix8 (i : Nat) (hi : i < 8) : (Instr.indexAt 92 (.pointer (some ⟨g, 0, none⟩)) (I (i : Int))).run Try.prog w = .ok (.pointer (some ⟨g, i, none⟩)) w := by
  have := r_ixA (P := Try.prog) (w := w) (g := g) (o := 0) Try.underlying92 size_u32 hi .i64
  rwa [Nat.zero_add] at this
theorem r_ix64 (i : Nat) (hi : i < 64) : (Instr.indexAt 107 (.pointer (some ⟨g, 0, none⟩)) (I (i : Int))).run Try.prog w = .ok (.pointer (some ⟨g, i, none⟩)) w := by
  have := r_ixA (P := Try.prog) (w := w) (g := g) (o := 0) Try.underlying107 size_u32 hi .i64
  rwa [Nat.zero_add] at this
theorem r_ldU {m : List UInt32} (h : Blk g T (m.map U32) w) (i : Nat) (hi : i < m.length) : (Instr.loadAt 88 (.pointer (some ⟨g, i, none⟩))).run Try.prog w = .ok (U32 (m.getD i 0)) w :=
  r_load1 Try.underlying88 rfl (h.cell (by simp [hi]))
theorem r_stU {m : List UInt32} {x : UInt32} (h : Blk g T (m.map U32) w) (i : Nat) (hi : i < m.length) : (Instr.storeAt 88 (.pointer (some ⟨g, i, none⟩)) (U32 x)).run Try.prog w = .ok () (w.setCell ⟨g, i, none⟩ (U32 x)) :=
  r_store1 size_u32 rfl h (by simpa using hi)
theorem Blk.setU {m : List UInt32} (h : Blk g T (m.map U32) w) (i : Nat) (x : UInt32) : Blk g T ((m.set i x).map U32) (w.setCell ⟨g, i, none⟩ (U32 x)) := by
  have := h.set i (U32 x)
  rwa [← List.map_set] at this
end
/-- The words so far, and zeros behind them. -/
def filled (l : List UInt32) : List UInt32 := l ++ List.replicate (64 - l.length) 0
theorem filled_len {l : List UInt32} (h : l.length ≤ 64) : (filled l).length = 64 := by simp [filled]; omega
theorem filled_get {l : List UInt32} {i : Nat} (h : i < l.length) : (filled l).getD i 0 = l.getD i 0 := by
  simp [filled, List.getD, List.getElem?_append_left h]
theorem filled_set {l : List UInt32} (x : UInt32) (h : l.length < 64) : (filled l).set l.length x = filled (l ++ [x]) := by
  unfold filled
  rw [List.set_append_right _ _ (Nat.le_refl _), Nat.sub_self]
  have : 64 - l.length = (64 - (l ++ [x]).length) + 1 := by simp; omega
  rw [this, List.replicate_succ, List.set_cons_zero, List.append_assoc]
  rfl
theorem words_snoc (b : List UInt8) (k : Nat) : words b (k + 1) = words b k ++ [word b k] := by simp [words, List.range_succ]
theorem words_len (b : List UInt8) (k : Nat) : (words b k).length = k := by simp [words]
/-- Sums of the first places. -/
def added (s v : List UInt32) (i : Nat) : List UInt32 := List.zipWith (· + ·) (s.take i) (v.take i) ++ s.drop i
theorem added_len {s v : List UInt32} (hs : s.length = 8) (hv : v.length = 8) {i : Nat} (hi : i ≤ 8) : (added s v i).length = 8 := by
  simp [added, hs, hv]; omega
theorem added_get {s v : List UInt32} (hs : s.length = 8) (hv : v.length = 8) {i : Nat} (hi : i < 8) : (added s v i).getD i 0 = s.getD i 0 := by
  have h : (List.zipWith (· + ·) (s.take i) (v.take i)).length = i := by simp [hs, hv]; omega
  simp only [added, List.getD_eq_getElem?_getD]
  rw [List.getElem?_append_right (by omega), h]
  simp
theorem added_set {s v : List UInt32} (hs : s.length = 8) (hv : v.length = 8) {i : Nat} (hi : i < 8) : (added s v i).set i (s.getD i 0 + v.getD i 0) = added s v (i + 1) := by
  have h : (List.zipWith (· + ·) (s.take i) (v.take i)).length = i := by simp [hs, hv]; omega
  have h1 : s.getD i 0 = s[i] := by simp [List.getD, hs, hi]
  have h2 : v.getD i 0 = v[i] := by simp [List.getD, hv, hi]
  unfold added
  rw [List.set_append_right _ _ (by omega), h, Nat.sub_self, h1, h2]
  rw [List.drop_eq_getElem_cons (by omega : i < s.length), List.set_cons_zero, List.take_succ_eq_append_getElem (by omega : i < s.length), List.take_succ_eq_append_getElem (by omega : i < v.length)]
  rw [List.zipWith_append (by simp [hs, hv])]
  simp
theorem added_all {s v : List UInt32} (hs : s.length = 8) (hv : v.length = 8) : added s v 8 = List.zipWith (· + ·) s v := by
  have h1 : s.take 8 = s := List.take_of_length_le (by omega)
  have h2 : v.take 8 = v := List.take_of_length_le (by omega)
  have h3 : s.drop 8 = [] := List.drop_eq_nil_of_le (by omega)
  unfold added
  rw [h1, h2, h3, List.append_nil]
end Go.Rl
/- Walk of the reference's block function. Conditions: the state has 8 words, the block 64 bytes. -/
namespace Go.Rl
open Go.RowKit Go.Proofs


theorem r_boxB {P : Program} {w : World} {t : TypeId} {v : Value} {l : List Value} (hv : v.cells = l.toArray) : ∃ g w', (Instr.box t v).run P w = .ok (.pointer (some ⟨g, 0, none⟩)) w' ∧ w.heap.size ≤ g ∧ Ext w w' ∧ Blk g t l w' :=
  ⟨_, _, r_box, Nat.le_refl _, Ext.new w _, Blk.new v hv⟩
/-- Where the bytes lie, and what is read there. -/
theorem Bts.reads {b : List UInt8} {v : Value} {w : World} (h : Bts b v w) : ∃ ad : Nat → Addr, ∀ i, i < b.length →
    (∀ w' : World, (Instr.indexAt 29 v (I (i : Int))).run Try.prog w' = .ok (.pointer (some (ad i))) w') ∧ ∀ w', Ext w w' → (Instr.loadAt 5 (.pointer (some (ad i)))).run Try.prog w' = .ok (U8 (b.getD i 0)) w' := by
  have hall : ∀ i : Nat, ∃ ad : Addr, i < b.length → (∀ w' : World, (Instr.indexAt 29 v (I (i : Int))).run Try.prog w' = .ok (.pointer (some ad)) w') ∧ ∀ w', Ext w w' → (Instr.loadAt 5 (.pointer (some ad))).run Try.prog w' = .ok (U8 (b.getD i 0)) w' := fun i => by
    by_cases hi : i < b.length
    · obtain ⟨ad, had, hcell⟩ := r_ixB h hi .i64
      refine ⟨ad, fun _ => ⟨had, fun w' hw' => ?_⟩⟩
      obtain ⟨ad', had', hcell'⟩ := r_ixB (h.ext hw') hi .i64
      have := (had w').symm.trans (had' w')
      simp only [Result.ok.injEq, Value.pointer.injEq, Option.some.injEq, and_true] at this
      subst this
      have e : b.getD i 0 = b[i] := by simp [List.getD, hi]
      rw [e]
      exact r_ldB hcell'
    · exact ⟨⟨0, 0, none⟩, fun h => absurd h hi⟩
  exact ⟨fun i => Classical.choose (hall i), fun i hi => Classical.choose_spec (hall i) hi⟩

end Go.Rl
/- Runs over arrays of bytes, and plain facts on a digest's bytes. Conditions: each names its own. -/
namespace Go.Rl
open Go.RowKit Go.Proofs

theorem zero32 : (Try.prog.info? 49).map (·.zero) = some (some (.agg (List.replicate 32 (U8 0)).toArray)) := by kernel_rfl
theorem size32 : (Try.prog.info? 49).map (·.size) = some 32 := by kernel_rfl
section
variable {w : World} {g o : Nat} {T : TypeId}
theorem r_ix32 (i : Nat) (hi : i < 32) : (Instr.indexAt 49 (.pointer (some ⟨g, 0, none⟩)) (I (i : Int))).run Try.prog w = .ok (.pointer (some ⟨g, i, none⟩)) w := by
  have := r_ixA (P := Try.prog) (w := w) (g := g) (o := 0) Try.underlying49 size_u8 hi .i64
  rwa [Nat.zero_add] at this
theorem r_stB {m : List UInt8} {x : UInt8} (h : Blk g T (m.map U8) w) (i : Nat) (hi : i < m.length) : (Instr.storeAt 5 (.pointer (some ⟨g, i, none⟩)) (U8 x)).run Try.prog w = .ok () (w.setCell ⟨g, i, none⟩ (U8 x)) :=
  r_store1 size_u8 rfl h (by simpa using hi)
theorem Blk.setB {m : List UInt8} (h : Blk g T (m.map U8) w) (i : Nat) (x : UInt8) : Blk g T ((m.set i x).map U8) (w.setCell ⟨g, i, none⟩ (U8 x)) := by
  have := h.set i (U8 x)
  rwa [← List.map_set] at this
end
theorem one_ofB (m : List UInt8) : ∀ v ∈ m.map U8, v.oneCell' = true := by
  intro u hu
  obtain ⟨b, _, rfl⟩ := List.mem_map.1 hu
  rfl
/-- The first bytes, and zeros behind them. -/
def fillB (d : List UInt8) (n j : Nat) : List UInt8 := d.take j ++ List.replicate (n - j) 0
theorem fillB_len {d : List UInt8} {n j : Nat} (hd : d.length = n) (hj : j ≤ n) : (fillB d n j).length = n := by simp [fillB, hd]; omega
theorem fillB_set {d : List UInt8} {n j : Nat} (hd : d.length = n) (hj : j < n) : (fillB d n j).set j (d.getD j 0) = fillB d n (j + 1) := by
  have h : (d.take j).length = j := by simp [hd]; omega
  have h1 : d.getD j 0 = d[j] := by simp [List.getD, hd, hj]
  unfold fillB
  rw [List.set_append_right _ _ (by omega), h, Nat.sub_self, h1, List.take_succ_eq_append_getElem (by omega : j < d.length)]
  have : n - j = (n - (j + 1)) + 1 := by omega
  rw [this, List.replicate_succ, List.set_cons_zero, List.append_assoc]
  rfl
theorem fillB_all {d : List UInt8} {n : Nat} (hd : d.length = n) : fillB d n n = d := by
  simp [fillB, ← hd]
theorem be4s_len (s : List UInt32) : (s.flatMap be4).length = 4 * s.length := by
  induction s with
  | nil => rfl
  | cons x s ih =>
    have : (x :: s).flatMap be4 = be4 x ++ s.flatMap be4 := by simp
    rw [this, List.length_append, ih]
    simp [be4]; omega
theorem be4s_get : ∀ (s : List UInt32) (i k : Nat), i < s.length → k < 4 → (s.flatMap be4).getD (4 * i + k) 0 = (s.getD i 0 >>> UInt32.ofNat (24 - 8 * k)).toUInt8
  | [], _, _, h, _ => by simp at h
  | x :: s, 0, k, _, hk => by
    have e : (x :: s).flatMap be4 = be4 x ++ s.flatMap be4 := by simp
    rw [e]
    match k, hk with
    | 0, _ => rfl
    | 1, _ => rfl
    | 2, _ => rfl
    | 3, _ =>
      show x.toUInt8 = (x >>> UInt32.ofNat 0).toUInt8
      rw [show UInt32.ofNat 0 = 0 from rfl, UInt32.shiftRight_zero]
  | x :: s, i + 1, k, h, hk => by
    have e : (x :: s).flatMap be4 = be4 x ++ s.flatMap be4 := by simp
    rw [e]
    have h4 : (be4 x).length = 4 := rfl
    have := be4s_get s i k (by simpa using h) hk
    rw [List.getD_eq_getElem?_getD, List.getElem?_append_right (by omega), h4, show 4 * (i + 1) + k - 4 = 4 * i + k by omega, ← List.getD_eq_getElem?_getD, this]
    rfl
theorem dig_len (m : List UInt8) : (dig m).length = 32 := by
  unfold dig
  rw [be4s_len, sh_len]
theorem be8_len (n : UInt64) : (be8 n).length = 8 := by simp [be8]
theorem be8_snoc (n : UInt64) {j : Nat} (hj : j < 8) : (be8 n).take (j + 1) = (be8 n).take j ++ [(n >>> UInt64.ofNat (56 - 8 * j)).toUInt8] := by
  rw [List.take_succ_eq_append_getElem (by rw [be8_len]; exact hj)]
  simp [be8]
theorem shN_take (M : List UInt8) (k : Nat) : shN M (k + 1) = cmpr (shN M k) ((M.take (64 * k + 64)).drop (64 * k)) := by
  rw [shN, List.drop_take, Nat.add_sub_cancel_left]
theorem sh_padded (m : List UInt8) : sh (padded m) = shN (padded m) ((padded m).length / 64) := rfl
end Go.Rl
/- Walk of the reference's Sum: it returns the digest. Conditions: the message is short. -/
namespace Go.Rl
open Go.RowKit Go.Proofs


end Go.Rl
/- The digest's hash as cells in a block: runs and facts. Conditions: each names its own. -/
namespace Go.Rl
open Go.RowKit Go.Proofs

/-- The cells of a hash. -/
def hcells (st : List UInt32) (blk : List UInt8) (u : Int) (tot : UInt64) : List Value := st.map U32 ++ (blk.map U8 ++ [I u, U64 tot])
/-- The hash at block g. -/
structure HC (g : Nat) (st : List UInt32) (blk : List UInt8) (u : Int) (tot : UInt64) (w : World) : Prop where
  hb : Blk g 95 (hcells st blk u tot) w
  ls : st.length = 8
  lb : blk.length = 64
section
variable {w w' : World} {g : Nat} {st : List UInt32} {blk : List UInt8} {u : Int} {tot : UInt64}
theorem hcells_len (hs : st.length = 8) (hb : blk.length = 64) : (hcells st blk u tot).length = 74 := by simp [hcells, hs, hb]
theorem HC.ext (h : HC g st blk u tot w) (hx : Ext w w') : HC g st blk u tot w' := ⟨h.hb.ext hx, h.ls, h.lb⟩
theorem HC.other {row : Option Nat} (h : HC g st blk u tot w) (hg : w.grownBy w' row) (hne : some g ≠ row) : HC g st blk u tot w' := ⟨h.hb.other hg hne, h.ls, h.lb⟩
theorem HC.lt (h : HC g st blk u tot w) : g < w.heap.size := h.hb.lt
theorem HC.cellS (h : HC g st blk u tot w) {i : Nat} (hi : i < 8) : w.cell? ⟨g, i, none⟩ = some (U32 (st.getD i 0)) :=
  h.hb.cell (by simp [hcells, List.getElem?_append, h.ls, hi])
theorem HC.cellU (h : HC g st blk u tot w) : w.cell? ⟨g, 72, none⟩ = some (I u) :=
  h.hb.cell (by unfold hcells; rw [List.getElem?_append_right (by simp [h.ls]), List.length_map, h.ls, List.getElem?_append_right (by simp [h.lb]), List.length_map, h.lb]; rfl)
theorem HC.cellT (h : HC g st blk u tot w) : w.cell? ⟨g, 73, none⟩ = some (U64 tot) :=
  h.hb.cell (by unfold hcells; rw [List.getElem?_append_right (by simp [h.ls]), List.length_map, h.ls, List.getElem?_append_right (by simp [h.lb]), List.length_map, h.lb]; rfl)
theorem HC.setS (h : HC g st blk u tot w) (i : Nat) (hi : i < 8) (x : UInt32) : HC g (st.set i x) blk u tot (w.setCell ⟨g, i, none⟩ (U32 x)) := by
  refine ⟨?_, by simp [h.ls], h.lb⟩
  have := h.hb.set i (U32 x)
  unfold hcells at this
  rw [List.set_append_left _ _ (by simpa [h.ls] using hi), ← List.map_set] at this
  exact this
theorem HC.setU (h : HC g st blk u tot w) (x : Int) : HC g st blk x tot (w.setCell ⟨g, 72, none⟩ (I x)) := by
  refine ⟨?_, h.ls, h.lb⟩
  have := h.hb.set 72 (I x)
  unfold hcells at this
  rw [List.set_append_right _ _ (by simp [h.ls]), List.length_map, h.ls, List.set_append_right _ _ (by simp [h.lb]), List.length_map, h.lb] at this
  exact this
theorem HC.setT (h : HC g st blk u tot w) (x : UInt64) : HC g st blk u x (w.setCell ⟨g, 73, none⟩ (U64 x)) := by
  refine ⟨?_, h.ls, h.lb⟩
  have := h.hb.set 73 (U64 x)
  unfold hcells at this
  rw [List.set_append_right _ _ (by simp [h.ls]), List.length_map, h.ls, List.set_append_right _ _ (by simp [h.lb]), List.length_map, h.lb] at this
  exact this
theorem size_u64 : (Try.prog.info? 69).map (·.size) = some 1 := by kernel_rfl
theorem size_b64 : (Try.prog.info? 93).map (·.size) = some 64 := by kernel_rfl
theorem size_Hash : (Try.prog.info? 95).map (·.size) = some 74 := by kernel_rfl
theorem zero_Hash : (Try.prog.info? 95).map (·.zero) = some (some (.agg (hcells (List.replicate 8 0) (List.replicate 64 0) 0 0).toArray)) := by kernel_rfl
theorem r_fS : (Instr.fieldAt 95 (.pointer (some ⟨g, 0, none⟩)) 0).run Try.prog w = .ok (.pointer (some ⟨g, 0, none⟩)) w := by
  have h := r_fieldAt (P := Try.prog) (w := w) (n := 0) (a := ⟨g, 0, none⟩) Try.underlying95 rfl size8 (Nat.succ_ne_zero 7)
  exact h
theorem r_fB : (Instr.fieldAt 95 (.pointer (some ⟨g, 0, none⟩)) 1).run Try.prog w = .ok (.pointer (some ⟨g, 8, none⟩)) w := by
  have h := r_fieldAt (P := Try.prog) (w := w) (n := 1) (a := ⟨g, 0, none⟩) Try.underlying95 rfl size_b64 (Nat.succ_ne_zero 63)
  exact h
theorem r_fU : (Instr.fieldAt 95 (.pointer (some ⟨g, 0, none⟩)) 2).run Try.prog w = .ok (.pointer (some ⟨g, 72, none⟩)) w := by
  have h := r_fieldAt (P := Try.prog) (w := w) (n := 2) (a := ⟨g, 0, none⟩) Try.underlying95 rfl size_int (Nat.succ_ne_zero 0)
  exact h
theorem r_fT : (Instr.fieldAt 95 (.pointer (some ⟨g, 0, none⟩)) 3).run Try.prog w = .ok (.pointer (some ⟨g, 73, none⟩)) w := by
  have h := r_fieldAt (P := Try.prog) (w := w) (n := 3) (a := ⟨g, 0, none⟩) Try.underlying95 rfl size_u64 (Nat.succ_ne_zero 0)
  exact h
/-- The bytes of the block behind an offset, as a slice. -/
theorem HC.bts (h : HC g st blk u tot w) {lo : Nat} (hlo : lo < 64) : Bts (blk.drop lo) (.slice (some ⟨g, 8 + lo, none⟩) (64 - lo) (64 - lo)) w := by
  refine ⟨_, _, _, rfl, Nat.le_refl _, by unfold maxLen; omega, by simp [h.lb], fun _ => ⟨_, rfl, fun j v hj => ?_⟩, fun h => by cases h⟩
  rw [Addr.add_mid]
  refine h.hb.cell ?_
  unfold hcells
  rw [List.getElem?_append_right (by simp [h.ls]; omega), List.length_map, h.ls, show 8 + lo + j - 8 = lo + j by omega]
  have hjl : lo + j < (blk.map U8).length := by
    have := (List.getElem?_eq_some_iff.1 hj).1
    simp only [List.length_map, List.length_drop] at this ⊢
    omega
  rw [List.getElem?_append_left hjl]
  rw [List.map_drop, List.getElem?_drop] at hj
  exact hj
theorem r_slH {lo : Nat} (hlo : lo < 64) : (Instr.sliceAt 93 (.pointer (some ⟨g, 8, none⟩)) (some (I (lo : Int))) none none).run Try.prog w = .ok (.slice (some ⟨g, 8 + lo, none⟩) (64 - lo) (64 - lo)) w :=
  r_slA_lo Try.underlying93 size_u8 hlo .i64
theorem HC.ldS (h : HC g st blk u tot w) : (Instr.loadAt 92 (.pointer (some ⟨g, 0, none⟩))).run Try.prog w = .ok (.agg (st.map U32).toArray) w :=
  r_ldA (m := st.map U32) h.hb (fun j v hj => by
    rw [Nat.zero_add]
    unfold hcells
    rw [List.getElem?_append_left (List.getElem?_eq_some_iff.1 hj).1]
    exact hj) Try.underlying92 rfl (by rw [List.length_map, h.ls]; exact size8)
end
theorem drop_getH (b : List UInt8) (i j : Nat) : (b.drop i).getD j 0 = b.getD (i + j) 0 := by simp [List.getD]
end Go.Rl
/- Walk of the program's block function. Conditions: a hash at the block. -/
namespace Go.Rl
open Go.RowKit Go.Proofs

theorem call_process : Callable Try.prog 56 := ⟨_, Try.func56, by kernel_rfl, rfl⟩
theorem word_drop (b : List UInt8) (k : Nat) : word b k = ((((b.drop (4 * k)).getD 0 0).toUInt32 <<< UInt32.ofNat 24 ||| ((b.drop (4 * k)).getD 1 0).toUInt32 <<< UInt32.ofNat 16) ||| ((b.drop (4 * k)).getD 2 0).toUInt32 <<< UInt32.ofNat 8) ||| ((b.drop (4 * k)).getD 3 0).toUInt32 := by
  simp only [drop_getH, word, Nat.add_zero]

theorem mapU_get {m : List UInt32} {i : Nat} (h : i < m.length) : (m.map U32)[i]? = some (U32 (m.getD i 0)) := by simp [h]

theorem process_spec {w : World} {g : Nat} {s : List UInt32} {b : List UInt8} {u : Int} {tot : UInt64} (hc : HC g s b u tot w) :
    Calls Try.prog 56 #[.pointer (some ⟨g, 0, none⟩)] w (Ret fun _ w' => w.grownBy w' (some g) ∧ HC g (cmpr s b) b 0 tot w') := by
  have hs := hc.ls
  have hbl := hc.lb
  refine enter (vs := [.pointer (some ⟨g, 0, none⟩)]) Try.func56 rfl rfl rfl ?_
  obtain ⟨g2, w1, hr, n2, x1, b2⟩ := r_allocB (P := Try.prog) (w := w) (l := (filled []).map U32) zero64 rfl
  refine c_seq (c_region (o_alloc rfl hr (o_nil (n_then ?_))))
  have lg := hc.lt
  have hc1 := hc.ext x1
  have neg : some g ≠ some g2 := fun h => by cases h; omega
  refine c_seq (c_cut (fun _ : Unit => [(0, .pointer (some ⟨g, 0, none⟩)), (2, .pointer (some ⟨g2, 0, none⟩))]) (fun _ w' => w1.grownBy w' (some g2) ∧ Blk g2 107 ((filled (sched b 0)).map U32) w') ?_ ?_)
  · refine c_seq (c_region (o_move rfl rfl (o_nil (n_then (c_block ?_)))))
    refine c_loop (α := Nat) (fun k => [(0, .pointer (some ⟨g, 0, none⟩)), (2, .pointer (some ⟨g2, 0, none⟩)), (17, I (k : Int))])
      (fun k w' => w1.grownBy w' (some g2) ∧ Blk g2 107 ((filled (words b k)).map U32) w' ∧ k ≤ 16) (fun k => 16 - k) 0 ⟨rfl, rfl, rfl, trivial⟩
      ⟨gb_ext (Ext.refl _), b2, by omega⟩ ?_
    rintro k w7 ⟨q7, b7, hk⟩
    refine c_seq (c_region ?_)
    refine o_bin rfl rfl rfl (r_lss_i) ?_
    refine o_nil (n_then (c_seq ?_))
    refine c_if rfl (fun h => ?_) (fun h => ?_)
    · have hk16 : k < 16 := by omega
      have e0 : (4 : Int) * (k : Int) = ((4 * k : Nat) : Int) := by omega
      refine c_skip (n_then (c_seq (c_block (c_seq (c_region (o_move rfl rfl (o_assign rfl rfl (o_nil (n_then (c_seq (c_region (o_move rfl rfl ?_))))))))))))
      refine o_nilCheck rfl rfl ?_
      refine o_fieldAddr rfl rfl r_fB ?_
      refine o_move rfl rfl ?_
      refine o_bin (r := I ((4 * k : Nat) : Int)) rfl rfl rfl (by rw [← e0]; exact r_mul_i (by omega) (by omega)) ?_
      refine o_slice (a := some (I ((4 * k : Nat) : Int))) rfl rfl rfl rfl rfl (r_slH (by omega)) ?_
      refine o_assign rfl rfl (o_nil (n_then ?_))
      have hbt := (hc1.other q7 neg).bts (lo := 4 * k) (by omega)
      obtain ⟨ad, had⟩ := hbt.reads
      rw [List.length_drop, hbl] at had
      refine c_grow 24 [0, 2, 17, 48, 49] (by kernel_rfl) (by kernel_rfl) ?_
      refine f_move rfl rfl (f_move rfl rfl ?_)
      refine f_indexAddr rfl rfl rfl (fun w _ => (had 0 (by omega)).1 w) ?_
      refine f_load rfl rfl (fun w' hw => (had 0 (by omega)).2 w' hw) ?_
      refine f_conv rfl rfl (fun w _ => r_u8_u32 Try.underlying5 Try.underlying88) ?_
      refine f_bin rfl rfl rfl (fun w _ => r_shl_u32 24 (by omega)) ?_
      refine f_move rfl rfl ?_
      refine f_indexAddr rfl rfl rfl (fun w _ => (had 1 (by omega)).1 w) ?_
      refine f_load rfl rfl (fun w' hw => (had 1 (by omega)).2 w' hw) ?_
      refine f_conv rfl rfl (fun w _ => r_u8_u32 Try.underlying5 Try.underlying88) ?_
      refine f_bin rfl rfl rfl (fun w _ => r_shl_u32 16 (by omega)) ?_
      refine f_bin rfl rfl rfl (fun w _ => r_or_u32) ?_
      refine f_move rfl rfl ?_
      refine f_indexAddr rfl rfl rfl (fun w _ => (had 2 (by omega)).1 w) ?_
      refine f_load rfl rfl (fun w' hw => (had 2 (by omega)).2 w' hw) ?_
      refine f_conv rfl rfl (fun w _ => r_u8_u32 Try.underlying5 Try.underlying88) ?_
      refine f_bin rfl rfl rfl (fun w _ => r_shl_u32 8 (by omega)) ?_
      refine f_bin rfl rfl rfl (fun w _ => r_or_u32) ?_
      refine f_move rfl rfl ?_
      refine f_indexAddr rfl rfl rfl (fun w _ => (had 3 (by omega)).1 w) ?_
      refine f_load rfl rfl (fun w' hw => (had 3 (by omega)).2 w' hw) ?_
      refine f_conv rfl rfl (fun w _ => r_u8_u32 Try.underlying5 Try.underlying88) ?_
      refine f_bin rfl rfl rfl (fun w _ => r_or_u32) ?_
      refine f_indexAddr rfl rfl rfl (fun w _ => r_ix64 k (by omega)) ?_
      refine f_nil ?_
      intro w8 hx8
      rintro _ rfl _ rfl _ rfl _ rfl _ rfl
      have hlen : (filled (words b k)).length = 64 := filled_len (by rw [words_len]; omega)
      rw [← word_drop]
      refine o_store rfl rfl (r_stU (x := word b k) (b7.ext hx8) k (by omega)) ?_
      have b8 := (b7.ext hx8).setU k (word b k)
      have q8 := (q7.trans (gb_ext hx8)).trans (grownBy_setCell w8 g2 k (U32 (word b k)))
      have hset : (filled (words b k)).set k (word b k) = filled (words b (k + 1)) := by
        have := filled_set (l := words b k) (word b k) (by rw [words_len]; omega)
        rw [words_len] at this
        rw [this, words_snoc]
      rw [hset] at b8
      refine o_nil (n_block (n_then (c_region ?_)))
      refine o_bin rfl rfl rfl (r_add_i (by omega) (by omega)) ?_
      refine o_move rfl rfl (o_nil ?_)
      exact n_round (k + 1) ⟨rfl, rfl, rfl, trivial⟩ ⟨q8, b8, by omega⟩ (by omega)
    · have hk' : k = 16 := by omega
      subst hk'
      exact c_exit (x_then (x_then (x_here (n_meet () ⟨rfl, rfl, trivial⟩ ⟨q7, b7⟩))))
  rintro _ w7 ⟨q7, b7⟩
  refine n_then ?_
  refine c_seq (c_cut (fun _ : Unit => [(0, .pointer (some ⟨g, 0, none⟩)), (2, .pointer (some ⟨g2, 0, none⟩))]) (fun _ w' => w1.grownBy w' (some g2) ∧ Blk g2 107 ((sched b 48).map U32) w') ?_ ?_)
  · refine c_seq (c_region (o_assign rfl rfl (o_nil (n_then (c_block ?_)))))
    refine c_loop (α := Nat) (fun k => [(0, .pointer (some ⟨g, 0, none⟩)), (2, .pointer (some ⟨g2, 0, none⟩)), (5, I ((16 + k : Nat) : Int))])
      (fun k w' => w1.grownBy w' (some g2) ∧ Blk g2 107 ((filled (sched b k)).map U32) w' ∧ k ≤ 48) (fun k => 48 - k) 0 ⟨rfl, rfl, rfl, trivial⟩
      ⟨q7, b7, by omega⟩ ?_
    clear q7 b7
    rintro k w7 ⟨q7, b7, hk⟩
    have hL := sched_len b k
    refine c_seq (c_seq (c_region (o_move rfl rfl ?_)))
    refine o_bin rfl rfl rfl (r_lss_i) ?_
    refine o_nil (n_then ?_)
    refine c_if rfl (fun h => ?_) (fun h => ?_)
    · have hk48 : k < 48 := by omega
      refine c_skip (n_then (c_seq (c_block (c_seq ?_))))
      have e15 : ((16 + k : Nat) : Int) - 15 = (((sched b k).length - 15 : Nat) : Int) := by omega
      have f15 := filled_get (l := sched b k) (i := (sched b k).length - 15) (by omega)
      have e2 : ((16 + k : Nat) : Int) - 2 = (((sched b k).length - 2 : Nat) : Int) := by omega
      have f2 := filled_get (l := sched b k) (i := (sched b k).length - 2) (by omega)
      have e16 : ((16 + k : Nat) : Int) - 16 = (((sched b k).length - 16 : Nat) : Int) := by omega
      have f16 := filled_get (l := sched b k) (i := (sched b k).length - 16) (by omega)
      have e7 : ((16 + k : Nat) : Int) - 7 = (((sched b k).length - 7 : Nat) : Int) := by omega
      have f7 := filled_get (l := sched b k) (i := (sched b k).length - 7) (by omega)
      have hlen : (filled (sched b k)).length = 64 := filled_len (by omega)
      refine c_grow 9 [0, 2, 5, 6, 62] (by kernel_rfl) (by kernel_rfl) ?_
      refine f_move rfl rfl ?_
      refine f_bin (r := I (((sched b k).length - 15 : Nat) : Int)) rfl rfl rfl (fun w _ => by rw [← e15]; exact r_sub_i (by omega) (by omega)) ?_
      refine f_indexAddr rfl rfl rfl (fun w _ => r_ix64 _ (by omega)) ?_
      refine f_load (r := U32 ((sched b k).getD ((sched b k).length - 15) 0)) rfl rfl (fun w' hw => by rw [← f15]; exact r_ldU (b7.ext hw) _ (by omega)) ?_
      refine f_move rfl rfl ?_
      refine f_bin (r := I (((sched b k).length - 2 : Nat) : Int)) rfl rfl rfl (fun w _ => by rw [← e2]; exact r_sub_i (by omega) (by omega)) ?_
      refine f_indexAddr rfl rfl rfl (fun w _ => r_ix64 _ (by omega)) ?_
      refine f_load (r := U32 ((sched b k).getD ((sched b k).length - 2) 0)) rfl rfl (fun w' hw => by rw [← f2]; exact r_ldU (b7.ext hw) _ (by omega)) ?_
      refine f_assign rfl rfl (f_nil ?_)
      intro w8 hx8
      rintro _ rfl _ rfl _ rfl _ rfl _ rfl
      refine o_assign rfl rfl (o_nil (n_then ?_))
      have b12 := b7.ext hx8
      refine c_grow 29 [0, 2, 5, 90, 91] (by kernel_rfl) (by kernel_rfl) ?_
      refine f_move rfl rfl (f_move rfl rfl ?_)
      refine f_bin (r := I (((sched b k).length - 16 : Nat) : Int)) rfl rfl rfl (fun w _ => by rw [← e16]; exact r_sub_i (by omega) (by omega)) ?_
      refine f_indexAddr rfl rfl rfl (fun w _ => r_ix64 _ (by omega)) ?_
      refine f_load (r := U32 ((sched b k).getD ((sched b k).length - 16) 0)) rfl rfl (fun w' hw => by rw [← f16]; exact r_ldU (b12.ext hw) _ (by omega)) ?_
      refine f_move rfl rfl ?_
      refine f_call (S := Is (U32 (rotr _ 7))) call_right (Stable.is _) rfl (fun w' _ => by
        rintro _ rfl _ rfl
        exact Ret.mono (right_spec 7 (by omega) (by omega)) fun v w'' h => ⟨h.1, h.2⟩) ?_
      refine f_move rfl rfl ?_
      refine f_call (S := Is (U32 (rotr _ 18))) call_right (Stable.is _) rfl (fun w' _ => by
        rintro _ rfl _ rfl
        exact Ret.mono (right_spec 18 (by omega) (by omega)) fun v w'' h => ⟨h.1, h.2⟩) ?_
      refine f_bin rfl rfl rfl (fun w _ => r_xor_u32) ?_
      refine f_move rfl rfl ?_
      refine f_bin rfl rfl rfl (fun w _ => r_shr_u32 3 (by omega)) ?_
      refine f_bin rfl rfl rfl (fun w _ => r_xor_u32) ?_
      refine f_bin rfl rfl rfl (fun w _ => r_add_u32) ?_
      refine f_move rfl rfl ?_
      refine f_bin (r := I (((sched b k).length - 7 : Nat) : Int)) rfl rfl rfl (fun w _ => by rw [← e7]; exact r_sub_i (by omega) (by omega)) ?_
      refine f_indexAddr rfl rfl rfl (fun w _ => r_ix64 _ (by omega)) ?_
      refine f_load (r := U32 ((sched b k).getD ((sched b k).length - 7) 0)) rfl rfl (fun w' hw => by rw [← f7]; exact r_ldU (b12.ext hw) _ (by omega)) ?_
      refine f_bin rfl rfl rfl (fun w _ => r_add_u32) ?_
      refine f_move rfl rfl ?_
      refine f_call (S := Is (U32 (rotr _ 17))) call_right (Stable.is _) rfl (fun w' _ => by
        rintro _ rfl _ rfl
        exact Ret.mono (right_spec 17 (by omega) (by omega)) fun v w'' h => ⟨h.1, h.2⟩) ?_
      refine f_move rfl rfl ?_
      refine f_call (S := Is (U32 (rotr _ 19))) call_right (Stable.is _) rfl (fun w' _ => by
        rintro _ rfl _ rfl
        exact Ret.mono (right_spec 19 (by omega) (by omega)) fun v w'' h => ⟨h.1, h.2⟩) ?_
      refine f_bin rfl rfl rfl (fun w _ => r_xor_u32) ?_
      refine f_move rfl rfl ?_
      refine f_bin rfl rfl rfl (fun w _ => r_shr_u32 10 (by omega)) ?_
      refine f_bin rfl rfl rfl (fun w _ => r_xor_u32) ?_
      refine f_bin rfl rfl rfl (fun w _ => r_add_u32) ?_
      refine f_indexAddr rfl rfl rfl (fun w _ => r_ix64 (16 + k) (by omega)) ?_
      refine f_nil ?_
      intro w13 hx13
      rintro _ rfl _ rfl _ rfl _ rfl _ rfl
      refine o_store rfl rfl (r_stU (x := nextW (sched b k)) (b12.ext hx13) (16 + k) (by omega)) ?_
      have b13 := (b12.ext hx13).setU (16 + k) (nextW (sched b k))
      have q13 := ((q7.trans (gb_ext hx8)).trans (gb_ext hx13)).trans (grownBy_setCell w13 g2 (16 + k) (U32 (nextW (sched b k))))
      have hset : (filled (sched b k)).set (16 + k) (nextW (sched b k)) = filled (sched b (k + 1)) := by
        have := filled_set (l := sched b k) (nextW (sched b k)) (by omega)
        rw [hL] at this
        exact this
      rw [hset] at b13
      refine o_nil (n_block (n_then (c_region (o_move rfl rfl ?_))))
      refine o_bin rfl rfl rfl (r_add_i (by omega) (by omega)) ?_
      refine o_assign rfl rfl (o_nil ?_)
      exact n_round (k + 1) ⟨rfl, rfl, rfl, trivial⟩ ⟨q13, b13, by omega⟩ (by omega)
    · have hk' : k = 48 := by omega
      subst hk'
      have hf : filled (sched b 48) = sched b 48 := by
        unfold filled
        rw [hL]
        exact List.append_nil _
      rw [hf] at b7
      exact c_exit (x_then (x_then (x_here (n_meet () ⟨rfl, rfl, trivial⟩ ⟨q7, b7⟩))))
  clear q7 b7
  rintro _ w7 ⟨q7, b7⟩
  have hc7 := hc1.other q7 neg
  refine n_then (c_seq (c_region (o_move rfl rfl ?_)))
  refine o_nilCheck rfl rfl ?_
  refine o_fieldAddr rfl rfl r_fS ?_
  refine o_load rfl rfl hc7.ldS ?_
  have hlen8 : (Try.prog.info? 92).map (·.size) = some (s.map U32).length := by rw [List.length_map, hs]; exact size8
  obtain ⟨g8, w8, hr, n8, x8, b8⟩ := r_allocB (P := Try.prog) (w := w7) (l := (List.replicate 8 0).map U32) zero8 rfl
  refine o_alloc rfl hr ?_
  refine o_store rfl rfl (r_stA b8 (by simp [hs]) hlen8 (one_of _)) ?_
  have b8' := b8.row (s.map U32)
  have q8 := grownBy_setRow w8 g8 (s.map U32).toArray
  have l28 : g2 < g8 := Nat.lt_of_lt_of_le b7.lt n8
  have lg7 := hc7.lt
  have ne28 : some g2 ≠ some g8 := fun h => by cases h; omega
  have neg8 : some g ≠ some g8 := fun h => by cases h; omega
  have D2 := (b7.ext x8).other q8 ne28
  have hc8 := (hc7.ext x8).other q8 neg8
  have Q8 : w.grownBy (w8.setRow g8 (s.map U32).toArray) (some g) := by
    have h1 : Ext w w7 := x1.of_new q7 n2
    exact gb_ext ((h1.trans x8).of_new q8 (by have := h1.size; omega))
  revert b8' D2 hc8 Q8
  generalize w8.setRow g8 (s.map U32).toArray = w9
  intro b9 D2 hc9 Q9
  refine o_nil (n_then ?_)
  refine c_seq (c_cut (fun _ : Unit => [(0, .pointer (some ⟨g, 0, none⟩)), (8, .pointer (some ⟨g8, 0, none⟩))]) (fun _ w' => w9.grownBy w' (some g8) ∧ Blk g8 92 ((rounds b s 64).map U32) w') ?_ ?_)
  · refine c_seq (c_region ?_)
    refine o_call (vs := []) call_constants rfl rfl (constants_spec w9) ?_
    rintro _ w10 ⟨x10, rfl⟩
    refine o_move rfl rfl (o_nil (n_then (c_block ?_)))
    refine c_loop (α := Nat) (fun i => [(0, .pointer (some ⟨g, 0, none⟩)), (2, .pointer (some ⟨g2, 0, none⟩)), (8, .pointer (some ⟨g8, 0, none⟩)), (96, .agg (kc.map U32).toArray), (97, I (i : Int))])
      (fun i w' => w9.grownBy w' (some g8) ∧ Blk g8 92 ((rounds b s i).map U32) w' ∧ i ≤ 64) (fun i => 64 - i) 0 ⟨rfl, rfl, rfl, rfl, rfl, trivial⟩
      ⟨gb_ext x10, b9.ext x10, by omega⟩ ?_
    clear x10 w10
    rintro i w10 ⟨q10, b10, hi⟩
    have hv8 := rounds_len b s hs i
    refine c_seq (c_region ?_)
    refine o_bin rfl rfl rfl (r_lss_i) ?_
    refine o_nil (n_then (c_seq ?_))
    refine c_if rfl (fun h => ?_) (fun h => ?_)
    · have hi64 : i < 64 := by omega
      have hkc : kc.length = 64 := rfl
      have hsl : (sched b 48).length = 64 := sched_len b 48
      refine c_skip (n_then (c_seq (c_block (c_seq (c_region (o_move rfl rfl ?_))))))
      refine o_index rfl rfl rfl (r_idx (l := kc.map U32) Try.underlying107 size_u32 Try.underlying88 hi64 .i64 (mapU_get (by omega))) ?_
      refine o_assign rfl rfl (o_assign rfl rfl (o_nil (n_then (c_seq ?_))))
      have V := b10
      have K6 := D2.other q10 ne28
      refine c_grow 5 [0, 2, 8, 9, 10, 11, 96, 97, 104] (by kernel_rfl) (by kernel_rfl) ?_
      refine f_indexAddr rfl rfl rfl (fun w _ => r_ix8 0 (by omega)) ?_
      refine f_load rfl rfl (fun w' hw => r_ldU (V.ext hw) 0 (by omega)) ?_
      refine f_indexAddr rfl rfl rfl (fun w _ => r_ix8 4 (by omega)) ?_
      refine f_load rfl rfl (fun w' hw => r_ldU (V.ext hw) 4 (by omega)) ?_
      refine f_assign rfl rfl (f_nil ?_)
      intro w11 hx11
      rintro _ rfl _ rfl _ rfl _ rfl _ rfl _ rfl _ rfl _ rfl _ rfl
      refine o_assign rfl rfl (o_nil (n_then (c_seq ?_)))
      replace V := V.ext hx11
      replace K6 := K6.ext hx11
      refine c_grow 28 [0, 2, 8, 11, 96, 97, 132] (by kernel_rfl) (by kernel_rfl) ?_
      refine f_indexAddr rfl rfl rfl (fun w _ => r_ix8 7 (by omega)) ?_
      refine f_load rfl rfl (fun w' hw => r_ldU (V.ext hw) 7 (by omega)) ?_
      refine f_move rfl rfl ?_
      refine f_call (S := Is (U32 (rotr _ 6))) call_right (Stable.is _) rfl (fun w' _ => by
        rintro _ rfl _ rfl
        exact Ret.mono (right_spec 6 (by omega) (by omega)) fun v w'' h => ⟨h.1, h.2⟩) ?_
      refine f_move rfl rfl ?_
      refine f_call (S := Is (U32 (rotr _ 11))) call_right (Stable.is _) rfl (fun w' _ => by
        rintro _ rfl _ rfl
        exact Ret.mono (right_spec 11 (by omega) (by omega)) fun v w'' h => ⟨h.1, h.2⟩) ?_
      refine f_bin rfl rfl rfl (fun w _ => r_xor_u32) ?_
      refine f_move rfl rfl ?_
      refine f_call (S := Is (U32 (rotr _ 25))) call_right (Stable.is _) rfl (fun w' _ => by
        rintro _ rfl _ rfl
        exact Ret.mono (right_spec 25 (by omega) (by omega)) fun v w'' h => ⟨h.1, h.2⟩) ?_
      refine f_bin rfl rfl rfl (fun w _ => r_xor_u32) ?_
      refine f_bin rfl rfl rfl (fun w _ => r_add_u32) ?_
      refine f_move rfl rfl ?_
      refine f_indexAddr rfl rfl rfl (fun w _ => r_ix8 5 (by omega)) ?_
      refine f_load rfl rfl (fun w' hw => r_ldU (V.ext hw) 5 (by omega)) ?_
      refine f_bin rfl rfl rfl (fun w _ => r_and_u32) ?_
      refine f_move rfl rfl ?_
      refine f_not rfl rfl (fun w _ => r_compl_u32) ?_
      refine f_indexAddr rfl rfl rfl (fun w _ => r_ix8 6 (by omega)) ?_
      refine f_load rfl rfl (fun w' hw => r_ldU (V.ext hw) 6 (by omega)) ?_
      refine f_bin rfl rfl rfl (fun w _ => r_and_u32) ?_
      refine f_bin rfl rfl rfl (fun w _ => r_xor_u32) ?_
      refine f_bin rfl rfl rfl (fun w _ => r_add_u32) ?_
      refine f_move rfl rfl ?_
      refine f_bin rfl rfl rfl (fun w _ => r_add_u32) ?_
      refine f_move rfl rfl ?_
      refine f_indexAddr rfl rfl rfl (fun w _ => r_ix64 i (by omega)) ?_
      refine f_load rfl rfl (fun w' hw => r_ldU (K6.ext hw) i (by omega)) ?_
      refine f_bin rfl rfl rfl (fun w _ => r_add_u32) ?_
      refine f_nil ?_
      intro w12 hx12
      rintro _ rfl _ rfl _ rfl _ rfl _ rfl _ rfl _ rfl
      refine o_assign rfl rfl (o_nil (n_then (c_seq ?_)))
      replace V := V.ext hx12
      refine c_grow 24 [0, 2, 8, 13, 96, 97, 156] (by kernel_rfl) (by kernel_rfl) ?_
      refine f_move rfl rfl ?_
      refine f_call (S := Is (U32 (rotr _ 2))) call_right (Stable.is _) rfl (fun w' _ => by
        rintro _ rfl _ rfl
        exact Ret.mono (right_spec 2 (by omega) (by omega)) fun v w'' h => ⟨h.1, h.2⟩) ?_
      refine f_move rfl rfl ?_
      refine f_call (S := Is (U32 (rotr _ 13))) call_right (Stable.is _) rfl (fun w' _ => by
        rintro _ rfl _ rfl
        exact Ret.mono (right_spec 13 (by omega) (by omega)) fun v w'' h => ⟨h.1, h.2⟩) ?_
      refine f_bin rfl rfl rfl (fun w _ => r_xor_u32) ?_
      refine f_move rfl rfl ?_
      refine f_call (S := Is (U32 (rotr _ 22))) call_right (Stable.is _) rfl (fun w' _ => by
        rintro _ rfl _ rfl
        exact Ret.mono (right_spec 22 (by omega) (by omega)) fun v w'' h => ⟨h.1, h.2⟩) ?_
      refine f_bin rfl rfl rfl (fun w _ => r_xor_u32) ?_
      refine f_move rfl rfl ?_
      refine f_indexAddr rfl rfl rfl (fun w _ => r_ix8 1 (by omega)) ?_
      refine f_load rfl rfl (fun w' hw => r_ldU (V.ext hw) 1 (by omega)) ?_
      refine f_bin rfl rfl rfl (fun w _ => r_and_u32) ?_
      refine f_move rfl rfl ?_
      refine f_indexAddr rfl rfl rfl (fun w _ => r_ix8 2 (by omega)) ?_
      refine f_load rfl rfl (fun w' hw => r_ldU (V.ext hw) 2 (by omega)) ?_
      refine f_bin rfl rfl rfl (fun w _ => r_and_u32) ?_
      refine f_bin rfl rfl rfl (fun w _ => r_xor_u32) ?_
      refine f_indexAddr rfl rfl rfl (fun w _ => r_ix8 1 (by omega)) ?_
      refine f_load rfl rfl (fun w' hw => r_ldU (V.ext hw) 1 (by omega)) ?_
      refine f_indexAddr rfl rfl rfl (fun w _ => r_ix8 2 (by omega)) ?_
      refine f_load rfl rfl (fun w' hw => r_ldU (V.ext hw) 2 (by omega)) ?_
      refine f_bin rfl rfl rfl (fun w _ => r_and_u32) ?_
      refine f_bin rfl rfl rfl (fun w _ => r_xor_u32) ?_
      refine f_bin rfl rfl rfl (fun w _ => r_add_u32) ?_
      refine f_nil ?_
      intro w13 hx13
      rintro _ rfl _ rfl _ rfl _ rfl _ rfl _ rfl _ rfl
      refine o_assign rfl rfl (o_nil (n_then (c_region (o_move rfl rfl (o_move rfl rfl ?_)))))
      replace V := V.ext hx13
      refine o_bin rfl rfl rfl (r_add_u32) ?_
      refine o_indexAddr rfl rfl rfl (r_ix8 0 (by omega)) ?_
      refine o_load rfl rfl (r_ldU V 0 (by omega)) ?_
      refine o_indexAddr rfl rfl rfl (r_ix8 1 (by omega)) ?_
      refine o_load rfl rfl (r_ldU V 1 (by omega)) ?_
      refine o_indexAddr rfl rfl rfl (r_ix8 2 (by omega)) ?_
      refine o_load rfl rfl (r_ldU V 2 (by omega)) ?_
      refine o_indexAddr rfl rfl rfl (r_ix8 3 (by omega)) ?_
      refine o_load rfl rfl (r_ldU V 3 (by omega)) ?_
      refine o_move rfl rfl ?_
      refine o_bin rfl rfl rfl (r_add_u32) ?_
      refine o_indexAddr rfl rfl rfl (r_ix8 4 (by omega)) ?_
      refine o_load rfl rfl (r_ldU V 4 (by omega)) ?_
      refine o_indexAddr rfl rfl rfl (r_ix8 5 (by omega)) ?_
      refine o_load rfl rfl (r_ldU V 5 (by omega)) ?_
      refine o_indexAddr rfl rfl rfl (r_ix8 6 (by omega)) ?_
      refine o_load rfl rfl (r_ldU V 6 (by omega)) ?_
      refine o_build rfl rfl (run_build _ _ _ ((rounds b s (i + 1)).map U32).toArray (by kernel_rfl)) ?_
      have hn8 := rounds_len b s hs (i + 1)
      refine o_store rfl rfl (r_stA V (by simp [hv8, hn8]) (by rw [List.length_map, hn8]; exact size8) (one_of _)) ?_
      have V' := V.row ((rounds b s (i + 1)).map U32)
      have q14 := (q10.trans (gb_ext ((hx11.trans hx12).trans hx13))).trans (grownBy_setRow w13 g8 ((rounds b s (i + 1)).map U32).toArray)
      refine o_nil (n_block (n_then (c_region ?_)))
      refine o_bin rfl rfl rfl (r_add_i (by omega) (by omega)) ?_
      refine o_move rfl rfl (o_nil ?_)
      exact n_round (i + 1) ⟨rfl, rfl, rfl, rfl, rfl, trivial⟩ ⟨q14, V', by omega⟩ (by omega)
    · have hi' : i = 64 := by omega
      subst hi'
      exact c_exit (x_then (x_then (x_here (n_meet () ⟨rfl, rfl, trivial⟩ ⟨q10, b10⟩))))
  rintro _ w10 ⟨q10, b10⟩
  refine n_then ?_
  have hv8 := rounds_len b s hs 64
  have hc10 := hc9.other q10 neg8
  have ha0 : added s (rounds b s 64) 0 = s := by simp [added]
  refine c_seq (c_cut (fun _ : Unit => [(0, .pointer (some ⟨g, 0, none⟩))]) (fun _ w' => w10.grownBy w' (some g) ∧ HC g (added s (rounds b s 64) 8) b u tot w') ?_ ?_)
  · refine c_seq (c_region ?_)
    refine o_load rfl rfl (r_ldA (m := (rounds b s 64).map U32) b10 (fun j v h => by rwa [Nat.zero_add]) Try.underlying92 rfl (by rw [List.length_map, hv8]; exact size8)) ?_
    refine o_move rfl rfl (o_nil (n_then (c_block ?_)))
    refine c_loop (α := Nat) (fun i => [(0, .pointer (some ⟨g, 0, none⟩)), (178, .agg ((rounds b s 64).map U32).toArray), (179, I (i : Int))])
      (fun i w' => w10.grownBy w' (some g) ∧ HC g (added s (rounds b s 64) i) b u tot w' ∧ i ≤ 8) (fun i => 8 - i) 0 ⟨rfl, rfl, rfl, trivial⟩
      ⟨gb_ext (Ext.refl _), by rw [ha0]; exact hc10, by omega⟩ ?_
    rintro i w11 ⟨q11, c11, hi⟩
    refine c_seq (c_region ?_)
    refine o_bin rfl rfl rfl (r_lss_i) ?_
    refine o_nil (n_then (c_seq ?_))
    refine c_if rfl (fun h => ?_) (fun h => ?_)
    · have hi8 : i < 8 := by omega
      have hag := added_get hs hv8 hi8
      refine c_skip (n_then (c_seq (c_block (c_seq (c_region (o_move rfl rfl ?_))))))
      refine o_index rfl rfl rfl (r_idx (l := (rounds b s 64).map U32) Try.underlying92 size_u32 Try.underlying88 hi8 .i64 (mapU_get (by omega))) ?_
      refine o_assign rfl rfl (o_assign rfl rfl (o_nil (n_then ?_)))
      refine c_grow 11 [0, 178, 179, 190, 193] (by kernel_rfl) (by kernel_rfl) ?_
      refine f_move rfl rfl (f_move rfl rfl ?_)
      refine f_nilCheck rfl rfl ?_
      refine f_fieldAddr rfl rfl (fun w _ => r_fS) ?_
      refine f_indexAddr rfl rfl rfl (fun w _ => r_ix8 i (by omega)) ?_
      refine f_load (r := U32 (s.getD i 0)) rfl rfl (fun w' hw => by rw [← hag]; exact r_load1 Try.underlying88 rfl ((c11.ext hw).cellS hi8)) ?_
      refine f_move rfl rfl ?_
      refine f_bin rfl rfl rfl (fun w _ => r_add_u32) ?_
      refine f_nilCheck rfl rfl ?_
      refine f_fieldAddr rfl rfl (fun w _ => r_fS) ?_
      refine f_indexAddr rfl rfl rfl (fun w _ => r_ix8 i (by omega)) ?_
      refine f_nil ?_
      intro w12 hx12
      rintro _ rfl _ rfl _ rfl _ rfl _ rfl
      have hcl := hcells_len (u := u) (tot := tot) c11.ls c11.lb
      refine o_store rfl rfl (r_store1 size_u32 rfl (c11.ext hx12).hb (by rw [List.size_toArray, hcl]; omega)) ?_
      have c12 := (c11.ext hx12).setS i hi8 (s.getD i 0 + (rounds b s 64).getD i 0)
      rw [added_set hs hv8 hi8] at c12
      have q12 := (q11.trans (gb_ext hx12)).trans (grownBy_setCell w12 g i (U32 (s.getD i 0 + (rounds b s 64).getD i 0)))
      refine o_nil (n_block (n_then (c_region ?_)))
      refine o_bin rfl rfl rfl (r_add_i (by omega) (by omega)) ?_
      refine o_move rfl rfl (o_nil ?_)
      exact n_round (i + 1) ⟨rfl, rfl, rfl, trivial⟩ ⟨q12, c12, by omega⟩ (by omega)
    · have hi' : i = 8 := by omega
      subst hi'
      exact c_exit (x_then (x_then (x_here (n_meet () ⟨rfl, trivial⟩ ⟨q11, c11⟩))))
  rintro _ w11 ⟨q11, c11⟩
  rw [added_all hs hv8] at c11
  have hcl := hcells_len (u := u) (tot := tot) c11.ls c11.lb
  refine n_then (c_region (o_move rfl rfl ?_))
  refine o_nilCheck rfl rfl ?_
  refine o_fieldAddr rfl rfl r_fU ?_
  refine o_store rfl rfl (r_store1 (i := 72) size_int rfl c11.hb (by rw [List.size_toArray, hcl]; omega)) ?_
  have c12 := c11.setU 0
  refine o_nil ?_
  refine n_body0 rfl ?_
  refine ⟨_, rfl, ?_, c12⟩
  have Q10 : w.grownBy w10 (some g) := by
    have h : w.grownBy w9 (some g) := Q9
    refine ⟨q10.os.trans h.os, q10.tape.trans h.tape, q10.output.trans h.output, Nat.le_trans h.size q10.size, fun k hk hne => ?_⟩
    exact (q10.block k (Nat.lt_of_lt_of_le hk h.size) (fun he => by cases he; omega)).trans (h.block k hk hne)
  exact (Q10.trans q11).trans (grownBy_setCell w11 g 72 (I 0))
end Go.Rl
/- The hash behind a message: plain facts, copying into its block, slices elsewhere. Conditions: each names its own. -/
namespace Go.Rl
open Go.RowKit Go.Proofs

/-- The hash at block g behind the message m. -/
def HA (g : Nat) (m : List UInt8) (tot : UInt64) (w : World) : Prop := ∃ blk, HC g (sh m) blk ((m.length % 64 : Nat) : Int) tot w ∧ blk.take (m.length % 64) = m.drop (64 * (m.length / 64))
theorem HA.ext {g : Nat} {m : List UInt8} {tot : UInt64} {w w' : World} (h : HA g m tot w) (hx : Ext w w') : HA g m tot w' := by
  obtain ⟨blk, h1, h2⟩ := h
  exact ⟨blk, h1.ext hx, h2⟩
theorem HA.other {g : Nat} {m : List UInt8} {tot : UInt64} {w w' : World} {row : Option Nat} (h : HA g m tot w) (hg : w.grownBy w' row) (hne : some g ≠ row) : HA g m tot w' := by
  obtain ⟨blk, h1, h2⟩ := h
  exact ⟨blk, h1.other hg hne, h2⟩
theorem HA.lt {g : Nat} {m : List UInt8} {tot : UInt64} {w : World} (h : HA g m tot w) : g < w.heap.size := by
  obtain ⟨blk, h1, h2⟩ := h
  exact h1.lt

/-- Bytes y behind m, not filling the block. -/
theorem sh_part (m y : List UInt8) (h : m.length % 64 + y.length < 64) : sh (m ++ y) = sh m := by
  have hm : m = m.take (64 * (m.length / 64)) ++ m.drop (64 * (m.length / 64)) := (List.take_append_drop _ _).symm
  have hl : (m.take (64 * (m.length / 64))).length = 64 * (m.length / 64) := by simp; omega
  have hd : (m.drop (64 * (m.length / 64))).length = m.length % 64 := by simp; omega
  rw [hm, List.append_assoc, sh_tail _ _ (by omega) (by rw [List.length_append, hd]; exact h), sh_tail _ _ (by omega) (by omega)]
/-- .. and filling it. -/
theorem sh_full (m y : List UInt8) (h : m.length % 64 + y.length = 64) : sh (m ++ y) = cmpr (sh m) (m.drop (64 * (m.length / 64)) ++ y) := by
  have hm : m = m.take (64 * (m.length / 64)) ++ m.drop (64 * (m.length / 64)) := (List.take_append_drop _ _).symm
  have hl : (m.take (64 * (m.length / 64))).length = 64 * (m.length / 64) := by simp; omega
  have hd : (m.drop (64 * (m.length / 64))).length = m.length % 64 := by simp; omega
  have e1 : sh (m ++ y) = sh (m.take (64 * (m.length / 64)) ++ (m.drop (64 * (m.length / 64)) ++ y)) := by
    rw [← List.append_assoc, List.take_append_drop]
  have e2 : sh m = sh (m.take (64 * (m.length / 64))) := by
    conv => lhs; rw [hm]
    exact sh_tail _ _ (by omega) (by omega)
  rw [e1, e2, sh_block _ _ (by omega) (by rw [List.length_append, hd]; exact h)]

/-- A slice that lies in another block. -/
def Away (g : Nat) (v : Value) : Prop := ∀ a n c, v = .slice (some a) n c → a.block ≠ g
theorem Bts.away {l : List UInt8} {v : Value} {g : Nat} {w w' : World} (h : Bts l v w) (ha : 0 < l.length → Away g v) (hg : w.grownBy w' (some g)) : Bts l v w' := by
  obtain ⟨A, n, c, rfl, h1, h2, h3, h4, h5⟩ := h
  refine ⟨A, n, c, rfl, h1, h2, h3, fun hn => ?_, h5⟩
  obtain ⟨ad, rfl, hc⟩ := h4 hn
  have hlen : 0 < l.length := by
    have : l.length = n := by simpa using h3
    omega
  refine ⟨ad, rfl, fun j u hu => ?_⟩
  have hb : (ad.add j).block = ad.block := by unfold Addr.add; split <;> rfl
  exact hg.cell (hc j u hu) (by rw [hb]; intro he; exact ha hlen ad n c rfl (Option.some.inj he))
theorem r_slB_away {l : List UInt8} {v : Value} {g : Nat} {w : World} (h : Bts l v w) {lo : Nat} (hlo : lo ≤ l.length) (ha : Away g v) :
    ∃ r, (∀ w' : World, (Instr.sliceAt 29 v (some (I (lo : Int))) none none).run Try.prog w' = .ok r w') ∧ Bts (l.drop lo) r w ∧ Away g r := by
  obtain ⟨r, hr, hb⟩ := r_slB_lo h hlo .i64
  refine ⟨r, hr, hb, ?_⟩
  obtain ⟨A, n, c, rfl, h1, h2, h3, h4, h5⟩ := h
  have hln : lo ≤ n := by
    have : l.length = n := by simpa using h3
    omega
  have hbd : (Instr.sliceBounds true n c (some (.int .i64 (lo : Int))) none none).run Try.prog w = .ok (lo, n, c) w := by
    have a2 := run_sliceBound (P := Try.prog) (w := w) .i64 (lo : Int) n .sliceB (by omega) (by omega)
    simp only [Int.toNat_natCast] at a2
    simp [Instr.sliceBounds, a2]
  have hrun : (Instr.sliceAt 29 (.slice A n c) (some (.int .i64 (lo : Int))) none none).run Try.prog w = .ok (.slice (if c = lo then A else A.map (·.add (lo * 1))) (n - lo) (c - lo)) w := by
    simp [Instr.sliceAt, Instr.slice, run_underlying Try.underlying29, hbd, r_sizeOf size_u8]
  have e := (hr w).symm.trans hrun
  simp only [Result.ok.injEq, and_true] at e
  subst e
  intro a n' c' he
  simp only [Value.slice.injEq] at he
  obtain ⟨he, _, _⟩ := he
  split at he
  · exact ha a n c (by rw [he])
  · obtain ⟨a0, h0, rfl⟩ := Option.map_eq_some_iff.1 he
    have : (a0.add (lo * 1)).block = a0.block := by unfold Addr.add; split <;> rfl
    rw [this]
    exact ha a0 n c (by rw [h0])
/-- copy into the block of a hash -/
theorem r_copyH {g : Nat} {st : List UInt32} {blk x : List UInt8} {u : Int} {tot : UInt64} {w : World} {v : Value} {ty : TypeId} {o : Nat} (h : HC g st blk u tot w) (ho : o < 64) (hx : Bts x v w) (hne : 0 < x.length) :
    ∃ w', (Builtin.copy_ #[29, 29] ty #[.slice (some ⟨g, 8 + o, none⟩) (64 - o) (64 - o), v]).run Try.prog w = .ok (I ((min x.length (64 - o) : Nat) : Int)) w' ∧ w.grownBy w' (some g) ∧
      HC g st (blk.take o ++ x.take (64 - o) ++ blk.drop (o + min x.length (64 - o))) u tot w' := by
  obtain ⟨A, n, c, rfl, h1, h2, h3, h4, h5⟩ := hx
  have hxn : x.length = n := by simpa using h3
  obtain ⟨ad, rfl, hc⟩ := h4 (by omega)
  have hcs : ((x.take (64 - o)).map U8).length = min n (64 - o) := by simp [hxn, Nat.min_comm]
  have hr := run_copy_row (P := Try.prog) w 29 29 ty 5 g (8 + o) (64 - o) (64 - o) ad n c _ 95 ((x.take (64 - o)).map U8) Try.underlying29 size_u8 h.hb hcs
    (fun j u hj => hc j u (by
      rw [List.map_take, List.getElem?_take] at hj
      split at hj
      · exact hj
      · cases hj)) (by rw [hcs, List.size_toArray, hcells_len h.ls h.lb]; omega) (one_ofB _)
  rw [hcs] at hr
  refine ⟨_, by rw [hxn]; exact hr, grownBy_setRow _ _ _, ?_, h.ls, ?_⟩
  · have := h.hb.row (hcells st (blk.take o ++ x.take (64 - o) ++ blk.drop (o + min n (64 - o))) u tot)
    rw [hxn]
    have e : ((hcells st blk u tot).toArray.toList.take (8 + o) ++ (x.take (64 - o)).map U8 ++ (hcells st blk u tot).toArray.toList.drop (8 + o + min n (64 - o))) = hcells st (blk.take o ++ x.take (64 - o) ++ blk.drop (o + min n (64 - o))) u tot := by
      have l8 : (st.map U32).length = 8 := by simp [h.ls]
      have l64 : (blk.map U8).length = 64 := by simp [h.lb]
      unfold hcells
      rw [List.take_append, l8, List.drop_append, l8, show 8 + o - 8 = o by omega, show 8 + o + min n (64 - o) - 8 = o + min n (64 - o) by omega]
      rw [List.take_of_length_le (by omega), List.drop_eq_nil_of_le (by omega), List.nil_append]
      rw [List.take_append, l64, show o - 64 = 0 by omega, List.take_zero, List.append_nil, List.drop_append, l64, show o + min n (64 - o) - 64 = 0 by omega, List.drop_zero]
      simp only [List.map_append, List.map_take, List.map_drop, List.append_assoc]
    rw [e]
    exact this
  · simp only [List.length_append, List.length_take, List.length_drop, h.lb]; omega
end Go.Rl
/- Walks of Write, New, Clone of the digest. Conditions: the hash is not nil, the bytes lie elsewhere, all is short. -/
namespace Go.Rl
open Go.RowKit Go.Proofs

theorem call_Write : Callable Try.prog 32 := ⟨_, Try.func32, by kernel_rfl, rfl⟩
theorem call_HNew : Callable Try.prog 31 := ⟨_, Try.func31, by kernel_rfl, rfl⟩

theorem Write_spec {w : World} {g : Nat} {m x : List UInt8} {tot : UInt64} {v : Value} (hh : HA g m tot w) (hx : Bts x v w) (ha : 0 < x.length → Away g v) :
    Calls Try.prog 32 #[.pointer (some ⟨g, 0, none⟩), v] w (Ret fun _ w' => w.grownBy w' (some g) ∧ HA g (m ++ x) (tot + UInt64.ofNat x.length) w') := by
  refine enter (vs := [.pointer (some ⟨g, 0, none⟩), v]) Try.func32 rfl rfl rfl ?_
  refine c_seq (c_seq (c_region (o_move rfl rfl ?_)))
  refine o_bin rfl rfl rfl (r_eqnilp Try.underlying72) ?_
  refine o_nil (n_then ?_)
  refine c_no rfl ?_
  refine c_skip (n_then (c_seq (c_region (o_move rfl rfl ?_))))
  obtain ⟨blk0, hc0, ht0⟩ := hh
  refine o_nilCheck rfl rfl ?_
  refine o_fieldAddr rfl rfl r_fT ?_
  refine o_load rfl rfl (r_load1 Try.underlying69 rfl hc0.cellT) ?_
  refine o_move rfl rfl ?_
  refine o_len rfl rfl (r_lenB hx) ?_
  refine o_conv rfl rfl (r_n_u64 Try.underlying3 Try.underlying69) ?_
  refine o_bin rfl rfl rfl (r_add_u64) ?_
  refine o_nilCheck rfl rfl ?_
  refine o_fieldAddr rfl rfl r_fT ?_
  have hcl0 := hcells_len (u := ((m.length % 64 : Nat) : Int)) (tot := tot) hc0.ls hc0.lb
  refine o_store rfl rfl (r_store1 (i := 73) size_u64 rfl hc0.hb (by rw [List.size_toArray, hcl0]; omega)) ?_
  have hc1 := hc0.setT (tot + UInt64.ofNat x.length)
  have q1 := grownBy_setCell w g 73 (U64 (tot + UInt64.ofNat x.length))
  have hx1 := hx.away ha q1
  revert hc1 q1 hx1
  generalize w.setCell ⟨g, 73, none⟩ (U64 (tot + UInt64.ofNat x.length)) = w1
  intro hc1 q1 hx1
  refine o_nil (n_then (c_block ?_))
  refine c_loop (α := Nat × Value) (fun p => [(0, .pointer (some ⟨g, 0, none⟩)), (1, p.2)])
    (fun p w' => HA g (m ++ x.take p.1) (tot + UInt64.ofNat x.length) w' ∧ Bts (x.drop p.1) p.2 w' ∧ (0 < (x.drop p.1).length → Away g p.2) ∧ w.grownBy w' (some g) ∧ p.1 ≤ x.length) (fun p => x.length - p.1) (0, v) ⟨rfl, rfl, trivial⟩
    ⟨by simpa using ⟨blk0, hc1, ht0⟩, by simpa using hx1, by simpa using ha, q1, by simp⟩ ?_
  rintro ⟨k, b⟩ w2 ⟨⟨blk, hc2, ht2⟩, hb2, ha2, q2, hk⟩
  dsimp only at hc2 ht2 hb2 ha2 q2 hk
  have hm' : ∃ m', m' = m ++ x.take k := ⟨_, rfl⟩
  obtain ⟨m', hm'⟩ := hm'
  rw [← hm'] at hc2 ht2
  refine c_seq (c_seq (c_region (o_move rfl rfl ?_)))
  refine o_len rfl rfl (r_lenB hb2) ?_
  refine o_bin rfl rfl rfl (r_gtr_i) ?_
  refine o_nil (n_then ?_)
  refine c_if rfl (fun h => ?_) (fun h => ?_)
  · have hlt : 0 < (x.drop k).length := by omega
    have hu : m'.length % 64 < 64 := Nat.mod_lt _ (by omega)
    refine c_skip (n_then (c_block (c_seq ?_)))
    refine c_grow 9 [0, 1, 27, 28] (by kernel_rfl) (by kernel_rfl) ?_
    refine f_move rfl rfl ?_
    refine f_nilCheck rfl rfl ?_
    refine f_fieldAddr rfl rfl (fun w _ => r_fB) ?_
    refine f_move rfl rfl ?_
    refine f_nilCheck rfl rfl ?_
    refine f_fieldAddr rfl rfl (fun w _ => r_fU) ?_
    refine f_load rfl rfl (fun w' hw => r_load1 Try.underlying3 rfl (hc2.ext hw).cellU) ?_
    refine f_slice (a := some (I ((m'.length % 64 : Nat) : Int))) (b := none) rfl rfl rfl rfl (fun w _ => r_slH hu) ?_
    refine f_move rfl rfl (f_nil ?_)
    intro w3 hx3
    rintro _ rfl _ rfl _ rfl _ rfl
    have hc3 := hc2.ext hx3
    obtain ⟨w4, hr, q4, hc4⟩ := r_copyH (ty := 3) hc3 hu (hb2.ext hx3) hlt
    obtain ⟨n, hn⟩ : ∃ n, n = min (x.drop k).length (64 - m'.length % 64) := ⟨_, rfl⟩
    rw [← hn] at hr hc4
    have hxk : (x.drop k).length = x.length - k := List.length_drop
    have hn1 : n ≤ x.length - k := by omega
    have hn2 : m'.length % 64 + n ≤ 64 := by omega
    have hn0 : 0 < n := by omega
    refine o_copy rfl rfl hr ?_
    refine o_assign rfl rfl (o_nil (n_then (c_seq (c_region (o_move rfl rfl ?_)))))
    refine o_nilCheck rfl rfl ?_
    refine o_fieldAddr rfl rfl r_fU ?_
    refine o_load rfl rfl (r_load1 Try.underlying3 rfl hc4.cellU) ?_
    refine o_move rfl rfl ?_
    have e1 : ((m'.length % 64 : Nat) : Int) + (n : Int) = ((m'.length % 64 + n : Nat) : Int) := by omega
    refine o_bin (r := I ((m'.length % 64 + n : Nat) : Int)) rfl rfl rfl (by rw [← e1]; exact r_add_i (by omega) (by omega)) ?_
    refine o_nilCheck rfl rfl ?_
    refine o_fieldAddr rfl rfl r_fU ?_
    have hcl4 := hcells_len (u := ((m'.length % 64 : Nat) : Int)) (tot := tot + UInt64.ofNat x.length) hc4.ls hc4.lb
    refine o_store rfl rfl (r_store1 (i := 72) size_int rfl hc4.hb (by rw [List.size_toArray, hcl4]; omega)) ?_
    have hc5 := hc4.setU ((m'.length % 64 + n : Nat) : Int)
    have q5 := q4.trans (grownBy_setCell w4 g 72 (I ((m'.length % 64 + n : Nat) : Int)))
    revert hc5 q5
    generalize w4.setCell ⟨g, 72, none⟩ (I ((m'.length % 64 + n : Nat) : Int)) = w5
    intro hc5 q5
    have hb5 := (hb2.ext hx3).away ha2 q5
    have q25 := (q2.trans (gb_ext hx3)).trans q5
    refine o_nil (n_then (c_seq (c_region (o_move rfl rfl (o_move rfl rfl ?_)))))
    obtain ⟨b6, hr6, hb6, ha6⟩ := r_slB_away hb5 (lo := n) (by omega) (ha2 hlt)
    rw [List.drop_drop] at hb6
    refine o_slice (a := some (I (n : Int))) (b := none) rfl rfl rfl rfl rfl (hr6 _) ?_
    refine o_assign rfl rfl (o_nil (n_then (c_seq (c_region (o_move rfl rfl ?_)))))
    refine o_nilCheck rfl rfl ?_
    refine o_fieldAddr rfl rfl r_fU ?_
    refine o_load rfl rfl (r_load1 Try.underlying3 rfl hc5.cellU) ?_
    refine o_bin rfl rfl rfl (r_eql_i) ?_
    refine o_nil (n_then ?_)
    have hyl : ((x.drop k).take (64 - m'.length % 64)).length = n := by rw [List.length_take, hn, Nat.min_comm]
    have hyn : (x.drop k).take (64 - m'.length % 64) = (x.drop k).take n := by
      rw [hn]
      rcases Nat.le_total (x.drop k).length (64 - m'.length % 64) with h1 | h1
      · rw [Nat.min_eq_left h1, List.take_of_length_le h1, List.take_length]
      · rw [Nat.min_eq_right h1]
    have hmy : m ++ x.take (k + n) = m' ++ (x.drop k).take (64 - m'.length % 64) := by
      rw [hyn, hm', List.append_assoc, ← List.take_add]
    obtain ⟨y, hy⟩ : ∃ y, y = (x.drop k).take (64 - m'.length % 64) := ⟨_, rfl⟩
    rw [← hy] at hc5 hyl hmy
    have hmd : (m'.drop (64 * (m'.length / 64))).length = m'.length % 64 := by rw [List.length_drop]; omega
    have hml : (m' ++ y).length = m'.length + n := by rw [List.length_append, hyl]
    refine c_if rfl (fun h => ?_) (fun h => ?_)
    · have hfull : m'.length % 64 + n = 64 := by omega
      refine c_region (o_move rfl rfl ?_)
      refine o_call call_process rfl rfl (process_spec hc5) ?_
      rintro _ w6 ⟨q6, hc6⟩
      refine o_nil (n_block ?_)
      refine n_round (k + n, b6) ⟨rfl, rfl, trivial⟩ ⟨?_, hb6.away (fun _ => ha6) q6, fun _ => ha6, q25.trans q6, by show k + n ≤ x.length; omega⟩ (by show x.length - (k + n) < x.length - k; omega)
      show HA g (m ++ x.take (k + n)) _ w6
      rw [hmy]
      have e0 : (m' ++ y).length % 64 = 0 := by rw [hml]; omega
      have hd0 : blk.drop (m'.length % 64 + n) = [] := List.drop_eq_nil_of_le (by rw [hc2.lb]; omega)
      rw [hd0, List.append_nil] at hc6
      have hdd : (m' ++ y).drop (64 * ((m' ++ y).length / 64)) = [] := List.drop_eq_nil_of_le (by omega)
      refine ⟨blk.take (m'.length % 64) ++ y, ?_, by rw [e0, hdd, List.take_zero]⟩
      rw [e0, sh_full m' y (by omega), ← ht2]
      exact hc6
    · have hpart : m'.length % 64 + n < 64 := by omega
      refine c_skip (n_block ?_)
      refine n_round (k + n, b6) ⟨rfl, rfl, trivial⟩ ⟨?_, hb6, fun _ => ha6, q25, by show k + n ≤ x.length; omega⟩ (by show x.length - (k + n) < x.length - k; omega)
      show HA g (m ++ x.take (k + n)) _ w5
      rw [hmy]
      have e0 : (m' ++ y).length % 64 = m'.length % 64 + n := by rw [hml]; omega
      have e2 : (m' ++ y).length / 64 = m'.length / 64 := by rw [hml]; omega
      refine ⟨_, by rw [e0, sh_part m' y (by omega)]; exact hc5, ?_⟩
      rw [e0, e2, List.drop_append_of_le_length (by omega), ← ht2]
      rw [List.take_append_of_le_length (by rw [List.length_append, List.length_take, hc2.lb, hyl]; omega)]
      exact List.take_of_length_le (by rw [List.length_append, List.length_take, hc2.lb, hyl]; omega)
  · have hk' : k = x.length := by
      have : (x.drop k).length = x.length - k := List.length_drop
      omega
    refine c_exit (x_then (x_then (x_here ?_)))
    refine n_body0 rfl ?_
    refine ⟨_, rfl, q2, ?_⟩
    rw [hk', List.take_length] at hm'
    rw [hm'] at hc2 ht2
    exact ⟨blk, hc2, ht2⟩

theorem New0_spec (w : World) : Calls Try.prog 31 #[] w (Ret fun r w' => Ext w w' ∧ ∃ g, w.heap.size ≤ g ∧ r = .pointer (some ⟨g, 0, none⟩) ∧ HA g [] 0 w') := by
  refine enter (vs := []) Try.func31 rfl rfl rfl ?_
  refine c_seq (c_region (o_assign rfl rfl (o_nil (n_then (c_seq (c_region ?_))))))
  refine o_build rfl rfl (run_build _ _ _ (iv.map U32).toArray (by kernel_rfl)) ?_
  refine o_build rfl rfl (run_build _ _ _ (hcells iv (List.replicate 64 0) 0 0).toArray (by kernel_rfl)) ?_
  obtain ⟨g, w1, hr, n1, x1, b1⟩ := r_boxB (P := Try.prog) (w := w) (t := 95) (v := .agg (hcells iv (List.replicate 64 0) 0 0).toArray) (l := hcells iv (List.replicate 64 0) 0 0) rfl
  refine o_box rfl rfl hr ?_
  refine o_assign rfl rfl (o_nil (n_then (c_ret ?_)))
  refine r_body1 rfl rfl ?_
  exact ⟨_, rfl, x1, g, n1, rfl, List.replicate 64 0, ⟨b1, rfl, by simp⟩, rfl⟩

theorem HC.ldH {g : Nat} {st : List UInt32} {blk : List UInt8} {u : Int} {tot : UInt64} {w : World} (h : HC g st blk u tot w) : (Instr.loadAt 95 (.pointer (some ⟨g, 0, none⟩))).run Try.prog w = .ok (.agg (hcells st blk u tot).toArray) w :=
  r_ldA (m := hcells st blk u tot) h.hb (fun j v hj => by rwa [Nat.zero_add]) Try.underlying95 rfl (by rw [hcells_len h.ls h.lb]; exact size_Hash)
theorem one_h {st : List UInt32} {blk : List UInt8} {u : Int} {tot : UInt64} : ∀ v ∈ hcells st blk u tot, v.oneCell' = true := by
  intro v hv
  unfold hcells at hv
  rcases List.mem_append.1 hv with h | h
  · exact one_of _ v h
  · rcases List.mem_append.1 h with h | h
    · exact one_ofB _ v h
    · simp only [List.mem_cons, List.not_mem_nil, or_false] at h
      rcases h with rfl | rfl <;> rfl
end Go.Rl
/- Walk of the digest's Sum. Conditions: the hash is not nil, the message is short. -/
namespace Go.Rl
open Go.RowKit Go.Proofs

theorem call_HSum : Callable Try.prog 33 := ⟨_, Try.func33, by kernel_rfl, rfl⟩
theorem zero8b : (Try.prog.info? 96).map (·.zero) = some (some (.agg (List.replicate 8 (U8 0)).toArray)) := by kernel_rfl
theorem away_own {g k : Nat} {v : Value} (h : v.ownBlock = some k) (hne : k ≠ g) : Away g v := by
  rintro a n c rfl
  intro he
  have : some a.block = some k := h
  exact hne (by rw [← Option.some.inj this]; exact he)
theorem be8_get (n : UInt64) {i : Nat} (hi : i < 8) : (be8 n).getD i 0 = (n >>> UInt64.ofNat (56 - 8 * i)).toUInt8 := by
  simp [be8, hi]
section
variable {w : World} {g o : Nat} {T : TypeId}
theorem r_ix8b (i : Nat) (hi : i < 8) : (Instr.indexAt 96 (.pointer (some ⟨g, 0, none⟩)) (I (i : Int))).run Try.prog w = .ok (.pointer (some ⟨g, i, none⟩)) w := by
  have := r_ixA (P := Try.prog) (w := w) (g := g) (o := 0) Try.underlying96 size_u8 hi .i64
  rwa [Nat.zero_add] at this
theorem r_sl8b : (Instr.sliceAt 96 (.pointer (some ⟨g, 0, none⟩)) none none none).run Try.prog w = .ok (.slice (some ⟨g, 0, none⟩) 8 8) w := by
  simp [Instr.sliceAt, run_underlying Try.underlying96, Instr.sureAddr, Instr.sliceBounds, r_sizeOf size_u8, Addr.add_mid]
theorem Blk.bts {m : List UInt8} (h : Blk g T (m.map U8) w) (hm : m.length ≤ 64) : Bts m (.slice (some ⟨g, 0, none⟩) m.length m.length) w :=
  ⟨_, _, _, rfl, Nat.le_refl _, by unfold maxLen; omega, by simp, fun _ => ⟨_, rfl, fun j v hj => by rw [Addr.add_mid, Nat.zero_add]; exact h.cell hj⟩, fun h => by cases h⟩
end

theorem HSum_spec {w : World} {g : Nat} {m : List UInt8} (hh : HA g m (UInt64.ofNat m.length) w) :
    Calls Try.prog 33 #[.pointer (some ⟨g, 0, none⟩)] w (Ret fun r w' => Ext w w' ∧ r = .agg ((dig m).map U8).toArray) := by
  obtain ⟨blk, hc, ht⟩ := hh
  refine enter (vs := [.pointer (some ⟨g, 0, none⟩)]) Try.func33 rfl rfl rfl ?_
  obtain ⟨g2, w1, hr, n2, x1, b2⟩ := r_allocB (P := Try.prog) (w := w) (l := (List.replicate 32 0).map U8) zero32 rfl
  refine c_seq (c_region (o_alloc rfl hr (o_nil (n_then (c_seq (c_seq (c_region (o_move rfl rfl ?_))))))))
  refine o_bin rfl rfl rfl (r_eqnilp Try.underlying72) ?_
  refine o_nil (n_then ?_)
  refine c_no rfl ?_
  refine c_skip (n_then (c_seq (c_region (o_move rfl rfl ?_))))
  refine o_nilCheck rfl rfl ?_
  refine o_load rfl rfl (hc.ext x1).ldH ?_
  obtain ⟨g3, w2, hr, n3, x2, b3⟩ := r_allocB (P := Try.prog) (w := w1) (l := hcells (List.replicate 8 0) (List.replicate 64 0) 0 0) zero_Hash rfl
  refine o_alloc rfl hr ?_
  have hl := hcells_len (u := ((m.length % 64 : Nat) : Int)) (tot := UInt64.ofNat m.length) hc.ls hc.lb
  refine o_store rfl rfl (r_stA b3 (by rw [hl]; rfl) (by rw [hl]; exact size_Hash) one_h) ?_
  have hA : HA g3 m (UInt64.ofNat m.length) (w2.setRow g3 (hcells (sh m) blk ((m.length % 64 : Nat) : Int) (UInt64.ofNat m.length)).toArray) := ⟨blk, ⟨b3.row _, hc.ls, hc.lb⟩, ht⟩
  have q3 := grownBy_setRow w2 g3 (hcells (sh m) blk ((m.length % 64 : Nat) : Int) (UInt64.ofNat m.length)).toArray
  have l23 : g2 < g3 := Nat.lt_of_lt_of_le b2.lt n3
  have ne23 : some g2 ≠ some g3 := fun h => by cases h; omega
  have hw3 : w.heap.size ≤ g3 := by omega
  have B2 := (b2.ext x2).other q3 ne23
  have E3 := (x1.trans x2).of_new q3 hw3
  revert hA B2 E3
  generalize w2.setRow g3 (hcells (sh m) blk ((m.length % 64 : Nat) : Int) (UInt64.ofNat m.length)).toArray = w3
  intro hA B2 E3
  refine o_nil (n_then (c_seq (c_region ?_)))
  refine o_fieldAddr rfl rfl r_fT ?_
  obtain ⟨blk', hcA, htA⟩ := id hA
  refine o_load rfl rfl (r_load1 Try.underlying69 rfl hcA.cellT) ?_
  refine o_bin (v := U64 8) rfl rfl rfl (r_mul_u64) ?_
  refine o_assign rfl rfl (o_nil (n_then (c_seq (c_region ?_))))
  obtain ⟨r4, w4, hr, x4, o4, ob4⟩ := r_bsB (w := w3) w3.heap.size [128] (by simp) (Nat.le_refl _)
  refine o_buildSlice (vs := [(0, U8 128)]) rfl rfl hr ?_
  refine o_call call_Write rfl rfl (Write_spec (hA.ext x4) o4.bts (fun _ => away_own ob4 (by have := hA.lt; omega))) ?_
  rintro _ w5 ⟨q5, h5⟩
  have B5 := (B2.ext x4).other q5 ne23
  have E5 := (E3.trans x4).of_new q5 hw3
  refine o_nil (n_then ?_)
  have hp : padZ m.length < 64 := by unfold padZ; omega
  refine c_seq (c_cut (fun _ : Unit => [(2, .pointer (some ⟨g2, 0, none⟩)), (3, .pointer (some ⟨g3, 0, none⟩)), (4, U64 (UInt64.ofNat m.length * 8))]) (fun _ w' => Ext w w' ∧ Blk g2 49 ((List.replicate 32 0).map U8) w' ∧ ∃ tot, HA g3 (m ++ [128] ++ List.replicate (padZ m.length) 0) tot w') ?_ ?_)
  · refine c_block ?_
    refine c_loop (α := Nat) (fun _ => [(2, .pointer (some ⟨g2, 0, none⟩)), (3, .pointer (some ⟨g3, 0, none⟩)), (4, U64 (UInt64.ofNat m.length * 8))])
      (fun k w' => Ext w w' ∧ Blk g2 49 ((List.replicate 32 0).map U8) w' ∧ (∃ tot, HA g3 (m ++ [128] ++ List.replicate k 0) tot w') ∧ k ≤ padZ m.length) (fun k => padZ m.length - k) 0 ⟨rfl, rfl, rfl, trivial⟩
      ⟨E5, B5, ⟨_, by simpa using h5⟩, by omega⟩ ?_
    rintro k w6 ⟨E6, B6, ⟨tot, h6⟩, hk⟩
    obtain ⟨blk6, hc6, ht6⟩ := id h6
    have hm : (m ++ [128] ++ List.replicate k 0).length = m.length + 1 + k := by simp; omega
    refine c_seq (c_seq (c_region ?_))
    refine o_fieldAddr rfl rfl r_fU ?_
    refine o_load rfl rfl (r_load1 Try.underlying3 rfl hc6.cellU) ?_
    refine o_bin rfl rfl rfl (r_neq_i) ?_
    refine o_nil (n_then ?_)
    rw [hm]
    refine c_if rfl (fun h => ?_) (fun h => ?_)
    · have hlt : k < padZ m.length := by
        rcases Nat.lt_or_ge k (padZ m.length) with h1 | h1
        · exact h1
        · have : k = padZ m.length := by omega
          subst this
          exfalso
          unfold padZ at h
          omega
      refine c_skip (n_then (c_block (c_region ?_)))
      obtain ⟨r7, w7, hr, x7, o7, ob7⟩ := r_bsB (w := w6) w6.heap.size [0] (by simp) (Nat.le_refl _)
      refine o_buildSlice (vs := [(0, U8 0)]) rfl rfl hr ?_
      refine o_call call_Write rfl rfl (Write_spec (h6.ext x7) o7.bts (fun _ => away_own ob7 (by have := h6.lt; omega))) ?_
      rintro _ w8 ⟨q8, h8⟩
      refine o_nil (n_block ?_)
      rw [List.append_assoc _ (List.replicate k 0) [0], ← List.replicate_succ'] at h8
      exact n_round (k + 1) ⟨rfl, rfl, rfl, trivial⟩ ⟨(E6.trans x7).of_new q8 hw3, (B6.ext x7).other q8 ne23, ⟨_, h8⟩, hlt⟩ (by omega)
    · have hk' : k = padZ m.length := by
        unfold padZ at hk hp ⊢
        omega
      subst hk'
      exact c_exit (x_then (x_then (x_here (n_meet () ⟨rfl, rfl, rfl, trivial⟩ ⟨E6, B6, tot, h6⟩))))
  rintro _ w6 ⟨E6, B6, tot6, h6⟩
  refine n_then (c_seq (c_region ?_))
  obtain ⟨bits, hbits⟩ : ∃ b, b = UInt64.ofNat m.length * 8 := ⟨_, rfl⟩
  rw [← hbits]
  have hb8 := be8_len bits
  obtain ⟨g5, w7, hr, n5, x7, b7⟩ := r_allocB (P := Try.prog) (w := w6) (l := (fillB (be8 bits) 8 0).map U8) zero8b rfl
  refine o_alloc rfl hr (o_nil (n_then ?_))
  have l35 : g3 < g5 := Nat.lt_of_lt_of_le h6.lt n5
  have ne25 : some g2 ≠ some g5 := fun h => by cases h; omega
  have ne35 : some g3 ≠ some g5 := fun h => by cases h; omega
  refine c_seq (c_cut (fun _ : Unit => [(2, .pointer (some ⟨g2, 0, none⟩)), (3, .pointer (some ⟨g3, 0, none⟩)), (5, .pointer (some ⟨g5, 0, none⟩))]) (fun _ w' => w7.grownBy w' (some g5) ∧ Blk g5 96 ((be8 bits).map U8) w') ?_ ?_)
  · refine c_seq (c_region (o_move rfl rfl (o_nil (n_then (c_block ?_)))))
    refine c_loop (α := Nat) (fun i => [(2, .pointer (some ⟨g2, 0, none⟩)), (3, .pointer (some ⟨g3, 0, none⟩)), (4, U64 bits), (5, .pointer (some ⟨g5, 0, none⟩)), (27, I (i : Int))])
      (fun i w' => w7.grownBy w' (some g5) ∧ Blk g5 96 ((fillB (be8 bits) 8 i).map U8) w' ∧ i ≤ 8) (fun i => 8 - i) 0 ⟨rfl, rfl, rfl, rfl, rfl, trivial⟩
      ⟨gb_ext (Ext.refl _), b7, by omega⟩ ?_
    rintro i w8 ⟨q8, b8, hi⟩
    refine c_seq (c_region ?_)
    refine o_bin rfl rfl rfl (r_lss_i) ?_
    refine o_nil (n_then (c_seq ?_))
    refine c_if rfl (fun h => ?_) (fun h => ?_)
    · have hi8 : i < 8 := by omega
      have hfl := fillB_len (j := i) hb8 (by omega)
      have e6 : (56 : Int) - 8 * (i : Int) = ((56 - 8 * i : Nat) : Int) := by omega
      refine c_skip (n_then (c_seq (c_block (c_seq (c_region (o_move rfl rfl (o_assign rfl rfl (o_nil (n_then (c_region (o_move rfl rfl (o_move rfl rfl (o_move rfl rfl ?_)))))))))))))
      refine o_bin rfl rfl rfl (r_mul_i (by omega) (by omega)) ?_
      refine o_bin (r := I ((56 - 8 * i : Nat) : Int)) rfl rfl rfl (by rw [← e6]; exact r_sub_i (by omega) (by omega)) ?_
      refine o_bin rfl rfl rfl (r_shr_u64 (56 - 8 * i) (by omega)) ?_
      refine o_conv rfl rfl (r_u64_u8 Try.underlying69 Try.underlying5) ?_
      refine o_indexAddr rfl rfl rfl (r_ix8b i hi8) ?_
      refine o_store rfl rfl (r_stB b8 i (by omega)) ?_
      have b9 := b8.setB i (bits >>> UInt64.ofNat (56 - 8 * i)).toUInt8
      have hset : (fillB (be8 bits) 8 i).set i (bits >>> UInt64.ofNat (56 - 8 * i)).toUInt8 = fillB (be8 bits) 8 (i + 1) := by
        rw [← be8_get bits hi8]
        exact fillB_set hb8 hi8
      rw [hset] at b9
      refine o_nil (n_block (n_then (c_region ?_)))
      refine o_bin rfl rfl rfl (r_add_i (by omega) (by omega)) ?_
      refine o_move rfl rfl (o_nil ?_)
      exact n_round (i + 1) ⟨rfl, rfl, rfl, rfl, rfl, trivial⟩ ⟨q8.trans (grownBy_setCell w8 g5 i _), b9, by omega⟩ (by omega)
    · have hi' : i = 8 := by omega
      subst hi'
      rw [fillB_all hb8] at b8
      exact c_exit (x_then (x_then (x_here (n_meet () ⟨rfl, rfl, rfl, trivial⟩ ⟨q8, b8⟩))))
  rintro _ w8 ⟨q8, b8⟩
  have E8 : Ext w w8 := (E6.trans x7).of_new q8 (by omega)
  have B8 := (B6.ext x7).other q8 ne25
  have h8 := (h6.ext x7).other q8 ne35
  refine n_then (c_seq (c_region ?_))
  refine o_slice (a := none) (b := none) rfl rfl rfl rfl rfl r_sl8b ?_
  have bt8 := b8.bts (by omega)
  rw [hb8] at bt8
  refine o_call call_Write rfl rfl (Write_spec h8 bt8 (by rintro _ a n c he; cases he; show g5 ≠ g3; omega)) ?_
  rintro _ w9 ⟨q9, h9⟩
  have hpad : m ++ [128] ++ List.replicate (padZ m.length) 0 ++ be8 bits = padded m := by rw [hbits]; rfl
  rw [hpad] at h9
  have E9 := E8.of_new q9 hw3
  have B9 := B8.other q9 ne23
  refine o_nil (n_then (c_seq (c_region ?_)))
  obtain ⟨g7, w10, hr, n7, x10, b10⟩ := r_allocB (P := Try.prog) (w := w9) (l := (fillB (dig m) 32 0).map U8) zero32 rfl
  refine o_alloc rfl hr (o_nil (n_then ?_))
  obtain ⟨blk9, hc9, _⟩ := h9.ext x10
  have l37 : g3 < g7 := Nat.lt_of_lt_of_le h9.lt n7
  have ne27 : some g2 ≠ some g7 := fun h => by cases h; omega
  have hs8 := sh_len (padded m)
  have hdl := dig_len m
  refine c_seq (c_cut (fun _ : Unit => [(2, .pointer (some ⟨g2, 0, none⟩)), (7, .pointer (some ⟨g7, 0, none⟩))]) (fun _ w' => w10.grownBy w' (some g7) ∧ Blk g7 49 ((dig m).map U8) w') ?_ ?_)
  · refine c_seq (c_region ?_)
    refine o_fieldAddr rfl rfl r_fS ?_
    refine o_load rfl rfl hc9.ldS ?_
    refine o_move rfl rfl (o_nil (n_then (c_block ?_)))
    refine c_loop (α := Nat) (fun i => [(2, .pointer (some ⟨g2, 0, none⟩)), (7, .pointer (some ⟨g7, 0, none⟩)), (42, .agg ((sh (padded m)).map U32).toArray), (43, I (i : Int))])
      (fun i w' => w10.grownBy w' (some g7) ∧ Blk g7 49 ((fillB (dig m) 32 (4 * i)).map U8) w' ∧ i ≤ 8) (fun i => 8 - i) 0 ⟨rfl, rfl, rfl, rfl, trivial⟩
      ⟨gb_ext (Ext.refl _), b10, by omega⟩ ?_
    rintro i w11 ⟨q11, b11, hi⟩
    refine c_seq (c_region ?_)
    refine o_bin rfl rfl rfl (r_lss_i) ?_
    refine o_nil (n_then (c_seq ?_))
    refine c_if rfl (fun h => ?_) (fun h => ?_)
    · have hi8 : i < 8 := by omega
      have e0 : (4 : Int) * (i : Int) = ((4 * i : Nat) : Int) := by omega
      have e1 : ((4 * i : Nat) : Int) + 1 = ((4 * i + 1 : Nat) : Int) := by omega
      have e2 : ((4 * i : Nat) : Int) + 2 = ((4 * i + 2 : Nat) : Int) := by omega
      have e3 : ((4 * i : Nat) : Int) + 3 = ((4 * i + 3 : Nat) : Int) := by omega
      have s0 := fillB_len (j := 4 * i) hdl (by omega)
      have s1 := fillB_len (j := 4 * i + 1) hdl (by omega)
      have s2 := fillB_len (j := 4 * i + 2) hdl (by omega)
      have s3 := fillB_len (j := 4 * i + 3) hdl (by omega)
      refine c_skip (n_then (c_seq (c_block (c_seq (c_region (o_move rfl rfl ?_))))))
      refine o_index rfl rfl rfl (r_idx (l := (sh (padded m)).map U32) Try.underlying92 size_u32 Try.underlying88 hi8 .i64 (mapU_get (by omega))) ?_
      refine o_assign rfl rfl (o_assign rfl rfl (o_nil (n_then (c_region (o_move rfl rfl ?_)))))
      refine o_bin (r := I ((4 * i : Nat) : Int)) rfl rfl rfl (by rw [← e0]; exact r_mul_i (by omega) (by omega)) ?_
      refine o_move rfl rfl ?_
      refine o_bin (r := I ((4 * i : Nat) : Int)) rfl rfl rfl (by rw [← e0]; exact r_mul_i (by omega) (by omega)) ?_
      refine o_bin (r := I ((4 * i + 1 : Nat) : Int)) rfl rfl rfl (by rw [← e1]; exact r_add_i (by omega) (by omega)) ?_
      refine o_move rfl rfl ?_
      refine o_bin (r := I ((4 * i : Nat) : Int)) rfl rfl rfl (by rw [← e0]; exact r_mul_i (by omega) (by omega)) ?_
      refine o_bin (r := I ((4 * i + 2 : Nat) : Int)) rfl rfl rfl (by rw [← e2]; exact r_add_i (by omega) (by omega)) ?_
      refine o_move rfl rfl ?_
      refine o_bin (r := I ((4 * i : Nat) : Int)) rfl rfl rfl (by rw [← e0]; exact r_mul_i (by omega) (by omega)) ?_
      refine o_bin (r := I ((4 * i + 3 : Nat) : Int)) rfl rfl rfl (by rw [← e3]; exact r_add_i (by omega) (by omega)) ?_
      refine o_move rfl rfl ?_
      refine o_bin rfl rfl rfl (r_shr_u32 24 (by omega)) ?_
      refine o_conv rfl rfl (r_u32_u8 Try.underlying88 Try.underlying5) ?_
      refine o_move rfl rfl ?_
      refine o_bin rfl rfl rfl (r_shr_u32 16 (by omega)) ?_
      refine o_conv rfl rfl (r_u32_u8 Try.underlying88 Try.underlying5) ?_
      refine o_move rfl rfl ?_
      refine o_bin rfl rfl rfl (r_shr_u32 8 (by omega)) ?_
      refine o_conv rfl rfl (r_u32_u8 Try.underlying88 Try.underlying5) ?_
      refine o_move rfl rfl ?_
      refine o_conv rfl rfl (r_u32_u8 Try.underlying88 Try.underlying5) ?_
      have d0 : (dig m).getD (4 * i) 0 = ((sh (padded m)).getD i 0 >>> UInt32.ofNat 24).toUInt8 := be4s_get (sh (padded m)) i 0 (by omega) (by omega)
      have d1 : (dig m).getD (4 * i + 1) 0 = ((sh (padded m)).getD i 0 >>> UInt32.ofNat 16).toUInt8 := be4s_get (sh (padded m)) i 1 (by omega) (by omega)
      have d2 : (dig m).getD (4 * i + 2) 0 = ((sh (padded m)).getD i 0 >>> UInt32.ofNat 8).toUInt8 := be4s_get (sh (padded m)) i 2 (by omega) (by omega)
      have d3 : (dig m).getD (4 * i + 3) 0 = ((sh (padded m)).getD i 0).toUInt8 := by
        have := be4s_get (sh (padded m)) i 3 (by omega) (by omega)
        rw [show UInt32.ofNat (24 - 8 * 3) = 0 from rfl, UInt32.shiftRight_zero] at this
        exact this
      have f0 : (fillB (dig m) 32 (4 * i)).set (4 * i) ((dig m).getD (4 * i) 0) = fillB (dig m) 32 (4 * i + 1) := fillB_set hdl (by omega)
      have f1 : (fillB (dig m) 32 (4 * i + 1)).set (4 * i + 1) ((dig m).getD (4 * i + 1) 0) = fillB (dig m) 32 (4 * i + 2) := fillB_set hdl (by omega)
      have f2 : (fillB (dig m) 32 (4 * i + 2)).set (4 * i + 2) ((dig m).getD (4 * i + 2) 0) = fillB (dig m) 32 (4 * i + 3) := fillB_set hdl (by omega)
      have f3 : (fillB (dig m) 32 (4 * i + 3)).set (4 * i + 3) ((dig m).getD (4 * i + 3) 0) = fillB (dig m) 32 (4 * (i + 1)) := fillB_set hdl (by omega)
      rw [d0] at f0
      rw [d1] at f1
      rw [d2] at f2
      rw [d3] at f3
      refine o_indexAddr rfl rfl rfl (r_ix32 (4 * i) (by omega)) ?_
      refine o_store rfl rfl (r_stB b11 (4 * i) (by omega)) ?_
      have b12 := b11.setB (4 * i) ((sh (padded m)).getD i 0 >>> UInt32.ofNat 24).toUInt8
      rw [f0] at b12
      refine o_indexAddr rfl rfl rfl (r_ix32 (4 * i + 1) (by omega)) ?_
      refine o_store rfl rfl (r_stB b12 (4 * i + 1) (by omega)) ?_
      have b13 := b12.setB (4 * i + 1) ((sh (padded m)).getD i 0 >>> UInt32.ofNat 16).toUInt8
      rw [f1] at b13
      refine o_indexAddr rfl rfl rfl (r_ix32 (4 * i + 2) (by omega)) ?_
      refine o_store rfl rfl (r_stB b13 (4 * i + 2) (by omega)) ?_
      have b14 := b13.setB (4 * i + 2) ((sh (padded m)).getD i 0 >>> UInt32.ofNat 8).toUInt8
      rw [f2] at b14
      refine o_indexAddr rfl rfl rfl (r_ix32 (4 * i + 3) (by omega)) ?_
      refine o_store rfl rfl (r_stB b14 (4 * i + 3) (by omega)) ?_
      have b15 := b14.setB (4 * i + 3) ((sh (padded m)).getD i 0).toUInt8
      rw [f3] at b15
      refine o_nil (n_block (n_then (c_region ?_)))
      refine o_bin rfl rfl rfl (r_add_i (by omega) (by omega)) ?_
      refine o_move rfl rfl (o_nil ?_)
      exact n_round (i + 1) ⟨rfl, rfl, rfl, rfl, trivial⟩ ⟨(((q11.trans (grownBy_setCell _ g7 (4 * i) _)).trans (grownBy_setCell _ g7 (4 * i + 1) _)).trans (grownBy_setCell _ g7 (4 * i + 2) _)).trans (grownBy_setCell _ g7 (4 * i + 3) _), b15, by omega⟩ (by omega)
    · have hi' : i = 8 := by omega
      subst hi'
      rw [show 4 * 8 = 32 from rfl, fillB_all hdl] at b11
      exact c_exit (x_then (x_then (x_here (n_meet () ⟨rfl, rfl, trivial⟩ ⟨q11, b11⟩))))
  rintro _ w11 ⟨q11, b11⟩
  have hsz : (Try.prog.info? 49).map (·.size) = some ((dig m).map U8).length := by rw [List.length_map, dig_len]; exact size32
  have F2 := (B9.ext x10).other q11 ne27
  have E11 : Ext w w11 := (E9.trans x10).of_new q11 (by omega)
  refine n_then (c_seq (c_region ?_))
  refine o_load rfl rfl (r_ldA (m := (dig m).map U8) b11 (fun j v h => by rwa [Nat.zero_add]) Try.underlying49 rfl hsz) ?_
  refine o_store rfl rfl (r_stA F2 (by simp [dig_len]) hsz (one_ofB _)) ?_
  refine o_nil (n_then (c_ret ?_))
  refine r_bodyc rfl rfl (F2.row _) Try.underlying49 rfl hsz ?_
  exact ⟨_, rfl, E11.of_new (grownBy_setRow _ _ _) n2, rfl⟩
end Go.Rl
/- Equality of digests, and Sum of bytes. Conditions: the message is short. -/
namespace Go.Rl
open Go.RowKit Go.Proofs

/-- Arrays of bytes, compared. -/
theorem eqItems_u8 {P : Program} {w : World} {e : TypeId} (he : P.underlying e = some (.int .u8)) (d : Nat) (l m : List UInt8) : ∀ (is : List Nat), (∀ i ∈ is, i < l.length ∧ i < m.length) →
    (Op.eqItems (d + 1) e 1 (l.map U8).toArray (m.map U8).toArray is).run P w = .ok (is.all fun i => decide (l.getD i 0 = m.getD i 0)) w
  | [], _ => rfl
  | i :: is, h => by
    obtain ⟨hi, hj⟩ := h i (by simp)
    have hagg : (isAgg e).run P w = .ok false w := by simp [isAgg, run_underlying he]
    have hpart : (part e (l.map U8).toArray (i * 1)).run P w = .ok (U8 l[i]) w := by simp [part, hagg, hi]
    have hpart' : (part e (m.map U8).toArray (i * 1)).run P w = .ok (U8 m[i]) w := by simp [part, hagg, hj]
    have heq : (Op.equalIn (d + 1) e (U8 l[i]) (U8 m[i])).run P w = .ok (decide (l[i] = m[i])) w := by
      have : (decide ((l[i].toNat : Int) = (m[i].toNat : Int))) = decide (l[i] = m[i]) := by
        rw [decide_eq_decide]
        constructor
        · intro h; exact UInt8.toNat_inj.1 (by omega)
        · intro h; rw [h]
      rw [← this]
      simp [Op.equalIn, run_underlying he, U8]
      rfl
    have ih := eqItems_u8 (w := w) he d l m is fun j hj => h j (by simp [hj])
    unfold Op.eqItems
    simp only [Sem.run_bind, hpart, hpart', Result.andThen_ok, heq]
    have e1 : l.getD i 0 = l[i] := by simp [List.getD, hi]
    have e2 : m.getD i 0 = m[i] := by simp [List.getD, hj]
    by_cases hq : l[i] = m[i]
    · simp only [List.all_cons, e1, e2, hq, decide_true, Bool.true_and]
      simpa using ih
    · simp only [List.all_cons, e1, e2, hq, decide_false, Bool.false_and]
      rfl
theorem all_range {l m : List UInt8} {n : Nat} (hl : l.length = n) (hm : m.length = n) : ((List.range n).all fun i => decide (l.getD i 0 = m.getD i 0)) = decide (l = m) := by
  rw [Bool.eq_iff_iff]
  simp only [List.all_eq_true, List.mem_range, decide_eq_true_eq]
  constructor
  · intro h
    refine List.ext_getElem (by omega) fun i h1 h2 => ?_
    have := h i (by omega)
    simpa [List.getD, h1, h2] using this
  · rintro rfl i _; rfl
theorem bin_eql_agg {P : Program} {w : World} {t : TypeId} {x y : Operand} {a b : Array Value} (hg : P.eqGuardType P.depth t = false) : (bin .eql t x y (.agg a) (.agg b)).run P w = (do pure (Value.bool (← Op.equal t (.agg a) (.agg b))) : Sem Value).run P w := by
  show (do eqGuard .eql t x y (.agg a) (.agg b); binOp .eql t (.agg a) (.agg b) : Sem Value).run P w = _
  rw [Sem.run_bind, run_eqGuard_agg (hm := hg)]
  rfl
theorem bin_neq_agg {P : Program} {w : World} {t : TypeId} {x y : Operand} {a b : Array Value} (hg : P.eqGuardType P.depth t = false) : (bin .neq t x y (.agg a) (.agg b)).run P w = (do pure (Value.bool (!(← Op.equal t (.agg a) (.agg b)))) : Sem Value).run P w := by
  show (do eqGuard .neq t x y (.agg a) (.agg b); binOp .neq t (.agg a) (.agg b) : Sem Value).run P w = _
  rw [Sem.run_bind, run_eqGuard_agg (hm := hg)]
  rfl
theorem guard32 : Try.prog.eqGuardType Try.prog.depth 49 = false := by kernel_rfl
theorem run_eqA {w : World} {l m : List UInt8} (hl : l.length = 32) (hm : m.length = 32) : (Op.equal 49 (.agg (l.map U8).toArray) (.agg (m.map U8).toArray)).run Try.prog w = .ok (decide (l = m)) w := by
  show (Op.equalIn (9998 + 1 + 1) 49 _ _).run Try.prog w = _
  obtain ⟨i, hi, _⟩ := info_parts info_u8
  rw [run_equalIn_array _ _ _ _ Try.underlying49 hi]
  have hc : Try.prog.cellsOf 5 = 1 := by kernel_rfl
  rw [hc, eqItems_u8 Try.underlying5 9998 l m _ fun i hi => by rw [hl, hm]; simpa using hi]
  rw [all_range hl hm]
theorem r_eqA {w : World} {x y : Operand} {l m : List UInt8} (hl : l.length = 32) (hm : m.length = 32) : (bin .eql 49 x y (.agg (l.map U8).toArray) (.agg (m.map U8).toArray)).run Try.prog w = .ok (B (decide (l = m))) w := by
  rw [bin_eql_agg guard32, Sem.run_bind, run_eqA hl hm]; rfl
theorem r_neA {w : World} {x y : Operand} {l m : List UInt8} (hl : l.length = 32) (hm : m.length = 32) : (bin .neq 49 x y (.agg (l.map U8).toArray) (.agg (m.map U8).toArray)).run Try.prog w = .ok (B (decide (l ≠ m))) w := by
  rw [bin_neq_agg guard32, Sem.run_bind, run_eqA hl hm]
  show Result.ok (B (!decide (l = m))) w = _
  rw [decide_not]
theorem r_eqlA {w : World} {x y : Operand} {l : List UInt8} (hl : l.length = 32) : (bin .eql 49 x y (.agg (l.map U8).toArray) (.agg (l.map U8).toArray)).run Try.prog w = .ok (B true) w := by
  rw [r_eqA hl hl]; simp
theorem r_neqA {w : World} {x y : Operand} {l : List UInt8} (hl : l.length = 32) : (bin .neq 49 x y (.agg (l.map U8).toArray) (.agg (l.map U8).toArray)).run Try.prog w = .ok (B false) w := by
  rw [r_neA hl hl, decide_eq_false (fun h => h rfl)]

theorem call_dSum : Callable Try.prog 19 := ⟨_, Try.func19, by kernel_rfl, rfl⟩
theorem Bts.old {l : List UInt8} {v : Value} {w : World} (h : Bts l v w) {g : Nat} (hg : w.heap.size ≤ g) : 0 < l.length → Away g v := fun h0 a n c he => by
  obtain ⟨A, n', c', rfl, h1, h2, h3, h4, h5⟩ := h
  have hn : l.length = n' := by simpa using h3
  obtain ⟨ad, rfl, hc⟩ := h4 (by omega)
  simp only [Value.slice.injEq, Option.some.injEq] at he
  obtain ⟨rfl, _, _⟩ := he
  have h6 := hc 0 (U8 l[0]) (by simp [h0])
  rw [add_zero] at h6
  have : ad.block < w.heap.size := by
    rcases Nat.lt_or_ge ad.block w.heap.size with h7 | h7
    · exact h7
    · simp [World.cell?, Array.getElem?_eq_none h7] at h6
  omega
end Go.Rl
/- Walk of digest.Sum: it returns the digest. No condition but that the bytes can be read. -/
namespace Go.Rl
open Go.RowKit Go.Proofs

theorem dSum_spec {w : World} {l : List UInt8} {v : Value} (hv : Bts l v w) :
    Calls Try.prog 19 #[v] w (Ret fun r w' => Ext w w' ∧ r = .agg ((dig l).map U8).toArray) := by
  refine enter (vs := [v]) Try.func19 rfl rfl rfl ?_
  obtain ⟨g2, w1, hr, n2, x1, b2⟩ := r_allocB (P := Try.prog) (w := w) (l := (List.replicate 32 0).map U8) zero32 rfl
  refine c_seq (c_region (o_alloc rfl hr (o_nil (n_then (c_seq (c_region ?_))))))
  refine o_call (vs := []) call_HNew rfl rfl (New0_spec w1) ?_
  rintro _ w2 ⟨x2, g, hg, rfl, hA⟩
  refine o_assign rfl rfl (o_nil (n_then (c_seq (c_region (o_move rfl rfl (o_move rfl rfl ?_))))))
  have e2 := x1.trans x2
  refine o_call call_Write rfl rfl (Write_spec hA (hv.ext e2) (hv.old (Nat.le_trans x1.size hg))) ?_
  rintro _ w3 ⟨q3, h3⟩
  rw [List.nil_append, UInt64.zero_add] at h3
  have l2 : g2 < g := Nat.lt_of_lt_of_le b2.lt hg
  have hwg : w.heap.size ≤ g := by omega
  have e3 := e2.of_new q3 hwg
  have B3 := (b2.ext x2).other q3 (fun h => by cases h; omega)
  refine o_nil (n_then (c_seq (c_region (o_move rfl rfl ?_))))
  refine o_call call_HSum rfl rfl (HSum_spec h3) ?_
  rintro _ w4 ⟨x4, rfl⟩
  have hsz : (Try.prog.info? 49).map (·.size) = some ((dig l).map U8).length := by rw [List.length_map, dig_len]; exact size32
  have B4 := B3.ext x4
  refine o_store rfl rfl (r_stA B4 (by simp [dig_len]) hsz (one_ofB _)) ?_
  refine o_nil (n_then (c_ret ?_))
  refine r_bodyc rfl rfl (B4.row _) Try.underlying49 rfl hsz ?_
  exact ⟨_, rfl, (e3.trans x4).of_new (grownBy_setRow _ _ _) n2, rfl⟩
end Go.Rl
/- model.Encode walked. Conditions: the model is small. -/
namespace Go.Rl
open Go.RowKit Go.Proofs
theorem call_AEncode : Callable Try.prog 8 := ⟨_, Try.func8, by kernel_rfl, rfl⟩
/-- What Encode returns: bytes and a number. -/
def encRes (m : ModD) : List UInt8 × Int := if validM m = true then (if (fileM m).length ≤ 1048576 then (fileM m, 0) else ([], 8)) else ([], 1)
def EncR (base : Nat) (m : ModD) (r : Value) (w : World) : Prop := ∃ v, r = .tuple #[v, I (encRes m).2] ∧ OwnB base (encRes m).1 v w
/-- A bound of a model's bytes. -/
def lenLs : List LayD → Nat
  | [] => 0
  | l :: t => 90 + lenQs l.ws + lenQs l.bs + lenLs t
theorem lenLs_drop {l : List LayD} {i : Nat} (hi : i < l.length) : lenLs (l.drop i) = 90 + lenQs l[i].ws + lenQs l[i].bs + lenLs (l.drop (i + 1)) := by
  rw [List.drop_eq_getElem_cons hi]; rfl
def lenM (m : ModD) : Nat := 100 + 10 * m.inp.length + lenLs m.lays
theorem encQs_len {l : List RatD} (hs : small l) (hl : l.length ≤ 9223372036854775807) : (encQs l).length ≤ 10 + lenQs l := by
  have hu := uv_len (n := l.length) (by omega)
  have key : ∀ l : List RatD, small l → (l.flatMap encQ).length ≤ lenQs l := by
    intro l
    induction l with
    | nil => intro _; simp
    | cons q l ih =>
      intro hs
      have h1 := hs q (by simp)
      have h2 := encQ_len h1.1 h1.2
      have h3 := ih fun x hx => hs x (by simp [hx])
      simp only [List.flatMap_cons, List.length_append, lenQs]
      omega
  have := key l hs
  simp only [encQs, List.length_append]
  omega
theorem encL_len {l : LayD} (hs : small l.ws ∧ small l.bs) (hw : l.wf) (h1 : l.ws.length ≤ 9223372036854775807) (h2 : l.bs.length ≤ 9223372036854775807) : (encL l).length ≤ 90 + lenQs l.ws + lenQs l.bs := by
  have a := encQs_len hs.1 h1
  have b := encQs_len hs.2 h2
  simp only [LayD.wf, LayD.ints, List.mem_cons, List.not_mem_nil, or_false, forall_eq_or_imp, forall_eq] at hw
  obtain ⟨k1, k2, k3, k4, k5, k6, k7⟩ := hw
  have := encI_len k1
  have := encI_len k2
  have := encI_len k3
  have := encI_len k4
  have := encI_len k5
  have := encI_len k6
  have := encI_len k7
  simp only [encL, LayD.ints, List.flatMap_cons, List.flatMap_nil, List.append_nil, List.length_append]
  omega
theorem ints_len {l : List Int} (h : ∀ n ∈ l, i64 n) : (l.flatMap encI).length ≤ 10 * l.length := by
  induction l with
  | nil => simp
  | cons n l ih =>
    have h1 := encI_len (h n (by simp))
    have h2 := ih fun x hx => h x (by simp [hx])
    simp only [List.flatMap_cons, List.length_append, List.length_cons]
    omega
theorem r_sl32 {w : World} {g : Nat} : (Instr.sliceAt 49 (.pointer (some ⟨g, 0, none⟩)) none none none).run Try.prog w = .ok (.slice (some ⟨g, 0, none⟩) 32 32) w := by
  simp [Instr.sliceAt, run_underlying Try.underlying49, Instr.sureAddr, Instr.sliceBounds, r_sizeOf size_u8, Addr.add_mid]
theorem r_lenWr {w : World} {t ty : TypeId} {l : List UInt8} {v : Value} (ht : Try.prog.underlying t = some (.slice 5)) (h : Bts l v w) : (Builtin.len_ #[t] ty #[v]).run Try.prog w = .ok (I l.length) w := by
  obtain ⟨n, hl, _, hr⟩ := r_len (P := Try.prog) (ty := ty) ht h
  have : l.length = n := by simpa using hl
  rw [hr, this]
theorem rpx_ints {X : Nat → Prop} {w : World} : ∀ (l : List Int), RpXAll X w (l.map dIn) (l.map I)
  | [] => RpXAll.nil
  | n :: l => RpXAll.cons (a := [I n]) (by simp only [dIn, RpX, I]) (rpx_ints l)
theorem OwnI.rpx {X : Nat → Prop} {w : World} {base : Nat} {l : List Int} {v : Value} (h : OwnI base l v w) (hX : ∀ k, v.ownBlock = some k → ¬ X k) : RpX X w (dInts l) [v] := by
  obtain ⟨n, h⟩ := h
  exact RpX.ofOwn h (rpx_ints l) (by simp [dIn_size]) (by omega) hX
theorem AEncode_spec {w : World} {m : ModD} {x y : Value} (ha : DsV dIn m.inp x w) (hb : DsV dLay m.lays y w) (hs : smallM m) (hw : m.wf) (hl : lenM m ≤ 17592186044416) :
    Calls Try.prog 8 #[.agg #[x, y]] w (Ret fun r w' => Ext w w' ∧ EncR w.heap.size m r w') := by
  refine enter (vs := [.agg #[x, y]]) Try.func8 rfl rfl rfl ?_
  have hll := hb.len
  have hil := ha.len
  refine c_seq (c_region ?_)
  obtain ⟨g1, w1, hr1, l1, x1, k1⟩ := r_boxS (P := Try.prog) (w := w) (T := 25) (cs := [x, y])
  refine o_box rfl rfl hr1 (o_assign rfl rfl (o_assign rfl rfl (o_nil (n_then (c_seq (c_seq ?_))))))
  rcases hc : validM m
  · refine c_region (o_load rfl rfl (k1.ld Try.underlying25 rfl (by kernel_rfl)) (o_call call_AValid rfl rfl ((by have := AValid_spec (ha.ext x1) (hb.ext x1) hs (fun l hl => hw.2 l hl l.kd (by simp [LayD.ints])); rw [hc] at this; exact this)) ?_))
    rintro v9 w9 ⟨x9, rfl⟩
    refine o_not rfl rfl r_not (o_nil (n_then (c_yes rfl (c_seq (c_region (o_assign rfl rfl (o_assign rfl rfl (o_nil (n_then (c_ret (r_then (r_body2 rfl rfl rfl ?_))))))))))))
    exact ⟨_, rfl, (x1.trans x9), _, by unfold encRes; rw [hc]; rfl, by unfold encRes; rw [hc]; exact OwnB.nil _ _⟩
  · refine c_region (o_load rfl rfl (k1.ld Try.underlying25 rfl (by kernel_rfl)) (o_call call_AValid rfl rfl ((by have := AValid_spec (ha.ext x1) (hb.ext x1) hs (fun l hl => hw.2 l hl l.kd (by simp [LayD.ints])); rw [hc] at this; exact this)) ?_))
    rintro v9 w9 ⟨x9, rfl⟩
    refine o_not rfl rfl r_not (o_nil (n_then (c_no rfl (c_skip (n_then (c_seq ?_))))))
    have ha1 : Rp w1 (dInts m.inp) [x] := ha.ext x1
    have hb1 : DsV dLay m.lays y w1 := hb.ext x1
    have hul := uv_len (n := m.inp.length) (by unfold lenM at hl; omega)
    have hvl := uv_len (n := m.lays.length) (by omega)
    have hin := ints_len hw.1
    have hlm : 100 + 10 * m.inp.length + lenLs m.lays ≤ 17592186044416 := hl
    refine c_region ?_
    obtain ⟨v11, w110, w11, hr11, hc11, x11, b11, ad, hv11, had, hlt⟩ := r_litT (w := w9) (t := 45) Try.underlying45 [82, 76, 85, 77] (by simp) (by simp)
    obtain ⟨g, wa, wb, hr4, hs4, x4, hW⟩ := r_newW (T := 45) (t := 45) (z := .slice none 0 0) (w0 := w1) (by kernel_rfl) rfl size_writer (x9.trans x11) b11 hv11 (Nat.le_trans x9.size had) hlt
    refine o_buildSlice (vs := [(0, U8 82), (1, U8 76), (2, U8 85), (3, U8 77)]) rfl rfl hr11 ?_
    refine o_conv rfl rfl hc11 ?_
    refine o_alloc rfl hr4 ?_
    refine o_store rfl rfl hs4 ?_
    refine o_nil (n_then (c_seq (c_region (o_fieldAddr rfl rfl (r_fAt (o := 0) Try.underlying25 rfl (by kernel_rfl) rfl) (o_load rfl rfl (r_load1 Try.underlying22 rfl (x4.cell_some (k1.cell (i := 0) rfl))) ?_)))))
    refine o_len rfl rfl (r_lenDs Try.underlying22 (ha.ext (x1.trans x4))) (o_call call_WCount rfl rfl ((WCount_spec hW x4.size (by simp) (by omega))) ?_)
    rintro v16 w16 ⟨v16, hW16, st16⟩
    have x16 := st16.ext (x4) hW.ge hW.new
    refine o_nil (n_then (c_seq (c_region (o_fieldAddr rfl rfl (r_fAt (o := 0) Try.underlying25 rfl (by kernel_rfl) rfl) (o_load rfl rfl (r_load1 Try.underlying22 rfl (x16.cell_some (k1.cell (i := 0) rfl))) ?_)))))
    refine o_call call_WInts rfl rfl ((WInts_spec hW16 (x16).size (ha1.wrX (x16) hW16.ge hW16.new) hw.1 (by simp only [List.length_append, List.length_cons, List.length_nil]; omega))) ?_
    rintro v19 w19 ⟨v19, hW19, st19⟩
    have x19 := st19.ext (x16) hW16.ge hW16.new
    refine o_nil (n_then (c_seq (c_region (o_fieldAddr rfl rfl (r_fAt (o := 1) Try.underlying25 rfl (by kernel_rfl) rfl) (o_load rfl rfl (r_load1 Try.underlying23 rfl (x19.cell_some (k1.cell (i := 1) rfl))) ?_)))))
    refine o_len rfl rfl (r_lenDs Try.underlying23 (hb.ext (x1.trans x19))) (o_call call_WCount rfl rfl ((WCount_spec hW19 (x19).size (by simp only [List.length_append, List.length_cons, List.length_nil]; omega) (by omega))) ?_)
    rintro v23 w23 ⟨v23, hW23, st23⟩
    have x23 := st23.ext (x19) hW19.ge hW19.new
    obtain ⟨pre, hpre⟩ : ∃ pre, pre = [82, 76, 85, 77] ++ uv m.inp.length ++ m.inp.flatMap encI ++ uv m.lays.length := ⟨_, rfl⟩
    rw [← hpre] at hW23
    have hpl : pre.length ≤ 24 + 10 * m.inp.length := by rw [hpre]; simp only [List.length_append, List.length_cons, List.length_nil]; omega
    refine o_nil (n_then (c_seq (c_seq (c_region (o_fieldAddr rfl rfl (r_fAt (o := 1) Try.underlying25 rfl (by kernel_rfl) rfl) (o_load rfl rfl (r_load1 Try.underlying23 rfl (x23.cell_some (k1.cell (i := 1) rfl))) ?_))))))
    refine o_len rfl rfl (r_lenDs Try.underlying23 (hb.ext (x1.trans x23))) (o_move rfl rfl (o_nil (n_then (c_block ?_))))
    refine c_loop2 (fun (i : Nat) (u : Value) => [(4, .pointer (some ⟨g, 0, none⟩)), (25, y), (26, I (m.lays.length : Int)), (27, I (i : Int))]) (fun (i : Nat) (u : Value) w' => WrAt 45 w1.heap.size g (pre ++ (m.lays.take i).flatMap encL) u w' ∧ Ext w1 w' ∧ i ≤ m.lays.length ∧ ((m.lays.take i).flatMap encL).length + lenLs (m.lays.drop i) ≤ lenLs m.lays) (fun (i : Nat) (u : Value) => m.lays.length - i) (0) (v23) ⟨rfl, rfl, rfl, rfl, trivial⟩ ⟨by simpa using hW23, x23, by omega, by simp⟩ ?_
    rintro i u wL ⟨hW1, e1, hi, hle⟩
    refine c_seq (c_region (o_bin rfl rfl rfl (r_lss_i) (o_nil (n_then (c_seq ?_)))))
    refine c_if rfl (fun h28 => ?_) (fun h28 => ?_)
    · refine c_skip (n_then (c_seq (c_block (c_seq (c_region ?_)))))
      obtain ⟨a29, c29, p29, q29, h29⟩ := r_ixDs (P := Try.prog) (sz := 9) Try.underlying23 (by kernel_rfl) dLay_size (by omega) hb1 (i := i) (by omega) .i64
      obtain ⟨e29, he29⟩ : ∃ e, e = m.lays[i]'(by omega) := ⟨_, rfl⟩
      rw [← he29] at h29
      obtain ⟨x29_0, x29_1, rfl, f29_0, f29_1⟩ := dLay_inv h29
      refine o_indexAddr rfl rfl rfl (p29 _) ?_
      have hmem : e29 ∈ m.lays := by rw [he29]; exact List.getElem_mem _
      have hq := hs e29 hmem
      have hwl := hw.2 e29 hmem
      have hlq : lenLs (m.lays.drop i) = 90 + lenQs e29.ws + lenQs e29.bs + lenLs (m.lays.drop (i + 1)) := by rw [lenLs_drop (by omega), ← he29]
      have hLn := encL_len hq hwl f29_0.len f29_1.len
      have hq1 := encQs_len hq.1 f29_0.len
      have hq2 := encQs_len hq.2 f29_1.len
      refine o_load rfl rfl ((q29.ext e1).ld Try.underlying37 rfl (by kernel_rfl)) ?_
      obtain ⟨g6, w6, hr6, l6, x6, k6⟩ := r_allocB (P := Try.prog) (w := wL) (t := 37) (z := .agg #[I 0, I 0, I 0, I 0, I 0, I 0, I 0, .slice none 0 0, .slice none 0 0]) (l := [I 0, I 0, I 0, I 0, I 0, I 0, I 0, .slice none 0 0, .slice none 0 0]) (by kernel_rfl) rfl
      refine o_alloc rfl hr6 ?_
      obtain ⟨w9_3, s9_3, q9_3, k9_3⟩ := k6.stS (P := Try.prog) (t := 37) (m := [I e29.kd, I e29.fr, I e29.ou, I e29.kh, I e29.kw, I e29.sr, I e29.pd, x29_0, x29_1]) rfl (by kernel_rfl) (Ones.cons rfl (Ones.cons rfl (Ones.cons rfl (Ones.cons rfl (Ones.cons rfl (Ones.cons rfl (Ones.cons rfl (Ones.cons f29_0.one (Ones.cons f29_1.one Ones.nil)))))))))
      refine o_store rfl rfl s9_3 ?_
      have x9_3 := Ext.of_new (x6) q9_3 l6
      refine o_nil (n_then (c_seq (c_region (o_fieldAddr rfl rfl (r_fAt (o := 0) Try.underlying37 rfl (by kernel_rfl) rfl) (o_load rfl rfl (r_load1 Try.underlying3 rfl (k9_3.cell (i := 0) rfl)) ?_)))))
      refine o_fieldAddr rfl rfl (r_fAt (o := 1) Try.underlying37 rfl (by kernel_rfl) rfl) (o_load rfl rfl (r_load1 Try.underlying3 rfl (k9_3.cell (i := 1) rfl)) ?_)
      refine o_fieldAddr rfl rfl (r_fAt (o := 2) Try.underlying37 rfl (by kernel_rfl) rfl) (o_load rfl rfl (r_load1 Try.underlying3 rfl (k9_3.cell (i := 2) rfl)) ?_)
      refine o_fieldAddr rfl rfl (r_fAt (o := 3) Try.underlying37 rfl (by kernel_rfl) rfl) (o_load rfl rfl (r_load1 Try.underlying3 rfl (k9_3.cell (i := 3) rfl)) ?_)
      refine o_fieldAddr rfl rfl (r_fAt (o := 4) Try.underlying37 rfl (by kernel_rfl) rfl) (o_load rfl rfl (r_load1 Try.underlying3 rfl (k9_3.cell (i := 4) rfl)) ?_)
      refine o_fieldAddr rfl rfl (r_fAt (o := 5) Try.underlying37 rfl (by kernel_rfl) rfl) (o_load rfl rfl (r_load1 Try.underlying3 rfl (k9_3.cell (i := 5) rfl)) ?_)
      refine o_fieldAddr rfl rfl (r_fAt (o := 6) Try.underlying37 rfl (by kernel_rfl) rfl) (o_load rfl rfl (r_load1 Try.underlying3 rfl (k9_3.cell (i := 6) rfl)) ?_)
      obtain ⟨v45, w45, hr45, x45, o45, ob45⟩ := r_bsI (w := w9_3) (w9_3).heap.size [e29.kd, e29.fr, e29.ou, e29.kh, e29.kw, e29.sr, e29.pd] (by simp) (Nat.le_refl _)
      refine o_buildSlice (vs := [(0, I e29.kd), (1, I e29.fr), (2, I e29.ou), (3, I e29.kh), (4, I e29.kw), (5, I e29.sr), (6, I e29.pd)]) rfl rfl hr45 ?_
      have hWb := (hW1.ext (x9_3))
      have hWc := hWb.ext x45
      have hi7 := ints_len (l := e29.ints) hwl
      refine o_call call_WInts rfl rfl ((WInts_spec (ns := e29.ints) hWc (((e1.trans x9_3).trans x45)).size (o45.rpx (fun k hk => hWb.off_new (o45.lt k hk).1)) hwl (by simp only [List.length_append, LayD.ints, List.length_cons, List.length_nil]; omega))) ?_
      rintro v46 w46 ⟨v46, hW46, st46⟩
      have x46 := st46.ext (((e1.trans x9_3).trans x45)) hWc.ge hWc.new
      have k6a := st46.mv.blk (k9_3.ext x45) (hW1.off_new l6)
      have n6a := st46.off (hW1.off_new l6) (k9_3.ext x45).lt
      have fA := f29_0.ext (x46)
      have fB := f29_1.ext (x46)
      refine o_nil (n_then (c_seq (c_region (o_fieldAddr rfl rfl (r_fAt (o := 7) Try.underlying37 rfl (by kernel_rfl) rfl) (o_load rfl rfl (r_load1 Try.underlying35 rfl (k6a.cell (i := 7) rfl)) ?_)))))
      refine o_call call_WRats rfl rfl ((WRats_spec hW46 (x46).size ((show Rp w1 (dRats e29.ws) [x29_0] from f29_0).wrX (x46) hW46.ge hW46.new) hq.1 (by simp only [List.length_append, LayD.ints, List.length_cons, List.length_nil] at *; omega))) ?_
      rintro v49 w49 ⟨v49, hW49, st49⟩
      have x49 := st49.ext (x46) hW46.ge hW46.new
      have k6b := st49.mv.blk k6a n6a
      have fC := f29_0.ext (x49)
      have fD := f29_1.ext (x49)
      refine o_nil (n_then (c_region (o_fieldAddr rfl rfl (r_fAt (o := 8) Try.underlying37 rfl (by kernel_rfl) rfl) (o_load rfl rfl (r_load1 Try.underlying35 rfl (k6b.cell (i := 8) rfl)) ?_))))
      refine o_call call_WRats rfl rfl ((WRats_spec hW49 (x49).size ((show Rp w1 (dRats e29.bs) [x29_1] from f29_1).wrX (x49) hW49.ge hW49.new) hq.2 (by simp only [List.length_append, LayD.ints, List.length_cons, List.length_nil] at *; omega))) ?_
      rintro v52 w52 ⟨v52, hW52, st52⟩
      have x52 := st52.ext (x49) hW49.ge hW49.new
      refine o_nil (n_block (n_then (c_region (o_bin (r := I ((i + 1 : Nat) : Int)) rfl rfl rfl (by have e : ((i + 1 : Nat) : Int) = (i : Int) + 1 := (by omega); rw [e]; exact r_add_i (by omega) (by omega)) ?_))))
      refine o_move rfl rfl (o_nil ?_)
      refine n_round2 (i + 1) (v52) ⟨rfl, rfl, rfl, rfl, trivial⟩ ⟨by rw [flatMap_snoc (by omega), ← he29, encL, ← List.append_assoc, ← List.append_assoc, ← List.append_assoc]; exact hW52, x52, by omega, by rw [flatMap_snoc (by omega), ← he29, List.length_append]; omega⟩ (by omega)
    · refine c_exit (x_then (x_then (x_here (n_then (c_seq ?_)))))
      have hbody : pre ++ m.lays.flatMap encL = rlum ++ encM m := by rw [hpre]; simp [rlum, encM, List.append_assoc]
      rw [List.take_of_length_le (by omega), hbody] at hW1
      have hbl : (rlum ++ encM m).length ≤ 17592186044416 := by
        rw [← hbody, List.length_append]
        rw [List.take_of_length_le (by omega)] at hle
        omega
      have kg := hW1.blk
      have hWb1 := hW1.row.bts
      refine c_region (o_load rfl rfl (r_load1 Try.underlying45 rfl kg.k0) (o_call call_dSum rfl rfl ((dSum_spec hWb1)) ?_))
      rintro v55 w55 ⟨x55, rfl⟩
      obtain ⟨g7, w7, hr7, l7, x7, k7⟩ := r_allocB (P := Try.prog) (w := w55) (t := 49) (l := (List.replicate 32 0).map U8) zero32 rfl
      refine o_alloc rfl hr7 ?_
      obtain ⟨w8, s8, q8, k8⟩ := k7.stS (P := Try.prog) (t := 49) (m := (dig (rlum ++ encM m)).map U8) (by simp [dig_len]) (by rw [List.length_map, dig_len]; exact size32) (one_U8 _)
      refine o_store rfl rfl s8 ?_
      have x8 := x7.of_new q8 l7
      have b32 : Bts (dig (rlum ++ encM m)) (.slice (some ⟨g7, 0, none⟩) 32 32) w8 := by
        have := k8.bts (by rw [dig_len]; omega)
        rwa [dig_len] at this
      refine o_nil (n_then (c_seq (c_seq ?_)))
      have hfl : (fileM m).length = (rlum ++ encM m).length + 32 := by unfold fileM; rw [List.length_append, dig_len]
      refine c_region (o_load rfl rfl (r_load1 Try.underlying45 rfl ((x55.trans x8).cell_some kg.k0)) (o_len (r := I ((rlum ++ encM m).length : Int)) rfl rfl ((by exact r_lenWr Try.underlying45 (hWb1.ext (x55.trans x8)))) ?_))
      refine o_bin (r := I (((rlum ++ encM m).length + 32 : Nat) : Int)) rfl rfl rfl (by have e : (((rlum ++ encM m).length + 32 : Nat) : Int) = ((rlum ++ encM m).length : Int) + 32 := (by omega); rw [e]; exact r_add_i (by omega) (by omega)) ?_
      refine o_bin rfl rfl rfl (r_gtr_i) (o_nil (n_then ?_))
      refine c_if rfl (fun h59 => ?_) (fun h59 => ?_)
      · refine c_seq (c_region (o_assign rfl rfl (o_assign rfl rfl (o_nil (n_then (c_ret (r_then (r_body2 rfl rfl rfl ?_))))))))
        exact ⟨_, rfl, (((x1.trans e1).trans x55).trans x8), _, by unfold encRes; rw [if_pos hc, if_neg (by omega)]; rfl, by unfold encRes; rw [if_pos hc, if_neg (by omega)]; exact OwnB.nil _ _⟩
      · refine c_skip (n_then (c_seq (c_grow 2 [60, 61] (by kernel_rfl) (by kernel_rfl) ?_)))
        refine f_load rfl rfl (fun w hw => r_load1 Try.underlying45 rfl (hw.cell_some ((x55.trans x8).cell_some kg.k0))) (f_slice rfl rfl rfl rfl (fun w hw => r_sl32) ?_)
        refine f_nil ?_
        intro wg17 xg17
        rintro _ hq60
        obtain rfl := Eq.symm hq60
        rintro _ rfl
        obtain ⟨v62, w62, hr62, o62, st62⟩ := WrAt.app (ty := 45) Try.underlying45 Try.underlying29 (hW1.ext (((x55.trans x8).trans xg17))) ((((e1.trans x55).trans x8).trans xg17)).size (b32.ext (xg17)) (by rw [dig_len]; omega) (by rw [dig_len]; omega)
        refine o_append rfl rfl hr62 ?_
        have x62 := st62.ext ((((e1.trans x55).trans x8).trans xg17)) hW1.ge hW1.new
        refine o_assign rfl rfl (o_assign rfl rfl (o_nil (n_then (c_ret (r_body2 rfl rfl rfl ?_)))))
        exact ⟨_, rfl, (x1.trans x62), _, by unfold encRes; rw [if_pos hc, if_pos (by omega)]; rfl, by unfold encRes; rw [if_pos hc, if_pos (by omega)]; exact o62.low x1.size⟩
end Go.Rl
/- relucertref12.rats, Body, Seal, Encode walked. Conditions: the model is small. -/
namespace Go.Rl
open Go.RowKit Go.Proofs
end Go.Rl
/- Params of both sides, and fair, walked. Conditions: the counts are small. -/
namespace Go.Rl
open Go.RowKit Go.Proofs
theorem call_Fair : Callable Try.prog 5 := ⟨_, Try.func5, by kernel_rfl, rfl⟩
def parL : List LayD → Nat
  | [] => 0
  | l :: t => l.ws.length + l.bs.length + parL t
theorem parL_drop {l : List LayD} {i : Nat} (hi : i < l.length) : parL (l.drop i) = l[i].ws.length + l[i].bs.length + parL (l.drop (i + 1)) := by
  rw [List.drop_eq_getElem_cons hi]; rfl
def cntQ : List RatD → Nat
  | [] => 0
  | q :: l => q.2.1.length + q.2.2.length + cntQ l
def cntL (l : LayD) : Nat := l.ws.length + l.bs.length + cntQ l.ws + cntQ l.bs
def cntLs : List LayD → Nat
  | [] => 0
  | l :: t => cntL l + cntLs t
theorem cntQ_drop {l : List RatD} {i : Nat} (hi : i < l.length) : cntQ (l.drop i) = l[i].2.1.length + l[i].2.2.length + cntQ (l.drop (i + 1)) := by
  rw [List.drop_eq_getElem_cons hi]; rfl
theorem cntLs_drop {l : List LayD} {i : Nat} (hi : i < l.length) : cntLs (l.drop i) = cntL l[i] + cntLs (l.drop (i + 1)) := by
  rw [List.drop_eq_getElem_cons hi]; rfl
theorem Fair_spec {w : World} {m : ModD} {x y : Value} (ha : DsV dIn m.inp x w) (hb : DsV dLay m.lays y w) (hl : cntLs m.lays ≤ 4611686018427387904) :
    Calls Try.prog 5 #[.agg #[x, y]] w (Ret fun r w' => Ext w w' ∧ r = B (decide (m.inp.length ≤ 8 ∧ m.lays.length ≤ 70 ∧ cntLs m.lays ≤ 600))) := by
  refine enter (vs := [.agg #[x, y]]) Try.func5 rfl rfl rfl ?_
  refine c_seq (c_region ?_)
  obtain ⟨g1, w1, hr1, l1, x1, k1⟩ := r_boxS (P := Try.prog) (w := w) (T := 25) (cs := [x, y])
  refine o_box rfl rfl hr1 (o_assign rfl rfl (o_nil (n_then (c_seq (c_seq (c_region (o_fieldAddr rfl rfl (r_fAt (o := 0) Try.underlying25 rfl (by kernel_rfl) rfl) ?_)))))))
  refine o_load rfl rfl (r_load1 Try.underlying22 rfl (k1.cell (i := 0) rfl)) (o_len rfl rfl (r_lenDs Try.underlying22 (ha.ext x1)) (o_bin rfl rfl rfl (r_gtr_i) ?_))
  refine o_move rfl rfl ?_
  refine o_dec (fun h11 => ?_) (fun h11 => ?_)
  · refine g_no rfl rfl rfl (g_no rfl rfl rfl (g_no rfl rfl rfl (g_no rfl rfl rfl (o_pick_t rfl rfl rfl (o_nil (n_then (c_yes rfl (c_seq (c_region (o_assign rfl rfl (o_nil (n_then (c_ret (r_then ?_))))))))))))))
    refine r_body1 rfl rfl ?_
    exact ⟨_, rfl, x1, congrArg B (decide_eq_false (by omega)).symm⟩
  · refine g_yes rfl (o_fieldAddr rfl rfl (r_fAt (o := 1) Try.underlying25 rfl (by kernel_rfl) rfl) (g_yes rfl (o_load rfl rfl (r_load1 Try.underlying23 rfl (k1.cell (i := 1) rfl)) ?_)))
    refine g_yes rfl (o_len rfl rfl (r_lenDs Try.underlying23 (hb.ext x1)) (g_yes rfl (o_bin rfl rfl rfl (r_gtr_i) (o_pick_f rfl rfl rfl (o_nil (n_then ?_))))))
    refine c_if rfl (fun h16 => ?_) (fun h16 => ?_)
    · refine c_seq (c_region (o_assign rfl rfl (o_nil (n_then (c_ret (r_then (r_body1 rfl rfl ?_)))))))
      exact ⟨_, rfl, x1, congrArg B (decide_eq_false (by omega)).symm⟩
    · refine c_skip (n_then (c_seq (c_region (o_assign rfl rfl (o_nil (n_then (c_seq (c_seq (c_region (o_assign rfl rfl (o_nil (n_then (c_block ?_)))))))))))))
      refine c_loop2 (fun (i : Nat) (n : Nat) => [(1, .pointer (some ⟨g1, 0, none⟩)), (3, I (n : Int)), (4, I (i : Int))]) (fun (i : Nat) (n : Nat) w' => Ext w w' ∧ Ext w1 w' ∧ i ≤ m.lays.length ∧ n + cntLs (m.lays.drop i) = cntLs m.lays ∧ n ≤ 600) (fun (i : Nat) (n : Nat) => m.lays.length - i) (0) (0) ⟨rfl, rfl, rfl, trivial⟩ ⟨x1, Ext.refl _, by omega, by simp, by omega⟩ ?_
      rintro i n wL ⟨e0, e1, hi, hn, hn6⟩
      refine c_seq (c_seq (c_region (o_move rfl rfl (o_fieldAddr rfl rfl (r_fAt (o := 1) Try.underlying25 rfl (by kernel_rfl) rfl) (o_load rfl rfl (r_load1 Try.underlying23 rfl (e1.cell_some (k1.cell (i := 1) rfl))) ?_)))))
      refine o_len rfl rfl (r_lenDs Try.underlying23 (hb.ext e0)) (o_bin rfl rfl rfl (r_lss_i) (o_nil (n_then ?_)))
      refine c_if rfl (fun h21 => ?_) (fun h21 => ?_)
      · refine c_skip (n_then (c_seq (c_block (c_seq ?_))))
        have hlq := cntLs_drop (l := m.lays) (i := i) (by omega)
        refine c_grow 17 [1, 4, 40] (by kernel_rfl) (by kernel_rfl) ?_
        refine f_move rfl rfl (f_fieldAddr rfl rfl (fun w hw => r_fAt (o := 1) Try.underlying25 rfl (by kernel_rfl) rfl) (f_load rfl rfl (fun w hw => r_load1 Try.underlying23 rfl (hw.cell_some (e1.cell_some (k1.cell (i := 1) rfl)))) ?_))
        refine f_move rfl rfl ?_
        obtain ⟨a28, c28, p28, q28, h28⟩ := r_ixDs (P := Try.prog) (sz := 9) Try.underlying23 (by kernel_rfl) dLay_size (by omega) (hb.ext e0) (i := i) (by omega) .i64
        obtain ⟨e28, he28⟩ : ∃ e, e = m.lays[i]'(by omega) := ⟨_, rfl⟩
        rw [← he28] at h28
        obtain ⟨x28_0, x28_1, rfl, f28_0, f28_1⟩ := dLay_inv h28
        refine f_indexAddr rfl rfl rfl (fun w _ => p28 w) (f_fieldAddr rfl rfl (fun w hw => r_fC (o := 7) Try.underlying37 rfl (by kernel_rfl) rfl) ?_)
        refine f_load rfl rfl (fun w hw => r_load1 Try.underlying35 rfl (hw.cell_some (q28.at (j := 7) rfl))) (f_len (vs := [x28_0]) rfl rfl (fun w hw => r_lenDs Try.underlying35 (f28_0.ext hw)) ?_)
        refine f_fieldAddr rfl rfl (fun w hw => r_fAt (o := 1) Try.underlying25 rfl (by kernel_rfl) rfl) (f_load rfl rfl (fun w hw => r_load1 Try.underlying23 rfl (hw.cell_some (e1.cell_some (k1.cell (i := 1) rfl)))) ?_)
        refine f_move rfl rfl ?_
        obtain ⟨a35, c35, p35, q35, h35⟩ := r_ixDs (P := Try.prog) (sz := 9) Try.underlying23 (by kernel_rfl) dLay_size (by omega) (hb.ext e0) (i := i) (by omega) .i64
        rw [← he28] at h35
        obtain ⟨x35_0, x35_1, rfl, f35_0, f35_1⟩ := dLay_inv h35
        refine f_indexAddr rfl rfl rfl (fun w _ => p35 w) (f_fieldAddr rfl rfl (fun w hw => r_fC (o := 8) Try.underlying37 rfl (by kernel_rfl) rfl) ?_)
        refine f_load rfl rfl (fun w hw => r_load1 Try.underlying35 rfl (hw.cell_some (q35.at (j := 8) rfl))) (f_len (vs := [x35_1]) rfl rfl (fun w hw => r_lenDs Try.underlying35 (f35_1.ext hw)) ?_)
        rw [← he28] at hlq
        unfold cntL at hlq
        refine f_bin (r := I ((e28.ws.length + e28.bs.length : Nat) : Int)) rfl rfl rfl (fun w _ => by have e : ((e28.ws.length + e28.bs.length : Nat) : Int) = (e28.ws.length : Int) + (e28.bs.length : Int) := (by omega); rw [e]; exact r_add_i (by omega) (by omega)) ?_
        refine f_bin (r := I ((n + (e28.ws.length + e28.bs.length) : Nat) : Int)) rfl rfl rfl (fun w _ => by have e : ((n + (e28.ws.length + e28.bs.length) : Nat) : Int) = (n : Int) + ((e28.ws.length + e28.bs.length : Nat) : Int) := (by omega); rw [e]; exact r_add_i (by omega) (by omega)) ?_
        refine f_nil ?_
        intro wg7 xg7
        rintro _ rfl
        rintro _ rfl
        rintro _ rfl
        refine o_assign rfl rfl (o_nil (n_then (c_seq (c_seq (c_region (o_assign rfl rfl (o_nil (n_then (c_block ?_)))))))))
        refine c_loop2 (fun (k : Nat) (n2 : Nat) => [(1, .pointer (some ⟨g1, 0, none⟩)), (3, I (n2 : Int)), (4, I (i : Int)), (5, I (k : Int))]) (fun (k : Nat) (n2 : Nat) w' => Ext w w' ∧ Ext w1 w' ∧ k ≤ e28.ws.length ∧ n2 + cntQ (e28.ws.drop k) = n + (e28.ws.length + e28.bs.length) + cntQ e28.ws) (fun (k : Nat) (n2 : Nat) => e28.ws.length - k) (0) (n + (e28.ws.length + e28.bs.length)) ⟨rfl, rfl, rfl, rfl, trivial⟩ ⟨(e0.trans xg7), (e1.trans xg7), by omega, by simp⟩ ?_
        rintro k n2 wM ⟨e0, e1, hk, hn2⟩
        refine c_seq (c_seq (c_region (o_move rfl rfl (o_fieldAddr rfl rfl (r_fAt (o := 1) Try.underlying25 rfl (by kernel_rfl) rfl) (o_load rfl rfl (r_load1 Try.underlying23 rfl (e1.cell_some (k1.cell (i := 1) rfl))) ?_)))))
        refine o_move rfl rfl ?_
        obtain ⟨a45, c45, p45, q45, h45⟩ := r_ixDs (P := Try.prog) (sz := 9) Try.underlying23 (by kernel_rfl) dLay_size (by omega) (hb.ext e0) (i := i) (by omega) .i64
        rw [← he28] at h45
        obtain ⟨x45_0, x45_1, rfl, f45_0, f45_1⟩ := dLay_inv h45
        refine o_indexAddr rfl rfl rfl (p45 _) (o_fieldAddr rfl rfl (r_fC (o := 7) Try.underlying37 rfl (by kernel_rfl) rfl) (o_load rfl rfl (r_load1 Try.underlying35 rfl (q45.at (j := 7) rfl)) ?_))
        refine o_len rfl rfl (r_lenDs Try.underlying35 f45_0) (o_bin rfl rfl rfl (r_lss_i) (o_nil (n_then ?_)))
        refine c_if rfl (fun h49 => ?_) (fun h49 => ?_)
        · refine c_skip (n_then (c_seq (c_block ?_)))
          have hcq := cntQ_drop (l := e28.ws) (i := k) (by omega)
          refine c_grow 25 [1, 4, 5, 76] (by kernel_rfl) (by kernel_rfl) ?_
          refine f_move rfl rfl (f_fieldAddr rfl rfl (fun w hw => r_fAt (o := 1) Try.underlying25 rfl (by kernel_rfl) rfl) (f_load rfl rfl (fun w hw => r_load1 Try.underlying23 rfl (hw.cell_some (e1.cell_some (k1.cell (i := 1) rfl)))) ?_))
          refine f_move rfl rfl ?_
          obtain ⟨a56, c56, p56, q56, h56⟩ := r_ixDs (P := Try.prog) (sz := 9) Try.underlying23 (by kernel_rfl) dLay_size (by omega) (hb.ext e0) (i := i) (by omega) .i64
          rw [← he28] at h56
          obtain ⟨x56_0, x56_1, rfl, f56_0, f56_1⟩ := dLay_inv h56
          refine f_indexAddr rfl rfl rfl (fun w _ => p56 w) (f_fieldAddr rfl rfl (fun w hw => r_fC (o := 7) Try.underlying37 rfl (by kernel_rfl) rfl) ?_)
          refine f_load rfl rfl (fun w hw => r_load1 Try.underlying35 rfl (hw.cell_some (q56.at (j := 7) rfl))) (f_move rfl rfl ?_)
          obtain ⟨a60, c60, p60, q60, h60⟩ := r_ixDs (P := Try.prog) (sz := 3) Try.underlying35 (by kernel_rfl) dRat_size (by omega) f56_0 (i := k) (by omega) .i64
          obtain ⟨e60, he60⟩ : ∃ e, e = e28.ws[k]'(by omega) := ⟨_, rfl⟩
          rw [← he60] at h60
          obtain ⟨x60_0, x60_1, rfl, f60_0, f60_1⟩ := dRat_inv h60
          refine f_indexAddr rfl rfl rfl (fun w _ => p60 w) (f_fieldAddr rfl rfl (fun w hw => r_fC (o := 1) Try.underlying41 rfl (by kernel_rfl) rfl) (f_load rfl rfl (fun w hw => r_load1 Try.underlying39 rfl (hw.cell_some (q60.at (j := 1) rfl))) ?_))
          refine f_len (vs := [x60_0]) rfl rfl (fun w hw => r_lenW Try.underlying39 (f60_0.ext hw)) (f_fieldAddr rfl rfl (fun w hw => r_fAt (o := 1) Try.underlying25 rfl (by kernel_rfl) rfl) ?_)
          refine f_load rfl rfl (fun w hw => r_load1 Try.underlying23 rfl (hw.cell_some (e1.cell_some (k1.cell (i := 1) rfl)))) (f_move rfl rfl ?_)
          obtain ⟨a67, c67, p67, q67, h67⟩ := r_ixDs (P := Try.prog) (sz := 9) Try.underlying23 (by kernel_rfl) dLay_size (by omega) (hb.ext e0) (i := i) (by omega) .i64
          rw [← he28] at h67
          obtain ⟨x67_0, x67_1, rfl, f67_0, f67_1⟩ := dLay_inv h67
          refine f_indexAddr rfl rfl rfl (fun w _ => p67 w) (f_fieldAddr rfl rfl (fun w hw => r_fC (o := 7) Try.underlying37 rfl (by kernel_rfl) rfl) ?_)
          refine f_load rfl rfl (fun w hw => r_load1 Try.underlying35 rfl (hw.cell_some (q67.at (j := 7) rfl))) (f_move rfl rfl ?_)
          obtain ⟨a71, c71, p71, q71, h71⟩ := r_ixDs (P := Try.prog) (sz := 3) Try.underlying35 (by kernel_rfl) dRat_size (by omega) f67_0 (i := k) (by omega) .i64
          rw [← he60] at h71
          obtain ⟨x71_0, x71_1, rfl, f71_0, f71_1⟩ := dRat_inv h71
          refine f_indexAddr rfl rfl rfl (fun w _ => p71 w) (f_fieldAddr rfl rfl (fun w hw => r_fC (o := 2) Try.underlying41 rfl (by kernel_rfl) rfl) (f_load rfl rfl (fun w hw => r_load1 Try.underlying39 rfl (hw.cell_some (q71.at (j := 2) rfl))) ?_))
          refine f_len (vs := [x71_1]) rfl rfl (fun w hw => r_lenW Try.underlying39 (f71_1.ext hw)) ?_
          rw [← he60] at hcq
          refine f_bin (r := I ((e60.2.1.length + e60.2.2.length : Nat) : Int)) rfl rfl rfl (fun w _ => by have e : ((e60.2.1.length + e60.2.2.length : Nat) : Int) = (e60.2.1.length : Int) + (e60.2.2.length : Int) := (by omega); rw [e]; exact r_add_i (by omega) (by omega)) ?_
          refine f_bin (r := I ((n2 + (e60.2.1.length + e60.2.2.length) : Nat) : Int)) rfl rfl rfl (fun w _ => by have e : ((n2 + (e60.2.1.length + e60.2.2.length) : Nat) : Int) = (n2 : Int) + ((e60.2.1.length + e60.2.2.length : Nat) : Int) := (by omega); rw [e]; exact r_add_i (by omega) (by omega)) ?_
          refine f_nil ?_
          intro wg11 xg11
          rintro _ rfl
          rintro _ rfl
          rintro _ rfl
          rintro _ rfl
          refine o_assign rfl rfl (o_nil (n_block (n_then (c_region (o_move rfl rfl (o_bin (r := I ((k + 1 : Nat) : Int)) rfl rfl rfl (by have e : ((k + 1 : Nat) : Int) = (k : Int) + 1 := (by omega); rw [e]; exact r_add_i (by omega) (by omega)) ?_))))))
          refine o_assign rfl rfl (o_nil ?_)
          refine n_round2 (k + 1) (n2 + (e60.2.1.length + e60.2.2.length)) ⟨rfl, rfl, rfl, rfl, trivial⟩ ⟨(e0.trans xg11), (e1.trans xg11), by omega, by omega⟩ (by omega)
        · refine c_exit (x_then (x_then (x_here (n_then (c_seq (c_seq ?_))))))
          rw [List.drop_of_length_le (by omega)] at hn2
          have hn2 : n2 = n + (e28.ws.length + e28.bs.length) + cntQ e28.ws := hn2
          refine c_region (o_assign rfl rfl (o_nil (n_then (c_block ?_))))
          refine c_loop2 (fun (j : Nat) (n3 : Nat) => [(1, .pointer (some ⟨g1, 0, none⟩)), (3, I (n3 : Int)), (4, I (i : Int)), (6, I (j : Int))]) (fun (j : Nat) (n3 : Nat) w' => Ext w w' ∧ Ext w1 w' ∧ j ≤ e28.bs.length ∧ n3 + cntQ (e28.bs.drop j) = n2 + cntQ e28.bs) (fun (j : Nat) (n3 : Nat) => e28.bs.length - j) (0) (n2) ⟨rfl, rfl, rfl, rfl, trivial⟩ ⟨e0, e1, by omega, by simp⟩ ?_
          rintro j n3 wN ⟨e0, e1, hj, hn3⟩
          refine c_seq (c_seq (c_region (o_move rfl rfl (o_fieldAddr rfl rfl (r_fAt (o := 1) Try.underlying25 rfl (by kernel_rfl) rfl) (o_load rfl rfl (r_load1 Try.underlying23 rfl (e1.cell_some (k1.cell (i := 1) rfl))) ?_)))))
          refine o_move rfl rfl ?_
          obtain ⟨a81, c81, p81, q81, h81⟩ := r_ixDs (P := Try.prog) (sz := 9) Try.underlying23 (by kernel_rfl) dLay_size (by omega) (hb.ext e0) (i := i) (by omega) .i64
          rw [← he28] at h81
          obtain ⟨x81_0, x81_1, rfl, f81_0, f81_1⟩ := dLay_inv h81
          refine o_indexAddr rfl rfl rfl (p81 _) (o_fieldAddr rfl rfl (r_fC (o := 8) Try.underlying37 rfl (by kernel_rfl) rfl) (o_load rfl rfl (r_load1 Try.underlying35 rfl (q81.at (j := 8) rfl)) ?_))
          refine o_len rfl rfl (r_lenDs Try.underlying35 f81_1) (o_bin rfl rfl rfl (r_lss_i) (o_nil (n_then ?_)))
          refine c_if rfl (fun h85 => ?_) (fun h85 => ?_)
          · refine c_skip (n_then (c_seq (c_block ?_)))
            have hcq := cntQ_drop (l := e28.bs) (i := j) (by omega)
            refine c_grow 25 [1, 4, 6, 112] (by kernel_rfl) (by kernel_rfl) ?_
            refine f_move rfl rfl (f_fieldAddr rfl rfl (fun w hw => r_fAt (o := 1) Try.underlying25 rfl (by kernel_rfl) rfl) (f_load rfl rfl (fun w hw => r_load1 Try.underlying23 rfl (hw.cell_some (e1.cell_some (k1.cell (i := 1) rfl)))) ?_))
            refine f_move rfl rfl ?_
            obtain ⟨a92, c92, p92, q92, h92⟩ := r_ixDs (P := Try.prog) (sz := 9) Try.underlying23 (by kernel_rfl) dLay_size (by omega) (hb.ext e0) (i := i) (by omega) .i64
            rw [← he28] at h92
            obtain ⟨x92_0, x92_1, rfl, f92_0, f92_1⟩ := dLay_inv h92
            refine f_indexAddr rfl rfl rfl (fun w _ => p92 w) (f_fieldAddr rfl rfl (fun w hw => r_fC (o := 8) Try.underlying37 rfl (by kernel_rfl) rfl) ?_)
            refine f_load rfl rfl (fun w hw => r_load1 Try.underlying35 rfl (hw.cell_some (q92.at (j := 8) rfl))) (f_move rfl rfl ?_)
            obtain ⟨a96, c96, p96, q96, h96⟩ := r_ixDs (P := Try.prog) (sz := 3) Try.underlying35 (by kernel_rfl) dRat_size (by omega) f92_1 (i := j) (by omega) .i64
            obtain ⟨e96, he96⟩ : ∃ e, e = e28.bs[j]'(by omega) := ⟨_, rfl⟩
            rw [← he96] at h96
            obtain ⟨x96_0, x96_1, rfl, f96_0, f96_1⟩ := dRat_inv h96
            refine f_indexAddr rfl rfl rfl (fun w _ => p96 w) (f_fieldAddr rfl rfl (fun w hw => r_fC (o := 1) Try.underlying41 rfl (by kernel_rfl) rfl) (f_load rfl rfl (fun w hw => r_load1 Try.underlying39 rfl (hw.cell_some (q96.at (j := 1) rfl))) ?_))
            refine f_len (vs := [x96_0]) rfl rfl (fun w hw => r_lenW Try.underlying39 (f96_0.ext hw)) (f_fieldAddr rfl rfl (fun w hw => r_fAt (o := 1) Try.underlying25 rfl (by kernel_rfl) rfl) ?_)
            refine f_load rfl rfl (fun w hw => r_load1 Try.underlying23 rfl (hw.cell_some (e1.cell_some (k1.cell (i := 1) rfl)))) (f_move rfl rfl ?_)
            obtain ⟨a103, c103, p103, q103, h103⟩ := r_ixDs (P := Try.prog) (sz := 9) Try.underlying23 (by kernel_rfl) dLay_size (by omega) (hb.ext e0) (i := i) (by omega) .i64
            rw [← he28] at h103
            obtain ⟨x103_0, x103_1, rfl, f103_0, f103_1⟩ := dLay_inv h103
            refine f_indexAddr rfl rfl rfl (fun w _ => p103 w) (f_fieldAddr rfl rfl (fun w hw => r_fC (o := 8) Try.underlying37 rfl (by kernel_rfl) rfl) ?_)
            refine f_load rfl rfl (fun w hw => r_load1 Try.underlying35 rfl (hw.cell_some (q103.at (j := 8) rfl))) (f_move rfl rfl ?_)
            obtain ⟨a107, c107, p107, q107, h107⟩ := r_ixDs (P := Try.prog) (sz := 3) Try.underlying35 (by kernel_rfl) dRat_size (by omega) f103_1 (i := j) (by omega) .i64
            rw [← he96] at h107
            obtain ⟨x107_0, x107_1, rfl, f107_0, f107_1⟩ := dRat_inv h107
            refine f_indexAddr rfl rfl rfl (fun w _ => p107 w) (f_fieldAddr rfl rfl (fun w hw => r_fC (o := 2) Try.underlying41 rfl (by kernel_rfl) rfl) (f_load rfl rfl (fun w hw => r_load1 Try.underlying39 rfl (hw.cell_some (q107.at (j := 2) rfl))) ?_))
            refine f_len (vs := [x107_1]) rfl rfl (fun w hw => r_lenW Try.underlying39 (f107_1.ext hw)) ?_
            rw [← he96] at hcq
            refine f_bin (r := I ((e96.2.1.length + e96.2.2.length : Nat) : Int)) rfl rfl rfl (fun w _ => by have e : ((e96.2.1.length + e96.2.2.length : Nat) : Int) = (e96.2.1.length : Int) + (e96.2.2.length : Int) := (by omega); rw [e]; exact r_add_i (by omega) (by omega)) ?_
            refine f_bin (r := I ((n3 + (e96.2.1.length + e96.2.2.length) : Nat) : Int)) rfl rfl rfl (fun w _ => by have e : ((n3 + (e96.2.1.length + e96.2.2.length) : Nat) : Int) = (n3 : Int) + ((e96.2.1.length + e96.2.2.length : Nat) : Int) := (by omega); rw [e]; exact r_add_i (by omega) (by omega)) ?_
            refine f_nil ?_
            intro wg15 xg15
            rintro _ rfl
            rintro _ rfl
            rintro _ rfl
            rintro _ rfl
            refine o_assign rfl rfl (o_nil (n_block (n_then (c_region (o_move rfl rfl (o_bin (r := I ((j + 1 : Nat) : Int)) rfl rfl rfl (by have e : ((j + 1 : Nat) : Int) = (j : Int) + 1 := (by omega); rw [e]; exact r_add_i (by omega) (by omega)) ?_))))))
            refine o_assign rfl rfl (o_nil ?_)
            refine n_round2 (j + 1) (n3 + (e96.2.1.length + e96.2.2.length)) ⟨rfl, rfl, rfl, rfl, trivial⟩ ⟨(e0.trans xg15), (e1.trans xg15), by omega, by omega⟩ (by omega)
          · refine c_exit (x_then (x_then (x_here (n_then (c_seq ?_)))))
            rw [List.drop_of_length_le (by omega)] at hn3
            have hn3 : n3 = n2 + cntQ e28.bs := hn3
            refine c_region (o_move rfl rfl (o_bin rfl rfl rfl (r_gtr_i) (o_nil (n_then ?_))))
            refine c_if rfl (fun h114 => ?_) (fun h114 => ?_)
            · refine c_seq (c_region (o_assign rfl rfl (o_nil (n_then (c_ret (r_block (r_then (r_then (r_block (r_then (r_body1 rfl rfl ?_)))))))))))
              exact ⟨_, rfl, e0, congrArg B (decide_eq_false (by omega)).symm⟩
            · refine c_skip (n_block (n_then (c_region (o_move rfl rfl (o_bin (r := I ((i + 1 : Nat) : Int)) rfl rfl rfl (by have e : ((i + 1 : Nat) : Int) = (i : Int) + 1 := (by omega); rw [e]; exact r_add_i (by omega) (by omega)) ?_)))))
              refine o_assign rfl rfl (o_nil ?_)
              refine n_round2 (i + 1) (n3) ⟨rfl, rfl, rfl, trivial⟩ ⟨e0, e1, by omega, by omega, by omega⟩ (by omega)
      · refine c_exit (x_then (x_then (x_here (n_then (c_seq (c_region (o_assign rfl rfl (o_nil (n_then (c_ret (r_body1 rfl rfl ?_)))))))))))
        exact ⟨_, rfl, e0, by
          rw [List.drop_of_length_le (by omega)] at hn
          have hn : n = cntLs m.lays := hn
          exact congrArg B (decide_eq_true (by omega)).symm⟩
end Go.Rl
/- The model's reader: its block and the wire reader's. Conditions: each lemma names its own. -/
namespace Go.Rl
open Go.RowKit Go.Proofs
section
variable {w w' : World} {g h : Nat} {T : TypeId} {st : Option (List UInt8)} {p : Option Addr} {b : Bool}
theorem ptr_noByte (p : Option Addr) (b : Bool) (l : List UInt8) : ∀ (j : Nat) (u : Value), u ∈ l.map U8 → (#[.pointer p, .bool b] : Array Value)[j]? ≠ some u := by
  intro j u hu
  obtain ⟨x, _, rfl⟩ := List.mem_map.1 hu
  match j with
  | 0 => simp [U8]
  | 1 => simp [U8]
  | j + 2 => simp
theorem ptr_noWord (p : Option Addr) (b : Bool) (l : List UInt32) : ∀ (j : Nat) (u : Value), u ∈ l.map U32 → (#[.pointer p, .bool b] : Array Value)[j]? ≠ some u := by
  intro j u hu
  obtain ⟨x, _, rfl⟩ := List.mem_map.1 hu
  match j with
  | 0 => simp [U32]
  | 1 => simp [U32]
  | j + 2 => simp
theorem Blk.kpP (hb : Blk h T [.pointer p, B b] w) (hw : w.grownBy w' (some h)) : Kp w w' := ⟨hw.size, fun x => Sl.keep x hb (ptr_noByte p b _) hw, fun x => Sl.keep x hb (ptr_noWord p b _) hw⟩
/-- The reader of a model: the block h points to the wire reader at g; ok as long as that has not failed. -/
structure MrAt (T : TypeId) (h g : Nat) (st : Option (List UInt8)) (w : World) : Prop where
  blk : Blk h T [.pointer (some ⟨g, 0, none⟩), B st.isSome] w
  rd : RdAt g st w
  ne : h ≠ g
/-- Only blocks that are younger than the reader's change. -/
theorem RdT.mv {X : Nat → Prop} (h : RdT T g st w) (hm : Mv X w w') (hX : ∀ k, X k → g < k) : RdT T g st w' := by
  obtain ⟨A, n, c, h1, h2, h3⟩ := h
  refine ⟨A, n, c, hm.blk h1 fun hx => Nat.lt_irrefl _ (hX g hx), ?_, h3⟩
  obtain ⟨A', n', c', he, h4, h5, h6, h7, h8⟩ := h2
  cases he
  refine ⟨_, _, _, rfl, h4, h5, h6, fun hn => ?_, h8⟩
  obtain ⟨ad, rfl, hc⟩ := h7 hn
  refine ⟨ad, rfl, hm.cells hc fun _ hx => ?_⟩
  have := hX _ hx
  have := h3 ad rfl
  omega
theorem MrAt.mv {X : Nat → Prop} (hm : MrAt T h g st w) (hv : Mv X w w') (hX : ∀ k, X k → g < k ∧ h < k) : MrAt T h g st w' :=
  ⟨hv.blk hm.blk fun hx => Nat.lt_irrefl _ (hX h hx).2, (hm.rd.rdT.mv hv fun k hk => (hX k hk).1).rdAt, hm.ne⟩
/-- The two blocks of a reader. -/
def MrX (h g : Nat) : Nat → Prop := fun k => k = h ∨ k = g
theorem MrAt.ext (hm : MrAt T h g st w) (hx : Ext w w') : MrAt T h g st w' := ⟨hm.blk.ext hx, hm.rd.ext hx, hm.ne⟩
/-- the reader went on: its flag is set -/
theorem MrAt.flag {w1 : World} {st1 : Option (List UInt8)} (hb : Blk h T [.pointer (some ⟨g, 0, none⟩), B b] w) (hne : h ≠ g) (hg : w.grownBy w1 (some g)) (hr : RdAt g st1 w1) {t : TypeId} (hs : (Try.prog.info? t).map (·.size) = some 1) :
    ∃ w2, (Instr.storeAt t (.pointer (some ⟨h, 1, none⟩)) (B st1.isSome)).run Try.prog w1 = .ok () w2 ∧ Mv (MrX h g) w w2 ∧ MrAt T h g st1 w2 ∧ w1.grownBy w2 (some h) := by
  have hb1 := hb.other hg (fun e => hne (Option.some.inj e))
  obtain ⟨w2, h1, h2, h3⟩ := hb1.stC (P := Try.prog) (t := t) (i := 1) (v := B st1.isSome) hs rfl (by simp)
  have m1 : Mv (MrX h g) w w1 := Mv.of_grown hg fun k hk _ => .inr (Option.some.inj hk).symm
  have m2 : Mv (MrX h g) w1 w2 := Mv.of_grown h2 fun k hk _ => .inl (Option.some.inj hk).symm
  exact ⟨w2, h1, m1.trans m2 fun _ hn _ => hn, ⟨h3, (hr.rdT.off (hb1.kpP h2) h2 (Ne.symm hne)).rdAt, hne⟩, h2⟩
end
end Go.Rl
/- Literal slices of structs. Conditions: each lemma names its own. -/
namespace Go.Rl
open Go.RowKit Go.Proofs
theorem fold_cells (off : Nat) : ∀ (cs : List Value) (k : Nat) (p q r : List Value), p.length = off + k → q.length = cs.length →
    (cs.zipIdx k).foldl (fun (a : Array Value) (x : Value × Nat) => a.setIfInBounds (off + x.2) x.1) (p ++ q ++ r).toArray = (p ++ cs ++ r).toArray
  | [], k, p, q, r, _, hq => by
    have : q = [] := List.eq_nil_of_length_eq_zero (by simpa using hq)
    subst this
    rfl
  | c :: cs, k, p, q, r, hp, hq => by
    cases q with
    | nil => simp at hq
    | cons q0 q =>
      simp only [List.zipIdx_cons, List.foldl_cons]
      have e : ((p ++ q0 :: q ++ r).toArray).setIfInBounds (off + k) c = ((p ++ [c]) ++ q ++ r).toArray := by
        simp [← hp]
      rw [e, fold_cells off cs (k + 1) (p ++ [c]) q r (by simp; omega) (by simpa using hq)]
      simp
theorem fill_structs {sz : Nat} : ∀ (vs : List (List Value)) (k : Nat) (a b : List Value), (∀ v ∈ vs, v.length = sz) → a.length = k * sz → b.length = vs.length * sz →
    Instr.fill (fun i => some (i * sz, sz)) (a ++ b).toArray (number k (vs.map fun v => Value.agg v.toArray)) = some (a ++ vs.flatten).toArray
  | [], k, a, b, _, _, hb => by
    have : b = [] := List.eq_nil_of_length_eq_zero (by simpa using hb)
    subst this
    rfl
  | v :: vs, k, a, b, hv, ha, hb => by
    have hvl := hv v (by simp)
    have hbl : b.length = sz + vs.length * sz := by rw [hb, List.length_cons, Nat.add_mul]; omega
    have hc : ((Value.agg v.toArray).cells.size ≠ sz || decide (k * sz + (Value.agg v.toArray).cells.size > (a ++ b).toArray.size)) = false := by
      simp [Value.cells, hvl, ha, hbl]
    have hz : (Value.agg v.toArray).cells.zipIdx.foldl (fun (cs : Array Value) (x : Value × Nat) => cs.setIfInBounds (k * sz + x.2) x.1) (a ++ b).toArray = ((a ++ v) ++ b.drop sz).toArray := by
      have h := fold_cells (k * sz) v 0 a (b.take sz) (b.drop sz) (by omega) (by rw [List.length_take]; omega)
      rw [List.append_assoc, List.take_append_drop] at h
      rw [← h]
      simp [Value.cells]
    simp only [List.map_cons, number, Instr.fill]
    rw [hc]
    have ih := fill_structs vs (k + 1) (a ++ v) (b.drop sz) (fun u hu => hv u (by simp [hu])) (by rw [List.length_append, ha, hvl, Nat.add_mul]; omega) (by rw [List.length_drop, hbl]; omega)
    simp only [Bool.false_eq_true, if_false]
    rw [hz, ih]
    simp
/-- A literal slice of structs. -/
theorem r_bsS {P : Program} {w : World} {t e : TypeId} {z : Value} {sz : Nat} (ht : P.underlying t = some (.slice e)) (hi : (P.info? e).map (fun i => (i.zero, i.size)) = some (some z, sz)) (hz : z.cells.size = sz) (h0 : 0 < sz)
    (vs : List (List Value)) (hv : ∀ v ∈ vs, v.length = sz) (hn : 0 < vs.length) (hl : vs.length * sz ≤ 16777216) :
    ∃ r w', (Instr.buildSlice t vs.length (number 0 (vs.map fun v => Value.agg v.toArray)).toArray).run P w = .ok r w' ∧ Ext w w' ∧ Sl sz vs.flatten r w' ∧ r.ownBlock = some w.heap.size := by
  obtain ⟨i, hi', h2⟩ := Option.map_eq_some_iff.1 hi
  simp only [Prod.mk.injEq] at h2
  obtain ⟨hz0, hs⟩ := h2
  have hfl : vs.flatten.length = vs.length * sz := by
    rw [List.length_flatten]
    have : ∀ l : List (List Value), (∀ v ∈ l, v.length = sz) → (l.map List.length).sum = l.length * sz := by
      intro l
      induction l with
      | nil => intro _; simp
      | cons a l ih => intro h; simp only [List.map_cons, List.sum_cons, List.length_cons, h a (by simp), ih fun v hv => h v (by simp [hv]), Nat.add_mul]; omega
    exact this vs hv
  have hf : ∀ Z : Array Value, Z.size = vs.length * sz → Instr.fill (fun i => some (i * sz, sz)) Z (number 0 (vs.map fun v => Value.agg v.toArray)) = some vs.flatten.toArray := fun Z hZ => by
    have := fill_structs vs 0 [] Z.toList hv (by simp) (by simpa using hZ)
    simpa using this
  have hle : ¬ (vs.length * sz > 2 ^ 24) := by omega
  have hinfo : (typeInfo e).run P w = .ok i w := by simp [typeInfo, hi']
  have hsz : (sizeOf e).run P w = .ok sz w := by simp [sizeOf, hinfo, hs]
  have hzv : (zeroValue e).run P w = .ok z w := by simp [zeroValue, hinfo, hz0]
  have hpos : 0 < vs.length * sz := Nat.mul_pos hn h0
  refine ⟨.slice (some ⟨w.heap.size, 0, none⟩) vs.length vs.length, w.alloc (.cells vs.flatten.toArray e), ?_, Ext.new w _, ?_, rfl⟩
  · simp only [Instr.buildSlice, Sem.run_bind, run_underlying ht, Result.andThen_ok, hsz, if_neg hle]
    rw [if_neg (by omega)]
    simp only [Sem.run_bind, Sem.run_pure, Result.andThen_ok, hzv]
    rw [hf _ (by simp [hz, Nat.mul_comm])]
    simp [newRow]
  · have hg := heap_alloc_new w (.cells vs.flatten.toArray e)
    refine ⟨_, _, _, rfl, Nat.le_refl _, by unfold maxLen; have : vs.length ≤ vs.length * sz := Nat.le_mul_of_pos_right _ h0; omega, hfl, fun _ => ⟨_, rfl, fun j u hu => ?_⟩, fun h => by cases h⟩
    rw [Addr.add_mid, Nat.zero_add, cell_of_row _ _ j _ _ _ hg]
    simpa using hu
end Go.Rl

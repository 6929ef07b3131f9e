/- Walks of package relucertref03: the canonical form. Conditions: the numbers are shorter than 2^37 limbs. -/
import Derived.Test.YtifjnhdnpglbpaaQ1
namespace Go.Rl
open Go.RowKit Go.Proofs
theorem call_SOne : Callable Try.prog 68 := ⟨_, Try.func68, by kernel_rfl, rfl⟩
theorem call_SQuot : Callable Try.prog 67 := ⟨_, Try.func67, by kernel_rfl, rfl⟩
theorem call_SCanon : Callable Try.prog 48 := ⟨_, Try.func48, by kernel_rfl, rfl⟩
theorem call_SSame : Callable Try.prog 30 := ⟨_, Try.func30, by kernel_rfl, rfl⟩
theorem call_SValid : Callable Try.prog 20 := ⟨_, Try.func20, by kernel_rfl, rfl⟩
theorem SOne_spec {w : World} {m : List UInt32} {v : Value} (hv : Wds m v w) (hl : m.length ≤ 137438953472) :
    Calls Try.prog 68 #[v] w (Ret fun r w' => Ext w w' ∧ Wds (lb (val (ud m))) r w') := by
  refine enter (vs := [v]) Try.func68 rfl rfl rfl ?_
  obtain ⟨t, ht⟩ : ∃ t, t = lb (val m) := ⟨_, rfl⟩
  refine c_seq (c_region (o_assign rfl rfl (o_nil (n_then (c_seq (c_region (o_move rfl rfl (o_call call_RMake rfl rfl (RMake_spec hv (by omega)) ?_))))))))
  rintro v5 w5 ⟨x5, b5⟩
  rw [← ht] at b5
  refine o_assign rfl rfl (o_nil (n_then (c_seq (c_seq (c_region (o_move rfl rfl (o_len rfl rfl (r_lenW Try.underlying33 b5) (o_bin rfl rfl rfl (r_eql_i) (o_nil ?_)))))))))
  refine n_then ?_
  refine c_if rfl (fun h8 => ?_) (fun h8 => ?_)
  · have h0 : val m = 0 := lb_len0.1 (by rw [← ht]; omega)
    refine c_seq (c_region ?_)
    obtain ⟨v9, w9, hr9, x9, o9, ob9⟩ := r_bsW Try.underlying33 (w := w5) w5.heap.size [1] (by simp) (Nat.le_refl _)
    refine o_buildSlice (vs := [(0, U32 (1))]) rfl rfl hr9 (o_assign rfl rfl (o_nil (n_then (c_ret (r_then (r_body1 rfl rfl ?_))))))
    exact ⟨_, rfl, (x5.trans x9), by rw [val_ud, if_pos h0, lb_one]; exact o9.wds⟩
  · have h0 : val m ≠ 0 := fun h => h8 (by rw [ht, h]; rfl)
    refine c_skip (n_then (c_seq (c_region (o_move rfl rfl (o_assign rfl rfl (o_nil (n_then (c_ret (r_body1 rfl rfl ?_)))))))))
    exact ⟨_, rfl, x5, by rw [val_ud, if_neg h0, ← ht]; exact b5⟩
theorem SQuot_spec {w : World} {s : Bool} {n d : List UInt32} {x y : Value} (hn : Wds n x w) (hd : Wds d y w) (hnl : n.length ≤ 274877906944) (hdl : d.length ≤ 274877906944) (hd0 : 0 < val d) :
    Calls Try.prog 67 #[B s, x, y] w (Ret fun r w' => Ext w w' ∧ RatV (cqN s (val n)) (lb (val n / Nat.gcd (val n) (val d))) (cqD (val n) (val d)) r w') := by
  refine enter (vs := [B s, x, y]) Try.func67 rfl rfl rfl ?_
  have hg0 := gcd_pos (n := val n) hd0
  obtain ⟨g, hg⟩ : ∃ g, g = Nat.gcd (val n) (val d) := ⟨_, rfl⟩
  have hgl : (lb g).length ≤ d.length := Nat.le_trans (lb_len_lt (by rw [hg]; exact Nat.gcd_le_right _ hd0)) (lb_lt (val_lt d))
  obtain ⟨e, he⟩ : ∃ e, e = lb (val d / g) := ⟨_, rfl⟩
  obtain ⟨a, ha⟩ : ∃ a, a = lb (val n / g) := ⟨_, rfl⟩
  have hc : decide ((a.length : Int) > 0) = decide (0 < val n) := by
    have e0 := @lb_len0 (val n / g)
    have e1 : val n / g = 0 ↔ val n = 0 := by
      rw [hg]
      constructor
      · intro h
        have := Nat.div_mul_cancel (Nat.gcd_dvd_left (val n) (val d))
        rw [h] at this; omega
      · intro h
        rw [h, Nat.zero_div]
    rw [← ha] at e0
    exact decide_eq_decide.2 (by omega)
  have hq : cqD (val n) (val d) = if e = [1] then [] else e := by
    unfold cqD
    rw [← hg]
    by_cases h1 : val d / g = 1
    · rw [if_pos h1, if_pos (by rw [he, h1, lb_one])]
    · rw [if_neg h1, if_neg (fun h => h1 (lb_is1.1 (he ▸ h))), he]
  rw [← hg] at hg0 ⊢
  rw [← ha]
  refine c_seq (c_region ?_)
  obtain ⟨g6, w6, hr6, l6, x6, k6⟩ := r_allocR (w := w)
  refine o_alloc rfl hr6 (o_nil (n_then (c_seq (c_region (o_move rfl rfl (o_move rfl rfl (o_call call_RGcd rfl rfl (RGcd_spec (hn.ext x6) (hd.ext x6) hnl hdl) ?_)))))))
  rintro v16 w16 ⟨x16, b16⟩
  rw [← hg] at b16
  refine o_assign rfl rfl (o_nil (n_then (c_seq (c_region (o_move rfl rfl (o_move rfl rfl (o_call call_RDivMod rfl rfl ((by have := RDivMod_spec (hn.ext (x6.trans x16)) b16 hnl (by omega) (by rw [val_lb]; exact hg0); rw [val_lb, ← ha] at this; exact this)) ?_)))))))
  rintro v20 w20 ⟨x20, q1, r1, rfl, s1, u1⟩
  refine o_move rfl rfl (o_extract rfl rfl (r_ext3_0) (o_extract rfl rfl r_ext3_1 (o_extract rfl rfl r_ext3_2 (o_assign rfl rfl (o_assign rfl rfl (o_assign rfl rfl (o_nil (n_then ?_))))))))
  refine c_seq (c_region (o_move rfl rfl (o_move rfl rfl (o_call call_RDivMod rfl rfl ((by have := RDivMod_spec (hd.ext ((x6.trans x16).trans x20)) (b16.ext x20) hdl (by omega) (by rw [val_lb]; exact hg0); rw [val_lb, ← he] at this; exact this)) ?_))))
  rintro v27 w27 ⟨x27, q2, r2, rfl, s2, u2⟩
  refine o_move rfl rfl (o_extract rfl rfl (r_ext3_0) (o_extract rfl rfl r_ext3_1 (o_extract rfl rfl r_ext3_2 (o_assign rfl rfl (o_assign rfl rfl (o_assign rfl rfl (o_nil (n_then ?_))))))))
  refine c_seq ?_
  refine c_cut (fun p : Value => [(0, B s), (8, q1), (11, p), (6, .pointer (some ⟨g6, 0, none⟩))]) (fun p w' => w27 = w' ∧ Wds (cqD (val n) (val d)) p w') ?_ ?_
  · refine c_seq (c_region (o_move rfl rfl (o_len rfl rfl (r_lenW Try.underlying33 s2) (o_bin rfl rfl rfl (r_eql_i) (o_move rfl rfl ?_)))))
    refine o_dec (fun h34 => ?_) (fun h34 => ?_)
    · refine g_yes rfl (o_move rfl rfl (g_yes rfl ?_))
      obtain ⟨a36, p36, q36⟩ := r_ixW Try.underlying33 s2 (i := 0) (by omega) .i64
      refine o_indexAddr rfl rfl rfl (p36 _) (g_yes rfl (o_load rfl rfl (r_load1 Try.underlying79 rfl q36) (g_yes rfl (o_bin (v := U32 1) rfl rfl rfl (r_eql_u32) (o_pick_t rfl rfl rfl ?_)))))
      refine o_nil (n_then ?_)
      refine c_if rfl (fun h39 => ?_) (fun h39 => ?_)
      · refine c_region (o_assign rfl rfl (o_nil ?_))
        exact n_meet (.slice none 0 0) ⟨rfl, rfl, rfl, rfl, trivial⟩ ⟨rfl, by
          rw [hq]
          first
          | (rw [if_pos (by
                obtain ⟨y, rfl⟩ := List.length_eq_one_iff.1 (show e.length = 1 by omega)
                simpa using h39)]; exact Wds.nil _)
          | (rw [if_neg (fun h => by subst h; exact h39 rfl)]; exact s2)
          | (rw [if_neg (fun h => by subst h; exact h34 rfl)]; exact s2)⟩
      · refine c_skip ?_
        exact n_meet (q2) ⟨rfl, rfl, rfl, rfl, trivial⟩ ⟨rfl, by
          rw [hq]
          first
          | (rw [if_pos (by
                obtain ⟨y, rfl⟩ := List.length_eq_one_iff.1 (show e.length = 1 by omega)
                simpa using h39)]; exact Wds.nil _)
          | (rw [if_neg (fun h => by subst h; exact h39 rfl)]; exact s2)
          | (rw [if_neg (fun h => by subst h; exact h34 rfl)]; exact s2)⟩
    · refine g_no rfl rfl rfl (g_no rfl rfl rfl (g_no rfl rfl rfl (g_no rfl rfl rfl (o_pick_f rfl rfl rfl (o_nil (n_then (c_no rfl (c_skip ?_))))))))
      exact n_meet (q2) ⟨rfl, rfl, rfl, rfl, trivial⟩ ⟨rfl, by
        rw [hq]
        first
        | (rw [if_pos (by
              obtain ⟨y, rfl⟩ := List.length_eq_one_iff.1 (show e.length = 1 by omega)
              simpa using h39)]; exact Wds.nil _)
        | (rw [if_neg (fun h => by subst h; exact h39 rfl)]; exact s2)
        | (rw [if_neg (fun h => by subst h; exact h34 rfl)]; exact s2)⟩
  rintro v11 _ ⟨rfl, b11⟩
  refine n_then (c_seq ?_)
  cases s
  · refine c_region (o_move rfl rfl (o_move rfl rfl (g_no rfl rfl rfl (g_no rfl rfl rfl (g_no rfl rfl rfl (o_pick_f rfl rfl rfl (o_move rfl rfl (o_move rfl rfl ?_))))))))
    refine o_build (vs := [(0, B (cqN false (val n))), (1, q1), (2, v11)]) rfl rfl (r_buildR s1.isS b11.isS) ?_
    obtain ⟨p, q, w3, hp, hs, q3, k3, n3, d3⟩ := (k6.ext (((x16.trans x20).trans x27))).stR ⟨_, _, _, rfl⟩ ⟨_, _, _, rfl⟩ (RatV.mk (b := cqN false (val n)) (s1.ext x27) b11)
    refine o_store rfl rfl (hs) (o_nil (n_then (c_ret ?_)))
    refine r_bodyc rfl rfl k3 Try.underlying35 rfl size_Rat ?_
    exact ⟨_, rfl, ((((x6.trans x16).trans x20).trans x27)).of_new q3 l6, p, q, rfl, n3, d3⟩
  · refine c_region (o_move rfl rfl (o_move rfl rfl (g_yes rfl (o_move rfl rfl (g_yes rfl (o_len rfl rfl (r_lenW Try.underlying33 (s1.ext x27)) (g_yes rfl (o_bin rfl rfl rfl (r_gtr_i) ?_))))))))
    rw [hc]
    refine o_pick_t rfl rfl rfl (o_move rfl rfl (o_move rfl rfl ?_))
    refine o_build (vs := [(0, B (cqN true (val n))), (1, q1), (2, v11)]) rfl rfl (r_buildR s1.isS b11.isS) ?_
    obtain ⟨p, q, w3, hp, hs, q3, k3, n3, d3⟩ := (k6.ext (((x16.trans x20).trans x27))).stR ⟨_, _, _, rfl⟩ ⟨_, _, _, rfl⟩ (RatV.mk (b := cqN true (val n)) (s1.ext x27) b11)
    refine o_store rfl rfl (hs) (o_nil (n_then (c_ret ?_)))
    refine r_bodyc rfl rfl k3 Try.underlying35 rfl size_Rat ?_
    exact ⟨_, rfl, ((((x6.trans x16).trans x20).trans x27)).of_new q3 l6, p, q, rfl, n3, d3⟩
theorem ud_lb {m : List UInt32} : val (lb (val (ud m))) = val (ud m) := val_lb _
theorem SCanon_spec {w : World} {b : Bool} {n m : List UInt32} {v : Value} (hv : RatV b n m v w) (hnl : n.length ≤ 137438953472) (hml : m.length ≤ 137438953472) :
    Calls Try.prog 48 #[v] w (Ret fun r w' => Ext w w' ∧ RatV (cqN b (val n)) (lb (val n / Nat.gcd (val n) (val (ud m)))) (cqD (val n) (val (ud m))) r w') := by
  refine enter (vs := [v]) Try.func48 rfl rfl rfl ?_
  have hu : (lb (val (ud m))).length ≤ 137438953472 := Nat.le_trans (lb_lt (val_lt _)) (ud_len hml)
  refine c_seq (c_region ?_)
  obtain ⟨g1, y1, z1, w1, hr1, x1, k1, n1, d1⟩ := r_boxR hv
  refine o_box rfl rfl hr1 ?_
  obtain ⟨g2, w2, hr2, l2, x2, k2⟩ := r_allocR (w := w1)
  refine o_alloc rfl hr2 (o_nil (n_then (c_seq (c_grow 8 [2, 10] (by kernel_rfl) (by kernel_rfl) ?_))))
  refine f_fieldAddr rfl rfl (fun w hw => r_fAt (o := 0) Try.underlying35 rfl (by kernel_rfl) rfl) (f_load rfl rfl (fun w hw => r_load1 Try.underlying4 rfl (hw.cell_some (x2.cell_some (k1.cell (i := 0) rfl)))) ?_)
  refine f_fieldAddr rfl rfl (fun w hw => r_fAt (o := 1) Try.underlying35 rfl (by kernel_rfl) rfl) (f_load rfl rfl (fun w hw => r_load1 Try.underlying33 rfl (hw.cell_some (x2.cell_some (k1.cell (i := 1) rfl)))) ?_)
  refine f_fieldAddr rfl rfl (fun w hw => r_fAt (o := 2) Try.underlying35 rfl (by kernel_rfl) rfl) (f_load rfl rfl (fun w hw => r_load1 Try.underlying33 rfl (hw.cell_some (x2.cell_some (k1.cell (i := 2) rfl)))) ?_)
  refine f_call (S := Wds (lb (val (ud m)))) call_SOne (Wds.stable _) rfl (fun w hw => by rintro _ rfl; exact SOne_spec ((d1.ext x2).ext hw) hml) (f_call (S := RatV (cqN b (val n)) (lb (val n / Nat.gcd (val n) (val (ud m)))) (cqD (val n) (val (ud m)))) call_SQuot (RatV.stable _ _ _) rfl (fun w hw => by rintro _ rfl _ rfl z hz; have := SQuot_spec (s := b) ((n1.ext x2).ext hw) hz (by omega) (by omega) (by rw [val_lb]; exact ud_pos m); rw [val_lb] at this; exact this) ?_)
  refine f_nil ?_
  intro wg1 xg1
  rintro _ rfl
  intro vg10 b9
  obtain ⟨p, q, w3, hp, hs, q3, k3, n3, d3⟩ := (k2.ext xg1).stR ⟨_, _, _, rfl⟩ ⟨_, _, _, rfl⟩ b9
  refine o_store rfl rfl (hs) (o_nil (n_then (c_ret ?_)))
  refine r_bodyc rfl rfl k3 Try.underlying35 rfl size_Rat ?_
  exact ⟨_, rfl, (((x1.trans x2).trans xg1)).of_new q3 (Nat.le_trans x1.size l2), p, q, rfl, n3, d3⟩
theorem SSame_spec {w : World} {a b : Bool} {n m p q : List UInt32} {v u : Value} (hv : RatV a n m v w) (hu : RatV b p q u w) :
    Calls Try.prog 30 #[v, u] w (Ret fun r w' => Ext w w' ∧ r = B (decide (a = b ∧ n = p ∧ m = q))) := by
  refine enter (vs := [v, u]) Try.func30 rfl rfl rfl ?_
  refine c_seq (c_region ?_)
  obtain ⟨g2, y2, z2, w2, hr2, x2, k2, n2, d2⟩ := r_boxR hv
  refine o_box rfl rfl hr2 ?_
  obtain ⟨g3, y3, z3, w3, hr3, x3, k3, n3, d3⟩ := r_boxR (hu.ext x2)
  refine o_box rfl rfl hr3 (o_assign rfl rfl (o_nil (n_then (c_seq (c_region (o_fieldAddr rfl rfl (r_fAt (o := 0) Try.underlying35 rfl (by kernel_rfl) rfl) ?_))))))
  refine o_load rfl rfl (r_load1 Try.underlying4 rfl (x3.cell_some (k2.cell (i := 0) rfl))) (o_fieldAddr rfl rfl (r_fAt (o := 0) Try.underlying35 rfl (by kernel_rfl) rfl) ?_)
  refine o_load rfl rfl (r_load1 Try.underlying4 rfl (k3.cell (i := 0) rfl)) (o_bin rfl rfl rfl (r_eql_b Try.underlying4) (o_move rfl rfl ?_))
  refine o_dec (fun h10 => ?_) (fun h10 => ?_)
  · refine g_yes rfl (o_fieldAddr rfl rfl (r_fAt (o := 1) Try.underlying35 rfl (by kernel_rfl) rfl) (g_yes rfl (o_load rfl rfl (r_load1 Try.underlying33 rfl (x3.cell_some (k2.cell (i := 1) rfl))) ?_)))
    refine g_yes rfl (o_fieldAddr rfl rfl (r_fAt (o := 1) Try.underlying35 rfl (by kernel_rfl) rfl) (g_yes rfl (o_load rfl rfl (r_load1 Try.underlying33 rfl (k3.cell (i := 1) rfl)) ?_)))
    refine g_yes rfl (o_call call_RSame rfl rfl (RSame_spec (n2.ext x3) n3) ?_)
    rintro v15 w15 ⟨x15, rfl⟩
    refine o_pick_t rfl rfl rfl (o_move rfl rfl ?_)
    refine o_dec (fun h17 => ?_) (fun h17 => ?_)
    · refine g_yes rfl (o_fieldAddr rfl rfl (r_fAt (o := 2) Try.underlying35 rfl (by kernel_rfl) rfl) (g_yes rfl (o_load rfl rfl (r_load1 Try.underlying33 rfl ((x3.trans x15).cell_some (k2.cell (i := 2) rfl))) ?_)))
      refine g_yes rfl (o_fieldAddr rfl rfl (r_fAt (o := 2) Try.underlying35 rfl (by kernel_rfl) rfl) (g_yes rfl (o_load rfl rfl (r_load1 Try.underlying33 rfl (x15.cell_some (k3.cell (i := 2) rfl))) ?_)))
      refine g_yes rfl (o_call call_RSame rfl rfl (RSame_spec (d2.ext (x3.trans x15)) (d3.ext x15)) ?_)
      rintro v22 w22 ⟨x22, rfl⟩
      refine o_pick_t rfl rfl rfl (o_assign rfl rfl (o_nil (n_then (c_ret (r_body1 rfl rfl ?_)))))
      exact ⟨_, rfl, (((x2.trans x3).trans x15).trans x22), by
        first
        | exact congrArg B (decide_eq_decide.2 ⟨fun h => ⟨h10, h17, h⟩, fun h => h.2.2⟩)
        | exact congrArg B (decide_eq_false fun h => h17 h.2.1).symm
        | exact congrArg B (decide_eq_false fun h => h10 h.1).symm⟩
    · refine g_no rfl rfl rfl (g_no rfl rfl rfl (g_no rfl rfl rfl (g_no rfl rfl rfl (g_no rfl rfl rfl (o_pick_f rfl rfl rfl (o_assign rfl rfl (o_nil (n_then (c_ret (r_body1 rfl rfl ?_))))))))))
      exact ⟨_, rfl, ((x2.trans x3).trans x15), by
        first
        | exact congrArg B (decide_eq_decide.2 ⟨fun h => ⟨h10, h17, h⟩, fun h => h.2.2⟩)
        | exact congrArg B (decide_eq_false fun h => h17 h.2.1).symm
        | exact congrArg B (decide_eq_false fun h => h10 h.1).symm⟩
  · refine g_no rfl rfl rfl (g_no rfl rfl rfl (g_no rfl rfl rfl (g_no rfl rfl rfl (g_no rfl rfl rfl (o_pick_f rfl rfl rfl (o_move rfl rfl (g_no rfl rfl rfl (g_no rfl rfl rfl (g_no rfl rfl rfl ?_)))))))))
    refine g_no rfl rfl rfl (g_no rfl rfl rfl (o_pick_f rfl rfl rfl (o_assign rfl rfl (o_nil (n_then (c_ret (r_body1 rfl rfl ?_)))))))
    exact ⟨_, rfl, (x2.trans x3), by
      first
      | exact congrArg B (decide_eq_decide.2 ⟨fun h => ⟨h10, h17, h⟩, fun h => h.2.2⟩)
      | exact congrArg B (decide_eq_false fun h => h17 h.2.1).symm
      | exact congrArg B (decide_eq_false fun h => h10 h.1).symm⟩
theorem SValid_spec {w : World} {b : Bool} {n m : List UInt32} {v : Value} (hv : RatV b n m v w) (hnl : n.length ≤ 137438953472) (hml : m.length ≤ 137438953472) :
    Calls Try.prog 20 #[v] w (Ret fun r w' => Ext w w' ∧ r = B (rv b n m)) := by
  refine enter (vs := [v]) Try.func20 rfl rfl rfl ?_
  refine c_seq (c_region ?_)
  obtain ⟨g1, y1, z1, w1, hr1, x1, k1, n1, d1⟩ := r_boxR hv
  refine o_box rfl rfl hr1 (o_assign rfl rfl (o_nil (n_then (c_seq (c_grow 4 [6] (by kernel_rfl) (by kernel_rfl) ?_)))))
  refine f_load rfl rfl (fun w hw => (k1.ext hw).ldR) (f_load rfl rfl (fun w hw => (k1.ext hw).ldR) (f_call (S := RatV (cqN b (val n)) (lb (val n / Nat.gcd (val n) (val (ud m)))) (cqD (val n) (val (ud m)))) call_SCanon (RatV.stable _ _ _) rfl (fun w hw => by rintro _ rfl; exact SCanon_spec ((RatV.mk n1 d1).ext hw) hnl hml) ?_))
  refine f_call (S := Is (B (rv b n m))) call_SSame (Stable.is _) rfl (fun w hw => by rintro _ rfl z hz; exact SSame_spec ((RatV.mk n1 d1).ext hw) hz) (f_nil ?_)
  intro wg1 xg1
  rintro _ rfl
  refine o_assign rfl rfl (o_nil (n_then (c_ret (r_body1 rfl rfl ?_))))
  exact ⟨_, rfl, (x1.trans xg1), rfl⟩
end Go.Rl


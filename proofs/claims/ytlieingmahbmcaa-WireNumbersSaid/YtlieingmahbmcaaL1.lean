/- The statement WireNumbers: AppendUint and AppendInt append the specified bytes to a byte string that is not modified. No condition. -/
import Derived.Test.YtlieingmahbmcaaW2
namespace Go.Rl
open Go.RowKit Go.Proofs

theorem WireNumbers_walk {w : World} {b : List UInt8} {v : Value} {n : UInt64} {i : Int} (hb : Bts b v w) (h1 : -9223372036854775808 ≤ i) (h2 : i ≤ 9223372036854775807) :
    Calls Try.prog 3 #[v, U64 n, I i] w (Ret fun r w' => r = B true ∧ Ext w w') := by
  refine enter (vs := [v, U64 n, I i]) Try.func3 rfl rfl rfl ?_
  refine c_seq (c_region (o_assign rfl rfl (o_nil (n_then (c_seq (c_seq (c_region ?_)))))))
  refine o_call call_awake rfl rfl (awake_spec w) ?_
  rintro r1 w1 ⟨rfl, hx1⟩
  refine o_not rfl rfl r_not ?_
  refine o_move rfl rfl (g_yes rfl (o_move rfl rfl ?_))
  refine g_yes rfl (o_len rfl rfl (r_lenB (hb.ext hx1)) ?_)
  refine g_yes rfl (o_bin rfl rfl rfl r_gtr_i ?_)
  refine o_pick_f rfl rfl rfl (o_nil (n_then ?_))
  refine c_if rfl (fun h => ?_) (fun h => ?_)
  · refine c_seq (c_region ?_)
    refine o_call call_awake rfl rfl (awake_spec w1) ?_
    rintro r2 w2 ⟨rfl, hx2⟩
    refine o_assign rfl rfl (o_nil (n_then (c_ret (r_then ?_))))
    refine r_body1 rfl rfl ?_
    exact ⟨_, rfl, rfl, hx1.trans hx2⟩
  · have hlen : b.length ≤ 100 := by omega
    refine c_skip (n_then (c_seq (c_region (o_move rfl rfl ?_))))
    refine o_len rfl rfl (r_lenB (hb.ext hx1)) ?_
    refine o_bin rfl rfl rfl (r_add_i (by omega) (by omega)) ?_
    obtain ⟨r2, w2, hr2, hx2, ho2, _⟩ := r_mkB0 (w := w1) w1.heap.size (n := b.length + 20) (by omega) (Nat.le_refl _)
    refine o_makeSlice (v := I ((b.length + 20 : Nat) : Int)) rfl rfl rfl hr2 ?_
    refine o_move rfl rfl ?_
    obtain ⟨r3, w3, hr3, ho3, hg3⟩ := r_appB (ty := 22) ho2 ((hb.ext hx1).ext hx2) (by simp; omega) hx2.size
    refine o_append rfl rfl hr3 ?_
    have hx3 : Ext w w3 := hx1.trans (hx2.of_grew hg3 ho2.ge)
    have hb3 : Bts b r3 w3 := ho3.bts
    refine o_assign rfl rfl (o_nil (n_then (c_seq (c_region (o_move rfl rfl (o_move rfl rfl ?_))))))
    refine o_call call_AppendUint rfl rfl (AppendUint_spec hb3 (by omega)) ?_
    rintro r4 w4 ⟨hx4, ho4⟩
    refine o_move rfl rfl (o_move rfl rfl ?_)
    refine o_call call_AppendInt rfl rfl (AppendInt_spec (hb3.ext hx4) (by omega) h1 h2) ?_
    rintro r5 w5 ⟨hx5, ho5⟩
    refine o_assign rfl rfl (o_assign rfl rfl (o_nil (n_then (c_seq (c_region (o_move rfl rfl ?_))))))
    refine o_call (vs := [_, U64 0]) call_AppendUint rfl rfl (AppendUint_spec ((hb3.ext hx4).ext hx5) (by omega)) ?_
    rintro r6 w6 ⟨hx6, ho6⟩
    refine o_assign rfl rfl (o_nil (n_then (c_seq ?_)))
    have hx06 : Ext w w6 := ((hx3.trans hx4).trans hx5).trans hx6
    have q4 : Bts (b ++ uv n.toNat) r4 w6 := ((ho4.bts.ext hx5).ext hx6)
    have q5 : Bts (b ++ uv (zig i)) r5 w6 := ho5.bts.ext hx6
    have q6 : Bts (b ++ [0]) r6 w6 := ho6.bts
    have q3 : Bts b r3 w6 := ((hb3.ext hx4).ext hx5).ext hx6
    have q0 : Bts b v w6 := hb.ext hx06
    refine c_grow 31 [63] (by kernel_rfl) (by kernel_rfl) ?_
    refine f_move rfl rfl ?_
    refine f_conv rfl rfl (fun w hw => r_str (q4.ext hw)) ?_
    refine f_move rfl rfl (f_move rfl rfl ?_)
    refine f_call (S := Bts (b ++ uv n.toNat)) call_rAppendUint (Bts.stable _) rfl (fun w hw => by
      rintro _ rfl _ rfl
      exact Ret.mono (rAppendUint_spec (q0.ext hw) (by omega)) fun v w' h => ⟨h.1, h.2.bts⟩) ?_
    refine f_convS (S := Bts (b ++ uv n.toNat)) rfl (Stable.is _) rfl (fun w v hw hv => ⟨_, w, r_str hv, Ext.refl _, rfl⟩) ?_
    refine f_bin rfl rfl rfl (fun w _ => dec_t rfl r_eql_s) ?_
    refine f_move rfl rfl (f_yes rfl rfl (f_move rfl rfl ?_))
    refine f_yes rfl rfl (f_conv rfl rfl (fun w hw => r_str (q5.ext hw)) ?_)
    refine f_yes rfl rfl (f_move rfl rfl (f_yes rfl rfl (f_move rfl rfl ?_)))
    refine f_yes rfl rfl (f_call (S := Bts (b ++ uv (zig i))) call_rAppendInt (Bts.stable _) rfl (fun w hw => by
      rintro _ rfl _ rfl
      exact Ret.mono (rAppendInt_spec (q0.ext hw) (by omega) h1 h2) fun v w' h => ⟨h.1, h.2.bts⟩) ?_)
    refine f_yes rfl rfl (f_convS (S := Bts (b ++ uv (zig i))) rfl (Stable.is _) rfl (fun w v hw hv => ⟨_, w, r_str hv, Ext.refl _, rfl⟩) ?_)
    refine f_yes rfl rfl (f_bin rfl rfl rfl (fun w _ => dec_t rfl r_eql_s) ?_)
    refine f_pick_t rfl rfl rfl (f_move rfl rfl (f_yes rfl rfl (f_move rfl rfl ?_)))
    refine f_yes rfl rfl (f_conv rfl rfl (fun w hw => r_str (q6.ext hw)) ?_)
    refine f_yes rfl rfl (f_move rfl rfl (f_yes rfl rfl (f_conv rfl rfl (fun w hw => r_str (q0.ext hw)) ?_)))
    refine f_yes rfl rfl (f_bin (v := S [0]) rfl rfl rfl (fun w _ => r_add_s (by simp; omega)) ?_)
    refine f_yes rfl rfl (f_bin rfl rfl rfl (fun w _ => dec_t rfl r_eql_s) ?_)
    refine f_pick_t rfl rfl rfl (f_move rfl rfl (f_yes rfl rfl (f_move rfl rfl ?_)))
    refine f_yes rfl rfl (f_conv rfl rfl (fun w hw => r_str (q3.ext hw)) ?_)
    refine f_yes rfl rfl (f_move rfl rfl (f_yes rfl rfl (f_conv rfl rfl (fun w hw => r_str (q0.ext hw)) ?_)))
    refine f_yes rfl rfl (f_bin rfl rfl rfl (fun w _ => dec_t rfl r_eql_s) ?_)
    refine f_pick_t rfl rfl rfl ?_
    refine f_nil ?_
    intro w' hw
    rintro _ rfl
    refine o_assign rfl rfl (o_nil (n_then (c_ret ?_)))
    refine r_body1 rfl rfl ?_
    exact ⟨_, rfl, rfl, hx06.trans hw⟩
end Go.Rl

/- The statement WireStrings: byte strings and texts are appended in the same bytes, and read back. No condition. -/
import Derived.Test.YtlieingmahbmcaaRead2
namespace Go.Rl
open Go.RowKit Go.Proofs

theorem RdAt.keep {g g' : Nat} {st st' : Option (List UInt8)} {w w' : World} (h : RdAt g st w) (h' : RdAt g' st' w) (hne : g ≠ g') (hw : w.grownBy w' (some g')) : RdAt g st w' := by
  obtain ⟨A, n, c, h1, h2⟩ := h
  refine ⟨A, n, c, (hw.block g (Array.getElem?_eq_some_iff.1 h1).1 (fun he => hne (Option.some.inj he))).trans h1, h2.reader h' hw⟩
theorem Ext.of_rd {w w1 w2 : World} {g : Nat} (hx : Ext w w1) (hg : w1.grownBy w2 (some g)) (h : w.heap.size ≤ g) : Ext w w2 :=
  hx.of_grown hg fun k hk => by
    obtain rfl := Option.some.inj hk
    exact h
theorem RdAt.lt {g : Nat} {st : Option (List UInt8)} {w : World} (h : RdAt g st w) : g < w.heap.size := by
  obtain ⟨_, _, _, h, _⟩ := h
  exact (Array.getElem?_eq_some_iff.1 h).1

theorem WireStrings_walk {w : World} {s : List UInt8} (hs : s.length ≤ 9223372036854775807) :
    Calls Try.prog 11 #[S s] w (Ret fun r w' => r = B true ∧ Ext w w') := by
  refine enter (vs := [S s]) Try.func11 rfl rfl rfl ?_
  refine c_seq (c_region (o_assign rfl rfl (o_nil (n_then (c_seq (c_seq (c_region ?_)))))))
  refine o_call call_awake rfl rfl (awake_spec w) ?_
  rintro r1 w1 ⟨rfl, hx1⟩
  refine o_not rfl rfl r_not ?_
  refine o_move rfl rfl (g_yes rfl (o_move rfl rfl ?_))
  refine g_yes rfl (o_len rfl rfl r_lenS ?_)
  refine g_yes rfl (o_bin rfl rfl rfl r_gtr_i ?_)
  refine o_pick_f rfl rfl rfl (o_nil (n_then ?_))
  refine c_if rfl (fun h => ?_) (fun h => ?_)
  · refine c_seq (c_region ?_)
    refine o_call call_awake rfl rfl (awake_spec w1) ?_
    rintro r2 w2 ⟨rfl, hx2⟩
    refine o_assign rfl rfl (o_nil (n_then (c_ret (r_then ?_))))
    refine r_body1 rfl rfl ?_
    exact ⟨_, rfl, rfl, hx1.trans hx2⟩
  · have hlen : s.length ≤ 400 := by omega
    have hel : (encB s).length ≤ 410 := by
      have := uv_len (n := s.length) (by omega)
      simp only [encB, List.length_append]; omega
    refine c_skip (n_then (c_seq (c_region (o_move rfl rfl ?_))))
    obtain ⟨r2, w2, hr2, hx2, hb2⟩ := r_bytes (w := w1) (l := s) (by omega)
    refine o_conv rfl rfl hr2 ?_
    refine o_call (vs := [_, r2]) call_AppendBytes rfl rfl (AppendBytes_spec (l := []) (Bts.nil _) hb2 (by simp; omega)) ?_
    rintro r3 w3 ⟨hx3, ho3⟩
    refine o_move rfl rfl ?_
    refine o_call (vs := [_, S s]) call_AppendText rfl rfl (AppendText_spec (l := []) (Bts.nil _) (by simp; omega)) ?_
    rintro r4 w4 ⟨hx4, ho4⟩
    refine o_assign rfl rfl (o_assign rfl rfl (o_nil (n_then (c_seq (c_region (o_move rfl rfl ?_))))))
    have b3 : Bts (encB s) r3 w4 := ho3.bts.ext hx4
    refine o_call call_New rfl rfl (New_spec b3 (by omega)) ?_
    rintro r5 w5 ⟨hx5, g, hg, rfl, hrd⟩
    refine o_move rfl rfl ?_
    refine o_call call_New rfl rfl (New_spec (b3.ext hx5) (by omega)) ?_
    rintro r6 w6 ⟨hx6, g', hg', rfl, hrd'⟩
    refine o_assign rfl rfl (o_assign rfl rfl (o_nil (n_then (c_seq (c_region (o_move rfl rfl ?_))))))
    have hne : g ≠ g' := by have := hrd.lt; omega
    have hrd6 := hrd.ext hx6
    have e4 := ((hx1.trans hx2).trans hx3).trans hx4
    have e6 := (e4.trans hx5).trans hx6
    have hrb : (some (encB s)).bind rdB = some (s, []) := by
      have := rdB_encB (m := s) (by omega) []
      rw [List.append_nil] at this
      exact this
    have c3 : Bts (encB s) r3 w6 := (b3.ext hx5).ext hx6
    have c4 : Bts (encB s) r4 w6 := (ho4.bts.ext hx5).ext hx6
    refine o_call call_Bytes rfl rfl (Bytes_spec hrd6 (by rintro _ ⟨⟩; omega)) ?_
    rintro r7 w7 ⟨hg7, h7⟩
    rw [hrb] at h7
    obtain ⟨z, rfl, hz, hrd7⟩ := h7
    have d3 := c3.reader hrd6 hg7
    have d4 := c4.reader hrd6 hg7
    have hrd7' := hrd'.keep hrd6 hne.symm hg7
    refine o_move rfl rfl ?_
    refine o_extract rfl rfl (r_ext0) ?_
    refine o_extract rfl rfl (r_ext1) ?_
    refine o_assign rfl rfl (o_assign rfl rfl (o_nil (n_then (c_seq (c_region (o_move rfl rfl ?_))))))
    refine o_call call_Text rfl rfl (Text_spec hrd7' (by rintro _ ⟨⟩; omega)) ?_
    rintro r8 w8 ⟨hg8, h8⟩
    rw [hrb] at h8
    obtain ⟨rfl, hrd8'⟩ := h8
    have q3 := d3.reader hrd7' hg8
    have q4 := d4.reader hrd7' hg8
    have qz := hz.reader hrd7' hg8
    have hrd8 := hrd7.keep hrd7' hne hg8
    have e8 : Ext w w8 := (e6.of_rd hg7 (Nat.le_trans e4.size hg)).of_rd hg8 (Nat.le_trans (e4.trans hx5).size hg')
    refine o_move rfl rfl ?_
    refine o_extract rfl rfl (r_ext0) ?_
    refine o_extract rfl rfl (r_ext1) ?_
    refine o_assign rfl rfl (o_assign rfl rfl (o_nil (n_then (c_seq ?_))))
    refine c_grow 42 [79] (by kernel_rfl) (by kernel_rfl) ?_
    refine f_move rfl rfl ?_
    refine f_conv rfl rfl (fun w hw => r_str (q3.ext hw)) ?_
    refine f_move rfl rfl ?_
    refine f_conv rfl rfl (fun w hw => r_str (q4.ext hw)) ?_
    refine f_bin rfl rfl rfl (fun w _ => dec_t rfl r_eql_s) ?_
    refine f_move rfl rfl (f_yes rfl rfl (f_move rfl rfl ?_))
    refine f_yes rfl rfl (f_conv rfl rfl (fun w hw => r_str (q3.ext hw)) ?_)
    refine f_yes rfl rfl (f_move rfl rfl ?_)
    refine f_yes rfl rfl (f_call (S := Bts (encB s)) call_rAppendText (Bts.stable _) rfl (fun w' hw => by
      rintro _ rfl _ rfl
      exact Ret.mono (rAppendText_spec (l := []) (Bts.nil _) (by simp; omega)) fun v w' h => ⟨h.1, h.2.bts⟩) ?_)
    refine f_yes rfl rfl (f_convS (S := Bts (encB s)) rfl (Stable.is _) rfl (fun w v hw hv => ⟨_, w, r_str hv, Ext.refl _, rfl⟩) ?_)
    refine f_yes rfl rfl (f_bin rfl rfl rfl (fun w _ => dec_t rfl r_eql_s) ?_)
    refine f_pick_t rfl rfl rfl ?_
    refine f_move rfl rfl (f_yes rfl rfl (f_move rfl rfl ?_))
    refine f_yes rfl rfl (f_bin (v := I 0) rfl rfl rfl (fun w _ => dec_t rfl r_eql_i) ?_)
    refine f_pick_t rfl rfl rfl ?_
    refine f_move rfl rfl (f_yes rfl rfl (f_move rfl rfl ?_))
    refine f_yes rfl rfl (f_conv rfl rfl (fun w hw => r_str (qz.ext hw)) ?_)
    refine f_yes rfl rfl (f_move rfl rfl (f_yes rfl rfl ?_))
    refine f_bin rfl rfl rfl (fun w _ => dec_t rfl r_eql_s) ?_
    refine f_pick_t rfl rfl rfl ?_
    refine f_move rfl rfl (f_yes rfl rfl (f_move rfl rfl ?_))
    refine f_yes rfl rfl (f_bin (v := I 0) rfl rfl rfl (fun w _ => dec_t rfl r_eql_i) ?_)
    refine f_pick_t rfl rfl rfl ?_
    refine f_move rfl rfl (f_yes rfl rfl (f_move rfl rfl (f_yes rfl rfl (f_move rfl rfl ?_))))
    refine f_yes rfl rfl (f_bin rfl rfl rfl (fun w _ => dec_t rfl r_eql_s) ?_)
    refine f_pick_t rfl rfl rfl ?_
    refine f_move rfl rfl (f_yes rfl rfl (f_move rfl rfl ?_))
    refine f_yes rfl rfl (f_call (S := Is (I 0)) call_Done (Stable.is _) rfl (fun w' hw => by
      rintro _ rfl
      exact Ret.mono (Done_spec (hrd8.ext hw)) fun v w' h => by obtain ⟨rfl, rfl⟩ := h; exact ⟨Ext.refl _, rfl⟩) ?_)
    refine f_yes rfl rfl (f_bin (v := I 0) rfl rfl rfl (fun w _ => dec_t rfl r_eql_i) ?_)
    refine f_pick_t rfl rfl rfl ?_
    refine f_move rfl rfl (f_yes rfl rfl (f_move rfl rfl ?_))
    refine f_yes rfl rfl (f_call (S := Is (I 0)) call_Left (Stable.is _) rfl (fun w' hw => by
      rintro _ rfl
      exact Ret.mono (Left_spec (hrd8.ext hw)) fun v w' h => by obtain ⟨rfl, rfl⟩ := h; exact ⟨Ext.refl _, rfl⟩) ?_)
    refine f_yes rfl rfl (f_bin (v := I 0) rfl rfl rfl (fun w _ => dec_t rfl r_eql_i) ?_)
    refine f_pick_t rfl rfl rfl ?_
    refine f_nil ?_
    intro w9 hx9
    rintro _ rfl
    refine o_assign rfl rfl (o_nil (n_then (c_ret ?_)))
    refine r_body1 rfl rfl ?_
    exact ⟨_, rfl, rfl, e8.trans hx9⟩
end Go.Rl

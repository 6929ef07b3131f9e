/- Walks of the functions that append limbs. Conditions: what is appended to is short. -/
import Derived.Test.YtifjnhdnpglbpaaRead
namespace Go.Rl
open Go.RowKit Go.Proofs

theorem call_nat : Callable Try.prog 49 := ⟨_, Try.func49, by kernel_rfl, rfl⟩
theorem call_AppendNat : Callable Try.prog 22 := ⟨_, Try.func22, by kernel_rfl, rfl⟩
theorem call_awake : Callable Try.prog 19 := ⟨_, Try.func19, by kernel_rfl, rfl⟩

/-- A limb, the least significant byte first. -/
def le4 (x : UInt32) : List UInt8 := [x.toUInt8, (x >>> UInt32.ofNat 8).toUInt8, (x >>> UInt32.ofNat 16).toUInt8, (x >>> UInt32.ofNat 24).toUInt8]
def le4s (l : List UInt32) : List UInt8 := l.flatMap le4
theorem le4s_snoc (l : List UInt32) (k : Nat) (h : k < l.length) : le4s (l.take (k + 1)) = le4s (l.take k) ++ le4 l[k] := by
  unfold le4s
  rw [List.take_succ_eq_append_getElem h, List.flatMap_append]
  simp
theorem le4s_len (l : List UInt32) : (le4s l).length = 4 * l.length := by
  induction l with
  | nil => rfl
  | cons x l ih =>
    have : le4s (x :: l) = le4 x ++ le4s l := by simp [le4s]
    rw [this, List.length_append, ih]
    simp [le4]; omega
def encN (l : List UInt32) : List UInt8 := uv l.length ++ le4s l
theorem encN_len (l : List UInt32) (h : l.length < 18446744073709551616) : (encN l).length ≤ 10 + 4 * l.length := by
  have := uv_len h
  simp only [encN, List.length_append, le4s_len]; omega

section
variable {w0 w : World} {l : List UInt8} {ns : List UInt32} {v nv : Value}

theorem nat_spec (hx : Ext w0 w) (hv : OwnB w0.heap.size l v w) (hn : Wds ns nv w0) (hl : l.length + 4 * ns.length ≤ 35184372088832) :
    Calls Try.prog 49 #[v, nv] w (Ret fun r w' => OwnB w0.heap.size (l ++ encN ns) r w' ∧ Ext w0 w' ∧ Grew w w' v r) := by
  refine enter (vs := [v, nv]) Try.func49 rfl rfl rfl ?_
  refine c_seq (c_region (o_assign rfl rfl (o_nil (n_then (c_seq (c_region (o_move rfl rfl (o_move rfl rfl ?_))))))))
  refine o_len rfl rfl (r_lenW Try.underlying33 (hn.ext hx)) ?_
  refine o_conv rfl rfl (r_n_u64 Try.underlying3 Try.underlying31) ?_
  refine o_call call_uvarint rfl rfl (uvarint_spec hv (by omega) hx.size) ?_
  rintro b1 w1 ⟨hb1, hg1⟩
  have hlen : (UInt64.ofNat ns.length).toNat = ns.length := by rw [UInt64.toNat_ofNat']; have := hn.len; omega
  rw [hlen] at hb1
  have hx1 : Ext w0 w1 := hx.of_grew hg1 hv.ge
  have huv := uv_len (n := ns.length) (by have := hn.len; omega)
  refine o_assign rfl rfl (o_nil (n_then (c_seq (c_seq (c_region (o_move rfl rfl ?_))))))
  refine o_len rfl rfl (r_lenW Try.underlying33 (hn.ext hx1)) ?_
  refine o_move rfl rfl (o_nil (n_then (c_block ?_)))
  refine c_loop (α := Nat × Value) (fun x => [(0, x.2), (12, nv), (13, I (ns.length : Int)), (14, I (x.1 : Int))])
    (fun x w' => OwnB w0.heap.size (l ++ uv ns.length ++ le4s (ns.take x.1)) x.2 w' ∧ Ext w0 w' ∧ Grew w w' v x.2 ∧ x.1 ≤ ns.length) (fun x => ns.length - x.1) (0, b1) ⟨rfl, rfl, rfl, rfl, trivial⟩
    ⟨by simpa [le4s] using hb1, hx1, hg1, by simp⟩ ?_
  rintro ⟨k, b⟩ w2 ⟨hb, hx2, hg2, hk⟩
  dsimp only at hb hx2 hg2 hk
  have hns := hn.len
  have hdl : (l ++ uv ns.length ++ le4s (ns.take k)).length ≤ 35184372088832 + 10 := by
    simp only [List.length_append, le4s_len, List.length_take]; omega
  refine c_seq (c_region ?_)
  refine o_bin rfl rfl rfl (r_lss_i) ?_
  refine o_nil (n_then (c_seq ?_))
  refine c_if rfl (fun h => ?_) (fun h => ?_)
  · have hlt : k < ns.length := by omega
    refine c_skip (n_then (c_seq (c_block (c_seq (c_region ?_)))))
    obtain ⟨ad, had, hcell⟩ := r_ixW Try.underlying33 (hn.ext hx2) hlt .i64
    refine o_indexAddr rfl rfl rfl (had _) ?_
    refine o_load rfl rfl (r_ldW hcell) ?_
    refine o_assign rfl rfl (o_nil (n_then (c_region (o_move rfl rfl (o_move rfl rfl ?_)))))
    refine o_conv rfl rfl (r_u32_u8 Try.underlying79 Try.underlying5) ?_
    refine o_move rfl rfl ?_
    refine o_bin rfl rfl rfl (r_shr_u32 8 (by omega)) ?_
    refine o_conv rfl rfl (r_u32_u8 Try.underlying79 Try.underlying5) ?_
    refine o_move rfl rfl ?_
    refine o_bin rfl rfl rfl (r_shr_u32 16 (by omega)) ?_
    refine o_conv rfl rfl (r_u32_u8 Try.underlying79 Try.underlying5) ?_
    refine o_move rfl rfl ?_
    refine o_bin rfl rfl rfl (r_shr_u32 24 (by omega)) ?_
    refine o_conv rfl rfl (r_u32_u8 Try.underlying79 Try.underlying5) ?_
    obtain ⟨r3, w3, hr3, hx3, ho3, _⟩ := r_bsB (w := w2) w2.heap.size (le4 ns[k]) (by simp [le4]) (Nat.le_refl _)
    refine o_buildSlice rfl rfl hr3 ?_
    obtain ⟨r4, w4, hr4, ho4, hg4⟩ := r_appB (ty := 22) (hb.ext hx3) ho3.bts (by simp only [le4, List.length_cons, List.length_nil]; omega) (Nat.le_trans hx2.size hx3.size)
    refine o_append rfl rfl hr4 ?_
    refine o_assign rfl rfl (o_nil (n_block (n_then (c_region ?_))))
    refine o_bin rfl rfl rfl (r_add_i (by omega) (by omega)) ?_
    refine o_move rfl rfl (o_nil ?_)
    refine n_round (k + 1, r4) ⟨rfl, rfl, rfl, rfl, trivial⟩ ⟨?_, (hx2.trans hx3).of_grew hg4 hb.ge, hg2.trans (Grew.before hx3 hg4), hlt⟩ (by show ns.length - (k + 1) < ns.length - k; omega)
    show OwnB _ (l ++ uv ns.length ++ le4s (ns.take (k + 1))) r4 w4
    rw [le4s_snoc ns k hlt, ← List.append_assoc]
    exact ho4
  · have hk' : k = ns.length := by omega
    refine c_exit (x_then (x_then (x_here (n_then (c_seq (c_region (o_move rfl rfl (o_assign rfl rfl (o_nil (n_then (c_ret ?_)))))))))))
    refine r_body1 rfl rfl ?_
    refine ⟨_, rfl, ?_, hx2, hg2⟩
    rw [hk', List.take_length, List.append_assoc] at hb
    exact hb

theorem AppendNat_spec (hv : Bts l v w) (hn : Wds ns nv w) (hl : l.length + 4 * ns.length ≤ 35184372088832) :
    Calls Try.prog 22 #[v, nv] w (Ret fun r w' => Ext w w' ∧ OwnB w.heap.size (l ++ encN ns) r w') := by
  refine enter (vs := [v, nv]) Try.func22 rfl rfl rfl ?_
  refine c_seq (c_region (o_assign rfl rfl (o_nil (n_then (c_seq (c_region (o_move rfl rfl ?_)))))))
  refine o_call call_Clone rfl rfl (Clone_spec hv (by omega)) ?_
  rintro r1 w1 ⟨hx1, ho1⟩
  refine o_move rfl rfl ?_
  refine o_call call_nat rfl rfl (nat_spec hx1 ho1 hn hl) ?_
  rintro r2 w2 ⟨ho2, hx2, _⟩
  refine o_assign rfl rfl (o_nil (n_then (c_ret ?_)))
  refine r_body1 rfl rfl ?_
  exact ⟨_, rfl, hx2, ho2⟩
end

theorem awake_spec (w : World) : Calls Try.prog 19 #[] w (Ret fun r w' => r = B true ∧ Ext w w') := by
  refine enter (vs := []) Try.func19 rfl rfl rfl ?_
  refine c_seq (c_region (o_assign rfl rfl (o_nil (n_then (c_seq (c_region ?_))))))
  obtain ⟨r1, w1, hr1, hx1, ho1, _⟩ := r_bsB (w := w) w.heap.size [128, 0] (by simp) (Nat.le_refl _)
  refine o_buildSlice (vs := [(0, U8 128), (1, U8 0)]) rfl rfl hr1 ?_
  refine o_call call_New rfl rfl (New_spec ho1.bts (by simp)) ?_
  rintro r2 w2 ⟨hx2, g, hg, rfl, hrd⟩
  have e2 := hx1.trans hx2
  refine o_assign rfl rfl (o_nil (n_then (c_seq (c_seq (c_region (o_move rfl rfl ?_))))))
  refine o_bin rfl rfl rfl (r_eqnilp Try.underlying43) ?_
  refine o_nil (n_then ?_)
  refine c_no rfl ?_
  refine c_skip (n_then (c_seq (c_region (o_move rfl rfl ?_))))
  refine o_call call_Uint rfl rfl (Uint_spec hrd) ?_
  rintro r3 w3 ⟨hg3, h3⟩
  have hu : (some [(128 : UInt8), 0]).bind rdU = none := by decide
  rw [hu] at h3
  obtain ⟨rfl, _⟩ := h3
  have e3 : Ext w w3 := e2.of_grown hg3 fun k hk => by
    obtain rfl := Option.some.inj hk
    exact Nat.le_trans hx1.size hg
  refine o_move rfl rfl ?_
  refine o_extract rfl rfl (r_ext0) ?_
  refine o_extract rfl rfl (r_ext1) ?_
  refine o_assign rfl rfl (o_assign rfl rfl (o_nil (n_then (c_seq (c_region ?_)))))
  refine o_call (vs := [_, U64 300]) call_AppendUint rfl rfl (AppendUint_spec (Bts.nil _) (by simp)) ?_
  rintro r4 w4 ⟨hx4, ho4⟩
  refine o_conv rfl rfl (r_str ho4.bts) ?_
  refine o_bin (v := S [172, 2]) rfl rfl rfl (dec_t (by decide) r_eql_s) ?_
  refine o_move rfl rfl (g_yes rfl ?_)
  refine o_call (vs := [_, I (-1)]) call_AppendInt rfl rfl (AppendInt_spec (Bts.nil _) (by simp) (by omega) (by omega)) ?_
  rintro r5 w5 ⟨hx5, ho5⟩
  refine g_yes rfl (o_conv rfl rfl (r_str ho5.bts) ?_)
  refine g_yes rfl (o_bin (v := S [1]) rfl rfl rfl (dec_t (by decide) r_eql_s) ?_)
  refine o_pick_t rfl rfl rfl (o_move rfl rfl (g_yes rfl ?_))
  obtain ⟨r6, w6, hr6, hx6, ho6, _⟩ := r_bsW Try.underlying33 (w := w5) w5.heap.size [258] (by simp) (Nat.le_refl _)
  refine o_buildSlice (vs := [(0, U32 258)]) rfl rfl hr6 (g_yes rfl ?_)
  refine o_call call_AppendNat rfl rfl (AppendNat_spec (Bts.nil _) ho6.wds (by simp)) ?_
  rintro r7 w7 ⟨hx7, ho7⟩
  refine g_yes rfl (o_conv rfl rfl (r_str ho7.bts) ?_)
  refine g_yes rfl (o_bin (v := S [1, 2, 1, 0, 0]) rfl rfl rfl (dec_t (by decide) r_eql_s) ?_)
  refine o_pick_t rfl rfl rfl (o_move rfl rfl (g_yes rfl (o_move rfl rfl ?_)))
  refine g_yes rfl (o_bin rfl rfl rfl (dec_t rfl r_eql_i) ?_)
  refine o_pick_t rfl rfl rfl ?_
  refine o_assign rfl rfl (o_nil (n_then (c_ret ?_)))
  refine r_body1 rfl rfl ?_
  exact ⟨_, rfl, rfl, ((((e3.trans hx4).trans hx5).trans hx6).trans hx7)⟩
end Go.Rl

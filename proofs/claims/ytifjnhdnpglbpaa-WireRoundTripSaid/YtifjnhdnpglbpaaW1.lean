/- Walks of the appending functions of package wire and of its reference. Conditions: what is appended to is short. -/
import Derived.Test.YtifjnhdnpglbpaaStep
import Derived.Test.YtifjnhdnpglbpaaUv
import Derived.Test.YtifjnhdnpglbpaaZig
namespace Go.Rl
open Go.RowKit Go.Proofs

theorem call_Clone : Callable Try.prog 50 := ⟨_, Try.func50, by kernel_rfl, rfl⟩
theorem call_uvarint : Callable Try.prog 51 := ⟨_, Try.func51, by kernel_rfl, rfl⟩
theorem call_AppendUint : Callable Try.prog 24 := ⟨_, Try.func24, by kernel_rfl, rfl⟩
theorem call_AppendInt : Callable Try.prog 23 := ⟨_, Try.func23, by kernel_rfl, rfl⟩
theorem call_rAppendUint : Callable Try.prog 41 := ⟨_, Try.func41, by kernel_rfl, rfl⟩


theorem Clone_spec {w : World} {l : List UInt8} {v : Value} (hv : Bts l v w) (hl : l.length ≤ 140737488355328) :
    Calls Try.prog 50 #[v] w (Ret fun r w' => Ext w w' ∧ OwnB w.heap.size l r w') := by
  obtain ⟨A, n, c, rfl, hnc, hcm, hll, hc, hnone⟩ := id hv
  refine enter (vs := [.slice A n c]) Try.func50 rfl rfl rfl ?_
  refine c_seq (c_region (o_assign rfl rfl (o_nil (n_then (c_seq (c_seq (c_region (o_move rfl rfl ?_))))))))
  refine o_bin rfl rfl rfl (r_eqnil Try.underlying22) ?_
  refine o_nil (n_then ?_)
  refine c_cond rfl (fun h => ?_) (fun h => ?_)
  · refine c_seq (c_region (o_assign rfl rfl (o_nil (n_then (c_ret (r_then ?_))))))
    refine r_body1 rfl rfl ?_
    have hA : A = none := by simpa using h
    have := hnone hA
    have hnil : l = [] := List.eq_nil_of_length_eq_zero (by simp at hll; omega)
    subst hnil
    exact ⟨_, rfl, Ext.refl _, OwnB.nil _ _⟩
  · refine c_skip (n_then (c_seq (c_region ?_)))
    obtain ⟨r5, w5, hr5, hx5, ho5, hb5⟩ := r_bsB (w := w) w.heap.size [] (by simp) (Nat.le_refl _)
    refine o_buildSlice rfl rfl hr5 ?_
    refine o_move rfl rfl ?_
    obtain ⟨r7, w7, hr7, ho7, hg7⟩ := r_appB (ty := 22) ho5 (hv.ext hx5) (by simpa using hl) hx5.size
    refine o_append rfl rfl hr7 ?_
    refine o_assign rfl rfl (o_nil (n_then (c_ret ?_)))
    refine r_body1 rfl rfl ?_
    exact ⟨_, rfl, hx5.of_grew hg7 ho5.ge, ho7⟩

/-- uvarint appends onto a row of its own. -/
theorem uvarint_spec {w : World} {base : Nat} {l : List UInt8} {v : Value} {n : UInt64} (hv : OwnB base l v w) (hl : l.length ≤ 70368744177664) (hbase : base ≤ w.heap.size) :
    Calls Try.prog 51 #[v, U64 n] w (Ret fun r w' => OwnB base (l ++ uv n.toNat) r w' ∧ Grew w w' v r) := by
  refine enter (vs := [v, U64 n]) Try.func51 rfl rfl rfl ?_
  refine c_seq (c_region (o_assign rfl rfl (o_nil (n_then (c_seq (c_block ?_))))))
  refine c_loop (α := Value × UInt64 × List UInt8) (fun x => [(0, x.1), (1, U64 x.2.1)]) (fun x w' => OwnB base x.2.2 x.1 w' ∧ Grew w w' v x.1 ∧ x.2.2 ++ uv x.2.1.toNat = l ++ uv n.toNat) (fun x => x.2.1.toNat) (v, n, l) ⟨rfl, rfl, trivial⟩ ⟨hv, Grew.of_ext (Ext.refl w) (.inl rfl), rfl⟩ ?_
  rintro ⟨b, m, done⟩ w1 ⟨hb, hg, he⟩
  dsimp only at hb hg he
  have hdl : done.length ≤ l.length + 10 := by
    have := congrArg List.length he
    simp only [List.length_append] at this
    have := uv_len (n := n.toNat) n.toNat_lt
    omega
  have hb1 : base ≤ w1.heap.size := Nat.le_trans hbase hg.grown.size
  refine c_seq (c_seq (c_region (o_move rfl rfl ?_)))
  refine o_bin (v := U64 128) rfl rfl rfl (r_geq_u64) ?_
  refine o_nil (n_then ?_)
  refine c_if rfl (fun h => ?_) (fun h => ?_)
  · have h' : 128 ≤ m.toNat := by simpa [UInt64.le_iff_toNat_le] using h
    refine c_skip (n_then (c_seq (c_block (c_region (o_move rfl rfl (o_move rfl rfl ?_))))))
    refine o_conv rfl rfl (r_u64_u8 Try.underlying31 Try.underlying5) ?_
    refine o_bin (v := U8 128) rfl rfl rfl (r_or_u8) ?_
    obtain ⟨r2, w2, hr2, hx2, ho2, _⟩ := r_bsB (w := w1) w1.heap.size [m.toUInt8 ||| 128] (by simp) (Nat.le_refl _)
    refine o_buildSlice rfl rfl hr2 ?_
    obtain ⟨r3, w3, hr3, ho3, hg3⟩ := r_appB (ty := 22) (hb.ext hx2) ho2.bts (by simp; omega) (Nat.le_trans hb1 hx2.size)
    refine o_append rfl rfl hr3 ?_
    refine o_assign rfl rfl (o_nil (n_block (n_then (c_region (o_move rfl rfl ?_)))))
    refine o_bin rfl rfl rfl (r_shr_u64 7 (by omega)) ?_
    refine o_assign rfl rfl (o_nil ?_)
    refine n_round (r3, m >>> UInt64.ofNat 7, done ++ [m.toUInt8 ||| 128]) ⟨rfl, rfl, trivial⟩ ⟨ho3, hg.trans (Grew.before hx2 hg3), ?_⟩ ?_
    · show done ++ [m.toUInt8 ||| 128] ++ uv (m >>> UInt64.ofNat 7).toNat = _
      rw [← he, uv_big h', high_byte, shr7]; simp
    · show (m >>> UInt64.ofNat 7).toNat < m.toNat
      rw [shr7]; omega
  · have h' : m.toNat < 128 := by
      have : ¬ (128 ≤ m.toNat) := fun hh => h (by show (128 : UInt64) ≤ m; rw [UInt64.le_iff_toNat_le]; exact hh)
      omega
    refine c_exit (x_then (x_then (x_here (n_then (c_seq (c_region (o_move rfl rfl (o_move rfl rfl ?_))))))))
    refine o_conv rfl rfl (r_u64_u8 Try.underlying31 Try.underlying5) ?_
    obtain ⟨r2, w2, hr2, hx2, ho2, _⟩ := r_bsB (w := w1) w1.heap.size [m.toUInt8] (by simp) (Nat.le_refl _)
    refine o_buildSlice rfl rfl hr2 ?_
    obtain ⟨r3, w3, hr3, ho3, hg3⟩ := r_appB (ty := 22) (hb.ext hx2) ho2.bts (by simp; omega) (Nat.le_trans hb1 hx2.size)
    refine o_append rfl rfl hr3 ?_
    refine o_assign rfl rfl (o_nil (n_then (c_ret ?_)))
    refine r_body1 rfl rfl ?_
    refine ⟨_, rfl, ?_, hg.trans (Grew.before hx2 hg3)⟩
    rw [← he, uv_small h', ← low_byte]
    exact ho3

theorem AppendUint_spec {w : World} {l : List UInt8} {v : Value} {n : UInt64} (hv : Bts l v w) (hl : l.length ≤ 70368744177664) :
    Calls Try.prog 24 #[v, U64 n] w (Ret fun r w' => Ext w w' ∧ OwnB w.heap.size (l ++ uv n.toNat) r w') := by
  refine enter (vs := [v, U64 n]) Try.func24 rfl rfl rfl ?_
  refine c_seq (c_region (o_assign rfl rfl (o_nil (n_then (c_seq (c_region (o_move rfl rfl ?_)))))))  -- 0 t4 1 t5
  refine o_call call_Clone rfl rfl (Clone_spec hv (by omega)) ?_
  rintro r1 w1 ⟨hx1, ho1⟩
  refine o_move rfl rfl ?_
  refine o_call call_uvarint rfl rfl (uvarint_spec ho1 hl hx1.size) ?_
  rintro r2 w2 ⟨ho2, hg2⟩
  refine o_assign rfl rfl (o_nil (n_then (c_ret ?_)))
  refine r_body1 rfl rfl ?_
  exact ⟨_, rfl, hx1.of_grew hg2 ho1.ge, ho2⟩

theorem AppendInt_spec {w : World} {l : List UInt8} {v : Value} {n : Int} (hv : Bts l v w) (hl : l.length ≤ 70368744177664) (h1 : -9223372036854775808 ≤ n) (h2 : n ≤ 9223372036854775807) :
    Calls Try.prog 23 #[v, I n] w (Ret fun r w' => Ext w w' ∧ OwnB w.heap.size (l ++ uv (zig n)) r w') := by
  refine enter (vs := [v, I n]) Try.func23 rfl rfl rfl ?_
  refine c_seq (c_region (o_assign rfl rfl (o_nil (n_then (c_seq (c_region (o_move rfl rfl ?_)))))))
  refine o_call call_Clone rfl rfl (Clone_spec hv (by omega)) ?_
  rintro r1 w1 ⟨hx1, ho1⟩
  refine o_move rfl rfl ?_
  refine o_conv rfl rfl (r_i_u64 Try.underlying3 Try.underlying31) ?_
  refine o_bin rfl rfl rfl (r_shl_u64 1 (by omega)) ?_
  refine o_move rfl rfl ?_
  refine o_bin rfl rfl rfl (r_shr_i 63 (by omega)) ?_
  refine o_conv rfl rfl (r_i_u64 Try.underlying3 Try.underlying31) ?_
  refine o_bin rfl rfl rfl (r_xor_u64) ?_
  refine o_call call_uvarint rfl rfl (uvarint_spec ho1 hl hx1.size) ?_
  rintro r2 w2 ⟨ho2, hg2⟩
  refine o_assign rfl rfl (o_nil (n_then (c_ret ?_)))
  refine r_body1 rfl rfl ?_
  rw [zig_prog h1 h2] at ho2
  exact ⟨_, rfl, hx1.of_grew hg2 ho1.ge, ho2⟩

theorem rAppendUint_spec {w : World} {l : List UInt8} {v : Value} {n : UInt64} (hv : Bts l v w) (hl : l.length ≤ 70368744177664) :
    Calls Try.prog 41 #[v, U64 n] w (Ret fun r w' => Ext w w' ∧ OwnB w.heap.size (l ++ uv n.toNat) r w') := by
  refine enter (vs := [v, U64 n]) Try.func41 rfl rfl rfl ?_
  refine c_seq (c_region (o_assign rfl rfl (o_nil (n_then (c_seq (c_region ?_))))))
  obtain ⟨r0, w0, hr0, hx0, ho0, _⟩ := r_bsB (w := w) w.heap.size [] (by simp) (Nat.le_refl _)
  refine o_buildSlice rfl rfl hr0 ?_
  refine o_move rfl rfl ?_
  obtain ⟨r1, w1, hr1, ho1, hg1⟩ := r_appB (ty := 22) ho0 (hv.ext hx0) (by simp; omega) hx0.size
  refine o_append rfl rfl hr1 ?_
  have hx1 : Ext w w1 := hx0.of_grew hg1 ho0.ge
  refine o_assign rfl rfl (o_nil (n_then (c_seq (c_block ?_))))
  refine c_loop (α := Value × UInt64 × List UInt8) (fun x => [(5, x.1), (1, U64 x.2.1)]) (fun x w' => OwnB w.heap.size x.2.2 x.1 w' ∧ Ext w w' ∧ x.2.2 ++ uv x.2.1.toNat = l ++ uv n.toNat) (fun x => x.2.1.toNat) (r1, n, l) ⟨rfl, rfl, trivial⟩ ⟨ho1, hx1, rfl⟩ ?_
  rintro ⟨b, m, done⟩ w2 ⟨hb, hx2, he⟩
  dsimp only at hb hx2 he
  have hdl : done.length ≤ l.length + 10 := by
    have := congrArg List.length he
    simp only [List.length_append] at this
    have := uv_len (n := n.toNat) n.toNat_lt
    omega
  refine c_seq (c_seq (c_region (o_move rfl rfl ?_)))
  refine o_bin (v := U64 128) rfl rfl rfl (r_geq_u64) ?_
  refine o_nil (n_then ?_)
  refine c_if rfl (fun h => ?_) (fun h => ?_)
  · have h' : 128 ≤ m.toNat := by simpa [UInt64.le_iff_toNat_le] using h
    refine c_skip (n_then (c_block (c_seq (c_region (o_move rfl rfl (o_move rfl rfl ?_))))))
    refine o_bin (v := U64 128) rfl rfl rfl (r_rem_u64 (by decide)) ?_
    refine o_bin (v := U64 128) rfl rfl rfl (r_add_u64) ?_
    refine o_conv rfl rfl (r_u64_u8 Try.underlying31 Try.underlying5) ?_
    obtain ⟨r3, w3, hr3, hx3, ho3, _⟩ := r_bsB (w := w2) w2.heap.size [(m % 128 + 128).toUInt8] (by simp) (Nat.le_refl _)
    refine o_buildSlice rfl rfl hr3 ?_
    obtain ⟨r4, w4, hr4, ho4, hg4⟩ := r_appB (ty := 22) (hb.ext hx3) ho3.bts (by simp; omega) (Nat.le_trans hx2.size hx3.size)
    refine o_append rfl rfl hr4 ?_
    refine o_assign rfl rfl (o_nil (n_then (c_region (o_move rfl rfl ?_))))
    refine o_bin (v := U64 128) rfl rfl rfl (r_quo_u64 (by decide)) ?_
    refine o_assign rfl rfl (o_nil (n_block ?_))
    have hm : (m / 128).toNat = m.toNat / 128 := by rw [UInt64.toNat_div]; rfl
    refine n_round (r4, m / 128, done ++ [(m % 128 + 128).toUInt8]) ⟨rfl, rfl, trivial⟩ ⟨ho4, (hx2.trans hx3).of_grew hg4 hb.ge, ?_⟩ ?_
    · show done ++ [(m % 128 + 128).toUInt8] ++ uv (m / 128).toNat = _
      rw [← he, uv_big h', hm, mod_byte]; simp
    · show (m / 128).toNat < m.toNat
      rw [hm]; omega
  · have h' : m.toNat < 128 := by
      have : ¬ (128 ≤ m.toNat) := fun hh => h (by show (128 : UInt64) ≤ m; rw [UInt64.le_iff_toNat_le]; exact hh)
      omega
    refine c_exit (x_then (x_then (x_here (n_then (c_seq (c_region (o_move rfl rfl (o_move rfl rfl ?_))))))))
    refine o_conv rfl rfl (r_u64_u8 Try.underlying31 Try.underlying5) ?_
    obtain ⟨r3, w3, hr3, hx3, ho3, _⟩ := r_bsB (w := w2) w2.heap.size [m.toUInt8] (by simp) (Nat.le_refl _)
    refine o_buildSlice rfl rfl hr3 ?_
    obtain ⟨r4, w4, hr4, ho4, hg4⟩ := r_appB (ty := 22) (hb.ext hx3) ho3.bts (by simp; omega) (Nat.le_trans hx2.size hx3.size)
    refine o_append rfl rfl hr4 ?_
    refine o_assign rfl rfl (o_nil (n_then (c_ret ?_)))
    refine r_body1 rfl rfl ?_
    refine ⟨_, rfl, (hx2.trans hx3).of_grew hg4 hb.ge, ?_⟩
    rw [← he, uv_small h', ← low_byte]
    exact ho4

end Go.Rl

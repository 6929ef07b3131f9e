/- Walks of the appending functions of package wire and of its reference. Conditions: what is appended to is short. -/
import Derived.Test.YtaehfoogjjglcaaGreatAm2
import Derived.OrdersHeld
import Derived.Lib.AppendStr
import Derived.Laws.IdiomStrings
namespace Go.Rl
open Go.RowKit Go.Proofs

theorem call_Clone : Callable Tryz.prog 55 := ⟨_, Tryz.func55, by kernel_rfl, rfl⟩
theorem call_uvarint : Callable Tryz.prog 78 := ⟨_, Tryz.func78, by kernel_rfl, rfl⟩
theorem call_AppendUint : Callable Tryz.prog 43 := ⟨_, Tryz.func43, by kernel_rfl, rfl⟩
theorem call_AppendInt : Callable Tryz.prog 44 := ⟨_, Tryz.func44, by kernel_rfl, rfl⟩
theorem call_rAppendUint : Callable Tryz.prog 49 := ⟨_, Tryz.func49, by kernel_rfl, rfl⟩
theorem call_rAppendInt : Callable Tryz.prog 50 := ⟨_, Tryz.func50, by kernel_rfl, rfl⟩


theorem Clone_spec {w : World} {l : List UInt8} {v : Value} (hv : Bts l v w) (hl : l.length ≤ 140737488355328) :
    Calls Tryz.prog 55 #[v] w (Ret fun r w' => Ext w w' ∧ OwnB w.heap.size l r w') := by
  obtain ⟨A, n, c, rfl, hnc, hcm, hll, hc, hnone⟩ := id hv
  refine enter (vs := [.slice A n c]) Tryz.func55 rfl rfl rfl ?_
  refine c_seq (c_region (o_assign rfl rfl (o_nil (n_then (c_seq (c_seq (c_region (o_move rfl rfl ?_))))))))
  refine o_bin rfl rfl rfl (r_eqnil Tryz.underlying28) ?_
  refine o_nil (n_then ?_)
  refine c_cond rfl (fun h => ?_) (fun h => ?_)
  · refine c_seq (c_region (o_assign rfl rfl (o_nil (n_then (c_ret (r_then ?_))))))
    refine r_body1 rfl rfl ?_
    have hA : A = none := by simpa using h
    have := hnone hA
    have hnil : l = [] := List.eq_nil_of_length_eq_zero (by simp at hll; omega)
    subst hnil
    exact ⟨_, rfl, Ext.refl _, OwnB.nil _ _⟩
  · refine c_skip (n_then (c_seq (c_region ?_)))
    obtain ⟨r5, w5, hr5, hx5, ho5, hb5⟩ := r_bsB (w := w) w.heap.size [] (by simp) (Nat.le_refl _)
    refine o_buildSlice rfl rfl hr5 ?_
    refine o_move rfl rfl ?_
    obtain ⟨r7, w7, hr7, ho7, hg7⟩ := r_appB (ty := 28) ho5 (hv.ext hx5) (by simpa using hl) hx5.size
    refine o_append rfl rfl hr7 ?_
    refine o_assign rfl rfl (o_nil (n_then (c_ret ?_)))
    refine r_body1 rfl rfl ?_
    exact ⟨_, rfl, hx5.of_grew hg7 ho5.ge, ho7⟩

/-- uvarint appends onto a row of its own. -/
theorem uvarint_spec {w : World} {base : Nat} {l : List UInt8} {v : Value} {n : UInt64} (hv : OwnB base l v w) (hl : l.length ≤ 70368744177664) (hbase : base ≤ w.heap.size) :
    Calls Tryz.prog 78 #[v, U64 n] w (Ret fun r w' => OwnB base (l ++ uv n.toNat) r w' ∧ Grew w w' v r) := by
  refine enter (vs := [v, U64 n]) Tryz.func78 rfl rfl rfl ?_
  refine c_seq (c_region (o_assign rfl rfl (o_nil (n_then (c_seq (c_block ?_))))))
  refine c_loop (α := Value × UInt64 × List UInt8) (fun x => [(0, x.1), (1, U64 x.2.1)]) (fun x w' => OwnB base x.2.2 x.1 w' ∧ Grew w w' v x.1 ∧ x.2.2 ++ uv x.2.1.toNat = l ++ uv n.toNat) (fun x => x.2.1.toNat) (v, n, l) ⟨rfl, rfl, trivial⟩ ⟨hv, Grew.of_ext (Ext.refl w) (.inl rfl), rfl⟩ ?_
  rintro ⟨b, m, done⟩ w1 ⟨hb, hg, he⟩
  dsimp only at hb hg he
  have hdl : done.length ≤ l.length + 10 := by
    have := congrArg List.length he
    simp only [List.length_append] at this
    have := uv_len (n := n.toNat) n.toNat_lt
    omega
  have hb1 : base ≤ w1.heap.size := Nat.le_trans hbase hg.grown.size
  refine c_seq (c_seq (c_region (o_move rfl rfl ?_)))
  refine o_bin (v := U64 128) rfl rfl rfl (r_geq_u64) ?_
  refine o_nil (n_then ?_)
  refine c_if rfl (fun h => ?_) (fun h => ?_)
  · have h' : 128 ≤ m.toNat := by simpa [UInt64.le_iff_toNat_le] using h
    refine c_skip (n_then (c_seq (c_block (c_region (o_move rfl rfl (o_move rfl rfl ?_))))))
    refine o_conv rfl rfl (r_u64_u8 Tryz.underlying64 Tryz.underlying5) ?_
    refine o_bin (v := U8 128) rfl rfl rfl (r_or_u8) ?_
    obtain ⟨r2, w2, hr2, hx2, ho2, _⟩ := r_bsB (w := w1) w1.heap.size [m.toUInt8 ||| 128] (by simp) (Nat.le_refl _)
    refine o_buildSlice rfl rfl hr2 ?_
    obtain ⟨r3, w3, hr3, ho3, hg3⟩ := r_appB (ty := 28) (hb.ext hx2) ho2.bts (by simp; omega) (Nat.le_trans hb1 hx2.size)
    refine o_append rfl rfl hr3 ?_
    refine o_assign rfl rfl (o_nil (n_block (n_then (c_region (o_move rfl rfl ?_)))))
    refine o_bin rfl rfl rfl (r_shr_u64 7 (by omega)) ?_
    refine o_assign rfl rfl (o_nil ?_)
    refine n_round (r3, m >>> UInt64.ofNat 7, done ++ [m.toUInt8 ||| 128]) ⟨rfl, rfl, trivial⟩ ⟨ho3, hg.trans (Grew.before hx2 hg3), ?_⟩ ?_
    · show done ++ [m.toUInt8 ||| 128] ++ uv (m >>> UInt64.ofNat 7).toNat = _
      rw [← he, uv_big h', high_byte, shr7]; simp
    · show (m >>> UInt64.ofNat 7).toNat < m.toNat
      rw [shr7]; omega
  · have h' : m.toNat < 128 := by
      have : ¬ (128 ≤ m.toNat) := fun hh => h (by show (128 : UInt64) ≤ m; rw [UInt64.le_iff_toNat_le]; exact hh)
      omega
    refine c_exit (x_then (x_then (x_here (n_then (c_seq (c_region (o_move rfl rfl (o_move rfl rfl ?_))))))))
    refine o_conv rfl rfl (r_u64_u8 Tryz.underlying64 Tryz.underlying5) ?_
    obtain ⟨r2, w2, hr2, hx2, ho2, _⟩ := r_bsB (w := w1) w1.heap.size [m.toUInt8] (by simp) (Nat.le_refl _)
    refine o_buildSlice rfl rfl hr2 ?_
    obtain ⟨r3, w3, hr3, ho3, hg3⟩ := r_appB (ty := 28) (hb.ext hx2) ho2.bts (by simp; omega) (Nat.le_trans hb1 hx2.size)
    refine o_append rfl rfl hr3 ?_
    refine o_assign rfl rfl (o_nil (n_then (c_ret ?_)))
    refine r_body1 rfl rfl ?_
    refine ⟨_, rfl, ?_, hg.trans (Grew.before hx2 hg3)⟩
    rw [← he, uv_small h', ← low_byte]
    exact ho3

theorem AppendUint_spec {w : World} {l : List UInt8} {v : Value} {n : UInt64} (hv : Bts l v w) (hl : l.length ≤ 70368744177664) :
    Calls Tryz.prog 43 #[v, U64 n] w (Ret fun r w' => Ext w w' ∧ OwnB w.heap.size (l ++ uv n.toNat) r w') := by
  refine enter (vs := [v, U64 n]) Tryz.func43 rfl rfl rfl ?_
  refine c_seq (c_region (o_assign rfl rfl (o_nil (n_then (c_seq (c_region (o_move rfl rfl ?_)))))))  -- 0 t4 1 t5
  refine o_call call_Clone rfl rfl (Clone_spec hv (by omega)) ?_
  rintro r1 w1 ⟨hx1, ho1⟩
  refine o_move rfl rfl ?_
  refine o_call call_uvarint rfl rfl (uvarint_spec ho1 hl hx1.size) ?_
  rintro r2 w2 ⟨ho2, hg2⟩
  refine o_assign rfl rfl (o_nil (n_then (c_ret ?_)))
  refine r_body1 rfl rfl ?_
  exact ⟨_, rfl, hx1.of_grew hg2 ho1.ge, ho2⟩

theorem AppendInt_spec {w : World} {l : List UInt8} {v : Value} {n : Int} (hv : Bts l v w) (hl : l.length ≤ 70368744177664) (h1 : -9223372036854775808 ≤ n) (h2 : n ≤ 9223372036854775807) :
    Calls Tryz.prog 44 #[v, I n] w (Ret fun r w' => Ext w w' ∧ OwnB w.heap.size (l ++ uv (zig n)) r w') := by
  refine enter (vs := [v, I n]) Tryz.func44 rfl rfl rfl ?_
  refine c_seq (c_region (o_assign rfl rfl (o_nil (n_then (c_seq (c_region (o_move rfl rfl ?_)))))))
  refine o_call call_Clone rfl rfl (Clone_spec hv (by omega)) ?_
  rintro r1 w1 ⟨hx1, ho1⟩
  refine o_move rfl rfl ?_
  refine o_conv rfl rfl (r_i_u64 Tryz.underlying3 Tryz.underlying64) ?_
  refine o_bin rfl rfl rfl (r_shl_u64 1 (by omega)) ?_
  refine o_move rfl rfl ?_
  refine o_bin rfl rfl rfl (r_shr_i 63 (by omega)) ?_
  refine o_conv rfl rfl (r_i_u64 Tryz.underlying3 Tryz.underlying64) ?_
  refine o_bin rfl rfl rfl (r_xor_u64) ?_
  refine o_call call_uvarint rfl rfl (uvarint_spec ho1 hl hx1.size) ?_
  rintro r2 w2 ⟨ho2, hg2⟩
  refine o_assign rfl rfl (o_nil (n_then (c_ret ?_)))
  refine r_body1 rfl rfl ?_
  rw [zig_prog h1 h2] at ho2
  exact ⟨_, rfl, hx1.of_grew hg2 ho1.ge, ho2⟩

theorem rAppendUint_spec {w : World} {l : List UInt8} {v : Value} {n : UInt64} (hv : Bts l v w) (hl : l.length ≤ 70368744177664) :
    Calls Tryz.prog 49 #[v, U64 n] w (Ret fun r w' => Ext w w' ∧ OwnB w.heap.size (l ++ uv n.toNat) r w') := by
  refine enter (vs := [v, U64 n]) Tryz.func49 rfl rfl rfl ?_
  refine c_seq (c_region (o_assign rfl rfl (o_nil (n_then (c_seq (c_region ?_))))))
  obtain ⟨r0, w0, hr0, hx0, ho0, _⟩ := r_bsB (w := w) w.heap.size [] (by simp) (Nat.le_refl _)
  refine o_buildSlice rfl rfl hr0 ?_
  refine o_move rfl rfl ?_
  obtain ⟨r1, w1, hr1, ho1, hg1⟩ := r_appB (ty := 28) ho0 (hv.ext hx0) (by simp; omega) hx0.size
  refine o_append rfl rfl hr1 ?_
  have hx1 : Ext w w1 := hx0.of_grew hg1 ho0.ge
  refine o_assign rfl rfl (o_nil (n_then (c_seq (c_block ?_))))
  refine c_loop (α := Value × UInt64 × List UInt8) (fun x => [(5, x.1), (1, U64 x.2.1)]) (fun x w' => OwnB w.heap.size x.2.2 x.1 w' ∧ Ext w w' ∧ x.2.2 ++ uv x.2.1.toNat = l ++ uv n.toNat) (fun x => x.2.1.toNat) (r1, n, l) ⟨rfl, rfl, trivial⟩ ⟨ho1, hx1, rfl⟩ ?_
  rintro ⟨b, m, done⟩ w2 ⟨hb, hx2, he⟩
  dsimp only at hb hx2 he
  have hdl : done.length ≤ l.length + 10 := by
    have := congrArg List.length he
    simp only [List.length_append] at this
    have := uv_len (n := n.toNat) n.toNat_lt
    omega
  refine c_seq (c_seq (c_region (o_move rfl rfl ?_)))
  refine o_bin (v := U64 128) rfl rfl rfl (r_geq_u64) ?_
  refine o_nil (n_then ?_)
  refine c_if rfl (fun h => ?_) (fun h => ?_)
  · have h' : 128 ≤ m.toNat := by simpa [UInt64.le_iff_toNat_le] using h
    refine c_skip (n_then (c_block (c_seq (c_region (o_move rfl rfl (o_move rfl rfl ?_))))))
    refine o_bin (v := U64 128) rfl rfl rfl (r_rem_u64 (by decide)) ?_
    refine o_bin (v := U64 128) rfl rfl rfl (r_add_u64) ?_
    refine o_conv rfl rfl (r_u64_u8 Tryz.underlying64 Tryz.underlying5) ?_
    obtain ⟨r3, w3, hr3, hx3, ho3, _⟩ := r_bsB (w := w2) w2.heap.size [(m % 128 + 128).toUInt8] (by simp) (Nat.le_refl _)
    refine o_buildSlice rfl rfl hr3 ?_
    obtain ⟨r4, w4, hr4, ho4, hg4⟩ := r_appB (ty := 28) (hb.ext hx3) ho3.bts (by simp; omega) (Nat.le_trans hx2.size hx3.size)
    refine o_append rfl rfl hr4 ?_
    refine o_assign rfl rfl (o_nil (n_then (c_region (o_move rfl rfl ?_))))
    refine o_bin (v := U64 128) rfl rfl rfl (r_quo_u64 (by decide)) ?_
    refine o_assign rfl rfl (o_nil (n_block ?_))
    have hm : (m / 128).toNat = m.toNat / 128 := by rw [UInt64.toNat_div]; rfl
    refine n_round (r4, m / 128, done ++ [(m % 128 + 128).toUInt8]) ⟨rfl, rfl, trivial⟩ ⟨ho4, (hx2.trans hx3).of_grew hg4 hb.ge, ?_⟩ ?_
    · show done ++ [(m % 128 + 128).toUInt8] ++ uv (m / 128).toNat = _
      rw [← he, uv_big h', hm, mod_byte]; simp
    · show (m / 128).toNat < m.toNat
      rw [hm]; omega
  · have h' : m.toNat < 128 := by
      have : ¬ (128 ≤ m.toNat) := fun hh => h (by show (128 : UInt64) ≤ m; rw [UInt64.le_iff_toNat_le]; exact hh)
      omega
    refine c_exit (x_then (x_then (x_here (n_then (c_seq (c_region (o_move rfl rfl (o_move rfl rfl ?_))))))))
    refine o_conv rfl rfl (r_u64_u8 Tryz.underlying64 Tryz.underlying5) ?_
    obtain ⟨r3, w3, hr3, hx3, ho3, _⟩ := r_bsB (w := w2) w2.heap.size [m.toUInt8] (by simp) (Nat.le_refl _)
    refine o_buildSlice rfl rfl hr3 ?_
    obtain ⟨r4, w4, hr4, ho4, hg4⟩ := r_appB (ty := 28) (hb.ext hx3) ho3.bts (by simp; omega) (Nat.le_trans hx2.size hx3.size)
    refine o_append rfl rfl hr4 ?_
    refine o_assign rfl rfl (o_nil (n_then (c_ret ?_)))
    refine r_body1 rfl rfl ?_
    refine ⟨_, rfl, (hx2.trans hx3).of_grew hg4 hb.ge, ?_⟩
    rw [← he, uv_small h', ← low_byte]
    exact ho4

theorem rAppendInt_spec {w : World} {l : List UInt8} {v : Value} {n : Int} (hv : Bts l v w) (hl : l.length ≤ 70368744177664) (h1 : -9223372036854775808 ≤ n) (h2 : n ≤ 9223372036854775807) :
    Calls Tryz.prog 50 #[v, I n] w (Ret fun r w' => Ext w w' ∧ OwnB w.heap.size (l ++ uv (zig n)) r w') := by
  refine enter (vs := [v, I n]) Tryz.func50 rfl rfl rfl ?_
  refine c_seq (c_region (o_assign rfl rfl (o_nil (n_then (c_seq (c_seq (c_region (o_move rfl rfl ?_))))))))
  refine o_bin rfl rfl rfl (r_geq_i) ?_
  refine o_nil (n_then ?_)
  refine c_if rfl (fun h => ?_) (fun h => ?_)
  · refine c_seq (c_region (o_move rfl rfl (o_move rfl rfl ?_)))
    refine o_conv rfl rfl (r_i_u64 Tryz.underlying3 Tryz.underlying64) ?_
    refine o_bin (u := U64 2) rfl rfl rfl (r_mul_u64) ?_
    refine o_call call_rAppendUint rfl rfl (rAppendUint_spec hv hl) ?_
    rintro r3 w3 ⟨hx3, ho3⟩
    refine o_assign rfl rfl (o_nil (n_then (c_ret (r_then ?_))))
    refine r_body1 rfl rfl ?_
    rw [zig_ref_pos h h2] at ho3
    exact ⟨_, rfl, hx3, ho3⟩
  · refine c_skip (n_then (c_seq (c_region (o_move rfl rfl (o_move rfl rfl ?_)))))
    refine o_bin rfl rfl rfl (r_add_i (by omega) (by omega)) ?_
    refine o_not rfl rfl (r_neg_i (by omega) (by omega)) ?_
    refine o_conv rfl rfl (r_i_u64 Tryz.underlying3 Tryz.underlying64) ?_
    refine o_bin (u := U64 2) rfl rfl rfl (r_mul_u64) ?_
    refine o_bin (v := U64 1) rfl rfl rfl (r_add_u64) ?_
    refine o_call call_rAppendUint rfl rfl (rAppendUint_spec hv hl) ?_
    rintro r3 w3 ⟨hx3, ho3⟩
    refine o_assign rfl rfl (o_nil (n_then (c_ret ?_)))
    refine r_body1 rfl rfl ?_
    rw [zig_ref_neg h1 (by omega)] at ho3
    exact ⟨_, rfl, hx3, ho3⟩
end Go.Rl
/- Walks of the reader of package wire. Conditions: the reader is not nil. -/
namespace Go.Rl
open Go.RowKit Go.Proofs

theorem call_New : Callable Tryz.prog 29 := ⟨_, Tryz.func29, by kernel_rfl, rfl⟩
theorem call_take : Callable Tryz.prog 101 := ⟨_, Tryz.func101, by kernel_rfl, rfl⟩
theorem call_fail : Callable Tryz.prog 100 := ⟨_, Tryz.func100, by kernel_rfl, rfl⟩
theorem call_ruvarint : Callable Tryz.prog 99 := ⟨_, Tryz.func99, by kernel_rfl, rfl⟩
theorem call_Uint : Callable Tryz.prog 82 := ⟨_, Tryz.func82, by kernel_rfl, rfl⟩

theorem zero_Reader : (Tryz.prog.info? 90).map (·.zero) = some (some (.agg #[.slice none 0 0, .bool false])) := by kernel_rfl
theorem size_bytes : (Tryz.prog.info? 28).map (·.size) = some 1 := by kernel_rfl
theorem size_bool : (Tryz.prog.info? 4).map (·.size) = some 1 := by kernel_rfl

/-- The bytes lie in a block that is older than the reader's. -/
def LocB (A : Option Addr) (g : Nat) : Prop := ∀ ad, A = some ad → ad.block < g
theorem LocB.none (g : Nat) : LocB none g := fun _ h => by cases h
theorem sliceAt_loc {A : Option Addr} {n c : Nat} {lo hi mx : Option Value} {r : Value} {w w' : World} (hrun : (Instr.sliceAt 28 (.slice A n c) lo hi mx).run Tryz.prog w = .ok r w') : ∃ A' n' c', r = .slice A' n' c' ∧ ∀ g, LocB A g → LocB A' g := by
  simp only [Instr.sliceAt, Instr.slice, Sem.run_bind, run_underlying Tryz.underlying28, Result.andThen_ok] at hrun
  cases hb : (Instr.sliceBounds true n c lo hi mx).run Tryz.prog w with
  | halt x w1 => rw [hb] at hrun; simp [Result.andThen] at hrun
  | ok p w1 =>
    obtain ⟨l, h, m⟩ := p
    rw [hb] at hrun
    simp only [Result.andThen_ok, r_sizeOf size_u8] at hrun
    simp at hrun
    obtain ⟨rfl, rfl⟩ := hrun
    refine ⟨_, _, _, rfl, fun g hg => ?_⟩
    split
    · exact hg
    · intro ad had
      cases A with
      | none => cases had
      | some a0 =>
        obtain rfl := Option.some.inj had
        show (a0.add _).block < g
        rw [add_block]
        exact hg a0 rfl
theorem loc_of {A : Option Addr} {n c g : Nat} {lo hi mx : Option Value} {r : Value} {w w' : World} (hrun : (Instr.sliceAt 28 (.slice A n c) lo hi mx).run Tryz.prog w = .ok r w') (h : LocB A g) : ∀ A n c, r = .slice A n c → LocB A g := fun _ _ _ e => by
  obtain ⟨A', n', c', h1, h2⟩ := sliceAt_loc hrun
  rw [h1] at e
  cases e
  exact h2 g h
/-- The reader at block g: none: it has failed; some l: these bytes are left. -/
def RdAt (g : Nat) (st : Option (List UInt8)) (w : World) : Prop :=
  ∃ A n c, w.heap[g]? = some (.cells #[.slice A n c, .bool st.isNone] 90 (0, 0)) ∧ Bts (st.getD []) (.slice A n c) w ∧ LocB A g

theorem RdAt.ext {g : Nat} {st : Option (List UInt8)} {w w' : World} (h : RdAt g st w) (hx : Ext w w') : RdAt g st w' := by
  obtain ⟨A, n, c, h1, h2, h3⟩ := h
  exact ⟨A, n, c, hx.heap_some h1, h2.ext hx, h3⟩
theorem rd_noByte (A : Option Addr) (n c : Nat) (b : Bool) (l : List UInt8) : ∀ (j : Nat) (u : Value), u ∈ l.map U8 → (#[.slice A n c, .bool b] : Array Value)[j]? ≠ some u := by
  intro j u hu
  obtain ⟨x, _, rfl⟩ := List.mem_map.1 hu
  match j with
  | 0 => simp [U8]
  | 1 => simp [U8]
  | j + 2 => simp
/-- Bytes stay what they are when a reader moves on. -/
theorem Bts.reader {l : List UInt8} {v : Value} {g : Nat} {st : Option (List UInt8)} {w w' : World} (h : Bts l v w) (hr : RdAt g st w) (hw : w.grownBy w' (some g)) : Bts l v w' := by
  obtain ⟨A, n, c, h1, _⟩ := hr
  exact Sl.keep h h1 (rd_noByte A n c _ l) hw

section
variable {w : World} {g : Nat} {l : List UInt8}
theorem grownBy_of_ext {w' : World} {row : Option Nat} (h : Ext w w') : w.grownBy w' row := ⟨h.os, h.tape, h.output, h.size, fun _ hi _ => h.heap hi⟩
theorem grownBy_refl (w : World) (row : Option Nat) : w.grownBy w row := World.grownBy.refl w row

theorem New_spec {v : Value} (hv : Bts l v w) (hl : l.length ≤ 140737488355328) :
    Calls Tryz.prog 29 #[v] w (Ret fun r w' => Ext w w' ∧ ∃ g, w.heap.size ≤ g ∧ r = .pointer (some ⟨g, 0, none⟩) ∧ RdAt g (some l) w') := by
  refine enter (vs := [v]) Tryz.func29 rfl rfl rfl ?_
  refine c_seq (c_region (o_assign rfl rfl (o_nil (n_then (c_seq (c_region (o_move rfl rfl ?_)))))))
  refine o_call call_Clone rfl rfl (Clone_spec hv hl) ?_
  rintro r1 w1 ⟨hx1, ho1⟩
  obtain ⟨A, n, c, rfl, _⟩ := id ho1.bts
  refine o_build rfl rfl (r := .agg #[.slice A n c, .bool false]) (by simp [Instr.build, run_underlying Tryz.underlying90, r_zero zero_Reader, r_sizeOf size_bytes, r_sizeOf size_bool, Instr.fill, Value.cells]) ?_
  refine o_box rfl rfl r_box ?_
  refine o_assign rfl rfl (o_nil (n_then (c_ret ?_)))
  refine r_body1 rfl rfl ?_
  exact ⟨_, rfl, hx1.trans (Ext.new _ _), w1.heap.size, hx1.size, rfl, A, n, c, heap_alloc_new _ _, ho1.bts.ext (Ext.new _ _), fun ad had => ho1.elim fun _ h => (World.ownsRow.lt h ad.block (by rw [had]; rfl)).2⟩

theorem fail_spec {st : Option (List UInt8)} (hr : RdAt g st w) :
    Calls Tryz.prog 100 #[.pointer (some ⟨g, 0, none⟩)] w (Ret fun r w' => r = I 5 ∧ RdAt g none w' ∧ w.grownBy w' (some g)) := by
  obtain ⟨A, n, c, h1, _⟩ := hr
  refine enter (vs := [.pointer (some ⟨g, 0, none⟩)]) Tryz.func100 rfl rfl rfl ?_
  refine c_seq (c_region (o_assign rfl rfl (o_nil (n_then (c_seq (c_region (o_move rfl rfl (o_move rfl rfl ?_))))))))
  refine o_nilCheck rfl rfl ?_
  refine o_fieldAddr rfl rfl (r_fieldAt Tryz.underlying90 rfl size_bytes (by omega)) ?_
  refine o_store rfl rfl (r_store1 size_bytes rfl h1 (by simp)) ?_
  refine o_nilCheck rfl rfl ?_
  refine o_fieldAddr rfl rfl (r_fieldAt Tryz.underlying90 rfl size_bool (by omega)) ?_
  have h2 := heap_set h1 0 (.slice none 0 0)
  refine o_store rfl rfl (r_store1 (i := 1) size_bool rfl h2 (by simp)) ?_
  have h3 := heap_set h2 1 (.bool true)
  refine o_nil (n_then (c_seq (c_region (o_assign rfl rfl (o_nil (n_then (c_ret ?_)))))))
  refine r_body1 rfl rfl ?_
  exact ⟨_, rfl, rfl, ⟨none, 0, 0, h3, Bts.nil _, LocB.none g⟩, (grownBy_setCell w g 0 _).trans (grownBy_setCell _ g 1 _)⟩

theorem take_failed {n : UInt64} (hr : RdAt g none w) :
    Calls Tryz.prog 101 #[.pointer (some ⟨g, 0, none⟩), U64 n] w (Ret fun r w' => r = .tuple #[.slice none 0 0, B false] ∧ w' = w) := by
  obtain ⟨A, m, c, h1, _⟩ := hr
  refine enter (vs := [.pointer (some ⟨g, 0, none⟩), U64 n]) Tryz.func101 rfl rfl rfl ?_
  refine c_seq (c_region (o_assign rfl rfl (o_assign rfl rfl (o_nil (n_then (c_seq (c_seq (c_region (o_move rfl rfl ?_)))))))))
  refine o_nilCheck rfl rfl ?_
  refine o_fieldAddr rfl rfl (r_fieldAt Tryz.underlying90 rfl size_bool (by omega)) ?_
  refine o_load rfl rfl (r_load1 Tryz.underlying4 rfl (cellAt (i := 1) h1 rfl)) ?_
  refine o_move rfl rfl ?_
  refine g_no rfl rfl rfl ?_
  refine g_no rfl rfl rfl ?_
  refine g_no rfl rfl rfl ?_
  refine g_no rfl rfl rfl ?_
  refine g_no rfl rfl rfl ?_
  refine g_no rfl rfl rfl ?_
  refine g_no rfl rfl rfl ?_
  refine g_no rfl rfl rfl ?_
  refine o_pick_t rfl rfl rfl ?_
  refine o_nil (n_then ?_)
  refine c_yes rfl ?_
  refine c_seq (c_region (o_assign rfl rfl (o_assign rfl rfl (o_nil (n_then (c_ret (r_then ?_)))))))
  refine r_body2 rfl rfl rfl ?_
  exact ⟨_, rfl, rfl, rfl⟩

theorem u64_len (h : l.length ≤ 9223372036854775807) : (UInt64.ofNat l.length).toNat = l.length := by rw [UInt64.toNat_ofNat']; omega

theorem take_no {n : UInt64} (hr : RdAt g (some l) w) (hn : l.length < n.toNat) :
    Calls Tryz.prog 101 #[.pointer (some ⟨g, 0, none⟩), U64 n] w (Ret fun r w' => r = .tuple #[.slice none 0 0, B false] ∧ w' = w) := by
  obtain ⟨A, m, c, h1, h2, _⟩ := hr
  have h2' : Bts l (.slice A m c) w := h2
  refine enter (vs := [.pointer (some ⟨g, 0, none⟩), U64 n]) Tryz.func101 rfl rfl rfl ?_
  refine c_seq (c_region (o_assign rfl rfl (o_assign rfl rfl (o_nil (n_then (c_seq (c_seq (c_region (o_move rfl rfl ?_)))))))))
  refine o_nilCheck rfl rfl ?_
  refine o_fieldAddr rfl rfl (r_fieldAt Tryz.underlying90 rfl size_bool (by omega)) ?_
  refine o_load rfl rfl (r_load1 Tryz.underlying4 rfl (cellAt (i := 1) h1 rfl)) ?_
  refine o_move rfl rfl ?_
  refine g_yes rfl (o_move rfl rfl (g_yes rfl (o_move rfl rfl ?_)))
  refine g_yes rfl (o_nilCheck rfl rfl ?_)
  refine g_yes rfl (o_fieldAddr rfl rfl (r_fieldAt Tryz.underlying90 rfl size_bytes (by omega)) ?_)
  refine g_yes rfl (o_load rfl rfl (r_load1 Tryz.underlying28 rfl (cellAt (i := 0) h1 rfl)) ?_)
  refine g_yes rfl (o_len rfl rfl (r_lenB h2') ?_)
  refine g_yes rfl (o_conv rfl rfl (r_n_u64 Tryz.underlying3 Tryz.underlying64) ?_)
  refine g_yes rfl (o_bin rfl rfl rfl (dec_t (by show _ < n; rw [UInt64.lt_iff_toNat_lt, u64_len h2'.len]; exact hn) r_gtr_u64) ?_)
  refine o_pick_f rfl rfl rfl ?_
  refine o_nil (n_then ?_)
  refine c_yes rfl ?_
  refine c_seq (c_region (o_assign rfl rfl (o_assign rfl rfl (o_nil (n_then (c_ret (r_then ?_)))))))
  refine r_body2 rfl rfl rfl ?_
  exact ⟨_, rfl, rfl, rfl⟩

theorem take_yes {n : UInt64} (hr : RdAt g (some l) w) (hn : n.toNat ≤ l.length) :
    Calls Tryz.prog 101 #[.pointer (some ⟨g, 0, none⟩), U64 n] w
      (Ret fun r w' => ∃ b, r = .tuple #[b, B true] ∧ Bts (l.take n.toNat) b w' ∧ RdAt g (some (l.drop n.toNat)) w' ∧ w.grownBy w' (some g)) := by
  obtain ⟨A, m, c, h1, h2, h4⟩ := hr
  have h2' : Bts l (.slice A m c) w := h2
  refine enter (vs := [.pointer (some ⟨g, 0, none⟩), U64 n]) Tryz.func101 rfl rfl rfl ?_
  refine c_seq (c_region (o_assign rfl rfl (o_assign rfl rfl (o_nil (n_then (c_seq (c_seq (c_region (o_move rfl rfl ?_)))))))))
  refine o_nilCheck rfl rfl ?_
  refine o_fieldAddr rfl rfl (r_fieldAt Tryz.underlying90 rfl size_bool (by omega)) ?_
  refine o_load rfl rfl (r_load1 Tryz.underlying4 rfl (cellAt (i := 1) h1 rfl)) ?_
  refine o_move rfl rfl ?_
  refine g_yes rfl (o_move rfl rfl (g_yes rfl (o_move rfl rfl ?_)))
  refine g_yes rfl (o_nilCheck rfl rfl ?_)
  refine g_yes rfl (o_fieldAddr rfl rfl (r_fieldAt Tryz.underlying90 rfl size_bytes (by omega)) ?_)
  refine g_yes rfl (o_load rfl rfl (r_load1 Tryz.underlying28 rfl (cellAt (i := 0) h1 rfl)) ?_)
  refine g_yes rfl (o_len rfl rfl (r_lenB h2') ?_)
  refine g_yes rfl (o_conv rfl rfl (r_n_u64 Tryz.underlying3 Tryz.underlying64) ?_)
  refine g_yes rfl (o_bin rfl rfl rfl (dec_f (by show ¬ _ < n; rw [UInt64.lt_iff_toNat_lt, u64_len h2'.len]; omega) r_gtr_u64) ?_)
  refine o_pick_f rfl rfl rfl ?_
  refine o_nil (n_then ?_)
  refine c_no rfl ?_
  refine c_skip (n_then (c_seq (c_region (o_move rfl rfl ?_))))
  refine o_nilCheck rfl rfl ?_
  refine o_fieldAddr rfl rfl (r_fieldAt Tryz.underlying90 rfl size_bytes (by omega)) ?_
  refine o_load rfl rfl (r_load1 Tryz.underlying28 rfl (cellAt (i := 0) h1 rfl)) ?_
  refine o_move rfl rfl ?_
  obtain ⟨b, hb, hb2⟩ := r_slB_hi h2' hn .u64
  refine o_slice (b := some (U64 n)) rfl rfl rfl rfl rfl (hb _) ?_
  refine o_assign rfl rfl (o_nil (n_then (c_seq (c_region (o_move rfl rfl (o_move rfl rfl ?_))))))
  refine o_nilCheck rfl rfl ?_
  refine o_fieldAddr rfl rfl (r_fieldAt Tryz.underlying90 rfl size_bytes (by omega)) ?_
  refine o_load rfl rfl (r_load1 Tryz.underlying28 rfl (cellAt (i := 0) h1 rfl)) ?_
  refine o_move rfl rfl ?_
  obtain ⟨r, hr, hr2⟩ := r_slB_lo h2' hn .u64
  refine o_slice (a := some (U64 n)) rfl rfl rfl rfl rfl (hr _) ?_
  refine o_nilCheck rfl rfl ?_
  refine o_fieldAddr rfl rfl (r_fieldAt Tryz.underlying90 rfl size_bytes (by omega)) ?_
  obtain ⟨A', m', c', rfl, h5⟩ := sliceAt_loc (hr w)
  refine o_store rfl rfl (r_store1 (i := 0) size_bytes rfl h1 (by simp)) ?_
  have h3 := heap_set h1 0 (.slice A' m' c')
  have hg := grownBy_setCell w g 0 (.slice A' m' c')
  refine o_nil (n_then (c_seq (c_region (o_move rfl rfl (o_assign rfl rfl (o_assign rfl rfl (o_nil (n_then (c_ret ?_)))))))))
  refine r_body2 rfl rfl rfl ?_
  have hrd : RdAt g (some l) w := ⟨A, m, c, h1, h2, h4⟩
  exact ⟨_, rfl, b, rfl, hb2.reader hrd hg, ⟨A', m', c', h3, hr2.reader hrd hg, h5 g h4⟩, hg⟩

/-- What a reading of a number leaves. -/
def UvR (g : Nat) (w : World) (o : Option (Nat × List UInt8)) (r : Value) (w' : World) : Prop :=
  w.grownBy w' (some g) ∧ match o with
    | some (n, t) => r = .tuple #[U64 (UInt64.ofNat n), B true] ∧ RdAt g (some t) w'
    | none => r = .tuple #[U64 0, B false] ∧ ∃ l', RdAt g (some l') w'

theorem ruvarint_spec (hr : RdAt g (some l) w) :
    Calls Tryz.prog 99 #[.pointer (some ⟨g, 0, none⟩)] w (Ret (UvR g w (rdU l))) := by
  refine enter (vs := [.pointer (some ⟨g, 0, none⟩)]) Tryz.func99 rfl rfl rfl ?_
  refine c_seq (c_region (o_assign rfl rfl (o_assign rfl rfl (o_nil (n_then (c_seq (c_seq (c_region (o_assign rfl rfl (o_nil (n_then (c_block ?_))))))))))))
  refine c_loop (α := Nat × List UInt8 × UInt64) (fun x => [(0, .pointer (some ⟨g, 0, none⟩)), (4, I ((7 * x.1 : Nat) : Int)), (2, U64 x.2.2)])
    (fun x w' => RdAt g (some x.2.1) w' ∧ w.grownBy w' (some g) ∧ x.1 ≤ 9 ∧ x.2.2.toNat < 128 ^ x.1 ∧ rdU l = (rdUk (10 - x.1) x.1 x.2.1).map fun p => (p.1 + x.2.2.toNat, p.2)) (fun x => 10 - x.1)
    (0, l, 0) ⟨rfl, rfl, rfl, trivial⟩ ⟨hr, grownBy_refl _ _, by simp, by simp, by simp [rdU]⟩ ?_
  rintro ⟨k, rest, acc⟩ w1 ⟨hr1, hg1, hk, hacc, hrd⟩
  dsimp only at hr1 hg1 hk hacc hrd
  have hfuel : 10 - k = (9 - k) + 1 := by omega
  rw [hfuel] at hrd
  refine c_seq (c_seq (c_region (o_move rfl rfl ?_)))
  refine o_bin rfl rfl rfl (dec_t (by omega) r_lss_i) ?_
  refine o_nil (n_then ?_)
  refine c_yes rfl ?_
  refine c_skip (n_then (c_seq (c_block (c_seq (c_region (o_move rfl rfl ?_))))))
  cases rest with
  | nil =>
    refine o_call (vs := [_, U64 1]) call_take rfl rfl (take_no hr1 (by decide)) ?_
    rintro r2 w2 ⟨rfl, rfl⟩
    refine o_move rfl rfl ?_
    refine o_extract rfl rfl (r_ext0) ?_
    refine o_extract rfl rfl (r_ext1) ?_
    refine o_assign rfl rfl (o_assign rfl rfl (o_nil (n_then (c_seq (c_seq (c_region (o_move rfl rfl ?_)))))))
    refine o_not rfl rfl (r_not) ?_
    refine o_nil (n_then ?_)
    refine c_yes rfl ?_
    refine c_seq (c_region (o_assign rfl rfl (o_assign rfl rfl (o_nil (n_then (c_ret (r_then (r_block (r_then (r_then (r_block (r_then ?_))))))))))))
    refine r_body2 rfl rfl rfl ?_
    refine ⟨_, rfl, hg1, ?_⟩
    rw [hrd, rdUk_nil]
    exact ⟨rfl, [], hr1⟩
  | cons c t =>
    refine o_call (vs := [_, U64 1]) call_take rfl rfl (take_yes hr1 (by simp)) ?_
    rintro r2 w2 ⟨b, rfl, hb, hr2, hg2⟩
    have hb' : Bts [c] b w2 := hb
    have hr2' : RdAt g (some t) w2 := hr2
    have hg := hg1.trans hg2
    refine o_move rfl rfl ?_
    refine o_extract rfl rfl (r_ext0) ?_
    refine o_extract rfl rfl (r_ext1) ?_
    refine o_assign rfl rfl (o_assign rfl rfl (o_nil (n_then (c_seq (c_seq (c_region (o_move rfl rfl ?_)))))))
    refine o_not rfl rfl (r_not) ?_
    refine o_nil (n_then ?_)
    refine c_no rfl ?_
    refine c_skip (n_then (c_seq (c_region (o_move rfl rfl ?_))))
    obtain ⟨ad, had, hcell⟩ := r_ixB hb' (i := 0) (by simp) .i64
    refine o_indexAddr rfl rfl rfl (had _) ?_
    refine o_load rfl rfl (r_ldB hcell) ?_
    refine o_assign rfl rfl (o_nil (n_then (c_seq (c_seq ?_))))
    refine c_cut (fun _ : Unit => [(0, .pointer (some ⟨g, 0, none⟩)), (4, I ((7 * k : Nat) : Int)), (2, U64 acc), (7, U8 c), (35, B (decide ((k = 9 ∧ 1 < c.toNat) ∨ (0 < k ∧ c.toNat = 0))))]) (fun _ w' => w' = w2) ?_ ?_
    · refine c_region (o_move rfl rfl ?_)
      have c1 : c > 1 ↔ 1 < c.toNat := by show 1 < c ↔ _; rw [UInt8.lt_iff_toNat_lt]; rfl
      have c0 : c = 0 ↔ c.toNat = 0 := by rw [← UInt8.toNat_inj]; rfl
      by_cases h9 : k = 9
      · refine o_bin rfl rfl rfl (dec_t (by omega) r_eql_i) ?_
        refine o_move rfl rfl (g_yes rfl (o_move rfl rfl ?_))
        by_cases hc1 : 1 < c.toNat
        · refine g_yes rfl (o_bin (v := U8 1) rfl rfl rfl (dec_t (c1.2 hc1) r_gtr_u8) ?_)
          refine o_pick_t rfl rfl rfl (o_move rfl rfl ?_)
          refine g_no rfl rfl rfl (g_no rfl rfl rfl (g_no rfl rfl rfl ?_))
          refine g_undef rfl rfl rfl (g_undef rfl rfl rfl (g_no rfl rfl rfl ?_))
          refine o_pick_t rfl rfl rfl (o_nil ?_)
          exact n_meet () ⟨rfl, rfl, rfl, rfl, by rw [decide_eq_true (Or.inl ⟨h9, hc1⟩)]; rfl, trivial⟩ rfl
        · refine g_yes rfl (o_bin (v := U8 1) rfl rfl rfl (dec_f (fun h => hc1 (c1.1 h)) r_gtr_u8) ?_)
          refine o_pick_t rfl rfl rfl (o_move rfl rfl ?_)
          refine g_yes rfl (o_move rfl rfl (g_yes rfl (o_bin rfl rfl rfl (dec_t (by omega) r_gtr_i) ?_)))
          refine g_yes rfl (o_move rfl rfl (g_yes rfl (o_move rfl rfl ?_)))
          refine g_yes rfl (o_bin (v := U8 0) rfl rfl rfl r_eql_u8 ?_)
          refine g_yes rfl (o_pick_t rfl rfl rfl ?_)
          refine o_pick_f rfl rfl rfl (o_nil ?_)
          refine n_meet () ⟨rfl, rfl, rfl, rfl, ?_, trivial⟩ rfl
          show some (B (decide (c = 0))) = _
          rw [decide_eq_decide.2 (show c = 0 ↔ ((k = 9 ∧ 1 < c.toNat) ∨ (0 < k ∧ c.toNat = 0)) from by rw [c0]; omega)]
      · refine o_bin rfl rfl rfl (dec_f (by omega) r_eql_i) ?_
        refine o_move rfl rfl (g_no rfl rfl rfl (g_no rfl rfl rfl ?_))
        refine o_pick_f rfl rfl rfl (o_move rfl rfl ?_)
        by_cases hk0 : 0 < k
        · refine g_yes rfl (o_move rfl rfl (g_yes rfl (o_bin rfl rfl rfl (dec_t (by omega) r_gtr_i) ?_)))
          refine g_yes rfl (o_move rfl rfl (g_yes rfl (o_move rfl rfl ?_)))
          refine g_yes rfl (o_bin (v := U8 0) rfl rfl rfl r_eql_u8 ?_)
          refine g_yes rfl (o_pick_t rfl rfl rfl ?_)
          refine o_pick_f rfl rfl rfl (o_nil ?_)
          refine n_meet () ⟨rfl, rfl, rfl, rfl, ?_, trivial⟩ rfl
          show some (B (decide (c = 0))) = _
          rw [decide_eq_decide.2 (show c = 0 ↔ ((k = 9 ∧ 1 < c.toNat) ∨ (0 < k ∧ c.toNat = 0)) from by rw [c0]; omega)]
        · refine g_yes rfl (o_move rfl rfl (g_yes rfl (o_bin rfl rfl rfl (dec_f (by omega) r_gtr_i) ?_)))
          refine g_yes rfl (o_move rfl rfl (g_no rfl rfl rfl (g_no rfl rfl rfl ?_)))
          refine g_yes rfl (o_pick_f rfl rfl rfl ?_)
          refine o_pick_f rfl rfl rfl (o_nil ?_)
          refine n_meet () ⟨rfl, rfl, rfl, rfl, ?_, trivial⟩ rfl
          show some (B false) = _
          rw [decide_eq_false (by omega)]
    · rintro _ w3 rfl
      refine n_then (c_if rfl (fun h => ?_) (fun h => ?_))
      · refine c_seq (c_region (o_assign rfl rfl (o_assign rfl rfl (o_nil (n_then (c_ret (r_then (r_block (r_then (r_then (r_block (r_then ?_))))))))))))
        refine r_body2 rfl rfl rfl ?_
        refine ⟨_, rfl, hg, ?_⟩
        rw [hrd]
        simp only [rdUk]
        rw [if_pos h]
        exact ⟨rfl, t, hr2'⟩
      · have hor := or_byte (acc := acc) (c := c) hacc hk (fun h9 => by
          have : ¬ 1 < c.toNat := fun hc => h (Or.inl ⟨h9, hc⟩)
          omega)
        refine c_skip (n_then (c_seq (c_region (o_move rfl rfl (o_move rfl rfl ?_)))))
        refine o_bin (v := U8 127) rfl rfl rfl (r_and_u8) ?_
        refine o_conv rfl rfl (r_u8_u64 Tryz.underlying5 Tryz.underlying64) ?_
        refine o_move rfl rfl ?_
        refine o_bin rfl rfl rfl (r_shl_u64 (7 * k) (by omega)) ?_
        refine o_bin rfl rfl rfl (r_or_u64) ?_
        refine o_assign rfl rfl (o_nil (n_then (c_seq (c_region (o_move rfl rfl ?_)))))
        refine o_bin (v := U8 128) rfl rfl rfl (r_lss_u8) ?_
        refine o_nil (n_then ?_)
        refine c_if rfl (fun h2 => ?_) (fun h2 => ?_)
        · have h2' : c.toNat < 128 := by rw [UInt8.lt_iff_toNat_lt] at h2; exact h2
          refine c_seq (c_region (o_move rfl rfl (o_assign rfl rfl (o_assign rfl rfl (o_nil (n_then (c_ret (r_block (r_then (r_then (r_block (r_then ?_))))))))))))
          refine r_body2 rfl rfl rfl ?_
          refine ⟨_, rfl, hg, ?_⟩
          rw [hrd]
          simp only [rdUk]
          rw [if_neg h, if_pos h2']
          refine ⟨?_, hr2'⟩
          rw [Nat.mod_eq_of_lt h2'] at hor
          have : UInt64.ofNat (c.toNat * 128 ^ k + acc.toNat) = acc ||| ((c &&& 127).toUInt64 <<< UInt64.ofNat (7 * k)) := by
            rw [Nat.add_comm, ← hor, UInt64.ofNat_toNat]
          rw [this]; rfl
        · have h2' : ¬ c.toNat < 128 := fun hc => h2 (by rw [UInt8.lt_iff_toNat_lt]; exact hc)
          have hk9 : k ≠ 9 := fun hk9 => h (Or.inl ⟨hk9, by omega⟩)
          refine c_skip (n_block (n_then (c_region (o_move rfl rfl ?_))))
          refine o_bin rfl rfl rfl (r_add_i (by omega) (by omega)) ?_
          refine o_assign rfl rfl (o_nil ?_)
          refine n_round (k + 1, t, acc ||| ((c &&& 127).toUInt64 <<< UInt64.ofNat (7 * k))) ⟨rfl, ?_, rfl, trivial⟩ ⟨hr2', hg, by show k + 1 ≤ 9; omega, ?_, ?_⟩ (by show 10 - (k + 1) < 10 - k; omega)
          · show some (I (((7 * k : Nat) : Int) + 7)) = some (I ((7 * (k + 1) : Nat) : Int))
            rw [show ((7 * k : Nat) : Int) + 7 = ((7 * (k + 1) : Nat) : Int) by omega]
          · show (acc ||| ((c &&& 127).toUInt64 <<< UInt64.ofNat (7 * k))).toNat < 128 ^ (k + 1)
            rw [hor, Nat.pow_succ]
            have : (c.toNat % 128) * 128 ^ k ≤ 127 * 128 ^ k := Nat.mul_le_mul_right _ (by omega)
            omega
          · show rdU l = (rdUk (10 - (k + 1)) (k + 1) t).map fun p => (p.1 + (acc ||| ((c &&& 127).toUInt64 <<< UInt64.ofNat (7 * k))).toNat, p.2)
            rw [hrd, hor]
            simp only [rdUk]
            rw [if_neg h, if_neg h2', Option.map_map]
            have : 10 - (k + 1) = 9 - k := by omega
            rw [this]
            have ef : ((fun p : Nat × List UInt8 => (p.1 + acc.toNat, p.2)) ∘ fun p : Nat × List UInt8 => (p.1 + c.toNat % 128 * 128 ^ k, p.2)) = fun p => (p.1 + (acc.toNat + c.toNat % 128 * 128 ^ k), p.2) := by
              funext p
              simp only [Function.comp, Prod.mk.injEq, and_true]
              omega
            rw [ef]

theorem ruvarint_failed (hr : RdAt g none w) :
    Calls Tryz.prog 99 #[.pointer (some ⟨g, 0, none⟩)] w (Ret fun r w' => r = .tuple #[U64 0, B false] ∧ w' = w) := by
  refine enter (vs := [.pointer (some ⟨g, 0, none⟩)]) Tryz.func99 rfl rfl rfl ?_
  refine c_seq (c_region (o_assign rfl rfl (o_assign rfl rfl (o_nil (n_then (c_seq (c_seq (c_region (o_assign rfl rfl (o_nil (n_then (c_block ?_))))))))))))
  refine c_loop (α := Unit) (fun _ => [(0, .pointer (some ⟨g, 0, none⟩)), (4, I 0), (2, U64 0)]) (fun _ w' => w' = w) (fun _ => 0) () ⟨rfl, rfl, rfl, trivial⟩ rfl ?_
  rintro _ w1 rfl
  refine c_seq (c_seq (c_region (o_move rfl rfl ?_)))
  refine o_bin rfl rfl rfl (dec_t (by omega) r_lss_i) ?_
  refine o_nil (n_then ?_)
  refine c_yes rfl ?_
  refine c_skip (n_then (c_seq (c_block (c_seq (c_region (o_move rfl rfl ?_))))))
  refine o_call (vs := [_, U64 1]) call_take rfl rfl (take_failed hr) ?_
  rintro r2 w2 ⟨rfl, rfl⟩
  refine o_move rfl rfl ?_
  refine o_extract rfl rfl (r_ext0) ?_
  refine o_extract rfl rfl (r_ext1) ?_
  refine o_assign rfl rfl (o_assign rfl rfl (o_nil (n_then (c_seq (c_seq (c_region (o_move rfl rfl ?_)))))))
  refine o_not rfl rfl (r_not) ?_
  refine o_nil (n_then ?_)
  refine c_yes rfl ?_
  refine c_seq (c_region (o_assign rfl rfl (o_assign rfl rfl (o_nil (n_then (c_ret (r_then (r_block (r_then (r_then (r_block (r_then ?_))))))))))))
  refine r_body2 rfl rfl rfl ?_
  exact ⟨_, rfl, rfl, rfl⟩

def UintR (g : Nat) (w : World) (o : Option (Nat × List UInt8)) (r : Value) (w' : World) : Prop :=
  w.grownBy w' (some g) ∧ match o with
    | some (n, t) => r = .tuple #[U64 (UInt64.ofNat n), I 0] ∧ RdAt g (some t) w'
    | none => r = .tuple #[U64 0, I 5] ∧ RdAt g none w'

theorem Uint_spec {st : Option (List UInt8)} (hr : RdAt g st w) :
    Calls Tryz.prog 82 #[.pointer (some ⟨g, 0, none⟩)] w (Ret (UintR g w (st.bind rdU))) := by
  refine enter (vs := [.pointer (some ⟨g, 0, none⟩)]) Tryz.func82 rfl rfl rfl ?_
  refine c_seq (c_region (o_assign rfl rfl (o_assign rfl rfl (o_nil (n_then (c_seq (c_seq (c_region (o_move rfl rfl ?_)))))))))
  refine o_bin rfl rfl rfl (r_eqnilp Tryz.underlying56) ?_
  refine o_nil (n_then ?_)
  refine c_no rfl ?_
  refine c_skip (n_then (c_seq (c_region (o_move rfl rfl ?_))))
  have hcase : Calls Tryz.prog 99 #[.pointer (some ⟨g, 0, none⟩)] w (Ret fun r w' => w.grownBy w' (some g) ∧ match st.bind rdU with
      | some (n, t) => r = .tuple #[U64 (UInt64.ofNat n), B true] ∧ RdAt g (some t) w'
      | none => r = .tuple #[U64 0, B false] ∧ ∃ l', RdAt g l' w') := by
    cases st with
    | none => exact (ruvarint_failed hr).mono fun e w' ⟨v, he, hv, hw⟩ => ⟨v, he, by subst hw; exact ⟨grownBy_refl _ _, hv, none, hr⟩⟩
    | some l =>
      refine (ruvarint_spec hr).mono fun e w' ⟨v, he, hg, hv⟩ => ⟨v, he, hg, ?_⟩
      show match rdU l with | some (n, t) => _ | none => _
      cases hrd : rdU l with
      | none => rw [hrd] at hv; exact ⟨hv.1, hv.2.imp' some fun _ h => h⟩
      | some p => rw [hrd] at hv; exact hv
  refine o_call call_ruvarint rfl rfl hcase ?_
  rintro r1 w1 ⟨hg1, h1⟩
  unfold UintR
  cases hrd : st.bind rdU with
  | some p =>
    obtain ⟨n, t⟩ := p
    rw [hrd] at h1
    obtain ⟨rfl, hr1⟩ := h1
    refine o_move rfl rfl ?_
    refine o_extract rfl rfl (r_ext0) ?_
    refine o_extract rfl rfl (r_ext1) ?_
    refine o_assign rfl rfl (o_assign rfl rfl (o_nil (n_then (c_seq (c_seq (c_region (o_move rfl rfl ?_)))))))
    refine o_not rfl rfl (r_not) ?_
    refine o_nil (n_then ?_)
    refine c_no rfl ?_
    refine c_skip (n_then (c_seq (c_region (o_move rfl rfl (o_assign rfl rfl (o_assign rfl rfl (o_nil (n_then (c_ret ?_)))))))))
    refine r_body2 rfl rfl rfl ?_
    exact ⟨_, rfl, hg1, rfl, hr1⟩
  | none =>
    rw [hrd] at h1
    obtain ⟨rfl, l', hr1⟩ := h1
    refine o_move rfl rfl ?_
    refine o_extract rfl rfl (r_ext0) ?_
    refine o_extract rfl rfl (r_ext1) ?_
    refine o_assign rfl rfl (o_assign rfl rfl (o_nil (n_then (c_seq (c_seq (c_region (o_move rfl rfl ?_)))))))
    refine o_not rfl rfl (r_not) ?_
    refine o_nil (n_then ?_)
    refine c_yes rfl ?_
    refine c_seq (c_region (o_move rfl rfl ?_))
    refine o_call call_fail rfl rfl (fail_spec hr1) ?_
    rintro r2 w2 ⟨rfl, hr2, hg2⟩
    refine o_assign rfl rfl (o_assign rfl rfl (o_nil (n_then (c_ret (r_then ?_)))))
    refine r_body2 rfl rfl rfl ?_
    exact ⟨_, rfl, hg1.trans hg2, rfl, hr2⟩
end
end Go.Rl
/- Walks of the functions that append limbs. Conditions: what is appended to is short. -/
namespace Go.Rl
open Go.RowKit Go.Proofs

theorem call_nat : Callable Tryz.prog 79 := ⟨_, Tryz.func79, by kernel_rfl, rfl⟩
theorem call_rAppendNat : Callable Tryz.prog 98 := ⟨_, Tryz.func98, by kernel_rfl, rfl⟩

/-- A limb, the least significant byte first. -/
def le4 (x : UInt32) : List UInt8 := [x.toUInt8, (x >>> UInt32.ofNat 8).toUInt8, (x >>> UInt32.ofNat 16).toUInt8, (x >>> UInt32.ofNat 24).toUInt8]
def le4s (l : List UInt32) : List UInt8 := l.flatMap le4
theorem le4s_snoc (l : List UInt32) (k : Nat) (h : k < l.length) : le4s (l.take (k + 1)) = le4s (l.take k) ++ le4 l[k] := by
  unfold le4s
  rw [List.take_succ_eq_append_getElem h, List.flatMap_append]
  simp
theorem le4s_len (l : List UInt32) : (le4s l).length = 4 * l.length := by
  induction l with
  | nil => rfl
  | cons x l ih =>
    have : le4s (x :: l) = le4 x ++ le4s l := by simp [le4s]
    rw [this, List.length_append, ih]
    simp [le4]; omega
def encN (l : List UInt32) : List UInt8 := uv l.length ++ le4s l
theorem encN_len (l : List UInt32) (h : l.length < 18446744073709551616) : (encN l).length ≤ 10 + 4 * l.length := by
  have := uv_len h
  simp only [encN, List.length_append, le4s_len]; omega

section
variable {w0 w : World} {l : List UInt8} {ns : List UInt32} {v nv : Value}

theorem nat_spec (hx : Ext w0 w) (hv : OwnB w0.heap.size l v w) (hn : Wds ns nv w0) (hl : l.length + 4 * ns.length ≤ 35184372088832) :
    Calls Tryz.prog 79 #[v, nv] w (Ret fun r w' => OwnB w0.heap.size (l ++ encN ns) r w' ∧ Ext w0 w' ∧ Grew w w' v r) := by
  refine enter (vs := [v, nv]) Tryz.func79 rfl rfl rfl ?_
  refine c_seq (c_region (o_assign rfl rfl (o_nil (n_then (c_seq (c_region (o_move rfl rfl (o_move rfl rfl ?_))))))))
  refine o_len rfl rfl (r_lenW Tryz.underlying40 (hn.ext hx)) ?_
  refine o_conv rfl rfl (r_n_u64 Tryz.underlying3 Tryz.underlying64) ?_
  refine o_call call_uvarint rfl rfl (uvarint_spec hv (by omega) hx.size) ?_
  rintro b1 w1 ⟨hb1, hg1⟩
  have hlen : (UInt64.ofNat ns.length).toNat = ns.length := by rw [UInt64.toNat_ofNat']; have := hn.len; omega
  rw [hlen] at hb1
  have hx1 : Ext w0 w1 := hx.of_grew hg1 hv.ge
  have huv := uv_len (n := ns.length) (by have := hn.len; omega)
  refine o_assign rfl rfl (o_nil (n_then (c_seq (c_seq (c_region (o_move rfl rfl ?_))))))
  refine o_len rfl rfl (r_lenW Tryz.underlying40 (hn.ext hx1)) ?_
  refine o_move rfl rfl (o_nil (n_then (c_block ?_)))
  refine c_loop (α := Nat × Value) (fun x => [(0, x.2), (12, nv), (13, I (ns.length : Int)), (14, I (x.1 : Int))])
    (fun x w' => OwnB w0.heap.size (l ++ uv ns.length ++ le4s (ns.take x.1)) x.2 w' ∧ Ext w0 w' ∧ Grew w w' v x.2 ∧ x.1 ≤ ns.length) (fun x => ns.length - x.1) (0, b1) ⟨rfl, rfl, rfl, rfl, trivial⟩
    ⟨by simpa [le4s] using hb1, hx1, hg1, by simp⟩ ?_
  rintro ⟨k, b⟩ w2 ⟨hb, hx2, hg2, hk⟩
  dsimp only at hb hx2 hg2 hk
  have hns := hn.len
  have hdl : (l ++ uv ns.length ++ le4s (ns.take k)).length ≤ 35184372088832 + 10 := by
    simp only [List.length_append, le4s_len, List.length_take]; omega
  refine c_seq (c_region ?_)
  refine o_bin rfl rfl rfl (r_lss_i) ?_
  refine o_nil (n_then (c_seq ?_))
  refine c_if rfl (fun h => ?_) (fun h => ?_)
  · have hlt : k < ns.length := by omega
    refine c_skip (n_then (c_seq (c_block (c_seq (c_region ?_)))))
    obtain ⟨ad, had, hcell⟩ := r_ixW Tryz.underlying40 (hn.ext hx2) hlt .i64
    refine o_indexAddr rfl rfl rfl (had _) ?_
    refine o_load rfl rfl (r_ldW hcell) ?_
    refine o_assign rfl rfl (o_nil (n_then (c_region (o_move rfl rfl (o_move rfl rfl ?_)))))
    refine o_conv rfl rfl (r_u32_u8 Tryz.underlying65 Tryz.underlying5) ?_
    refine o_move rfl rfl ?_
    refine o_bin rfl rfl rfl (r_shr_u32 8 (by omega)) ?_
    refine o_conv rfl rfl (r_u32_u8 Tryz.underlying65 Tryz.underlying5) ?_
    refine o_move rfl rfl ?_
    refine o_bin rfl rfl rfl (r_shr_u32 16 (by omega)) ?_
    refine o_conv rfl rfl (r_u32_u8 Tryz.underlying65 Tryz.underlying5) ?_
    refine o_move rfl rfl ?_
    refine o_bin rfl rfl rfl (r_shr_u32 24 (by omega)) ?_
    refine o_conv rfl rfl (r_u32_u8 Tryz.underlying65 Tryz.underlying5) ?_
    obtain ⟨r3, w3, hr3, hx3, ho3, _⟩ := r_bsB (w := w2) w2.heap.size (le4 ns[k]) (by simp [le4]) (Nat.le_refl _)
    refine o_buildSlice rfl rfl hr3 ?_
    obtain ⟨r4, w4, hr4, ho4, hg4⟩ := r_appB (ty := 28) (hb.ext hx3) ho3.bts (by simp only [le4, List.length_cons, List.length_nil]; omega) (Nat.le_trans hx2.size hx3.size)
    refine o_append rfl rfl hr4 ?_
    refine o_assign rfl rfl (o_nil (n_block (n_then (c_region ?_))))
    refine o_bin rfl rfl rfl (r_add_i (by omega) (by omega)) ?_
    refine o_move rfl rfl (o_nil ?_)
    refine n_round (k + 1, r4) ⟨rfl, rfl, rfl, rfl, trivial⟩ ⟨?_, (hx2.trans hx3).of_grew hg4 hb.ge, hg2.trans (Grew.before hx3 hg4), hlt⟩ (by show ns.length - (k + 1) < ns.length - k; omega)
    show OwnB _ (l ++ uv ns.length ++ le4s (ns.take (k + 1))) r4 w4
    rw [le4s_snoc ns k hlt, ← List.append_assoc]
    exact ho4
  · have hk' : k = ns.length := by omega
    refine c_exit (x_then (x_then (x_here (n_then (c_seq (c_region (o_move rfl rfl (o_assign rfl rfl (o_nil (n_then (c_ret ?_)))))))))))
    refine r_body1 rfl rfl ?_
    refine ⟨_, rfl, ?_, hx2, hg2⟩
    rw [hk', List.take_length, List.append_assoc] at hb
    exact hb

end

end Go.Rl
/- Rules for a region that draws its order where late operations mutate: quiet operations first, then whichever comes up. Conditions: each rule names its own. -/
namespace Go.Rl
open Go.RowKit

section
variable {P : Program} {ops : Array Oper} {Q : Post} {N : Nat} {D : List Deferred} {S : World → Prop} {fuel : Nat} {listed : Array Bool} {l : Fr} {w : World} {d : Nat} {op : Op} {ty : TypeId} {pos : String} {aft : Array Edge}

/-- Nothing but the plain end. -/
def calm (Q : Post) : Post := fun e a w => e = .normal ∧ Q .normal a w
def HeldJ (P : Program) (ops : Array Oper) (Q : Post) (N : Nat) (D : List Deferred) (S : World → Prop) (fuel : Nat) (listed : Array Bool) (l : Fr) (w : World) : Prop := ∀ a, At N D l a → wpAnyH P .any ops (calm Q) S fuel listed a w
/-- Behind one operation: S anew, and on. -/
def HPost (P : Program) (ops : Array Oper) (Q : Post) (S : World → Prop) (fuel : Nat) (listed : Array Bool) : Post := fun e a w => e = .normal ∧ S w ∧ wpAnyH P .any ops (calm Q) S fuel listed a w

theorem c_held {id : Nat} {os : List Oper} (S : World → Prop) (n : Nat) (hn : os.toArray.size = n) (hm : P.follows .mixedOrders = true)
    (h : HeldJ P os.toArray Q N D S n (Array.replicate n false) l w.drew) : CodeJ P Q N D l w (.region id os.toArray true) := fun a ha => by
  subst hn
  exact wp_mono (wp_region_held (Q := calm Q) (S := S) hm (h a ha)) fun e a w he => by obtain ⟨rfl, h⟩ := he; exact h

def okB (ops : Array Oper) (listed : Array Bool) (i : Nat) : Bool := Region.noSelect ops && Region.free .any ops listed i && (Region.ready .any ops listed).contains i

theorem h_run (i : Nat) {v : Value} (hi : ops[i]? = some ⟨some d, op, ty, pos, aft, none⟩) (hB : okB ops listed i = true) (hd : Nat.blt d N = true) (hS : S w)
    (hrun : ∀ ρ w', Agree l ρ → S w' → (execOp ρ ⟨some d, op, ty, pos, aft, none⟩).run P w' = .ok (.value v) w')
    (k : HeldJ P ops Q N D S fuel (listed.setIfInBounds i true) ((d, v) :: l) w) : HeldJ P ops Q N D S (fuel + 1) listed l w := fun a ha => by
  simp only [okB, Bool.and_eq_true] at hB
  exact wpAnyH_take hi hB.1.1 hB.1.2 hB.2 (fun c a w h => by obtain ⟨h, _⟩ := h; cases h) (.inl ⟨rfl, fun w' hw' => hrun a.eval w' (fun x v hx => ha.ev hx) hw'⟩) hS (k _ (ha.put hd v))
theorem h_pure (i : Nat) {xs : List Operand} {vs : List Value} {r : Value} {f : List Value → Sem Value} (hi : ops[i]? = some ⟨some d, op, ty, pos, aft, none⟩) (he : ∀ ρ, execOp ρ ⟨some d, op, ty, pos, aft, none⟩ = (do pure (Next.value (← f (xs.map ρ))) : Sem Next))
    (hp : evs l xs = some vs) (hB : okB ops listed i = true) (hd : Nat.blt d N = true) (hS : S w) (hrun : ∀ w', S w' → (f vs).run P w' = .ok r w')
    (k : HeldJ P ops Q N D S fuel (listed.setIfInBounds i true) ((d, r) :: l) w) : HeldJ P ops Q N D S (fuel + 1) listed l w :=
  h_run i hi hB hd hS (fun ρ w' hρ hw' => by rw [he, evs_ok hρ hp, Sem.run_bind, hrun w' hw']; rfl) k
theorem evs1 {x : Operand} {v : Value} (h : ev l x = some v) : evs l [x] = some [v] := by simp [evs, h]
theorem evs2 {x y : Operand} {u v : Value} (h : ev l x = some u) (h' : ev l y = some v) : evs l [x, y] = some [u, v] := by simp [evs, h, h']
theorem h_move (i : Nat) {x : Operand} {v : Value} (hi : ops[i]? = some ⟨some d, .move x, ty, pos, aft, none⟩) (hx : ev l x = some v) (hB : okB ops listed i = true) (hd : Nat.blt d N = true) (hS : S w)
    (k : HeldJ P ops Q N D S fuel (listed.setIfInBounds i true) ((d, v) :: l) w) : HeldJ P ops Q N D S (fuel + 1) listed l w :=
  h_run i hi hB hd hS (fun ρ w' hρ _ => by simp [execOp, hρ x _ hx]) k
theorem h_load (i : Nat) {t : TypeId} {x : Operand} {u r : Value} (hi : ops[i]? = some ⟨some d, .load t x, ty, pos, aft, none⟩) (hx : ev l x = some u) (hB : okB ops listed i = true) (hd : Nat.blt d N = true) (hS : S w) (hrun : ∀ w', S w' → (Instr.loadAt t u).run P w' = .ok r w')
    (k : HeldJ P ops Q N D S fuel (listed.setIfInBounds i true) ((d, r) :: l) w) : HeldJ P ops Q N D S (fuel + 1) listed l w :=
  h_pure i (xs := [x]) (f := fun | [a] => Instr.loadAt t a | _ => stuck "") hi (fun _ => rfl) (evs1 hx) hB hd hS hrun k
theorem h_fieldAddr (i : Nat) {s : TypeId} {n : Nat} {x : Operand} {u r : Value} (hi : ops[i]? = some ⟨some d, .fieldAddr s x n, ty, pos, aft, none⟩) (hx : ev l x = some u) (hB : okB ops listed i = true) (hd : Nat.blt d N = true) (hS : S w) (hrun : ∀ w', S w' → (Instr.fieldAt s u n).run P w' = .ok r w')
    (k : HeldJ P ops Q N D S fuel (listed.setIfInBounds i true) ((d, r) :: l) w) : HeldJ P ops Q N D S (fuel + 1) listed l w :=
  h_pure i (xs := [x]) (f := fun | [a] => Instr.fieldAt s a n | _ => stuck "") hi (fun _ => rfl) (evs1 hx) hB hd hS hrun k
theorem h_field (i : Nat) {s : TypeId} {n : Nat} {x : Operand} {u r : Value} (hi : ops[i]? = some ⟨some d, .field s x n, ty, pos, aft, none⟩) (hx : ev l x = some u) (hB : okB ops listed i = true) (hd : Nat.blt d N = true) (hS : S w) (hrun : ∀ w', S w' → (Instr.field s u n).run P w' = .ok r w')
    (k : HeldJ P ops Q N D S fuel (listed.setIfInBounds i true) ((d, r) :: l) w) : HeldJ P ops Q N D S (fuel + 1) listed l w :=
  h_pure i (xs := [x]) (f := fun | [a] => Instr.field s a n | _ => stuck "") hi (fun _ => rfl) (evs1 hx) hB hd hS hrun k
theorem h_conv (i : Nat) {s t : TypeId} {x : Operand} {u r : Value} (hi : ops[i]? = some ⟨some d, .convert s t x, ty, pos, aft, none⟩) (hx : ev l x = some u) (hB : okB ops listed i = true) (hd : Nat.blt d N = true) (hS : S w) (hrun : ∀ w', S w' → (convert s t u).run P w' = .ok r w')
    (k : HeldJ P ops Q N D S fuel (listed.setIfInBounds i true) ((d, r) :: l) w) : HeldJ P ops Q N D S (fuel + 1) listed l w :=
  h_pure i (xs := [x]) (f := fun | [a] => convert s t a | _ => stuck "") hi (fun _ => rfl) (evs1 hx) hB hd hS hrun k
theorem h_bin (i : Nat) {b : BinOp} {t t2 : TypeId} {x y : Operand} {u v r : Value} (hi : ops[i]? = some ⟨some d, .binOp b t x y t2, ty, pos, aft, none⟩) (hx : ev l x = some u) (hy : ev l y = some v) (hB : okB ops listed i = true) (hd : Nat.blt d N = true) (hS : S w) (hrun : ∀ w', S w' → (bin b t x y u v).run P w' = .ok r w')
    (k : HeldJ P ops Q N D S fuel (listed.setIfInBounds i true) ((d, r) :: l) w) : HeldJ P ops Q N D S (fuel + 1) listed l w :=
  h_pure i (xs := [x, y]) (f := fun | [a, c] => bin b t x y a c | _ => stuck "") hi (fun _ => rfl) (evs2 hx hy) hB hd hS hrun k
theorem h_indexAddr (i : Nat) {t : TypeId} {x y : Operand} {u v r : Value} (hi : ops[i]? = some ⟨some d, .indexAddr t x y, ty, pos, aft, none⟩) (hx : ev l x = some u) (hy : ev l y = some v) (hB : okB ops listed i = true) (hd : Nat.blt d N = true) (hS : S w) (hrun : ∀ w', S w' → (Instr.indexAt t u v).run P w' = .ok r w')
    (k : HeldJ P ops Q N D S fuel (listed.setIfInBounds i true) ((d, r) :: l) w) : HeldJ P ops Q N D S (fuel + 1) listed l w :=
  h_pure i (xs := [x, y]) (f := fun | [a, c] => Instr.indexAt t a c | _ => stuck "") hi (fun _ => rfl) (evs2 hx hy) hB hd hS hrun k
theorem h_len (i : Nat) {xs : List Operand} {ts : Array TypeId} {vs : List Value} {r : Value} (hi : ops[i]? = some ⟨some d, .call { callee := .builtin .len, args := xs.toArray, argTypes := ts }, ty, pos, aft, none⟩) (hp : evs l xs = some vs) (hB : okB ops listed i = true) (hd : Nat.blt d N = true) (hS : S w) (hrun : ∀ w', S w' → (Builtin.len_ ts ty vs.toArray).run P w' = .ok r w')
    (k : HeldJ P ops Q N D S fuel (listed.setIfInBounds i true) ((d, r) :: l) w) : HeldJ P ops Q N D S (fuel + 1) listed l w :=
  h_pure i (xs := xs) (f := fun vs => Builtin.len_ ts ty vs.toArray) hi (fun ρ => by simp only [execOp, resolve, invoke, builtin, pure_bind, List.map_toArray]) hp hB hd hS hrun k

/-- One operation that comes up, carried out. -/
theorem wpOp_of_list {o : Oper} {i : Nat} {listed' : Array Bool} {a : Act} (hi : ops[i]? = some o) (h : wpList P ops (HPost P ops Q S fuel listed') [o] a w) :
    wpOp P ops (calm Q) i (fun a' w' => S w' ∧ wpAnyH P .any ops (calm Q) S fuel listed' a' w') a w := by
  unfold wpOp
  simp only [hi]
  unfold wpList at h
  split
  · rename_i hw
    rw [if_pos hw] at h
    rcases h with h | ⟨_, _, _, h, _⟩
    · refine .inl ?_
      unfold Oper.wp at *
      generalize (execOp a.eval o).run P w = r at *
      cases r with
      | ok n w' =>
        cases n <;> simp only [Oper.upon] at h ⊢
        case value u => exact h.2
        case skip => exact h.2
        case defer dd => exact h.2
        case enter f args =>
          refine Calls.mono h fun e w'' he => ?_
          cases e with
          | returned u => exact he.2
          | panicked c => obtain ⟨he, _⟩ := he; cases he
          | outgrown => obtain ⟨_, _, he, _⟩ := he; cases he
        case row row args => exact Rows.mono h fun u w'' he => he.2
      | halt x w' =>
        cases x <;> simp only [Oper.upon] at h ⊢
        case panic u => obtain ⟨he, _⟩ := h; cases he
    · cases h
  · rename_i hw
    rw [if_neg hw] at h
    exact h.2
theorem h_one (i : Nat) {o : Oper} (hr : Region.ready .any ops listed = [i]) (hi : ops[i]? = some o) (h : OpsJ P ops (HPost P ops Q S fuel (listed.setIfInBounds i true)) N D l w [o]) : HeldJ P ops Q N D S (fuel + 1) listed l w := fun a ha =>
  wpAnyH_all hr (by simp) fun j hj => by
    obtain rfl : j = i := by simpa using hj
    exact wpOp_of_list hi (h a ha)
theorem h_two (i j : Nat) {o u : Oper} (hr : Region.ready .any ops listed = [i, j]) (hi : ops[i]? = some o) (hj : ops[j]? = some u) (h : OpsJ P ops (HPost P ops Q S fuel (listed.setIfInBounds i true)) N D l w [o])
    (h' : OpsJ P ops (HPost P ops Q S fuel (listed.setIfInBounds j true)) N D l w [u]) : HeldJ P ops Q N D S (fuel + 1) listed l w := fun a ha =>
  wpAnyH_all hr (by simp) fun k hk => by
    rcases (by simpa using hk : k = i ∨ k = j) with rfl | rfl
    · exact wpOp_of_list hi (h a ha)
    · exact wpOp_of_list hj (h' a ha)
theorem h_next (hS : S w) (k : HeldJ P ops Q N D S fuel listed l w) : OpsJ P ops (HPost P ops Q S fuel listed) N D l w [] := fun a ha => ⟨rfl, hS, k a ha⟩
/-- Several ways that meet. -/
theorem h_meet {α : Type} (fr : α → Fr) (H : α → World → Prop) (listed' : Array Bool) (fuel' : Nat) (k : ∀ x w', H x w' → HeldJ P ops Q N D S fuel' listed' (fr x) w')
    (h : (∀ l' w', (∃ x, Sub (fr x) l' ∧ H x w') → HeldJ P ops Q N D S fuel' listed' l' w') → HeldJ P ops Q N D S fuel listed l w) : HeldJ P ops Q N D S fuel listed l w :=
  h fun _ w' ⟨x, hs, hH⟩ a ha => k x w' hH a (ha.weak hs)
theorem h_eq {listed' : Array Bool} (he : listed = listed') (h : HeldJ P ops Q N D S fuel listed' l w) : HeldJ P ops Q N D S fuel listed l w := he ▸ h
theorem h_done (hr : Region.ready .any ops listed = []) (h : NormJ Q N D l w) : HeldJ P ops Q N D S fuel listed l w := fun a ha => wpAnyH_done hr ⟨rfl, h a ha⟩ _
end
end Go.Rl
/- Walks of the functions that append rationals, and of the statement WireRationals. Conditions: what is appended to is short. -/
namespace Go.Rl
open Go.RowKit Go.Proofs

theorem call_AppendRat : Callable Tryz.prog 45 := ⟨_, Tryz.func45, by kernel_rfl, rfl⟩
theorem call_rAppendRat : Callable Tryz.prog 81 := ⟨_, Tryz.func81, by kernel_rfl, rfl⟩

theorem Ext.at {w w' : World} (hx : Ext w w') {g : Nat} {o : Obj} (h : w.heap[g]? = some o) : w'.heap[g]? = some o := by
  rw [hx.block g (by obtain ⟨h, _⟩ := Array.getElem?_eq_some_iff.1 h; exact h)]
  exact h
theorem OwnB.low {base base' : Nat} {l : List UInt8} {v : Value} {w : World} (h : OwnB base l v w) (hb : base' ≤ base) : OwnB base' l v w := by
  have hge := h.ge
  obtain ⟨n, h⟩ := h
  exact ⟨n, ownsRow_base h fun k hk => Nat.le_trans hb (hge k hk)⟩

theorem OwnB.grown {base : Nat} {l : List UInt8} {u v r : Value} {w w' : World} (h : OwnB base l u w) (hg : Grew w w' v r) (hne : u.ownBlock = none ∨ u.ownBlock ≠ v.ownBlock) : OwnB base l u w' := by
  obtain ⟨n, h⟩ := h
  exact ⟨n, World.ownsRow.kept h hg.grown hne⟩
theorem OwnB.lt {base : Nat} {l : List UInt8} {v : Value} {w : World} (h : OwnB base l v w) : ∀ k, v.ownBlock = some k → k < w.heap.size := by
  obtain ⟨n, h⟩ := h
  exact fun k hk => (World.ownsRow.lt h k hk).2

/-- A rational value: a sign and two rows of limbs. -/
def RatV (b : Bool) (n m : List UInt32) : Fact := fun v w => ∃ x y, v = .agg #[B b, x, y] ∧ Wds n x w ∧ Wds m y w
theorem RatV.ext {b : Bool} {n m : List UInt32} {v : Value} {w w' : World} (h : RatV b n m v w) (hx : Ext w w') : RatV b n m v w' := by
  obtain ⟨x, y, rfl, h1, h2⟩ := h
  exact ⟨x, y, rfl, h1.ext hx, h2.ext hx⟩
def sgn (b : Bool) : UInt8 := if b then 1 else 0
def encR (b : Bool) (n m : List UInt32) : List UInt8 := [sgn b] ++ encN n ++ encN m

theorem size_bool' : (Tryz.prog.info? 4).map (·.size) = some 1 := by kernel_rfl
theorem size_Nat : (Tryz.prog.info? 40).map (·.size) = some 1 := by kernel_rfl
theorem size_Rat : (Tryz.prog.info? 42).map (·.size) = some 3 := by kernel_rfl

section
variable {w : World} {l : List UInt8} {ns : List UInt32} {v nv : Value}

theorem rAppendNat_spec (hv : Bts l v w) (hn : Wds ns nv w) (hl : l.length + 4 * ns.length ≤ 35184372088832) :
    Calls Tryz.prog 98 #[v, nv] w (Ret fun r w' => Ext w w' ∧ OwnB w.heap.size (l ++ encN ns) r w') := by
  refine enter (vs := [v, nv]) Tryz.func98 rfl rfl rfl ?_
  refine c_seq (c_region (o_assign rfl rfl (o_nil (n_then (c_seq (c_region (o_move rfl rfl (o_move rfl rfl ?_))))))))
  refine o_len rfl rfl (r_lenW Tryz.underlying40 hn) ?_
  refine o_conv rfl rfl (r_n_u64 Tryz.underlying3 Tryz.underlying64) ?_
  refine o_call call_rAppendUint rfl rfl (rAppendUint_spec hv (by omega)) ?_
  rintro b1 w1 ⟨hx1, hb1⟩
  have hns := hn.len
  have hlen : (UInt64.ofNat ns.length).toNat = ns.length := by rw [UInt64.toNat_ofNat']; omega
  rw [hlen] at hb1
  have huv := uv_len (n := ns.length) (by omega)
  refine o_assign rfl rfl (o_nil (n_then (c_seq (c_seq (c_region (o_assign rfl rfl (o_nil (n_then (c_block ?_)))))))))
  refine c_loop (α := Nat × Value) (fun x => [(1, nv), (5, x.2), (6, I (x.1 : Int))])
    (fun x w' => OwnB w.heap.size (l ++ uv ns.length ++ le4s (ns.take x.1)) x.2 w' ∧ Ext w w' ∧ x.1 ≤ ns.length) (fun x => ns.length - x.1) (0, b1) ⟨rfl, rfl, rfl, trivial⟩
    ⟨by simpa [le4s] using hb1, hx1, by simp⟩ ?_
  rintro ⟨k, b⟩ w2 ⟨hb, hx2, hk⟩
  dsimp only at hb hx2 hk
  have hdl : (l ++ uv ns.length ++ le4s (ns.take k)).length ≤ 35184372088832 + 10 := by
    simp only [List.length_append, le4s_len, List.length_take]; omega
  refine c_seq (c_seq (c_region (o_move rfl rfl (o_move rfl rfl ?_))))
  refine o_len rfl rfl (r_lenW Tryz.underlying40 (hn.ext hx2)) ?_
  refine o_bin rfl rfl rfl (r_lss_i) ?_
  refine o_nil (n_then ?_)
  refine c_if rfl (fun h => ?_) (fun h => ?_)
  · have hlt : k < ns.length := by omega
    refine c_skip (n_then (c_seq (c_block ?_)))
    obtain ⟨ad, had, hcell⟩ := r_ixW Tryz.underlying40 (hn.ext hx2) hlt .i64
    have hld : ∀ w', Ext w2 w' → (Instr.loadAt 65 (.pointer (some ad))).run Tryz.prog w' = .ok (U32 ns[k]) w' := fun w' hw' => by
      obtain ⟨ad', had', hcell'⟩ := r_ixW Tryz.underlying40 (hn.ext (hx2.trans hw')) hlt .i64
      have := (had w').symm.trans (had' w')
      simp only [Result.ok.injEq, Value.pointer.injEq, Option.some.injEq, and_true] at this
      subst this
      exact r_ldW hcell'
    refine c_grow 25 [1, 6, 18, 42] (by kernel_rfl) (by kernel_rfl) ?_
    refine f_move rfl rfl (f_move rfl rfl (f_move rfl rfl ?_))
    refine f_indexAddr rfl rfl rfl (fun w _ => had w) ?_
    refine f_load rfl rfl hld ?_
    refine f_conv rfl rfl (fun w _ => r_u32_u8 Tryz.underlying65 Tryz.underlying5) ?_
    refine f_move rfl rfl (f_move rfl rfl ?_)
    refine f_indexAddr rfl rfl rfl (fun w _ => had w) ?_
    refine f_load rfl rfl hld ?_
    refine f_bin rfl rfl rfl (fun w _ => r_shr_u32 8 (by omega)) ?_
    refine f_conv rfl rfl (fun w _ => r_u32_u8 Tryz.underlying65 Tryz.underlying5) ?_
    refine f_move rfl rfl (f_move rfl rfl ?_)
    refine f_indexAddr rfl rfl rfl (fun w _ => had w) ?_
    refine f_load rfl rfl hld ?_
    refine f_bin rfl rfl rfl (fun w _ => r_shr_u32 16 (by omega)) ?_
    refine f_conv rfl rfl (fun w _ => r_u32_u8 Tryz.underlying65 Tryz.underlying5) ?_
    refine f_move rfl rfl (f_move rfl rfl ?_)
    refine f_indexAddr rfl rfl rfl (fun w _ => had w) ?_
    refine f_load rfl rfl hld ?_
    refine f_bin rfl rfl rfl (fun w _ => r_shr_u32 24 (by omega)) ?_
    refine f_conv rfl rfl (fun w _ => r_u32_u8 Tryz.underlying65 Tryz.underlying5) ?_
    refine f_buildSlice (S := Bts (le4 ns[k])) (Bts.stable _) rfl (fun w' _ => by
      rintro _ rfl _ rfl _ rfl _ rfl
      obtain ⟨r3, w3, hr3, hx3, ho3, _⟩ := r_bsB (w := w') w'.heap.size (le4 ns[k]) (by simp [le4]) (Nat.le_refl _)
      exact ⟨r3, w3, hr3, hx3, ho3.bts⟩) ?_
    refine f_nil ?_
    intro w3 hx3
    rintro _ rfl _ rfl _ rfl r3 hr3
    obtain ⟨r4, w4, hr4, ho4, hg4⟩ := r_appB (ty := 28) (hb.ext hx3) hr3 (by simp only [le4, List.length_cons, List.length_nil]; omega) (Nat.le_trans hx2.size hx3.size)
    refine o_append rfl rfl hr4 ?_
    refine o_assign rfl rfl (o_nil (n_block (n_then (c_region (o_move rfl rfl ?_)))))
    refine o_bin rfl rfl rfl (r_add_i (by omega) (by omega)) ?_
    refine o_assign rfl rfl (o_nil ?_)
    refine n_round (k + 1, r4) ⟨rfl, rfl, rfl, trivial⟩ ⟨?_, (hx2.trans hx3).of_grew hg4 hb.ge, hlt⟩ (by show ns.length - (k + 1) < ns.length - k; omega)
    show OwnB _ (l ++ uv ns.length ++ le4s (ns.take (k + 1))) r4 w4
    rw [le4s_snoc ns k hlt, ← List.append_assoc]
    exact ho4
  · have hk' : k = ns.length := by omega
    refine c_exit (x_then (x_then (x_here (n_then (c_seq (c_region (o_move rfl rfl (o_assign rfl rfl (o_nil (n_then (c_ret ?_)))))))))))
    refine r_body1 rfl rfl ?_
    rw [hk', List.take_length, List.append_assoc] at hb
    exact ⟨_, rfl, hx2, hb⟩

theorem AppendRat_spec {b : Bool} {n m : List UInt32} {rv : Value} (hv : Bts l v w) (hr : RatV b n m rv w) (hl : l.length + 4 * n.length + 4 * m.length ≤ 8796093022208) :
    Calls Tryz.prog 45 #[v, rv] w (Ret fun r w' => Ext w w' ∧ OwnB w.heap.size (l ++ encR b n m) r w') := by
  obtain ⟨x, y, rfl, hx, hy⟩ := hr
  have hn := encN_len n (by have := hx.len; omega)
  refine enter (vs := [v, .agg #[B b, x, y]]) Tryz.func45 rfl rfl rfl ?_
  refine c_seq (c_region (o_box rfl rfl r_box ?_))
  have e1 : Ext w (w.alloc (.cells (Value.agg #[B b, x, y]).cells 42)) := Ext.new w _
  have hbx := heap_alloc_new w (.cells (Value.agg #[B b, x, y]).cells 42)
  revert e1 hbx
  generalize w.alloc (.cells (Value.agg #[B b, x, y]).cells 42) = w1
  intro e1 hbx
  have cell : ∀ (i : Nat) (u : Value), (#[B b, x, y] : Array Value)[i]? = some u → ∀ w', Ext w1 w' → w'.cell? ⟨w.heap.size, i, none⟩ = some u := fun i u hu w' hw' => cellAt (hw'.at hbx) hu
  refine o_assign rfl rfl (o_nil (n_then (c_seq (c_region (o_assign rfl rfl (o_nil (n_then ?_)))))))
  refine c_seq (c_cut (fun _ : Unit => [(0, v), (3, .pointer (some ⟨w.heap.size, 0, none⟩)), (5, U8 (sgn b))]) (fun _ w' => w' = w1) ?_ ?_)
  · refine c_seq (c_region ?_)
    refine o_fieldAddr rfl rfl (r_fieldAt Tryz.underlying42 rfl size_bool' (by omega)) ?_
    refine o_load rfl rfl (r_load1 Tryz.underlying4 rfl (cell 0 _ rfl _ (Ext.refl _))) ?_
    refine o_nil (n_then ?_)
    cases b with
    | true => exact c_yes rfl (c_region (o_assign rfl rfl (o_nil (n_meet () ⟨rfl, rfl, rfl, trivial⟩ rfl))))
    | false => exact c_no rfl (c_skip (n_meet () ⟨rfl, rfl, rfl, trivial⟩ rfl))
  rintro _ w2 rfl
  refine n_then (c_seq ?_)
  refine c_held (Ext w2) 12 rfl (by kernel_rfl) ?_
  have hd : Ext w2 w2.drew := (Ext.refl w2).drew
  refine h_move 0 rfl rfl (by kernel_rfl) rfl hd ?_
  refine h_move 2 rfl rfl (by kernel_rfl) rfl hd ?_
  refine h_fieldAddr 5 rfl rfl (by kernel_rfl) rfl hd (fun w' _ => r_fieldAt Tryz.underlying42 rfl size_Nat (by omega)) ?_
  refine h_load 6 rfl rfl (by kernel_rfl) rfl hd (fun w' hw' => r_load1 Tryz.underlying40 rfl (cell 1 _ rfl _ hw')) ?_
  refine h_fieldAddr 8 rfl rfl (by kernel_rfl) rfl hd (fun w' _ => r_fieldAt Tryz.underlying42 rfl size_Nat (by omega)) ?_
  refine h_load 9 rfl rfl (by kernel_rfl) rfl hd (fun w' hw' => r_load1 Tryz.underlying40 rfl (cell 2 _ rfl _ hw')) ?_
  refine h_meet (fun p : Value × Value => [(9, p.1), (11, p.2), (14, x), (17, y)]) (fun p w' => Ext w2 w' ∧ OwnB w2.heap.size l p.1 w' ∧ Bts [sgn b] p.2 w') #[true, true, true, true, false, true, true, false, true, true, false, false] 4 ?_ (fun join => h_two 1 3 (by kernel_rfl) rfl rfl ?_ ?_)
  · rintro ⟨r9, r11⟩ w3 ⟨hx3, ho9, ho11⟩
    dsimp only at ho9 ho11
    refine h_one 4 (by kernel_rfl) rfl ?_
    obtain ⟨r4, w4, hr4, ho4, hg4⟩ := r_appB (ty := 28) ho9 ho11 (by simp only [List.length_cons, List.length_nil]; omega) hx3.size
    have hx4 := hx3.of_grew hg4 ho9.ge
    refine o_append rfl rfl hr4 (h_next hx4 ?_)
    refine h_one 7 (by kernel_rfl) rfl ?_
    refine o_call call_nat rfl rfl (nat_spec hx4 ho4 (hx.ext e1) (by simp only [List.length_append, List.length_cons, List.length_nil]; omega)) ?_
    rintro r5 w5 ⟨ho5, hx5, _⟩
    refine h_next hx5 (h_one 10 (by kernel_rfl) rfl ?_)
    refine o_call call_nat rfl rfl (nat_spec hx5 ho5 (hy.ext e1) (by simp only [List.length_append, List.length_cons, List.length_nil]; omega)) ?_
    rintro r6 w6 ⟨ho6, hx6, _⟩
    refine h_next hx6 (h_one 11 (by kernel_rfl) rfl ?_)
    refine o_assign rfl rfl (h_next hx6 (h_done (by kernel_rfl) (n_then (c_ret ?_))))
    refine r_body1 rfl rfl ?_
    refine ⟨_, rfl, e1.trans hx6, ?_⟩
    have := ho6.low e1.size
    simpa only [encR, List.append_assoc] using this
  · refine o_call call_Clone rfl rfl (Clone_spec ((hv.ext e1).ext hd) (by omega)) ?_
    rintro r9 w3 ⟨hx3, ho9⟩
    obtain ⟨r11, w4, hr11, hx4, ho11, _⟩ := r_bsB (w := w3) w3.heap.size [sgn b] (by simp) (Nat.le_refl _)
    refine h_next (hd.trans hx3) (h_one 3 (by kernel_rfl) rfl ?_)
    refine o_buildSlice (vs := [(0, U8 (sgn b))]) rfl rfl hr11 (h_next ((hd.trans hx3).trans hx4) (h_eq (by kernel_rfl) (join _ _ ⟨(r9, r11), ⟨rfl, rfl, rfl, rfl, trivial⟩, (hd.trans hx3).trans hx4, ?_, ho11.bts⟩)))
    exact (ho9.ext hx4).low hd.size
  · obtain ⟨r11, w3, hr11, hx3, ho11, _⟩ := r_bsB (w := w2.drew) w2.heap.size [sgn b] (by simp) hd.size
    refine o_buildSlice (vs := [(0, U8 (sgn b))]) rfl rfl hr11 (h_next (hd.trans hx3) (h_one 1 (by kernel_rfl) rfl ?_))
    refine o_call call_Clone rfl rfl (Clone_spec (((hv.ext e1).ext hd).ext hx3) (by omega)) ?_
    rintro r9 w4 ⟨hx4, ho9⟩
    refine h_next ((hd.trans hx3).trans hx4) (h_eq (by kernel_rfl) (join _ _ ⟨(r9, r11), ⟨rfl, rfl, rfl, rfl, trivial⟩, (hd.trans hx3).trans hx4, ?_, ho11.bts.ext hx4⟩))
    exact ho9.low (hd.trans hx3).size

theorem rAppendRat_spec {b : Bool} {n m : List UInt32} {rv : Value} (hv : Bts l v w) (hr : RatV b n m rv w) (hl : l.length + 4 * n.length + 4 * m.length ≤ 8796093022208) :
    Calls Tryz.prog 81 #[v, rv] w (Ret fun r w' => Ext w w' ∧ OwnB w.heap.size (l ++ encR b n m) r w') := by
  obtain ⟨x, y, rfl, hx, hy⟩ := hr
  have hn := encN_len n (by have := hx.len; omega)
  refine enter (vs := [v, .agg #[B b, x, y]]) Tryz.func81 rfl rfl rfl ?_
  refine c_seq (c_region (o_box rfl rfl r_box ?_))
  have e1 : Ext w (w.alloc (.cells (Value.agg #[B b, x, y]).cells 42)) := Ext.new w _
  have hbx := heap_alloc_new w (.cells (Value.agg #[B b, x, y]).cells 42)
  revert e1 hbx
  generalize w.alloc (.cells (Value.agg #[B b, x, y]).cells 42) = w1
  intro e1 hbx
  have cell : ∀ (i : Nat) (u : Value), (#[B b, x, y] : Array Value)[i]? = some u → ∀ w', Ext w1 w' → w'.cell? ⟨w.heap.size, i, none⟩ = some u := fun i u hu w' hw' => cellAt (hw'.at hbx) hu
  refine o_assign rfl rfl (o_nil (n_then (c_seq (c_region (o_assign rfl rfl (o_nil (n_then ?_)))))))
  refine c_seq (c_cut (fun _ : Unit => [(0, v), (3, .pointer (some ⟨w.heap.size, 0, none⟩)), (5, U8 (sgn b))]) (fun _ w' => w' = w1) ?_ ?_)
  · refine c_seq (c_region ?_)
    refine o_fieldAddr rfl rfl (r_fieldAt Tryz.underlying42 rfl size_bool' (by omega)) ?_
    refine o_load rfl rfl (r_load1 Tryz.underlying4 rfl (cell 0 _ rfl _ (Ext.refl _))) ?_
    refine o_nil (n_then ?_)
    cases b with
    | true => exact c_yes rfl (c_region (o_assign rfl rfl (o_nil (n_meet () ⟨rfl, rfl, rfl, trivial⟩ rfl))))
    | false => exact c_no rfl (c_skip (n_meet () ⟨rfl, rfl, rfl, trivial⟩ rfl))
  rintro _ w2 rfl
  refine n_then (c_seq ?_)
  refine c_held (Ext w2) 13 rfl (by kernel_rfl) ?_
  have hd : Ext w2 w2.drew := (Ext.refl w2).drew
  refine h_move 1 rfl rfl (by kernel_rfl) rfl hd ?_
  refine h_move 3 rfl rfl (by kernel_rfl) rfl hd ?_
  refine h_fieldAddr 6 rfl rfl (by kernel_rfl) rfl hd (fun w' _ => r_fieldAt Tryz.underlying42 rfl size_Nat (by omega)) ?_
  refine h_load 7 rfl rfl (by kernel_rfl) rfl hd (fun w' hw' => r_load1 Tryz.underlying40 rfl (cell 1 _ rfl _ hw')) ?_
  refine h_fieldAddr 9 rfl rfl (by kernel_rfl) rfl hd (fun w' _ => r_fieldAt Tryz.underlying42 rfl size_Nat (by omega)) ?_
  refine h_load 10 rfl rfl (by kernel_rfl) rfl hd (fun w' hw' => r_load1 Tryz.underlying40 rfl (cell 2 _ rfl _ hw')) ?_
  have hv2 : Bts l v w2 := hv.ext e1
  refine h_meet (fun p : Value × Value => [(10, p.1), (12, p.2), (15, x), (18, y)]) (fun p w' => Ext w2 w' ∧ OwnB w2.heap.size l p.1 w' ∧ Bts [sgn b] p.2 w') #[true, true, true, true, true, false, true, true, false, true, true, false, false] 4 ?_ (fun join => h_two 0 4 (by kernel_rfl) rfl rfl ?_ ?_)
  · rintro ⟨r9, r11⟩ w3 ⟨hx3, ho9, ho11⟩
    dsimp only at ho9 ho11
    refine h_one 5 (by kernel_rfl) rfl ?_
    obtain ⟨r4, w4, hr4, ho4, hg4⟩ := r_appB (ty := 28) ho9 ho11 (by simp only [List.length_cons, List.length_nil]; omega) hx3.size
    have hx4 := hx3.of_grew hg4 ho9.ge
    refine o_append rfl rfl hr4 (h_next hx4 ?_)
    refine h_one 8 (by kernel_rfl) rfl ?_
    refine o_call call_rAppendNat rfl rfl (rAppendNat_spec ho4.bts ((hx.ext e1).ext hx4) (by simp only [List.length_append, List.length_cons, List.length_nil]; omega)) ?_
    rintro r5 w5 ⟨hx5, ho5⟩
    refine h_next (hx4.trans hx5) (h_one 11 (by kernel_rfl) rfl ?_)
    refine o_call call_rAppendNat rfl rfl (rAppendNat_spec ho5.bts ((hy.ext e1).ext (hx4.trans hx5)) (by simp only [List.length_append, List.length_cons, List.length_nil]; omega)) ?_
    rintro r6 w6 ⟨hx6, ho6⟩
    have q6 := (hx4.trans hx5).trans hx6
    refine h_next q6 (h_one 12 (by kernel_rfl) rfl ?_)
    refine o_assign rfl rfl (h_next q6 (h_done (by kernel_rfl) (n_then (c_ret ?_))))
    refine r_body1 rfl rfl ?_
    refine ⟨_, rfl, e1.trans q6, ?_⟩
    have := ho6.low (e1.trans (hx4.trans hx5)).size
    simpa only [encR, List.append_assoc] using this
  · obtain ⟨r8, w3, hr8, hx3, ho8, _⟩ := r_bsB (w := w2.drew) w2.heap.size [] (by simp) hd.size
    refine o_buildSlice (vs := []) rfl rfl hr8 (h_next (hd.trans hx3) (h_two 2 4 (by kernel_rfl) rfl rfl ?_ ?_))
    · obtain ⟨r4, w4, hr4, ho4, hg4⟩ := r_appB (ty := 28) ho8 ((hv2.ext hd).ext hx3) (by simp only [List.length_nil]; omega) (hd.trans hx3).size
      have hx4 := (hd.trans hx3).of_grew hg4 ho8.ge
      refine o_append rfl rfl hr4 (h_next hx4 (h_one 4 (by kernel_rfl) rfl ?_))
      obtain ⟨r11, w5, hr11, hx5, ho11, _⟩ := r_bsB (w := w4) w4.heap.size [sgn b] (by simp) (Nat.le_refl _)
      refine o_buildSlice (vs := [(0, U8 (sgn b))]) rfl rfl hr11 (h_next (hx4.trans hx5) (h_eq (by kernel_rfl) (join _ _ ⟨(r4, r11), ⟨rfl, rfl, rfl, rfl, trivial⟩, hx4.trans hx5, ?_, ho11.bts⟩)))
      exact ho4.ext hx5
    · obtain ⟨r11, w4, hr11, hx4, ho11, hb11⟩ := r_bsB (w := w3) w3.heap.size [sgn b] (by simp) (Nat.le_refl _)
      have hx04 := (hd.trans hx3).trans hx4
      refine o_buildSlice (vs := [(0, U8 (sgn b))]) rfl rfl hr11 (h_next hx04 (h_one 2 (by kernel_rfl) rfl ?_))
      obtain ⟨r4, w5, hr4, ho4, hg4⟩ := r_appB (ty := 28) (ho8.ext hx4) (hv2.ext hx04) (by simp only [List.length_nil]; omega) hx04.size
      have hx5 := hx04.of_grew hg4 ho8.ge
      have hb5 := ho11.grown hg4 (.inr (by rw [hb11]; intro he; have := ho8.lt _ he.symm; omega))
      exact o_append rfl rfl hr4 (h_next hx5 (h_eq (by kernel_rfl) (join _ _ ⟨(r4, r11), ⟨rfl, rfl, rfl, rfl, trivial⟩, hx5, ho4, hb5.bts⟩)))
  · obtain ⟨r11, w3, hr11, hx3, ho11, hb11⟩ := r_bsB (w := w2.drew) w2.drew.heap.size [sgn b] (by simp) (Nat.le_refl _)
    have hx03 := hd.trans hx3
    refine o_buildSlice (vs := [(0, U8 (sgn b))]) rfl rfl hr11 (h_next hx03 (h_one 0 (by kernel_rfl) rfl ?_))
    obtain ⟨r8, w4, hr8, hx4, ho8, hb8⟩ := r_bsB (w := w3) w2.heap.size [] (by simp) hx03.size
    have hx04 := hx03.trans hx4
    refine o_buildSlice (vs := []) rfl rfl hr8 (h_next hx04 (h_one 2 (by kernel_rfl) rfl ?_))
    obtain ⟨r4, w5, hr4, ho4, hg4⟩ := r_appB (ty := 28) ho8 (hv2.ext hx04) (by simp only [List.length_nil]; omega) hx04.size
    have hx5 := hx04.of_grew hg4 ho8.ge
    have hb5 := (ho11.ext hx4).grown hg4 (.inr (by rw [hb8]; intro he; have := ho11.lt _ he; omega))
    exact o_append rfl rfl hr4 (h_next hx5 (h_eq (by kernel_rfl) (join _ _ ⟨(r4, r11), ⟨rfl, rfl, rfl, rfl, trivial⟩, hx5, ho4, hb5.bts⟩)))
end
end Go.Rl
/- Rationals that lie in a block; canonical rationals as plain maths. Conditions: each names its own. -/
namespace Go.Rl
open Go.RowKit Go.Proofs

section
variable {P : Program} {w w' : World}
theorem r_fAt {s : TypeId} {fs : Array Field} {f : Field} {n g o : Nat} (hs : P.underlying s = some (.struct fs)) (hf : fs[n]? = some f) (hk : (P.cellsOf f.type == 0) = false) (ho : f.offset = o) :
    (Instr.fieldAt s (.pointer (some ⟨g, 0, none⟩)) n).run P w = .ok (.pointer (some ⟨g, o, none⟩)) w := by
  have hk' : P.cellsOf f.type ≠ 0 := by simpa using hk
  obtain ⟨k, hk1⟩ : ∃ k, (P.info? f.type).map (·.size) = some k := by
    cases hi : (P.info? f.type).map (·.size) with
    | none => exact absurd (by simp [Program.cellsOf, hi]) hk'
    | some k => exact ⟨k, rfl⟩
  have hk0 : k ≠ 0 := by
    intro h
    apply hk'
    simp [Program.cellsOf, hk1, h]
  rw [r_fieldAt hs hf hk1 hk0, ho, add_mk, Nat.zero_add]
end
section
variable {w w' : World}
theorem RatV.stable (b : Bool) (n m : List UInt32) : Stable (RatV b n m) := fun _ _ _ h hx => h.ext hx
theorem RatV.mk {b : Bool} {n m : List UInt32} {x y : Value} (hx : Wds n x w) (hy : Wds m y w) : RatV b n m (.agg #[B b, x, y]) w := ⟨x, y, rfl, hx, hy⟩
theorem Blk.ldR {g : Nat} {T : TypeId} {a b c : Value} (h : Blk g T [a, b, c] w) : (Instr.loadAt 42 (.pointer (some ⟨g, 0, none⟩))).run Tryz.prog w = .ok (.agg #[a, b, c]) w :=
  r_ldA h (fun j v hj => by simpa using hj) Tryz.underlying42 rfl size_Rat
theorem r_boxR {b : Bool} {n m : List UInt32} {v : Value} (h : RatV b n m v w) :
    ∃ g x y w', (Instr.box 42 v).run Tryz.prog w = .ok (.pointer (some ⟨g, 0, none⟩)) w' ∧ Ext w w' ∧ Blk g 42 [B b, x, y] w' ∧ Wds n x w' ∧ Wds m y w' := by
  obtain ⟨x, y, rfl, hx, hy⟩ := h
  exact ⟨_, x, y, _, r_box, Ext.new w _, Blk.new (T := 42) (.agg #[B b, x, y]) rfl, hx.ext (Ext.new w _), hy.ext (Ext.new w _)⟩
theorem zero_Rat : (Tryz.prog.info? 42).map (·.zero) = some (some (.agg #[B false, .slice none 0 0, .slice none 0 0])) := by kernel_rfl
theorem r_allocR : ∃ g w', (Instr.alloc 42 true (.tuple #[])).run Tryz.prog w = .ok (.pointer (some ⟨g, 0, none⟩)) w' ∧ w.heap.size ≤ g ∧ Ext w w' ∧ Blk g 42 [B false, .slice none 0 0, .slice none 0 0] w' :=
  r_allocB zero_Rat rfl
theorem rat_noWord (b : Bool) (A C : Option Addr) (n c m d : Nat) (l : List UInt32) : ∀ (j : Nat) (u : Value), u ∈ l.map U32 → (#[.bool b, .slice A n c, .slice C m d] : Array Value)[j]? ≠ some u := by
  intro j u hu
  obtain ⟨x, _, rfl⟩ := List.mem_map.1 hu
  match j with
  | 0 => simp [U32]
  | 1 => simp [U32]
  | 2 => simp [U32]
  | j + 3 => simp
/-- Limbs stand when a block that holds a rational is written. -/
theorem Wds.byR {l : List UInt32} {v : Value} {g : Nat} {T : TypeId} {b : Bool} {x y : Value} (h : Wds l v w) (hb : Blk g T [B b, x, y] w) (hx : ∃ A n c, x = .slice A n c) (hy : ∃ A n c, y = .slice A n c) (hw : w.grownBy w' (some g)) : Wds l v w' := by
  obtain ⟨A, n, c, rfl⟩ := hx
  obtain ⟨C, m, d, rfl⟩ := hy
  exact Sl.keep h hb (rat_noWord b A C n c m d l) hw
theorem Wds.isS {l : List UInt32} {v : Value} (h : Wds l v w) : ∃ A n c, v = .slice A n c := by
  obtain ⟨A, n, c, rfl, _⟩ := h
  exact ⟨A, n, c, rfl⟩
/-- A rational is stored into a block that holds one. -/
theorem Blk.stR {g : Nat} {b c : Bool} {x y v : Value} {n m : List UInt32} (h : Blk g 42 [B b, x, y] w) (hx : ∃ A n c, x = .slice A n c) (hy : ∃ A n c, y = .slice A n c) (hv : RatV c n m v w) :
    ∃ p q w', v = .agg #[B c, p, q] ∧ (Instr.storeAt 42 (.pointer (some ⟨g, 0, none⟩)) v).run Tryz.prog w = .ok () w' ∧ w.grownBy w' (some g) ∧ Blk g 42 [B c, p, q] w' ∧ Wds n p w' ∧ Wds m q w' := by
  obtain ⟨p, q, rfl, hp, hq⟩ := hv
  obtain ⟨A, n1, c1, rfl⟩ := hp.isS
  obtain ⟨C, n2, c2, rfl⟩ := hq.isS
  refine ⟨_, _, _, rfl, r_stA (m := [B c, .slice A n1 c1, .slice C n2 c2]) h rfl size_Rat ?_, grownBy_setRow w g _, h.row _, hp.byR h hx hy (grownBy_setRow w g _), hq.byR h hx hy (grownBy_setRow w g _)⟩
  intro u hu
  simp only [List.mem_cons, List.not_mem_nil, or_false] at hu
  rcases hu with rfl | rfl | rfl <;> rfl
theorem r_eql_b {P : Program} {x y : Operand} {t : TypeId} (ht : P.underlying t = some .bool) {a b : Bool} : (bin .eql t x y (B a) (B b)).run P w = .ok (B (decide (a = b))) w := by
  have h : (Op.equal t (B a) (B b)).run P w = .ok (decide (a = b)) w := by
    show (Op.equalIn (9999 + 1) t (.bool a) (.bool b)).run P w = _
    unfold Op.equalIn
    cases a <;> cases b <;> simp [run_underlying ht]
  show (do pure (Value.bool (← Op.equal t (B a) (B b))) : Sem Value).run P w = _
  rw [Sem.run_bind, h]; rfl
theorem r_buildR {c : Bool} {p q : Value} (hp : ∃ A n c, p = .slice A n c) (hq : ∃ A n c, q = .slice A n c) : (Instr.build 42 #[(0, B c), (1, p), (2, q)]).run Tryz.prog w = .ok (.agg #[B c, p, q]) w := by
  obtain ⟨A, n, d, rfl⟩ := hp
  obtain ⟨C, m, e, rfl⟩ := hq
  exact run_build _ _ _ #[B c, .slice A n d, .slice C m e] (by kernel_rfl)
theorem r_buildR2 {c : Bool} {p : Value} (hp : ∃ A n c, p = .slice A n c) : (Instr.build 42 #[(0, B c), (1, p)]).run Tryz.prog w = .ok (.agg #[B c, p, .slice none 0 0]) w := by
  obtain ⟨A, n, d, rfl⟩ := hp
  exact run_build _ _ _ #[B c, .slice A n d, .slice none 0 0] (by kernel_rfl)
theorem r_buildR0 : (Instr.build 42 #[]).run Tryz.prog w = .ok (.agg #[B false, .slice none 0 0, .slice none 0 0]) w :=
  run_build _ _ _ #[B false, .slice none 0 0, .slice none 0 0] (by kernel_rfl)
end

/-! ### Plain maths -/
theorem val_inj : ∀ {l m : List UInt32}, l.length = m.length → val l = val m → l = m
  | [], [], _, _ => rfl
  | [], _ :: _, h, _ => by simp at h
  | _ :: _, [], h, _ => by simp at h
  | x :: l, y :: m, h, hv => by
    have hx := u32_lt x
    have hy := u32_lt y
    rw [val, val] at hv
    have h1 : x.toNat = y.toNat := by omega
    have h2 : val l = val m := by omega
    rw [u32_ext h1, val_inj (by simpa using h) h2]
def ud (m : List UInt32) : List UInt32 := if val m = 0 then [1] else m
theorem val_one1 : val [1] = 1 := rfl
theorem lb_one : lb 1 = [1] := rfl
theorem val_ud (m : List UInt32) : val (ud m) = if val m = 0 then 1 else val m := by unfold ud; split <;> simp_all [val_one1]
theorem ud_pos (m : List UInt32) : 0 < val (ud m) := by rw [val_ud]; split <;> omega
/-- The canonical form of a quotient. -/
def cqN (s : Bool) (n : Nat) : Bool := s && decide (0 < n)
def cqD (n d : Nat) : List UInt32 := if d / Nat.gcd n d = 1 then [] else lb (d / Nat.gcd n d)
/-- Whether a rational is canonical. -/
def rv (s : Bool) (n m : List UInt32) : Bool := decide (s = cqN s (val n) ∧ n = lb (val n / Nat.gcd (val n) (val (ud m))) ∧ m = cqD (val n) (val (ud m)))
theorem gcd_pos {n d : Nat} (h : 0 < d) : 0 < Nat.gcd n d := Nat.gcd_pos_of_pos_right n h
theorem lb_is1 {x : Nat} : lb x = [1] ↔ x = 1 := ⟨fun h => lb_inj (h.trans lb_one.symm), fun h => by rw [h, lb_one]⟩
theorem cq_zero {d : Nat} (h : 0 < d) : cqD 0 d = [] := by unfold cqD; rw [Nat.gcd_zero_left, Nat.div_self h, if_pos rfl]
theorem cq_one {n : Nat} : cqD n 1 = [] := by unfold cqD; rw [Nat.gcd_one_right]; rfl
end Go.Rl
/- Walks of package rational: the canonical form. Conditions: the numbers are shorter than 2^37 limbs. -/
namespace Go.Rl
open Go.RowKit Go.Proofs
theorem call_QOne : Callable Tryz.prog 116 := ⟨_, Tryz.func116, by kernel_rfl, rfl⟩
theorem call_QUnit : Callable Tryz.prog 112 := ⟨_, Tryz.func112, by kernel_rfl, rfl⟩
theorem call_QUnder : Callable Tryz.prog 91 := ⟨_, Tryz.func91, by kernel_rfl, rfl⟩
theorem call_QQuot : Callable Tryz.prog 90 := ⟨_, Tryz.func90, by kernel_rfl, rfl⟩
theorem call_QCanon : Callable Tryz.prog 75 := ⟨_, Tryz.func75, by kernel_rfl, rfl⟩
theorem call_QValid : Callable Tryz.prog 39 := ⟨_, Tryz.func39, by kernel_rfl, rfl⟩
theorem dec_pick {p : Prop} {b : Bool} {dp : Decidable p} (h : b = @decide p dp) : B b = B (@decide p dp) := by rw [h]
theorem QOne_spec {w : World} :
    Calls Tryz.prog 116 #[] w (Ret fun r w' => Ext w w' ∧ Wds [1] r w') := by
  refine enter (vs := []) Tryz.func116 rfl rfl rfl ?_
  refine c_seq (c_region (o_assign rfl rfl (o_nil (n_then (c_seq (c_region ?_))))))
  obtain ⟨v1, w1, hr1, x1, o1, ob1⟩ := r_bsW Tryz.underlying40 (w := w) w.heap.size [1] (by simp) (Nat.le_refl _)
  refine o_buildSlice (vs := [(0, U32 (1))]) rfl rfl hr1 (o_assign rfl rfl (o_nil (n_then (c_ret (r_body1 rfl rfl ?_)))))
  exact ⟨_, rfl, x1, o1.wds⟩
theorem QUnit_spec {w : World} {x : Nat} {v : Value} (hv : Wds (lb x) v w) :
    Calls Tryz.prog 112 #[v] w (Ret fun r w' => w = w' ∧ r = B (decide (x = 1))) := by
  refine enter (vs := [v]) Tryz.func112 rfl rfl rfl ?_
  obtain ⟨t, ht⟩ : ∃ t, t = lb x := ⟨_, rfl⟩
  rw [← ht] at hv
  have h1 : x = 1 ↔ t = [1] := by rw [ht]; exact lb_is1.symm
  refine c_seq (c_region (o_assign rfl rfl (o_nil (n_then (c_seq (c_region (o_move rfl rfl (o_len rfl rfl (r_lenW Tryz.underlying40 hv) (o_bin rfl rfl rfl (r_eql_i) ?_)))))))))
  refine o_move rfl rfl ?_
  refine o_dec (fun h6 => ?_) (fun h6 => ?_)
  · refine g_yes rfl (o_move rfl rfl (g_yes rfl ?_))
    obtain ⟨a8, p8, q8⟩ := r_ixW Tryz.underlying40 hv (i := 0) (by omega) .i64
    refine o_indexAddr rfl rfl rfl (p8 _) (g_yes rfl (o_load rfl rfl (r_load1 Tryz.underlying65 rfl q8) (g_yes rfl (o_bin (v := U32 1) rfl rfl rfl (r_eql_u32) (o_pick_t rfl rfl rfl ?_)))))
    refine o_assign rfl rfl (o_nil (n_then (c_ret (r_body1 rfl rfl ?_))))
    exact ⟨_, rfl, rfl, by
      first
      | exact congrArg B (decide_eq_false fun h => h6 (by rw [h1.1 h]; rfl)).symm
      | exact congrArg B (decide_eq_decide.2 (by
          rw [h1]
          obtain ⟨y, rfl⟩ := List.length_eq_one_iff.1 (show t.length = 1 by omega)
          simp))⟩
  · refine g_no rfl rfl rfl (g_no rfl rfl rfl (g_no rfl rfl rfl (g_no rfl rfl rfl (o_pick_f rfl rfl rfl (o_assign rfl rfl (o_nil (n_then (c_ret (r_body1 rfl rfl ?_)))))))))
    exact ⟨_, rfl, rfl, by
      first
      | exact congrArg B (decide_eq_false fun h => h6 (by rw [h1.1 h]; rfl)).symm
      | exact congrArg B (decide_eq_decide.2 (by
          rw [h1]
          obtain ⟨y, rfl⟩ := List.length_eq_one_iff.1 (show t.length = 1 by omega)
          simp))⟩
theorem QUnder_spec {w : World} {b : Bool} {n m : List UInt32} {v : Value} (hv : RatV b n m v w) (hl : m.length ≤ 1099511627776) :
    Calls Tryz.prog 91 #[v] w (Ret fun r w' => Ext w w' ∧ Wds (ud m) r w') := by
  refine enter (vs := [v]) Tryz.func91 rfl rfl rfl ?_
  refine c_seq (c_region ?_)
  obtain ⟨g1, y1, z1, w1, hr1, x1, k1, n1, d1⟩ := r_boxR hv
  refine o_box rfl rfl hr1 (o_assign rfl rfl (o_nil (n_then (c_seq (c_seq (c_region (o_fieldAddr rfl rfl (r_fAt (o := 2) Tryz.underlying42 rfl (by kernel_rfl) rfl) ?_)))))))
  refine o_load rfl rfl (r_load1 Tryz.underlying40 rfl (k1.cell (i := 2) rfl)) (o_call call_NBits rfl rfl (NBits_spec d1 hl) ?_)
  rintro v5 _ ⟨rfl, rfl⟩
  refine o_bin rfl rfl rfl (r_eql_i) (o_nil (n_then ?_))
  refine c_if rfl (fun h6 => ?_) (fun h6 => ?_)
  · have h0 : val m = 0 := by
      rcases Nat.eq_zero_or_pos (val m) with h | h
      · exact h
      · have := bl_pos h
        omega
    refine c_seq (c_region (o_call (vs := []) call_QOne rfl rfl (QOne_spec) ?_))
    rintro v7 w7 ⟨x7, b7⟩
    refine o_assign rfl rfl (o_nil (n_then (c_ret (r_then (r_body1 rfl rfl ?_)))))
    exact ⟨_, rfl, (x1.trans x7), by unfold ud; rw [if_pos h0]; exact b7⟩
  · have h0 : val m ≠ 0 := fun h => h6 (by rw [h]; rfl)
    refine c_skip (n_then (c_seq (c_region (o_fieldAddr rfl rfl (r_fAt (o := 2) Tryz.underlying42 rfl (by kernel_rfl) rfl) (o_load rfl rfl (r_load1 Tryz.underlying40 rfl (k1.cell (i := 2) rfl)) ?_)))))
    refine o_assign rfl rfl (o_nil (n_then (c_ret (r_body1 rfl rfl ?_))))
    exact ⟨_, rfl, x1, by unfold ud; rw [if_neg h0]; exact d1⟩
theorem QQuot_spec {w : World} {s : Bool} {n d : List UInt32} {x y : Value} (hn : Wds n x w) (hd : Wds d y w) (hnl : n.length ≤ 274877906944) (hdl : d.length ≤ 274877906944) (hd0 : 0 < val d) :
    Calls Tryz.prog 90 #[B s, x, y] w (Ret fun r w' => Ext w w' ∧ RatV (cqN s (val n)) (lb (val n / Nat.gcd (val n) (val d))) (cqD (val n) (val d)) r w') := by
  refine enter (vs := [B s, x, y]) Tryz.func90 rfl rfl rfl ?_
  have hnn := lb_lt (val_lt n)
  have hdd := lb_lt (val_lt d)
  have hg0 := gcd_pos (n := val n) hd0
  refine c_seq (c_region ?_)
  obtain ⟨g6, w6, hr6, l6, x6, k6⟩ := r_allocR (w := w)
  refine o_alloc rfl hr6 (o_nil (n_then (c_seq (c_region (o_move rfl rfl (o_call call_NMake rfl rfl (NMake_spec (hn.ext x6) (by omega)) ?_))))))
  rintro v9 w9 ⟨x9, b9⟩
  refine o_assign rfl rfl (o_nil (n_then (c_seq (c_seq (c_region (o_move rfl rfl (o_len (r := I ((lb (val n)).length : Int)) rfl rfl (r_lenW Tryz.underlying40 b9) ?_)))))))
  refine o_bin rfl rfl rfl (r_eql_i) (o_nil (n_then ?_))
  refine c_if rfl (fun h12 => ?_) (fun h12 => ?_)
  · have hn0 : val n = 0 := lb_len0.1 (by omega)
    refine c_seq (c_region ?_)
    refine o_build (vs := []) rfl rfl r_buildR0 ?_
    obtain ⟨p, q, w3, hp, hs, q3, k3, n3, d3⟩ := (k6.ext (x9)).stR ⟨_, _, _, rfl⟩ ⟨_, _, _, rfl⟩ (RatV.mk (b := false) (Wds.nil _) (Wds.nil _))
    refine o_store rfl rfl (hs) (o_nil (n_then (c_ret (r_then ?_))))
    refine r_bodyc rfl rfl k3 Tryz.underlying42 rfl size_Rat ?_
    exact ⟨_, rfl, ((x6.trans x9)).of_new q3 l6, p, q, by rw [hn0]; unfold cqN; simp, by rw [hn0, Nat.zero_div]; exact n3, by rw [hn0, cq_zero hd0]; exact d3⟩
  · have hn0 : 0 < val n := by
      rcases Nat.eq_zero_or_pos (val n) with h | h
      · rw [h] at h12; simp [lb_zero] at h12
      · exact h
    have hcN : cqN s (val n) = s := by unfold cqN; rw [decide_eq_true hn0, Bool.and_true]
    rw [hcN]
    refine c_skip (n_then (c_seq (c_region (o_move rfl rfl (o_call call_NMake rfl rfl (NMake_spec (hd.ext (x6.trans x9)) (by omega)) ?_)))))
    rintro v15 w15 ⟨x15, b15⟩
    refine o_assign rfl rfl (o_nil (n_then (c_seq (c_seq (c_region (o_move rfl rfl (o_call call_QUnit rfl rfl (QUnit_spec b15) ?_)))))))
    rintro v17 _ ⟨rfl, rfl⟩
    refine o_nil (n_then ?_)
    refine c_if rfl (fun h17 => ?_) (fun h17 => ?_)
    · refine c_seq (c_region (o_move rfl rfl (o_move rfl rfl ?_)))
      refine o_build (vs := [(0, B s), (1, v9)]) rfl rfl (r_buildR2 b9.isS) ?_
      obtain ⟨p, q, w3, hp, hs, q3, k3, n3, d3⟩ := (k6.ext ((x9.trans x15))).stR ⟨_, _, _, rfl⟩ ⟨_, _, _, rfl⟩ (RatV.mk (b := s) (b9.ext (x15)) (Wds.nil _))
      refine o_store rfl rfl (hs) (o_nil (n_then (c_ret (r_then ?_))))
      refine r_bodyc rfl rfl k3 Tryz.underlying42 rfl size_Rat ?_
      exact ⟨_, rfl, (((x6.trans x9).trans x15)).of_new q3 l6, p, q, rfl, by rw [h17, Nat.gcd_one_right, Nat.div_one]; exact n3, by rw [h17, cq_one]; exact d3⟩
    · obtain ⟨g, hg⟩ : ∃ g, g = Nat.gcd (val n) (val d) := ⟨_, rfl⟩
      rw [← hg] at hg0 ⊢
      have hgl : (lb g).length ≤ d.length := Nat.le_trans (lb_len_lt (by rw [hg]; exact Nat.gcd_le_right _ hd0)) hdd
      refine c_skip (n_then (c_seq ?_))
      refine c_cut (fun p : Value × Value => [(0, B s), (1, p.1), (2, p.2), (6, .pointer (some ⟨g6, 0, none⟩))]) (fun p w' => Ext w15 w' ∧ Wds (lb (val n / g)) p.1 w' ∧ Wds (lb (val d / g)) p.2 w') ?_ ?_
      · refine c_seq (c_region (o_move rfl rfl (o_move rfl rfl (o_call call_NGcd rfl rfl ((by have := NGcd_spec (b9.ext x15) b15 (by omega) (by omega); rw [val_lb, val_lb] at this; exact this)) ?_))))
        rintro v23 w23 ⟨x23, b23⟩
        rw [← hg] at b23
        refine o_assign rfl rfl (o_nil (n_then (c_seq (c_region (o_move rfl rfl (o_call call_QUnit rfl rfl (QUnit_spec b23) ?_))))))
        rintro v25 _ ⟨rfl, rfl⟩
        refine o_not rfl rfl r_not_d (o_nil (n_then ?_))
        refine c_if rfl (fun h26 => ?_) (fun h26 => ?_)
        · refine c_seq (c_region (o_move rfl rfl (o_move rfl rfl (o_call call_NDivMod rfl rfl ((by have := NDivMod_spec (b9.ext (x15.trans x23)) b23 (by omega) (by omega) (by rw [val_lb]; exact hg0); rw [val_lb, val_lb] at this; exact this)) ?_))))
          rintro v30 w30 ⟨x30, q1, s1, rfl, c1, e1⟩
          refine o_move rfl rfl (o_extract rfl rfl (r_ext3_0) (o_extract rfl rfl r_ext3_1 (o_extract rfl rfl r_ext3_2 (o_assign rfl rfl (o_nil (n_then (c_region (o_move rfl rfl (o_move rfl rfl ?_)))))))))
          refine o_call call_NDivMod rfl rfl ((by have := NDivMod_spec (b15.ext (x23.trans x30)) (b23.ext x30) (by omega) (by omega) (by rw [val_lb]; exact hg0); rw [val_lb, val_lb] at this; exact this)) ?_
          rintro v37 w37 ⟨x37, q2, s2, rfl, c2, e2⟩
          refine o_move rfl rfl (o_extract rfl rfl (r_ext3_0) (o_extract rfl rfl r_ext3_1 (o_extract rfl rfl r_ext3_2 (o_assign rfl rfl (o_nil ?_)))))
          exact n_meet (q1, q2) ⟨rfl, rfl, rfl, rfl, trivial⟩ ⟨((x23.trans x30).trans x37), by first | exact (c1.ext x37) | (rw [show g = 1 from Classical.byContradiction fun h => h26 h, Nat.div_one]; exact (c1.ext x37)), by first | exact c2 | (rw [show g = 1 from Classical.byContradiction fun h => h26 h, Nat.div_one]; exact c2)⟩
        · refine c_skip ?_
          exact n_meet (v9, v15) ⟨rfl, rfl, rfl, rfl, trivial⟩ ⟨x23, by first | exact (b9.ext (x15.trans x23)) | (rw [show g = 1 from Classical.byContradiction fun h => h26 h, Nat.div_one]; exact (b9.ext (x15.trans x23))), by first | exact (b15.ext x23) | (rw [show g = 1 from Classical.byContradiction fun h => h26 h, Nat.div_one]; exact (b15.ext x23))⟩
      rintro ⟨v1, v2⟩ w8 ⟨x8, b1, b2⟩
      refine n_then (c_seq ?_)
      refine c_cut (fun p : Value => [(0, B s), (1, v1), (2, p), (6, .pointer (some ⟨g6, 0, none⟩))]) (fun p w' => w8 = w' ∧ Wds (cqD (val n) (val d)) p w') ?_ ?_
      · refine c_seq (c_region (o_move rfl rfl (o_call call_QUnit rfl rfl (QUnit_spec b2) ?_)))
        rintro v42 _ ⟨rfl, rfl⟩
        refine o_nil (n_then ?_)
        refine c_if rfl (fun h42 => ?_) (fun h42 => ?_)
        · refine c_region (o_assign rfl rfl (o_nil ?_))
          exact n_meet (.slice none 0 0) ⟨rfl, rfl, rfl, rfl, trivial⟩ ⟨rfl, by unfold cqD; rw [← hg]; first | (rw [if_pos h42]; exact Wds.nil _) | (rw [if_neg h42]; exact b2)⟩
        · refine c_skip ?_
          exact n_meet (v2) ⟨rfl, rfl, rfl, rfl, trivial⟩ ⟨rfl, by unfold cqD; rw [← hg]; first | (rw [if_pos h42]; exact Wds.nil _) | (rw [if_neg h42]; exact b2)⟩
      rintro v2' _ ⟨rfl, b2'⟩
      refine n_then (c_seq (c_region (o_move rfl rfl (o_move rfl rfl (o_move rfl rfl ?_)))))
      refine o_build (vs := [(0, B s), (1, v1), (2, v2')]) rfl rfl (r_buildR b1.isS b2'.isS) ?_
      obtain ⟨p, q, w3, hp, hs, q3, k3, n3, d3⟩ := (k6.ext (((x9.trans x15).trans x8))).stR ⟨_, _, _, rfl⟩ ⟨_, _, _, rfl⟩ (RatV.mk (b := s) b1 b2')
      refine o_store rfl rfl (hs) (o_nil (n_then (c_ret ?_)))
      refine r_bodyc rfl rfl k3 Tryz.underlying42 rfl size_Rat ?_
      exact ⟨_, rfl, ((((x6.trans x9).trans x15).trans x8)).of_new q3 l6, p, q, rfl, n3, d3⟩
theorem ud_len {m : List UInt32} (h : m.length ≤ 137438953472) : (ud m).length ≤ 137438953472 := by
  unfold ud
  split
  · simp
  · exact h
theorem QCanon_spec {w : World} {b : Bool} {n m : List UInt32} {v : Value} (hv : RatV b n m v w) (hnl : n.length ≤ 137438953472) (hml : m.length ≤ 137438953472) :
    Calls Tryz.prog 75 #[v] w (Ret fun r w' => Ext w w' ∧ RatV (cqN b (val n)) (lb (val n / Nat.gcd (val n) (val (ud m)))) (cqD (val n) (val (ud m))) r w') := by
  refine enter (vs := [v]) Tryz.func75 rfl rfl rfl ?_
  refine c_seq (c_region ?_)
  obtain ⟨g1, y1, z1, w1, hr1, x1, k1, n1, d1⟩ := r_boxR hv
  refine o_box rfl rfl hr1 ?_
  obtain ⟨g2, w2, hr2, l2, x2, k2⟩ := r_allocR (w := w1)
  refine o_alloc rfl hr2 (o_nil (n_then (c_seq (c_grow 7 [2, 9] (by kernel_rfl) (by kernel_rfl) ?_))))
  refine f_fieldAddr rfl rfl (fun w hw => r_fAt (o := 0) Tryz.underlying42 rfl (by kernel_rfl) rfl) (f_load rfl rfl (fun w hw => r_load1 Tryz.underlying4 rfl (hw.cell_some (x2.cell_some (k1.cell (i := 0) rfl)))) ?_)
  refine f_fieldAddr rfl rfl (fun w hw => r_fAt (o := 1) Tryz.underlying42 rfl (by kernel_rfl) rfl) (f_load rfl rfl (fun w hw => r_load1 Tryz.underlying40 rfl (hw.cell_some (x2.cell_some (k1.cell (i := 1) rfl)))) ?_)
  refine f_load rfl rfl (fun w hw => ((k1.ext x2).ext hw).ldR) (f_call (S := Wds (ud m)) call_QUnder (Wds.stable _) rfl (fun w hw => by rintro _ rfl; exact QUnder_spec (((RatV.mk n1 d1).ext x2).ext hw) (by omega)) ?_)
  refine f_call (S := RatV (cqN b (val n)) (lb (val n / Nat.gcd (val n) (val (ud m)))) (cqD (val n) (val (ud m)))) call_QQuot (RatV.stable _ _ _) rfl (fun w hw => by rintro _ rfl _ rfl z hz; exact QQuot_spec ((n1.ext x2).ext hw) hz (by omega) (by have := ud_len hml; omega) (ud_pos m)) ?_
  refine f_nil ?_
  intro wg1 xg1
  rintro _ rfl
  intro vg9 b9
  obtain ⟨p, q, w3, hp, hs, q3, k3, n3, d3⟩ := (k2.ext xg1).stR ⟨_, _, _, rfl⟩ ⟨_, _, _, rfl⟩ b9
  refine o_store rfl rfl (hs) (o_nil (n_then (c_ret ?_)))
  refine r_bodyc rfl rfl k3 Tryz.underlying42 rfl size_Rat ?_
  exact ⟨_, rfl, (((x1.trans x2).trans xg1)).of_new q3 (Nat.le_trans x1.size l2), p, q, rfl, n3, d3⟩
theorem cmpN_zero {x y : Nat} : cmpN x y = 0 ↔ x = y := by
  unfold cmpN
  split
  · omega
  · split <;> omega
theorem rv_nil {b : Bool} {n : List UInt32} : rv b n [] = decide (b = cqN b (val n) ∧ n = lb (val n)) := by
  unfold rv
  rw [show val (ud []) = 1 from rfl, Nat.gcd_one_right, Nat.div_one, cq_one]
  simp
theorem QValid_spec {w : World} {b : Bool} {n m : List UInt32} {v : Value} (hv : RatV b n m v w) (hnl : n.length ≤ 137438953472) (hml : m.length ≤ 137438953472) :
    Calls Tryz.prog 39 #[v] w (Ret fun r w' => Ext w w' ∧ r = B (rv b n m)) := by
  refine enter (vs := [v]) Tryz.func39 rfl rfl rfl ?_
  obtain ⟨b', hb'⟩ : ∃ b', b' = cqN b (val n) := ⟨_, rfl⟩
  obtain ⟨n', hn'⟩ : ∃ n', n' = lb (val n / Nat.gcd (val n) (val (ud m))) := ⟨_, rfl⟩
  obtain ⟨m', hm'⟩ : ∃ m', m' = cqD (val n) (val (ud m)) := ⟨_, rfl⟩
  have hrv : rv b n m = decide (b = b' ∧ n = n' ∧ m = m') := by rw [hb', hn', hm']; rfl
  refine c_seq (c_region ?_)
  obtain ⟨g1, y1, z1, w1, hr1, x1, k1, n1, d1⟩ := r_boxR hv
  refine o_box rfl rfl hr1 (o_assign rfl rfl (o_nil (n_then (c_seq (c_seq (c_region (o_fieldAddr rfl rfl (r_fAt (o := 2) Tryz.underlying42 rfl (by kernel_rfl) rfl) ?_)))))))
  refine o_load rfl rfl (r_load1 Tryz.underlying40 rfl (k1.cell (i := 2) rfl)) (o_len rfl rfl (r_lenW Tryz.underlying40 d1) (o_bin rfl rfl rfl (r_eql_i) ?_))
  refine o_nil (n_then ?_)
  refine c_if rfl (fun h7 => ?_) (fun h7 => ?_)
  · have hm0 : m = [] := List.eq_nil_of_length_eq_zero (by omega)
    subst hm0
    refine c_seq ?_
    cases b
    · refine c_region (o_fieldAddr rfl rfl (r_fAt (o := 1) Tryz.underlying42 rfl (by kernel_rfl) rfl) (o_load rfl rfl (r_load1 Tryz.underlying40 rfl (k1.cell (i := 1) rfl)) ?_))
      refine o_call call_NValid rfl rfl (NValid_spec n1) ?_
      rintro v10 _ ⟨rfl, rfl⟩
      refine o_move rfl rfl ?_
      refine o_dec (fun h11 => ?_) (fun h11 => ?_)
      · refine g_yes rfl (o_fieldAddr rfl rfl (r_fAt (o := 0) Tryz.underlying42 rfl (by kernel_rfl) rfl) (g_yes rfl (o_load rfl rfl (r_load1 Tryz.underlying4 rfl (k1.cell (i := 0) rfl)) ?_)))
        refine g_yes rfl (o_not rfl rfl r_not (g_yes rfl (o_move rfl rfl (g_no rfl rfl rfl (g_no rfl rfl rfl (g_no rfl rfl rfl (g_no rfl rfl rfl (g_yes rfl (o_pick_t rfl rfl rfl (o_pick_t rfl rfl rfl ?_))))))))))
        refine o_assign rfl rfl (o_nil (n_then (c_ret (r_then (r_body1 rfl rfl ?_)))))
        exact ⟨_, rfl, x1, by
          rw [rv_nil]
          first
          | exact congrArg B (decide_eq_true ⟨rfl, h11.symm⟩).symm
          | exact congrArg B (decide_eq_false fun h => h11 h.2.symm).symm
          | (have e := @lb_len0 (val n)
             rw [h11] at e
             refine congrArg B (decide_eq_decide.2 ⟨fun h => ⟨(decide_eq_true (show 0 < val n by omega)).symm, h11.symm⟩, fun h => ?_⟩)
             have : 0 < val n := of_decide_eq_true h.1.symm
             omega)⟩
      · refine g_no rfl rfl rfl (g_no rfl rfl rfl (g_no rfl rfl rfl (g_no rfl rfl rfl (g_undef rfl rfl rfl (g_undef rfl rfl rfl (g_undef rfl rfl rfl (g_undef rfl rfl rfl (g_no rfl rfl rfl ?_))))))))
        refine o_pick_f rfl rfl rfl (o_assign rfl rfl (o_nil (n_then (c_ret (r_then (r_body1 rfl rfl ?_))))))
        exact ⟨_, rfl, x1, by
          rw [rv_nil]
          first
          | exact congrArg B (decide_eq_true ⟨rfl, h11.symm⟩).symm
          | exact congrArg B (decide_eq_false fun h => h11 h.2.symm).symm
          | (have e := @lb_len0 (val n)
             rw [h11] at e
             refine congrArg B (decide_eq_decide.2 ⟨fun h => ⟨(decide_eq_true (show 0 < val n by omega)).symm, h11.symm⟩, fun h => ?_⟩)
             have : 0 < val n := of_decide_eq_true h.1.symm
             omega)⟩
    · refine c_region (o_fieldAddr rfl rfl (r_fAt (o := 1) Tryz.underlying42 rfl (by kernel_rfl) rfl) (o_load rfl rfl (r_load1 Tryz.underlying40 rfl (k1.cell (i := 1) rfl)) ?_))
      refine o_call call_NValid rfl rfl (NValid_spec n1) ?_
      rintro v10 _ ⟨rfl, rfl⟩
      refine o_move rfl rfl ?_
      refine o_dec (fun h11 => ?_) (fun h11 => ?_)
      · refine g_yes rfl (o_fieldAddr rfl rfl (r_fAt (o := 0) Tryz.underlying42 rfl (by kernel_rfl) rfl) (g_yes rfl (o_load rfl rfl (r_load1 Tryz.underlying4 rfl (k1.cell (i := 0) rfl)) ?_)))
        refine g_yes rfl (o_not rfl rfl r_not (g_yes rfl (o_move rfl rfl (g_yes rfl (o_fieldAddr rfl rfl (r_fAt (o := 1) Tryz.underlying42 rfl (by kernel_rfl) rfl) ?_)))))
        refine g_yes rfl (o_load rfl rfl (r_load1 Tryz.underlying40 rfl (k1.cell (i := 1) rfl)) (g_yes rfl (o_len rfl rfl (r_lenW Tryz.underlying40 n1) ?_)))
        refine g_yes rfl (o_bin rfl rfl rfl (r_gtr_i) (g_yes rfl (o_pick_f rfl rfl rfl (o_pick_t rfl rfl rfl (o_assign rfl rfl (o_nil (n_then (c_ret (r_then (r_body1 rfl rfl ?_))))))))))
        exact ⟨_, rfl, x1, by
          rw [rv_nil]
          first
          | exact congrArg B (decide_eq_true ⟨rfl, h11.symm⟩).symm
          | exact congrArg B (decide_eq_false fun h => h11 h.2.symm).symm
          | (have e := @lb_len0 (val n)
             rw [h11] at e
             refine congrArg B (decide_eq_decide.2 ⟨fun h => ⟨(decide_eq_true (show 0 < val n by omega)).symm, h11.symm⟩, fun h => ?_⟩)
             have : 0 < val n := of_decide_eq_true h.1.symm
             omega)⟩
      · refine g_no rfl rfl rfl (g_no rfl rfl rfl (g_no rfl rfl rfl (g_no rfl rfl rfl (g_undef rfl rfl rfl (g_undef rfl rfl rfl (g_undef rfl rfl rfl (g_undef rfl rfl rfl (g_no rfl rfl rfl ?_))))))))
        refine o_pick_f rfl rfl rfl (o_assign rfl rfl (o_nil (n_then (c_ret (r_then (r_body1 rfl rfl ?_))))))
        exact ⟨_, rfl, x1, by
          rw [rv_nil]
          first
          | exact congrArg B (decide_eq_true ⟨rfl, h11.symm⟩).symm
          | exact congrArg B (decide_eq_false fun h => h11 h.2.symm).symm
          | (have e := @lb_len0 (val n)
             rw [h11] at e
             refine congrArg B (decide_eq_decide.2 ⟨fun h => ⟨(decide_eq_true (show 0 < val n by omega)).symm, h11.symm⟩, fun h => ?_⟩)
             have : 0 < val n := of_decide_eq_true h.1.symm
             omega)⟩
  · refine c_skip (n_then (c_seq (c_region (o_load rfl rfl (k1.ldR) (o_call call_QCanon rfl rfl (QCanon_spec (RatV.mk n1 d1) hnl hml) ?_)))))
    rintro v23 w23 ⟨x23, b23⟩
    rw [← hb', ← hn', ← hm'] at b23
    obtain ⟨g3, w3, hr3, l3, x3, k3⟩ := r_allocR (w := w23)
    refine o_alloc rfl hr3 ?_
    obtain ⟨p, q, w4, hp, hs, q4, k4, n3, d3⟩ := k3.stR ⟨_, _, _, rfl⟩ ⟨_, _, _, rfl⟩ (b23.ext x3)
    refine o_store rfl rfl (hs) ?_
    have x4 := (x23.trans x3).of_new q4 (Nat.le_trans x23.size l3)
    refine o_nil (n_then (c_seq (c_region (o_fieldAddr rfl rfl (r_fAt (o := 0) Tryz.underlying42 rfl (by kernel_rfl) rfl) (o_load rfl rfl (r_load1 Tryz.underlying4 rfl (x4.cell_some (k1.cell (i := 0) rfl))) ?_)))))
    refine o_fieldAddr rfl rfl (r_fAt (o := 0) Tryz.underlying42 rfl (by kernel_rfl) rfl) (o_load rfl rfl (r_load1 Tryz.underlying4 rfl (k4.cell (i := 0) rfl)) ?_)
    refine o_bin rfl rfl rfl (r_eql_b Tryz.underlying4) (o_move rfl rfl ?_)
    refine o_dec (fun h29 => ?_) (fun h29 => ?_)
    · refine g_yes rfl (o_fieldAddr rfl rfl (r_fAt (o := 1) Tryz.underlying42 rfl (by kernel_rfl) rfl) (g_yes rfl (o_load rfl rfl (r_load1 Tryz.underlying40 rfl (x4.cell_some (k1.cell (i := 1) rfl))) ?_)))
      refine g_yes rfl (o_len rfl rfl (r_lenW Tryz.underlying40 (n1.ext x4)) (g_yes rfl (o_fieldAddr rfl rfl (r_fAt (o := 1) Tryz.underlying42 rfl (by kernel_rfl) rfl) ?_)))
      refine g_yes rfl (o_load rfl rfl (r_load1 Tryz.underlying40 rfl (k4.cell (i := 1) rfl)) (g_yes rfl (o_len rfl rfl (r_lenW Tryz.underlying40 n3) ?_)))
      refine g_yes rfl (o_bin rfl rfl rfl (r_eql_i) (o_pick_t rfl rfl rfl (o_move rfl rfl ?_)))
      refine o_dec (fun h38 => ?_) (fun h38 => ?_)
      · refine g_yes rfl (o_fieldAddr rfl rfl (r_fAt (o := 2) Tryz.underlying42 rfl (by kernel_rfl) rfl) (g_yes rfl (o_load rfl rfl (r_load1 Tryz.underlying40 rfl (x4.cell_some (k1.cell (i := 2) rfl))) ?_)))
        refine g_yes rfl (o_len rfl rfl (r_lenW Tryz.underlying40 (d1.ext x4)) (g_yes rfl (o_fieldAddr rfl rfl (r_fAt (o := 2) Tryz.underlying42 rfl (by kernel_rfl) rfl) ?_)))
        refine g_yes rfl (o_load rfl rfl (r_load1 Tryz.underlying40 rfl (k4.cell (i := 2) rfl)) (g_yes rfl (o_len rfl rfl (r_lenW Tryz.underlying40 d3) ?_)))
        refine g_yes rfl (o_bin rfl rfl rfl (r_eql_i) (o_pick_t rfl rfl rfl (o_move rfl rfl ?_)))
        refine o_dec (fun h47 => ?_) (fun h47 => ?_)
        · refine g_yes rfl (o_fieldAddr rfl rfl (r_fAt (o := 1) Tryz.underlying42 rfl (by kernel_rfl) rfl) (g_yes rfl (o_load rfl rfl (r_load1 Tryz.underlying40 rfl (x4.cell_some (k1.cell (i := 1) rfl))) ?_)))
          refine g_yes rfl (o_fieldAddr rfl rfl (r_fAt (o := 1) Tryz.underlying42 rfl (by kernel_rfl) rfl) (g_yes rfl (o_load rfl rfl (r_load1 Tryz.underlying40 rfl (k4.cell (i := 1) rfl)) ?_)))
          refine g_yes rfl (o_call call_NCmp rfl rfl (NCmp_spec (n1.ext x4) n3) ?_)
          rintro v52 w52 ⟨x52, rfl⟩
          refine g_yes rfl (o_bin rfl rfl rfl (r_eql_i) (o_pick_t rfl rfl rfl (o_move rfl rfl ?_)))
          refine o_dec (fun h55 => ?_) (fun h55 => ?_)
          · refine g_yes rfl (o_fieldAddr rfl rfl (r_fAt (o := 2) Tryz.underlying42 rfl (by kernel_rfl) rfl) (g_yes rfl (o_load rfl rfl (r_load1 Tryz.underlying40 rfl ((x4.trans x52).cell_some (k1.cell (i := 2) rfl))) ?_)))
            refine g_yes rfl (o_fieldAddr rfl rfl (r_fAt (o := 2) Tryz.underlying42 rfl (by kernel_rfl) rfl) (g_yes rfl (o_load rfl rfl (r_load1 Tryz.underlying40 rfl (x52.cell_some (k4.cell (i := 2) rfl))) ?_)))
            refine g_yes rfl (o_call call_NCmp rfl rfl (NCmp_spec (d1.ext (x4.trans x52)) (d3.ext x52)) ?_)
            rintro v60 w60 ⟨x60, rfl⟩
            refine g_yes rfl (o_bin rfl rfl rfl (r_eql_i) (o_pick_t rfl rfl rfl (o_assign rfl rfl (o_nil (n_then (c_ret (r_body1 rfl rfl ?_)))))))
            exact ⟨_, rfl, (((x1.trans x4).trans x52).trans x60), by
              rw [hrv]
              first
              | exact congrArg B (decide_eq_decide.2 ⟨fun h => ⟨h29, val_inj (by omega) (cmpN_zero.1 h55), val_inj (by omega) (cmpN_zero.1 h)⟩, fun h => cmpN_zero.2 (by rw [h.2.2])⟩)
              | exact congrArg B (decide_eq_false fun h => h55 (cmpN_zero.2 (by rw [h.2.1]))).symm
              | exact congrArg B (decide_eq_false fun h => h47 (by rw [h.2.2])).symm
              | exact congrArg B (decide_eq_false fun h => h38 (by rw [h.2.1])).symm
              | exact congrArg B (decide_eq_false fun h => h29 h.1).symm⟩
          · refine g_no rfl rfl rfl (g_no rfl rfl rfl (g_no rfl rfl rfl (g_no rfl rfl rfl (g_no rfl rfl rfl (g_no rfl rfl rfl (o_pick_f rfl rfl rfl (o_assign rfl rfl (o_nil (n_then (c_ret (r_body1 rfl rfl ?_)))))))))))
            exact ⟨_, rfl, ((x1.trans x4).trans x52), by
              rw [hrv]
              first
              | exact congrArg B (decide_eq_decide.2 ⟨fun h => ⟨h29, val_inj (by omega) (cmpN_zero.1 h55), val_inj (by omega) (cmpN_zero.1 h)⟩, fun h => cmpN_zero.2 (by rw [h.2.2])⟩)
              | exact congrArg B (decide_eq_false fun h => h55 (cmpN_zero.2 (by rw [h.2.1]))).symm
              | exact congrArg B (decide_eq_false fun h => h47 (by rw [h.2.2])).symm
              | exact congrArg B (decide_eq_false fun h => h38 (by rw [h.2.1])).symm
              | exact congrArg B (decide_eq_false fun h => h29 h.1).symm⟩
        · refine g_no rfl rfl rfl (g_no rfl rfl rfl (g_no rfl rfl rfl (g_no rfl rfl rfl (g_no rfl rfl rfl (g_no rfl rfl rfl (o_pick_f rfl rfl rfl (o_move rfl rfl (g_no rfl rfl rfl (g_no rfl rfl rfl ?_)))))))))
          refine g_no rfl rfl rfl (g_no rfl rfl rfl (g_no rfl rfl rfl (g_no rfl rfl rfl (o_pick_f rfl rfl rfl (o_assign rfl rfl (o_nil (n_then (c_ret (r_body1 rfl rfl ?_)))))))))
          exact ⟨_, rfl, (x1.trans x4), by
            rw [hrv]
            first
            | exact congrArg B (decide_eq_decide.2 ⟨fun h => ⟨h29, val_inj (by omega) (cmpN_zero.1 h55), val_inj (by omega) (cmpN_zero.1 h)⟩, fun h => cmpN_zero.2 (by rw [h.2.2])⟩)
            | exact congrArg B (decide_eq_false fun h => h55 (cmpN_zero.2 (by rw [h.2.1]))).symm
            | exact congrArg B (decide_eq_false fun h => h47 (by rw [h.2.2])).symm
            | exact congrArg B (decide_eq_false fun h => h38 (by rw [h.2.1])).symm
            | exact congrArg B (decide_eq_false fun h => h29 h.1).symm⟩
      · refine g_no rfl rfl rfl (g_no rfl rfl rfl (g_no rfl rfl rfl (g_no rfl rfl rfl (g_no rfl rfl rfl (g_no rfl rfl rfl (g_no rfl rfl rfl (o_pick_f rfl rfl rfl (o_move rfl rfl (g_no rfl rfl rfl ?_)))))))))
        refine g_no rfl rfl rfl (g_no rfl rfl rfl (g_no rfl rfl rfl (g_no rfl rfl rfl (g_no rfl rfl rfl (o_pick_f rfl rfl rfl (o_move rfl rfl (g_no rfl rfl rfl (g_no rfl rfl rfl (g_no rfl rfl rfl ?_)))))))))
        refine g_no rfl rfl rfl (g_no rfl rfl rfl (g_no rfl rfl rfl (o_pick_f rfl rfl rfl (o_assign rfl rfl (o_nil (n_then (c_ret (r_body1 rfl rfl ?_))))))))
        exact ⟨_, rfl, (x1.trans x4), by
          rw [hrv]
          first
          | exact congrArg B (decide_eq_decide.2 ⟨fun h => ⟨h29, val_inj (by omega) (cmpN_zero.1 h55), val_inj (by omega) (cmpN_zero.1 h)⟩, fun h => cmpN_zero.2 (by rw [h.2.2])⟩)
          | exact congrArg B (decide_eq_false fun h => h55 (cmpN_zero.2 (by rw [h.2.1]))).symm
          | exact congrArg B (decide_eq_false fun h => h47 (by rw [h.2.2])).symm
          | exact congrArg B (decide_eq_false fun h => h38 (by rw [h.2.1])).symm
          | exact congrArg B (decide_eq_false fun h => h29 h.1).symm⟩
    · refine g_no rfl rfl rfl (g_no rfl rfl rfl (g_no rfl rfl rfl (g_no rfl rfl rfl (g_no rfl rfl rfl (g_no rfl rfl rfl (g_no rfl rfl rfl (o_pick_f rfl rfl rfl (o_move rfl rfl (g_no rfl rfl rfl ?_)))))))))
      refine g_no rfl rfl rfl (g_no rfl rfl rfl (g_no rfl rfl rfl (g_no rfl rfl rfl (g_no rfl rfl rfl (g_no rfl rfl rfl (o_pick_f rfl rfl rfl (o_move rfl rfl (g_no rfl rfl rfl (g_no rfl rfl rfl ?_)))))))))
      refine g_no rfl rfl rfl (g_no rfl rfl rfl (g_no rfl rfl rfl (g_no rfl rfl rfl (o_pick_f rfl rfl rfl (o_move rfl rfl (g_no rfl rfl rfl (g_no rfl rfl rfl (g_no rfl rfl rfl (g_no rfl rfl rfl ?_)))))))))
      refine g_no rfl rfl rfl (g_no rfl rfl rfl (o_pick_f rfl rfl rfl (o_assign rfl rfl (o_nil (n_then (c_ret (r_body1 rfl rfl ?_)))))))
      exact ⟨_, rfl, (x1.trans x4), by
        rw [hrv]
        first
        | exact congrArg B (decide_eq_decide.2 ⟨fun h => ⟨h29, val_inj (by omega) (cmpN_zero.1 h55), val_inj (by omega) (cmpN_zero.1 h)⟩, fun h => cmpN_zero.2 (by rw [h.2.2])⟩)
        | exact congrArg B (decide_eq_false fun h => h55 (cmpN_zero.2 (by rw [h.2.1]))).symm
        | exact congrArg B (decide_eq_false fun h => h47 (by rw [h.2.2])).symm
        | exact congrArg B (decide_eq_false fun h => h38 (by rw [h.2.1])).symm
        | exact congrArg B (decide_eq_false fun h => h29 h.1).symm⟩
end Go.Rl
/- Walks of package relucertref03: the canonical form. Conditions: the numbers are shorter than 2^37 limbs. -/
namespace Go.Rl
open Go.RowKit Go.Proofs
theorem call_SOne : Callable Tryz.prog 64 := ⟨_, Tryz.func64, by kernel_rfl, rfl⟩
theorem call_SQuot : Callable Tryz.prog 63 := ⟨_, Tryz.func63, by kernel_rfl, rfl⟩
theorem call_SCanon : Callable Tryz.prog 36 := ⟨_, Tryz.func36, by kernel_rfl, rfl⟩
theorem call_SSame : Callable Tryz.prog 35 := ⟨_, Tryz.func35, by kernel_rfl, rfl⟩
theorem call_SValid : Callable Tryz.prog 16 := ⟨_, Tryz.func16, by kernel_rfl, rfl⟩
theorem SOne_spec {w : World} {m : List UInt32} {v : Value} (hv : Wds m v w) (hl : m.length ≤ 137438953472) :
    Calls Tryz.prog 64 #[v] w (Ret fun r w' => Ext w w' ∧ Wds (lb (val (ud m))) r w') := by
  refine enter (vs := [v]) Tryz.func64 rfl rfl rfl ?_
  obtain ⟨t, ht⟩ : ∃ t, t = lb (val m) := ⟨_, rfl⟩
  refine c_seq (c_region (o_assign rfl rfl (o_nil (n_then (c_seq (c_region (o_move rfl rfl (o_call call_RMake rfl rfl (RMake_spec hv (by omega)) ?_))))))))
  rintro v5 w5 ⟨x5, b5⟩
  rw [← ht] at b5
  refine o_assign rfl rfl (o_nil (n_then (c_seq (c_seq (c_region (o_move rfl rfl (o_len rfl rfl (r_lenW Tryz.underlying40 b5) (o_bin rfl rfl rfl (r_eql_i) (o_nil ?_)))))))))
  refine n_then ?_
  refine c_if rfl (fun h8 => ?_) (fun h8 => ?_)
  · have h0 : val m = 0 := lb_len0.1 (by rw [← ht]; omega)
    refine c_seq (c_region ?_)
    obtain ⟨v9, w9, hr9, x9, o9, ob9⟩ := r_bsW Tryz.underlying40 (w := w5) w5.heap.size [1] (by simp) (Nat.le_refl _)
    refine o_buildSlice (vs := [(0, U32 (1))]) rfl rfl hr9 (o_assign rfl rfl (o_nil (n_then (c_ret (r_then (r_body1 rfl rfl ?_))))))
    exact ⟨_, rfl, (x5.trans x9), by rw [val_ud, if_pos h0, lb_one]; exact o9.wds⟩
  · have h0 : val m ≠ 0 := fun h => h8 (by rw [ht, h]; rfl)
    refine c_skip (n_then (c_seq (c_region (o_move rfl rfl (o_assign rfl rfl (o_nil (n_then (c_ret (r_body1 rfl rfl ?_)))))))))
    exact ⟨_, rfl, x5, by rw [val_ud, if_neg h0, ← ht]; exact b5⟩
theorem SQuot_spec {w : World} {s : Bool} {n d : List UInt32} {x y : Value} (hn : Wds n x w) (hd : Wds d y w) (hnl : n.length ≤ 274877906944) (hdl : d.length ≤ 274877906944) (hd0 : 0 < val d) :
    Calls Tryz.prog 63 #[B s, x, y] w (Ret fun r w' => Ext w w' ∧ RatV (cqN s (val n)) (lb (val n / Nat.gcd (val n) (val d))) (cqD (val n) (val d)) r w') := by
  refine enter (vs := [B s, x, y]) Tryz.func63 rfl rfl rfl ?_
  have hg0 := gcd_pos (n := val n) hd0
  obtain ⟨g, hg⟩ : ∃ g, g = Nat.gcd (val n) (val d) := ⟨_, rfl⟩
  have hgl : (lb g).length ≤ d.length := Nat.le_trans (lb_len_lt (by rw [hg]; exact Nat.gcd_le_right _ hd0)) (lb_lt (val_lt d))
  obtain ⟨e, he⟩ : ∃ e, e = lb (val d / g) := ⟨_, rfl⟩
  obtain ⟨a, ha⟩ : ∃ a, a = lb (val n / g) := ⟨_, rfl⟩
  have hc : decide ((a.length : Int) > 0) = decide (0 < val n) := by
    have e0 := @lb_len0 (val n / g)
    have e1 : val n / g = 0 ↔ val n = 0 := by
      rw [hg]
      constructor
      · intro h
        have := Nat.div_mul_cancel (Nat.gcd_dvd_left (val n) (val d))
        rw [h] at this; omega
      · intro h
        rw [h, Nat.zero_div]
    rw [← ha] at e0
    exact decide_eq_decide.2 (by omega)
  have hq : cqD (val n) (val d) = if e = [1] then [] else e := by
    unfold cqD
    rw [← hg]
    by_cases h1 : val d / g = 1
    · rw [if_pos h1, if_pos (by rw [he, h1, lb_one])]
    · rw [if_neg h1, if_neg (fun h => h1 (lb_is1.1 (he ▸ h))), he]
  rw [← hg] at hg0 ⊢
  rw [← ha]
  refine c_seq (c_region ?_)
  obtain ⟨g6, w6, hr6, l6, x6, k6⟩ := r_allocR (w := w)
  refine o_alloc rfl hr6 (o_nil (n_then (c_seq (c_region (o_move rfl rfl (o_move rfl rfl (o_call call_RGcd rfl rfl (RGcd_spec (hn.ext x6) (hd.ext x6) hnl hdl) ?_)))))))
  rintro v16 w16 ⟨x16, b16⟩
  rw [← hg] at b16
  refine o_assign rfl rfl (o_nil (n_then (c_seq (c_region (o_move rfl rfl (o_move rfl rfl (o_call call_RDivMod rfl rfl ((by have := RDivMod_spec (hn.ext (x6.trans x16)) b16 hnl (by omega) (by rw [val_lb]; exact hg0); rw [val_lb, ← ha] at this; exact this)) ?_)))))))
  rintro v20 w20 ⟨x20, q1, r1, rfl, s1, u1⟩
  refine o_move rfl rfl (o_extract rfl rfl (r_ext3_0) (o_extract rfl rfl r_ext3_1 (o_extract rfl rfl r_ext3_2 (o_assign rfl rfl (o_assign rfl rfl (o_assign rfl rfl (o_nil (n_then ?_))))))))
  refine c_seq (c_region (o_move rfl rfl (o_move rfl rfl (o_call call_RDivMod rfl rfl ((by have := RDivMod_spec (hd.ext ((x6.trans x16).trans x20)) (b16.ext x20) hdl (by omega) (by rw [val_lb]; exact hg0); rw [val_lb, ← he] at this; exact this)) ?_))))
  rintro v27 w27 ⟨x27, q2, r2, rfl, s2, u2⟩
  refine o_move rfl rfl (o_extract rfl rfl (r_ext3_0) (o_extract rfl rfl r_ext3_1 (o_extract rfl rfl r_ext3_2 (o_assign rfl rfl (o_assign rfl rfl (o_assign rfl rfl (o_nil (n_then ?_))))))))
  refine c_seq ?_
  refine c_cut (fun p : Value => [(0, B s), (8, q1), (11, p), (6, .pointer (some ⟨g6, 0, none⟩))]) (fun p w' => w27 = w' ∧ Wds (cqD (val n) (val d)) p w') ?_ ?_
  · refine c_seq (c_region (o_move rfl rfl (o_len rfl rfl (r_lenW Tryz.underlying40 s2) (o_bin rfl rfl rfl (r_eql_i) (o_move rfl rfl ?_)))))
    refine o_dec (fun h34 => ?_) (fun h34 => ?_)
    · refine g_yes rfl (o_move rfl rfl (g_yes rfl ?_))
      obtain ⟨a36, p36, q36⟩ := r_ixW Tryz.underlying40 s2 (i := 0) (by omega) .i64
      refine o_indexAddr rfl rfl rfl (p36 _) (g_yes rfl (o_load rfl rfl (r_load1 Tryz.underlying65 rfl q36) (g_yes rfl (o_bin (v := U32 1) rfl rfl rfl (r_eql_u32) (o_pick_t rfl rfl rfl ?_)))))
      refine o_nil (n_then ?_)
      refine c_if rfl (fun h39 => ?_) (fun h39 => ?_)
      · refine c_region (o_assign rfl rfl (o_nil ?_))
        exact n_meet (.slice none 0 0) ⟨rfl, rfl, rfl, rfl, trivial⟩ ⟨rfl, by
          rw [hq]
          first
          | (rw [if_pos (by
                obtain ⟨y, rfl⟩ := List.length_eq_one_iff.1 (show e.length = 1 by omega)
                simpa using h39)]; exact Wds.nil _)
          | (rw [if_neg (fun h => by subst h; exact h39 rfl)]; exact s2)
          | (rw [if_neg (fun h => by subst h; exact h34 rfl)]; exact s2)⟩
      · refine c_skip ?_
        exact n_meet (q2) ⟨rfl, rfl, rfl, rfl, trivial⟩ ⟨rfl, by
          rw [hq]
          first
          | (rw [if_pos (by
                obtain ⟨y, rfl⟩ := List.length_eq_one_iff.1 (show e.length = 1 by omega)
                simpa using h39)]; exact Wds.nil _)
          | (rw [if_neg (fun h => by subst h; exact h39 rfl)]; exact s2)
          | (rw [if_neg (fun h => by subst h; exact h34 rfl)]; exact s2)⟩
    · refine g_no rfl rfl rfl (g_no rfl rfl rfl (g_no rfl rfl rfl (g_no rfl rfl rfl (o_pick_f rfl rfl rfl (o_nil (n_then (c_no rfl (c_skip ?_))))))))
      exact n_meet (q2) ⟨rfl, rfl, rfl, rfl, trivial⟩ ⟨rfl, by
        rw [hq]
        first
        | (rw [if_pos (by
              obtain ⟨y, rfl⟩ := List.length_eq_one_iff.1 (show e.length = 1 by omega)
              simpa using h39)]; exact Wds.nil _)
        | (rw [if_neg (fun h => by subst h; exact h39 rfl)]; exact s2)
        | (rw [if_neg (fun h => by subst h; exact h34 rfl)]; exact s2)⟩
  rintro v11 _ ⟨rfl, b11⟩
  refine n_then (c_seq ?_)
  cases s
  · refine c_region (o_move rfl rfl (o_move rfl rfl (g_no rfl rfl rfl (g_no rfl rfl rfl (g_no rfl rfl rfl (o_pick_f rfl rfl rfl (o_move rfl rfl (o_move rfl rfl ?_))))))))
    refine o_build (vs := [(0, B (cqN false (val n))), (1, q1), (2, v11)]) rfl rfl (r_buildR s1.isS b11.isS) ?_
    obtain ⟨p, q, w3, hp, hs, q3, k3, n3, d3⟩ := (k6.ext (((x16.trans x20).trans x27))).stR ⟨_, _, _, rfl⟩ ⟨_, _, _, rfl⟩ (RatV.mk (b := cqN false (val n)) (s1.ext x27) b11)
    refine o_store rfl rfl (hs) (o_nil (n_then (c_ret ?_)))
    refine r_bodyc rfl rfl k3 Tryz.underlying42 rfl size_Rat ?_
    exact ⟨_, rfl, ((((x6.trans x16).trans x20).trans x27)).of_new q3 l6, p, q, rfl, n3, d3⟩
  · refine c_region (o_move rfl rfl (o_move rfl rfl (g_yes rfl (o_move rfl rfl (g_yes rfl (o_len rfl rfl (r_lenW Tryz.underlying40 (s1.ext x27)) (g_yes rfl (o_bin rfl rfl rfl (r_gtr_i) ?_))))))))
    rw [hc]
    refine o_pick_t rfl rfl rfl (o_move rfl rfl (o_move rfl rfl ?_))
    refine o_build (vs := [(0, B (cqN true (val n))), (1, q1), (2, v11)]) rfl rfl (r_buildR s1.isS b11.isS) ?_
    obtain ⟨p, q, w3, hp, hs, q3, k3, n3, d3⟩ := (k6.ext (((x16.trans x20).trans x27))).stR ⟨_, _, _, rfl⟩ ⟨_, _, _, rfl⟩ (RatV.mk (b := cqN true (val n)) (s1.ext x27) b11)
    refine o_store rfl rfl (hs) (o_nil (n_then (c_ret ?_)))
    refine r_bodyc rfl rfl k3 Tryz.underlying42 rfl size_Rat ?_
    exact ⟨_, rfl, ((((x6.trans x16).trans x20).trans x27)).of_new q3 l6, p, q, rfl, n3, d3⟩
theorem ud_lb {m : List UInt32} : val (lb (val (ud m))) = val (ud m) := val_lb _
theorem SCanon_spec {w : World} {b : Bool} {n m : List UInt32} {v : Value} (hv : RatV b n m v w) (hnl : n.length ≤ 137438953472) (hml : m.length ≤ 137438953472) :
    Calls Tryz.prog 36 #[v] w (Ret fun r w' => Ext w w' ∧ RatV (cqN b (val n)) (lb (val n / Nat.gcd (val n) (val (ud m)))) (cqD (val n) (val (ud m))) r w') := by
  refine enter (vs := [v]) Tryz.func36 rfl rfl rfl ?_
  have hu : (lb (val (ud m))).length ≤ 137438953472 := Nat.le_trans (lb_lt (val_lt _)) (ud_len hml)
  refine c_seq (c_region ?_)
  obtain ⟨g1, y1, z1, w1, hr1, x1, k1, n1, d1⟩ := r_boxR hv
  refine o_box rfl rfl hr1 ?_
  obtain ⟨g2, w2, hr2, l2, x2, k2⟩ := r_allocR (w := w1)
  refine o_alloc rfl hr2 (o_nil (n_then (c_seq (c_grow 8 [2, 10] (by kernel_rfl) (by kernel_rfl) ?_))))
  refine f_fieldAddr rfl rfl (fun w hw => r_fAt (o := 0) Tryz.underlying42 rfl (by kernel_rfl) rfl) (f_load rfl rfl (fun w hw => r_load1 Tryz.underlying4 rfl (hw.cell_some (x2.cell_some (k1.cell (i := 0) rfl)))) ?_)
  refine f_fieldAddr rfl rfl (fun w hw => r_fAt (o := 1) Tryz.underlying42 rfl (by kernel_rfl) rfl) (f_load rfl rfl (fun w hw => r_load1 Tryz.underlying40 rfl (hw.cell_some (x2.cell_some (k1.cell (i := 1) rfl)))) ?_)
  refine f_fieldAddr rfl rfl (fun w hw => r_fAt (o := 2) Tryz.underlying42 rfl (by kernel_rfl) rfl) (f_load rfl rfl (fun w hw => r_load1 Tryz.underlying40 rfl (hw.cell_some (x2.cell_some (k1.cell (i := 2) rfl)))) ?_)
  refine f_call (S := Wds (lb (val (ud m)))) call_SOne (Wds.stable _) rfl (fun w hw => by rintro _ rfl; exact SOne_spec ((d1.ext x2).ext hw) hml) (f_call (S := RatV (cqN b (val n)) (lb (val n / Nat.gcd (val n) (val (ud m)))) (cqD (val n) (val (ud m)))) call_SQuot (RatV.stable _ _ _) rfl (fun w hw => by rintro _ rfl _ rfl z hz; have := SQuot_spec (s := b) ((n1.ext x2).ext hw) hz (by omega) (by omega) (by rw [val_lb]; exact ud_pos m); rw [val_lb] at this; exact this) ?_)
  refine f_nil ?_
  intro wg1 xg1
  rintro _ rfl
  intro vg10 b9
  obtain ⟨p, q, w3, hp, hs, q3, k3, n3, d3⟩ := (k2.ext xg1).stR ⟨_, _, _, rfl⟩ ⟨_, _, _, rfl⟩ b9
  refine o_store rfl rfl (hs) (o_nil (n_then (c_ret ?_)))
  refine r_bodyc rfl rfl k3 Tryz.underlying42 rfl size_Rat ?_
  exact ⟨_, rfl, (((x1.trans x2).trans xg1)).of_new q3 (Nat.le_trans x1.size l2), p, q, rfl, n3, d3⟩
theorem SSame_spec {w : World} {a b : Bool} {n m p q : List UInt32} {v u : Value} (hv : RatV a n m v w) (hu : RatV b p q u w) :
    Calls Tryz.prog 35 #[v, u] w (Ret fun r w' => Ext w w' ∧ r = B (decide (a = b ∧ n = p ∧ m = q))) := by
  refine enter (vs := [v, u]) Tryz.func35 rfl rfl rfl ?_
  refine c_seq (c_region ?_)
  obtain ⟨g2, y2, z2, w2, hr2, x2, k2, n2, d2⟩ := r_boxR hv
  refine o_box rfl rfl hr2 ?_
  obtain ⟨g3, y3, z3, w3, hr3, x3, k3, n3, d3⟩ := r_boxR (hu.ext x2)
  refine o_box rfl rfl hr3 (o_assign rfl rfl (o_nil (n_then (c_seq (c_region (o_fieldAddr rfl rfl (r_fAt (o := 0) Tryz.underlying42 rfl (by kernel_rfl) rfl) ?_))))))
  refine o_load rfl rfl (r_load1 Tryz.underlying4 rfl (x3.cell_some (k2.cell (i := 0) rfl))) (o_fieldAddr rfl rfl (r_fAt (o := 0) Tryz.underlying42 rfl (by kernel_rfl) rfl) ?_)
  refine o_load rfl rfl (r_load1 Tryz.underlying4 rfl (k3.cell (i := 0) rfl)) (o_bin rfl rfl rfl (r_eql_b Tryz.underlying4) (o_move rfl rfl ?_))
  refine o_dec (fun h10 => ?_) (fun h10 => ?_)
  · refine g_yes rfl (o_fieldAddr rfl rfl (r_fAt (o := 1) Tryz.underlying42 rfl (by kernel_rfl) rfl) (g_yes rfl (o_load rfl rfl (r_load1 Tryz.underlying40 rfl (x3.cell_some (k2.cell (i := 1) rfl))) ?_)))
    refine g_yes rfl (o_fieldAddr rfl rfl (r_fAt (o := 1) Tryz.underlying42 rfl (by kernel_rfl) rfl) (g_yes rfl (o_load rfl rfl (r_load1 Tryz.underlying40 rfl (k3.cell (i := 1) rfl)) ?_)))
    refine g_yes rfl (o_call call_RSame rfl rfl (RSame_spec (n2.ext x3) n3) ?_)
    rintro v15 w15 ⟨x15, rfl⟩
    refine o_pick_t rfl rfl rfl (o_move rfl rfl ?_)
    refine o_dec (fun h17 => ?_) (fun h17 => ?_)
    · refine g_yes rfl (o_fieldAddr rfl rfl (r_fAt (o := 2) Tryz.underlying42 rfl (by kernel_rfl) rfl) (g_yes rfl (o_load rfl rfl (r_load1 Tryz.underlying40 rfl ((x3.trans x15).cell_some (k2.cell (i := 2) rfl))) ?_)))
      refine g_yes rfl (o_fieldAddr rfl rfl (r_fAt (o := 2) Tryz.underlying42 rfl (by kernel_rfl) rfl) (g_yes rfl (o_load rfl rfl (r_load1 Tryz.underlying40 rfl (x15.cell_some (k3.cell (i := 2) rfl))) ?_)))
      refine g_yes rfl (o_call call_RSame rfl rfl (RSame_spec (d2.ext (x3.trans x15)) (d3.ext x15)) ?_)
      rintro v22 w22 ⟨x22, rfl⟩
      refine o_pick_t rfl rfl rfl (o_assign rfl rfl (o_nil (n_then (c_ret (r_body1 rfl rfl ?_)))))
      exact ⟨_, rfl, (((x2.trans x3).trans x15).trans x22), by
        first
        | exact congrArg B (decide_eq_decide.2 ⟨fun h => ⟨h10, h17, h⟩, fun h => h.2.2⟩)
        | exact congrArg B (decide_eq_false fun h => h17 h.2.1).symm
        | exact congrArg B (decide_eq_false fun h => h10 h.1).symm⟩
    · refine g_no rfl rfl rfl (g_no rfl rfl rfl (g_no rfl rfl rfl (g_no rfl rfl rfl (g_no rfl rfl rfl (o_pick_f rfl rfl rfl (o_assign rfl rfl (o_nil (n_then (c_ret (r_body1 rfl rfl ?_))))))))))
      exact ⟨_, rfl, ((x2.trans x3).trans x15), by
        first
        | exact congrArg B (decide_eq_decide.2 ⟨fun h => ⟨h10, h17, h⟩, fun h => h.2.2⟩)
        | exact congrArg B (decide_eq_false fun h => h17 h.2.1).symm
        | exact congrArg B (decide_eq_false fun h => h10 h.1).symm⟩
  · refine g_no rfl rfl rfl (g_no rfl rfl rfl (g_no rfl rfl rfl (g_no rfl rfl rfl (g_no rfl rfl rfl (o_pick_f rfl rfl rfl (o_move rfl rfl (g_no rfl rfl rfl (g_no rfl rfl rfl (g_no rfl rfl rfl ?_)))))))))
    refine g_no rfl rfl rfl (g_no rfl rfl rfl (o_pick_f rfl rfl rfl (o_assign rfl rfl (o_nil (n_then (c_ret (r_body1 rfl rfl ?_)))))))
    exact ⟨_, rfl, (x2.trans x3), by
      first
      | exact congrArg B (decide_eq_decide.2 ⟨fun h => ⟨h10, h17, h⟩, fun h => h.2.2⟩)
      | exact congrArg B (decide_eq_false fun h => h17 h.2.1).symm
      | exact congrArg B (decide_eq_false fun h => h10 h.1).symm⟩
theorem SValid_spec {w : World} {b : Bool} {n m : List UInt32} {v : Value} (hv : RatV b n m v w) (hnl : n.length ≤ 137438953472) (hml : m.length ≤ 137438953472) :
    Calls Tryz.prog 16 #[v] w (Ret fun r w' => Ext w w' ∧ r = B (rv b n m)) := by
  refine enter (vs := [v]) Tryz.func16 rfl rfl rfl ?_
  refine c_seq (c_region ?_)
  obtain ⟨g1, y1, z1, w1, hr1, x1, k1, n1, d1⟩ := r_boxR hv
  refine o_box rfl rfl hr1 (o_assign rfl rfl (o_nil (n_then (c_seq (c_grow 4 [6] (by kernel_rfl) (by kernel_rfl) ?_)))))
  refine f_load rfl rfl (fun w hw => (k1.ext hw).ldR) (f_load rfl rfl (fun w hw => (k1.ext hw).ldR) (f_call (S := RatV (cqN b (val n)) (lb (val n / Nat.gcd (val n) (val (ud m)))) (cqD (val n) (val (ud m)))) call_SCanon (RatV.stable _ _ _) rfl (fun w hw => by rintro _ rfl; exact SCanon_spec ((RatV.mk n1 d1).ext hw) hnl hml) ?_))
  refine f_call (S := Is (B (rv b n m))) call_SSame (Stable.is _) rfl (fun w hw => by rintro _ rfl z hz; exact SSame_spec ((RatV.mk n1 d1).ext hw) hz) (f_nil ?_)
  intro wg1 xg1
  rintro _ rfl
  refine o_assign rfl rfl (o_nil (n_then (c_ret (r_body1 rfl rfl ?_))))
  exact ⟨_, rfl, (x1.trans xg1), rfl⟩
end Go.Rl
/- Walks of the functions that append byte strings and texts. Conditions: what is appended to is short. -/
namespace Go.Rl
open Go.RowKit Go.Proofs Go.Lib


theorem strCells_S (l : List UInt8) : strCells ⟨l.toArray⟩ = l.map U8 := by
  simp [strCells]
  intro a _
  rfl
section
variable {w w0 : World} {l m : List UInt8} {v x : Value}
/-- The bytes of a text, anew. -/
theorem r_bytes (h : l.length ≤ 140737488355328) : ∃ r w', (convert 9 28 (S l)).run Tryz.prog w = .ok r w' ∧ Ext w w' ∧ Bts l r w' := by
  have hr := run_bytes_of_string (P := Tryz.prog) w 9 28 5 ⟨l.toArray⟩ Tryz.underlying9 Tryz.underlying28 Tryz.underlying5
  have hsz : (⟨l.toArray⟩ : ByteArray).size = l.length := by simp [ByteArray.size]
  refine ⟨_, _, hr, (Ext.refl w).drew.trans (Ext.new w.drew _), ?_⟩
  rw [hsz]
  have hge := grownCap_ge w l.length 0 5
  refine ⟨some ⟨w.heap.size, 0, none⟩, l.length, grownCap w l.length 0 5, rfl, hge, grownCap_le_maxLen w l.length 0 _ (by unfold maxLen; omega), by simp, fun _ => ⟨_, rfl, fun j u hu => ?_⟩, fun h => by cases h⟩
  have hws : w.drew.heap.size = w.heap.size := rfl
  have hg := heap_alloc_new w.drew (.cells (bytesRow ⟨l.toArray⟩ (grownCap w l.length 0 5)) 5 ((bytesRow ⟨l.toArray⟩ (grownCap w l.length 0 5)).size, (bytesRow ⟨l.toArray⟩ (grownCap w l.length 0 5)).size + 1))
  have hadd : (⟨w.heap.size, 0, none⟩ : Addr).add j = ⟨w.heap.size, j, none⟩ := by unfold Addr.add; split <;> simp_all
  rw [hws] at hg
  rw [hadd, cell_of_row _ _ j _ _ _ hg]
  rw [List.getElem?_map, Option.map_eq_some_iff] at hu
  obtain ⟨b, hb, rfl⟩ := hu
  obtain ⟨hj, hb⟩ := List.getElem?_eq_some_iff.1 hb
  unfold bytesRow
  rw [Array.getElem?_append_left (by simpa using hj)]
  simp [hj, hb, U8]
/-- append of a text's bytes onto a row of its own -/
theorem r_appS {base : Nat} {ty : TypeId} (hv : OwnB base l v w) (hb : l.length + m.length ≤ 140737488355328) (hbase : base ≤ w.heap.size) :
    ∃ r w', (Builtin.append_ #[28, 9] ty #[v, S m]).run Tryz.prog w = .ok r w' ∧ OwnB base (l ++ m) r w' ∧ w.grownBy w' v.ownBlock := by
  obtain ⟨n, hv⟩ := hv
  obtain ⟨i, hi, hz, hsize, hby⟩ := info_parts info_u8
  have hln : (l.map U8).length = n := by simpa using hv.1
  have hsz : (⟨m.toArray⟩ : ByteArray).size = m.length := by simp [ByteArray.size]
  simp only [List.length_map] at hln
  obtain ⟨r, w', h1, h2, h3, _⟩ := run_append_own_string (P := Tryz.prog) w base 28 9 ty 5 i Tryz.underlying28 Tryz.underlying9 hi hz hsize hby v n _ hv ⟨m.toArray⟩ (by rw [hsz]; unfold maxLen; omega) (by rw [hsz]; omega) hbase
  rw [strCells_S m, ← List.map_append] at h2
  exact ⟨r, w', h1, ⟨_, h2⟩, h3⟩
theorem Ext.of_own {base : Nat} {w' : World} (hx : Ext w0 w) (h : w.grownBy w' v.ownBlock) (hv : OwnB base l v w) (hb : w0.heap.size ≤ base) : Ext w0 w' :=
  hx.of_grown h fun k hk => Nat.le_trans hb (hv.ge k hk)

def encB (m : List UInt8) : List UInt8 := uv m.length ++ m
end
end Go.Rl
/- Walks of more of the reader: byte strings, texts, what is left. Conditions: the reader is not nil. -/
namespace Go.Rl
open Go.RowKit Go.Proofs

theorem call_Done : Callable Tryz.prog 31 := ⟨_, Tryz.func31, by kernel_rfl, rfl⟩

/-- A byte string with its length, read. -/
def rdB (l : List UInt8) : Option (List UInt8 × List UInt8) := (rdU l).bind fun p => if p.1 ≤ p.2.length then some (p.2.take p.1, p.2.drop p.1) else none
theorem rdB_encB {m : List UInt8} (h : m.length < 18446744073709551616) (t : List UInt8) : rdB (encB m ++ t) = some (m, t) := by
  unfold rdB encB
  rw [List.append_assoc, rdU_uv h]
  simp

section
variable {w : World} {g : Nat}
theorem ruv_spec {st : Option (List UInt8)} (hr : RdAt g st w) : Calls Tryz.prog 99 #[.pointer (some ⟨g, 0, none⟩)] w (Ret fun r w' => w.grownBy w' (some g) ∧ match st.bind rdU with
      | some (n, t) => r = .tuple #[U64 (UInt64.ofNat n), B true] ∧ RdAt g (some t) w'
      | none => r = .tuple #[U64 0, B false] ∧ ∃ l', RdAt g l' w') := by
  cases st with
  | none => exact (ruvarint_failed hr).mono fun e w' ⟨v, he, hv, hw⟩ => ⟨v, he, by subst hw; exact ⟨grownBy_refl _ _, hv, none, hr⟩⟩
  | some l =>
    refine (ruvarint_spec hr).mono fun e w' ⟨v, he, hg, hv⟩ => ⟨v, he, hg, ?_⟩
    show match rdU l with | some (n, t) => _ | none => _
    cases hrd : rdU l with
    | none => rw [hrd] at hv; exact ⟨hv.1, hv.2.imp' some fun _ h => h⟩
    | some p => rw [hrd] at hv; exact hv


def BytesR (g : Nat) (w : World) (o : Option (List UInt8 × List UInt8)) (r : Value) (w' : World) : Prop :=
  w.grownBy w' (some g) ∧ match o with
    | some (a, t) => ∃ v, r = .tuple #[v, I 0] ∧ Bts a v w' ∧ RdAt g (some t) w'
    | none => r = .tuple #[.slice none 0 0, I 5] ∧ RdAt g none w'
theorem rdB_len {l a t : List UInt8} (h : rdB l = some (a, t)) : a.length ≤ l.length := by
  unfold rdB at h
  cases hu : rdU l with
  | none => rw [hu] at h; cases h
  | some p =>
    obtain ⟨n, u⟩ := p
    rw [hu] at h
    have h : (if n ≤ u.length then some (u.take n, u.drop n) else none) = some (a, t) := h
    split at h
    · simp only [Option.some.injEq, Prod.mk.injEq] at h
      have := (rdU_inv hu).1
      rw [this, ← h.1]
      simp only [List.length_append, List.length_take]
      omega
    · cases h

def TextR (g : Nat) (w : World) (o : Option (List UInt8 × List UInt8)) (r : Value) (w' : World) : Prop :=
  w.grownBy w' (some g) ∧ match o with
    | some (a, t) => r = .tuple #[S a, I 0] ∧ RdAt g (some t) w'
    | none => r = .tuple #[S [], I 5] ∧ RdAt g none w'

theorem Done_spec {st : Option (List UInt8)} (hr : RdAt g st w) :
    Calls Tryz.prog 31 #[.pointer (some ⟨g, 0, none⟩)] w (Ret fun r w' => r = I (if st = some [] then 0 else 5) ∧ w' = w) := by
  obtain ⟨A, n, c, h1, h2, _⟩ := hr
  refine enter (vs := [.pointer (some ⟨g, 0, none⟩)]) Tryz.func31 rfl rfl rfl ?_
  refine c_seq (c_region (o_assign rfl rfl (o_nil (n_then (c_seq (c_seq (c_region (o_move rfl rfl ?_))))))))
  refine o_bin rfl rfl rfl (r_nenilp Tryz.underlying56) ?_
  refine o_move rfl rfl (g_yes rfl (o_move rfl rfl (g_yes rfl ?_)))
  refine o_nilCheck rfl rfl ?_
  refine g_yes rfl (o_fieldAddr rfl rfl (r_fieldAt Tryz.underlying90 rfl size_bool (by omega)) ?_)
  refine g_yes rfl (o_load rfl rfl (r_load1 Tryz.underlying4 rfl (cellAt (i := 1) h1 rfl)) ?_)
  cases st with
  | none =>
    refine g_yes rfl (o_move rfl rfl ?_)
    iterate 6 refine g_no rfl rfl rfl ?_
    refine g_yes rfl (o_pick_t rfl rfl rfl (o_pick_t rfl rfl rfl (o_nil (n_then ?_))))
    refine c_yes rfl ?_
    refine c_seq (c_region (o_assign rfl rfl (o_nil (n_then (c_ret (r_then ?_))))))
    refine r_body1 rfl rfl ?_
    exact ⟨_, rfl, rfl, rfl⟩
  | some l =>
    have h2' : Bts l (.slice A n c) w := h2
    refine g_yes rfl (o_move rfl rfl (g_yes rfl (o_move rfl rfl (g_yes rfl ?_))))
    refine o_nilCheck rfl rfl ?_
    refine g_yes rfl (o_fieldAddr rfl rfl (r_fieldAt Tryz.underlying90 rfl size_bytes (by omega)) ?_)
    refine g_yes rfl (o_load rfl rfl (r_load1 Tryz.underlying28 rfl (cellAt (i := 0) h1 rfl)) ?_)
    refine g_yes rfl (o_len rfl rfl (r_lenB h2') ?_)
    refine g_yes rfl (o_bin rfl rfl rfl r_gtr_i ?_)
    refine g_yes rfl (o_pick_f rfl rfl rfl (o_pick_t rfl rfl rfl (o_nil (n_then ?_))))
    refine c_if rfl (fun h => ?_) (fun h => ?_)
    · refine c_seq (c_region (o_assign rfl rfl (o_nil (n_then (c_ret (r_then ?_))))))
      refine r_body1 rfl rfl ?_
      have : some l ≠ some [] := by rintro ⟨⟩; simp at h
      rw [if_neg this]
      exact ⟨_, rfl, rfl, rfl⟩
    · refine c_skip (n_then (c_seq (c_region (o_assign rfl rfl (o_nil (n_then (c_ret ?_)))))))
      refine r_body1 rfl rfl ?_
      have : l = [] := List.eq_nil_of_length_eq_zero (by omega)
      subst this
      exact ⟨_, rfl, rfl, rfl⟩
end
end Go.Rl
/- Reading limbs and rationals, in plain words; what stays when a reader moves on. No condition. -/
namespace Go.Rl
open Go.RowKit Go.Proofs

/-! ### What stays -/
/-- Bytes and limbs stay. -/
structure Kp (w w' : World) : Prop where
  size : w.heap.size ≤ w'.heap.size
  bts : ∀ {l : List UInt8} {v : Value}, Bts l v w → Bts l v w'
  wds : ∀ {l : List UInt32} {v : Value}, Wds l v w → Wds l v w'
theorem Kp.of_ext {w w' : World} (h : Ext w w') : Kp w w' := ⟨h.size, fun b => b.ext h, fun b => b.ext h⟩
theorem Kp.refl (w : World) : Kp w w := .of_ext (Ext.refl w)
theorem Kp.trans {a b c : World} (h : Kp a b) (k : Kp b c) : Kp a c := ⟨Nat.le_trans h.size k.size, fun x => k.bts (h.bts x), fun x => k.wds (h.wds x)⟩
theorem Bts.kp {w w' : World} {l : List UInt8} {v : Value} (h : Bts l v w) (k : Kp w w') : Bts l v w' := k.bts h
theorem Wds.kp {w w' : World} {l : List UInt32} {v : Value} (h : Wds l v w) (k : Kp w w') : Wds l v w' := k.wds h
theorem RatV.kp {w w' : World} {b : Bool} {n m : List UInt32} {v : Value} (h : RatV b n m v w) (k : Kp w w') : RatV b n m v w' := by
  obtain ⟨x, y, rfl, h1, h2⟩ := h
  exact ⟨x, y, rfl, h1.kp k, h2.kp k⟩
/-- The reader at block g, of type T. -/
def RdT (T : TypeId) (g : Nat) (st : Option (List UInt8)) (w : World) : Prop := ∃ A n c, Blk g T [.slice A n c, B st.isNone] w ∧ Bts (st.getD []) (.slice A n c) w ∧ LocB A g
theorem RdAt.rdT {g : Nat} {st : Option (List UInt8)} {w : World} (h : RdAt g st w) : RdT 90 g st w := h
theorem RdT.rdAt {g : Nat} {st : Option (List UInt8)} {w : World} (h : RdT 90 g st w) : RdAt g st w := h
section
variable {T : TypeId} {g : Nat} {st : Option (List UInt8)} {w w' : World}
theorem RdT.ext (h : RdT T g st w) (hx : Ext w w') : RdT T g st w' := by
  obtain ⟨A, n, c, h1, h2, h3⟩ := h
  exact ⟨A, n, c, h1.ext hx, h2.ext hx, h3⟩
theorem rd_noWord (A : Option Addr) (n c : Nat) (b : Bool) (l : List UInt32) : ∀ (j : Nat) (u : Value), u ∈ l.map U32 → (#[.slice A n c, .bool b] : Array Value)[j]? ≠ some u := by
  intro j u hu
  obtain ⟨x, _, rfl⟩ := List.mem_map.1 hu
  match j with
  | 0 => simp [U32]
  | 1 => simp [U32]
  | j + 2 => simp
theorem RdT.kp (hr : RdT T g st w) (hw : w.grownBy w' (some g)) : Kp w w' := by
  obtain ⟨A, n, c, h1, _⟩ := hr
  exact ⟨hw.size, fun h => Sl.keep h h1 (rd_noByte A n c _ _) hw, fun h => Sl.keep h h1 (rd_noWord A n c _ _) hw⟩
theorem RdT.other {T' : TypeId} {g' : Nat} {s : Option (List UInt8)} (h : RdT T' g' s w) (hr : RdT T g st w) (hw : w.grownBy w' (some g)) (hne : g' ≠ g) : RdT T' g' s w' := by
  obtain ⟨A, n, c, h1, h2, h3⟩ := h
  exact ⟨A, n, c, h1.other hw (fun e => hne (Option.some.inj e)), h2.kp (hr.kp hw), h3⟩
/-- The bytes of a reader are replaced. -/
theorem RdT.set {l l' : List UInt8} {v : Value} (h : RdT T g (some l) w) (hv : Bts l' v w) (hloc : ∀ A n c, v = .slice A n c → LocB A g) :
    ∃ w', (Instr.storeAt 28 (.pointer (some ⟨g, 0, none⟩)) v).run Tryz.prog w = .ok () w' ∧ w.grownBy w' (some g) ∧ RdT T g (some l') w' := by
  obtain ⟨A, n, c, h1, h2, h4⟩ := h
  obtain ⟨A', n', c', rfl, h3⟩ := id hv
  have hg := grownBy_setCell w g 0 (.slice A' n' c')
  have hk := RdT.kp (T := T) (st := some l) ⟨A, n, c, h1, h2, h4⟩ hg
  refine ⟨_, r_store1 (i := 0) size_bytes rfl h1 (by simp), hg, A', n', c', h1.set 0 _, hk.bts hv, hloc _ _ _ rfl⟩
end

theorem rat_noByte (b : Bool) (A C : Option Addr) (n c m d : Nat) (l : List UInt8) : ∀ (j : Nat) (u : Value), u ∈ l.map U8 → (#[.bool b, .slice A n c, .slice C m d] : Array Value)[j]? ≠ some u := by
  intro j u hu
  obtain ⟨x, _, rfl⟩ := List.mem_map.1 hu
  match j with
  | 0 => simp [U8]
  | 1 => simp [U8]
  | 2 => simp [U8]
  | j + 3 => simp
/-- A rational's block changes. -/
theorem Blk.kpR {g : Nat} {T : TypeId} {b : Bool} {x y : Value} {w w' : World} (h : Blk g T [B b, x, y] w) (hx : ∃ A n c, x = .slice A n c) (hy : ∃ A n c, y = .slice A n c) (hw : w.grownBy w' (some g)) : Kp w w' := by
  obtain ⟨A, n, c, rfl⟩ := hx
  obtain ⟨C, m, d, rfl⟩ := hy
  exact ⟨hw.size, fun k => Sl.keep k h (rat_noByte b A C n c m d _) hw, fun k => Sl.keep k h (rat_noWord b A C n c m d _) hw⟩
theorem RdT.off {T : TypeId} {g g' : Nat} {st : Option (List UInt8)} {w w' : World} (h : RdT T g st w) (k : Kp w w') (hw : w.grownBy w' (some g')) (hne : g ≠ g') : RdT T g st w' := by
  obtain ⟨A, n, c, h1, h2, h3⟩ := h
  exact ⟨A, n, c, h1.other hw (fun e => hne (Option.some.inj e)), h2.kp k, h3⟩
/-- A block that came later changes. -/
theorem gb_new {w w1 w2 : World} {row : Option Nat} {g : Nat} (h : w.grownBy w1 row) (q : w1.grownBy w2 (some g)) (hg : w.heap.size ≤ g) : w.grownBy w2 row :=
  ⟨q.os.trans h.os, q.tape.trans h.tape, q.output.trans h.output, Nat.le_trans h.size q.size, fun i hi hne => (q.block i (Nat.lt_of_lt_of_le hi h.size) (fun e => by have := Option.some.inj e; omega)).trans (h.block i hi hne)⟩
/-- A row in a block and a second result. -/
theorem r_bodyc2 {P : Program} {fn : Func} {R : Ending → World → Prop} {N : Nat} {fr : Fr} {p s : Tmp} {t T : TypeId} {u : Value} {l : List Value} {w : World} {g : Nat} {d : TypeDesc} (hr : fn.results = #[.cell p t, .tmp s]) (hv : lk fr p = some (.pointer (some ⟨g, 0, none⟩))) (hs : lk fr s = some u) (hb : Blk g T l w) (hu : P.underlying t = some d) (hd : d.isRow = true) (hi : (P.info? t).map (·.size) = some l.length)
    (h : R (.returned (.tuple #[.agg l.toArray, u])) w) : ExitJ (bodyPost P fn R) N [] fr w .ret := fun a ha => by
  refine ⟨ha.defers, .tuple #[.agg l.toArray, u], ?_, h⟩
  have hp := ha.at_ p _ hv
  have hp' : a.tmps[p]?.getD undef = .pointer (some ⟨g, 0, none⟩) := by simpa using hp
  have hq := ha.at_ s _ hs
  have hl := run_loadVar_row w g T t l.toArray (0, 0) d hb hu (by cases d <;> first | rfl | exact hd) (by simpa using hi)
  simp [results, hr, hp', asAddr, hl, ← hq]

/-! ### Folded integers -/
def uz (n : Nat) : Int := if n % 2 = 0 then ((n / 2 : Nat) : Int) else -((n / 2 : Nat) : Int) - 1
theorem uz_zig (n : Int) : uz (zig n) = n := by
  unfold uz zig
  split <;> split <;> omega
theorem zig_uz (n : Nat) : zig (uz n) = n := by
  unfold uz zig
  split <;> split <;> omega
theorem r_xor_0 {P : Program} {w : World} {t : TypeId} {x y : Operand} {q : Nat} (hq : q < 9223372036854775808) : (bin .xor t x y (I (q : Int)) (I 0)).run P w = .ok (I (q : Int)) w := by
  have h := r_xor_i (P := P) (w := w) (t := t) (x := x) (y := y) (a := Int64.ofInt q) (b := Int64.ofInt 0)
  rw [Int64.toInt_ofInt_of_le (by simp) (by simp; omega)] at h
  have e : (Int64.ofInt q ^^^ Int64.ofInt 0).toInt = q := by
    rw [show Int64.ofInt 0 = 0 from rfl, Int64.xor_zero, Int64.toInt_ofInt_of_le (by simp) (by simp; omega)]
  rw [e] at h
  exact h
theorem r_xor_1 {P : Program} {w : World} {t : TypeId} {x y : Operand} {q : Nat} (hq : q < 9223372036854775808) : (bin .xor t x y (I (q : Int)) (I (-1))).run P w = .ok (I (-(q : Int) - 1)) w := by
  have h := r_xor_i (P := P) (w := w) (t := t) (x := x) (y := y) (a := Int64.ofInt q) (b := Int64.ofInt (-1))
  rw [Int64.toInt_ofInt_of_le (by simp) (by simp; omega)] at h
  have e : (Int64.ofInt q ^^^ Int64.ofInt (-1)).toInt = -(q : Int) - 1 := by
    have : Int64.ofInt q ^^^ Int64.ofInt (-1) = ~~~ (Int64.ofInt q) := by
      apply Int64.toBitVec_inj.1
      rw [Int64.toBitVec_xor, Int64.toBitVec_not]
      have : (Int64.ofInt (-1)).toBitVec = BitVec.allOnes 64 := by decide
      rw [this, BitVec.xor_allOnes]
    rw [this, Int64.toInt_not, Int64.toInt_ofInt_of_le (by simp) (by simp; omega)]
    exact Int.bmod_eq_of_le (by simp; omega) (by simp; omega)
  rw [e] at h
  exact h

/-! ### Four bytes and a limb -/
def w4 (a b c d : UInt8) : UInt32 := UInt32.ofNat (a.toNat + 256 * b.toNat + 65536 * c.toNat + 16777216 * d.toNat)
theorem w4_nat (a b c d : UInt8) : (w4 a b c d).toNat = a.toNat + 256 * b.toNat + 65536 * c.toNat + 16777216 * d.toNat := by
  have := a.toNat_lt; have := b.toNat_lt; have := c.toNat_lt; have := d.toNat_lt
  unfold w4
  rw [UInt32.toNat_ofNat']
  omega
theorem w4_le4 (x : UInt32) : w4 x.toUInt8 (x >>> UInt32.ofNat 8).toUInt8 (x >>> UInt32.ofNat 16).toUInt8 (x >>> UInt32.ofNat 24).toUInt8 = x := by
  have := u32_lt x
  refine u32_ext ?_
  rw [w4_nat]
  simp only [UInt32.toNat_toUInt8, UInt32.toNat_shiftRight, show (UInt32.ofNat 8).toNat = 8 from rfl, show (UInt32.ofNat 16).toNat = 16 from rfl, show (UInt32.ofNat 24).toNat = 24 from rfl, Nat.shiftRight_eq_div_pow, Nat.reduceMod, Nat.reducePow]
  omega
theorem le4_w4 (a b c d : UInt8) : le4 (w4 a b c d) = [a, b, c, d] := by
  have ha := a.toNat_lt; have hb := b.toNat_lt; have hc := c.toNat_lt; have hd := d.toNat_lt
  have e : ∀ x y : UInt8, x.toNat = y.toNat → x = y := fun x y h => UInt8.toNat_inj.1 h
  have h := w4_nat a b c d
  unfold le4
  congr 1
  · refine e _ _ ?_
    rw [UInt32.toNat_toUInt8, h]; omega
  congr 1
  · refine e _ _ ?_
    rw [UInt32.toNat_toUInt8, UInt32.toNat_shiftRight, h, show (UInt32.ofNat 8).toNat % 32 = 8 from rfl, Nat.shiftRight_eq_div_pow]; omega
  congr 1
  · refine e _ _ ?_
    rw [UInt32.toNat_toUInt8, UInt32.toNat_shiftRight, h, show (UInt32.ofNat 16).toNat % 32 = 16 from rfl, Nat.shiftRight_eq_div_pow]; omega
  congr 1
  · refine e _ _ ?_
    rw [UInt32.toNat_toUInt8, UInt32.toNat_shiftRight, h, show (UInt32.ofNat 24).toNat % 32 = 24 from rfl, Nat.shiftRight_eq_div_pow]; omega
theorem u8_u32 (a : UInt8) : a.toUInt32.toNat = a.toNat := by simp
theorem w4_or (a b c d : UInt8) : ((a.toUInt32 ||| (b.toUInt32 <<< UInt32.ofNat 8)) ||| (c.toUInt32 <<< UInt32.ofNat 16)) ||| (d.toUInt32 <<< UInt32.ofNat 24) = w4 a b c d := by
  have ha := a.toNat_lt; have hb := b.toNat_lt; have hc := c.toNat_lt; have hd := d.toNat_lt
  have sh : ∀ (x : UInt8) (k : Nat), k ≤ 24 → (x.toUInt32 <<< UInt32.ofNat k).toNat = x.toNat <<< k := fun x k hk => by
    have hx := x.toNat_lt
    rw [UInt32.toNat_shiftLeft, u8_u32]
    have : (UInt32.ofNat k).toNat % 32 = k := by rw [UInt32.toNat_ofNat']; omega
    rw [this, Nat.shiftLeft_eq]
    have : 2 ^ k ≤ 2 ^ 24 := Nat.pow_le_pow_right (by omega) hk
    have : x.toNat * 2 ^ k ≤ 255 * 2 ^ 24 := Nat.mul_le_mul (by omega) this
    omega
  refine u32_ext ?_
  rw [w4_nat]
  simp only [UInt32.toNat_or, sh _ 8 (by omega), sh _ 16 (by omega), sh _ 24 (by omega), u8_u32]
  rw [Nat.or_comm a.toNat, ← Nat.shiftLeft_add_eq_or_of_lt (by omega), Nat.or_comm _ (c.toNat <<< 16), ← Nat.shiftLeft_add_eq_or_of_lt (by rw [Nat.shiftLeft_eq]; omega), Nat.or_comm _ (d.toNat <<< 24), ← Nat.shiftLeft_add_eq_or_of_lt (by simp only [Nat.shiftLeft_eq]; omega)]
  simp only [Nat.shiftLeft_eq]
  omega
theorem w4_add (a b c d : UInt8) : ((a.toUInt32 + (b.toUInt32 * 256)) + (c.toUInt32 * 65536)) + (d.toUInt32 * 16777216) = w4 a b c d := by
  have ha := a.toNat_lt; have hb := b.toNat_lt; have hc := c.toNat_lt; have hd := d.toNat_lt
  refine u32_ext ?_
  rw [w4_nat]
  simp only [UInt32.toNat_add, UInt32.toNat_mul, u8_u32, show (256 : UInt32).toNat = 256 from rfl, show (65536 : UInt32).toNat = 65536 from rfl, show (16777216 : UInt32).toNat = 16777216 from rfl]
  omega

def unle4 : List UInt8 → List UInt32
  | a :: b :: c :: d :: l => w4 a b c d :: unle4 l
  | _ => []
theorem unle4_len : ∀ (n : Nat) (l : List UInt8), l.length = 4 * n → (unle4 l).length = n
  | 0, [], _ => rfl
  | n + 1, a :: b :: c :: d :: l, h => by
    have := unle4_len n l (by simp at h; omega)
    simp [unle4, this]
  | n + 1, [], h => by simp at h
  | n + 1, [_], h => by simp at h; omega
  | n + 1, [_, _], h => by simp at h; omega
  | n + 1, [_, _, _], h => by simp at h; omega
theorem unle4_le4s : ∀ (l : List UInt32), unle4 (le4s l) = l
  | [] => rfl
  | x :: l => by
    have e : le4s (x :: l) = le4 x ++ le4s l := by simp [le4s]
    rw [e, le4, List.cons_append, List.cons_append, List.cons_append, List.cons_append, List.nil_append, unle4, w4_le4, unle4_le4s l]
theorem le4s_unle4 : ∀ (n : Nat) (l : List UInt8), l.length = 4 * n → le4s (unle4 l) = l
  | 0, [], _ => rfl
  | n + 1, a :: b :: c :: d :: l, h => by
    have := le4s_unle4 n l (by simp at h; omega)
    have e : ∀ x (l : List UInt32), le4s (x :: l) = le4 x ++ le4s l := fun x l => by simp [le4s]
    rw [unle4, e, this, le4_w4]; rfl
  | n + 1, [], h => by simp at h
  | n + 1, [_], h => by simp at h; omega
  | n + 1, [_, _], h => by simp at h; omega
  | n + 1, [_, _, _], h => by simp at h; omega
/-- One limb more. -/
theorem unle4_next : ∀ (i : Nat) (l : List UInt8) (h : 4 * (i + 1) ≤ l.length), unle4 (l.take (4 * (i + 1))) = unle4 (l.take (4 * i)) ++ [w4 (l[4 * i]) (l[4 * i + 1]) (l[4 * i + 2]) (l[4 * i + 3])]
  | 0, a :: b :: c :: d :: l, _ => by simp [unle4]
  | i + 1, a :: b :: c :: d :: l, h => by
    have := unle4_next i l (by simp at h; omega)
    have e1 : 4 * (i + 1 + 1) = 4 * (i + 1) + 4 := by omega
    have e2 : 4 * (i + 1) = 4 * i + 4 := by omega
    simp only [e1, List.take_succ_cons, unle4, this]
    simp only [e2, List.take_succ_cons, unle4, List.cons_append]
    rfl
  | i, [], h => by simp at h
  | i, [_], h => by simp at h; omega
  | i, [_, _], h => by simp at h; omega
  | i, [_, _, _], h => by simp at h; omega

/-! ### Numbers and rationals -/
/-- Limbs, with their count ahead; only the canonical ones are read. -/
def rdN (l : List UInt8) : Option (List UInt32 × List UInt8) := (rdU l).bind fun p =>
  if p.1 ≤ p.2.length / 4 ∧ lb (val (unle4 (p.2.take (4 * p.1)))) = unle4 (p.2.take (4 * p.1)) then some (unle4 (p.2.take (4 * p.1)), p.2.drop (4 * p.1)) else none
theorem rdN_encN {m : List UInt32} (h : m.length < 18446744073709551616) (hm : lb (val m) = m) (t : List UInt8) : rdN (encN m ++ t) = some (m, t) := by
  have hl := le4s_len m
  have e1 : (le4s m ++ t).take (4 * m.length) = le4s m := by rw [← hl, List.take_left']; rfl
  have e2 : (le4s m ++ t).drop (4 * m.length) = t := by rw [← hl, List.drop_left']; rfl
  unfold rdN encN
  rw [List.append_assoc, rdU_uv h]
  show (if m.length ≤ (le4s m ++ t).length / 4 ∧ lb (val (unle4 ((le4s m ++ t).take (4 * m.length)))) = unle4 ((le4s m ++ t).take (4 * m.length)) then some (unle4 ((le4s m ++ t).take (4 * m.length)), (le4s m ++ t).drop (4 * m.length)) else none) = _
  rw [e1, e2, unle4_le4s, if_pos ⟨by simp only [List.length_append, hl]; omega, hm⟩]
theorem rdN_inv {l t : List UInt8} {m : List UInt32} (h : rdN l = some (m, t)) : l = encN m ++ t ∧ lb (val m) = m ∧ m.length < 18446744073709551616 := by
  unfold rdN at h
  cases hu : rdU l with
  | none => rw [hu] at h; cases h
  | some p =>
    obtain ⟨n, u⟩ := p
    rw [hu] at h
    have h : (if n ≤ u.length / 4 ∧ lb (val (unle4 (u.take (4 * n)))) = unle4 (u.take (4 * n)) then some (unle4 (u.take (4 * n)), u.drop (4 * n)) else none) = some (m, t) := h
    split at h
    · rename_i hc
      simp only [Option.some.injEq, Prod.mk.injEq] at h
      have hl : (u.take (4 * n)).length = 4 * n := by rw [List.length_take]; omega
      have hn := unle4_len n _ hl
      obtain ⟨h1, h2⟩ := rdU_inv hu
      rw [← h.1, ← h.2]
      refine ⟨?_, hc.2, by omega⟩
      unfold encN
      rw [hn, le4s_unle4 n _ hl, List.append_assoc, List.take_append_drop]
      exact h1
    · cases h
/-- A rational: its sign, its numerator, its denominator; only the canonical ones are read. -/
def rdR : List UInt8 → Option ((Bool × List UInt32 × List UInt32) × List UInt8)
  | [] => none
  | c :: l => if 1 < c.toNat then none else (rdN l).bind fun p => (rdN p.2).bind fun q => if rv (decide (c.toNat = 1)) p.1 q.1 = true then some ((decide (c.toNat = 1), p.1, q.1), q.2) else none
end Go.Rl
/- Walks of the reader's limbs and rationals. Conditions: the bytes are not more than 2^39. -/
namespace Go.Rl
open Go.RowKit Go.Proofs
theorem call_rnat : Callable Tryz.prog 102 := ⟨_, Tryz.func102, by kernel_rfl, rfl⟩
theorem call_RRat : Callable Tryz.prog 84 := ⟨_, Tryz.func84, by kernel_rfl, rfl⟩
theorem call_RInt : Callable Tryz.prog 83 := ⟨_, Tryz.func83, by kernel_rfl, rfl⟩
section
variable {w : World} {g : Nat}
theorem ruv_none {st : Option (List UInt8)} (hr : RdAt g st w) (h : st.bind rdU = none) : Calls Tryz.prog 99 #[.pointer (some ⟨g, 0, none⟩)] w (Ret fun r w' => w.grownBy w' (some g) ∧ r = .tuple #[U64 0, B false] ∧ ∃ l', RdAt g l' w') := by
  have := ruv_spec hr
  rw [h] at this
  exact this
theorem ruv_some {st : Option (List UInt8)} {n : Nat} {t : List UInt8} (hr : RdAt g st w) (h : st.bind rdU = some (n, t)) : Calls Tryz.prog 99 #[.pointer (some ⟨g, 0, none⟩)] w (Ret fun r w' => w.grownBy w' (some g) ∧ r = .tuple #[U64 (UInt64.ofNat n), B true] ∧ RdAt g (some t) w') := by
  have := ruv_spec hr
  rw [h] at this
  exact this
end
theorem rdN_u0 {st : Option (List UInt8)} (h : st.bind rdU = none) : st.bind rdN = none := by
  cases st with
  | none => rfl
  | some l =>
    have h : rdU l = none := h
    show rdN l = none
    unfold rdN
    rw [h]; rfl
theorem rdN_u1 {st : Option (List UInt8)} {n : Nat} {t : List UInt8} (h : st.bind rdU = some (n, t)) : st.bind rdN = if n ≤ t.length / 4 ∧ lb (val (unle4 (t.take (4 * n)))) = unle4 (t.take (4 * n)) then some (unle4 (t.take (4 * n)), t.drop (4 * n)) else none := by
  cases st with
  | none => cases h
  | some l =>
    have h : rdU l = some (n, t) := h
    show rdN l = _
    unfold rdN
    rw [h]; rfl
theorem rdU_len {st : Option (List UInt8)} {n : Nat} {t : List UInt8} {k : Nat} (h : st.bind rdU = some (n, t)) (hl : ∀ l, st = some l → l.length ≤ k) : t.length ≤ k ∧ n < 18446744073709551616 := by
  cases st with
  | none => cases h
  | some l =>
    obtain ⟨h1, h2⟩ := rdU_inv (show rdU l = some (n, t) from h)
    have := hl l rfl
    rw [h1, List.length_append] at this
    exact ⟨by omega, h2⟩
/-- A slice whose array is new. -/
def NewS (b : Nat) (v : Value) : Prop := ∀ k, v.ownBlock = some k → b ≤ k
theorem agg_inj3 {s t : Bool} {a b c d : Value} (h : (Value.agg #[B s, a, b]) = .agg #[B t, c, d]) : a = c ∧ b = d := by
  injection h with h
  have := congrArg Array.toList h
  simp only [List.cons.injEq] at this
  exact ⟨this.2.1, this.2.2.1⟩
def NatR (g : Nat) (w : World) (o : Option (List UInt32 × List UInt8)) (r : Value) (w' : World) : Prop :=
  w.grownBy w' (some g) ∧ match o with
    | some (m, t) => ∃ v, r = .tuple #[v, B true] ∧ Wds m v w' ∧ RdAt g (some t) w' ∧ NewS w.heap.size v
    | none => ∃ v, r = .tuple #[v, B false] ∧ (∃ m, Wds m v w') ∧ ∃ l', RdAt g l' w'
theorem rnat_spec {w : World} {g : Nat} {st : Option (List UInt8)} (hr : RdAt g st w) (hl : ∀ l, st = some l → l.length ≤ 549755813888) :
    Calls Tryz.prog 102 #[.pointer (some ⟨g, 0, none⟩)] w (Ret (NatR g w (st.bind rdN))) := by
  refine enter (vs := [.pointer (some ⟨g, 0, none⟩)]) Tryz.func102 rfl rfl rfl ?_
  refine c_seq (c_region (o_assign rfl rfl (o_assign rfl rfl (o_nil (n_then (c_seq ?_))))))
  rcases hU : st.bind rdU with _ | ⟨n, t⟩
  · refine c_region (o_move rfl rfl (o_call call_ruvarint rfl rfl (ruv_none hr hU) ?_))
    rintro v11 w11 ⟨x11, rfl, l', hr1⟩
    have m11 := (hr.rdT).kp x11
    refine o_move rfl rfl (o_extract rfl rfl (r_ext0) (o_extract rfl rfl (r_ext1) (o_assign rfl rfl (o_assign rfl rfl (o_nil (n_then (c_seq (c_seq (c_region (o_move rfl rfl (o_not rfl rfl r_not ?_)))))))))))
    refine o_move rfl rfl (g_no rfl rfl rfl (g_no rfl rfl rfl (g_no rfl rfl rfl (g_no rfl rfl rfl (g_no rfl rfl rfl (g_no rfl rfl rfl (g_no rfl rfl rfl (g_no rfl rfl rfl (g_no rfl rfl rfl ?_)))))))))
    refine o_pick_t rfl rfl rfl (o_nil (n_then (c_yes rfl (c_seq (c_region (o_assign rfl rfl (o_assign rfl rfl (o_nil (n_then (c_ret (r_then (r_body2 rfl rfl rfl ?_))))))))))))
    exact ⟨_, rfl, x11, by rw [rdN_u0 hU]; exact ⟨_, rfl, ⟨_, Wds.nil _⟩, l', hr1⟩⟩
  · obtain ⟨ht, hn⟩ := rdU_len hU hl
    have hnn : (UInt64.ofNat n).toNat = n := by rw [UInt64.toNat_ofNat']; omega
    refine c_region (o_move rfl rfl (o_call call_ruvarint rfl rfl (ruv_some hr hU) ?_))
    rintro v11 w11 ⟨x11, rfl, hr1⟩
    have m11 := (hr.rdT).kp x11
    refine o_move rfl rfl (o_extract rfl rfl (r_ext0) (o_extract rfl rfl (r_ext1) ?_))
    obtain ⟨A, n', c, k, b, _⟩ := hr1.rdT
    have b : Bts t (.slice A n' c) w11 := b
    refine o_assign rfl rfl (o_assign rfl rfl (o_nil (n_then (c_seq (c_seq (c_region (o_move rfl rfl (o_not rfl rfl r_not (o_move rfl rfl (g_yes rfl (o_move rfl rfl (g_yes rfl (o_move rfl rfl ?_)))))))))))))
    refine g_yes rfl (o_nilCheck rfl rfl (g_yes rfl (o_fieldAddr rfl rfl (r_fAt (o := 0) Tryz.underlying90 rfl (by kernel_rfl) rfl) (g_yes rfl (o_load rfl rfl (r_load1 Tryz.underlying28 rfl (k.cell (i := 0) rfl)) ?_)))))
    refine g_yes rfl (o_len rfl rfl (r_lenB b) (g_yes rfl (o_conv rfl rfl (r_n_u64 Tryz.underlying3 Tryz.underlying64) (g_yes rfl (o_bin (v := U64 4) rfl rfl rfl (r_quo_u64 (by decide)) ?_)))))
    refine g_yes rfl (o_bin rfl rfl rfl (r_gtr_u64) (o_pick_f rfl rfl rfl (o_nil (n_then ?_))))
    refine c_if rfl (fun h26 => ?_) (fun h26 => ?_)
    · have hlong : t.length / 4 < n := by
        have h26 := UInt64.lt_iff_toNat_lt.1 h26
        rw [UInt64.toNat_div, hnn, UInt64.toNat_ofNat', show (4 : UInt64).toNat = 4 from rfl] at h26
        omega
      refine c_seq (c_region (o_assign rfl rfl (o_assign rfl rfl (o_nil (n_then (c_ret (r_then (r_body2 rfl rfl rfl ?_))))))))
      exact ⟨_, rfl, x11, by rw [rdN_u1 hU, if_neg (by omega)]; exact ⟨_, rfl, ⟨_, Wds.nil _⟩, _, hr1⟩⟩
    · have hle : n ≤ t.length / 4 := by
        refine Nat.le_of_not_lt fun hh => h26 (UInt64.lt_iff_toNat_lt.2 ?_)
        rw [UInt64.toNat_div, hnn, UInt64.toNat_ofNat', show (4 : UInt64).toNat = 4 from rfl]
        omega
      have h4n : (4 * UInt64.ofNat n).toNat = 4 * n := by
        rw [UInt64.toNat_mul, hnn, show (4 : UInt64).toNat = 4 from rfl]
        omega
      obtain ⟨bs, hbs⟩ : ∃ bs, bs = t.take (4 * n) := ⟨_, rfl⟩
      have hbl : bs.length = 4 * n := by rw [hbs, List.length_take]; omega
      refine c_skip (n_then (c_seq (c_region (o_move rfl rfl (o_move rfl rfl (o_bin (u := U64 4) rfl rfl rfl (r_mul_u64) (o_call call_take rfl rfl ((by have := take_yes (n := 4 * UInt64.ofNat n) hr1 (by rw [h4n]; omega); rw [h4n, ← hbs] at this; exact this)) ?_)))))))
      rintro v31 w31 ⟨b31, rfl, hb31, hr2, g31⟩
      have m31 := (hr1.rdT).kp g31
      refine o_move rfl rfl (o_extract rfl rfl (r_ext0) (o_extract rfl rfl (r_ext1) (o_assign rfl rfl (o_assign rfl rfl (o_nil (n_then (c_seq (c_region (o_assign rfl rfl (o_nil (n_then (c_seq ?_))))))))))))
      refine c_block ?_
      refine c_loop3 (fun (i : Nat) (v : Value) (u : Value) => [(4, U64 (UInt64.ofNat n)), (6, v), (8, u)]) (fun (i : Nat) (v : Value) (u : Value) w' => Ext w31 w' ∧ Bts (bs.drop (4 * i)) v w31 ∧ OwnW w31.heap.size (unle4 (bs.take (4 * i))) u w' ∧ i ≤ n) (fun (i : Nat) (v : Value) (u : Value) => n - i) (0) (b31) (.slice none 0 0) ⟨rfl, rfl, rfl, trivial⟩ ⟨Ext.refl _, by simpa using hb31, by simpa [unle4] using OwnW.nil _ _, by omega⟩ ?_
      rintro i v u w6 ⟨e6, h6, o6, hi⟩
      refine c_seq (c_seq ?_)
      have hdl : (bs.drop (4 * i)).length = 4 * n - 4 * i := by rw [List.length_drop, hbl]
      refine c_region (o_move rfl rfl (o_len rfl rfl (r_lenB (h6.ext e6)) (o_bin rfl rfl rfl (r_gtr_i) (o_nil (n_then ?_)))))
      refine c_if rfl (fun h36 => ?_) (fun h36 => ?_)
      · refine c_skip (n_then (c_seq (c_block ?_)))
        have hdl : (bs.drop (4 * i)).length = 4 * n - 4 * i := by rw [List.length_drop, hbl]
        refine c_grow 24 [4, 6, 39, 62] (by kernel_rfl) (by kernel_rfl) ?_
        refine f_move rfl rfl (f_move rfl rfl ?_)
        obtain ⟨a41, p41, q41⟩ := r_ixB (h6.ext e6) (i := 0) (by omega) .i64
        refine f_indexAddr rfl rfl rfl (fun w _ => p41 w) (f_load rfl rfl (fun w hw => r_load1 Tryz.underlying5 rfl (hw.cell_some q41)) (f_conv rfl rfl (fun w _ => r_u8_u32 Tryz.underlying5 Tryz.underlying65) ?_))
        refine f_move rfl rfl ?_
        obtain ⟨a45, p45, q45⟩ := r_ixB (h6.ext e6) (i := 1) (by omega) .i64
        refine f_indexAddr rfl rfl rfl (fun w _ => p45 w) (f_load rfl rfl (fun w hw => r_load1 Tryz.underlying5 rfl (hw.cell_some q45)) (f_conv rfl rfl (fun w _ => r_u8_u32 Tryz.underlying5 Tryz.underlying65) ?_))
        refine f_bin (v := U64 8) rfl rfl rfl (fun w _ => r_shl_u32 8 (by omega)) (f_bin rfl rfl rfl (fun w _ => r_or_u32) (f_move rfl rfl ?_))
        obtain ⟨a51, p51, q51⟩ := r_ixB (h6.ext e6) (i := 2) (by omega) .i64
        refine f_indexAddr rfl rfl rfl (fun w _ => p51 w) (f_load rfl rfl (fun w hw => r_load1 Tryz.underlying5 rfl (hw.cell_some q51)) (f_conv rfl rfl (fun w _ => r_u8_u32 Tryz.underlying5 Tryz.underlying65) ?_))
        refine f_bin (v := U64 16) rfl rfl rfl (fun w _ => r_shl_u32 16 (by omega)) (f_bin rfl rfl rfl (fun w _ => r_or_u32) (f_move rfl rfl ?_))
        obtain ⟨a57, p57, q57⟩ := r_ixB (h6.ext e6) (i := 3) (by omega) .i64
        refine f_indexAddr rfl rfl rfl (fun w _ => p57 w) (f_load rfl rfl (fun w hw => r_load1 Tryz.underlying5 rfl (hw.cell_some q57)) (f_conv rfl rfl (fun w _ => r_u8_u32 Tryz.underlying5 Tryz.underlying65) ?_))
        refine f_bin (v := U64 24) rfl rfl rfl (fun w _ => r_shl_u32 24 (by omega)) (f_bin rfl rfl rfl (fun w _ => r_or_u32) (f_buildSlice (S := Wds [((((((((((bs.drop (4 * i))[0])).toUInt32) ||| ((((((bs.drop (4 * i))[1])).toUInt32) <<< UInt32.ofNat 8)))) ||| ((((((bs.drop (4 * i))[2])).toUInt32) <<< UInt32.ofNat 16)))) ||| ((((((bs.drop (4 * i))[3])).toUInt32) <<< UInt32.ofNat 24))))]) (Wds.stable _) rfl (fun w' _ => by rintro _ rfl; obtain ⟨r, w2, h1, h2, h3, _⟩ := r_bsW Tryz.underlying40 (w := w') w'.heap.size [((((((((((bs.drop (4 * i))[0])).toUInt32) ||| ((((((bs.drop (4 * i))[1])).toUInt32) <<< UInt32.ofNat 8)))) ||| ((((((bs.drop (4 * i))[2])).toUInt32) <<< UInt32.ofNat 16)))) ||| ((((((bs.drop (4 * i))[3])).toUInt32) <<< UInt32.ofNat 24))))] (by simp) (Nat.le_refl _); exact ⟨r, w2, h1, h2, h3.wds⟩) ?_))
        refine f_nil ?_
        intro wg8 xg8
        rintro _ rfl
        rintro _ hq6
        obtain rfl := Eq.symm hq6
        rintro _ hq39
        obtain rfl := Eq.symm hq39
        intro vg62 b62
        obtain ⟨v63, w63, hr63, o63, g63⟩ := r_appW Tryz.underlying40 (ty := 40) (o6.ext xg8) b62 (by have := unle4_len i (bs.take (4 * i)) (by rw [List.length_take]; omega); simp; omega) ((e6.trans xg8)).size
        have x63 := Ext.of_grew ((e6.trans xg8)) g63 (o6.ext xg8).ge
        refine o_append rfl rfl hr63 (o_assign rfl rfl (o_nil (n_block (n_then (c_region (o_move rfl rfl ?_))))))
        obtain ⟨v38, p38, b38⟩ := r_slB_lo h6 (lo := 4) (by omega) .i64
        refine o_slice rfl rfl rfl rfl rfl (p38 _) ?_
        refine o_assign rfl rfl (o_nil ?_)
        refine n_round3 (i + 1) (v38) (v63) ⟨rfl, rfl, rfl, trivial⟩ ⟨x63, by rw [List.drop_drop] at b38; exact b38, by
          rw [unle4_next i bs (by omega)]
          have e := w4_or ((bs.drop (4 * i))[0]) ((bs.drop (4 * i))[1]) ((bs.drop (4 * i))[2]) ((bs.drop (4 * i))[3])
          simp only [List.getElem_drop, Nat.add_zero] at e
          simp only [List.getElem_drop, Nat.add_zero, e] at o63
          exact o63, by omega⟩ (by omega)
      · refine c_exit (x_then (x_then (x_here (n_then (c_seq ?_)))))
        by_cases h66 : UInt64.ofNat n = 0
        · refine c_grow 12 [2, 74] (by kernel_rfl) (by kernel_rfl) ?_
          refine f_move rfl rfl (f_move rfl rfl (f_bin (v := U64 0) rfl rfl rfl (fun w _ => dec_t h66 r_eql_u64) (f_move rfl rfl (f_no rfl rfl rfl (f_no rfl rfl rfl (f_no rfl rfl rfl ?_))))))
          refine f_no rfl rfl rfl (f_no rfl rfl rfl (f_no rfl rfl rfl (f_pick_t rfl rfl rfl (f_assign rfl rfl (f_nil ?_)))))
          intro wg9 xg9
          rintro _ hq2
          obtain rfl := Eq.symm hq2
          rintro _ rfl
          refine o_assign rfl rfl (o_nil (n_then (c_ret (r_body2 rfl rfl rfl ?_))))
          exact ⟨_, rfl, (x11.trans g31).trans (grownBy_of_ext (e6.trans xg9)), by
            rw [rdN_u1 hU, ← hbs]
            first
            | (have hx : (unle4 bs)[(UInt64.ofNat n - 1).toNat] ≠ 0 ↔ lb (val (unle4 bs)) = unle4 bs := by
                 have e : (UInt64.ofNat n - 1).toNat = (unle4 bs).length - 1 := by omega
                 simp only [e]
                 exact can_iff (by omega)
               by_cases hc : lb (val (unle4 bs)) = unle4 bs
               · rw [if_pos ⟨hle, hc⟩, decide_eq_true (hx.2 hc)]
                 exact ⟨u, rfl, o6.wds.ext xg9, hr2.ext (e6.trans xg9), fun k hk => Nat.le_trans (x11.trans g31).size (o6.ge k hk)⟩
               · rw [if_neg fun h => hc h.2, decide_eq_false fun h => hc (hx.1 h)]
                 exact ⟨u, rfl, ⟨_, o6.wds.ext xg9⟩, _, hr2.ext (e6.trans xg9)⟩)
            | (have h0 : n = 0 := by
                 have := congrArg UInt64.toNat h66
                 rw [hnn] at this
                 exact this
               have hb0 : unle4 bs = [] := List.eq_nil_of_length_eq_zero (by rw [unle4_len n bs hbl]; exact h0)
               have hb1 : bs.take (4 * i) = bs := List.take_of_length_le (by omega)
               rw [hb1, hb0] at o6
               rw [hb0, if_pos ⟨hle, rfl⟩]
               exact ⟨u, rfl, o6.wds.ext xg9, hr2.ext (e6.trans xg9), fun k hk => Nat.le_trans (x11.trans g31).size (o6.ge k hk)⟩)⟩
        · refine c_grow 12 [2, 74] (by kernel_rfl) (by kernel_rfl) ?_
          refine f_move rfl rfl (f_move rfl rfl (f_bin (v := U64 0) rfl rfl rfl (fun w _ => dec_f h66 r_eql_u64) (f_move rfl rfl (f_yes rfl rfl (f_move rfl rfl (f_yes rfl rfl (f_move rfl rfl ?_)))))))
          refine f_yes rfl rfl (f_bin (v := U64 1) rfl rfl rfl (fun w _ => r_sub_u64) (f_yes rfl rfl ?_))
          have hn0 : 0 < n := by
            rcases Nat.eq_zero_or_pos n with h | h
            · exact absurd (by rw [h]; rfl) h66
            · exact h
          have hns := unle4_len n bs hbl
          have hin : i = n := by omega
          have hbi : bs.take (4 * i) = bs := List.take_of_length_le (by omega)
          rw [hbi] at o6
          have hm1 : (UInt64.ofNat n - 1).toNat = n - 1 := by
            rw [UInt64.toNat_sub_of_le _ _ (UInt64.le_iff_toNat_le.2 (by rw [hnn]; exact hn0)), hnn]; rfl
          obtain ⟨a71, p71, q71⟩ := r_ixW Tryz.underlying40 o6.wds (i := (UInt64.ofNat n - 1).toNat) (by omega) .u64
          refine f_indexAddr rfl rfl rfl (fun w hw => p71 _) (f_yes rfl rfl (f_load rfl rfl (fun w hw => r_load1 Tryz.underlying65 rfl (hw.cell_some q71)) (f_yes rfl rfl ?_)))
          refine f_bin (v := U32 0) rfl rfl rfl (fun w _ => r_neq_u32) (f_pick_f rfl rfl rfl (f_assign rfl rfl (f_nil ?_)))
          intro wg9 xg9
          rintro _ hq2
          obtain rfl := Eq.symm hq2
          rintro _ rfl
          refine o_assign rfl rfl (o_nil (n_then (c_ret (r_body2 rfl rfl rfl ?_))))
          exact ⟨_, rfl, (x11.trans g31).trans (grownBy_of_ext (e6.trans xg9)), by
            rw [rdN_u1 hU, ← hbs]
            first
            | (have hx : (unle4 bs)[(UInt64.ofNat n - 1).toNat] ≠ 0 ↔ lb (val (unle4 bs)) = unle4 bs := by
                 have e : (UInt64.ofNat n - 1).toNat = (unle4 bs).length - 1 := by omega
                 simp only [e]
                 exact can_iff (by omega)
               by_cases hc : lb (val (unle4 bs)) = unle4 bs
               · rw [if_pos ⟨hle, hc⟩, decide_eq_true (hx.2 hc)]
                 exact ⟨u, rfl, o6.wds.ext xg9, hr2.ext (e6.trans xg9), fun k hk => Nat.le_trans (x11.trans g31).size (o6.ge k hk)⟩
               · rw [if_neg fun h => hc h.2, decide_eq_false fun h => hc (hx.1 h)]
                 exact ⟨u, rfl, ⟨_, o6.wds.ext xg9⟩, _, hr2.ext (e6.trans xg9)⟩)
            | (have h0 : n = 0 := by
                 have := congrArg UInt64.toNat h66
                 rw [hnn] at this
                 exact this
               have hb0 : unle4 bs = [] := List.eq_nil_of_length_eq_zero (by rw [unle4_len n bs hbl]; exact h0)
               have hb1 : bs.take (4 * i) = bs := List.take_of_length_le (by omega)
               rw [hb1, hb0] at o6
               rw [hb0, if_pos ⟨hle, rfl⟩]
               exact ⟨u, rfl, o6.wds.ext xg9, hr2.ext (e6.trans xg9), fun k hk => Nat.le_trans (x11.trans g31).size (o6.ge k hk)⟩)⟩
section
variable {w : World} {g : Nat}
theorem rnat_none {st : Option (List UInt8)} (hr : RdAt g st w) (hl : ∀ l, st = some l → l.length ≤ 549755813888) (h : st.bind rdN = none) : Calls Tryz.prog 102 #[.pointer (some ⟨g, 0, none⟩)] w (Ret fun r w' => w.grownBy w' (some g) ∧ ∃ v, r = .tuple #[v, B false] ∧ (∃ m, Wds m v w') ∧ ∃ l', RdAt g l' w') := by
  have := rnat_spec hr hl
  rw [h] at this
  exact this
theorem rnat_someF {st : Option (List UInt8)} {m : List UInt32} {t : List UInt8} (hr : RdAt g st w) (hl : ∀ l, st = some l → l.length ≤ 549755813888) (h : st.bind rdN = some (m, t)) : Calls Tryz.prog 102 #[.pointer (some ⟨g, 0, none⟩)] w (Ret fun r w' => w.grownBy w' (some g) ∧ ∃ v, r = .tuple #[v, B true] ∧ Wds m v w' ∧ RdAt g (some t) w' ∧ NewS w.heap.size v) := by
  have := rnat_spec hr hl
  rw [h] at this
  exact this
theorem rnat_some {st : Option (List UInt8)} {m : List UInt32} {t : List UInt8} (hr : RdAt g st w) (hl : ∀ l, st = some l → l.length ≤ 549755813888) (h : st.bind rdN = some (m, t)) : Calls Tryz.prog 102 #[.pointer (some ⟨g, 0, none⟩)] w (Ret fun r w' => w.grownBy w' (some g) ∧ ∃ v, r = .tuple #[v, B true] ∧ Wds m v w' ∧ RdAt g (some t) w') := by
  exact (rnat_someF hr hl h).mono fun _ _ ⟨r, h0, h1, v, h2, h3, h4, _⟩ => ⟨r, h0, h1, v, h2, h3, h4⟩
theorem Uint_none {st : Option (List UInt8)} (hr : RdAt g st w) (h : st.bind rdU = none) : Calls Tryz.prog 82 #[.pointer (some ⟨g, 0, none⟩)] w (Ret fun r w' => w.grownBy w' (some g) ∧ r = .tuple #[U64 0, I 5] ∧ RdAt g none w') := by
  have := Uint_spec hr
  rw [h] at this
  exact this
theorem Uint_some {st : Option (List UInt8)} {n : Nat} {t : List UInt8} (hr : RdAt g st w) (h : st.bind rdU = some (n, t)) : Calls Tryz.prog 82 #[.pointer (some ⟨g, 0, none⟩)] w (Ret fun r w' => w.grownBy w' (some g) ∧ r = .tuple #[U64 (UInt64.ofNat n), I 0] ∧ RdAt g (some t) w') := by
  have := Uint_spec hr
  rw [h] at this
  exact this
end
def NatE (g : Nat) (w : World) (o : Option (List UInt32 × List UInt8)) (r : Value) (w' : World) : Prop :=
  w.grownBy w' (some g) ∧ match o with
    | some (m, t) => ∃ v, r = .tuple #[v, I 0] ∧ Wds m v w' ∧ RdAt g (some t) w'
    | none => r = .tuple #[.slice none 0 0, I 5] ∧ RdAt g none w'
def IntR (g : Nat) (w : World) (o : Option (Nat × List UInt8)) (r : Value) (w' : World) : Prop :=
  w.grownBy w' (some g) ∧ match o with
    | some (n, t) => r = .tuple #[I (uz n), I 0] ∧ RdAt g (some t) w'
    | none => r = .tuple #[I 0, I 5] ∧ RdAt g none w'
theorem r_half {P : Program} {w : World} {s d : TypeId} {n : Nat} (hs : P.underlying s = some (.int .u64)) (hd : P.underlying d = some (.int .i64)) (hn : n < 18446744073709551616) : (convert s d (U64 (UInt64.ofNat n >>> UInt64.ofNat 1))).run P w = .ok (I ((n / 2 : Nat) : Int)) w := by
  have e : (UInt64.ofNat n >>> UInt64.ofNat 1).toNat = n / 2 := by
    rw [UInt64.toNat_shiftRight, UInt64.toNat_ofNat', show (UInt64.ofNat 1).toNat % 64 = 1 from rfl, Nat.shiftRight_eq_div_pow]; omega
  have := r_u64_i (P := P) (w := w) hs hd (a := UInt64.ofNat n >>> UInt64.ofNat 1) (by omega)
  rwa [e] at this
theorem low_n {n : Nat} : (UInt64.ofNat n &&& 1).toNat = n % 2 := by
  rw [UInt64.toNat_and, UInt64.toNat_ofNat', show (1 : UInt64).toNat = 1 from rfl, Nat.and_one_is_mod]; omega
theorem r_low0 {P : Program} {w : World} {s d : TypeId} {n : Nat} (hs : P.underlying s = some (.int .u64)) (hd : P.underlying d = some (.int .i64)) (h : n % 2 = 0) : (convert s d (U64 (UInt64.ofNat n &&& 1))).run P w = .ok (I 0) w := by
  have := r_u64_i (P := P) (w := w) hs hd (a := UInt64.ofNat n &&& 1) (by rw [low_n]; omega)
  rw [low_n, h] at this
  exact this
theorem r_low1 {P : Program} {w : World} {s d : TypeId} {n : Nat} (hs : P.underlying s = some (.int .u64)) (hd : P.underlying d = some (.int .i64)) (h : n % 2 = 1) : (convert s d (U64 (UInt64.ofNat n &&& 1))).run P w = .ok (I 1) w := by
  have := r_u64_i (P := P) (w := w) hs hd (a := UInt64.ofNat n &&& 1) (by rw [low_n]; omega)
  rw [low_n, h] at this
  exact this
theorem RInt_spec {w : World} {g : Nat} {st : Option (List UInt8)} (hr : RdAt g st w) :
    Calls Tryz.prog 83 #[.pointer (some ⟨g, 0, none⟩)] w (Ret (IntR g w (st.bind rdU))) := by
  refine enter (vs := [.pointer (some ⟨g, 0, none⟩)]) Tryz.func83 rfl rfl rfl ?_
  refine c_seq (c_region (o_assign rfl rfl (o_assign rfl rfl (o_nil (n_then (c_seq ?_))))))
  rcases hN : st.bind rdU with _ | ⟨n, t⟩
  · refine c_region (o_move rfl rfl (o_call call_Uint rfl rfl (Uint_none hr hN) ?_))
    rintro v8 w8 ⟨x8, rfl, hr1⟩
    have m8 := (hr.rdT).kp x8
    refine o_move rfl rfl (o_extract rfl rfl (r_ext0) (o_extract rfl rfl (r_ext1) (o_assign rfl rfl (o_assign rfl rfl (o_nil (n_then (c_seq (c_seq (c_region (o_move rfl rfl (o_bin rfl rfl rfl (dec_t (by decide) r_neq_i) ?_)))))))))))
    refine o_nil (n_then (c_yes rfl (c_seq (c_region (o_move rfl rfl (o_assign rfl rfl (o_assign rfl rfl (o_nil (n_then (c_ret (r_then (r_body2 rfl rfl rfl ?_))))))))))))
    exact ⟨_, rfl, x8, rfl, hr1⟩
  · refine c_region (o_move rfl rfl (o_call call_Uint rfl rfl (Uint_some hr hN) ?_))
    rintro v8 w8 ⟨x8, rfl, hr1⟩
    have m8 := (hr.rdT).kp x8
    refine o_move rfl rfl (o_extract rfl rfl (r_ext0) (o_extract rfl rfl (r_ext1) (o_assign rfl rfl (o_assign rfl rfl (o_nil (n_then (c_seq (c_seq (c_region (o_move rfl rfl (o_bin rfl rfl rfl (dec_f (by decide) r_neq_i) ?_)))))))))))
    have hnn := (rdU_len (k := (st.getD []).length) hN (by rintro l rfl; exact Nat.le_refl _)).2
    refine o_nil (n_then (c_no rfl (c_skip (n_then (c_seq ?_)))))
    rcases Nat.mod_two_eq_zero_or_one n with hm | hm
    · refine c_region (o_move rfl rfl (o_bin rfl rfl rfl (r_shr_u64 1 (by omega)) (o_conv rfl rfl (r_half Tryz.underlying64 Tryz.underlying3 hnn) (o_move rfl rfl ?_))))
      refine o_bin (v := U64 1) rfl rfl rfl (r_and_u64) (o_conv rfl rfl (r_low0 Tryz.underlying64 Tryz.underlying3 hm) (o_not rfl rfl (r_neg_i (by omega) (by omega)) ?_))
      refine o_bin rfl rfl rfl (r_xor_0 (by omega)) (o_assign rfl rfl (o_assign rfl rfl (o_nil (n_then (c_ret (r_body2 rfl rfl rfl ?_))))))
      exact ⟨_, rfl, x8, congrArg (fun z => Value.tuple #[I z, I 0]) (show _ = uz n by unfold uz; rw [if_pos hm]), hr1⟩
    · refine c_region (o_move rfl rfl (o_bin rfl rfl rfl (r_shr_u64 1 (by omega)) (o_conv rfl rfl (r_half Tryz.underlying64 Tryz.underlying3 hnn) (o_move rfl rfl ?_))))
      refine o_bin (v := U64 1) rfl rfl rfl (r_and_u64) (o_conv rfl rfl (r_low1 Tryz.underlying64 Tryz.underlying3 hm) (o_not rfl rfl (r_neg_i (by omega) (by omega)) ?_))
      refine o_bin rfl rfl rfl (r_xor_1 (by omega)) (o_assign rfl rfl (o_assign rfl rfl (o_nil (n_then (c_ret (r_body2 rfl rfl rfl ?_))))))
      exact ⟨_, rfl, x8, congrArg (fun z => Value.tuple #[I z, I 0]) (show _ = uz n by unfold uz; rw [if_neg (by omega)]), hr1⟩
theorem rdR_nil : rdR [] = none := rfl
theorem rdR_big {c : UInt8} {l : List UInt8} (h : 1 < c.toNat) : rdR (c :: l) = none := if_pos h
theorem rdR_n0 {c : UInt8} {l : List UInt8} (h : rdN l = none) : rdR (c :: l) = none := by
  show (if 1 < c.toNat then none else _) = none
  split
  · rfl
  · rw [h]; rfl
theorem rdR_n1 {c : UInt8} {l t : List UInt8} {m : List UInt32} (h1 : ¬ 1 < c.toNat) (h : rdN l = some (m, t)) : rdR (c :: l) = (rdN t).bind fun q => if rv (decide (c.toNat = 1)) m q.1 = true then some ((decide (c.toNat = 1), m, q.1), q.2) else none := by
  show (if 1 < c.toNat then none else _) = _
  rw [if_neg h1, h]; rfl
def RatE (g : Nat) (w : World) (o : Option ((Bool × List UInt32 × List UInt32) × List UInt8)) (r : Value) (w' : World) : Prop :=
  w.grownBy w' (some g) ∧ match o with
    | some (q, t) => ∃ v, r = .tuple #[v, I 0] ∧ RatV q.1 q.2.1 q.2.2 v w' ∧ RdAt g (some t) w'
    | none => ∃ v, r = .tuple #[v, I 5] ∧ RatV false [] [] v w' ∧ RdAt g none w'
def RatEF (g : Nat) (w : World) (o : Option ((Bool × List UInt32 × List UInt32) × List UInt8)) (r : Value) (w' : World) : Prop :=
  w.grownBy w' (some g) ∧ match o with
    | some (q, t) => ∃ x y, r = .tuple #[.agg #[B q.1, x, y], I 0] ∧ Wds q.2.1 x w' ∧ Wds q.2.2 y w' ∧ RdAt g (some t) w' ∧ NewS w.heap.size x ∧ NewS w.heap.size y
    | none => ∃ v, r = .tuple #[v, I 5] ∧ RatV false [] [] v w' ∧ RdAt g none w'
theorem RatEF.e {g : Nat} {w w' : World} {o : Option ((Bool × List UInt32 × List UInt32) × List UInt8)} {r : Value} (h : RatEF g w o r w') : RatE g w o r w' := by
  refine ⟨h.1, ?_⟩
  have h2 := h.2
  cases o with
  | none => exact h2
  | some p =>
    obtain ⟨q, t⟩ := p
    obtain ⟨x, y, h3, h4, h5, h6, _⟩ := h2
    exact ⟨_, h3, ⟨x, y, rfl, h4, h5⟩, h6⟩
theorem RdAt.lt {w : World} {g : Nat} {st : Option (List UInt8)} (h : RdAt g st w) : g < w.heap.size := by
  obtain ⟨A, n, c, h1, _⟩ := h
  exact Blk.lt h1
theorem u8_one {c : UInt8} : c.toNat = 1 ↔ c = 1 := by
  rw [← UInt8.toNat_inj, show (1 : UInt8).toNat = 1 from rfl]
theorem RRat_specF {w : World} {g : Nat} {st : Option (List UInt8)} (hr : RdAt g st w) (hl : ∀ l, st = some l → l.length ≤ 549755813888) :
    Calls Tryz.prog 84 #[.pointer (some ⟨g, 0, none⟩)] w (Ret (RatEF g w (st.bind rdR))) := by
  refine enter (vs := [.pointer (some ⟨g, 0, none⟩)]) Tryz.func84 rfl rfl rfl ?_
  have hglt := hr.lt
  refine c_seq (c_region ?_)
  obtain ⟨g2, w2, hr2, l2, x2, k2⟩ := r_allocR (w := w)
  refine o_alloc rfl hr2 (o_assign rfl rfl (o_nil (n_then (c_seq (c_seq (c_region (o_move rfl rfl (o_bin rfl rfl rfl (r_eqnilp Tryz.underlying56) (o_nil (n_then (c_no rfl ?_)))))))))))
  refine c_skip (n_then (c_seq ?_))
  have rr := hr.ext x2
  have kk := k2
  have gg : w.grownBy w2 (some g) := grownBy_of_ext x2
  have hne : some g2 ≠ some g := fun h => by have := Option.some.inj h; omega
  have hne' : g ≠ g2 := by omega
  rcases st with _ | (_ | ⟨c, l⟩)
  · have hR : (none : Option (List UInt8)).bind rdR = none := rfl
    refine c_region (o_move rfl rfl (o_call call_take rfl rfl ((take_failed (n := 1) rr)) ?_))
    rintro v14 _ ⟨rfl, rfl⟩
    refine o_move rfl rfl (o_extract rfl rfl (r_ext0) (o_extract rfl rfl (r_ext1) (o_assign rfl rfl (o_assign rfl rfl (o_nil (n_then (c_seq (c_seq (c_region (o_move rfl rfl (o_not rfl rfl r_not ?_)))))))))))
    refine o_move rfl rfl (g_no rfl rfl rfl (g_no rfl rfl rfl (g_no rfl rfl rfl (g_no rfl rfl rfl (o_pick_t rfl rfl rfl (o_nil (n_then (c_yes rfl (c_seq (c_region ?_))))))))))
    refine o_build (vs := []) rfl rfl r_buildR0 ?_
    refine o_move rfl rfl (o_call call_fail rfl rfl (fail_spec rr) ?_)
    rintro v27 w27 ⟨rfl, rs, g27⟩
    have m27 := (rr.rdT).kp g27
    have gg := gg.trans g27
    have kk := kk.other g27 hne
    have rr := rs
    obtain ⟨p, q, w3, hp, hs3, q3, k3, n3, d3⟩ := kk.stR ⟨_, _, _, rfl⟩ ⟨_, _, _, rfl⟩ (RatV.mk (b := false) (Wds.nil _) (Wds.nil _))
    refine o_store rfl rfl (hs3) (o_assign rfl rfl (o_nil (n_then (c_ret (r_then ?_)))))
    refine r_bodyc2 rfl rfl rfl k3 Tryz.underlying42 rfl size_Rat ?_
    exact ⟨_, rfl, gb_new gg q3 l2, by rw [hR]; exact ⟨_, rfl, ⟨p, q, rfl, n3, d3⟩, (rr.rdT.off (kk.kpR ⟨_, _, _, rfl⟩ ⟨_, _, _, rfl⟩ q3) q3 hne').rdAt⟩⟩
  · have hR : (some []).bind rdR = none := rfl
    refine c_region (o_move rfl rfl (o_call call_take rfl rfl ((take_no (n := 1) rr (by decide))) ?_))
    rintro v14 _ ⟨rfl, rfl⟩
    refine o_move rfl rfl (o_extract rfl rfl (r_ext0) (o_extract rfl rfl (r_ext1) (o_assign rfl rfl (o_assign rfl rfl (o_nil (n_then (c_seq (c_seq (c_region (o_move rfl rfl (o_not rfl rfl r_not ?_)))))))))))
    refine o_move rfl rfl (g_no rfl rfl rfl (g_no rfl rfl rfl (g_no rfl rfl rfl (g_no rfl rfl rfl (o_pick_t rfl rfl rfl (o_nil (n_then (c_yes rfl (c_seq (c_region ?_))))))))))
    refine o_build (vs := []) rfl rfl r_buildR0 ?_
    refine o_move rfl rfl (o_call call_fail rfl rfl (fail_spec rr) ?_)
    rintro v27 w27 ⟨rfl, rs, g27⟩
    have m27 := (rr.rdT).kp g27
    have gg := gg.trans g27
    have kk := kk.other g27 hne
    have rr := rs
    obtain ⟨p, q, w3, hp, hs3, q3, k3, n3, d3⟩ := kk.stR ⟨_, _, _, rfl⟩ ⟨_, _, _, rfl⟩ (RatV.mk (b := false) (Wds.nil _) (Wds.nil _))
    refine o_store rfl rfl (hs3) (o_assign rfl rfl (o_nil (n_then (c_ret (r_then ?_)))))
    refine r_bodyc2 rfl rfl rfl k3 Tryz.underlying42 rfl size_Rat ?_
    exact ⟨_, rfl, gb_new gg q3 l2, by rw [hR]; exact ⟨_, rfl, ⟨p, q, rfl, n3, d3⟩, (rr.rdT.off (kk.kpR ⟨_, _, _, rfl⟩ ⟨_, _, _, rfl⟩ q3) q3 hne').rdAt⟩⟩
  · refine c_region (o_move rfl rfl (o_call call_take rfl rfl ((take_yes (n := 1) rr (by simp))) ?_))
    rintro v14 w14 ⟨b14, rfl, hb, rs, g14⟩
    have m14 := (rr.rdT).kp g14
    have gg := gg.trans g14
    have hs14 := gg.size
    have kk := kk.other g14 hne
    have rr : RdAt g (some l) w14 := rs
    have hb : Bts [c] b14 w14 := hb
    refine o_move rfl rfl (o_extract rfl rfl (r_ext0) (o_extract rfl rfl (r_ext1) (o_assign rfl rfl (o_assign rfl rfl (o_nil (n_then (c_seq (c_seq (c_region (o_move rfl rfl (o_not rfl rfl r_not ?_)))))))))))
    refine o_move rfl rfl (g_yes rfl (o_move rfl rfl (g_yes rfl ?_)))
    obtain ⟨a21, p21, q21⟩ := r_ixB hb (i := 0) (by simp) .i64
    refine o_indexAddr rfl rfl rfl (p21 _) (g_yes rfl (o_load rfl rfl (r_load1 Tryz.underlying5 rfl q21) (g_yes rfl (o_bin (v := U8 1) rfl rfl rfl (r_gtr_u8) (o_pick_f rfl rfl rfl ?_)))))
    refine o_nil (n_then ?_)
    refine c_if rfl (fun h24 => ?_) (fun h24 => ?_)
    · have hc : 1 < c.toNat := by have := UInt8.lt_iff_toNat_lt.1 h24; simpa using this
      have hR : (some (c :: l)).bind rdR = none := rdR_big hc
      refine c_seq (c_region ?_)
      refine o_build (vs := []) rfl rfl r_buildR0 ?_
      refine o_move rfl rfl (o_call call_fail rfl rfl (fail_spec rr) ?_)
      rintro v27 w27 ⟨rfl, rs, g27⟩
      have m27 := (rr.rdT).kp g27
      have gg := gg.trans g27
      have kk := kk.other g27 hne
      have rr := rs
      obtain ⟨p, q, w3, hp, hs3, q3, k3, n3, d3⟩ := kk.stR ⟨_, _, _, rfl⟩ ⟨_, _, _, rfl⟩ (RatV.mk (b := false) (Wds.nil _) (Wds.nil _))
      refine o_store rfl rfl (hs3) (o_assign rfl rfl (o_nil (n_then (c_ret (r_then ?_)))))
      refine r_bodyc2 rfl rfl rfl k3 Tryz.underlying42 rfl size_Rat ?_
      exact ⟨_, rfl, gb_new gg q3 l2, by rw [hR]; exact ⟨_, rfl, ⟨p, q, rfl, n3, d3⟩, (rr.rdT.off (kk.kpR ⟨_, _, _, rfl⟩ ⟨_, _, _, rfl⟩ q3) q3 hne').rdAt⟩⟩
    · have hc : ¬ 1 < c.toNat := fun hh => h24 (UInt8.lt_iff_toNat_lt.2 (by simpa using hh))
      have hl1 : ∀ l', some l = some l' → l'.length ≤ 549755813888 := fun l' e => by
        have := hl _ rfl
        cases e
        simp at this; omega
      refine c_skip (n_then (c_seq ?_))
      rcases hN : rdN l with _ | ⟨m, t⟩
      · have hR : (some (c :: l)).bind rdR = none := rdR_n0 hN
        refine c_region (o_move rfl rfl (o_call call_rnat rfl rfl ((rnat_none (st := some l) rr hl1 hN)) ?_))
        rintro v30 w30 ⟨g30, v0, rfl, _, _, rs⟩
        have m30 := (rr.rdT).kp g30
        have gg := gg.trans g30
        have hs30 := gg.size
        have kk := kk.other g30 hne
        have rr := rs
        refine o_move rfl rfl (o_extract rfl rfl (r_ext0) (o_extract rfl rfl (r_ext1) (o_assign rfl rfl (o_assign rfl rfl (o_nil (n_then (c_seq (c_seq (c_region (o_move rfl rfl (o_not rfl rfl r_not ?_)))))))))))
        refine o_nil (n_then (c_yes rfl (c_seq (c_region ?_))))
        refine o_build (vs := []) rfl rfl r_buildR0 ?_
        refine o_move rfl rfl (o_call call_fail rfl rfl (fail_spec rr) ?_)
        rintro v37 w37 ⟨rfl, rs, g37⟩
        have m37 := (rr.rdT).kp g37
        have gg := gg.trans g37
        have kk := kk.other g37 hne
        have rr := rs
        obtain ⟨p, q, w3, hp, hs3, q3, k3, n3, d3⟩ := kk.stR ⟨_, _, _, rfl⟩ ⟨_, _, _, rfl⟩ (RatV.mk (b := false) (Wds.nil _) (Wds.nil _))
        refine o_store rfl rfl (hs3) (o_assign rfl rfl (o_nil (n_then (c_ret (r_then ?_)))))
        refine r_bodyc2 rfl rfl rfl k3 Tryz.underlying42 rfl size_Rat ?_
        exact ⟨_, rfl, gb_new gg q3 l2, by rw [hR]; exact ⟨_, rfl, ⟨p, q, rfl, n3, d3⟩, (rr.rdT.off (kk.kpR ⟨_, _, _, rfl⟩ ⟨_, _, _, rfl⟩ q3) q3 hne').rdAt⟩⟩
      · refine c_region (o_move rfl rfl (o_call call_rnat rfl rfl ((rnat_someF (st := some l) rr hl1 hN)) ?_))
        rintro v30 w30 ⟨g30, v0, rfl, h0, rs, f0⟩
        have m30 := (rr.rdT).kp g30
        have gg := gg.trans g30
        have hs30 := gg.size
        have kk := kk.other g30 hne
        have rr := rs
        refine o_move rfl rfl (o_extract rfl rfl (r_ext0) (o_extract rfl rfl (r_ext1) (o_assign rfl rfl (o_assign rfl rfl (o_nil (n_then (c_seq (c_seq (c_region (o_move rfl rfl (o_not rfl rfl r_not ?_)))))))))))
        refine o_nil (n_then (c_no rfl (c_skip (n_then (c_seq ?_)))))
        have hl2 : ∀ l', some t = some l' → l'.length ≤ 549755813888 := fun l' e => by
          cases e
          have h1 := (rdN_inv hN).1
          have := hl1 _ rfl
          rw [h1, List.length_append] at this
          omega
        obtain ⟨s, hs⟩ : ∃ s, s = decide (c.toNat = 1) := ⟨_, rfl⟩
        have hcs : s = decide (([c] : List UInt8)[0]'(Nat.zero_lt_one) = (1 : UInt8)) := by
          rw [hs]
          exact decide_eq_decide.2 ⟨fun h => u8_one.1 h, fun h => u8_one.2 h⟩
        have hR1 := rdR_n1 hc hN
        rw [← hs] at hR1
        rcases hM : rdN t with _ | ⟨m', t'⟩
        rotate_left
        rcases hV : rv s m m'
        · have hR : (some (c :: l)).bind rdR = none := by
            show rdR (c :: l) = none
            rw [hR1, hM]
            exact if_neg (by rw [hV]; simp)
          refine c_region (o_move rfl rfl (o_call call_rnat rfl rfl ((rnat_some (st := some t) rr hl2 hM)) ?_))
          rintro v40 w40 ⟨g40, v1, rfl, h1, rs⟩
          have m40 := (rr.rdT).kp g40
          have gg := gg.trans g40
          have kk := kk.other g40 hne
          have rr := rs
          refine o_move rfl rfl (o_extract rfl rfl (r_ext0) (o_extract rfl rfl (r_ext1) (o_assign rfl rfl (o_assign rfl rfl (o_nil (n_then (c_seq (c_region (o_move rfl rfl ?_)))))))))
          obtain ⟨a44, p44, q44⟩ := r_ixB (hb.kp (m30.trans m40)) (i := 0) (by simp) .i64
          refine o_indexAddr rfl rfl rfl (p44 _) (o_load rfl rfl (r_load1 Tryz.underlying5 rfl q44) (o_bin (v := U8 1) (r := B s) rfl rfl rfl ((by rw [hcs]; exact r_eql_u8)) ?_))
          refine o_move rfl rfl (o_move rfl rfl ?_)
          refine o_build (vs := [(0, B s), (1, v0), (2, v1)]) rfl rfl (r_buildR h0.isS h1.isS) ?_
          obtain ⟨g8, w8, hr8, l8, x8, k8⟩ := r_allocR (w := w40)
          refine o_alloc rfl hr8 ?_
          obtain ⟨p, q, w4, hp, hs4, q4, k4, n4, d4⟩ := k8.stR ⟨_, _, _, rfl⟩ ⟨_, _, _, rfl⟩ (RatV.mk (b := s) ((h0.kp m40).ext x8) (h1.ext x8))
          refine o_store rfl rfl (hs4) ?_
          have x4 := x8.of_new q4 l8
          have rr := rr.ext x4
          have kk := kk.ext x4
          have gg := gg.trans (grownBy_of_ext x4)
          have hml : m.length ≤ 137438953472 := by
            have := hl1 _ rfl
            rw [(rdN_inv hN).1, List.length_append, encN, List.length_append, le4s_len] at this
            omega
          refine o_nil (n_then (c_seq (c_seq (c_region (o_move rfl rfl (o_not rfl rfl r_not (o_move rfl rfl (g_yes rfl (o_load rfl rfl (k4.ldR) (g_yes rfl ?_))))))))))
          have hml' : m'.length ≤ 137438953472 := by
            have := hl2 _ rfl
            rw [(rdN_inv hM).1, List.length_append, encN, List.length_append, le4s_len] at this
            omega
          refine o_call call_QValid rfl rfl ((by have := QValid_spec (b := s) (RatV.mk n4 d4) hml hml'; rw [hV] at this; exact this)) ?_
          rintro v54 w54 ⟨x54, rfl⟩
          have rr := rr.ext x54
          have kk := kk.ext x54
          have gg := gg.trans (grownBy_of_ext x54)
          refine g_yes rfl (o_not rfl rfl r_not (o_pick_f rfl rfl rfl (o_nil (n_then (c_yes rfl (c_seq (c_region ?_)))))))
          refine o_build (vs := []) rfl rfl r_buildR0 ?_
          refine o_move rfl rfl (o_call call_fail rfl rfl (fail_spec rr) ?_)
          rintro v59 w59 ⟨rfl, rs, g59⟩
          have m59 := (rr.rdT).kp g59
          have gg := gg.trans g59
          have kk := kk.other g59 hne
          have rr := rs
          obtain ⟨p, q, w3, hp, hs3, q3, k3, n3, d3⟩ := kk.stR ⟨_, _, _, rfl⟩ ⟨_, _, _, rfl⟩ (RatV.mk (b := false) (Wds.nil _) (Wds.nil _))
          refine o_store rfl rfl (hs3) (o_assign rfl rfl (o_nil (n_then (c_ret (r_then ?_)))))
          refine r_bodyc2 rfl rfl rfl k3 Tryz.underlying42 rfl size_Rat ?_
          exact ⟨_, rfl, gb_new gg q3 l2, by rw [hR]; exact ⟨_, rfl, ⟨p, q, rfl, n3, d3⟩, (rr.rdT.off (kk.kpR ⟨_, _, _, rfl⟩ ⟨_, _, _, rfl⟩ q3) q3 hne').rdAt⟩⟩
        · have hR : (some (c :: l)).bind rdR = some ((s, m, m'), t') := by
            show rdR (c :: l) = _
            rw [hR1, hM]
            exact if_pos hV
          refine c_region (o_move rfl rfl (o_call call_rnat rfl rfl ((rnat_someF (st := some t) rr hl2 hM)) ?_))
          rintro v40 w40 ⟨g40, v1, rfl, h1, rs, f1⟩
          have m40 := (rr.rdT).kp g40
          have gg := gg.trans g40
          have kk := kk.other g40 hne
          have rr := rs
          refine o_move rfl rfl (o_extract rfl rfl (r_ext0) (o_extract rfl rfl (r_ext1) (o_assign rfl rfl (o_assign rfl rfl (o_nil (n_then (c_seq (c_region (o_move rfl rfl ?_)))))))))
          obtain ⟨a44, p44, q44⟩ := r_ixB (hb.kp (m30.trans m40)) (i := 0) (by simp) .i64
          refine o_indexAddr rfl rfl rfl (p44 _) (o_load rfl rfl (r_load1 Tryz.underlying5 rfl q44) (o_bin (v := U8 1) (r := B s) rfl rfl rfl ((by rw [hcs]; exact r_eql_u8)) ?_))
          refine o_move rfl rfl (o_move rfl rfl ?_)
          refine o_build (vs := [(0, B s), (1, v0), (2, v1)]) rfl rfl (r_buildR h0.isS h1.isS) ?_
          obtain ⟨g8, w8, hr8, l8, x8, k8⟩ := r_allocR (w := w40)
          refine o_alloc rfl hr8 ?_
          obtain ⟨p, q, w4, hp, hs4, q4, k4, n4, d4⟩ := k8.stR ⟨_, _, _, rfl⟩ ⟨_, _, _, rfl⟩ (RatV.mk (b := s) ((h0.kp m40).ext x8) (h1.ext x8))
          refine o_store rfl rfl (hs4) ?_
          have x4 := x8.of_new q4 l8
          have rr := rr.ext x4
          have kk := kk.ext x4
          have gg := gg.trans (grownBy_of_ext x4)
          have hml : m.length ≤ 137438953472 := by
            have := hl1 _ rfl
            rw [(rdN_inv hN).1, List.length_append, encN, List.length_append, le4s_len] at this
            omega
          refine o_nil (n_then (c_seq (c_seq (c_region (o_move rfl rfl (o_not rfl rfl r_not (o_move rfl rfl (g_yes rfl (o_load rfl rfl (k4.ldR) (g_yes rfl ?_))))))))))
          have hml' : m'.length ≤ 137438953472 := by
            have := hl2 _ rfl
            rw [(rdN_inv hM).1, List.length_append, encN, List.length_append, le4s_len] at this
            omega
          refine o_call call_QValid rfl rfl ((by have := QValid_spec (b := s) (RatV.mk n4 d4) hml hml'; rw [hV] at this; exact this)) ?_
          rintro v54 w54 ⟨x54, rfl⟩
          have rr := rr.ext x54
          have kk := kk.ext x54
          have gg := gg.trans (grownBy_of_ext x54)
          refine g_yes rfl (o_not rfl rfl r_not (o_pick_f rfl rfl rfl (o_nil (n_then (c_no rfl (c_skip (n_then (c_seq (c_region (o_load rfl rfl ((k4.ext x54).ldR) ?_))))))))))
          obtain ⟨ea, eb⟩ := agg_inj3 hp
          obtain ⟨p, q, w3, hp, hs3, q3, k3, n3, d3⟩ := kk.stR ⟨_, _, _, rfl⟩ ⟨_, _, _, rfl⟩ ((RatV.mk n4 d4).ext x54)
          refine o_store rfl rfl (hs3) (o_assign rfl rfl (o_nil (n_then (c_ret ?_))))
          refine r_bodyc2 rfl rfl rfl k3 Tryz.underlying42 rfl size_Rat ?_
          exact ⟨_, rfl, gb_new gg q3 l2, by
            rw [hR]
            obtain ⟨ec, ed⟩ := agg_inj3 hp
            exact ⟨p, q, rfl, n3, d3, (rr.rdT.off (kk.kpR ⟨_, _, _, rfl⟩ ⟨_, _, _, rfl⟩ q3) q3 hne').rdAt, ec ▸ ea ▸ (fun k hk => Nat.le_trans hs14 (f0 k hk)), ed ▸ eb ▸ (fun k hk => Nat.le_trans hs30 (f1 k hk))⟩⟩
        · have hR : (some (c :: l)).bind rdR = none := by
            show rdR (c :: l) = none
            rw [hR1, hM]; rfl
          refine c_region (o_move rfl rfl (o_call call_rnat rfl rfl ((rnat_none (st := some t) rr hl2 hM)) ?_))
          rintro v40 w40 ⟨g40, v1, rfl, ⟨m', h1⟩, _, rs⟩
          have m40 := (rr.rdT).kp g40
          have gg := gg.trans g40
          have kk := kk.other g40 hne
          have rr := rs
          refine o_move rfl rfl (o_extract rfl rfl (r_ext0) (o_extract rfl rfl (r_ext1) (o_assign rfl rfl (o_assign rfl rfl (o_nil (n_then (c_seq (c_region (o_move rfl rfl ?_)))))))))
          obtain ⟨a44, p44, q44⟩ := r_ixB (hb.kp (m30.trans m40)) (i := 0) (by simp) .i64
          refine o_indexAddr rfl rfl rfl (p44 _) (o_load rfl rfl (r_load1 Tryz.underlying5 rfl q44) (o_bin (v := U8 1) (r := B s) rfl rfl rfl ((by rw [hcs]; exact r_eql_u8)) ?_))
          refine o_move rfl rfl (o_move rfl rfl ?_)
          refine o_build (vs := [(0, B s), (1, v0), (2, v1)]) rfl rfl (r_buildR h0.isS h1.isS) ?_
          obtain ⟨g8, w8, hr8, l8, x8, k8⟩ := r_allocR (w := w40)
          refine o_alloc rfl hr8 ?_
          obtain ⟨p, q, w4, hp, hs4, q4, k4, n4, d4⟩ := k8.stR ⟨_, _, _, rfl⟩ ⟨_, _, _, rfl⟩ (RatV.mk (b := s) ((h0.kp m40).ext x8) (h1.ext x8))
          refine o_store rfl rfl (hs4) ?_
          have x4 := x8.of_new q4 l8
          have rr := rr.ext x4
          have kk := kk.ext x4
          have gg := gg.trans (grownBy_of_ext x4)
          have hml : m.length ≤ 137438953472 := by
            have := hl1 _ rfl
            rw [(rdN_inv hN).1, List.length_append, encN, List.length_append, le4s_len] at this
            omega
          refine o_nil (n_then (c_seq (c_seq (c_region (o_move rfl rfl (o_not rfl rfl r_not (o_move rfl rfl (g_no rfl rfl rfl (g_no rfl rfl rfl (g_no rfl rfl rfl (o_pick_t rfl rfl rfl (o_nil (n_then ?_)))))))))))))
          refine c_yes rfl (c_seq (c_region ?_))
          refine o_build (vs := []) rfl rfl r_buildR0 ?_
          refine o_move rfl rfl (o_call call_fail rfl rfl (fail_spec rr) ?_)
          rintro v59 w59 ⟨rfl, rs, g59⟩
          have m59 := (rr.rdT).kp g59
          have gg := gg.trans g59
          have kk := kk.other g59 hne
          have rr := rs
          obtain ⟨p, q, w3, hp, hs3, q3, k3, n3, d3⟩ := kk.stR ⟨_, _, _, rfl⟩ ⟨_, _, _, rfl⟩ (RatV.mk (b := false) (Wds.nil _) (Wds.nil _))
          refine o_store rfl rfl (hs3) (o_assign rfl rfl (o_nil (n_then (c_ret (r_then ?_)))))
          refine r_bodyc2 rfl rfl rfl k3 Tryz.underlying42 rfl size_Rat ?_
          exact ⟨_, rfl, gb_new gg q3 l2, by rw [hR]; exact ⟨_, rfl, ⟨p, q, rfl, n3, d3⟩, (rr.rdT.off (kk.kpR ⟨_, _, _, rfl⟩ ⟨_, _, _, rfl⟩ q3) q3 hne').rdAt⟩⟩
theorem RRat_spec {w : World} {g : Nat} {st : Option (List UInt8)} (hr : RdAt g st w) (hl : ∀ l, st = some l → l.length ≤ 549755813888) :
    Calls Tryz.prog 84 #[.pointer (some ⟨g, 0, none⟩)] w (Ret (RatE g w (st.bind rdR))) := (RRat_specF hr hl).mono fun _ _ ⟨r, h, h'⟩ => ⟨r, h, h'.e⟩
end Go.Rl
/- Walks of the reference's reader. Conditions: the bytes are not more than 2^39. -/
namespace Go.Rl
open Go.RowKit Go.Proofs
theorem rdU_getD {st : Option (List UInt8)} : st.bind rdU = rdU (st.getD []) := by cases st <;> rfl
theorem add_byte {acc mult : UInt64} {c : UInt8} {k : Nat} (ha : acc.toNat < 128 ^ k) (hk : k ≤ 9) (h9 : k = 9 → c.toNat % 128 ≤ 1) (hm : mult.toNat = 128 ^ k) :
    (acc + (c % 128).toUInt64 * mult).toNat = acc.toNat + (c.toNat % 128) * 128 ^ k := by
  have e1 : ((c % 128).toUInt64).toNat = c.toNat % 128 := by rw [UInt8.toNat_toUInt64, UInt8.toNat_mod]; rfl
  rw [UInt64.toNat_add, UInt64.toNat_mul, e1, hm]
  rcases Nat.lt_or_ge k 9 with h | h
  · have h1 : (c.toNat % 128) * 128 ^ k ≤ 127 * 128 ^ 8 := Nat.mul_le_mul (by omega) (Nat.pow_le_pow_right (by omega) (by omega))
    have h2 : 128 ^ k ≤ 128 ^ 8 := Nat.pow_le_pow_right (by omega) (by omega)
    have e : (128 : Nat) ^ 8 = 72057594037927936 := by decide
    rw [Nat.mod_eq_of_lt (by omega), Nat.mod_eq_of_lt (by omega)]
  · have h' : k = 9 := by omega
    subst h'
    have := h9 rfl
    have e : (128 : Nat) ^ 9 = 9223372036854775808 := by decide
    rw [e] at ha ⊢
    rw [Nat.mod_eq_of_lt (by omega), Nat.mod_eq_of_lt (by omega)]
theorem rdUk_zero (k : Nat) (l : List UInt8) : rdUk 0 k l = none := rfl
theorem rdUk_step {k : Nat} {c : UInt8} {l : List UInt8} (hk : k ≤ 9) : rdUk (10 - k) k (c :: l) = if (k = 9 ∧ 1 < c.toNat) ∨ (0 < k ∧ c.toNat = 0) then none else if c.toNat < 128 then some (c.toNat * 128 ^ k, l) else (rdUk (10 - (k + 1)) (k + 1) l).map fun p => (p.1 + (c.toNat % 128) * 128 ^ k, p.2) := by
  rw [show 10 - k = (9 - k) + 1 by omega, show 10 - (k + 1) = 9 - k by omega]; rfl
end Go.Rl
/- Walks of more of the reference's reader. Conditions: the bytes are not more than 2^39. -/
namespace Go.Rl
open Go.RowKit Go.Proofs
section
variable {w : World} {g : Nat}
end
theorem gb_own {w w1 w2 : World} {row row2 : Option Nat} (h : w.grownBy w1 row) (q : w1.grownBy w2 row2) (hg : ∀ k, row2 = some k → w.heap.size ≤ k) : w.grownBy w2 row :=
  ⟨q.os.trans h.os, q.tape.trans h.tape, q.output.trans h.output, Nat.le_trans h.size q.size, fun i hi hne => (q.block i (Nat.lt_of_lt_of_le hi h.size) (fun e => by have := hg i e.symm; omega)).trans (h.block i hi hne)⟩
theorem OwnW.ge' {base : Nat} {l : List UInt32} {v : Value} {w : World} (h : OwnW base l v w) : ∀ k, v.ownBlock = some k → base ≤ k := fun k hk => h.elim fun _ h => (World.ownsRow.lt h k hk).1
theorem r_u64_n {P : Program} {w : World} {s d : TypeId} {n : Nat} (hs : P.underlying s = some (.int .u64)) (hd : P.underlying d = some (.int .i64)) (hn : n < 9223372036854775808) : (convert s d (U64 (UInt64.ofNat n))).run P w = .ok (I (n : Int)) w := by
  have e : (UInt64.ofNat n).toNat = n := by rw [UInt64.toNat_ofNat']; omega
  have := r_u64_i (P := P) (w := w) hs hd (a := UInt64.ofNat n) (by omega)
  rwa [e] at this
theorem r_half2 {P : Program} {w : World} {s d : TypeId} {n : Nat} (hs : P.underlying s = some (.int .u64)) (hd : P.underlying d = some (.int .i64)) (hn : n < 18446744073709551616) : (convert s d (U64 (UInt64.ofNat n / 2))).run P w = .ok (I ((n / 2 : Nat) : Int)) w := by
  have e : (UInt64.ofNat n / 2).toNat = n / 2 := by
    rw [UInt64.toNat_div, UInt64.toNat_ofNat', show (2 : UInt64).toNat = 2 from rfl]; omega
  have := r_u64_i (P := P) (w := w) hs hd (a := UInt64.ofNat n / 2) (by omega)
  rwa [e] at this
theorem odd_n {n : Nat} : UInt64.ofNat n % 2 = 1 ↔ n % 2 = 1 := by
  rw [← UInt64.toNat_inj, UInt64.toNat_mod, UInt64.toNat_ofNat', show (2 : UInt64).toNat = 2 from rfl, show (1 : UInt64).toNat = 1 from rfl]
  omega
theorem gtr_n {n m : Nat} (hn : n < 18446744073709551616) (hm : m < 18446744073709551616) : UInt64.ofNat n > UInt64.ofNat m ↔ m < n := by
  show UInt64.ofNat m < UInt64.ofNat n ↔ m < n
  rw [UInt64.lt_iff_toNat_lt, UInt64.toNat_ofNat', UInt64.toNat_ofNat']
  omega
theorem gtr_0 {n : Nat} (hn : n < 18446744073709551616) : UInt64.ofNat n > 0 ↔ 0 < n := gtr_n hn (by decide)
end Go.Rl
/- Walks of the reference's reader: byte strings, texts, rationals. Conditions: the bytes are not more than 2^39. -/
namespace Go.Rl
open Go.RowKit Go.Proofs
theorem rdB_u0 {st : Option (List UInt8)} (h : st.bind rdU = none) : st.bind rdB = none := by
  cases st with
  | none => rfl
  | some l =>
    have h : rdU l = none := h
    show rdB l = none
    unfold rdB
    rw [h]; rfl
theorem rdB_u1 {st : Option (List UInt8)} {n : Nat} {t : List UInt8} (h : st.bind rdU = some (n, t)) : st.bind rdB = if n ≤ t.length then some (t.take n, t.drop n) else none := by
  cases st with
  | none => cases h
  | some l =>
    have h : rdU l = some (n, t) := h
    show rdB l = _
    unfold rdB
    rw [h]; rfl
theorem rdB_len' {st : Option (List UInt8)} {a t : List UInt8} {k : Nat} (h : st.bind rdB = some (a, t)) (hl : ∀ l, st = some l → l.length ≤ k) : a.length ≤ k := by
  cases st with
  | none => cases h
  | some l => exact Nat.le_trans (rdB_len (show rdB l = some (a, t) from h)) (hl l rfl)
section
variable {w : World} {g : Nat}
end
end Go.Rl
/- The reference's reader of rationals. Conditions: the bytes are not more than 2^39. -/
namespace Go.Rl
open Go.RowKit Go.Proofs
theorem Blk.st1 {P : Program} {w : World} {T t : TypeId} {g : Nat} {l : List Value} {v : Value} (h : Blk g T l w) (i : Nat) (hs : (P.info? t).map (·.size) = some 1) (hv : ∃ A n c, v = .slice A n c) (hi : i < l.length) :
    ∃ w', (Instr.storeAt t (.pointer (some ⟨g, i, none⟩)) v).run P w = .ok () w' ∧ w.grownBy w' (some g) ∧ Blk g T (l.set i v) w' := by
  obtain ⟨A, n, c, rfl⟩ := hv
  exact ⟨_, r_store1 hs rfl h (by simpa using hi), grownBy_setCell w g i _, h.set i _⟩
theorem r_buildR1 {w : World} {b : Bool} : (Instr.build 42 #[(0, B b)]).run Tryz.prog w = .ok (.agg #[B b, .slice none 0 0, .slice none 0 0]) w :=
  run_build _ _ _ #[B b, .slice none 0 0, .slice none 0 0] (by kernel_rfl)
end Go.Rl
/- A step of two readers at once. Conditions: the bytes are not more than 2^39. -/
namespace Go.Rl
open Go.RowKit Go.Proofs
theorem rdB_inv {l a t : List UInt8} (h : rdB l = some (a, t)) : l = encB a ++ t := by
  unfold rdB at h
  cases hu : rdU l with
  | none => rw [hu] at h; cases h
  | some p =>
    obtain ⟨n, u⟩ := p
    rw [hu] at h
    have h : (if n ≤ u.length then some (u.take n, u.drop n) else none) = some (a, t) := h
    split at h
    · simp only [Option.some.injEq, Prod.mk.injEq] at h
      have e := (rdU_inv hu).1
      have hl : (u.take n).length = n := by rw [List.length_take]; omega
      rw [e, ← h.1, ← h.2, encB, hl, List.append_assoc, List.take_append_drop]
    · cases h
theorem rdR_inv {l t : List UInt8} {b : Bool} {n m : List UInt32} (h : rdR l = some ((b, n, m), t)) : l = encR b n m ++ t ∧ rv b n m = true ∧ 4 * (n.length + m.length) ≤ l.length := by
  cases l with
  | nil => cases h
  | cons c l =>
    by_cases hc : 1 < c.toNat
    · rw [rdR_big hc] at h; cases h
    · cases hN : rdN l with
      | none => rw [rdR_n0 hN] at h; cases h
      | some p =>
        obtain ⟨n', u⟩ := p
        rw [rdR_n1 hc hN] at h
        cases hM : rdN u with
        | none => rw [hM] at h; cases h
        | some q =>
          obtain ⟨m', u'⟩ := q
          rw [hM] at h
          have h : (if rv (decide (c.toNat = 1)) n' m' = true then some ((decide (c.toNat = 1), n', m'), u') else none) = some ((b, n, m), t) := h
          split at h
          · rename_i hv
            simp only [Option.some.injEq, Prod.mk.injEq] at h
            obtain ⟨⟨rfl, rfl, rfl⟩, rfl⟩ := h
            have hcs : c = sgn (decide (c.toNat = 1)) := by
              by_cases h1 : c.toNat = 1
              · rw [decide_eq_true h1, u8_one.1 h1]; rfl
              · rw [decide_eq_false h1]
                exact UInt8.toNat_inj.1 (show c.toNat = (0 : UInt8).toNat by rw [show (0 : UInt8).toNat = 0 from rfl]; omega)
            have e : c :: l = encR (decide (c.toNat = 1)) n' m' ++ u' := by
              rw [encR, ← hcs, (rdN_inv hN).1, (rdN_inv hM).1]
              simp
            refine ⟨e, hv, ?_⟩
            rw [e]
            simp only [encR, encN, List.length_append, le4s_len]
            omega
          · cases h
theorem rv_can {b : Bool} {n m : List UInt32} (h : rv b n m = true) : lb (val n) = n ∧ lb (val m) = m := by
  obtain ⟨_, h2, h3⟩ := of_decide_eq_true h
  constructor
  · obtain ⟨x, hx⟩ : ∃ x, x = val n / Nat.gcd (val n) (val (ud m)) := ⟨_, rfl⟩
    rw [← hx] at h2
    rw [h2, val_lb]
  · unfold cqD at h3
    split at h3
    · rw [h3]; rfl
    · obtain ⟨x, hx⟩ : ∃ x, x = val (ud m) / Nat.gcd (val n) (val (ud m)) := ⟨_, rfl⟩
      rw [← hx] at h3
      rw [h3, val_lb]
theorem rdR_encR {b : Bool} {n m : List UInt32} (h : rv b n m = true) (hn : n.length < 18446744073709551616) (hm : m.length < 18446744073709551616) (t : List UInt8) : rdR (encR b n m ++ t) = some ((b, n, m), t) := by
  have hs : ¬ 1 < (sgn b).toNat := by cases b <;> decide
  have hd : decide ((sgn b).toNat = 1) = b := by cases b <;> decide
  have e : encR b n m ++ t = sgn b :: (encN n ++ (encN m ++ t)) := by simp [encR]
  rw [e, rdR_n1 hs (rdN_encN hn (rv_can h).1 _), hd, rdN_encN hm (rv_can h).2]
  exact if_pos h
/-- Not too many bytes are left. -/
def Few (st : Option (List UInt8)) : Prop := ∀ l, st = some l → l.length ≤ 549755813888
theorem Few.none : Few none := fun _ h => by cases h
theorem Few.u {st : Option (List UInt8)} {n : Nat} {t : List UInt8} (h : Few st) (hu : st.bind rdU = some (n, t)) : Few (some t) := fun l e => by cases e; exact (rdU_len hu h).1
theorem Few.of {st : Option (List UInt8)} {l t p : List UInt8} (h : Few st) (e : st = some l) (hp : l = p ++ t) : Few (some t) := fun x hx => by
  cases hx
  have := h l e
  rw [hp, List.length_append] at this
  omega
theorem bind_some {α : Type} {st : Option (List UInt8)} {f : List UInt8 → Option α} {y : α} (h : st.bind f = some y) : ∃ l, st = some l ∧ f l = some y := by
  cases st with
  | none => cases h
  | some l => exact ⟨l, rfl, h⟩
theorem Few.n {st : Option (List UInt8)} {m : List UInt32} {t : List UInt8} (h : Few st) (hu : st.bind rdN = some (m, t)) : Few (some t) := by
  obtain ⟨l, e, hl⟩ := bind_some hu
  exact h.of e (rdN_inv hl).1
theorem Few.r {st : Option (List UInt8)} {q : Bool × List UInt32 × List UInt32} {t : List UInt8} (h : Few st) (hu : st.bind rdR = some (q, t)) : Few (some t) := by
  obtain ⟨l, e, hl⟩ := bind_some hu
  obtain ⟨b, n, m⟩ := q
  exact h.of e (rdR_inv hl).1
theorem Few.b {st : Option (List UInt8)} {a t : List UInt8} (h : Few st) (hu : st.bind rdB = some (a, t)) : Few (some t) := by
  obtain ⟨l, e, hl⟩ := bind_some hu
  exact h.of e (rdB_inv hl)
theorem r_build1N {w : World} {p : Value} (hp : ∃ A n c, p = .slice A n c) : (Instr.build 42 #[(1, p)]).run Tryz.prog w = .ok (.agg #[B false, p, .slice none 0 0]) w := by
  obtain ⟨A, n, d, rfl⟩ := hp
  exact run_build _ _ _ #[B false, .slice A n d, .slice none 0 0] (by kernel_rfl)
theorem SSame_refl {w : World} {a : Bool} {n m : List UInt32} {v u : Value} (hv : RatV a n m v w) (hu : RatV a n m u w) :
    Calls Tryz.prog 35 #[v, u] w (Ret fun r w' => Ext w w' ∧ r = B true) := by
  have := SSame_spec hv hu
  rw [decide_eq_true ⟨rfl, rfl, rfl⟩] at this
  exact this
/-! What a call on the wire's reader and on the reference's leaves, by cases. -/
section
variable {w : World} {g : Nat} {st : Option (List UInt8)}
theorem WU_no (hr : RdAt g st w) (h : st.bind rdU = none) : Calls Tryz.prog 82 #[.pointer (some ⟨g, 0, none⟩)] w (Ret fun r w' => w.grownBy w' (some g) ∧ r = .tuple #[U64 0, I 5] ∧ RdAt g none w') := by
  have := Uint_spec hr
  rw [h] at this
  exact this
theorem WU_ok {n : Nat} {t : List UInt8} (hr : RdAt g st w) (h : st.bind rdU = some (n, t)) : Calls Tryz.prog 82 #[.pointer (some ⟨g, 0, none⟩)] w (Ret fun r w' => w.grownBy w' (some g) ∧ r = .tuple #[U64 (UInt64.ofNat n), I 0] ∧ RdAt g (some t) w') := by
  have := Uint_spec hr
  rw [h] at this
  exact this
theorem WI_no (hr : RdAt g st w) (h : st.bind rdU = none) : Calls Tryz.prog 83 #[.pointer (some ⟨g, 0, none⟩)] w (Ret fun r w' => w.grownBy w' (some g) ∧ r = .tuple #[I 0, I 5] ∧ RdAt g none w') := by
  have := RInt_spec hr
  rw [h] at this
  exact this
theorem WI_ok {n : Nat} {t : List UInt8} (hr : RdAt g st w) (h : st.bind rdU = some (n, t)) : Calls Tryz.prog 83 #[.pointer (some ⟨g, 0, none⟩)] w (Ret fun r w' => w.grownBy w' (some g) ∧ r = .tuple #[I (uz n), I 0] ∧ RdAt g (some t) w') := by
  have := RInt_spec hr
  rw [h] at this
  exact this
theorem WR_no (hr : RdAt g st w) (hl : Few st) (h : st.bind rdR = none) : Calls Tryz.prog 84 #[.pointer (some ⟨g, 0, none⟩)] w (Ret fun r w' => w.grownBy w' (some g) ∧ ∃ v, r = .tuple #[v, I 5] ∧ RatV false [] [] v w' ∧ RdAt g none w') := by
  have := RRat_spec hr hl
  rw [h] at this
  exact this
theorem WR_ok {b : Bool} {n m : List UInt32} {t : List UInt8} (hr : RdAt g st w) (hl : Few st) (h : st.bind rdR = some ((b, n, m), t)) : Calls Tryz.prog 84 #[.pointer (some ⟨g, 0, none⟩)] w (Ret fun r w' => w.grownBy w' (some g) ∧ ∃ v, r = .tuple #[v, I 0] ∧ RatV b n m v w' ∧ RdAt g (some t) w') := by
  have := RRat_spec hr hl
  rw [h] at this
  exact this
end
end Go.Rl
/- Plain maths: the digest as a function on lists. Nothing of a program. -/
namespace Go.Rl

def rotr (x : UInt32) (n : Nat) : UInt32 := (x >>> UInt32.ofNat n) ||| (x <<< UInt32.ofNat (32 - n))
/-- The constants of the rounds. -/
def kc : List UInt32 := [0x428a2f98, 0x71374491, 0xb5c0fbcf, 0xe9b5dba5, 0x3956c25b, 0x59f111f1, 0x923f82a4, 0xab1c5ed5, 0xd807aa98, 0x12835b01, 0x243185be, 0x550c7dc3, 0x72be5d74, 0x80deb1fe, 0x9bdc06a7, 0xc19bf174, 0xe49b69c1, 0xefbe4786, 0x0fc19dc6, 0x240ca1cc, 0x2de92c6f, 0x4a7484aa, 0x5cb0a9dc, 0x76f988da, 0x983e5152, 0xa831c66d, 0xb00327c8, 0xbf597fc7, 0xc6e00bf3, 0xd5a79147, 0x06ca6351, 0x14292967, 0x27b70a85, 0x2e1b2138, 0x4d2c6dfc, 0x53380d13, 0x650a7354, 0x766a0abb, 0x81c2c92e, 0x92722c85, 0xa2bfe8a1, 0xa81a664b, 0xc24b8b70, 0xc76c51a3, 0xd192e819, 0xd6990624, 0xf40e3585, 0x106aa070, 0x19a4c116, 0x1e376c08, 0x2748774c, 0x34b0bcb5, 0x391c0cb3, 0x4ed8aa4a, 0x5b9cca4f, 0x682e6ff3, 0x748f82ee, 0x78a5636f, 0x84c87814, 0x8cc70208, 0x90befffa, 0xa4506ceb, 0xbef9a3f7, 0xc67178f2]
/-- The initial state. -/
def iv : List UInt32 := [0x6a09e667, 0xbb67ae85, 0x3c6ef372, 0xa54ff53a, 0x510e527f, 0x9b05688c, 0x1f83d9ab, 0x5be0cd19]
/-- A word of a block. -/
def word (b : List UInt8) (t : Nat) : UInt32 := ((((b.getD (4 * t) 0).toUInt32 <<< UInt32.ofNat 24) ||| ((b.getD (4 * t + 1) 0).toUInt32 <<< UInt32.ofNat 16)) ||| ((b.getD (4 * t + 2) 0).toUInt32 <<< UInt32.ofNat 8)) ||| (b.getD (4 * t + 3) 0).toUInt32
def nextW (l : List UInt32) : UInt32 :=
  let t := l.length
  let x := l.getD (t - 15) 0
  let y := l.getD (t - 2) 0
  l.getD (t - 16) 0 + (rotr x 7 ^^^ rotr x 18 ^^^ x >>> UInt32.ofNat 3) + l.getD (t - 7) 0 + (rotr y 17 ^^^ rotr y 19 ^^^ y >>> UInt32.ofNat 10)
/-- The first words. -/
def words (b : List UInt8) (k : Nat) : List UInt32 := (List.range k).map (word b)
def sched (b : List UInt8) : Nat → List UInt32
  | 0 => words b 16
  | k + 1 => sched b k ++ [nextW (sched b k)]
theorem sched_len (b : List UInt8) : ∀ k, (sched b k).length = 16 + k
  | 0 => by simp [sched, words]
  | k + 1 => by simp [sched, sched_len b k]; omega
/-- One round. -/
def t1 (s : List UInt32) (k w : UInt32) : UInt32 :=
  let e := s.getD 4 0
  s.getD 7 0 + (rotr e 6 ^^^ rotr e 11 ^^^ rotr e 25) + (e &&& s.getD 5 0 ^^^ ~~~e &&& s.getD 6 0) + k + w
def t2 (s : List UInt32) : UInt32 :=
  let a := s.getD 0 0
  (rotr a 2 ^^^ rotr a 13 ^^^ rotr a 22) + (a &&& s.getD 1 0 ^^^ a &&& s.getD 2 0 ^^^ s.getD 1 0 &&& s.getD 2 0)
def rnd (s : List UInt32) (k w : UInt32) : List UInt32 := [t1 s k w + t2 s, s.getD 0 0, s.getD 1 0, s.getD 2 0, s.getD 3 0 + t1 s k w, s.getD 4 0, s.getD 5 0, s.getD 6 0]
def rounds (b : List UInt8) (s : List UInt32) : Nat → List UInt32
  | 0 => s
  | i + 1 => rnd (rounds b s i) (kc.getD i 0) ((sched b 48).getD i 0)
theorem rounds_len (b : List UInt8) (s : List UInt32) (hs : s.length = 8) : ∀ i, (rounds b s i).length = 8
  | 0 => hs
  | _ + 1 => rfl
/-- The state behind a block. -/
def cmpr (s : List UInt32) (b : List UInt8) : List UInt32 := List.zipWith (· + ·) s (rounds b s 64)
theorem cmpr_len (s : List UInt32) (b : List UInt8) (hs : s.length = 8) : (cmpr s b).length = 8 := by
  simp [cmpr, hs, rounds_len b s hs]
/-- The state behind the first blocks. -/
def shN (m : List UInt8) : Nat → List UInt32
  | 0 => iv
  | k + 1 => cmpr (shN m k) ((m.drop (64 * k)).take 64)
theorem shN_len (m : List UInt8) : ∀ k, (shN m k).length = 8
  | 0 => rfl
  | k + 1 => cmpr_len _ _ (shN_len m k)
theorem shN_append (m x : List UInt8) : ∀ k, 64 * k ≤ m.length → shN (m ++ x) k = shN m k
  | 0, _ => rfl
  | k + 1, h => by
    have h0 : 64 * k ≤ m.length := by omega
    have h1 : 64 ≤ (m.drop (64 * k)).length := by simp; omega
    rw [shN, shN, shN_append m x k h0, List.drop_append_of_le_length h0, List.take_append_of_le_length h1]
def sh (m : List UInt8) : List UInt32 := shN m (m.length / 64)
theorem sh_len (m : List UInt8) : (sh m).length = 8 := shN_len m _
theorem sh_tail (p t : List UInt8) (hp : p.length % 64 = 0) (ht : t.length < 64) : sh (p ++ t) = sh p := by
  have : (p ++ t).length / 64 = p.length / 64 := by simp only [List.length_append]; omega
  unfold sh
  rw [this, shN_append p t _ (by omega)]
theorem sh_block (p b : List UInt8) (hp : p.length % 64 = 0) (hb : b.length = 64) : sh (p ++ b) = cmpr (sh p) b := by
  have h1 : (p ++ b).length / 64 = p.length / 64 + 1 := by simp only [List.length_append]; omega
  unfold sh
  rw [h1, shN, shN_append p b _ (by omega)]
  have h2 : 64 * (p.length / 64) = p.length := by omega
  rw [h2, List.drop_left, ← hb, List.take_length]
def be4 (x : UInt32) : List UInt8 := [(x >>> UInt32.ofNat 24).toUInt8, (x >>> UInt32.ofNat 16).toUInt8, (x >>> UInt32.ofNat 8).toUInt8, x.toUInt8]
def be8 (n : UInt64) : List UInt8 := (List.range 8).map fun i => (n >>> UInt64.ofNat (56 - 8 * i)).toUInt8
def padZ (n : Nat) : Nat := (119 - n % 64) % 64
def padded (m : List UInt8) : List UInt8 := m ++ [128] ++ List.replicate (padZ m.length) 0 ++ be8 (UInt64.ofNat m.length * 8)
theorem padded_len (m : List UInt8) : (padded m).length % 64 = 0 := by
  simp only [padded, padZ, be8, List.length_append, List.length_cons, List.length_nil, List.length_replicate, List.length_map, List.length_range]; omega
/-- The digest. -/
def dig (m : List UInt8) : List UInt8 := (sh (padded m)).flatMap be4
end Go.Rl
/- Plain maths: models as data, their bytes, reading them back. Nothing of a program but the names of what it imports. -/
namespace Go.Rl
open Go.RowKit

abbrev RatD := Bool × List UInt32 × List UInt32
def dIn (n : Int) : Dt := .int .i64 n
def dRat (q : RatD) : Dt := .st [.bool q.1, dNat q.2.1, dNat q.2.2]
structure LayD where
  kd : Int
  fr : Int
  ou : Int
  kh : Int
  kw : Int
  sr : Int
  pd : Int
  ws : List RatD
  bs : List RatD
structure ModD where
  inp : List Int
  lays : List LayD
theorem LayD.eq_iff {a b : LayD} : a = b ↔ a.kd = b.kd ∧ a.fr = b.fr ∧ a.ou = b.ou ∧ a.kh = b.kh ∧ a.kw = b.kw ∧ a.sr = b.sr ∧ a.pd = b.pd ∧ a.ws = b.ws ∧ a.bs = b.bs := by
  constructor
  · rintro rfl; exact ⟨rfl, rfl, rfl, rfl, rfl, rfl, rfl, rfl, rfl⟩
  · rintro ⟨h1, h2, h3, h4, h5, h6, h7, h8, h9⟩
    cases a; cases b; simp_all
theorem ModD.eq_iff {a b : ModD} : a = b ↔ a.inp = b.inp ∧ a.lays = b.lays := by
  constructor
  · rintro rfl; exact ⟨rfl, rfl⟩
  · rintro ⟨h1, h2⟩
    cases a; cases b; simp_all
instance : DecidableEq LayD := fun _ _ => decidable_of_iff _ LayD.eq_iff.symm
instance : DecidableEq ModD := fun _ _ => decidable_of_iff _ ModD.eq_iff.symm
def dRats (l : List RatD) : Dt := .sl (l.map dRat)
def dLay (l : LayD) : Dt := .st [dIn l.kd, dIn l.fr, dIn l.ou, dIn l.kh, dIn l.kw, dIn l.sr, dIn l.pd, dRats l.ws, dRats l.bs]
def dInts (l : List Int) : Dt := .sl (l.map dIn)
def dMod (m : ModD) : Dt := .st [dInts m.inp, .sl (m.lays.map dLay)]
def i64 (n : Int) : Prop := -9223372036854775808 ≤ n ∧ n ≤ 9223372036854775807
def LayD.ints (l : LayD) : List Int := [l.kd, l.fr, l.ou, l.kh, l.kw, l.sr, l.pd]
def LayD.wf (l : LayD) : Prop := ∀ n ∈ l.ints, i64 n
def ModD.wf (m : ModD) : Prop := (∀ n ∈ m.inp, i64 n) ∧ ∀ l ∈ m.lays, l.wf

/-! ### bytes -/
def encI (n : Int) : List UInt8 := uv (zig n)
def encQ (q : RatD) : List UInt8 := encR q.1 q.2.1 q.2.2
def encQs (l : List RatD) : List UInt8 := uv l.length ++ l.flatMap encQ
def encL (l : LayD) : List UInt8 := l.ints.flatMap encI ++ encQs l.ws ++ encQs l.bs
def encM (m : ModD) : List UInt8 := uv m.inp.length ++ m.inp.flatMap encI ++ uv m.lays.length ++ m.lays.flatMap encL
def rlum : List UInt8 := [82, 76, 85, 77]
def fileM (m : ModD) : List UInt8 := rlum ++ encM m ++ dig (rlum ++ encM m)

/-! ### reading -/
def rdI (l : List UInt8) : Option (Int × List UInt8) := (rdU l).map fun p => (uz p.1, p.2)
def rdMany {α : Type} (f : List UInt8 → Option (α × List UInt8)) : Nat → List UInt8 → Option (List α × List UInt8)
  | 0, l => some ([], l)
  | n + 1, l => (f l).bind fun p => (rdMany f n p.2).map fun q => (p.1 :: q.1, q.2)
def rdList {α : Type} (f : List UInt8 → Option (α × List UInt8)) (l : List UInt8) : Option (List α × List UInt8) := (rdU l).bind fun p => rdMany f p.1 p.2
def rdQs : List UInt8 → Option (List RatD × List UInt8) := rdList rdR
def rdL (l : List UInt8) : Option (LayD × List UInt8) :=
  (rdI l).bind fun a => (rdI a.2).bind fun b => (rdI b.2).bind fun c => (rdI c.2).bind fun d => (rdI d.2).bind fun e => (rdI e.2).bind fun f => (rdI f.2).bind fun g =>
    (rdQs g.2).bind fun x => (rdQs x.2).bind fun y => some (⟨a.1, b.1, c.1, d.1, e.1, f.1, g.1, x.1, y.1⟩, y.2)
def rdM (l : List UInt8) : Option (ModD × List UInt8) := (rdList rdI l).bind fun a => (rdList rdL a.2).bind fun b => some (⟨a.1, b.1⟩, b.2)

theorem rdI_enc {n : Int} (h : i64 n) (t : List UInt8) : rdI (encI n ++ t) = some (n, t) := by
  unfold rdI encI
  rw [rdU_uv (zig_lt h.1 h.2)]
  simp [uz_zig]
theorem rdMany_enc {α : Type} {f : List UInt8 → Option (α × List UInt8)} {e : α → List UInt8} : ∀ (l : List α) (t : List UInt8), (∀ x ∈ l, ∀ t, f (e x ++ t) = some (x, t)) → rdMany f l.length (l.flatMap e ++ t) = some (l, t)
  | [], t, _ => rfl
  | x :: l, t, h => by
    simp only [List.flatMap_cons, List.append_assoc, List.length_cons, rdMany]
    rw [h x (by simp)]
    simp only [Option.bind_some]
    rw [rdMany_enc l t fun y hy => h y (by simp [hy])]
    rfl
theorem rdList_enc {α : Type} {f : List UInt8 → Option (α × List UInt8)} {e : α → List UInt8} {l : List α} (hl : l.length < 18446744073709551616) (h : ∀ x ∈ l, ∀ t, f (e x ++ t) = some (x, t)) (t : List UInt8) : rdList f (uv l.length ++ l.flatMap e ++ t) = some (l, t) := by
  unfold rdList
  rw [List.append_assoc, rdU_uv hl]
  exact rdMany_enc l t h
/-- A rational that reads back: canonical, not too long. -/
def okQ (q : RatD) : Prop := rv q.1 q.2.1 q.2.2 = true ∧ q.2.1.length < 18446744073709551616 ∧ q.2.2.length < 18446744073709551616
theorem rdQ_enc {q : RatD} (h : okQ q) (t : List UInt8) : rdR (encQ q ++ t) = some (q, t) := rdR_encR h.1 h.2.1 h.2.2 t
theorem rdQs_enc {l : List RatD} (hl : l.length < 18446744073709551616) (h : ∀ q ∈ l, okQ q) (t : List UInt8) : rdQs (encQs l ++ t) = some (l, t) := rdList_enc hl (fun q hq => rdQ_enc (h q hq)) t
structure LayD.ok (l : LayD) : Prop where
  wf : l.wf
  wl : l.ws.length < 18446744073709551616
  bl : l.bs.length < 18446744073709551616
  wq : ∀ q ∈ l.ws, okQ q
  bq : ∀ q ∈ l.bs, okQ q
theorem rdL_enc {l : LayD} (h : l.ok) (t : List UInt8) : rdL (encL l ++ t) = some (l, t) := by
  obtain ⟨kd, fr, ou, kh, kw, sr, pd, ws, bs⟩ := l
  have hw := h.wf
  simp only [LayD.wf, LayD.ints, List.mem_cons, List.not_mem_nil, or_false, forall_eq_or_imp, forall_eq] at hw
  obtain ⟨h1, h2, h3, h4, h5, h6, h7⟩ := hw
  simp only [encL, LayD.ints, List.flatMap_cons, List.flatMap_nil, List.append_nil, List.append_assoc, rdL]
  rw [rdI_enc h1]; simp only [Option.bind_some]
  rw [rdI_enc h2]; simp only [Option.bind_some]
  rw [rdI_enc h3]; simp only [Option.bind_some]
  rw [rdI_enc h4]; simp only [Option.bind_some]
  rw [rdI_enc h5]; simp only [Option.bind_some]
  rw [rdI_enc h6]; simp only [Option.bind_some]
  rw [rdI_enc h7]; simp only [Option.bind_some]
  rw [rdQs_enc h.wl h.wq]; simp only [Option.bind_some]
  rw [rdQs_enc h.bl h.bq]; simp only [Option.bind_some]
structure ModD.ok (m : ModD) : Prop where
  il : m.inp.length < 18446744073709551616
  ll : m.lays.length < 18446744073709551616
  iw : ∀ n ∈ m.inp, i64 n
  lo : ∀ l ∈ m.lays, l.ok
theorem rdM_enc {m : ModD} (h : m.ok) (t : List UInt8) : rdM (encM m ++ t) = some (m, t) := by
  obtain ⟨inp, lays⟩ := m
  unfold rdM encM
  have e : uv inp.length ++ inp.flatMap encI ++ uv lays.length ++ lays.flatMap encL ++ t = uv inp.length ++ inp.flatMap encI ++ (uv lays.length ++ lays.flatMap encL ++ t) := by simp only [List.append_assoc]
  simp only []
  rw [e, rdList_enc h.il (fun n hn => rdI_enc (h.iw n hn))]
  simp only [Option.bind_some]
  rw [rdList_enc h.ll (fun l hl => rdL_enc (h.lo l hl))]
  rfl
/-- One more item behind those that were read. -/
theorem rdMany_snoc {α : Type} {f : List UInt8 → Option (α × List UInt8)} : ∀ (k n : Nat) (l : List UInt8), rdMany f (k + n) l = (rdMany f k l).bind fun p => (rdMany f n p.2).map fun q => (p.1 ++ q.1, q.2)
  | 0, n, l => by simp [rdMany]
  | k + 1, n, l => by
    rw [Nat.add_right_comm]
    simp only [rdMany]
    cases f l with
    | none => rfl
    | some p =>
      simp only [Option.bind_some]
      rw [rdMany_snoc k n p.2]
      cases rdMany f k p.2 with
      | none => rfl
      | some q =>
        simp only [Option.bind_some, Option.map_some]
        cases rdMany f n q.2 with
        | none => rfl
        | some s => rfl
end Go.Rl
/- Structs in blocks and in rows, slices of structs: facts and runs. Conditions: each lemma names its own. -/
namespace Go.Rl
open Go.RowKit Go.Proofs
section
variable {α : Type} {f : α → Dt} {l : List α} {v : Value} {w w' : World}
/-- A slice whose elements read as f of the list's members. -/
def DsV (f : α → Dt) (l : List α) (v : Value) (w : World) : Prop := Rp w (.sl (l.map f)) [v]
theorem DsV.ext (h : DsV f l v w) (hx : Ext w w') : DsV f l v w' := Rp.ext hx h
theorem DsV.stable (f : α → Dt) (l : List α) : Stable (DsV f l) := fun _ _ _ h hx => h.ext hx
theorem DsV.isS (h : DsV f l v w) : ∃ A n c, v = .slice A n c := by
  unfold DsV at h
  simp only [Rp] at h
  obtain ⟨A, n, c, hv, _⟩ := h
  exact ⟨A, n, c, by simpa using hv⟩
theorem DsV.one (h : DsV f l v w) : v.oneCell' = true := by obtain ⟨A, n, c, rfl⟩ := h.isS; rfl
theorem Wds.one {l : List UInt32} (h : Wds l v w) : v.oneCell' = true := by obtain ⟨A, n, c, rfl⟩ := h.isS; rfl
theorem DsV.nil (f : α → Dt) (w : World) : DsV f [] (.slice none 0 0) w := Rp.nilSl
theorem DsV.len (h : DsV f l v w) : l.length ≤ 9223372036854775807 := by
  have := Rp.slLen h
  simpa using this
theorem r_lenDs {P : Program} {t e : TypeId} {ty : TypeId} (ht : P.underlying t = some (.slice e)) (h : DsV f l v w) : (Builtin.len_ #[t] ty #[v]).run P w = .ok (I l.length) w := by
  have := r_lenD (ty := ty) ht h
  simpa using this
theorem r_ixDs {P : Program} {t e : TypeId} {sz : Nat} (ht : P.underlying t = some (.slice e)) (hz : (P.info? e).map (·.size) = some sz) (hs : ∀ x, (f x).size = sz) (h0 : 0 < sz) (h : DsV f l v w) {i : Nat} (hi : i < l.length) (k : IntKind) :
    ∃ ad cs, (∀ w' : World, (Instr.indexAt t v (.int k i)).run P w' = .ok (.pointer (some ad)) w') ∧ Cells w ad cs ∧ Rp w (f l[i]) cs := by
  obtain ⟨ad, cs, h1, h2, h3⟩ := r_ixD ht hz h (by simp [hs]) h0 (i := i) (by simpa using hi) k
  exact ⟨ad, cs, h1, h2, by simpa using h3⟩
theorem Cells.at {ad : Addr} {xs : List Value} (h : Cells w ad xs) {j : Nat} {u : Value} (hj : xs[j]? = some u) : w.cell? (ad.add j) = some u := h j u hj
/-- a field of a struct that lies somewhere -/
theorem r_fC {P : Program} {s : TypeId} {fs : Array Field} {fd : Field} {n o : Nat} {a : Addr} (hs : P.underlying s = some (.struct fs)) (hf : fs[n]? = some fd) (hk : (P.cellsOf fd.type == 0) = false) (ho : fd.offset = o) :
    (Instr.fieldAt s (.pointer (some a)) n).run P w = .ok (.pointer (some (a.add o))) w := by
  have hk' : P.cellsOf fd.type ≠ 0 := by simpa using hk
  obtain ⟨k, hk1⟩ : ∃ k, (P.info? fd.type).map (·.size) = some k := by
    cases hi : (P.info? fd.type).map (·.size) with
    | none => exact absurd (by simp [Program.cellsOf, hi]) hk'
    | some k => exact ⟨k, rfl⟩
  have hk0 : k ≠ 0 := by
    intro h
    apply hk'
    simp [Program.cellsOf, hk1, h]
  rw [r_fieldAt hs hf hk1 hk0, ho]
theorem r_fC2 {P : Program} {s : TypeId} {fs : Array Field} {fd : Field} {n o b : Nat} {a : Addr} (hs : P.underlying s = some (.struct fs)) (hf : fs[n]? = some fd) (hk : (P.cellsOf fd.type == 0) = false) (ho : fd.offset = o) :
    (Instr.fieldAt s (.pointer (some (a.add b))) n).run P w = .ok (.pointer (some (a.add (b + o)))) w := by
  rw [r_fC hs hf hk ho, add_add]
/-- a struct loaded whole -/
theorem Cells.ld {P : Program} {t : TypeId} {d : TypeDesc} {ad : Addr} {cs : List Value} (h : Cells w ad cs) (ht : P.underlying t = some d) (hd : d.isRow = true) (hz : (P.info? t).map (·.size) = some cs.length) : (Instr.loadAt t (.pointer (some ad))).run P w = .ok (.agg cs.toArray) w := r_ldR h ht hd hz
theorem Blk.ld {P : Program} {t T : TypeId} {d : TypeDesc} {g : Nat} {cs : List Value} (h : Blk g T cs w) (ht : P.underlying t = some d) (hd : d.isRow = true) (hz : (P.info? t).map (·.size) = some cs.length) : (Instr.loadAt t (.pointer (some ⟨g, 0, none⟩))).run P w = .ok (.agg cs.toArray) w :=
  r_ldA h (fun j v hj => by simpa using hj) ht hd hz
theorem Blk.ldO {P : Program} {t T : TypeId} {d : TypeDesc} {g o : Nat} {cs ms : List Value} (h : Blk g T cs w) (hm : ∀ j v, ms[j]? = some v → cs[o + j]? = some v) (ht : P.underlying t = some d) (hd : d.isRow = true) (hz : (P.info? t).map (·.size) = some ms.length) : (Instr.loadAt t (.pointer (some ⟨g, o, none⟩))).run P w = .ok (.agg ms.toArray) w :=
  r_ldA h hm ht hd hz
/-- a struct put into a block of its own -/
theorem r_boxS {P : Program} {T : TypeId} {cs : List Value} : ∃ g w', (Instr.box T (.agg cs.toArray)).run P w = .ok (.pointer (some ⟨g, 0, none⟩)) w' ∧ w.heap.size ≤ g ∧ Ext w w' ∧ Blk g T cs w' :=
  ⟨_, _, r_box, Nat.le_refl _, Ext.new w _, Blk.new (T := T) (.agg cs.toArray) rfl⟩
/-- every cell holds one value -/
def Ones (l : List Value) : Prop := ∀ v ∈ l, v.oneCell' = true
theorem Ones.nil : Ones [] := fun _ h => by simp at h
theorem Ones.cons {v : Value} {l : List Value} (h : v.oneCell' = true) (h' : Ones l) : Ones (v :: l) := fun u hu => by
  rcases List.mem_cons.1 hu with rfl | hu
  · exact h
  · exact h' u hu
theorem Blk.stS {P : Program} {t T : TypeId} {g : Nat} {l m : List Value} (h : Blk g T l w) (hl : l.length = m.length) (hi : (P.info? t).map (·.size) = some m.length) (h1 : Ones m) :
    ∃ w', (Instr.storeAt t (.pointer (some ⟨g, 0, none⟩)) (.agg m.toArray)).run P w = .ok () w' ∧ w.grownBy w' (some g) ∧ Blk g T m w' :=
  ⟨_, r_stA h hl hi h1, grownBy_setRow w g _, h.row m⟩
/-- one cell of a struct in a block -/
theorem Blk.stC {P : Program} {t T : TypeId} {g i : Nat} {l : List Value} {v : Value} (h : Blk g T l w) (hs : (P.info? t).map (·.size) = some 1) (hv : v.oneCell' = true) (hi : i < l.length) :
    ∃ w', (Instr.storeAt t (.pointer (some ⟨g, i, none⟩)) v).run P w = .ok () w' ∧ w.grownBy w' (some g) ∧ Blk g T (l.set i v) w' := by
  have h' := h
  unfold Blk at h'
  obtain h2 := r_store1 (P := P) (t := t) (v := v) hs hv h' (by simpa using hi)
  exact ⟨_, h2, grownBy_setCell w g i v, h.set i v⟩
end
end Go.Rl
/- Models in memory: what their cells hold. Nothing of a program but the names of what it imports. -/
namespace Go.Rl
open Go.RowKit
section
variable {w : World} {cs : List Value}
theorem dIn_size (n : Int) : (dIn n).size = 1 := rfl
theorem dRat_size (q : RatD) : (dRat q).size = 3 := by simp [dRat, Dt.size, Dt.sizeAll, dNat]
theorem dRats_size (l : List RatD) : (dRats l).size = 1 := rfl
theorem dLay_size (l : LayD) : (dLay l).size = 9 := by simp [dLay, dIn, dRats, Dt.size, Dt.sizeAll]
theorem dMod_size (m : ModD) : (dMod m).size = 2 := by simp [dMod, dInts, Dt.size, Dt.sizeAll]
theorem dIn_inv {n : Int} (h : Rp w (dIn n) cs) : cs = [I n] := by simp only [dIn, Rp] at h; exact h
theorem dRats_inv {l : List RatD} (h : Rp w (dRats l) cs) : ∃ v, cs = [v] ∧ DsV dRat l v w := by
  obtain ⟨v, rfl, h, _⟩ := Rp.isSlice h
  exact ⟨v, rfl, h⟩
theorem dRat_inv {q : RatD} (h : Rp w (dRat q) cs) : ∃ x y, cs = [B q.1, x, y] ∧ Wds q.2.1 x w ∧ Wds q.2.2 y w := by
  simp only [dRat, Rp, RpAll] at h
  obtain ⟨_, _, rfl, rfl, _, _, rfl, h1, _, _, rfl, h2, rfl⟩ := h
  obtain ⟨x, rfl, hx, _⟩ := Rp.isSlice h1
  obtain ⟨y, rfl, hy, _⟩ := Rp.isSlice h2
  exact ⟨x, y, rfl, Rp.wds.1 hx, Rp.wds.1 hy⟩
theorem dRat_mk {q : RatD} {x y : Value} (hx : Wds q.2.1 x w) (hy : Wds q.2.2 y w) : Rp w (dRat q) [B q.1, x, y] := by
  simp only [dRat, Rp, RpAll]
  exact ⟨_, _, rfl, rfl, _, _, rfl, Rp.wds.2 hx, _, _, rfl, Rp.wds.2 hy, rfl⟩
theorem dLay_inv {l : LayD} (h : Rp w (dLay l) cs) : ∃ x y, cs = [I l.kd, I l.fr, I l.ou, I l.kh, I l.kw, I l.sr, I l.pd, x, y] ∧ DsV dRat l.ws x w ∧ DsV dRat l.bs y w := by
  simp only [dLay, dIn, Rp, RpAll] at h
  obtain ⟨_, _, rfl, rfl, _, _, rfl, rfl, _, _, rfl, rfl, _, _, rfl, rfl, _, _, rfl, rfl, _, _, rfl, rfl, _, _, rfl, rfl, _, _, rfl, h1, _, _, rfl, h2, rfl⟩ := h
  obtain ⟨x, rfl, hx⟩ := dRats_inv h1
  obtain ⟨y, rfl, hy⟩ := dRats_inv h2
  exact ⟨x, y, rfl, hx, hy⟩
theorem dLay_mk {l : LayD} {x y : Value} (hx : DsV dRat l.ws x w) (hy : DsV dRat l.bs y w) : Rp w (dLay l) [I l.kd, I l.fr, I l.ou, I l.kh, I l.kw, I l.sr, I l.pd, x, y] := by
  simp only [dLay, dIn, Rp, RpAll]
  exact ⟨_, _, rfl, rfl, _, _, rfl, rfl, _, _, rfl, rfl, _, _, rfl, rfl, _, _, rfl, rfl, _, _, rfl, rfl, _, _, rfl, rfl, _, _, rfl, hx, _, _, rfl, hy, rfl⟩
theorem dMod_inv {m : ModD} (h : Rp w (dMod m) cs) : ∃ x y, cs = [x, y] ∧ DsV dIn m.inp x w ∧ DsV dLay m.lays y w := by
  simp only [dMod, RpAll, Rp.eq_5] at h
  obtain ⟨_, _, rfl, h1, _, _, rfl, h2, rfl⟩ := h
  obtain ⟨x, rfl, hx, _⟩ := Rp.isSlice h1
  obtain ⟨y, rfl, hy, _⟩ := Rp.isSlice h2
  exact ⟨x, y, rfl, hx, hy⟩
theorem dMod_mk {m : ModD} {x y : Value} (hx : DsV dIn m.inp x w) (hy : DsV dLay m.lays y w) : Rp w (dMod m) [x, y] := by
  simp only [dMod, RpAll, Rp.eq_5]
  exact ⟨_, _, rfl, hx, _, _, rfl, hy, rfl⟩
/-- A rational's value, a layer's value, a model's value. -/
def RatS (q : RatD) (v : Value) (w : World) : Prop := RatV q.1 q.2.1 q.2.2 v w
def LayV (l : LayD) (v : Value) (w : World) : Prop := ∃ x y, v = .agg #[I l.kd, I l.fr, I l.ou, I l.kh, I l.kw, I l.sr, I l.pd, x, y] ∧ DsV dRat l.ws x w ∧ DsV dRat l.bs y w
def ModV (m : ModD) (v : Value) (w : World) : Prop := ∃ x y, v = .agg #[x, y] ∧ DsV dIn m.inp x w ∧ DsV dLay m.lays y w
theorem LayV.ext {l : LayD} {v : Value} {w w' : World} (h : LayV l v w) (hx : Ext w w') : LayV l v w' := by
  obtain ⟨x, y, h0, h1, h2⟩ := h
  exact ⟨x, y, h0, h1.ext hx, h2.ext hx⟩
theorem ModV.ext {m : ModD} {v : Value} {w w' : World} (h : ModV m v w) (hx : Ext w w') : ModV m v w' := by
  obtain ⟨x, y, h0, h1, h2⟩ := h
  exact ⟨x, y, h0, h1.ext hx, h2.ext hx⟩
end
end Go.Rl

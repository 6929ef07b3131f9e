/- Walk of the reference's Sum: it returns the digest. Conditions: the message is short. -/
import Derived.Test.YtlieingmahbmcaaDg4
import Derived.Test.YtlieingmahbmcaaRat
namespace Go.Rl
open Go.RowKit Go.Proofs

theorem call_rSum : Callable Try.prog 24 := ⟨_, Try.func24, by kernel_rfl, rfl⟩

theorem rSum_spec {w : World} {l : List UInt8} {v : Value} (hv : Bts l v w) (hl : l.length ≤ 1099511627776) :
    Calls Try.prog 24 #[v] w (Ret fun r w' => Ext w w' ∧ r = .agg ((dig l).map U8).toArray) := by
  refine enter (vs := [v]) Try.func24 rfl rfl rfl ?_
  obtain ⟨g2, w1, hr, n2, x1, b2⟩ := r_allocB (P := Try.prog) (w := w) (l := (List.replicate 32 0).map U8) zero32 rfl
  refine c_seq (c_region (o_alloc rfl hr (o_nil (n_then (c_seq (c_region ?_))))))
  obtain ⟨r3, w3, hr, x3, o3, _⟩ := r_bsB (w := w1) w1.heap.size [] (by simp) (Nat.le_refl _)
  refine o_buildSlice (vs := []) rfl rfl hr ?_
  refine o_move rfl rfl ?_
  have e3 := x1.trans x3
  obtain ⟨r4, w4, hr, o4, g4⟩ := r_appB (ty := 22) o3 (hv.ext e3) (by simp only [List.length_nil]; omega) x3.size
  have x4 := x3.of_grew g4 o3.ge
  refine o_append rfl rfl hr ?_
  obtain ⟨r5, w5, hr, x5, o5, _⟩ := r_bsB (w := w4) w4.heap.size [128] (by simp) (Nat.le_refl _)
  refine o_buildSlice (vs := [(0, U8 128)]) rfl rfl hr ?_
  obtain ⟨r6, w6, hr, o6, g6⟩ := r_appB (ty := 22) (o4.ext x5) o5.bts (by simp only [List.nil_append, List.length_cons, List.length_nil]; omega) (x4.trans x5).size
  have x6 := (x4.trans x5).of_grew g6 o4.ge
  refine o_append rfl rfl hr ?_
  rw [List.nil_append] at o6
  have B2 := b2.ext x6
  refine o_assign rfl rfl (o_nil (n_then ?_))
  -- zeros
  refine c_seq (c_cut (fun m : Value => [(0, v), (2, .pointer (some ⟨g2, 0, none⟩)), (3, m)]) (fun m w' => OwnB w1.heap.size (l ++ [128] ++ List.replicate (padZ l.length) 0) m w' ∧ Ext w1 w') ?_ ?_)
  · refine c_block ?_
    refine c_loop (α := Nat × Value) (fun x => [(0, v), (2, .pointer (some ⟨g2, 0, none⟩)), (3, x.2)])
      (fun x w' => OwnB w1.heap.size (l ++ [128] ++ List.replicate x.1 0) x.2 w' ∧ Ext w1 w' ∧ x.1 ≤ padZ l.length) (fun x => padZ l.length - x.1) (0, r6) ⟨rfl, rfl, rfl, trivial⟩
      ⟨by simpa using o6, x6, by simp⟩ ?_
    rintro ⟨k, m⟩ w7 ⟨o7, x7, hk⟩
    dsimp only at o7 x7 hk
    have hp : padZ l.length < 64 := by unfold padZ; omega
    have hm : (l ++ [128] ++ List.replicate k 0).length = l.length + 1 + k := by simp; omega
    refine c_seq (c_seq (c_region (o_move rfl rfl ?_)))
    refine o_len rfl rfl (r_lenB o7.bts) ?_
    refine o_bin rfl rfl rfl (r_rem_i (by omega) (by omega)) ?_
    refine o_bin rfl rfl rfl (r_neq_i) ?_
    refine o_nil (n_then ?_)
    rw [hm]
    refine c_if rfl (fun h => ?_) (fun h => ?_)
    · have hlt : k < padZ l.length := by
        rcases Nat.lt_or_ge k (padZ l.length) with h1 | h1
        · exact h1
        · have : k = padZ l.length := by omega
          subst this
          exfalso
          unfold padZ at h
          omega
      refine c_skip (n_then (c_block (c_region (o_move rfl rfl ?_))))
      obtain ⟨r8, w8, hr, x8, o8, _⟩ := r_bsB (w := w7) w7.heap.size [0] (by simp) (Nat.le_refl _)
      refine o_buildSlice (vs := [(0, U8 0)]) rfl rfl hr ?_
      obtain ⟨r9, w9, hr, o9, g9⟩ := r_appB (ty := 22) (o7.ext x8) o8.bts (by rw [hm]; simp only [List.length_cons, List.length_nil]; omega) (x7.trans x8).size
      refine o_append rfl rfl hr ?_
      refine o_assign rfl rfl (o_nil (n_block ?_))
      refine n_round (k + 1, r9) ⟨rfl, rfl, rfl, trivial⟩ ⟨?_, (x7.trans x8).of_grew g9 o7.ge, hlt⟩ (by show padZ l.length - (k + 1) < padZ l.length - k; omega)
      show OwnB _ (l ++ [128] ++ List.replicate (k + 1) 0) r9 w9
      rw [List.replicate_succ', ← List.append_assoc]
      exact o9
    · have hk' : k = padZ l.length := by
        unfold padZ at hk hp ⊢
        omega
      subst hk'
      exact c_exit (x_then (x_then (x_here (n_meet m ⟨rfl, rfl, rfl, trivial⟩ ⟨o7, x7⟩))))
  rintro m7 w7 ⟨o7, x7⟩
  refine n_then (c_seq (c_region (o_move rfl rfl ?_)))
  refine o_len rfl rfl (r_lenB (hv.ext (x1.trans x7))) ?_
  refine o_conv rfl rfl (r_n_u64 Try.underlying3 Try.underlying23) ?_
  refine o_bin (u := U64 8) rfl rfl rfl (r_mul_u64) ?_
  rw [UInt64.mul_comm]
  refine o_assign rfl rfl (o_nil (n_then ?_))
  have hp : padZ l.length < 64 := by unfold padZ; omega
  have hb8 := be8_len (UInt64.ofNat l.length * 8)
  -- the length
  refine c_seq (c_cut (fun m : Value => [(2, .pointer (some ⟨g2, 0, none⟩)), (3, m)]) (fun m w' => OwnB w1.heap.size (padded l) m w' ∧ Ext w1 w') ?_ ?_)
  · refine c_seq (c_region (o_assign rfl rfl (o_nil (n_then (c_block ?_)))))
    refine c_loop (α := Nat × Value) (fun x => [(2, .pointer (some ⟨g2, 0, none⟩)), (3, x.2), (4, U64 (UInt64.ofNat l.length * 8)), (5, I (7 - (x.1 : Int)))])
      (fun x w' => OwnB w1.heap.size (l ++ [128] ++ List.replicate (padZ l.length) 0 ++ (be8 (UInt64.ofNat l.length * 8)).take x.1) x.2 w' ∧ Ext w1 w' ∧ x.1 ≤ 8) (fun x => 8 - x.1) (0, m7) ⟨rfl, rfl, rfl, rfl, trivial⟩
      ⟨by simpa using o7, x7, by simp⟩ ?_
    rintro ⟨j, m⟩ w8 ⟨o8, x8, hj⟩
    dsimp only at o8 x8 hj
    refine c_seq (c_seq (c_region (o_move rfl rfl ?_)))
    refine o_bin rfl rfl rfl (r_geq_i) ?_
    refine o_nil (n_then ?_)
    refine c_if rfl (fun h => ?_) (fun h => ?_)
    · have hj8 : j < 8 := by omega
      refine c_skip (n_then (c_seq (c_block (c_region (o_move rfl rfl (o_move rfl rfl (o_move rfl rfl ?_)))))))
      have e8 : (8 : Int) * (7 - (j : Int)) = ((56 - 8 * j : Nat) : Int) := by omega
      refine o_bin (r := I ((56 - 8 * j : Nat) : Int)) rfl rfl rfl (by rw [← e8]; exact r_mul_i (by omega) (by omega)) ?_
      refine o_bin rfl rfl rfl (r_shr_u64 (56 - 8 * j) (by omega)) ?_
      refine o_conv rfl rfl (r_u64_u8 Try.underlying23 Try.underlying5) ?_
      obtain ⟨r9, w9, hr, x9, o9, _⟩ := r_bsB (w := w8) w8.heap.size [((UInt64.ofNat l.length * 8) >>> UInt64.ofNat (56 - 8 * j)).toUInt8] (by simp) (Nat.le_refl _)
      refine o_buildSlice (vs := [(0, U8 ((UInt64.ofNat l.length * 8) >>> UInt64.ofNat (56 - 8 * j)).toUInt8)]) rfl rfl hr ?_
      obtain ⟨r10, w10, hr, o10, g10⟩ := r_appB (ty := 22) (o8.ext x9) o9.bts (by simp only [List.length_append, List.length_cons, List.length_nil, List.length_replicate, List.length_take]; omega) (x8.trans x9).size
      refine o_append rfl rfl hr ?_
      refine o_assign rfl rfl (o_nil (n_block (n_then (c_region (o_move rfl rfl ?_)))))
      refine o_bin rfl rfl rfl (r_sub_i (by omega) (by omega)) ?_
      refine o_assign rfl rfl (o_nil ?_)
      have e1 : (7 : Int) - (j : Int) - 1 = 7 - ((j + 1 : Nat) : Int) := by omega
      rw [e1]
      refine n_round (j + 1, r10) ⟨rfl, rfl, rfl, rfl, trivial⟩ ⟨?_, (x8.trans x9).of_grew g10 o8.ge, hj8⟩ (by show 8 - (j + 1) < 8 - j; omega)
      show OwnB _ (l ++ [128] ++ List.replicate (padZ l.length) 0 ++ (be8 (UInt64.ofNat l.length * 8)).take (j + 1)) r10 w10
      rw [be8_snoc _ hj8, ← List.append_assoc]
      exact o10
    · have hj' : j = 8 := by omega
      subst hj'
      rw [List.take_of_length_le (by omega)] at o8
      exact c_exit (x_then (x_then (x_here (n_meet m ⟨rfl, rfl, trivial⟩ ⟨o8, x8⟩))))
  clear o7 x7
  rintro m8 w8 ⟨o8, x8⟩
  have hM := padded_len l
  have hMl : (padded l).length ≤ 1099511627776 + 80 := by
    simp only [padded, List.length_append, List.length_cons, List.length_nil, List.length_replicate]; omega
  generalize hMM : padded l = M at o8 hM hMl
  refine n_then (c_seq (c_region ?_))
  refine o_build rfl rfl (run_build _ _ _ (iv.map U32).toArray (by kernel_rfl)) ?_
  obtain ⟨g6', w9, hr, n9, x9, b9⟩ := r_allocB (P := Try.prog) (w := w8) (l := (List.replicate 8 0).map U32) zero8 rfl
  refine o_alloc rfl hr ?_
  refine o_store rfl rfl (r_stA b9 rfl size8 (one_of _)) ?_
  have b9' := b9.row (iv.map U32)
  have q9 := grownBy_setRow w9 g6' (iv.map U32).toArray
  have l26 : g2 < g6' := Nat.lt_of_lt_of_le b2.lt (Nat.le_trans x8.size n9)
  have hw6 : w1.heap.size ≤ g6' := Nat.le_trans x8.size n9
  have E9 : Ext w1 (w9.setRow g6' (iv.map U32).toArray) := (x8.trans x9).of_new q9 hw6
  have ne2 : some g2 ≠ some g6' := fun h => by cases h; omega
  have hm9 : OwnB w1.heap.size M m8 (w9.setRow g6' (iv.map U32).toArray) := by
    obtain ⟨n, h⟩ := o8.ext x9
    exact ⟨n, World.ownsRow.kept h q9 (.inr fun he => by have := o8.lt g6' he; omega)⟩
  have C9 := ((b2.ext x8).ext x9).other q9 ne2
  revert b9' E9 hm9 C9
  generalize w9.setRow g6' (iv.map U32).toArray = w10
  intro b10 E10 o10 C10
  refine o_nil (n_then ?_)
  have l28 : ∀ k, m8.ownBlock = some k → k < w8.heap.size := o8.lt
  -- the blocks
  refine c_seq (c_cut (fun _ : Unit => [(2, .pointer (some ⟨g2, 0, none⟩)), (6, .pointer (some ⟨g6', 0, none⟩))]) (fun _ w' => w10.grownBy w' (some g6') ∧ Blk g6' 67 ((shN M (M.length / 64)).map U32) w') ?_ ?_)
  · refine c_seq (c_region (o_assign rfl rfl (o_nil (n_then (c_block ?_)))))
    refine c_loop (α := Nat) (fun k => [(2, .pointer (some ⟨g2, 0, none⟩)), (3, m8), (6, .pointer (some ⟨g6', 0, none⟩)), (7, I ((64 * k : Nat) : Int))])
      (fun k w' => w10.grownBy w' (some g6') ∧ Blk g6' 67 ((shN M k).map U32) w' ∧ k ≤ M.length / 64) (fun k => M.length / 64 - k) 0 ⟨rfl, rfl, rfl, rfl, trivial⟩
      ⟨gb_ext (Ext.refl _), b10, by omega⟩ ?_
    rintro k w11 ⟨q11, b11, hk⟩
    have o11 : OwnB w1.heap.size M m8 w11 := by
      obtain ⟨n, h⟩ := o10
      exact ⟨n, World.ownsRow.kept h q11 (.inr fun he => by have := l28 g6' he; omega)⟩
    have hs8 := shN_len M k
    refine c_seq (c_seq (c_region (o_move rfl rfl (o_move rfl rfl ?_))))
    refine o_len rfl rfl (r_lenB o11.bts) ?_
    refine o_bin rfl rfl rfl (r_lss_i) ?_
    refine o_nil (n_then ?_)
    refine c_if rfl (fun h => ?_) (fun h => ?_)
    · have hlt : 64 * k + 64 ≤ M.length := by omega
      have e64 : ((64 * k : Nat) : Int) + 64 = ((64 * k + 64 : Nat) : Int) := by omega
      have hbl : ((M.take (64 * k + 64)).drop (64 * k)).length = 64 := by simp; omega
      obtain ⟨r12, hr12, bt12⟩ := r_slB o11.bts (lo := 64 * k) (hi := 64 * k + 64) (by omega) hlt .i64 .i64
      have hszk : (Try.prog.info? 67).map (·.size) = some ((shN M k).map U32).length := by rw [List.length_map, hs8]; exact size8
      have hszk' : (Try.prog.info? 67).map (·.size) = some ((shN M (k + 1)).map U32).length := by rw [List.length_map, shN_len]; exact size8
      refine c_skip (n_then (c_seq (c_block ?_)))
      refine c_grow 7 [2, 3, 6, 7, 52] (by kernel_rfl) (by kernel_rfl) ?_
      refine f_load rfl rfl (fun w' hw => r_ldA (m := (shN M k).map U32) (b11.ext hw) (fun j v h => by rwa [Nat.zero_add]) Try.underlying67 rfl hszk) ?_
      refine f_move rfl rfl (f_move rfl rfl (f_move rfl rfl ?_))
      refine f_bin (r := I ((64 * k + 64 : Nat) : Int)) rfl rfl rfl (fun w _ => by rw [← e64]; exact r_add_i (by omega) (by omega)) ?_
      refine f_slice (a := some (I ((64 * k : Nat) : Int))) (b := some (I ((64 * k + 64 : Nat) : Int))) rfl rfl rfl rfl (fun w _ => hr12 w) ?_
      refine f_call (S := Is (.agg ((shN M (k + 1)).map U32).toArray)) call_rblock (Stable.is _) rfl (fun w' hw => by
        rintro _ rfl _ rfl
        exact Ret.mono (rblock_spec hs8 hbl (bt12.ext hw)) fun v w'' h => ⟨h.1, by rw [shN_take]; exact h.2⟩) ?_
      refine f_nil ?_
      intro w12 hx12
      rintro _ rfl _ rfl _ rfl _ rfl _ rfl
      refine o_store rfl rfl (r_stA (b11.ext hx12) (by simp [shN_len]) hszk' (one_of _)) ?_
      have b12 := (b11.ext hx12).row ((shN M (k + 1)).map U32)
      have q12 := (q11.trans (gb_ext hx12)).trans (grownBy_setRow w12 g6' ((shN M (k + 1)).map U32).toArray)
      refine o_nil (n_block (n_then (c_region (o_move rfl rfl ?_))))
      refine o_bin rfl rfl rfl (r_add_i (by omega) (by omega)) ?_
      refine o_assign rfl rfl (o_nil ?_)
      exact n_round (k + 1) ⟨rfl, rfl, rfl, rfl, trivial⟩ ⟨q12, b12, by omega⟩ (by omega)
    · have hk' : k = M.length / 64 := by omega
      subst hk'
      exact c_exit (x_then (x_then (x_here (n_meet () ⟨rfl, rfl, trivial⟩ ⟨q11, b11⟩))))
  rintro _ w11 ⟨q11, b11⟩
  have C2 := C10.other q11 ne2
  have E11 : Ext w1 w11 := E10.of_new q11 hw6
  have hs8 := shN_len M (M.length / 64)
  generalize hst : shN M (M.length / 64) = st at b11 hs8
  have hD : (st.flatMap be4).length = 32 := by rw [be4s_len, hs8]
  refine n_then (c_seq (c_region ?_))
  obtain ⟨g8, w12, hr, n12, x12, b12⟩ := r_allocB (P := Try.prog) (w := w11) (l := (fillB (st.flatMap be4) 32 0).map U8) zero32 rfl
  refine o_alloc rfl hr (o_nil (n_then ?_))
  have l68 : g6' < g8 := Nat.lt_of_lt_of_le b11.lt n12
  have ne68 : some g6' ≠ some g8 := fun h => by cases h; omega
  have ne28 : some g2 ≠ some g8 := fun h => by cases h; omega
  have c11 := b11.ext x12
  have D2 := C2.ext x12
  refine c_seq (c_cut (fun _ : Unit => [(2, .pointer (some ⟨g2, 0, none⟩)), (8, .pointer (some ⟨g8, 0, none⟩))]) (fun _ w' => w12.grownBy w' (some g8) ∧ Blk g8 35 ((st.flatMap be4).map U8) w') ?_ ?_)
  · refine c_seq (c_region (o_assign rfl rfl (o_nil (n_then (c_block ?_)))))
    refine c_loop (α := Nat) (fun i => [(2, .pointer (some ⟨g2, 0, none⟩)), (6, .pointer (some ⟨g6', 0, none⟩)), (8, .pointer (some ⟨g8, 0, none⟩)), (9, I (i : Int))])
      (fun i w' => w12.grownBy w' (some g8) ∧ Blk g8 35 ((fillB (st.flatMap be4) 32 (4 * i)).map U8) w' ∧ i ≤ 8) (fun i => 8 - i) 0 ⟨rfl, rfl, rfl, rfl, trivial⟩
      ⟨gb_ext (Ext.refl _), b12, by omega⟩ ?_
    rintro i w13 ⟨q13, b13, hi⟩
    refine c_seq (c_seq (c_region (o_move rfl rfl ?_)))
    refine o_bin rfl rfl rfl (r_lss_i) ?_
    refine o_nil (n_then ?_)
    refine c_if rfl (fun h => ?_) (fun h => ?_)
    · have hi8 : i < 8 := by omega
      refine c_skip (n_then (c_seq (c_block (c_seq (c_region (o_assign rfl rfl (o_nil (n_then (c_block ?_)))))))))
      refine c_loop (α := Nat) (fun k => [(2, .pointer (some ⟨g2, 0, none⟩)), (6, .pointer (some ⟨g6', 0, none⟩)), (8, .pointer (some ⟨g8, 0, none⟩)), (9, I (i : Int)), (10, I (k : Int))])
        (fun k w' => w12.grownBy w' (some g8) ∧ Blk g8 35 ((fillB (st.flatMap be4) 32 (4 * i + k)).map U8) w' ∧ k ≤ 4) (fun k => 4 - k) 0 ⟨rfl, rfl, rfl, rfl, rfl, trivial⟩
        ⟨q13, b13, by omega⟩ ?_
      rintro k w14 ⟨q14, b14, hk⟩
      refine c_seq (c_seq (c_region (o_move rfl rfl ?_)))
      refine o_bin rfl rfl rfl (r_lss_i) ?_
      refine o_nil (n_then ?_)
      refine c_if rfl (fun h => ?_) (fun h => ?_)
      · have hk4 : k < 4 := by omega
        have c14 := c11.other q14 ne68
        have hfl := fillB_len (j := 4 * i + k) hD (by omega)
        have e4 : (4 : Int) * (i : Int) = ((4 * i : Nat) : Int) := by omega
        have e5 : ((4 * i : Nat) : Int) + (k : Int) = ((4 * i + k : Nat) : Int) := by omega
        have e6 : (24 : Int) - 8 * (k : Int) = ((24 - 8 * k : Nat) : Int) := by omega
        refine c_skip (n_then (c_seq (c_block (c_region (o_move rfl rfl ?_)))))
        refine o_bin (r := I ((4 * i : Nat) : Int)) rfl rfl rfl (by rw [← e4]; exact r_mul_i (by omega) (by omega)) ?_
        refine o_move rfl rfl ?_
        refine o_bin (r := I ((4 * i + k : Nat) : Int)) rfl rfl rfl (by rw [← e5]; exact r_add_i (by omega) (by omega)) ?_
        refine o_move rfl rfl ?_
        refine o_indexAddr rfl rfl rfl (r_ix8 i (by omega)) ?_
        refine o_load rfl rfl (r_ldU c14 i (by omega)) ?_
        refine o_move rfl rfl ?_
        refine o_bin rfl rfl rfl (r_mul_i (by omega) (by omega)) ?_
        refine o_bin (r := I ((24 - 8 * k : Nat) : Int)) rfl rfl rfl (by rw [← e6]; exact r_sub_i (by omega) (by omega)) ?_
        refine o_bin rfl rfl rfl (r_shr_u32 (24 - 8 * k) (by omega)) ?_
        refine o_conv rfl rfl (r_u32_u8 Try.underlying64 Try.underlying5) ?_
        refine o_indexAddr rfl rfl rfl (r_ix32 (4 * i + k) (by omega)) ?_
        refine o_store rfl rfl (r_stB b14 (4 * i + k) (by omega)) ?_
        have b15 := b14.setB (4 * i + k) (st.getD i 0 >>> UInt32.ofNat (24 - 8 * k)).toUInt8
        have hset : (fillB (st.flatMap be4) 32 (4 * i + k)).set (4 * i + k) (st.getD i 0 >>> UInt32.ofNat (24 - 8 * k)).toUInt8 = fillB (st.flatMap be4) 32 (4 * i + (k + 1)) := by
          rw [← be4s_get st i k (by omega) hk4]
          exact fillB_set hD (by omega)
        rw [hset] at b15
        refine o_nil (n_block (n_then (c_region (o_move rfl rfl ?_))))
        refine o_bin rfl rfl rfl (r_add_i (by omega) (by omega)) ?_
        refine o_assign rfl rfl (o_nil ?_)
        exact n_round (k + 1) ⟨rfl, rfl, rfl, rfl, rfl, trivial⟩ ⟨q14.trans (grownBy_setCell w14 g8 _ _), b15, by omega⟩ (by omega)
      · have hk' : k = 4 := by omega
        subst hk'
        refine c_exit (x_then (x_then (x_here (n_block (n_then (c_region (o_move rfl rfl ?_)))))))
        refine o_bin rfl rfl rfl (r_add_i (by omega) (by omega)) ?_
        refine o_assign rfl rfl (o_nil ?_)
        exact n_round (i + 1) ⟨rfl, rfl, rfl, rfl, trivial⟩ ⟨q14, b14, by omega⟩ (by omega)
    · have hi' : i = 8 := by omega
      subst hi'
      rw [show 4 * 8 = 32 from rfl, fillB_all hD] at b13
      exact c_exit (x_then (x_then (x_here (n_meet () ⟨rfl, rfl, trivial⟩ ⟨q13, b13⟩))))
  rintro _ w13 ⟨q13, b13⟩
  have hdig : st.flatMap be4 = dig l := by
    unfold dig sh
    rw [hMM, hst]
  rw [hdig] at b13
  have hsz : (Try.prog.info? 35).map (·.size) = some ((dig l).map U8).length := by rw [List.length_map, dig_len]; exact size32
  have F2 := D2.other q13 ne28
  refine n_then (c_seq (c_region ?_))
  refine o_load rfl rfl (r_ldA (m := (dig l).map U8) b13 (fun j v h => by rwa [Nat.zero_add]) Try.underlying35 rfl hsz) ?_
  refine o_store rfl rfl (r_stA F2 (by simp [dig_len]) hsz (one_ofB _)) ?_
  refine o_nil (n_then (c_ret ?_))
  refine r_bodyc rfl rfl (F2.row _) Try.underlying35 rfl hsz ?_
  have E13 : Ext w w13 := (x1.trans (E11.trans x12)).of_new q13 (by have := x1.size; omega)
  exact ⟨_, rfl, E13.of_new (grownBy_setRow _ _ _) n2, rfl⟩
end Go.Rl

/- Walk of the digest's Sum. Conditions: the hash is not nil, the message is short. -/
import Derived.Test.YtlieingmahbmcaaDg9
namespace Go.Rl
open Go.RowKit Go.Proofs

theorem call_HSum : Callable Try.prog 27 := ⟨_, Try.func27, by kernel_rfl, rfl⟩
theorem zero8b : (Try.prog.info? 72).map (·.zero) = some (some (.agg (List.replicate 8 (U8 0)).toArray)) := by kernel_rfl
theorem away_own {g k : Nat} {v : Value} (h : v.ownBlock = some k) (hne : k ≠ g) : Away g v := by
  rintro a n c rfl
  intro he
  have : some a.block = some k := h
  exact hne (by rw [← Option.some.inj this]; exact he)
theorem be8_get (n : UInt64) {i : Nat} (hi : i < 8) : (be8 n).getD i 0 = (n >>> UInt64.ofNat (56 - 8 * i)).toUInt8 := by
  simp [be8, hi]
section
variable {w : World} {g o : Nat} {T : TypeId}
theorem r_ix8b (i : Nat) (hi : i < 8) : (Instr.indexAt 72 (.pointer (some ⟨g, 0, none⟩)) (I (i : Int))).run Try.prog w = .ok (.pointer (some ⟨g, i, none⟩)) w := by
  have := r_ixA (P := Try.prog) (w := w) (g := g) (o := 0) Try.underlying72 size_u8 hi .i64
  rwa [Nat.zero_add] at this
theorem r_sl8b : (Instr.sliceAt 72 (.pointer (some ⟨g, 0, none⟩)) none none none).run Try.prog w = .ok (.slice (some ⟨g, 0, none⟩) 8 8) w := by
  simp [Instr.sliceAt, run_underlying Try.underlying72, Instr.sureAddr, Instr.sliceBounds, r_sizeOf size_u8, Addr.add_mid]
theorem Blk.bts {m : List UInt8} (h : Blk g T (m.map U8) w) (hm : m.length ≤ 64) : Bts m (.slice (some ⟨g, 0, none⟩) m.length m.length) w :=
  ⟨_, _, _, rfl, Nat.le_refl _, by unfold maxLen; omega, by simp, fun _ => ⟨_, rfl, fun j v hj => by rw [Addr.add_mid, Nat.zero_add]; exact h.cell hj⟩, fun h => by cases h⟩
end

theorem HSum_spec {w : World} {g : Nat} {m : List UInt8} (hh : HA g m (UInt64.ofNat m.length) w) :
    Calls Try.prog 27 #[.pointer (some ⟨g, 0, none⟩)] w (Ret fun r w' => Ext w w' ∧ r = .agg ((dig m).map U8).toArray) := by
  obtain ⟨blk, hc, ht⟩ := hh
  refine enter (vs := [.pointer (some ⟨g, 0, none⟩)]) Try.func27 rfl rfl rfl ?_
  obtain ⟨g2, w1, hr, n2, x1, b2⟩ := r_allocB (P := Try.prog) (w := w) (l := (List.replicate 32 0).map U8) zero32 rfl
  refine c_seq (c_region (o_alloc rfl hr (o_nil (n_then (c_seq (c_seq (c_region (o_move rfl rfl ?_))))))))
  refine o_bin rfl rfl rfl (r_eqnilp Try.underlying40) ?_
  refine o_nil (n_then ?_)
  refine c_no rfl ?_
  refine c_skip (n_then (c_seq (c_region (o_move rfl rfl ?_))))
  refine o_nilCheck rfl rfl ?_
  refine o_load rfl rfl (hc.ext x1).ldH ?_
  obtain ⟨g3, w2, hr, n3, x2, b3⟩ := r_allocB (P := Try.prog) (w := w1) (l := hcells (List.replicate 8 0) (List.replicate 64 0) 0 0) zero_Hash rfl
  refine o_alloc rfl hr ?_
  have hl := hcells_len (u := ((m.length % 64 : Nat) : Int)) (tot := UInt64.ofNat m.length) hc.ls hc.lb
  refine o_store rfl rfl (r_stA b3 (by rw [hl]; rfl) (by rw [hl]; exact size_Hash) one_h) ?_
  have hA : HA g3 m (UInt64.ofNat m.length) (w2.setRow g3 (hcells (sh m) blk ((m.length % 64 : Nat) : Int) (UInt64.ofNat m.length)).toArray) := ⟨blk, ⟨b3.row _, hc.ls, hc.lb⟩, ht⟩
  have q3 := grownBy_setRow w2 g3 (hcells (sh m) blk ((m.length % 64 : Nat) : Int) (UInt64.ofNat m.length)).toArray
  have l23 : g2 < g3 := Nat.lt_of_lt_of_le b2.lt n3
  have ne23 : some g2 ≠ some g3 := fun h => by cases h; omega
  have hw3 : w.heap.size ≤ g3 := by omega
  have B2 := (b2.ext x2).other q3 ne23
  have E3 := (x1.trans x2).of_new q3 hw3
  revert hA B2 E3
  generalize w2.setRow g3 (hcells (sh m) blk ((m.length % 64 : Nat) : Int) (UInt64.ofNat m.length)).toArray = w3
  intro hA B2 E3
  refine o_nil (n_then (c_seq (c_region ?_)))
  refine o_fieldAddr rfl rfl r_fT ?_
  obtain ⟨blk', hcA, htA⟩ := id hA
  refine o_load rfl rfl (r_load1 Try.underlying23 rfl hcA.cellT) ?_
  refine o_bin (v := U64 8) rfl rfl rfl (r_mul_u64) ?_
  refine o_assign rfl rfl (o_nil (n_then (c_seq (c_region ?_))))
  obtain ⟨r4, w4, hr, x4, o4, ob4⟩ := r_bsB (w := w3) w3.heap.size [128] (by simp) (Nat.le_refl _)
  refine o_buildSlice (vs := [(0, U8 128)]) rfl rfl hr ?_
  refine o_call call_Write rfl rfl (Write_spec (hA.ext x4) o4.bts (fun _ => away_own ob4 (by have := hA.lt; omega))) ?_
  rintro _ w5 ⟨q5, h5⟩
  have B5 := (B2.ext x4).other q5 ne23
  have E5 := (E3.trans x4).of_new q5 hw3
  refine o_nil (n_then ?_)
  have hp : padZ m.length < 64 := by unfold padZ; omega
  refine c_seq (c_cut (fun _ : Unit => [(2, .pointer (some ⟨g2, 0, none⟩)), (3, .pointer (some ⟨g3, 0, none⟩)), (4, U64 (UInt64.ofNat m.length * 8))]) (fun _ w' => Ext w w' ∧ Blk g2 35 ((List.replicate 32 0).map U8) w' ∧ ∃ tot, HA g3 (m ++ [128] ++ List.replicate (padZ m.length) 0) tot w') ?_ ?_)
  · refine c_block ?_
    refine c_loop (α := Nat) (fun _ => [(2, .pointer (some ⟨g2, 0, none⟩)), (3, .pointer (some ⟨g3, 0, none⟩)), (4, U64 (UInt64.ofNat m.length * 8))])
      (fun k w' => Ext w w' ∧ Blk g2 35 ((List.replicate 32 0).map U8) w' ∧ (∃ tot, HA g3 (m ++ [128] ++ List.replicate k 0) tot w') ∧ k ≤ padZ m.length) (fun k => padZ m.length - k) 0 ⟨rfl, rfl, rfl, trivial⟩
      ⟨E5, B5, ⟨_, by simpa using h5⟩, by omega⟩ ?_
    rintro k w6 ⟨E6, B6, ⟨tot, h6⟩, hk⟩
    obtain ⟨blk6, hc6, ht6⟩ := id h6
    have hm : (m ++ [128] ++ List.replicate k 0).length = m.length + 1 + k := by simp; omega
    refine c_seq (c_seq (c_region ?_))
    refine o_fieldAddr rfl rfl r_fU ?_
    refine o_load rfl rfl (r_load1 Try.underlying3 rfl hc6.cellU) ?_
    refine o_bin rfl rfl rfl (r_neq_i) ?_
    refine o_nil (n_then ?_)
    rw [hm]
    refine c_if rfl (fun h => ?_) (fun h => ?_)
    · have hlt : k < padZ m.length := by
        rcases Nat.lt_or_ge k (padZ m.length) with h1 | h1
        · exact h1
        · have : k = padZ m.length := by omega
          subst this
          exfalso
          unfold padZ at h
          omega
      refine c_skip (n_then (c_block (c_region ?_)))
      obtain ⟨r7, w7, hr, x7, o7, ob7⟩ := r_bsB (w := w6) w6.heap.size [0] (by simp) (Nat.le_refl _)
      refine o_buildSlice (vs := [(0, U8 0)]) rfl rfl hr ?_
      refine o_call call_Write rfl rfl (Write_spec (h6.ext x7) o7.bts (fun _ => away_own ob7 (by have := h6.lt; omega))) ?_
      rintro _ w8 ⟨q8, h8⟩
      refine o_nil (n_block ?_)
      rw [List.append_assoc _ (List.replicate k 0) [0], ← List.replicate_succ'] at h8
      exact n_round (k + 1) ⟨rfl, rfl, rfl, trivial⟩ ⟨(E6.trans x7).of_new q8 hw3, (B6.ext x7).other q8 ne23, ⟨_, h8⟩, hlt⟩ (by omega)
    · have hk' : k = padZ m.length := by
        unfold padZ at hk hp ⊢
        omega
      subst hk'
      exact c_exit (x_then (x_then (x_here (n_meet () ⟨rfl, rfl, rfl, trivial⟩ ⟨E6, B6, tot, h6⟩))))
  rintro _ w6 ⟨E6, B6, tot6, h6⟩
  refine n_then (c_seq (c_region ?_))
  obtain ⟨bits, hbits⟩ : ∃ b, b = UInt64.ofNat m.length * 8 := ⟨_, rfl⟩
  rw [← hbits]
  have hb8 := be8_len bits
  obtain ⟨g5, w7, hr, n5, x7, b7⟩ := r_allocB (P := Try.prog) (w := w6) (l := (fillB (be8 bits) 8 0).map U8) zero8b rfl
  refine o_alloc rfl hr (o_nil (n_then ?_))
  have l35 : g3 < g5 := Nat.lt_of_lt_of_le h6.lt n5
  have ne25 : some g2 ≠ some g5 := fun h => by cases h; omega
  have ne35 : some g3 ≠ some g5 := fun h => by cases h; omega
  refine c_seq (c_cut (fun _ : Unit => [(2, .pointer (some ⟨g2, 0, none⟩)), (3, .pointer (some ⟨g3, 0, none⟩)), (5, .pointer (some ⟨g5, 0, none⟩))]) (fun _ w' => w7.grownBy w' (some g5) ∧ Blk g5 72 ((be8 bits).map U8) w') ?_ ?_)
  · refine c_seq (c_region (o_move rfl rfl (o_nil (n_then (c_block ?_)))))
    refine c_loop (α := Nat) (fun i => [(2, .pointer (some ⟨g2, 0, none⟩)), (3, .pointer (some ⟨g3, 0, none⟩)), (4, U64 bits), (5, .pointer (some ⟨g5, 0, none⟩)), (27, I (i : Int))])
      (fun i w' => w7.grownBy w' (some g5) ∧ Blk g5 72 ((fillB (be8 bits) 8 i).map U8) w' ∧ i ≤ 8) (fun i => 8 - i) 0 ⟨rfl, rfl, rfl, rfl, rfl, trivial⟩
      ⟨gb_ext (Ext.refl _), b7, by omega⟩ ?_
    rintro i w8 ⟨q8, b8, hi⟩
    refine c_seq (c_region ?_)
    refine o_bin rfl rfl rfl (r_lss_i) ?_
    refine o_nil (n_then (c_seq ?_))
    refine c_if rfl (fun h => ?_) (fun h => ?_)
    · have hi8 : i < 8 := by omega
      have hfl := fillB_len (j := i) hb8 (by omega)
      have e6 : (56 : Int) - 8 * (i : Int) = ((56 - 8 * i : Nat) : Int) := by omega
      refine c_skip (n_then (c_seq (c_block (c_seq (c_region (o_move rfl rfl (o_assign rfl rfl (o_nil (n_then (c_region (o_move rfl rfl (o_move rfl rfl (o_move rfl rfl ?_)))))))))))))
      refine o_bin rfl rfl rfl (r_mul_i (by omega) (by omega)) ?_
      refine o_bin (r := I ((56 - 8 * i : Nat) : Int)) rfl rfl rfl (by rw [← e6]; exact r_sub_i (by omega) (by omega)) ?_
      refine o_bin rfl rfl rfl (r_shr_u64 (56 - 8 * i) (by omega)) ?_
      refine o_conv rfl rfl (r_u64_u8 Try.underlying23 Try.underlying5) ?_
      refine o_indexAddr rfl rfl rfl (r_ix8b i hi8) ?_
      refine o_store rfl rfl (r_stB b8 i (by omega)) ?_
      have b9 := b8.setB i (bits >>> UInt64.ofNat (56 - 8 * i)).toUInt8
      have hset : (fillB (be8 bits) 8 i).set i (bits >>> UInt64.ofNat (56 - 8 * i)).toUInt8 = fillB (be8 bits) 8 (i + 1) := by
        rw [← be8_get bits hi8]
        exact fillB_set hb8 hi8
      rw [hset] at b9
      refine o_nil (n_block (n_then (c_region ?_)))
      refine o_bin rfl rfl rfl (r_add_i (by omega) (by omega)) ?_
      refine o_move rfl rfl (o_nil ?_)
      exact n_round (i + 1) ⟨rfl, rfl, rfl, rfl, rfl, trivial⟩ ⟨q8.trans (grownBy_setCell w8 g5 i _), b9, by omega⟩ (by omega)
    · have hi' : i = 8 := by omega
      subst hi'
      rw [fillB_all hb8] at b8
      exact c_exit (x_then (x_then (x_here (n_meet () ⟨rfl, rfl, rfl, trivial⟩ ⟨q8, b8⟩))))
  rintro _ w8 ⟨q8, b8⟩
  have E8 : Ext w w8 := (E6.trans x7).of_new q8 (by omega)
  have B8 := (B6.ext x7).other q8 ne25
  have h8 := (h6.ext x7).other q8 ne35
  refine n_then (c_seq (c_region ?_))
  refine o_slice (a := none) (b := none) rfl rfl rfl rfl rfl r_sl8b ?_
  have bt8 := b8.bts (by omega)
  rw [hb8] at bt8
  refine o_call call_Write rfl rfl (Write_spec h8 bt8 (by rintro _ a n c he; cases he; show g5 ≠ g3; omega)) ?_
  rintro _ w9 ⟨q9, h9⟩
  have hpad : m ++ [128] ++ List.replicate (padZ m.length) 0 ++ be8 bits = padded m := by rw [hbits]; rfl
  rw [hpad] at h9
  have E9 := E8.of_new q9 hw3
  have B9 := B8.other q9 ne23
  refine o_nil (n_then (c_seq (c_region ?_)))
  obtain ⟨g7, w10, hr, n7, x10, b10⟩ := r_allocB (P := Try.prog) (w := w9) (l := (fillB (dig m) 32 0).map U8) zero32 rfl
  refine o_alloc rfl hr (o_nil (n_then ?_))
  obtain ⟨blk9, hc9, _⟩ := h9.ext x10
  have l37 : g3 < g7 := Nat.lt_of_lt_of_le h9.lt n7
  have ne27 : some g2 ≠ some g7 := fun h => by cases h; omega
  have hs8 := sh_len (padded m)
  have hdl := dig_len m
  refine c_seq (c_cut (fun _ : Unit => [(2, .pointer (some ⟨g2, 0, none⟩)), (7, .pointer (some ⟨g7, 0, none⟩))]) (fun _ w' => w10.grownBy w' (some g7) ∧ Blk g7 35 ((dig m).map U8) w') ?_ ?_)
  · refine c_seq (c_region ?_)
    refine o_fieldAddr rfl rfl r_fS ?_
    refine o_load rfl rfl hc9.ldS ?_
    refine o_move rfl rfl (o_nil (n_then (c_block ?_)))
    refine c_loop (α := Nat) (fun i => [(2, .pointer (some ⟨g2, 0, none⟩)), (7, .pointer (some ⟨g7, 0, none⟩)), (42, .agg ((sh (padded m)).map U32).toArray), (43, I (i : Int))])
      (fun i w' => w10.grownBy w' (some g7) ∧ Blk g7 35 ((fillB (dig m) 32 (4 * i)).map U8) w' ∧ i ≤ 8) (fun i => 8 - i) 0 ⟨rfl, rfl, rfl, rfl, trivial⟩
      ⟨gb_ext (Ext.refl _), b10, by omega⟩ ?_
    rintro i w11 ⟨q11, b11, hi⟩
    refine c_seq (c_region ?_)
    refine o_bin rfl rfl rfl (r_lss_i) ?_
    refine o_nil (n_then (c_seq ?_))
    refine c_if rfl (fun h => ?_) (fun h => ?_)
    · have hi8 : i < 8 := by omega
      have e0 : (4 : Int) * (i : Int) = ((4 * i : Nat) : Int) := by omega
      have e1 : ((4 * i : Nat) : Int) + 1 = ((4 * i + 1 : Nat) : Int) := by omega
      have e2 : ((4 * i : Nat) : Int) + 2 = ((4 * i + 2 : Nat) : Int) := by omega
      have e3 : ((4 * i : Nat) : Int) + 3 = ((4 * i + 3 : Nat) : Int) := by omega
      have s0 := fillB_len (j := 4 * i) hdl (by omega)
      have s1 := fillB_len (j := 4 * i + 1) hdl (by omega)
      have s2 := fillB_len (j := 4 * i + 2) hdl (by omega)
      have s3 := fillB_len (j := 4 * i + 3) hdl (by omega)
      refine c_skip (n_then (c_seq (c_block (c_seq (c_region (o_move rfl rfl ?_))))))
      refine o_index rfl rfl rfl (r_idx (l := (sh (padded m)).map U32) Try.underlying67 size_u32 Try.underlying64 hi8 .i64 (mapU_get (by omega))) ?_
      refine o_assign rfl rfl (o_assign rfl rfl (o_nil (n_then (c_region (o_move rfl rfl ?_)))))
      refine o_bin (r := I ((4 * i : Nat) : Int)) rfl rfl rfl (by rw [← e0]; exact r_mul_i (by omega) (by omega)) ?_
      refine o_move rfl rfl ?_
      refine o_bin (r := I ((4 * i : Nat) : Int)) rfl rfl rfl (by rw [← e0]; exact r_mul_i (by omega) (by omega)) ?_
      refine o_bin (r := I ((4 * i + 1 : Nat) : Int)) rfl rfl rfl (by rw [← e1]; exact r_add_i (by omega) (by omega)) ?_
      refine o_move rfl rfl ?_
      refine o_bin (r := I ((4 * i : Nat) : Int)) rfl rfl rfl (by rw [← e0]; exact r_mul_i (by omega) (by omega)) ?_
      refine o_bin (r := I ((4 * i + 2 : Nat) : Int)) rfl rfl rfl (by rw [← e2]; exact r_add_i (by omega) (by omega)) ?_
      refine o_move rfl rfl ?_
      refine o_bin (r := I ((4 * i : Nat) : Int)) rfl rfl rfl (by rw [← e0]; exact r_mul_i (by omega) (by omega)) ?_
      refine o_bin (r := I ((4 * i + 3 : Nat) : Int)) rfl rfl rfl (by rw [← e3]; exact r_add_i (by omega) (by omega)) ?_
      refine o_move rfl rfl ?_
      refine o_bin rfl rfl rfl (r_shr_u32 24 (by omega)) ?_
      refine o_conv rfl rfl (r_u32_u8 Try.underlying64 Try.underlying5) ?_
      refine o_move rfl rfl ?_
      refine o_bin rfl rfl rfl (r_shr_u32 16 (by omega)) ?_
      refine o_conv rfl rfl (r_u32_u8 Try.underlying64 Try.underlying5) ?_
      refine o_move rfl rfl ?_
      refine o_bin rfl rfl rfl (r_shr_u32 8 (by omega)) ?_
      refine o_conv rfl rfl (r_u32_u8 Try.underlying64 Try.underlying5) ?_
      refine o_move rfl rfl ?_
      refine o_conv rfl rfl (r_u32_u8 Try.underlying64 Try.underlying5) ?_
      have d0 : (dig m).getD (4 * i) 0 = ((sh (padded m)).getD i 0 >>> UInt32.ofNat 24).toUInt8 := be4s_get (sh (padded m)) i 0 (by omega) (by omega)
      have d1 : (dig m).getD (4 * i + 1) 0 = ((sh (padded m)).getD i 0 >>> UInt32.ofNat 16).toUInt8 := be4s_get (sh (padded m)) i 1 (by omega) (by omega)
      have d2 : (dig m).getD (4 * i + 2) 0 = ((sh (padded m)).getD i 0 >>> UInt32.ofNat 8).toUInt8 := be4s_get (sh (padded m)) i 2 (by omega) (by omega)
      have d3 : (dig m).getD (4 * i + 3) 0 = ((sh (padded m)).getD i 0).toUInt8 := by
        have := be4s_get (sh (padded m)) i 3 (by omega) (by omega)
        rw [show UInt32.ofNat (24 - 8 * 3) = 0 from rfl, UInt32.shiftRight_zero] at this
        exact this
      have f0 : (fillB (dig m) 32 (4 * i)).set (4 * i) ((dig m).getD (4 * i) 0) = fillB (dig m) 32 (4 * i + 1) := fillB_set hdl (by omega)
      have f1 : (fillB (dig m) 32 (4 * i + 1)).set (4 * i + 1) ((dig m).getD (4 * i + 1) 0) = fillB (dig m) 32 (4 * i + 2) := fillB_set hdl (by omega)
      have f2 : (fillB (dig m) 32 (4 * i + 2)).set (4 * i + 2) ((dig m).getD (4 * i + 2) 0) = fillB (dig m) 32 (4 * i + 3) := fillB_set hdl (by omega)
      have f3 : (fillB (dig m) 32 (4 * i + 3)).set (4 * i + 3) ((dig m).getD (4 * i + 3) 0) = fillB (dig m) 32 (4 * (i + 1)) := fillB_set hdl (by omega)
      rw [d0] at f0
      rw [d1] at f1
      rw [d2] at f2
      rw [d3] at f3
      refine o_indexAddr rfl rfl rfl (r_ix32 (4 * i) (by omega)) ?_
      refine o_store rfl rfl (r_stB b11 (4 * i) (by omega)) ?_
      have b12 := b11.setB (4 * i) ((sh (padded m)).getD i 0 >>> UInt32.ofNat 24).toUInt8
      rw [f0] at b12
      refine o_indexAddr rfl rfl rfl (r_ix32 (4 * i + 1) (by omega)) ?_
      refine o_store rfl rfl (r_stB b12 (4 * i + 1) (by omega)) ?_
      have b13 := b12.setB (4 * i + 1) ((sh (padded m)).getD i 0 >>> UInt32.ofNat 16).toUInt8
      rw [f1] at b13
      refine o_indexAddr rfl rfl rfl (r_ix32 (4 * i + 2) (by omega)) ?_
      refine o_store rfl rfl (r_stB b13 (4 * i + 2) (by omega)) ?_
      have b14 := b13.setB (4 * i + 2) ((sh (padded m)).getD i 0 >>> UInt32.ofNat 8).toUInt8
      rw [f2] at b14
      refine o_indexAddr rfl rfl rfl (r_ix32 (4 * i + 3) (by omega)) ?_
      refine o_store rfl rfl (r_stB b14 (4 * i + 3) (by omega)) ?_
      have b15 := b14.setB (4 * i + 3) ((sh (padded m)).getD i 0).toUInt8
      rw [f3] at b15
      refine o_nil (n_block (n_then (c_region ?_)))
      refine o_bin rfl rfl rfl (r_add_i (by omega) (by omega)) ?_
      refine o_move rfl rfl (o_nil ?_)
      exact n_round (i + 1) ⟨rfl, rfl, rfl, rfl, trivial⟩ ⟨(((q11.trans (grownBy_setCell _ g7 (4 * i) _)).trans (grownBy_setCell _ g7 (4 * i + 1) _)).trans (grownBy_setCell _ g7 (4 * i + 2) _)).trans (grownBy_setCell _ g7 (4 * i + 3) _), b15, by omega⟩ (by omega)
    · have hi' : i = 8 := by omega
      subst hi'
      rw [show 4 * 8 = 32 from rfl, fillB_all hdl] at b11
      exact c_exit (x_then (x_then (x_here (n_meet () ⟨rfl, rfl, trivial⟩ ⟨q11, b11⟩))))
  rintro _ w11 ⟨q11, b11⟩
  have hsz : (Try.prog.info? 35).map (·.size) = some ((dig m).map U8).length := by rw [List.length_map, dig_len]; exact size32
  have F2 := (B9.ext x10).other q11 ne27
  have E11 : Ext w w11 := (E9.trans x10).of_new q11 (by omega)
  refine n_then (c_seq (c_region ?_))
  refine o_load rfl rfl (r_ldA (m := (dig m).map U8) b11 (fun j v h => by rwa [Nat.zero_add]) Try.underlying35 rfl hsz) ?_
  refine o_store rfl rfl (r_stA F2 (by simp [dig_len]) hsz (one_ofB _)) ?_
  refine o_nil (n_then (c_ret ?_))
  refine r_bodyc rfl rfl (F2.row _) Try.underlying35 rfl hsz ?_
  exact ⟨_, rfl, E11.of_new (grownBy_setRow _ _ _) n2, rfl⟩
end Go.Rl

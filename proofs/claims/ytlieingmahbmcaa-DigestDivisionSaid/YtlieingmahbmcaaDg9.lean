/- Walks of Write, New, Clone of the digest. Conditions: the hash is not nil, the bytes lie elsewhere, all is short. -/
import Derived.Test.YtlieingmahbmcaaDg8
namespace Go.Rl
open Go.RowKit Go.Proofs

theorem call_Write : Callable Try.prog 26 := ⟨_, Try.func26, by kernel_rfl, rfl⟩
theorem call_HNew : Callable Try.prog 25 := ⟨_, Try.func25, by kernel_rfl, rfl⟩
theorem call_HClone : Callable Try.prog 28 := ⟨_, Try.func28, by kernel_rfl, rfl⟩

theorem Write_spec {w : World} {g : Nat} {m x : List UInt8} {tot : UInt64} {v : Value} (hh : HA g m tot w) (hx : Bts x v w) (ha : 0 < x.length → Away g v) :
    Calls Try.prog 26 #[.pointer (some ⟨g, 0, none⟩), v] w (Ret fun _ w' => w.grownBy w' (some g) ∧ HA g (m ++ x) (tot + UInt64.ofNat x.length) w') := by
  refine enter (vs := [.pointer (some ⟨g, 0, none⟩), v]) Try.func26 rfl rfl rfl ?_
  refine c_seq (c_seq (c_region (o_move rfl rfl ?_)))
  refine o_bin rfl rfl rfl (r_eqnilp Try.underlying40) ?_
  refine o_nil (n_then ?_)
  refine c_no rfl ?_
  refine c_skip (n_then (c_seq (c_region (o_move rfl rfl ?_))))
  obtain ⟨blk0, hc0, ht0⟩ := hh
  refine o_nilCheck rfl rfl ?_
  refine o_fieldAddr rfl rfl r_fT ?_
  refine o_load rfl rfl (r_load1 Try.underlying23 rfl hc0.cellT) ?_
  refine o_move rfl rfl ?_
  refine o_len rfl rfl (r_lenB hx) ?_
  refine o_conv rfl rfl (r_n_u64 Try.underlying3 Try.underlying23) ?_
  refine o_bin rfl rfl rfl (r_add_u64) ?_
  refine o_nilCheck rfl rfl ?_
  refine o_fieldAddr rfl rfl r_fT ?_
  have hcl0 := hcells_len (u := ((m.length % 64 : Nat) : Int)) (tot := tot) hc0.ls hc0.lb
  refine o_store rfl rfl (r_store1 (i := 73) size_u64 rfl hc0.hb (by rw [List.size_toArray, hcl0]; omega)) ?_
  have hc1 := hc0.setT (tot + UInt64.ofNat x.length)
  have q1 := grownBy_setCell w g 73 (U64 (tot + UInt64.ofNat x.length))
  have hx1 := hx.away ha q1
  revert hc1 q1 hx1
  generalize w.setCell ⟨g, 73, none⟩ (U64 (tot + UInt64.ofNat x.length)) = w1
  intro hc1 q1 hx1
  refine o_nil (n_then (c_block ?_))
  refine c_loop (α := Nat × Value) (fun p => [(0, .pointer (some ⟨g, 0, none⟩)), (1, p.2)])
    (fun p w' => HA g (m ++ x.take p.1) (tot + UInt64.ofNat x.length) w' ∧ Bts (x.drop p.1) p.2 w' ∧ (0 < (x.drop p.1).length → Away g p.2) ∧ w.grownBy w' (some g) ∧ p.1 ≤ x.length) (fun p => x.length - p.1) (0, v) ⟨rfl, rfl, trivial⟩
    ⟨by simpa using ⟨blk0, hc1, ht0⟩, by simpa using hx1, by simpa using ha, q1, by simp⟩ ?_
  rintro ⟨k, b⟩ w2 ⟨⟨blk, hc2, ht2⟩, hb2, ha2, q2, hk⟩
  dsimp only at hc2 ht2 hb2 ha2 q2 hk
  have hm' : ∃ m', m' = m ++ x.take k := ⟨_, rfl⟩
  obtain ⟨m', hm'⟩ := hm'
  rw [← hm'] at hc2 ht2
  refine c_seq (c_seq (c_region (o_move rfl rfl ?_)))
  refine o_len rfl rfl (r_lenB hb2) ?_
  refine o_bin rfl rfl rfl (r_gtr_i) ?_
  refine o_nil (n_then ?_)
  refine c_if rfl (fun h => ?_) (fun h => ?_)
  · have hlt : 0 < (x.drop k).length := by omega
    have hu : m'.length % 64 < 64 := Nat.mod_lt _ (by omega)
    refine c_skip (n_then (c_block (c_seq ?_)))
    refine c_grow 9 [0, 1, 27, 28] (by kernel_rfl) (by kernel_rfl) ?_
    refine f_move rfl rfl ?_
    refine f_nilCheck rfl rfl ?_
    refine f_fieldAddr rfl rfl (fun w _ => r_fB) ?_
    refine f_move rfl rfl ?_
    refine f_nilCheck rfl rfl ?_
    refine f_fieldAddr rfl rfl (fun w _ => r_fU) ?_
    refine f_load rfl rfl (fun w' hw => r_load1 Try.underlying3 rfl (hc2.ext hw).cellU) ?_
    refine f_slice (a := some (I ((m'.length % 64 : Nat) : Int))) (b := none) rfl rfl rfl rfl (fun w _ => r_slH hu) ?_
    refine f_move rfl rfl (f_nil ?_)
    intro w3 hx3
    rintro _ rfl _ rfl _ rfl _ rfl
    have hc3 := hc2.ext hx3
    obtain ⟨w4, hr, q4, hc4⟩ := r_copyH (ty := 3) hc3 hu (hb2.ext hx3) hlt
    obtain ⟨n, hn⟩ : ∃ n, n = min (x.drop k).length (64 - m'.length % 64) := ⟨_, rfl⟩
    rw [← hn] at hr hc4
    have hxk : (x.drop k).length = x.length - k := List.length_drop
    have hn1 : n ≤ x.length - k := by omega
    have hn2 : m'.length % 64 + n ≤ 64 := by omega
    have hn0 : 0 < n := by omega
    refine o_copy rfl rfl hr ?_
    refine o_assign rfl rfl (o_nil (n_then (c_seq (c_region (o_move rfl rfl ?_)))))
    refine o_nilCheck rfl rfl ?_
    refine o_fieldAddr rfl rfl r_fU ?_
    refine o_load rfl rfl (r_load1 Try.underlying3 rfl hc4.cellU) ?_
    refine o_move rfl rfl ?_
    have e1 : ((m'.length % 64 : Nat) : Int) + (n : Int) = ((m'.length % 64 + n : Nat) : Int) := by omega
    refine o_bin (r := I ((m'.length % 64 + n : Nat) : Int)) rfl rfl rfl (by rw [← e1]; exact r_add_i (by omega) (by omega)) ?_
    refine o_nilCheck rfl rfl ?_
    refine o_fieldAddr rfl rfl r_fU ?_
    have hcl4 := hcells_len (u := ((m'.length % 64 : Nat) : Int)) (tot := tot + UInt64.ofNat x.length) hc4.ls hc4.lb
    refine o_store rfl rfl (r_store1 (i := 72) size_int rfl hc4.hb (by rw [List.size_toArray, hcl4]; omega)) ?_
    have hc5 := hc4.setU ((m'.length % 64 + n : Nat) : Int)
    have q5 := q4.trans (grownBy_setCell w4 g 72 (I ((m'.length % 64 + n : Nat) : Int)))
    revert hc5 q5
    generalize w4.setCell ⟨g, 72, none⟩ (I ((m'.length % 64 + n : Nat) : Int)) = w5
    intro hc5 q5
    have hb5 := (hb2.ext hx3).away ha2 q5
    have q25 := (q2.trans (gb_ext hx3)).trans q5
    refine o_nil (n_then (c_seq (c_region (o_move rfl rfl (o_move rfl rfl ?_)))))
    obtain ⟨b6, hr6, hb6, ha6⟩ := r_slB_away hb5 (lo := n) (by omega) (ha2 hlt)
    rw [List.drop_drop] at hb6
    refine o_slice (a := some (I (n : Int))) (b := none) rfl rfl rfl rfl rfl (hr6 _) ?_
    refine o_assign rfl rfl (o_nil (n_then (c_seq (c_region (o_move rfl rfl ?_)))))
    refine o_nilCheck rfl rfl ?_
    refine o_fieldAddr rfl rfl r_fU ?_
    refine o_load rfl rfl (r_load1 Try.underlying3 rfl hc5.cellU) ?_
    refine o_bin rfl rfl rfl (r_eql_i) ?_
    refine o_nil (n_then ?_)
    have hyl : ((x.drop k).take (64 - m'.length % 64)).length = n := by rw [List.length_take, hn, Nat.min_comm]
    have hyn : (x.drop k).take (64 - m'.length % 64) = (x.drop k).take n := by
      rw [hn]
      rcases Nat.le_total (x.drop k).length (64 - m'.length % 64) with h1 | h1
      · rw [Nat.min_eq_left h1, List.take_of_length_le h1, List.take_length]
      · rw [Nat.min_eq_right h1]
    have hmy : m ++ x.take (k + n) = m' ++ (x.drop k).take (64 - m'.length % 64) := by
      rw [hyn, hm', List.append_assoc, ← List.take_add]
    obtain ⟨y, hy⟩ : ∃ y, y = (x.drop k).take (64 - m'.length % 64) := ⟨_, rfl⟩
    rw [← hy] at hc5 hyl hmy
    have hmd : (m'.drop (64 * (m'.length / 64))).length = m'.length % 64 := by rw [List.length_drop]; omega
    have hml : (m' ++ y).length = m'.length + n := by rw [List.length_append, hyl]
    refine c_if rfl (fun h => ?_) (fun h => ?_)
    · have hfull : m'.length % 64 + n = 64 := by omega
      refine c_region (o_move rfl rfl ?_)
      refine o_call call_process rfl rfl (process_spec hc5) ?_
      rintro _ w6 ⟨q6, hc6⟩
      refine o_nil (n_block ?_)
      refine n_round (k + n, b6) ⟨rfl, rfl, trivial⟩ ⟨?_, hb6.away (fun _ => ha6) q6, fun _ => ha6, q25.trans q6, by show k + n ≤ x.length; omega⟩ (by show x.length - (k + n) < x.length - k; omega)
      show HA g (m ++ x.take (k + n)) _ w6
      rw [hmy]
      have e0 : (m' ++ y).length % 64 = 0 := by rw [hml]; omega
      have hd0 : blk.drop (m'.length % 64 + n) = [] := List.drop_eq_nil_of_le (by rw [hc2.lb]; omega)
      rw [hd0, List.append_nil] at hc6
      have hdd : (m' ++ y).drop (64 * ((m' ++ y).length / 64)) = [] := List.drop_eq_nil_of_le (by omega)
      refine ⟨blk.take (m'.length % 64) ++ y, ?_, by rw [e0, hdd, List.take_zero]⟩
      rw [e0, sh_full m' y (by omega), ← ht2]
      exact hc6
    · have hpart : m'.length % 64 + n < 64 := by omega
      refine c_skip (n_block ?_)
      refine n_round (k + n, b6) ⟨rfl, rfl, trivial⟩ ⟨?_, hb6, fun _ => ha6, q25, by show k + n ≤ x.length; omega⟩ (by show x.length - (k + n) < x.length - k; omega)
      show HA g (m ++ x.take (k + n)) _ w5
      rw [hmy]
      have e0 : (m' ++ y).length % 64 = m'.length % 64 + n := by rw [hml]; omega
      have e2 : (m' ++ y).length / 64 = m'.length / 64 := by rw [hml]; omega
      refine ⟨_, by rw [e0, sh_part m' y (by omega)]; exact hc5, ?_⟩
      rw [e0, e2, List.drop_append_of_le_length (by omega), ← ht2]
      rw [List.take_append_of_le_length (by rw [List.length_append, List.length_take, hc2.lb, hyl]; omega)]
      exact List.take_of_length_le (by rw [List.length_append, List.length_take, hc2.lb, hyl]; omega)
  · have hk' : k = x.length := by
      have : (x.drop k).length = x.length - k := List.length_drop
      omega
    refine c_exit (x_then (x_then (x_here ?_)))
    refine n_body0 rfl ?_
    refine ⟨_, rfl, q2, ?_⟩
    rw [hk', List.take_length] at hm'
    rw [hm'] at hc2 ht2
    exact ⟨blk, hc2, ht2⟩

theorem New0_spec (w : World) : Calls Try.prog 25 #[] w (Ret fun r w' => Ext w w' ∧ ∃ g, w.heap.size ≤ g ∧ r = .pointer (some ⟨g, 0, none⟩) ∧ HA g [] 0 w') := by
  refine enter (vs := []) Try.func25 rfl rfl rfl ?_
  refine c_seq (c_region (o_assign rfl rfl (o_nil (n_then (c_seq (c_region ?_))))))
  refine o_build rfl rfl (run_build _ _ _ (iv.map U32).toArray (by kernel_rfl)) ?_
  refine o_build rfl rfl (run_build _ _ _ (hcells iv (List.replicate 64 0) 0 0).toArray (by kernel_rfl)) ?_
  obtain ⟨g, w1, hr, n1, x1, b1⟩ := r_boxB (P := Try.prog) (w := w) (t := 71) (v := .agg (hcells iv (List.replicate 64 0) 0 0).toArray) (l := hcells iv (List.replicate 64 0) 0 0) rfl
  refine o_box rfl rfl hr ?_
  refine o_assign rfl rfl (o_nil (n_then (c_ret ?_)))
  refine r_body1 rfl rfl ?_
  exact ⟨_, rfl, x1, g, n1, rfl, List.replicate 64 0, ⟨b1, rfl, by simp⟩, rfl⟩

theorem HC.ldH {g : Nat} {st : List UInt32} {blk : List UInt8} {u : Int} {tot : UInt64} {w : World} (h : HC g st blk u tot w) : (Instr.loadAt 71 (.pointer (some ⟨g, 0, none⟩))).run Try.prog w = .ok (.agg (hcells st blk u tot).toArray) w :=
  r_ldA (m := hcells st blk u tot) h.hb (fun j v hj => by rwa [Nat.zero_add]) Try.underlying71 rfl (by rw [hcells_len h.ls h.lb]; exact size_Hash)
theorem one_h {st : List UInt32} {blk : List UInt8} {u : Int} {tot : UInt64} : ∀ v ∈ hcells st blk u tot, v.oneCell' = true := by
  intro v hv
  unfold hcells at hv
  rcases List.mem_append.1 hv with h | h
  · exact one_of _ v h
  · rcases List.mem_append.1 h with h | h
    · exact one_ofB _ v h
    · simp only [List.mem_cons, List.not_mem_nil, or_false] at h
      rcases h with rfl | rfl <;> rfl
theorem HClone_spec {w : World} {g : Nat} {m : List UInt8} {tot : UInt64} (hh : HA g m tot w) :
    Calls Try.prog 28 #[.pointer (some ⟨g, 0, none⟩)] w (Ret fun r w' => Ext w w' ∧ ∃ g', w.heap.size ≤ g' ∧ r = .pointer (some ⟨g', 0, none⟩) ∧ HA g' m tot w') := by
  obtain ⟨blk, hc, ht⟩ := hh
  refine enter (vs := [.pointer (some ⟨g, 0, none⟩)]) Try.func28 rfl rfl rfl ?_
  refine c_seq (c_region (o_assign rfl rfl (o_nil (n_then (c_seq (c_seq (c_region (o_move rfl rfl ?_))))))))
  refine o_bin rfl rfl rfl (r_eqnilp Try.underlying40) ?_
  refine o_nil (n_then ?_)
  refine c_no rfl ?_
  refine c_skip (n_then (c_seq (c_region (o_move rfl rfl ?_))))
  refine o_nilCheck rfl rfl ?_
  refine o_load rfl rfl hc.ldH ?_
  obtain ⟨g1, w1, hr, n1, x1, b1⟩ := r_allocB (P := Try.prog) (w := w) (l := hcells (List.replicate 8 0) (List.replicate 64 0) 0 0) zero_Hash rfl
  refine o_alloc rfl hr ?_
  have hl := hcells_len (u := ((m.length % 64 : Nat) : Int)) (tot := tot) hc.ls hc.lb
  refine o_store rfl rfl (r_stA b1 (by rw [hl]; rfl) (by rw [hl]; exact size_Hash) one_h) ?_
  refine o_nil (n_then (c_seq (c_region (o_assign rfl rfl (o_nil (n_then (c_ret ?_)))))))
  refine r_body1 rfl rfl ?_
  exact ⟨_, rfl, x1.of_new (grownBy_setRow _ _ _) n1, g1, n1, rfl, blk, ⟨b1.row _, hc.ls, hc.lb⟩, ht⟩
end Go.Rl

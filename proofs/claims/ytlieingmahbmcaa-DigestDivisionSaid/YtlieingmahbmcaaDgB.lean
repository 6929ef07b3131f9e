/- Walks of the statements DigestLengths, DigestPrefixes, DigestClone, DigestNil. No condition. -/
import Derived.Test.YtlieingmahbmcaaDgA
import Derived.Test.YtlieingmahbmcaaStep
namespace Go.Rl
open Go.RowKit Go.Proofs

theorem set_fill {c : UInt8} {k i : Nat} (h : i < k) : (List.replicate i c ++ List.replicate (k - i) 0).set i c = List.replicate (i + 1) c ++ List.replicate (k - (i + 1)) 0 := by
  obtain ⟨j, rfl⟩ : ∃ j, k = i + 1 + j := ⟨k - (i + 1), by omega⟩
  rw [List.set_append_right _ _ (by simp)]
  simp only [List.length_replicate, Nat.sub_self]
  rw [show i + 1 + j - i = j + 1 by omega, show i + 1 + j - (i + 1) = j by omega, List.replicate_succ, List.set_cons_zero, List.replicate_succ']
  simp
theorem DigestLengths_walk {w : World} {n : Int} {c : UInt8} (h1 : -9223372036854775808 ≤ n) (h2 : n ≤ 9223372036854775807) :
    Calls Try.prog 6 #[I n, U8 c] w (Ret fun r w' => r = B true ∧ Ext w w') := by
  refine enter (vs := [I n, U8 c]) Try.func6 rfl rfl rfl ?_
  refine c_seq (c_region (o_assign rfl rfl (o_nil (n_then (c_seq (c_seq (c_region (o_call call_dawake rfl rfl (dawake_spec w) ?_))))))))
  rintro v7 w7 ⟨rfl, x7⟩
  refine o_not rfl rfl r_not (o_move rfl rfl (g_yes rfl (o_move rfl rfl (g_yes rfl (o_bin rfl rfl rfl (r_lss_i) (o_pick_f rfl rfl rfl (o_move rfl rfl ?_)))))))
  refine o_dec (fun h13 => ?_) (fun h13 => ?_)
  · refine g_no rfl rfl rfl (g_no rfl rfl rfl (o_pick_t rfl rfl rfl (o_nil (n_then (c_yes rfl (c_seq (c_region (o_call call_dawake rfl rfl (dawake_spec w7) ?_))))))))
    rintro v17 w17 ⟨rfl, x17⟩
    refine o_assign rfl rfl (o_nil (n_then (c_ret (r_then (r_body1 rfl rfl ?_)))))
    exact ⟨_, rfl, rfl, (x7.trans x17)⟩
  · refine g_yes rfl (o_move rfl rfl (g_yes rfl (o_bin rfl rfl rfl (r_gtr_i) (o_pick_f rfl rfl rfl (o_nil (n_then ?_))))))
    refine c_if rfl (fun h16 => ?_) (fun h16 => ?_)
    · refine c_seq (c_region (o_call call_dawake rfl rfl (dawake_spec w7) ?_))
      rintro v17 w17 ⟨rfl, x17⟩
      refine o_assign rfl rfl (o_nil (n_then (c_ret (r_then (r_body1 rfl rfl ?_)))))
      exact ⟨_, rfl, rfl, (x7.trans x17)⟩
    · refine c_skip (n_then (c_seq (c_region ?_)))
      obtain ⟨k, rfl⟩ : ∃ k : Nat, n = (k : Int) := ⟨n.toNat, by omega⟩
      have hk : k ≤ 300 := by omega
      refine o_move rfl rfl ?_
      obtain ⟨v19, w19, hr19, x19, o19, _⟩ := r_mkB (w := w7) w7.heap.size (n := k) (by omega) (Nat.le_refl _)
      refine o_makeSlice rfl rfl rfl (hr19) (o_assign rfl rfl (o_nil (n_then (c_seq (c_seq (c_region (o_assign rfl rfl (o_nil (n_then (c_block ?_))))))))))
      refine c_loop (α := Nat) (fun i => [(0, I (k : Int)), (1, U8 c), (5, v19), (6, I (i : Int))]) (fun i w' => OwnB w7.heap.size (List.replicate i c ++ List.replicate (k - i) 0) v19 w' ∧ Ext w7 w' ∧ i ≤ k) (fun i => k - i) (0) ⟨rfl, rfl, rfl, rfl, trivial⟩ ⟨by simpa using o19, x19, by omega⟩ ?_
      rintro i w5 ⟨o5, y5, hi⟩
      refine c_seq (c_seq (c_region (o_move rfl rfl (o_move rfl rfl (o_bin rfl rfl rfl (r_lss_i) (o_nil (n_then ?_)))))))
      refine c_if rfl (fun h22 => ?_) (fun h22 => ?_)
      · refine c_skip (n_then (c_seq (c_block (c_region (o_move rfl rfl (o_move rfl rfl (o_move rfl rfl ?_)))))))
        obtain ⟨g, w28, hp, hs, ho, hg, hb⟩ := o5.setB (i := i) (by simp; omega) c
        refine o_indexAddr rfl rfl rfl (hp _) (o_store rfl rfl (hs) (o_nil (n_block (n_then (c_region (o_move rfl rfl (o_bin rfl rfl rfl (r_add_i (by omega) (by omega)) (o_assign rfl rfl ?_))))))))
        refine o_nil ?_
        refine n_round (i + 1) ⟨rfl, rfl, rfl, rfl, trivial⟩ ⟨by rw [← set_fill (by omega)]; exact ho, y5.of_new hg hb.1, by omega⟩ (by omega)
      · refine c_exit (x_then (x_then (x_here (n_then (c_seq (c_region ?_))))))
        have o6 : OwnB w7.heap.size (List.replicate i c) v19 w5 := by simpa [show k - i = 0 by omega] using o5
        refine o_move rfl rfl (o_call call_dSum rfl rfl (dSum_spec o6.bts) ?_)
        rintro v30 w30 ⟨x30, rfl⟩
        refine o_move rfl rfl (o_call call_rSum rfl rfl (rSum_spec ((o6.ext x30).bts) (by simp; omega)) ?_)
        rintro v32 w32 ⟨x32, rfl⟩
        refine o_bin rfl rfl rfl (r_eqlA (dig_len _)) (o_assign rfl rfl (o_nil (n_then (c_ret (r_body1 rfl rfl ?_)))))
        exact ⟨_, rfl, rfl, (((x7.trans y5).trans x30).trans x32)⟩
theorem DigestPrefixes_walk {w : World} {l : List UInt8} {v : Value} (hv : Bts l v w) :
    Calls Try.prog 8 #[v] w (Ret fun r w' => r = B true ∧ Ext w w') := by
  refine enter (vs := [v]) Try.func8 rfl rfl rfl ?_
  refine c_seq (c_region (o_assign rfl rfl (o_nil (n_then (c_seq (c_seq (c_region (o_call call_dawake rfl rfl (dawake_spec w) ?_))))))))
  rintro v5 w5 ⟨rfl, x5⟩
  refine o_not rfl rfl r_not (o_move rfl rfl (g_yes rfl (o_move rfl rfl (g_yes rfl (o_len rfl rfl (r_lenB (hv.ext x5)) (g_yes rfl (o_bin rfl rfl rfl (r_gtr_i) (o_pick_f rfl rfl rfl ?_))))))))
  refine o_nil (n_then ?_)
  refine c_if rfl (fun h11 => ?_) (fun h11 => ?_)
  · refine c_seq (c_region (o_call call_dawake rfl rfl (dawake_spec w5) ?_))
    rintro v12 w12 ⟨rfl, x12⟩
    refine o_assign rfl rfl (o_nil (n_then (c_ret (r_then (r_body1 rfl rfl ?_)))))
    exact ⟨_, rfl, rfl, (x5.trans x12)⟩
  · have hlen : l.length ≤ 140 := by omega
    refine c_skip (n_then (c_seq (c_region (o_call (vs := []) call_HNew rfl rfl (New0_spec w5) ?_))))
    rintro v13 w13 ⟨x13, g, hg, rfl, hA⟩
    have hgw : w.heap.size ≤ g := Nat.le_trans x5.size hg
    refine o_assign rfl rfl (o_nil (n_then (c_seq (c_seq (c_region (o_assign rfl rfl (o_nil (n_then (c_block ?_)))))))))
    refine c_loop (α := Nat) (fun i => [(0, v), (3, .pointer (some ⟨g, 0, none⟩)), (4, I (i : Int))]) (fun i w' => HA g (l.take i) (UInt64.ofNat i) w' ∧ Ext w w' ∧ i ≤ l.length) (fun i => l.length - i) (0) ⟨rfl, rfl, rfl, trivial⟩ ⟨by simpa using hA, (x5.trans x13), by omega⟩ ?_
    rintro i w6 ⟨h6, e6, hi⟩
    refine c_seq (c_seq ?_)
    have hti : (l.take i).length = i := by simp; omega
    have hS : HA g (l.take i) (UInt64.ofNat (l.take i).length) w6 := by rw [hti]; exact h6
    refine c_region (o_move rfl rfl (o_move rfl rfl (o_len rfl rfl (r_lenB (hv.ext e6)) (o_bin rfl rfl rfl (r_lss_i) (o_nil (n_then ?_))))))
    refine c_if rfl (fun h17 => ?_) (fun h17 => ?_)
    · refine c_skip (n_then (c_seq (c_block (c_seq (c_seq (c_grow 6 [0, 3, 4, 21, 25] (by kernel_rfl) (by kernel_rfl) ?_))))))
      refine f_move rfl rfl (f_call (S := Is (.agg ((dig (l.take i)).map U8).toArray)) call_HSum (Stable.is _) rfl (fun w hw => by rintro _ rfl; exact HSum_spec (hS.ext hw)) ?_)
      refine f_move rfl rfl (f_move rfl rfl ?_)
      obtain ⟨v24, p24, b24⟩ := r_slB_hi (hv.ext e6) (hi := i) (by omega) .i64
      refine f_slice rfl rfl rfl rfl (fun w _ => p24 w) (f_call (S := Is (.agg ((dig (l.take i)).map U8).toArray)) call_rSum (Stable.is _) rfl (fun w hw => by rintro _ rfl; exact rSum_spec (b24.ext hw) (by omega)) ?_)
      refine f_nil ?_
      intro wg7 xg7
      rintro _ rfl
      rintro _ rfl
      rintro _ rfl
      rintro _ rfl
      rintro _ rfl
      refine o_bin rfl rfl rfl (r_neqA (dig_len _)) (o_nil (n_then (c_no rfl (c_skip (n_then (c_region (o_move rfl rfl (o_move rfl rfl (o_move rfl rfl (o_move rfl rfl (o_bin rfl rfl rfl (r_add_i (by omega) (by omega)) ?_)))))))))))
      have hlt : i < l.length := by omega
      obtain ⟨v32, p32, b32⟩ := r_slB hv (lo := i) (hi := i + 1) (by omega) (by omega) .i64 .i64
      refine o_slice rfl rfl rfl rfl rfl (p32 _) (o_call call_Write rfl rfl (Write_spec (h6.ext xg7) (b32.ext (e6.trans xg7)) (b32.old hgw)) ?_)
      rintro v33 w33 ⟨q33, h33⟩
      have x33 := (e6.trans xg7).of_new q33 hgw
      have e1 : l.take i ++ (l.take (i + 1)).drop i = l.take (i + 1) := by
        have := List.take_append_drop i (l.take (i + 1))
        rwa [List.take_take, Nat.min_eq_left (by omega)] at this
      have e2 : ((l.take (i + 1)).drop i).length = 1 := by simp; omega
      rw [e1, e2, ← UInt64.ofNat_add] at h33
      refine o_nil (n_block (n_then (c_region (o_move rfl rfl (o_bin rfl rfl rfl (r_add_i (by omega) (by omega)) (o_assign rfl rfl (o_nil ?_)))))))
      refine n_round (i + 1) ⟨rfl, rfl, rfl, trivial⟩ ⟨h33, x33, by omega⟩ (by omega)
    · refine c_exit (x_then (x_then (x_here (n_then (c_seq (c_region ?_))))))
      rw [List.take_of_length_le (by omega)] at hS
      refine o_move rfl rfl (o_call call_HSum rfl rfl (HSum_spec hS) ?_)
      rintro v35 w35 ⟨x35, rfl⟩
      refine o_move rfl rfl (o_call call_dSum rfl rfl (dSum_spec (hv.ext (e6.trans x35))) ?_)
      rintro v37 w37 ⟨x37, rfl⟩
      refine o_bin rfl rfl rfl (r_eqlA (dig_len _)) (o_assign rfl rfl (o_nil (n_then (c_ret (r_body1 rfl rfl ?_)))))
      exact ⟨_, rfl, rfl, ((e6.trans x35).trans x37)⟩
end Go.Rl


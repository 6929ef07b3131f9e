/- Walk of the program's block function. Conditions: a hash at the block. -/
import Derived.Test.YtlieingmahbmcaaDg6
namespace Go.Rl
open Go.RowKit Go.Proofs

theorem call_process : Callable Try.prog 43 := ⟨_, Try.func43, by kernel_rfl, rfl⟩
theorem word_drop (b : List UInt8) (k : Nat) : word b k = ((((b.drop (4 * k)).getD 0 0).toUInt32 <<< UInt32.ofNat 24 ||| ((b.drop (4 * k)).getD 1 0).toUInt32 <<< UInt32.ofNat 16) ||| ((b.drop (4 * k)).getD 2 0).toUInt32 <<< UInt32.ofNat 8) ||| ((b.drop (4 * k)).getD 3 0).toUInt32 := by
  simp only [drop_get, word, Nat.add_zero]

theorem mapU_get {m : List UInt32} {i : Nat} (h : i < m.length) : (m.map U32)[i]? = some (U32 (m.getD i 0)) := by simp [h]

theorem process_spec {w : World} {g : Nat} {s : List UInt32} {b : List UInt8} {u : Int} {tot : UInt64} (hc : HC g s b u tot w) :
    Calls Try.prog 43 #[.pointer (some ⟨g, 0, none⟩)] w (Ret fun _ w' => w.grownBy w' (some g) ∧ HC g (cmpr s b) b 0 tot w') := by
  have hs := hc.ls
  have hbl := hc.lb
  refine enter (vs := [.pointer (some ⟨g, 0, none⟩)]) Try.func43 rfl rfl rfl ?_
  obtain ⟨g2, w1, hr, n2, x1, b2⟩ := r_allocB (P := Try.prog) (w := w) (l := (filled []).map U32) zero64 rfl
  refine c_seq (c_region (o_alloc rfl hr (o_nil (n_then ?_))))
  have lg := hc.lt
  have hc1 := hc.ext x1
  have neg : some g ≠ some g2 := fun h => by cases h; omega
  refine c_seq (c_cut (fun _ : Unit => [(0, .pointer (some ⟨g, 0, none⟩)), (2, .pointer (some ⟨g2, 0, none⟩))]) (fun _ w' => w1.grownBy w' (some g2) ∧ Blk g2 79 ((filled (sched b 0)).map U32) w') ?_ ?_)
  · refine c_seq (c_region (o_move rfl rfl (o_nil (n_then (c_block ?_)))))
    refine c_loop (α := Nat) (fun k => [(0, .pointer (some ⟨g, 0, none⟩)), (2, .pointer (some ⟨g2, 0, none⟩)), (17, I (k : Int))])
      (fun k w' => w1.grownBy w' (some g2) ∧ Blk g2 79 ((filled (words b k)).map U32) w' ∧ k ≤ 16) (fun k => 16 - k) 0 ⟨rfl, rfl, rfl, trivial⟩
      ⟨gb_ext (Ext.refl _), b2, by omega⟩ ?_
    rintro k w7 ⟨q7, b7, hk⟩
    refine c_seq (c_region ?_)
    refine o_bin rfl rfl rfl (r_lss_i) ?_
    refine o_nil (n_then (c_seq ?_))
    refine c_if rfl (fun h => ?_) (fun h => ?_)
    · have hk16 : k < 16 := by omega
      have e0 : (4 : Int) * (k : Int) = ((4 * k : Nat) : Int) := by omega
      refine c_skip (n_then (c_seq (c_block (c_seq (c_region (o_move rfl rfl (o_assign rfl rfl (o_nil (n_then (c_seq (c_region (o_move rfl rfl ?_))))))))))))
      refine o_nilCheck rfl rfl ?_
      refine o_fieldAddr rfl rfl r_fB ?_
      refine o_move rfl rfl ?_
      refine o_bin (r := I ((4 * k : Nat) : Int)) rfl rfl rfl (by rw [← e0]; exact r_mul_i (by omega) (by omega)) ?_
      refine o_slice (a := some (I ((4 * k : Nat) : Int))) rfl rfl rfl rfl rfl (r_slH (by omega)) ?_
      refine o_assign rfl rfl (o_nil (n_then ?_))
      have hbt := (hc1.other q7 neg).bts (lo := 4 * k) (by omega)
      obtain ⟨ad, had⟩ := hbt.reads
      rw [List.length_drop, hbl] at had
      refine c_grow 24 [0, 2, 17, 48, 49] (by kernel_rfl) (by kernel_rfl) ?_
      refine f_move rfl rfl (f_move rfl rfl ?_)
      refine f_indexAddr rfl rfl rfl (fun w _ => (had 0 (by omega)).1 w) ?_
      refine f_load rfl rfl (fun w' hw => (had 0 (by omega)).2 w' hw) ?_
      refine f_conv rfl rfl (fun w _ => r_u8_u32 Try.underlying5 Try.underlying64) ?_
      refine f_bin rfl rfl rfl (fun w _ => r_shl_u32 24 (by omega)) ?_
      refine f_move rfl rfl ?_
      refine f_indexAddr rfl rfl rfl (fun w _ => (had 1 (by omega)).1 w) ?_
      refine f_load rfl rfl (fun w' hw => (had 1 (by omega)).2 w' hw) ?_
      refine f_conv rfl rfl (fun w _ => r_u8_u32 Try.underlying5 Try.underlying64) ?_
      refine f_bin rfl rfl rfl (fun w _ => r_shl_u32 16 (by omega)) ?_
      refine f_bin rfl rfl rfl (fun w _ => r_or_u32) ?_
      refine f_move rfl rfl ?_
      refine f_indexAddr rfl rfl rfl (fun w _ => (had 2 (by omega)).1 w) ?_
      refine f_load rfl rfl (fun w' hw => (had 2 (by omega)).2 w' hw) ?_
      refine f_conv rfl rfl (fun w _ => r_u8_u32 Try.underlying5 Try.underlying64) ?_
      refine f_bin rfl rfl rfl (fun w _ => r_shl_u32 8 (by omega)) ?_
      refine f_bin rfl rfl rfl (fun w _ => r_or_u32) ?_
      refine f_move rfl rfl ?_
      refine f_indexAddr rfl rfl rfl (fun w _ => (had 3 (by omega)).1 w) ?_
      refine f_load rfl rfl (fun w' hw => (had 3 (by omega)).2 w' hw) ?_
      refine f_conv rfl rfl (fun w _ => r_u8_u32 Try.underlying5 Try.underlying64) ?_
      refine f_bin rfl rfl rfl (fun w _ => r_or_u32) ?_
      refine f_indexAddr rfl rfl rfl (fun w _ => r_ix64 k (by omega)) ?_
      refine f_nil ?_
      intro w8 hx8
      rintro _ rfl _ rfl _ rfl _ rfl _ rfl
      have hlen : (filled (words b k)).length = 64 := filled_len (by rw [words_len]; omega)
      rw [← word_drop]
      refine o_store rfl rfl (r_stU (x := word b k) (b7.ext hx8) k (by omega)) ?_
      have b8 := (b7.ext hx8).setU k (word b k)
      have q8 := (q7.trans (gb_ext hx8)).trans (grownBy_setCell w8 g2 k (U32 (word b k)))
      have hset : (filled (words b k)).set k (word b k) = filled (words b (k + 1)) := by
        have := filled_set (l := words b k) (word b k) (by rw [words_len]; omega)
        rw [words_len] at this
        rw [this, words_snoc]
      rw [hset] at b8
      refine o_nil (n_block (n_then (c_region ?_)))
      refine o_bin rfl rfl rfl (r_add_i (by omega) (by omega)) ?_
      refine o_move rfl rfl (o_nil ?_)
      exact n_round (k + 1) ⟨rfl, rfl, rfl, trivial⟩ ⟨q8, b8, by omega⟩ (by omega)
    · have hk' : k = 16 := by omega
      subst hk'
      exact c_exit (x_then (x_then (x_here (n_meet () ⟨rfl, rfl, trivial⟩ ⟨q7, b7⟩))))
  rintro _ w7 ⟨q7, b7⟩
  refine n_then ?_
  refine c_seq (c_cut (fun _ : Unit => [(0, .pointer (some ⟨g, 0, none⟩)), (2, .pointer (some ⟨g2, 0, none⟩))]) (fun _ w' => w1.grownBy w' (some g2) ∧ Blk g2 79 ((sched b 48).map U32) w') ?_ ?_)
  · refine c_seq (c_region (o_assign rfl rfl (o_nil (n_then (c_block ?_)))))
    refine c_loop (α := Nat) (fun k => [(0, .pointer (some ⟨g, 0, none⟩)), (2, .pointer (some ⟨g2, 0, none⟩)), (5, I ((16 + k : Nat) : Int))])
      (fun k w' => w1.grownBy w' (some g2) ∧ Blk g2 79 ((filled (sched b k)).map U32) w' ∧ k ≤ 48) (fun k => 48 - k) 0 ⟨rfl, rfl, rfl, trivial⟩
      ⟨q7, b7, by omega⟩ ?_
    clear q7 b7
    rintro k w7 ⟨q7, b7, hk⟩
    have hL := sched_len b k
    refine c_seq (c_seq (c_region (o_move rfl rfl ?_)))
    refine o_bin rfl rfl rfl (r_lss_i) ?_
    refine o_nil (n_then ?_)
    refine c_if rfl (fun h => ?_) (fun h => ?_)
    · have hk48 : k < 48 := by omega
      refine c_skip (n_then (c_seq (c_block (c_seq ?_))))
      have e15 : ((16 + k : Nat) : Int) - 15 = (((sched b k).length - 15 : Nat) : Int) := by omega
      have f15 := filled_get (l := sched b k) (i := (sched b k).length - 15) (by omega)
      have e2 : ((16 + k : Nat) : Int) - 2 = (((sched b k).length - 2 : Nat) : Int) := by omega
      have f2 := filled_get (l := sched b k) (i := (sched b k).length - 2) (by omega)
      have e16 : ((16 + k : Nat) : Int) - 16 = (((sched b k).length - 16 : Nat) : Int) := by omega
      have f16 := filled_get (l := sched b k) (i := (sched b k).length - 16) (by omega)
      have e7 : ((16 + k : Nat) : Int) - 7 = (((sched b k).length - 7 : Nat) : Int) := by omega
      have f7 := filled_get (l := sched b k) (i := (sched b k).length - 7) (by omega)
      have hlen : (filled (sched b k)).length = 64 := filled_len (by omega)
      refine c_grow 9 [0, 2, 5, 6, 62] (by kernel_rfl) (by kernel_rfl) ?_
      refine f_move rfl rfl ?_
      refine f_bin (r := I (((sched b k).length - 15 : Nat) : Int)) rfl rfl rfl (fun w _ => by rw [← e15]; exact r_sub_i (by omega) (by omega)) ?_
      refine f_indexAddr rfl rfl rfl (fun w _ => r_ix64 _ (by omega)) ?_
      refine f_load (r := U32 ((sched b k).getD ((sched b k).length - 15) 0)) rfl rfl (fun w' hw => by rw [← f15]; exact r_ldU (b7.ext hw) _ (by omega)) ?_
      refine f_move rfl rfl ?_
      refine f_bin (r := I (((sched b k).length - 2 : Nat) : Int)) rfl rfl rfl (fun w _ => by rw [← e2]; exact r_sub_i (by omega) (by omega)) ?_
      refine f_indexAddr rfl rfl rfl (fun w _ => r_ix64 _ (by omega)) ?_
      refine f_load (r := U32 ((sched b k).getD ((sched b k).length - 2) 0)) rfl rfl (fun w' hw => by rw [← f2]; exact r_ldU (b7.ext hw) _ (by omega)) ?_
      refine f_assign rfl rfl (f_nil ?_)
      intro w8 hx8
      rintro _ rfl _ rfl _ rfl _ rfl _ rfl
      refine o_assign rfl rfl (o_nil (n_then ?_))
      have b12 := b7.ext hx8
      refine c_grow 29 [0, 2, 5, 90, 91] (by kernel_rfl) (by kernel_rfl) ?_
      refine f_move rfl rfl (f_move rfl rfl ?_)
      refine f_bin (r := I (((sched b k).length - 16 : Nat) : Int)) rfl rfl rfl (fun w _ => by rw [← e16]; exact r_sub_i (by omega) (by omega)) ?_
      refine f_indexAddr rfl rfl rfl (fun w _ => r_ix64 _ (by omega)) ?_
      refine f_load (r := U32 ((sched b k).getD ((sched b k).length - 16) 0)) rfl rfl (fun w' hw => by rw [← f16]; exact r_ldU (b12.ext hw) _ (by omega)) ?_
      refine f_move rfl rfl ?_
      refine f_call (S := Is (U32 (rotr _ 7))) call_right (Stable.is _) rfl (fun w' _ => by
        rintro _ rfl _ rfl
        exact Ret.mono (right_spec 7 (by omega) (by omega)) fun v w'' h => ⟨h.1, h.2⟩) ?_
      refine f_move rfl rfl ?_
      refine f_call (S := Is (U32 (rotr _ 18))) call_right (Stable.is _) rfl (fun w' _ => by
        rintro _ rfl _ rfl
        exact Ret.mono (right_spec 18 (by omega) (by omega)) fun v w'' h => ⟨h.1, h.2⟩) ?_
      refine f_bin rfl rfl rfl (fun w _ => r_xor_u32) ?_
      refine f_move rfl rfl ?_
      refine f_bin rfl rfl rfl (fun w _ => r_shr_u32 3 (by omega)) ?_
      refine f_bin rfl rfl rfl (fun w _ => r_xor_u32) ?_
      refine f_bin rfl rfl rfl (fun w _ => r_add_u32) ?_
      refine f_move rfl rfl ?_
      refine f_bin (r := I (((sched b k).length - 7 : Nat) : Int)) rfl rfl rfl (fun w _ => by rw [← e7]; exact r_sub_i (by omega) (by omega)) ?_
      refine f_indexAddr rfl rfl rfl (fun w _ => r_ix64 _ (by omega)) ?_
      refine f_load (r := U32 ((sched b k).getD ((sched b k).length - 7) 0)) rfl rfl (fun w' hw => by rw [← f7]; exact r_ldU (b12.ext hw) _ (by omega)) ?_
      refine f_bin rfl rfl rfl (fun w _ => r_add_u32) ?_
      refine f_move rfl rfl ?_
      refine f_call (S := Is (U32 (rotr _ 17))) call_right (Stable.is _) rfl (fun w' _ => by
        rintro _ rfl _ rfl
        exact Ret.mono (right_spec 17 (by omega) (by omega)) fun v w'' h => ⟨h.1, h.2⟩) ?_
      refine f_move rfl rfl ?_
      refine f_call (S := Is (U32 (rotr _ 19))) call_right (Stable.is _) rfl (fun w' _ => by
        rintro _ rfl _ rfl
        exact Ret.mono (right_spec 19 (by omega) (by omega)) fun v w'' h => ⟨h.1, h.2⟩) ?_
      refine f_bin rfl rfl rfl (fun w _ => r_xor_u32) ?_
      refine f_move rfl rfl ?_
      refine f_bin rfl rfl rfl (fun w _ => r_shr_u32 10 (by omega)) ?_
      refine f_bin rfl rfl rfl (fun w _ => r_xor_u32) ?_
      refine f_bin rfl rfl rfl (fun w _ => r_add_u32) ?_
      refine f_indexAddr rfl rfl rfl (fun w _ => r_ix64 (16 + k) (by omega)) ?_
      refine f_nil ?_
      intro w13 hx13
      rintro _ rfl _ rfl _ rfl _ rfl _ rfl
      refine o_store rfl rfl (r_stU (x := nextW (sched b k)) (b12.ext hx13) (16 + k) (by omega)) ?_
      have b13 := (b12.ext hx13).setU (16 + k) (nextW (sched b k))
      have q13 := ((q7.trans (gb_ext hx8)).trans (gb_ext hx13)).trans (grownBy_setCell w13 g2 (16 + k) (U32 (nextW (sched b k))))
      have hset : (filled (sched b k)).set (16 + k) (nextW (sched b k)) = filled (sched b (k + 1)) := by
        have := filled_set (l := sched b k) (nextW (sched b k)) (by omega)
        rw [hL] at this
        exact this
      rw [hset] at b13
      refine o_nil (n_block (n_then (c_region (o_move rfl rfl ?_))))
      refine o_bin rfl rfl rfl (r_add_i (by omega) (by omega)) ?_
      refine o_assign rfl rfl (o_nil ?_)
      exact n_round (k + 1) ⟨rfl, rfl, rfl, trivial⟩ ⟨q13, b13, by omega⟩ (by omega)
    · have hk' : k = 48 := by omega
      subst hk'
      have hf : filled (sched b 48) = sched b 48 := by
        unfold filled
        rw [hL]
        exact List.append_nil _
      rw [hf] at b7
      exact c_exit (x_then (x_then (x_here (n_meet () ⟨rfl, rfl, trivial⟩ ⟨q7, b7⟩))))
  clear q7 b7
  rintro _ w7 ⟨q7, b7⟩
  have hc7 := hc1.other q7 neg
  refine n_then (c_seq (c_region (o_move rfl rfl ?_)))
  refine o_nilCheck rfl rfl ?_
  refine o_fieldAddr rfl rfl r_fS ?_
  refine o_load rfl rfl hc7.ldS ?_
  have hlen8 : (Try.prog.info? 67).map (·.size) = some (s.map U32).length := by rw [List.length_map, hs]; exact size8
  obtain ⟨g8, w8, hr, n8, x8, b8⟩ := r_allocB (P := Try.prog) (w := w7) (l := (List.replicate 8 0).map U32) zero8 rfl
  refine o_alloc rfl hr ?_
  refine o_store rfl rfl (r_stA b8 (by simp [hs]) hlen8 (one_of _)) ?_
  have b8' := b8.row (s.map U32)
  have q8 := grownBy_setRow w8 g8 (s.map U32).toArray
  have l28 : g2 < g8 := Nat.lt_of_lt_of_le b7.lt n8
  have lg7 := hc7.lt
  have ne28 : some g2 ≠ some g8 := fun h => by cases h; omega
  have neg8 : some g ≠ some g8 := fun h => by cases h; omega
  have D2 := (b7.ext x8).other q8 ne28
  have hc8 := (hc7.ext x8).other q8 neg8
  have Q8 : w.grownBy (w8.setRow g8 (s.map U32).toArray) (some g) := by
    have h1 : Ext w w7 := x1.of_new q7 n2
    exact gb_ext ((h1.trans x8).of_new q8 (by have := h1.size; omega))
  revert b8' D2 hc8 Q8
  generalize w8.setRow g8 (s.map U32).toArray = w9
  intro b9 D2 hc9 Q9
  refine o_nil (n_then ?_)
  refine c_seq (c_cut (fun _ : Unit => [(0, .pointer (some ⟨g, 0, none⟩)), (8, .pointer (some ⟨g8, 0, none⟩))]) (fun _ w' => w9.grownBy w' (some g8) ∧ Blk g8 67 ((rounds b s 64).map U32) w') ?_ ?_)
  · refine c_seq (c_region ?_)
    refine o_call (vs := []) call_constants rfl rfl (constants_spec w9) ?_
    rintro _ w10 ⟨x10, rfl⟩
    refine o_move rfl rfl (o_nil (n_then (c_block ?_)))
    refine c_loop (α := Nat) (fun i => [(0, .pointer (some ⟨g, 0, none⟩)), (2, .pointer (some ⟨g2, 0, none⟩)), (8, .pointer (some ⟨g8, 0, none⟩)), (96, .agg (kc.map U32).toArray), (97, I (i : Int))])
      (fun i w' => w9.grownBy w' (some g8) ∧ Blk g8 67 ((rounds b s i).map U32) w' ∧ i ≤ 64) (fun i => 64 - i) 0 ⟨rfl, rfl, rfl, rfl, rfl, trivial⟩
      ⟨gb_ext x10, b9.ext x10, by omega⟩ ?_
    clear x10 w10
    rintro i w10 ⟨q10, b10, hi⟩
    have hv8 := rounds_len b s hs i
    refine c_seq (c_region ?_)
    refine o_bin rfl rfl rfl (r_lss_i) ?_
    refine o_nil (n_then (c_seq ?_))
    refine c_if rfl (fun h => ?_) (fun h => ?_)
    · have hi64 : i < 64 := by omega
      have hkc : kc.length = 64 := rfl
      have hsl : (sched b 48).length = 64 := sched_len b 48
      refine c_skip (n_then (c_seq (c_block (c_seq (c_region (o_move rfl rfl ?_))))))
      refine o_index rfl rfl rfl (r_idx (l := kc.map U32) Try.underlying79 size_u32 Try.underlying64 hi64 .i64 (mapU_get (by omega))) ?_
      refine o_assign rfl rfl (o_assign rfl rfl (o_nil (n_then (c_seq ?_))))
      have V := b10
      have K6 := D2.other q10 ne28
      refine c_grow 5 [0, 2, 8, 9, 10, 11, 96, 97, 104] (by kernel_rfl) (by kernel_rfl) ?_
      refine f_indexAddr rfl rfl rfl (fun w _ => r_ix8 0 (by omega)) ?_
      refine f_load rfl rfl (fun w' hw => r_ldU (V.ext hw) 0 (by omega)) ?_
      refine f_indexAddr rfl rfl rfl (fun w _ => r_ix8 4 (by omega)) ?_
      refine f_load rfl rfl (fun w' hw => r_ldU (V.ext hw) 4 (by omega)) ?_
      refine f_assign rfl rfl (f_nil ?_)
      intro w11 hx11
      rintro _ rfl _ rfl _ rfl _ rfl _ rfl _ rfl _ rfl _ rfl _ rfl
      refine o_assign rfl rfl (o_nil (n_then (c_seq ?_)))
      replace V := V.ext hx11
      replace K6 := K6.ext hx11
      refine c_grow 28 [0, 2, 8, 11, 96, 97, 132] (by kernel_rfl) (by kernel_rfl) ?_
      refine f_indexAddr rfl rfl rfl (fun w _ => r_ix8 7 (by omega)) ?_
      refine f_load rfl rfl (fun w' hw => r_ldU (V.ext hw) 7 (by omega)) ?_
      refine f_move rfl rfl ?_
      refine f_call (S := Is (U32 (rotr _ 6))) call_right (Stable.is _) rfl (fun w' _ => by
        rintro _ rfl _ rfl
        exact Ret.mono (right_spec 6 (by omega) (by omega)) fun v w'' h => ⟨h.1, h.2⟩) ?_
      refine f_move rfl rfl ?_
      refine f_call (S := Is (U32 (rotr _ 11))) call_right (Stable.is _) rfl (fun w' _ => by
        rintro _ rfl _ rfl
        exact Ret.mono (right_spec 11 (by omega) (by omega)) fun v w'' h => ⟨h.1, h.2⟩) ?_
      refine f_bin rfl rfl rfl (fun w _ => r_xor_u32) ?_
      refine f_move rfl rfl ?_
      refine f_call (S := Is (U32 (rotr _ 25))) call_right (Stable.is _) rfl (fun w' _ => by
        rintro _ rfl _ rfl
        exact Ret.mono (right_spec 25 (by omega) (by omega)) fun v w'' h => ⟨h.1, h.2⟩) ?_
      refine f_bin rfl rfl rfl (fun w _ => r_xor_u32) ?_
      refine f_bin rfl rfl rfl (fun w _ => r_add_u32) ?_
      refine f_move rfl rfl ?_
      refine f_indexAddr rfl rfl rfl (fun w _ => r_ix8 5 (by omega)) ?_
      refine f_load rfl rfl (fun w' hw => r_ldU (V.ext hw) 5 (by omega)) ?_
      refine f_bin rfl rfl rfl (fun w _ => r_and_u32) ?_
      refine f_move rfl rfl ?_
      refine f_not rfl rfl (fun w _ => r_compl_u32) ?_
      refine f_indexAddr rfl rfl rfl (fun w _ => r_ix8 6 (by omega)) ?_
      refine f_load rfl rfl (fun w' hw => r_ldU (V.ext hw) 6 (by omega)) ?_
      refine f_bin rfl rfl rfl (fun w _ => r_and_u32) ?_
      refine f_bin rfl rfl rfl (fun w _ => r_xor_u32) ?_
      refine f_bin rfl rfl rfl (fun w _ => r_add_u32) ?_
      refine f_move rfl rfl ?_
      refine f_bin rfl rfl rfl (fun w _ => r_add_u32) ?_
      refine f_move rfl rfl ?_
      refine f_indexAddr rfl rfl rfl (fun w _ => r_ix64 i (by omega)) ?_
      refine f_load rfl rfl (fun w' hw => r_ldU (K6.ext hw) i (by omega)) ?_
      refine f_bin rfl rfl rfl (fun w _ => r_add_u32) ?_
      refine f_nil ?_
      intro w12 hx12
      rintro _ rfl _ rfl _ rfl _ rfl _ rfl _ rfl _ rfl
      refine o_assign rfl rfl (o_nil (n_then (c_seq ?_)))
      replace V := V.ext hx12
      refine c_grow 24 [0, 2, 8, 13, 96, 97, 156] (by kernel_rfl) (by kernel_rfl) ?_
      refine f_move rfl rfl ?_
      refine f_call (S := Is (U32 (rotr _ 2))) call_right (Stable.is _) rfl (fun w' _ => by
        rintro _ rfl _ rfl
        exact Ret.mono (right_spec 2 (by omega) (by omega)) fun v w'' h => ⟨h.1, h.2⟩) ?_
      refine f_move rfl rfl ?_
      refine f_call (S := Is (U32 (rotr _ 13))) call_right (Stable.is _) rfl (fun w' _ => by
        rintro _ rfl _ rfl
        exact Ret.mono (right_spec 13 (by omega) (by omega)) fun v w'' h => ⟨h.1, h.2⟩) ?_
      refine f_bin rfl rfl rfl (fun w _ => r_xor_u32) ?_
      refine f_move rfl rfl ?_
      refine f_call (S := Is (U32 (rotr _ 22))) call_right (Stable.is _) rfl (fun w' _ => by
        rintro _ rfl _ rfl
        exact Ret.mono (right_spec 22 (by omega) (by omega)) fun v w'' h => ⟨h.1, h.2⟩) ?_
      refine f_bin rfl rfl rfl (fun w _ => r_xor_u32) ?_
      refine f_move rfl rfl ?_
      refine f_indexAddr rfl rfl rfl (fun w _ => r_ix8 1 (by omega)) ?_
      refine f_load rfl rfl (fun w' hw => r_ldU (V.ext hw) 1 (by omega)) ?_
      refine f_bin rfl rfl rfl (fun w _ => r_and_u32) ?_
      refine f_move rfl rfl ?_
      refine f_indexAddr rfl rfl rfl (fun w _ => r_ix8 2 (by omega)) ?_
      refine f_load rfl rfl (fun w' hw => r_ldU (V.ext hw) 2 (by omega)) ?_
      refine f_bin rfl rfl rfl (fun w _ => r_and_u32) ?_
      refine f_bin rfl rfl rfl (fun w _ => r_xor_u32) ?_
      refine f_indexAddr rfl rfl rfl (fun w _ => r_ix8 1 (by omega)) ?_
      refine f_load rfl rfl (fun w' hw => r_ldU (V.ext hw) 1 (by omega)) ?_
      refine f_indexAddr rfl rfl rfl (fun w _ => r_ix8 2 (by omega)) ?_
      refine f_load rfl rfl (fun w' hw => r_ldU (V.ext hw) 2 (by omega)) ?_
      refine f_bin rfl rfl rfl (fun w _ => r_and_u32) ?_
      refine f_bin rfl rfl rfl (fun w _ => r_xor_u32) ?_
      refine f_bin rfl rfl rfl (fun w _ => r_add_u32) ?_
      refine f_nil ?_
      intro w13 hx13
      rintro _ rfl _ rfl _ rfl _ rfl _ rfl _ rfl _ rfl
      refine o_assign rfl rfl (o_nil (n_then (c_region (o_move rfl rfl (o_move rfl rfl ?_)))))
      replace V := V.ext hx13
      refine o_bin rfl rfl rfl (r_add_u32) ?_
      refine o_indexAddr rfl rfl rfl (r_ix8 0 (by omega)) ?_
      refine o_load rfl rfl (r_ldU V 0 (by omega)) ?_
      refine o_indexAddr rfl rfl rfl (r_ix8 1 (by omega)) ?_
      refine o_load rfl rfl (r_ldU V 1 (by omega)) ?_
      refine o_indexAddr rfl rfl rfl (r_ix8 2 (by omega)) ?_
      refine o_load rfl rfl (r_ldU V 2 (by omega)) ?_
      refine o_indexAddr rfl rfl rfl (r_ix8 3 (by omega)) ?_
      refine o_load rfl rfl (r_ldU V 3 (by omega)) ?_
      refine o_move rfl rfl ?_
      refine o_bin rfl rfl rfl (r_add_u32) ?_
      refine o_indexAddr rfl rfl rfl (r_ix8 4 (by omega)) ?_
      refine o_load rfl rfl (r_ldU V 4 (by omega)) ?_
      refine o_indexAddr rfl rfl rfl (r_ix8 5 (by omega)) ?_
      refine o_load rfl rfl (r_ldU V 5 (by omega)) ?_
      refine o_indexAddr rfl rfl rfl (r_ix8 6 (by omega)) ?_
      refine o_load rfl rfl (r_ldU V 6 (by omega)) ?_
      refine o_build rfl rfl (run_build _ _ _ ((rounds b s (i + 1)).map U32).toArray (by kernel_rfl)) ?_
      have hn8 := rounds_len b s hs (i + 1)
      refine o_store rfl rfl (r_stA V (by simp [hv8, hn8]) (by rw [List.length_map, hn8]; exact size8) (one_of _)) ?_
      have V' := V.row ((rounds b s (i + 1)).map U32)
      have q14 := (q10.trans (gb_ext ((hx11.trans hx12).trans hx13))).trans (grownBy_setRow w13 g8 ((rounds b s (i + 1)).map U32).toArray)
      refine o_nil (n_block (n_then (c_region ?_)))
      refine o_bin rfl rfl rfl (r_add_i (by omega) (by omega)) ?_
      refine o_move rfl rfl (o_nil ?_)
      exact n_round (i + 1) ⟨rfl, rfl, rfl, rfl, rfl, trivial⟩ ⟨q14, V', by omega⟩ (by omega)
    · have hi' : i = 64 := by omega
      subst hi'
      exact c_exit (x_then (x_then (x_here (n_meet () ⟨rfl, rfl, trivial⟩ ⟨q10, b10⟩))))
  rintro _ w10 ⟨q10, b10⟩
  refine n_then ?_
  have hv8 := rounds_len b s hs 64
  have hc10 := hc9.other q10 neg8
  have ha0 : added s (rounds b s 64) 0 = s := by simp [added]
  refine c_seq (c_cut (fun _ : Unit => [(0, .pointer (some ⟨g, 0, none⟩))]) (fun _ w' => w10.grownBy w' (some g) ∧ HC g (added s (rounds b s 64) 8) b u tot w') ?_ ?_)
  · refine c_seq (c_region ?_)
    refine o_load rfl rfl (r_ldA (m := (rounds b s 64).map U32) b10 (fun j v h => by rwa [Nat.zero_add]) Try.underlying67 rfl (by rw [List.length_map, hv8]; exact size8)) ?_
    refine o_move rfl rfl (o_nil (n_then (c_block ?_)))
    refine c_loop (α := Nat) (fun i => [(0, .pointer (some ⟨g, 0, none⟩)), (178, .agg ((rounds b s 64).map U32).toArray), (179, I (i : Int))])
      (fun i w' => w10.grownBy w' (some g) ∧ HC g (added s (rounds b s 64) i) b u tot w' ∧ i ≤ 8) (fun i => 8 - i) 0 ⟨rfl, rfl, rfl, trivial⟩
      ⟨gb_ext (Ext.refl _), by rw [ha0]; exact hc10, by omega⟩ ?_
    rintro i w11 ⟨q11, c11, hi⟩
    refine c_seq (c_region ?_)
    refine o_bin rfl rfl rfl (r_lss_i) ?_
    refine o_nil (n_then (c_seq ?_))
    refine c_if rfl (fun h => ?_) (fun h => ?_)
    · have hi8 : i < 8 := by omega
      have hag := added_get hs hv8 hi8
      refine c_skip (n_then (c_seq (c_block (c_seq (c_region (o_move rfl rfl ?_))))))
      refine o_index rfl rfl rfl (r_idx (l := (rounds b s 64).map U32) Try.underlying67 size_u32 Try.underlying64 hi8 .i64 (mapU_get (by omega))) ?_
      refine o_assign rfl rfl (o_assign rfl rfl (o_nil (n_then ?_)))
      refine c_grow 11 [0, 178, 179, 190, 193] (by kernel_rfl) (by kernel_rfl) ?_
      refine f_move rfl rfl (f_move rfl rfl ?_)
      refine f_nilCheck rfl rfl ?_
      refine f_fieldAddr rfl rfl (fun w _ => r_fS) ?_
      refine f_indexAddr rfl rfl rfl (fun w _ => r_ix8 i (by omega)) ?_
      refine f_load (r := U32 (s.getD i 0)) rfl rfl (fun w' hw => by rw [← hag]; exact r_load1 Try.underlying64 rfl ((c11.ext hw).cellS hi8)) ?_
      refine f_move rfl rfl ?_
      refine f_bin rfl rfl rfl (fun w _ => r_add_u32) ?_
      refine f_nilCheck rfl rfl ?_
      refine f_fieldAddr rfl rfl (fun w _ => r_fS) ?_
      refine f_indexAddr rfl rfl rfl (fun w _ => r_ix8 i (by omega)) ?_
      refine f_nil ?_
      intro w12 hx12
      rintro _ rfl _ rfl _ rfl _ rfl _ rfl
      have hcl := hcells_len (u := u) (tot := tot) c11.ls c11.lb
      refine o_store rfl rfl (r_store1 size_u32 rfl (c11.ext hx12).hb (by rw [List.size_toArray, hcl]; omega)) ?_
      have c12 := (c11.ext hx12).setS i hi8 (s.getD i 0 + (rounds b s 64).getD i 0)
      rw [added_set hs hv8 hi8] at c12
      have q12 := (q11.trans (gb_ext hx12)).trans (grownBy_setCell w12 g i (U32 (s.getD i 0 + (rounds b s 64).getD i 0)))
      refine o_nil (n_block (n_then (c_region ?_)))
      refine o_bin rfl rfl rfl (r_add_i (by omega) (by omega)) ?_
      refine o_move rfl rfl (o_nil ?_)
      exact n_round (i + 1) ⟨rfl, rfl, rfl, trivial⟩ ⟨q12, c12, by omega⟩ (by omega)
    · have hi' : i = 8 := by omega
      subst hi'
      exact c_exit (x_then (x_then (x_here (n_meet () ⟨rfl, trivial⟩ ⟨q11, c11⟩))))
  rintro _ w11 ⟨q11, c11⟩
  rw [added_all hs hv8] at c11
  have hcl := hcells_len (u := u) (tot := tot) c11.ls c11.lb
  refine n_then (c_region (o_move rfl rfl ?_))
  refine o_nilCheck rfl rfl ?_
  refine o_fieldAddr rfl rfl r_fU ?_
  refine o_store rfl rfl (r_store1 (i := 72) size_int rfl c11.hb (by rw [List.size_toArray, hcl]; omega)) ?_
  have c12 := c11.setU 0
  refine o_nil ?_
  refine n_body0 rfl ?_
  refine ⟨_, rfl, ?_, c12⟩
  have Q10 : w.grownBy w10 (some g) := by
    have h : w.grownBy w9 (some g) := Q9
    refine ⟨q10.os.trans h.os, q10.tape.trans h.tape, q10.output.trans h.output, Nat.le_trans h.size q10.size, fun k hk hne => ?_⟩
    exact (q10.block k (Nat.lt_of_lt_of_le hk h.size) (fun he => by cases he; omega)).trans (h.block k hk hne)
  exact (Q10.trans q11).trans (grownBy_setCell w11 g 72 (I 0))
end Go.Rl

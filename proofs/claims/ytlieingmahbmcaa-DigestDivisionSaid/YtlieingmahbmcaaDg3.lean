/- Walk of the reference's block function. Conditions: the state has 8 words, the block 64 bytes. -/
import Derived.Test.YtlieingmahbmcaaDg2
import Derived.Test.YtlieingmahbmcaaRun
namespace Go.Rl
open Go.RowKit Go.Proofs

theorem call_rblock : Callable Try.prog 42 := ⟨_, Try.func42, by kernel_rfl, rfl⟩

theorem r_boxB {P : Program} {w : World} {t : TypeId} {v : Value} {l : List Value} (hv : v.cells = l.toArray) : ∃ g w', (Instr.box t v).run P w = .ok (.pointer (some ⟨g, 0, none⟩)) w' ∧ w.heap.size ≤ g ∧ Ext w w' ∧ Blk g t l w' :=
  ⟨_, _, r_box, Nat.le_refl _, Ext.new w _, Blk.new v hv⟩
theorem r_allocB {P : Program} {w : World} {t : TypeId} {z : Value} {l : List Value} (h : (P.info? t).map (·.zero) = some (some z)) (hv : z.cells = l.toArray) : ∃ g w', (Instr.alloc t true (.tuple #[])).run P w = .ok (.pointer (some ⟨g, 0, none⟩)) w' ∧ w.heap.size ≤ g ∧ Ext w w' ∧ Blk g t l w' :=
  ⟨_, _, r_alloc h, Nat.le_refl _, Ext.new w _, Blk.new z hv⟩
/-- Where the bytes lie, and what is read there. -/
theorem Bts.reads {b : List UInt8} {v : Value} {w : World} (h : Bts b v w) : ∃ ad : Nat → Addr, ∀ i, i < b.length →
    (∀ w' : World, (Instr.indexAt 22 v (I (i : Int))).run Try.prog w' = .ok (.pointer (some (ad i))) w') ∧ ∀ w', Ext w w' → (Instr.loadAt 5 (.pointer (some (ad i)))).run Try.prog w' = .ok (U8 (b.getD i 0)) w' := by
  have hall : ∀ i : Nat, ∃ ad : Addr, i < b.length → (∀ w' : World, (Instr.indexAt 22 v (I (i : Int))).run Try.prog w' = .ok (.pointer (some ad)) w') ∧ ∀ w', Ext w w' → (Instr.loadAt 5 (.pointer (some ad))).run Try.prog w' = .ok (U8 (b.getD i 0)) w' := fun i => by
    by_cases hi : i < b.length
    · obtain ⟨ad, had, hcell⟩ := r_ixB h hi .i64
      refine ⟨ad, fun _ => ⟨had, fun w' hw' => ?_⟩⟩
      obtain ⟨ad', had', hcell'⟩ := r_ixB (h.ext hw') hi .i64
      have := (had w').symm.trans (had' w')
      simp only [Result.ok.injEq, Value.pointer.injEq, Option.some.injEq, and_true] at this
      subst this
      have e : b.getD i 0 = b[i] := by simp [List.getD, hi]
      rw [e]
      exact r_ldB hcell'
    · exact ⟨⟨0, 0, none⟩, fun h => absurd h hi⟩
  exact ⟨fun i => Classical.choose (hall i), fun i hi => Classical.choose_spec (hall i) hi⟩
theorem Ext.of_new {w w1 w2 : World} {g : Nat} (hx : Ext w w1) (hg : w1.grownBy w2 (some g)) (h : w.heap.size ≤ g) : Ext w w2 :=
  hx.of_grown hg fun k hk => by
    obtain rfl := Option.some.inj hk
    exact h
theorem gb_ext {w w' : World} {row : Option Nat} (h : Ext w w') : w.grownBy w' row := ⟨h.os, h.tape, h.output, h.size, fun _ hi _ => h.heap hi⟩

theorem rblock_spec {w : World} {s : List UInt32} {b : List UInt8} {v : Value} (hs : s.length = 8) (hbl : b.length = 64) (hv : Bts b v w) :
    Calls Try.prog 42 #[.agg (s.map U32).toArray, v] w (Ret fun r w' => Ext w w' ∧ r = .agg ((cmpr s b).map U32).toArray) := by
  refine enter (vs := [.agg (s.map U32).toArray, v]) Try.func42 rfl rfl rfl ?_
  obtain ⟨g2, w1, hr, n2, x1, b2⟩ := r_boxB (P := Try.prog) (w := w) (t := 67) (v := .agg (s.map U32).toArray) (l := s.map U32) rfl
  refine c_seq (c_region (o_box rfl rfl hr ?_))
  obtain ⟨g4, w2, hr, n4, x2, b4⟩ := r_allocB (P := Try.prog) (w := w1) (l := (List.replicate 8 0).map U32) zero8 rfl
  refine o_alloc rfl hr (o_nil (n_then (c_seq (c_region ?_))))
  refine o_call (vs := []) call_rconstants rfl rfl (rconstants_spec w2) ?_
  rintro _ w3 ⟨x3, rfl⟩
  obtain ⟨g5, w4, hr, n5, x4, b5⟩ := r_allocB (P := Try.prog) (w := w3) (l := List.replicate 64 (U32 0)) zero64 rfl
  refine o_alloc rfl hr ?_
  refine o_store rfl rfl (r_stA b5 rfl size64 (one_of _)) ?_
  have b5' := b5.row (kc.map U32)
  have q5 := grownBy_setRow w4 g5 (kc.map U32).toArray
  revert b5' q5
  generalize w4.setRow g5 (kc.map U32).toArray = w5
  intro b5' q5
  refine o_nil (n_then (c_seq (c_region ?_)))
  obtain ⟨g6, w6, hr, n6, x6, b6⟩ := r_allocB (P := Try.prog) (w := w5) (l := (filled []).map U32) zero64 rfl
  refine o_alloc rfl hr (o_nil (n_then ?_))
  have l24 : g2 < g4 := Nat.lt_of_lt_of_le b2.lt n4
  have l45 : g4 < g5 := Nat.lt_of_lt_of_le b4.lt (Nat.le_trans x3.size n5)
  have l56 : g5 < g6 := Nat.lt_of_lt_of_le b5'.lt n6
  have ne4 : some g4 ≠ some g5 := fun h => by cases h; omega
  have ne2 : some g2 ≠ some g5 := fun h => by cases h; omega
  have B2 : Blk g2 _ _ w6 := ((((b2.ext x2).ext x3).ext x4).other q5 ne2).ext x6
  have B4 : Blk g4 _ _ w6 := (((b4.ext x3).ext x4).other q5 ne4).ext x6
  have B5 : Blk g5 _ _ w6 := b5'.ext x6
  have E6 : Ext w w6 := ((((x1.trans x2).trans x3).trans x4).of_new q5 (by omega)).trans x6
  have hw6 : w.heap.size ≤ g6 := by omega
  obtain ⟨ad, had⟩ := hv.reads
  refine c_seq (c_cut (fun _ : Unit => [(2, .pointer (some ⟨g2, 0, none⟩)), (4, .pointer (some ⟨g4, 0, none⟩)), (5, .pointer (some ⟨g5, 0, none⟩)), (6, .pointer (some ⟨g6, 0, none⟩))]) (fun _ w' => w6.grownBy w' (some g6) ∧ Blk g6 79 ((filled (sched b 0)).map U32) w') ?_ ?_)
  · refine c_seq (c_region (o_assign rfl rfl (o_nil (n_then (c_block ?_)))))
    refine c_loop (α := Nat) (fun k => [(1, v), (2, .pointer (some ⟨g2, 0, none⟩)), (4, .pointer (some ⟨g4, 0, none⟩)), (5, .pointer (some ⟨g5, 0, none⟩)), (6, .pointer (some ⟨g6, 0, none⟩)), (7, I (k : Int))])
      (fun k w' => w6.grownBy w' (some g6) ∧ Blk g6 79 ((filled (words b k)).map U32) w' ∧ k ≤ 16) (fun k => 16 - k) 0 ⟨rfl, rfl, rfl, rfl, rfl, rfl, trivial⟩
      ⟨gb_ext (Ext.refl _), b6, by omega⟩ ?_
    rintro k w7 ⟨q7, b7, hk⟩
    refine c_seq (c_seq (c_region (o_move rfl rfl ?_)))
    refine o_bin rfl rfl rfl (r_lss_i) ?_
    refine o_nil (n_then ?_)
    refine c_if rfl (fun h => ?_) (fun h => ?_)
    · have hk16 : k < 16 := by omega
      have E7 : Ext w w7 := E6.of_new q7 hw6
      refine c_skip (n_then (c_seq (c_block ?_)))
      have e0 : (4 : Int) * (k : Int) = ((4 * k : Nat) : Int) := by omega
      have e1 : ((4 * k : Nat) : Int) + 1 = ((4 * k + 1 : Nat) : Int) := by omega
      have e2 : ((4 * k : Nat) : Int) + 2 = ((4 * k + 2 : Nat) : Int) := by omega
      have e3 : ((4 * k : Nat) : Int) + 3 = ((4 * k + 3 : Nat) : Int) := by omega
      refine c_grow 35 [1, 2, 4, 5, 6, 7, 58, 59] (by kernel_rfl) (by kernel_rfl) ?_
      refine f_move rfl rfl (f_move rfl rfl (f_move rfl rfl ?_))
      refine f_bin (r := I ((4 * k : Nat) : Int)) rfl rfl rfl (fun w _ => by rw [← e0]; exact r_mul_i (by omega) (by omega)) ?_
      refine f_indexAddr rfl rfl rfl (fun w _ => (had (4 * k) (by omega)).1 w) ?_
      refine f_load rfl rfl (fun w' hw => (had (4 * k) (by omega)).2 w' (E7.trans hw)) ?_
      refine f_conv rfl rfl (fun w _ => r_u8_u32 Try.underlying5 Try.underlying64) ?_
      refine f_bin rfl rfl rfl (fun w _ => r_shl_u32 24 (by omega)) ?_
      refine f_move rfl rfl (f_move rfl rfl ?_)
      refine f_bin (r := I ((4 * k : Nat) : Int)) rfl rfl rfl (fun w _ => by rw [← e0]; exact r_mul_i (by omega) (by omega)) ?_
      refine f_bin (r := I ((4 * k + 1 : Nat) : Int)) rfl rfl rfl (fun w _ => by rw [← e1]; exact r_add_i (by omega) (by omega)) ?_
      refine f_indexAddr rfl rfl rfl (fun w _ => (had (4 * k + 1) (by omega)).1 w) ?_
      refine f_load rfl rfl (fun w' hw => (had (4 * k + 1) (by omega)).2 w' (E7.trans hw)) ?_
      refine f_conv rfl rfl (fun w _ => r_u8_u32 Try.underlying5 Try.underlying64) ?_
      refine f_bin rfl rfl rfl (fun w _ => r_shl_u32 16 (by omega)) ?_
      refine f_bin rfl rfl rfl (fun w _ => r_or_u32) ?_
      refine f_move rfl rfl (f_move rfl rfl ?_)
      refine f_bin (r := I ((4 * k : Nat) : Int)) rfl rfl rfl (fun w _ => by rw [← e0]; exact r_mul_i (by omega) (by omega)) ?_
      refine f_bin (r := I ((4 * k + 2 : Nat) : Int)) rfl rfl rfl (fun w _ => by rw [← e2]; exact r_add_i (by omega) (by omega)) ?_
      refine f_indexAddr rfl rfl rfl (fun w _ => (had (4 * k + 2) (by omega)).1 w) ?_
      refine f_load rfl rfl (fun w' hw => (had (4 * k + 2) (by omega)).2 w' (E7.trans hw)) ?_
      refine f_conv rfl rfl (fun w _ => r_u8_u32 Try.underlying5 Try.underlying64) ?_
      refine f_bin rfl rfl rfl (fun w _ => r_shl_u32 8 (by omega)) ?_
      refine f_bin rfl rfl rfl (fun w _ => r_or_u32) ?_
      refine f_move rfl rfl (f_move rfl rfl ?_)
      refine f_bin (r := I ((4 * k : Nat) : Int)) rfl rfl rfl (fun w _ => by rw [← e0]; exact r_mul_i (by omega) (by omega)) ?_
      refine f_bin (r := I ((4 * k + 3 : Nat) : Int)) rfl rfl rfl (fun w _ => by rw [← e3]; exact r_add_i (by omega) (by omega)) ?_
      refine f_indexAddr rfl rfl rfl (fun w _ => (had (4 * k + 3) (by omega)).1 w) ?_
      refine f_load rfl rfl (fun w' hw => (had (4 * k + 3) (by omega)).2 w' (E7.trans hw)) ?_
      refine f_conv rfl rfl (fun w _ => r_u8_u32 Try.underlying5 Try.underlying64) ?_
      refine f_bin rfl rfl rfl (fun w _ => r_or_u32) ?_
      refine f_indexAddr rfl rfl rfl (fun w _ => r_ix64 k (by omega)) ?_
      refine f_nil ?_
      intro w8 hx8
      rintro _ rfl _ rfl _ rfl _ rfl _ rfl _ rfl _ rfl _ rfl
      have hlen : (filled (words b k)).length = 64 := filled_len (by rw [words_len]; omega)
      refine o_store rfl rfl (r_stU (x := word b k) (b7.ext hx8) k (by omega)) ?_
      have b8 := (b7.ext hx8).setU k (word b k)
      have q8 := (q7.trans (gb_ext hx8)).trans (grownBy_setCell w8 g6 k (U32 (word b k)))
      have hset : (filled (words b k)).set k (word b k) = filled (words b (k + 1)) := by
        have := filled_set (l := words b k) (word b k) (by rw [words_len]; omega)
        rw [words_len] at this
        rw [this, words_snoc]
      rw [hset] at b8
      refine o_nil (n_block (n_then (c_region (o_move rfl rfl ?_))))
      refine o_bin rfl rfl rfl (r_add_i (by omega) (by omega)) ?_
      refine o_assign rfl rfl (o_nil ?_)
      exact n_round (k + 1) ⟨rfl, rfl, rfl, rfl, rfl, rfl, trivial⟩ ⟨q8, b8, by omega⟩ (by omega)
    · have hk' : k = 16 := by omega
      subst hk'
      exact c_exit (x_then (x_then (x_here (n_meet () ⟨rfl, rfl, rfl, rfl, trivial⟩ ⟨q7, b7⟩))))
  rintro _ w7 ⟨q7, b7⟩
  refine n_then ?_
  refine c_seq (c_cut (fun _ : Unit => [(2, .pointer (some ⟨g2, 0, none⟩)), (4, .pointer (some ⟨g4, 0, none⟩)), (5, .pointer (some ⟨g5, 0, none⟩)), (6, .pointer (some ⟨g6, 0, none⟩))]) (fun _ w' => w6.grownBy w' (some g6) ∧ Blk g6 79 ((sched b 48).map U32) w') ?_ ?_)
  · refine c_seq (c_region (o_assign rfl rfl (o_nil (n_then (c_block ?_)))))
    refine c_loop (α := Nat) (fun k => [(2, .pointer (some ⟨g2, 0, none⟩)), (4, .pointer (some ⟨g4, 0, none⟩)), (5, .pointer (some ⟨g5, 0, none⟩)), (6, .pointer (some ⟨g6, 0, none⟩)), (8, I ((16 + k : Nat) : Int))])
      (fun k w' => w6.grownBy w' (some g6) ∧ Blk g6 79 ((filled (sched b k)).map U32) w' ∧ k ≤ 48) (fun k => 48 - k) 0 ⟨rfl, rfl, rfl, rfl, rfl, trivial⟩
      ⟨q7, b7, by omega⟩ ?_
    clear q7 b7
    rintro k w7 ⟨q7, b7, hk⟩
    have hL := sched_len b k
    refine c_seq (c_seq (c_region (o_move rfl rfl ?_)))
    refine o_bin rfl rfl rfl (r_lss_i) ?_
    refine o_nil (n_then ?_)
    refine c_if rfl (fun h => ?_) (fun h => ?_)
    · have hk48 : k < 48 := by omega
      refine c_skip (n_then (c_seq (c_block (c_seq ?_))))
      have e15 : ((16 + k : Nat) : Int) - 15 = (((sched b k).length - 15 : Nat) : Int) := by omega
      have e2 : ((16 + k : Nat) : Int) - 2 = (((sched b k).length - 2 : Nat) : Int) := by omega
      have e16 : ((16 + k : Nat) : Int) - 16 = (((sched b k).length - 16 : Nat) : Int) := by omega
      have e7 : ((16 + k : Nat) : Int) - 7 = (((sched b k).length - 7 : Nat) : Int) := by omega
      have f15 := filled_get (l := sched b k) (i := (sched b k).length - 15) (by omega)
      have f2 := filled_get (l := sched b k) (i := (sched b k).length - 2) (by omega)
      have f16 := filled_get (l := sched b k) (i := (sched b k).length - 16) (by omega)
      have f7 := filled_get (l := sched b k) (i := (sched b k).length - 7) (by omega)
      have hlen : (filled (sched b k)).length = 64 := filled_len (by omega)
      refine c_grow 9 [2, 4, 5, 6, 8, 9, 71] (by kernel_rfl) (by kernel_rfl) ?_
      refine f_move rfl rfl ?_
      refine f_bin (r := I (((sched b k).length - 15 : Nat) : Int)) rfl rfl rfl (fun w _ => by rw [← e15]; exact r_sub_i (by omega) (by omega)) ?_
      refine f_indexAddr rfl rfl rfl (fun w _ => r_ix64 _ (by omega)) ?_
      refine f_load (r := U32 ((sched b k).getD ((sched b k).length - 15) 0)) rfl rfl (fun w' hw => by rw [← f15]; exact r_ldU (b7.ext hw) _ (by omega)) ?_
      refine f_move rfl rfl ?_
      refine f_bin (r := I (((sched b k).length - 2 : Nat) : Int)) rfl rfl rfl (fun w _ => by rw [← e2]; exact r_sub_i (by omega) (by omega)) ?_
      refine f_indexAddr rfl rfl rfl (fun w _ => r_ix64 _ (by omega)) ?_
      refine f_load (r := U32 ((sched b k).getD ((sched b k).length - 2) 0)) rfl rfl (fun w' hw => by rw [← f2]; exact r_ldU (b7.ext hw) _ (by omega)) ?_
      refine f_assign rfl rfl (f_nil ?_)
      intro w8 hx8
      rintro _ rfl _ rfl _ rfl _ rfl _ rfl _ rfl _ rfl
      refine o_assign rfl rfl (o_nil (n_then (c_seq (c_region (o_move rfl rfl ?_)))))
      refine o_call call_rright rfl rfl (rright_spec 7 (by omega) (by omega)) ?_
      rintro _ w9 ⟨hx9, rfl⟩
      refine o_move rfl rfl ?_
      refine o_call call_rright rfl rfl (rright_spec 18 (by omega) (by omega)) ?_
      rintro _ w10 ⟨hx10, rfl⟩
      refine o_bin rfl rfl rfl (r_xor_u32) ?_
      refine o_move rfl rfl ?_
      refine o_bin rfl rfl rfl (r_shr_u32 3 (by omega)) ?_
      refine o_bin rfl rfl rfl (r_xor_u32) ?_
      refine o_assign rfl rfl (o_nil (n_then (c_seq (c_region (o_move rfl rfl ?_)))))
      refine o_call call_rright rfl rfl (rright_spec 17 (by omega) (by omega)) ?_
      rintro _ w11 ⟨hx11, rfl⟩
      refine o_move rfl rfl ?_
      refine o_call call_rright rfl rfl (rright_spec 19 (by omega) (by omega)) ?_
      rintro _ w12 ⟨hx12, rfl⟩
      refine o_bin rfl rfl rfl (r_xor_u32) ?_
      refine o_move rfl rfl ?_
      refine o_bin rfl rfl rfl (r_shr_u32 10 (by omega)) ?_
      refine o_bin rfl rfl rfl (r_xor_u32) ?_
      refine o_assign rfl rfl (o_nil (n_then ?_))
      have x12 := (((hx8.trans hx9).trans hx10).trans hx11).trans hx12
      have b12 := b7.ext x12
      refine c_grow 15 [2, 4, 5, 6, 8, 101, 102] (by kernel_rfl) (by kernel_rfl) ?_
      refine f_move rfl rfl (f_move rfl rfl ?_)
      refine f_bin (r := I (((sched b k).length - 16 : Nat) : Int)) rfl rfl rfl (fun w _ => by rw [← e16]; exact r_sub_i (by omega) (by omega)) ?_
      refine f_indexAddr rfl rfl rfl (fun w _ => r_ix64 _ (by omega)) ?_
      refine f_load (r := U32 ((sched b k).getD ((sched b k).length - 16) 0)) rfl rfl (fun w' hw => by rw [← f16]; exact r_ldU (b12.ext hw) _ (by omega)) ?_
      refine f_move rfl rfl ?_
      refine f_bin rfl rfl rfl (fun w _ => r_add_u32) ?_
      refine f_move rfl rfl ?_
      refine f_bin (r := I (((sched b k).length - 7 : Nat) : Int)) rfl rfl rfl (fun w _ => by rw [← e7]; exact r_sub_i (by omega) (by omega)) ?_
      refine f_indexAddr rfl rfl rfl (fun w _ => r_ix64 _ (by omega)) ?_
      refine f_load (r := U32 ((sched b k).getD ((sched b k).length - 7) 0)) rfl rfl (fun w' hw => by rw [← f7]; exact r_ldU (b12.ext hw) _ (by omega)) ?_
      refine f_bin rfl rfl rfl (fun w _ => r_add_u32) ?_
      refine f_move rfl rfl ?_
      refine f_bin rfl rfl rfl (fun w _ => r_add_u32) ?_
      refine f_indexAddr rfl rfl rfl (fun w _ => r_ix64 (16 + k) (by omega)) ?_
      refine f_nil ?_
      intro w13 hx13
      rintro _ rfl _ rfl _ rfl _ rfl _ rfl _ rfl _ rfl
      refine o_store rfl rfl (r_stU (x := nextW (sched b k)) (b12.ext hx13) (16 + k) (by omega)) ?_
      have b13 := (b12.ext hx13).setU (16 + k) (nextW (sched b k))
      have q13 := ((q7.trans (gb_ext x12)).trans (gb_ext hx13)).trans (grownBy_setCell w13 g6 (16 + k) (U32 (nextW (sched b k))))
      have hset : (filled (sched b k)).set (16 + k) (nextW (sched b k)) = filled (sched b (k + 1)) := by
        have := filled_set (l := sched b k) (nextW (sched b k)) (by omega)
        rw [hL] at this
        exact this
      rw [hset] at b13
      refine o_nil (n_block (n_then (c_region (o_move rfl rfl ?_))))
      refine o_bin rfl rfl rfl (r_add_i (by omega) (by omega)) ?_
      refine o_assign rfl rfl (o_nil ?_)
      exact n_round (k + 1) ⟨rfl, rfl, rfl, rfl, rfl, trivial⟩ ⟨q13, b13, by omega⟩ (by omega)
    · have hk' : k = 48 := by omega
      subst hk'
      have hf : filled (sched b 48) = sched b 48 := by
        unfold filled
        rw [hL]
        exact List.append_nil _
      rw [hf] at b7
      exact c_exit (x_then (x_then (x_here (n_meet () ⟨rfl, rfl, rfl, rfl, trivial⟩ ⟨q7, b7⟩))))
  clear q7 b7
  rintro _ w7 ⟨q7, b7⟩
  refine n_then ?_
  have E7 : Ext w w7 := E6.of_new q7 hw6
  have ne26 : some g2 ≠ some g6 := fun h => by cases h; omega
  have ne46 : some g4 ≠ some g6 := fun h => by cases h; omega
  have ne56 : some g5 ≠ some g6 := fun h => by cases h; omega
  have C2 := B2.other q7 ne26
  have C4 := B4.other q7 ne46
  have C5 := B5.other q7 ne56
  have hlen8 : (Try.prog.info? 67).map (·.size) = some (s.map U32).length := by rw [List.length_map, hs]; exact size8
  refine c_seq (c_region ?_)
  refine o_load rfl rfl (r_ldA (m := s.map U32) C2 (fun j v h => by rwa [Nat.zero_add]) Try.underlying67 rfl hlen8) ?_
  obtain ⟨g13, w8, hr, n13, x8, b13⟩ := r_allocB (P := Try.prog) (w := w7) (l := (List.replicate 8 0).map U32) zero8 rfl
  refine o_alloc rfl hr ?_
  refine o_store rfl rfl (r_stA b13 (by simp [hs]) hlen8 (one_of _)) ?_
  have b13' := b13.row (s.map U32)
  have q13 := grownBy_setRow w8 g13 (s.map U32).toArray
  have l13 : g6 < g13 := Nat.lt_of_lt_of_le b7.lt n13
  have ne213 : some g2 ≠ some g13 := fun h => by cases h; omega
  have ne413 : some g4 ≠ some g13 := fun h => by cases h; omega
  have ne513 : some g5 ≠ some g13 := fun h => by cases h; omega
  have ne613 : some g6 ≠ some g13 := fun h => by cases h; omega
  have D2 := (C2.ext x8).other q13 ne213
  have D4 := (C4.ext x8).other q13 ne413
  have D5 := (C5.ext x8).other q13 ne513
  have D6 := (b7.ext x8).other q13 ne613
  have E8 : Ext w (w8.setRow g13 (s.map U32).toArray) := (E7.trans x8).of_new q13 (by omega)
  revert b13' D2 D4 D5 D6 E8
  generalize w8.setRow g13 (s.map U32).toArray = w9
  intro b13' D2 D4 D5 D6 E9
  refine o_nil (n_then ?_)
  refine c_seq (c_cut (fun _ : Unit => [(2, .pointer (some ⟨g2, 0, none⟩)), (4, .pointer (some ⟨g4, 0, none⟩)), (13, .pointer (some ⟨g13, 0, none⟩))]) (fun _ w' => w9.grownBy w' (some g13) ∧ Blk g13 67 ((rounds b s 64).map U32) w') ?_ ?_)
  · refine c_seq (c_region (o_assign rfl rfl (o_nil (n_then (c_block ?_)))))
    refine c_loop (α := Nat) (fun i => [(2, .pointer (some ⟨g2, 0, none⟩)), (4, .pointer (some ⟨g4, 0, none⟩)), (5, .pointer (some ⟨g5, 0, none⟩)), (6, .pointer (some ⟨g6, 0, none⟩)), (13, .pointer (some ⟨g13, 0, none⟩)), (14, I (i : Int))])
      (fun i w' => w9.grownBy w' (some g13) ∧ Blk g13 67 ((rounds b s i).map U32) w' ∧ i ≤ 64) (fun i => 64 - i) 0 ⟨rfl, rfl, rfl, rfl, rfl, rfl, trivial⟩
      ⟨gb_ext (Ext.refl _), b13', by omega⟩ ?_
    rintro i w10 ⟨q10, b10, hi⟩
    have hv8 := rounds_len b s hs i
    refine c_seq (c_seq (c_region (o_move rfl rfl ?_)))
    refine o_bin rfl rfl rfl (r_lss_i) ?_
    refine o_nil (n_then ?_)
    refine c_if rfl (fun h => ?_) (fun h => ?_)
    · have hi64 : i < 64 := by omega
      refine c_skip (n_then (c_seq (c_block (c_seq ?_))))
      have V := b10
      have K5 := D5.other q10 ne513
      have K6 := D6.other q10 ne613
      have hkc : kc.length = 64 := rfl
      have hsl : (sched b 48).length = 64 := sched_len b 48
      refine c_grow 5 [2, 4, 5, 6, 13, 14, 15, 111] (by kernel_rfl) (by kernel_rfl) ?_
      refine f_indexAddr rfl rfl rfl (fun w _ => r_ix8 0 (by omega)) ?_
      refine f_load rfl rfl (fun w' hw => r_ldU (V.ext hw) 0 (by omega)) ?_
      refine f_indexAddr rfl rfl rfl (fun w _ => r_ix8 4 (by omega)) ?_
      refine f_load rfl rfl (fun w' hw => r_ldU (V.ext hw) 4 (by omega)) ?_
      refine f_assign rfl rfl (f_nil ?_)
      intro w11 hx11
      rintro _ rfl _ rfl _ rfl _ rfl _ rfl _ rfl _ rfl _ rfl
      refine o_assign rfl rfl (o_nil (n_then (c_seq ?_)))
      replace V := V.ext hx11
      replace K5 := K5.ext hx11
      replace K6 := K6.ext hx11
      refine c_grow 30 [2, 4, 5, 6, 13, 14, 15, 16, 141] (by kernel_rfl) (by kernel_rfl) ?_
      refine f_indexAddr rfl rfl rfl (fun w _ => r_ix8 7 (by omega)) ?_
      refine f_load rfl rfl (fun w' hw => r_ldU (V.ext hw) 7 (by omega)) ?_
      refine f_move rfl rfl ?_
      refine f_call (S := Is (U32 (rotr _ 6))) call_rright (Stable.is _) rfl (fun w' _ => by
        rintro _ rfl _ rfl
        exact Ret.mono (rright_spec 6 (by omega) (by omega)) fun v w'' h => ⟨h.1, h.2⟩) ?_
      refine f_move rfl rfl ?_
      refine f_call (S := Is (U32 (rotr _ 11))) call_rright (Stable.is _) rfl (fun w' _ => by
        rintro _ rfl _ rfl
        exact Ret.mono (rright_spec 11 (by omega) (by omega)) fun v w'' h => ⟨h.1, h.2⟩) ?_
      refine f_bin rfl rfl rfl (fun w _ => r_xor_u32) ?_
      refine f_move rfl rfl ?_
      refine f_call (S := Is (U32 (rotr _ 25))) call_rright (Stable.is _) rfl (fun w' _ => by
        rintro _ rfl _ rfl
        exact Ret.mono (rright_spec 25 (by omega) (by omega)) fun v w'' h => ⟨h.1, h.2⟩) ?_
      refine f_bin rfl rfl rfl (fun w _ => r_xor_u32) ?_
      refine f_bin rfl rfl rfl (fun w _ => r_add_u32) ?_
      refine f_move rfl rfl ?_
      refine f_indexAddr rfl rfl rfl (fun w _ => r_ix8 5 (by omega)) ?_
      refine f_load rfl rfl (fun w' hw => r_ldU (V.ext hw) 5 (by omega)) ?_
      refine f_bin rfl rfl rfl (fun w _ => r_and_u32) ?_
      refine f_move rfl rfl ?_
      refine f_not rfl rfl (fun w _ => r_compl_u32) ?_
      refine f_indexAddr rfl rfl rfl (fun w _ => r_ix8 6 (by omega)) ?_
      refine f_load rfl rfl (fun w' hw => r_ldU (V.ext hw) 6 (by omega)) ?_
      refine f_bin rfl rfl rfl (fun w _ => r_and_u32) ?_
      refine f_bin rfl rfl rfl (fun w _ => r_xor_u32) ?_
      refine f_bin rfl rfl rfl (fun w _ => r_add_u32) ?_
      refine f_move rfl rfl ?_
      refine f_indexAddr rfl rfl rfl (fun w _ => r_ix64 i (by omega)) ?_
      refine f_load rfl rfl (fun w' hw => r_ldU (K5.ext hw) i (by omega)) ?_
      refine f_bin rfl rfl rfl (fun w _ => r_add_u32) ?_
      refine f_move rfl rfl ?_
      refine f_indexAddr rfl rfl rfl (fun w _ => r_ix64 i (by omega)) ?_
      refine f_load rfl rfl (fun w' hw => r_ldU (K6.ext hw) i (by omega)) ?_
      refine f_bin rfl rfl rfl (fun w _ => r_add_u32) ?_
      refine f_nil ?_
      intro w12 hx12
      rintro _ rfl _ rfl _ rfl _ rfl _ rfl _ rfl _ rfl _ rfl _ rfl
      refine o_assign rfl rfl (o_nil (n_then (c_seq ?_)))
      replace V := V.ext hx12
      refine c_grow 24 [2, 4, 5, 6, 13, 14, 15, 16, 17, 165] (by kernel_rfl) (by kernel_rfl) ?_
      refine f_move rfl rfl ?_
      refine f_call (S := Is (U32 (rotr _ 2))) call_rright (Stable.is _) rfl (fun w' _ => by
        rintro _ rfl _ rfl
        exact Ret.mono (rright_spec 2 (by omega) (by omega)) fun v w'' h => ⟨h.1, h.2⟩) ?_
      refine f_move rfl rfl ?_
      refine f_call (S := Is (U32 (rotr _ 13))) call_rright (Stable.is _) rfl (fun w' _ => by
        rintro _ rfl _ rfl
        exact Ret.mono (rright_spec 13 (by omega) (by omega)) fun v w'' h => ⟨h.1, h.2⟩) ?_
      refine f_bin rfl rfl rfl (fun w _ => r_xor_u32) ?_
      refine f_move rfl rfl ?_
      refine f_call (S := Is (U32 (rotr _ 22))) call_rright (Stable.is _) rfl (fun w' _ => by
        rintro _ rfl _ rfl
        exact Ret.mono (rright_spec 22 (by omega) (by omega)) fun v w'' h => ⟨h.1, h.2⟩) ?_
      refine f_bin rfl rfl rfl (fun w _ => r_xor_u32) ?_
      refine f_move rfl rfl ?_
      refine f_indexAddr rfl rfl rfl (fun w _ => r_ix8 1 (by omega)) ?_
      refine f_load rfl rfl (fun w' hw => r_ldU (V.ext hw) 1 (by omega)) ?_
      refine f_bin rfl rfl rfl (fun w _ => r_and_u32) ?_
      refine f_move rfl rfl ?_
      refine f_indexAddr rfl rfl rfl (fun w _ => r_ix8 2 (by omega)) ?_
      refine f_load rfl rfl (fun w' hw => r_ldU (V.ext hw) 2 (by omega)) ?_
      refine f_bin rfl rfl rfl (fun w _ => r_and_u32) ?_
      refine f_bin rfl rfl rfl (fun w _ => r_xor_u32) ?_
      refine f_indexAddr rfl rfl rfl (fun w _ => r_ix8 1 (by omega)) ?_
      refine f_load rfl rfl (fun w' hw => r_ldU (V.ext hw) 1 (by omega)) ?_
      refine f_indexAddr rfl rfl rfl (fun w _ => r_ix8 2 (by omega)) ?_
      refine f_load rfl rfl (fun w' hw => r_ldU (V.ext hw) 2 (by omega)) ?_
      refine f_bin rfl rfl rfl (fun w _ => r_and_u32) ?_
      refine f_bin rfl rfl rfl (fun w _ => r_xor_u32) ?_
      refine f_bin rfl rfl rfl (fun w _ => r_add_u32) ?_
      refine f_nil ?_
      intro w13 hx13
      rintro _ rfl _ rfl _ rfl _ rfl _ rfl _ rfl _ rfl _ rfl _ rfl _ rfl
      refine o_assign rfl rfl (o_nil (n_then (c_region (o_move rfl rfl (o_move rfl rfl ?_)))))
      replace V := V.ext hx13
      refine o_bin rfl rfl rfl (r_add_u32) ?_
      refine o_move rfl rfl ?_
      refine o_indexAddr rfl rfl rfl (r_ix8 1 (by omega)) ?_
      refine o_load rfl rfl (r_ldU V 1 (by omega)) ?_
      refine o_indexAddr rfl rfl rfl (r_ix8 2 (by omega)) ?_
      refine o_load rfl rfl (r_ldU V 2 (by omega)) ?_
      refine o_indexAddr rfl rfl rfl (r_ix8 3 (by omega)) ?_
      refine o_load rfl rfl (r_ldU V 3 (by omega)) ?_
      refine o_move rfl rfl ?_
      refine o_bin rfl rfl rfl (r_add_u32) ?_
      refine o_move rfl rfl ?_
      refine o_indexAddr rfl rfl rfl (r_ix8 5 (by omega)) ?_
      refine o_load rfl rfl (r_ldU V 5 (by omega)) ?_
      refine o_indexAddr rfl rfl rfl (r_ix8 6 (by omega)) ?_
      refine o_load rfl rfl (r_ldU V 6 (by omega)) ?_
      refine o_build rfl rfl (run_build _ _ _ ((rounds b s (i + 1)).map U32).toArray (by kernel_rfl)) ?_
      have hn8 := rounds_len b s hs (i + 1)
      refine o_store rfl rfl (r_stA V (by simp [hv8, hn8]) (by rw [List.length_map, hn8]; exact size8) (one_of _)) ?_
      have V' := V.row ((rounds b s (i + 1)).map U32)
      have q14 := (q10.trans (gb_ext ((hx11.trans hx12).trans hx13))).trans (grownBy_setRow w13 g13 ((rounds b s (i + 1)).map U32).toArray)
      refine o_nil (n_block (n_then (c_region (o_move rfl rfl ?_))))
      refine o_bin rfl rfl rfl (r_add_i (by omega) (by omega)) ?_
      refine o_assign rfl rfl (o_nil ?_)
      exact n_round (i + 1) ⟨rfl, rfl, rfl, rfl, rfl, rfl, trivial⟩ ⟨q14, V', by omega⟩ (by omega)
    · have hi' : i = 64 := by omega
      subst hi'
      exact c_exit (x_then (x_then (x_here (n_meet () ⟨rfl, rfl, rfl, trivial⟩ ⟨q10, b10⟩))))
  rintro _ w10 ⟨q10, b10⟩
  refine n_then ?_
  have hv8 := rounds_len b s hs 64
  have F2 := D2.other q10 ne213
  have F4 := D4.other q10 ne413
  have E10 : Ext w w10 := E9.of_new q10 (by omega)
  have ha0 : added s (rounds b s 64) 0 = s := by simp [added]
  refine c_seq (c_cut (fun _ : Unit => [(2, .pointer (some ⟨g2, 0, none⟩)), (4, .pointer (some ⟨g4, 0, none⟩))]) (fun _ w' => w10.grownBy w' (some g2) ∧ Blk g2 67 ((added s (rounds b s 64) 8).map U32) w') ?_ ?_)
  · refine c_seq (c_region (o_assign rfl rfl (o_nil (n_then (c_block ?_)))))
    refine c_loop (α := Nat) (fun i => [(2, .pointer (some ⟨g2, 0, none⟩)), (4, .pointer (some ⟨g4, 0, none⟩)), (13, .pointer (some ⟨g13, 0, none⟩)), (19, I (i : Int))])
      (fun i w' => w10.grownBy w' (some g2) ∧ Blk g2 67 ((added s (rounds b s 64) i).map U32) w' ∧ i ≤ 8) (fun i => 8 - i) 0 ⟨rfl, rfl, rfl, rfl, trivial⟩
      ⟨gb_ext (Ext.refl _), by rw [ha0]; exact F2, by omega⟩ ?_
    rintro i w11 ⟨q11, b11, hi⟩
    refine c_seq (c_seq (c_region (o_move rfl rfl ?_)))
    refine o_bin rfl rfl rfl (r_lss_i) ?_
    refine o_nil (n_then ?_)
    refine c_if rfl (fun h => ?_) (fun h => ?_)
    · have hi8 : i < 8 := by omega
      have hal := added_len hs hv8 hi
      have hag := added_get hs hv8 hi8
      have K13 := b10.other q11 (fun h => by cases h; omega)
      refine c_skip (n_then (c_seq (c_block ?_)))
      refine c_grow 8 [2, 4, 13, 19, 194, 195] (by kernel_rfl) (by kernel_rfl) ?_
      refine f_move rfl rfl ?_
      refine f_indexAddr rfl rfl rfl (fun w _ => r_ix8 i (by omega)) ?_
      refine f_load (r := U32 (s.getD i 0)) rfl rfl (fun w' hw => by rw [← hag]; exact r_ldU (b11.ext hw) i (by omega)) ?_
      refine f_move rfl rfl ?_
      refine f_indexAddr rfl rfl rfl (fun w _ => r_ix8 i (by omega)) ?_
      refine f_load rfl rfl (fun w' hw => r_ldU (K13.ext hw) i (by omega)) ?_
      refine f_bin rfl rfl rfl (fun w _ => r_add_u32) ?_
      refine f_indexAddr rfl rfl rfl (fun w _ => r_ix8 i (by omega)) ?_
      refine f_nil ?_
      intro w12 hx12
      rintro _ rfl _ rfl _ rfl _ rfl _ rfl _ rfl
      refine o_store rfl rfl (r_stU (b11.ext hx12) i (by omega)) ?_
      have b12 := (b11.ext hx12).setU i (s.getD i 0 + (rounds b s 64).getD i 0)
      rw [added_set hs hv8 hi8] at b12
      have q12 := (q11.trans (gb_ext hx12)).trans (grownBy_setCell w12 g2 i (U32 (s.getD i 0 + (rounds b s 64).getD i 0)))
      refine o_nil (n_block (n_then (c_region (o_move rfl rfl ?_))))
      refine o_bin rfl rfl rfl (r_add_i (by omega) (by omega)) ?_
      refine o_assign rfl rfl (o_nil ?_)
      exact n_round (i + 1) ⟨rfl, rfl, rfl, rfl, trivial⟩ ⟨q12, b12, by omega⟩ (by omega)
    · have hi' : i = 8 := by omega
      subst hi'
      exact c_exit (x_then (x_then (x_here (n_meet () ⟨rfl, rfl, trivial⟩ ⟨q11, b11⟩))))
  rintro _ w11 ⟨q11, b11⟩
  rw [added_all hs hv8] at b11
  have hc8 := cmpr_len s b hs
  have hlen8' : (Try.prog.info? 67).map (·.size) = some ((cmpr s b).map U32).length := by rw [List.length_map, hc8]; exact size8
  have G4 := F4.other q11 (fun h => by cases h; omega)
  refine n_then (c_seq (c_region ?_))
  refine o_load rfl rfl (r_ldA (m := (cmpr s b).map U32) b11 (fun j v h => by rw [Nat.zero_add]; exact h) Try.underlying67 rfl hlen8') ?_
  refine o_store rfl rfl (r_stA G4 (by simp [hc8]) hlen8' (one_of _)) ?_
  refine o_nil (n_then (c_ret ?_))
  refine r_bodyc rfl rfl (G4.row _) Try.underlying67 rfl hlen8' ?_
  exact ⟨_, rfl, (E10.of_new q11 (by omega)).of_new (grownBy_setRow _ _ _) (by omega), rfl⟩
end Go.Rl

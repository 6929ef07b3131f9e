/- Walk of awake of the digest's statements, and of the statement DigestSum. No condition. -/
import Derived.Test.YtlieingmahbmcaaDg12
import Derived.Test.YtlieingmahbmcaaAbc
import Derived.Lib.SlBytesConst
namespace Go.Rl
open Go.RowKit Go.Proofs

theorem call_dawake : Callable Try.prog 22 := ⟨_, Try.func22, by kernel_rfl, rfl⟩
/-- A literal row of bytes, and the mark behind it. -/
theorem r_lit {w : World} (l : List UInt8) (hl : l.length ≤ 16777216) : ∃ v w1 w2, (Instr.buildSlice 22 l.length (number 0 (l.map U8)).toArray).run Try.prog w = .ok v w1 ∧ (convert 22 22 v).run Try.prog w1 = .ok v w2 ∧ Ext w w2 ∧ Bts l v w2 := by
  obtain ⟨i, hi, hz0, hs, _⟩ := info_parts info_u8
  have hf : ∀ Z : Array Value, Z.size = (l.map U8).length → Instr.fill (fun i => some (i * 1, 1)) Z (number 0 (l.map U8)) = some (l.map U8).toArray := fun Z hZ => by
    have := fill_number (l.map U8) [] Z.toList (fun v hv => one_cells (one_U8 l v hv)) (by simpa using hZ)
    simpa using this
  have hle : ¬ (l.length * 1 > 2 ^ 24) := by omega
  have hinfo : (typeInfo 5).run Try.prog w = .ok i w := by simp [typeInfo, hi]
  have hsz : (sizeOf 5).run Try.prog w = .ok 1 w := by simp [sizeOf, hinfo, hs]
  have hzv : (zeroValue 5).run Try.prog w = .ok (.int .u8 0) w := by simp [zeroValue, hinfo, hz0]
  have hrun : (Instr.buildSlice 22 l.length (number 0 (l.map U8)).toArray).run Try.prog w = .ok (.slice (some ⟨w.heap.size, 0, none⟩) l.length l.length) (w.alloc (.cells (l.map U8).toArray 5)) := by
    simp only [Instr.buildSlice, Sem.run_bind, run_underlying Try.underlying22, Result.andThen_ok, hsz, if_neg hle]
    by_cases h0 : l.length * 1 = 0
    · rw [if_pos h0]
      simp only [Sem.run_bind, Sem.run_pure, Result.andThen_ok]
      rw [hf _ (by simp)]
      simp [newRow]
    · rw [if_neg h0]
      simp only [Sem.run_bind, Sem.run_pure, Result.andThen_ok, hzv]
      rw [hf _ (by simp [Value.cells])]
      simp [newRow]
  refine ⟨_, _, _, hrun, Go.Lib.run_convert_bytes_const w 22 5 _ _ _ Try.underlying22 Try.underlying5, Ext.new w _, ?_⟩
  have hg := heap_alloc_new w (.cells (l.map U8).toArray 5 ((l.map U8).toArray.size, (l.map U8).toArray.size + 1))
  refine ⟨_, _, _, rfl, Nat.le_refl _, by unfold maxLen; omega, by simp, fun _ => ⟨_, rfl, fun j u hu => ?_⟩, fun h => by cases h⟩
  rw [Addr.add_mid, Nat.zero_add, cell_of_row _ _ j _ _ _ hg]
  simpa using hu
theorem r_ldB32 {w : World} {g : Nat} {T : TypeId} {m : List UInt8} (h : Blk g T (m.map U8) w) (i : Nat) {b : UInt8} (hi : m[i]? = some b) : (Instr.loadAt 5 (.pointer (some ⟨g, i, none⟩))).run Try.prog w = .ok (U8 b) w :=
  r_load1 Try.underlying5 rfl (h.cell (by simp [hi]))
theorem dawake_spec (w : World) : Calls Try.prog 22 #[] w (Ret fun r w' => r = B true ∧ Ext w w') := by
  refine enter (vs := []) Try.func22 rfl rfl rfl ?_
  refine c_seq (c_region (o_assign rfl rfl (o_nil (n_then (c_seq (c_region ?_))))))
  obtain ⟨r1, w0, w1, hr, hc, x1, o1⟩ := r_lit (w := w) [97, 98, 99] (by simp)
  refine o_buildSlice (vs := [(0, U8 97), (1, U8 98), (2, U8 99)]) rfl rfl hr ?_
  refine o_conv rfl rfl hc ?_
  refine o_call call_dSum rfl rfl (dSum_spec o1) ?_
  rintro _ w2 ⟨x2, rfl⟩
  obtain ⟨g, w3, hr, n3, x3, b3⟩ := r_allocB (P := Try.prog) (w := w2) (l := (List.replicate 32 0).map U8) zero32 rfl
  refine o_alloc rfl hr ?_
  have hsz : (Try.prog.info? 35).map (·.size) = some ((dig [97, 98, 99]).map U8).length := by rw [List.length_map, dig_len]; exact size32
  refine o_store rfl rfl (r_stA b3 (by simp [dig_len]) hsz (one_ofB _)) ?_
  have b4 := b3.row ((dig [97, 98, 99]).map U8)
  have E4 := ((x1.trans x2).trans x3).of_new (grownBy_setRow w3 g ((dig [97, 98, 99]).map U8).toArray) (Nat.le_trans (x1.trans x2).size n3)
  revert b4 E4
  generalize w3.setRow g ((dig [97, 98, 99]).map U8).toArray = w4
  intro b4 E4
  refine o_nil (n_then (c_seq (c_region ?_)))
  refine o_call (vs := []) call_HNew rfl rfl (New0_spec w4) ?_
  rintro _ w5 ⟨x5, g5, _, rfl, _⟩
  have b5 := b4.ext x5
  refine o_assign rfl rfl (o_nil (n_then (c_seq (c_region ?_))))
  refine o_indexAddr rfl rfl rfl (r_ix32 0 (by omega)) ?_
  refine o_load rfl rfl (r_ldB32 b5 0 (b := 186) (by rw [abc_dig]; rfl)) ?_
  refine o_bin (v := U8 186) rfl rfl rfl (dec_t rfl r_eql_u8) ?_
  refine o_move rfl rfl (g_yes rfl ?_)
  refine o_indexAddr rfl rfl rfl (r_ix32 1 (by omega)) ?_
  refine g_yes rfl (o_load rfl rfl (r_ldB32 b5 1 (b := 120) (by rw [abc_dig]; rfl)) ?_)
  refine g_yes rfl (o_bin (v := U8 120) rfl rfl rfl (dec_t rfl r_eql_u8) ?_)
  refine o_pick_t rfl rfl rfl (o_move rfl rfl (g_yes rfl ?_))
  refine o_indexAddr rfl rfl rfl (r_ix32 31 (by omega)) ?_
  refine g_yes rfl (o_load rfl rfl (r_ldB32 b5 31 (b := 173) (by rw [abc_dig]; rfl)) ?_)
  refine g_yes rfl (o_bin (v := U8 173) rfl rfl rfl (dec_t rfl r_eql_u8) ?_)
  refine o_pick_t rfl rfl rfl (o_move rfl rfl (g_yes rfl (o_move rfl rfl (g_yes rfl ?_))))
  refine o_bin rfl rfl rfl (r_nenilp Try.underlying40) ?_
  refine o_pick_t rfl rfl rfl ?_
  refine o_assign rfl rfl (o_nil (n_then (c_ret ?_)))
  refine r_body1 rfl rfl ?_
  exact ⟨_, rfl, rfl, E4.trans x5⟩

theorem DigestSum_walk {w : World} {l : List UInt8} {v : Value} (hv : Bts l v w) :
    Calls Try.prog 5 #[v] w (Ret fun r w' => r = B true ∧ Ext w w') := by
  refine enter (vs := [v]) Try.func5 rfl rfl rfl ?_
  refine c_seq (c_region (o_assign rfl rfl (o_nil (n_then (c_seq (c_seq (c_region ?_)))))))
  refine o_call call_dawake rfl rfl (dawake_spec w) ?_
  rintro r1 w1 ⟨rfl, x1⟩
  refine o_not rfl rfl r_not ?_
  refine o_move rfl rfl (g_yes rfl (o_move rfl rfl ?_))
  refine g_yes rfl (o_len rfl rfl (r_lenB (hv.ext x1)) ?_)
  refine g_yes rfl (o_bin rfl rfl rfl r_gtr_i ?_)
  refine o_pick_f rfl rfl rfl (o_nil (n_then ?_))
  refine c_if rfl (fun h => ?_) (fun h => ?_)
  · refine c_seq (c_region ?_)
    refine o_call call_dawake rfl rfl (dawake_spec w1) ?_
    rintro r2 w2 ⟨rfl, x2⟩
    refine o_assign rfl rfl (o_nil (n_then (c_ret (r_then ?_))))
    refine r_body1 rfl rfl ?_
    exact ⟨_, rfl, rfl, x1.trans x2⟩
  · have hlen : l.length ≤ 400 := by omega
    refine c_skip (n_then (c_seq (c_region ?_)))
    obtain ⟨r2, w2, hr, x2, o2, _⟩ := r_bsB (w := w1) w1.heap.size [] (by simp) (Nat.le_refl _)
    refine o_buildSlice (vs := []) rfl rfl hr ?_
    refine o_move rfl rfl ?_
    obtain ⟨r3, w3, hr, o3, g3⟩ := r_appB (ty := 22) o2 ((hv.ext x1).ext x2) (by simp only [List.length_nil]; omega) x2.size
    have x3 := x2.of_grew g3 o2.ge
    have b3 : Bts l r3 w3 := o3.bts
    refine o_append rfl rfl hr ?_
    refine o_assign rfl rfl (o_nil (n_then (c_seq (c_region (o_move rfl rfl ?_)))))
    refine o_call call_dSum rfl rfl (dSum_spec b3) ?_
    rintro _ w4 ⟨x4, rfl⟩
    refine o_move rfl rfl ?_
    have e4 := (x1.trans x3).trans x4
    refine o_call call_rSum rfl rfl (rSum_spec (hv.ext e4) (by omega)) ?_
    rintro _ w5 ⟨x5, rfl⟩
    have e5 := e4.trans x5
    refine o_bin rfl rfl rfl (r_eqlA (dig_len l)) ?_
    refine o_move rfl rfl (g_yes rfl (o_move rfl rfl ?_))
    refine g_yes rfl (o_conv rfl rfl (r_str ((b3.ext x4).ext x5)) ?_)
    refine g_yes rfl (o_move rfl rfl (g_yes rfl (o_conv rfl rfl (r_str (hv.ext e5)) ?_)))
    refine g_yes rfl (o_bin rfl rfl rfl (dec_t rfl r_eql_s) ?_)
    refine o_pick_t rfl rfl rfl ?_
    refine o_assign rfl rfl (o_nil (n_then (c_ret ?_)))
    refine r_body1 rfl rfl ?_
    exact ⟨_, rfl, rfl, e5⟩
end Go.Rl

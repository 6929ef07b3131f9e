/- Walk of digest.Sum: it returns the digest. No condition but that the bytes can be read. -/
import Derived.Test.YtlieingmahbmcaaDg11
namespace Go.Rl
open Go.RowKit Go.Proofs

theorem dSum_spec {w : World} {l : List UInt8} {v : Value} (hv : Bts l v w) :
    Calls Try.prog 23 #[v] w (Ret fun r w' => Ext w w' ∧ r = .agg ((dig l).map U8).toArray) := by
  refine enter (vs := [v]) Try.func23 rfl rfl rfl ?_
  obtain ⟨g2, w1, hr, n2, x1, b2⟩ := r_allocB (P := Try.prog) (w := w) (l := (List.replicate 32 0).map U8) zero32 rfl
  refine c_seq (c_region (o_alloc rfl hr (o_nil (n_then (c_seq (c_region ?_))))))
  refine o_call (vs := []) call_HNew rfl rfl (New0_spec w1) ?_
  rintro _ w2 ⟨x2, g, hg, rfl, hA⟩
  refine o_assign rfl rfl (o_nil (n_then (c_seq (c_region (o_move rfl rfl (o_move rfl rfl ?_))))))
  have e2 := x1.trans x2
  refine o_call call_Write rfl rfl (Write_spec hA (hv.ext e2) (hv.old (Nat.le_trans x1.size hg))) ?_
  rintro _ w3 ⟨q3, h3⟩
  rw [List.nil_append, UInt64.zero_add] at h3
  have l2 : g2 < g := Nat.lt_of_lt_of_le b2.lt hg
  have hwg : w.heap.size ≤ g := by omega
  have e3 := e2.of_new q3 hwg
  have B3 := (b2.ext x2).other q3 (fun h => by cases h; omega)
  refine o_nil (n_then (c_seq (c_region (o_move rfl rfl ?_))))
  refine o_call call_HSum rfl rfl (HSum_spec h3) ?_
  rintro _ w4 ⟨x4, rfl⟩
  have hsz : (Try.prog.info? 35).map (·.size) = some ((dig l).map U8).length := by rw [List.length_map, dig_len]; exact size32
  have B4 := B3.ext x4
  refine o_store rfl rfl (r_stA B4 (by simp [dig_len]) hsz (one_ofB _)) ?_
  refine o_nil (n_then (c_ret ?_))
  refine r_bodyc rfl rfl (B4.row _) Try.underlying35 rfl hsz ?_
  exact ⟨_, rfl, (e3.trans x4).of_new (grownBy_setRow _ _ _) n2, rfl⟩
end Go.Rl

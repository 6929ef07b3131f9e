/- Walks of the functions that append byte strings and texts. Conditions: what is appended to is short. -/
import Derived.Test.YtifjnhdnpglbpaaW2
import Derived.Lib.AppendStr
import Derived.Laws.IdiomStrings
namespace Go.Rl
open Go.RowKit Go.Proofs Go.Lib

theorem call_AppendText : Callable Try.prog 38 := ⟨_, Try.func38, by kernel_rfl, rfl⟩

theorem strCells_S (l : List UInt8) : strCells ⟨l.toArray⟩ = l.map U8 := by
  simp [strCells]
  intro a _
  rfl
section
variable {w w0 : World} {l m : List UInt8} {v x : Value}
/-- The bytes of a text, anew. -/
theorem r_bytes (h : l.length ≤ 140737488355328) : ∃ r w', (convert 9 22 (S l)).run Try.prog w = .ok r w' ∧ Ext w w' ∧ Bts l r w' := by
  have hr := run_bytes_of_string (P := Try.prog) w 9 22 5 ⟨l.toArray⟩ Try.underlying9 Try.underlying22 Try.underlying5
  have hsz : (⟨l.toArray⟩ : ByteArray).size = l.length := by simp [ByteArray.size]
  refine ⟨_, _, hr, (Ext.refl w).drew.trans (Ext.new w.drew _), ?_⟩
  rw [hsz]
  have hge := grownCap_ge w l.length 0 5
  refine ⟨some ⟨w.heap.size, 0, none⟩, l.length, grownCap w l.length 0 5, rfl, hge, grownCap_le_maxLen w l.length 0 _ (by unfold maxLen; omega), by simp, fun _ => ⟨_, rfl, fun j u hu => ?_⟩, fun h => by cases h⟩
  have hws : w.drew.heap.size = w.heap.size := rfl
  have hg := heap_alloc_new w.drew (.cells (bytesRow ⟨l.toArray⟩ (grownCap w l.length 0 5)) 5 ((bytesRow ⟨l.toArray⟩ (grownCap w l.length 0 5)).size, (bytesRow ⟨l.toArray⟩ (grownCap w l.length 0 5)).size + 1))
  have hadd : (⟨w.heap.size, 0, none⟩ : Addr).add j = ⟨w.heap.size, j, none⟩ := by unfold Addr.add; split <;> simp_all
  rw [hws] at hg
  rw [hadd, cell_of_row _ _ j _ _ _ hg]
  rw [List.getElem?_map, Option.map_eq_some_iff] at hu
  obtain ⟨b, hb, rfl⟩ := hu
  obtain ⟨hj, hb⟩ := List.getElem?_eq_some_iff.1 hb
  unfold bytesRow
  rw [Array.getElem?_append_left (by simpa using hj)]
  simp [hj, hb, U8]
/-- append of a text's bytes onto a row of its own -/
theorem r_appS {base : Nat} {ty : TypeId} (hv : OwnB base l v w) (hb : l.length + m.length ≤ 140737488355328) (hbase : base ≤ w.heap.size) :
    ∃ r w', (Builtin.append_ #[22, 9] ty #[v, S m]).run Try.prog w = .ok r w' ∧ OwnB base (l ++ m) r w' ∧ w.grownBy w' v.ownBlock := by
  obtain ⟨n, hv⟩ := hv
  obtain ⟨i, hi, hz, hsize, hby⟩ := info_parts info_u8
  have hln : (l.map U8).length = n := by simpa using hv.1
  have hsz : (⟨m.toArray⟩ : ByteArray).size = m.length := by simp [ByteArray.size]
  simp only [List.length_map] at hln
  obtain ⟨r, w', h1, h2, h3, _⟩ := run_append_own_string (P := Try.prog) w base 22 9 ty 5 i Try.underlying22 Try.underlying9 hi hz hsize hby v n _ hv ⟨m.toArray⟩ (by rw [hsz]; unfold maxLen; omega) (by rw [hsz]; omega) hbase
  rw [strCells_S m, ← List.map_append] at h2
  exact ⟨r, w', h1, ⟨_, h2⟩, h3⟩
theorem Ext.of_own {base : Nat} {w' : World} (hx : Ext w0 w) (h : w.grownBy w' v.ownBlock) (hv : OwnB base l v w) (hb : w0.heap.size ≤ base) : Ext w0 w' :=
  hx.of_grown h fun k hk => Nat.le_trans hb (hv.ge k hk)

def encB (m : List UInt8) : List UInt8 := uv m.length ++ m
theorem AppendText_spec (hv : Bts l v w) (hl : l.length + m.length ≤ 70368744177664) :
    Calls Try.prog 38 #[v, S m] w (Ret fun r w' => Ext w w' ∧ OwnB w.heap.size (l ++ encB m) r w') := by
  refine enter (vs := [v, S m]) Try.func38 rfl rfl rfl ?_
  refine c_seq (c_region (o_assign rfl rfl (o_nil (n_then (c_seq (c_region (o_move rfl rfl ?_)))))))
  refine o_call call_Clone rfl rfl (Clone_spec hv (by omega)) ?_
  rintro r1 w1 ⟨hx1, ho1⟩
  refine o_move rfl rfl ?_
  refine o_len rfl rfl r_lenS ?_
  refine o_conv rfl rfl (r_n_u64 Try.underlying3 Try.underlying31) ?_
  refine o_call call_uvarint rfl rfl (uvarint_spec ho1 (by omega) hx1.size) ?_
  rintro r2 w2 ⟨ho2, hg2⟩
  rw [u64_len (by omega)] at ho2
  have huv := uv_len (n := m.length) (by omega)
  have hx2 := hx1.of_grew hg2 ho1.ge
  refine o_move rfl rfl ?_
  obtain ⟨r3, w3, hr3, ho3, hg3⟩ := r_appS (ty := 22) (m := m) ho2 (by simp only [List.length_append]; omega) hx2.size
  refine o_append rfl rfl hr3 ?_
  refine o_assign rfl rfl (o_nil (n_then (c_ret ?_)))
  refine r_body1 rfl rfl ?_
  refine ⟨_, rfl, hx2.of_own hg3 ho2 (Nat.le_refl _), ?_⟩
  rw [List.append_assoc] at ho3
  exact ho3
end
end Go.Rl

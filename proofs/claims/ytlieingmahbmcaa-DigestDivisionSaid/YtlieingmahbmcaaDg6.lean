/- The digest's hash as cells in a block: runs and facts. Conditions: each names its own. -/
import Derived.Test.YtlieingmahbmcaaDg5
namespace Go.Rl
open Go.RowKit Go.Proofs

/-- The cells of a hash. -/
def hcells (st : List UInt32) (blk : List UInt8) (u : Int) (tot : UInt64) : List Value := st.map U32 ++ (blk.map U8 ++ [I u, U64 tot])
/-- The hash at block g. -/
structure HC (g : Nat) (st : List UInt32) (blk : List UInt8) (u : Int) (tot : UInt64) (w : World) : Prop where
  hb : Blk g 71 (hcells st blk u tot) w
  ls : st.length = 8
  lb : blk.length = 64
section
variable {w w' : World} {g : Nat} {st : List UInt32} {blk : List UInt8} {u : Int} {tot : UInt64}
theorem hcells_len (hs : st.length = 8) (hb : blk.length = 64) : (hcells st blk u tot).length = 74 := by simp [hcells, hs, hb]
theorem HC.ext (h : HC g st blk u tot w) (hx : Ext w w') : HC g st blk u tot w' := ⟨h.hb.ext hx, h.ls, h.lb⟩
theorem HC.other {row : Option Nat} (h : HC g st blk u tot w) (hg : w.grownBy w' row) (hne : some g ≠ row) : HC g st blk u tot w' := ⟨h.hb.other hg hne, h.ls, h.lb⟩
theorem HC.lt (h : HC g st blk u tot w) : g < w.heap.size := h.hb.lt
theorem HC.cellS (h : HC g st blk u tot w) {i : Nat} (hi : i < 8) : w.cell? ⟨g, i, none⟩ = some (U32 (st.getD i 0)) :=
  h.hb.cell (by simp [hcells, List.getElem?_append, h.ls, hi])
theorem HC.cellU (h : HC g st blk u tot w) : w.cell? ⟨g, 72, none⟩ = some (I u) :=
  h.hb.cell (by unfold hcells; rw [List.getElem?_append_right (by simp [h.ls]), List.length_map, h.ls, List.getElem?_append_right (by simp [h.lb]), List.length_map, h.lb]; rfl)
theorem HC.cellT (h : HC g st blk u tot w) : w.cell? ⟨g, 73, none⟩ = some (U64 tot) :=
  h.hb.cell (by unfold hcells; rw [List.getElem?_append_right (by simp [h.ls]), List.length_map, h.ls, List.getElem?_append_right (by simp [h.lb]), List.length_map, h.lb]; rfl)
theorem HC.setS (h : HC g st blk u tot w) (i : Nat) (hi : i < 8) (x : UInt32) : HC g (st.set i x) blk u tot (w.setCell ⟨g, i, none⟩ (U32 x)) := by
  refine ⟨?_, by simp [h.ls], h.lb⟩
  have := h.hb.set i (U32 x)
  unfold hcells at this
  rw [List.set_append_left _ _ (by simpa [h.ls] using hi), ← List.map_set] at this
  exact this
theorem HC.setU (h : HC g st blk u tot w) (x : Int) : HC g st blk x tot (w.setCell ⟨g, 72, none⟩ (I x)) := by
  refine ⟨?_, h.ls, h.lb⟩
  have := h.hb.set 72 (I x)
  unfold hcells at this
  rw [List.set_append_right _ _ (by simp [h.ls]), List.length_map, h.ls, List.set_append_right _ _ (by simp [h.lb]), List.length_map, h.lb] at this
  exact this
theorem HC.setT (h : HC g st blk u tot w) (x : UInt64) : HC g st blk u x (w.setCell ⟨g, 73, none⟩ (U64 x)) := by
  refine ⟨?_, h.ls, h.lb⟩
  have := h.hb.set 73 (U64 x)
  unfold hcells at this
  rw [List.set_append_right _ _ (by simp [h.ls]), List.length_map, h.ls, List.set_append_right _ _ (by simp [h.lb]), List.length_map, h.lb] at this
  exact this
theorem size_int : (Try.prog.info? 3).map (·.size) = some 1 := by kernel_rfl
theorem size_u64 : (Try.prog.info? 23).map (·.size) = some 1 := by kernel_rfl
theorem size_b64 : (Try.prog.info? 69).map (·.size) = some 64 := by kernel_rfl
theorem size_Hash : (Try.prog.info? 71).map (·.size) = some 74 := by kernel_rfl
theorem zero_Hash : (Try.prog.info? 71).map (·.zero) = some (some (.agg (hcells (List.replicate 8 0) (List.replicate 64 0) 0 0).toArray)) := by kernel_rfl
theorem r_fS : (Instr.fieldAt 71 (.pointer (some ⟨g, 0, none⟩)) 0).run Try.prog w = .ok (.pointer (some ⟨g, 0, none⟩)) w := by
  have h := r_fieldAt (P := Try.prog) (w := w) (n := 0) (a := ⟨g, 0, none⟩) Try.underlying71 rfl size8 (Nat.succ_ne_zero 7)
  exact h
theorem r_fB : (Instr.fieldAt 71 (.pointer (some ⟨g, 0, none⟩)) 1).run Try.prog w = .ok (.pointer (some ⟨g, 8, none⟩)) w := by
  have h := r_fieldAt (P := Try.prog) (w := w) (n := 1) (a := ⟨g, 0, none⟩) Try.underlying71 rfl size_b64 (Nat.succ_ne_zero 63)
  exact h
theorem r_fU : (Instr.fieldAt 71 (.pointer (some ⟨g, 0, none⟩)) 2).run Try.prog w = .ok (.pointer (some ⟨g, 72, none⟩)) w := by
  have h := r_fieldAt (P := Try.prog) (w := w) (n := 2) (a := ⟨g, 0, none⟩) Try.underlying71 rfl size_int (Nat.succ_ne_zero 0)
  exact h
theorem r_fT : (Instr.fieldAt 71 (.pointer (some ⟨g, 0, none⟩)) 3).run Try.prog w = .ok (.pointer (some ⟨g, 73, none⟩)) w := by
  have h := r_fieldAt (P := Try.prog) (w := w) (n := 3) (a := ⟨g, 0, none⟩) Try.underlying71 rfl size_u64 (Nat.succ_ne_zero 0)
  exact h
/-- The bytes of the block behind an offset, as a slice. -/
theorem HC.bts (h : HC g st blk u tot w) {lo : Nat} (hlo : lo < 64) : Bts (blk.drop lo) (.slice (some ⟨g, 8 + lo, none⟩) (64 - lo) (64 - lo)) w := by
  refine ⟨_, _, _, rfl, Nat.le_refl _, by unfold maxLen; omega, by simp [h.lb], fun _ => ⟨_, rfl, fun j v hj => ?_⟩, fun h => by cases h⟩
  rw [Addr.add_mid]
  refine h.hb.cell ?_
  unfold hcells
  rw [List.getElem?_append_right (by simp [h.ls]; omega), List.length_map, h.ls, show 8 + lo + j - 8 = lo + j by omega]
  have hjl : lo + j < (blk.map U8).length := by
    have := (List.getElem?_eq_some_iff.1 hj).1
    simp only [List.length_map, List.length_drop] at this ⊢
    omega
  rw [List.getElem?_append_left hjl]
  rw [List.map_drop, List.getElem?_drop] at hj
  exact hj
theorem r_slH {lo : Nat} (hlo : lo < 64) : (Instr.sliceAt 69 (.pointer (some ⟨g, 8, none⟩)) (some (I (lo : Int))) none none).run Try.prog w = .ok (.slice (some ⟨g, 8 + lo, none⟩) (64 - lo) (64 - lo)) w :=
  r_slA_lo Try.underlying69 size_u8 hlo .i64
theorem HC.ldS (h : HC g st blk u tot w) : (Instr.loadAt 67 (.pointer (some ⟨g, 0, none⟩))).run Try.prog w = .ok (.agg (st.map U32).toArray) w :=
  r_ldA (m := st.map U32) h.hb (fun j v hj => by
    rw [Nat.zero_add]
    unfold hcells
    rw [List.getElem?_append_left (List.getElem?_eq_some_iff.1 hj).1]
    exact hj) Try.underlying67 rfl (by rw [List.length_map, h.ls]; exact size8)
end
theorem drop_get (b : List UInt8) (i j : Nat) : (b.drop i).getD j 0 = b.getD (i + j) 0 := by simp [List.getD]
end Go.Rl

/- Runs over slices of limbs: parts, new rows, stores. Conditions: each names its own. -/
import Derived.Test.YtifjnhdnpglbpaaNat
import Derived.Test.YtifjnhdnpglbpaaLoop
namespace Go.Rl
open Go.RowKit Go.Proofs
section
variable {w : World} {t : TypeId}
theorem r_slW (ht : Try.prog.underlying t = some (.slice 79)) {l : List UInt32} {v : Value} (h : Wds l v w) {lo hi : Nat} (h1 : lo ≤ hi) (h2 : hi ≤ l.length) (kl kh : IntKind) :
    ∃ r, (∀ w' : World, (Instr.sliceAt t v (some (.int kl lo)) (some (.int kh hi)) none).run Try.prog w' = .ok r w') ∧ Wds ((l.take hi).drop lo) r w := by
  obtain ⟨r, h3, h4⟩ := r_slice (P := Try.prog) ht size_u32 h h1 (by simpa using h2) (by omega) kl kh
  exact ⟨r, h3, by simpa [Wds, List.map_drop, List.map_take] using h4⟩
theorem r_slW_lo (ht : Try.prog.underlying t = some (.slice 79)) {l : List UInt32} {v : Value} (h : Wds l v w) {lo : Nat} (h2 : lo ≤ l.length) (kl : IntKind) :
    ∃ r, (∀ w' : World, (Instr.sliceAt t v (some (.int kl lo)) none none).run Try.prog w' = .ok r w') ∧ Wds (l.drop lo) r w := by
  obtain ⟨r, h3, h4⟩ := r_slice_lo (P := Try.prog) ht size_u32 h (lo := lo) (by simpa using h2) (by omega) kl
  exact ⟨r, h3, by simpa [Wds, List.map_drop] using h4⟩
theorem r_slW_hi (ht : Try.prog.underlying t = some (.slice 79)) {l : List UInt32} {v : Value} (h : Wds l v w) {hi : Nat} (h2 : hi ≤ l.length) (kh : IntKind) :
    ∃ r, (∀ w' : World, (Instr.sliceAt t v none (some (.int kh hi)) none).run Try.prog w' = .ok r w') ∧ Wds (l.take hi) r w := by
  obtain ⟨r, h3, h4⟩ := r_slice_hi (P := Try.prog) ht size_u32 h (hi := hi) (by simpa using h2) (by omega) kh
  exact ⟨r, h3, by simpa [Wds, List.map_take] using h4⟩
theorem r_mkW (ht : Try.prog.underlying t = some (.slice 79)) (base : Nat) {n : Nat} (hn : n ≤ 70368744177664) (hb : base ≤ w.heap.size) :
    ∃ r w', (Instr.makeSlice t (I (n : Int)) (I (n : Int))).run Try.prog w = .ok r w' ∧ Ext w w' ∧ OwnW base (List.replicate n 0) r w' ∧ r.ownBlock = some w.heap.size := by
  obtain ⟨i, hi, hz, hs, hby⟩ := info_parts info_u32
  have hrun := run_make (P := Try.prog) w t 79 i _ ht hi hz .i64 .i64 (n : Int) (n : Int) (by omega) (by omega) (by rw [hby]; omega) (by omega)
  refine ⟨_, _, hrun, Ext.new _ _, ⟨n, ?_⟩, rfl⟩
  have := World.ownsRow_lit (base := base) (e := 79) (size := 1) w (madeCells (Value.int .u32 0).cells ((n : Int).toNat * i.size)) n hb (by unfold maxLen; omega) (by rw [hs]; simp [madeCells])
  have e : (madeCells (Value.int .u32 0).cells ((n : Int).toNat * i.size)).toList = (List.replicate n (0 : UInt32)).map U32 := by
    rw [hs]
    have h2 := toList_madeCells_one (.int .u32 0) n
    simp only [Value.cells, Int.toNat_natCast, Nat.mul_one, List.map_replicate] at h2 ⊢
    rw [h2]; rfl
  rw [e] at this
  simpa using this
theorem OwnW.setW (ht : Try.prog.underlying t = some (.slice 79)) {base : Nat} {l : List UInt32} {v : Value} (h : OwnW base l v w) {i : Nat} (hi : i < l.length) (x : UInt32) :
    ∃ g w', (∀ u : World, (Instr.indexAt t v (I (i : Int))).run Try.prog u = .ok (.pointer (some ⟨g, i, none⟩)) u) ∧ (Instr.storeAt 79 (.pointer (some ⟨g, i, none⟩)) (U32 x)).run Try.prog w = .ok () w' ∧
      OwnW base (l.set i x) v w' ∧ w.grownBy w' (some g) ∧ base ≤ g ∧ w.cell? ⟨g, i, none⟩ = some (U32 l[i]) ∧ v.ownBlock = some g := by
  obtain ⟨n, hn⟩ := id h
  have hnl : l.length = n := by simpa using hn.1
  obtain ⟨ad, hix, hcell⟩ := r_ixW ht h.wds hi .i64
  rcases hn.2 with ⟨_, h0⟩ | ⟨g, cap, cur, rfl, hb, hg, hnc, hcm, hcs, htk⟩
  · omega
  · have hlt : i < cur.size := by omega
    have had : ad = ⟨g, i, none⟩ := by
      have h1 := hix w
      obtain ⟨ti, hi', hs⟩ := Option.map_eq_some_iff.1 size_u32
      have hin : i < n := by omega
      have h2 : (Instr.indexAt t (.slice (some ⟨g, 0, none⟩) n cap) (.int .i64 i)).run Try.prog w = .ok (.pointer (some ⟨g, i, none⟩)) w := by
        simp [Instr.indexAt, asIntOf, run_underlying ht, hin, sizeOf, typeInfo, hi', hs, add_mk]
      rw [h2] at h1
      simp at h1
      exact h1.symm
    subst had
    refine ⟨g, w.setCell ⟨g, i, none⟩ (U32 x), hix, r_store1 size_u32 rfl hg hlt, ⟨n, ?_, .inr ⟨g, cap, cur.setIfInBounds i (U32 x), rfl, hb, heap_set hg i (U32 x), hnc, hcm, by simpa using hcs, ?_⟩⟩, grownBy_setCell w g i _, hb, hcell, rfl⟩
    · simpa using hnl
    · rw [List.map_set, ← htk, Array.toList_setIfInBounds, List.take_set]
theorem OwnW.kept {base : Nat} {l : List UInt32} {v : Value} {w' : World} (h : OwnW base l v w) {row : Option Nat} (hg : w.grownBy w' row) (hne : v.ownBlock = none ∨ v.ownBlock ≠ row) : OwnW base l v w' :=
  h.elim fun n h => ⟨n, World.ownsRow.kept h hg hne⟩
theorem OwnW.ge {base : Nat} {l : List UInt32} {v : Value} (h : OwnW base l v w) : ∀ k, v.ownBlock = some k → base ≤ k := fun k hk => h.elim fun _ h => (World.ownsRow.lt h k hk).1
theorem OwnW.lt {base : Nat} {l : List UInt32} {v : Value} (h : OwnW base l v w) : ∀ k, v.ownBlock = some k → k < w.heap.size := fun k hk => h.elim fun _ h => (World.ownsRow.lt h k hk).2
/-- The second slice's type does not matter. -/
theorem append_ty {P : Program} {w : World} {t t2 e e2 ty : TypeId} (ht : P.underlying t = some (.slice e)) (ht2 : P.underlying t2 = some (.slice e2)) (a b : Value) : (Builtin.append_ #[t, t2] ty #[a, b]).run P w = (Builtin.append_ #[t, t] ty #[a, b]).run P w := by
  unfold Builtin.append_
  cases a <;> simp [Sem.run_bind, run_underlying ht, run_underlying ht2]
theorem r_appW2 {base : Nat} {t2 : TypeId} (ht : Try.prog.underlying t = some (.slice 79)) (ht2 : Try.prog.underlying t2 = some (.slice 79)) {l m : List UInt32} {v x : Value} {ty : TypeId} (hv : OwnW base l v w) (hx : Wds m x w) (hb : l.length + m.length ≤ 35184372088832) (hbase : base ≤ w.heap.size) :
    ∃ r w', (Builtin.append_ #[t, t2] ty #[v, x]).run Try.prog w = .ok r w' ∧ OwnW base (l ++ m) r w' ∧ Grew w w' v r := by
  obtain ⟨r, w', h1, h2⟩ := r_appW (ty := ty) ht hv hx hb hbase
  exact ⟨r, w', (append_ty ht ht2 v x).trans h1, h2⟩
theorem r_max_i {P : Program} {t ty : TypeId} {a b : Nat} : (Builtin.max_ #[t, t] ty #[I (a : Int), I (b : Int)]).run P w = .ok (I ((max a b : Nat) : Int)) w := by
  have : (Builtin.max_ #[t, t] ty #[I (a : Int), I (b : Int)]) = pure (.int .i64 (if (b : Int) > (a : Int) then (b : Int) else (a : Int))) := rfl
  rw [this, Sem.run_pure]
  congr 2
  split <;> omega
/-- A part of a row of words: block g, behind pre and before post. -/
structure PW (g : Nat) (pre : List Value) (L : List UInt32) (post : List Value) (v : Value) (w : World) : Prop where
  isv : ∃ c, v = .slice (some ⟨g, pre.length, none⟩) L.length c ∧ L.length ≤ c ∧ c ≤ maxLen
  row : w.heap[g]? = some (.cells (pre ++ (L.map U32 ++ post)).toArray 79 (0, 0))
theorem PW.cell {g : Nat} {pre : List Value} {L : List UInt32} {post : List Value} {v : Value} (h : PW g pre L post v w) {i : Nat} (hi : i < L.length) : w.cell? ⟨g, pre.length + i, none⟩ = some (U32 L[i]) := by
  rw [cell_of_row w g _ _ _ _ h.row, List.getElem?_toArray, List.getElem?_append_right (by omega), Nat.add_sub_cancel_left, List.getElem?_append_left (by simpa using hi), List.getElem?_map, List.getElem?_eq_getElem hi]
  rfl
theorem PW.wds {g : Nat} {pre : List Value} {L : List UInt32} {post : List Value} {v : Value} (h : PW g pre L post v w) : Wds L v w := by
  obtain ⟨c, rfl, h1, h2⟩ := h.isv
  refine ⟨_, _, _, rfl, h1, h2, by simp, fun _ => ⟨_, rfl, fun j u hu => ?_⟩, fun h => by cases h⟩
  rw [List.getElem?_map, Option.map_eq_some_iff] at hu
  obtain ⟨x, hx, rfl⟩ := hu
  obtain ⟨hj, rfl⟩ := List.getElem?_eq_some_iff.1 hx
  rw [add_mk]
  exact h.cell hj
theorem PW.setP (ht : Try.prog.underlying t = some (.slice 79)) {g : Nat} {pre : List Value} {L : List UInt32} {post : List Value} {v : Value} (h : PW g pre L post v w) {i : Nat} (hi : i < L.length) (x : UInt32) :
    ∃ w', (∀ u : World, (Instr.indexAt t v (I (i : Int))).run Try.prog u = .ok (.pointer (some ⟨g, pre.length + i, none⟩)) u) ∧ (Instr.storeAt 79 (.pointer (some ⟨g, pre.length + i, none⟩)) (U32 x)).run Try.prog w = .ok () w' ∧
      PW g pre (L.set i x) post v w' ∧ w.grownBy w' (some g) ∧ w.cell? ⟨g, pre.length + i, none⟩ = some (U32 L[i]) := by
  obtain ⟨c, rfl, h1, h2⟩ := h.isv
  obtain ⟨ti, hti, hs⟩ := Option.map_eq_some_iff.1 size_u32
  refine ⟨w.setCell ⟨g, pre.length + i, none⟩ (U32 x), fun u => ?_, r_store1 size_u32 rfl h.row (by simp; omega), ⟨⟨c, by simp, by simpa using h1, h2⟩, ?_⟩, grownBy_setCell w g _ _, h.cell hi⟩
  · show (Instr.indexAt t (.slice (some ⟨g, pre.length, none⟩) L.length c) (.int .i64 (i : Int))).run Try.prog u = _
    simp [Instr.indexAt, asIntOf, run_underlying ht, hi, sizeOf, typeInfo, hti, hs, add_mk]
  · have := heap_set h.row (pre.length + i) (U32 x)
    rw [this, List.setIfInBounds_toArray, List.set_append_right _ _ (by omega), Nat.add_sub_cancel_left, List.set_append_left _ _ (by simpa using hi), List.map_set]
/-- Away from a block. -/
theorem Wds.away {l : List UInt32} {v : Value} {g : Nat} {w' : World} (h : Wds l v w) (ha : v.ownBlock = none ∨ v.ownBlock ≠ some g) (hg : w.grownBy w' (some g)) : Wds l v w' := by
  obtain ⟨A, n, c, rfl, h1, h2, h3, h4, h5⟩ := h
  refine ⟨A, n, c, rfl, h1, h2, h3, fun hn => ?_, h5⟩
  obtain ⟨ad, rfl, hc⟩ := h4 hn
  refine ⟨ad, rfl, fun j u hu => ?_⟩
  have hcell := hc j u hu
  have hb : ad.block ≠ g := by
    rcases ha with ha | ha
    · simp [Value.ownBlock] at ha
    · intro e; exact ha (by simp [Value.ownBlock, e])
  have hlt := World.block_lt_of_cell? w (ad.add j) hcell
  refine (World.cell?_of_block (hg.block _ hlt fun e => hb ?_)).trans hcell
  rw [add_block] at e
  exact Option.some.inj e
theorem r_slW_hi2 (ht : Try.prog.underlying t = some (.slice 79)) {l : List UInt32} {v : Value} (h : Wds l v w) {hi : Nat} (h2 : hi ≤ l.length) (kh : IntKind) :
    ∃ r, (∀ w' : World, (Instr.sliceAt t v none (some (.int kh hi)) none).run Try.prog w' = .ok r w') ∧ Wds (l.take hi) r w ∧ r.ownBlock = v.ownBlock := by
  obtain ⟨r, h3, h4⟩ := r_slW_hi ht h h2 kh
  refine ⟨r, h3, h4, ?_⟩
  obtain ⟨A, n, c, rfl, hnc, _, hl, _, _⟩ := h
  have h5 := h3 w
  obtain ⟨ti, hti, hs⟩ := Option.map_eq_some_iff.1 size_u32
  have hhi : hi ≤ n := by simp at hl; omega
  have hb : (Instr.sliceBounds true n c none (some (.int kh hi)) none).run Try.prog w = .ok (0, hi, c) w := by
    have a1 := run_sliceBound (P := Try.prog) (w := w) kh (hi : Int) c .sliceAcap (by omega) (by omega)
    simp only [Int.toNat_natCast] at a1
    simp [Instr.sliceBounds, a1]
  simp [Instr.sliceAt, Instr.slice, run_underlying ht, hb, sizeOf, typeInfo, hti, hs] at h5
  subst h5
  cases A with
  | none => split <;> rfl
  | some a => split <;> simp [Value.ownBlock, add_block]
theorem OwnW.off {base : Nat} {l : List UInt32} {v : Value} (h : OwnW base l v w) {g : Nat} (hg : g < base) : v.ownBlock ≠ some g := fun he => by
  have := h.ge g he
  omega
theorem OwnW.low {base base' : Nat} {l : List UInt32} {v : Value} (h : OwnW base l v w) (hb : base' ≤ base) : OwnW base' l v w := h.elim fun n h => ⟨n, ownsRow_base h fun k hk => Nat.le_trans hb (World.ownsRow.lt h k hk).1⟩
theorem OwnW.pw {base : Nat} {L : List UInt32} {v : Value} (h : OwnW base L v w) (h0 : 0 < L.length) : ∃ g sp, base ≤ g ∧ v.ownBlock = some g ∧ PW g [] L sp v w := by
  obtain ⟨n, h⟩ := h
  have hnl : L.length = n := by simpa using h.1
  rcases h.2 with ⟨_, h1⟩ | ⟨g, cap, cur, rfl, hb, hg, hnc, hcm, hcs, htk⟩
  · omega
  · refine ⟨g, cur.toList.drop (n * 1), hb, rfl, ⟨cap, by rw [hnl]; rfl, by omega, hcm⟩, ?_⟩
    rw [List.nil_append, ← htk, List.take_append_drop]
    exact hg
theorem PW.ext {g : Nat} {pre : List Value} {L : List UInt32} {post : List Value} {v : Value} {w' : World} (h : PW g pre L post v w) (hx : Ext w w') : PW g pre L post v w' := ⟨h.isv, hx.heap_some h.row⟩
theorem PW.lt {g : Nat} {pre : List Value} {L : List UInt32} {post : List Value} {v : Value} (h : PW g pre L post v w) : g < w.heap.size := (Array.getElem?_eq_some_iff.1 h.row).1
theorem PW.kept {g : Nat} {pre : List Value} {L : List UInt32} {post : List Value} {v : Value} {w' : World} (h : PW g pre L post v w) {row : Option Nat} (hg : w.grownBy w' row) (hne : some g ≠ row) : PW g pre L post v w' := ⟨h.isv, (hg.block g h.lt hne).trans h.row⟩
theorem r_slPW (ht : Try.prog.underlying t = some (.slice 79)) {g : Nat} {L : List UInt32} {sp : List Value} {v : Value} (h : PW g [] L sp v w) {lo hi : Nat} (h1 : lo < hi) (h2 : hi ≤ L.length) (kl kh : IntKind) :
    ∃ r, (∀ w' : World, (Instr.sliceAt t v (some (.int kl lo)) (some (.int kh hi)) none).run Try.prog w' = .ok r w') ∧ PW g ((L.take lo).map U32) ((L.take hi).drop lo) ((L.drop hi).map U32 ++ sp) r w := by
  obtain ⟨c, rfl, h3, h4⟩ := h.isv
  obtain ⟨i, hi', hs⟩ := Option.map_eq_some_iff.1 size_u32
  have hb : ∀ w : World, (Instr.sliceBounds true L.length c (some (.int kl lo)) (some (.int kh hi)) none).run Try.prog w = .ok (lo, hi, c) w := fun w => by
    have a1 := run_sliceBound (P := Try.prog) (w := w) kh (hi : Int) c .sliceAcap (by omega) (by omega)
    have a2 := run_sliceBound (P := Try.prog) (w := w) kl (lo : Int) hi .sliceB (by omega) (by omega)
    simp only [Int.toNat_natCast] at a1 a2
    simp [Instr.sliceBounds, a1, a2]
  have hne : ¬ c = lo := by omega
  refine ⟨.slice (some ⟨g, lo, none⟩) (hi - lo) (c - lo), fun w' => ?_, ⟨c - lo, ?_, ?_, by omega⟩, ?_⟩
  · simp [Instr.sliceAt, Instr.slice, run_underlying ht, hb, sizeOf, typeInfo, hi', hs, hne, add_mk]
  · simp only [List.length_map, List.length_take, List.length_drop, Nat.min_eq_left h2, Nat.min_eq_left (show lo ≤ L.length by omega)]
  · simp only [List.length_take, List.length_drop, Nat.min_eq_left h2]; omega
  · have e : L.take lo ++ (L.take hi).drop lo = L.take hi := by
      have := List.take_append_drop lo (L.take hi)
      rwa [List.take_take, Nat.min_eq_left (by omega)] at this
    have e2 : ([] : List Value) ++ (L.map U32 ++ sp) = (L.take lo).map U32 ++ (((L.take hi).drop lo).map U32 ++ ((L.drop hi).map U32 ++ sp)) := by
      rw [List.nil_append, ← List.append_assoc, ← List.append_assoc, ← List.map_append, ← List.map_append, e, List.take_append_drop]
    rw [h.row, e2]
theorem PW.join {g : Nat} {L F : List UInt32} {sp : List Value} {v r : Value} {lo hi : Nat} {w0 : World} (h : PW g [] L sp v w0) (h1 : lo ≤ hi) (h2 : hi ≤ L.length) (hF : F.length = hi - lo) (h3 : PW g ((L.take lo).map U32) F ((L.drop hi).map U32 ++ sp) r w) : PW g [] (L.take lo ++ F ++ L.drop hi) sp v w := by
  obtain ⟨c, rfl, h4, h5⟩ := h.isv
  have e : (L.take lo ++ F ++ L.drop hi).length = L.length := by simp [hF]; omega
  refine ⟨⟨c, by rw [e], by omega, h5⟩, ?_⟩
  rw [h3.row]
  simp only [List.nil_append, List.map_append, List.append_assoc]
end
end Go.Rl

/- Runs over the arrays of the digest, and plain facts on them. Conditions: each names its own. -/
import Derived.Test.YtlieingmahbmcaaDg1
namespace Go.Rl
open Go.RowKit Go.Proofs

theorem zero8 : (Try.prog.info? 67).map (·.zero) = some (some (.agg (List.replicate 8 (U32 0)).toArray)) := by kernel_rfl
theorem size8 : (Try.prog.info? 67).map (·.size) = some 8 := by kernel_rfl
section
variable {w : World} {g o : Nat} {T : TypeId}
theorem r_ix8 (i : Nat) (hi : i < 8) : (Instr.indexAt 67 (.pointer (some ⟨g, 0, none⟩)) (I (i : Int))).run Try.prog w = .ok (.pointer (some ⟨g, i, none⟩)) w := by
  have := r_ixA (P := Try.prog) (w := w) (g := g) (o := 0) Try.underlying67 size_u32 hi .i64
  rwa [Nat.zero_add] at this
theorem r_ix64 (i : Nat) (hi : i < 64) : (Instr.indexAt 79 (.pointer (some ⟨g, 0, none⟩)) (I (i : Int))).run Try.prog w = .ok (.pointer (some ⟨g, i, none⟩)) w := by
  have := r_ixA (P := Try.prog) (w := w) (g := g) (o := 0) Try.underlying79 size_u32 hi .i64
  rwa [Nat.zero_add] at this
theorem r_ldU {m : List UInt32} (h : Blk g T (m.map U32) w) (i : Nat) (hi : i < m.length) : (Instr.loadAt 64 (.pointer (some ⟨g, i, none⟩))).run Try.prog w = .ok (U32 (m.getD i 0)) w :=
  r_load1 Try.underlying64 rfl (h.cell (by simp [hi]))
theorem r_stU {m : List UInt32} {x : UInt32} (h : Blk g T (m.map U32) w) (i : Nat) (hi : i < m.length) : (Instr.storeAt 64 (.pointer (some ⟨g, i, none⟩)) (U32 x)).run Try.prog w = .ok () (w.setCell ⟨g, i, none⟩ (U32 x)) :=
  r_store1 size_u32 rfl h (by simpa using hi)
theorem Blk.setU {m : List UInt32} (h : Blk g T (m.map U32) w) (i : Nat) (x : UInt32) : Blk g T ((m.set i x).map U32) (w.setCell ⟨g, i, none⟩ (U32 x)) := by
  have := h.set i (U32 x)
  rwa [← List.map_set] at this
end
/-- The words so far, and zeros behind them. -/
def filled (l : List UInt32) : List UInt32 := l ++ List.replicate (64 - l.length) 0
theorem filled_len {l : List UInt32} (h : l.length ≤ 64) : (filled l).length = 64 := by simp [filled]; omega
theorem filled_get {l : List UInt32} {i : Nat} (h : i < l.length) : (filled l).getD i 0 = l.getD i 0 := by
  simp [filled, List.getD, List.getElem?_append_left h]
theorem filled_set {l : List UInt32} (x : UInt32) (h : l.length < 64) : (filled l).set l.length x = filled (l ++ [x]) := by
  unfold filled
  rw [List.set_append_right _ _ (Nat.le_refl _), Nat.sub_self]
  have : 64 - l.length = (64 - (l ++ [x]).length) + 1 := by simp; omega
  rw [this, List.replicate_succ, List.set_cons_zero, List.append_assoc]
  rfl
theorem words_snoc (b : List UInt8) (k : Nat) : words b (k + 1) = words b k ++ [word b k] := by simp [words, List.range_succ]
theorem words_len (b : List UInt8) (k : Nat) : (words b k).length = k := by simp [words]
/-- Sums of the first places. -/
def added (s v : List UInt32) (i : Nat) : List UInt32 := List.zipWith (· + ·) (s.take i) (v.take i) ++ s.drop i
theorem added_len {s v : List UInt32} (hs : s.length = 8) (hv : v.length = 8) {i : Nat} (hi : i ≤ 8) : (added s v i).length = 8 := by
  simp [added, hs, hv]; omega
theorem added_get {s v : List UInt32} (hs : s.length = 8) (hv : v.length = 8) {i : Nat} (hi : i < 8) : (added s v i).getD i 0 = s.getD i 0 := by
  have h : (List.zipWith (· + ·) (s.take i) (v.take i)).length = i := by simp [hs, hv]; omega
  simp only [added, List.getD_eq_getElem?_getD]
  rw [List.getElem?_append_right (by omega), h]
  simp
theorem added_set {s v : List UInt32} (hs : s.length = 8) (hv : v.length = 8) {i : Nat} (hi : i < 8) : (added s v i).set i (s.getD i 0 + v.getD i 0) = added s v (i + 1) := by
  have h : (List.zipWith (· + ·) (s.take i) (v.take i)).length = i := by simp [hs, hv]; omega
  have h1 : s.getD i 0 = s[i] := by simp [List.getD, hs, hi]
  have h2 : v.getD i 0 = v[i] := by simp [List.getD, hv, hi]
  unfold added
  rw [List.set_append_right _ _ (by omega), h, Nat.sub_self, h1, h2]
  rw [List.drop_eq_getElem_cons (by omega : i < s.length), List.set_cons_zero, List.take_succ_eq_append_getElem (by omega : i < s.length), List.take_succ_eq_append_getElem (by omega : i < v.length)]
  rw [List.zipWith_append (by simp [hs, hv])]
  simp
theorem added_all {s v : List UInt32} (hs : s.length = 8) (hv : v.length = 8) : added s v 8 = List.zipWith (· + ·) s v := by
  have h1 : s.take 8 = s := List.take_of_length_le (by omega)
  have h2 : v.take 8 = v := List.take_of_length_le (by omega)
  have h3 : s.drop 8 = [] := List.drop_eq_nil_of_le (by omega)
  unfold added
  rw [h1, h2, h3, List.append_nil]
end Go.Rl

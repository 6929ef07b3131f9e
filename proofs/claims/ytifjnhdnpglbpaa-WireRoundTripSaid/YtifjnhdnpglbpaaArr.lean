/- Arrays that lie in a block: runs. Conditions: each names its own. -/
import Derived.Test.YtifjnhdnpglbpaaStr
import Derived.Deep.MidRow
import Derived.Laws.CopyRow
namespace Go.Rl
open Go.RowKit Go.Proofs

section
variable {P : Program} {w w' : World} {t e T : TypeId} {n g o : Nat} {l : List Value}

/-- Block g holds these cells. -/
def Blk (g : Nat) (T : TypeId) (l : List Value) (w : World) : Prop := w.heap[g]? = some (.cells l.toArray T (0, 0))
theorem Blk.ext (h : Blk g T l w) (hx : Ext w w') : Blk g T l w' := hx.heap_some h
theorem Blk.lt (h : Blk g T l w) : g < w.heap.size := (Array.getElem?_eq_some_iff.1 h).1
theorem Blk.other {row : Option Nat} (h : Blk g T l w) (hg : w.grownBy w' row) (hne : some g ≠ row) : Blk g T l w' := (hg.block g h.lt hne).trans h
theorem Blk.cell (h : Blk g T l w) {i : Nat} {v : Value} (hi : l[i]? = some v) : w.cell? ⟨g, i, none⟩ = some v := cellAt h (by simpa using hi)
theorem Blk.set (h : Blk g T l w) (i : Nat) (u : Value) : Blk g T (l.set i u) (w.setCell ⟨g, i, none⟩ u) := by
  have := heap_set h i u
  simpa [Blk] using this
theorem Blk.new (v : Value) (hv : v.cells = l.toArray) : Blk w.heap.size T l (w.alloc (.cells v.cells T)) := by
  have := heap_alloc_new w (.cells v.cells T)
  rw [hv] at this ⊢
  exact this
theorem Blk.range (h : Blk g T l w) {m : List Value} (hm : ∀ j v, m[j]? = some v → l[o + j]? = some v) : w.rangeAt g o m := fun j v hj => h.cell (hm j v hj)

theorem r_ixA (ht : P.underlying t = some (.array n e)) (hs : (P.info? e).map (·.size) = some 1) {i : Nat} (hi : i < n) (k : IntKind) :
    (Instr.indexAt t (.pointer (some ⟨g, o, none⟩)) (.int k i)).run P w = .ok (.pointer (some ⟨g, o + i, none⟩)) w := by
  simp [Instr.indexAt, asIntOf, run_underlying ht, Instr.sureAddr, r_sizeOf hs, hi, Addr.add_mid]
theorem r_idx (ht : P.underlying t = some (.array n e)) (hs : (P.info? e).map (·.size) = some 1) {q : IntKind} (he : P.underlying e = some (.int q)) {i : Nat} (hi : i < n) (k : IntKind) {v : Value} (hv : l[i]? = some v) :
    (Instr.index t (.agg l.toArray) (.int k i)).run P w = .ok v w := by
  have hagg : (isAgg e).run P w = .ok false w := by simp [isAgg, run_underlying he]
  have hpart : (part e l.toArray i).run P w = .ok v w := by simp [part, hagg, hv]
  simp [Instr.index, asIntOf, run_underlying ht, hi, r_sizeOf hs, hpart]
theorem r_ldA {d : TypeDesc} {m : List Value} (h : Blk g T l w) (hm : ∀ j v, m[j]? = some v → l[o + j]? = some v) (hu : P.underlying t = some d) (hd : d.isRow = true) (hi : (P.info? t).map (·.size) = some m.length) :
    (Instr.loadAt t (.pointer (some ⟨g, o, none⟩))).run P w = .ok (.agg m.toArray) w := run_loadAt_mid w g o t m d (h.range hm) hu hd hi
/-- the whole block written anew -/
theorem r_stA {m : List Value} (h : Blk g T l w) (hl : l.length = m.length) (hi : (P.info? t).map (·.size) = some m.length) (h1 : ∀ v ∈ m, v.oneCell' = true) :
    (Instr.storeAt t (.pointer (some ⟨g, 0, none⟩)) (.agg m.toArray)).run P w = .ok () (w.setRow g m.toArray) := by
  have := run_storeVar_row (P := P) w g T t l.toArray m.toArray h (by simpa using hi) (by simpa using hl) (by simpa using h1)
  simp only [Instr.storeAt, Instr.sureAddr, Sem.run_bind, Sem.run_pure, Result.andThen_ok, this]
theorem Blk.row (h : Blk g T l w) (m : List Value) : Blk g T m (w.setRow g m.toArray) := setRow_heap w g _ _ T (0, 0) h
theorem grownBy_setRow (w : World) (g : Nat) (cs : Array Value) : w.grownBy (w.setRow g cs) (some g) :=
  ⟨rfl, rfl, rfl, by simp [World.setRow], fun k _ hne => setRow_other w g k cs fun e => hne (by rw [e])⟩
/-- a slice of an array that lies in a block -/
theorem r_slA_lo (ht : P.underlying t = some (.array n e)) (hs : (P.info? e).map (·.size) = some 1) {lo : Nat} (hi : lo < n) (k : IntKind) :
    (Instr.sliceAt t (.pointer (some ⟨g, o, none⟩)) (some (.int k lo)) none none).run P w = .ok (.slice (some ⟨g, o + lo, none⟩) (n - lo) (n - lo)) w := by
  have hb : (Instr.sliceBounds false n n (some (.int k lo)) none none).run P w = .ok (lo, n, n) w := by
    have a2 := run_sliceBound (P := P) (w := w) k (lo : Int) n .sliceB (by omega) (by omega)
    simp only [Int.toNat_natCast] at a2
    simp [Instr.sliceBounds, a2]
  have hne : ¬ n = lo := by omega
  simp [Instr.sliceAt, run_underlying ht, Instr.sureAddr, hb, r_sizeOf hs, hne, Addr.add_mid]
/-- A result that lies in a cell. -/
theorem r_bodyc {fn : Func} {R : Ending → World → Prop} {N : Nat} {fr : Fr} {p : Tmp} {d : TypeDesc} (hr : fn.results = #[.cell p t]) (hv : lk fr p = some (.pointer (some ⟨g, 0, none⟩))) (hb : Blk g T l w) (hu : P.underlying t = some d) (hd : d.isRow = true) (hi : (P.info? t).map (·.size) = some l.length)
    (h : R (.returned (.agg l.toArray)) w) : ExitJ (bodyPost P fn R) N [] fr w .ret := fun a ha =>
  ⟨ha.defers, .agg l.toArray, results_cell_row hr a.tmps w g T l.toArray (0, 0) d (ha.at_ p _ hv) hb hu (by cases d <;> first | rfl | exact hd) (by simpa using hi), h⟩
theorem one_of (m : List UInt32) : ∀ v ∈ m.map U32, v.oneCell' = true := by
  intro u hu
  obtain ⟨b, _, rfl⟩ := List.mem_map.1 hu
  rfl
end
theorem r_allocB {P : Program} {w : World} {t : TypeId} {z : Value} {l : List Value} (h : (P.info? t).map (·.zero) = some (some z)) (hv : z.cells = l.toArray) : ∃ g w', (Instr.alloc t true (.tuple #[])).run P w = .ok (.pointer (some ⟨g, 0, none⟩)) w' ∧ w.heap.size ≤ g ∧ Ext w w' ∧ Blk g t l w' :=
  ⟨_, _, r_alloc h, Nat.le_refl _, Ext.new w _, Blk.new z hv⟩
end Go.Rl

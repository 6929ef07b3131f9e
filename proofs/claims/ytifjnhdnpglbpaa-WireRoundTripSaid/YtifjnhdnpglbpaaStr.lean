/- Blocks, fields and structs: runs. Conditions: each names its own. -/
import Derived.Test.YtifjnhdnpglbpaaRun
import Derived.Laws.OwnMore
namespace Go.Rl
open Go.RowKit Go.Proofs

section
variable {P : Program} {w w' : World}

theorem r_sizeOf {t : TypeId} {n : Nat} (h : (P.info? t).map (·.size) = some n) : (sizeOf t).run P w = .ok n w := by
  obtain ⟨i, hi, rfl⟩ := Option.map_eq_some_iff.1 h
  simp [sizeOf, typeInfo, hi]
theorem r_zero {t : TypeId} {z : Value} (h : (P.info? t).map (·.zero) = some (some z)) : (zeroValue t).run P w = .ok z w := by
  obtain ⟨i, hi, h⟩ := Option.map_eq_some_iff.1 h
  simp [zeroValue, typeInfo, hi, h]

theorem r_box {t : TypeId} {v : Value} : (Instr.box t v).run P w = .ok (.pointer (some ⟨w.heap.size, 0, none⟩)) (w.alloc (.cells v.cells t)) := by
  simp [Instr.box, newVar, newRow]
theorem r_alloc {t : TypeId} {z : Value} (h : (P.info? t).map (·.zero) = some (some z)) : (Instr.alloc t true (.tuple #[])).run P w = .ok (.pointer (some ⟨w.heap.size, 0, none⟩)) (w.alloc (.cells z.cells t)) := by
  simp [Instr.alloc, r_zero h, newVar, newRow]
theorem r_fieldAt {s : TypeId} {fs : Array Field} {f : Field} {n k : Nat} {a : Addr} (hs : P.underlying s = some (.struct fs)) (hf : fs[n]? = some f) (hsz : (P.info? f.type).map (·.size) = some k) (hk : k ≠ 0) :
    (Instr.fieldAt s (.pointer (some a)) n).run P w = .ok (.pointer (some (a.add f.offset))) w := by
  simp [Instr.fieldAt, run_underlying hs, hf, Instr.sureAddr, fieldPlace, r_sizeOf hsz, hk]

/-- A cell of a block that is known whole. -/
theorem cellAt {g i : Nat} {cs : Array Value} {T : TypeId} {fr : Nat × Nat} {v : Value} (h : w.heap[g]? = some (.cells cs T fr)) (hi : cs[i]? = some v) : w.cell? ⟨g, i, none⟩ = some v := (cell_of_row w g i cs T fr h).trans hi

/-- What stands in a slice of bytes stands there still when a block without bytes is written. -/
theorem Sl.keep {sz : Nat} {xs : List Value} {v : Value} {g : Nat} {cs : Array Value} {T : TypeId} {fr : Nat × Nat} (h : Sl sz xs v w) (hg : w.heap[g]? = some (.cells cs T fr)) (hcs : ∀ (j : Nat) (u : Value), u ∈ xs → cs[j]? ≠ some u) (hw : w.grownBy w' (some g)) : Sl sz xs v w' := by
  obtain ⟨A, n, c, rfl, h1, h2, h3, h4, h5⟩ := h
  refine ⟨A, n, c, rfl, h1, h2, h3, fun hn => ?_, h5⟩
  obtain ⟨ad, rfl, hc⟩ := h4 hn
  refine ⟨ad, rfl, fun j u hu => ?_⟩
  have hcell := hc j u hu
  have hne : (ad.add j).block ≠ g := fun he => by
    have hmem : u ∈ xs := List.mem_of_getElem? hu
    have : w.cell? (ad.add j) = cs[(ad.add j).off]? := by
      have hs : (ad.add j).spot = none := World.cell?_spot hcell
      have e : ad.add j = ⟨g, (ad.add j).off, none⟩ := by
        cases hx : ad.add j with
        | mk b o s =>
          rw [hx] at hs he
          simp only at hs he
          rw [hs, he]
      rw [e]
      exact cell_of_row w g _ cs T fr hg
    rw [hcell] at this
    exact hcs _ u hmem this.symm
  have hlt := World.block_lt_of_cell? w (ad.add j) hcell
  exact (World.cell?_of_block (hw.block _ hlt (fun e => hne (Option.some.inj e)))).trans hcell
end

section
variable {w : World}
/-- make([]byte, 0, n) and make([]byte, n) -/
theorem r_mkB0 (base : Nat) {n : Nat} (hn : n ≤ 281474976710656) (hb : base ≤ w.heap.size) :
    ∃ r w', (Instr.makeSlice 22 (I 0) (I (n : Int))).run Try.prog w = .ok r w' ∧ Ext w w' ∧ OwnB base [] r w' ∧ r.ownBlock = some w.heap.size := by
  obtain ⟨i, hi, hz, hs, hby⟩ := info_parts info_u8
  have hrun := run_make (P := Try.prog) w 22 5 i _ Try.underlying22 hi hz .i64 .i64 0 (n : Int) (by omega) (by omega) (by rw [hby]; omega) (by omega)
  refine ⟨_, _, hrun, Ext.new _ _, ⟨0, ?_⟩, rfl⟩
  have := World.ownsRow_made (base := base) (e := 5) (size := 1) w (madeCells (Value.int .u8 0).cells ((n : Int).toNat * i.size)) n hb (by unfold maxLen; omega) (by rw [hs]; simp [madeCells])
  simpa using this
theorem r_mkB (base : Nat) {n : Nat} (hn : n ≤ 281474976710656) (hb : base ≤ w.heap.size) :
    ∃ r w', (Instr.makeSlice 22 (I (n : Int)) (I (n : Int))).run Try.prog w = .ok r w' ∧ Ext w w' ∧ OwnB base (List.replicate n 0) r w' ∧ r.ownBlock = some w.heap.size := by
  obtain ⟨i, hi, hz, hs, hby⟩ := info_parts info_u8
  have hrun := run_make (P := Try.prog) w 22 5 i _ Try.underlying22 hi hz .i64 .i64 (n : Int) (n : Int) (by omega) (by omega) (by rw [hby]; omega) (by omega)
  refine ⟨_, _, hrun, Ext.new _ _, ⟨n, ?_⟩, rfl⟩
  have := World.ownsRow_lit (base := base) (e := 5) (size := 1) w (madeCells (Value.int .u8 0).cells ((n : Int).toNat * i.size)) n hb (by unfold maxLen; omega) (by rw [hs]; simp [madeCells])
  have e : (madeCells (Value.int .u8 0).cells ((n : Int).toNat * i.size)).toList = (List.replicate n (0 : UInt8)).map U8 := by
    rw [hs]
    have h2 := toList_madeCells_one (.int .u8 0) n
    simp only [Value.cells, Int.toNat_natCast, Nat.mul_one, List.map_replicate] at h2 ⊢
    rw [h2]; rfl
  rw [e] at this
  simpa using this
end
end Go.Rl

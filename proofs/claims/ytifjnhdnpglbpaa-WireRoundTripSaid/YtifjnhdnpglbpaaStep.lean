/- A split on a decided bool, and stores into a row of bytes of the call's own. Conditions: each names its own. -/
import Derived.Test.YtifjnhdnpglbpaaStr
namespace Go.Rl
open Go.RowKit Go.Proofs

section
variable {P : Program} {ops : Array Oper} {Q : Post} {N : Nat} {D : List Deferred} {l : Fr} {w : World} {rest : List Oper} {d : Nat}
theorem o_dec {p : Prop} {dp : Decidable p} (ht : p → OpsJ P ops Q N D ((d, B true) :: l) w rest) (hf : ¬ p → OpsJ P ops Q N D ((d, B false) :: l) w rest) : OpsJ P ops Q N D ((d, B (@decide p dp)) :: l) w rest := by
  by_cases h : p
  · rw [decide_eq_true h]; exact ht h
  · rw [decide_eq_false h]; exact hf h
end

theorem Ext.of_grew {w0 w w' : World} {v r : Value} (h : Ext w0 w) (hg : Grew w w' v r) (hv : ∀ k, v.ownBlock = some k → w0.heap.size ≤ k) : Ext w0 w' := h.of_grown hg.grown hv
theorem OwnB.ge {base : Nat} {l : List UInt8} {v : Value} {w : World} (h : OwnB base l v w) : ∀ k, v.ownBlock = some k → base ≤ k := fun k hk => h.elim fun _ h => (World.ownsRow.lt h k hk).1
theorem Ext.of_new {w w1 w2 : World} {g : Nat} (hx : Ext w w1) (hg : w1.grownBy w2 (some g)) (h : w.heap.size ≤ g) : Ext w w2 :=
  hx.of_grown hg fun k hk => by
    obtain rfl := Option.some.inj hk
    exact h
theorem gb_ext {w w' : World} {row : Option Nat} (h : Ext w w') : w.grownBy w' row := ⟨h.os, h.tape, h.output, h.size, fun _ hi _ => h.heap hi⟩
section
variable {w : World}
theorem OwnB.setB {base : Nat} {l : List UInt8} {v : Value} (h : OwnB base l v w) {i : Nat} (hi : i < l.length) (x : UInt8) :
    ∃ g w', (∀ u : World, (Instr.indexAt 22 v (I (i : Int))).run Try.prog u = .ok (.pointer (some ⟨g, i, none⟩)) u) ∧ (Instr.storeAt 5 (.pointer (some ⟨g, i, none⟩)) (U8 x)).run Try.prog w = .ok () w' ∧
      OwnB base (l.set i x) v w' ∧ w.grownBy w' (some g) ∧ base ≤ g ∧ w.cell? ⟨g, i, none⟩ = some (U8 l[i]) ∧ v.ownBlock = some g := by
  obtain ⟨n, hn⟩ := id h
  have hnl : l.length = n := by simpa using hn.1
  obtain ⟨ad, hix, hcell⟩ := r_ixB h.bts hi .i64
  rcases hn.2 with ⟨_, h0⟩ | ⟨g, cap, cur, rfl, hb, hg, hnc, hcm, hcs, htk⟩
  · omega
  · have hlt : i < cur.size := by omega
    have had : ad = ⟨g, i, none⟩ := by
      have h1 := hix w
      obtain ⟨ti, hi', hs⟩ := Option.map_eq_some_iff.1 size_u8
      have hin : i < n := by omega
      have h2 : (Instr.indexAt 22 (.slice (some ⟨g, 0, none⟩) n cap) (.int .i64 i)).run Try.prog w = .ok (.pointer (some ⟨g, i, none⟩)) w := by
        simp [Instr.indexAt, asIntOf, run_underlying Try.underlying22, hin, sizeOf, typeInfo, hi', hs, add_mk]
      rw [h2] at h1
      simp at h1
      exact h1.symm
    subst had
    refine ⟨g, w.setCell ⟨g, i, none⟩ (U8 x), hix, r_store1 size_u8 rfl hg hlt, ⟨n, ?_, .inr ⟨g, cap, cur.setIfInBounds i (U8 x), rfl, hb, heap_set hg i (U8 x), hnc, hcm, by simpa using hcs, ?_⟩⟩, grownBy_setCell w g i _, hb, hcell, rfl⟩
    · simpa using hnl
    · rw [List.map_set, ← htk, Array.toList_setIfInBounds, List.take_set]
theorem OwnB.kept {base : Nat} {l : List UInt8} {v : Value} {w' : World} (h : OwnB base l v w) {row : Option Nat} (hg : w.grownBy w' row) (hne : v.ownBlock = none ∨ v.ownBlock ≠ row) : OwnB base l v w' :=
  h.elim fun n h => ⟨n, World.ownsRow.kept h hg hne⟩
theorem OwnB.off {base : Nat} {l : List UInt8} {v : Value} (h : OwnB base l v w) {g : Nat} (hg : g < base) : v.ownBlock ≠ some g := fun he => by
  obtain ⟨n, h⟩ := h
  have := (World.ownsRow.lt h g he).1
  omega
end
end Go.Rl

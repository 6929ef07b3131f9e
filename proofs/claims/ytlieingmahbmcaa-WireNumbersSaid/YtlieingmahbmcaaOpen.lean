/- How the arguments of a statement read. Conditions: the arguments can be read as data. -/
import Derived.Test.YtlieingmahbmcaaRun
import Derived.ProofKit
import Derived.OpenShut
import Derived.ShutString
import Derived.ChangeOld
namespace Go.Rl
open Go.ChangeShapes Go.WideShapes Go.ChangeAt Go.RowKit Go.Proofs
open Go.ChangeMaps (open_string shut_string)

section
variable {P : Program} {H : Type} {enc : TypeId × Value → H} {W : World} {base : Nat} {spare : Nat → Bool} {held : Bool} {r : Reach} {b0 : Nat} {v : Value} {d : DataW H} {ps : List MemPlace}

theorem wf_U8 {n : Int} (h : (Lit.int .u8 n).wf = true) : ∃ x : UInt8, n = (x.toNat : Int) := by
  have hb : 0 ≤ n ∧ n ≤ 255 := by simpa [Lit.wf, IntKind.min, IntKind.max, IntKind.signed, IntKind.bits] using h
  exact ⟨UInt8.ofNat n.toNat, by rw [UInt8.toNat_ofNat']; omega⟩
theorem wf_U32 {n : Int} (h : (Lit.int .u32 n).wf = true) : ∃ x : UInt32, n = (x.toNat : Int) := by
  have hb : 0 ≤ n ∧ n ≤ 4294967295 := by simpa [Lit.wf, IntKind.min, IntKind.max, IntKind.signed, IntKind.bits] using h
  exact ⟨UInt32.ofNat n.toNat, by rw [UInt32.toNat_ofNat']; omega⟩
theorem wf_U64 {n : Int} (h : (Lit.int .u64 n).wf = true) : ∃ x : UInt64, n = (x.toNat : Int) := by
  have hb : 0 ≤ n ∧ n ≤ 18446744073709551615 := by simpa [Lit.wf, IntKind.min, IntKind.max, IntKind.signed, IntKind.bits] using h
  exact ⟨UInt64.ofNat n.toNat, by rw [UInt64.toNat_ofNat']; omega⟩
theorem wf_I {n : Int} (h : (Lit.int .i64 n).wf = true) : -9223372036854775808 ≤ n ∧ n ≤ 9223372036854775807 := by
  simpa [Lit.wf, IntKind.min, IntKind.max, IntKind.signed, IntKind.bits] using h

theorem ints_U8 : ∀ (zs : List Int), (∀ n ∈ zs, (Lit.int .u8 n).wf = true) → ∃ l : List UInt8, zs.map (Value.int .u8) = l.map U8
  | [], _ => ⟨[], rfl⟩
  | z :: zs, h => by
    obtain ⟨x, hx⟩ := wf_U8 (h z (by simp))
    obtain ⟨l, hl⟩ := ints_U8 zs fun n hn => h n (by simp [hn])
    exact ⟨x :: l, by rw [List.map_cons, List.map_cons, hl, hx]; rfl⟩
theorem ints_U32 : ∀ (zs : List Int), (∀ n ∈ zs, (Lit.int .u32 n).wf = true) → ∃ l : List UInt32, zs.map (Value.int .u32) = l.map U32
  | [], _ => ⟨[], rfl⟩
  | z :: zs, h => by
    obtain ⟨x, hx⟩ := wf_U32 (h z (by simp))
    obtain ⟨l, hl⟩ := ints_U32 zs fun n hn => h n (by simp [hn])
    exact ⟨x :: l, by rw [List.map_cons, List.map_cons, hl, hx]; rfl⟩

/-- A slice of integers, read. -/
theorem open_Sl {t e : TypeId} {k : IntKind} (ht : P.underlying t = some (.slice e)) (he : P.underlying e = some (.int k)) (hc : P.cellsOf e = 1) (ho : Value.okWide P W r b0 t v) (h : DataW.Trod enc P W base spare held t v d ps) :
    ∃ zs : List Int, Sl 1 (zs.map (Value.int k)) v W ∧ ∀ n ∈ zs, (Lit.int k n).wf = true := by
  obtain ⟨a, len, cap, rfl⟩ := okWide_slice ht ho
  obtain ⟨fuel, hf⟩ := h
  rcases open_ints ht he hc hf with ⟨hcs, _⟩ | ⟨x, l, c, zs, hcs, _, hl, hm, hz, _, hcell, hwz⟩
  · simp [Value.cells] at hcs
    obtain ⟨rfl, rfl, rfl⟩ := hcs
    exact ⟨[], Sl.nil 1 W, by simp⟩
  · simp [Value.cells] at hcs
    obtain ⟨rfl, rfl, rfl⟩ := hcs
    have hle : len ≤ zs.length := by
      rw [hz]; split <;> omega
    refine ⟨zs.take len, ⟨some x, len, cap, rfl, hl, hm, by simp [hle], fun _ => ⟨x, rfl, fun j u hu => ?_⟩, fun h => by cases h⟩, fun n hn => hwz n (List.mem_of_mem_take hn)⟩
    rw [List.getElem?_map, Option.map_eq_some_iff] at hu
    obtain ⟨z, hz1, rfl⟩ := hu
    rw [List.getElem?_take] at hz1
    split at hz1
    · rename_i hjl
      have hj : j < zs.length := by omega
      have := hcell j hj
      rw [List.getElem?_eq_getElem hj] at hz1
      rw [this]
      simp only [Option.some.injEq] at hz1
      rw [← hz1]
      simp [List.getD, List.getElem?_eq_getElem hj]
    · cases hz1
theorem open_Bts {t e : TypeId} (ht : P.underlying t = some (.slice e)) (he : P.underlying e = some (.int .u8)) (hc : P.cellsOf e = 1) (ho : Value.okWide P W r b0 t v) (h : DataW.Trod enc P W base spare held t v d ps) : ∃ l, Bts l v W := by
  obtain ⟨zs, h1, h2⟩ := open_Sl ht he hc ho h
  obtain ⟨l, hl⟩ := ints_U8 zs h2
  exact ⟨l, by unfold Bts; rw [← hl]; exact h1⟩
theorem open_Wds {t e : TypeId} (ht : P.underlying t = some (.slice e)) (he : P.underlying e = some (.int .u32)) (hc : P.cellsOf e = 1) (ho : Value.okWide P W r b0 t v) (h : DataW.Trod enc P W base spare held t v d ps) : ∃ l, Wds l v W := by
  obtain ⟨zs, h1, h2⟩ := open_Sl ht he hc ho h
  obtain ⟨l, hl⟩ := ints_U32 zs h2
  exact ⟨l, by unfold Wds; rw [← hl]; exact h1⟩
theorem open_U64 {t : TypeId} (ht : P.underlying t = some (.int .u64)) (ho : Value.okWide P W r b0 t v) (h : DataW.Trod enc P W base spare held t v d ps) : ∃ x, v = U64 x := by
  obtain ⟨n, rfl, _, _, hw⟩ := open_int ht ho h
  obtain ⟨x, rfl⟩ := wf_U64 hw
  exact ⟨x, rfl⟩
theorem open_U32 {t : TypeId} (ht : P.underlying t = some (.int .u32)) (ho : Value.okWide P W r b0 t v) (h : DataW.Trod enc P W base spare held t v d ps) : ∃ x, v = U32 x := by
  obtain ⟨n, rfl, _, _, hw⟩ := open_int ht ho h
  obtain ⟨x, rfl⟩ := wf_U32 hw
  exact ⟨x, rfl⟩
theorem open_U8 {t : TypeId} (ht : P.underlying t = some (.int .u8)) (ho : Value.okWide P W r b0 t v) (h : DataW.Trod enc P W base spare held t v d ps) : ∃ x, v = U8 x := by
  obtain ⟨n, rfl, _, _, hw⟩ := open_int ht ho h
  obtain ⟨x, rfl⟩ := wf_U8 hw
  exact ⟨x, rfl⟩
theorem open_I {t : TypeId} (ht : P.underlying t = some (.int .i64)) (ho : Value.okWide P W r b0 t v) (h : DataW.Trod enc P W base spare held t v d ps) : ∃ x, v = I x ∧ -9223372036854775808 ≤ x ∧ x ≤ 9223372036854775807 := by
  obtain ⟨n, rfl, _, _, hw⟩ := open_int ht ho h
  exact ⟨n, rfl, wf_I hw⟩
theorem open_B {t : TypeId} (ht : P.underlying t = some .bool) (ho : Value.okWide P W r b0 t v) (h : DataW.Trod enc P W base spare held t v d ps) : ∃ x, v = B x := by
  obtain ⟨n, rfl, _, _⟩ := open_bool ht ho h
  exact ⟨n, rfl⟩
theorem open_S {t : TypeId} (ht : P.underlying t = some .string) (ho : Value.okWide P W r b0 t v) (h : DataW.Trod enc P W base spare held t v d ps) : ∃ l, v = S l ∧ l.length ≤ 9223372036854775807 := by
  obtain ⟨s, rfl, _, _, hs⟩ := open_string ht ho h
  refine ⟨s.data.toList, rfl, ?_⟩
  unfold maxLen at hs
  have : s.data.toList.length = s.size := rfl
  omega
end
end Go.Rl

/- How the arguments of a statement read. Conditions: the arguments can be read as data. -/
import Derived.Test.YtifjnhdnpglbpaaRun
import Derived.ProofKit
import Derived.OpenShut
import Derived.ShutString
import Derived.SliceStrings
import Derived.ChangeOld
namespace Go.Rl
open Go.ChangeShapes Go.WideShapes Go.ChangeAt Go.RowKit Go.Proofs
open Go.ChangeMaps (open_string shut_string)

section
variable {P : Program} {H : Type} {enc : TypeId × Value → H} {W : World} {base : Nat} {spare : Nat → Bool} {held : Bool} {r : Reach} {b0 : Nat} {v : Value} {d : DataW H} {ps : List MemPlace}

theorem wf_U8 {n : Int} (h : (Lit.int .u8 n).wf = true) : ∃ x : UInt8, n = (x.toNat : Int) := by
  have hb : 0 ≤ n ∧ n ≤ 255 := by simpa [Lit.wf, IntKind.min, IntKind.max, IntKind.signed, IntKind.bits] using h
  exact ⟨UInt8.ofNat n.toNat, by rw [UInt8.toNat_ofNat']; omega⟩
theorem wf_U32 {n : Int} (h : (Lit.int .u32 n).wf = true) : ∃ x : UInt32, n = (x.toNat : Int) := by
  have hb : 0 ≤ n ∧ n ≤ 4294967295 := by simpa [Lit.wf, IntKind.min, IntKind.max, IntKind.signed, IntKind.bits] using h
  exact ⟨UInt32.ofNat n.toNat, by rw [UInt32.toNat_ofNat']; omega⟩
theorem wf_U64 {n : Int} (h : (Lit.int .u64 n).wf = true) : ∃ x : UInt64, n = (x.toNat : Int) := by
  have hb : 0 ≤ n ∧ n ≤ 18446744073709551615 := by simpa [Lit.wf, IntKind.min, IntKind.max, IntKind.signed, IntKind.bits] using h
  exact ⟨UInt64.ofNat n.toNat, by rw [UInt64.toNat_ofNat']; omega⟩
theorem wf_I {n : Int} (h : (Lit.int .i64 n).wf = true) : -9223372036854775808 ≤ n ∧ n ≤ 9223372036854775807 := by
  simpa [Lit.wf, IntKind.min, IntKind.max, IntKind.signed, IntKind.bits] using h

theorem ints_U8 : ∀ (zs : List Int), (∀ n ∈ zs, (Lit.int .u8 n).wf = true) → ∃ l : List UInt8, zs.map (Value.int .u8) = l.map U8
  | [], _ => ⟨[], rfl⟩
  | z :: zs, h => by
    obtain ⟨x, hx⟩ := wf_U8 (h z (by simp))
    obtain ⟨l, hl⟩ := ints_U8 zs fun n hn => h n (by simp [hn])
    exact ⟨x :: l, by rw [List.map_cons, List.map_cons, hl, hx]; rfl⟩
theorem ints_U32 : ∀ (zs : List Int), (∀ n ∈ zs, (Lit.int .u32 n).wf = true) → ∃ l : List UInt32, zs.map (Value.int .u32) = l.map U32
  | [], _ => ⟨[], rfl⟩
  | z :: zs, h => by
    obtain ⟨x, hx⟩ := wf_U32 (h z (by simp))
    obtain ⟨l, hl⟩ := ints_U32 zs fun n hn => h n (by simp [hn])
    exact ⟨x :: l, by rw [List.map_cons, List.map_cons, hl, hx]; rfl⟩

/-- A slice of integers, read. -/
theorem open_slc {t e : TypeId} {k : IntKind} {fuel : Nat} {cs : List Value} {x : DataW H × List MemPlace} (ht : P.underlying t = some (.slice e)) (he : P.underlying e = some (.int k)) (hc : P.cellsOf e = 1) (hf : DataW.trod enc P W base spare held fuel t cs = some x) :
    ∃ v, cs = [v] ∧ v.oneCell' = true ∧ ∃ zs : List Int, Sl 1 (zs.map (Value.int k)) v W ∧ ∀ n ∈ zs, (Lit.int k n).wf = true := by
  rcases open_ints ht he hc hf with ⟨hcs, _⟩ | ⟨x, l, c, zs, hcs, _, hl, hm, hz, _, hcell, hwz⟩
  · exact ⟨_, hcs, rfl, [], Sl.nil 1 W, by simp⟩
  · have hle : l ≤ zs.length := by
      rw [hz]; split <;> omega
    refine ⟨_, hcs, rfl, zs.take l, ⟨some x, l, c, rfl, hl, hm, by simp [hle], fun _ => ⟨x, rfl, fun j u hu => ?_⟩, fun h => by cases h⟩, fun n hn => hwz n (List.mem_of_mem_take hn)⟩
    rw [List.getElem?_map, Option.map_eq_some_iff] at hu
    obtain ⟨z, hz1, rfl⟩ := hu
    rw [List.getElem?_take] at hz1
    split at hz1
    · rename_i hjl
      have hj : j < zs.length := by omega
      have := hcell j hj
      rw [List.getElem?_eq_getElem hj] at hz1
      rw [this]
      simp only [Option.some.injEq] at hz1
      rw [← hz1]
      simp [List.getD, List.getElem?_eq_getElem hj]
    · cases hz1
theorem open_Sl {t e : TypeId} {k : IntKind} (ht : P.underlying t = some (.slice e)) (he : P.underlying e = some (.int k)) (hc : P.cellsOf e = 1) (ho : Value.okWide P W r b0 t v) (h : DataW.Trod enc P W base spare held t v d ps) :
    ∃ zs : List Int, Sl 1 (zs.map (Value.int k)) v W ∧ ∀ n ∈ zs, (Lit.int k n).wf = true := by
  obtain ⟨a, len, cap, rfl⟩ := okWide_slice ht ho
  obtain ⟨fuel, hf⟩ := h
  obtain ⟨v, hv, _, h⟩ := open_slc ht he hc hf
  simp [Value.cells] at hv
  subst hv
  exact h
/-- A rational: a struct of a bool and two rows of limbs. -/
theorem open_Rat {t t0 t1 e : TypeId} {f0 f1 f2 : Field} (ht : P.underlying t = some (.struct #[f0, f1, f2])) (h0 : f0.type = t0 ∧ f0.offset = 0) (h1 : f1.type = t1 ∧ f1.offset = 1) (h2 : f2.type = t1 ∧ f2.offset = 2) (hb : P.underlying t0 = some .bool) (hs : P.underlying t1 = some (.slice e))
    (he : P.underlying e = some (.int .u32)) (hc : P.cellsOf e = 1) (hcb : P.cellsOf t0 = 1) (hcs : P.cellsOf t1 = 1) (hct : P.cellsOf t = 3) (ho : Value.okWide P W r b0 t v) (h : DataW.Trod enc P W base spare held t v d ps) :
    ∃ b x y n m, v = .agg #[B b, x, y] ∧ x.oneCell' = true ∧ y.oneCell' = true ∧ Wds n x W ∧ Wds m y W := by
  obtain ⟨cs, rfl, hsz⟩ := okWide_struct ht ho
  obtain ⟨fuel, hf⟩ := h
  have hcells : (Value.agg cs).cells = cs := rfl
  rw [hcells] at hf
  obtain ⟨xs, n, _, _, hl, hlen, hall⟩ := DataW.trod_struct ht hf
  have hl3 : cs.toList.length = 3 := by rw [hl, hct]
  obtain ⟨c0, c1, c2, hcs3⟩ : ∃ a b c, cs.toList = [a, b, c] := by
    match hq : cs.toList, hl3 with
    | [a, b, c], _ => exact ⟨a, b, c, rfl⟩
  have a0 := hall 0 f0 rfl
  have a1 := hall 1 f1 rfl
  have a2 := hall 2 f2 rfl
  rw [hcs3, h0.1, h0.2, hcb] at a0
  rw [hcs3, h1.1, h1.2, hcs] at a1
  rw [hcs3, h2.1, h2.2, hcs] at a2
  simp only [List.drop_zero, List.drop_succ_cons, List.take_succ_cons, List.take_zero] at a0 a1 a2
  have l3 : xs.length = 3 := by rw [hlen]; rfl
  obtain ⟨y0, hy0⟩ : ∃ y, xs[0]? = some y := ⟨xs[0], List.getElem?_eq_getElem (by omega)⟩
  obtain ⟨y1, hy1⟩ : ∃ y, xs[1]? = some y := ⟨xs[1], List.getElem?_eq_getElem (by omega)⟩
  obtain ⟨y2, hy2⟩ : ∃ y, xs[2]? = some y := ⟨xs[2], List.getElem?_eq_getElem (by omega)⟩
  rw [hy0] at a0
  rw [hy1] at a1
  rw [hy2] at a2
  obtain ⟨b, hb0, _⟩ := DataW.trod_bool hb a0
  obtain ⟨v1, hv1, o1, z1, s1, w1⟩ := open_slc hs he hc a1
  obtain ⟨v2, hv2, o2, z2, s2, w2⟩ := open_slc hs he hc a2
  obtain ⟨l1, hl1⟩ := ints_U32 z1 w1
  obtain ⟨l2, hl2⟩ := ints_U32 z2 w2
  simp only [List.cons.injEq, and_true] at hb0 hv1 hv2
  subst hb0 hv1 hv2
  refine ⟨b, c1, c2, l1, l2, ?_, o1, o2, by unfold Wds; rw [← hl1]; exact s1, by unfold Wds; rw [← hl2]; exact s2⟩
  rw [← Array.toArray_toList (xs := cs), hcs3]
  rfl
/-- A slice of texts, read. -/
theorem open_Txs {t e : TypeId} (ht : P.underlying t = some (.slice e)) (he : P.underlying e = some .string) (hc : P.cellsOf e = 1) (ho : Value.okWide P W r b0 t v) (h : DataW.Trod enc P W base spare held t v d ps) :
    ∃ l : List (List UInt8), Txs l v W ∧ ∀ s ∈ l, s.length ≤ 9223372036854775807 := by
  obtain ⟨a, len, cap, rfl⟩ := okWide_slice ht ho
  obtain ⟨fuel, hf⟩ := h
  rcases Go.ChangeShapes.open_strings ht he hc hf with ⟨hcs, _⟩ | ⟨x, l, c, ss, hcs, _, hl, hm, hz, _, hcell, hwz⟩
  · simp [Value.cells] at hcs
    obtain ⟨rfl, rfl, rfl⟩ := hcs
    exact ⟨[], Sl.nil 1 W, by simp⟩
  · simp [Value.cells] at hcs
    obtain ⟨rfl, rfl, rfl⟩ := hcs
    have hle : len ≤ ss.length := by
      rw [hz]; split <;> omega
    refine ⟨(ss.take len).map fun s => s.data.toList, ⟨some x, len, cap, rfl, hl, hm, by simp [hle], fun _ => ⟨x, rfl, fun j u hu => ?_⟩, fun h => by cases h⟩, fun s hs => ?_⟩
    · rw [List.map_map, List.getElem?_map, Option.map_eq_some_iff] at hu
      obtain ⟨z, hz1, rfl⟩ := hu
      rw [List.getElem?_take] at hz1
      split at hz1
      · have hj : j < ss.length := by omega
        rw [hcell j hj]
        rw [List.getElem?_eq_getElem hj] at hz1
        simp only [Option.some.injEq] at hz1
        rw [← hz1]
        simp [List.getD, List.getElem?_eq_getElem hj, S]
      · cases hz1
    · obtain ⟨b, hb, rfl⟩ := List.mem_map.1 hs
      have := hwz b (List.mem_of_mem_take hb)
      unfold maxLen at this
      have : b.data.toList.length = b.size := rfl
      omega
theorem open_Bts {t e : TypeId} (ht : P.underlying t = some (.slice e)) (he : P.underlying e = some (.int .u8)) (hc : P.cellsOf e = 1) (ho : Value.okWide P W r b0 t v) (h : DataW.Trod enc P W base spare held t v d ps) : ∃ l, Bts l v W := by
  obtain ⟨zs, h1, h2⟩ := open_Sl ht he hc ho h
  obtain ⟨l, hl⟩ := ints_U8 zs h2
  exact ⟨l, by unfold Bts; rw [← hl]; exact h1⟩
theorem open_Wds {t e : TypeId} (ht : P.underlying t = some (.slice e)) (he : P.underlying e = some (.int .u32)) (hc : P.cellsOf e = 1) (ho : Value.okWide P W r b0 t v) (h : DataW.Trod enc P W base spare held t v d ps) : ∃ l, Wds l v W := by
  obtain ⟨zs, h1, h2⟩ := open_Sl ht he hc ho h
  obtain ⟨l, hl⟩ := ints_U32 zs h2
  exact ⟨l, by unfold Wds; rw [← hl]; exact h1⟩
theorem open_U64 {t : TypeId} (ht : P.underlying t = some (.int .u64)) (ho : Value.okWide P W r b0 t v) (h : DataW.Trod enc P W base spare held t v d ps) : ∃ x, v = U64 x := by
  obtain ⟨n, rfl, _, _, hw⟩ := open_int ht ho h
  obtain ⟨x, rfl⟩ := wf_U64 hw
  exact ⟨x, rfl⟩
theorem open_U32 {t : TypeId} (ht : P.underlying t = some (.int .u32)) (ho : Value.okWide P W r b0 t v) (h : DataW.Trod enc P W base spare held t v d ps) : ∃ x, v = U32 x := by
  obtain ⟨n, rfl, _, _, hw⟩ := open_int ht ho h
  obtain ⟨x, rfl⟩ := wf_U32 hw
  exact ⟨x, rfl⟩
theorem open_U8 {t : TypeId} (ht : P.underlying t = some (.int .u8)) (ho : Value.okWide P W r b0 t v) (h : DataW.Trod enc P W base spare held t v d ps) : ∃ x, v = U8 x := by
  obtain ⟨n, rfl, _, _, hw⟩ := open_int ht ho h
  obtain ⟨x, rfl⟩ := wf_U8 hw
  exact ⟨x, rfl⟩
theorem open_I {t : TypeId} (ht : P.underlying t = some (.int .i64)) (ho : Value.okWide P W r b0 t v) (h : DataW.Trod enc P W base spare held t v d ps) : ∃ x, v = I x ∧ -9223372036854775808 ≤ x ∧ x ≤ 9223372036854775807 := by
  obtain ⟨n, rfl, _, _, hw⟩ := open_int ht ho h
  exact ⟨n, rfl, wf_I hw⟩
theorem open_B {t : TypeId} (ht : P.underlying t = some .bool) (ho : Value.okWide P W r b0 t v) (h : DataW.Trod enc P W base spare held t v d ps) : ∃ x, v = B x := by
  obtain ⟨n, rfl, _, _⟩ := open_bool ht ho h
  exact ⟨n, rfl⟩
theorem open_S {t : TypeId} (ht : P.underlying t = some .string) (ho : Value.okWide P W r b0 t v) (h : DataW.Trod enc P W base spare held t v d ps) : ∃ l, v = S l ∧ l.length ≤ 9223372036854775807 := by
  obtain ⟨s, rfl, _, _, hs⟩ := open_string ht ho h
  refine ⟨s.data.toList, rfl, ?_⟩
  unfold maxLen at hs
  have : s.data.toList.length = s.size := rfl
  omega
end
end Go.Rl

/- How the arguments of a statement read. Conditions: the arguments can be read as data. -/
import Derived.Test.YtaehfoogjjglcaaAm1
import Derived.ProofKit
import Derived.OpenShut
import Derived.ShutString
import Derived.SliceStrings
import Derived.ChangeOld
import Derived.RowKit
import Derived.OrdersHeld
namespace Go.Rl
open Go.ChangeShapes Go.WideShapes Go.ChangeAt Go.RowKit Go.Proofs
open Go.ChangeMaps (open_string shut_string)

section
variable {P : Program} {H : Type} {enc : TypeId × Value → H} {W : World} {base : Nat} {spare : Nat → Bool} {held : Bool} {r : Reach} {b0 : Nat} {v : Value} {d : DataW H} {ps : List MemPlace}

theorem wf_U8 {n : Int} (h : (Lit.int .u8 n).wf = true) : ∃ x : UInt8, n = (x.toNat : Int) := by
  have hb : 0 ≤ n ∧ n ≤ 255 := by simpa [Lit.wf, IntKind.min, IntKind.max, IntKind.signed, IntKind.bits] using h
  exact ⟨UInt8.ofNat n.toNat, by rw [UInt8.toNat_ofNat']; omega⟩
theorem wf_U32 {n : Int} (h : (Lit.int .u32 n).wf = true) : ∃ x : UInt32, n = (x.toNat : Int) := by
  have hb : 0 ≤ n ∧ n ≤ 4294967295 := by simpa [Lit.wf, IntKind.min, IntKind.max, IntKind.signed, IntKind.bits] using h
  exact ⟨UInt32.ofNat n.toNat, by rw [UInt32.toNat_ofNat']; omega⟩
theorem wf_U64 {n : Int} (h : (Lit.int .u64 n).wf = true) : ∃ x : UInt64, n = (x.toNat : Int) := by
  have hb : 0 ≤ n ∧ n ≤ 18446744073709551615 := by simpa [Lit.wf, IntKind.min, IntKind.max, IntKind.signed, IntKind.bits] using h
  exact ⟨UInt64.ofNat n.toNat, by rw [UInt64.toNat_ofNat']; omega⟩
theorem wf_I {n : Int} (h : (Lit.int .i64 n).wf = true) : -9223372036854775808 ≤ n ∧ n ≤ 9223372036854775807 := by
  simpa [Lit.wf, IntKind.min, IntKind.max, IntKind.signed, IntKind.bits] using h

theorem ints_U8 : ∀ (zs : List Int), (∀ n ∈ zs, (Lit.int .u8 n).wf = true) → ∃ l : List UInt8, zs.map (Value.int .u8) = l.map U8
  | [], _ => ⟨[], rfl⟩
  | z :: zs, h => by
    obtain ⟨x, hx⟩ := wf_U8 (h z (by simp))
    obtain ⟨l, hl⟩ := ints_U8 zs fun n hn => h n (by simp [hn])
    exact ⟨x :: l, by rw [List.map_cons, List.map_cons, hl, hx]; rfl⟩
theorem ints_U32 : ∀ (zs : List Int), (∀ n ∈ zs, (Lit.int .u32 n).wf = true) → ∃ l : List UInt32, zs.map (Value.int .u32) = l.map U32
  | [], _ => ⟨[], rfl⟩
  | z :: zs, h => by
    obtain ⟨x, hx⟩ := wf_U32 (h z (by simp))
    obtain ⟨l, hl⟩ := ints_U32 zs fun n hn => h n (by simp [hn])
    exact ⟨x :: l, by rw [List.map_cons, List.map_cons, hl, hx]; rfl⟩

/-- A slice of integers, read. -/
theorem open_slc {t e : TypeId} {k : IntKind} {fuel : Nat} {cs : List Value} {x : DataW H × List MemPlace} (ht : P.underlying t = some (.slice e)) (he : P.underlying e = some (.int k)) (hc : P.cellsOf e = 1) (hf : DataW.trod enc P W base spare held fuel t cs = some x) :
    ∃ v, cs = [v] ∧ v.oneCell' = true ∧ ∃ zs : List Int, Sl 1 (zs.map (Value.int k)) v W ∧ ∀ n ∈ zs, (Lit.int k n).wf = true := by
  rcases open_ints ht he hc hf with ⟨hcs, _⟩ | ⟨x, l, c, zs, hcs, _, hl, hm, hz, _, hcell, hwz⟩
  · exact ⟨_, hcs, rfl, [], Sl.nil 1 W, by simp⟩
  · have hle : l ≤ zs.length := by
      rw [hz]; split <;> omega
    refine ⟨_, hcs, rfl, zs.take l, ⟨some x, l, c, rfl, hl, hm, by simp [hle], fun _ => ⟨x, rfl, fun j u hu => ?_⟩, fun h => by cases h⟩, fun n hn => hwz n (List.mem_of_mem_take hn)⟩
    rw [List.getElem?_map, Option.map_eq_some_iff] at hu
    obtain ⟨z, hz1, rfl⟩ := hu
    rw [List.getElem?_take] at hz1
    split at hz1
    · rename_i hjl
      have hj : j < zs.length := by omega
      have := hcell j hj
      rw [List.getElem?_eq_getElem hj] at hz1
      rw [this]
      simp only [Option.some.injEq] at hz1
      rw [← hz1]
      simp [List.getD, List.getElem?_eq_getElem hj]
    · cases hz1
theorem open_Sl {t e : TypeId} {k : IntKind} (ht : P.underlying t = some (.slice e)) (he : P.underlying e = some (.int k)) (hc : P.cellsOf e = 1) (ho : Value.okWide P W r b0 t v) (h : DataW.Trod enc P W base spare held t v d ps) :
    ∃ zs : List Int, Sl 1 (zs.map (Value.int k)) v W ∧ ∀ n ∈ zs, (Lit.int k n).wf = true := by
  obtain ⟨a, len, cap, rfl⟩ := okWide_slice ht ho
  obtain ⟨fuel, hf⟩ := h
  obtain ⟨v, hv, _, h⟩ := open_slc ht he hc hf
  simp [Value.cells] at hv
  subst hv
  exact h
/-- A rational: a struct of a bool and two rows of limbs. -/
theorem open_Rat {t t0 t1 e : TypeId} {f0 f1 f2 : Field} (ht : P.underlying t = some (.struct #[f0, f1, f2])) (h0 : f0.type = t0 ∧ f0.offset = 0) (h1 : f1.type = t1 ∧ f1.offset = 1) (h2 : f2.type = t1 ∧ f2.offset = 2) (hb : P.underlying t0 = some .bool) (hs : P.underlying t1 = some (.slice e))
    (he : P.underlying e = some (.int .u32)) (hc : P.cellsOf e = 1) (hcb : P.cellsOf t0 = 1) (hcs : P.cellsOf t1 = 1) (hct : P.cellsOf t = 3) (ho : Value.okWide P W r b0 t v) (h : DataW.Trod enc P W base spare held t v d ps) :
    ∃ b x y n m, v = .agg #[B b, x, y] ∧ x.oneCell' = true ∧ y.oneCell' = true ∧ Wds n x W ∧ Wds m y W := by
  obtain ⟨cs, rfl, hsz⟩ := okWide_struct ht ho
  obtain ⟨fuel, hf⟩ := h
  have hcells : (Value.agg cs).cells = cs := rfl
  rw [hcells] at hf
  obtain ⟨xs, n, _, _, hl, hlen, hall⟩ := DataW.trod_struct ht hf
  have hl3 : cs.toList.length = 3 := by rw [hl, hct]
  obtain ⟨c0, c1, c2, hcs3⟩ : ∃ a b c, cs.toList = [a, b, c] := by
    match hq : cs.toList, hl3 with
    | [a, b, c], _ => exact ⟨a, b, c, rfl⟩
  have a0 := hall 0 f0 rfl
  have a1 := hall 1 f1 rfl
  have a2 := hall 2 f2 rfl
  rw [hcs3, h0.1, h0.2, hcb] at a0
  rw [hcs3, h1.1, h1.2, hcs] at a1
  rw [hcs3, h2.1, h2.2, hcs] at a2
  simp only [List.drop_zero, List.drop_succ_cons, List.take_succ_cons, List.take_zero] at a0 a1 a2
  have l3 : xs.length = 3 := by rw [hlen]; rfl
  obtain ⟨y0, hy0⟩ : ∃ y, xs[0]? = some y := ⟨xs[0], List.getElem?_eq_getElem (by omega)⟩
  obtain ⟨y1, hy1⟩ : ∃ y, xs[1]? = some y := ⟨xs[1], List.getElem?_eq_getElem (by omega)⟩
  obtain ⟨y2, hy2⟩ : ∃ y, xs[2]? = some y := ⟨xs[2], List.getElem?_eq_getElem (by omega)⟩
  rw [hy0] at a0
  rw [hy1] at a1
  rw [hy2] at a2
  obtain ⟨b, hb0, _⟩ := DataW.trod_bool hb a0
  obtain ⟨v1, hv1, o1, z1, s1, w1⟩ := open_slc hs he hc a1
  obtain ⟨v2, hv2, o2, z2, s2, w2⟩ := open_slc hs he hc a2
  obtain ⟨l1, hl1⟩ := ints_U32 z1 w1
  obtain ⟨l2, hl2⟩ := ints_U32 z2 w2
  simp only [List.cons.injEq, and_true] at hb0 hv1 hv2
  subst hb0 hv1 hv2
  refine ⟨b, c1, c2, l1, l2, ?_, o1, o2, by unfold Wds; rw [← hl1]; exact s1, by unfold Wds; rw [← hl2]; exact s2⟩
  rw [← Array.toArray_toList (xs := cs), hcs3]
  rfl
/-- A slice of texts, read. -/
theorem open_Txs {t e : TypeId} (ht : P.underlying t = some (.slice e)) (he : P.underlying e = some .string) (hc : P.cellsOf e = 1) (ho : Value.okWide P W r b0 t v) (h : DataW.Trod enc P W base spare held t v d ps) :
    ∃ l : List (List UInt8), Txs l v W ∧ ∀ s ∈ l, s.length ≤ 9223372036854775807 := by
  obtain ⟨a, len, cap, rfl⟩ := okWide_slice ht ho
  obtain ⟨fuel, hf⟩ := h
  rcases Go.ChangeShapes.open_strings ht he hc hf with ⟨hcs, _⟩ | ⟨x, l, c, ss, hcs, _, hl, hm, hz, _, hcell, hwz⟩
  · simp [Value.cells] at hcs
    obtain ⟨rfl, rfl, rfl⟩ := hcs
    exact ⟨[], Sl.nil 1 W, by simp⟩
  · simp [Value.cells] at hcs
    obtain ⟨rfl, rfl, rfl⟩ := hcs
    have hle : len ≤ ss.length := by
      rw [hz]; split <;> omega
    refine ⟨(ss.take len).map fun s => s.data.toList, ⟨some x, len, cap, rfl, hl, hm, by simp [hle], fun _ => ⟨x, rfl, fun j u hu => ?_⟩, fun h => by cases h⟩, fun s hs => ?_⟩
    · rw [List.map_map, List.getElem?_map, Option.map_eq_some_iff] at hu
      obtain ⟨z, hz1, rfl⟩ := hu
      rw [List.getElem?_take] at hz1
      split at hz1
      · have hj : j < ss.length := by omega
        rw [hcell j hj]
        rw [List.getElem?_eq_getElem hj] at hz1
        simp only [Option.some.injEq] at hz1
        rw [← hz1]
        simp [List.getD, List.getElem?_eq_getElem hj, S]
      · cases hz1
    · obtain ⟨b, hb, rfl⟩ := List.mem_map.1 hs
      have := hwz b (List.mem_of_mem_take hb)
      unfold maxLen at this
      have : b.data.toList.length = b.size := rfl
      omega
theorem open_Bts {t e : TypeId} (ht : P.underlying t = some (.slice e)) (he : P.underlying e = some (.int .u8)) (hc : P.cellsOf e = 1) (ho : Value.okWide P W r b0 t v) (h : DataW.Trod enc P W base spare held t v d ps) : ∃ l, Bts l v W := by
  obtain ⟨zs, h1, h2⟩ := open_Sl ht he hc ho h
  obtain ⟨l, hl⟩ := ints_U8 zs h2
  exact ⟨l, by unfold Bts; rw [← hl]; exact h1⟩
theorem open_Wds {t e : TypeId} (ht : P.underlying t = some (.slice e)) (he : P.underlying e = some (.int .u32)) (hc : P.cellsOf e = 1) (ho : Value.okWide P W r b0 t v) (h : DataW.Trod enc P W base spare held t v d ps) : ∃ l, Wds l v W := by
  obtain ⟨zs, h1, h2⟩ := open_Sl ht he hc ho h
  obtain ⟨l, hl⟩ := ints_U32 zs h2
  exact ⟨l, by unfold Wds; rw [← hl]; exact h1⟩
theorem open_U64 {t : TypeId} (ht : P.underlying t = some (.int .u64)) (ho : Value.okWide P W r b0 t v) (h : DataW.Trod enc P W base spare held t v d ps) : ∃ x, v = U64 x := by
  obtain ⟨n, rfl, _, _, hw⟩ := open_int ht ho h
  obtain ⟨x, rfl⟩ := wf_U64 hw
  exact ⟨x, rfl⟩
theorem open_U32 {t : TypeId} (ht : P.underlying t = some (.int .u32)) (ho : Value.okWide P W r b0 t v) (h : DataW.Trod enc P W base spare held t v d ps) : ∃ x, v = U32 x := by
  obtain ⟨n, rfl, _, _, hw⟩ := open_int ht ho h
  obtain ⟨x, rfl⟩ := wf_U32 hw
  exact ⟨x, rfl⟩
theorem open_U8 {t : TypeId} (ht : P.underlying t = some (.int .u8)) (ho : Value.okWide P W r b0 t v) (h : DataW.Trod enc P W base spare held t v d ps) : ∃ x, v = U8 x := by
  obtain ⟨n, rfl, _, _, hw⟩ := open_int ht ho h
  obtain ⟨x, rfl⟩ := wf_U8 hw
  exact ⟨x, rfl⟩
theorem open_I {t : TypeId} (ht : P.underlying t = some (.int .i64)) (ho : Value.okWide P W r b0 t v) (h : DataW.Trod enc P W base spare held t v d ps) : ∃ x, v = I x ∧ -9223372036854775808 ≤ x ∧ x ≤ 9223372036854775807 := by
  obtain ⟨n, rfl, _, _, hw⟩ := open_int ht ho h
  exact ⟨n, rfl, wf_I hw⟩
theorem open_B {t : TypeId} (ht : P.underlying t = some .bool) (ho : Value.okWide P W r b0 t v) (h : DataW.Trod enc P W base spare held t v d ps) : ∃ x, v = B x := by
  obtain ⟨n, rfl, _, _⟩ := open_bool ht ho h
  exact ⟨n, rfl⟩
theorem open_S {t : TypeId} (ht : P.underlying t = some .string) (ho : Value.okWide P W r b0 t v) (h : DataW.Trod enc P W base spare held t v d ps) : ∃ l, v = S l ∧ l.length ≤ 9223372036854775807 := by
  obtain ⟨s, rfl, _, _, hs⟩ := open_string ht ho h
  refine ⟨s.data.toList, rfl, ?_⟩
  unfold maxLen at hs
  have : s.data.toList.length = s.size := rfl
  omega
end
end Go.Rl
/- Typed readings of deep data. Conditions: each lemma names its own. -/
namespace Go.Rl
open Go.ChangeShapes Go.WideShapes Go.ChangeAt Go.RowKit
section
variable {P : Program} {t e : TypeId} {d : Dt}
theorem Ty.inv_int {k : IntKind} (hu : P.underlying t = some (.int k)) (h : Ty P t d) : ∃ n, d = .int k n ∧ (Lit.int k n).wf = true := by
  cases h with
  | int h hw => rw [hu] at h; cases h; exact ⟨_, rfl, hw⟩
  | bool h => rw [hu] at h; cases h
  | str h => rw [hu] at h; cases h
  | sl h => rw [hu] at h; cases h
  | st h => rw [hu] at h; cases h
  | arr h => rw [hu] at h; cases h
theorem Ty.inv_u8 (hu : P.underlying t = some (.int .u8)) (h : Ty P t d) : ∃ x, d = dU8 x := by
  obtain ⟨n, rfl, hw⟩ := h.inv_int hu
  obtain ⟨x, rfl⟩ := wf_U8 hw
  exact ⟨x, rfl⟩
theorem Ty.inv_u32 (hu : P.underlying t = some (.int .u32)) (h : Ty P t d) : ∃ x, d = dU32 x := by
  obtain ⟨n, rfl, hw⟩ := h.inv_int hu
  obtain ⟨x, rfl⟩ := wf_U32 hw
  exact ⟨x, rfl⟩
theorem Ty.inv_i (hu : P.underlying t = some (.int .i64)) (h : Ty P t d) : ∃ x, d = dI x := by
  obtain ⟨n, rfl, hw⟩ := h.inv_int hu
  obtain ⟨h1, h2⟩ := wf_I hw
  exact ⟨Int64.ofInt n, by unfold dI; rw [Int64.toInt_ofInt_of_le (by simpa using h1) (by simp; omega)]⟩
theorem Ty.inv_bool (hu : P.underlying t = some .bool) (h : Ty P t d) : ∃ x, d = .bool x := by
  cases h with
  | int h hw => rw [hu] at h; cases h
  | bool h => exact ⟨_, rfl⟩
  | str h => rw [hu] at h; cases h
  | sl h => rw [hu] at h; cases h
  | st h => rw [hu] at h; cases h
  | arr h => rw [hu] at h; cases h
theorem Ty.inv_str (hu : P.underlying t = some .string) (h : Ty P t d) : ∃ x, d = .str x ∧ x.length ≤ maxLen := by
  cases h with
  | int h hw => rw [hu] at h; cases h
  | bool h => rw [hu] at h; cases h
  | str h hl => exact ⟨_, rfl, hl⟩
  | sl h => rw [hu] at h; cases h
  | st h => rw [hu] at h; cases h
  | arr h => rw [hu] at h; cases h
theorem list_of {α : Type} {f : α → Dt} : ∀ (l : List Dt), (∀ d ∈ l, ∃ x, d = f x) → ∃ m : List α, l = m.map f
  | [], _ => ⟨[], rfl⟩
  | d :: l, h => by
    obtain ⟨x, rfl⟩ := h d (by simp)
    obtain ⟨m, rfl⟩ := list_of l fun e he => h e (by simp [he])
    exact ⟨x :: m, rfl⟩
theorem Ty.inv_slD (hu : P.underlying t = some (.slice e)) (h : Ty P t d) : ∃ l, d = .sl l ∧ ∀ x ∈ l, Ty P e x := by
  cases h with
  | int h hw => rw [hu] at h; cases h
  | bool h => rw [hu] at h; cases h
  | str h => rw [hu] at h; cases h
  | sl h ha => rw [hu] at h; cases h; exact ⟨_, rfl, ha⟩
  | st h => rw [hu] at h; cases h
  | arr h => rw [hu] at h; cases h
theorem Ty.inv_sl {α : Type} {f : α → Dt} (hu : P.underlying t = some (.slice e)) (he : ∀ x, Ty P e x → ∃ y, x = f y) (h : Ty P t d) : ∃ l : List α, d = .sl (l.map f) := by
  obtain ⟨l, rfl, ha⟩ := h.inv_slD hu
  obtain ⟨m, rfl⟩ := list_of l fun x hx => he x (ha x hx)
  exact ⟨m, rfl⟩
theorem Ty.inv_st {fs : Array Field} (hu : P.underlying t = some (.struct fs)) (h : Ty P t d) : ∃ l, d = .st l ∧ l.length = fs.size ∧ ∀ (i : Nat) (f : Field) (x : Dt), fs[i]? = some f → l[i]? = some x → Ty P f.type x := by
  cases h with
  | int h hw => rw [hu] at h; cases h
  | bool h => rw [hu] at h; cases h
  | str h => rw [hu] at h; cases h
  | sl h => rw [hu] at h; cases h
  | st h h1 h2 => rw [hu] at h; cases h; exact ⟨_, rfl, h1, h2⟩
  | arr h => rw [hu] at h; cases h
theorem Ty.inv_arr {α : Type} {f : α → Dt} {n : Nat} (hu : P.underlying t = some (.array n e)) (he : ∀ x, Ty P e x → ∃ y, x = f y) (h : Ty P t d) : ∃ l : List α, d = .st (l.map f) ∧ l.length = n := by
  cases h with
  | int h hw => rw [hu] at h; cases h
  | bool h => rw [hu] at h; cases h
  | str h => rw [hu] at h; cases h
  | sl h => rw [hu] at h; cases h
  | st h => rw [hu] at h; cases h
  | arr h h1 h2 =>
    rw [hu] at h; cases h
    obtain ⟨m, rfl⟩ := list_of _ fun x hx => he x (h2 x hx)
    exact ⟨m, rfl, by simpa using h1⟩
def dBs (l : List UInt8) : Dt := .sl (l.map dU8)
def dBss (l : List (List UInt8)) : Dt := .sl (l.map dBs)
def dNat (l : List UInt32) : Dt := .sl (l.map dU32)
theorem Rp.bts {w : World} {l : List UInt8} {v : Value} : Rp w (dBs l) [v] ↔ Bts l v w := Rp.bytes
theorem Rp.wds {w : World} {l : List UInt32} {v : Value} : Rp w (dNat l) [v] ↔ Wds l v w := Rp.words
theorem Ty.inv_bytes (hu : P.underlying t = some (.slice e)) (he : P.underlying e = some (.int .u8)) (h : Ty P t d) : ∃ l, d = dBs l := h.inv_sl hu fun _ hx => hx.inv_u8 he
theorem Ty.inv_nat (hu : P.underlying t = some (.slice e)) (he : P.underlying e = some (.int .u32)) (h : Ty P t d) : ∃ l, d = dNat l := h.inv_sl hu fun _ hx => hx.inv_u32 he
end
section
variable {P : Program} {H : Type} {enc : TypeId × Value → H} {W : World} {base : Nat} {spare : Nat → Bool} {held : Bool} {r : Reach} {b0 : Nat} {v : Value} {d : DataW H} {ps : List MemPlace} {t e : TypeId}
theorem open_D {ts : List TypeId} (hc : closedB P ts = true) (ht : ts.contains t = true) (h : DataW.Trod enc P W base spare held t v d ps) : Rp W (dtOf d) v.cells.toList ∧ Ty P t (dtOf d) := by
  obtain ⟨fuel, hf⟩ := h
  exact open_deep hc fuel t _ (d, ps) (by simpa using ht) hf
theorem open_DSl {ts : List TypeId} (hc : closedB P ts = true) (ht : ts.contains t = true) (hu : P.underlying t = some (.slice e)) (ho : Value.okWide P W r b0 t v) (h : DataW.Trod enc P W base spare held t v d ps) : Rp W (dtOf d) [v] ∧ Ty P t (dtOf d) := by
  obtain ⟨a, len, cap, rfl⟩ := okWide_slice hu ho
  exact open_D hc ht h
theorem open_DSt {ts : List TypeId} {fs : Array Field} (hc : closedB P ts = true) (ht : ts.contains t = true) (hu : P.underlying t = some (.struct fs)) (ho : Value.okWide P W r b0 t v) (h : DataW.Trod enc P W base spare held t v d ps) : ∃ cs : List Value, v = .agg cs.toArray ∧ Rp W (dtOf d) cs ∧ Ty P t (dtOf d) := by
  obtain ⟨cs, rfl, _⟩ := okWide_struct hu ho
  obtain ⟨h1, h2⟩ := open_D hc ht h
  exact ⟨cs.toList, rfl, h1, h2⟩
end
end Go.Rl
/- Plain maths: natural numbers as limbs of 32 bits. No condition. -/
namespace Go.Rl

def val : List UInt32 → Nat
  | [] => 0
  | x :: l => x.toNat + 4294967296 * val l
def tr : List UInt32 → List UInt32
  | [] => []
  | x :: l => match tr l with
    | [] => if x = 0 then [] else [x]
    | y :: m => x :: y :: m
def lbF : Nat → Nat → List UInt32
  | 0, _ => []
  | f + 1, n => if n = 0 then [] else UInt32.ofNat (n % 4294967296) :: lbF f (n / 4294967296)
/-- The canonical limbs of a number. -/
def lb (n : Nat) : List UInt32 := lbF n n

theorem lbF_eq : ∀ (f g n : Nat), n ≤ f → n ≤ g → lbF f n = lbF g n
  | 0, 0, n, _, _ => rfl
  | 0, g + 1, n, h, _ => by simp [lbF, show n = 0 by omega]
  | f + 1, 0, n, _, h => by simp [lbF, show n = 0 by omega]
  | f + 1, g + 1, n, h1, h2 => by
    simp only [lbF]
    split
    · rfl
    · rw [lbF_eq f g (n / 4294967296) (by omega) (by omega)]
theorem lb_zero : lb 0 = [] := rfl
theorem lb_pos {n : Nat} (h : 0 < n) : lb n = UInt32.ofNat (n % 4294967296) :: lb (n / 4294967296) := by
  obtain ⟨m, rfl⟩ : ∃ m, n = m + 1 := ⟨n - 1, by omega⟩
  show lbF (m + 1) (m + 1) = _
  simp only [lbF]
  rw [if_neg (by omega), lbF_eq m ((m + 1) / 4294967296) _ (by omega) (Nat.le_refl _)]
  rfl
theorem u32_lt (x : UInt32) : x.toNat < 4294967296 := x.toNat_lt
theorem u32_ofNat {n : Nat} (h : n < 4294967296) : (UInt32.ofNat n).toNat = n := by rw [UInt32.toNat_ofNat']; omega
theorem u32_ext {x y : UInt32} (h : x.toNat = y.toNat) : x = y := UInt32.toNat_inj.1 h
theorem u32_ne {x : UInt32} (h : x ≠ 0) : 0 < x.toNat := by
  rcases Nat.eq_zero_or_pos x.toNat with h0 | h0
  · exact absurd (u32_ext (y := 0) h0) h
  · exact h0

theorem val_lb (n : Nat) : val (lb n) = n := by
  induction n using Nat.strongRecOn with
  | ind n ih =>
    rcases Nat.eq_zero_or_pos n with rfl | h
    · rfl
    · rw [lb_pos h, val, ih _ (by omega), u32_ofNat (by omega)]
      omega
theorem val_append : ∀ (l m : List UInt32), val (l ++ m) = val l + 4294967296 ^ l.length * val m
  | [], m => by simp [val]
  | x :: l, m => by
    rw [List.cons_append, val, val_append l m, val, List.length_cons, Nat.pow_succ, Nat.mul_add, ← Nat.mul_assoc, Nat.mul_comm (4294967296 ^ l.length), Nat.add_assoc]
theorem val_lt : ∀ (l : List UInt32), val l < 4294967296 ^ l.length
  | [] => by simp [val]
  | x :: l => by
    have := val_lt l
    have hx := u32_lt x
    rw [val, List.length_cons, Nat.pow_succ]
    have : 4294967296 * (val l + 1) ≤ 4294967296 * 4294967296 ^ l.length := Nat.mul_le_mul_left _ this
    rw [Nat.mul_comm (4294967296 ^ l.length)]
    omega
theorem val_zeros (n : Nat) : val (List.replicate n 0) = 0 := by
  induction n with
  | zero => rfl
  | succ n ih => rw [List.replicate_succ, val, ih]; rfl
theorem val_one (x : UInt32) : val [x] = x.toNat := by simp [val]
theorem val_take_succ {l : List UInt32} {i : Nat} (h : i < l.length) : val (l.take (i + 1)) = val (l.take i) + 4294967296 ^ i * l[i].toNat := by
  rw [List.take_succ_eq_append_getElem h, val_append, val_one, List.length_take, Nat.min_eq_left (by omega)]
theorem val_drop {l : List UInt32} {i : Nat} (h : i < l.length) : val (l.drop i) = l[i].toNat + 4294967296 * val (l.drop (i + 1)) := by
  rw [List.drop_eq_getElem_cons h, val]
theorem val_split (l : List UInt32) (i : Nat) (h : i ≤ l.length) : val l = val (l.take i) + 4294967296 ^ i * val (l.drop i) := by
  conv => lhs; rw [← List.take_append_drop i l]
  rw [val_append, List.length_take, Nat.min_eq_left h]

theorem val_tr : ∀ (l : List UInt32), val (tr l) = val l
  | [] => rfl
  | x :: l => by
    have ih := val_tr l
    rw [tr]
    split
    · rename_i h
      rw [h] at ih
      split
      · rename_i hx; subst hx; simp [val, ← ih]
      · simp [val, ← ih]
    · rename_i y m h
      rw [h] at ih
      rw [val, ih, val]
theorem tr_eq : ∀ (l : List UInt32), tr l = lb (val l)
  | [] => rfl
  | x :: l => by
    have ih := tr_eq l
    have hx := u32_lt x
    rw [tr, val]
    rcases Nat.eq_zero_or_pos (val l) with h | h
    · rw [h, lb_zero] at ih
      rw [ih, h, Nat.mul_zero, Nat.add_zero]
      by_cases h0 : x = 0
      · subst h0; simp [lb_zero]
      · have := u32_ne h0
        have e : UInt32.ofNat x.toNat = x := u32_ext (by rw [u32_ofNat hx])
        simp only [if_neg h0]
        rw [lb_pos this, Nat.mod_eq_of_lt hx, Nat.div_eq_of_lt hx, lb_zero, e]
    · rw [lb_pos (n := x.toNat + 4294967296 * val l) (by omega), Nat.add_mul_mod_self_left, Nat.add_mul_div_left _ _ (by omega), Nat.div_eq_of_lt hx, Nat.zero_add, Nat.mod_eq_of_lt hx, ← ih]
      have hne : tr l ≠ [] := fun h0 => by
        have := val_tr l
        rw [h0, val] at this
        omega
      split
      · rename_i h0; exact absurd h0 hne
      · rename_i y m h0
        rw [h0]
        congr 1
        exact u32_ext (by rw [u32_ofNat hx])
theorem tr_snoc0 (l : List UInt32) : tr (l ++ [0]) = tr l := by
  rw [tr_eq, tr_eq, val_append, val_one]; simp
theorem tr_snoc {x : UInt32} (h : x ≠ 0) : ∀ (l : List UInt32), tr (l ++ [x]) = l ++ [x]
  | [] => by simp [tr, h]
  | y :: l => by
    rw [List.cons_append, tr, tr_snoc h l]
    cases l <;> rfl
theorem lb_lt {n k : Nat} (h : n < 4294967296 ^ k) : (lb n).length ≤ k := by
  induction k generalizing n with
  | zero => have : n = 0 := by simpa using h
            subst this; simp [lb_zero]
  | succ k ih =>
    rcases Nat.eq_zero_or_pos n with rfl | h0
    · simp [lb_zero]
    · rw [lb_pos h0, List.length_cons]
      have : n / 4294967296 < 4294967296 ^ k := by
        rw [Nat.div_lt_iff_lt_mul (by omega), ← Nat.pow_succ]; exact h
      have := ih this
      omega
theorem lb_ge {n : Nat} (h : 0 < n) : 4294967296 ^ ((lb n).length - 1) ≤ n := by
  induction n using Nat.strongRecOn with
  | ind n ih =>
    rw [lb_pos h, List.length_cons, Nat.add_sub_cancel]
    rcases Nat.eq_zero_or_pos (n / 4294967296) with h0 | h0
    · rw [h0, lb_zero]; exact h
    · have h1 := ih (n / 4294967296) (by omega) h0
      have h2 : 0 < (lb (n / 4294967296)).length := by rw [lb_pos h0]; simp
      obtain ⟨k, hk⟩ : ∃ k, (lb (n / 4294967296)).length = k + 1 := ⟨_, (Nat.sub_add_cancel h2).symm⟩
      rw [hk, Nat.add_sub_cancel] at h1
      rw [hk, Nat.pow_succ]
      omega
theorem lb_len0 {n : Nat} : (lb n).length = 0 ↔ n = 0 := by
  constructor
  · intro h
    rcases Nat.eq_zero_or_pos n with h0 | h0
    · exact h0
    · rw [lb_pos h0] at h; simp at h
  · rintro rfl; rfl
theorem lb_inj {n m : Nat} (h : lb n = lb m) : n = m := by rw [← val_lb n, ← val_lb m, h]
theorem len_lt {n m : Nat} (h : (lb n).length < (lb m).length) : n < m := by
  have h1 := val_lt (lb n)
  rw [val_lb] at h1
  have hm : 0 < m := by
    rcases Nat.eq_zero_or_pos m with rfl | h0
    · simp [lb_zero] at h
    · exact h0
  have h2 := lb_ge hm
  exact Nat.lt_of_lt_of_le h1 (Nat.le_trans (Nat.pow_le_pow_right (by omega) (by omega)) h2)
/-- The last limb is not 0. -/
theorem lb_last {n i : Nat} (h : i + 1 = (lb n).length) : 0 < ((lb n)[i]'(by omega)).toNat := by
  have hn : 0 < n := by
    rcases Nat.eq_zero_or_pos n with h0 | h0
    · subst h0; simp [lb_zero] at h
    · exact h0
  have h1 := lb_ge hn
  have h2 : val (lb n) = val ((lb n).take i) + 4294967296 ^ i * ((lb n)[i]'(by omega)).toNat := by
    rw [← val_take_succ (by omega), h, List.take_length]
  rw [val_lb] at h2
  have h3 := val_lt ((lb n).take i)
  rw [List.length_take, Nat.min_eq_left (by omega)] at h3
  rw [← h, Nat.add_sub_cancel] at h1
  rcases Nat.eq_zero_or_pos ((lb n)[i]'(by omega)).toNat with h0 | h0
  · rw [h0] at h2; omega
  · exact h0
def cmpN (x y : Nat) : Int := if x < y then -1 else if y < x then 1 else 0
/-- Lists that agree from i + 1 on, compared at i. -/
theorem val_cmp {l m : List UInt32} {i : Nat} (hl : i < l.length) (hm : i < m.length) (hd : l.drop (i + 1) = m.drop (i + 1)) (h : l[i].toNat < m[i].toNat) : val l < val m := by
  rw [val_split l (i + 1) (by omega), val_split m (i + 1) (by omega), hd, val_take_succ hl, val_take_succ hm]
  have h1 := val_lt (l.take i)
  rw [List.length_take, Nat.min_eq_left (by omega)] at h1
  have h2 : 4294967296 ^ i * (l[i].toNat + 1) ≤ 4294967296 ^ i * m[i].toNat := Nat.mul_le_mul_left _ h
  rw [Nat.mul_add, Nat.mul_one] at h2
  omega
theorem bpow (i : Nat) : 0 < 4294967296 ^ i := Nat.pow_pos (by omega)
theorem lb_small {n : Nat} (h0 : 0 < n) (h : n < 4294967296) : lb n = [UInt32.ofNat n] := by rw [lb_pos h0, Nat.mod_eq_of_lt h, Nat.div_eq_of_lt h, lb_zero]
end Go.Rl
/- Runs over slices of limbs: parts, new rows, stores. Conditions: each names its own. -/
namespace Go.Rl
open Go.RowKit Go.Proofs
section
variable {w : World} {t : TypeId}
theorem r_slW (ht : Try.prog.underlying t = some (.slice 88)) {l : List UInt32} {v : Value} (h : Wds l v w) {lo hi : Nat} (h1 : lo ≤ hi) (h2 : hi ≤ l.length) (kl kh : IntKind) :
    ∃ r, (∀ w' : World, (Instr.sliceAt t v (some (.int kl lo)) (some (.int kh hi)) none).run Try.prog w' = .ok r w') ∧ Wds ((l.take hi).drop lo) r w := by
  obtain ⟨r, h3, h4⟩ := r_slice (P := Try.prog) ht size_u32 h h1 (by simpa using h2) (by omega) kl kh
  exact ⟨r, h3, by simpa [Wds, List.map_drop, List.map_take] using h4⟩
theorem r_slW_lo (ht : Try.prog.underlying t = some (.slice 88)) {l : List UInt32} {v : Value} (h : Wds l v w) {lo : Nat} (h2 : lo ≤ l.length) (kl : IntKind) :
    ∃ r, (∀ w' : World, (Instr.sliceAt t v (some (.int kl lo)) none none).run Try.prog w' = .ok r w') ∧ Wds (l.drop lo) r w := by
  obtain ⟨r, h3, h4⟩ := r_slice_lo (P := Try.prog) ht size_u32 h (lo := lo) (by simpa using h2) (by omega) kl
  exact ⟨r, h3, by simpa [Wds, List.map_drop] using h4⟩
theorem r_slW_hi (ht : Try.prog.underlying t = some (.slice 88)) {l : List UInt32} {v : Value} (h : Wds l v w) {hi : Nat} (h2 : hi ≤ l.length) (kh : IntKind) :
    ∃ r, (∀ w' : World, (Instr.sliceAt t v none (some (.int kh hi)) none).run Try.prog w' = .ok r w') ∧ Wds (l.take hi) r w := by
  obtain ⟨r, h3, h4⟩ := r_slice_hi (P := Try.prog) ht size_u32 h (hi := hi) (by simpa using h2) (by omega) kh
  exact ⟨r, h3, by simpa [Wds, List.map_take] using h4⟩
theorem r_mkW (ht : Try.prog.underlying t = some (.slice 88)) (base : Nat) {n : Nat} (hn : n ≤ 70368744177664) (hb : base ≤ w.heap.size) :
    ∃ r w', (Instr.makeSlice t (I (n : Int)) (I (n : Int))).run Try.prog w = .ok r w' ∧ Ext w w' ∧ OwnW base (List.replicate n 0) r w' ∧ r.ownBlock = some w.heap.size := by
  obtain ⟨i, hi, hz, hs, hby⟩ := info_parts info_u32
  have hrun := run_make (P := Try.prog) w t 88 i _ ht hi hz .i64 .i64 (n : Int) (n : Int) (by omega) (by omega) (by rw [hby]; omega) (by omega)
  refine ⟨_, _, hrun, Ext.new _ _, ⟨n, ?_⟩, rfl⟩
  have := World.ownsRow_lit (base := base) (e := 88) (size := 1) w (madeCells (Value.int .u32 0).cells ((n : Int).toNat * i.size)) n hb (by unfold maxLen; omega) (by rw [hs]; simp [madeCells])
  have e : (madeCells (Value.int .u32 0).cells ((n : Int).toNat * i.size)).toList = (List.replicate n (0 : UInt32)).map U32 := by
    rw [hs]
    have h2 := toList_madeCells_one (.int .u32 0) n
    simp only [Value.cells, Int.toNat_natCast, Nat.mul_one, List.map_replicate] at h2 ⊢
    rw [h2]; rfl
  rw [e] at this
  simpa using this
theorem OwnW.setW (ht : Try.prog.underlying t = some (.slice 88)) {base : Nat} {l : List UInt32} {v : Value} (h : OwnW base l v w) {i : Nat} (hi : i < l.length) (x : UInt32) :
    ∃ g w', (∀ u : World, (Instr.indexAt t v (I (i : Int))).run Try.prog u = .ok (.pointer (some ⟨g, i, none⟩)) u) ∧ (Instr.storeAt 88 (.pointer (some ⟨g, i, none⟩)) (U32 x)).run Try.prog w = .ok () w' ∧
      OwnW base (l.set i x) v w' ∧ w.grownBy w' (some g) ∧ base ≤ g ∧ w.cell? ⟨g, i, none⟩ = some (U32 l[i]) ∧ v.ownBlock = some g := by
  obtain ⟨n, hn⟩ := id h
  have hnl : l.length = n := by simpa using hn.1
  obtain ⟨ad, hix, hcell⟩ := r_ixW ht h.wds hi .i64
  rcases hn.2 with ⟨_, h0⟩ | ⟨g, cap, cur, rfl, hb, hg, hnc, hcm, hcs, htk⟩
  · omega
  · have hlt : i < cur.size := by omega
    have had : ad = ⟨g, i, none⟩ := by
      have h1 := hix w
      obtain ⟨ti, hi', hs⟩ := Option.map_eq_some_iff.1 size_u32
      have hin : i < n := by omega
      have h2 : (Instr.indexAt t (.slice (some ⟨g, 0, none⟩) n cap) (.int .i64 i)).run Try.prog w = .ok (.pointer (some ⟨g, i, none⟩)) w := by
        simp [Instr.indexAt, asIntOf, run_underlying ht, hin, sizeOf, typeInfo, hi', hs, add_mk]
      rw [h2] at h1
      simp at h1
      exact h1.symm
    subst had
    refine ⟨g, w.setCell ⟨g, i, none⟩ (U32 x), hix, r_store1 size_u32 rfl hg hlt, ⟨n, ?_, .inr ⟨g, cap, cur.setIfInBounds i (U32 x), rfl, hb, heap_set hg i (U32 x), hnc, hcm, by simpa using hcs, ?_⟩⟩, grownBy_setCell w g i _, hb, hcell, rfl⟩
    · simpa using hnl
    · rw [List.map_set, ← htk, Array.toList_setIfInBounds, List.take_set]
theorem OwnW.kept {base : Nat} {l : List UInt32} {v : Value} {w' : World} (h : OwnW base l v w) {row : Option Nat} (hg : w.grownBy w' row) (hne : v.ownBlock = none ∨ v.ownBlock ≠ row) : OwnW base l v w' :=
  h.elim fun n h => ⟨n, World.ownsRow.kept h hg hne⟩
theorem OwnW.ge {base : Nat} {l : List UInt32} {v : Value} (h : OwnW base l v w) : ∀ k, v.ownBlock = some k → base ≤ k := fun k hk => h.elim fun _ h => (World.ownsRow.lt h k hk).1
theorem OwnW.lt {base : Nat} {l : List UInt32} {v : Value} (h : OwnW base l v w) : ∀ k, v.ownBlock = some k → k < w.heap.size := fun k hk => h.elim fun _ h => (World.ownsRow.lt h k hk).2
/-- The second slice's type does not matter. -/
theorem append_ty {P : Program} {w : World} {t t2 e e2 ty : TypeId} (ht : P.underlying t = some (.slice e)) (ht2 : P.underlying t2 = some (.slice e2)) (a b : Value) : (Builtin.append_ #[t, t2] ty #[a, b]).run P w = (Builtin.append_ #[t, t] ty #[a, b]).run P w := by
  unfold Builtin.append_
  cases a <;> simp [Sem.run_bind, run_underlying ht, run_underlying ht2]
theorem r_appW2 {base : Nat} {t2 : TypeId} (ht : Try.prog.underlying t = some (.slice 88)) (ht2 : Try.prog.underlying t2 = some (.slice 88)) {l m : List UInt32} {v x : Value} {ty : TypeId} (hv : OwnW base l v w) (hx : Wds m x w) (hb : l.length + m.length ≤ 35184372088832) (hbase : base ≤ w.heap.size) :
    ∃ r w', (Builtin.append_ #[t, t2] ty #[v, x]).run Try.prog w = .ok r w' ∧ OwnW base (l ++ m) r w' ∧ Grew w w' v r := by
  obtain ⟨r, w', h1, h2⟩ := r_appW (ty := ty) ht hv hx hb hbase
  exact ⟨r, w', (append_ty ht ht2 v x).trans h1, h2⟩
theorem r_max_i {P : Program} {t ty : TypeId} {a b : Nat} : (Builtin.max_ #[t, t] ty #[I (a : Int), I (b : Int)]).run P w = .ok (I ((max a b : Nat) : Int)) w := by
  have : (Builtin.max_ #[t, t] ty #[I (a : Int), I (b : Int)]) = pure (.int .i64 (if (b : Int) > (a : Int) then (b : Int) else (a : Int))) := rfl
  rw [this, Sem.run_pure]
  congr 2
  split <;> omega
/-- A part of a row of words: block g, behind pre and before post. -/
structure PW (g : Nat) (pre : List Value) (L : List UInt32) (post : List Value) (v : Value) (w : World) : Prop where
  isv : ∃ c, v = .slice (some ⟨g, pre.length, none⟩) L.length c ∧ L.length ≤ c ∧ c ≤ maxLen
  row : w.heap[g]? = some (.cells (pre ++ (L.map U32 ++ post)).toArray 88 (0, 0))
theorem PW.cell {g : Nat} {pre : List Value} {L : List UInt32} {post : List Value} {v : Value} (h : PW g pre L post v w) {i : Nat} (hi : i < L.length) : w.cell? ⟨g, pre.length + i, none⟩ = some (U32 L[i]) := by
  rw [cell_of_row w g _ _ _ _ h.row, List.getElem?_toArray, List.getElem?_append_right (by omega), Nat.add_sub_cancel_left, List.getElem?_append_left (by simpa using hi), List.getElem?_map, List.getElem?_eq_getElem hi]
  rfl
theorem PW.wds {g : Nat} {pre : List Value} {L : List UInt32} {post : List Value} {v : Value} (h : PW g pre L post v w) : Wds L v w := by
  obtain ⟨c, rfl, h1, h2⟩ := h.isv
  refine ⟨_, _, _, rfl, h1, h2, by simp, fun _ => ⟨_, rfl, fun j u hu => ?_⟩, fun h => by cases h⟩
  rw [List.getElem?_map, Option.map_eq_some_iff] at hu
  obtain ⟨x, hx, rfl⟩ := hu
  obtain ⟨hj, rfl⟩ := List.getElem?_eq_some_iff.1 hx
  rw [add_mk]
  exact h.cell hj
theorem PW.setP (ht : Try.prog.underlying t = some (.slice 88)) {g : Nat} {pre : List Value} {L : List UInt32} {post : List Value} {v : Value} (h : PW g pre L post v w) {i : Nat} (hi : i < L.length) (x : UInt32) :
    ∃ w', (∀ u : World, (Instr.indexAt t v (I (i : Int))).run Try.prog u = .ok (.pointer (some ⟨g, pre.length + i, none⟩)) u) ∧ (Instr.storeAt 88 (.pointer (some ⟨g, pre.length + i, none⟩)) (U32 x)).run Try.prog w = .ok () w' ∧
      PW g pre (L.set i x) post v w' ∧ w.grownBy w' (some g) ∧ w.cell? ⟨g, pre.length + i, none⟩ = some (U32 L[i]) := by
  obtain ⟨c, rfl, h1, h2⟩ := h.isv
  obtain ⟨ti, hti, hs⟩ := Option.map_eq_some_iff.1 size_u32
  refine ⟨w.setCell ⟨g, pre.length + i, none⟩ (U32 x), fun u => ?_, r_store1 size_u32 rfl h.row (by simp; omega), ⟨⟨c, by simp, by simpa using h1, h2⟩, ?_⟩, grownBy_setCell w g _ _, h.cell hi⟩
  · show (Instr.indexAt t (.slice (some ⟨g, pre.length, none⟩) L.length c) (.int .i64 (i : Int))).run Try.prog u = _
    simp [Instr.indexAt, asIntOf, run_underlying ht, hi, sizeOf, typeInfo, hti, hs, add_mk]
  · have := heap_set h.row (pre.length + i) (U32 x)
    rw [this, List.setIfInBounds_toArray, List.set_append_right _ _ (by omega), Nat.add_sub_cancel_left, List.set_append_left _ _ (by simpa using hi), List.map_set]
/-- Away from a block. -/
theorem Wds.away {l : List UInt32} {v : Value} {g : Nat} {w' : World} (h : Wds l v w) (ha : v.ownBlock = none ∨ v.ownBlock ≠ some g) (hg : w.grownBy w' (some g)) : Wds l v w' := by
  obtain ⟨A, n, c, rfl, h1, h2, h3, h4, h5⟩ := h
  refine ⟨A, n, c, rfl, h1, h2, h3, fun hn => ?_, h5⟩
  obtain ⟨ad, rfl, hc⟩ := h4 hn
  refine ⟨ad, rfl, fun j u hu => ?_⟩
  have hcell := hc j u hu
  have hb : ad.block ≠ g := by
    rcases ha with ha | ha
    · simp [Value.ownBlock] at ha
    · intro e; exact ha (by simp [Value.ownBlock, e])
  have hlt := World.block_lt_of_cell? w (ad.add j) hcell
  refine (World.cell?_of_block (hg.block _ hlt fun e => hb ?_)).trans hcell
  rw [add_block] at e
  exact Option.some.inj e
theorem r_slW_hi2 (ht : Try.prog.underlying t = some (.slice 88)) {l : List UInt32} {v : Value} (h : Wds l v w) {hi : Nat} (h2 : hi ≤ l.length) (kh : IntKind) :
    ∃ r, (∀ w' : World, (Instr.sliceAt t v none (some (.int kh hi)) none).run Try.prog w' = .ok r w') ∧ Wds (l.take hi) r w ∧ r.ownBlock = v.ownBlock := by
  obtain ⟨r, h3, h4⟩ := r_slW_hi ht h h2 kh
  refine ⟨r, h3, h4, ?_⟩
  obtain ⟨A, n, c, rfl, hnc, _, hl, _, _⟩ := h
  have h5 := h3 w
  obtain ⟨ti, hti, hs⟩ := Option.map_eq_some_iff.1 size_u32
  have hhi : hi ≤ n := by simp at hl; omega
  have hb : (Instr.sliceBounds true n c none (some (.int kh hi)) none).run Try.prog w = .ok (0, hi, c) w := by
    have a1 := run_sliceBound (P := Try.prog) (w := w) kh (hi : Int) c .sliceAcap (by omega) (by omega)
    simp only [Int.toNat_natCast] at a1
    simp [Instr.sliceBounds, a1]
  simp [Instr.sliceAt, Instr.slice, run_underlying ht, hb, sizeOf, typeInfo, hti, hs] at h5
  subst h5
  cases A with
  | none => split <;> rfl
  | some a => split <;> simp [Value.ownBlock, add_block]
theorem OwnW.off {base : Nat} {l : List UInt32} {v : Value} (h : OwnW base l v w) {g : Nat} (hg : g < base) : v.ownBlock ≠ some g := fun he => by
  have := h.ge g he
  omega
theorem OwnW.low {base base' : Nat} {l : List UInt32} {v : Value} (h : OwnW base l v w) (hb : base' ≤ base) : OwnW base' l v w := h.elim fun n h => ⟨n, ownsRow_base h fun k hk => Nat.le_trans hb (World.ownsRow.lt h k hk).1⟩
theorem OwnW.pw {base : Nat} {L : List UInt32} {v : Value} (h : OwnW base L v w) (h0 : 0 < L.length) : ∃ g sp, base ≤ g ∧ v.ownBlock = some g ∧ PW g [] L sp v w := by
  obtain ⟨n, h⟩ := h
  have hnl : L.length = n := by simpa using h.1
  rcases h.2 with ⟨_, h1⟩ | ⟨g, cap, cur, rfl, hb, hg, hnc, hcm, hcs, htk⟩
  · omega
  · refine ⟨g, cur.toList.drop (n * 1), hb, rfl, ⟨cap, by rw [hnl]; rfl, by omega, hcm⟩, ?_⟩
    rw [List.nil_append, ← htk, List.take_append_drop]
    exact hg
theorem PW.ext {g : Nat} {pre : List Value} {L : List UInt32} {post : List Value} {v : Value} {w' : World} (h : PW g pre L post v w) (hx : Ext w w') : PW g pre L post v w' := ⟨h.isv, hx.heap_some h.row⟩
theorem PW.lt {g : Nat} {pre : List Value} {L : List UInt32} {post : List Value} {v : Value} (h : PW g pre L post v w) : g < w.heap.size := (Array.getElem?_eq_some_iff.1 h.row).1
theorem PW.kept {g : Nat} {pre : List Value} {L : List UInt32} {post : List Value} {v : Value} {w' : World} (h : PW g pre L post v w) {row : Option Nat} (hg : w.grownBy w' row) (hne : some g ≠ row) : PW g pre L post v w' := ⟨h.isv, (hg.block g h.lt hne).trans h.row⟩
theorem r_slPW (ht : Try.prog.underlying t = some (.slice 88)) {g : Nat} {L : List UInt32} {sp : List Value} {v : Value} (h : PW g [] L sp v w) {lo hi : Nat} (h1 : lo < hi) (h2 : hi ≤ L.length) (kl kh : IntKind) :
    ∃ r, (∀ w' : World, (Instr.sliceAt t v (some (.int kl lo)) (some (.int kh hi)) none).run Try.prog w' = .ok r w') ∧ PW g ((L.take lo).map U32) ((L.take hi).drop lo) ((L.drop hi).map U32 ++ sp) r w := by
  obtain ⟨c, rfl, h3, h4⟩ := h.isv
  obtain ⟨i, hi', hs⟩ := Option.map_eq_some_iff.1 size_u32
  have hb : ∀ w : World, (Instr.sliceBounds true L.length c (some (.int kl lo)) (some (.int kh hi)) none).run Try.prog w = .ok (lo, hi, c) w := fun w => by
    have a1 := run_sliceBound (P := Try.prog) (w := w) kh (hi : Int) c .sliceAcap (by omega) (by omega)
    have a2 := run_sliceBound (P := Try.prog) (w := w) kl (lo : Int) hi .sliceB (by omega) (by omega)
    simp only [Int.toNat_natCast] at a1 a2
    simp [Instr.sliceBounds, a1, a2]
  have hne : ¬ c = lo := by omega
  refine ⟨.slice (some ⟨g, lo, none⟩) (hi - lo) (c - lo), fun w' => ?_, ⟨c - lo, ?_, ?_, by omega⟩, ?_⟩
  · simp [Instr.sliceAt, Instr.slice, run_underlying ht, hb, sizeOf, typeInfo, hi', hs, hne, add_mk]
  · simp only [List.length_map, List.length_take, List.length_drop, Nat.min_eq_left h2, Nat.min_eq_left (show lo ≤ L.length by omega)]
  · simp only [List.length_take, List.length_drop, Nat.min_eq_left h2]; omega
  · have e : L.take lo ++ (L.take hi).drop lo = L.take hi := by
      have := List.take_append_drop lo (L.take hi)
      rwa [List.take_take, Nat.min_eq_left (by omega)] at this
    have e2 : ([] : List Value) ++ (L.map U32 ++ sp) = (L.take lo).map U32 ++ (((L.take hi).drop lo).map U32 ++ ((L.drop hi).map U32 ++ sp)) := by
      rw [List.nil_append, ← List.append_assoc, ← List.append_assoc, ← List.map_append, ← List.map_append, e, List.take_append_drop]
    rw [h.row, e2]
theorem PW.join {g : Nat} {L F : List UInt32} {sp : List Value} {v r : Value} {lo hi : Nat} {w0 : World} (h : PW g [] L sp v w0) (h1 : lo ≤ hi) (h2 : hi ≤ L.length) (hF : F.length = hi - lo) (h3 : PW g ((L.take lo).map U32) F ((L.drop hi).map U32 ++ sp) r w) : PW g [] (L.take lo ++ F ++ L.drop hi) sp v w := by
  obtain ⟨c, rfl, h4, h5⟩ := h.isv
  have e : (L.take lo ++ F ++ L.drop hi).length = L.length := by simp [hF]; omega
  refine ⟨⟨c, by rw [e], by omega, h5⟩, ?_⟩
  rw [h3.row]
  simp only [List.nil_append, List.map_append, List.append_assoc]
end
end Go.Rl
/- Walks of package natural: canonical form, comparison, conversion. Conditions: each names its own. -/
namespace Go.Rl
open Go.RowKit Go.Proofs
theorem call_trim : Callable Try.prog 63 := ⟨_, Try.func63, by kernel_rfl, rfl⟩
theorem call_CloneN : Callable Try.prog 77 := ⟨_, Try.func77, by kernel_rfl, rfl⟩
theorem call_NMake : Callable Try.prog 71 := ⟨_, Try.func71, by kernel_rfl, rfl⟩
theorem call_NValid : Callable Try.prog 47 := ⟨_, Try.func47, by kernel_rfl, rfl⟩
theorem call_NOf : Callable Try.prog 79 := ⟨_, Try.func79, by kernel_rfl, rfl⟩
theorem call_NUint : Callable Try.prog 78 := ⟨_, Try.func78, by kernel_rfl, rfl⟩
theorem call_NCmp : Callable Try.prog 49 := ⟨_, Try.func49, by kernel_rfl, rfl⟩

theorem trim_step {l : List UInt32} {n : Nat} (h0 : 0 < n) (hn : n ≤ l.length) (h : l[n - 1]'(by omega) = 0) : val (l.take (n - 1)) = val (l.take n) := by
  obtain ⟨m, rfl⟩ : ∃ m, n = m + 1 := ⟨n - 1, by omega⟩
  simp only [Nat.add_sub_cancel] at h ⊢
  rw [val_take_succ (by omega), h]; simp
theorem trim_done {l : List UInt32} {n : Nat} (h0 : 0 < n) (hn : n ≤ l.length) (h : ¬ l[n - 1]'(by omega) = 0) : lb (val (l.take n)) = l.take n := by
  obtain ⟨m, rfl⟩ : ∃ m, n = m + 1 := ⟨n - 1, by omega⟩
  simp only [Nat.add_sub_cancel] at h
  rw [← tr_eq, List.take_succ_eq_append_getElem (by omega), tr_snoc h]
theorem can_iff {l : List UInt32} (h0 : 0 < l.length) : l[l.length - 1]'(by omega) ≠ 0 ↔ lb (val l) = l := by
  constructor
  · intro h
    have := trim_done (n := l.length) h0 (Nat.le_refl _) h
    rwa [List.take_length] at this
  · intro h h1
    have h2 := trim_step (n := l.length) h0 (Nat.le_refl _) h1
    rw [List.take_length] at h2
    have h3 : (lb (val l)).length ≤ l.length - 1 := by
      refine lb_lt ?_
      rw [← h2]
      have := val_lt (l.take (l.length - 1))
      rwa [List.length_take, Nat.min_eq_left (by omega)] at this
    rw [h] at h3
    omega
theorem u64_shr32 (x : UInt64) : (x >>> UInt64.ofNat 32).toNat = x.toNat / 4294967296 := by
  rw [UInt64.toNat_shiftRight]
  show x.toNat >>> 32 = _
  rw [Nat.shiftRight_eq_div_pow]
theorem trim_spec2 {w : World} {l : List UInt32} {v : Value} (hv : Wds l v w) :
    Calls Try.prog 63 #[v] w (Ret fun r w' => w = w' ∧ Wds (lb (val l)) r w ∧ (r.ownBlock = none ∨ r.ownBlock = v.ownBlock)) := by
  refine enter (vs := [v]) Try.func63 rfl rfl rfl ?_
  have hl := hv.len
  refine c_seq (c_region (o_assign rfl rfl (o_nil (n_then (c_seq (c_region (o_move rfl rfl (o_len rfl rfl (r_lenW Try.underlying39 hv) (o_assign rfl rfl (o_nil (n_then ?_)))))))))))
  refine c_seq (c_block ?_)
  refine c_loop (α := Nat) (fun n => [(0, v), (3, I (n : Int))]) (fun n w' => w = w' ∧ n ≤ l.length ∧ val (l.take n) = val l) (fun n => n) (l.length) ⟨rfl, rfl, trivial⟩ ⟨rfl, Nat.le_refl _, by rw [List.take_length]⟩ ?_
  rintro n _ ⟨rfl, hn, hval⟩
  refine c_seq (c_seq (c_region (o_move rfl rfl (o_bin rfl rfl rfl (r_gtr_i) (o_move rfl rfl ?_)))))
  refine o_dec (fun h8 => ?_) (fun h8 => ?_)
  · refine g_yes rfl (o_move rfl rfl (g_yes rfl (o_move rfl rfl (g_yes rfl (o_bin (r := I ((n - 1 : Nat) : Int)) rfl rfl rfl (by have e : ((n - 1 : Nat) : Int) = (n : Int) - 1 := (by omega); rw [e]; exact r_sub_i (by omega) (by omega)) ?_)))))
    refine g_yes rfl ?_
    obtain ⟨a12, p12, q12⟩ := r_ixW Try.underlying39 hv (i := (n - 1 : Nat)) (by omega) .i64
    refine o_indexAddr rfl rfl rfl (p12 _) (g_yes rfl (o_load rfl rfl (r_load1 Try.underlying88 rfl q12) (g_yes rfl (o_bin (v := U32 0) rfl rfl rfl (r_eql_u32) (o_pick_t rfl rfl rfl ?_)))))
    refine o_nil (n_then ?_)
    refine c_if rfl (fun h15 => ?_) (fun h15 => ?_)
    · refine c_skip (n_then (c_block (c_region (o_move rfl rfl (o_bin (r := I ((n - 1 : Nat) : Int)) rfl rfl rfl (by have e : ((n - 1 : Nat) : Int) = (n : Int) - 1 := (by omega); rw [e]; exact r_sub_i (by omega) (by omega)) ?_)))))
      refine o_assign rfl rfl (o_nil (n_block ?_))
      refine n_round (n - 1) ⟨rfl, rfl, trivial⟩ ⟨rfl, by omega, by rw [trim_step (by omega) hn h15]; exact hval⟩ (by omega)
    · refine c_exit (x_then (x_then (x_here (n_then (c_seq (c_seq (c_region (o_move rfl rfl (o_bin rfl rfl rfl (r_eql_i) (o_nil (n_then ?_)))))))))))
      refine c_if rfl (fun h19 => ?_) (fun h19 => ?_)
      · refine c_seq (c_region (o_assign rfl rfl (o_nil (n_then (c_ret (r_then (r_body1 rfl rfl ?_)))))))
        exact ⟨_, rfl, rfl, by
          obtain rfl : n = 0 := by omega
          rw [← hval]; exact Wds.nil _, .inl rfl⟩
      · refine c_skip (n_then (c_seq (c_region (o_move rfl rfl (o_move rfl rfl ?_)))))
        obtain ⟨v22, p22, b22, ob22⟩ := r_slW_hi2 Try.underlying39 hv (hi := n) hn .i64
        refine o_slice rfl rfl rfl rfl rfl (p22 _) (o_assign rfl rfl (o_nil (n_then (c_ret (r_body1 rfl rfl ?_)))))
        exact ⟨_, rfl, rfl, by
          first
          | (exfalso; omega)
          | (rw [← hval, trim_done (by omega) hn h15]; exact b22), .inr ob22⟩
  · refine g_no rfl rfl rfl (g_no rfl rfl rfl (g_no rfl rfl rfl (g_no rfl rfl rfl (g_no rfl rfl rfl (g_no rfl rfl rfl (o_pick_f rfl rfl rfl (o_nil (n_then (c_no rfl (c_exit (x_then (x_then ?_))))))))))))
    refine x_here (n_then (c_seq (c_seq (c_region (o_move rfl rfl (o_bin rfl rfl rfl (r_eql_i) (o_nil (n_then ?_))))))))
    refine c_if rfl (fun h19 => ?_) (fun h19 => ?_)
    · refine c_seq (c_region (o_assign rfl rfl (o_nil (n_then (c_ret (r_then (r_body1 rfl rfl ?_)))))))
      exact ⟨_, rfl, rfl, by
        obtain rfl : n = 0 := by omega
        rw [← hval]; exact Wds.nil _, .inl rfl⟩
    · refine c_skip (n_then (c_seq (c_region (o_move rfl rfl (o_move rfl rfl ?_)))))
      obtain ⟨v22, p22, b22, ob22⟩ := r_slW_hi2 Try.underlying39 hv (hi := n) hn .i64
      refine o_slice rfl rfl rfl rfl rfl (p22 _) (o_assign rfl rfl (o_nil (n_then (c_ret (r_body1 rfl rfl ?_)))))
      exact ⟨_, rfl, rfl, by
        first
        | (exfalso; omega)
        | (rw [← hval, trim_done (by omega) hn h15]; exact b22), .inr ob22⟩
theorem trim_spec {w : World} {l : List UInt32} {v : Value} (hv : Wds l v w) :
    Calls Try.prog 63 #[v] w (Ret fun r w' => w = w' ∧ Wds (lb (val l)) r w) :=
  (trim_spec2 hv).mono fun _ _ ⟨r, he, h1, h2, _⟩ => ⟨r, he, h1, h2⟩
theorem CloneN_spec {w : World} {l : List UInt32} {v : Value} (hv : Wds l v w) (hl : l.length ≤ 17592186044416) :
    Calls Try.prog 77 #[v] w (Ret fun r w' => Ext w w' ∧ OwnW w.heap.size l r w') := by
  obtain ⟨A, n, c, rfl, hnc, hcm, hll, hc, hnone⟩ := id hv
  refine enter (vs := [.slice A n c]) Try.func77 rfl rfl rfl ?_
  refine c_seq (c_region (o_assign rfl rfl (o_nil (n_then (c_seq (c_seq (c_region (o_move rfl rfl (o_bin rfl rfl rfl (r_eqnil Try.underlying39) (o_nil (n_then ?_)))))))))))
  refine c_cond rfl (fun h4 => ?_) (fun h4 => ?_)
  · refine c_seq (c_region (o_assign rfl rfl (o_nil (n_then (c_ret (r_then (r_body1 rfl rfl ?_)))))))
    have hA : A = none := by simpa using h4
    have := hnone hA
    have hnil : l = [] := List.eq_nil_of_length_eq_zero (by simp at hll; omega)
    subst hnil
    exact ⟨_, rfl, Ext.refl _, OwnW.nil _ _⟩
  · refine c_skip (n_then (c_seq (c_region ?_)))
    obtain ⟨v5, w5, hr5, x5, o5, ob5⟩ := r_bsW Try.underlying39 (w := w) w.heap.size [] (by simp) (Nat.le_refl _)
    refine o_buildSlice (vs := []) rfl rfl hr5 (o_move rfl rfl ?_)
    obtain ⟨v7, w7, hr7, o7, g7⟩ := r_appW Try.underlying39 (ty := 39) o5 (hv.ext x5) (by simp; omega) (x5).size
    have x7 := Ext.of_grew (x5) g7 o5.ge
    refine o_append rfl rfl hr7 (o_assign rfl rfl (o_nil (n_then (c_ret (r_body1 rfl rfl ?_)))))
    exact ⟨_, rfl, x7, by simpa using o7⟩
theorem NMake_spec {w : World} {l : List UInt32} {v : Value} (hv : Wds l v w) (hl : l.length ≤ 17592186044416) :
    Calls Try.prog 71 #[v] w (Ret fun r w' => Ext w w' ∧ Wds (lb (val l)) r w') := by
  refine enter (vs := [v]) Try.func71 rfl rfl rfl ?_
  have hll := lb_lt (val_lt l)
  refine c_seq (c_region (o_assign rfl rfl (o_nil (n_then (c_seq (c_region (o_move rfl rfl (o_call call_trim rfl rfl (trim_spec hv) ?_))))))))
  rintro v4 _ ⟨rfl, b4⟩
  refine o_call call_CloneN rfl rfl (CloneN_spec b4 (by omega)) ?_
  rintro v5 w5 ⟨x5, o5⟩
  refine o_assign rfl rfl (o_nil (n_then (c_ret (r_body1 rfl rfl ?_))))
  exact ⟨_, rfl, x5, o5.wds⟩
theorem NValid_spec {w : World} {l : List UInt32} {v : Value} (hv : Wds l v w) :
    Calls Try.prog 47 #[v] w (Ret fun r w' => w = w' ∧ r = B (decide (lb (val l) = l))) := by
  refine enter (vs := [v]) Try.func47 rfl rfl rfl ?_
  have hl := hv.len
  refine c_seq (c_region (o_assign rfl rfl (o_nil (n_then (c_seq (c_region (o_move rfl rfl (o_len rfl rfl (r_lenW Try.underlying39 hv) (o_bin rfl rfl rfl (r_eql_i) ?_)))))))))
  refine o_move rfl rfl ?_
  refine o_dec (fun h6 => ?_) (fun h6 => ?_)
  · refine g_no rfl rfl rfl (g_no rfl rfl rfl (g_no rfl rfl rfl (g_no rfl rfl rfl (g_no rfl rfl rfl (g_no rfl rfl rfl (g_no rfl rfl rfl (o_pick_t rfl rfl rfl (o_assign rfl rfl (o_nil ?_)))))))))
    refine n_then (c_ret (r_body1 rfl rfl ?_))
    exact ⟨_, rfl, rfl, by
      first
      | (have h0 : l = [] := List.eq_nil_of_length_eq_zero (by omega)
         subst h0; rfl)
      | exact congrArg B (decide_eq_decide.2 (can_iff (by omega)))⟩
  · refine g_yes rfl (o_move rfl rfl (g_yes rfl (o_move rfl rfl (g_yes rfl (o_len rfl rfl (r_lenW Try.underlying39 hv) (g_yes rfl (o_bin (r := I ((l.length - 1 : Nat) : Int)) rfl rfl rfl (by have e : ((l.length - 1 : Nat) : Int) = (l.length : Int) - 1 := (by omega); rw [e]; exact r_sub_i (by omega) (by omega)) ?_)))))))
    refine g_yes rfl ?_
    obtain ⟨a11, p11, q11⟩ := r_ixW Try.underlying39 hv (i := (l.length - 1 : Nat)) (by omega) .i64
    refine o_indexAddr rfl rfl rfl (p11 _) (g_yes rfl (o_load rfl rfl (r_load1 Try.underlying88 rfl q11) (g_yes rfl (o_bin (v := U32 0) rfl rfl rfl (r_neq_u32) (o_pick_f rfl rfl rfl ?_)))))
    refine o_assign rfl rfl (o_nil (n_then (c_ret (r_body1 rfl rfl ?_))))
    exact ⟨_, rfl, rfl, by
      first
      | (have h0 : l = [] := List.eq_nil_of_length_eq_zero (by omega)
         subst h0; rfl)
      | exact congrArg B (decide_eq_decide.2 (can_iff (by omega)))⟩
theorem NOf_spec {w : World} {x : UInt64} :
    Calls Try.prog 79 #[U64 x] w (Ret fun r w' => Ext w w' ∧ Wds (lb x.toNat) r w') := by
  refine enter (vs := [U64 x]) Try.func79 rfl rfl rfl ?_
  refine c_seq (c_region (o_assign rfl rfl (o_nil (n_then (c_seq (c_region (o_move rfl rfl (o_conv rfl rfl (r_u64_u32 Try.underlying69 Try.underlying88) (o_move rfl rfl ?_)))))))))
  refine o_bin rfl rfl rfl (r_shr_u64 32 (by omega)) (o_conv rfl rfl (r_u64_u32 Try.underlying69 Try.underlying88) ?_)
  obtain ⟨v8, w8, hr8, x8, o8, ob8⟩ := r_bsW Try.underlying39 (w := w) w.heap.size [x.toUInt32, (x >>> UInt64.ofNat 32).toUInt32] (by simp) (Nat.le_refl _)
  refine o_buildSlice (vs := [(0, U32 (x.toUInt32)), (1, U32 ((x >>> UInt64.ofNat 32).toUInt32))]) rfl rfl hr8 (o_call call_trim rfl rfl (trim_spec o8.wds) ?_)
  rintro v9 _ ⟨rfl, b9⟩
  refine o_assign rfl rfl (o_nil (n_then (c_ret (r_body1 rfl rfl ?_))))
  exact ⟨_, rfl, x8, by
    have e : val [x.toUInt32, (x >>> UInt64.ofNat 32).toUInt32] = x.toNat := by
      have h1 : (x.toUInt32).toNat = x.toNat % 4294967296 := UInt64.toNat_toUInt32 x
      have h2 : ((x >>> UInt64.ofNat 32).toUInt32).toNat = x.toNat / 4294967296 := by
        have := x.toNat_lt
        rw [UInt64.toNat_toUInt32, u64_shr32]
        omega
      simp only [val, h1, h2]; omega
    rw [e] at b9; exact b9⟩
end Go.Rl
/- Plain maths: words of 32 and 64 bits as numbers; steps of the algorithms on limbs. Conditions: each names its own. -/
namespace Go.Rl

theorem u64_lt (x : UInt64) : x.toNat < 18446744073709551616 := x.toNat_lt
theorem n_shl (x : UInt64) {s : Nat} (hs : s < 64) : (x <<< UInt64.ofNat s).toNat = x.toNat * 2 ^ s % 18446744073709551616 := by
  rw [UInt64.toNat_shiftLeft, UInt64.toNat_ofNat', Nat.mod_eq_of_lt (Nat.lt_trans hs (by decide)), Nat.mod_eq_of_lt hs, Nat.shiftLeft_eq]
theorem n_shr (x : UInt64) {s : Nat} (hs : s < 64) : (x >>> UInt64.ofNat s).toNat = x.toNat / 2 ^ s := by
  rw [UInt64.toNat_shiftRight, UInt64.toNat_ofNat', Nat.mod_eq_of_lt (Nat.lt_trans hs (by decide)), Nat.mod_eq_of_lt hs, Nat.shiftRight_eq_div_pow]
theorem n_shl32 (x : UInt32) {s : Nat} (hs : s < 32) : (x <<< UInt32.ofNat s).toNat = x.toNat * 2 ^ s % 4294967296 := by
  rw [UInt32.toNat_shiftLeft, UInt32.toNat_ofNat', Nat.mod_eq_of_lt (Nat.lt_trans hs (by decide)), Nat.mod_eq_of_lt hs, Nat.shiftLeft_eq]
theorem n_shr32 (x : UInt32) {s : Nat} (hs : s < 32) : (x >>> UInt32.ofNat s).toNat = x.toNat / 2 ^ s := by
  rw [UInt32.toNat_shiftRight, UInt32.toNat_ofNat', Nat.mod_eq_of_lt (Nat.lt_trans hs (by decide)), Nat.mod_eq_of_lt hs, Nat.shiftRight_eq_div_pow]
theorem n_64 (x : UInt32) : x.toUInt64.toNat = x.toNat := UInt32.toNat_toUInt64 x
theorem n_32 (x : UInt64) : x.toUInt32.toNat = x.toNat % 4294967296 := UInt64.toNat_toUInt32 x
theorem n_add (x y : UInt64) : (x + y).toNat = (x.toNat + y.toNat) % 18446744073709551616 := UInt64.toNat_add x y
theorem n_mul (x y : UInt64) : (x * y).toNat = x.toNat * y.toNat % 18446744073709551616 := UInt64.toNat_mul x y
theorem n_sub (x y : UInt64) : (x - y).toNat = (18446744073709551616 - y.toNat + x.toNat) % 18446744073709551616 := UInt64.toNat_sub x y
theorem nor (a b i : Nat) (h : a < 2 ^ i) : a ||| 2 ^ i * b = a + 2 ^ i * b := by
  rw [Nat.or_comm, ← Nat.two_pow_add_eq_or_of_lt h, Nat.add_comm]
theorem n_or (x y : UInt64) : (x ||| y).toNat = x.toNat ||| y.toNat := UInt64.toNat_or x y
theorem n_or32 (x y : UInt32) : (x ||| y).toNat = x.toNat ||| y.toNat := UInt32.toNat_or x y
/-- Two limbs as one number. -/
theorem n_two (r : UInt64) (d : UInt32) (hr : r.toNat < 4294967296) : (r <<< UInt64.ofNat 32 ||| d.toUInt64).toNat = r.toNat * 4294967296 + d.toNat := by
  have hd := u32_lt d
  rw [n_or, n_shl r (by omega), n_64, Nat.mod_eq_of_lt (by omega), Nat.or_comm]
  have := nor d.toNat r.toNat 32 hd
  simp only [Nat.reducePow] at this ⊢
  rw [Nat.mul_comm r.toNat, this]; omega

theorem val_set_take {l : List UInt32} {i : Nat} (h : i < l.length) (x : UInt32) : val ((l.set i x).take (i + 1)) = val (l.take i) + 4294967296 ^ i * x.toNat := by
  rw [val_take_succ (by simpa using h), List.take_set_of_le (Nat.le_refl _)]
  simp
theorem val_set_drop {l : List UInt32} {i : Nat} (h : i < l.length) (x : UInt32) : val ((l.set i x).drop i) = x.toNat + 4294967296 * val (l.drop (i + 1)) := by
  rw [val_drop (by simpa using h), List.drop_set_of_lt (by omega)]
  simp

/-- One step of 'left'. -/
theorem left_step {l L : List UInt32} {i k : Nat} {d : UInt32} (hk : k < 32) (hi : i < l.length) (hd : d = l[i]) (hL : L.length = l.length + 1) (hv : val (L.take (i + 1)) = val (l.take i) * 2 ^ k) (hc : (L[i]'(by omega)).toNat < 2 ^ k) :
    val (((L.set i (L[i]'(by omega) ||| (d.toUInt64 <<< UInt64.ofNat k).toUInt32)).set (i + 1) ((d.toUInt64 <<< UInt64.ofNat k) >>> UInt64.ofNat 32).toUInt32).take (i + 1 + 1)) = val (l.take (i + 1)) * 2 ^ k ∧
      ((d.toUInt64 <<< UInt64.ofNat k) >>> UInt64.ofNat 32).toUInt32.toNat < 2 ^ k := by
  have hdl := u32_lt d
  have hp : 2 ^ k * 2 ^ (32 - k) = 4294967296 := by rw [← Nat.pow_add, show k + (32 - k) = 32 by omega]
  have hpos : 0 < 2 ^ k := Nat.pow_pos (by omega)
  have hx : (d.toUInt64 <<< UInt64.ofNat k).toNat = d.toNat * 2 ^ k := by
    rw [n_shl _ (by omega), n_64, Nat.mod_eq_of_lt]
    have h1 : d.toNat * 2 ^ k ≤ 4294967296 * 2 ^ k := Nat.mul_le_mul_right _ (by omega)
    have h2 : 2 ^ k ≤ 2 ^ 31 := Nat.pow_le_pow_right (by omega) (by omega)
    omega
  have hlo : (d.toUInt64 <<< UInt64.ofNat k).toUInt32.toNat = 2 ^ k * (d.toNat % 2 ^ (32 - k)) := by
    rw [n_32, hx, ← hp, Nat.mul_comm d.toNat, Nat.mul_mod_mul_left]
  have hhi : ((d.toUInt64 <<< UInt64.ofNat k) >>> UInt64.ofNat 32).toUInt32.toNat = d.toNat * 2 ^ k / 4294967296 := by
    rw [n_32, n_shr _ (by omega), hx, Nat.mod_eq_of_lt]
    have h1 : d.toNat * 2 ^ k < 4294967296 * 2 ^ k := Nat.mul_lt_mul_of_pos_right hdl hpos
    have h2 : 2 ^ k ≤ 2 ^ 31 := Nat.pow_le_pow_right (by omega) (by omega)
    simp only [Nat.reducePow] at h2 ⊢
    omega
  have hor : (L[i]'(by omega) ||| (d.toUInt64 <<< UInt64.ofNat k).toUInt32).toNat = (L[i]'(by omega)).toNat + 2 ^ k * (d.toNat % 2 ^ (32 - k)) := by
    rw [n_or32, hlo, nor _ _ _ hc]
  have hdm : 2 ^ k * (d.toNat % 2 ^ (32 - k)) + 4294967296 * (d.toNat * 2 ^ k / 4294967296) = d.toNat * 2 ^ k := by
    have h1 := Nat.mod_add_div (d.toNat * 2 ^ k) 4294967296
    rw [n_32, hx] at hlo
    omega
  refine ⟨?_, ?_⟩
  · generalize d.toNat * 2 ^ k / 4294967296 = q at hhi hdm
    rw [val_set_take (by simp; omega), hhi, val_set_take (by omega), hor, val_take_succ hi, ← hd]
    rw [val_take_succ (by omega)] at hv
    rw [Nat.add_mul, ← hv, Nat.mul_assoc, ← hdm, Nat.pow_succ]
    rw [Nat.mul_add (4294967296 ^ i), Nat.mul_add (4294967296 ^ i), Nat.mul_assoc (4294967296 ^ i), Nat.add_assoc, Nat.add_assoc, Nat.add_assoc]
  · rw [hhi, Nat.div_lt_iff_lt_mul (by omega), Nat.mul_comm]
    exact Nat.mul_lt_mul_of_pos_left hdl hpos
/-- One step of division by a limb. -/
theorem short_step {l L : List UInt32} {j : Nat} {d : UInt32} {r : UInt64} (hd : 0 < d.toNat) (hj : j < l.length) (hL : L.length = l.length) (hv : val (L.drop (j + 1)) * d.toNat + r.toNat = val (l.drop (j + 1))) (hr : r.toNat < d.toNat) :
    val ((L.set j ((r <<< UInt64.ofNat 32 ||| l[j].toUInt64) / d.toUInt64).toUInt32).drop j) * d.toNat + ((r <<< UInt64.ofNat 32 ||| l[j].toUInt64) % d.toUInt64).toNat = val (l.drop j) ∧
      ((r <<< UInt64.ofNat 32 ||| l[j].toUInt64) % d.toUInt64).toNat < d.toNat := by
  have hdl := u32_lt d
  have hx := n_two r l[j] (by omega)
  have hq : ((r <<< UInt64.ofNat 32 ||| l[j].toUInt64) / d.toUInt64).toNat = (r.toNat * 4294967296 + l[j].toNat) / d.toNat := by rw [UInt64.toNat_div, hx, n_64]
  have hm : ((r <<< UInt64.ofNat 32 ||| l[j].toUInt64) % d.toUInt64).toNat = (r.toNat * 4294967296 + l[j].toNat) % d.toNat := by rw [UInt64.toNat_mod, hx, n_64]
  have hlt : (r.toNat * 4294967296 + l[j].toNat) / d.toNat < 4294967296 := by
    rw [Nat.div_lt_iff_lt_mul hd]
    have := u32_lt l[j]
    have h2 : (r.toNat + 1) * 4294967296 ≤ d.toNat * 4294967296 := Nat.mul_le_mul_right _ hr
    omega
  refine ⟨?_, by rw [hm]; exact Nat.mod_lt _ hd⟩
  rw [val_set_drop (by omega), n_32, hq, hm, Nat.mod_eq_of_lt hlt, val_drop hj, ← hv]
  have := Nat.div_add_mod (r.toNat * 4294967296 + l[j].toNat) d.toNat
  rw [Nat.add_mul, Nat.mul_assoc, Nat.mul_comm ((r.toNat * 4294967296 + l[j].toNat) / d.toNat)]
  omega
/-- One step of the shift to the right. -/
theorem shr_step {x : UInt64} {d R s : Nat} (hs : s < 32) (hx : x.toNat = d + 4294967296 * (R % 4294967296)) :
    ((x >>> UInt64.ofNat s).toUInt32).toNat + 4294967296 * (R / 2 ^ s) = (d + 4294967296 * R) / 2 ^ s ∨ 4294967296 ≤ d := by
  by_cases hd : 4294967296 ≤ d
  · exact .inr hd
  left
  have hp : 2 ^ s * 2 ^ (32 - s) = 4294967296 := by rw [← Nat.pow_add, show s + (32 - s) = 32 by omega]
  have hpos : 0 < 2 ^ s := Nat.pow_pos (by omega)
  have e1 : d + 4294967296 * R = x.toNat + 2 ^ s * (2 ^ (32 - s) * (4294967296 * (R / 4294967296))) := by
    rw [← Nat.mul_assoc, hp, hx]; omega
  have e2 : (d + 4294967296 * R) / 2 ^ s = x.toNat / 2 ^ s + 4294967296 * (2 ^ (32 - s) * (R / 4294967296)) := by
    rw [e1, Nat.add_mul_div_left _ _ hpos, Nat.mul_left_comm]
  have e3 : (d + 4294967296 * R) / 2 ^ s / 4294967296 = R / 2 ^ s := by
    rw [Nat.div_div_eq_div_mul, Nat.mul_comm (2 ^ s), ← Nat.div_div_eq_div_mul]
    congr 1
    omega
  have e4 := Nat.mod_add_div ((d + 4294967296 * R) / 2 ^ s) 4294967296
  rw [e3] at e4
  rw [n_32, n_shr _ (by omega)]
  rw [← e4]
  congr 1
  rw [e2, Nat.add_mul_mod_self_left]
theorem limb2 {x : UInt64} {a : Nat} {e : UInt32} (hx : x.toNat = a) (ha : a < 4294967296) : (x ||| e.toUInt64 <<< UInt64.ofNat 32).toNat = a + 4294967296 * e.toNat := by
  have he := u32_lt e
  rw [n_or, n_shl _ (by omega), n_64, Nat.mod_eq_of_lt (by omega), hx]
  have := nor a e.toNat 32 ha
  simp only [Nat.reducePow] at this ⊢
  rw [Nat.mul_comm e.toNat, this]
/-- The number of bits. -/
def bl (n : Nat) : Nat := if n = 0 then 0 else Nat.log2 n + 1
theorem bl_zero : bl 0 = 0 := rfl
theorem bl_spec {n : Nat} (h : 0 < n) : 2 ^ (bl n - 1) ≤ n ∧ n < 2 ^ bl n := by
  unfold bl
  rw [if_neg (by omega), Nat.add_sub_cancel]
  exact ⟨Nat.log2_self_le (by omega), Nat.lt_log2_self⟩
theorem bl_pos {n : Nat} (h : 0 < n) : 0 < bl n := by unfold bl; rw [if_neg (by omega)]; omega
theorem bl_unique {n k : Nat} (h1 : 2 ^ k ≤ n) (h2 : n < 2 ^ (k + 1)) : bl n = k + 1 := by
  have hn : 0 < n := Nat.lt_of_lt_of_le (Nat.pow_pos (by omega)) h1
  obtain ⟨h3, h4⟩ := bl_spec hn
  have hp := bl_pos hn
  have a : k < bl n := (Nat.pow_lt_pow_iff_right (a := 2) (by omega)).1 (Nat.lt_of_le_of_lt h1 h4)
  have b : bl n - 1 < k + 1 := (Nat.pow_lt_pow_iff_right (a := 2) (by omega)).1 (Nat.lt_of_le_of_lt h3 h2)
  omega
theorem bl_shift {n s : Nat} (h : 2 ^ s ≤ n) : bl n = s + bl (n / 2 ^ s) := by
  have hps : 0 < 2 ^ s := Nat.pow_pos (by omega)
  have hq : 0 < n / 2 ^ s := Nat.div_pos h hps
  obtain ⟨h1, h2⟩ := bl_spec hq
  have hp := bl_pos hq
  obtain ⟨k, hk⟩ : ∃ k, bl (n / 2 ^ s) = k + 1 := ⟨_, (Nat.sub_add_cancel hp).symm⟩
  rw [hk, Nat.add_sub_cancel] at h1
  rw [hk] at h2 ⊢
  refine (bl_unique (k := s + k) ?_ ?_)
  · rw [Nat.pow_add, Nat.mul_comm]
    exact Nat.le_trans (Nat.mul_le_mul_right _ h1) (Nat.div_mul_le_self _ _)
  · rw [show s + k + 1 = s + (k + 1) by omega, Nat.pow_add, Nat.mul_comm]
    exact (Nat.div_lt_iff_lt_mul hps).1 h2
theorem bl_le {n k : Nat} (h : n < 2 ^ k) : bl n ≤ k := by
  rcases Nat.eq_zero_or_pos n with rfl | h0
  · simp [bl_zero]
  · have h1 := (bl_spec h0).1
    have h2 := bl_pos h0
    have := (Nat.pow_lt_pow_iff_right (a := 2) (by omega)).1 (Nat.lt_of_le_of_lt h1 h)
    omega
/-- The number of bits, out of the limbs. -/
theorem bl_lb {n i : Nat} (h : i + 1 = (lb n).length) : bl n = 32 * i + bl ((lb n)[i]'(by omega)).toNat := by
  have hl := lb_last h
  have h2 : n = val ((lb n).take i) + 4294967296 ^ i * ((lb n)[i]'(by omega)).toNat := by
    rw [← val_take_succ (by omega), h, List.take_length, val_lb]
  have h3 := val_lt ((lb n).take i)
  rw [List.length_take, Nat.min_eq_left (by omega)] at h3
  have hp : (4294967296 : Nat) ^ i = 2 ^ (32 * i) := by rw [Nat.pow_mul]
  rw [hp] at h2 h3
  have hge : 2 ^ (32 * i) ≤ n := by
    rw [h2]
    have : 2 ^ (32 * i) * 1 ≤ 2 ^ (32 * i) * ((lb n)[i]'(by omega)).toNat := Nat.mul_le_mul_left _ hl
    omega
  rw [bl_shift hge]
  congr 2
  have : n / 2 ^ (32 * i) = (val ((lb n).take i) + 2 ^ (32 * i) * ((lb n)[i]'(by omega)).toNat) / 2 ^ (32 * i) := by rw [← h2]
  rw [this, Nat.add_mul_div_left _ _ (Nat.pow_pos (by omega)), Nat.div_eq_of_lt h3, Nat.zero_add]
end Go.Rl
/- Walks of package natural: Uint, Cmp, left, short, Shr, Bits. Conditions: the numbers are shorter than 2^40 limbs. -/
namespace Go.Rl
open Go.RowKit Go.Proofs
theorem call_NLeft : Callable Try.prog 82 := ⟨_, Try.func82, by kernel_rfl, rfl⟩
theorem call_NShort : Callable Try.prog 80 := ⟨_, Try.func80, by kernel_rfl, rfl⟩
theorem call_NShr : Callable Try.prog 85 := ⟨_, Try.func85, by kernel_rfl, rfl⟩
theorem call_NBits : Callable Try.prog 75 := ⟨_, Try.func75, by kernel_rfl, rfl⟩
theorem call_Len32 : Callable Try.prog 86 := ⟨_, Try.func86, by kernel_rfl, rfl⟩
theorem call_LZ32 : Callable Try.prog 81 := ⟨_, Try.func81, by kernel_rfl, rfl⟩

theorem uint_step {t : List UInt32} {i : Nat} {x : UInt64} (h2 : t.length ≤ 2) (hi : i < t.length) (hx : x.toNat = val (t.take i)) : (x ||| t[i].toUInt64 <<< UInt64.ofNat (32 * i)).toNat = val (t.take (i + 1)) := by
  have hl := val_lt (t.take i)
  rw [List.length_take, Nat.min_eq_left (by omega)] at hl
  have hd := u32_lt t[i]
  rw [val_take_succ hi, ← hx, n_or, n_shl _ (by omega), n_64]
  have hp : (4294967296 : Nat) ^ i = 2 ^ (32 * i) := by rw [Nat.pow_mul]
  rw [hp, ← hx] at hl
  have hb : 2 ^ (32 * i) ≤ 2 ^ 32 := Nat.pow_le_pow_right (by omega) (by omega)
  rw [Nat.mod_eq_of_lt, Nat.mul_comm, nor _ _ _ hl, hp]
  have : t[i].toNat * 2 ^ (32 * i) ≤ 4294967295 * 2 ^ 32 := Nat.mul_le_mul (by omega) hb
  omega
theorem cmpN_lt {x y : Nat} (h : x < y) : cmpN x y = -1 := by unfold cmpN; rw [if_pos h]
theorem cmpN_gt {x y : Nat} (h : y < x) : cmpN x y = 1 := by unfold cmpN; rw [if_neg (by omega), if_pos h]
theorem cmpN_eq {x : Nat} : cmpN x x = 0 := by unfold cmpN; rw [if_neg (by omega), if_neg (by omega)]
theorem lt32 {a b : UInt32} : a < b ↔ a.toNat < b.toNat := UInt32.lt_iff_toNat_lt
theorem lb_cmp_lt {x y j : Nat} (h1 : j < (lb x).length) (h2 : j < (lb y).length) (hd : (lb x).drop (j + 1) = (lb y).drop (j + 1)) (h : (lb x)[j] < (lb y)[j]) : x < y := by
  have := val_cmp h1 h2 hd (lt32.1 h)
  rwa [val_lb, val_lb] at this
theorem NUint_spec {w : World} {l : List UInt32} {v : Value} (hv : Wds l v w) :
    Calls Try.prog 78 #[v] w (Ret fun r w' => w = w' ∧ ((18446744073709551616 ≤ val l ∧ r = .tuple #[U64 0, B false]) ∨ ∃ x : UInt64, x.toNat = val l ∧ r = .tuple #[U64 x, B true])) := by
  refine enter (vs := [v]) Try.func78 rfl rfl rfl ?_
  refine c_seq (c_region (o_assign rfl rfl (o_assign rfl rfl (o_nil (n_then (c_seq (c_region (o_move rfl rfl (o_call call_trim rfl rfl (trim_spec hv) ?_)))))))))
  rintro v8 _ ⟨rfl, b8⟩
  refine o_assign rfl rfl (o_nil (n_then (c_seq (c_seq (c_region (o_move rfl rfl (o_len rfl rfl (r_lenW Try.underlying39 b8) (o_bin rfl rfl rfl (r_gtr_i) (o_nil ?_)))))))))
  refine n_then ?_
  refine c_if rfl (fun h11 => ?_) (fun h11 => ?_)
  · refine c_seq (c_region (o_assign rfl rfl (o_assign rfl rfl (o_nil (n_then (c_ret (r_then (r_body2 rfl rfl rfl ?_))))))))
    exact ⟨_, rfl, rfl, .inl ⟨by
      rcases Nat.lt_or_ge (val l) 18446744073709551616 with h | h
      · have := lb_lt (n := val l) (k := 2) h
        omega
      · exact h, rfl⟩⟩
  · obtain ⟨t, ht⟩ : ∃ t, t = lb (val l) := ⟨_, rfl⟩
    have hval : val t = val l := by rw [ht, val_lb]
    rw [← ht] at b8 h11 ⊢
    have h2 : t.length ≤ 2 := by omega
    refine c_skip (n_then (c_seq (c_region (o_assign rfl rfl (o_nil (n_then (c_seq (c_seq (c_region (o_move rfl rfl (o_len (r := I (t.length : Int)) rfl rfl (r_lenW Try.underlying39 b8) ?_)))))))))))
    refine o_move rfl rfl (o_nil (n_then (c_block ?_)))
    refine c_loop2 (fun (i : Nat) (x : UInt64) => [(4, U64 x), (12, v8), (13, I (t.length : Int)), (14, I (i : Int))]) (fun (i : Nat) (x : UInt64) w' => w = w' ∧ i ≤ t.length ∧ x.toNat = val (t.take i)) (fun (i : Nat) (x : UInt64) => t.length - i) (0) (0) ⟨rfl, rfl, rfl, rfl, trivial⟩ ⟨rfl, by simp, rfl⟩ ?_
    rintro i x _ ⟨rfl, hi, hx⟩
    refine c_seq (c_region (o_bin rfl rfl rfl (r_lss_i) (o_nil (n_then (c_seq ?_)))))
    refine c_if rfl (fun h15 => ?_) (fun h15 => ?_)
    · refine c_skip (n_then (c_seq (c_block (c_seq (c_region (o_move rfl rfl ?_))))))
      obtain ⟨a17, p17, q17⟩ := r_ixW Try.underlying39 b8 (i := i) (by omega) .i64
      refine o_indexAddr rfl rfl rfl (p17 _) (o_load rfl rfl (r_load1 Try.underlying88 rfl q17) (o_assign rfl rfl (o_assign rfl rfl (o_nil (n_then (c_region (o_move rfl rfl ?_)))))))
      refine o_move rfl rfl (o_conv rfl rfl (r_u32_u64 Try.underlying88 Try.underlying69) (o_move rfl rfl (o_bin (r := I ((32 * i : Nat) : Int)) rfl rfl rfl (by have e : ((32 * i : Nat) : Int) = 32 * (i : Int) := (by omega); rw [e]; exact r_mul_i (by omega) (by omega)) ?_)))
      refine o_bin rfl rfl rfl (r_shl_u64 ((32 * i : Nat)) (by omega)) (o_bin rfl rfl rfl (r_or_u64) (o_assign rfl rfl (o_nil (n_block (n_then (c_region (o_bin (r := I ((i + 1 : Nat) : Int)) rfl rfl rfl (by have e : ((i + 1 : Nat) : Int) = (i : Int) + 1 := (by omega); rw [e]; exact r_add_i (by omega) (by omega)) ?_)))))))
      refine o_move rfl rfl (o_nil ?_)
      refine n_round2 (i + 1) (x ||| t[i].toUInt64 <<< UInt64.ofNat (32 * i)) ⟨rfl, rfl, rfl, rfl, trivial⟩ ⟨rfl, by show i + 1 ≤ _; omega, uint_step h2 (by omega) hx⟩ (by show t.length - (i + 1) < t.length - i; omega)
    · refine c_exit (x_then (x_then (x_here (n_then (c_seq (c_region (o_move rfl rfl (o_assign rfl rfl (o_assign rfl rfl (o_nil (n_then (c_ret (r_body2 rfl rfl rfl ?_)))))))))))))
      exact ⟨_, rfl, rfl, .inr ⟨x, by rw [hx, List.take_of_length_le (by omega), hval], rfl⟩⟩
theorem NCmp_spec {w : World} {l m : List UInt32} {v u : Value} (hv : Wds l v w) (hu : Wds m u w) :
    Calls Try.prog 49 #[v, u] w (Ret fun r w' => Ext w w' ∧ r = I (cmpN (val l) (val m))) := by
  refine enter (vs := [v, u]) Try.func49 rfl rfl rfl ?_
  refine c_seq (c_region (o_assign rfl rfl (o_nil (n_then (c_seq (c_region (o_move rfl rfl (o_call call_trim rfl rfl (trim_spec hv) ?_))))))))
  rintro v7 _ ⟨rfl, b7⟩
  refine o_move rfl rfl (o_call call_trim rfl rfl (trim_spec hu) ?_)
  rintro v9 _ ⟨rfl, b9⟩
  have hx := b7.len
  have hy := b9.len
  refine o_assign rfl rfl (o_assign rfl rfl (o_nil (n_then (c_seq (c_seq (c_region (o_move rfl rfl (o_len rfl rfl (r_lenW Try.underlying39 b7) (o_move rfl rfl (o_len rfl rfl (r_lenW Try.underlying39 b9) ?_))))))))))
  refine o_bin rfl rfl rfl (r_neq_i) (o_nil (n_then ?_))
  refine c_if rfl (fun h14 => ?_) (fun h14 => ?_)
  · refine c_seq (c_seq (c_region (o_move rfl rfl (o_len rfl rfl (r_lenW Try.underlying39 b7) (o_move rfl rfl (o_len rfl rfl (r_lenW Try.underlying39 b9) ?_))))))
    refine o_bin rfl rfl rfl (r_lss_i) (o_nil (n_then ?_))
    refine c_if rfl (fun h19 => ?_) (fun h19 => ?_)
    · refine c_seq (c_region (o_assign rfl rfl (o_nil (n_then (c_ret (r_then (r_then (r_body1 rfl rfl ?_))))))))
      exact ⟨_, rfl, Ext.refl _, congrArg I (cmpN_lt (len_lt (by omega))).symm⟩
    · refine c_skip (n_then (c_seq (c_region (o_assign rfl rfl (o_nil (n_then (c_ret (r_then (r_body1 rfl rfl ?_)))))))))
      exact ⟨_, rfl, Ext.refl _, congrArg I (cmpN_gt (len_lt (by omega))).symm⟩
  · refine c_skip (n_then (c_seq (c_seq (c_region ?_))))
    have hlen : (lb (val l)).length = (lb (val m)).length := by omega
    refine o_move rfl rfl (o_len rfl rfl (r_lenW Try.underlying39 b7) (o_bin rfl rfl rfl (r_sub_i (by omega) (by omega)) (o_assign rfl rfl (o_nil (n_then ?_)))))
    refine c_block ?_
    refine c_loop (α := Nat) (fun k => [(0, v7), (1, v9), (5, I ((k : Int) - 1))]) (fun k w' => Ext w w' ∧ k ≤ (lb (val l)).length ∧ (lb (val l)).drop k = (lb (val m)).drop k) (fun k => k) ((lb (val l)).length) ⟨rfl, rfl, rfl, trivial⟩ ⟨Ext.refl _, Nat.le_refl _, by rw [List.drop_of_length_le (Nat.le_refl _), List.drop_of_length_le (by omega)]⟩ ?_
    rintro k w7 ⟨x7, hk, hd⟩
    refine c_seq (c_seq (c_region (o_move rfl rfl (o_bin rfl rfl rfl (r_geq_i) (o_nil (n_then ?_))))))
    refine c_if rfl (fun h24 => ?_) (fun h24 => ?_)
    · obtain ⟨j, rfl⟩ : ∃ j, k = j + 1 := ⟨k - 1, by omega⟩
      have e : ((j + 1 : Nat) : Int) - 1 = (j : Int) := by omega
      rw [e]
      refine c_skip (n_then (c_seq (c_block (c_seq (c_grow 8 [0, 1, 5, 30, 34] (by kernel_rfl) (by kernel_rfl) ?_)))))
      refine f_move rfl rfl (f_move rfl rfl ?_)
      obtain ⟨a29, p29, q29⟩ := r_ixW Try.underlying39 (b7.ext x7) (i := j) (by omega) .i64
      refine f_indexAddr rfl rfl rfl (fun w _ => p29 w) (f_load rfl rfl (fun w hw => r_load1 Try.underlying88 rfl (hw.cell_some q29)) (f_move rfl rfl (f_move rfl rfl ?_)))
      obtain ⟨a33, p33, q33⟩ := r_ixW Try.underlying39 (b9.ext x7) (i := j) (by omega) .i64
      refine f_indexAddr rfl rfl rfl (fun w _ => p33 w) (f_load rfl rfl (fun w hw => r_load1 Try.underlying88 rfl (hw.cell_some q33)) (f_nil ?_))
      intro wg9 xg9
      rintro _ hq0
      obtain rfl := Eq.symm hq0
      rintro _ hq1
      obtain rfl := Eq.symm hq1
      rintro _ rfl
      rintro _ rfl
      rintro _ rfl
      refine o_bin rfl rfl rfl (r_neq_u32) (o_nil (n_then ?_))
      refine c_if rfl (fun h35 => ?_) (fun h35 => ?_)
      · refine c_seq (c_seq (c_grow 8 [39, 43] (by kernel_rfl) (by kernel_rfl) ?_))
        refine f_move rfl rfl (f_move rfl rfl ?_)
        obtain ⟨a38, p38, q38⟩ := r_ixW Try.underlying39 (b7.ext (x7.trans xg9)) (i := j) (by omega) .i64
        refine f_indexAddr rfl rfl rfl (fun w _ => p38 w) (f_load rfl rfl (fun w hw => r_load1 Try.underlying88 rfl (hw.cell_some q38)) (f_move rfl rfl (f_move rfl rfl ?_)))
        obtain ⟨a42, p42, q42⟩ := r_ixW Try.underlying39 (b9.ext (x7.trans xg9)) (i := j) (by omega) .i64
        refine f_indexAddr rfl rfl rfl (fun w _ => p42 w) (f_load rfl rfl (fun w hw => r_load1 Try.underlying88 rfl (hw.cell_some q42)) (f_nil ?_))
        intro wg10 xg10
        rintro _ rfl
        rintro _ rfl
        refine o_bin rfl rfl rfl (r_lss_u32) (o_nil (n_then ?_))
        refine c_if rfl (fun h44 => ?_) (fun h44 => ?_)
        · refine c_seq (c_region (o_assign rfl rfl (o_nil (n_then (c_ret (r_then (r_block (r_then (r_then (r_block (r_then (r_body1 rfl rfl ?_))))))))))))
          exact ⟨_, rfl, ((x7.trans xg9).trans xg10), congrArg I (cmpN_lt (lb_cmp_lt (by omega) (by omega) hd h44)).symm⟩
        · refine c_skip (n_then (c_seq (c_region (o_assign rfl rfl (o_nil (n_then (c_ret (r_block (r_then (r_then (r_block (r_then (r_body1 rfl rfl ?_)))))))))))))
          exact ⟨_, rfl, ((x7.trans xg9).trans xg10), by
            refine congrArg I (cmpN_gt (lb_cmp_lt (by omega) (by omega) hd.symm ?_)).symm
            rw [lt32] at h44 ⊢
            have : (lb (val l))[j].toNat ≠ (lb (val m))[j].toNat := fun he => h35 (u32_ext he)
            omega⟩
      · refine c_skip (n_block (n_then (c_region (o_move rfl rfl (o_bin rfl rfl rfl (r_sub_i (by omega) (by omega)) (o_assign rfl rfl (o_nil ?_)))))))
        refine n_round j ⟨rfl, rfl, rfl, trivial⟩ ⟨(x7.trans xg9), by omega, by rw [List.drop_eq_getElem_cons (show j < (lb (val l)).length by omega), List.drop_eq_getElem_cons (show j < (lb (val m)).length by omega), hd, show (lb (val l))[j] = (lb (val m))[j] from Classical.byContradiction fun h => h35 h]⟩ (by omega)
    · refine c_exit (x_then (x_then (x_here (n_then (c_seq (c_region (o_assign rfl rfl (o_nil (n_then (c_ret (r_body1 rfl rfl ?_)))))))))))
      exact ⟨_, rfl, x7, by
        obtain rfl : k = 0 := by omega
        rw [List.drop_zero, List.drop_zero] at hd
        rw [lb_inj hd, cmpN_eq]; rfl⟩
theorem NLeft_spec {w : World} {l : List UInt32} {v : Value} {k : Nat} (hv : Wds l v w) (hl : l.length ≤ 1099511627776) (hk : k < 32) :
    Calls Try.prog 82 #[v, I (k : Int)] w (Ret fun r w' => Ext w w' ∧ ∃ L, OwnW w.heap.size L r w' ∧ L.length = l.length + 1 ∧ val L = val l * 2 ^ k) := by
  refine enter (vs := [v, I (k : Int)]) Try.func82 rfl rfl rfl ?_
  refine c_seq (c_region (o_assign rfl rfl (o_nil (n_then (c_seq (c_region (o_move rfl rfl (o_len rfl rfl (r_lenW Try.underlying39 hv) (o_bin (r := I (((l.length) + 1 : Nat) : Int)) rfl rfl rfl (by have e : (((l.length) + 1 : Nat) : Int) = (l.length : Int) + 1 := (by omega); rw [e]; exact r_add_i (by omega) (by omega)) ?_)))))))))
  obtain ⟨v12, w12, hr12, x12, o12, ob12⟩ := r_mkW Try.underlying39 (w := w) w.heap.size (n := l.length + 1) (by omega) (Nat.le_refl _)
  refine o_makeSlice rfl rfl rfl hr12 (o_assign rfl rfl (o_nil (n_then (c_seq (c_seq (c_region (o_move rfl rfl (o_len rfl rfl (r_lenW Try.underlying39 (hv.ext x12)) ?_))))))))
  refine o_move rfl rfl (o_nil (n_then (c_block ?_)))
  refine c_loop2 (fun (i : Nat) (L : List UInt32) => [(1, I (k : Int)), (5, v12), (13, v), (14, I (l.length : Int)), (15, I (i : Int))]) (fun (i : Nat) (L : List UInt32) w' => OwnW w.heap.size L v12 w' ∧ Ext w w' ∧ i ≤ l.length ∧ L.length = l.length + 1 ∧ val (L.take (i + 1)) = val (l.take i) * 2 ^ k ∧ ∀ h : i < L.length, L[i].toNat < 2 ^ k) (fun (i : Nat) (L : List UInt32) => l.length - i) (0) (List.replicate (l.length + 1) 0) ⟨rfl, rfl, rfl, rfl, rfl, trivial⟩ ⟨o12, x12, by simp, by simp, by simp [val], fun _ => by simp; exact Nat.pow_pos (by omega)⟩ ?_
  rintro i L w3 ⟨oL, e3, hi, hL, hval, hc⟩
  refine c_seq (c_region (o_bin rfl rfl rfl (r_lss_i) (o_nil (n_then (c_seq ?_)))))
  refine c_if rfl (fun h16 => ?_) (fun h16 => ?_)
  · refine c_skip (n_then (c_seq (c_block (c_seq (c_region (o_move rfl rfl ?_))))))
    obtain ⟨a18, p18, q18⟩ := r_ixW Try.underlying39 (hv.ext e3) (i := i) (by omega) .i64
    refine o_indexAddr rfl rfl rfl (p18 _) (o_load rfl rfl (r_load1 Try.underlying88 rfl q18) (o_assign rfl rfl (o_assign rfl rfl (o_nil (n_then (c_seq (c_region (o_move rfl rfl ?_))))))))
    refine o_conv rfl rfl (r_u32_u64 Try.underlying88 Try.underlying69) (o_move rfl rfl (o_bin rfl rfl rfl (r_shl_u64 (k) (by omega)) (o_assign rfl rfl ?_)))
    refine o_nil (n_then (c_seq (c_region (o_move rfl rfl (o_move rfl rfl ?_)))))
    obtain ⟨a26, p26, q26⟩ := r_ixW Try.underlying39 oL.wds (i := i) (by omega) .i64
    refine o_indexAddr rfl rfl rfl (p26 _) (o_load rfl rfl (r_load1 Try.underlying88 rfl q26) (o_move rfl rfl (o_conv rfl rfl (r_u64_u32 Try.underlying69 Try.underlying88) ?_)))
    refine o_bin rfl rfl rfl (r_or_u32) ?_
    obtain ⟨g31, w31, p31, s31, o31, q31, hb31, c31, ob31⟩ := (oL).setW Try.underlying39 (i := i) (by omega) (L[i]'(by omega) ||| (l[i].toUInt64 <<< UInt64.ofNat k).toUInt32)
    refine o_indexAddr rfl rfl rfl (p31 _) (o_store rfl rfl s31 ?_)
    have x31 := Ext.of_new (e3) q31 hb31
    refine o_nil (n_then (c_region (o_move rfl rfl (o_move rfl rfl (o_bin (r := I ((i + 1 : Nat) : Int)) rfl rfl rfl (by have e : ((i + 1 : Nat) : Int) = (i : Int) + 1 := (by omega); rw [e]; exact r_add_i (by omega) (by omega)) ?_)))))
    refine o_move rfl rfl (o_bin rfl rfl rfl (r_shr_u64 32 (by omega)) (o_conv rfl rfl (r_u64_u32 Try.underlying69 Try.underlying88) ?_))
    obtain ⟨g38, w38, p38, s38, o38, q38, hb38, c38, ob38⟩ := (o31).setW Try.underlying39 (i := (i + 1)) (by simp; omega) ((l[i].toUInt64 <<< UInt64.ofNat k >>> UInt64.ofNat 32).toUInt32)
    refine o_indexAddr rfl rfl rfl (p38 _) (o_store rfl rfl s38 ?_)
    have x38 := Ext.of_new (x31) q38 hb38
    refine o_nil (n_block (n_then (c_region (o_bin (r := I ((i + 1 : Nat) : Int)) rfl rfl rfl (by have e : ((i + 1 : Nat) : Int) = (i : Int) + 1 := (by omega); rw [e]; exact r_add_i (by omega) (by omega)) ?_))))
    refine o_move rfl rfl (o_nil ?_)
    have st := left_step hk (show i < l.length by omega) rfl hL hval (hc (by omega))
    refine n_round2 (i + 1) (_) ⟨rfl, rfl, rfl, rfl, rfl, trivial⟩ ⟨o38, x38, by show i + 1 ≤ _; omega, by simpa using hL, st.1, fun _ => by simpa using st.2⟩ (by show l.length - (i + 1) < l.length - i; omega)
  · refine c_exit (x_then (x_then (x_here (n_then (c_seq (c_region (o_move rfl rfl (o_assign rfl rfl (o_nil (n_then (c_ret (r_body1 rfl rfl ?_))))))))))))
    exact ⟨_, rfl, e3, L, oL, hL, by
      obtain rfl : i = l.length := by omega
      rw [List.take_of_length_le (by omega), List.take_length] at hval
      exact hval⟩
theorem NShort_spec {w : World} {l : List UInt32} {v : Value} {d : UInt32} (hv : Wds l v w) (hl : l.length ≤ 1099511627776) (hd : 0 < d.toNat) :
    Calls Try.prog 80 #[v, U32 d] w (Ret fun r w' => Ext w w' ∧ ∃ q s, r = .tuple #[q, s] ∧ Wds (lb (val l / d.toNat)) q w' ∧ Wds (lb (val l % d.toNat)) s w') := by
  refine enter (vs := [v, U32 d]) Try.func80 rfl rfl rfl ?_
  have hd0 : d.toUInt64 ≠ 0 := fun h => by
    have := congrArg UInt64.toNat h
    rw [n_64] at this
    simp at this
    omega
  refine c_seq (c_region (o_assign rfl rfl (o_assign rfl rfl (o_nil (n_then (c_seq (c_region (o_move rfl rfl (o_len rfl rfl (r_lenW Try.underlying39 hv) ?_)))))))))
  obtain ⟨v11, w11, hr11, x11, o11, ob11⟩ := r_mkW Try.underlying39 (w := w) w.heap.size (n := l.length) (by omega) (Nat.le_refl _)
  refine o_makeSlice rfl rfl rfl hr11 (o_assign rfl rfl (o_nil (n_then (c_seq (c_region (o_assign rfl rfl (o_nil (n_then (c_seq (c_seq (c_region (o_move rfl rfl (o_len rfl rfl (r_lenW Try.underlying39 (hv.ext x11)) ?_)))))))))))))
  refine o_bin rfl rfl rfl (r_sub_i (by omega) (by omega)) (o_assign rfl rfl (o_nil (n_then (c_block ?_))))
  refine c_loop3 (fun (k : Nat) (L : List UInt32) (r : UInt64) => [(0, v), (1, U32 d), (6, v11), (7, U64 r), (8, I ((k : Int) - 1))]) (fun (k : Nat) (L : List UInt32) (r : UInt64) w' => OwnW w.heap.size L v11 w' ∧ Ext w w' ∧ k ≤ l.length ∧ L.length = l.length ∧ val (L.drop k) * d.toNat + r.toNat = val (l.drop k) ∧ r.toNat < d.toNat) (fun (k : Nat) (L : List UInt32) (r : UInt64) => k) (l.length) (List.replicate l.length 0) (0) ⟨rfl, rfl, rfl, rfl, rfl, trivial⟩ ⟨o11, x11, Nat.le_refl _, by simp, by simp [List.drop_of_length_le, val], hd⟩ ?_
  rintro k L r w4 ⟨oL, e4, hk, hL, hval, hr⟩
  refine c_seq (c_seq (c_region (o_move rfl rfl (o_bin rfl rfl rfl (r_geq_i) (o_nil (n_then ?_))))))
  refine c_if rfl (fun h16 => ?_) (fun h16 => ?_)
  · obtain ⟨j, rfl⟩ : ∃ j, k = j + 1 := ⟨k - 1, by omega⟩
    have e : ((j + 1 : Nat) : Int) - 1 = (j : Int) := by omega
    rw [e]
    have st := short_step hd (show j < l.length by omega) hL hval hr
    refine c_skip (n_then (c_seq (c_block (c_seq (c_region (o_move rfl rfl (o_bin rfl rfl rfl (r_shl_u64 32 (by omega)) (o_move rfl rfl (o_move rfl rfl ?_)))))))))
    obtain ⟨a23, p23, q23⟩ := r_ixW Try.underlying39 (hv.ext e4) (i := j) (by omega) .i64
    refine o_indexAddr rfl rfl rfl (p23 _) (o_load rfl rfl (r_load1 Try.underlying88 rfl q23) (o_conv rfl rfl (r_u32_u64 Try.underlying88 Try.underlying69) ?_))
    refine o_bin rfl rfl rfl (r_or_u64) (o_assign rfl rfl (o_nil (n_then (c_seq (c_region (o_move rfl rfl (o_move rfl rfl (o_move rfl rfl (o_move rfl rfl (o_conv rfl rfl (r_u32_u64 Try.underlying88 Try.underlying69) ?_))))))))))
    refine o_bin rfl rfl rfl (r_quo_u64 hd0) (o_conv rfl rfl (r_u64_u32 Try.underlying69 Try.underlying88) ?_)
    obtain ⟨g34, w34, p34, s34, o34, q34, hb34, c34, ob34⟩ := (oL).setW Try.underlying39 (i := j) (by omega) (((r <<< UInt64.ofNat 32 ||| l[j].toUInt64) / d.toUInt64).toUInt32)
    refine o_indexAddr rfl rfl rfl (p34 _) (o_store rfl rfl s34 ?_)
    have x34 := Ext.of_new (e4) q34 hb34
    refine o_nil (n_then (c_region (o_move rfl rfl (o_move rfl rfl (o_conv rfl rfl (r_u32_u64 Try.underlying88 Try.underlying69) (o_bin rfl rfl rfl (r_rem_u64 hd0) ?_))))))
    refine o_assign rfl rfl (o_nil (n_block (n_then (c_region (o_move rfl rfl (o_bin rfl rfl rfl (r_sub_i (by omega) (by omega)) (o_assign rfl rfl (o_nil ?_))))))))
    refine n_round3 (j) (_) ((r <<< UInt64.ofNat 32 ||| l[j].toUInt64) % d.toUInt64) ⟨rfl, rfl, rfl, rfl, rfl, trivial⟩ ⟨o34, x34, by show j ≤ _; omega, by simpa using hL, st.1, st.2⟩ (by show j < j + 1; omega)
  · refine c_exit (x_then (x_then (x_here (n_then (c_seq (c_region ?_))))))
    obtain rfl : k = 0 := by omega
    rw [List.drop_zero, List.drop_zero] at hval
    have hq : val l / d.toNat = val L := by rw [← hval, Nat.mul_comm, Nat.mul_add_div hd, Nat.div_eq_of_lt hr, Nat.add_zero]
    have hm : val l % d.toNat = r.toNat := by rw [← hval, Nat.mul_comm, Nat.mul_add_mod, Nat.mod_eq_of_lt hr]
    refine o_move rfl rfl (o_call call_trim rfl rfl (trim_spec oL.wds) ?_)
    rintro v40 _ ⟨rfl, b40⟩
    refine o_move rfl rfl (o_call call_NOf rfl rfl (NOf_spec) ?_)
    rintro v42 w42 ⟨x42, b42⟩
    refine o_assign rfl rfl (o_assign rfl rfl (o_nil (n_then (c_ret (r_body2 rfl rfl rfl ?_)))))
    exact ⟨_, rfl, (e4.trans x42), _, _, rfl, by rw [hq]; exact b40.ext x42, by rw [hm]; exact b42⟩
end Go.Rl
/- Walks of package natural: Shr, Bits, and of math/bits.Len32. Conditions: the numbers are shorter than 2^40 limbs. -/
namespace Go.Rl
open Go.RowKit Go.Proofs

def tab8 : List UInt8 := (List.range 256).map fun n => UInt8.ofNat (bl n)
theorem bl8 (y : UInt8) : (UInt8.ofNat (bl y.toNat)).toNat = bl y.toNat ∧ bl y.toNat ≤ 8 := by
  have := bl_le (n := y.toNat) (k := 8) y.toNat_lt
  exact ⟨by rw [UInt8.toNat_ofNat']; omega, this⟩
theorem r_tab {w : World} (y : UInt8) : (Instr.index 9 (S tab8) (U8 y)).run Try.prog w = .ok (U8 (UInt8.ofNat (bl y.toNat))) w := by
  have hy := y.toNat_lt
  have hs : (⟨tab8.toArray⟩ : ByteArray).size = 256 := by simp [ByteArray.size, tab8]
  rw [S, U8, run_index_string _ _ _ _ _ Try.underlying9, dif_pos (by rw [hs]; omega)]
  have e : (⟨tab8.toArray⟩ : ByteArray)[((y.toNat : Int)).toNat]'(by rw [hs]; omega) = UInt8.ofNat (bl y.toNat) := by
    show tab8.toArray[((y.toNat : Int)).toNat]'(by simp [tab8]; omega) = _
    simp [tab8]
  rw [e]; rfl
theorem bl_u8 (x : UInt32) (h : x.toNat < 256) : bl x.toUInt8.toNat = bl x.toNat := by
  have : x.toUInt8.toNat = x.toNat % 256 := UInt32.toNat_toUInt8 x
  rw [this, Nat.mod_eq_of_lt h]
theorem ge32 {a b : UInt32} : a ≥ b ↔ b.toNat ≤ a.toNat := UInt32.le_iff_toNat_le
theorem Len32_spec {w : World} {x : UInt32} :
    Calls Try.prog 86 #[U32 x] w (Ret fun r w' => w = w' ∧ r = I ((bl x.toNat : Nat) : Int)) := by
  refine enter (vs := [U32 x]) Try.func86 rfl rfl rfl ?_
  have hx := u32_lt x
  refine c_seq (c_region (o_assign rfl rfl (o_nil (n_then (c_seq (c_seq (c_region (o_move rfl rfl (o_bin (v := U32 65536) rfl rfl rfl (r_geq_u32) (o_nil (n_then ?_)))))))))))
  refine c_if rfl (fun h4 => ?_) (fun h4 => ?_)
  · have h4' : 65536 ≤ x.toNat := ge32.1 h4
    have hb1 := bl_shift (n := x.toNat) (s := 16) (by omega)
    have hz := n_shr32 x (s := 16) (by omega)
    refine c_seq (c_region (o_move rfl rfl (o_bin rfl rfl rfl (r_shr_u32 16 (by omega)) (o_assign rfl rfl (o_nil (n_then (c_region (o_assign rfl rfl (o_nil (n_then (c_seq (c_seq (c_region (o_move rfl rfl ?_))))))))))))))
    refine o_bin (v := U32 256) rfl rfl rfl (r_geq_u32) (o_nil (n_then ?_))
    refine c_if rfl (fun h8 => ?_) (fun h8 => ?_)
    · have h8' : 256 ≤ ((((x) >>> UInt32.ofNat 16))).toNat := ge32.1 h8
      have hb2 := bl_shift (n := ((((x) >>> UInt32.ofNat 16))).toNat) (s := 8) (by omega)
      have hz2 := n_shr32 (((x) >>> UInt32.ofNat 16)) (s := 8) (by omega)
      refine c_seq (c_region (o_move rfl rfl (o_bin rfl rfl rfl (r_shr_u32 8 (by omega)) (o_assign rfl rfl (o_nil (n_then (c_region (o_move rfl rfl (o_bin rfl rfl rfl (r_add_i (by omega) (by omega)) ?_)))))))))
      refine o_assign rfl rfl (o_nil (n_then (c_seq (c_region (o_move rfl rfl ?_)))))
      have hu := bl_u8 (((((x) >>> UInt32.ofNat 16)) >>> UInt32.ofNat 8)) (by first | omega | (rw [hz2]; omega))
      refine o_move rfl rfl (o_conv rfl rfl (r_u32_u8 Try.underlying88 Try.underlying5) ?_)
      have hy := bl8 ((((((x) >>> UInt32.ofNat 16)) >>> UInt32.ofNat 8))).toUInt8
      refine o_index (u := S tab8) (v := U8 ((((((x) >>> UInt32.ofNat 16)) >>> UInt32.ofNat 8))).toUInt8) (by kernel_rfl) rfl rfl (r_tab _) ?_
      refine o_conv rfl rfl (r_u8_i Try.underlying5 Try.underlying3) (o_bin rfl rfl rfl (r_add_i (by omega) (by omega)) (o_assign rfl rfl (o_nil (n_then (c_ret ?_)))))
      refine r_body1 rfl rfl ?_
      exact ⟨_, rfl, rfl, congrArg I (by
        try simp only [Nat.reducePow] at *
        first
        | (rw [hz2] at hu; rw [hz] at hb2 hu; rw [hb1, hb2]; omega)
        | (rw [hz2] at hu; rw [hb2]; omega)
        | (rw [hz] at hu; rw [hb1]; omega)
        | omega)⟩
    · have h8' : ((((x) >>> UInt32.ofNat 16))).toNat < 256 := Nat.lt_of_not_le fun h => h8 (ge32.2 h)
      refine c_skip (n_then (c_seq (c_region (o_move rfl rfl ?_))))
      have hu := bl_u8 (((x) >>> UInt32.ofNat 16)) (by first | omega | (rw [hz2]; omega))
      refine o_move rfl rfl (o_conv rfl rfl (r_u32_u8 Try.underlying88 Try.underlying5) ?_)
      have hy := bl8 ((((x) >>> UInt32.ofNat 16))).toUInt8
      refine o_index (u := S tab8) (v := U8 ((((x) >>> UInt32.ofNat 16))).toUInt8) (by kernel_rfl) rfl rfl (r_tab _) ?_
      refine o_conv rfl rfl (r_u8_i Try.underlying5 Try.underlying3) (o_bin rfl rfl rfl (r_add_i (by omega) (by omega)) (o_assign rfl rfl (o_nil (n_then (c_ret ?_)))))
      refine r_body1 rfl rfl ?_
      exact ⟨_, rfl, rfl, congrArg I (by
        try simp only [Nat.reducePow] at *
        first
        | (rw [hz2] at hu; rw [hz] at hb2 hu; rw [hb1, hb2]; omega)
        | (rw [hz2] at hu; rw [hb2]; omega)
        | (rw [hz] at hu; rw [hb1]; omega)
        | omega)⟩
  · have h4' : x.toNat < 65536 := Nat.lt_of_not_le fun h => h4 (ge32.2 h)
    refine c_skip (n_then (c_seq (c_seq (c_region (o_move rfl rfl (o_bin (v := U32 256) rfl rfl rfl (r_geq_u32) (o_nil (n_then ?_))))))))
    refine c_if rfl (fun h8 => ?_) (fun h8 => ?_)
    · have h8' : 256 ≤ ((x)).toNat := ge32.1 h8
      have hb2 := bl_shift (n := ((x)).toNat) (s := 8) (by omega)
      have hz2 := n_shr32 (x) (s := 8) (by omega)
      refine c_seq (c_region (o_move rfl rfl (o_bin rfl rfl rfl (r_shr_u32 8 (by omega)) (o_assign rfl rfl (o_nil (n_then (c_region (o_move rfl rfl (o_bin rfl rfl rfl (r_add_i (by omega) (by omega)) ?_)))))))))
      refine o_assign rfl rfl (o_nil (n_then (c_seq (c_region (o_move rfl rfl ?_)))))
      have hu := bl_u8 (((x) >>> UInt32.ofNat 8)) (by first | omega | (rw [hz2]; omega))
      refine o_move rfl rfl (o_conv rfl rfl (r_u32_u8 Try.underlying88 Try.underlying5) ?_)
      have hy := bl8 ((((x) >>> UInt32.ofNat 8))).toUInt8
      refine o_index (u := S tab8) (v := U8 ((((x) >>> UInt32.ofNat 8))).toUInt8) (by kernel_rfl) rfl rfl (r_tab _) ?_
      refine o_conv rfl rfl (r_u8_i Try.underlying5 Try.underlying3) (o_bin rfl rfl rfl (r_add_i (by omega) (by omega)) (o_assign rfl rfl (o_nil (n_then (c_ret ?_)))))
      refine r_body1 rfl rfl ?_
      exact ⟨_, rfl, rfl, congrArg I (by
        try simp only [Nat.reducePow] at *
        first
        | (rw [hz2] at hu; rw [hz] at hb2 hu; rw [hb1, hb2]; omega)
        | (rw [hz2] at hu; rw [hb2]; omega)
        | (rw [hz] at hu; rw [hb1]; omega)
        | omega)⟩
    · have h8' : ((x)).toNat < 256 := Nat.lt_of_not_le fun h => h8 (ge32.2 h)
      refine c_skip (n_then (c_seq (c_region (o_move rfl rfl ?_))))
      have hu := bl_u8 (x) (by first | omega | (rw [hz2]; omega))
      refine o_move rfl rfl (o_conv rfl rfl (r_u32_u8 Try.underlying88 Try.underlying5) ?_)
      have hy := bl8 ((x)).toUInt8
      refine o_index (u := S tab8) (v := U8 ((x)).toUInt8) (by kernel_rfl) rfl rfl (r_tab _) ?_
      refine o_conv rfl rfl (r_u8_i Try.underlying5 Try.underlying3) (o_bin rfl rfl rfl (r_add_i (by omega) (by omega)) (o_assign rfl rfl (o_nil (n_then (c_ret ?_)))))
      refine r_body1 rfl rfl ?_
      exact ⟨_, rfl, rfl, congrArg I (by
        try simp only [Nat.reducePow] at *
        first
        | (rw [hz2] at hu; rw [hz] at hb2 hu; rw [hb1, hb2]; omega)
        | (rw [hz2] at hu; rw [hb2]; omega)
        | (rw [hz] at hu; rw [hb1]; omega)
        | omega)⟩
theorem LZ32_spec {w : World} {x : UInt32} :
    Calls Try.prog 81 #[U32 x] w (Ret fun r w' => w = w' ∧ r = I ((32 - bl x.toNat : Nat) : Int)) := by
  refine enter (vs := [U32 x]) Try.func81 rfl rfl rfl ?_
  have hx := bl_le (n := x.toNat) (k := 32) x.toNat_lt
  refine c_seq (c_region (o_assign rfl rfl (o_nil (n_then (c_seq (c_region (o_move rfl rfl (o_call call_Len32 rfl rfl (Len32_spec) ?_))))))))
  rintro v4 _ ⟨rfl, rfl⟩
  refine o_bin (r := I ((32 - bl x.toNat : Nat) : Int)) rfl rfl rfl (by have e : ((32 - bl x.toNat : Nat) : Int) = 32 - ((bl x.toNat : Nat) : Int) := (by omega); rw [e]; exact r_sub_i (by omega) (by omega)) ?_
  refine o_assign rfl rfl (o_nil (n_then (c_ret (r_body1 rfl rfl ?_))))
  exact ⟨_, rfl, rfl, rfl⟩
theorem NBits_spec {w : World} {l : List UInt32} {v : Value} (hv : Wds l v w) (hl : l.length ≤ 1099511627776) :
    Calls Try.prog 75 #[v] w (Ret fun r w' => w = w' ∧ r = I ((bl (val l) : Nat) : Int)) := by
  refine enter (vs := [v]) Try.func75 rfl rfl rfl ?_
  have hll := lb_lt (val_lt l)
  refine c_seq (c_region (o_assign rfl rfl (o_nil (n_then (c_seq (c_region (o_move rfl rfl (o_call call_trim rfl rfl (trim_spec hv) ?_))))))))
  rintro v4 _ ⟨rfl, b4⟩
  refine o_assign rfl rfl (o_nil (n_then (c_seq (c_seq (c_region (o_move rfl rfl (o_len (r := I ((lb (val l)).length : Int)) rfl rfl (r_lenW Try.underlying39 b4) ?_)))))))
  refine o_bin rfl rfl rfl (r_eql_i) (o_nil (n_then ?_))
  refine c_if rfl (fun h7 => ?_) (fun h7 => ?_)
  · refine c_seq (c_region (o_assign rfl rfl (o_nil (n_then (c_ret (r_then (r_body1 rfl rfl ?_)))))))
    exact ⟨_, rfl, rfl, by
      have : val l = 0 := lb_len0.1 (by omega)
      rw [this]; rfl⟩
  · refine c_skip (n_then (c_seq (c_region (o_move rfl rfl (o_len (r := I ((lb (val l)).length : Int)) rfl rfl (r_lenW Try.underlying39 b4) (o_bin (r := I (((lb (val l)).length - 1 : Nat) : Int)) rfl rfl rfl (by have e : (((lb (val l)).length - 1 : Nat) : Int) = ((lb (val l)).length : Int) - 1 := (by omega); rw [e]; exact r_sub_i (by omega) (by omega)) ?_))))))
    refine o_bin (r := I ((32 * ((lb (val l)).length - 1 : Nat) : Nat) : Int)) rfl rfl rfl (by have e : ((32 * ((lb (val l)).length - 1 : Nat) : Nat) : Int) = 32 * (((lb (val l)).length - 1 : Nat) : Int) := (by omega); rw [e]; exact r_mul_i (by omega) (by omega)) ?_
    refine o_move rfl rfl (o_move rfl rfl (o_len (r := I ((lb (val l)).length : Int)) rfl rfl (r_lenW Try.underlying39 b4) (o_bin (r := I (((lb (val l)).length - 1 : Nat) : Int)) rfl rfl rfl (by have e : (((lb (val l)).length - 1 : Nat) : Int) = ((lb (val l)).length : Int) - 1 := (by omega); rw [e]; exact r_sub_i (by omega) (by omega)) ?_)))
    obtain ⟨a16, p16, q16⟩ := r_ixW Try.underlying39 b4 (i := ((lb (val l)).length - 1 : Nat)) (by omega) .i64
    refine o_indexAddr rfl rfl rfl (p16 _) (o_load rfl rfl (r_load1 Try.underlying88 rfl q16) (o_call call_Len32 rfl rfl (Len32_spec) ?_))
    rintro v18 _ ⟨rfl, rfl⟩
    have hb := bl_lb (n := val l) (i := (lb (val l)).length - 1) (by omega)
    have hb32 := bl_le (n := ((lb (val l))[(lb (val l)).length - 1]'(by omega)).toNat) (k := 32) (u32_lt _)
    refine o_bin (r := I ((((32 * ((lb (val l)).length - 1 : Nat) : Nat)) + (bl ((lb (val l))[(lb (val l)).length - 1]'(by omega)).toNat : Nat) : Nat) : Int)) rfl rfl rfl (by have e : ((((32 * ((lb (val l)).length - 1 : Nat) : Nat)) + (bl ((lb (val l))[(lb (val l)).length - 1]'(by omega)).toNat : Nat) : Nat) : Int) = ((32 * ((lb (val l)).length - 1 : Nat) : Nat) : Int) + ((bl ((lb (val l))[(lb (val l)).length - 1]'(by omega)).toNat : Nat) : Int) := (by omega); rw [e]; exact r_add_i (by omega) (by omega)) ?_
    refine o_assign rfl rfl (o_nil (n_then (c_ret (r_body1 rfl rfl ?_))))
    exact ⟨_, rfl, rfl, by rw [hb]⟩
theorem shr_inv {a L : List UInt32} {i s V : Nat} {o : UInt32} (hi : i < a.length) (hL : L.length = a.length) (hv : val (L.take i) + 4294967296 ^ i * (val (a.drop i) / 2 ^ s) = V)
    (st : o.toNat + 4294967296 * (val (a.drop (i + 1)) / 2 ^ s) = (a[i].toNat + 4294967296 * val (a.drop (i + 1))) / 2 ^ s) : val ((L.set i o).take (i + 1)) + 4294967296 ^ (i + 1) * (val (a.drop (i + 1)) / 2 ^ s) = V := by
  rw [val_set_take (by omega), Nat.add_assoc, Nat.pow_succ, Nat.mul_assoc, ← Nat.mul_add, st, ← val_drop hi, hv]
theorem shr_next {a : List UInt32} {i : Nat} {x : UInt64} (hi : i < a.length) (hx : (∃ h : i + 1 < a.length, x = a[i].toUInt64 ||| a[i + 1].toUInt64 <<< UInt64.ofNat 32) ∨ (a.length ≤ i + 1 ∧ x = a[i].toUInt64)) {s : Nat} (hs : s < 32) :
    ((x >>> UInt64.ofNat s).toUInt32).toNat + 4294967296 * (val (a.drop (i + 1)) / 2 ^ s) = (a[i].toNat + 4294967296 * val (a.drop (i + 1))) / 2 ^ s := by
  refine (shr_step hs ?_).resolve_right (by have := u32_lt a[i]; omega)
  rcases hx with ⟨h, rfl⟩ | ⟨h, rfl⟩
  · rw [limb2 (n_64 _) (u32_lt _), val_drop h]
    have := u32_lt a[i + 1]
    rw [Nat.add_mul_mod_self_left, Nat.mod_eq_of_lt this]
  · rw [n_64, List.drop_of_length_le h]; simp [val]
theorem NShr_spec {w : World} {l : List UInt32} {v : Value} {k : Nat} (hv : Wds l v w) (hl : l.length ≤ 1099511627776) (hk : k ≤ 1048576) :
    Calls Try.prog 85 #[v, I (k : Int)] w (Ret fun r w' => Ext w w' ∧ ∃ q, r = .tuple #[q, I 0] ∧ Wds (lb (val l / 2 ^ k)) q w') := by
  refine enter (vs := [v, I (k : Int)]) Try.func85 rfl rfl rfl ?_
  have hll := lb_lt (val_lt l)
  refine c_seq (c_region (o_assign rfl rfl (o_assign rfl rfl (o_nil (n_then (c_seq (c_seq (c_region (o_move rfl rfl (o_bin rfl rfl rfl (dec_f (by omega) r_lss_i) (o_move rfl rfl (g_yes rfl ?_))))))))))))
  refine o_move rfl rfl (g_yes rfl (o_bin rfl rfl rfl (dec_f (by omega) r_gtr_i) (o_pick_f rfl rfl rfl (o_nil (n_then (c_no rfl (c_skip (n_then (c_seq (c_region (o_move rfl rfl (o_call call_trim rfl rfl (trim_spec hv) ?_))))))))))))
  rintro v17 _ ⟨rfl, b17⟩
  refine o_assign rfl rfl (o_nil (n_then (c_seq (c_seq (c_region (o_move rfl rfl (o_bin (r := I ((k / 32 : Nat) : Int)) rfl rfl rfl (by have e : ((k / 32 : Nat) : Int) = (k : Int) / 32 := (by omega); rw [e]; exact r_quo_i (by omega) (by omega) (by omega)) ?_)))))))
  refine o_move rfl rfl (o_len rfl rfl (r_lenW Try.underlying39 b17) (o_bin rfl rfl rfl (r_geq_i) (o_nil (n_then ?_))))
  refine c_if rfl (fun h22 => ?_) (fun h22 => ?_)
  · refine c_seq (c_region (o_assign rfl rfl (o_assign rfl rfl (o_nil (n_then (c_ret (r_then (r_body2 rfl rfl rfl ?_))))))))
    exact ⟨_, rfl, Ext.refl _, _, rfl, by
      have h1 := val_lt (lb (val l))
      rw [val_lb] at h1
      have h2 : (4294967296 : Nat) ^ (lb (val l)).length = 2 ^ (32 * (lb (val l)).length) := by rw [Nat.pow_mul]
      have h3 : 2 ^ (32 * (lb (val l)).length) ≤ 2 ^ k := Nat.pow_le_pow_right (by omega) (by omega)
      rw [Nat.div_eq_of_lt (by omega)]
      exact Wds.nil _⟩
  · refine c_skip (n_then (c_seq (c_region (o_move rfl rfl (o_move rfl rfl (o_bin (r := I ((k / 32 : Nat) : Int)) rfl rfl rfl (by have e : ((k / 32 : Nat) : Int) = (k : Int) / 32 := (by omega); rw [e]; exact r_quo_i (by omega) (by omega) (by omega)) ?_))))))
    obtain ⟨v26, p26, b26⟩ := r_slW_lo Try.underlying39 b17 (lo := k / 32) (by omega) .i64
    refine o_slice rfl rfl rfl rfl rfl (p26 _) (o_assign rfl rfl (o_nil (n_then (c_seq ?_))))
    obtain ⟨a, ha⟩ : ∃ a, a = (lb (val l)).drop (k / 32) := ⟨_, rfl⟩
    have hva : val a = val l / 2 ^ (32 * (k / 32)) := by
      have h1 := val_split (lb (val l)) (k / 32) (by omega)
      have h2 := val_lt ((lb (val l)).take (k / 32))
      rw [List.length_take, Nat.min_eq_left (by omega)] at h2
      rw [val_lb] at h1
      have h3 : (4294967296 : Nat) ^ (k / 32) = 2 ^ (32 * (k / 32)) := by rw [Nat.pow_mul]
      rw [h3] at h1 h2
      rw [ha]
      conv => rhs; rw [h1]
      rw [Nat.add_mul_div_left _ _ (Nat.pow_pos (by omega)), Nat.div_eq_of_lt h2, Nat.zero_add]
    have hal : a.length ≤ 1099511627776 := by rw [ha, List.length_drop]; omega
    rw [← ha] at b26
    refine c_region (o_move rfl rfl (o_len (r := I (a.length : Int)) rfl rfl (r_lenW Try.underlying39 b26) ?_))
    obtain ⟨v29, w29, hr29, x29, o29, ob29⟩ := r_mkW Try.underlying39 (w := w) w.heap.size (n := a.length) (by omega) (Nat.le_refl _)
    refine o_makeSlice rfl rfl rfl hr29 (o_assign rfl rfl (o_nil (n_then (c_seq (c_seq (c_region (o_move rfl rfl (o_len (r := I (a.length : Int)) rfl rfl (r_lenW Try.underlying39 (b26.ext x29)) ?_))))))))
    refine o_move rfl rfl (o_nil (n_then (c_block ?_)))
    refine c_loop2 (fun (i : Nat) (L : List UInt32) => [(0, v26), (1, I (k : Int)), (6, v29), (30, v26), (31, I (a.length : Int)), (32, I (i : Int))]) (fun (i : Nat) (L : List UInt32) w' => OwnW w.heap.size L v29 w' ∧ Ext w w' ∧ i ≤ a.length ∧ L.length = a.length ∧ val (L.take i) + 4294967296 ^ i * (val (a.drop i) / 2 ^ (k % 32)) = val a / 2 ^ (k % 32)) (fun (i : Nat) (L : List UInt32) => a.length - i) (0) (List.replicate a.length 0) ⟨rfl, rfl, rfl, rfl, rfl, rfl, trivial⟩ ⟨o29, x29, by simp, by simp, by simp [val]⟩ ?_
    rintro i L w9 ⟨oL, e9, hi, hL, hval⟩
    refine c_seq (c_region (o_bin rfl rfl rfl (r_lss_i) (o_nil (n_then (c_seq ?_)))))
    refine c_if rfl (fun h33 => ?_) (fun h33 => ?_)
    · have hia : i < a.length := by omega
      refine c_skip (n_then (c_seq (c_block (c_seq (c_region (o_move rfl rfl ?_))))))
      obtain ⟨a35, p35, q35⟩ := r_ixW Try.underlying39 (b26.ext e9) (i := i) (by omega) .i64
      refine o_indexAddr rfl rfl rfl (p35 _) (o_load rfl rfl (r_load1 Try.underlying88 rfl q35) (o_assign rfl rfl (o_assign rfl rfl (o_nil (n_then (c_seq (c_region (o_move rfl rfl ?_))))))))
      refine o_conv rfl rfl (r_u32_u64 Try.underlying88 Try.underlying69) (o_assign rfl rfl (o_nil (n_then (c_seq (c_seq (c_region (o_move rfl rfl (o_bin (r := I ((i + 1 : Nat) : Int)) rfl rfl rfl (by have e : ((i + 1 : Nat) : Int) = (i : Int) + 1 := (by omega); rw [e]; exact r_add_i (by omega) (by omega)) ?_))))))))
      refine o_move rfl rfl (o_len (r := I (a.length : Int)) rfl rfl (r_lenW Try.underlying39 (b26.ext e9)) (o_bin rfl rfl rfl (r_lss_i) (o_nil (n_then ?_))))
      refine c_if rfl (fun h43 => ?_) (fun h43 => ?_)
      · refine c_region (o_move rfl rfl (o_move rfl rfl (o_move rfl rfl (o_bin (r := I ((i + 1 : Nat) : Int)) rfl rfl rfl (by have e : ((i + 1 : Nat) : Int) = (i : Int) + 1 := (by omega); rw [e]; exact r_add_i (by omega) (by omega)) ?_))))
        obtain ⟨a48, p48, q48⟩ := r_ixW Try.underlying39 (b26.ext e9) (i := (i + 1 : Nat)) (by omega) .i64
        refine o_indexAddr rfl rfl rfl (p48 _) (o_load rfl rfl (r_load1 Try.underlying88 rfl q48) (o_conv rfl rfl (r_u32_u64 Try.underlying88 Try.underlying69) ?_))
        refine o_bin rfl rfl rfl (r_shl_u64 32 (by omega)) (o_bin rfl rfl rfl (r_or_u64) (o_assign rfl rfl (o_nil (n_then (c_region (o_move rfl rfl (o_move rfl rfl (o_move rfl rfl (o_move rfl rfl ?_)))))))))
        refine o_bin (r := I ((k % 32 : Nat) : Int)) rfl rfl rfl (by have e : ((k % 32 : Nat) : Int) = (k : Int) % 32 := (by omega); rw [e]; exact r_rem_i (by omega) (by omega)) ?_
        refine o_bin rfl rfl rfl (r_shr_u64 ((k % 32 : Nat)) (by omega)) (o_conv rfl rfl (r_u64_u32 Try.underlying69 Try.underlying88) ?_)
        have st := shr_next (x := (((((a[i])).toUInt64) ||| (((((a[(i + 1 : Nat)])).toUInt64) <<< UInt64.ofNat 32))))) hia (by first | exact .inl ⟨by omega, rfl⟩ | exact .inr ⟨by omega, rfl⟩) (Nat.mod_lt k (show 0 < 32 by omega))
        obtain ⟨g60, w60, p60, s60, o60, q60, hb60, c60, ob60⟩ := (oL).setW Try.underlying39 (i := i) (by omega) (((((((a[i])).toUInt64) ||| (((((a[(i + 1 : Nat)])).toUInt64) <<< UInt64.ofNat 32)))) >>> UInt64.ofNat (k % 32)).toUInt32)
        refine o_indexAddr rfl rfl rfl (p60 _) (o_store rfl rfl s60 ?_)
        have x60 := Ext.of_new (e9) q60 hb60
        refine o_nil (n_block (n_then (c_region (o_bin (r := I ((i + 1 : Nat) : Int)) rfl rfl rfl (by have e : ((i + 1 : Nat) : Int) = (i : Int) + 1 := (by omega); rw [e]; exact r_add_i (by omega) (by omega)) ?_))))
        refine o_move rfl rfl (o_nil ?_)
        refine n_round2 (i + 1) (_) ⟨rfl, rfl, rfl, rfl, rfl, rfl, trivial⟩ ⟨o60, x60, hia, by simpa using hL, shr_inv hia hL hval st⟩ (by show a.length - (i + 1) < a.length - i; omega)
      · refine c_skip (n_then (c_region (o_move rfl rfl (o_move rfl rfl (o_move rfl rfl (o_move rfl rfl (o_bin (r := I ((k % 32 : Nat) : Int)) rfl rfl rfl (by have e : ((k % 32 : Nat) : Int) = (k : Int) % 32 := (by omega); rw [e]; exact r_rem_i (by omega) (by omega)) ?_)))))))
        refine o_bin rfl rfl rfl (r_shr_u64 ((k % 32 : Nat)) (by omega)) (o_conv rfl rfl (r_u64_u32 Try.underlying69 Try.underlying88) ?_)
        have st := shr_next (x := (((a[i])).toUInt64)) hia (by first | exact .inl ⟨by omega, rfl⟩ | exact .inr ⟨by omega, rfl⟩) (Nat.mod_lt k (show 0 < 32 by omega))
        obtain ⟨g60, w60, p60, s60, o60, q60, hb60, c60, ob60⟩ := (oL).setW Try.underlying39 (i := i) (by omega) (((((a[i])).toUInt64) >>> UInt64.ofNat (k % 32)).toUInt32)
        refine o_indexAddr rfl rfl rfl (p60 _) (o_store rfl rfl s60 ?_)
        have x60 := Ext.of_new (e9) q60 hb60
        refine o_nil (n_block (n_then (c_region (o_bin (r := I ((i + 1 : Nat) : Int)) rfl rfl rfl (by have e : ((i + 1 : Nat) : Int) = (i : Int) + 1 := (by omega); rw [e]; exact r_add_i (by omega) (by omega)) ?_))))
        refine o_move rfl rfl (o_nil ?_)
        refine n_round2 (i + 1) (_) ⟨rfl, rfl, rfl, rfl, rfl, rfl, trivial⟩ ⟨o60, x60, hia, by simpa using hL, shr_inv hia hL hval st⟩ (by show a.length - (i + 1) < a.length - i; omega)
    · refine c_exit (x_then (x_then (x_here (n_then (c_seq (c_region ?_))))))
      have hla : val L = val l / 2 ^ k := by
        rw [List.take_of_length_le (by omega), List.drop_of_length_le (by omega)] at hval
        simp only [val, Nat.zero_div, Nat.mul_zero, Nat.add_zero] at hval
        rw [hval, hva, Nat.div_div_eq_div_mul, ← Nat.pow_add, Nat.div_add_mod]
      refine o_move rfl rfl (o_call call_trim rfl rfl (trim_spec oL.wds) ?_)
      rintro v63 _ ⟨rfl, b63⟩
      refine o_assign rfl rfl (o_assign rfl rfl (o_nil (n_then (c_ret (r_body2 rfl rfl rfl ?_)))))
      exact ⟨_, rfl, e9, _, rfl, by rw [← hla]; exact b63⟩
end Go.Rl
/- Plain maths: long division by estimated limbs. Conditions: each lemma names its own. -/
namespace Go.Rl

/-- The estimate before a step is too large: it may be lowered. -/
theorem est_down {V U v1 v2 u01 u2 P Vl Ul q r : Nat} (hV : V = (v1 * 4294967296 + v2) * P + Vl) (hU : U = (u01 * 4294967296 + u2) * P + Ul) (hUl : Ul < P) (hqr : q * v1 + r = u01)
    (h : r * 4294967296 + u2 < q * v2) : U < q * V := by
  have h1 : u01 * 4294967296 + u2 + 1 ≤ q * (v1 * 4294967296 + v2) := by
    rw [← hqr, Nat.mul_add, ← Nat.mul_assoc, Nat.add_mul]; omega
  have h2 : (u01 * 4294967296 + u2 + 1) * P ≤ q * (v1 * 4294967296 + v2) * P := Nat.mul_le_mul_right _ h1
  have h3 : q * (v1 * 4294967296 + v2) * P ≤ q * V := by
    rw [hV, Nat.mul_assoc]; exact Nat.mul_le_mul_left _ (Nat.le_add_right _ _)
  rw [Nat.add_mul _ 1] at h2
  omega
/-- Where it is not, it is at most one too large. -/
theorem est_done {V U v1 v2 u01 u2 P Vl Ul q : Nat} (hV : V = (v1 * 4294967296 + v2) * P + Vl) (hU : U = (u01 * 4294967296 + u2) * P + Ul) (hVl : Vl < P) (h1 : 0 < v1) (hq : 0 < q) (hqB : q ≤ 4294967296)
    (h : q * (v1 * 4294967296 + v2) ≤ u01 * 4294967296 + u2) : (q - 1) * V ≤ U := by
  obtain ⟨m, rfl⟩ : ∃ m, q = m + 1 := ⟨q - 1, by omega⟩
  rw [Nat.add_sub_cancel]
  have h2 : (m + 1) * (v1 * 4294967296 + v2) * P ≤ (u01 * 4294967296 + u2) * P := Nat.mul_le_mul_right _ h
  have h3 : m * Vl ≤ (v1 * 4294967296 + v2) * P := by
    have a : m * Vl ≤ 4294967296 * P := Nat.mul_le_mul (by omega) (by omega)
    have b : 4294967296 * P ≤ (v1 * 4294967296 + v2) * P := Nat.mul_le_mul_right _ (by omega)
    omega
  rw [hV, Nat.mul_add, ← Nat.mul_assoc]
  rw [Nat.add_mul m 1, Nat.one_mul, Nat.add_mul] at h2
  omega
theorem est_fin {V U v1 v2 u01 u2 P Vl Ul q r : Nat} (hV : V = (v1 * 4294967296 + v2) * P + Vl) (hU : U = (u01 * 4294967296 + u2) * P + Ul) (hVl : Vl < P) (h1 : 0 < v1) (hv2 : v2 < 4294967296) (hqB : q < 4294967296) (hqr : q * v1 + r = u01)
    (h : 4294967296 ≤ r ∨ q * v2 ≤ r * 4294967296 + u2) : (q - 1) * V ≤ U := by
  rcases Nat.eq_zero_or_pos q with rfl | hq
  · simp
  · refine est_done hV hU hVl h1 hq (by omega) ?_
    rw [Nat.mul_add, ← Nat.mul_assoc]
    have hp : q * v2 ≤ 4294967295 * 4294967295 := Nat.mul_le_mul (by omega) (by omega)
    omega
theorem est_lt {v1 u0 u1 q r : Nat} (hu0 : u0 ≤ v1) (hu1 : u1 < 4294967296) (hqr : q * v1 + r = u0 * 4294967296 + u1) (hr : 4294967296 ≤ r) : q < 4294967296 := by
  rcases Nat.lt_or_ge q 4294967296 with h | h
  · exact h
  · have := Nat.mul_le_mul_right v1 h
    omega
/-- The first estimate is not too small. -/
theorem est_up {V U v1 u01 P Q : Nat} (hV : v1 * P ≤ V) (hU : U < (u01 + 1) * P) (h1 : 0 < v1) (h : Q * V ≤ U) : Q ≤ u01 / v1 := by
  rw [Nat.le_div_iff_mul_le h1]
  have h2 : Q * v1 * P ≤ Q * V := by rw [Nat.mul_assoc]; exact Nat.mul_le_mul_left _ hV
  have h3 : Q * v1 * P < (u01 + 1) * P := by omega
  have := Nat.lt_of_mul_lt_mul_right h3
  omega

theorem sub2 {u lo b : Nat} (hu : u < 4294967296) (hlo : lo < 4294967296) (hb : b ≤ 1) {x : UInt64} (hx : x.toNat = (18446744073709551616 - b + (18446744073709551616 - lo + u) % 18446744073709551616) % 18446744073709551616) :
    x.toNat % 4294967296 + lo + b = u + 4294967296 * (x.toNat / 9223372036854775808) ∧ x.toNat / 9223372036854775808 ≤ 1 := by
  omega
/-- One step of the subtraction. -/
theorem sub_step {L v : List UInt32} {M : List UInt32} {i : Nat} {q c b x : UInt64} (hi : i < v.length) (hL : v.length < L.length) (hM : M.length = L.length) (hq : q.toNat < 4294967296) (hc : c.toNat < 4294967296) (hb : b.toNat ≤ 1)
    (hMi : M.drop i = L.drop i) (hinv : val (L.take i) + 4294967296 ^ i * (c.toNat + b.toNat) = val (M.take i) + q.toNat * val (v.take i))
    (hx : x = (M[i]'(by omega)).toUInt64 - ((c + q * v[i].toUInt64).toUInt32).toUInt64 - b) :
    (M.set i x.toUInt32).drop (i + 1) = L.drop (i + 1) ∧ ((c + q * v[i].toUInt64) >>> UInt64.ofNat 32).toNat < 4294967296 ∧ (x >>> UInt64.ofNat 63).toNat ≤ 1 ∧
      val (L.take (i + 1)) + 4294967296 ^ (i + 1) * (((c + q * v[i].toUInt64) >>> UInt64.ofNat 32).toNat + (x >>> UInt64.ofNat 63).toNat) = val ((M.set i x.toUInt32).take (i + 1)) + q.toNat * val (v.take (i + 1)) := by
  have hd := u32_lt v[i]
  have hMl : M[i]'(by omega) = L[i]'(by omega) := by
    have h1 := List.getElem?_drop (xs := M) (i := i) (j := 0)
    have h2 := List.getElem?_drop (xs := L) (i := i) (j := 0)
    rw [hMi] at h1
    rw [h1, Nat.add_zero, List.getElem?_eq_getElem (by omega), List.getElem?_eq_getElem (by omega)] at h2
    exact Option.some.inj h2
  have hu := u32_lt (M[i]'(by omega))
  have hprod : q.toNat * v[i].toNat ≤ 4294967295 * 4294967295 := Nat.mul_le_mul (by omega) (by omega)
  have hC : (c + q * v[i].toUInt64).toNat = c.toNat + q.toNat * v[i].toNat := by
    rw [n_add, n_mul, n_64]; omega
  have hhi : ((c + q * v[i].toUInt64) >>> UInt64.ofNat 32).toNat = (c.toNat + q.toNat * v[i].toNat) / 4294967296 := by rw [n_shr _ (by omega), hC]
  have hb1 : (x >>> UInt64.ofNat 63).toNat = x.toNat / 9223372036854775808 := by rw [n_shr _ (by omega)]
  have hxn : x.toNat = (18446744073709551616 - b.toNat + (18446744073709551616 - (c.toNat + q.toNat * v[i].toNat) % 4294967296 + (M[i]'(by omega)).toNat) % 18446744073709551616) % 18446744073709551616 := by
    rw [hx, n_sub, n_sub, n_64, n_64, n_32, hC]
  obtain ⟨hs1, hs2⟩ := sub2 hu (Nat.mod_lt _ (by omega)) hb hxn
  refine ⟨?_, by rw [hhi]; omega, by rw [hb1]; exact hs2, ?_⟩
  · rw [List.drop_set_of_lt (by omega)]
    have := congrArg (List.drop 1) hMi
    rwa [List.drop_drop, List.drop_drop] at this
  · rw [val_set_take (by omega), val_take_succ (by omega), val_take_succ hi, hhi, hb1, n_32, ← hMl, Nat.pow_succ, Nat.mul_add q.toNat, Nat.mul_left_comm q.toNat]
    have hdm := Nat.div_add_mod (c.toNat + q.toNat * v[i].toNat) 4294967296
    have key : (M[i]'(by omega)).toNat + 4294967296 * ((c.toNat + q.toNat * v[i].toNat) / 4294967296 + x.toNat / 9223372036854775808) = x.toNat % 4294967296 + q.toNat * v[i].toNat + (c.toNat + b.toNat) := by omega
    have k2 := congrArg (4294967296 ^ i * ·) key
    simp only [Nat.mul_add] at k2 hinv ⊢
    simp only [Nat.mul_assoc] at k2 ⊢
    omega
/-- One step of the addition. -/
theorem add_step {M v L : List UInt32} {i : Nat} {c : UInt64} (hi : i < v.length) (hL : v.length < L.length) (hM : M.length = L.length) (hc : c.toNat ≤ 1)
    (hMi : M.drop i = L.drop i) (hinv : val (M.take i) + 4294967296 ^ i * c.toNat = val (L.take i) + val (v.take i)) :
    (M.set i (c + ((M[i]'(by omega)).toUInt64 + v[i].toUInt64)).toUInt32).drop (i + 1) = L.drop (i + 1) ∧ ((c + ((M[i]'(by omega)).toUInt64 + v[i].toUInt64)) >>> UInt64.ofNat 32).toNat ≤ 1 ∧
      val ((M.set i (c + ((M[i]'(by omega)).toUInt64 + v[i].toUInt64)).toUInt32).take (i + 1)) + 4294967296 ^ (i + 1) * ((c + ((M[i]'(by omega)).toUInt64 + v[i].toUInt64)) >>> UInt64.ofNat 32).toNat = val (L.take (i + 1)) + val (v.take (i + 1)) := by
  have hd := u32_lt v[i]
  have hMl : M[i]'(by omega) = L[i]'(by omega) := by
    have h1 := List.getElem?_drop (xs := M) (i := i) (j := 0)
    have h2 := List.getElem?_drop (xs := L) (i := i) (j := 0)
    rw [hMi] at h1
    rw [h1, Nat.add_zero, List.getElem?_eq_getElem (by omega), List.getElem?_eq_getElem (by omega)] at h2
    exact Option.some.inj h2
  have hu := u32_lt (M[i]'(by omega))
  have hC : (c + ((M[i]'(by omega)).toUInt64 + v[i].toUInt64)).toNat = c.toNat + ((M[i]'(by omega)).toNat + v[i].toNat) := by
    rw [n_add, n_add, n_64, n_64]; omega
  have hhi : ((c + ((M[i]'(by omega)).toUInt64 + v[i].toUInt64)) >>> UInt64.ofNat 32).toNat = (c.toNat + ((M[i]'(by omega)).toNat + v[i].toNat)) / 4294967296 := by rw [n_shr _ (by omega), hC]
  refine ⟨?_, by rw [hhi]; omega, ?_⟩
  · rw [List.drop_set_of_lt (by omega)]
    have := congrArg (List.drop 1) hMi
    rwa [List.drop_drop, List.drop_drop] at this
  · rw [val_set_take (by omega), val_take_succ (by omega), val_take_succ hi, hhi, n_32, hC, ← hMl, Nat.pow_succ]
    have key : (c.toNat + ((M[i]'(by omega)).toNat + v[i].toNat)) % 4294967296 + 4294967296 * ((c.toNat + ((M[i]'(by omega)).toNat + v[i].toNat)) / 4294967296) = (M[i]'(by omega)).toNat + v[i].toNat + c.toNat := by omega
    have k2 := congrArg (4294967296 ^ i * ·) key
    simp only [Nat.mul_add] at k2 hinv ⊢
    simp only [Nat.mul_assoc] at k2 ⊢
    omega
theorem lb_len_eq {n j : Nat} (h1 : 4294967296 ^ j ≤ n) (h2 : n < 4294967296 ^ (j + 1)) : (lb n).length = j + 1 := by
  have a := lb_lt h2
  have b := val_lt (lb n)
  rw [val_lb] at b
  have c := (Nat.pow_lt_pow_iff_right (a := 4294967296) (by omega)).1 (Nat.lt_of_le_of_lt h1 b)
  omega
theorem cmpN_neg {x y : Nat} : cmpN x y < 0 ↔ x < y := by
  unfold cmpN
  split
  · simp; assumption
  · split
    · simp; omega
    · simp; omega
/-- The divisor, shifted so that its highest bit is set, has as many limbs as before. -/
theorem norm_len {n k : Nat} (h : (lb n).length = k + 2) :
    32 - bl ((lb n)[k + 1]'(by omega)).toNat < 32 ∧ (lb (n * 2 ^ (32 - bl ((lb n)[k + 1]'(by omega)).toNat))).length = k + 2 := by
  have hn : 0 < n := by
    rcases Nat.eq_zero_or_pos n with h0 | h0
    · subst h0; simp [lb_zero] at h
    · exact h0
  have ht := lb_last (n := n) (i := k + 1) (by omega)
  have h1 := lb_ge hn
  rw [h] at h1
  have hb := (bl_spec ht).2
  have hp := bl_pos ht
  have h32 := bl_le (n := ((lb n)[k + 1]'(by omega)).toNat) (k := 32) (u32_lt _)
  have hv : n < (((lb n)[k + 1]'(by omega)).toNat + 1) * 4294967296 ^ (k + 1) := by
    have e := val_take_succ (l := lb n) (i := k + 1) (by omega)
    rw [List.take_of_length_le (by omega), val_lb] at e
    have := val_lt ((lb n).take (k + 1))
    rw [List.length_take, Nat.min_eq_left (by omega)] at this
    rw [Nat.mul_comm, Nat.mul_add]
    omega
  generalize ((lb n)[k + 1]'(by omega)).toNat = t at *
  refine ⟨by omega, lb_len_eq (j := k + 1) ?_ ?_⟩
  · exact Nat.le_trans h1 (Nat.le_mul_of_pos_right _ (Nat.pow_pos (by omega)))
  · have hs : 0 < 2 ^ (32 - bl t) := Nat.pow_pos (by omega)
    have a : n * 2 ^ (32 - bl t) < (t + 1) * 4294967296 ^ (k + 1) * 2 ^ (32 - bl t) := Nat.mul_lt_mul_of_pos_right hv hs
    have b : (t + 1) * 4294967296 ^ (k + 1) * 2 ^ (32 - bl t) ≤ 2 ^ bl t * 4294967296 ^ (k + 1) * 2 ^ (32 - bl t) := Nat.mul_le_mul_right _ (Nat.mul_le_mul_right _ hb)
    have c : 2 ^ bl t * 4294967296 ^ (k + 1) * 2 ^ (32 - bl t) = 4294967296 ^ (k + 1 + 1) := by
      rw [Nat.mul_right_comm, ← Nat.pow_add, show bl t + (32 - bl t) = 32 by omega, Nat.pow_succ 4294967296 (k + 1), Nat.mul_comm]
    omega
theorem u64_zero {x : UInt64} (h : x.toNat = 0) : x = 0 := UInt64.toNat_inj.1 h
theorem set_last {M : List UInt32} {n : Nat} (h : M.length = n + 1) (x : UInt32) : val (M.set n x) = val (M.take n) + 4294967296 ^ n * x.toNat := by
  have := val_set_take (l := M) (i := n) (by omega) x
  rwa [List.take_of_length_le (by simp; omega)] at this
theorem val_last {M : List UInt32} {n : Nat} (h : M.length = n + 1) : val M = val (M.take n) + 4294967296 ^ n * (M[n]'(by omega)).toNat := by
  rw [← val_take_succ (by omega), List.take_of_length_le (by omega)]
theorem drop_get {M L : List UInt32} {i : Nat} (h : M.drop i = L.drop i) (h1 : i < M.length) (h2 : i < L.length) : M[i] = L[i] := by
  have e1 := List.getElem?_drop (xs := M) (i := i) (j := 0)
  have e2 := List.getElem?_drop (xs := L) (i := i) (j := 0)
  rw [h] at e1
  rw [e1, Nat.add_zero, List.getElem?_eq_getElem h1, List.getElem?_eq_getElem h2] at e2
  exact Option.some.inj e2
/-- The last limb of the subtraction. -/
theorem red_top {L v M : List UInt32} {q c b x : UInt64} (hL : L.length = v.length + 1) (hM : M.length = L.length) (hc : c.toNat < 4294967296) (hb : b.toNat ≤ 1)
    (hMi : M.drop v.length = L.drop v.length) (hinv : val (L.take v.length) + 4294967296 ^ v.length * (c.toNat + b.toNat) = val (M.take v.length) + q.toNat * val (v.take v.length))
    (hx : x = (M[v.length]'(by omega)).toUInt64 - c - b) :
    val L + 4294967296 ^ (v.length + 1) * (x.toNat / 9223372036854775808) = val (M.set v.length x.toUInt32) + q.toNat * val v ∧ x.toNat / 9223372036854775808 ≤ 1 := by
  have hu := u32_lt (M[v.length]'(by omega))
  have hxn : x.toNat = (18446744073709551616 - b.toNat + (18446744073709551616 - c.toNat + (M[v.length]'(by omega)).toNat) % 18446744073709551616) % 18446744073709551616 := by
    rw [hx, n_sub, n_sub, n_64]
  obtain ⟨hs1, hs2⟩ := sub2 hu hc hb hxn
  refine ⟨?_, hs2⟩
  rw [set_last (by omega), n_32, val_last hL, ← drop_get hMi (by omega) (by omega), Nat.pow_succ]
  rw [List.take_length (l := v)] at hinv
  have k2 := congrArg (4294967296 ^ v.length * ·) hs1
  simp only [Nat.mul_add] at k2 hinv ⊢
  simp only [Nat.mul_assoc] at k2 ⊢
  omega
/-- Where the difference is negative, the divisor is added again. -/
theorem red_back {L v N M : List UInt32} {q : Nat} {c : UInt64} (hL : L.length = v.length + 1) (hN : N.length = L.length) (hM : M.length = L.length) (hc : c.toNat ≤ 1) (hMi : M.drop v.length = N.drop v.length)
    (hinv : val (M.take v.length) + 4294967296 ^ v.length * c.toNat = val (N.take v.length) + val (v.take v.length)) (ht : val L + 4294967296 ^ (v.length + 1) = val N + q * val v) (h1 : (q - 1) * val v ≤ val L) :
    0 < q ∧ val L = (q - 1) * val v + val (M.set v.length ((M[v.length]'(by omega)) + c.toUInt32)) ∧ val (M.set v.length ((M[v.length]'(by omega)) + c.toUInt32)) < val v := by
  have hu := u32_lt (M[v.length]'(by omega))
  have hNl := val_lt N
  rw [hN, hL] at hNl
  have hq : 0 < q := by
    rcases Nat.eq_zero_or_pos q with h | h
    · subst h; omega
    · exact h
  obtain ⟨p, rfl⟩ : ∃ p, q = p + 1 := ⟨q - 1, by omega⟩
  rw [Nat.add_sub_cancel] at h1 ⊢
  rw [Nat.add_mul, Nat.one_mul] at ht
  have hlast : ((M[v.length]'(by omega)) + c.toUInt32).toNat = ((M[v.length]'(by omega)).toNat + c.toNat) % 4294967296 := by
    rw [UInt32.toNat_add, n_32]; omega
  have hF := set_last (show M.length = v.length + 1 by omega) ((M[v.length]'(by omega)) + c.toUInt32)
  have hFl := val_lt (M.set v.length ((M[v.length]'(by omega)) + c.toUInt32))
  have hFe : (M.set v.length ((M[v.length]'(by omega)) + c.toUInt32)).length = v.length + 1 := by simp; omega
  rw [hFe] at hFl
  have hNe := val_last (show N.length = v.length + 1 by omega)
  rw [← drop_get hMi (by omega) (by omega)] at hNe
  rw [List.take_length (l := v)] at hinv
  have hdm := Nat.div_add_mod ((M[v.length]'(by omega)).toNat + c.toNat) 4294967296
  have hs : ((M[v.length]'(by omega)).toNat + c.toNat) / 4294967296 ≤ 1 := by omega
  have key : val (M.set v.length ((M[v.length]'(by omega)) + c.toUInt32)) + 4294967296 ^ (v.length + 1) * (((M[v.length]'(by omega)).toNat + c.toNat) / 4294967296) = val N + val v := by
    rw [hF, hlast, hNe, Nat.pow_succ]
    have k2 := congrArg (4294967296 ^ v.length * ·) hdm
    simp only [Nat.mul_add] at k2 ⊢
    simp only [Nat.mul_assoc] at k2 ⊢
    omega
  generalize val (M.set v.length ((M[v.length]'(by omega)) + c.toUInt32)) = F at *
  generalize ((M[v.length]'(by omega)).toNat + c.toNat) / 4294967296 = s at *
  rcases (show s = 0 ∨ s = 1 by omega) with rfl | rfl
  · omega
  · refine ⟨by omega, by omega, by omega⟩
/-- One round of the long division, on whole numbers. -/
theorem div_round {A Q V X lo part q part' P : Nat} (hX : X = lo + P * part) (hlo : lo < P) (hA : A = Q * (P * 4294967296) * V + X) (hp : part = q * V + part') (hr : part' < V) :
    A = (q + 4294967296 * Q) * P * V + (lo + P * part') ∧ lo + P * part' < P * V := by
  constructor
  · rw [hA, hX, hp, Nat.mul_add P, Nat.add_mul q, Nat.add_mul]
    have e1 : 4294967296 * Q * P * V = Q * (P * 4294967296) * V := by
      rw [Nat.mul_comm 4294967296 Q, Nat.mul_assoc Q, Nat.mul_comm 4294967296 P]
    have e2 : q * P * V = P * (q * V) := by rw [Nat.mul_comm q P, Nat.mul_assoc]
    rw [e1, e2]; omega
  · have : P * (part' + 1) ≤ P * V := Nat.mul_le_mul_left _ hr
    rw [Nat.mul_add] at this
    omega
end Go.Rl
/- Plain maths: steps of the reference's algorithms on limbs. Conditions: each lemma names its own. -/
namespace Go.Rl

theorem val_take_getD (l : List UInt32) (i : Nat) : val (l.take (i + 1)) = val (l.take i) + 4294967296 ^ i * (l.getD i 0).toNat := by
  rcases Nat.lt_or_ge i l.length with h | h
  · rw [val_take_succ h]; simp [List.getD, List.getElem?_eq_getElem h]
  · rw [List.take_of_length_le h, List.take_of_length_le (by omega)]; simp [List.getD, List.getElem?_eq_none h]
theorem val_take_all (l : List UInt32) {i : Nat} (h : l.length ≤ i) : val (l.take i) = val l := by rw [List.take_of_length_le h]
def pad (l : List UInt32) (n : Nat) : List UInt32 := l ++ List.replicate (n - l.length) 0
theorem pad_len {l : List UInt32} {n : Nat} (h : l.length ≤ n) : (pad l n).length = n := by simp [pad]; omega
theorem pad_val (l : List UInt32) (n : Nat) : val (pad l n) = val l := by simp [pad, val_append, val_zeros]
theorem pad_get {l : List UInt32} {n i : Nat} (h : i < (pad l n).length) : (pad l n)[i] = l.getD i 0 := by
  unfold pad at h ⊢
  rcases Nat.lt_or_ge i l.length with h1 | h1
  · rw [List.getElem_append_left h1]; simp [List.getD, List.getElem?_eq_getElem h1]
  · rw [List.getElem_append_right h1]; simp [List.getD, List.getElem?_eq_none h1]
theorem pad_lt {l m : List UInt32} {n j : Nat} (hl : l.length ≤ n) (hm : m.length ≤ n) (hj : j < n) (hd : (pad l n).drop (j + 1) = (pad m n).drop (j + 1)) (h : (l.getD j 0).toNat < (m.getD j 0).toNat) : val l < val m := by
  rw [← pad_val l n, ← pad_val m n]
  exact val_cmp (by rw [pad_len hl]; exact hj) (by rw [pad_len hm]; exact hj) hd (by rw [pad_get, pad_get]; exact h)
theorem pad_next {l m : List UInt32} {n j : Nat} (hl : l.length ≤ n) (hm : m.length ≤ n) (hj : j < n) (hd : (pad l n).drop (j + 1) = (pad m n).drop (j + 1)) (h : (l.getD j 0).toNat = (m.getD j 0).toNat) : (pad l n).drop j = (pad m n).drop j := by
  have h1 := List.drop_eq_getElem_cons (l := pad l n) (i := j) (by rw [pad_len hl]; exact hj)
  have h2 := List.drop_eq_getElem_cons (l := pad m n) (i := j) (by rw [pad_len hm]; exact hj)
  rw [h1, h2, hd, pad_get, pad_get, u32_ext h]
theorem pad_all {l m : List UInt32} {n : Nat} (h : pad l n = pad m n) : val l = val m := by rw [← pad_val l n, ← pad_val m n, h]

theorem radd_step {a b O : List UInt32} {i : Nat} {c : UInt64} (hO : O.length = i) (hc : c.toNat ≤ 1) (hinv : val O + 4294967296 ^ i * c.toNat = val (a.take i) + val (b.take i)) :
    val (O ++ [(c + ((a.getD i 0).toUInt64 + (b.getD i 0).toUInt64)).toUInt32]) + 4294967296 ^ (i + 1) * ((c + ((a.getD i 0).toUInt64 + (b.getD i 0).toUInt64)) >>> UInt64.ofNat 32).toNat = val (a.take (i + 1)) + val (b.take (i + 1)) ∧
      ((c + ((a.getD i 0).toUInt64 + (b.getD i 0).toUInt64)) >>> UInt64.ofNat 32).toNat ≤ 1 := by
  have ha := u32_lt (a.getD i 0)
  have hb := u32_lt (b.getD i 0)
  have hC : (c + ((a.getD i 0).toUInt64 + (b.getD i 0).toUInt64)).toNat = c.toNat + ((a.getD i 0).toNat + (b.getD i 0).toNat) := by rw [n_add, n_add, n_64, n_64]; omega
  have hhi : ((c + ((a.getD i 0).toUInt64 + (b.getD i 0).toUInt64)) >>> UInt64.ofNat 32).toNat = (c.toNat + ((a.getD i 0).toNat + (b.getD i 0).toNat)) / 4294967296 := by rw [n_shr _ (by omega), hC]
  refine ⟨?_, by rw [hhi]; omega⟩
  rw [val_append, val_one, hO, n_32, hhi, hC, val_take_getD, val_take_getD, Nat.pow_succ]
  have key := Nat.div_add_mod (c.toNat + ((a.getD i 0).toNat + (b.getD i 0).toNat)) 4294967296
  have k2 := congrArg (4294967296 ^ i * ·) key
  simp only [Nat.mul_add] at k2 hinv ⊢
  simp only [Nat.mul_assoc] at k2 ⊢
  omega
/-- The last limb of the sum. -/
theorem radd_end {O : List UInt32} {i : Nat} {c : UInt64} (hO : O.length = i) (hc : c.toNat ≤ 1) : val (O ++ [c.toUInt32]) = val O + 4294967296 ^ i * c.toNat := by
  rw [val_append, val_one, hO, n_32, Nat.mod_eq_of_lt (by omega)]
theorem rsub_step {a b O : List UInt32} {i : Nat} {d : UInt64} (hO : O.length = i) (hd : d.toNat ≤ 1) (hinv : val (a.take i) + 4294967296 ^ i * d.toNat = val O + val (b.take i)) {x y : UInt64}
    (h : (x = (a.getD i 0).toUInt64 + 4294967296 ∧ (a.getD i 0).toNat < (b.getD i 0).toNat + d.toNat ∧ y = 1) ∨ (x = (a.getD i 0).toUInt64 ∧ (b.getD i 0).toNat + d.toNat ≤ (a.getD i 0).toNat ∧ y = 0)) :
    val (a.take (i + 1)) + 4294967296 ^ (i + 1) * y.toNat = val (O ++ [(x - ((b.getD i 0).toUInt64 + d)).toUInt32]) + val (b.take (i + 1)) ∧ y.toNat ≤ 1 := by
  have ha := u32_lt (a.getD i 0)
  have hb := u32_lt (b.getD i 0)
  have hy : ((b.getD i 0).toUInt64 + d).toNat = (b.getD i 0).toNat + d.toNat := by rw [n_add, n_64]; omega
  have e1 : (1 : UInt64).toNat = 1 := rfl
  have e0 : (0 : UInt64).toNat = 0 := rfl
  have key : (a.getD i 0).toNat + 4294967296 * y.toNat = (x - ((b.getD i 0).toUInt64 + d)).toUInt32.toNat + ((b.getD i 0).toNat + d.toNat) ∧ y.toNat ≤ 1 := by
    rcases h with ⟨rfl, h, rfl⟩ | ⟨rfl, h, rfl⟩
    · have hx : ((a.getD i 0).toUInt64 + 4294967296).toNat = (a.getD i 0).toNat + 4294967296 := by
        rw [n_add, n_64]
        show ((a.getD i 0).toNat + 4294967296) % 18446744073709551616 = _
        omega
      rw [n_32, n_sub, hy, hx, e1]
      omega
    · rw [n_32, n_sub, hy, n_64, e0]
      omega
  refine ⟨?_, key.2⟩
  rw [val_append, val_one, hO, val_take_getD, val_take_getD, Nat.pow_succ]
  have k2 := congrArg (4294967296 ^ i * ·) key.1
  simp only [Nat.mul_add] at k2 hinv ⊢
  simp only [Nat.mul_assoc] at k2 ⊢
  omega
theorem rshl_step {a O : List UInt32} {i q s : Nat} {c : UInt64} (hs : s < 32) (hi : i < a.length) (hO : O.length = q + i) (hc : c.toNat < 2 ^ s) (hinv : val O + 4294967296 ^ (q + i) * c.toNat = val (a.take i) * (4294967296 ^ q * 2 ^ s)) :
    val (O ++ [(c ||| a[i].toUInt64 <<< UInt64.ofNat s).toUInt32]) + 4294967296 ^ (q + (i + 1)) * ((c ||| a[i].toUInt64 <<< UInt64.ofNat s) >>> UInt64.ofNat 32).toNat = val (a.take (i + 1)) * (4294967296 ^ q * 2 ^ s) ∧
      ((c ||| a[i].toUInt64 <<< UInt64.ofNat s) >>> UInt64.ofNat 32).toNat < 2 ^ s := by
  have ha := u32_lt a[i]
  have hps : 2 ^ s ≤ 2 ^ 31 := Nat.pow_le_pow_right (by omega) (by omega)
  have hsh : (a[i].toUInt64 <<< UInt64.ofNat s).toNat = 2 ^ s * a[i].toNat := by
    rw [n_shl _ (by omega), n_64, Nat.mod_eq_of_lt, Nat.mul_comm]
    have : a[i].toNat * 2 ^ s ≤ 4294967295 * 2 ^ 31 := Nat.mul_le_mul (by omega) hps
    omega
  have hC : (c ||| a[i].toUInt64 <<< UInt64.ofNat s).toNat = c.toNat + 2 ^ s * a[i].toNat := by rw [n_or, hsh, nor _ _ _ hc]
  have hhi : ((c ||| a[i].toUInt64 <<< UInt64.ofNat s) >>> UInt64.ofNat 32).toNat = (c.toNat + 2 ^ s * a[i].toNat) / 4294967296 := by rw [n_shr _ (by omega), hC]
  refine ⟨?_, ?_⟩
  · rw [val_append, val_one, hO, n_32, hhi, hC, val_take_succ hi, Nat.add_mul, ← hinv, ← Nat.add_assoc q i 1, Nat.pow_succ, Nat.pow_add]
    have key := Nat.div_add_mod (c.toNat + 2 ^ s * a[i].toNat) 4294967296
    have k2 := congrArg (4294967296 ^ q * 4294967296 ^ i * ·) key
    have e : 4294967296 ^ i * a[i].toNat * (4294967296 ^ q * 2 ^ s) = 4294967296 ^ q * 4294967296 ^ i * (2 ^ s * a[i].toNat) := by
      simp only [Nat.mul_comm, Nat.mul_left_comm, Nat.mul_assoc]
    rw [e]
    simp only [Nat.mul_add] at k2 ⊢
    simp only [Nat.mul_assoc] at k2 ⊢
    omega
  · rw [hhi, Nat.div_lt_iff_lt_mul (by omega)]
    have h1 : 2 ^ s * (a[i].toNat + 1) ≤ 2 ^ s * 4294967296 := Nat.mul_le_mul_left _ ha
    rw [Nat.mul_add] at h1
    omega
/-- Bit i of a number, out of its limbs. -/
theorem bit_of {a : List UInt32} {i : Nat} (hi : i / 32 < a.length) : ((a[i / 32] >>> UInt32.ofNat (i % 32)) &&& 1).toNat = val a / 2 ^ i % 2 := by
  have hs : i % 32 < 32 := Nat.mod_lt _ (by omega)
  have e1 : ((a[i / 32] >>> UInt32.ofNat (i % 32)) &&& 1).toNat = a[i / 32].toNat / 2 ^ (i % 32) % 2 := by
    rw [UInt32.toNat_and, n_shr32 _ hs]
    show _ &&& 1 = _
    rw [Nat.and_one_is_mod]
  have h1 := val_split a (i / 32) (by omega)
  have h2 := val_lt (a.take (i / 32))
  rw [List.length_take, Nat.min_eq_left (by omega)] at h2
  have h3 : (4294967296 : Nat) ^ (i / 32) = 2 ^ (32 * (i / 32)) := by rw [Nat.pow_mul]
  rw [h3] at h1 h2
  have h4 : val a / 2 ^ (32 * (i / 32)) = val (a.drop (i / 32)) := by
    rw [h1, Nat.add_mul_div_left _ _ (Nat.pow_pos (by omega)), Nat.div_eq_of_lt h2, Nat.zero_add]
  have h5 : val a / 2 ^ i = val (a.drop (i / 32)) / 2 ^ (i % 32) := by
    rw [← h4, Nat.div_div_eq_div_mul, ← Nat.pow_add, Nat.div_add_mod]
  rw [e1, h5, val_drop hi]
  have hp : 2 ^ (i % 32) * 2 ^ (32 - i % 32) = 4294967296 := by rw [← Nat.pow_add, show i % 32 + (32 - i % 32) = 32 by omega]
  obtain ⟨k, hk⟩ : ∃ k, 32 - i % 32 = k + 1 := ⟨31 - i % 32, by omega⟩
  rw [← hp, Nat.mul_assoc, Nat.add_mul_div_left _ _ (Nat.pow_pos (by omega)), hk, Nat.pow_succ, Nat.mul_comm (2 ^ k) 2, Nat.mul_assoc, Nat.add_mul_mod_self_left]
/-- Setting bit i of a number whose bits up to i are 0. -/
theorem setbit {a : List UInt32} {i t : Nat} (hi : i / 32 < a.length) (hv : val a = 2 ^ (i + 1) * t) : val (a.set (i / 32) (a[i / 32] ||| (1 : UInt32) <<< UInt32.ofNat (i % 32))) = val a + 2 ^ i := by
  have hs : i % 32 < 32 := Nat.mod_lt _ (by omega)
  have h1 := val_split a (i / 32) (by omega)
  have h2 := val_lt (a.take (i / 32))
  rw [List.length_take, Nat.min_eq_left (by omega)] at h2
  have h3 : (4294967296 : Nat) ^ (i / 32) = 2 ^ (32 * (i / 32)) := by rw [Nat.pow_mul]
  have h4 : val (a.drop (i / 32)) = 2 ^ (i % 32 + 1) * t := by
    have e : val a / 2 ^ (32 * (i / 32)) = val (a.drop (i / 32)) := by
      rw [h3] at h1 h2
      rw [h1, Nat.add_mul_div_left _ _ (Nat.pow_pos (by omega)), Nat.div_eq_of_lt h2, Nat.zero_add]
    rw [← e, hv, show i + 1 = 32 * (i / 32) + (i % 32 + 1) by omega, Nat.pow_add, Nat.mul_assoc, Nat.mul_div_cancel_left _ (Nat.pow_pos (by omega))]
  have h5 : a[i / 32].toNat = 2 ^ (i % 32 + 1) * (t % 2 ^ (31 - i % 32)) := by
    have e := val_drop hi
    rw [h4] at e
    have e2 : a[i / 32].toNat = 2 ^ (i % 32 + 1) * t % 4294967296 := by
      rw [e, Nat.add_mul_mod_self_left, Nat.mod_eq_of_lt (u32_lt _)]
    have hp : 2 ^ (i % 32 + 1) * 2 ^ (31 - i % 32) = 4294967296 := by rw [← Nat.pow_add, show i % 32 + 1 + (31 - i % 32) = 32 by omega]
    rw [e2, ← hp, Nat.mul_mod_mul_left]
  have h6 : ((1 : UInt32) <<< UInt32.ofNat (i % 32)).toNat = 2 ^ (i % 32) := by
    rw [n_shl32 _ hs]
    show 1 * 2 ^ (i % 32) % 4294967296 = _
    have : 2 ^ (i % 32) ≤ 2 ^ 31 := Nat.pow_le_pow_right (by omega) (by omega)
    rw [Nat.one_mul, Nat.mod_eq_of_lt (by omega)]
  have h7 : (a[i / 32] ||| (1 : UInt32) <<< UInt32.ofNat (i % 32)).toNat = a[i / 32].toNat + 2 ^ (i % 32) := by
    rw [n_or32, h6, h5, Nat.or_comm, nor _ _ _ (Nat.pow_lt_pow_right (by omega) (by omega)), Nat.add_comm]
  have h8 := val_set_take hi (a[i / 32] ||| (1 : UInt32) <<< UInt32.ofNat (i % 32))
  have h9 := val_split (a.set (i / 32) (a[i / 32] ||| (1 : UInt32) <<< UInt32.ofNat (i % 32))) (i / 32 + 1) (by simp; omega)
  rw [h8, List.drop_set_of_lt (by omega), h7] at h9
  have h10 := val_split a (i / 32 + 1) (by omega)
  rw [val_take_succ hi] at h10
  rw [h9, h10, Nat.mul_add]
  have e : 4294967296 ^ (i / 32) * 2 ^ (i % 32) = 2 ^ i := by rw [h3, ← Nat.pow_add, Nat.div_add_mod]
  rw [e]; omega
/-- One round of division bit by bit. -/
theorem rdiv_round {N V i : Nat} (hV : 0 < V) :
    N / 2 ^ i = 2 * (N / 2 ^ (i + 1)) + N / 2 ^ i % 2 ∧ (V ≤ 2 * (N / 2 ^ (i + 1) % V) + N / 2 ^ i % 2 → N / 2 ^ i % V = 2 * (N / 2 ^ (i + 1) % V) + N / 2 ^ i % 2 - V ∧ N / 2 ^ i / V = 2 * (N / 2 ^ (i + 1) / V) + 1) ∧
      (2 * (N / 2 ^ (i + 1) % V) + N / 2 ^ i % 2 < V → N / 2 ^ i % V = 2 * (N / 2 ^ (i + 1) % V) + N / 2 ^ i % 2 ∧ N / 2 ^ i / V = 2 * (N / 2 ^ (i + 1) / V)) := by
  have e : N / 2 ^ (i + 1) = N / 2 ^ i / 2 := by rw [Nat.pow_succ, Nat.div_div_eq_div_mul]
  rw [e]
  generalize N / 2 ^ i = M
  have h1 : M = 2 * (M / 2) + M % 2 := by omega
  have h2 := Nat.div_add_mod (M / 2) V
  have h3 := Nat.mod_lt (M / 2) hV
  refine ⟨h1, fun h => ?_, fun h => ?_⟩
  · have key : M = V * (2 * (M / 2 / V) + 1) + (2 * (M / 2 % V) + M % 2 - V) := by
      rw [Nat.mul_add, Nat.mul_left_comm]; omega
    have hlt : 2 * (M / 2 % V) + M % 2 - V < V := by omega
    constructor
    · conv => lhs; rw [key]
      rw [Nat.mul_add_mod, Nat.mod_eq_of_lt hlt]
    · conv => lhs; rw [key]
      rw [Nat.mul_add_div hV, Nat.div_eq_of_lt hlt, Nat.add_zero]
  · have key : M = V * (2 * (M / 2 / V)) + (2 * (M / 2 % V) + M % 2) := by
      rw [Nat.mul_left_comm]; omega
    constructor
    · conv => lhs; rw [key]
      rw [Nat.mul_add_mod, Nat.mod_eq_of_lt h]
    · conv => lhs; rw [key]
      rw [Nat.mul_add_div hV, Nat.div_eq_of_lt h, Nat.add_zero]
theorem bl_step {n : Nat} (h : 0 < n) : bl n = bl (n / 2) + 1 := by
  rcases (show n = 1 ∨ 2 ≤ n by omega) with rfl | h1
  · rfl
  · have := bl_shift (n := n) (s := 1) (by omega)
    rw [Nat.pow_one] at this
    omega
end Go.Rl
/- Walks of package relucertref01. Conditions: the numbers are shorter than 2^39 limbs. -/
namespace Go.Rl
open Go.RowKit Go.Proofs

end Go.Rl
/- Walks of package natural: the estimate of a limb of a quotient, and the subtraction. Conditions: each names its own. -/
namespace Go.Rl
open Go.RowKit Go.Proofs
theorem call_NEst : Callable Try.prog 84 := ⟨_, Try.func84, by kernel_rfl, rfl⟩
theorem call_NRed : Callable Try.prog 83 := ⟨_, Try.func83, by kernel_rfl, rfl⟩

theorem top2 {m : List UInt32} {k : Nat} (h : m.length = k + 2) : val m = ((m[k + 1]'(by omega)).toNat * 4294967296 + (m[k]'(by omega)).toNat) * 4294967296 ^ k + val (m.take k) := by
  rw [val_split m k (by omega), val_drop (show k < m.length by omega), val_drop (show k + 1 < m.length by omega), List.drop_of_length_le (show m.length ≤ k + 1 + 1 by omega), Nat.mul_comm (4294967296 ^ k), Nat.add_comm]
  congr 2
  simp only [val]
  omega
theorem top3 {m : List UInt32} {k : Nat} (h : m.length = k + 3) : val m = (((m[k + 2]'(by omega)).toNat * 4294967296 + (m[k + 1]'(by omega)).toNat) * 4294967296 + (m[k]'(by omega)).toNat) * 4294967296 ^ k + val (m.take k) := by
  rw [val_split m k (by omega), val_drop (show k < m.length by omega), val_drop (show k + 1 < m.length by omega), val_drop (show k + 1 + 1 < m.length by omega), List.drop_of_length_le (show m.length ≤ k + 1 + 1 + 1 by omega), Nat.mul_comm (4294967296 ^ k), Nat.add_comm]
  congr 2
  simp only [val, Nat.add_assoc, Nat.reduceAdd]
  omega
theorem ge64 {a b : UInt64} : a ≥ b ↔ b.toNat ≤ a.toNat := UInt64.le_iff_toNat_le
theorem gt64 {a b : UInt64} : a > b ↔ b.toNat < a.toNat := UInt64.lt_iff_toNat_lt
theorem NEst_spec {w : World} {L m : List UInt32} {u v : Value} {k : Nat} (hu : Wds L u w) (hv : Wds m v w) (hm : m.length = k + 2) (hL : L.length = k + 3) (hk : k ≤ 1099511627776) (h1 : 0 < (m[k + 1]'(by omega)).toNat) (hUV : val L < 4294967296 * val m) :
    Calls Try.prog 84 #[u, v] w (Ret fun r w' => Ext w w' ∧ ∃ q : UInt64, r = U64 q ∧ q.toNat < 4294967296 ∧ (q.toNat - 1) * val m ≤ val L ∧ val L < (q.toNat + 1) * val m) := by
  refine enter (vs := [u, v]) Try.func84 rfl rfl rfl ?_
  have tV := top2 hm
  have tU := top3 hL
  have hPk := bpow k
  have hVl := val_lt (m.take k)
  have hUl := val_lt (L.take k)
  rw [List.length_take, Nat.min_eq_left (by omega)] at hVl hUl
  have b0 := u32_lt (L[k]'(by omega))
  have b1 := u32_lt (L[k + 1]'(by omega))
  have b2 := u32_lt (L[k + 2]'(by omega))
  have c1 := u32_lt (m[k + 1]'(by omega))
  have c0 := u32_lt (m[k]'(by omega))
  have hV0 : 0 < val m := by
    rw [tV]
    have := Nat.mul_le_mul_right (4294967296 ^ k) (show 1 ≤ (m[k + 1]'(by omega)).toNat * 4294967296 + (m[k]'(by omega)).toNat by omega)
    omega
  have hu0 : (L[k + 2]'(by omega)).toNat ≤ (m[k + 1]'(by omega)).toNat := by
    rcases Nat.lt_or_ge (m[k + 1]'(by omega)).toNat (L[k + 2]'(by omega)).toNat with h | h
    · have e1 : ((m[k + 1]'(by omega)).toNat * 4294967296 + (m[k]'(by omega)).toNat + 1) * 4294967296 ^ k * 4294967296 ≤ (((L[k + 2]'(by omega)).toNat * 4294967296 + (L[k + 1]'(by omega)).toNat) * 4294967296 + (L[k]'(by omega)).toNat) * 4294967296 ^ k := by
        rw [Nat.mul_assoc, Nat.mul_comm (4294967296 ^ k), ← Nat.mul_assoc]
        exact Nat.mul_le_mul_right _ (by omega)
      rw [Nat.add_mul _ 1] at e1
      omega
    · exact h
  have hd0 : (m[k + 1]'(by omega)).toUInt64 ≠ 0 := fun h => by
    have := congrArg UInt64.toNat h
    rw [n_64] at this
    simp at this
    omega
  have n01 := n_two (L[k + 2]'(by omega)).toUInt64 (L[k + 1]'(by omega)) (by rw [n_64]; exact b2)
  rw [n_64] at n01
  refine c_seq (c_region (o_assign rfl rfl (o_nil (n_then (c_seq (c_region (o_move rfl rfl (o_len (r := I ((k + 2 : Nat) : Int)) rfl rfl ((by rw [← hm]; exact r_lenW Try.underlying39 hv)) ?_))))))))
  refine o_assign rfl rfl (o_nil (n_then (c_seq (c_grow 13 [0, 1, 5, 23] (by kernel_rfl) (by kernel_rfl) ?_))))
  refine f_move rfl rfl (f_move rfl rfl ?_)
  obtain ⟨a13, p13, q13⟩ := r_ixW Try.underlying39 hu (i := (k + 2 : Nat)) (by omega) .i64
  refine f_indexAddr rfl rfl rfl (fun w _ => p13 w) (f_load rfl rfl (fun w hw => r_load1 Try.underlying88 rfl (hw.cell_some q13)) (f_conv rfl rfl (fun w _ => r_u32_u64 Try.underlying88 Try.underlying69) ?_))
  refine f_bin (v := U64 32) rfl rfl rfl (fun w _ => r_shl_u64 32 (by omega)) (f_move rfl rfl (f_move rfl rfl (f_bin (r := I ((k + 1 : Nat) : Int)) rfl rfl rfl (fun w _ => by have e : ((k + 1 : Nat) : Int) = ((k + 2 : Nat) : Int) - 1 := (by omega); rw [e]; exact r_sub_i (by omega) (by omega)) ?_)))
  obtain ⟨a20, p20, q20⟩ := r_ixW Try.underlying39 hu (i := (k + 1 : Nat)) (by omega) .i64
  refine f_indexAddr rfl rfl rfl (fun w _ => p20 w) (f_load rfl rfl (fun w hw => r_load1 Try.underlying88 rfl (hw.cell_some q20)) (f_conv rfl rfl (fun w _ => r_u32_u64 Try.underlying88 Try.underlying69) ?_))
  refine f_bin rfl rfl rfl (fun w _ => r_or_u64) (f_nil ?_)
  intro wg2 xg2
  rintro _ hq0
  obtain rfl := Eq.symm hq0
  rintro _ hq1
  obtain rfl := Eq.symm hq1
  rintro _ rfl
  rintro _ rfl
  refine o_assign rfl rfl (o_nil (n_then (c_seq (c_grow 17 [0, 1, 5, 7, 39] (by kernel_rfl) (by kernel_rfl) ?_))))
  refine f_move rfl rfl (f_move rfl rfl (f_move rfl rfl (f_bin (r := I ((k + 1 : Nat) : Int)) rfl rfl rfl (fun w _ => by have e : ((k + 1 : Nat) : Int) = ((k + 2 : Nat) : Int) - 1 := (by omega); rw [e]; exact r_sub_i (by omega) (by omega)) ?_)))
  obtain ⟨a28, p28, q28⟩ := r_ixW Try.underlying39 (hv.ext xg2) (i := (k + 1 : Nat)) (by omega) .i64
  refine f_indexAddr rfl rfl rfl (fun w _ => p28 w) (f_load rfl rfl (fun w hw => r_load1 Try.underlying88 rfl (hw.cell_some q28)) (f_conv rfl rfl (fun w _ => r_u32_u64 Try.underlying88 Try.underlying69) ?_))
  refine f_bin rfl rfl rfl (fun w _ => r_quo_u64 hd0) (f_move rfl rfl (f_move rfl rfl (f_move rfl rfl (f_bin (r := I ((k + 1 : Nat) : Int)) rfl rfl rfl (fun w _ => by have e : ((k + 1 : Nat) : Int) = ((k + 2 : Nat) : Int) - 1 := (by omega); rw [e]; exact r_sub_i (by omega) (by omega)) ?_))))
  obtain ⟨a36, p36, q36⟩ := r_ixW Try.underlying39 (hv.ext xg2) (i := (k + 1 : Nat)) (by omega) .i64
  refine f_indexAddr rfl rfl rfl (fun w _ => p36 w) (f_load rfl rfl (fun w hw => r_load1 Try.underlying88 rfl (hw.cell_some q36)) (f_conv rfl rfl (fun w _ => r_u32_u64 Try.underlying88 Try.underlying69) ?_))
  refine f_bin rfl rfl rfl (fun w _ => r_rem_u64 hd0) (f_assign rfl rfl (f_nil ?_))
  intro wg3 xg3
  rintro _ hq0
  obtain rfl := Eq.symm hq0
  rintro _ hq1
  obtain rfl := Eq.symm hq1
  rintro _ rfl
  rintro _ rfl
  rintro _ rfl
  refine o_assign rfl rfl (o_nil (n_then (c_seq (c_block ?_))))
  refine c_loop2 (fun (q : UInt64) (r : UInt64) => [(0, u), (1, v), (5, I ((k + 2 : Nat) : Int)), (7, U64 q), (8, U64 r)]) (fun (q : UInt64) (r : UInt64) w' => Ext w w' ∧ q.toNat * (m[k + 1]'(by omega)).toNat + r.toNat = (L[k + 2]'(by omega)).toNat * 4294967296 + (L[k + 1]'(by omega)).toNat ∧ r.toNat < 4294967296 ∧ ∀ Q, Q * val m ≤ val L → Q ≤ q.toNat) (fun (q : UInt64) (r : UInt64) => q.toNat) (_) (_) ⟨rfl, rfl, rfl, rfl, rfl, trivial⟩ ⟨(xg2.trans xg3), by rw [UInt64.toNat_div, UInt64.toNat_mod, n01, n_64, Nat.mul_comm]; exact Nat.div_add_mod _ _, by rw [UInt64.toNat_mod, n01, n_64]; have := Nat.mod_lt ((L[k + 2]'(by omega)).toNat * 4294967296 + (L[k + 1]'(by omega)).toNat) h1; omega, fun Q hQ => by
      rw [UInt64.toNat_div, n01, n_64]
      refine est_up (V := val m) (U := val L) (P := 4294967296 ^ k * 4294967296) ?_ ?_ h1 hQ
      · rw [tV, Nat.mul_comm (4294967296 ^ k), ← Nat.mul_assoc]
        have := Nat.mul_le_mul_right (4294967296 ^ k) (Nat.le_add_right ((m[k + 1]'(by omega)).toNat * 4294967296) (m[k]'(by omega)).toNat)
        omega
      · rw [tU, Nat.mul_comm (4294967296 ^ k), ← Nat.mul_assoc]
        have := Nat.mul_le_mul_right (4294967296 ^ k) (show ((L[k + 2]'(by omega)).toNat * 4294967296 + (L[k + 1]'(by omega)).toNat) * 4294967296 + (L[k]'(by omega)).toNat + 1 ≤ ((L[k + 2]'(by omega)).toNat * 4294967296 + (L[k + 1]'(by omega)).toNat + 1) * 4294967296 by omega)
        rw [Nat.add_mul _ 1] at this
        omega⟩ ?_
  rintro q r w4 ⟨e4, hqr, hr, hup⟩
  refine c_seq (c_seq ?_)
  by_cases h41 : q ≥ 4294967296
  · refine c_grow 21 [0, 1, 5, 7, 8, 42, 60] (by kernel_rfl) (by kernel_rfl) ?_
    refine f_move rfl rfl (f_bin (v := U64 4294967296) rfl rfl rfl (fun w _ => dec_t h41 r_geq_u64) (f_move rfl rfl (f_no rfl rfl rfl (f_no rfl rfl rfl (f_no rfl rfl rfl (f_no rfl rfl rfl ?_))))))
    refine f_no rfl rfl rfl (f_no rfl rfl rfl (f_no rfl rfl rfl (f_no rfl rfl rfl (f_no rfl rfl rfl (f_no rfl rfl rfl (f_no rfl rfl rfl (f_no rfl rfl rfl (f_no rfl rfl rfl (f_no rfl rfl rfl ?_)))))))))
    refine f_no rfl rfl rfl (f_no rfl rfl rfl (f_no rfl rfl rfl (f_no rfl rfl rfl (f_nil ?_))))
    intro wg4 xg4
    rintro _ hq0
    obtain rfl := Eq.symm hq0
    rintro _ hq1
    obtain rfl := Eq.symm hq1
    rintro _ rfl
    rintro _ rfl
    rintro _ rfl
    rintro _ rfl
    rintro _ rfl
    refine o_pick_t rfl rfl rfl (o_nil (n_then (c_yes rfl (c_skip (n_then (c_block (c_seq (c_region ?_))))))))
    have hlo : ∀ Q, Q * val m ≤ val L → Q + 1 ≤ q.toNat := by
      intro Q hQ
      first
      | (have h41' : 4294967296 ≤ q.toNat := ge64.1 h41
         have h2 : Q * val m < 4294967296 * val m := by omega
         have := Nat.lt_of_mul_lt_mul_right h2
         omega)
      | (have h41' : q.toNat < 4294967296 := Nat.lt_of_not_le fun h => h41 (ge64.2 h)
         have h61' := gt64.1 h61
         have hp : q.toNat * (m[k]'(by omega)).toNat ≤ 4294967295 * 4294967295 := Nat.mul_le_mul (by omega) (by omega)
         rw [n_two r _ hr, n_mul, n_64, Nat.mod_eq_of_lt (by omega)] at h61'
         have h2 := est_down tV tU hUl hqr h61'
         have h3 : Q * val m < q.toNat * val m := by omega
         exact Nat.lt_of_mul_lt_mul_right h3)
    have hq0 := hlo 0 (by simp)
    have hq1 : (q - 1).toNat = q.toNat - 1 := by
      have := u64_lt q
      rw [n_sub]
      show (18446744073709551616 - 1 + q.toNat) % 18446744073709551616 = _
      omega
    have hr1 : (r + (m[k + 1]'(by omega)).toUInt64).toNat = r.toNat + (m[k + 1]'(by omega)).toNat := by rw [n_add, n_64]; omega
    have hqr1 : (q - 1).toNat * (m[k + 1]'(by omega)).toNat + (r + (m[k + 1]'(by omega)).toUInt64).toNat = (L[k + 2]'(by omega)).toNat * 4294967296 + (L[k + 1]'(by omega)).toNat := by
      rw [hq1, hr1, ← hqr]
      obtain ⟨p, hp⟩ : ∃ p, q.toNat = p + 1 := ⟨q.toNat - 1, by omega⟩
      rw [hp, Nat.add_sub_cancel, Nat.add_mul]; omega
    have hup1 : ∀ Q, Q * val m ≤ val L → Q ≤ (q - 1).toNat := fun Q hQ => by
      have := hlo Q hQ
      omega
    refine o_move rfl rfl (o_bin (v := U64 1) rfl rfl rfl (r_sub_u64) (o_assign rfl rfl (o_nil (n_then (c_seq (c_region (o_move rfl rfl (o_move rfl rfl (o_move rfl rfl (o_bin (r := I ((k + 1 : Nat) : Int)) rfl rfl rfl (by have e : ((k + 1 : Nat) : Int) = ((k + 2 : Nat) : Int) - 1 := (by omega); rw [e]; exact r_sub_i (by omega) (by omega)) ?_))))))))))
    obtain ⟨a68, p68, q68⟩ := r_ixW Try.underlying39 (hv.ext (e4.trans xg4)) (i := (k + 1 : Nat)) (by omega) .i64
    refine o_indexAddr rfl rfl rfl (p68 _) (o_load rfl rfl (r_load1 Try.underlying88 rfl q68) (o_conv rfl rfl (r_u32_u64 Try.underlying88 Try.underlying69) ?_))
    refine o_bin rfl rfl rfl (r_add_u64) (o_assign rfl rfl (o_nil (n_then (c_seq (c_region (o_move rfl rfl (o_bin (v := U64 4294967296) rfl rfl rfl (r_geq_u64) (o_nil (n_then ?_)))))))))
    refine c_if rfl (fun h73 => ?_) (fun h73 => ?_)
    · have h73' : 4294967296 ≤ (r + (m[k + 1]'(by omega)).toUInt64).toNat := ge64.1 h73
      have hB := est_lt hu0 b1 hqr1 h73'
      refine c_exit (x_out rfl (x_then (x_here (n_then (c_seq (c_region (o_move rfl rfl (o_assign rfl rfl (o_nil (n_then (c_ret (r_body1 rfl rfl ?_))))))))))))
      first
      | exact ⟨_, rfl, (e4.trans xg4), _, rfl, hB, est_fin tV tU hVl h1 c0 hB hqr1 (.inl h73'), Nat.lt_of_not_le fun h => absurd (hup1 _ h) (by omega)⟩
      | (have h41' : q.toNat < 4294967296 := Nat.lt_of_not_le fun h => h41 (ge64.2 h)
         have h61' : (q * (m[k]'(by omega)).toUInt64).toNat ≤ (r <<< UInt64.ofNat 32 ||| (L[k]'(by omega)).toUInt64).toNat := Nat.le_of_not_lt fun h => h61 (gt64.2 h)
         have hp : q.toNat * (m[k]'(by omega)).toNat ≤ 4294967295 * 4294967295 := Nat.mul_le_mul (by omega) (by omega)
         rw [n_two r _ hr, n_mul, n_64, Nat.mod_eq_of_lt (by omega)] at h61'
         exact ⟨_, rfl, (e4.trans xg4), _, rfl, h41', est_fin tV tU hVl h1 c0 h41' hqr (.inr h61'), Nat.lt_of_not_le fun h => absurd (hup _ h) (by omega)⟩)
    · have h73' : (r + (m[k + 1]'(by omega)).toUInt64).toNat < 4294967296 := Nat.lt_of_not_le fun h => h73 (ge64.2 h)
      refine c_skip (n_block ?_)
      refine n_round2 (q - 1) (r + (m[k + 1]'(by omega)).toUInt64) ⟨rfl, rfl, rfl, rfl, rfl, trivial⟩ ⟨(e4.trans xg4), hqr1, h73', hup1⟩ (by show (q - 1).toNat < q.toNat; omega)
  · refine c_grow 21 [0, 1, 5, 7, 8, 42, 60] (by kernel_rfl) (by kernel_rfl) ?_
    refine f_move rfl rfl (f_bin (v := U64 4294967296) rfl rfl rfl (fun w _ => dec_f h41 r_geq_u64) (f_move rfl rfl (f_yes rfl rfl (f_move rfl rfl (f_yes rfl rfl (f_move rfl rfl ?_))))))
    refine f_yes rfl rfl (f_move rfl rfl (f_yes rfl rfl (f_bin (r := I ((k : Nat) : Int)) rfl rfl rfl (fun w _ => by have e : ((k : Nat) : Int) = ((k + 2 : Nat) : Int) - 2 := (by omega); rw [e]; exact r_sub_i (by omega) (by omega)) ?_)))
    refine f_yes rfl rfl ?_
    obtain ⟨a47, p47, q47⟩ := r_ixW Try.underlying39 (hv.ext e4) (i := (k : Nat)) (by omega) .i64
    refine f_indexAddr rfl rfl rfl (fun w _ => p47 w) (f_yes rfl rfl (f_load rfl rfl (fun w hw => r_load1 Try.underlying88 rfl (hw.cell_some q47)) (f_yes rfl rfl ?_)))
    refine f_conv rfl rfl (fun w _ => r_u32_u64 Try.underlying88 Try.underlying69) (f_yes rfl rfl (f_bin rfl rfl rfl (fun w _ => r_mul_u64) (f_yes rfl rfl ?_)))
    refine f_move rfl rfl (f_yes rfl rfl (f_bin (v := U64 32) rfl rfl rfl (fun w _ => r_shl_u64 32 (by omega)) (f_yes rfl rfl (f_move rfl rfl (f_yes rfl rfl (f_move rfl rfl (f_yes rfl rfl ?_)))))))
    refine f_bin (r := I ((k : Nat) : Int)) rfl rfl rfl (fun w _ => by have e : ((k : Nat) : Int) = ((k + 2 : Nat) : Int) - 2 := (by omega); rw [e]; exact r_sub_i (by omega) (by omega)) ?_
    refine f_yes rfl rfl ?_
    obtain ⟨a56, p56, q56⟩ := r_ixW Try.underlying39 (hu.ext e4) (i := (k : Nat)) (by omega) .i64
    refine f_indexAddr rfl rfl rfl (fun w _ => p56 w) (f_yes rfl rfl (f_load rfl rfl (fun w hw => r_load1 Try.underlying88 rfl (hw.cell_some q56)) (f_yes rfl rfl ?_)))
    refine f_conv rfl rfl (fun w _ => r_u32_u64 Try.underlying88 Try.underlying69) (f_yes rfl rfl (f_bin rfl rfl rfl (fun w _ => r_or_u64) (f_yes rfl rfl ?_)))
    refine f_bin rfl rfl rfl (fun w _ => r_gtr_u64) (f_nil ?_)
    intro wg4 xg4
    rintro _ hq0
    obtain rfl := Eq.symm hq0
    rintro _ hq1
    obtain rfl := Eq.symm hq1
    rintro _ rfl
    rintro _ rfl
    rintro _ rfl
    rintro _ rfl
    rintro _ rfl
    refine o_pick_f rfl rfl rfl (o_nil (n_then ?_))
    refine c_if rfl (fun h61 => ?_) (fun h61 => ?_)
    · refine c_skip (n_then (c_block (c_seq (c_region ?_))))
      have hlo : ∀ Q, Q * val m ≤ val L → Q + 1 ≤ q.toNat := by
        intro Q hQ
        first
        | (have h41' : 4294967296 ≤ q.toNat := ge64.1 h41
           have h2 : Q * val m < 4294967296 * val m := by omega
           have := Nat.lt_of_mul_lt_mul_right h2
           omega)
        | (have h41' : q.toNat < 4294967296 := Nat.lt_of_not_le fun h => h41 (ge64.2 h)
           have h61' := gt64.1 h61
           have hp : q.toNat * (m[k]'(by omega)).toNat ≤ 4294967295 * 4294967295 := Nat.mul_le_mul (by omega) (by omega)
           rw [n_two r _ hr, n_mul, n_64, Nat.mod_eq_of_lt (by omega)] at h61'
           have h2 := est_down tV tU hUl hqr h61'
           have h3 : Q * val m < q.toNat * val m := by omega
           exact Nat.lt_of_mul_lt_mul_right h3)
      have hq0 := hlo 0 (by simp)
      have hq1 : (q - 1).toNat = q.toNat - 1 := by
        have := u64_lt q
        rw [n_sub]
        show (18446744073709551616 - 1 + q.toNat) % 18446744073709551616 = _
        omega
      have hr1 : (r + (m[k + 1]'(by omega)).toUInt64).toNat = r.toNat + (m[k + 1]'(by omega)).toNat := by rw [n_add, n_64]; omega
      have hqr1 : (q - 1).toNat * (m[k + 1]'(by omega)).toNat + (r + (m[k + 1]'(by omega)).toUInt64).toNat = (L[k + 2]'(by omega)).toNat * 4294967296 + (L[k + 1]'(by omega)).toNat := by
        rw [hq1, hr1, ← hqr]
        obtain ⟨p, hp⟩ : ∃ p, q.toNat = p + 1 := ⟨q.toNat - 1, by omega⟩
        rw [hp, Nat.add_sub_cancel, Nat.add_mul]; omega
      have hup1 : ∀ Q, Q * val m ≤ val L → Q ≤ (q - 1).toNat := fun Q hQ => by
        have := hlo Q hQ
        omega
      refine o_move rfl rfl (o_bin (v := U64 1) rfl rfl rfl (r_sub_u64) (o_assign rfl rfl (o_nil (n_then (c_seq (c_region (o_move rfl rfl (o_move rfl rfl (o_move rfl rfl (o_bin (r := I ((k + 1 : Nat) : Int)) rfl rfl rfl (by have e : ((k + 1 : Nat) : Int) = ((k + 2 : Nat) : Int) - 1 := (by omega); rw [e]; exact r_sub_i (by omega) (by omega)) ?_))))))))))
      obtain ⟨a68, p68, q68⟩ := r_ixW Try.underlying39 (hv.ext (e4.trans xg4)) (i := (k + 1 : Nat)) (by omega) .i64
      refine o_indexAddr rfl rfl rfl (p68 _) (o_load rfl rfl (r_load1 Try.underlying88 rfl q68) (o_conv rfl rfl (r_u32_u64 Try.underlying88 Try.underlying69) ?_))
      refine o_bin rfl rfl rfl (r_add_u64) (o_assign rfl rfl (o_nil (n_then (c_seq (c_region (o_move rfl rfl (o_bin (v := U64 4294967296) rfl rfl rfl (r_geq_u64) (o_nil (n_then ?_)))))))))
      refine c_if rfl (fun h73 => ?_) (fun h73 => ?_)
      · have h73' : 4294967296 ≤ (r + (m[k + 1]'(by omega)).toUInt64).toNat := ge64.1 h73
        have hB := est_lt hu0 b1 hqr1 h73'
        refine c_exit (x_out rfl (x_then (x_here (n_then (c_seq (c_region (o_move rfl rfl (o_assign rfl rfl (o_nil (n_then (c_ret (r_body1 rfl rfl ?_))))))))))))
        first
        | exact ⟨_, rfl, (e4.trans xg4), _, rfl, hB, est_fin tV tU hVl h1 c0 hB hqr1 (.inl h73'), Nat.lt_of_not_le fun h => absurd (hup1 _ h) (by omega)⟩
        | (have h41' : q.toNat < 4294967296 := Nat.lt_of_not_le fun h => h41 (ge64.2 h)
           have h61' : (q * (m[k]'(by omega)).toUInt64).toNat ≤ (r <<< UInt64.ofNat 32 ||| (L[k]'(by omega)).toUInt64).toNat := Nat.le_of_not_lt fun h => h61 (gt64.2 h)
           have hp : q.toNat * (m[k]'(by omega)).toNat ≤ 4294967295 * 4294967295 := Nat.mul_le_mul (by omega) (by omega)
           rw [n_two r _ hr, n_mul, n_64, Nat.mod_eq_of_lt (by omega)] at h61'
           exact ⟨_, rfl, (e4.trans xg4), _, rfl, h41', est_fin tV tU hVl h1 c0 h41' hqr (.inr h61'), Nat.lt_of_not_le fun h => absurd (hup _ h) (by omega)⟩)
      · have h73' : (r + (m[k + 1]'(by omega)).toUInt64).toNat < 4294967296 := Nat.lt_of_not_le fun h => h73 (ge64.2 h)
        refine c_skip (n_block ?_)
        refine n_round2 (q - 1) (r + (m[k + 1]'(by omega)).toUInt64) ⟨rfl, rfl, rfl, rfl, rfl, trivial⟩ ⟨(e4.trans xg4), hqr1, h73', hup1⟩ (by show (q - 1).toNat < q.toNat; omega)
    · refine c_exit (x_then (x_then (x_here (n_then (c_seq (c_region (o_move rfl rfl (o_assign rfl rfl (o_nil (n_then (c_ret (r_body1 rfl rfl ?_))))))))))))
      first
      | exact ⟨_, rfl, (e4.trans xg4), _, rfl, hB, est_fin tV tU hVl h1 c0 hB hqr1 (.inl h73'), Nat.lt_of_not_le fun h => absurd (hup1 _ h) (by omega)⟩
      | (have h41' : q.toNat < 4294967296 := Nat.lt_of_not_le fun h => h41 (ge64.2 h)
         have h61' : (q * (m[k]'(by omega)).toUInt64).toNat ≤ (r <<< UInt64.ofNat 32 ||| (L[k]'(by omega)).toUInt64).toNat := Nat.le_of_not_lt fun h => h61 (gt64.2 h)
         have hp : q.toNat * (m[k]'(by omega)).toNat ≤ 4294967295 * 4294967295 := Nat.mul_le_mul (by omega) (by omega)
         rw [n_two r _ hr, n_mul, n_64, Nat.mod_eq_of_lt (by omega)] at h61'
         exact ⟨_, rfl, (e4.trans xg4), _, rfl, h41', est_fin tV tU hVl h1 c0 h41' hqr (.inr h61'), Nat.lt_of_not_le fun h => absurd (hup _ h) (by omega)⟩)
end Go.Rl
/- Walk of package natural: reduce. Conditions: the estimate is at most one too large. -/
namespace Go.Rl
open Go.RowKit Go.Proofs
theorem NRed_spec {w : World} {g : Nat} {pre post : List Value} {L m : List UInt32} {u v : Value} {q : UInt64} (hu : PW g pre L post u w) (hv : Wds m v w) (ha : v.ownBlock = none ∨ v.ownBlock ≠ some g) (hL : L.length = m.length + 1) (hm : m.length ≤ 1099511627776)
    (hq : q.toNat < 4294967296) (h1 : (q.toNat - 1) * val m ≤ val L) (h2 : val L < (q.toNat + 1) * val m) :
    Calls Try.prog 83 #[u, v, U64 q] w (Ret fun r w' => ∃ x F, r = U32 x ∧ w.grownBy w' (some g) ∧ PW g pre F post u w' ∧ F.length = L.length ∧ val L = x.toNat * val m + val F ∧ val F < val m) := by
  refine enter (vs := [u, v, U64 q]) Try.func83 rfl rfl rfl ?_
  refine c_seq (c_region (o_assign rfl rfl (o_nil (n_then (c_seq (c_region (o_assign rfl rfl (o_assign rfl rfl (o_nil (n_then (c_seq (c_seq (c_region (o_move rfl rfl (o_len rfl rfl (r_lenW Try.underlying39 hv) ?_)))))))))))))))
  refine o_move rfl rfl (o_nil (n_then (c_block ?_)))
  refine c_loop4 (fun (i : Nat) (M : List UInt32) (c : UInt64) (b : UInt64) => [(0, u), (1, v), (2, U64 q), (7, U64 c), (8, U64 b), (15, v), (16, I (m.length : Int)), (17, I (i : Int))]) (fun (i : Nat) (M : List UInt32) (c : UInt64) (b : UInt64) w' => w.grownBy w' (some g) ∧ PW g pre M post u w' ∧ M.length = L.length ∧ i ≤ m.length ∧ M.drop i = L.drop i ∧ c.toNat < 4294967296 ∧ b.toNat ≤ 1 ∧ val (L.take i) + 4294967296 ^ i * (c.toNat + b.toNat) = val (M.take i) + q.toNat * val (m.take i)) (fun (i : Nat) (M : List UInt32) (c : UInt64) (b : UInt64) => m.length - i) (0) (L) (0) (0) ⟨rfl, rfl, rfl, rfl, rfl, rfl, rfl, rfl, trivial⟩ ⟨gb_ext (Ext.refl _), hu, rfl, by simp, rfl, by simp, by simp, by simp [val]⟩ ?_
  rintro i M c b w3 ⟨q3, pM, hM, hi, hMi, hc, hb, hinv⟩
  refine c_seq ?_
  have v3 := hv.away ha q3
  refine c_region (o_bin rfl rfl rfl (r_lss_i) (o_nil (n_then (c_seq ?_))))
  refine c_if rfl (fun h18 => ?_) (fun h18 => ?_)
  · refine c_skip (n_then (c_seq (c_block (c_seq (c_region (o_move rfl rfl ?_))))))
    obtain ⟨a20, p20, q20⟩ := r_ixW Try.underlying39 v3 (i := i) (by omega) .i64
    refine o_indexAddr rfl rfl rfl (p20 _) (o_load rfl rfl (r_load1 Try.underlying88 rfl q20) (o_assign rfl rfl (o_assign rfl rfl (o_nil (n_then (c_seq (c_region (o_move rfl rfl ?_))))))))
    refine o_move rfl rfl (o_move rfl rfl (o_conv rfl rfl (r_u32_u64 Try.underlying88 Try.underlying69) (o_bin rfl rfl rfl (r_mul_u64) (o_bin rfl rfl rfl (r_add_u64) ?_))))
    refine o_assign rfl rfl (o_nil (n_then (c_seq (c_region (o_move rfl rfl (o_move rfl rfl ?_))))))
    obtain ⟨a30, p30, q30⟩ := r_ixW Try.underlying39 pM.wds (i := i) (by omega) .i64
    refine o_indexAddr rfl rfl rfl (p30 _) (o_load rfl rfl (r_load1 Try.underlying88 rfl q30) (o_conv rfl rfl (r_u32_u64 Try.underlying88 Try.underlying69) ?_))
    refine o_move rfl rfl (o_conv rfl rfl (r_u64_u32 Try.underlying69 Try.underlying88) (o_conv rfl rfl (r_u32_u64 Try.underlying88 Try.underlying69) ?_))
    refine o_bin rfl rfl rfl (r_sub_u64) (o_move rfl rfl (o_bin rfl rfl rfl (r_sub_u64) (o_assign rfl rfl (o_nil (n_then (c_seq (c_region (o_move rfl rfl (o_move rfl rfl (o_move rfl rfl ?_))))))))))
    refine o_conv rfl rfl (r_u64_u32 Try.underlying69 Try.underlying88) ?_
    obtain ⟨w43, p43, s43, pN, q43, c43⟩ := pM.setP Try.underlying39 (i := i) (by omega) ((((((((M[i])).toUInt64) - (((((c) + (((q) * (((m[i])).toUInt64))))).toUInt32).toUInt64))) - (b)))).toUInt32
    refine o_indexAddr rfl rfl rfl (p43 _) (o_store rfl rfl (s43) (o_nil (n_then (c_seq (c_region (o_move rfl rfl (o_bin rfl rfl rfl (r_shr_u64 63 (by omega)) (o_assign rfl rfl (o_nil ?_)))))))))
    refine n_then (c_region (o_move rfl rfl (o_bin rfl rfl rfl (r_shr_u64 32 (by omega)) (o_assign rfl rfl (o_nil (n_block (n_then (c_region (o_bin (r := I ((i + 1 : Nat) : Int)) rfl rfl rfl (by have e : ((i + 1 : Nat) : Int) = (i : Int) + 1 := (by omega); rw [e]; exact r_add_i (by omega) (by omega)) ?_)))))))))
    refine o_move rfl rfl (o_nil ?_)
    have st := sub_step (L := L) (v := m) (M := M) (i := i) (q := q) (c := c) (b := b) (by omega) (by omega) hM hq hc hb hMi hinv rfl
    refine n_round4 (i + 1) (_) (_) (_) ⟨rfl, rfl, rfl, rfl, rfl, rfl, rfl, rfl, trivial⟩ ⟨q3.trans q43, pN, by simpa using hM, by omega, st.1, st.2.1, st.2.2.1, st.2.2.2⟩ (by omega)
  · refine c_exit (x_then (x_then (x_here (n_then (c_seq ?_)))))
    obtain rfl : i = m.length := by omega
    refine c_region (o_move rfl rfl (o_move rfl rfl (o_len rfl rfl (r_lenW Try.underlying39 v3) ?_)))
    obtain ⟨a52, p52, q52⟩ := r_ixW Try.underlying39 pM.wds (i := m.length) (by omega) .i64
    refine o_indexAddr rfl rfl rfl (p52 _) (o_load rfl rfl (r_load1 Try.underlying88 rfl q52) (o_conv rfl rfl (r_u32_u64 Try.underlying88 Try.underlying69) ?_))
    refine o_move rfl rfl (o_bin rfl rfl rfl (r_sub_u64) (o_move rfl rfl (o_bin rfl rfl rfl (r_sub_u64) (o_assign rfl rfl (o_nil (n_then (c_seq (c_region (o_move rfl rfl (o_move rfl rfl ?_))))))))))
    refine o_len rfl rfl (r_lenW Try.underlying39 v3) (o_move rfl rfl (o_conv rfl rfl (r_u64_u32 Try.underlying69 Try.underlying88) ?_))
    obtain ⟨w64, p64, s64, pN, q64, c64⟩ := pM.setP Try.underlying39 (i := m.length) (by omega) ((((((((M[m.length])).toUInt64) - (c))) - (b)))).toUInt32
    refine o_indexAddr rfl rfl rfl (p64 _) (o_store rfl rfl (s64) ?_)
    have v64 := v3.away ha q64
    have tp := red_top (q := q) hL hM hc hb hMi hinv rfl
    have h63 := n_shr ((((((((M[m.length])).toUInt64) - (c))) - (b)))) (s := 63) (by omega)
    simp only [Nat.reducePow] at h63
    have hNl : (M.set m.length ((((((((M[m.length])).toUInt64) - (c))) - (b)))).toUInt32).length = L.length := by simpa using hM
    have hFl := val_lt (M.set m.length ((((((((M[m.length])).toUInt64) - (c))) - (b)))).toUInt32)
    generalize M.set m.length ((((((((M[m.length])).toUInt64) - (c))) - (b)))).toUInt32 = N at pN tp hNl hFl
    generalize hX : (((((((M[m.length])).toUInt64) - (c))) - (b))) = X at tp h63
    refine o_nil (n_then (c_seq (c_seq (c_region (o_move rfl rfl (o_bin rfl rfl rfl (r_shr_u64 63 (by omega)) (o_bin (v := U64 0) rfl rfl rfl (r_eql_u64) (o_nil (n_then ?_)))))))))
    refine c_if rfl (fun h67 => ?_) (fun h67 => ?_)
    · rw [h67] at h63
      rw [← h63] at tp
      refine c_seq (c_region (o_move rfl rfl (o_conv rfl rfl (r_u64_u32 Try.underlying69 Try.underlying88) (o_assign rfl rfl (o_nil (n_then (c_ret (r_then (r_body1 rfl rfl ?_)))))))))
      exact ⟨_, rfl, q.toUInt32, N, rfl, q3.trans q64, pN, hNl, by
        have e : q.toUInt32.toNat = q.toNat := by rw [n_32]; omega
        have := tp.1
        rw [e]
        simp at this
        omega, by
        have := tp.1
        rw [Nat.add_mul, Nat.one_mul] at h2
        simp at this
        omega⟩
    · have hs : X.toNat / 9223372036854775808 = 1 := by
        rcases Nat.eq_zero_or_pos (X.toNat / 9223372036854775808) with h | h
        · exact absurd (u64_zero (h63.trans h)) h67
        · have := tp.2
          omega
      rw [hs, Nat.mul_one] at tp
      refine c_skip (n_then (c_seq (c_region (o_assign rfl rfl (o_nil (n_then (c_seq (c_seq (c_region (o_move rfl rfl (o_len rfl rfl (r_lenW Try.underlying39 v64) (o_move rfl rfl ?_))))))))))))
      refine o_nil (n_then (c_block ?_))
      refine c_loop3 (fun (i : Nat) (K : List UInt32) (d : UInt64) => [(0, u), (1, v), (2, U64 q), (7, U64 d), (70, v), (71, I (m.length : Int)), (72, I (i : Int))]) (fun (i : Nat) (K : List UInt32) (d : UInt64) w' => w.grownBy w' (some g) ∧ PW g pre K post u w' ∧ K.length = L.length ∧ i ≤ m.length ∧ K.drop i = N.drop i ∧ d.toNat ≤ 1 ∧ val (K.take i) + 4294967296 ^ i * d.toNat = val (N.take i) + val (m.take i)) (fun (i : Nat) (K : List UInt32) (d : UInt64) => m.length - i) (0) (N) (0) ⟨rfl, rfl, rfl, rfl, rfl, rfl, rfl, trivial⟩ ⟨q3.trans q64, pN, hNl, by simp, rfl, by simp, by simp [val]⟩ ?_
      rintro i K d w17 ⟨q17, pK, hK, hi, hKi, hd, hinv2⟩
      refine c_seq ?_
      have v17 := hv.away ha q17
      refine c_region (o_bin rfl rfl rfl (r_lss_i) (o_nil (n_then (c_seq ?_))))
      refine c_if rfl (fun h73 => ?_) (fun h73 => ?_)
      · refine c_skip (n_then (c_seq (c_block (c_seq (c_region (o_move rfl rfl ?_))))))
        obtain ⟨a75, p75, q75⟩ := r_ixW Try.underlying39 v17 (i := i) (by omega) .i64
        refine o_indexAddr rfl rfl rfl (p75 _) (o_load rfl rfl (r_load1 Try.underlying88 rfl q75) (o_assign rfl rfl (o_assign rfl rfl (o_nil (n_then (c_seq (c_region (o_move rfl rfl ?_))))))))
        refine o_move rfl rfl (o_move rfl rfl ?_)
        obtain ⟨a80, p80, q80⟩ := r_ixW Try.underlying39 pK.wds (i := i) (by omega) .i64
        refine o_indexAddr rfl rfl rfl (p80 _) (o_load rfl rfl (r_load1 Try.underlying88 rfl q80) (o_conv rfl rfl (r_u32_u64 Try.underlying88 Try.underlying69) ?_))
        refine o_move rfl rfl (o_conv rfl rfl (r_u32_u64 Try.underlying88 Try.underlying69) (o_bin rfl rfl rfl (r_add_u64) (o_bin rfl rfl rfl (r_add_u64) (o_assign rfl rfl ?_))))
        refine o_nil (n_then (c_seq (c_region (o_move rfl rfl (o_move rfl rfl (o_move rfl rfl (o_conv rfl rfl (r_u64_u32 Try.underlying69 Try.underlying88) ?_)))))))
        obtain ⟨w91, p91, s91, pK', q91, c91⟩ := pK.setP Try.underlying39 (i := i) (by omega) ((((d) + (((((K[i])).toUInt64) + (((m[i])).toUInt64)))))).toUInt32
        refine o_indexAddr rfl rfl rfl (p91 _) (o_store rfl rfl (s91) (o_nil (n_then (c_region (o_move rfl rfl (o_bin rfl rfl rfl (r_shr_u64 32 (by omega)) (o_assign rfl rfl (o_nil (n_block ?_)))))))))
        refine n_then (c_region (o_bin (r := I ((i + 1 : Nat) : Int)) rfl rfl rfl (by have e : ((i + 1 : Nat) : Int) = (i : Int) + 1 := (by omega); rw [e]; exact r_add_i (by omega) (by omega)) ?_))
        refine o_move rfl rfl (o_nil ?_)
        have st := add_step (L := N) (v := m) (M := K) (i := i) (c := d) (by omega) (by omega) (by omega) hd hKi hinv2
        refine n_round3 (i + 1) (_) (_) ⟨rfl, rfl, rfl, rfl, rfl, rfl, rfl, trivial⟩ ⟨q17.trans q91, pK', by simpa using hK, by omega, st.1, st.2.1, st.2.2⟩ (by omega)
      · refine c_exit (x_then (x_then (x_here (n_then (c_seq ?_)))))
        obtain rfl : i = m.length := by omega
        refine c_region (o_move rfl rfl (o_move rfl rfl (o_len rfl rfl (r_lenW Try.underlying39 v17) ?_)))
        obtain ⟨a98, p98, q98⟩ := r_ixW Try.underlying39 pK.wds (i := m.length) (by omega) .i64
        refine o_indexAddr rfl rfl rfl (p98 _) (o_load rfl rfl (r_load1 Try.underlying88 rfl q98) (o_move rfl rfl (o_conv rfl rfl (r_u64_u32 Try.underlying69 Try.underlying88) ?_)))
        refine o_bin rfl rfl rfl (r_add_u32) ?_
        obtain ⟨w103, p103, s103, pK', q103, c103⟩ := pK.setP Try.underlying39 (i := m.length) (by omega) (K[m.length]'(by omega) + d.toUInt32)
        refine o_indexAddr rfl rfl rfl (p103 _) (o_store rfl rfl (s103) (o_nil (n_then (c_seq (c_region (o_move rfl rfl (o_bin (v := U64 1) rfl rfl rfl (r_sub_u64) (o_conv rfl rfl (r_u64_u32 Try.underlying69 Try.underlying88) ?_))))))))
        refine o_assign rfl rfl (o_nil (n_then (c_ret (r_body1 rfl rfl ?_))))
        have rb := red_back (q := q.toNat) hL hNl hK hd hKi hinv2 tp.1 h1
        exact ⟨_, rfl, (q - 1).toUInt32, _, rfl, q17.trans q103, pK', by simpa using hK, by
          have e : (q - 1).toUInt32.toNat = q.toNat - 1 := by
            have h0 := rb.1
            rw [n_32, n_sub]
            show (18446744073709551616 - 1 + q.toNat) % 18446744073709551616 % _ = _
            omega
          rw [e]; exact rb.2.1, rb.2.2⟩
end Go.Rl
/- Walk of package natural: DivMod. Conditions: the divisor is not 0; the numbers are shorter than 2^39 limbs. -/
namespace Go.Rl
open Go.RowKit Go.Proofs
theorem call_NDivMod : Callable Try.prog 74 := ⟨_, Try.func74, by kernel_rfl, rfl⟩
theorem val_drop0 {U : List UInt32} {i j V : Nat} (h : val U < 4294967296 ^ (i + 1) * V) (hV : V < 4294967296 ^ j) (hi : i + j + 1 ≤ U.length) : val (U.drop (i + j + 1)) = 0 := by
  rw [val_split U (i + j + 1) hi] at h
  rcases Nat.eq_zero_or_pos (val (U.drop (i + j + 1))) with h0 | h0
  · exact h0
  · have a : 4294967296 ^ (i + 1) * V ≤ 4294967296 ^ (i + 1) * 4294967296 ^ j := Nat.mul_le_mul_left _ (Nat.le_of_lt hV)
    rw [← Nat.pow_add, show i + 1 + j = i + j + 1 by omega] at a
    have b : 4294967296 ^ (i + j + 1) * 1 ≤ 4294967296 ^ (i + j + 1) * val (U.drop (i + j + 1)) := Nat.mul_le_mul_left _ h0
    omega
theorem val_part {U : List UInt32} {i n : Nat} (h : i + n ≤ U.length) (h0 : val (U.drop (i + n)) = 0) : val U = val (U.take i) + 4294967296 ^ i * val ((U.take (i + n)).drop i) := by
  have h1 := val_split U (i + n) h
  rw [h0, Nat.mul_zero, Nat.add_zero] at h1
  have h2 := val_split (U.take (i + n)) i (by simp; omega)
  rw [List.take_take, Nat.min_eq_left (by omega)] at h2
  rw [h1, h2]
theorem val_joined {U F : List UInt32} {i n : Nat} (h : i + n ≤ U.length) (h0 : val (U.drop (i + n)) = 0) : val (U.take i ++ F ++ U.drop (i + n)) = val (U.take i) + 4294967296 ^ i * val F := by
  rw [val_append, val_append, h0, List.length_take, Nat.min_eq_left (by omega)]; simp
theorem NDivMod_spec {w : World} {l m : List UInt32} {v u : Value} (hv : Wds l v w) (hu : Wds m u w) (hl : l.length ≤ 549755813888) (hml : m.length ≤ 549755813888) (hm : 0 < val m) :
    Calls Try.prog 74 #[v, u] w (Ret fun r w' => Ext w w' ∧ ∃ q s, r = .tuple #[q, s, I 0] ∧ Wds (lb (val l / val m)) q w' ∧ Wds (lb (val l % val m)) s w') := by
  refine enter (vs := [v, u]) Try.func74 rfl rfl rfl ?_
  have hll := lb_lt (val_lt l)
  have hmm := lb_lt (val_lt m)
  have hM0 : 0 < (lb (val m)).length := by
    rcases Nat.eq_zero_or_pos (lb (val m)).length with h | h
    · have := lb_len0.1 h
      omega
    · exact h
  refine c_seq (c_region (o_assign rfl rfl (o_assign rfl rfl (o_assign rfl rfl (o_nil (n_then (c_seq (c_region (o_move rfl rfl (o_call call_trim rfl rfl (trim_spec hv) ?_))))))))))
  rintro v18 _ ⟨rfl, b18⟩
  refine o_move rfl rfl (o_call call_trim rfl rfl (trim_spec hu) ?_)
  rintro v20 _ ⟨rfl, b20⟩
  refine o_assign rfl rfl (o_assign rfl rfl (o_nil (n_then (c_seq (c_block (c_seq (c_region (o_move rfl rfl (o_len (r := I ((lb (val m)).length : Int)) rfl rfl (r_lenW Try.underlying39 b20) ?_)))))))))
  refine o_bin rfl rfl rfl (dec_f (by omega) r_eql_i) (o_assign rfl rfl (o_nil (n_then (c_no rfl (c_seq (c_region (o_move rfl rfl (o_move rfl rfl (o_call call_NCmp rfl rfl ((by have := NCmp_spec b18 b20; rw [val_lb, val_lb] at this; exact this)) ?_)))))))))
  rintro v28 w28 ⟨x28, rfl⟩
  refine o_bin rfl rfl rfl (r_lss_i) (o_assign rfl rfl (o_nil (n_then ?_)))
  refine c_if rfl (fun h25 => ?_) (fun h25 => ?_)
  · have hlt := cmpN_neg.1 h25
    refine c_seq (c_region (o_move rfl rfl (o_call call_NMake rfl rfl ((by have := NMake_spec (b18.ext x28) (by omega); rw [val_lb] at this; exact this)) ?_)))
    rintro v31 w31 ⟨x31, b31⟩
    refine o_assign rfl rfl (o_assign rfl rfl (o_assign rfl rfl (o_nil (n_then (c_ret (r_block (r_then (r_body3 rfl rfl rfl rfl ?_))))))))
    exact ⟨_, rfl, (x28.trans x31), _, _, rfl, by rw [Nat.div_eq_of_lt hlt]; exact Wds.nil _, by rw [Nat.mod_eq_of_lt hlt]; exact b31⟩
  · have hge : val m ≤ val l := Nat.le_of_not_lt fun h => h25 (cmpN_neg.2 h)
    have hlen : (lb (val m)).length ≤ (lb (val l)).length := Nat.le_of_not_lt fun h => by have := len_lt h; omega
    refine c_seq (c_region (o_move rfl rfl (o_len (r := I ((lb (val m)).length : Int)) rfl rfl (r_lenW Try.underlying39 (b20.ext x28)) (o_bin rfl rfl rfl (r_eql_i) ?_))))
    refine o_assign rfl rfl (o_nil (n_then ?_))
    refine c_if rfl (fun h32 => ?_) (fun h32 => ?_)
    · refine c_seq (c_region (o_move rfl rfl (o_move rfl rfl ?_)))
      have hM1 : val m = ((lb (val m))[0]'(by omega)).toNat := by
        have e := val_drop (l := lb (val m)) (i := 0) (by omega)
        rw [List.drop_zero, val_lb, List.drop_of_length_le (by omega)] at e
        simpa [val] using e
      obtain ⟨a39, p39, q39⟩ := r_ixW Try.underlying39 (b20.ext x28) (i := 0) (by omega) .i64
      refine o_indexAddr rfl rfl rfl (p39 _) (o_load rfl rfl (r_load1 Try.underlying88 rfl q39) (o_call call_NShort rfl rfl ((NShort_spec (b18.ext x28) (by omega) (by rw [← hM1]; exact hm))) ?_))
      rintro v41 w41 ⟨x41, q, s, rfl, bq, bs⟩
      refine o_move rfl rfl (o_extract rfl rfl r_ext0 (o_extract rfl rfl r_ext1 (o_assign rfl rfl (o_assign rfl rfl (o_nil (n_then (c_seq (c_region (o_move rfl rfl (o_move rfl rfl (o_assign rfl rfl ?_)))))))))))
      refine o_assign rfl rfl (o_assign rfl rfl (o_nil (n_then (c_ret (r_block (r_then (r_body3 rfl rfl rfl rfl ?_)))))))
      rw [val_lb, ← hM1] at bq bs
      exact ⟨_, rfl, (x28.trans x41), _, _, rfl, bq, bs⟩
    · refine c_skip (n_block (n_then (c_seq ?_)))
      obtain ⟨k, hk⟩ : ∃ k, (lb (val m)).length = k + 2 := ⟨(lb (val m)).length - 2, by omega⟩
      obtain ⟨hs32, hVlen⟩ := norm_len hk
      have htop : (lb (val m))[(lb (val m)).length - 1]'(by omega) = (lb (val m))[k + 1]'(by omega) := by congr 1; omega
      refine c_region (o_move rfl rfl (o_move rfl rfl (o_len (r := I ((lb (val m)).length : Int)) rfl rfl (r_lenW Try.underlying39 (b20.ext x28)) (o_bin (r := I (((lb (val m)).length - 1 : Nat) : Int)) rfl rfl rfl (by have e : (((lb (val m)).length - 1 : Nat) : Int) = ((lb (val m)).length : Int) - 1 := (by omega); rw [e]; exact r_sub_i (by omega) (by omega)) ?_))))
      obtain ⟨a50, p50, q50⟩ := r_ixW Try.underlying39 (b20.ext x28) (i := ((lb (val m)).length - 1 : Nat)) (by omega) .i64
      refine o_indexAddr rfl rfl rfl (p50 _) (o_load rfl rfl (r_load1 Try.underlying88 rfl q50) (o_call call_LZ32 rfl rfl (LZ32_spec) ?_))
      rintro v52 _ ⟨rfl, rfl⟩
      rw [htop]
      obtain ⟨s, hs⟩ : ∃ s, s = 32 - bl ((lb (val m))[k + 1]'(by omega)).toNat := ⟨_, rfl⟩
      rw [← hs] at hs32 hVlen ⊢
      refine o_assign rfl rfl (o_nil (n_then (c_seq (c_region (o_move rfl rfl (o_move rfl rfl (o_call call_NLeft rfl rfl (NLeft_spec (b18.ext x28) (by omega) hs32) ?_)))))))
      rintro v55 w55 ⟨x55, U, oU, hUl, hUv⟩
      refine o_move rfl rfl (o_move rfl rfl (o_call call_NLeft rfl rfl (NLeft_spec (b20.ext (x28.trans x55)) (by omega) hs32) ?_))
      rintro v58 w58 ⟨x58, V, oV, hVl, hVv⟩
      refine o_call call_trim rfl rfl (trim_spec2 oV.wds) ?_
      rintro v59 _ ⟨rfl, b59, ob59⟩
      rw [val_lb] at hUv hVv
      rw [hVv] at b59
      obtain ⟨g, sp, hgb, hgo, pU⟩ := oU.pw (by omega)
      have hV0 : 0 < val m * 2 ^ s := Nat.mul_pos hm (Nat.pow_pos (by omega))
      have hgV : g < w55.heap.size := pU.lt
      have off1 : v59.ownBlock = none ∨ v59.ownBlock ≠ some g := by
        rcases ob59 with h | h
        · exact .inl h
        · exact .inr (by rw [h]; exact oV.off hgV)
      refine o_assign rfl rfl (o_assign rfl rfl (o_nil (n_then (c_seq (c_region (o_move rfl rfl (o_len (r := I ((lb (val l)).length : Int)) rfl rfl (r_lenW Try.underlying39 (b18.ext ((x28.trans x55).trans x58))) ?_)))))))
      refine o_move rfl rfl (o_len (r := I ((lb (val m)).length : Int)) rfl rfl (r_lenW Try.underlying39 (b20.ext ((x28.trans x55).trans x58))) (o_bin (r := I (((lb (val l)).length - (lb (val m)).length : Nat) : Int)) rfl rfl rfl (by have e : (((lb (val l)).length - (lb (val m)).length : Nat) : Int) = ((lb (val l)).length : Int) - ((lb (val m)).length : Int) := (by omega); rw [e]; exact r_sub_i (by omega) (by omega)) ?_))
      refine o_bin (r := I (((((lb (val l)).length - (lb (val m)).length : Nat)) + 1 : Nat) : Int)) rfl rfl rfl (by have e : (((((lb (val l)).length - (lb (val m)).length : Nat)) + 1 : Nat) : Int) = (((lb (val l)).length - (lb (val m)).length : Nat) : Int) + 1 := (by omega); rw [e]; exact r_add_i (by omega) (by omega)) ?_
      obtain ⟨v66, w66, hr66, x66, o66, ob66⟩ := r_mkW Try.underlying39 (w := w58) w58.heap.size (n := (lb (val l)).length - (lb (val m)).length + 1) (by omega) (Nat.le_refl _)
      refine o_makeSlice rfl rfl rfl hr66 (o_assign rfl rfl (o_nil (n_then (c_seq (c_seq (c_region (o_move rfl rfl (o_len (r := I (((lb (val l)).length - (lb (val m)).length + 1 : Nat) : Int)) rfl rfl ((by simpa using r_lenW Try.underlying39 o66.wds)) ?_))))))))
      refine o_bin rfl rfl rfl (r_sub_i (by omega) (by omega)) (o_assign rfl rfl (o_nil (n_then (c_block ?_))))
      refine c_loop3 (fun (j : Nat) (X : List UInt32) (O : List UInt32) => [(9, I (s : Int)), (10, v55), (11, v59), (12, v66), (13, I ((j : Int) - 1))]) (fun (j : Nat) (X : List UInt32) (O : List UInt32) w' => Ext w w' ∧ PW g [] X sp v55 w' ∧ OwnW w58.heap.size O v66 w' ∧ Wds (lb (val m * 2 ^ s)) v59 w' ∧ X.length = (lb (val l)).length + 1 ∧ O.length = (lb (val l)).length - (lb (val m)).length + 1 ∧ j ≤ O.length ∧ val l * 2 ^ s = val (O.drop j) * 4294967296 ^ j * (val m * 2 ^ s) + val X ∧ val X < 4294967296 ^ j * (val m * 2 ^ s)) (fun (j : Nat) (X : List UInt32) (O : List UInt32) => j) ((lb (val l)).length - (lb (val m)).length + 1) (U) (List.replicate ((lb (val l)).length - (lb (val m)).length + 1) 0) ⟨rfl, rfl, rfl, rfl, rfl, trivial⟩ ⟨(((x28.trans x55).trans x58).trans x66), (pU.ext x58).ext x66, o66, b59.ext x66, hUl, by simp, by simp, by rw [List.drop_of_length_le (by simp)]; simp [val, hUv], by
          have h1 := val_lt (lb (val l))
          have h2 := lb_ge hm
          rw [val_lb] at h1
          rw [hUv, ← Nat.mul_assoc]
          refine Nat.mul_lt_mul_of_pos_right ?_ (Nat.pow_pos (by omega))
          have h3 : 4294967296 ^ (lb (val l)).length = 4294967296 ^ ((lb (val l)).length - (lb (val m)).length + 1) * 4294967296 ^ ((lb (val m)).length - 1) := by
            rw [← Nat.pow_add, show (lb (val l)).length - (lb (val m)).length + 1 + ((lb (val m)).length - 1) = (lb (val l)).length by omega]
          rw [h3] at h1
          exact Nat.lt_of_lt_of_le h1 (Nat.mul_le_mul_left _ h2)⟩ ?_
      rintro j X O w13 ⟨e13, pX, oO, f13, hXl, hOl, hj, hA, hX⟩
      refine c_seq (c_seq (c_region (o_move rfl rfl (o_bin rfl rfl rfl (r_geq_i) (o_nil (n_then ?_))))))
      refine c_if rfl (fun h71 => ?_) (fun h71 => ?_)
      · obtain ⟨i, rfl⟩ : ∃ i, j = i + 1 := ⟨j - 1, by omega⟩
        have e : ((i + 1 : Nat) : Int) - 1 = (i : Int) := by omega
        rw [e]
        have hz := val_drop0 hX (by have := val_lt (lb (val m * 2 ^ s)); rwa [val_lb, hVlen] at this) (j := k + 2) (by omega)
        have hXp := val_part (U := X) (i := i) (n := k + 3) (by omega) hz
        refine c_skip (n_then (c_seq (c_block (c_seq (c_region (o_move rfl rfl (o_move rfl rfl (o_move rfl rfl (o_move rfl rfl (o_len (r := I ((k + 2 : Nat) : Int)) rfl rfl ((by rw [← hVlen]; exact r_lenW Try.underlying39 f13)) ?_))))))))))
        refine o_bin (r := I ((i + (k + 2 : Nat) : Nat) : Int)) rfl rfl rfl (by have e : ((i + (k + 2 : Nat) : Nat) : Int) = (i : Int) + ((k + 2 : Nat) : Int) := (by omega); rw [e]; exact r_add_i (by omega) (by omega)) ?_
        refine o_bin (r := I ((((i + (k + 2 : Nat) : Nat)) + 1 : Nat) : Int)) rfl rfl rfl (by have e : ((((i + (k + 2 : Nat) : Nat)) + 1 : Nat) : Int) = ((i + (k + 2 : Nat) : Nat) : Int) + 1 := (by omega); rw [e]; exact r_add_i (by omega) (by omega)) ?_
        obtain ⟨v81, p81, pP⟩ := r_slPW Try.underlying39 pX (lo := i) (hi := i + (k + 2) + 1) (by omega) (by omega) .i64 .i64
        refine o_slice rfl rfl rfl rfl rfl (p81 _) ?_
        have hPl : ((X.take (i + (k + 2) + 1)).drop i).length = k + 3 := by simp; omega
        refine o_assign rfl rfl (o_nil (n_then (c_region (o_move rfl rfl (o_move rfl rfl (o_move rfl rfl (o_move rfl rfl (o_move rfl rfl (o_move rfl rfl (o_call call_NEst rfl rfl (NEst_spec pP.wds f13 hVlen hPl (by omega) (lb_last (by omega)) (by
  rw [val_lb]
  have h1 : 4294967296 ^ i * val ((X.take (i + (k + 3))).drop i) ≤ val X := by rw [hXp]; omega
  rw [Nat.pow_succ, Nat.mul_assoc] at hX
  exact Nat.lt_of_mul_lt_mul_left (Nat.lt_of_le_of_lt h1 hX))) ?_))))))))))
        rintro v88 w88 ⟨x88, q, rfl, hqB, hq1, hq2⟩
        refine o_call call_NRed rfl rfl (NRed_spec (pP.ext x88) (f13.ext x88) off1 (by rw [hPl, hVlen]) (by omega) hqB hq1 hq2) ?_
        rintro v89 w89 ⟨x, F, rfl, q89, pF, hFl, hFv, hFr⟩
        have x89 := (e13.trans x88).of_new q89 (by have := x28.size; omega)
        have o89 := (oO.ext x88).kept q89 (.inr (oO.off (by have := x58.size; omega)))
        have p89 := pX.join (by omega) (by omega) (by rw [hFl, hPl]; omega) pF
        have f89 := (f13.ext x88).away off1 q89
        obtain ⟨g90, w90, p90, s90, o90, q90, hb90, c90, ob90⟩ := o89.setW Try.underlying39 (i := i) (by omega) x
        refine o_indexAddr rfl rfl rfl (p90 _) (o_store rfl rfl (s90) ?_)
        have x90 := x89.of_new q90 (by have := x28.size; have := x55.size; have := x58.size; omega)
        have p90' := p89.kept q90 (fun h => by have := Option.some.inj h; have := x58.size; omega)
        have f90 := f89.away (by
          rcases ob59 with h | h
          · exact .inl h
          · refine .inr fun he => ?_
            rw [h] at he
            have := oV.lt g90 he
            omega) q90
        have hj' := val_joined (U := X) (F := F) (i := i) (n := k + 3) (by omega) hz
        rw [val_lb] at hFv hFr
        have dr := div_round (A := val l * 2 ^ s) (P := 4294967296 ^ i) (Q := val (O.drop (i + 1))) (V := val m * 2 ^ s) hXp (by have := val_lt (X.take i); rwa [List.length_take, Nat.min_eq_left (by omega)] at this) (by rw [← Nat.pow_succ]; exact hA) hFv hFr
        rw [← hj', ← val_set_drop (by omega)] at dr
        refine o_nil (n_block (n_then (c_region (o_move rfl rfl (o_bin rfl rfl rfl (r_sub_i (by omega) (by omega)) (o_assign rfl rfl (o_nil ?_)))))))
        refine n_round3 (i) (_) (_) ⟨rfl, rfl, rfl, rfl, rfl, trivial⟩ ⟨x90, p90', o90, f90, by simp [hFl, hPl, hXl]; omega, by simpa using hOl, by simp; omega, dr.1, dr.2⟩ (by omega)
      · refine c_exit (x_then (x_then (x_here (n_then (c_seq ?_)))))
        obtain rfl : j = 0 := by omega
        rw [Nat.pow_zero, Nat.mul_one, List.drop_zero] at hA
        rw [Nat.pow_zero, Nat.one_mul] at hX
        have hs0 : 0 < 2 ^ s := Nat.pow_pos (by omega)
        have hQ : val l / val m = val O := by
          rw [← Nat.mul_div_mul_right _ _ hs0, hA, Nat.mul_comm (val O), Nat.mul_add_div hV0, Nat.div_eq_of_lt hX, Nat.add_zero]
        have hR : val X / 2 ^ s = val l % val m := by
          have e1 : val X = val l * 2 ^ s % (val m * 2 ^ s) := by rw [hA, Nat.mul_comm (val O), Nat.mul_add_mod, Nat.mod_eq_of_lt hX]
          rw [e1, Nat.mul_mod_mul_right, Nat.mul_div_cancel _ hs0]
        refine c_region (o_move rfl rfl (o_move rfl rfl (o_call call_NShr rfl rfl (NShr_spec pX.wds (by omega) (by omega)) ?_)))
        rintro v94 w94 ⟨x94, r94, rfl, b94⟩
        refine o_move rfl rfl (o_extract rfl rfl r_ext0 (o_extract rfl rfl r_ext1 (o_assign rfl rfl (o_assign rfl rfl (o_nil (n_then (c_seq (c_region (o_move rfl rfl (o_call call_trim rfl rfl (trim_spec ((oO.ext x94).wds)) ?_))))))))))
        rintro v98 _ ⟨rfl, b98⟩
        refine o_move rfl rfl (o_assign rfl rfl (o_assign rfl rfl (o_assign rfl rfl (o_nil (n_then (c_ret (r_body3 rfl rfl rfl rfl ?_)))))))
        exact ⟨_, rfl, (e13.trans x94), _, _, rfl, by rw [hQ]; exact b98, by rw [← hR]; exact b94⟩
end Go.Rl
/- Walks of relucertref01.DivMod and Gcd, and of natural.Gcd. Conditions: the divisor is not 0; the numbers are shorter than 2^38 limbs. -/
namespace Go.Rl
open Go.RowKit Go.Proofs
theorem call_NGcd : Callable Try.prog 73 := ⟨_, Try.func73, by kernel_rfl, rfl⟩
theorem lb_len_lt {n m : Nat} (h : n ≤ m) : (lb n).length ≤ (lb m).length := by
  rcases Nat.lt_or_ge (lb m).length (lb n).length with h1 | h1
  · have := len_lt h1; omega
  · exact h1
theorem shl_zero {v t i : Nat} (h : v = 2 ^ (i + 1) * t) : v = 2 ^ i * (2 * t) := by rw [h, Nat.pow_succ, Nat.mul_assoc]
theorem NGcd_spec {w : World} {l m : List UInt32} {v u : Value} (hv : Wds l v w) (hu : Wds m u w) (hl : l.length ≤ 274877906944) (hml : m.length ≤ 274877906944) :
    Calls Try.prog 73 #[v, u] w (Ret fun r w' => Ext w w' ∧ Wds (lb (Nat.gcd (val l) (val m))) r w') := by
  refine enter (vs := [v, u]) Try.func73 rfl rfl rfl ?_
  have hll := lb_lt (val_lt l)
  have hmm := lb_lt (val_lt m)
  refine c_seq (c_region (o_assign rfl rfl (o_nil (n_then (c_seq (c_region (o_move rfl rfl (o_call call_trim rfl rfl (trim_spec hv) ?_))))))))
  rintro v16 _ ⟨rfl, b16⟩
  refine o_move rfl rfl (o_call call_trim rfl rfl (trim_spec hu) ?_)
  rintro v18 _ ⟨rfl, b18⟩
  refine o_assign rfl rfl (o_assign rfl rfl (o_nil (n_then (c_seq (c_block ?_)))))
  refine c_loop4 (fun (a : Nat) (b : Nat) (va : Value) (vb : Value) => [(0, va), (1, vb)]) (fun (a : Nat) (b : Nat) (va : Value) (vb : Value) w' => Ext w w' ∧ Wds (lb a) va w' ∧ Wds (lb b) vb w' ∧ Nat.gcd a b = Nat.gcd (val l) (val m) ∧ (lb a).length ≤ 274877906944 ∧ (lb b).length ≤ 274877906944) (fun (a : Nat) (b : Nat) (va : Value) (vb : Value) => b) (val l) (val m) (v16) (v18) ⟨rfl, rfl, trivial⟩ ⟨Ext.refl _, b16, b18, rfl, by omega, by omega⟩ ?_
  rintro a b va vb w2 ⟨e2, ha, hb, hg, hla, hlb⟩
  refine c_seq (c_seq (c_region (o_move rfl rfl (o_len (r := I ((lb b).length : Int)) rfl rfl (r_lenW Try.underlying39 hb) (o_bin rfl rfl rfl (r_gtr_i) ?_)))))
  refine o_nil (n_then ?_)
  refine c_if rfl (fun h21 => ?_) (fun h21 => ?_)
  · have hb0 : 0 < b := by
      rcases Nat.eq_zero_or_pos b with h | h
      · subst h; simp [lb_zero] at h21
      · exact h
    refine c_skip (n_then (c_block (c_seq (c_region (o_move rfl rfl (o_move rfl rfl (o_call call_NDivMod rfl rfl (NDivMod_spec ha hb (by omega) (by omega) (by rw [val_lb]; exact hb0)) ?_)))))))
    rintro v25 w25 ⟨x25, q, r, rfl, bq, br⟩
    rw [val_lb, val_lb] at br
    refine o_move rfl rfl (o_extract rfl rfl r_ext3_0 (o_extract rfl rfl (r_ext3_1) (o_extract rfl rfl r_ext3_2 (o_assign rfl rfl (o_assign rfl rfl (o_assign rfl rfl (o_nil (n_then ?_))))))))
    refine c_region (o_move rfl rfl (o_move rfl rfl (o_assign rfl rfl (o_assign rfl rfl (o_nil (n_block ?_))))))
    refine n_round4 (b) (a % b) (vb) (r) ⟨rfl, rfl, trivial⟩ ⟨(e2.trans x25), hb.ext x25, br, by rw [← hg, Nat.gcd_comm b, ← Nat.gcd_rec, Nat.gcd_comm], hlb, Nat.le_trans (lb_len_lt (Nat.le_of_lt (Nat.mod_lt a hb0))) hlb⟩ (Nat.mod_lt a hb0)
  · refine c_exit (x_then (x_then (x_here (n_then (c_seq (c_seq (c_region (o_move rfl rfl (o_len (r := I ((lb b).length : Int)) rfl rfl (r_lenW Try.underlying39 hb) ?_)))))))))
    refine o_bin rfl rfl rfl (r_eql_i) (o_nil (n_then ?_))
    refine c_if rfl (fun h33 => ?_) (fun h33 => ?_)
    · have hb0 : b = 0 := by
        refine lb_len0.1 ?_
        omega
      refine c_seq (c_region (o_move rfl rfl (o_call call_NMake rfl rfl (NMake_spec ha (by omega)) ?_)))
      rintro v35 w35 ⟨x35, b35⟩
      refine o_assign rfl rfl (o_nil (n_then (c_ret (r_then (r_body1 rfl rfl ?_)))))
      exact ⟨_, rfl, (e2.trans x35), by
        rw [val_lb] at b35
        rw [← hg, hb0, Nat.gcd_zero_right]; exact b35⟩
    · have hb0 : 0 < b := by
        rcases Nat.eq_zero_or_pos b with h | h
        · subst h; simp [lb_zero] at h33
        · exact h
      have hb64 : b < 18446744073709551616 := by
        have := val_lt (lb b)
        rw [val_lb] at this
        have h2 : (4294967296 : Nat) ^ (lb b).length ≤ 4294967296 ^ 2 := Nat.pow_le_pow_right (by omega) (by omega)
        omega
      refine c_skip (n_then (c_seq (c_region (o_move rfl rfl (o_move rfl rfl (o_call call_NDivMod rfl rfl (NDivMod_spec ha hb (by omega) (by omega) (by rw [val_lb]; exact hb0)) ?_))))))
      rintro v39 w39 ⟨x39, q, r, rfl, bq, br⟩
      rw [val_lb, val_lb] at br
      refine o_move rfl rfl (o_extract rfl rfl r_ext3_0 (o_extract rfl rfl (r_ext3_1) (o_extract rfl rfl r_ext3_2 (o_assign rfl rfl (o_assign rfl rfl (o_assign rfl rfl (o_nil (n_then ?_))))))))
      refine c_seq (c_region (o_move rfl rfl (o_call call_NUint rfl rfl (NUint_spec (hb.ext x39)) ?_)))
      rintro v45 _ ⟨rfl, hcx⟩
      obtain ⟨x, hx, rfl⟩ : ∃ x : UInt64, x.toNat = b ∧ v45 = .tuple #[U64 x, B true] := by
        rw [val_lb] at hcx
        rcases hcx with ⟨h, _⟩ | h
        · omega
        · exact h
      refine o_move rfl rfl (o_extract rfl rfl r_ext0 (o_extract rfl rfl r_ext1 (o_assign rfl rfl (o_assign rfl rfl (o_nil (n_then (c_seq (c_region (o_move rfl rfl (o_call call_NUint rfl rfl (NUint_spec br) ?_))))))))))
      rintro v50 _ ⟨rfl, hcy⟩
      obtain ⟨y, hy, rfl⟩ : ∃ y : UInt64, y.toNat = a % b ∧ v50 = .tuple #[U64 y, B true] := by
        have := Nat.mod_lt a hb0
        rw [val_lb] at hcy
        rcases hcy with ⟨h, _⟩ | h
        · omega
        · exact h
      refine o_move rfl rfl (o_extract rfl rfl r_ext0 (o_extract rfl rfl r_ext1 (o_assign rfl rfl (o_assign rfl rfl (o_nil (n_then (c_seq (c_block ?_))))))))
      refine c_loop2 (fun (x' : UInt64) (y' : UInt64) => [(11, U64 x'), (13, U64 y')]) (fun (x' : UInt64) (y' : UInt64) w' => Ext w w' ∧ Nat.gcd x'.toNat y'.toNat = Nat.gcd (val l) (val m)) (fun (x' : UInt64) (y' : UInt64) => y'.toNat) (x) (y) ⟨rfl, rfl, trivial⟩ ⟨(e2.trans x39), by rw [hx, hy, ← hg, Nat.gcd_comm b, ← Nat.gcd_rec, Nat.gcd_comm]⟩ ?_
      rintro x' y' w10 ⟨e10, hxy⟩
      refine c_seq (c_seq (c_region (o_move rfl rfl (o_bin (v := U64 0) rfl rfl rfl (r_gtr_u64) (o_nil (n_then ?_))))))
      refine c_if rfl (fun h54 => ?_) (fun h54 => ?_)
      · have hy0 : 0 < y'.toNat := gt64.1 h54
        have hyn : y' ≠ 0 := fun h => by
          rw [h] at hy0
          exact absurd hy0 (by decide)
        refine c_skip (n_then (c_block (c_grow 5 [11, 58] (by kernel_rfl) (by kernel_rfl) ?_)))
        refine f_move rfl rfl (f_move rfl rfl (f_move rfl rfl (f_bin rfl rfl rfl (fun w _ => r_rem_u64 hyn) (f_assign rfl rfl (f_nil ?_)))))
        intro wg11 xg11
        rintro _ rfl
        rintro _ rfl
        refine o_assign rfl rfl (o_nil (n_block ?_))
        refine n_round2 (y') (x' % y') ⟨rfl, rfl, trivial⟩ ⟨(e10.trans xg11), by rw [UInt64.toNat_mod, ← hxy, Nat.gcd_comm y'.toNat, ← Nat.gcd_rec, Nat.gcd_comm]⟩ (by rw [UInt64.toNat_mod]; exact Nat.mod_lt _ hy0)
      · have hy0 : y'.toNat = 0 := by
          have := mt gt64.2 h54
          have e : (0 : UInt64).toNat = 0 := rfl
          omega
        refine c_exit (x_then (x_then (x_here (n_then (c_seq (c_region (o_move rfl rfl (o_call call_NOf rfl rfl (NOf_spec) ?_))))))))
        rintro v60 w60 ⟨x60, b60⟩
        refine o_assign rfl rfl (o_nil (n_then (c_ret (r_body1 rfl rfl ?_))))
        exact ⟨_, rfl, (e10.trans x60), by rw [← hxy, hy0, Nat.gcd_zero_right]; exact b60⟩
end Go.Rl
/- The encoding of numbers with continuation bits, in plain words. No condition. -/
namespace Go.Rl

def uvF : Nat → Nat → List UInt8
  | 0, n => [UInt8.ofNat n]
  | f + 1, n => if 128 ≤ n then UInt8.ofNat (n % 128 + 128) :: uvF f (n / 128) else [UInt8.ofNat n]
def uv (n : Nat) : List UInt8 := uvF n n

theorem uvF_eq : ∀ (f g n : Nat), n ≤ f → n ≤ g → uvF f n = uvF g n
  | 0, 0, n, _, _ => rfl
  | 0, g + 1, n, h, _ => by
    obtain rfl : n = 0 := by omega
    simp [uvF]
  | f + 1, 0, n, _, h => by
    obtain rfl : n = 0 := by omega
    simp [uvF]
  | f + 1, g + 1, n, hf, hg => by
    simp only [uvF]
    by_cases h : 128 ≤ n
    · rw [if_pos h, if_pos h, uvF_eq f g (n / 128) (by omega) (by omega)]
    · rw [if_neg h, if_neg h]
theorem uv_big {n : Nat} (h : 128 ≤ n) : uv n = UInt8.ofNat (n % 128 + 128) :: uv (n / 128) := by
  unfold uv
  cases n with
  | zero => omega
  | succ m =>
    have e : uvF (m + 1) (m + 1) = if 128 ≤ m + 1 then UInt8.ofNat ((m + 1) % 128 + 128) :: uvF m ((m + 1) / 128) else [UInt8.ofNat (m + 1)] := rfl
    rw [e, if_pos h, uvF_eq m ((m + 1) / 128) ((m + 1) / 128) (by omega) (by omega)]
theorem uv_small {n : Nat} (h : n < 128) : uv n = [UInt8.ofNat n] := by
  unfold uv
  cases n with
  | zero => rfl
  | succ m => 
    have e : uvF (m + 1) (m + 1) = if 128 ≤ m + 1 then UInt8.ofNat ((m + 1) % 128 + 128) :: uvF m ((m + 1) / 128) else [UInt8.ofNat (m + 1)] := rfl
    rw [e, if_neg (by omega)]
theorem uv_le : ∀ (k n : Nat), n < 128 ^ (k + 1) → (uv n).length ≤ k + 1
  | 0, n, h => by rw [uv_small (by simpa using h)]; simp
  | k + 1, n, h => by
    by_cases h1 : 128 ≤ n
    · rw [uv_big h1]
      have := uv_le k (n / 128) (by rw [Nat.div_lt_iff_lt_mul (by omega)]; rw [Nat.pow_succ] at h; exact h)
      simp; omega
    · rw [uv_small (by omega)]; simp
theorem uv_len {n : Nat} (h : n < 18446744073709551616) : (uv n).length ≤ 10 := uv_le 9 n (Nat.lt_of_lt_of_le h (by decide))
theorem uv_pos (n : Nat) : 1 ≤ (uv n).length := by
  by_cases h : 128 ≤ n
  · rw [uv_big h]; simp
  · rw [uv_small (by omega)]; simp

/-- the byte with its high bit set -/
theorem high_byte (n : UInt64) : n.toUInt8 ||| 128 = UInt8.ofNat (n.toNat % 128 + 128) := by
  apply UInt8.toNat_inj.1
  have h : ∀ a : Nat, a < 256 → a ||| 128 = a % 128 + 128 := by decide +kernel
  rw [UInt8.toNat_or, UInt8.toNat_ofNat', UInt64.toNat_toUInt8]
  have := h (n.toNat % 256) (by omega)
  show n.toNat % 256 ||| 128 = _
  rw [this]; omega
theorem low_byte (n : UInt64) : n.toUInt8 = UInt8.ofNat n.toNat := by
  apply UInt8.toNat_inj.1
  rw [UInt8.toNat_ofNat', UInt64.toNat_toUInt8]
theorem mod_byte (m : UInt64) : (m % 128 + 128).toUInt8 = UInt8.ofNat (m.toNat % 128 + 128) := by
  apply UInt8.toNat_inj.1
  rw [UInt64.toNat_toUInt8, UInt8.toNat_ofNat', UInt64.toNat_add, UInt64.toNat_mod]
  have e1 : (128 : UInt64).toNat = 128 := rfl
  rw [e1]; omega
theorem shr7 (n : UInt64) : (n >>> UInt64.ofNat 7).toNat = n.toNat / 128 := by
  rw [UInt64.toNat_shiftRight, Nat.shiftRight_eq_div_pow]
  rfl
end Go.Rl
/- Reading numbers with continuation bits, in plain words: the encoding is read back, and what is read is the only encoding. No condition. -/
namespace Go.Rl

/-- Reads from the k-th byte on. -/
def rdUk : Nat → Nat → List UInt8 → Option (Nat × List UInt8)
  | 0, _, _ => none
  | _ + 1, _, [] => none
  | f + 1, k, c :: l =>
    if (k = 9 ∧ 1 < c.toNat) ∨ (0 < k ∧ c.toNat = 0) then none
    else if c.toNat < 128 then some (c.toNat * 128 ^ k, l)
    else (rdUk f (k + 1) l).map fun p => (p.1 + (c.toNat % 128) * 128 ^ k, p.2)
def rdU (l : List UInt8) : Option (Nat × List UInt8) := rdUk 10 0 l

theorem rdUk_nil (f k : Nat) : rdUk f k [] = none := by cases f <;> rfl

theorem byte_toNat (n : Nat) (h : n < 256) : (UInt8.ofNat n).toNat = n := by rw [UInt8.toNat_ofNat']; omega

/-- The encoding is read back. -/
theorem rdUk_uv : ∀ (f k n : Nat) (t : List UInt8), f + k = 10 → n < 128 ^ f → (k ≤ 9 → n * 128 ^ k < 18446744073709551616) → 0 < f → (0 < k → 0 < n) →
    rdUk f k (uv n ++ t) = some (n * 128 ^ k, t)
  | 0, _, _, _, _, _, _, h, _ => by omega
  | f + 1, k, n, t, hfk, hn, h64, _, hk0 => by
    by_cases hb : 128 ≤ n
    · rw [uv_big hb, List.cons_append]
      have e1 : (UInt8.ofNat (n % 128 + 128)).toNat = n % 128 + 128 := byte_toNat _ (by omega)
      have hk9 : k ≠ 9 := fun hk => by
        subst hk
        have : f = 0 := by omega
        subst this
        simp at hn
        omega
      have hf : 0 < f := by omega
      simp only [rdUk, e1]
      rw [if_neg (by omega), if_neg (by omega)]
      have hlt : n / 128 < 128 ^ f := by rw [Nat.div_lt_iff_lt_mul (by omega)]; rw [Nat.pow_succ] at hn; exact hn
      have hp : 128 ^ (k + 1) = 128 ^ k * 128 := Nat.pow_succ ..
      have hm : n / 128 * 128 ≤ n := Nat.div_mul_le_self n 128
      have hle : n / 128 * 128 ^ (k + 1) ≤ n * 128 ^ k := by
        rw [hp, Nat.mul_comm (128 ^ k) 128, ← Nat.mul_assoc]
        exact Nat.mul_le_mul_right _ hm
      rw [rdUk_uv f (k + 1) (n / 128) t (by omega) hlt (fun _ => Nat.lt_of_le_of_lt hle (h64 (by omega))) hf (fun _ => by omega)]
      simp only [Option.map_some, Option.some.injEq, Prod.mk.injEq, and_true]
      have e2 : (n % 128 + 128) % 128 = n % 128 := by omega
      rw [e2, hp, Nat.mul_comm (128 ^ k) 128, ← Nat.mul_assoc, ← Nat.add_mul]
      congr 1
      omega
    · rw [uv_small (by omega), List.cons_append]
      have e1 : (UInt8.ofNat n).toNat = n := byte_toNat _ (by omega)
      simp only [rdUk, e1, List.nil_append]
      have hk9 : ¬ (k = 9 ∧ 1 < n) := fun ⟨hk, hn1⟩ => by
        subst hk
        have := h64 (by omega)
        have e : (128 : Nat) ^ 9 = 9223372036854775808 := by decide
        rw [e] at this
        omega
      rw [if_neg (by intro h; rcases h with h | h; exact hk9 h; have := hk0 h.1; omega), if_pos (by omega)]
theorem rdU_uv {n : Nat} (h : n < 18446744073709551616) (t : List UInt8) : rdU (uv n ++ t) = some (n, t) := by
  have := rdUk_uv 10 0 n t rfl (Nat.lt_of_lt_of_le h (by decide)) (by simpa using h) (by omega) (by omega)
  simpa [rdU] using this

/-- What is read is the only encoding. -/
theorem rdUk_inv : ∀ (f k : Nat) (l t : List UInt8) (m : Nat), f + k = 10 → rdUk f k l = some (m, t) → ∃ n, m = n * 128 ^ k ∧ l = uv n ++ t ∧ (0 < k → 0 < n) ∧ n * 128 ^ k < 18446744073709551616
  | 0, _, _, _, _, _, h => by cases h
  | f + 1, k, [], _, _, _, h => by cases h
  | f + 1, k, c :: l, t, m, hfk, h => by
    simp only [rdUk] at h
    have hc := c.toNat_lt
    split at h
    · cases h
    · rename_i hno
      split at h
      · rename_i hlt
        simp only [Option.some.injEq, Prod.mk.injEq] at h
        refine ⟨c.toNat, h.1.symm, ?_, fun hk => by omega, ?_⟩
        · rw [uv_small hlt, ← h.2]
          simp
        · have hk : k ≤ 9 := by omega
          rcases Nat.lt_or_ge k 9 with h9 | h9
          · have : c.toNat * 128 ^ k ≤ 127 * 128 ^ 8 := Nat.mul_le_mul (by omega) (Nat.pow_le_pow_right (by omega) (by omega))
            have e : 127 * 128 ^ 8 < 18446744073709551616 := by decide
            omega
          · have : k = 9 := by omega
            subst this
            have e : (128 : Nat) ^ 9 = 9223372036854775808 := by decide
            rw [e]; omega
      · rename_i hge
        cases hr : rdUk f (k + 1) l with
        | none => rw [hr] at h; cases h
        | some p =>
          rw [hr] at h
          simp only [Option.map_some, Option.some.injEq, Prod.mk.injEq] at h
          obtain ⟨n, h1, h2, h3, h4⟩ := rdUk_inv f (k + 1) l p.2 p.1 (by omega) (by rw [hr])
          have hn : 0 < n := h3 (by omega)
          have hp : 128 ^ (k + 1) = 128 * 128 ^ k := by rw [Nat.pow_succ, Nat.mul_comm]
          have hdiv : (n * 128 + c.toNat % 128) / 128 = n := by omega
          have hmod : (n * 128 + c.toNat % 128) % 128 + 128 = c.toNat := by omega
          refine ⟨n * 128 + c.toNat % 128, ?_, ?_, fun _ => by omega, ?_⟩
          · rw [← h.1, h1, hp, Nat.add_mul, ← Nat.mul_assoc]
          · rw [uv_big (by omega), hdiv, hmod, List.cons_append, ← h.2, ← h2]
            simp
          · have hk : k + 1 ≤ 9 := by
              rcases Nat.lt_or_ge f 1 with hf | hf
              · have : f = 0 := by omega
                subst this
                cases hr
              · omega
            have hb : n * 128 ^ (k + 1) = n * 128 * 128 ^ k := by rw [hp, ← Nat.mul_assoc]
            rw [hb] at h4
            have hdvd : 18446744073709551616 = 128 ^ k * (18446744073709551616 / 128 ^ k) := by
              have : k = 0 ∨ k = 1 ∨ k = 2 ∨ k = 3 ∨ k = 4 ∨ k = 5 ∨ k = 6 ∨ k = 7 ∨ k = 8 := by omega
              rcases this with rfl | rfl | rfl | rfl | rfl | rfl | rfl | rfl | rfl <;> decide
            have hq : 18446744073709551616 / 128 ^ k = 128 * (18446744073709551616 / 128 ^ k / 128) := by
              have : k = 0 ∨ k = 1 ∨ k = 2 ∨ k = 3 ∨ k = 4 ∨ k = 5 ∨ k = 6 ∨ k = 7 ∨ k = 8 := by omega
              rcases this with rfl | rfl | rfl | rfl | rfl | rfl | rfl | rfl | rfl <;> decide
            have hpos : 0 < 128 ^ k := Nat.pow_pos (by omega)
            rw [hdvd, Nat.mul_comm] at h4
            have h5 : n * 128 < 18446744073709551616 / 128 ^ k := Nat.lt_of_mul_lt_mul_left h4
            rw [hdvd, Nat.mul_comm]
            exact Nat.mul_lt_mul_of_pos_left (by omega) hpos
theorem rdU_inv {l t : List UInt8} {n : Nat} (h : rdU l = some (n, t)) : l = uv n ++ t ∧ n < 18446744073709551616 := by
  obtain ⟨m, h1, h2, _, h4⟩ := rdUk_inv 10 0 l t n rfl h
  simp at h1 h4
  subst h1
  exact ⟨h2, h4⟩

/-- One byte more of a number. -/
theorem or_byte {acc : UInt64} {c : UInt8} {k : Nat} (ha : acc.toNat < 128 ^ k) (hk : k ≤ 9) (h9 : k = 9 → c.toNat % 128 ≤ 1) :
    (acc ||| ((c &&& 127).toUInt64 <<< UInt64.ofNat (7 * k))).toNat = acc.toNat + (c.toNat % 128) * 128 ^ k := by
  have hpow : 2 ^ (7 * k) = 128 ^ k := by rw [Nat.pow_mul]
  have e1 : (c &&& 127).toUInt64.toNat = c.toNat % 128 := by
    rw [UInt8.toNat_toUInt64, UInt8.toNat_and]
    exact Nat.and_two_pow_sub_one_eq_mod c.toNat 7
  have hlt : (c.toNat % 128) * 128 ^ k < 18446744073709551616 := by
    rcases Nat.lt_or_ge k 9 with h | h
    · have h1 : (c.toNat % 128) * 128 ^ k ≤ 127 * 128 ^ 8 := Nat.mul_le_mul (by omega) (Nat.pow_le_pow_right (by omega) (by omega))
      have e : 127 * 128 ^ 8 < 18446744073709551616 := by decide
      omega
    · have h' : k = 9 := by omega
      subst h'
      have := h9 rfl
      have e : (128 : Nat) ^ 9 = 9223372036854775808 := by decide
      rw [e]; omega
  have e2 : ((c &&& 127).toUInt64 <<< UInt64.ofNat (7 * k)).toNat = (c.toNat % 128) <<< (7 * k) := by
    rw [UInt64.toNat_shiftLeft, e1]
    have : (UInt64.ofNat (7 * k)).toNat % 64 = 7 * k := by rw [UInt64.toNat_ofNat']; omega
    rw [this, Nat.shiftLeft_eq, hpow]
    exact Nat.mod_eq_of_lt hlt
  rw [UInt64.toNat_or, e2, Nat.or_comm, ← Nat.shiftLeft_add_eq_or_of_lt (by rw [hpow]; exact ha), Nat.shiftLeft_eq, hpow]
  omega
end Go.Rl
/- The folding of an int into a natural number, in plain words. Condition: the int fits in 64 bits. -/
namespace Go.Rl

def zig (n : Int) : Nat := if 0 ≤ n then (2 * n).toNat else (-2 * n - 1).toNat

theorem ofInt_toNat (n : Int) : (UInt64.ofInt n).toNat = (n % 18446744073709551616).toNat := by
  have h2 : (2 : Int) ^ 64 = 18446744073709551616 := by decide
  rw [UInt64.ofInt, h2, UInt64.toNat_ofNat']; omega

theorem zig_prog {n : Int} (h1 : -9223372036854775808 ≤ n) (h2 : n ≤ 9223372036854775807) :
    ((UInt64.ofInt n <<< UInt64.ofNat 1) ^^^ UInt64.ofInt (n / 2 ^ 63)).toNat = zig n := by
  have e0 : (2 : Int) ^ 63 = 9223372036854775808 := by decide
  have es : (UInt64.ofInt n <<< UInt64.ofNat 1).toNat = (UInt64.ofInt n).toNat * 2 % 18446744073709551616 := by
    rw [UInt64.toNat_shiftLeft, Nat.shiftLeft_eq]; rfl
  rw [ofInt_toNat] at es
  unfold zig
  by_cases hn : 0 ≤ n
  · have hq : n / 2 ^ 63 = 0 := by rw [e0]; omega
    have hz : UInt64.ofInt (n / 2 ^ 63) = 0 := by rw [hq]; rfl
    rw [hz, UInt64.xor_zero, es, if_pos hn]; omega
  · have hq : n / 2 ^ 63 = -1 := by rw [e0]; omega
    have hz : UInt64.ofInt (n / 2 ^ 63) = -1 := by rw [hq]; rfl
    rw [hz, if_neg hn]
    have hx : ∀ a : UInt64, a ^^^ (-1) = ~~~a := fun a => by
      apply UInt64.toBitVec_inj.1
      rw [UInt64.toBitVec_xor, UInt64.toBitVec_not]
      have : (-1 : UInt64).toBitVec = BitVec.allOnes 64 := by decide
      rw [this, BitVec.xor_allOnes]
    rw [hx, UInt64.toNat_not, es]
    have : UInt64.size = 18446744073709551616 := rfl
    omega

theorem zig_ref_pos {n : Int} (hn : 0 ≤ n) (h2 : n ≤ 9223372036854775807) : (2 * UInt64.ofInt n).toNat = zig n := by
  rw [UInt64.toNat_mul, ofInt_toNat]
  unfold zig
  rw [if_pos hn]
  have : (2 : UInt64).toNat = 2 := rfl
  rw [this]; omega
theorem zig_ref_neg {n : Int} (h1 : -9223372036854775808 ≤ n) (hn : n < 0) : (2 * UInt64.ofInt (-(n + 1)) + 1).toNat = zig n := by
  rw [UInt64.toNat_add, UInt64.toNat_mul, ofInt_toNat]
  unfold zig
  rw [if_neg (by omega)]
  have e2 : (2 : UInt64).toNat = 2 := rfl
  have e1 : (1 : UInt64).toNat = 1 := rfl
  rw [e1, e2]; omega
theorem zig_lt {n : Int} (h1 : -9223372036854775808 ≤ n) (h2 : n ≤ 9223372036854775807) : zig n < 18446744073709551616 := by
  unfold zig; split <;> omega
end Go.Rl
/- Walks of the appending functions of package wire and of its reference. Conditions: what is appended to is short. -/
namespace Go.Rl
open Go.RowKit Go.Proofs

theorem call_Clone : Callable Try.prog 34 := ⟨_, Try.func34, by kernel_rfl, rfl⟩
theorem call_uvarint : Callable Try.prog 54 := ⟨_, Try.func54, by kernel_rfl, rfl⟩
theorem call_AppendUint : Callable Try.prog 28 := ⟨_, Try.func28, by kernel_rfl, rfl⟩
theorem call_AppendInt : Callable Try.prog 29 := ⟨_, Try.func29, by kernel_rfl, rfl⟩


theorem Clone_spec {w : World} {l : List UInt8} {v : Value} (hv : Bts l v w) (hl : l.length ≤ 140737488355328) :
    Calls Try.prog 34 #[v] w (Ret fun r w' => Ext w w' ∧ OwnB w.heap.size l r w') := by
  obtain ⟨A, n, c, rfl, hnc, hcm, hll, hc, hnone⟩ := id hv
  refine enter (vs := [.slice A n c]) Try.func34 rfl rfl rfl ?_
  refine c_seq (c_region (o_assign rfl rfl (o_nil (n_then (c_seq (c_seq (c_region (o_move rfl rfl ?_))))))))
  refine o_bin rfl rfl rfl (r_eqnil Try.underlying29) ?_
  refine o_nil (n_then ?_)
  refine c_cond rfl (fun h => ?_) (fun h => ?_)
  · refine c_seq (c_region (o_assign rfl rfl (o_nil (n_then (c_ret (r_then ?_))))))
    refine r_body1 rfl rfl ?_
    have hA : A = none := by simpa using h
    have := hnone hA
    have hnil : l = [] := List.eq_nil_of_length_eq_zero (by simp at hll; omega)
    subst hnil
    exact ⟨_, rfl, Ext.refl _, OwnB.nil _ _⟩
  · refine c_skip (n_then (c_seq (c_region ?_)))
    obtain ⟨r5, w5, hr5, hx5, ho5, hb5⟩ := r_bsB (w := w) w.heap.size [] (by simp) (Nat.le_refl _)
    refine o_buildSlice rfl rfl hr5 ?_
    refine o_move rfl rfl ?_
    obtain ⟨r7, w7, hr7, ho7, hg7⟩ := r_appB (ty := 29) ho5 (hv.ext hx5) (by simpa using hl) hx5.size
    refine o_append rfl rfl hr7 ?_
    refine o_assign rfl rfl (o_nil (n_then (c_ret ?_)))
    refine r_body1 rfl rfl ?_
    exact ⟨_, rfl, hx5.of_grew hg7 ho5.ge, ho7⟩

/-- uvarint appends onto a row of its own. -/
theorem uvarint_spec {w : World} {base : Nat} {l : List UInt8} {v : Value} {n : UInt64} (hv : OwnB base l v w) (hl : l.length ≤ 70368744177664) (hbase : base ≤ w.heap.size) :
    Calls Try.prog 54 #[v, U64 n] w (Ret fun r w' => OwnB base (l ++ uv n.toNat) r w' ∧ Grew w w' v r) := by
  refine enter (vs := [v, U64 n]) Try.func54 rfl rfl rfl ?_
  refine c_seq (c_region (o_assign rfl rfl (o_nil (n_then (c_seq (c_block ?_))))))
  refine c_loop (α := Value × UInt64 × List UInt8) (fun x => [(0, x.1), (1, U64 x.2.1)]) (fun x w' => OwnB base x.2.2 x.1 w' ∧ Grew w w' v x.1 ∧ x.2.2 ++ uv x.2.1.toNat = l ++ uv n.toNat) (fun x => x.2.1.toNat) (v, n, l) ⟨rfl, rfl, trivial⟩ ⟨hv, Grew.of_ext (Ext.refl w) (.inl rfl), rfl⟩ ?_
  rintro ⟨b, m, done⟩ w1 ⟨hb, hg, he⟩
  dsimp only at hb hg he
  have hdl : done.length ≤ l.length + 10 := by
    have := congrArg List.length he
    simp only [List.length_append] at this
    have := uv_len (n := n.toNat) n.toNat_lt
    omega
  have hb1 : base ≤ w1.heap.size := Nat.le_trans hbase hg.grown.size
  refine c_seq (c_seq (c_region (o_move rfl rfl ?_)))
  refine o_bin (v := U64 128) rfl rfl rfl (r_geq_u64) ?_
  refine o_nil (n_then ?_)
  refine c_if rfl (fun h => ?_) (fun h => ?_)
  · have h' : 128 ≤ m.toNat := by simpa [UInt64.le_iff_toNat_le] using h
    refine c_skip (n_then (c_seq (c_block (c_region (o_move rfl rfl (o_move rfl rfl ?_))))))
    refine o_conv rfl rfl (r_u64_u8 Try.underlying69 Try.underlying5) ?_
    refine o_bin (v := U8 128) rfl rfl rfl (r_or_u8) ?_
    obtain ⟨r2, w2, hr2, hx2, ho2, _⟩ := r_bsB (w := w1) w1.heap.size [m.toUInt8 ||| 128] (by simp) (Nat.le_refl _)
    refine o_buildSlice rfl rfl hr2 ?_
    obtain ⟨r3, w3, hr3, ho3, hg3⟩ := r_appB (ty := 29) (hb.ext hx2) ho2.bts (by simp; omega) (Nat.le_trans hb1 hx2.size)
    refine o_append rfl rfl hr3 ?_
    refine o_assign rfl rfl (o_nil (n_block (n_then (c_region (o_move rfl rfl ?_)))))
    refine o_bin rfl rfl rfl (r_shr_u64 7 (by omega)) ?_
    refine o_assign rfl rfl (o_nil ?_)
    refine n_round (r3, m >>> UInt64.ofNat 7, done ++ [m.toUInt8 ||| 128]) ⟨rfl, rfl, trivial⟩ ⟨ho3, hg.trans (Grew.before hx2 hg3), ?_⟩ ?_
    · show done ++ [m.toUInt8 ||| 128] ++ uv (m >>> UInt64.ofNat 7).toNat = _
      rw [← he, uv_big h', high_byte, shr7]; simp
    · show (m >>> UInt64.ofNat 7).toNat < m.toNat
      rw [shr7]; omega
  · have h' : m.toNat < 128 := by
      have : ¬ (128 ≤ m.toNat) := fun hh => h (by show (128 : UInt64) ≤ m; rw [UInt64.le_iff_toNat_le]; exact hh)
      omega
    refine c_exit (x_then (x_then (x_here (n_then (c_seq (c_region (o_move rfl rfl (o_move rfl rfl ?_))))))))
    refine o_conv rfl rfl (r_u64_u8 Try.underlying69 Try.underlying5) ?_
    obtain ⟨r2, w2, hr2, hx2, ho2, _⟩ := r_bsB (w := w1) w1.heap.size [m.toUInt8] (by simp) (Nat.le_refl _)
    refine o_buildSlice rfl rfl hr2 ?_
    obtain ⟨r3, w3, hr3, ho3, hg3⟩ := r_appB (ty := 29) (hb.ext hx2) ho2.bts (by simp; omega) (Nat.le_trans hb1 hx2.size)
    refine o_append rfl rfl hr3 ?_
    refine o_assign rfl rfl (o_nil (n_then (c_ret ?_)))
    refine r_body1 rfl rfl ?_
    refine ⟨_, rfl, ?_, hg.trans (Grew.before hx2 hg3)⟩
    rw [← he, uv_small h', ← low_byte]
    exact ho3

theorem AppendUint_spec {w : World} {l : List UInt8} {v : Value} {n : UInt64} (hv : Bts l v w) (hl : l.length ≤ 70368744177664) :
    Calls Try.prog 28 #[v, U64 n] w (Ret fun r w' => Ext w w' ∧ OwnB w.heap.size (l ++ uv n.toNat) r w') := by
  refine enter (vs := [v, U64 n]) Try.func28 rfl rfl rfl ?_
  refine c_seq (c_region (o_assign rfl rfl (o_nil (n_then (c_seq (c_region (o_move rfl rfl ?_)))))))  -- 0 t4 1 t5
  refine o_call call_Clone rfl rfl (Clone_spec hv (by omega)) ?_
  rintro r1 w1 ⟨hx1, ho1⟩
  refine o_move rfl rfl ?_
  refine o_call call_uvarint rfl rfl (uvarint_spec ho1 hl hx1.size) ?_
  rintro r2 w2 ⟨ho2, hg2⟩
  refine o_assign rfl rfl (o_nil (n_then (c_ret ?_)))
  refine r_body1 rfl rfl ?_
  exact ⟨_, rfl, hx1.of_grew hg2 ho1.ge, ho2⟩

theorem AppendInt_spec {w : World} {l : List UInt8} {v : Value} {n : Int} (hv : Bts l v w) (hl : l.length ≤ 70368744177664) (h1 : -9223372036854775808 ≤ n) (h2 : n ≤ 9223372036854775807) :
    Calls Try.prog 29 #[v, I n] w (Ret fun r w' => Ext w w' ∧ OwnB w.heap.size (l ++ uv (zig n)) r w') := by
  refine enter (vs := [v, I n]) Try.func29 rfl rfl rfl ?_
  refine c_seq (c_region (o_assign rfl rfl (o_nil (n_then (c_seq (c_region (o_move rfl rfl ?_)))))))
  refine o_call call_Clone rfl rfl (Clone_spec hv (by omega)) ?_
  rintro r1 w1 ⟨hx1, ho1⟩
  refine o_move rfl rfl ?_
  refine o_conv rfl rfl (r_i_u64 Try.underlying3 Try.underlying69) ?_
  refine o_bin rfl rfl rfl (r_shl_u64 1 (by omega)) ?_
  refine o_move rfl rfl ?_
  refine o_bin rfl rfl rfl (r_shr_i 63 (by omega)) ?_
  refine o_conv rfl rfl (r_i_u64 Try.underlying3 Try.underlying69) ?_
  refine o_bin rfl rfl rfl (r_xor_u64) ?_
  refine o_call call_uvarint rfl rfl (uvarint_spec ho1 hl hx1.size) ?_
  rintro r2 w2 ⟨ho2, hg2⟩
  refine o_assign rfl rfl (o_nil (n_then (c_ret ?_)))
  refine r_body1 rfl rfl ?_
  rw [zig_prog h1 h2] at ho2
  exact ⟨_, rfl, hx1.of_grew hg2 ho1.ge, ho2⟩


end Go.Rl
/- Walks of the reader of package wire. Conditions: the reader is not nil. -/
namespace Go.Rl
open Go.RowKit Go.Proofs

theorem call_New : Callable Try.prog 20 := ⟨_, Try.func20, by kernel_rfl, rfl⟩
theorem call_take : Callable Try.prog 69 := ⟨_, Try.func69, by kernel_rfl, rfl⟩
theorem call_fail : Callable Try.prog 68 := ⟨_, Try.func68, by kernel_rfl, rfl⟩
theorem call_ruvarint : Callable Try.prog 67 := ⟨_, Try.func67, by kernel_rfl, rfl⟩
theorem call_Uint : Callable Try.prog 57 := ⟨_, Try.func57, by kernel_rfl, rfl⟩

theorem zero_Reader : (Try.prog.info? 78).map (·.zero) = some (some (.agg #[.slice none 0 0, .bool false])) := by kernel_rfl
theorem size_bytes : (Try.prog.info? 29).map (·.size) = some 1 := by kernel_rfl
theorem size_bool : (Try.prog.info? 4).map (·.size) = some 1 := by kernel_rfl

/-- The bytes lie in a block that is older than the reader's. -/
def LocB (A : Option Addr) (g : Nat) : Prop := ∀ ad, A = some ad → ad.block < g
theorem LocB.none (g : Nat) : LocB none g := fun _ h => by cases h
theorem sliceAt_loc {A : Option Addr} {n c : Nat} {lo hi mx : Option Value} {r : Value} {w w' : World} (hrun : (Instr.sliceAt 29 (.slice A n c) lo hi mx).run Try.prog w = .ok r w') : ∃ A' n' c', r = .slice A' n' c' ∧ ∀ g, LocB A g → LocB A' g := by
  simp only [Instr.sliceAt, Instr.slice, Sem.run_bind, run_underlying Try.underlying29, Result.andThen_ok] at hrun
  cases hb : (Instr.sliceBounds true n c lo hi mx).run Try.prog w with
  | halt x w1 => rw [hb] at hrun; simp [Result.andThen] at hrun
  | ok p w1 =>
    obtain ⟨l, h, m⟩ := p
    rw [hb] at hrun
    simp only [Result.andThen_ok, r_sizeOf size_u8] at hrun
    simp at hrun
    obtain ⟨rfl, rfl⟩ := hrun
    refine ⟨_, _, _, rfl, fun g hg => ?_⟩
    split
    · exact hg
    · intro ad had
      cases A with
      | none => cases had
      | some a0 =>
        obtain rfl := Option.some.inj had
        show (a0.add _).block < g
        rw [add_block]
        exact hg a0 rfl
theorem loc_of {A : Option Addr} {n c g : Nat} {lo hi mx : Option Value} {r : Value} {w w' : World} (hrun : (Instr.sliceAt 29 (.slice A n c) lo hi mx).run Try.prog w = .ok r w') (h : LocB A g) : ∀ A n c, r = .slice A n c → LocB A g := fun _ _ _ e => by
  obtain ⟨A', n', c', h1, h2⟩ := sliceAt_loc hrun
  rw [h1] at e
  cases e
  exact h2 g h
/-- The reader at block g: none: it has failed; some l: these bytes are left. -/
def RdAt (g : Nat) (st : Option (List UInt8)) (w : World) : Prop :=
  ∃ A n c, w.heap[g]? = some (.cells #[.slice A n c, .bool st.isNone] 78 (0, 0)) ∧ Bts (st.getD []) (.slice A n c) w ∧ LocB A g

theorem RdAt.ext {g : Nat} {st : Option (List UInt8)} {w w' : World} (h : RdAt g st w) (hx : Ext w w') : RdAt g st w' := by
  obtain ⟨A, n, c, h1, h2, h3⟩ := h
  exact ⟨A, n, c, hx.heap_some h1, h2.ext hx, h3⟩
theorem rd_noByte (A : Option Addr) (n c : Nat) (b : Bool) (l : List UInt8) : ∀ (j : Nat) (u : Value), u ∈ l.map U8 → (#[.slice A n c, .bool b] : Array Value)[j]? ≠ some u := by
  intro j u hu
  obtain ⟨x, _, rfl⟩ := List.mem_map.1 hu
  match j with
  | 0 => simp [U8]
  | 1 => simp [U8]
  | j + 2 => simp
/-- Bytes stay what they are when a reader moves on. -/
theorem Bts.reader {l : List UInt8} {v : Value} {g : Nat} {st : Option (List UInt8)} {w w' : World} (h : Bts l v w) (hr : RdAt g st w) (hw : w.grownBy w' (some g)) : Bts l v w' := by
  obtain ⟨A, n, c, h1, _⟩ := hr
  exact Sl.keep h h1 (rd_noByte A n c _ l) hw

section
variable {w : World} {g : Nat} {l : List UInt8}
theorem grownBy_of_ext {w' : World} {row : Option Nat} (h : Ext w w') : w.grownBy w' row := ⟨h.os, h.tape, h.output, h.size, fun _ hi _ => h.heap hi⟩
theorem grownBy_refl (w : World) (row : Option Nat) : w.grownBy w row := World.grownBy.refl w row

theorem New_spec {v : Value} (hv : Bts l v w) (hl : l.length ≤ 140737488355328) :
    Calls Try.prog 20 #[v] w (Ret fun r w' => Ext w w' ∧ ∃ g, w.heap.size ≤ g ∧ r = .pointer (some ⟨g, 0, none⟩) ∧ RdAt g (some l) w') := by
  refine enter (vs := [v]) Try.func20 rfl rfl rfl ?_
  refine c_seq (c_region (o_assign rfl rfl (o_nil (n_then (c_seq (c_region (o_move rfl rfl ?_)))))))
  refine o_call call_Clone rfl rfl (Clone_spec hv hl) ?_
  rintro r1 w1 ⟨hx1, ho1⟩
  obtain ⟨A, n, c, rfl, _⟩ := id ho1.bts
  refine o_build rfl rfl (r := .agg #[.slice A n c, .bool false]) (by simp [Instr.build, run_underlying Try.underlying78, r_zero zero_Reader, r_sizeOf size_bytes, r_sizeOf size_bool, Instr.fill, Value.cells]) ?_
  refine o_box rfl rfl r_box ?_
  refine o_assign rfl rfl (o_nil (n_then (c_ret ?_)))
  refine r_body1 rfl rfl ?_
  exact ⟨_, rfl, hx1.trans (Ext.new _ _), w1.heap.size, hx1.size, rfl, A, n, c, heap_alloc_new _ _, ho1.bts.ext (Ext.new _ _), fun ad had => ho1.elim fun _ h => (World.ownsRow.lt h ad.block (by rw [had]; rfl)).2⟩

theorem fail_spec {st : Option (List UInt8)} (hr : RdAt g st w) :
    Calls Try.prog 68 #[.pointer (some ⟨g, 0, none⟩)] w (Ret fun r w' => r = I 5 ∧ RdAt g none w' ∧ w.grownBy w' (some g)) := by
  obtain ⟨A, n, c, h1, _⟩ := hr
  refine enter (vs := [.pointer (some ⟨g, 0, none⟩)]) Try.func68 rfl rfl rfl ?_
  refine c_seq (c_region (o_assign rfl rfl (o_nil (n_then (c_seq (c_region (o_move rfl rfl (o_move rfl rfl ?_))))))))
  refine o_nilCheck rfl rfl ?_
  refine o_fieldAddr rfl rfl (r_fieldAt Try.underlying78 rfl size_bytes (by omega)) ?_
  refine o_store rfl rfl (r_store1 size_bytes rfl h1 (by simp)) ?_
  refine o_nilCheck rfl rfl ?_
  refine o_fieldAddr rfl rfl (r_fieldAt Try.underlying78 rfl size_bool (by omega)) ?_
  have h2 := heap_set h1 0 (.slice none 0 0)
  refine o_store rfl rfl (r_store1 (i := 1) size_bool rfl h2 (by simp)) ?_
  have h3 := heap_set h2 1 (.bool true)
  refine o_nil (n_then (c_seq (c_region (o_assign rfl rfl (o_nil (n_then (c_ret ?_)))))))
  refine r_body1 rfl rfl ?_
  exact ⟨_, rfl, rfl, ⟨none, 0, 0, h3, Bts.nil _, LocB.none g⟩, (grownBy_setCell w g 0 _).trans (grownBy_setCell _ g 1 _)⟩

theorem take_failed {n : UInt64} (hr : RdAt g none w) :
    Calls Try.prog 69 #[.pointer (some ⟨g, 0, none⟩), U64 n] w (Ret fun r w' => r = .tuple #[.slice none 0 0, B false] ∧ w' = w) := by
  obtain ⟨A, m, c, h1, _⟩ := hr
  refine enter (vs := [.pointer (some ⟨g, 0, none⟩), U64 n]) Try.func69 rfl rfl rfl ?_
  refine c_seq (c_region (o_assign rfl rfl (o_assign rfl rfl (o_nil (n_then (c_seq (c_seq (c_region (o_move rfl rfl ?_)))))))))
  refine o_nilCheck rfl rfl ?_
  refine o_fieldAddr rfl rfl (r_fieldAt Try.underlying78 rfl size_bool (by omega)) ?_
  refine o_load rfl rfl (r_load1 Try.underlying4 rfl (cellAt (i := 1) h1 rfl)) ?_
  refine o_move rfl rfl ?_
  refine g_no rfl rfl rfl ?_
  refine g_no rfl rfl rfl ?_
  refine g_no rfl rfl rfl ?_
  refine g_no rfl rfl rfl ?_
  refine g_no rfl rfl rfl ?_
  refine g_no rfl rfl rfl ?_
  refine g_no rfl rfl rfl ?_
  refine g_no rfl rfl rfl ?_
  refine o_pick_t rfl rfl rfl ?_
  refine o_nil (n_then ?_)
  refine c_yes rfl ?_
  refine c_seq (c_region (o_assign rfl rfl (o_assign rfl rfl (o_nil (n_then (c_ret (r_then ?_)))))))
  refine r_body2 rfl rfl rfl ?_
  exact ⟨_, rfl, rfl, rfl⟩

theorem u64_len (h : l.length ≤ 9223372036854775807) : (UInt64.ofNat l.length).toNat = l.length := by rw [UInt64.toNat_ofNat']; omega

theorem take_no {n : UInt64} (hr : RdAt g (some l) w) (hn : l.length < n.toNat) :
    Calls Try.prog 69 #[.pointer (some ⟨g, 0, none⟩), U64 n] w (Ret fun r w' => r = .tuple #[.slice none 0 0, B false] ∧ w' = w) := by
  obtain ⟨A, m, c, h1, h2, _⟩ := hr
  have h2' : Bts l (.slice A m c) w := h2
  refine enter (vs := [.pointer (some ⟨g, 0, none⟩), U64 n]) Try.func69 rfl rfl rfl ?_
  refine c_seq (c_region (o_assign rfl rfl (o_assign rfl rfl (o_nil (n_then (c_seq (c_seq (c_region (o_move rfl rfl ?_)))))))))
  refine o_nilCheck rfl rfl ?_
  refine o_fieldAddr rfl rfl (r_fieldAt Try.underlying78 rfl size_bool (by omega)) ?_
  refine o_load rfl rfl (r_load1 Try.underlying4 rfl (cellAt (i := 1) h1 rfl)) ?_
  refine o_move rfl rfl ?_
  refine g_yes rfl (o_move rfl rfl (g_yes rfl (o_move rfl rfl ?_)))
  refine g_yes rfl (o_nilCheck rfl rfl ?_)
  refine g_yes rfl (o_fieldAddr rfl rfl (r_fieldAt Try.underlying78 rfl size_bytes (by omega)) ?_)
  refine g_yes rfl (o_load rfl rfl (r_load1 Try.underlying29 rfl (cellAt (i := 0) h1 rfl)) ?_)
  refine g_yes rfl (o_len rfl rfl (r_lenB h2') ?_)
  refine g_yes rfl (o_conv rfl rfl (r_n_u64 Try.underlying3 Try.underlying69) ?_)
  refine g_yes rfl (o_bin rfl rfl rfl (dec_t (by show _ < n; rw [UInt64.lt_iff_toNat_lt, u64_len h2'.len]; exact hn) r_gtr_u64) ?_)
  refine o_pick_f rfl rfl rfl ?_
  refine o_nil (n_then ?_)
  refine c_yes rfl ?_
  refine c_seq (c_region (o_assign rfl rfl (o_assign rfl rfl (o_nil (n_then (c_ret (r_then ?_)))))))
  refine r_body2 rfl rfl rfl ?_
  exact ⟨_, rfl, rfl, rfl⟩

theorem take_yes {n : UInt64} (hr : RdAt g (some l) w) (hn : n.toNat ≤ l.length) :
    Calls Try.prog 69 #[.pointer (some ⟨g, 0, none⟩), U64 n] w
      (Ret fun r w' => ∃ b, r = .tuple #[b, B true] ∧ Bts (l.take n.toNat) b w' ∧ RdAt g (some (l.drop n.toNat)) w' ∧ w.grownBy w' (some g)) := by
  obtain ⟨A, m, c, h1, h2, h4⟩ := hr
  have h2' : Bts l (.slice A m c) w := h2
  refine enter (vs := [.pointer (some ⟨g, 0, none⟩), U64 n]) Try.func69 rfl rfl rfl ?_
  refine c_seq (c_region (o_assign rfl rfl (o_assign rfl rfl (o_nil (n_then (c_seq (c_seq (c_region (o_move rfl rfl ?_)))))))))
  refine o_nilCheck rfl rfl ?_
  refine o_fieldAddr rfl rfl (r_fieldAt Try.underlying78 rfl size_bool (by omega)) ?_
  refine o_load rfl rfl (r_load1 Try.underlying4 rfl (cellAt (i := 1) h1 rfl)) ?_
  refine o_move rfl rfl ?_
  refine g_yes rfl (o_move rfl rfl (g_yes rfl (o_move rfl rfl ?_)))
  refine g_yes rfl (o_nilCheck rfl rfl ?_)
  refine g_yes rfl (o_fieldAddr rfl rfl (r_fieldAt Try.underlying78 rfl size_bytes (by omega)) ?_)
  refine g_yes rfl (o_load rfl rfl (r_load1 Try.underlying29 rfl (cellAt (i := 0) h1 rfl)) ?_)
  refine g_yes rfl (o_len rfl rfl (r_lenB h2') ?_)
  refine g_yes rfl (o_conv rfl rfl (r_n_u64 Try.underlying3 Try.underlying69) ?_)
  refine g_yes rfl (o_bin rfl rfl rfl (dec_f (by show ¬ _ < n; rw [UInt64.lt_iff_toNat_lt, u64_len h2'.len]; omega) r_gtr_u64) ?_)
  refine o_pick_f rfl rfl rfl ?_
  refine o_nil (n_then ?_)
  refine c_no rfl ?_
  refine c_skip (n_then (c_seq (c_region (o_move rfl rfl ?_))))
  refine o_nilCheck rfl rfl ?_
  refine o_fieldAddr rfl rfl (r_fieldAt Try.underlying78 rfl size_bytes (by omega)) ?_
  refine o_load rfl rfl (r_load1 Try.underlying29 rfl (cellAt (i := 0) h1 rfl)) ?_
  refine o_move rfl rfl ?_
  obtain ⟨b, hb, hb2⟩ := r_slB_hi h2' hn .u64
  refine o_slice (b := some (U64 n)) rfl rfl rfl rfl rfl (hb _) ?_
  refine o_assign rfl rfl (o_nil (n_then (c_seq (c_region (o_move rfl rfl (o_move rfl rfl ?_))))))
  refine o_nilCheck rfl rfl ?_
  refine o_fieldAddr rfl rfl (r_fieldAt Try.underlying78 rfl size_bytes (by omega)) ?_
  refine o_load rfl rfl (r_load1 Try.underlying29 rfl (cellAt (i := 0) h1 rfl)) ?_
  refine o_move rfl rfl ?_
  obtain ⟨r, hr, hr2⟩ := r_slB_lo h2' hn .u64
  refine o_slice (a := some (U64 n)) rfl rfl rfl rfl rfl (hr _) ?_
  refine o_nilCheck rfl rfl ?_
  refine o_fieldAddr rfl rfl (r_fieldAt Try.underlying78 rfl size_bytes (by omega)) ?_
  obtain ⟨A', m', c', rfl, h5⟩ := sliceAt_loc (hr w)
  refine o_store rfl rfl (r_store1 (i := 0) size_bytes rfl h1 (by simp)) ?_
  have h3 := heap_set h1 0 (.slice A' m' c')
  have hg := grownBy_setCell w g 0 (.slice A' m' c')
  refine o_nil (n_then (c_seq (c_region (o_move rfl rfl (o_assign rfl rfl (o_assign rfl rfl (o_nil (n_then (c_ret ?_)))))))))
  refine r_body2 rfl rfl rfl ?_
  have hrd : RdAt g (some l) w := ⟨A, m, c, h1, h2, h4⟩
  exact ⟨_, rfl, b, rfl, hb2.reader hrd hg, ⟨A', m', c', h3, hr2.reader hrd hg, h5 g h4⟩, hg⟩

/-- What a reading of a number leaves. -/
def UvR (g : Nat) (w : World) (o : Option (Nat × List UInt8)) (r : Value) (w' : World) : Prop :=
  w.grownBy w' (some g) ∧ match o with
    | some (n, t) => r = .tuple #[U64 (UInt64.ofNat n), B true] ∧ RdAt g (some t) w'
    | none => r = .tuple #[U64 0, B false] ∧ ∃ l', RdAt g (some l') w'

theorem ruvarint_spec (hr : RdAt g (some l) w) :
    Calls Try.prog 67 #[.pointer (some ⟨g, 0, none⟩)] w (Ret (UvR g w (rdU l))) := by
  refine enter (vs := [.pointer (some ⟨g, 0, none⟩)]) Try.func67 rfl rfl rfl ?_
  refine c_seq (c_region (o_assign rfl rfl (o_assign rfl rfl (o_nil (n_then (c_seq (c_seq (c_region (o_assign rfl rfl (o_nil (n_then (c_block ?_))))))))))))
  refine c_loop (α := Nat × List UInt8 × UInt64) (fun x => [(0, .pointer (some ⟨g, 0, none⟩)), (4, I ((7 * x.1 : Nat) : Int)), (2, U64 x.2.2)])
    (fun x w' => RdAt g (some x.2.1) w' ∧ w.grownBy w' (some g) ∧ x.1 ≤ 9 ∧ x.2.2.toNat < 128 ^ x.1 ∧ rdU l = (rdUk (10 - x.1) x.1 x.2.1).map fun p => (p.1 + x.2.2.toNat, p.2)) (fun x => 10 - x.1)
    (0, l, 0) ⟨rfl, rfl, rfl, trivial⟩ ⟨hr, grownBy_refl _ _, by simp, by simp, by simp [rdU]⟩ ?_
  rintro ⟨k, rest, acc⟩ w1 ⟨hr1, hg1, hk, hacc, hrd⟩
  dsimp only at hr1 hg1 hk hacc hrd
  have hfuel : 10 - k = (9 - k) + 1 := by omega
  rw [hfuel] at hrd
  refine c_seq (c_seq (c_region (o_move rfl rfl ?_)))
  refine o_bin rfl rfl rfl (dec_t (by omega) r_lss_i) ?_
  refine o_nil (n_then ?_)
  refine c_yes rfl ?_
  refine c_skip (n_then (c_seq (c_block (c_seq (c_region (o_move rfl rfl ?_))))))
  cases rest with
  | nil =>
    refine o_call (vs := [_, U64 1]) call_take rfl rfl (take_no hr1 (by decide)) ?_
    rintro r2 w2 ⟨rfl, rfl⟩
    refine o_move rfl rfl ?_
    refine o_extract rfl rfl (r_ext0) ?_
    refine o_extract rfl rfl (r_ext1) ?_
    refine o_assign rfl rfl (o_assign rfl rfl (o_nil (n_then (c_seq (c_seq (c_region (o_move rfl rfl ?_)))))))
    refine o_not rfl rfl (r_not) ?_
    refine o_nil (n_then ?_)
    refine c_yes rfl ?_
    refine c_seq (c_region (o_assign rfl rfl (o_assign rfl rfl (o_nil (n_then (c_ret (r_then (r_block (r_then (r_then (r_block (r_then ?_))))))))))))
    refine r_body2 rfl rfl rfl ?_
    refine ⟨_, rfl, hg1, ?_⟩
    rw [hrd, rdUk_nil]
    exact ⟨rfl, [], hr1⟩
  | cons c t =>
    refine o_call (vs := [_, U64 1]) call_take rfl rfl (take_yes hr1 (by simp)) ?_
    rintro r2 w2 ⟨b, rfl, hb, hr2, hg2⟩
    have hb' : Bts [c] b w2 := hb
    have hr2' : RdAt g (some t) w2 := hr2
    have hg := hg1.trans hg2
    refine o_move rfl rfl ?_
    refine o_extract rfl rfl (r_ext0) ?_
    refine o_extract rfl rfl (r_ext1) ?_
    refine o_assign rfl rfl (o_assign rfl rfl (o_nil (n_then (c_seq (c_seq (c_region (o_move rfl rfl ?_)))))))
    refine o_not rfl rfl (r_not) ?_
    refine o_nil (n_then ?_)
    refine c_no rfl ?_
    refine c_skip (n_then (c_seq (c_region (o_move rfl rfl ?_))))
    obtain ⟨ad, had, hcell⟩ := r_ixB hb' (i := 0) (by simp) .i64
    refine o_indexAddr rfl rfl rfl (had _) ?_
    refine o_load rfl rfl (r_ldB hcell) ?_
    refine o_assign rfl rfl (o_nil (n_then (c_seq (c_seq ?_))))
    refine c_cut (fun _ : Unit => [(0, .pointer (some ⟨g, 0, none⟩)), (4, I ((7 * k : Nat) : Int)), (2, U64 acc), (7, U8 c), (35, B (decide ((k = 9 ∧ 1 < c.toNat) ∨ (0 < k ∧ c.toNat = 0))))]) (fun _ w' => w' = w2) ?_ ?_
    · refine c_region (o_move rfl rfl ?_)
      have c1 : c > 1 ↔ 1 < c.toNat := by show 1 < c ↔ _; rw [UInt8.lt_iff_toNat_lt]; rfl
      have c0 : c = 0 ↔ c.toNat = 0 := by rw [← UInt8.toNat_inj]; rfl
      by_cases h9 : k = 9
      · refine o_bin rfl rfl rfl (dec_t (by omega) r_eql_i) ?_
        refine o_move rfl rfl (g_yes rfl (o_move rfl rfl ?_))
        by_cases hc1 : 1 < c.toNat
        · refine g_yes rfl (o_bin (v := U8 1) rfl rfl rfl (dec_t (c1.2 hc1) r_gtr_u8) ?_)
          refine o_pick_t rfl rfl rfl (o_move rfl rfl ?_)
          refine g_no rfl rfl rfl (g_no rfl rfl rfl (g_no rfl rfl rfl ?_))
          refine g_undef rfl rfl rfl (g_undef rfl rfl rfl (g_no rfl rfl rfl ?_))
          refine o_pick_t rfl rfl rfl (o_nil ?_)
          exact n_meet () ⟨rfl, rfl, rfl, rfl, by rw [decide_eq_true (Or.inl ⟨h9, hc1⟩)]; rfl, trivial⟩ rfl
        · refine g_yes rfl (o_bin (v := U8 1) rfl rfl rfl (dec_f (fun h => hc1 (c1.1 h)) r_gtr_u8) ?_)
          refine o_pick_t rfl rfl rfl (o_move rfl rfl ?_)
          refine g_yes rfl (o_move rfl rfl (g_yes rfl (o_bin rfl rfl rfl (dec_t (by omega) r_gtr_i) ?_)))
          refine g_yes rfl (o_move rfl rfl (g_yes rfl (o_move rfl rfl ?_)))
          refine g_yes rfl (o_bin (v := U8 0) rfl rfl rfl r_eql_u8 ?_)
          refine g_yes rfl (o_pick_t rfl rfl rfl ?_)
          refine o_pick_f rfl rfl rfl (o_nil ?_)
          refine n_meet () ⟨rfl, rfl, rfl, rfl, ?_, trivial⟩ rfl
          show some (B (decide (c = 0))) = _
          rw [decide_eq_decide.2 (show c = 0 ↔ ((k = 9 ∧ 1 < c.toNat) ∨ (0 < k ∧ c.toNat = 0)) from by rw [c0]; omega)]
      · refine o_bin rfl rfl rfl (dec_f (by omega) r_eql_i) ?_
        refine o_move rfl rfl (g_no rfl rfl rfl (g_no rfl rfl rfl ?_))
        refine o_pick_f rfl rfl rfl (o_move rfl rfl ?_)
        by_cases hk0 : 0 < k
        · refine g_yes rfl (o_move rfl rfl (g_yes rfl (o_bin rfl rfl rfl (dec_t (by omega) r_gtr_i) ?_)))
          refine g_yes rfl (o_move rfl rfl (g_yes rfl (o_move rfl rfl ?_)))
          refine g_yes rfl (o_bin (v := U8 0) rfl rfl rfl r_eql_u8 ?_)
          refine g_yes rfl (o_pick_t rfl rfl rfl ?_)
          refine o_pick_f rfl rfl rfl (o_nil ?_)
          refine n_meet () ⟨rfl, rfl, rfl, rfl, ?_, trivial⟩ rfl
          show some (B (decide (c = 0))) = _
          rw [decide_eq_decide.2 (show c = 0 ↔ ((k = 9 ∧ 1 < c.toNat) ∨ (0 < k ∧ c.toNat = 0)) from by rw [c0]; omega)]
        · refine g_yes rfl (o_move rfl rfl (g_yes rfl (o_bin rfl rfl rfl (dec_f (by omega) r_gtr_i) ?_)))
          refine g_yes rfl (o_move rfl rfl (g_no rfl rfl rfl (g_no rfl rfl rfl ?_)))
          refine g_yes rfl (o_pick_f rfl rfl rfl ?_)
          refine o_pick_f rfl rfl rfl (o_nil ?_)
          refine n_meet () ⟨rfl, rfl, rfl, rfl, ?_, trivial⟩ rfl
          show some (B false) = _
          rw [decide_eq_false (by omega)]
    · rintro _ w3 rfl
      refine n_then (c_if rfl (fun h => ?_) (fun h => ?_))
      · refine c_seq (c_region (o_assign rfl rfl (o_assign rfl rfl (o_nil (n_then (c_ret (r_then (r_block (r_then (r_then (r_block (r_then ?_))))))))))))
        refine r_body2 rfl rfl rfl ?_
        refine ⟨_, rfl, hg, ?_⟩
        rw [hrd]
        simp only [rdUk]
        rw [if_pos h]
        exact ⟨rfl, t, hr2'⟩
      · have hor := or_byte (acc := acc) (c := c) hacc hk (fun h9 => by
          have : ¬ 1 < c.toNat := fun hc => h (Or.inl ⟨h9, hc⟩)
          omega)
        refine c_skip (n_then (c_seq (c_region (o_move rfl rfl (o_move rfl rfl ?_)))))
        refine o_bin (v := U8 127) rfl rfl rfl (r_and_u8) ?_
        refine o_conv rfl rfl (r_u8_u64 Try.underlying5 Try.underlying69) ?_
        refine o_move rfl rfl ?_
        refine o_bin rfl rfl rfl (r_shl_u64 (7 * k) (by omega)) ?_
        refine o_bin rfl rfl rfl (r_or_u64) ?_
        refine o_assign rfl rfl (o_nil (n_then (c_seq (c_region (o_move rfl rfl ?_)))))
        refine o_bin (v := U8 128) rfl rfl rfl (r_lss_u8) ?_
        refine o_nil (n_then ?_)
        refine c_if rfl (fun h2 => ?_) (fun h2 => ?_)
        · have h2' : c.toNat < 128 := by rw [UInt8.lt_iff_toNat_lt] at h2; exact h2
          refine c_seq (c_region (o_move rfl rfl (o_assign rfl rfl (o_assign rfl rfl (o_nil (n_then (c_ret (r_block (r_then (r_then (r_block (r_then ?_))))))))))))
          refine r_body2 rfl rfl rfl ?_
          refine ⟨_, rfl, hg, ?_⟩
          rw [hrd]
          simp only [rdUk]
          rw [if_neg h, if_pos h2']
          refine ⟨?_, hr2'⟩
          rw [Nat.mod_eq_of_lt h2'] at hor
          have : UInt64.ofNat (c.toNat * 128 ^ k + acc.toNat) = acc ||| ((c &&& 127).toUInt64 <<< UInt64.ofNat (7 * k)) := by
            rw [Nat.add_comm, ← hor, UInt64.ofNat_toNat]
          rw [this]; rfl
        · have h2' : ¬ c.toNat < 128 := fun hc => h2 (by rw [UInt8.lt_iff_toNat_lt]; exact hc)
          have hk9 : k ≠ 9 := fun hk9 => h (Or.inl ⟨hk9, by omega⟩)
          refine c_skip (n_block (n_then (c_region (o_move rfl rfl ?_))))
          refine o_bin rfl rfl rfl (r_add_i (by omega) (by omega)) ?_
          refine o_assign rfl rfl (o_nil ?_)
          refine n_round (k + 1, t, acc ||| ((c &&& 127).toUInt64 <<< UInt64.ofNat (7 * k))) ⟨rfl, ?_, rfl, trivial⟩ ⟨hr2', hg, by show k + 1 ≤ 9; omega, ?_, ?_⟩ (by show 10 - (k + 1) < 10 - k; omega)
          · show some (I (((7 * k : Nat) : Int) + 7)) = some (I ((7 * (k + 1) : Nat) : Int))
            rw [show ((7 * k : Nat) : Int) + 7 = ((7 * (k + 1) : Nat) : Int) by omega]
          · show (acc ||| ((c &&& 127).toUInt64 <<< UInt64.ofNat (7 * k))).toNat < 128 ^ (k + 1)
            rw [hor, Nat.pow_succ]
            have : (c.toNat % 128) * 128 ^ k ≤ 127 * 128 ^ k := Nat.mul_le_mul_right _ (by omega)
            omega
          · show rdU l = (rdUk (10 - (k + 1)) (k + 1) t).map fun p => (p.1 + (acc ||| ((c &&& 127).toUInt64 <<< UInt64.ofNat (7 * k))).toNat, p.2)
            rw [hrd, hor]
            simp only [rdUk]
            rw [if_neg h, if_neg h2', Option.map_map]
            have : 10 - (k + 1) = 9 - k := by omega
            rw [this]
            have ef : ((fun p : Nat × List UInt8 => (p.1 + acc.toNat, p.2)) ∘ fun p : Nat × List UInt8 => (p.1 + c.toNat % 128 * 128 ^ k, p.2)) = fun p => (p.1 + (acc.toNat + c.toNat % 128 * 128 ^ k), p.2) := by
              funext p
              simp only [Function.comp, Prod.mk.injEq, and_true]
              omega
            rw [ef]

theorem ruvarint_failed (hr : RdAt g none w) :
    Calls Try.prog 67 #[.pointer (some ⟨g, 0, none⟩)] w (Ret fun r w' => r = .tuple #[U64 0, B false] ∧ w' = w) := by
  refine enter (vs := [.pointer (some ⟨g, 0, none⟩)]) Try.func67 rfl rfl rfl ?_
  refine c_seq (c_region (o_assign rfl rfl (o_assign rfl rfl (o_nil (n_then (c_seq (c_seq (c_region (o_assign rfl rfl (o_nil (n_then (c_block ?_))))))))))))
  refine c_loop (α := Unit) (fun _ => [(0, .pointer (some ⟨g, 0, none⟩)), (4, I 0), (2, U64 0)]) (fun _ w' => w' = w) (fun _ => 0) () ⟨rfl, rfl, rfl, trivial⟩ rfl ?_
  rintro _ w1 rfl
  refine c_seq (c_seq (c_region (o_move rfl rfl ?_)))
  refine o_bin rfl rfl rfl (dec_t (by omega) r_lss_i) ?_
  refine o_nil (n_then ?_)
  refine c_yes rfl ?_
  refine c_skip (n_then (c_seq (c_block (c_seq (c_region (o_move rfl rfl ?_))))))
  refine o_call (vs := [_, U64 1]) call_take rfl rfl (take_failed hr) ?_
  rintro r2 w2 ⟨rfl, rfl⟩
  refine o_move rfl rfl ?_
  refine o_extract rfl rfl (r_ext0) ?_
  refine o_extract rfl rfl (r_ext1) ?_
  refine o_assign rfl rfl (o_assign rfl rfl (o_nil (n_then (c_seq (c_seq (c_region (o_move rfl rfl ?_)))))))
  refine o_not rfl rfl (r_not) ?_
  refine o_nil (n_then ?_)
  refine c_yes rfl ?_
  refine c_seq (c_region (o_assign rfl rfl (o_assign rfl rfl (o_nil (n_then (c_ret (r_then (r_block (r_then (r_then (r_block (r_then ?_))))))))))))
  refine r_body2 rfl rfl rfl ?_
  exact ⟨_, rfl, rfl, rfl⟩

def UintR (g : Nat) (w : World) (o : Option (Nat × List UInt8)) (r : Value) (w' : World) : Prop :=
  w.grownBy w' (some g) ∧ match o with
    | some (n, t) => r = .tuple #[U64 (UInt64.ofNat n), I 0] ∧ RdAt g (some t) w'
    | none => r = .tuple #[U64 0, I 5] ∧ RdAt g none w'

theorem Uint_spec {st : Option (List UInt8)} (hr : RdAt g st w) :
    Calls Try.prog 57 #[.pointer (some ⟨g, 0, none⟩)] w (Ret (UintR g w (st.bind rdU))) := by
  refine enter (vs := [.pointer (some ⟨g, 0, none⟩)]) Try.func57 rfl rfl rfl ?_
  refine c_seq (c_region (o_assign rfl rfl (o_assign rfl rfl (o_nil (n_then (c_seq (c_seq (c_region (o_move rfl rfl ?_)))))))))
  refine o_bin rfl rfl rfl (r_eqnilp Try.underlying52) ?_
  refine o_nil (n_then ?_)
  refine c_no rfl ?_
  refine c_skip (n_then (c_seq (c_region (o_move rfl rfl ?_))))
  have hcase : Calls Try.prog 67 #[.pointer (some ⟨g, 0, none⟩)] w (Ret fun r w' => w.grownBy w' (some g) ∧ match st.bind rdU with
      | some (n, t) => r = .tuple #[U64 (UInt64.ofNat n), B true] ∧ RdAt g (some t) w'
      | none => r = .tuple #[U64 0, B false] ∧ ∃ l', RdAt g l' w') := by
    cases st with
    | none => exact (ruvarint_failed hr).mono fun e w' ⟨v, he, hv, hw⟩ => ⟨v, he, by subst hw; exact ⟨grownBy_refl _ _, hv, none, hr⟩⟩
    | some l =>
      refine (ruvarint_spec hr).mono fun e w' ⟨v, he, hg, hv⟩ => ⟨v, he, hg, ?_⟩
      show match rdU l with | some (n, t) => _ | none => _
      cases hrd : rdU l with
      | none => rw [hrd] at hv; exact ⟨hv.1, hv.2.imp' some fun _ h => h⟩
      | some p => rw [hrd] at hv; exact hv
  refine o_call call_ruvarint rfl rfl hcase ?_
  rintro r1 w1 ⟨hg1, h1⟩
  unfold UintR
  cases hrd : st.bind rdU with
  | some p =>
    obtain ⟨n, t⟩ := p
    rw [hrd] at h1
    obtain ⟨rfl, hr1⟩ := h1
    refine o_move rfl rfl ?_
    refine o_extract rfl rfl (r_ext0) ?_
    refine o_extract rfl rfl (r_ext1) ?_
    refine o_assign rfl rfl (o_assign rfl rfl (o_nil (n_then (c_seq (c_seq (c_region (o_move rfl rfl ?_)))))))
    refine o_not rfl rfl (r_not) ?_
    refine o_nil (n_then ?_)
    refine c_no rfl ?_
    refine c_skip (n_then (c_seq (c_region (o_move rfl rfl (o_assign rfl rfl (o_assign rfl rfl (o_nil (n_then (c_ret ?_)))))))))
    refine r_body2 rfl rfl rfl ?_
    exact ⟨_, rfl, hg1, rfl, hr1⟩
  | none =>
    rw [hrd] at h1
    obtain ⟨rfl, l', hr1⟩ := h1
    refine o_move rfl rfl ?_
    refine o_extract rfl rfl (r_ext0) ?_
    refine o_extract rfl rfl (r_ext1) ?_
    refine o_assign rfl rfl (o_assign rfl rfl (o_nil (n_then (c_seq (c_seq (c_region (o_move rfl rfl ?_)))))))
    refine o_not rfl rfl (r_not) ?_
    refine o_nil (n_then ?_)
    refine c_yes rfl ?_
    refine c_seq (c_region (o_move rfl rfl ?_))
    refine o_call call_fail rfl rfl (fail_spec hr1) ?_
    rintro r2 w2 ⟨rfl, hr2, hg2⟩
    refine o_assign rfl rfl (o_assign rfl rfl (o_nil (n_then (c_ret (r_then ?_)))))
    refine r_body2 rfl rfl rfl ?_
    exact ⟨_, rfl, hg1.trans hg2, rfl, hr2⟩
end
end Go.Rl
/- Walks of the functions that append limbs. Conditions: what is appended to is short. -/
namespace Go.Rl
open Go.RowKit Go.Proofs

theorem call_nat : Callable Try.prog 55 := ⟨_, Try.func55, by kernel_rfl, rfl⟩

/-- A limb, the least significant byte first. -/
def le4 (x : UInt32) : List UInt8 := [x.toUInt8, (x >>> UInt32.ofNat 8).toUInt8, (x >>> UInt32.ofNat 16).toUInt8, (x >>> UInt32.ofNat 24).toUInt8]
def le4s (l : List UInt32) : List UInt8 := l.flatMap le4
theorem le4s_snoc (l : List UInt32) (k : Nat) (h : k < l.length) : le4s (l.take (k + 1)) = le4s (l.take k) ++ le4 l[k] := by
  unfold le4s
  rw [List.take_succ_eq_append_getElem h, List.flatMap_append]
  simp
theorem le4s_len (l : List UInt32) : (le4s l).length = 4 * l.length := by
  induction l with
  | nil => rfl
  | cons x l ih =>
    have : le4s (x :: l) = le4 x ++ le4s l := by simp [le4s]
    rw [this, List.length_append, ih]
    simp [le4]; omega
def encN (l : List UInt32) : List UInt8 := uv l.length ++ le4s l
theorem encN_len (l : List UInt32) (h : l.length < 18446744073709551616) : (encN l).length ≤ 10 + 4 * l.length := by
  have := uv_len h
  simp only [encN, List.length_append, le4s_len]; omega

section
variable {w0 w : World} {l : List UInt8} {ns : List UInt32} {v nv : Value}

theorem nat_spec (hx : Ext w0 w) (hv : OwnB w0.heap.size l v w) (hn : Wds ns nv w0) (hl : l.length + 4 * ns.length ≤ 35184372088832) :
    Calls Try.prog 55 #[v, nv] w (Ret fun r w' => OwnB w0.heap.size (l ++ encN ns) r w' ∧ Ext w0 w' ∧ Grew w w' v r) := by
  refine enter (vs := [v, nv]) Try.func55 rfl rfl rfl ?_
  refine c_seq (c_region (o_assign rfl rfl (o_nil (n_then (c_seq (c_region (o_move rfl rfl (o_move rfl rfl ?_))))))))
  refine o_len rfl rfl (r_lenW Try.underlying39 (hn.ext hx)) ?_
  refine o_conv rfl rfl (r_n_u64 Try.underlying3 Try.underlying69) ?_
  refine o_call call_uvarint rfl rfl (uvarint_spec hv (by omega) hx.size) ?_
  rintro b1 w1 ⟨hb1, hg1⟩
  have hlen : (UInt64.ofNat ns.length).toNat = ns.length := by rw [UInt64.toNat_ofNat']; have := hn.len; omega
  rw [hlen] at hb1
  have hx1 : Ext w0 w1 := hx.of_grew hg1 hv.ge
  have huv := uv_len (n := ns.length) (by have := hn.len; omega)
  refine o_assign rfl rfl (o_nil (n_then (c_seq (c_seq (c_region (o_move rfl rfl ?_))))))
  refine o_len rfl rfl (r_lenW Try.underlying39 (hn.ext hx1)) ?_
  refine o_move rfl rfl (o_nil (n_then (c_block ?_)))
  refine c_loop (α := Nat × Value) (fun x => [(0, x.2), (12, nv), (13, I (ns.length : Int)), (14, I (x.1 : Int))])
    (fun x w' => OwnB w0.heap.size (l ++ uv ns.length ++ le4s (ns.take x.1)) x.2 w' ∧ Ext w0 w' ∧ Grew w w' v x.2 ∧ x.1 ≤ ns.length) (fun x => ns.length - x.1) (0, b1) ⟨rfl, rfl, rfl, rfl, trivial⟩
    ⟨by simpa [le4s] using hb1, hx1, hg1, by simp⟩ ?_
  rintro ⟨k, b⟩ w2 ⟨hb, hx2, hg2, hk⟩
  dsimp only at hb hx2 hg2 hk
  have hns := hn.len
  have hdl : (l ++ uv ns.length ++ le4s (ns.take k)).length ≤ 35184372088832 + 10 := by
    simp only [List.length_append, le4s_len, List.length_take]; omega
  refine c_seq (c_region ?_)
  refine o_bin rfl rfl rfl (r_lss_i) ?_
  refine o_nil (n_then (c_seq ?_))
  refine c_if rfl (fun h => ?_) (fun h => ?_)
  · have hlt : k < ns.length := by omega
    refine c_skip (n_then (c_seq (c_block (c_seq (c_region ?_)))))
    obtain ⟨ad, had, hcell⟩ := r_ixW Try.underlying39 (hn.ext hx2) hlt .i64
    refine o_indexAddr rfl rfl rfl (had _) ?_
    refine o_load rfl rfl (r_ldW hcell) ?_
    refine o_assign rfl rfl (o_nil (n_then (c_region (o_move rfl rfl (o_move rfl rfl ?_)))))
    refine o_conv rfl rfl (r_u32_u8 Try.underlying88 Try.underlying5) ?_
    refine o_move rfl rfl ?_
    refine o_bin rfl rfl rfl (r_shr_u32 8 (by omega)) ?_
    refine o_conv rfl rfl (r_u32_u8 Try.underlying88 Try.underlying5) ?_
    refine o_move rfl rfl ?_
    refine o_bin rfl rfl rfl (r_shr_u32 16 (by omega)) ?_
    refine o_conv rfl rfl (r_u32_u8 Try.underlying88 Try.underlying5) ?_
    refine o_move rfl rfl ?_
    refine o_bin rfl rfl rfl (r_shr_u32 24 (by omega)) ?_
    refine o_conv rfl rfl (r_u32_u8 Try.underlying88 Try.underlying5) ?_
    obtain ⟨r3, w3, hr3, hx3, ho3, _⟩ := r_bsB (w := w2) w2.heap.size (le4 ns[k]) (by simp [le4]) (Nat.le_refl _)
    refine o_buildSlice rfl rfl hr3 ?_
    obtain ⟨r4, w4, hr4, ho4, hg4⟩ := r_appB (ty := 29) (hb.ext hx3) ho3.bts (by simp only [le4, List.length_cons, List.length_nil]; omega) (Nat.le_trans hx2.size hx3.size)
    refine o_append rfl rfl hr4 ?_
    refine o_assign rfl rfl (o_nil (n_block (n_then (c_region ?_))))
    refine o_bin rfl rfl rfl (r_add_i (by omega) (by omega)) ?_
    refine o_move rfl rfl (o_nil ?_)
    refine n_round (k + 1, r4) ⟨rfl, rfl, rfl, rfl, trivial⟩ ⟨?_, (hx2.trans hx3).of_grew hg4 hb.ge, hg2.trans (Grew.before hx3 hg4), hlt⟩ (by show ns.length - (k + 1) < ns.length - k; omega)
    show OwnB _ (l ++ uv ns.length ++ le4s (ns.take (k + 1))) r4 w4
    rw [le4s_snoc ns k hlt, ← List.append_assoc]
    exact ho4
  · have hk' : k = ns.length := by omega
    refine c_exit (x_then (x_then (x_here (n_then (c_seq (c_region (o_move rfl rfl (o_assign rfl rfl (o_nil (n_then (c_ret ?_)))))))))))
    refine r_body1 rfl rfl ?_
    refine ⟨_, rfl, ?_, hx2, hg2⟩
    rw [hk', List.take_length, List.append_assoc] at hb
    exact hb

end

end Go.Rl
/- Rules for a region that draws its order where late operations mutate: quiet operations first, then whichever comes up. Conditions: each rule names its own. -/
namespace Go.Rl
open Go.RowKit

section
variable {P : Program} {ops : Array Oper} {Q : Post} {N : Nat} {D : List Deferred} {S : World → Prop} {fuel : Nat} {listed : Array Bool} {l : Fr} {w : World} {d : Nat} {op : Op} {ty : TypeId} {pos : String} {aft : Array Edge}

/-- Nothing but the plain end. -/
def calm (Q : Post) : Post := fun e a w => e = .normal ∧ Q .normal a w
def HeldJ (P : Program) (ops : Array Oper) (Q : Post) (N : Nat) (D : List Deferred) (S : World → Prop) (fuel : Nat) (listed : Array Bool) (l : Fr) (w : World) : Prop := ∀ a, At N D l a → wpAnyH P .any ops (calm Q) S fuel listed a w
/-- Behind one operation: S anew, and on. -/
def HPost (P : Program) (ops : Array Oper) (Q : Post) (S : World → Prop) (fuel : Nat) (listed : Array Bool) : Post := fun e a w => e = .normal ∧ S w ∧ wpAnyH P .any ops (calm Q) S fuel listed a w

theorem c_held {id : Nat} {os : List Oper} (S : World → Prop) (n : Nat) (hn : os.toArray.size = n) (hm : P.follows .mixedOrders = true)
    (h : HeldJ P os.toArray Q N D S n (Array.replicate n false) l w.drew) : CodeJ P Q N D l w (.region id os.toArray true) := fun a ha => by
  subst hn
  exact wp_mono (wp_region_held (Q := calm Q) (S := S) hm (h a ha)) fun e a w he => by obtain ⟨rfl, h⟩ := he; exact h

def okB (ops : Array Oper) (listed : Array Bool) (i : Nat) : Bool := Region.noSelect ops && Region.free .any ops listed i && (Region.ready .any ops listed).contains i

theorem h_run (i : Nat) {v : Value} (hi : ops[i]? = some ⟨some d, op, ty, pos, aft, none⟩) (hB : okB ops listed i = true) (hd : Nat.blt d N = true) (hS : S w)
    (hrun : ∀ ρ w', Agree l ρ → S w' → (execOp ρ ⟨some d, op, ty, pos, aft, none⟩).run P w' = .ok (.value v) w')
    (k : HeldJ P ops Q N D S fuel (listed.setIfInBounds i true) ((d, v) :: l) w) : HeldJ P ops Q N D S (fuel + 1) listed l w := fun a ha => by
  simp only [okB, Bool.and_eq_true] at hB
  exact wpAnyH_take hi hB.1.1 hB.1.2 hB.2 (fun c a w h => by obtain ⟨h, _⟩ := h; cases h) (.inl ⟨rfl, fun w' hw' => hrun a.eval w' (fun x v hx => ha.ev hx) hw'⟩) hS (k _ (ha.put hd v))
theorem h_pure (i : Nat) {xs : List Operand} {vs : List Value} {r : Value} {f : List Value → Sem Value} (hi : ops[i]? = some ⟨some d, op, ty, pos, aft, none⟩) (he : ∀ ρ, execOp ρ ⟨some d, op, ty, pos, aft, none⟩ = (do pure (Next.value (← f (xs.map ρ))) : Sem Next))
    (hp : evs l xs = some vs) (hB : okB ops listed i = true) (hd : Nat.blt d N = true) (hS : S w) (hrun : ∀ w', S w' → (f vs).run P w' = .ok r w')
    (k : HeldJ P ops Q N D S fuel (listed.setIfInBounds i true) ((d, r) :: l) w) : HeldJ P ops Q N D S (fuel + 1) listed l w :=
  h_run i hi hB hd hS (fun ρ w' hρ hw' => by rw [he, evs_ok hρ hp, Sem.run_bind, hrun w' hw']; rfl) k
theorem evs1 {x : Operand} {v : Value} (h : ev l x = some v) : evs l [x] = some [v] := by simp [evs, h]
theorem evs2 {x y : Operand} {u v : Value} (h : ev l x = some u) (h' : ev l y = some v) : evs l [x, y] = some [u, v] := by simp [evs, h, h']
theorem h_move (i : Nat) {x : Operand} {v : Value} (hi : ops[i]? = some ⟨some d, .move x, ty, pos, aft, none⟩) (hx : ev l x = some v) (hB : okB ops listed i = true) (hd : Nat.blt d N = true) (hS : S w)
    (k : HeldJ P ops Q N D S fuel (listed.setIfInBounds i true) ((d, v) :: l) w) : HeldJ P ops Q N D S (fuel + 1) listed l w :=
  h_run i hi hB hd hS (fun ρ w' hρ _ => by simp [execOp, hρ x _ hx]) k
theorem h_load (i : Nat) {t : TypeId} {x : Operand} {u r : Value} (hi : ops[i]? = some ⟨some d, .load t x, ty, pos, aft, none⟩) (hx : ev l x = some u) (hB : okB ops listed i = true) (hd : Nat.blt d N = true) (hS : S w) (hrun : ∀ w', S w' → (Instr.loadAt t u).run P w' = .ok r w')
    (k : HeldJ P ops Q N D S fuel (listed.setIfInBounds i true) ((d, r) :: l) w) : HeldJ P ops Q N D S (fuel + 1) listed l w :=
  h_pure i (xs := [x]) (f := fun | [a] => Instr.loadAt t a | _ => stuck "") hi (fun _ => rfl) (evs1 hx) hB hd hS hrun k
theorem h_fieldAddr (i : Nat) {s : TypeId} {n : Nat} {x : Operand} {u r : Value} (hi : ops[i]? = some ⟨some d, .fieldAddr s x n, ty, pos, aft, none⟩) (hx : ev l x = some u) (hB : okB ops listed i = true) (hd : Nat.blt d N = true) (hS : S w) (hrun : ∀ w', S w' → (Instr.fieldAt s u n).run P w' = .ok r w')
    (k : HeldJ P ops Q N D S fuel (listed.setIfInBounds i true) ((d, r) :: l) w) : HeldJ P ops Q N D S (fuel + 1) listed l w :=
  h_pure i (xs := [x]) (f := fun | [a] => Instr.fieldAt s a n | _ => stuck "") hi (fun _ => rfl) (evs1 hx) hB hd hS hrun k
theorem h_field (i : Nat) {s : TypeId} {n : Nat} {x : Operand} {u r : Value} (hi : ops[i]? = some ⟨some d, .field s x n, ty, pos, aft, none⟩) (hx : ev l x = some u) (hB : okB ops listed i = true) (hd : Nat.blt d N = true) (hS : S w) (hrun : ∀ w', S w' → (Instr.field s u n).run P w' = .ok r w')
    (k : HeldJ P ops Q N D S fuel (listed.setIfInBounds i true) ((d, r) :: l) w) : HeldJ P ops Q N D S (fuel + 1) listed l w :=
  h_pure i (xs := [x]) (f := fun | [a] => Instr.field s a n | _ => stuck "") hi (fun _ => rfl) (evs1 hx) hB hd hS hrun k
theorem h_conv (i : Nat) {s t : TypeId} {x : Operand} {u r : Value} (hi : ops[i]? = some ⟨some d, .convert s t x, ty, pos, aft, none⟩) (hx : ev l x = some u) (hB : okB ops listed i = true) (hd : Nat.blt d N = true) (hS : S w) (hrun : ∀ w', S w' → (convert s t u).run P w' = .ok r w')
    (k : HeldJ P ops Q N D S fuel (listed.setIfInBounds i true) ((d, r) :: l) w) : HeldJ P ops Q N D S (fuel + 1) listed l w :=
  h_pure i (xs := [x]) (f := fun | [a] => convert s t a | _ => stuck "") hi (fun _ => rfl) (evs1 hx) hB hd hS hrun k
theorem h_bin (i : Nat) {b : BinOp} {t t2 : TypeId} {x y : Operand} {u v r : Value} (hi : ops[i]? = some ⟨some d, .binOp b t x y t2, ty, pos, aft, none⟩) (hx : ev l x = some u) (hy : ev l y = some v) (hB : okB ops listed i = true) (hd : Nat.blt d N = true) (hS : S w) (hrun : ∀ w', S w' → (bin b t x y u v).run P w' = .ok r w')
    (k : HeldJ P ops Q N D S fuel (listed.setIfInBounds i true) ((d, r) :: l) w) : HeldJ P ops Q N D S (fuel + 1) listed l w :=
  h_pure i (xs := [x, y]) (f := fun | [a, c] => bin b t x y a c | _ => stuck "") hi (fun _ => rfl) (evs2 hx hy) hB hd hS hrun k
theorem h_indexAddr (i : Nat) {t : TypeId} {x y : Operand} {u v r : Value} (hi : ops[i]? = some ⟨some d, .indexAddr t x y, ty, pos, aft, none⟩) (hx : ev l x = some u) (hy : ev l y = some v) (hB : okB ops listed i = true) (hd : Nat.blt d N = true) (hS : S w) (hrun : ∀ w', S w' → (Instr.indexAt t u v).run P w' = .ok r w')
    (k : HeldJ P ops Q N D S fuel (listed.setIfInBounds i true) ((d, r) :: l) w) : HeldJ P ops Q N D S (fuel + 1) listed l w :=
  h_pure i (xs := [x, y]) (f := fun | [a, c] => Instr.indexAt t a c | _ => stuck "") hi (fun _ => rfl) (evs2 hx hy) hB hd hS hrun k
theorem h_len (i : Nat) {xs : List Operand} {ts : Array TypeId} {vs : List Value} {r : Value} (hi : ops[i]? = some ⟨some d, .call { callee := .builtin .len, args := xs.toArray, argTypes := ts }, ty, pos, aft, none⟩) (hp : evs l xs = some vs) (hB : okB ops listed i = true) (hd : Nat.blt d N = true) (hS : S w) (hrun : ∀ w', S w' → (Builtin.len_ ts ty vs.toArray).run P w' = .ok r w')
    (k : HeldJ P ops Q N D S fuel (listed.setIfInBounds i true) ((d, r) :: l) w) : HeldJ P ops Q N D S (fuel + 1) listed l w :=
  h_pure i (xs := xs) (f := fun vs => Builtin.len_ ts ty vs.toArray) hi (fun ρ => by simp only [execOp, resolve, invoke, builtin, pure_bind, List.map_toArray]) hp hB hd hS hrun k

/-- One operation that comes up, carried out. -/
theorem wpOp_of_list {o : Oper} {i : Nat} {listed' : Array Bool} {a : Act} (hi : ops[i]? = some o) (h : wpList P ops (HPost P ops Q S fuel listed') [o] a w) :
    wpOp P ops (calm Q) i (fun a' w' => S w' ∧ wpAnyH P .any ops (calm Q) S fuel listed' a' w') a w := by
  unfold wpOp
  simp only [hi]
  unfold wpList at h
  split
  · rename_i hw
    rw [if_pos hw] at h
    rcases h with h | ⟨_, _, _, h, _⟩
    · refine .inl ?_
      unfold Oper.wp at *
      generalize (execOp a.eval o).run P w = r at *
      cases r with
      | ok n w' =>
        cases n <;> simp only [Oper.upon] at h ⊢
        case value u => exact h.2
        case skip => exact h.2
        case defer dd => exact h.2
        case enter f args =>
          refine Calls.mono h fun e w'' he => ?_
          cases e with
          | returned u => exact he.2
          | panicked c => obtain ⟨he, _⟩ := he; cases he
          | outgrown => obtain ⟨_, _, he, _⟩ := he; cases he
        case row row args => exact Rows.mono h fun u w'' he => he.2
      | halt x w' =>
        cases x <;> simp only [Oper.upon] at h ⊢
        case panic u => obtain ⟨he, _⟩ := h; cases he
    · cases h
  · rename_i hw
    rw [if_neg hw] at h
    exact h.2
theorem h_one (i : Nat) {o : Oper} (hr : Region.ready .any ops listed = [i]) (hi : ops[i]? = some o) (h : OpsJ P ops (HPost P ops Q S fuel (listed.setIfInBounds i true)) N D l w [o]) : HeldJ P ops Q N D S (fuel + 1) listed l w := fun a ha =>
  wpAnyH_all hr (by simp) fun j hj => by
    obtain rfl : j = i := by simpa using hj
    exact wpOp_of_list hi (h a ha)
theorem h_two (i j : Nat) {o u : Oper} (hr : Region.ready .any ops listed = [i, j]) (hi : ops[i]? = some o) (hj : ops[j]? = some u) (h : OpsJ P ops (HPost P ops Q S fuel (listed.setIfInBounds i true)) N D l w [o])
    (h' : OpsJ P ops (HPost P ops Q S fuel (listed.setIfInBounds j true)) N D l w [u]) : HeldJ P ops Q N D S (fuel + 1) listed l w := fun a ha =>
  wpAnyH_all hr (by simp) fun k hk => by
    rcases (by simpa using hk : k = i ∨ k = j) with rfl | rfl
    · exact wpOp_of_list hi (h a ha)
    · exact wpOp_of_list hj (h' a ha)
theorem h_next (hS : S w) (k : HeldJ P ops Q N D S fuel listed l w) : OpsJ P ops (HPost P ops Q S fuel listed) N D l w [] := fun a ha => ⟨rfl, hS, k a ha⟩
/-- Several ways that meet. -/
theorem h_meet {α : Type} (fr : α → Fr) (H : α → World → Prop) (listed' : Array Bool) (fuel' : Nat) (k : ∀ x w', H x w' → HeldJ P ops Q N D S fuel' listed' (fr x) w')
    (h : (∀ l' w', (∃ x, Sub (fr x) l' ∧ H x w') → HeldJ P ops Q N D S fuel' listed' l' w') → HeldJ P ops Q N D S fuel listed l w) : HeldJ P ops Q N D S fuel listed l w :=
  h fun _ w' ⟨x, hs, hH⟩ a ha => k x w' hH a (ha.weak hs)
theorem h_eq {listed' : Array Bool} (he : listed = listed') (h : HeldJ P ops Q N D S fuel listed' l w) : HeldJ P ops Q N D S fuel listed l w := he ▸ h
theorem h_done (hr : Region.ready .any ops listed = []) (h : NormJ Q N D l w) : HeldJ P ops Q N D S fuel listed l w := fun a ha => wpAnyH_done hr ⟨rfl, h a ha⟩ _
end
end Go.Rl
/- Walks of the functions that append rationals, and of the statement WireRationals. Conditions: what is appended to is short. -/
namespace Go.Rl
open Go.RowKit Go.Proofs

theorem call_AppendRat : Callable Try.prog 30 := ⟨_, Try.func30, by kernel_rfl, rfl⟩

theorem Ext.at {w w' : World} (hx : Ext w w') {g : Nat} {o : Obj} (h : w.heap[g]? = some o) : w'.heap[g]? = some o := by
  rw [hx.block g (by obtain ⟨h, _⟩ := Array.getElem?_eq_some_iff.1 h; exact h)]
  exact h
theorem OwnB.low {base base' : Nat} {l : List UInt8} {v : Value} {w : World} (h : OwnB base l v w) (hb : base' ≤ base) : OwnB base' l v w := by
  have hge := h.ge
  obtain ⟨n, h⟩ := h
  exact ⟨n, ownsRow_base h fun k hk => Nat.le_trans hb (hge k hk)⟩

theorem OwnB.grown {base : Nat} {l : List UInt8} {u v r : Value} {w w' : World} (h : OwnB base l u w) (hg : Grew w w' v r) (hne : u.ownBlock = none ∨ u.ownBlock ≠ v.ownBlock) : OwnB base l u w' := by
  obtain ⟨n, h⟩ := h
  exact ⟨n, World.ownsRow.kept h hg.grown hne⟩
theorem OwnB.lt {base : Nat} {l : List UInt8} {v : Value} {w : World} (h : OwnB base l v w) : ∀ k, v.ownBlock = some k → k < w.heap.size := by
  obtain ⟨n, h⟩ := h
  exact fun k hk => (World.ownsRow.lt h k hk).2

/-- A rational value: a sign and two rows of limbs. -/
def RatV (b : Bool) (n m : List UInt32) : Fact := fun v w => ∃ x y, v = .agg #[B b, x, y] ∧ Wds n x w ∧ Wds m y w
theorem RatV.ext {b : Bool} {n m : List UInt32} {v : Value} {w w' : World} (h : RatV b n m v w) (hx : Ext w w') : RatV b n m v w' := by
  obtain ⟨x, y, rfl, h1, h2⟩ := h
  exact ⟨x, y, rfl, h1.ext hx, h2.ext hx⟩
def sgn (b : Bool) : UInt8 := if b then 1 else 0
def encR (b : Bool) (n m : List UInt32) : List UInt8 := [sgn b] ++ encN n ++ encN m

theorem size_bool' : (Try.prog.info? 4).map (·.size) = some 1 := by kernel_rfl
theorem size_Nat : (Try.prog.info? 39).map (·.size) = some 1 := by kernel_rfl
theorem size_Rat : (Try.prog.info? 41).map (·.size) = some 3 := by kernel_rfl

section
variable {w : World} {l : List UInt8} {ns : List UInt32} {v nv : Value}


theorem AppendRat_spec {b : Bool} {n m : List UInt32} {rv : Value} (hv : Bts l v w) (hr : RatV b n m rv w) (hl : l.length + 4 * n.length + 4 * m.length ≤ 8796093022208) :
    Calls Try.prog 30 #[v, rv] w (Ret fun r w' => Ext w w' ∧ OwnB w.heap.size (l ++ encR b n m) r w') := by
  obtain ⟨x, y, rfl, hx, hy⟩ := hr
  have hn := encN_len n (by have := hx.len; omega)
  refine enter (vs := [v, .agg #[B b, x, y]]) Try.func30 rfl rfl rfl ?_
  refine c_seq (c_region (o_box rfl rfl r_box ?_))
  have e1 : Ext w (w.alloc (.cells (Value.agg #[B b, x, y]).cells 41)) := Ext.new w _
  have hbx := heap_alloc_new w (.cells (Value.agg #[B b, x, y]).cells 41)
  revert e1 hbx
  generalize w.alloc (.cells (Value.agg #[B b, x, y]).cells 41) = w1
  intro e1 hbx
  have cell : ∀ (i : Nat) (u : Value), (#[B b, x, y] : Array Value)[i]? = some u → ∀ w', Ext w1 w' → w'.cell? ⟨w.heap.size, i, none⟩ = some u := fun i u hu w' hw' => cellAt (hw'.at hbx) hu
  refine o_assign rfl rfl (o_nil (n_then (c_seq (c_region (o_assign rfl rfl (o_nil (n_then ?_)))))))
  refine c_seq (c_cut (fun _ : Unit => [(0, v), (3, .pointer (some ⟨w.heap.size, 0, none⟩)), (5, U8 (sgn b))]) (fun _ w' => w' = w1) ?_ ?_)
  · refine c_seq (c_region ?_)
    refine o_fieldAddr rfl rfl (r_fieldAt Try.underlying41 rfl size_bool' (by omega)) ?_
    refine o_load rfl rfl (r_load1 Try.underlying4 rfl (cell 0 _ rfl _ (Ext.refl _))) ?_
    refine o_nil (n_then ?_)
    cases b with
    | true => exact c_yes rfl (c_region (o_assign rfl rfl (o_nil (n_meet () ⟨rfl, rfl, rfl, trivial⟩ rfl))))
    | false => exact c_no rfl (c_skip (n_meet () ⟨rfl, rfl, rfl, trivial⟩ rfl))
  rintro _ w2 rfl
  refine n_then (c_seq ?_)
  refine c_held (Ext w2) 12 rfl (by kernel_rfl) ?_
  have hd : Ext w2 w2.drew := (Ext.refl w2).drew
  refine h_move 0 rfl rfl (by kernel_rfl) rfl hd ?_
  refine h_move 2 rfl rfl (by kernel_rfl) rfl hd ?_
  refine h_fieldAddr 5 rfl rfl (by kernel_rfl) rfl hd (fun w' _ => r_fieldAt Try.underlying41 rfl size_Nat (by omega)) ?_
  refine h_load 6 rfl rfl (by kernel_rfl) rfl hd (fun w' hw' => r_load1 Try.underlying39 rfl (cell 1 _ rfl _ hw')) ?_
  refine h_fieldAddr 8 rfl rfl (by kernel_rfl) rfl hd (fun w' _ => r_fieldAt Try.underlying41 rfl size_Nat (by omega)) ?_
  refine h_load 9 rfl rfl (by kernel_rfl) rfl hd (fun w' hw' => r_load1 Try.underlying39 rfl (cell 2 _ rfl _ hw')) ?_
  refine h_meet (fun p : Value × Value => [(9, p.1), (11, p.2), (14, x), (17, y)]) (fun p w' => Ext w2 w' ∧ OwnB w2.heap.size l p.1 w' ∧ Bts [sgn b] p.2 w') #[true, true, true, true, false, true, true, false, true, true, false, false] 4 ?_ (fun join => h_two 1 3 (by kernel_rfl) rfl rfl ?_ ?_)
  · rintro ⟨r9, r11⟩ w3 ⟨hx3, ho9, ho11⟩
    dsimp only at ho9 ho11
    refine h_one 4 (by kernel_rfl) rfl ?_
    obtain ⟨r4, w4, hr4, ho4, hg4⟩ := r_appB (ty := 29) ho9 ho11 (by simp only [List.length_cons, List.length_nil]; omega) hx3.size
    have hx4 := hx3.of_grew hg4 ho9.ge
    refine o_append rfl rfl hr4 (h_next hx4 ?_)
    refine h_one 7 (by kernel_rfl) rfl ?_
    refine o_call call_nat rfl rfl (nat_spec hx4 ho4 (hx.ext e1) (by simp only [List.length_append, List.length_cons, List.length_nil]; omega)) ?_
    rintro r5 w5 ⟨ho5, hx5, _⟩
    refine h_next hx5 (h_one 10 (by kernel_rfl) rfl ?_)
    refine o_call call_nat rfl rfl (nat_spec hx5 ho5 (hy.ext e1) (by simp only [List.length_append, List.length_cons, List.length_nil]; omega)) ?_
    rintro r6 w6 ⟨ho6, hx6, _⟩
    refine h_next hx6 (h_one 11 (by kernel_rfl) rfl ?_)
    refine o_assign rfl rfl (h_next hx6 (h_done (by kernel_rfl) (n_then (c_ret ?_))))
    refine r_body1 rfl rfl ?_
    refine ⟨_, rfl, e1.trans hx6, ?_⟩
    have := ho6.low e1.size
    simpa only [encR, List.append_assoc] using this
  · refine o_call call_Clone rfl rfl (Clone_spec ((hv.ext e1).ext hd) (by omega)) ?_
    rintro r9 w3 ⟨hx3, ho9⟩
    obtain ⟨r11, w4, hr11, hx4, ho11, _⟩ := r_bsB (w := w3) w3.heap.size [sgn b] (by simp) (Nat.le_refl _)
    refine h_next (hd.trans hx3) (h_one 3 (by kernel_rfl) rfl ?_)
    refine o_buildSlice (vs := [(0, U8 (sgn b))]) rfl rfl hr11 (h_next ((hd.trans hx3).trans hx4) (h_eq (by kernel_rfl) (join _ _ ⟨(r9, r11), ⟨rfl, rfl, rfl, rfl, trivial⟩, (hd.trans hx3).trans hx4, ?_, ho11.bts⟩)))
    exact (ho9.ext hx4).low hd.size
  · obtain ⟨r11, w3, hr11, hx3, ho11, _⟩ := r_bsB (w := w2.drew) w2.heap.size [sgn b] (by simp) hd.size
    refine o_buildSlice (vs := [(0, U8 (sgn b))]) rfl rfl hr11 (h_next (hd.trans hx3) (h_one 1 (by kernel_rfl) rfl ?_))
    refine o_call call_Clone rfl rfl (Clone_spec (((hv.ext e1).ext hd).ext hx3) (by omega)) ?_
    rintro r9 w4 ⟨hx4, ho9⟩
    refine h_next ((hd.trans hx3).trans hx4) (h_eq (by kernel_rfl) (join _ _ ⟨(r9, r11), ⟨rfl, rfl, rfl, rfl, trivial⟩, (hd.trans hx3).trans hx4, ?_, ho11.bts.ext hx4⟩))
    exact ho9.low (hd.trans hx3).size

end
end Go.Rl
/- Rationals that lie in a block; canonical rationals as plain maths. Conditions: each names its own. -/
namespace Go.Rl
open Go.RowKit Go.Proofs

section
variable {P : Program} {w w' : World}
theorem r_fAt {s : TypeId} {fs : Array Field} {f : Field} {n g o : Nat} (hs : P.underlying s = some (.struct fs)) (hf : fs[n]? = some f) (hk : (P.cellsOf f.type == 0) = false) (ho : f.offset = o) :
    (Instr.fieldAt s (.pointer (some ⟨g, 0, none⟩)) n).run P w = .ok (.pointer (some ⟨g, o, none⟩)) w := by
  have hk' : P.cellsOf f.type ≠ 0 := by simpa using hk
  obtain ⟨k, hk1⟩ : ∃ k, (P.info? f.type).map (·.size) = some k := by
    cases hi : (P.info? f.type).map (·.size) with
    | none => exact absurd (by simp [Program.cellsOf, hi]) hk'
    | some k => exact ⟨k, rfl⟩
  have hk0 : k ≠ 0 := by
    intro h
    apply hk'
    simp [Program.cellsOf, hk1, h]
  rw [r_fieldAt hs hf hk1 hk0, ho, add_mk, Nat.zero_add]
end
section
variable {w w' : World}
theorem RatV.stable (b : Bool) (n m : List UInt32) : Stable (RatV b n m) := fun _ _ _ h hx => h.ext hx
theorem RatV.mk {b : Bool} {n m : List UInt32} {x y : Value} (hx : Wds n x w) (hy : Wds m y w) : RatV b n m (.agg #[B b, x, y]) w := ⟨x, y, rfl, hx, hy⟩
theorem Blk.ldR {g : Nat} {T : TypeId} {a b c : Value} (h : Blk g T [a, b, c] w) : (Instr.loadAt 41 (.pointer (some ⟨g, 0, none⟩))).run Try.prog w = .ok (.agg #[a, b, c]) w :=
  r_ldA h (fun j v hj => by simpa using hj) Try.underlying41 rfl size_Rat
theorem r_boxR {b : Bool} {n m : List UInt32} {v : Value} (h : RatV b n m v w) :
    ∃ g x y w', (Instr.box 41 v).run Try.prog w = .ok (.pointer (some ⟨g, 0, none⟩)) w' ∧ Ext w w' ∧ Blk g 41 [B b, x, y] w' ∧ Wds n x w' ∧ Wds m y w' := by
  obtain ⟨x, y, rfl, hx, hy⟩ := h
  exact ⟨_, x, y, _, r_box, Ext.new w _, Blk.new (T := 41) (.agg #[B b, x, y]) rfl, hx.ext (Ext.new w _), hy.ext (Ext.new w _)⟩
theorem zero_Rat : (Try.prog.info? 41).map (·.zero) = some (some (.agg #[B false, .slice none 0 0, .slice none 0 0])) := by kernel_rfl
theorem r_allocR : ∃ g w', (Instr.alloc 41 true (.tuple #[])).run Try.prog w = .ok (.pointer (some ⟨g, 0, none⟩)) w' ∧ w.heap.size ≤ g ∧ Ext w w' ∧ Blk g 41 [B false, .slice none 0 0, .slice none 0 0] w' :=
  r_allocB zero_Rat rfl
theorem rat_noWord (b : Bool) (A C : Option Addr) (n c m d : Nat) (l : List UInt32) : ∀ (j : Nat) (u : Value), u ∈ l.map U32 → (#[.bool b, .slice A n c, .slice C m d] : Array Value)[j]? ≠ some u := by
  intro j u hu
  obtain ⟨x, _, rfl⟩ := List.mem_map.1 hu
  match j with
  | 0 => simp [U32]
  | 1 => simp [U32]
  | 2 => simp [U32]
  | j + 3 => simp
/-- Limbs stand when a block that holds a rational is written. -/
theorem Wds.byR {l : List UInt32} {v : Value} {g : Nat} {T : TypeId} {b : Bool} {x y : Value} (h : Wds l v w) (hb : Blk g T [B b, x, y] w) (hx : ∃ A n c, x = .slice A n c) (hy : ∃ A n c, y = .slice A n c) (hw : w.grownBy w' (some g)) : Wds l v w' := by
  obtain ⟨A, n, c, rfl⟩ := hx
  obtain ⟨C, m, d, rfl⟩ := hy
  exact Sl.keep h hb (rat_noWord b A C n c m d l) hw
theorem Wds.isS {l : List UInt32} {v : Value} (h : Wds l v w) : ∃ A n c, v = .slice A n c := by
  obtain ⟨A, n, c, rfl, _⟩ := h
  exact ⟨A, n, c, rfl⟩
/-- A rational is stored into a block that holds one. -/
theorem Blk.stR {g : Nat} {b c : Bool} {x y v : Value} {n m : List UInt32} (h : Blk g 41 [B b, x, y] w) (hx : ∃ A n c, x = .slice A n c) (hy : ∃ A n c, y = .slice A n c) (hv : RatV c n m v w) :
    ∃ p q w', v = .agg #[B c, p, q] ∧ (Instr.storeAt 41 (.pointer (some ⟨g, 0, none⟩)) v).run Try.prog w = .ok () w' ∧ w.grownBy w' (some g) ∧ Blk g 41 [B c, p, q] w' ∧ Wds n p w' ∧ Wds m q w' := by
  obtain ⟨p, q, rfl, hp, hq⟩ := hv
  obtain ⟨A, n1, c1, rfl⟩ := hp.isS
  obtain ⟨C, n2, c2, rfl⟩ := hq.isS
  refine ⟨_, _, _, rfl, r_stA (m := [B c, .slice A n1 c1, .slice C n2 c2]) h rfl size_Rat ?_, grownBy_setRow w g _, h.row _, hp.byR h hx hy (grownBy_setRow w g _), hq.byR h hx hy (grownBy_setRow w g _)⟩
  intro u hu
  simp only [List.mem_cons, List.not_mem_nil, or_false] at hu
  rcases hu with rfl | rfl | rfl <;> rfl
theorem r_eql_b {P : Program} {x y : Operand} {t : TypeId} (ht : P.underlying t = some .bool) {a b : Bool} : (bin .eql t x y (B a) (B b)).run P w = .ok (B (decide (a = b))) w := by
  have h : (Op.equal t (B a) (B b)).run P w = .ok (decide (a = b)) w := by
    show (Op.equalIn (9999 + 1) t (.bool a) (.bool b)).run P w = _
    unfold Op.equalIn
    cases a <;> cases b <;> simp [run_underlying ht]
  show (do pure (Value.bool (← Op.equal t (B a) (B b))) : Sem Value).run P w = _
  rw [Sem.run_bind, h]; rfl
theorem r_buildR {c : Bool} {p q : Value} (hp : ∃ A n c, p = .slice A n c) (hq : ∃ A n c, q = .slice A n c) : (Instr.build 41 #[(0, B c), (1, p), (2, q)]).run Try.prog w = .ok (.agg #[B c, p, q]) w := by
  obtain ⟨A, n, d, rfl⟩ := hp
  obtain ⟨C, m, e, rfl⟩ := hq
  exact run_build _ _ _ #[B c, .slice A n d, .slice C m e] (by kernel_rfl)
theorem r_buildR2 {c : Bool} {p : Value} (hp : ∃ A n c, p = .slice A n c) : (Instr.build 41 #[(0, B c), (1, p)]).run Try.prog w = .ok (.agg #[B c, p, .slice none 0 0]) w := by
  obtain ⟨A, n, d, rfl⟩ := hp
  exact run_build _ _ _ #[B c, .slice A n d, .slice none 0 0] (by kernel_rfl)
theorem r_buildR0 : (Instr.build 41 #[]).run Try.prog w = .ok (.agg #[B false, .slice none 0 0, .slice none 0 0]) w :=
  run_build _ _ _ #[B false, .slice none 0 0, .slice none 0 0] (by kernel_rfl)
end

/-! ### Plain maths -/
theorem val_inj : ∀ {l m : List UInt32}, l.length = m.length → val l = val m → l = m
  | [], [], _, _ => rfl
  | [], _ :: _, h, _ => by simp at h
  | _ :: _, [], h, _ => by simp at h
  | x :: l, y :: m, h, hv => by
    have hx := u32_lt x
    have hy := u32_lt y
    rw [val, val] at hv
    have h1 : x.toNat = y.toNat := by omega
    have h2 : val l = val m := by omega
    rw [u32_ext h1, val_inj (by simpa using h) h2]
def ud (m : List UInt32) : List UInt32 := if val m = 0 then [1] else m
theorem val_one1 : val [1] = 1 := rfl
theorem lb_one : lb 1 = [1] := rfl
theorem val_ud (m : List UInt32) : val (ud m) = if val m = 0 then 1 else val m := by unfold ud; split <;> simp_all [val_one1]
theorem ud_pos (m : List UInt32) : 0 < val (ud m) := by rw [val_ud]; split <;> omega
/-- The canonical form of a quotient. -/
def cqN (s : Bool) (n : Nat) : Bool := s && decide (0 < n)
def cqD (n d : Nat) : List UInt32 := if d / Nat.gcd n d = 1 then [] else lb (d / Nat.gcd n d)
/-- Whether a rational is canonical. -/
def rv (s : Bool) (n m : List UInt32) : Bool := decide (s = cqN s (val n) ∧ n = lb (val n / Nat.gcd (val n) (val (ud m))) ∧ m = cqD (val n) (val (ud m)))
theorem gcd_pos {n d : Nat} (h : 0 < d) : 0 < Nat.gcd n d := Nat.gcd_pos_of_pos_right n h
theorem lb_is1 {x : Nat} : lb x = [1] ↔ x = 1 := ⟨fun h => lb_inj (h.trans lb_one.symm), fun h => by rw [h, lb_one]⟩
theorem cq_zero {d : Nat} (h : 0 < d) : cqD 0 d = [] := by unfold cqD; rw [Nat.gcd_zero_left, Nat.div_self h, if_pos rfl]
theorem cq_one {n : Nat} : cqD n 1 = [] := by unfold cqD; rw [Nat.gcd_one_right]; rfl
end Go.Rl

/- Typed readings of deep data. Conditions: each lemma names its own. -/
import Derived.Test.YtifjnhdnpglbpaaDeep
import Derived.Test.YtifjnhdnpglbpaaOpen
namespace Go.Rl
open Go.ChangeShapes Go.WideShapes Go.ChangeAt Go.RowKit
section
variable {P : Program} {t e : TypeId} {d : Dt}
theorem Ty.inv_int {k : IntKind} (hu : P.underlying t = some (.int k)) (h : Ty P t d) : ∃ n, d = .int k n ∧ (Lit.int k n).wf = true := by
  cases h with
  | int h hw => rw [hu] at h; cases h; exact ⟨_, rfl, hw⟩
  | bool h => rw [hu] at h; cases h
  | str h => rw [hu] at h; cases h
  | sl h => rw [hu] at h; cases h
  | st h => rw [hu] at h; cases h
  | arr h => rw [hu] at h; cases h
theorem Ty.inv_u8 (hu : P.underlying t = some (.int .u8)) (h : Ty P t d) : ∃ x, d = dU8 x := by
  obtain ⟨n, rfl, hw⟩ := h.inv_int hu
  obtain ⟨x, rfl⟩ := wf_U8 hw
  exact ⟨x, rfl⟩
theorem Ty.inv_u32 (hu : P.underlying t = some (.int .u32)) (h : Ty P t d) : ∃ x, d = dU32 x := by
  obtain ⟨n, rfl, hw⟩ := h.inv_int hu
  obtain ⟨x, rfl⟩ := wf_U32 hw
  exact ⟨x, rfl⟩
theorem Ty.inv_i (hu : P.underlying t = some (.int .i64)) (h : Ty P t d) : ∃ x, d = dI x := by
  obtain ⟨n, rfl, hw⟩ := h.inv_int hu
  obtain ⟨h1, h2⟩ := wf_I hw
  exact ⟨Int64.ofInt n, by unfold dI; rw [Int64.toInt_ofInt_of_le (by simpa using h1) (by simp; omega)]⟩
theorem Ty.inv_bool (hu : P.underlying t = some .bool) (h : Ty P t d) : ∃ x, d = .bool x := by
  cases h with
  | int h hw => rw [hu] at h; cases h
  | bool h => exact ⟨_, rfl⟩
  | str h => rw [hu] at h; cases h
  | sl h => rw [hu] at h; cases h
  | st h => rw [hu] at h; cases h
  | arr h => rw [hu] at h; cases h
theorem Ty.inv_str (hu : P.underlying t = some .string) (h : Ty P t d) : ∃ x, d = .str x ∧ x.length ≤ maxLen := by
  cases h with
  | int h hw => rw [hu] at h; cases h
  | bool h => rw [hu] at h; cases h
  | str h hl => exact ⟨_, rfl, hl⟩
  | sl h => rw [hu] at h; cases h
  | st h => rw [hu] at h; cases h
  | arr h => rw [hu] at h; cases h
theorem list_of {α : Type} {f : α → Dt} : ∀ (l : List Dt), (∀ d ∈ l, ∃ x, d = f x) → ∃ m : List α, l = m.map f
  | [], _ => ⟨[], rfl⟩
  | d :: l, h => by
    obtain ⟨x, rfl⟩ := h d (by simp)
    obtain ⟨m, rfl⟩ := list_of l fun e he => h e (by simp [he])
    exact ⟨x :: m, rfl⟩
theorem Ty.inv_slD (hu : P.underlying t = some (.slice e)) (h : Ty P t d) : ∃ l, d = .sl l ∧ ∀ x ∈ l, Ty P e x := by
  cases h with
  | int h hw => rw [hu] at h; cases h
  | bool h => rw [hu] at h; cases h
  | str h => rw [hu] at h; cases h
  | sl h ha => rw [hu] at h; cases h; exact ⟨_, rfl, ha⟩
  | st h => rw [hu] at h; cases h
  | arr h => rw [hu] at h; cases h
theorem Ty.inv_sl {α : Type} {f : α → Dt} (hu : P.underlying t = some (.slice e)) (he : ∀ x, Ty P e x → ∃ y, x = f y) (h : Ty P t d) : ∃ l : List α, d = .sl (l.map f) := by
  obtain ⟨l, rfl, ha⟩ := h.inv_slD hu
  obtain ⟨m, rfl⟩ := list_of l fun x hx => he x (ha x hx)
  exact ⟨m, rfl⟩
theorem Ty.inv_st {fs : Array Field} (hu : P.underlying t = some (.struct fs)) (h : Ty P t d) : ∃ l, d = .st l ∧ l.length = fs.size ∧ ∀ (i : Nat) (f : Field) (x : Dt), fs[i]? = some f → l[i]? = some x → Ty P f.type x := by
  cases h with
  | int h hw => rw [hu] at h; cases h
  | bool h => rw [hu] at h; cases h
  | str h => rw [hu] at h; cases h
  | sl h => rw [hu] at h; cases h
  | st h h1 h2 => rw [hu] at h; cases h; exact ⟨_, rfl, h1, h2⟩
  | arr h => rw [hu] at h; cases h
theorem Ty.inv_arr {α : Type} {f : α → Dt} {n : Nat} (hu : P.underlying t = some (.array n e)) (he : ∀ x, Ty P e x → ∃ y, x = f y) (h : Ty P t d) : ∃ l : List α, d = .st (l.map f) ∧ l.length = n := by
  cases h with
  | int h hw => rw [hu] at h; cases h
  | bool h => rw [hu] at h; cases h
  | str h => rw [hu] at h; cases h
  | sl h => rw [hu] at h; cases h
  | st h => rw [hu] at h; cases h
  | arr h h1 h2 =>
    rw [hu] at h; cases h
    obtain ⟨m, rfl⟩ := list_of _ fun x hx => he x (h2 x hx)
    exact ⟨m, rfl, by simpa using h1⟩
def dBs (l : List UInt8) : Dt := .sl (l.map dU8)
def dBss (l : List (List UInt8)) : Dt := .sl (l.map dBs)
def dNat (l : List UInt32) : Dt := .sl (l.map dU32)
theorem Rp.bts {w : World} {l : List UInt8} {v : Value} : Rp w (dBs l) [v] ↔ Bts l v w := Rp.bytes
theorem Rp.wds {w : World} {l : List UInt32} {v : Value} : Rp w (dNat l) [v] ↔ Wds l v w := Rp.words
theorem Ty.inv_bytes (hu : P.underlying t = some (.slice e)) (he : P.underlying e = some (.int .u8)) (h : Ty P t d) : ∃ l, d = dBs l := h.inv_sl hu fun _ hx => hx.inv_u8 he
theorem Ty.inv_nat (hu : P.underlying t = some (.slice e)) (he : P.underlying e = some (.int .u32)) (h : Ty P t d) : ∃ l, d = dNat l := h.inv_sl hu fun _ hx => hx.inv_u32 he
end
section
variable {P : Program} {H : Type} {enc : TypeId × Value → H} {W : World} {base : Nat} {spare : Nat → Bool} {held : Bool} {r : Reach} {b0 : Nat} {v : Value} {d : DataW H} {ps : List MemPlace} {t e : TypeId}
theorem open_D {ts : List TypeId} (hc : closedB P ts = true) (ht : ts.contains t = true) (h : DataW.Trod enc P W base spare held t v d ps) : Rp W (dtOf d) v.cells.toList ∧ Ty P t (dtOf d) := by
  obtain ⟨fuel, hf⟩ := h
  exact open_deep hc fuel t _ (d, ps) (by simpa using ht) hf
theorem open_DSl {ts : List TypeId} (hc : closedB P ts = true) (ht : ts.contains t = true) (hu : P.underlying t = some (.slice e)) (ho : Value.okWide P W r b0 t v) (h : DataW.Trod enc P W base spare held t v d ps) : Rp W (dtOf d) [v] ∧ Ty P t (dtOf d) := by
  obtain ⟨a, len, cap, rfl⟩ := okWide_slice hu ho
  exact open_D hc ht h
theorem open_DSt {ts : List TypeId} {fs : Array Field} (hc : closedB P ts = true) (ht : ts.contains t = true) (hu : P.underlying t = some (.struct fs)) (ho : Value.okWide P W r b0 t v) (h : DataW.Trod enc P W base spare held t v d ps) : ∃ cs : List Value, v = .agg cs.toArray ∧ Rp W (dtOf d) cs ∧ Ty P t (dtOf d) := by
  obtain ⟨cs, rfl, _⟩ := okWide_struct hu ho
  obtain ⟨h1, h2⟩ := open_D hc ht h
  exact ⟨cs.toList, rfl, h1, h2⟩
end
end Go.Rl

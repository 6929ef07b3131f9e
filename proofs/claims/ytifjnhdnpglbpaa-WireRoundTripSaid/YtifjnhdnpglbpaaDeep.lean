/- Deep data: a value and what it reaches, read as a tree; how arguments read so. Conditions: each lemma names its own. -/
import Derived.Test.YtifjnhdnpglbpaaStr
import Derived.ProofKit
import Derived.OpenShut
import Derived.ChangeArms
import Derived.Deep.MidRow
namespace Go.Rl
open Go.RowKit

inductive Dt where
  | int (k : IntKind) (n : Int)
  | bool (b : Bool)
  | str (l : List UInt8)
  | sl (l : List Dt)
  | st (l : List Dt)

mutual
def Dt.size : Dt → Nat
  | .int _ _ => 1
  | .bool _ => 1
  | .str _ => 1
  | .sl _ => 1
  | .st l => Dt.sizeAll l
def Dt.sizeAll : List Dt → Nat
  | [] => 0
  | d :: l => d.size + Dt.sizeAll l
end
mutual
def Rp (w : World) : Dt → List Value → Prop
  | .int k n, cs => cs = [.int k n]
  | .bool b, cs => cs = [.bool b]
  | .str l, cs => cs = [S l]
  | .sl l, cs => ∃ A n c, cs = [.slice A n c] ∧ l.length = n ∧ n ≤ c ∧ c ≤ maxLen ∧ (A = none → c = 0) ∧ (0 < n → ∃ ad xs, A = some ad ∧ Cells w ad xs ∧ RpAll w l xs)
  | .st l, cs => RpAll w l cs
def RpAll (w : World) : List Dt → List Value → Prop
  | [], cs => cs = []
  | d :: ds, cs => ∃ c1 c2, cs = c1 ++ c2 ∧ Rp w d c1 ∧ RpAll w ds c2
end

mutual
theorem Rp.len {w : World} : ∀ {d : Dt} {cs : List Value}, Rp w d cs → cs.length = d.size
  | .int k n, cs, h => by simp only [Rp] at h; subst h; rfl
  | .bool b, cs, h => by simp only [Rp] at h; subst h; rfl
  | .str l, cs, h => by simp only [Rp] at h; subst h; rfl
  | .sl l, cs, h => by simp only [Rp] at h; obtain ⟨A, n, c, rfl, _⟩ := h; rfl
  | .st l, cs, h => by simp only [Rp] at h; simpa [Dt.size] using RpAll.len h
theorem RpAll.len {w : World} : ∀ {l : List Dt} {cs : List Value}, RpAll w l cs → cs.length = Dt.sizeAll l
  | [], cs, h => by simp only [RpAll] at h; subst h; rfl
  | d :: l, cs, h => by
    simp only [RpAll] at h
    obtain ⟨c1, c2, rfl, h1, h2⟩ := h
    simp [Dt.sizeAll, Rp.len h1, RpAll.len h2]
end
mutual
theorem Rp.ext {w w' : World} (hx : Ext w w') : ∀ {d : Dt} {cs : List Value}, Rp w d cs → Rp w' d cs
  | .int k n, cs, h => by simpa only [Rp] using h
  | .bool b, cs, h => by simpa only [Rp] using h
  | .str l, cs, h => by simpa only [Rp] using h
  | .sl l, cs, h => by
    simp only [Rp] at h ⊢
    obtain ⟨A, n, c, h1, h2, h3, h4, h5, h6⟩ := h
    refine ⟨A, n, c, h1, h2, h3, h4, h5, fun hn => ?_⟩
    obtain ⟨ad, xs, h7, h8, h9⟩ := h6 hn
    exact ⟨ad, xs, h7, h8.ext hx, RpAll.ext hx h9⟩
  | .st l, cs, h => by simp only [Rp] at h ⊢; exact RpAll.ext hx h
theorem RpAll.ext {w w' : World} (hx : Ext w w') : ∀ {l : List Dt} {cs : List Value}, RpAll w l cs → RpAll w' l cs
  | [], cs, h => by simpa only [RpAll] using h
  | d :: l, cs, h => by
    simp only [RpAll] at h ⊢
    obtain ⟨c1, c2, h0, h1, h2⟩ := h
    exact ⟨c1, c2, h0, Rp.ext hx h1, RpAll.ext hx h2⟩
end

section
variable {w : World}
theorem RpAll.nil : RpAll w [] [] := by simp only [RpAll]
theorem RpAll.cons {d : Dt} {l : List Dt} {a b : List Value} (h : Rp w d a) (h' : RpAll w l b) : RpAll w (d :: l) (a ++ b) := by simp only [RpAll]; exact ⟨a, b, rfl, h, h'⟩
theorem RpAll.append {l m : List Dt} : ∀ {a b : List Value}, RpAll w l a → RpAll w m b → RpAll w (l ++ m) (a ++ b) := by
  induction l with
  | nil => intro a b h h'; simp only [RpAll] at h; subst h; exact h'
  | cons d l ih =>
    intro a b h h'
    simp only [RpAll] at h
    obtain ⟨c1, c2, rfl, h1, h2⟩ := h
    rw [List.append_assoc]
    exact RpAll.cons h1 (ih h2 h')
theorem sizeAll_uniform {sz : Nat} : ∀ {l : List Dt}, (∀ d ∈ l, d.size = sz) → Dt.sizeAll l = l.length * sz
  | [], _ => by simp [Dt.sizeAll]
  | d :: l, h => by
    rw [Dt.sizeAll, h d (by simp), sizeAll_uniform fun e he => h e (by simp [he]), List.length_cons, Nat.add_mul]
    omega
theorem RpAll.split {sz : Nat} : ∀ {l : List Dt} {xs : List Value} (k : Nat), RpAll w l xs → (∀ d ∈ l, d.size = sz) → k ≤ l.length → RpAll w (l.take k) (xs.take (k * sz)) ∧ RpAll w (l.drop k) (xs.drop (k * sz))
  | l, xs, 0, h, _, _ => by simp [RpAll.nil, h]
  | [], xs, k + 1, h, _, hk => by simp at hk
  | d :: l, xs, k + 1, h, hs, hk => by
    simp only [RpAll] at h
    obtain ⟨c1, c2, rfl, h1, h2⟩ := h
    have hc : c1.length = sz := by rw [h1.len]; exact hs d (by simp)
    obtain ⟨h3, h4⟩ := RpAll.split k h2 (fun e he => hs e (by simp [he])) (by simpa using hk)
    have e : (k + 1) * sz = c1.length + k * sz := by rw [hc, Nat.add_mul]; omega
    rw [e, List.take_length_add_append, List.drop_length_add_append]
    exact ⟨RpAll.cons h1 h3, h4⟩
theorem RpAll.at {sz : Nat} {l : List Dt} {xs : List Value} {i : Nat} (h : RpAll w l xs) (hs : ∀ d ∈ l, d.size = sz) (hi : i < l.length) : Rp w l[i] ((xs.drop (i * sz)).take sz) := by
  obtain ⟨_, h2⟩ := RpAll.split i h hs (by omega)
  rw [List.drop_eq_getElem_cons hi] at h2
  simp only [RpAll] at h2
  obtain ⟨c1, c2, he, h1, _⟩ := h2
  have hc : c1.length = sz := by rw [h1.len]; exact hs _ (List.getElem_mem hi)
  rw [he, ← hc, List.take_left']
  · exact h1
  · rfl

/-- A slice of deep data as a slice of cells, and back. -/
theorem Rp.toSl {sz : Nat} {l : List Dt} {v : Value} (h : Rp w (.sl l) [v]) (hs : ∀ d ∈ l, d.size = sz) : ∃ xs, Sl sz xs v w ∧ RpAll w l xs := by
  simp only [Rp] at h
  obtain ⟨A, n, c, hv, h2, h3, h4, h5, h6⟩ := h
  obtain rfl : v = .slice A n c := by simpa using hv
  rcases Nat.eq_zero_or_pos n with h0 | h0
  · have : l = [] := List.eq_nil_of_length_eq_zero (by omega)
    subst this
    exact ⟨[], ⟨A, n, c, rfl, h3, h4, by subst h0; simp, fun h => by omega, h5⟩, RpAll.nil⟩
  · obtain ⟨ad, xs, rfl, h8, h9⟩ := h6 h0
    exact ⟨xs, ⟨_, n, c, rfl, h3, h4, by rw [h9.len, sizeAll_uniform hs, h2], fun _ => ⟨ad, rfl, h8⟩, h5⟩, h9⟩
theorem Rp.ofSl {sz : Nat} {l : List Dt} {v : Value} {xs : List Value} (h : Sl sz xs v w) (ha : RpAll w l xs) (hs : ∀ d ∈ l, d.size = sz) (h0 : 0 < sz) : Rp w (.sl l) [v] := by
  obtain ⟨A, n, c, rfl, h3, h4, h5, h6, h7⟩ := h
  simp only [Rp]
  refine ⟨A, n, c, rfl, ?_, h3, h4, h7, fun hn => ?_⟩
  · have := ha.len
    rw [sizeAll_uniform hs, h5] at this
    exact (Nat.eq_of_mul_eq_mul_right h0 this).symm
  · obtain ⟨ad, rfl, hc⟩ := h6 hn
    exact ⟨ad, xs, rfl, hc, ha⟩
theorem Rp.isSlice {l : List Dt} {cs : List Value} (h : Rp w (.sl l) cs) : ∃ v, cs = [v] ∧ Rp w (.sl l) [v] ∧ v.oneCell' = true := by
  have h' := h
  simp only [Rp] at h
  obtain ⟨A, n, c, rfl, _⟩ := h
  exact ⟨_, rfl, h', rfl⟩
theorem Rp.nilSl : Rp w (.sl []) [.slice none 0 0] := by
  simp only [Rp]
  exact ⟨none, 0, 0, rfl, rfl, Nat.le_refl _, Nat.zero_le _, fun _ => rfl, fun h => by omega⟩
theorem Rp.slLen {l : List Dt} {v : Value} (h : Rp w (.sl l) [v]) : l.length ≤ 9223372036854775807 := by
  simp only [Rp] at h
  obtain ⟨A, n, c, _, h2, h3, h4, _⟩ := h
  unfold maxLen at h4
  omega
theorem RpAll.map_cell {α : Type} {f : α → Dt} {g : α → Value} (hf : ∀ x cs, Rp w (f x) cs ↔ cs = [g x]) : ∀ {l : List α} {xs : List Value}, RpAll w (l.map f) xs ↔ xs = l.map g
  | [], xs => by simp only [List.map_nil, RpAll]
  | x :: l, xs => by
    simp only [List.map_cons, RpAll, hf]
    constructor
    · rintro ⟨c1, c2, rfl, rfl, h⟩
      rw [(RpAll.map_cell hf).1 h]; rfl
    · rintro rfl
      exact ⟨[g x], l.map g, rfl, rfl, (RpAll.map_cell hf).2 rfl⟩
/-- Rows of one-cell things. -/
theorem Rp.sl_cells {α : Type} {f : α → Dt} {g : α → Value} (hf : ∀ x cs, Rp w (f x) cs ↔ cs = [g x]) (h1 : ∀ x, (f x).size = 1) {l : List α} {v : Value} : Rp w (.sl (l.map f)) [v] ↔ Sl 1 (l.map g) v w := by
  have hs : ∀ d ∈ l.map f, d.size = 1 := by
    intro d hd
    obtain ⟨x, _, rfl⟩ := List.mem_map.1 hd
    exact h1 x
  constructor
  · intro h
    obtain ⟨xs, h2, h3⟩ := h.toSl hs
    rw [(RpAll.map_cell hf).1 h3] at h2
    exact h2
  · intro h
    exact Rp.ofSl h ((RpAll.map_cell hf).2 rfl) hs (by omega)
def dU8 (x : UInt8) : Dt := .int .u8 (x.toNat : Int)
def dU32 (x : UInt32) : Dt := .int .u32 (x.toNat : Int)
def dI (x : Int64) : Dt := .int .i64 x.toInt
theorem Rp.bytes {l : List UInt8} {v : Value} : Rp w (.sl (l.map dU8)) [v] ↔ Sl 1 (l.map U8) v w := Rp.sl_cells (fun x cs => by simp only [dU8, Rp, U8]) fun _ => rfl
theorem Rp.words {l : List UInt32} {v : Value} : Rp w (.sl (l.map dU32)) [v] ↔ Sl 1 (l.map U32) v w := Rp.sl_cells (fun x cs => by simp only [dU32, Rp, U32]) fun _ => rfl
theorem Rp.ints {l : List Int64} {v : Value} : Rp w (.sl (l.map dI)) [v] ↔ Sl 1 (l.map fun x => I x.toInt) v w := Rp.sl_cells (fun x cs => by simp only [dI, Rp, I]) fun _ => rfl
theorem Rp.texts {l : List (List UInt8)} {v : Value} : Rp w (.sl (l.map Dt.str)) [v] ↔ Sl 1 (l.map S) v w := Rp.sl_cells (fun x cs => by simp only [Rp]) fun _ => rfl
end

/-! ### Runs -/
section
variable {P : Program} {w : World} {t e : TypeId}
theorem r_lenD {l : List Dt} {v : Value} {ty : TypeId} (ht : P.underlying t = some (.slice e)) (h : Rp w (.sl l) [v]) : (Builtin.len_ #[t] ty #[v]).run P w = .ok (I l.length) w := by
  simp only [Rp] at h
  obtain ⟨A, n, c, hv, h2, _⟩ := h
  obtain rfl : v = .slice A n c := by simpa using hv
  simp [Builtin.len_, run_underlying ht, goInt, I, h2]
theorem r_ixD {sz : Nat} {l : List Dt} {v : Value} (ht : P.underlying t = some (.slice e)) (hz : (P.info? e).map (·.size) = some sz) (h : Rp w (.sl l) [v]) (hs : ∀ d ∈ l, d.size = sz) (h0 : 0 < sz) {i : Nat} (hi : i < l.length) (k : IntKind) :
    ∃ ad cs, (∀ w' : World, (Instr.indexAt t v (.int k i)).run P w' = .ok (.pointer (some ad)) w') ∧ Cells w ad cs ∧ Rp w l[i] cs := by
  obtain ⟨xs, h1, h2⟩ := h.toSl hs
  have hlen : (i + 1) * sz ≤ xs.length := by
    rw [h2.len, sizeAll_uniform hs]
    exact Nat.mul_le_mul_right _ hi
  obtain ⟨ad, h3, h4⟩ := r_index ht hz h1 hlen h0 k
  exact ⟨ad, _, h3, h4, h2.at hs hi⟩
theorem Cells.cell0 {ad : Addr} {v : Value} (h : Cells w ad [v]) : w.cell? ad = some v := by
  have := h 0 v rfl
  rwa [add_zero] at this
theorem Cells.cell {ad : Addr} {xs : List Value} (h : Cells w ad xs) (j : Nat) {v : Value} (hj : xs[j]? = some v) : w.cell? (ad.add j) = some v := h j v hj
theorem r_ldR {d : TypeDesc} {ad : Addr} {cs : List Value} (h : Cells w ad cs) (ht : P.underlying t = some d) (hd : d.isRow = true) (hz : (P.info? t).map (·.size) = some cs.length) : (Instr.loadAt t (.pointer (some ad))).run P w = .ok (.agg cs.toArray) w := by
  have hagg : (isAgg t).run P w = .ok true w := by
    unfold isAgg
    simp only [Sem.run_bind, run_underlying ht, Result.andThen_ok]
    cases d <;> simp_all [TypeDesc.isRow]
  have hl := run_loadCells_list (P := P) (w := w) ad cs h
  simp [Instr.loadAt, Instr.sureAddr, loadVar, Sem.run_bind, hagg, r_sizeOf hz, hl]
end

/-! ### How an argument reads -/
section
variable {P : Program} {H : Type} {enc : TypeId × Value → H} {W : World} {base : Nat} {spare : Nat → Bool} {held : Bool}
def seqB (P : Program) (ts : List TypeId) : List Field → Nat → Nat → Bool
  | [], o, n => o == n
  | f :: fs, o, n => f.offset == o && ts.contains f.type && seqB P ts fs (o + P.cellsOf f.type) n
def closedB (P : Program) (ts : List TypeId) : Bool := ts.all fun t =>
  match P.underlying t with
  | some (.int _) => P.cellsOf t == 1
  | some .bool => P.cellsOf t == 1
  | some .string => P.cellsOf t == 1
  | some (.slice e) => P.cellsOf t == 1 && ts.contains e
  | some (.struct fs) => seqB P ts fs.toList 0 (P.cellsOf t)
  | some (.array n e) => P.cellsOf t == n * P.cellsOf e && ts.contains e
  | _ => false
mutual
def dtOf : DataW H → Dt
  | .lit (.int k n) => .int k n
  | .lit (.bool b) => .bool b
  | .lit (.string l) => .str l
  | .slice elems _ => .sl (dtAll elems)
  | .agg parts => .st (dtAll parts)
  | _ => .sl []
def dtAll : List (DataW H) → List Dt
  | [] => []
  | d :: l => dtOf d :: dtAll l
end
theorem dtAll_map : ∀ (l : List (DataW H)), dtAll l = l.map dtOf
  | [] => by simp [dtAll]
  | d :: l => by simp [dtAll, dtAll_map l]

inductive Ty (P : Program) : TypeId → Dt → Prop
  | int {t k n} : P.underlying t = some (.int k) → (Lit.int k n).wf = true → Ty P t (.int k n)
  | bool {t b} : P.underlying t = some .bool → Ty P t (.bool b)
  | str {t l} : P.underlying t = some .string → l.length ≤ maxLen → Ty P t (.str l)
  | sl {t e l} : P.underlying t = some (.slice e) → (∀ d ∈ l, Ty P e d) → Ty P t (.sl l)
  | st {t fs l} : P.underlying t = some (.struct fs) → l.length = fs.size → (∀ (i : Nat) (f : Field) (d : Dt), fs[i]? = some f → l[i]? = some d → Ty P f.type d) → Ty P t (.st l)
  | arr {t e n l} : P.underlying t = some (.array n e) → l.length = n → (∀ d ∈ l, Ty P e d) → Ty P t (.st l)

theorem rows_of {sz : Nat} {a : Addr} : ∀ (ds : List Dt) (k : Nat), (∀ (i : Nat) (d : Dt), ds[i]? = some d → ∃ c : List Value, c.length = sz ∧ (∀ j u, c[j]? = some u → W.cell? (a.add ((k + i) * sz + j)) = some u) ∧ Rp W d c) →
    ∃ xs, RpAll W ds xs ∧ ∀ j u, xs[j]? = some u → W.cell? (a.add (k * sz + j)) = some u
  | [], k, _ => ⟨[], RpAll.nil, by simp⟩
  | d :: ds, k, h => by
    obtain ⟨c, hc, h1, h2⟩ := h 0 d rfl
    obtain ⟨xs, h3, h4⟩ := rows_of ds (k + 1) fun i e he => by
      obtain ⟨c, hc, h1, h2⟩ := h (i + 1) e he
      exact ⟨c, hc, fun j u hu => by rw [← h1 j u hu]; congr 2; congr 2; omega, h2⟩
    refine ⟨c ++ xs, RpAll.cons h2 h3, fun j u hu => ?_⟩
    rw [List.getElem?_append] at hu
    split at hu
    · have := h1 j u hu
      rwa [Nat.add_zero] at this
    · rename_i hj
      have := h4 _ u hu
      rw [← this]
      congr 2
      rw [hc] at hj ⊢
      rw [Nat.add_mul]
      omega

theorem fields_of {ts : List TypeId} {n : Nat} {cs : List Value} (hcl : ∀ (t : TypeId) (cs : List Value) (x : DataW H × List MemPlace), t ∈ ts → DataW.trod enc P W base spare held n t cs = some x → Rp W (dtOf x.1) cs ∧ Ty P t (dtOf x.1)) :
    ∀ (fs : List Field) (o : Nat) (xs : List (DataW H × List MemPlace)), xs.length = fs.length → seqB P ts fs o cs.length = true → o ≤ cs.length →
      (∀ (i : Nat) (f : Field), fs[i]? = some f → DataW.trod enc P W base spare held n f.type ((cs.drop f.offset).take (P.cellsOf f.type)) = xs[i]?) →
      RpAll W (xs.map fun x => dtOf x.1) (cs.drop o) ∧ ∀ (i : Nat) (f : Field) (d : Dt), fs[i]? = some f → (xs.map fun x => dtOf x.1)[i]? = some d → Ty P f.type d
  | [], o, xs, hl, hs, ho, _ => by
    have : xs = [] := List.eq_nil_of_length_eq_zero (by simpa using hl)
    subst this
    have : o = cs.length := by simpa [seqB] using hs
    subst this
    simp [RpAll.nil]
  | f :: fs, o, xs, hl, hs, ho, h => by
    cases xs with
    | nil => simp at hl
    | cons x xs =>
      simp only [seqB, Bool.and_eq_true, beq_iff_eq] at hs
      obtain ⟨⟨h1, h2⟩, h3⟩ := hs
      have h0 := h 0 f rfl
      simp only [List.getElem?_cons_zero] at h0
      obtain ⟨h4, h5⟩ := hcl f.type _ x (by simpa using h2) h0
      have hlen : ∀ (fs : List Field) (o : Nat), seqB P ts fs o cs.length = true → o ≤ cs.length := by
        intro fs
        induction fs with
        | nil => intro o h; have : o = cs.length := by simpa [seqB] using h
                 omega
        | cons g fs ih => intro o h; simp only [seqB, Bool.and_eq_true] at h; have := ih _ h.2; omega
      obtain ⟨h6, h7⟩ := fields_of hcl fs (o + P.cellsOf f.type) xs (by simpa using hl) h3 (hlen _ _ h3) fun i g hg => by simpa using h (i + 1) g (by simpa using hg)
      refine ⟨?_, fun i g d hg hd => ?_⟩
      · rw [h1] at h4
        have e : cs.drop o = (cs.drop o).take (P.cellsOf f.type) ++ cs.drop (o + P.cellsOf f.type) := by
          rw [← List.drop_drop, List.take_append_drop]
        rw [e]
        exact RpAll.cons h4 h6
      · cases i with
        | zero =>
          simp only [List.getElem?_cons_zero, Option.some.injEq] at hg
          subst hg
          simp only [List.map_cons, List.getElem?_cons_zero, Option.some.injEq] at hd
          subst hd
          exact h5
        | succ i => exact h7 i g d (by simpa using hg) (by simpa using hd)

theorem open_deep {ts : List TypeId} (hc : closedB P ts = true) : ∀ (fuel : Nat) (t : TypeId) (cs : List Value) (x : DataW H × List MemPlace), t ∈ ts → DataW.trod enc P W base spare held fuel t cs = some x → Rp W (dtOf x.1) cs ∧ Ty P t (dtOf x.1)
  | 0, t, cs, x, _, h => by simp [DataW.trod] at h
  | fuel + 1, t, cs, x, ht, h => by
    have ih := open_deep hc fuel
    have hct := List.all_eq_true.1 hc t ht
    split at hct
    · rename_i k hu
      obtain ⟨n, rfl, rfl, hw⟩ := DataW.trod_int hu h
      exact ⟨by simp only [dtOf, Rp], Ty.int hu hw⟩
    · rename_i hu
      obtain ⟨b, rfl, rfl⟩ := DataW.trod_bool hu h
      exact ⟨by simp only [dtOf, Rp], Ty.bool hu⟩
    · rename_i hu
      obtain ⟨s, rfl, rfl, hs⟩ := DataW.trod_string hu h
      exact ⟨by simp only [dtOf, Rp, S, Array.toArray_toList], Ty.str hu (by simpa using hs)⟩
    · rename_i e hu
      simp only [Bool.and_eq_true, beq_iff_eq] at hct
      have he : e ∈ ts := by simpa using hct.2
      rcases DataW.trod_slice hu h with ⟨rfl, rfl⟩ | ⟨a, len, cap, elems, rest, n, hf, rfl, rfl, hb, hl, hm, hlen, hel, _, _⟩
      · exact ⟨by simp only [dtOf]; exact Rp.nilSl, by simp only [dtOf]; exact Ty.sl hu (by simp)⟩
      · obtain rfl : fuel = n := by omega
        have each : ∀ (i : Nat) (y : DataW H × List MemPlace), elems[i]? = some y → ∃ c : List Value, c.length = P.cellsOf e ∧ (∀ j u, c[j]? = some u → W.cell? (a.add (i * P.cellsOf e + j)) = some u) ∧ Rp W (dtOf y.1) c ∧ Ty P e (dtOf y.1) := by
          intro i y hy
          have hi : i < len := by
            have := (List.getElem?_eq_some_iff.1 hy).1
            omega
          have h1 := hel i hi
          rw [hy, Option.bind_eq_some_iff] at h1
          obtain ⟨c, h2, h3⟩ := h1
          obtain ⟨_, h5, h6⟩ := World.cells?_some h2
          obtain ⟨h7, h8⟩ := ih e c y he h3
          refine ⟨c, h5, fun j u hu => ?_, h7, h8⟩
          have hj : j < P.cellsOf e := by rw [← h5]; exact (List.getElem?_eq_some_iff.1 hu).1
          have := h6 j hj
          rw [add_add, hu] at this
          exact this
        obtain ⟨xs, h1, h2⟩ := rows_of (W := W) (sz := P.cellsOf e) (a := a) (elems.map fun y => dtOf y.1) 0 fun i d hd => by
          rw [List.getElem?_map, Option.map_eq_some_iff] at hd
          obtain ⟨y, hy, rfl⟩ := hd
          obtain ⟨c, h1, h2, h3, _⟩ := each i y hy
          exact ⟨c, h1, by rw [Nat.zero_add]; exact h2, h3⟩
        have em : dtAll (elems.map (·.1)) = elems.map fun y => dtOf y.1 := by rw [dtAll_map, List.map_map]; rfl
        refine ⟨?_, ?_⟩
        · simp only [dtOf, Rp]
          rw [em]
          exact ⟨some a, len, cap, rfl, by simpa using hlen, hl, hm, (fun h => by cases h), fun _ => ⟨a, xs, rfl, fun j u hu => by have := h2 j u hu; rwa [Nat.zero_mul, Nat.zero_add] at this, h1⟩⟩
        · simp only [dtOf]
          rw [em]
          refine Ty.sl hu fun d hd => ?_
          obtain ⟨y, hy, rfl⟩ := List.mem_map.1 hd
          obtain ⟨i, hi, rfl⟩ := List.getElem_of_mem hy
          obtain ⟨_, _, _, _, h4⟩ := each i _ (List.getElem?_eq_getElem hi)
          exact h4
    · rename_i fs hu
      obtain ⟨xs, n, hf, rfl, hl, hlen, hall⟩ := DataW.trod_struct hu h
      obtain rfl : fuel = n := by omega
      obtain ⟨h1, h2⟩ := fields_of (cs := cs) (fun t cs x ht h => ih t cs x ht h) fs.toList 0 xs (by simpa using hlen) (by rw [hl]; exact hct) (Nat.zero_le _) fun i f hf => hall i f (by simpa using hf)
      have em : dtAll (xs.map (·.1)) = xs.map fun y => dtOf y.1 := by rw [dtAll_map, List.map_map]; rfl
      refine ⟨?_, ?_⟩
      · simp only [dtOf, Rp]
        rw [em]
        simpa using h1
      · simp only [dtOf]
        rw [em]
        exact Ty.st hu (by simpa using hlen) fun i f d hf hd => h2 i f d (by simpa using hf) hd
    · rename_i m e hu
      simp only [Bool.and_eq_true, beq_iff_eq] at hct
      have he : e ∈ ts := by simpa using hct.2
      obtain ⟨xs, n, hf, rfl, hl, hlen, hall⟩ := DataW.trod_array hu h
      obtain rfl : fuel = n := by omega
      have em : dtAll (xs.map (·.1)) = xs.map fun y => dtOf y.1 := by rw [dtAll_map, List.map_map]; rfl
      have each : ∀ (i : Nat) (y : DataW H × List MemPlace), xs[i]? = some y → Rp W (dtOf y.1) ((cs.drop (i * P.cellsOf e)).take (P.cellsOf e)) ∧ Ty P e (dtOf y.1) := fun i y hy => by
        have hi : i < m := by
          have := (List.getElem?_eq_some_iff.1 hy).1
          omega
        have h1 := hall i hi
        rw [hy] at h1
        exact ih e _ y he h1
      have all : ∀ (k : Nat), k ≤ m → RpAll W ((xs.map fun y => dtOf y.1).drop k) (cs.drop (k * P.cellsOf e)) := by
        intro k hk
        induction hq : m - k generalizing k with
        | zero =>
          have : k = m := by omega
          subst this
          rw [List.drop_of_length_le (by simp; omega), List.drop_of_length_le (by rw [hl, hct.1]; exact Nat.le_refl _)]
          exact RpAll.nil
        | succ q ihq =>
          have hk' : k < (xs.map fun y => dtOf y.1).length := by simp; omega
          have h1 := ihq (k + 1) (by omega) (by omega)
          have hkx : k < xs.length := by omega
          obtain ⟨h2, _⟩ := each k _ (List.getElem?_eq_getElem hkx)
          rw [List.drop_eq_getElem_cons hk']
          have e : cs.drop (k * P.cellsOf e) = (cs.drop (k * P.cellsOf e)).take (P.cellsOf e) ++ cs.drop ((k + 1) * P.cellsOf e) := by
            rw [Nat.add_mul, Nat.one_mul, ← List.drop_drop, List.take_append_drop]
          rw [e]
          refine RpAll.cons ?_ h1
          simpa using h2
      refine ⟨?_, ?_⟩
      · simp only [dtOf, Rp]
        rw [em]
        simpa using all 0 (Nat.zero_le _)
      · simp only [dtOf]
        rw [em]
        refine Ty.arr hu (by simpa using hlen) fun d hd => ?_
        obtain ⟨y, hy, rfl⟩ := List.mem_map.1 hd
        obtain ⟨i, hi, rfl⟩ := List.getElem_of_mem hy
        exact (each i _ (List.getElem?_eq_getElem hi)).2
    · cases hct
end
end Go.Rl

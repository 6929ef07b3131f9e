/- Words for memory: slices that read as lists, rows of the call's own, a list of what the call owns. Conditions: each lemma names its own. -/
import Derived.Test.YtifjnhdnpglbpaaFlow
import Derived.Maps.AppendAt
import Derived.Laws.BytesString
import Derived.Laws.Slices
import Derived.Laws.MakeOwn
import Derived.Laws.Rows
import Derived.OwnWalk
namespace Go.Rl
open Go.RowKit

/-! ### Numbers as values -/
def U8 (b : UInt8) : Value := .int .u8 (b.toNat : Int)
def U32 (x : UInt32) : Value := .int .u32 (x.toNat : Int)
def U64 (x : UInt64) : Value := .int .u64 (x.toNat : Int)
def I (n : Int) : Value := .int .i64 n
def B (b : Bool) : Value := .bool b

/-! ### Ext -/
theorem Ext.cell {w w' : World} (h : Ext w w') {a : Addr} (ha : a.block < w.heap.size) : w'.cell? a = w.cell? a := Below.cell h ha
theorem Ext.cell_some {w w' : World} (h : Ext w w') {a : Addr} {v : Value} (hv : w.cell? a = some v) : w'.cell? a = some v := (h.cell (World.block_lt_of_cell? w a hv)).trans hv
theorem Ext.heap {w w' : World} (h : Ext w w') {g : Nat} (hg : g < w.heap.size) : w'.heap[g]? = w.heap[g]? := h.block g hg
theorem Ext.heap_some {w w' : World} (h : Ext w w') {g : Nat} {o : Obj} (hv : w.heap[g]? = some o) : w'.heap[g]? = some o :=
  (h.heap (Array.getElem?_eq_some_iff.1 hv).1).trans hv
theorem Ext.size {w w' : World} (h : Ext w w') : w.heap.size ≤ w'.heap.size := Below.size h
theorem Ext.new (w : World) (o : Obj) : Ext w (w.alloc o) := (Ext.refl w).alloc o
theorem Ext.of_grown {w0 w w' : World} (h : Ext w0 w) {row : Option Nat} (hg : w.grownBy w' row) (hr : ∀ k, row = some k → w0.heap.size ≤ k) : Ext w0 w' :=
  Below.grown h hg h.size hr

/-! ### Slices that read as a list -/
def Cells (w : World) (a : Addr) (xs : List Value) : Prop := ∀ j u, xs[j]? = some u → w.cell? (a.add j) = some u

theorem add_block (a : Addr) (n : Nat) : (a.add n).block = a.block := by unfold Addr.add; split <;> rfl
theorem add_add (a : Addr) (i j : Nat) : (a.add i).add j = a.add (i + j) := by
  unfold Addr.add
  by_cases hi : i = 0 <;> by_cases hj : j = 0 <;> simp [hi, hj, Nat.add_assoc]
theorem add_zero (a : Addr) : a.add 0 = a := by simp [Addr.add]
theorem add_mk (b o n : Nat) : (⟨b, o, none⟩ : Addr).add n = ⟨b, o + n, none⟩ := by
  unfold Addr.add
  split
  · rename_i h; subst h; rfl
  · rfl

theorem Cells.ext {w w' : World} {a : Addr} {xs : List Value} (h : Cells w a xs) (hx : Ext w w') : Cells w' a xs := fun j u hu => hx.cell_some (h j u hu)
theorem Cells.drop {w : World} {a : Addr} {xs : List Value} (h : Cells w a xs) (k : Nat) : Cells w (a.add k) (xs.drop k) := fun j u hu => by
  rw [add_add]
  exact h (k + j) u (by rw [← hu, List.getElem?_drop])
theorem Cells.take {w : World} {a : Addr} {xs : List Value} (h : Cells w a xs) (k : Nat) : Cells w a (xs.take k) := fun j u hu => by
  rw [List.getElem?_take] at hu
  split at hu
  · exact h j u hu
  · cases hu

/-- The slice value reads as the list (sz cells an element). -/
def Sl (sz : Nat) (xs : List Value) : Fact := fun v w => ∃ A n c, v = .slice A n c ∧ n ≤ c ∧ c ≤ maxLen ∧ xs.length = n * sz ∧ (0 < n → ∃ ad, A = some ad ∧ Cells w ad xs) ∧ (A = none → c = 0)

theorem Sl.stable (sz : Nat) (xs : List Value) : Stable (Sl sz xs) := fun v w w' h hx => by
  obtain ⟨A, n, c, h1, h2, h3, h4, h5, h6⟩ := h
  exact ⟨A, n, c, h1, h2, h3, h4, fun hn => (h5 hn).imp fun ad h => ⟨h.1, h.2.ext hx⟩, h6⟩
theorem Sl.ext {sz : Nat} {xs : List Value} {v : Value} {w w' : World} (h : Sl sz xs v w) (hx : Ext w w') : Sl sz xs v w' := Sl.stable sz xs v w w' h hx
theorem Sl.nil (sz : Nat) (w : World) : Sl sz [] (.slice none 0 0) w := ⟨none, 0, 0, rfl, Nat.le_refl _, Nat.zero_le _, by simp, fun h => absurd h (by omega), fun _ => rfl⟩
theorem Sl.of_own {base : Nat} {e : TypeId} {sz n : Nat} {v : Value} {xs : List Value} {w : World} (h : w.ownsRow base e sz v n xs) : Sl sz xs v w := by
  rcases h.2 with ⟨rfl, rfl⟩ | ⟨g, cap, cur, rfl, hb, hg, hn, hm, hs, ht⟩
  · have : xs = [] := List.eq_nil_of_length_eq_zero (by simpa using h.1)
    subst this
    exact Sl.nil sz w
  · exact ⟨some ⟨g, 0, none⟩, n, cap, rfl, hn, hm, h.1, fun _ => ⟨_, rfl, h.cells (g := g) rfl⟩, fun h => by cases h⟩

/-! ### Rows -/
theorem ownsRow_ext {w w' : World} {base : Nat} {e : TypeId} {sz n : Nat} {v : Value} {xs : List Value} (h : w.ownsRow base e sz v n xs) (hx : Ext w w') : w'.ownsRow base e sz v n xs := by
  refine ⟨h.1, ?_⟩
  rcases h.2 with h | ⟨g, cap, cur, rfl, hb, hg, rest⟩
  · exact .inl h
  · exact .inr ⟨g, cap, cur, rfl, hb, hx.heap_some hg, rest⟩
theorem ownsRow_base {w : World} {base base' : Nat} {e : TypeId} {sz n : Nat} {v : Value} {xs : List Value} (h : w.ownsRow base e sz v n xs) (hb : ∀ k, v.ownBlock = some k → base' ≤ k) : w.ownsRow base' e sz v n xs := by
  refine ⟨h.1, ?_⟩
  rcases h.2 with h | ⟨g, cap, cur, rfl, _, hg, rest⟩
  · exact .inl h
  · exact .inr ⟨g, cap, cur, rfl, hb g rfl, hg, rest⟩
theorem ownsRow_len {w : World} {base : Nat} {e : TypeId} {n : Nat} {v : Value} {xs : List Value} (h : w.ownsRow base e 1 v n xs) : xs.length = n := by simpa using h.1

/-- What an operation that may only write the row of v leaves; v' is the row behind it. -/
structure Grew (w w' : World) (v v' : Value) : Prop where
  grown : w.grownBy w' v.ownBlock
  own : v'.ownBlock = v.ownBlock ∨ ∀ k, v'.ownBlock = some k → w.heap.size ≤ k
theorem Grew.trans {a b c : World} {v u z : Value} (h : Grew a b v u) (k : Grew b c u z) : Grew a c v z := by
  refine ⟨⟨k.grown.os.trans h.grown.os, k.grown.tape.trans h.grown.tape, k.grown.output.trans h.grown.output, Nat.le_trans h.grown.size k.grown.size, fun i hi hne => ?_⟩, ?_⟩
  · refine (k.grown.block i (Nat.lt_of_lt_of_le hi h.grown.size) ?_).trans (h.grown.block i hi hne)
    rcases h.own with h1 | h1
    · rw [h1]; exact hne
    · intro hu
      have := h1 i hu.symm
      omega
  · rcases k.own with k1 | k1
    · rw [k1]; exact h.own
    · exact .inr fun j hj => Nat.le_trans h.grown.size (k1 j hj)
theorem Grew.ext {a b c : World} {v u : Value} (h : Grew a b v u) (k : Ext b c) : Grew a c v u :=
  ⟨⟨Eq.trans k.os h.grown.os, Eq.trans k.tape h.grown.tape, Eq.trans k.output h.grown.output, Nat.le_trans h.grown.size k.size, fun i hi hne => (k.heap (Nat.lt_of_lt_of_le hi h.grown.size)).trans (h.grown.block i hi hne)⟩, h.own⟩
theorem Grew.of_ext {a b : World} {v u : Value} (h : Ext a b) (hu : u.ownBlock = v.ownBlock ∨ ∀ k, u.ownBlock = some k → a.heap.size ≤ k) : Grew a b v u :=
  ⟨⟨h.os, h.tape, h.output, h.size, fun _ hi _ => h.heap hi⟩, hu⟩
theorem Grew.before {a b c : World} {v u : Value} (h : Ext a b) (k : Grew b c v u) : Grew a c v u :=
  ⟨⟨k.grown.os.trans h.os, k.grown.tape.trans h.tape, k.grown.output.trans h.output, Nat.le_trans h.size k.grown.size, fun i hi hne => (k.grown.block i (Nat.lt_of_lt_of_le hi h.size) hne).trans (h.heap hi)⟩, k.own.imp_right fun h1 j hj => Nat.le_trans h.size (h1 j hj)⟩

/-! ### What the call owns -/
inductive Item where
  | blk (g : Nat) (T : TypeId) (cs : Array Value)
  | row (v : Value) (e : TypeId) (sz n : Nat) (xs : List Value)
def Item.foot : Item → Option Nat
  | .blk g _ _ => some g
  | .row v _ _ _ _ => v.ownBlock
def Item.holds (base : Nat) (w : World) : Item → Prop
  | .blk g T cs => base ≤ g ∧ w.heap[g]? = some (.cells cs T (0, 0))
  | .row v e sz n xs => w.ownsRow base e sz v n xs
def Item.off (a b : Item) : Prop := a.foot = none ∨ a.foot ≠ b.foot

theorem Item.foot_ge {base : Nat} {w : World} {it : Item} (h : it.holds base w) {k : Nat} (hk : it.foot = some k) : base ≤ k ∧ k < w.heap.size := by
  cases it with
  | blk g T cs =>
    obtain rfl : g = k := by simpa [Item.foot] using hk
    exact ⟨h.1, (Array.getElem?_eq_some_iff.1 h.2).1⟩
  | row v e sz n xs => exact World.ownsRow.lt h k hk
theorem Item.holds_grown {base : Nat} {w w' : World} {it : Item} (h : it.holds base w) {row : Option Nat} (hg : w.grownBy w' row) (hne : it.foot = none ∨ it.foot ≠ row) : it.holds base w' := by
  cases it with
  | blk g T cs =>
    refine ⟨h.1, (hg.block g (Array.getElem?_eq_some_iff.1 h.2).1 ?_).trans h.2⟩
    rcases hne with h1 | h1
    · simp [Item.foot] at h1
    · exact h1
  | row v e sz n xs => exact World.ownsRow.kept h hg hne
theorem Item.holds_ext {base : Nat} {w w' : World} {it : Item} (h : it.holds base w) (hx : Ext w w') : it.holds base w' := by
  cases it with
  | blk g T cs => exact ⟨h.1, hx.heap_some h.2⟩
  | row v e sz n xs => exact ownsRow_ext h hx

/-- Since w0 nothing that was there has turned; the items hold; their places differ. -/
structure Hp (w0 w : World) (its : List Item) : Prop where
  ext : Ext w0 w
  holds : ∀ it ∈ its, it.holds w0.heap.size w
  apart : its.Pairwise Item.off

section
variable {w0 w w' : World} {its : List Item} {a b c d : Item}
theorem Hp.nil (w : World) : Hp w w [] := ⟨Ext.refl w, by simp, List.Pairwise.nil⟩
theorem Hp.grow (h : Hp w0 w its) (hx : Ext w w') : Hp w0 w' its := ⟨h.ext.trans hx, fun it hi => Item.holds_ext (h.holds it hi) hx, h.apart⟩
theorem Hp.drop (h : Hp w0 w (a :: its)) : Hp w0 w its := ⟨h.ext, fun it hi => h.holds it (by simp [hi]), (List.pairwise_cons.1 h.apart).2⟩
theorem Item.off_symm (h : Item.off a b) : Item.off b a := by
  unfold Item.off at *
  rcases h with h | h
  · cases hb : b.foot with
    | none => exact .inl rfl
    | some k => exact .inr (by rw [h]; simp)
  · exact .inr (Ne.symm h)
theorem Hp.perm {its' : List Item} (h : Hp w0 w its) (hp : its.Perm its') : Hp w0 w its' :=
  ⟨h.ext, fun it hi => h.holds it (hp.mem_iff.2 hi), (hp.pairwise_iff (fun h => Item.off_symm h)).1 h.apart⟩
theorem Hp.at1 (h : Hp w0 w (a :: b :: its)) : Hp w0 w (b :: a :: its) := h.perm (List.Perm.swap _ _ _)
theorem Hp.at2 (h : Hp w0 w (a :: b :: c :: its)) : Hp w0 w (c :: a :: b :: its) := h.perm (((List.Perm.swap c b its).cons a).trans (List.Perm.swap c a (b :: its)))
theorem Hp.at3 (h : Hp w0 w (a :: b :: c :: d :: its)) : Hp w0 w (d :: a :: b :: c :: its) := h.perm (((((List.Perm.swap d c its).cons b).trans (List.Perm.swap d b (c :: its))).cons a).trans (List.Perm.swap d a (b :: c :: its)))
theorem Hp.one (h : Hp w0 w (a :: its)) : a.holds w0.heap.size w := h.holds a (by simp)

/-- A new item, its place new too. -/
theorem Hp.add (h : Hp w0 w its) (hx : Ext w w') (hit : a.holds w0.heap.size w') (hn : ∀ k, a.foot = some k → w.heap.size ≤ k) : Hp w0 w' (a :: its) := by
  have h' := h.grow hx
  refine ⟨h'.ext, fun it hi => ?_, List.pairwise_cons.2 ⟨fun it hi => ?_, h'.apart⟩⟩
  · rcases List.mem_cons.1 hi with rfl | hi
    · exact hit
    · exact h'.holds it hi
  · unfold Item.off
    cases hf : a.foot with
    | none => exact .inl rfl
    | some k =>
      refine .inr fun he => ?_
      have h1 := (Item.foot_ge (h.holds it hi) he.symm).2
      have h2 := hn k hf
      omega
theorem Hp.newBlk (h : Hp w0 w its) (cs : Array Value) (T : TypeId) : Hp w0 (w.alloc (.cells cs T)) (.blk w.heap.size T cs :: its) :=
  h.add (Ext.new w _) ⟨h.ext.size, heap_alloc_new w _⟩ fun k hk => by
    obtain rfl : w.heap.size = k := by simpa [Item.foot] using hk
    exact Nat.le_refl _
theorem Hp.nilRow (h : Hp w0 w its) (e : TypeId) (sz : Nat) : Hp w0 w (.row (.slice none 0 0) e sz 0 [] :: its) :=
  h.add (Ext.refl w) (World.ownsRow_nil _ _ _ _) fun k hk => by simp [Item.foot, Value.ownBlock] at hk
/-- The head item is written; nothing else. -/
theorem Hp.write {a' : Item} (h : Hp w0 w (a :: its)) (hg : w.grownBy w' a.foot) (hit : a'.holds w0.heap.size w') (hf : a'.foot = a.foot ∨ ∀ k, a'.foot = some k → w.heap.size ≤ k) : Hp w0 w' (a' :: its) := by
  have hap := (List.pairwise_cons.1 h.apart).1
  refine ⟨h.ext.of_grown hg fun k hk => (Item.foot_ge h.one hk).1, fun it hi => ?_, List.pairwise_cons.2 ⟨fun it hi => ?_, (List.pairwise_cons.1 h.apart).2⟩⟩
  · rcases List.mem_cons.1 hi with rfl | hi
    · exact hit
    · exact Item.holds_grown (h.holds it (by simp [hi])) hg (Item.off_symm (hap it hi))
  · unfold Item.off
    rcases hf with hf | hf
    · rw [hf]; exact hap it hi
    · cases hk : a'.foot with
      | none => exact .inl rfl
      | some k =>
        refine .inr fun he => ?_
        have h1 := (Item.foot_ge (h.holds it (by simp [hi])) he.symm).2
        have h2 := hf k hk
        omega
theorem Hp.grew {v v' : Value} {e : TypeId} {sz n n' : Nat} {xs xs' : List Value} (h : Hp w0 w (.row v e sz n xs :: its)) (hg : Grew w w' v v') (ho : w'.ownsRow w0.heap.size e sz v' n' xs') : Hp w0 w' (.row v' e sz n' xs' :: its) :=
  h.write hg.grown ho hg.own
theorem Hp.blkTo {g : Nat} {T : TypeId} {cs cs' : Array Value} (h : Hp w0 w (.blk g T cs :: its)) (hg : w.grownBy w' (some g)) (hh : w'.heap[g]? = some (.cells cs' T (0, 0))) : Hp w0 w' (.blk g T cs' :: its) :=
  h.write hg ⟨h.one.1, hh⟩ (.inl rfl)

theorem grownBy_setCell (w : World) (g i : Nat) (u : Value) : w.grownBy (w.setCell ⟨g, i, none⟩ u) (some g) :=
  ⟨rfl, rfl, rfl, by simp [World.setCell], fun k _ hne => Below.heap_setCell w ⟨g, i, none⟩ u k (fun e => hne (by rw [e]))⟩
theorem heap_set {g : Nat} {T : TypeId} {cs : Array Value} (h : w.heap[g]? = some (.cells cs T (0, 0))) (i : Nat) (u : Value) : (w.setCell ⟨g, i, none⟩ u).heap[g]? = some (.cells (cs.setIfInBounds i u) T (0, 0)) := by
  simp [World.setCell, Array.getElem?_modify, h]
theorem Hp.set {g : Nat} {T : TypeId} {cs : Array Value} (h : Hp w0 w (.blk g T cs :: its)) (i : Nat) (u : Value) : Hp w0 (w.setCell ⟨g, i, none⟩ u) (.blk g T (cs.setIfInBounds i u) :: its) :=
  h.blkTo (grownBy_setCell w g i u) (heap_set h.one.2 i u)
theorem Hp.cell {g : Nat} {T : TypeId} {cs : Array Value} (h : Hp w0 w (.blk g T cs :: its)) (i : Nat) : w.cell? ⟨g, i, none⟩ = cs[i]? := cell_of_row w g i cs T (0, 0) h.one.2
theorem Hp.rowSl {v : Value} {e : TypeId} {sz n : Nat} {xs : List Value} (h : Hp w0 w (.row v e sz n xs :: its)) : Sl sz xs v w := Sl.of_own h.one
end

/-! ### Runs -/
section
variable {P : Program} {w : World}

theorem r_load1 {t : TypeId} {d : TypeDesc} {a : Addr} {v : Value} (ht : P.underlying t = some d) (hd : (match d with | .struct _ | .array _ _ => true | _ => false) = false) (hc : w.cell? a = some v) :
    (Instr.loadAt t (.pointer (some a))).run P w = .ok v w := by
  have hagg : (isAgg t).run P w = .ok false w := by
    unfold isAgg
    simp only [Sem.run_bind, run_underlying ht, Result.andThen_ok]
    cases d <;> simp_all
  simp only [Instr.loadAt, Instr.sureAddr, loadVar, Sem.run_bind, Sem.run_pure, Result.andThen_ok, hagg, Bool.false_eq_true, if_false]
  simp [hc]

theorem r_store1 {t : TypeId} {g i : Nat} {cs : Array Value} {T : TypeId} {v : Value} (hs : (P.info? t).map (·.size) = some 1) (hv : v.oneCell' = true) (hc : w.heap[g]? = some (.cells cs T (0, 0))) (hi : i < cs.size) :
    (Instr.storeAt t (.pointer (some ⟨g, i, none⟩)) v).run P w = .ok () (w.setCell ⟨g, i, none⟩ v) := by
  obtain ⟨ti, hti, hsz⟩ := Option.map_eq_some_iff.1 hs
  have hcells : v.cells = #[v] := by cases v <;> first | rfl | cases hv
  have hcell : w.cell? ⟨g, i, none⟩ = some cs[i] := by rw [cell_of_row w g i cs T (0, 0) hc]; simp [hi]
  have hfr : w.frozen? ⟨g, i, none⟩ = false := frozen_of_row w g i cs T hc
  have hst := run_store P w ⟨g, i, none⟩ v .plain hv
  have hsd : stored P w ⟨g, i, none⟩ v .plain = .ok () (w.setCell ⟨g, i, none⟩ v) := by simp [stored, hcell, hfr]
  simp only [Instr.storeAt, Instr.sureAddr, storeVar, Sem.run_bind, Sem.run_pure, Result.andThen_ok, sizeOf, typeInfo, hti, program, Sem.run, hcells, storeCells]
  have hst2 : (store ⟨g, i, none⟩ v).run P w = .ok () (w.setCell ⟨g, i, none⟩ v) := hst.trans hsd
  simp [hsz, add_zero, hst2]

/-- append onto a row of the call's own. -/
theorem r_append {base : Nat} {t ty e : TypeId} {z : Value} {size bytes : Nat} (ht : P.underlying t = some (.slice e)) (hi : (P.info? e).map (fun i => (i.zero, i.size, i.bytes)) = some (some z, size, bytes)) (hzs : z.cells.size = size) (hsz : 0 < size)
    {v : Value} {n : Nat} {xs : List Value} (hown : w.ownsRow base e size v n xs) {x : Value} {news : List Value} (hx : Sl size news x w) (h1 : ∀ u ∈ news, u.oneCell' = true)
    (hb : (xs.length + news.length) * bytes ≤ 140737488355328 * size) (hb0 : 0 < bytes) (hbase : base ≤ w.heap.size) :
    ∃ v' w' n', (Builtin.append_ #[t, t] ty #[v, x]).run P w = .ok v' w' ∧ w'.ownsRow base e size v' n' (xs ++ news) ∧ Grew w w' v v' := by
  obtain ⟨i, hi, hz, hsize, hby⟩ := info_parts hi
  obtain ⟨A, m, c, rfl, hmc, hcm, hl, hcells, hnone⟩ := hx
  have hbytes : (n + m) * bytes ≤ 140737488355328 := by
    have e1 : xs.length + news.length = (n + m) * size := by rw [hown.1, hl, Nat.add_mul]
    rw [e1] at hb
    have : (n + m) * bytes * size ≤ 140737488355328 * size := by rw [Nat.mul_right_comm]; exact hb
    exact Nat.le_of_mul_le_mul_right this hsz
  have h63 : n + m ≤ maxLen := by
    have : n + m ≤ (n + m) * bytes := Nat.le_mul_of_pos_right _ hb0
    unfold maxLen; omega
  rcases Nat.eq_zero_or_pos m with rfl | hm
  · have hn : news = [] := List.eq_nil_of_length_eq_zero (by simpa using hl)
    subst hn
    cases A with
    | none =>
      have hrun : (Builtin.append_ #[t, t] ty #[v, .slice none 0 c]).run P w = .ok v w := by
        rcases hown.2 with ⟨rfl, rfl⟩ | ⟨g, cap, cur, rfl, _, _, hnc, _⟩
        · simp [Builtin.append_, run_underlying ht, sizeOf, typeInfo, hi, Builtin.lenOf, Builtin.firstCells]
        · simp [Builtin.append_, run_underlying ht, sizeOf, typeInfo, hi, Builtin.lenOf, Builtin.firstCells, hnc, storeCells]
      exact ⟨v, w, n, hrun, by simpa using hown, Grew.of_ext (Ext.refl w) (.inl rfl)⟩
    | some ad =>
      obtain ⟨v', w', h2, h3, h4, _, h5⟩ := run_append_own_at (P := P) w base t ty e i z size bytes ht hi hz hsize hby hzs hsz v n xs hown ad 0 c [] (by simp) (by simp) (by simp) h63 hbytes hbase
      exact ⟨v', w', _, h2, h3, h4, h5.imp_right fun h k hk => by rw [h] at hk; exact Nat.le_of_eq (Option.some.inj hk)⟩
  · obtain ⟨ad, rfl, hc⟩ := hcells hm
    obtain ⟨v', w', h2, h3, h4, _, h5⟩ := run_append_own_at (P := P) w base t ty e i z size bytes ht hi hz hsize hby hzs hsz v n xs hown ad m c news hl hc h1 h63 hbytes hbase
    exact ⟨v', w', _, h2, h3, h4, h5.imp_right fun h k hk => by rw [h] at hk; exact Nat.le_of_eq (Option.some.inj hk)⟩

theorem r_len {t ty : TypeId} {e : TypeId} {sz : Nat} (ht : P.underlying t = some (.slice e)) {xs : List Value} {v : Value} (h : Sl sz xs v w) : ∃ n, xs.length = n * sz ∧ n ≤ maxLen ∧ (Builtin.len_ #[t] ty #[v]).run P w = .ok (I n) w := by
  obtain ⟨A, n, c, rfl, hnc, hcm, hl, _, _⟩ := h
  refine ⟨n, hl, Nat.le_trans hnc hcm, ?_⟩
  simp [Builtin.len_, run_underlying ht, goInt, I]

/-- s[lo:hi] -/
theorem r_slice {t e : TypeId} {sz : Nat} (ht : P.underlying t = some (.slice e)) (hsz : (P.info? e).map (·.size) = some sz) {xs : List Value} {v : Value} (h : Sl sz xs v w) {lo hi : Nat} (h1 : lo ≤ hi) (h2 : hi * sz ≤ xs.length) (h0 : 0 < sz) (kl kh : IntKind) :
    ∃ r, (∀ w' : World, (Instr.sliceAt t v (some (.int kl lo)) (some (.int kh hi)) none).run P w' = .ok r w') ∧ Sl sz ((xs.take (hi * sz)).drop (lo * sz)) r w := by
  obtain ⟨A, n, c, rfl, hnc, hcm, hl, hc, hnone⟩ := h
  obtain ⟨i, hi', hs⟩ := Option.map_eq_some_iff.1 hsz
  have hhn : hi ≤ n := by
    rw [hl] at h2
    exact Nat.le_of_mul_le_mul_right h2 h0
  have hb : ∀ w : World, (Instr.sliceBounds true n c (some (.int kl lo)) (some (.int kh hi)) none).run P w = .ok (lo, hi, c) w := fun w => by
    have a1 := run_sliceBound (P := P) (w := w) kh (hi : Int) c .sliceAcap (by omega) (by omega)
    have a2 := run_sliceBound (P := P) (w := w) kl (lo : Int) hi .sliceB (by omega) (by omega)
    simp only [Int.toNat_natCast] at a1 a2
    simp [Instr.sliceBounds, a1, a2]
  refine ⟨.slice (if c = lo then A else A.map (·.add (lo * sz))) (hi - lo) (c - lo), ?_, ?_⟩
  · intro w'; simp [Instr.sliceAt, Instr.slice, run_underlying ht, hb, sizeOf, typeInfo, hi', hs]
  · refine ⟨_, _, _, rfl, by omega, by omega, ?_, fun hn => ?_, fun hA => ?_⟩
    · rw [List.length_drop, List.length_take, Nat.min_eq_left h2, ← Nat.sub_mul]
    · obtain ⟨ad, rfl, hcl⟩ := hc (by omega)
      rw [if_neg (by omega)]
      exact ⟨_, rfl, (hcl.take _).drop _⟩
    · split at hA
      · have := hnone hA; omega
      · cases A with
        | none => have := hnone rfl; omega
        | some ad => cases hA
theorem r_slice_lo {t e : TypeId} {sz : Nat} (ht : P.underlying t = some (.slice e)) (hsz : (P.info? e).map (·.size) = some sz) {xs : List Value} {v : Value} (h : Sl sz xs v w) {lo : Nat} (h2 : lo * sz ≤ xs.length) (h0 : 0 < sz) (kl : IntKind) :
    ∃ r, (∀ w' : World, (Instr.sliceAt t v (some (.int kl lo)) none none).run P w' = .ok r w') ∧ Sl sz (xs.drop (lo * sz)) r w := by
  obtain ⟨A, n, c, rfl, hnc, hcm, hl, hc, hnone⟩ := h
  obtain ⟨i, hi', hs⟩ := Option.map_eq_some_iff.1 hsz
  have hln : lo ≤ n := by
    rw [hl] at h2
    exact Nat.le_of_mul_le_mul_right h2 h0
  have hb : ∀ w : World, (Instr.sliceBounds true n c (some (.int kl lo)) none none).run P w = .ok (lo, n, c) w := fun w => by
    have a2 := run_sliceBound (P := P) (w := w) kl (lo : Int) n .sliceB (by omega) (by omega)
    simp only [Int.toNat_natCast] at a2
    simp [Instr.sliceBounds, a2]
  refine ⟨.slice (if c = lo then A else A.map (·.add (lo * sz))) (n - lo) (c - lo), ?_, ?_⟩
  · intro w'; simp [Instr.sliceAt, Instr.slice, run_underlying ht, hb, sizeOf, typeInfo, hi', hs]
  · refine ⟨_, _, _, rfl, by omega, by omega, ?_, fun hn => ?_, fun hA => ?_⟩
    · rw [List.length_drop, hl, ← Nat.sub_mul]
    · obtain ⟨ad, rfl, hcl⟩ := hc (by omega)
      rw [if_neg (by omega)]
      exact ⟨_, rfl, hcl.drop _⟩
    · split at hA
      · have := hnone hA; omega
      · cases A with
        | none => have := hnone rfl; omega
        | some ad => cases hA
theorem r_slice_hi {t e : TypeId} {sz : Nat} (ht : P.underlying t = some (.slice e)) (hsz : (P.info? e).map (·.size) = some sz) {xs : List Value} {v : Value} (h : Sl sz xs v w) {hi : Nat} (h2 : hi * sz ≤ xs.length) (h0 : 0 < sz) (kh : IntKind) :
    ∃ r, (∀ w' : World, (Instr.sliceAt t v none (some (.int kh hi)) none).run P w' = .ok r w') ∧ Sl sz (xs.take (hi * sz)) r w := by
  obtain ⟨A, n, c, rfl, hnc, hcm, hl, hc, hnone⟩ := h
  obtain ⟨i, hi', hs⟩ := Option.map_eq_some_iff.1 hsz
  have hhn : hi ≤ n := by
    rw [hl] at h2
    exact Nat.le_of_mul_le_mul_right h2 h0
  have hb : ∀ w : World, (Instr.sliceBounds true n c none (some (.int kh hi)) none).run P w = .ok (0, hi, c) w := fun w => by
    have a1 := run_sliceBound (P := P) (w := w) kh (hi : Int) c .sliceAcap (by omega) (by omega)
    simp only [Int.toNat_natCast] at a1
    simp [Instr.sliceBounds, a1]
  refine ⟨.slice (if c = 0 then A else A.map (·.add (0 * sz))) (hi - 0) (c - 0), ?_, ?_⟩
  · intro w'; simp [Instr.sliceAt, Instr.slice, run_underlying ht, hb, sizeOf, typeInfo, hi', hs]
  · have hA' : (if c = 0 then A else A.map (·.add (0 * sz))) = A := by
      split
      · rfl
      · cases A <;> simp [add_zero]
    rw [hA']
    refine ⟨_, _, _, rfl, by omega, by omega, ?_, fun hn => ?_, fun hA => by have := hnone hA; omega⟩
    · rw [List.length_take, Nat.min_eq_left h2]; simp
    · obtain ⟨ad, rfl, hcl⟩ := hc (by omega)
      exact ⟨_, rfl, hcl.take _⟩

/-- &s[i] -/
theorem r_index {t e : TypeId} {sz : Nat} (ht : P.underlying t = some (.slice e)) (hsz : (P.info? e).map (·.size) = some sz) {xs : List Value} {v : Value} (h : Sl sz xs v w) {i : Nat} (h2 : (i + 1) * sz ≤ xs.length) (h0 : 0 < sz) (k : IntKind) :
    ∃ ad, (∀ w' : World, (Instr.indexAt t v (.int k i)).run P w' = .ok (.pointer (some ad)) w') ∧ Cells w ad ((xs.drop (i * sz)).take sz) := by
  obtain ⟨A, n, c, rfl, hnc, hcm, hl, hc, hnone⟩ := h
  obtain ⟨ti, hi', hs⟩ := Option.map_eq_some_iff.1 hsz
  have hin : i < n := by
    rw [hl] at h2
    exact Nat.le_of_mul_le_mul_right h2 h0
  obtain ⟨ad, rfl, hcl⟩ := hc (by omega)
  refine ⟨ad.add (i * sz), ?_, (hcl.drop _).take _⟩
  intro w'
  simp [Instr.indexAt, asIntOf, run_underlying ht, hin, sizeOf, typeInfo, hi', hs]
end

end Go.Rl

/- Runs over this program's own types: bytes, texts, rows of bytes. Conditions: each names its own. -/
import Derived.Test.YtifjnhdnpglbpaaNum
import Derived.Test.YtifjnhdnpglbpaaProg
import Derived.KernelRfl
namespace Go.Rl
open Go.RowKit Go.Proofs

/-! ### buildSlice, for elements of one cell -/
theorem fill_number (vs : List Value) : ∀ (a b : List Value), (∀ v ∈ vs, v.cells = #[v]) → b.length = vs.length →
    Instr.fill (fun i => some (i * 1, 1)) (a ++ b).toArray (number a.length vs) = some (a ++ vs).toArray := by
  induction vs with
  | nil =>
    intro a b _ hb
    have : b = [] := List.eq_nil_of_length_eq_zero (by simpa using hb)
    subst this
    rfl
  | cons v vs ih =>
    intro a b h1 hb
    cases b with
    | nil => simp at hb
    | cons b0 b =>
      have hv : v.cells = #[v] := h1 v (by simp)
      have hz : v.cells.zipIdx.foldl (fun (cs : Array Value) (c, j) => cs.setIfInBounds (a.length * 1 + j) c) (a ++ b0 :: b).toArray = ((a ++ [v]) ++ b).toArray := by
        rw [hv]; simp
      have hc : (v.cells.size ≠ 1 || decide (a.length * 1 + v.cells.size > (a ++ b0 :: b).toArray.size)) = false := by rw [hv]; simp
      have := ih (a ++ [v]) b (fun u hu => h1 u (by simp [hu])) (by simpa using hb)
      simp only [number, Instr.fill]
      rw [hc, hz]
      simp only [List.length_append, List.length_cons, List.length_nil, Nat.zero_add] at this
      simpa using this

theorem one_cells {v : Value} (h : v.oneCell' = true) : v.cells = #[v] := by cases v <;> first | rfl | cases h

section
variable {P : Program} {w : World}
theorem r_buildSlice {base : Nat} {t e : TypeId} {z : Value} {bytes : Nat} (ht : P.underlying t = some (.slice e)) (hi : (P.info? e).map (fun i => (i.zero, i.size, i.bytes)) = some (some z, 1, bytes))
    (vs : List Value) (h1 : ∀ v ∈ vs, v.oneCell' = true) (hl : vs.length ≤ 16777216) (hb : base ≤ w.heap.size) :
    ∃ r w', (Instr.buildSlice t vs.length (number 0 vs).toArray).run P w = .ok r w' ∧ Ext w w' ∧ w'.ownsRow base e 1 r vs.length vs ∧ r.ownBlock = some w.heap.size := by
  obtain ⟨i, hi, hz0, hs, _⟩ := info_parts hi
  refine ⟨.slice (some ⟨w.heap.size, 0, none⟩) vs.length vs.length, w.alloc (.cells vs.toArray e), ?_, Ext.new w _, ?_, rfl⟩
  · have hf : ∀ Z : Array Value, Z.size = vs.length → Instr.fill (fun i => some (i * 1, 1)) Z (number 0 vs) = some vs.toArray := fun Z hZ => by
      have := fill_number vs [] Z.toList (fun v hv => one_cells (h1 v hv)) (by simpa using hZ)
      simpa using this
    have hle : ¬ (vs.length * 1 > 2 ^ 24) := by omega
    have hinfo : (typeInfo e).run P w = .ok i w := by simp [typeInfo, hi]
    have hsz : (sizeOf e).run P w = .ok 1 w := by simp [sizeOf, hinfo, hs]
    have hzv : (zeroValue e).run P w = .ok z w := by simp [zeroValue, hinfo, hz0]
    simp only [Instr.buildSlice, Sem.run_bind, run_underlying ht, Result.andThen_ok, hsz, if_neg hle]
    by_cases h0 : vs.length * 1 = 0
    · rw [if_pos h0]
      simp only [Sem.run_bind, Sem.run_pure, Result.andThen_ok]
      rw [hf _ (by simp)]
      simp [newRow]
    · rw [if_neg h0]
      simp only [Sem.run_bind, Sem.run_pure, Result.andThen_ok, hzv]
      rw [hf _ (by simp)]
      simp [newRow]
  · exact World.ownsRow_lit w vs.toArray vs.length hb (by unfold maxLen; omega) (by simp)

theorem r_ext0 {u v : Value} : (Instr.extract (.tuple #[u, v]) 0).run P w = .ok u w := rfl
theorem r_ext1 {u v : Value} : (Instr.extract (.tuple #[u, v]) 1).run P w = .ok v w := rfl
theorem r_ext3_0 {u v z : Value} : (Instr.extract (.tuple #[u, v, z]) 0).run P w = .ok u w := rfl
theorem r_ext3_1 {u v z : Value} : (Instr.extract (.tuple #[u, v, z]) 1).run P w = .ok v w := rfl
theorem r_ext3_2 {u v z : Value} : (Instr.extract (.tuple #[u, v, z]) 2).run P w = .ok z w := rfl

/-- s == nil, s != nil -/
theorem r_eqnil {t e : TypeId} (ht : P.underlying t = some (.slice e)) {x y : Operand} {A : Option Addr} {n c : Nat} : (bin .eql t x y (.slice A n c) (.slice none 0 0)).run P w = .ok (B A.isNone) w := by
  have h : (Op.equal t (.slice A n c) (.slice none 0 0)).run P w = .ok A.isNone w := by
    show (Op.equalIn (9999 + 1) t (.slice A n c) (.slice none 0 0)).run P w = _
    unfold Op.equalIn
    cases A <;> simp [run_underlying ht]
  show (do pure (Value.bool (← Op.equal t (.slice A n c) (.slice none 0 0))) : Sem Value).run P w = _
  rw [Sem.run_bind, h]; rfl
/-- pointers against nil -/
theorem r_eqnilp {t e : TypeId} (ht : P.underlying t = some (.pointer e)) {x y : Operand} {a : Option Addr} : (bin .eql t x y (.pointer a) (.pointer none)).run P w = .ok (B a.isNone) w := by
  have h : (Op.equal t (.pointer a) (.pointer none)).run P w = .ok a.isNone w := by
    show (Op.equalIn (9999 + 1) t (.pointer a) (.pointer none)).run P w = _
    unfold Op.equalIn
    cases a <;> simp [run_underlying ht]
  show (do pure (Value.bool (← Op.equal t (.pointer a) (.pointer none))) : Sem Value).run P w = _
  rw [Sem.run_bind, h]; rfl
theorem r_nenilp {t e : TypeId} (ht : P.underlying t = some (.pointer e)) {x y : Operand} {a : Option Addr} : (bin .neq t x y (.pointer a) (.pointer none)).run P w = .ok (B a.isSome) w := by
  have h : (Op.equal t (.pointer a) (.pointer none)).run P w = .ok a.isNone w := by
    show (Op.equalIn (9999 + 1) t (.pointer a) (.pointer none)).run P w = _
    unfold Op.equalIn
    cases a <;> simp [run_underlying ht]
  show (do pure (Value.bool (!(← Op.equal t (.pointer a) (.pointer none)))) : Sem Value).run P w = _
  rw [Sem.run_bind, h]
  cases a <;> rfl
end

/-! ### bytes and texts of this program -/
section
variable {w : World}
/-- The slice of bytes reads as the list. -/
def Bts (l : List UInt8) : Fact := Sl 1 (l.map U8)
/-- .. and lies in a row of its own, from base on. -/
def OwnB (base : Nat) (l : List UInt8) : Fact := fun v w => ∃ n, w.ownsRow base 5 1 v n (l.map U8)
theorem Bts.stable (l : List UInt8) : Stable (Bts l) := Sl.stable _ _
theorem Bts.ext {l : List UInt8} {v : Value} {w w' : World} (h : Bts l v w) (hx : Ext w w') : Bts l v w' := Sl.ext h hx
theorem OwnB.bts {base : Nat} {l : List UInt8} {v : Value} (h : OwnB base l v w) : Bts l v w := h.elim fun _ h => Sl.of_own h
theorem OwnB.stable (base : Nat) (l : List UInt8) : Stable (OwnB base l) := fun _ _ _ h hx => h.elim fun n h => ⟨n, ownsRow_ext h hx⟩
theorem OwnB.ext {base : Nat} {l : List UInt8} {v : Value} {w w' : World} (h : OwnB base l v w) (hx : Ext w w') : OwnB base l v w' := OwnB.stable _ _ _ _ _ h hx
theorem one_U8 (l : List UInt8) : ∀ u ∈ l.map U8, u.oneCell' = true := by
  intro u hu
  obtain ⟨b, _, rfl⟩ := List.mem_map.1 hu
  rfl
theorem info_u8 : (Try.prog.info? 5).map (fun i => (i.zero, i.size, i.bytes)) = some (some (.int .u8 0), 1, 1) := by kernel_rfl
theorem size_u8 : (Try.prog.info? 5).map (·.size) = some 1 := by kernel_rfl

theorem push_all (l : List UInt8) : ∀ (s : ByteArray), (l.map (fun b => (b.toNat : Int))).foldl (fun r n => r.push (UInt8.ofNat n.toNat)) s = ⟨(s.data.toList ++ l).toArray⟩ := by
  induction l with
  | nil => intro s; simp
  | cons b l ih =>
    intro s
    rw [List.map_cons, List.foldl_cons, ih]
    simp [ByteArray.push]

theorem r_str {l : List UInt8} {v : Value} (h : Bts l v w) : (convert 22 9 v).run Try.prog w = .ok (S l) w := by
  obtain ⟨A, n, c, rfl, hnc, hcm, hl, hc, hnone⟩ := h
  have hl' : l.length = n := by simpa using hl
  rw [run_convert_bytes_string w _ _ _ A n c Try.underlying22 Try.underlying5 Try.underlying9]
  have hn0 : n = 0 → l = [] := fun h => List.eq_nil_of_length_eq_zero (by omega)
  cases A with
  | none =>
    have := hnone rfl
    rw [hn0 (by omega)]
    rfl
  | some a =>
    have hcells : Cells w a (l.map U8) := by
      rcases Nat.eq_zero_or_pos n with h0 | h0
      · rw [hn0 h0]; intro j u hu; simp at hu
      · obtain ⟨ad, he, hc⟩ := hc h0
        obtain rfl := Option.some.inj he
        exact hc
    have hload := run_loadCells_list (P := Try.prog) (w := w) a (l.map U8) hcells
    have hmap : (l.map U8) = (l.map (fun b => (b.toNat : Int))).map (Value.int .u8) := by rw [List.map_map]; rfl
    rw [hmap] at hload
    simp only [List.length_map] at hload
    rw [hl'] at hload
    rw [run_bytesToString w a n c _ hload, push_all]
    rfl
theorem r_lenB {l : List UInt8} {v : Value} {ty : TypeId} (h : Bts l v w) : (Builtin.len_ #[22] ty #[v]).run Try.prog w = .ok (I l.length) w := by
  obtain ⟨n, hl, _, hr⟩ := r_len (P := Try.prog) (ty := ty) Try.underlying22 h
  have : l.length = n := by simpa using hl
  rw [hr, this]
theorem r_lenS {l : List UInt8} {ty : TypeId} : (Builtin.len_ #[9] ty #[S l]).run Try.prog w = .ok (I l.length) w := by
  have e : (⟨l.toArray⟩ : ByteArray).size = l.length := by simp [ByteArray.size]
  simp [Builtin.len_, run_underlying Try.underlying9, goInt, I, S, e]
theorem Bts.len {l : List UInt8} {v : Value} (h : Bts l v w) : l.length ≤ 9223372036854775807 := by
  obtain ⟨A, n, c, rfl, hnc, hcm, hl, _⟩ := h
  have : l.length = n := by simpa using hl
  unfold maxLen at hcm; omega

/-- append of bytes onto a row of its own -/
theorem r_appB {base : Nat} {l m : List UInt8} {v x : Value} {ty : TypeId} (hv : OwnB base l v w) (hx : Bts m x w) (hb : l.length + m.length ≤ 140737488355328) (hbase : base ≤ w.heap.size) :
    ∃ r w', (Builtin.append_ #[22, 22] ty #[v, x]).run Try.prog w = .ok r w' ∧ OwnB base (l ++ m) r w' ∧ Grew w w' v r := by
  obtain ⟨n, hv⟩ := hv
  obtain ⟨r, w', n', h1, h2, h3⟩ := r_append (P := Try.prog) (ty := ty) Try.underlying22 info_u8 rfl (by omega) hv hx (one_U8 m) (by simpa using hb) (by omega) hbase
  exact ⟨r, w', h1, ⟨n', by rw [List.map_append]; exact h2⟩, h3⟩
theorem r_bsB (base : Nat) (l : List UInt8) (hl : l.length ≤ 16777216) (hb : base ≤ w.heap.size) :
    ∃ r w', (Instr.buildSlice 22 l.length (number 0 (l.map U8)).toArray).run Try.prog w = .ok r w' ∧ Ext w w' ∧ OwnB base l r w' ∧ r.ownBlock = some w.heap.size := by
  have := r_buildSlice (P := Try.prog) (w := w) Try.underlying22 info_u8 (l.map U8) (one_U8 l) (by simpa using hl) hb
  simp only [List.length_map] at this
  obtain ⟨r, w', h1, h2, h3, h4⟩ := this
  exact ⟨r, w', h1, h2, ⟨_, h3⟩, h4⟩
theorem r_slB {l : List UInt8} {v : Value} (h : Bts l v w) {lo hi : Nat} (h1 : lo ≤ hi) (h2 : hi ≤ l.length) (kl kh : IntKind) :
    ∃ r, (∀ w' : World, (Instr.sliceAt 22 v (some (.int kl lo)) (some (.int kh hi)) none).run Try.prog w' = .ok r w') ∧ Bts ((l.take hi).drop lo) r w := by
  obtain ⟨r, h3, h4⟩ := r_slice (P := Try.prog) Try.underlying22 size_u8 h h1 (by simpa using h2) (by omega) kl kh
  exact ⟨r, h3, by simpa [Bts, List.map_drop, List.map_take] using h4⟩
theorem r_slB_lo {l : List UInt8} {v : Value} (h : Bts l v w) {lo : Nat} (h2 : lo ≤ l.length) (kl : IntKind) :
    ∃ r, (∀ w' : World, (Instr.sliceAt 22 v (some (.int kl lo)) none none).run Try.prog w' = .ok r w') ∧ Bts (l.drop lo) r w := by
  obtain ⟨r, h3, h4⟩ := r_slice_lo (P := Try.prog) Try.underlying22 size_u8 h (lo := lo) (by simpa using h2) (by omega) kl
  exact ⟨r, h3, by simpa [Bts, List.map_drop] using h4⟩
theorem r_slB_hi {l : List UInt8} {v : Value} (h : Bts l v w) {hi : Nat} (h2 : hi ≤ l.length) (kh : IntKind) :
    ∃ r, (∀ w' : World, (Instr.sliceAt 22 v none (some (.int kh hi)) none).run Try.prog w' = .ok r w') ∧ Bts (l.take hi) r w := by
  obtain ⟨r, h3, h4⟩ := r_slice_hi (P := Try.prog) Try.underlying22 size_u8 h (hi := hi) (by simpa using h2) (by omega) kh
  exact ⟨r, h3, by simpa [Bts, List.map_take] using h4⟩
/-- the address of a byte, and the byte there -/
theorem r_ixB {l : List UInt8} {v : Value} (h : Bts l v w) {i : Nat} (hi : i < l.length) (k : IntKind) :
    ∃ ad, (∀ w' : World, (Instr.indexAt 22 v (.int k i)).run Try.prog w' = .ok (.pointer (some ad)) w') ∧ w.cell? ad = some (U8 l[i]) := by
  obtain ⟨ad, h3, h4⟩ := r_index (P := Try.prog) Try.underlying22 size_u8 h (i := i) (by simp; omega) (by omega) k
  refine ⟨ad, h3, ?_⟩
  have := h4 0 (U8 l[i]) (by simp [hi])
  rwa [add_zero] at this
theorem r_ldB {ad : Addr} {b : UInt8} (h : w.cell? ad = some (U8 b)) : (Instr.loadAt 5 (.pointer (some ad))).run Try.prog w = .ok (U8 b) w := r_load1 Try.underlying5 rfl h

/-! ### rows of texts -/
def Txs (l : List (List UInt8)) : Fact := Sl 1 (l.map S)
theorem Txs.ext {l : List (List UInt8)} {v : Value} {w w' : World} (h : Txs l v w) (hx : Ext w w') : Txs l v w' := Sl.ext h hx
theorem size_string : (Try.prog.info? 9).map (·.size) = some 1 := by kernel_rfl
theorem Txs.len {l : List (List UInt8)} {v : Value} (h : Txs l v w) : l.length ≤ 9223372036854775807 := by
  obtain ⟨A, n, c, rfl, hnc, hcm, hl, _⟩ := h
  have : l.length = n := by simpa using hl
  unfold maxLen at hcm; omega
theorem r_lenT {t : TypeId} (ht : Try.prog.underlying t = some (.slice 9)) {l : List (List UInt8)} {v : Value} {ty : TypeId} (h : Txs l v w) : (Builtin.len_ #[t] ty #[v]).run Try.prog w = .ok (I l.length) w := by
  obtain ⟨n, hl, _, hr⟩ := r_len (P := Try.prog) (ty := ty) ht h
  have : l.length = n := by simpa using hl
  rw [hr, this]
theorem r_ixT {t : TypeId} (ht : Try.prog.underlying t = some (.slice 9)) {l : List (List UInt8)} {v : Value} (h : Txs l v w) {i : Nat} (hi : i < l.length) (k : IntKind) :
    ∃ ad, (∀ w' : World, (Instr.indexAt t v (.int k i)).run Try.prog w' = .ok (.pointer (some ad)) w') ∧ w.cell? ad = some (S l[i]) := by
  obtain ⟨ad, h3, h4⟩ := r_index (P := Try.prog) ht size_string h (i := i) (by simp; omega) (by omega) k
  refine ⟨ad, h3, ?_⟩
  have := h4 0 (S l[i]) (by simp [hi])
  rwa [add_zero] at this

/-! ### limbs -/
def Wds (l : List UInt32) : Fact := Sl 1 (l.map U32)
def OwnW (base : Nat) (l : List UInt32) : Fact := fun v w => ∃ n, w.ownsRow base 79 1 v n (l.map U32)
theorem Wds.stable (l : List UInt32) : Stable (Wds l) := Sl.stable _ _
theorem Wds.ext {l : List UInt32} {v : Value} {w w' : World} (h : Wds l v w) (hx : Ext w w') : Wds l v w' := Sl.ext h hx
theorem OwnW.wds {base : Nat} {l : List UInt32} {v : Value} (h : OwnW base l v w) : Wds l v w := h.elim fun _ h => Sl.of_own h
theorem OwnW.stable (base : Nat) (l : List UInt32) : Stable (OwnW base l) := fun _ _ _ h hx => h.elim fun n h => ⟨n, ownsRow_ext h hx⟩
theorem OwnW.ext {base : Nat} {l : List UInt32} {v : Value} {w w' : World} (h : OwnW base l v w) (hx : Ext w w') : OwnW base l v w' := OwnW.stable _ _ _ _ _ h hx
theorem OwnW.nil (base : Nat) (w : World) : OwnW base [] (.slice none 0 0) w := ⟨0, World.ownsRow_nil _ _ _ _⟩
theorem OwnB.nil (base : Nat) (w : World) : OwnB base [] (.slice none 0 0) w := ⟨0, World.ownsRow_nil _ _ _ _⟩
theorem Bts.nil (w : World) : Bts [] (.slice none 0 0) w := Sl.nil _ _
theorem Wds.nil (w : World) : Wds [] (.slice none 0 0) w := Sl.nil _ _
theorem one_U32 (l : List UInt32) : ∀ u ∈ l.map U32, u.oneCell' = true := by
  intro u hu
  obtain ⟨b, _, rfl⟩ := List.mem_map.1 hu
  rfl
theorem info_u32 : (Try.prog.info? 79).map (fun i => (i.zero, i.size, i.bytes)) = some (some (.int .u32 0), 1, 4) := by kernel_rfl
theorem size_u32 : (Try.prog.info? 79).map (·.size) = some 1 := by kernel_rfl
theorem r_lenW {t : TypeId} (ht : Try.prog.underlying t = some (.slice 79)) {l : List UInt32} {v : Value} {ty : TypeId} (h : Wds l v w) : (Builtin.len_ #[t] ty #[v]).run Try.prog w = .ok (I l.length) w := by
  obtain ⟨n, hl, _, hr⟩ := r_len (P := Try.prog) (ty := ty) ht h
  have : l.length = n := by simpa using hl
  rw [hr, this]
theorem Wds.len {l : List UInt32} {v : Value} (h : Wds l v w) : l.length ≤ 9223372036854775807 := by
  obtain ⟨A, n, c, rfl, hnc, hcm, hl, _⟩ := h
  have : l.length = n := by simpa using hl
  unfold maxLen at hcm; omega
theorem r_ixW {t : TypeId} (ht : Try.prog.underlying t = some (.slice 79)) {l : List UInt32} {v : Value} (h : Wds l v w) {i : Nat} (hi : i < l.length) (k : IntKind) :
    ∃ ad, (∀ w' : World, (Instr.indexAt t v (.int k i)).run Try.prog w' = .ok (.pointer (some ad)) w') ∧ w.cell? ad = some (U32 l[i]) := by
  obtain ⟨ad, h3, h4⟩ := r_index (P := Try.prog) ht size_u32 h (i := i) (by simp; omega) (by omega) k
  refine ⟨ad, h3, ?_⟩
  have := h4 0 (U32 l[i]) (by simp [hi])
  rwa [add_zero] at this
theorem r_ldW {ad : Addr} {b : UInt32} (h : w.cell? ad = some (U32 b)) : (Instr.loadAt 79 (.pointer (some ad))).run Try.prog w = .ok (U32 b) w := r_load1 Try.underlying79 rfl h
theorem r_appW {base : Nat} {t : TypeId} (ht : Try.prog.underlying t = some (.slice 79)) {l m : List UInt32} {v x : Value} {ty : TypeId} (hv : OwnW base l v w) (hx : Wds m x w) (hb : l.length + m.length ≤ 35184372088832) (hbase : base ≤ w.heap.size) :
    ∃ r w', (Builtin.append_ #[t, t] ty #[v, x]).run Try.prog w = .ok r w' ∧ OwnW base (l ++ m) r w' ∧ Grew w w' v r := by
  obtain ⟨n, hv⟩ := hv
  obtain ⟨r, w', n', h1, h2, h3⟩ := r_append (P := Try.prog) (ty := ty) ht info_u32 rfl (by omega) hv hx (one_U32 m) (by simp; omega) (by omega) hbase
  exact ⟨r, w', h1, ⟨n', by rw [List.map_append]; exact h2⟩, h3⟩
theorem r_bsW {t : TypeId} (ht : Try.prog.underlying t = some (.slice 79)) (base : Nat) (l : List UInt32) (hl : l.length ≤ 16777216) (hb : base ≤ w.heap.size) :
    ∃ r w', (Instr.buildSlice t l.length (number 0 (l.map U32)).toArray).run Try.prog w = .ok r w' ∧ Ext w w' ∧ OwnW base l r w' ∧ r.ownBlock = some w.heap.size := by
  have := r_buildSlice (P := Try.prog) (w := w) ht info_u32 (l.map U32) (one_U32 l) (by simpa using hl) hb
  simp only [List.length_map] at this
  obtain ⟨r, w', h1, h2, h3, h4⟩ := this
  exact ⟨r, w', h1, h2, ⟨_, h3⟩, h4⟩
end
end Go.Rl

/- Reading limbs and rationals, in plain words; what stays when a reader moves on. No condition. -/
import Derived.Test.YtifjnhdnpglbpaaQ2
import Derived.Test.YtifjnhdnpglbpaaRead2
namespace Go.Rl
open Go.RowKit Go.Proofs

/-! ### What stays -/
/-- Bytes and limbs stay. -/
structure Kp (w w' : World) : Prop where
  size : w.heap.size ≤ w'.heap.size
  bts : ∀ {l : List UInt8} {v : Value}, Bts l v w → Bts l v w'
  wds : ∀ {l : List UInt32} {v : Value}, Wds l v w → Wds l v w'
theorem Kp.of_ext {w w' : World} (h : Ext w w') : Kp w w' := ⟨h.size, fun b => b.ext h, fun b => b.ext h⟩
theorem Kp.refl (w : World) : Kp w w := .of_ext (Ext.refl w)
theorem Kp.trans {a b c : World} (h : Kp a b) (k : Kp b c) : Kp a c := ⟨Nat.le_trans h.size k.size, fun x => k.bts (h.bts x), fun x => k.wds (h.wds x)⟩
theorem Bts.kp {w w' : World} {l : List UInt8} {v : Value} (h : Bts l v w) (k : Kp w w') : Bts l v w' := k.bts h
theorem Wds.kp {w w' : World} {l : List UInt32} {v : Value} (h : Wds l v w) (k : Kp w w') : Wds l v w' := k.wds h
theorem RatV.kp {w w' : World} {b : Bool} {n m : List UInt32} {v : Value} (h : RatV b n m v w) (k : Kp w w') : RatV b n m v w' := by
  obtain ⟨x, y, rfl, h1, h2⟩ := h
  exact ⟨x, y, rfl, h1.kp k, h2.kp k⟩
/-- The reader at block g, of type T. -/
def RdT (T : TypeId) (g : Nat) (st : Option (List UInt8)) (w : World) : Prop := ∃ A n c, Blk g T [.slice A n c, B st.isNone] w ∧ Bts (st.getD []) (.slice A n c) w
theorem RdAt.rdT {g : Nat} {st : Option (List UInt8)} {w : World} (h : RdAt g st w) : RdT 83 g st w := h
theorem RdT.rdAt {g : Nat} {st : Option (List UInt8)} {w : World} (h : RdT 83 g st w) : RdAt g st w := h
section
variable {T : TypeId} {g : Nat} {st : Option (List UInt8)} {w w' : World}
theorem RdT.ext (h : RdT T g st w) (hx : Ext w w') : RdT T g st w' := by
  obtain ⟨A, n, c, h1, h2⟩ := h
  exact ⟨A, n, c, h1.ext hx, h2.ext hx⟩
theorem rd_noWord (A : Option Addr) (n c : Nat) (b : Bool) (l : List UInt32) : ∀ (j : Nat) (u : Value), u ∈ l.map U32 → (#[.slice A n c, .bool b] : Array Value)[j]? ≠ some u := by
  intro j u hu
  obtain ⟨x, _, rfl⟩ := List.mem_map.1 hu
  match j with
  | 0 => simp [U32]
  | 1 => simp [U32]
  | j + 2 => simp
theorem RdT.kp (hr : RdT T g st w) (hw : w.grownBy w' (some g)) : Kp w w' := by
  obtain ⟨A, n, c, h1, _⟩ := hr
  exact ⟨hw.size, fun h => Sl.keep h h1 (rd_noByte A n c _ _) hw, fun h => Sl.keep h h1 (rd_noWord A n c _ _) hw⟩
theorem RdT.other {T' : TypeId} {g' : Nat} {s : Option (List UInt8)} (h : RdT T' g' s w) (hr : RdT T g st w) (hw : w.grownBy w' (some g)) (hne : g' ≠ g) : RdT T' g' s w' := by
  obtain ⟨A, n, c, h1, h2⟩ := h
  exact ⟨A, n, c, h1.other hw (fun e => hne (Option.some.inj e)), h2.kp (hr.kp hw)⟩
/-- The bytes of a reader are replaced. -/
theorem RdT.set {l l' : List UInt8} {v : Value} (h : RdT T g (some l) w) (hv : Bts l' v w) :
    ∃ w', (Instr.storeAt 22 (.pointer (some ⟨g, 0, none⟩)) v).run Try.prog w = .ok () w' ∧ w.grownBy w' (some g) ∧ RdT T g (some l') w' := by
  obtain ⟨A, n, c, h1, h2⟩ := h
  obtain ⟨A', n', c', rfl, h3⟩ := id hv
  have hg := grownBy_setCell w g 0 (.slice A' n' c')
  have hk := RdT.kp (T := T) (st := some l) ⟨A, n, c, h1, h2⟩ hg
  refine ⟨_, r_store1 (i := 0) size_bytes rfl h1 (by simp), hg, A', n', c', h1.set 0 _, hk.bts hv⟩
end

theorem rat_noByte (b : Bool) (A C : Option Addr) (n c m d : Nat) (l : List UInt8) : ∀ (j : Nat) (u : Value), u ∈ l.map U8 → (#[.bool b, .slice A n c, .slice C m d] : Array Value)[j]? ≠ some u := by
  intro j u hu
  obtain ⟨x, _, rfl⟩ := List.mem_map.1 hu
  match j with
  | 0 => simp [U8]
  | 1 => simp [U8]
  | 2 => simp [U8]
  | j + 3 => simp
/-- A rational's block changes. -/
theorem Blk.kpR {g : Nat} {T : TypeId} {b : Bool} {x y : Value} {w w' : World} (h : Blk g T [B b, x, y] w) (hx : ∃ A n c, x = .slice A n c) (hy : ∃ A n c, y = .slice A n c) (hw : w.grownBy w' (some g)) : Kp w w' := by
  obtain ⟨A, n, c, rfl⟩ := hx
  obtain ⟨C, m, d, rfl⟩ := hy
  exact ⟨hw.size, fun k => Sl.keep k h (rat_noByte b A C n c m d _) hw, fun k => Sl.keep k h (rat_noWord b A C n c m d _) hw⟩
theorem RdT.off {T : TypeId} {g g' : Nat} {st : Option (List UInt8)} {w w' : World} (h : RdT T g st w) (k : Kp w w') (hw : w.grownBy w' (some g')) (hne : g ≠ g') : RdT T g st w' := by
  obtain ⟨A, n, c, h1, h2⟩ := h
  exact ⟨A, n, c, h1.other hw (fun e => hne (Option.some.inj e)), h2.kp k⟩
/-- A block that came later changes. -/
theorem gb_new {w w1 w2 : World} {row : Option Nat} {g : Nat} (h : w.grownBy w1 row) (q : w1.grownBy w2 (some g)) (hg : w.heap.size ≤ g) : w.grownBy w2 row :=
  ⟨q.os.trans h.os, q.tape.trans h.tape, q.output.trans h.output, Nat.le_trans h.size q.size, fun i hi hne => (q.block i (Nat.lt_of_lt_of_le hi h.size) (fun e => by have := Option.some.inj e; omega)).trans (h.block i hi hne)⟩
/-- A row in a block and a second result. -/
theorem r_bodyc2 {P : Program} {fn : Func} {R : Ending → World → Prop} {N : Nat} {fr : Fr} {p s : Tmp} {t T : TypeId} {u : Value} {l : List Value} {w : World} {g : Nat} {d : TypeDesc} (hr : fn.results = #[.cell p t, .tmp s]) (hv : lk fr p = some (.pointer (some ⟨g, 0, none⟩))) (hs : lk fr s = some u) (hb : Blk g T l w) (hu : P.underlying t = some d) (hd : d.isRow = true) (hi : (P.info? t).map (·.size) = some l.length)
    (h : R (.returned (.tuple #[.agg l.toArray, u])) w) : ExitJ (bodyPost P fn R) N [] fr w .ret := fun a ha => by
  refine ⟨ha.defers, .tuple #[.agg l.toArray, u], ?_, h⟩
  have hp := ha.at_ p _ hv
  have hp' : a.tmps[p]?.getD undef = .pointer (some ⟨g, 0, none⟩) := by simpa using hp
  have hq := ha.at_ s _ hs
  have hl := run_loadVar_row w g T t l.toArray (0, 0) d hb hu (by cases d <;> first | rfl | exact hd) (by simpa using hi)
  simp [results, hr, hp', asAddr, hl, ← hq]

/-! ### Folded integers -/
def uz (n : Nat) : Int := if n % 2 = 0 then ((n / 2 : Nat) : Int) else -((n / 2 : Nat) : Int) - 1
theorem uz_zig (n : Int) : uz (zig n) = n := by
  unfold uz zig
  split <;> split <;> omega
theorem zig_uz (n : Nat) : zig (uz n) = n := by
  unfold uz zig
  split <;> split <;> omega
theorem r_xor_0 {P : Program} {w : World} {t : TypeId} {x y : Operand} {q : Nat} (hq : q < 9223372036854775808) : (bin .xor t x y (I (q : Int)) (I 0)).run P w = .ok (I (q : Int)) w := by
  have h := r_xor_i (P := P) (w := w) (t := t) (x := x) (y := y) (a := Int64.ofInt q) (b := Int64.ofInt 0)
  rw [Int64.toInt_ofInt_of_le (by simp) (by simp; omega)] at h
  have e : (Int64.ofInt q ^^^ Int64.ofInt 0).toInt = q := by
    rw [show Int64.ofInt 0 = 0 from rfl, Int64.xor_zero, Int64.toInt_ofInt_of_le (by simp) (by simp; omega)]
  rw [e] at h
  exact h
theorem r_xor_1 {P : Program} {w : World} {t : TypeId} {x y : Operand} {q : Nat} (hq : q < 9223372036854775808) : (bin .xor t x y (I (q : Int)) (I (-1))).run P w = .ok (I (-(q : Int) - 1)) w := by
  have h := r_xor_i (P := P) (w := w) (t := t) (x := x) (y := y) (a := Int64.ofInt q) (b := Int64.ofInt (-1))
  rw [Int64.toInt_ofInt_of_le (by simp) (by simp; omega)] at h
  have e : (Int64.ofInt q ^^^ Int64.ofInt (-1)).toInt = -(q : Int) - 1 := by
    have : Int64.ofInt q ^^^ Int64.ofInt (-1) = ~~~ (Int64.ofInt q) := by
      apply Int64.toBitVec_inj.1
      rw [Int64.toBitVec_xor, Int64.toBitVec_not]
      have : (Int64.ofInt (-1)).toBitVec = BitVec.allOnes 64 := by decide
      rw [this, BitVec.xor_allOnes]
    rw [this, Int64.toInt_not, Int64.toInt_ofInt_of_le (by simp) (by simp; omega)]
    exact Int.bmod_eq_of_le (by simp; omega) (by simp; omega)
  rw [e] at h
  exact h

/-! ### Four bytes and a limb -/
def w4 (a b c d : UInt8) : UInt32 := UInt32.ofNat (a.toNat + 256 * b.toNat + 65536 * c.toNat + 16777216 * d.toNat)
theorem w4_nat (a b c d : UInt8) : (w4 a b c d).toNat = a.toNat + 256 * b.toNat + 65536 * c.toNat + 16777216 * d.toNat := by
  have := a.toNat_lt; have := b.toNat_lt; have := c.toNat_lt; have := d.toNat_lt
  unfold w4
  rw [UInt32.toNat_ofNat']
  omega
theorem w4_le4 (x : UInt32) : w4 x.toUInt8 (x >>> UInt32.ofNat 8).toUInt8 (x >>> UInt32.ofNat 16).toUInt8 (x >>> UInt32.ofNat 24).toUInt8 = x := by
  have := u32_lt x
  refine u32_ext ?_
  rw [w4_nat]
  simp only [UInt32.toNat_toUInt8, UInt32.toNat_shiftRight, show (UInt32.ofNat 8).toNat = 8 from rfl, show (UInt32.ofNat 16).toNat = 16 from rfl, show (UInt32.ofNat 24).toNat = 24 from rfl, Nat.shiftRight_eq_div_pow, Nat.reduceMod, Nat.reducePow]
  omega
theorem le4_w4 (a b c d : UInt8) : le4 (w4 a b c d) = [a, b, c, d] := by
  have ha := a.toNat_lt; have hb := b.toNat_lt; have hc := c.toNat_lt; have hd := d.toNat_lt
  have e : ∀ x y : UInt8, x.toNat = y.toNat → x = y := fun x y h => UInt8.toNat_inj.1 h
  have h := w4_nat a b c d
  unfold le4
  congr 1
  · refine e _ _ ?_
    rw [UInt32.toNat_toUInt8, h]; omega
  congr 1
  · refine e _ _ ?_
    rw [UInt32.toNat_toUInt8, UInt32.toNat_shiftRight, h, show (UInt32.ofNat 8).toNat % 32 = 8 from rfl, Nat.shiftRight_eq_div_pow]; omega
  congr 1
  · refine e _ _ ?_
    rw [UInt32.toNat_toUInt8, UInt32.toNat_shiftRight, h, show (UInt32.ofNat 16).toNat % 32 = 16 from rfl, Nat.shiftRight_eq_div_pow]; omega
  congr 1
  · refine e _ _ ?_
    rw [UInt32.toNat_toUInt8, UInt32.toNat_shiftRight, h, show (UInt32.ofNat 24).toNat % 32 = 24 from rfl, Nat.shiftRight_eq_div_pow]; omega
theorem u8_u32 (a : UInt8) : a.toUInt32.toNat = a.toNat := by simp
theorem w4_or (a b c d : UInt8) : ((a.toUInt32 ||| (b.toUInt32 <<< UInt32.ofNat 8)) ||| (c.toUInt32 <<< UInt32.ofNat 16)) ||| (d.toUInt32 <<< UInt32.ofNat 24) = w4 a b c d := by
  have ha := a.toNat_lt; have hb := b.toNat_lt; have hc := c.toNat_lt; have hd := d.toNat_lt
  have sh : ∀ (x : UInt8) (k : Nat), k ≤ 24 → (x.toUInt32 <<< UInt32.ofNat k).toNat = x.toNat <<< k := fun x k hk => by
    have hx := x.toNat_lt
    rw [UInt32.toNat_shiftLeft, u8_u32]
    have : (UInt32.ofNat k).toNat % 32 = k := by rw [UInt32.toNat_ofNat']; omega
    rw [this, Nat.shiftLeft_eq]
    have : 2 ^ k ≤ 2 ^ 24 := Nat.pow_le_pow_right (by omega) hk
    have : x.toNat * 2 ^ k ≤ 255 * 2 ^ 24 := Nat.mul_le_mul (by omega) this
    omega
  refine u32_ext ?_
  rw [w4_nat]
  simp only [UInt32.toNat_or, sh _ 8 (by omega), sh _ 16 (by omega), sh _ 24 (by omega), u8_u32]
  rw [Nat.or_comm a.toNat, ← Nat.shiftLeft_add_eq_or_of_lt (by omega), Nat.or_comm _ (c.toNat <<< 16), ← Nat.shiftLeft_add_eq_or_of_lt (by rw [Nat.shiftLeft_eq]; omega), Nat.or_comm _ (d.toNat <<< 24), ← Nat.shiftLeft_add_eq_or_of_lt (by simp only [Nat.shiftLeft_eq]; omega)]
  simp only [Nat.shiftLeft_eq]
  omega
theorem w4_add (a b c d : UInt8) : ((a.toUInt32 + (b.toUInt32 * 256)) + (c.toUInt32 * 65536)) + (d.toUInt32 * 16777216) = w4 a b c d := by
  have ha := a.toNat_lt; have hb := b.toNat_lt; have hc := c.toNat_lt; have hd := d.toNat_lt
  refine u32_ext ?_
  rw [w4_nat]
  simp only [UInt32.toNat_add, UInt32.toNat_mul, u8_u32, show (256 : UInt32).toNat = 256 from rfl, show (65536 : UInt32).toNat = 65536 from rfl, show (16777216 : UInt32).toNat = 16777216 from rfl]
  omega

def unle4 : List UInt8 → List UInt32
  | a :: b :: c :: d :: l => w4 a b c d :: unle4 l
  | _ => []
theorem unle4_len : ∀ (n : Nat) (l : List UInt8), l.length = 4 * n → (unle4 l).length = n
  | 0, [], _ => rfl
  | n + 1, a :: b :: c :: d :: l, h => by
    have := unle4_len n l (by simp at h; omega)
    simp [unle4, this]
  | n + 1, [], h => by simp at h
  | n + 1, [_], h => by simp at h; omega
  | n + 1, [_, _], h => by simp at h; omega
  | n + 1, [_, _, _], h => by simp at h; omega
theorem unle4_le4s : ∀ (l : List UInt32), unle4 (le4s l) = l
  | [] => rfl
  | x :: l => by
    have e : le4s (x :: l) = le4 x ++ le4s l := by simp [le4s]
    rw [e, le4, List.cons_append, List.cons_append, List.cons_append, List.cons_append, List.nil_append, unle4, w4_le4, unle4_le4s l]
theorem le4s_unle4 : ∀ (n : Nat) (l : List UInt8), l.length = 4 * n → le4s (unle4 l) = l
  | 0, [], _ => rfl
  | n + 1, a :: b :: c :: d :: l, h => by
    have := le4s_unle4 n l (by simp at h; omega)
    have e : ∀ x (l : List UInt32), le4s (x :: l) = le4 x ++ le4s l := fun x l => by simp [le4s]
    rw [unle4, e, this, le4_w4]; rfl
  | n + 1, [], h => by simp at h
  | n + 1, [_], h => by simp at h; omega
  | n + 1, [_, _], h => by simp at h; omega
  | n + 1, [_, _, _], h => by simp at h; omega
/-- One limb more. -/
theorem unle4_next : ∀ (i : Nat) (l : List UInt8) (h : 4 * (i + 1) ≤ l.length), unle4 (l.take (4 * (i + 1))) = unle4 (l.take (4 * i)) ++ [w4 (l[4 * i]) (l[4 * i + 1]) (l[4 * i + 2]) (l[4 * i + 3])]
  | 0, a :: b :: c :: d :: l, _ => by simp [unle4]
  | i + 1, a :: b :: c :: d :: l, h => by
    have := unle4_next i l (by simp at h; omega)
    have e1 : 4 * (i + 1 + 1) = 4 * (i + 1) + 4 := by omega
    have e2 : 4 * (i + 1) = 4 * i + 4 := by omega
    simp only [e1, List.take_succ_cons, unle4, this]
    simp only [e2, List.take_succ_cons, unle4, List.cons_append]
    rfl
  | i, [], h => by simp at h
  | i, [_], h => by simp at h; omega
  | i, [_, _], h => by simp at h; omega
  | i, [_, _, _], h => by simp at h; omega

/-! ### Numbers and rationals -/
/-- Limbs, with their count ahead; only the canonical ones are read. -/
def rdN (l : List UInt8) : Option (List UInt32 × List UInt8) := (rdU l).bind fun p =>
  if p.1 ≤ p.2.length / 4 ∧ lb (val (unle4 (p.2.take (4 * p.1)))) = unle4 (p.2.take (4 * p.1)) then some (unle4 (p.2.take (4 * p.1)), p.2.drop (4 * p.1)) else none
theorem rdN_encN {m : List UInt32} (h : m.length < 18446744073709551616) (hm : lb (val m) = m) (t : List UInt8) : rdN (encN m ++ t) = some (m, t) := by
  have hl := le4s_len m
  have e1 : (le4s m ++ t).take (4 * m.length) = le4s m := by rw [← hl, List.take_left']; rfl
  have e2 : (le4s m ++ t).drop (4 * m.length) = t := by rw [← hl, List.drop_left']; rfl
  unfold rdN encN
  rw [List.append_assoc, rdU_uv h]
  show (if m.length ≤ (le4s m ++ t).length / 4 ∧ lb (val (unle4 ((le4s m ++ t).take (4 * m.length)))) = unle4 ((le4s m ++ t).take (4 * m.length)) then some (unle4 ((le4s m ++ t).take (4 * m.length)), (le4s m ++ t).drop (4 * m.length)) else none) = _
  rw [e1, e2, unle4_le4s, if_pos ⟨by simp only [List.length_append, hl]; omega, hm⟩]
theorem rdN_inv {l t : List UInt8} {m : List UInt32} (h : rdN l = some (m, t)) : l = encN m ++ t ∧ lb (val m) = m ∧ m.length < 18446744073709551616 := by
  unfold rdN at h
  cases hu : rdU l with
  | none => rw [hu] at h; cases h
  | some p =>
    obtain ⟨n, u⟩ := p
    rw [hu] at h
    have h : (if n ≤ u.length / 4 ∧ lb (val (unle4 (u.take (4 * n)))) = unle4 (u.take (4 * n)) then some (unle4 (u.take (4 * n)), u.drop (4 * n)) else none) = some (m, t) := h
    split at h
    · rename_i hc
      simp only [Option.some.injEq, Prod.mk.injEq] at h
      have hl : (u.take (4 * n)).length = 4 * n := by rw [List.length_take]; omega
      have hn := unle4_len n _ hl
      obtain ⟨h1, h2⟩ := rdU_inv hu
      rw [← h.1, ← h.2]
      refine ⟨?_, hc.2, by omega⟩
      unfold encN
      rw [hn, le4s_unle4 n _ hl, List.append_assoc, List.take_append_drop]
      exact h1
    · cases h
/-- A rational: its sign, its numerator, its denominator; only the canonical ones are read. -/
def rdR : List UInt8 → Option ((Bool × List UInt32 × List UInt32) × List UInt8)
  | [] => none
  | c :: l => if 1 < c.toNat then none else (rdN l).bind fun p => (rdN p.2).bind fun q => if rv (decide (c.toNat = 1)) p.1 q.1 = true then some ((decide (c.toNat = 1), p.1, q.1), q.2) else none
end Go.Rl

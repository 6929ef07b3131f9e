/- Rationals that lie in a block; canonical rationals as plain maths. Conditions: each names its own. -/
import Derived.Test.YtifjnhdnpglbpaaR2
import Derived.Test.YtifjnhdnpglbpaaArr
import Derived.Test.YtifjnhdnpglbpaaRat
namespace Go.Rl
open Go.RowKit Go.Proofs

section
variable {P : Program} {w w' : World}
theorem r_fAt {s : TypeId} {fs : Array Field} {f : Field} {n g o : Nat} (hs : P.underlying s = some (.struct fs)) (hf : fs[n]? = some f) (hk : (P.cellsOf f.type == 0) = false) (ho : f.offset = o) :
    (Instr.fieldAt s (.pointer (some ⟨g, 0, none⟩)) n).run P w = .ok (.pointer (some ⟨g, o, none⟩)) w := by
  have hk' : P.cellsOf f.type ≠ 0 := by simpa using hk
  obtain ⟨k, hk1⟩ : ∃ k, (P.info? f.type).map (·.size) = some k := by
    cases hi : (P.info? f.type).map (·.size) with
    | none => exact absurd (by simp [Program.cellsOf, hi]) hk'
    | some k => exact ⟨k, rfl⟩
  have hk0 : k ≠ 0 := by
    intro h
    apply hk'
    simp [Program.cellsOf, hk1, h]
  rw [r_fieldAt hs hf hk1 hk0, ho, add_mk, Nat.zero_add]
end
section
variable {w w' : World}
theorem RatV.stable (b : Bool) (n m : List UInt32) : Stable (RatV b n m) := fun _ _ _ h hx => h.ext hx
theorem RatV.mk {b : Bool} {n m : List UInt32} {x y : Value} (hx : Wds n x w) (hy : Wds m y w) : RatV b n m (.agg #[B b, x, y]) w := ⟨x, y, rfl, hx, hy⟩
theorem Blk.ldR {g : Nat} {T : TypeId} {a b c : Value} (h : Blk g T [a, b, c] w) : (Instr.loadAt 35 (.pointer (some ⟨g, 0, none⟩))).run Try.prog w = .ok (.agg #[a, b, c]) w :=
  r_ldA h (fun j v hj => by simpa using hj) Try.underlying35 rfl size_Rat
theorem r_boxR {b : Bool} {n m : List UInt32} {v : Value} (h : RatV b n m v w) :
    ∃ g x y w', (Instr.box 35 v).run Try.prog w = .ok (.pointer (some ⟨g, 0, none⟩)) w' ∧ Ext w w' ∧ Blk g 35 [B b, x, y] w' ∧ Wds n x w' ∧ Wds m y w' := by
  obtain ⟨x, y, rfl, hx, hy⟩ := h
  exact ⟨_, x, y, _, r_box, Ext.new w _, Blk.new (T := 35) (.agg #[B b, x, y]) rfl, hx.ext (Ext.new w _), hy.ext (Ext.new w _)⟩
theorem zero_Rat : (Try.prog.info? 35).map (·.zero) = some (some (.agg #[B false, .slice none 0 0, .slice none 0 0])) := by kernel_rfl
theorem r_allocR : ∃ g w', (Instr.alloc 35 true (.tuple #[])).run Try.prog w = .ok (.pointer (some ⟨g, 0, none⟩)) w' ∧ w.heap.size ≤ g ∧ Ext w w' ∧ Blk g 35 [B false, .slice none 0 0, .slice none 0 0] w' :=
  r_allocB zero_Rat rfl
theorem rat_noWord (b : Bool) (A C : Option Addr) (n c m d : Nat) (l : List UInt32) : ∀ (j : Nat) (u : Value), u ∈ l.map U32 → (#[.bool b, .slice A n c, .slice C m d] : Array Value)[j]? ≠ some u := by
  intro j u hu
  obtain ⟨x, _, rfl⟩ := List.mem_map.1 hu
  match j with
  | 0 => simp [U32]
  | 1 => simp [U32]
  | 2 => simp [U32]
  | j + 3 => simp
/-- Limbs stand when a block that holds a rational is written. -/
theorem Wds.byR {l : List UInt32} {v : Value} {g : Nat} {T : TypeId} {b : Bool} {x y : Value} (h : Wds l v w) (hb : Blk g T [B b, x, y] w) (hx : ∃ A n c, x = .slice A n c) (hy : ∃ A n c, y = .slice A n c) (hw : w.grownBy w' (some g)) : Wds l v w' := by
  obtain ⟨A, n, c, rfl⟩ := hx
  obtain ⟨C, m, d, rfl⟩ := hy
  exact Sl.keep h hb (rat_noWord b A C n c m d l) hw
theorem Wds.isS {l : List UInt32} {v : Value} (h : Wds l v w) : ∃ A n c, v = .slice A n c := by
  obtain ⟨A, n, c, rfl, _⟩ := h
  exact ⟨A, n, c, rfl⟩
/-- A rational is stored into a block that holds one. -/
theorem Blk.stR {g : Nat} {b c : Bool} {x y v : Value} {n m : List UInt32} (h : Blk g 35 [B b, x, y] w) (hx : ∃ A n c, x = .slice A n c) (hy : ∃ A n c, y = .slice A n c) (hv : RatV c n m v w) :
    ∃ p q w', v = .agg #[B c, p, q] ∧ (Instr.storeAt 35 (.pointer (some ⟨g, 0, none⟩)) v).run Try.prog w = .ok () w' ∧ w.grownBy w' (some g) ∧ Blk g 35 [B c, p, q] w' ∧ Wds n p w' ∧ Wds m q w' := by
  obtain ⟨p, q, rfl, hp, hq⟩ := hv
  obtain ⟨A, n1, c1, rfl⟩ := hp.isS
  obtain ⟨C, n2, c2, rfl⟩ := hq.isS
  refine ⟨_, _, _, rfl, r_stA (m := [B c, .slice A n1 c1, .slice C n2 c2]) h rfl size_Rat ?_, grownBy_setRow w g _, h.row _, hp.byR h hx hy (grownBy_setRow w g _), hq.byR h hx hy (grownBy_setRow w g _)⟩
  intro u hu
  simp only [List.mem_cons, List.not_mem_nil, or_false] at hu
  rcases hu with rfl | rfl | rfl <;> rfl
theorem r_eql_b {P : Program} {x y : Operand} {t : TypeId} (ht : P.underlying t = some .bool) {a b : Bool} : (bin .eql t x y (B a) (B b)).run P w = .ok (B (decide (a = b))) w := by
  have h : (Op.equal t (B a) (B b)).run P w = .ok (decide (a = b)) w := by
    show (Op.equalIn (9999 + 1) t (.bool a) (.bool b)).run P w = _
    unfold Op.equalIn
    cases a <;> cases b <;> simp [run_underlying ht]
  show (do pure (Value.bool (← Op.equal t (B a) (B b))) : Sem Value).run P w = _
  rw [Sem.run_bind, h]; rfl
theorem r_buildR {c : Bool} {p q : Value} (hp : ∃ A n c, p = .slice A n c) (hq : ∃ A n c, q = .slice A n c) : (Instr.build 35 #[(0, B c), (1, p), (2, q)]).run Try.prog w = .ok (.agg #[B c, p, q]) w := by
  obtain ⟨A, n, d, rfl⟩ := hp
  obtain ⟨C, m, e, rfl⟩ := hq
  exact run_build _ _ _ #[B c, .slice A n d, .slice C m e] (by kernel_rfl)
theorem r_buildR2 {c : Bool} {p : Value} (hp : ∃ A n c, p = .slice A n c) : (Instr.build 35 #[(0, B c), (1, p)]).run Try.prog w = .ok (.agg #[B c, p, .slice none 0 0]) w := by
  obtain ⟨A, n, d, rfl⟩ := hp
  exact run_build _ _ _ #[B c, .slice A n d, .slice none 0 0] (by kernel_rfl)
theorem r_buildR0 : (Instr.build 35 #[]).run Try.prog w = .ok (.agg #[B false, .slice none 0 0, .slice none 0 0]) w :=
  run_build _ _ _ #[B false, .slice none 0 0, .slice none 0 0] (by kernel_rfl)
end

/-! ### Plain maths -/
theorem val_inj : ∀ {l m : List UInt32}, l.length = m.length → val l = val m → l = m
  | [], [], _, _ => rfl
  | [], _ :: _, h, _ => by simp at h
  | _ :: _, [], h, _ => by simp at h
  | x :: l, y :: m, h, hv => by
    have hx := u32_lt x
    have hy := u32_lt y
    rw [val, val] at hv
    have h1 : x.toNat = y.toNat := by omega
    have h2 : val l = val m := by omega
    rw [u32_ext h1, val_inj (by simpa using h) h2]
def ud (m : List UInt32) : List UInt32 := if val m = 0 then [1] else m
theorem val_one1 : val [1] = 1 := rfl
theorem lb_one : lb 1 = [1] := rfl
theorem val_ud (m : List UInt32) : val (ud m) = if val m = 0 then 1 else val m := by unfold ud; split <;> simp_all [val_one1]
theorem ud_pos (m : List UInt32) : 0 < val (ud m) := by rw [val_ud]; split <;> omega
/-- The canonical form of a quotient. -/
def cqN (s : Bool) (n : Nat) : Bool := s && decide (0 < n)
def cqD (n d : Nat) : List UInt32 := if d / Nat.gcd n d = 1 then [] else lb (d / Nat.gcd n d)
/-- Whether a rational is canonical. -/
def rv (s : Bool) (n m : List UInt32) : Bool := decide (s = cqN s (val n) ∧ n = lb (val n / Nat.gcd (val n) (val (ud m))) ∧ m = cqD (val n) (val (ud m)))
theorem gcd_pos {n d : Nat} (h : 0 < d) : 0 < Nat.gcd n d := Nat.gcd_pos_of_pos_right n h
theorem lb_is1 {x : Nat} : lb x = [1] ↔ x = 1 := ⟨fun h => lb_inj (h.trans lb_one.symm), fun h => by rw [h, lb_one]⟩
theorem cq_zero {d : Nat} (h : 0 < d) : cqD 0 d = [] := by unfold cqD; rw [Nat.gcd_zero_left, Nat.div_self h, if_pos rfl]
theorem cq_one {n : Nat} : cqD n 1 = [] := by unfold cqD; rw [Nat.gcd_one_right]; rfl
end Go.Rl

/- Runs of the operations on integers, bools and strings, over typed values. Conditions: each names its own. -/
import Derived.Test.YtifjnhdnpglbpaaMem
import Derived.Laws.BitsAllLaws
import Derived.Laws.Strings
namespace Go.Rl
section
variable {P : Program} {w : World} {t : TypeId} {x y : Operand}

theorem bin_int {op : BinOp} {k k' : IntKind} {a b : Int} : (bin op t x y (.int k a) (.int k' b)).run P w = (binOp op t (.int k a) (.int k' b)).run P w := by
  unfold bin eqGuard
  cases op <;> rfl

/-! ### int -/
theorem wrap_i {n : Int} (h1 : -9223372036854775808 ≤ n) (h2 : n ≤ 9223372036854775807) : IntKind.i64.wrap n = n := by rw [IntKind.wrap_i64]; omega
theorem r_add_i {a b : Int} (h1 : -9223372036854775808 ≤ a + b) (h2 : a + b ≤ 9223372036854775807) : (bin .add t x y (I a) (I b)).run P w = .ok (I (a + b)) w := by
  unfold I; rw [bin_int]; simp [binOp, Op.intArith, wrap_i h1 h2]
theorem r_sub_i {a b : Int} (h1 : -9223372036854775808 ≤ a - b) (h2 : a - b ≤ 9223372036854775807) : (bin .sub t x y (I a) (I b)).run P w = .ok (I (a - b)) w := by
  unfold I; rw [bin_int]; simp [binOp, Op.intArith, wrap_i h1 h2]
theorem r_mul_i {a b : Int} (h1 : -9223372036854775808 ≤ a * b) (h2 : a * b ≤ 9223372036854775807) : (bin .mul t x y (I a) (I b)).run P w = .ok (I (a * b)) w := by
  unfold I; rw [bin_int]; simp [binOp, Op.intArith, wrap_i h1 h2]
theorem r_quo_i {a b : Int} (h1 : 0 ≤ a) (h2 : 0 < b) (h3 : a ≤ 9223372036854775807) : (bin .quo t x y (I a) (I b)).run P w = .ok (I (a / b)) w := by
  unfold I; rw [bin_int]
  have e : a.tdiv b = a / b := Int.tdiv_eq_ediv_of_nonneg h1
  have h4 : 0 ≤ a / b := Int.ediv_nonneg h1 (by omega)
  have h5 : a / b ≤ a := Int.ediv_le_self b h1
  have h6 : IntKind.i64.wrap (a / b) = a / b := wrap_i (by omega) (by omega)
  have h7 : b ≠ 0 := by omega
  simp [binOp, Op.intDiv, h7, e, h6]
theorem r_rem_i {a b : Int} (h1 : 0 ≤ a) (h2 : 0 < b) : (bin .rem t x y (I a) (I b)).run P w = .ok (I (a % b)) w := by
  unfold I; rw [bin_int]
  have e : a.tmod b = a % b := Int.tmod_eq_emod_of_nonneg h1
  have h7 : b ≠ 0 := by omega
  simp [binOp, Op.intDiv, h7, e]
theorem r_lss_i {a b : Int} : (bin .lss t x y (I a) (I b)).run P w = .ok (B (decide (a < b))) w := by unfold I; rw [bin_int]; rfl
theorem r_leq_i {a b : Int} : (bin .leq t x y (I a) (I b)).run P w = .ok (B (decide (a ≤ b))) w := by unfold I; rw [bin_int]; rfl
theorem r_gtr_i {a b : Int} : (bin .gtr t x y (I a) (I b)).run P w = .ok (B (decide (a > b))) w := by unfold I; rw [bin_int]; rfl
theorem r_geq_i {a b : Int} : (bin .geq t x y (I a) (I b)).run P w = .ok (B (decide (a ≥ b))) w := by unfold I; rw [bin_int]; rfl
theorem beq_dec {a b : Int} : (a == b) = decide (a = b) := rfl
theorem bne_dec {a b : Int} : (a != b) = decide (a ≠ b) := by
  by_cases h : a = b <;> simp [h]
theorem r_eql_i {a b : Int} : (bin .eql t x y (I a) (I b)).run P w = .ok (B (decide (a = b))) w := by unfold I; rw [bin_int]; rfl
theorem r_neq_i {a b : Int} : (bin .neq t x y (I a) (I b)).run P w = .ok (B (decide (a ≠ b))) w := by
  unfold I; rw [bin_int, ← bne_dec]; rfl
theorem r_shr_i {a : Int} {k : IntKind} (s : Nat) (hs : s < 64) : (bin .shr t x y (I a) (.int k (s : Int))).run P w = .ok (I (a / 2 ^ s)) w := by
  unfold I; rw [bin_int]
  have h1 : ¬ ((s : Int) < 0) := by omega
  have h2 : min s 64 = s := by omega
  have e : a.fdiv (2 ^ s) = a / 2 ^ s := Int.fdiv_eq_ediv_of_nonneg _ (by exact Int.le_of_lt (Int.pow_pos (by omega)))
  simp only [binOp, Op.shift, if_neg h1, Int.toNat_natCast, IntKind.bits, h2, e]
  rfl
theorem r_neg_i {a : Int} (h1 : -9223372036854775808 ≤ -a) (h2 : -a ≤ 9223372036854775807) : (Op.unary .neg (I a)).run P w = .ok (I (-a)) w := by
  have : IntKind.i64.wrap (0 - a) = -a := by rw [Int.zero_sub]; exact wrap_i h1 h2
  simp only [I, Op.unary, Op.intArith, this]; rfl
/-- the bits of an int -/
theorem r_xor_i {a b : Int64} : (bin .xor t x y (I a.toInt) (I b.toInt)).run P w = .ok (I (a ^^^ b).toInt) w := by
  unfold I; rw [bin_int]
  have e : IntKind.i64.wrap ((BitVec.ofInt 64 a.toInt ^^^ BitVec.ofInt 64 b.toInt).toNat : Int) = (a ^^^ b).toInt := by
    have ea : BitVec.ofInt 64 a.toInt = a.toBitVec := BitVec.ofInt_toInt
    have eb : BitVec.ofInt 64 b.toInt = b.toBitVec := BitVec.ofInt_toInt
    rw [ea, eb, IntKind.wrap_i64]
    show _ = (a.toBitVec ^^^ b.toBitVec).toInt
    rw [BitVec.toInt_eq_toNat_cond]
    have := (a.toBitVec ^^^ b.toBitVec).isLt
    split <;> omega
  show Result.ok (Value.int .i64 (IntKind.i64.wrap ((BitVec.ofInt 64 a.toInt ^^^ BitVec.ofInt 64 b.toInt).toNat : Int))) w = _
  rw [e]

/-! ### bools -/
theorem dec_t {p : Prop} {dp : Decidable p} {s : Sem Value} {w' : World} (h : p) (hr : s.run P w = .ok (B (@decide p dp)) w') : s.run P w = .ok (B true) w' := by rw [hr, decide_eq_true h]
theorem dec_f {p : Prop} {dp : Decidable p} {s : Sem Value} {w' : World} (h : ¬ p) (hr : s.run P w = .ok (B (@decide p dp)) w') : s.run P w = .ok (B false) w' := by rw [hr, decide_eq_false h]
theorem r_not {b : Bool} : (Op.unary .not (B b)).run P w = .ok (B (!b)) w := rfl
theorem r_not_d {p : Prop} {dp : Decidable p} : (Op.unary .not (B (@decide p dp))).run P w = .ok (B (decide (¬ p))) w := by
  show Result.ok (Value.bool (!decide p)) w = _
  rw [← decide_not]; rfl

/-! ### UInt8 -/
theorem wrap_u8 (n : Nat) : IntKind.u8.wrap (n : Int) = ((n % 256 : Nat) : Int) := by rw [IntKind.wrap_u8]; omega
theorem lt_u8 (a : UInt8) : a.toNat < 256 := a.toNat_lt
theorem ofInt_u8 (a : UInt8) : BitVec.ofInt 8 (a.toNat : Int) = a.toBitVec := by
  rw [BitVec.ofInt_natCast]; exact BitVec.eq_of_toNat_eq (by simp)
theorem ext_u8 {a b : UInt8} (h : a.toNat = b.toNat) : a = b := UInt8.toNat_inj.1 h
theorem r_add_u8 {a b : UInt8} : (bin .add t x y (U8 a) (U8 b)).run P w = .ok (U8 (a + b)) w := by
  unfold U8; rw [bin_int]
  show Result.ok (Value.int .u8 (IntKind.u8.wrap (((a.toNat : Int)) + (b.toNat : Int)))) w = _
  rw [← Int.natCast_add, wrap_u8, UInt8.toNat_add]
theorem r_sub_u8 {a b : UInt8} : (bin .sub t x y (U8 a) (U8 b)).run P w = .ok (U8 (a - b)) w := by
  unfold U8; rw [bin_int]
  show Result.ok (Value.int .u8 (IntKind.u8.wrap (((a.toNat : Int)) - (b.toNat : Int)))) w = _
  rw [IntKind.wrap_u8, UInt8.toNat_sub]
  have := lt_u8 a; have := lt_u8 b
  have e : ((a.toNat : Int) - (b.toNat : Int)) % 256 = (((256 - b.toNat + a.toNat) % 256 : Nat) : Int) := by omega
  rw [e]
theorem r_mul_u8 {a b : UInt8} : (bin .mul t x y (U8 a) (U8 b)).run P w = .ok (U8 (a * b)) w := by
  unfold U8; rw [bin_int]
  show Result.ok (Value.int .u8 (IntKind.u8.wrap (((a.toNat : Int)) * (b.toNat : Int)))) w = _
  rw [← Int.natCast_mul, wrap_u8, UInt8.toNat_mul]
theorem r_quo_u8 {a b : UInt8} (hb : b ≠ 0) : (bin .quo t x y (U8 a) (U8 b)).run P w = .ok (U8 (a / b)) w := by
  unfold U8; rw [bin_int]
  have h0 : b.toNat ≠ 0 := fun h => hb (ext_u8 (by simpa using h))
  have h1 : (b.toNat : Int) ≠ 0 := by omega
  have e : ((a.toNat : Int)).tdiv (b.toNat : Int) = ((a.toNat / b.toNat : Nat) : Int) := rfl
  have hlt : a.toNat / b.toNat < 256 := Nat.lt_of_le_of_lt (Nat.div_le_self _ _) (lt_u8 a)
  simp only [binOp, Op.intDiv, ne_eq, not_true_eq_false, if_false, if_neg h1, e, wrap_u8, Nat.mod_eq_of_lt hlt, UInt8.toNat_div]
  rfl
theorem r_rem_u8 {a b : UInt8} (hb : b ≠ 0) : (bin .rem t x y (U8 a) (U8 b)).run P w = .ok (U8 (a % b)) w := by
  unfold U8; rw [bin_int]
  have h0 : b.toNat ≠ 0 := fun h => hb (ext_u8 (by simpa using h))
  have h1 : (b.toNat : Int) ≠ 0 := by omega
  have e : ((a.toNat : Int)).tmod (b.toNat : Int) = ((a.toNat % b.toNat : Nat) : Int) := rfl
  simp only [binOp, Op.intDiv, ne_eq, not_true_eq_false, if_false, if_neg h1, e, UInt8.toNat_mod]
  rfl
theorem r_lss_u8 {a b : UInt8} : (bin .lss t x y (U8 a) (U8 b)).run P w = .ok (B (decide (a < b))) w := by
  unfold U8; rw [bin_int]
  have : decide (((a.toNat : Int)) < (b.toNat : Int)) = decide (a < b) := decide_eq_decide.2 (by rw [UInt8.lt_iff_toNat_lt]; omega)
  show Result.ok (Value.bool (decide (((a.toNat : Int)) < (b.toNat : Int)))) w = _
  rw [this]; rfl
theorem r_leq_u8 {a b : UInt8} : (bin .leq t x y (U8 a) (U8 b)).run P w = .ok (B (decide (a ≤ b))) w := by
  unfold U8; rw [bin_int]
  have : decide (((a.toNat : Int)) ≤ (b.toNat : Int)) = decide (a ≤ b) := decide_eq_decide.2 (by rw [UInt8.le_iff_toNat_le]; omega)
  show Result.ok (Value.bool (decide (((a.toNat : Int)) ≤ (b.toNat : Int)))) w = _
  rw [this]; rfl
theorem r_gtr_u8 {a b : UInt8} : (bin .gtr t x y (U8 a) (U8 b)).run P w = .ok (B (decide (a > b))) w := by
  unfold U8; rw [bin_int]
  have : decide (((a.toNat : Int)) > (b.toNat : Int)) = decide (a > b) := decide_eq_decide.2 (by show _ ↔ b < a; rw [UInt8.lt_iff_toNat_lt]; omega)
  show Result.ok (Value.bool (decide (((a.toNat : Int)) > (b.toNat : Int)))) w = _
  rw [this]; rfl
theorem r_geq_u8 {a b : UInt8} : (bin .geq t x y (U8 a) (U8 b)).run P w = .ok (B (decide (a ≥ b))) w := by
  unfold U8; rw [bin_int]
  have : decide (((a.toNat : Int)) ≥ (b.toNat : Int)) = decide (a ≥ b) := decide_eq_decide.2 (by show _ ↔ b ≤ a; rw [UInt8.le_iff_toNat_le]; omega)
  show Result.ok (Value.bool (decide (((a.toNat : Int)) ≥ (b.toNat : Int)))) w = _
  rw [this]; rfl
theorem r_eql_u8 {a b : UInt8} : (bin .eql t x y (U8 a) (U8 b)).run P w = .ok (B (decide (a = b))) w := by
  unfold U8; rw [bin_int]
  have : (((a.toNat : Int)) == (b.toNat : Int)) = decide (a = b) := by
    rw [beq_dec]; exact decide_eq_decide.2 ⟨fun h => ext_u8 (by omega), fun h => by rw [h]⟩
  show Result.ok (Value.bool (((a.toNat : Int)) == (b.toNat : Int))) w = _
  rw [this]; rfl
theorem r_neq_u8 {a b : UInt8} : (bin .neq t x y (U8 a) (U8 b)).run P w = .ok (B (decide (a ≠ b))) w := by
  unfold U8; rw [bin_int]
  have : (((a.toNat : Int)) != (b.toNat : Int)) = decide (a ≠ b) := by
    rw [bne_dec]; exact decide_eq_decide.2 ⟨fun h he => h (by rw [he]), fun h he => h (ext_u8 (by omega))⟩
  show Result.ok (Value.bool (((a.toNat : Int)) != (b.toNat : Int))) w = _
  rw [this]; rfl

theorem r_and_u8 {a b : UInt8} : (bin .and t x y (U8 a) (U8 b)).run P w = .ok (U8 (a &&& b)) w := by
  unfold U8; rw [bin_int]
  show Result.ok (Value.int .u8 (IntKind.u8.wrap ((BitVec.ofInt 8 (a.toNat : Int) &&& BitVec.ofInt 8 (b.toNat : Int)).toNat : Int))) w = _
  rw [ofInt_u8, ofInt_u8, wrap_u8, Nat.mod_eq_of_lt (by have := (a.toBitVec &&& b.toBitVec).isLt; simpa using this)]
  rfl

theorem r_or_u8 {a b : UInt8} : (bin .or t x y (U8 a) (U8 b)).run P w = .ok (U8 (a ||| b)) w := by
  unfold U8; rw [bin_int]
  show Result.ok (Value.int .u8 (IntKind.u8.wrap ((BitVec.ofInt 8 (a.toNat : Int) ||| BitVec.ofInt 8 (b.toNat : Int)).toNat : Int))) w = _
  rw [ofInt_u8, ofInt_u8, wrap_u8, Nat.mod_eq_of_lt (by have := (a.toBitVec ||| b.toBitVec).isLt; simpa using this)]
  rfl

theorem r_xor_u8 {a b : UInt8} : (bin .xor t x y (U8 a) (U8 b)).run P w = .ok (U8 (a ^^^ b)) w := by
  unfold U8; rw [bin_int]
  show Result.ok (Value.int .u8 (IntKind.u8.wrap ((BitVec.ofInt 8 (a.toNat : Int) ^^^ BitVec.ofInt 8 (b.toNat : Int)).toNat : Int))) w = _
  rw [ofInt_u8, ofInt_u8, wrap_u8, Nat.mod_eq_of_lt (by have := (a.toBitVec ^^^ b.toBitVec).isLt; simpa using this)]
  rfl

theorem r_compl_u8 {a : UInt8} : (Op.unary .xor (U8 a)).run P w = .ok (U8 (~~~a)) w := by
  show Result.ok (Value.int .u8 (IntKind.u8.wrap ((BitVec.ofInt 8 (255 : Int) ^^^ BitVec.ofInt 8 (a.toNat : Int)).toNat : Int))) w = _
  have e : BitVec.ofInt 8 (255 : Int) = BitVec.allOnes 8 := by decide
  rw [ofInt_u8, e, BitVec.allOnes_xor, wrap_u8, Nat.mod_eq_of_lt (by have := (~~~a.toBitVec).isLt; simpa using this)]
  rfl
theorem r_shr_u8 {a : UInt8} {k : IntKind} (s : Nat) (hs : s < 8) : (bin .shr t x y (U8 a) (.int k (s : Int))).run P w = .ok (U8 (a >>> UInt8.ofNat s)) w := by
  unfold U8; rw [bin_int]
  have h1 : ¬ ((s : Int) < 0) := by omega
  have h2 : min s 8 = s := by omega
  have e : ((a.toNat : Int)).fdiv (2 ^ s) = ((a.toNat / 2 ^ s : Nat) : Int) := by
    rw [Int.fdiv_eq_ediv_of_nonneg _ (by exact Int.le_of_lt (Int.pow_pos (by omega)))]
    simp
  have e2 : (a >>> UInt8.ofNat s).toNat = a.toNat / 2 ^ s := by
    rw [UInt8.toNat_shiftRight, Nat.shiftRight_eq_div_pow]
    have : (UInt8.ofNat s).toNat % 8 = s := by rw [UInt8.toNat_ofNat']; omega
    rw [this]
  simp only [binOp, Op.shift, if_neg h1, Int.toNat_natCast, IntKind.bits, h2, e, ← e2]
  rfl
theorem r_shl_u8 {a : UInt8} {k : IntKind} (s : Nat) (hs : s < 8) : (bin .shl t x y (U8 a) (.int k (s : Int))).run P w = .ok (U8 (a <<< UInt8.ofNat s)) w := by
  unfold U8; rw [bin_int]
  have h1 : ¬ ((s : Int) < 0) := by omega
  have h2 : min s 8 = s := by omega
  have e2 : (a <<< UInt8.ofNat s).toNat = a.toNat * 2 ^ s % 256 := by
    rw [UInt8.toNat_shiftLeft, Nat.shiftLeft_eq]
    have : (UInt8.ofNat s).toNat % 8 = s := by rw [UInt8.toNat_ofNat']; omega
    rw [this]
  have e : ((a.toNat : Int)) * 2 ^ s = ((a.toNat * 2 ^ s : Nat) : Int) := by simp
  simp only [binOp, Op.shift, if_neg h1, Int.toNat_natCast, IntKind.bits, h2, e, wrap_u8, ← e2]
  rfl

/-! ### UInt32 -/
theorem wrap_u32 (n : Nat) : IntKind.u32.wrap (n : Int) = ((n % 4294967296 : Nat) : Int) := by rw [IntKind.wrap_u32]; omega
theorem lt_u32 (a : UInt32) : a.toNat < 4294967296 := a.toNat_lt
theorem ofInt_u32 (a : UInt32) : BitVec.ofInt 32 (a.toNat : Int) = a.toBitVec := by
  rw [BitVec.ofInt_natCast]; exact BitVec.eq_of_toNat_eq (by simp)
theorem ext_u32 {a b : UInt32} (h : a.toNat = b.toNat) : a = b := UInt32.toNat_inj.1 h
theorem r_add_u32 {a b : UInt32} : (bin .add t x y (U32 a) (U32 b)).run P w = .ok (U32 (a + b)) w := by
  unfold U32; rw [bin_int]
  show Result.ok (Value.int .u32 (IntKind.u32.wrap (((a.toNat : Int)) + (b.toNat : Int)))) w = _
  rw [← Int.natCast_add, wrap_u32, UInt32.toNat_add]
theorem r_sub_u32 {a b : UInt32} : (bin .sub t x y (U32 a) (U32 b)).run P w = .ok (U32 (a - b)) w := by
  unfold U32; rw [bin_int]
  show Result.ok (Value.int .u32 (IntKind.u32.wrap (((a.toNat : Int)) - (b.toNat : Int)))) w = _
  rw [IntKind.wrap_u32, UInt32.toNat_sub]
  have := lt_u32 a; have := lt_u32 b
  have e : ((a.toNat : Int) - (b.toNat : Int)) % 4294967296 = (((4294967296 - b.toNat + a.toNat) % 4294967296 : Nat) : Int) := by omega
  rw [e]
theorem r_mul_u32 {a b : UInt32} : (bin .mul t x y (U32 a) (U32 b)).run P w = .ok (U32 (a * b)) w := by
  unfold U32; rw [bin_int]
  show Result.ok (Value.int .u32 (IntKind.u32.wrap (((a.toNat : Int)) * (b.toNat : Int)))) w = _
  rw [← Int.natCast_mul, wrap_u32, UInt32.toNat_mul]
theorem r_quo_u32 {a b : UInt32} (hb : b ≠ 0) : (bin .quo t x y (U32 a) (U32 b)).run P w = .ok (U32 (a / b)) w := by
  unfold U32; rw [bin_int]
  have h0 : b.toNat ≠ 0 := fun h => hb (ext_u32 (by simpa using h))
  have h1 : (b.toNat : Int) ≠ 0 := by omega
  have e : ((a.toNat : Int)).tdiv (b.toNat : Int) = ((a.toNat / b.toNat : Nat) : Int) := rfl
  have hlt : a.toNat / b.toNat < 4294967296 := Nat.lt_of_le_of_lt (Nat.div_le_self _ _) (lt_u32 a)
  simp only [binOp, Op.intDiv, ne_eq, not_true_eq_false, if_false, if_neg h1, e, wrap_u32, Nat.mod_eq_of_lt hlt, UInt32.toNat_div]
  rfl
theorem r_rem_u32 {a b : UInt32} (hb : b ≠ 0) : (bin .rem t x y (U32 a) (U32 b)).run P w = .ok (U32 (a % b)) w := by
  unfold U32; rw [bin_int]
  have h0 : b.toNat ≠ 0 := fun h => hb (ext_u32 (by simpa using h))
  have h1 : (b.toNat : Int) ≠ 0 := by omega
  have e : ((a.toNat : Int)).tmod (b.toNat : Int) = ((a.toNat % b.toNat : Nat) : Int) := rfl
  simp only [binOp, Op.intDiv, ne_eq, not_true_eq_false, if_false, if_neg h1, e, UInt32.toNat_mod]
  rfl
theorem r_lss_u32 {a b : UInt32} : (bin .lss t x y (U32 a) (U32 b)).run P w = .ok (B (decide (a < b))) w := by
  unfold U32; rw [bin_int]
  have : decide (((a.toNat : Int)) < (b.toNat : Int)) = decide (a < b) := decide_eq_decide.2 (by rw [UInt32.lt_iff_toNat_lt]; omega)
  show Result.ok (Value.bool (decide (((a.toNat : Int)) < (b.toNat : Int)))) w = _
  rw [this]; rfl
theorem r_leq_u32 {a b : UInt32} : (bin .leq t x y (U32 a) (U32 b)).run P w = .ok (B (decide (a ≤ b))) w := by
  unfold U32; rw [bin_int]
  have : decide (((a.toNat : Int)) ≤ (b.toNat : Int)) = decide (a ≤ b) := decide_eq_decide.2 (by rw [UInt32.le_iff_toNat_le]; omega)
  show Result.ok (Value.bool (decide (((a.toNat : Int)) ≤ (b.toNat : Int)))) w = _
  rw [this]; rfl
theorem r_gtr_u32 {a b : UInt32} : (bin .gtr t x y (U32 a) (U32 b)).run P w = .ok (B (decide (a > b))) w := by
  unfold U32; rw [bin_int]
  have : decide (((a.toNat : Int)) > (b.toNat : Int)) = decide (a > b) := decide_eq_decide.2 (by show _ ↔ b < a; rw [UInt32.lt_iff_toNat_lt]; omega)
  show Result.ok (Value.bool (decide (((a.toNat : Int)) > (b.toNat : Int)))) w = _
  rw [this]; rfl
theorem r_geq_u32 {a b : UInt32} : (bin .geq t x y (U32 a) (U32 b)).run P w = .ok (B (decide (a ≥ b))) w := by
  unfold U32; rw [bin_int]
  have : decide (((a.toNat : Int)) ≥ (b.toNat : Int)) = decide (a ≥ b) := decide_eq_decide.2 (by show _ ↔ b ≤ a; rw [UInt32.le_iff_toNat_le]; omega)
  show Result.ok (Value.bool (decide (((a.toNat : Int)) ≥ (b.toNat : Int)))) w = _
  rw [this]; rfl
theorem r_eql_u32 {a b : UInt32} : (bin .eql t x y (U32 a) (U32 b)).run P w = .ok (B (decide (a = b))) w := by
  unfold U32; rw [bin_int]
  have : (((a.toNat : Int)) == (b.toNat : Int)) = decide (a = b) := by
    rw [beq_dec]; exact decide_eq_decide.2 ⟨fun h => ext_u32 (by omega), fun h => by rw [h]⟩
  show Result.ok (Value.bool (((a.toNat : Int)) == (b.toNat : Int))) w = _
  rw [this]; rfl
theorem r_neq_u32 {a b : UInt32} : (bin .neq t x y (U32 a) (U32 b)).run P w = .ok (B (decide (a ≠ b))) w := by
  unfold U32; rw [bin_int]
  have : (((a.toNat : Int)) != (b.toNat : Int)) = decide (a ≠ b) := by
    rw [bne_dec]; exact decide_eq_decide.2 ⟨fun h he => h (by rw [he]), fun h he => h (ext_u32 (by omega))⟩
  show Result.ok (Value.bool (((a.toNat : Int)) != (b.toNat : Int))) w = _
  rw [this]; rfl

theorem r_and_u32 {a b : UInt32} : (bin .and t x y (U32 a) (U32 b)).run P w = .ok (U32 (a &&& b)) w := by
  unfold U32; rw [bin_int]
  show Result.ok (Value.int .u32 (IntKind.u32.wrap ((BitVec.ofInt 32 (a.toNat : Int) &&& BitVec.ofInt 32 (b.toNat : Int)).toNat : Int))) w = _
  rw [ofInt_u32, ofInt_u32, wrap_u32, Nat.mod_eq_of_lt (by have := (a.toBitVec &&& b.toBitVec).isLt; simpa using this)]
  rfl

theorem r_or_u32 {a b : UInt32} : (bin .or t x y (U32 a) (U32 b)).run P w = .ok (U32 (a ||| b)) w := by
  unfold U32; rw [bin_int]
  show Result.ok (Value.int .u32 (IntKind.u32.wrap ((BitVec.ofInt 32 (a.toNat : Int) ||| BitVec.ofInt 32 (b.toNat : Int)).toNat : Int))) w = _
  rw [ofInt_u32, ofInt_u32, wrap_u32, Nat.mod_eq_of_lt (by have := (a.toBitVec ||| b.toBitVec).isLt; simpa using this)]
  rfl

theorem r_xor_u32 {a b : UInt32} : (bin .xor t x y (U32 a) (U32 b)).run P w = .ok (U32 (a ^^^ b)) w := by
  unfold U32; rw [bin_int]
  show Result.ok (Value.int .u32 (IntKind.u32.wrap ((BitVec.ofInt 32 (a.toNat : Int) ^^^ BitVec.ofInt 32 (b.toNat : Int)).toNat : Int))) w = _
  rw [ofInt_u32, ofInt_u32, wrap_u32, Nat.mod_eq_of_lt (by have := (a.toBitVec ^^^ b.toBitVec).isLt; simpa using this)]
  rfl

theorem r_compl_u32 {a : UInt32} : (Op.unary .xor (U32 a)).run P w = .ok (U32 (~~~a)) w := by
  show Result.ok (Value.int .u32 (IntKind.u32.wrap ((BitVec.ofInt 32 (4294967295 : Int) ^^^ BitVec.ofInt 32 (a.toNat : Int)).toNat : Int))) w = _
  have e : BitVec.ofInt 32 (4294967295 : Int) = BitVec.allOnes 32 := by decide
  rw [ofInt_u32, e, BitVec.allOnes_xor, wrap_u32, Nat.mod_eq_of_lt (by have := (~~~a.toBitVec).isLt; simpa using this)]
  rfl
theorem r_shr_u32 {a : UInt32} {k : IntKind} (s : Nat) (hs : s < 32) : (bin .shr t x y (U32 a) (.int k (s : Int))).run P w = .ok (U32 (a >>> UInt32.ofNat s)) w := by
  unfold U32; rw [bin_int]
  have h1 : ¬ ((s : Int) < 0) := by omega
  have h2 : min s 32 = s := by omega
  have e : ((a.toNat : Int)).fdiv (2 ^ s) = ((a.toNat / 2 ^ s : Nat) : Int) := by
    rw [Int.fdiv_eq_ediv_of_nonneg _ (by exact Int.le_of_lt (Int.pow_pos (by omega)))]
    simp
  have e2 : (a >>> UInt32.ofNat s).toNat = a.toNat / 2 ^ s := by
    rw [UInt32.toNat_shiftRight, Nat.shiftRight_eq_div_pow]
    have : (UInt32.ofNat s).toNat % 32 = s := by rw [UInt32.toNat_ofNat']; omega
    rw [this]
  simp only [binOp, Op.shift, if_neg h1, Int.toNat_natCast, IntKind.bits, h2, e, ← e2]
  rfl
theorem r_shl_u32 {a : UInt32} {k : IntKind} (s : Nat) (hs : s < 32) : (bin .shl t x y (U32 a) (.int k (s : Int))).run P w = .ok (U32 (a <<< UInt32.ofNat s)) w := by
  unfold U32; rw [bin_int]
  have h1 : ¬ ((s : Int) < 0) := by omega
  have h2 : min s 32 = s := by omega
  have e2 : (a <<< UInt32.ofNat s).toNat = a.toNat * 2 ^ s % 4294967296 := by
    rw [UInt32.toNat_shiftLeft, Nat.shiftLeft_eq]
    have : (UInt32.ofNat s).toNat % 32 = s := by rw [UInt32.toNat_ofNat']; omega
    rw [this]
  have e : ((a.toNat : Int)) * 2 ^ s = ((a.toNat * 2 ^ s : Nat) : Int) := by simp
  simp only [binOp, Op.shift, if_neg h1, Int.toNat_natCast, IntKind.bits, h2, e, wrap_u32, ← e2]
  rfl

/-! ### UInt64 -/
theorem wrap_u64 (n : Nat) : IntKind.u64.wrap (n : Int) = ((n % 18446744073709551616 : Nat) : Int) := by rw [IntKind.wrap_u64]; omega
theorem lt_u64 (a : UInt64) : a.toNat < 18446744073709551616 := a.toNat_lt
theorem ofInt_u64 (a : UInt64) : BitVec.ofInt 64 (a.toNat : Int) = a.toBitVec := by
  rw [BitVec.ofInt_natCast]; exact BitVec.eq_of_toNat_eq (by simp)
theorem ext_u64 {a b : UInt64} (h : a.toNat = b.toNat) : a = b := UInt64.toNat_inj.1 h
theorem r_add_u64 {a b : UInt64} : (bin .add t x y (U64 a) (U64 b)).run P w = .ok (U64 (a + b)) w := by
  unfold U64; rw [bin_int]
  show Result.ok (Value.int .u64 (IntKind.u64.wrap (((a.toNat : Int)) + (b.toNat : Int)))) w = _
  rw [← Int.natCast_add, wrap_u64, UInt64.toNat_add]
theorem r_sub_u64 {a b : UInt64} : (bin .sub t x y (U64 a) (U64 b)).run P w = .ok (U64 (a - b)) w := by
  unfold U64; rw [bin_int]
  show Result.ok (Value.int .u64 (IntKind.u64.wrap (((a.toNat : Int)) - (b.toNat : Int)))) w = _
  rw [IntKind.wrap_u64, UInt64.toNat_sub]
  have := lt_u64 a; have := lt_u64 b
  have e : ((a.toNat : Int) - (b.toNat : Int)) % 18446744073709551616 = (((18446744073709551616 - b.toNat + a.toNat) % 18446744073709551616 : Nat) : Int) := by omega
  rw [e]
theorem r_mul_u64 {a b : UInt64} : (bin .mul t x y (U64 a) (U64 b)).run P w = .ok (U64 (a * b)) w := by
  unfold U64; rw [bin_int]
  show Result.ok (Value.int .u64 (IntKind.u64.wrap (((a.toNat : Int)) * (b.toNat : Int)))) w = _
  rw [← Int.natCast_mul, wrap_u64, UInt64.toNat_mul]
theorem r_quo_u64 {a b : UInt64} (hb : b ≠ 0) : (bin .quo t x y (U64 a) (U64 b)).run P w = .ok (U64 (a / b)) w := by
  unfold U64; rw [bin_int]
  have h0 : b.toNat ≠ 0 := fun h => hb (ext_u64 (by simpa using h))
  have h1 : (b.toNat : Int) ≠ 0 := by omega
  have e : ((a.toNat : Int)).tdiv (b.toNat : Int) = ((a.toNat / b.toNat : Nat) : Int) := rfl
  have hlt : a.toNat / b.toNat < 18446744073709551616 := Nat.lt_of_le_of_lt (Nat.div_le_self _ _) (lt_u64 a)
  simp only [binOp, Op.intDiv, ne_eq, not_true_eq_false, if_false, if_neg h1, e, wrap_u64, Nat.mod_eq_of_lt hlt, UInt64.toNat_div]
  rfl
theorem r_rem_u64 {a b : UInt64} (hb : b ≠ 0) : (bin .rem t x y (U64 a) (U64 b)).run P w = .ok (U64 (a % b)) w := by
  unfold U64; rw [bin_int]
  have h0 : b.toNat ≠ 0 := fun h => hb (ext_u64 (by simpa using h))
  have h1 : (b.toNat : Int) ≠ 0 := by omega
  have e : ((a.toNat : Int)).tmod (b.toNat : Int) = ((a.toNat % b.toNat : Nat) : Int) := rfl
  simp only [binOp, Op.intDiv, ne_eq, not_true_eq_false, if_false, if_neg h1, e, UInt64.toNat_mod]
  rfl
theorem r_lss_u64 {a b : UInt64} : (bin .lss t x y (U64 a) (U64 b)).run P w = .ok (B (decide (a < b))) w := by
  unfold U64; rw [bin_int]
  have : decide (((a.toNat : Int)) < (b.toNat : Int)) = decide (a < b) := decide_eq_decide.2 (by rw [UInt64.lt_iff_toNat_lt]; omega)
  show Result.ok (Value.bool (decide (((a.toNat : Int)) < (b.toNat : Int)))) w = _
  rw [this]; rfl
theorem r_leq_u64 {a b : UInt64} : (bin .leq t x y (U64 a) (U64 b)).run P w = .ok (B (decide (a ≤ b))) w := by
  unfold U64; rw [bin_int]
  have : decide (((a.toNat : Int)) ≤ (b.toNat : Int)) = decide (a ≤ b) := decide_eq_decide.2 (by rw [UInt64.le_iff_toNat_le]; omega)
  show Result.ok (Value.bool (decide (((a.toNat : Int)) ≤ (b.toNat : Int)))) w = _
  rw [this]; rfl
theorem r_gtr_u64 {a b : UInt64} : (bin .gtr t x y (U64 a) (U64 b)).run P w = .ok (B (decide (a > b))) w := by
  unfold U64; rw [bin_int]
  have : decide (((a.toNat : Int)) > (b.toNat : Int)) = decide (a > b) := decide_eq_decide.2 (by show _ ↔ b < a; rw [UInt64.lt_iff_toNat_lt]; omega)
  show Result.ok (Value.bool (decide (((a.toNat : Int)) > (b.toNat : Int)))) w = _
  rw [this]; rfl
theorem r_geq_u64 {a b : UInt64} : (bin .geq t x y (U64 a) (U64 b)).run P w = .ok (B (decide (a ≥ b))) w := by
  unfold U64; rw [bin_int]
  have : decide (((a.toNat : Int)) ≥ (b.toNat : Int)) = decide (a ≥ b) := decide_eq_decide.2 (by show _ ↔ b ≤ a; rw [UInt64.le_iff_toNat_le]; omega)
  show Result.ok (Value.bool (decide (((a.toNat : Int)) ≥ (b.toNat : Int)))) w = _
  rw [this]; rfl
theorem r_eql_u64 {a b : UInt64} : (bin .eql t x y (U64 a) (U64 b)).run P w = .ok (B (decide (a = b))) w := by
  unfold U64; rw [bin_int]
  have : (((a.toNat : Int)) == (b.toNat : Int)) = decide (a = b) := by
    rw [beq_dec]; exact decide_eq_decide.2 ⟨fun h => ext_u64 (by omega), fun h => by rw [h]⟩
  show Result.ok (Value.bool (((a.toNat : Int)) == (b.toNat : Int))) w = _
  rw [this]; rfl
theorem r_neq_u64 {a b : UInt64} : (bin .neq t x y (U64 a) (U64 b)).run P w = .ok (B (decide (a ≠ b))) w := by
  unfold U64; rw [bin_int]
  have : (((a.toNat : Int)) != (b.toNat : Int)) = decide (a ≠ b) := by
    rw [bne_dec]; exact decide_eq_decide.2 ⟨fun h he => h (by rw [he]), fun h he => h (ext_u64 (by omega))⟩
  show Result.ok (Value.bool (((a.toNat : Int)) != (b.toNat : Int))) w = _
  rw [this]; rfl

theorem r_and_u64 {a b : UInt64} : (bin .and t x y (U64 a) (U64 b)).run P w = .ok (U64 (a &&& b)) w := by
  unfold U64; rw [bin_int]
  show Result.ok (Value.int .u64 (IntKind.u64.wrap ((BitVec.ofInt 64 (a.toNat : Int) &&& BitVec.ofInt 64 (b.toNat : Int)).toNat : Int))) w = _
  rw [ofInt_u64, ofInt_u64, wrap_u64, Nat.mod_eq_of_lt (by have := (a.toBitVec &&& b.toBitVec).isLt; simpa using this)]
  rfl

theorem r_or_u64 {a b : UInt64} : (bin .or t x y (U64 a) (U64 b)).run P w = .ok (U64 (a ||| b)) w := by
  unfold U64; rw [bin_int]
  show Result.ok (Value.int .u64 (IntKind.u64.wrap ((BitVec.ofInt 64 (a.toNat : Int) ||| BitVec.ofInt 64 (b.toNat : Int)).toNat : Int))) w = _
  rw [ofInt_u64, ofInt_u64, wrap_u64, Nat.mod_eq_of_lt (by have := (a.toBitVec ||| b.toBitVec).isLt; simpa using this)]
  rfl

theorem r_xor_u64 {a b : UInt64} : (bin .xor t x y (U64 a) (U64 b)).run P w = .ok (U64 (a ^^^ b)) w := by
  unfold U64; rw [bin_int]
  show Result.ok (Value.int .u64 (IntKind.u64.wrap ((BitVec.ofInt 64 (a.toNat : Int) ^^^ BitVec.ofInt 64 (b.toNat : Int)).toNat : Int))) w = _
  rw [ofInt_u64, ofInt_u64, wrap_u64, Nat.mod_eq_of_lt (by have := (a.toBitVec ^^^ b.toBitVec).isLt; simpa using this)]
  rfl

theorem r_compl_u64 {a : UInt64} : (Op.unary .xor (U64 a)).run P w = .ok (U64 (~~~a)) w := by
  show Result.ok (Value.int .u64 (IntKind.u64.wrap ((BitVec.ofInt 64 (18446744073709551615 : Int) ^^^ BitVec.ofInt 64 (a.toNat : Int)).toNat : Int))) w = _
  have e : BitVec.ofInt 64 (18446744073709551615 : Int) = BitVec.allOnes 64 := by decide
  rw [ofInt_u64, e, BitVec.allOnes_xor, wrap_u64, Nat.mod_eq_of_lt (by have := (~~~a.toBitVec).isLt; simpa using this)]
  rfl
theorem r_shr_u64 {a : UInt64} {k : IntKind} (s : Nat) (hs : s < 64) : (bin .shr t x y (U64 a) (.int k (s : Int))).run P w = .ok (U64 (a >>> UInt64.ofNat s)) w := by
  unfold U64; rw [bin_int]
  have h1 : ¬ ((s : Int) < 0) := by omega
  have h2 : min s 64 = s := by omega
  have e : ((a.toNat : Int)).fdiv (2 ^ s) = ((a.toNat / 2 ^ s : Nat) : Int) := by
    rw [Int.fdiv_eq_ediv_of_nonneg _ (by exact Int.le_of_lt (Int.pow_pos (by omega)))]
    simp
  have e2 : (a >>> UInt64.ofNat s).toNat = a.toNat / 2 ^ s := by
    rw [UInt64.toNat_shiftRight, Nat.shiftRight_eq_div_pow]
    have : (UInt64.ofNat s).toNat % 64 = s := by rw [UInt64.toNat_ofNat']; omega
    rw [this]
  simp only [binOp, Op.shift, if_neg h1, Int.toNat_natCast, IntKind.bits, h2, e, ← e2]
  rfl
theorem r_shl_u64 {a : UInt64} {k : IntKind} (s : Nat) (hs : s < 64) : (bin .shl t x y (U64 a) (.int k (s : Int))).run P w = .ok (U64 (a <<< UInt64.ofNat s)) w := by
  unfold U64; rw [bin_int]
  have h1 : ¬ ((s : Int) < 0) := by omega
  have h2 : min s 64 = s := by omega
  have e2 : (a <<< UInt64.ofNat s).toNat = a.toNat * 2 ^ s % 18446744073709551616 := by
    rw [UInt64.toNat_shiftLeft, Nat.shiftLeft_eq]
    have : (UInt64.ofNat s).toNat % 64 = s := by rw [UInt64.toNat_ofNat']; omega
    rw [this]
  have e : ((a.toNat : Int)) * 2 ^ s = ((a.toNat * 2 ^ s : Nat) : Int) := by simp
  simp only [binOp, Op.shift, if_neg h1, Int.toNat_natCast, IntKind.bits, h2, e, wrap_u64, ← e2]
  rfl

/-! ### conversions between numbers -/
theorem r_conv {s d : TypeId} {ds : TypeDesc} {j k : IntKind} {n : Int} (hs : P.underlying s = some ds) (hd : P.underlying d = some (.int k)) : (convert s d (.int j n)).run P w = .ok (.int k (k.wrap n)) w := by
  simp only [convert, Sem.run_bind, run_underlying hs, run_underlying hd, Result.andThen_ok]
  rfl
section
variable {s d : TypeId} {ds : TypeDesc} (hs : P.underlying s = some ds)
include hs

theorem r_u8_u8 {a : UInt8} (hd : P.underlying d = some (.int .u8)) : (convert s d (U8 a)).run P w = .ok (U8 a) w := by
  unfold U8; rw [r_conv hs hd, wrap_u8, Nat.mod_eq_of_lt (lt_u8 a)]
theorem r_u8_u32 {a : UInt8} (hd : P.underlying d = some (.int .u32)) : (convert s d (U8 a)).run P w = .ok (U32 a.toUInt32) w := by
  unfold U8 U32; rw [r_conv hs hd, wrap_u32]
  have := lt_u8 a
  have e : a.toUInt32.toNat = a.toNat % 4294967296 := by simp
  rw [e]
theorem r_u8_u64 {a : UInt8} (hd : P.underlying d = some (.int .u64)) : (convert s d (U8 a)).run P w = .ok (U64 a.toUInt64) w := by
  unfold U8 U64; rw [r_conv hs hd, wrap_u64]
  have := lt_u8 a
  have e : a.toUInt64.toNat = a.toNat % 18446744073709551616 := by simp
  rw [e]
theorem r_i_u8 {a : Int} (hd : P.underlying d = some (.int .u8)) : (convert s d (I a)).run P w = .ok (U8 (UInt8.ofInt a)) w := by
  unfold I U8; rw [r_conv hs hd, IntKind.wrap_u8]
  have e : ((UInt8.ofInt a).toNat : Int) = a % 256 := by
    have h2 : (2 : Int) ^ 8 = 256 := by decide
    rw [UInt8.ofInt, h2, UInt8.toNat_ofNat']; omega
  rw [e]
theorem r_n_u8 {a : Nat} (hd : P.underlying d = some (.int .u8)) : (convert s d (I (a : Int))).run P w = .ok (U8 (UInt8.ofNat a)) w := by
  unfold I U8; rw [r_conv hs hd, wrap_u8, UInt8.toNat_ofNat']
theorem r_u8_i {a : UInt8} (hd : P.underlying d = some (.int .i64)) : (convert s d (U8 a)).run P w = .ok (I (a.toNat : Int)) w := by
  unfold U8 I; have := lt_u8 a; rw [r_conv hs hd, wrap_i (by omega) (by omega)]
theorem r_u32_u8 {a : UInt32} (hd : P.underlying d = some (.int .u8)) : (convert s d (U32 a)).run P w = .ok (U8 a.toUInt8) w := by
  unfold U32 U8; rw [r_conv hs hd, wrap_u8]
  have := lt_u32 a
  have e : a.toUInt8.toNat = a.toNat % 256 := by simp
  rw [e]
theorem r_u32_u32 {a : UInt32} (hd : P.underlying d = some (.int .u32)) : (convert s d (U32 a)).run P w = .ok (U32 a) w := by
  unfold U32; rw [r_conv hs hd, wrap_u32, Nat.mod_eq_of_lt (lt_u32 a)]
theorem r_u32_u64 {a : UInt32} (hd : P.underlying d = some (.int .u64)) : (convert s d (U32 a)).run P w = .ok (U64 a.toUInt64) w := by
  unfold U32 U64; rw [r_conv hs hd, wrap_u64]
  have := lt_u32 a
  have e : a.toUInt64.toNat = a.toNat % 18446744073709551616 := by simp
  rw [e]
theorem r_i_u32 {a : Int} (hd : P.underlying d = some (.int .u32)) : (convert s d (I a)).run P w = .ok (U32 (UInt32.ofInt a)) w := by
  unfold I U32; rw [r_conv hs hd, IntKind.wrap_u32]
  have e : ((UInt32.ofInt a).toNat : Int) = a % 4294967296 := by
    have h2 : (2 : Int) ^ 32 = 4294967296 := by decide
    rw [UInt32.ofInt, h2, UInt32.toNat_ofNat']; omega
  rw [e]
theorem r_n_u32 {a : Nat} (hd : P.underlying d = some (.int .u32)) : (convert s d (I (a : Int))).run P w = .ok (U32 (UInt32.ofNat a)) w := by
  unfold I U32; rw [r_conv hs hd, wrap_u32, UInt32.toNat_ofNat']
theorem r_u32_i {a : UInt32} (hd : P.underlying d = some (.int .i64)) : (convert s d (U32 a)).run P w = .ok (I (a.toNat : Int)) w := by
  unfold U32 I; have := lt_u32 a; rw [r_conv hs hd, wrap_i (by omega) (by omega)]
theorem r_u64_u8 {a : UInt64} (hd : P.underlying d = some (.int .u8)) : (convert s d (U64 a)).run P w = .ok (U8 a.toUInt8) w := by
  unfold U64 U8; rw [r_conv hs hd, wrap_u8]
  have := lt_u64 a
  have e : a.toUInt8.toNat = a.toNat % 256 := by simp
  rw [e]
theorem r_u64_u32 {a : UInt64} (hd : P.underlying d = some (.int .u32)) : (convert s d (U64 a)).run P w = .ok (U32 a.toUInt32) w := by
  unfold U64 U32; rw [r_conv hs hd, wrap_u32]
  have := lt_u64 a
  have e : a.toUInt32.toNat = a.toNat % 4294967296 := by simp
  rw [e]
theorem r_u64_u64 {a : UInt64} (hd : P.underlying d = some (.int .u64)) : (convert s d (U64 a)).run P w = .ok (U64 a) w := by
  unfold U64; rw [r_conv hs hd, wrap_u64, Nat.mod_eq_of_lt (lt_u64 a)]
theorem r_i_u64 {a : Int} (hd : P.underlying d = some (.int .u64)) : (convert s d (I a)).run P w = .ok (U64 (UInt64.ofInt a)) w := by
  unfold I U64; rw [r_conv hs hd, IntKind.wrap_u64]
  have e : ((UInt64.ofInt a).toNat : Int) = a % 18446744073709551616 := by
    have h2 : (2 : Int) ^ 64 = 18446744073709551616 := by decide
    rw [UInt64.ofInt, h2, UInt64.toNat_ofNat']; omega
  rw [e]
theorem r_n_u64 {a : Nat} (hd : P.underlying d = some (.int .u64)) : (convert s d (I (a : Int))).run P w = .ok (U64 (UInt64.ofNat a)) w := by
  unfold I U64; rw [r_conv hs hd, wrap_u64, UInt64.toNat_ofNat']
theorem r_u64_i {a : UInt64} (hd : P.underlying d = some (.int .i64)) (h : a.toNat < 9223372036854775808) : (convert s d (U64 a)).run P w = .ok (I (a.toNat : Int)) w := by
  unfold U64 I; rw [r_conv hs hd, wrap_i (by omega) (by omega)]
theorem r_u64_i' {a : UInt64} (hd : P.underlying d = some (.int .i64)) : (convert s d (U64 a)).run P w = .ok (I a.toInt64.toInt) w := by
  unfold U64 I; rw [r_conv hs hd, IntKind.wrap_i64]
  have := lt_u64 a
  have e : a.toInt64.toInt = if 2 * a.toNat < 18446744073709551616 then (a.toNat : Int) else (a.toNat : Int) - 18446744073709551616 := by
    show a.toBitVec.toInt = _
    rw [BitVec.toInt_eq_toNat_cond]
    rfl
  have e2 : ((a.toNat : Int) + 9223372036854775808) % 18446744073709551616 - 9223372036854775808 = if 2 * a.toNat < 18446744073709551616 then (a.toNat : Int) else (a.toNat : Int) - 18446744073709551616 := by
    split <;> omega
  rw [e, e2]
end

/-! ### strings -/
def S (l : List UInt8) : Value := .string ⟨l.toArray⟩
theorem S_of (s : ByteArray) : Value.string s = S s.data.toList := rfl
theorem r_eql_s {a b : List UInt8} : (bin .eql t x y (S a) (S b)).run P w = .ok (B (decide (a = b))) w := by
  show Result.ok (Value.bool ((⟨a.toArray⟩ : ByteArray).toList == (⟨b.toArray⟩ : ByteArray).toList)) w = _
  rw [ByteArray.toList_mk, ByteArray.toList_mk]
  have e : (a == b) = decide (a = b) := by by_cases h : a = b <;> simp [h]
  rw [e]; rfl
theorem r_neq_s {a b : List UInt8} : (bin .neq t x y (S a) (S b)).run P w = .ok (B (decide (a ≠ b))) w := by
  show Result.ok (Value.bool (!((⟨a.toArray⟩ : ByteArray).toList == (⟨b.toArray⟩ : ByteArray).toList))) w = _
  rw [ByteArray.toList_mk, ByteArray.toList_mk]
  have e : (!(a == b)) = decide (a ≠ b) := by by_cases h : a = b <;> simp [h]
  rw [e]; rfl
theorem append_mk (a b : List UInt8) : (⟨a.toArray⟩ : ByteArray) ++ ⟨b.toArray⟩ = ⟨(a ++ b).toArray⟩ := by
  apply ByteArray.ext
  simp
theorem r_add_s {a b : List UInt8} (h : a.length + b.length ≤ 9223372036854775807) : (bin .add t x y (S a) (S b)).run P w = .ok (S (a ++ b)) w := by
  have e : IntKind.i64.max = 9223372036854775807 := by decide
  have : ¬ (((((⟨a.toArray⟩ : ByteArray).size + (⟨b.toArray⟩ : ByteArray).size : Nat)) : Int) > IntKind.i64.max) := by
    have e1 : (⟨a.toArray⟩ : ByteArray).size = a.length := by simp [ByteArray.size]
    have e2 : (⟨b.toArray⟩ : ByteArray).size = b.length := by simp [ByteArray.size]
    rw [e, e1, e2]; omega
  show (Op.stringOp .add ⟨a.toArray⟩ ⟨b.toArray⟩).run P w = _
  simp only [Op.stringOp, if_neg this, append_mk]; rfl
end
end Go.Rl

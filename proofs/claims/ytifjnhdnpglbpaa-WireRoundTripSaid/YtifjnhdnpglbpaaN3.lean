/- Walks of package natural: Shr, Bits, and of math/bits.Len32. Conditions: the numbers are shorter than 2^40 limbs. -/
import Derived.Test.YtifjnhdnpglbpaaN2
namespace Go.Rl
open Go.RowKit Go.Proofs

def tab8 : List UInt8 := (List.range 256).map fun n => UInt8.ofNat (bl n)
theorem bl8 (y : UInt8) : (UInt8.ofNat (bl y.toNat)).toNat = bl y.toNat ∧ bl y.toNat ≤ 8 := by
  have := bl_le (n := y.toNat) (k := 8) y.toNat_lt
  exact ⟨by rw [UInt8.toNat_ofNat']; omega, this⟩
theorem r_tab {w : World} (y : UInt8) : (Instr.index 9 (S tab8) (U8 y)).run Try.prog w = .ok (U8 (UInt8.ofNat (bl y.toNat))) w := by
  have hy := y.toNat_lt
  have hs : (⟨tab8.toArray⟩ : ByteArray).size = 256 := by simp [ByteArray.size, tab8]
  rw [S, U8, run_index_string _ _ _ _ _ Try.underlying9, dif_pos (by rw [hs]; omega)]
  have e : (⟨tab8.toArray⟩ : ByteArray)[((y.toNat : Int)).toNat]'(by rw [hs]; omega) = UInt8.ofNat (bl y.toNat) := by
    show tab8.toArray[((y.toNat : Int)).toNat]'(by simp [tab8]; omega) = _
    simp [tab8]
  rw [e]; rfl
theorem bl_u8 (x : UInt32) (h : x.toNat < 256) : bl x.toUInt8.toNat = bl x.toNat := by
  have : x.toUInt8.toNat = x.toNat % 256 := UInt32.toNat_toUInt8 x
  rw [this, Nat.mod_eq_of_lt h]
theorem ge32 {a b : UInt32} : a ≥ b ↔ b.toNat ≤ a.toNat := UInt32.le_iff_toNat_le
theorem Len32_spec {w : World} {x : UInt32} :
    Calls Try.prog 103 #[U32 x] w (Ret fun r w' => w = w' ∧ r = I ((bl x.toNat : Nat) : Int)) := by
  refine enter (vs := [U32 x]) Try.func103 rfl rfl rfl ?_
  have hx := u32_lt x
  refine c_seq (c_region (o_assign rfl rfl (o_nil (n_then (c_seq (c_seq (c_region (o_move rfl rfl (o_bin (v := U32 65536) rfl rfl rfl (r_geq_u32) (o_nil (n_then ?_)))))))))))
  refine c_if rfl (fun h4 => ?_) (fun h4 => ?_)
  · have h4' : 65536 ≤ x.toNat := ge32.1 h4
    have hb1 := bl_shift (n := x.toNat) (s := 16) (by omega)
    have hz := n_shr32 x (s := 16) (by omega)
    refine c_seq (c_region (o_move rfl rfl (o_bin rfl rfl rfl (r_shr_u32 16 (by omega)) (o_assign rfl rfl (o_nil (n_then (c_region (o_assign rfl rfl (o_nil (n_then (c_seq (c_seq (c_region (o_move rfl rfl ?_))))))))))))))
    refine o_bin (v := U32 256) rfl rfl rfl (r_geq_u32) (o_nil (n_then ?_))
    refine c_if rfl (fun h8 => ?_) (fun h8 => ?_)
    · have h8' : 256 ≤ ((((x) >>> UInt32.ofNat 16))).toNat := ge32.1 h8
      have hb2 := bl_shift (n := ((((x) >>> UInt32.ofNat 16))).toNat) (s := 8) (by omega)
      have hz2 := n_shr32 (((x) >>> UInt32.ofNat 16)) (s := 8) (by omega)
      refine c_seq (c_region (o_move rfl rfl (o_bin rfl rfl rfl (r_shr_u32 8 (by omega)) (o_assign rfl rfl (o_nil (n_then (c_region (o_move rfl rfl (o_bin rfl rfl rfl (r_add_i (by omega) (by omega)) ?_)))))))))
      refine o_assign rfl rfl (o_nil (n_then (c_seq (c_region (o_move rfl rfl ?_)))))
      have hu := bl_u8 (((((x) >>> UInt32.ofNat 16)) >>> UInt32.ofNat 8)) (by first | omega | (rw [hz2]; omega))
      refine o_move rfl rfl (o_conv rfl rfl (r_u32_u8 Try.underlying79 Try.underlying5) ?_)
      have hy := bl8 ((((((x) >>> UInt32.ofNat 16)) >>> UInt32.ofNat 8))).toUInt8
      refine o_index (u := S tab8) (v := U8 ((((((x) >>> UInt32.ofNat 16)) >>> UInt32.ofNat 8))).toUInt8) (by kernel_rfl) rfl rfl (r_tab _) ?_
      refine o_conv rfl rfl (r_u8_i Try.underlying5 Try.underlying3) (o_bin rfl rfl rfl (r_add_i (by omega) (by omega)) (o_assign rfl rfl (o_nil (n_then (c_ret ?_)))))
      refine r_body1 rfl rfl ?_
      exact ⟨_, rfl, rfl, congrArg I (by
        try simp only [Nat.reducePow] at *
        first
        | (rw [hz2] at hu; rw [hz] at hb2 hu; rw [hb1, hb2]; omega)
        | (rw [hz2] at hu; rw [hb2]; omega)
        | (rw [hz] at hu; rw [hb1]; omega)
        | omega)⟩
    · have h8' : ((((x) >>> UInt32.ofNat 16))).toNat < 256 := Nat.lt_of_not_le fun h => h8 (ge32.2 h)
      refine c_skip (n_then (c_seq (c_region (o_move rfl rfl ?_))))
      have hu := bl_u8 (((x) >>> UInt32.ofNat 16)) (by first | omega | (rw [hz2]; omega))
      refine o_move rfl rfl (o_conv rfl rfl (r_u32_u8 Try.underlying79 Try.underlying5) ?_)
      have hy := bl8 ((((x) >>> UInt32.ofNat 16))).toUInt8
      refine o_index (u := S tab8) (v := U8 ((((x) >>> UInt32.ofNat 16))).toUInt8) (by kernel_rfl) rfl rfl (r_tab _) ?_
      refine o_conv rfl rfl (r_u8_i Try.underlying5 Try.underlying3) (o_bin rfl rfl rfl (r_add_i (by omega) (by omega)) (o_assign rfl rfl (o_nil (n_then (c_ret ?_)))))
      refine r_body1 rfl rfl ?_
      exact ⟨_, rfl, rfl, congrArg I (by
        try simp only [Nat.reducePow] at *
        first
        | (rw [hz2] at hu; rw [hz] at hb2 hu; rw [hb1, hb2]; omega)
        | (rw [hz2] at hu; rw [hb2]; omega)
        | (rw [hz] at hu; rw [hb1]; omega)
        | omega)⟩
  · have h4' : x.toNat < 65536 := Nat.lt_of_not_le fun h => h4 (ge32.2 h)
    refine c_skip (n_then (c_seq (c_seq (c_region (o_move rfl rfl (o_bin (v := U32 256) rfl rfl rfl (r_geq_u32) (o_nil (n_then ?_))))))))
    refine c_if rfl (fun h8 => ?_) (fun h8 => ?_)
    · have h8' : 256 ≤ ((x)).toNat := ge32.1 h8
      have hb2 := bl_shift (n := ((x)).toNat) (s := 8) (by omega)
      have hz2 := n_shr32 (x) (s := 8) (by omega)
      refine c_seq (c_region (o_move rfl rfl (o_bin rfl rfl rfl (r_shr_u32 8 (by omega)) (o_assign rfl rfl (o_nil (n_then (c_region (o_move rfl rfl (o_bin rfl rfl rfl (r_add_i (by omega) (by omega)) ?_)))))))))
      refine o_assign rfl rfl (o_nil (n_then (c_seq (c_region (o_move rfl rfl ?_)))))
      have hu := bl_u8 (((x) >>> UInt32.ofNat 8)) (by first | omega | (rw [hz2]; omega))
      refine o_move rfl rfl (o_conv rfl rfl (r_u32_u8 Try.underlying79 Try.underlying5) ?_)
      have hy := bl8 ((((x) >>> UInt32.ofNat 8))).toUInt8
      refine o_index (u := S tab8) (v := U8 ((((x) >>> UInt32.ofNat 8))).toUInt8) (by kernel_rfl) rfl rfl (r_tab _) ?_
      refine o_conv rfl rfl (r_u8_i Try.underlying5 Try.underlying3) (o_bin rfl rfl rfl (r_add_i (by omega) (by omega)) (o_assign rfl rfl (o_nil (n_then (c_ret ?_)))))
      refine r_body1 rfl rfl ?_
      exact ⟨_, rfl, rfl, congrArg I (by
        try simp only [Nat.reducePow] at *
        first
        | (rw [hz2] at hu; rw [hz] at hb2 hu; rw [hb1, hb2]; omega)
        | (rw [hz2] at hu; rw [hb2]; omega)
        | (rw [hz] at hu; rw [hb1]; omega)
        | omega)⟩
    · have h8' : ((x)).toNat < 256 := Nat.lt_of_not_le fun h => h8 (ge32.2 h)
      refine c_skip (n_then (c_seq (c_region (o_move rfl rfl ?_))))
      have hu := bl_u8 (x) (by first | omega | (rw [hz2]; omega))
      refine o_move rfl rfl (o_conv rfl rfl (r_u32_u8 Try.underlying79 Try.underlying5) ?_)
      have hy := bl8 ((x)).toUInt8
      refine o_index (u := S tab8) (v := U8 ((x)).toUInt8) (by kernel_rfl) rfl rfl (r_tab _) ?_
      refine o_conv rfl rfl (r_u8_i Try.underlying5 Try.underlying3) (o_bin rfl rfl rfl (r_add_i (by omega) (by omega)) (o_assign rfl rfl (o_nil (n_then (c_ret ?_)))))
      refine r_body1 rfl rfl ?_
      exact ⟨_, rfl, rfl, congrArg I (by
        try simp only [Nat.reducePow] at *
        first
        | (rw [hz2] at hu; rw [hz] at hb2 hu; rw [hb1, hb2]; omega)
        | (rw [hz2] at hu; rw [hb2]; omega)
        | (rw [hz] at hu; rw [hb1]; omega)
        | omega)⟩
theorem LZ32_spec {w : World} {x : UInt32} :
    Calls Try.prog 98 #[U32 x] w (Ret fun r w' => w = w' ∧ r = I ((32 - bl x.toNat : Nat) : Int)) := by
  refine enter (vs := [U32 x]) Try.func98 rfl rfl rfl ?_
  have hx := bl_le (n := x.toNat) (k := 32) x.toNat_lt
  refine c_seq (c_region (o_assign rfl rfl (o_nil (n_then (c_seq (c_region (o_move rfl rfl (o_call call_Len32 rfl rfl (Len32_spec) ?_))))))))
  rintro v4 _ ⟨rfl, rfl⟩
  refine o_bin (r := I ((32 - bl x.toNat : Nat) : Int)) rfl rfl rfl (by have e : ((32 - bl x.toNat : Nat) : Int) = 32 - ((bl x.toNat : Nat) : Int) := (by omega); rw [e]; exact r_sub_i (by omega) (by omega)) ?_
  refine o_assign rfl rfl (o_nil (n_then (c_ret (r_body1 rfl rfl ?_))))
  exact ⟨_, rfl, rfl, rfl⟩
theorem NBits_spec {w : World} {l : List UInt32} {v : Value} (hv : Wds l v w) (hl : l.length ≤ 1099511627776) :
    Calls Try.prog 91 #[v] w (Ret fun r w' => w = w' ∧ r = I ((bl (val l) : Nat) : Int)) := by
  refine enter (vs := [v]) Try.func91 rfl rfl rfl ?_
  have hll := lb_lt (val_lt l)
  refine c_seq (c_region (o_assign rfl rfl (o_nil (n_then (c_seq (c_region (o_move rfl rfl (o_call call_trim rfl rfl (trim_spec hv) ?_))))))))
  rintro v4 _ ⟨rfl, b4⟩
  refine o_assign rfl rfl (o_nil (n_then (c_seq (c_seq (c_region (o_move rfl rfl (o_len (r := I ((lb (val l)).length : Int)) rfl rfl (r_lenW Try.underlying33 b4) ?_)))))))
  refine o_bin rfl rfl rfl (r_eql_i) (o_nil (n_then ?_))
  refine c_if rfl (fun h7 => ?_) (fun h7 => ?_)
  · refine c_seq (c_region (o_assign rfl rfl (o_nil (n_then (c_ret (r_then (r_body1 rfl rfl ?_)))))))
    exact ⟨_, rfl, rfl, by
      have : val l = 0 := lb_len0.1 (by omega)
      rw [this]; rfl⟩
  · refine c_skip (n_then (c_seq (c_region (o_move rfl rfl (o_len (r := I ((lb (val l)).length : Int)) rfl rfl (r_lenW Try.underlying33 b4) (o_bin (r := I (((lb (val l)).length - 1 : Nat) : Int)) rfl rfl rfl (by have e : (((lb (val l)).length - 1 : Nat) : Int) = ((lb (val l)).length : Int) - 1 := (by omega); rw [e]; exact r_sub_i (by omega) (by omega)) ?_))))))
    refine o_bin (r := I ((32 * ((lb (val l)).length - 1 : Nat) : Nat) : Int)) rfl rfl rfl (by have e : ((32 * ((lb (val l)).length - 1 : Nat) : Nat) : Int) = 32 * (((lb (val l)).length - 1 : Nat) : Int) := (by omega); rw [e]; exact r_mul_i (by omega) (by omega)) ?_
    refine o_move rfl rfl (o_move rfl rfl (o_len (r := I ((lb (val l)).length : Int)) rfl rfl (r_lenW Try.underlying33 b4) (o_bin (r := I (((lb (val l)).length - 1 : Nat) : Int)) rfl rfl rfl (by have e : (((lb (val l)).length - 1 : Nat) : Int) = ((lb (val l)).length : Int) - 1 := (by omega); rw [e]; exact r_sub_i (by omega) (by omega)) ?_)))
    obtain ⟨a16, p16, q16⟩ := r_ixW Try.underlying33 b4 (i := ((lb (val l)).length - 1 : Nat)) (by omega) .i64
    refine o_indexAddr rfl rfl rfl (p16 _) (o_load rfl rfl (r_load1 Try.underlying79 rfl q16) (o_call call_Len32 rfl rfl (Len32_spec) ?_))
    rintro v18 _ ⟨rfl, rfl⟩
    have hb := bl_lb (n := val l) (i := (lb (val l)).length - 1) (by omega)
    have hb32 := bl_le (n := ((lb (val l))[(lb (val l)).length - 1]'(by omega)).toNat) (k := 32) (u32_lt _)
    refine o_bin (r := I ((((32 * ((lb (val l)).length - 1 : Nat) : Nat)) + (bl ((lb (val l))[(lb (val l)).length - 1]'(by omega)).toNat : Nat) : Nat) : Int)) rfl rfl rfl (by have e : ((((32 * ((lb (val l)).length - 1 : Nat) : Nat)) + (bl ((lb (val l))[(lb (val l)).length - 1]'(by omega)).toNat : Nat) : Nat) : Int) = ((32 * ((lb (val l)).length - 1 : Nat) : Nat) : Int) + ((bl ((lb (val l))[(lb (val l)).length - 1]'(by omega)).toNat : Nat) : Int) := (by omega); rw [e]; exact r_add_i (by omega) (by omega)) ?_
    refine o_assign rfl rfl (o_nil (n_then (c_ret (r_body1 rfl rfl ?_))))
    exact ⟨_, rfl, rfl, by rw [hb]⟩
theorem shr_inv {a L : List UInt32} {i s V : Nat} {o : UInt32} (hi : i < a.length) (hL : L.length = a.length) (hv : val (L.take i) + 4294967296 ^ i * (val (a.drop i) / 2 ^ s) = V)
    (st : o.toNat + 4294967296 * (val (a.drop (i + 1)) / 2 ^ s) = (a[i].toNat + 4294967296 * val (a.drop (i + 1))) / 2 ^ s) : val ((L.set i o).take (i + 1)) + 4294967296 ^ (i + 1) * (val (a.drop (i + 1)) / 2 ^ s) = V := by
  rw [val_set_take (by omega), Nat.add_assoc, Nat.pow_succ, Nat.mul_assoc, ← Nat.mul_add, st, ← val_drop hi, hv]
theorem shr_next {a : List UInt32} {i : Nat} {x : UInt64} (hi : i < a.length) (hx : (∃ h : i + 1 < a.length, x = a[i].toUInt64 ||| a[i + 1].toUInt64 <<< UInt64.ofNat 32) ∨ (a.length ≤ i + 1 ∧ x = a[i].toUInt64)) {s : Nat} (hs : s < 32) :
    ((x >>> UInt64.ofNat s).toUInt32).toNat + 4294967296 * (val (a.drop (i + 1)) / 2 ^ s) = (a[i].toNat + 4294967296 * val (a.drop (i + 1))) / 2 ^ s := by
  refine (shr_step hs ?_).resolve_right (by have := u32_lt a[i]; omega)
  rcases hx with ⟨h, rfl⟩ | ⟨h, rfl⟩
  · rw [limb2 (n_64 _) (u32_lt _), val_drop h]
    have := u32_lt a[i + 1]
    rw [Nat.add_mul_mod_self_left, Nat.mod_eq_of_lt this]
  · rw [n_64, List.drop_of_length_le h]; simp [val]
theorem NShr_spec {w : World} {l : List UInt32} {v : Value} {k : Nat} (hv : Wds l v w) (hl : l.length ≤ 1099511627776) (hk : k ≤ 1048576) :
    Calls Try.prog 102 #[v, I (k : Int)] w (Ret fun r w' => Ext w w' ∧ ∃ q, r = .tuple #[q, I 0] ∧ Wds (lb (val l / 2 ^ k)) q w') := by
  refine enter (vs := [v, I (k : Int)]) Try.func102 rfl rfl rfl ?_
  have hll := lb_lt (val_lt l)
  refine c_seq (c_region (o_assign rfl rfl (o_assign rfl rfl (o_nil (n_then (c_seq (c_seq (c_region (o_move rfl rfl (o_bin rfl rfl rfl (dec_f (by omega) r_lss_i) (o_move rfl rfl (g_yes rfl ?_))))))))))))
  refine o_move rfl rfl (g_yes rfl (o_bin rfl rfl rfl (dec_f (by omega) r_gtr_i) (o_pick_f rfl rfl rfl (o_nil (n_then (c_no rfl (c_skip (n_then (c_seq (c_region (o_move rfl rfl (o_call call_trim rfl rfl (trim_spec hv) ?_))))))))))))
  rintro v17 _ ⟨rfl, b17⟩
  refine o_assign rfl rfl (o_nil (n_then (c_seq (c_seq (c_region (o_move rfl rfl (o_bin (r := I ((k / 32 : Nat) : Int)) rfl rfl rfl (by have e : ((k / 32 : Nat) : Int) = (k : Int) / 32 := (by omega); rw [e]; exact r_quo_i (by omega) (by omega) (by omega)) ?_)))))))
  refine o_move rfl rfl (o_len rfl rfl (r_lenW Try.underlying33 b17) (o_bin rfl rfl rfl (r_geq_i) (o_nil (n_then ?_))))
  refine c_if rfl (fun h22 => ?_) (fun h22 => ?_)
  · refine c_seq (c_region (o_assign rfl rfl (o_assign rfl rfl (o_nil (n_then (c_ret (r_then (r_body2 rfl rfl rfl ?_))))))))
    exact ⟨_, rfl, Ext.refl _, _, rfl, by
      have h1 := val_lt (lb (val l))
      rw [val_lb] at h1
      have h2 : (4294967296 : Nat) ^ (lb (val l)).length = 2 ^ (32 * (lb (val l)).length) := by rw [Nat.pow_mul]
      have h3 : 2 ^ (32 * (lb (val l)).length) ≤ 2 ^ k := Nat.pow_le_pow_right (by omega) (by omega)
      rw [Nat.div_eq_of_lt (by omega)]
      exact Wds.nil _⟩
  · refine c_skip (n_then (c_seq (c_region (o_move rfl rfl (o_move rfl rfl (o_bin (r := I ((k / 32 : Nat) : Int)) rfl rfl rfl (by have e : ((k / 32 : Nat) : Int) = (k : Int) / 32 := (by omega); rw [e]; exact r_quo_i (by omega) (by omega) (by omega)) ?_))))))
    obtain ⟨v26, p26, b26⟩ := r_slW_lo Try.underlying33 b17 (lo := k / 32) (by omega) .i64
    refine o_slice rfl rfl rfl rfl rfl (p26 _) (o_assign rfl rfl (o_nil (n_then (c_seq ?_))))
    obtain ⟨a, ha⟩ : ∃ a, a = (lb (val l)).drop (k / 32) := ⟨_, rfl⟩
    have hva : val a = val l / 2 ^ (32 * (k / 32)) := by
      have h1 := val_split (lb (val l)) (k / 32) (by omega)
      have h2 := val_lt ((lb (val l)).take (k / 32))
      rw [List.length_take, Nat.min_eq_left (by omega)] at h2
      rw [val_lb] at h1
      have h3 : (4294967296 : Nat) ^ (k / 32) = 2 ^ (32 * (k / 32)) := by rw [Nat.pow_mul]
      rw [h3] at h1 h2
      rw [ha]
      conv => rhs; rw [h1]
      rw [Nat.add_mul_div_left _ _ (Nat.pow_pos (by omega)), Nat.div_eq_of_lt h2, Nat.zero_add]
    have hal : a.length ≤ 1099511627776 := by rw [ha, List.length_drop]; omega
    rw [← ha] at b26
    refine c_region (o_move rfl rfl (o_len (r := I (a.length : Int)) rfl rfl (r_lenW Try.underlying33 b26) ?_))
    obtain ⟨v29, w29, hr29, x29, o29, ob29⟩ := r_mkW Try.underlying33 (w := w) w.heap.size (n := a.length) (by omega) (Nat.le_refl _)
    refine o_makeSlice rfl rfl rfl hr29 (o_assign rfl rfl (o_nil (n_then (c_seq (c_seq (c_region (o_move rfl rfl (o_len (r := I (a.length : Int)) rfl rfl (r_lenW Try.underlying33 (b26.ext x29)) ?_))))))))
    refine o_move rfl rfl (o_nil (n_then (c_block ?_)))
    refine c_loop2 (fun (i : Nat) (L : List UInt32) => [(0, v26), (1, I (k : Int)), (6, v29), (30, v26), (31, I (a.length : Int)), (32, I (i : Int))]) (fun (i : Nat) (L : List UInt32) w' => OwnW w.heap.size L v29 w' ∧ Ext w w' ∧ i ≤ a.length ∧ L.length = a.length ∧ val (L.take i) + 4294967296 ^ i * (val (a.drop i) / 2 ^ (k % 32)) = val a / 2 ^ (k % 32)) (fun (i : Nat) (L : List UInt32) => a.length - i) (0) (List.replicate a.length 0) ⟨rfl, rfl, rfl, rfl, rfl, rfl, trivial⟩ ⟨o29, x29, by simp, by simp, by simp [val]⟩ ?_
    rintro i L w9 ⟨oL, e9, hi, hL, hval⟩
    refine c_seq (c_region (o_bin rfl rfl rfl (r_lss_i) (o_nil (n_then (c_seq ?_)))))
    refine c_if rfl (fun h33 => ?_) (fun h33 => ?_)
    · have hia : i < a.length := by omega
      refine c_skip (n_then (c_seq (c_block (c_seq (c_region (o_move rfl rfl ?_))))))
      obtain ⟨a35, p35, q35⟩ := r_ixW Try.underlying33 (b26.ext e9) (i := i) (by omega) .i64
      refine o_indexAddr rfl rfl rfl (p35 _) (o_load rfl rfl (r_load1 Try.underlying79 rfl q35) (o_assign rfl rfl (o_assign rfl rfl (o_nil (n_then (c_seq (c_region (o_move rfl rfl ?_))))))))
      refine o_conv rfl rfl (r_u32_u64 Try.underlying79 Try.underlying31) (o_assign rfl rfl (o_nil (n_then (c_seq (c_seq (c_region (o_move rfl rfl (o_bin (r := I ((i + 1 : Nat) : Int)) rfl rfl rfl (by have e : ((i + 1 : Nat) : Int) = (i : Int) + 1 := (by omega); rw [e]; exact r_add_i (by omega) (by omega)) ?_))))))))
      refine o_move rfl rfl (o_len (r := I (a.length : Int)) rfl rfl (r_lenW Try.underlying33 (b26.ext e9)) (o_bin rfl rfl rfl (r_lss_i) (o_nil (n_then ?_))))
      refine c_if rfl (fun h43 => ?_) (fun h43 => ?_)
      · refine c_region (o_move rfl rfl (o_move rfl rfl (o_move rfl rfl (o_bin (r := I ((i + 1 : Nat) : Int)) rfl rfl rfl (by have e : ((i + 1 : Nat) : Int) = (i : Int) + 1 := (by omega); rw [e]; exact r_add_i (by omega) (by omega)) ?_))))
        obtain ⟨a48, p48, q48⟩ := r_ixW Try.underlying33 (b26.ext e9) (i := (i + 1 : Nat)) (by omega) .i64
        refine o_indexAddr rfl rfl rfl (p48 _) (o_load rfl rfl (r_load1 Try.underlying79 rfl q48) (o_conv rfl rfl (r_u32_u64 Try.underlying79 Try.underlying31) ?_))
        refine o_bin rfl rfl rfl (r_shl_u64 32 (by omega)) (o_bin rfl rfl rfl (r_or_u64) (o_assign rfl rfl (o_nil (n_then (c_region (o_move rfl rfl (o_move rfl rfl (o_move rfl rfl (o_move rfl rfl ?_)))))))))
        refine o_bin (r := I ((k % 32 : Nat) : Int)) rfl rfl rfl (by have e : ((k % 32 : Nat) : Int) = (k : Int) % 32 := (by omega); rw [e]; exact r_rem_i (by omega) (by omega)) ?_
        refine o_bin rfl rfl rfl (r_shr_u64 ((k % 32 : Nat)) (by omega)) (o_conv rfl rfl (r_u64_u32 Try.underlying31 Try.underlying79) ?_)
        have st := shr_next (x := (((((a[i])).toUInt64) ||| (((((a[(i + 1 : Nat)])).toUInt64) <<< UInt64.ofNat 32))))) hia (by first | exact .inl ⟨by omega, rfl⟩ | exact .inr ⟨by omega, rfl⟩) (Nat.mod_lt k (show 0 < 32 by omega))
        obtain ⟨g60, w60, p60, s60, o60, q60, hb60, c60, ob60⟩ := (oL).setW Try.underlying33 (i := i) (by omega) (((((((a[i])).toUInt64) ||| (((((a[(i + 1 : Nat)])).toUInt64) <<< UInt64.ofNat 32)))) >>> UInt64.ofNat (k % 32)).toUInt32)
        refine o_indexAddr rfl rfl rfl (p60 _) (o_store rfl rfl s60 ?_)
        have x60 := Ext.of_new (e9) q60 hb60
        refine o_nil (n_block (n_then (c_region (o_bin (r := I ((i + 1 : Nat) : Int)) rfl rfl rfl (by have e : ((i + 1 : Nat) : Int) = (i : Int) + 1 := (by omega); rw [e]; exact r_add_i (by omega) (by omega)) ?_))))
        refine o_move rfl rfl (o_nil ?_)
        refine n_round2 (i + 1) (_) ⟨rfl, rfl, rfl, rfl, rfl, rfl, trivial⟩ ⟨o60, x60, hia, by simpa using hL, shr_inv hia hL hval st⟩ (by show a.length - (i + 1) < a.length - i; omega)
      · refine c_skip (n_then (c_region (o_move rfl rfl (o_move rfl rfl (o_move rfl rfl (o_move rfl rfl (o_bin (r := I ((k % 32 : Nat) : Int)) rfl rfl rfl (by have e : ((k % 32 : Nat) : Int) = (k : Int) % 32 := (by omega); rw [e]; exact r_rem_i (by omega) (by omega)) ?_)))))))
        refine o_bin rfl rfl rfl (r_shr_u64 ((k % 32 : Nat)) (by omega)) (o_conv rfl rfl (r_u64_u32 Try.underlying31 Try.underlying79) ?_)
        have st := shr_next (x := (((a[i])).toUInt64)) hia (by first | exact .inl ⟨by omega, rfl⟩ | exact .inr ⟨by omega, rfl⟩) (Nat.mod_lt k (show 0 < 32 by omega))
        obtain ⟨g60, w60, p60, s60, o60, q60, hb60, c60, ob60⟩ := (oL).setW Try.underlying33 (i := i) (by omega) (((((a[i])).toUInt64) >>> UInt64.ofNat (k % 32)).toUInt32)
        refine o_indexAddr rfl rfl rfl (p60 _) (o_store rfl rfl s60 ?_)
        have x60 := Ext.of_new (e9) q60 hb60
        refine o_nil (n_block (n_then (c_region (o_bin (r := I ((i + 1 : Nat) : Int)) rfl rfl rfl (by have e : ((i + 1 : Nat) : Int) = (i : Int) + 1 := (by omega); rw [e]; exact r_add_i (by omega) (by omega)) ?_))))
        refine o_move rfl rfl (o_nil ?_)
        refine n_round2 (i + 1) (_) ⟨rfl, rfl, rfl, rfl, rfl, rfl, trivial⟩ ⟨o60, x60, hia, by simpa using hL, shr_inv hia hL hval st⟩ (by show a.length - (i + 1) < a.length - i; omega)
    · refine c_exit (x_then (x_then (x_here (n_then (c_seq (c_region ?_))))))
      have hla : val L = val l / 2 ^ k := by
        rw [List.take_of_length_le (by omega), List.drop_of_length_le (by omega)] at hval
        simp only [val, Nat.zero_div, Nat.mul_zero, Nat.add_zero] at hval
        rw [hval, hva, Nat.div_div_eq_div_mul, ← Nat.pow_add, Nat.div_add_mod]
      refine o_move rfl rfl (o_call call_trim rfl rfl (trim_spec oL.wds) ?_)
      rintro v63 _ ⟨rfl, b63⟩
      refine o_assign rfl rfl (o_assign rfl rfl (o_nil (n_then (c_ret (r_body2 rfl rfl rfl ?_)))))
      exact ⟨_, rfl, e9, _, rfl, by rw [← hla]; exact b63⟩
end Go.Rl


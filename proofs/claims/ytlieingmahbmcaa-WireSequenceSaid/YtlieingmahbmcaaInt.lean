/- Walk of the reader's Int. Conditions: the reader is not nil. -/
import Derived.Test.YtlieingmahbmcaaRead2
namespace Go.Rl
open Go.RowKit Go.Proofs

theorem call_Int : Callable Try.prog 37 := ⟨_, Try.func37, by kernel_rfl, rfl⟩

def zag (n : Nat) : Int := if n % 2 = 0 then (n / 2 : Nat) else -((n / 2 : Nat) : Int) - 1
theorem zag_zig (i : Int) : zag (zig i) = i := by
  unfold zag zig
  split <;> split <;> omega
theorem toInt_64 {m : Int} (h1 : -9223372036854775808 ≤ m) (h2 : m ≤ 9223372036854775807) : (Int64.ofInt m).toInt = m := by
  have hs : Int64.size = 18446744073709551616 := rfl
  rw [Int64.toInt_ofInt, Int.bmod_eq_of_le] <;> (rw [hs]; omega)
theorem r_zag {P : Program} {w : World} {t : TypeId} {x y : Operand} {n : Nat} (h : n < 18446744073709551616) : (bin .xor t x y (I ((n / 2 : Nat) : Int)) (I (-((n % 2 : Nat) : Int)))).run P w = .ok (I (zag n)) w := by
  have hr := r_xor_i (P := P) (w := w) (t := t) (x := x) (y := y) (a := Int64.ofInt ((n / 2 : Nat) : Int)) (b := Int64.ofInt (-((n % 2 : Nat) : Int)))
  rw [toInt_64 (by omega) (by omega), toInt_64 (by omega) (by omega)] at hr
  rw [hr]
  have : (Int64.ofInt ((n / 2 : Nat) : Int) ^^^ Int64.ofInt (-((n % 2 : Nat) : Int))).toInt = zag n := by
    unfold zag
    split
    · rename_i h2
      rw [h2]
      simp only [Int.natCast_zero, Int.neg_zero]
      rw [show Int64.ofInt 0 = 0 from rfl, Int64.xor_zero, toInt_64 (by omega) (by omega)]
    · rename_i h2
      have h1 : n % 2 = 1 := by omega
      rw [h1]
      have e1 : Int64.ofInt (-((1 : Nat) : Int)) = -1 := rfl
      rw [e1]
      have e2 : ∀ a : Int64, a ^^^ (-1) = ~~~a := fun a => by rw [Int64.xor_neg_one]
      rw [e2, Int64.toInt_not, toInt_64 (by omega) (by omega), Int.bmod_eq_of_le] <;> omega
  rw [this]

section
variable {w : World} {g : Nat}
def IntR (g : Nat) (w : World) (o : Option (Nat × List UInt8)) (r : Value) (w' : World) : Prop :=
  w.grownBy w' (some g) ∧ match o with
    | some (n, t) => r = .tuple #[I (zag n), I 0] ∧ RdAt g (some t) w'
    | none => r = .tuple #[I 0, I 5] ∧ RdAt g none w'

theorem Int_spec {st : Option (List UInt8)} (hr : RdAt g st w) :
    Calls Try.prog 37 #[.pointer (some ⟨g, 0, none⟩)] w (Ret (IntR g w (st.bind rdU))) := by
  refine enter (vs := [.pointer (some ⟨g, 0, none⟩)]) Try.func37 rfl rfl rfl ?_
  refine c_seq (c_region (o_assign rfl rfl (o_assign rfl rfl (o_nil (n_then (c_seq (c_region (o_move rfl rfl ?_))))))))
  refine o_call call_Uint rfl rfl (Uint_spec hr) ?_
  rintro r1 w1 ⟨hg1, h1⟩
  unfold IntR
  cases hrd : st.bind rdU with
  | none =>
    rw [hrd] at h1
    obtain ⟨rfl, hr1⟩ := h1
    refine o_move rfl rfl ?_
    refine o_extract rfl rfl (r_ext0) ?_
    refine o_extract rfl rfl (r_ext1) ?_
    refine o_assign rfl rfl (o_assign rfl rfl (o_nil (n_then (c_seq (c_seq (c_region (o_move rfl rfl ?_)))))))
    refine o_bin rfl rfl rfl (dec_t (by decide) r_neq_i) ?_
    refine o_nil (n_then ?_)
    refine c_yes rfl ?_
    refine c_seq (c_region (o_move rfl rfl (o_assign rfl rfl (o_assign rfl rfl (o_nil (n_then (c_ret (r_then ?_))))))))
    refine r_body2 rfl rfl rfl ?_
    exact ⟨_, rfl, hg1, rfl, hr1⟩
  | some p =>
    obtain ⟨n, t⟩ := p
    rw [hrd] at h1
    obtain ⟨rfl, hr1⟩ := h1
    have hn : n < 18446744073709551616 := by
      cases st with
      | none => cases hrd
      | some l => exact (rdU_inv hrd).2
    have hnn : (UInt64.ofNat n).toNat = n := by rw [UInt64.toNat_ofNat']; omega
    refine o_move rfl rfl ?_
    refine o_extract rfl rfl (r_ext0) ?_
    refine o_extract rfl rfl (r_ext1) ?_
    refine o_assign rfl rfl (o_assign rfl rfl (o_nil (n_then (c_seq (c_seq (c_region (o_move rfl rfl ?_)))))))
    refine o_bin rfl rfl rfl (dec_f (by decide) r_neq_i) ?_
    refine o_nil (n_then ?_)
    refine c_no rfl ?_
    refine c_skip (n_then (c_seq (c_region (o_move rfl rfl ?_))))
    have hs : ((UInt64.ofNat n) >>> (UInt64.ofNat 1)).toNat = n / 2 := by
      rw [UInt64.toNat_shiftRight, hnn]
      show n >>> 1 = n / 2
      rfl
    have ha : ((UInt64.ofNat n) &&& 1).toNat = n % 2 := by
      rw [UInt64.toNat_and, hnn]
      show n &&& 1 = n % 2
      exact Nat.and_one_is_mod n
    refine o_bin rfl rfl rfl (r_shr_u64 1 (by omega)) ?_
    refine o_conv rfl rfl (r_u64_i Try.underlying23 Try.underlying3 (by rw [hs]; omega)) ?_
    refine o_move rfl rfl ?_
    refine o_bin (v := U64 1) rfl rfl rfl (r_and_u64) ?_
    refine o_conv rfl rfl (r_u64_i Try.underlying23 Try.underlying3 (by rw [ha]; omega)) ?_
    rw [hs, ha]
    refine o_not rfl rfl (r_neg_i (by omega) (by omega)) ?_
    refine o_bin rfl rfl rfl (r_zag hn) ?_
    refine o_assign rfl rfl (o_assign rfl rfl (o_nil (n_then (c_ret ?_))))
    refine r_body2 rfl rfl rfl ?_
    exact ⟨_, rfl, hg1, rfl, hr1⟩
end
end Go.Rl

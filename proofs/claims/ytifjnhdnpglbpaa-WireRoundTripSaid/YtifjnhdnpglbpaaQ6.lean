/- Walks of the reference's reader: byte strings, texts, rationals. Conditions: the bytes are not more than 2^39. -/
import Derived.Test.YtifjnhdnpglbpaaQ5
namespace Go.Rl
open Go.RowKit Go.Proofs
def FBytesR (g : Nat) (w : World) (o : Option (List UInt8 × List UInt8)) (r : Value) (w' : World) : Prop :=
  w.grownBy w' (some g) ∧ match o with
    | some (a, t) => ∃ v, r = .tuple #[v, I 0] ∧ Bts a v w' ∧ RfAt g (some t) w'
    | none => r = .tuple #[.slice none 0 0, I 5] ∧ RfAt g none w'
theorem rdB_u0 {st : Option (List UInt8)} (h : st.bind rdU = none) : st.bind rdB = none := by
  cases st with
  | none => rfl
  | some l =>
    have h : rdU l = none := h
    show rdB l = none
    unfold rdB
    rw [h]; rfl
theorem rdB_u1 {st : Option (List UInt8)} {n : Nat} {t : List UInt8} (h : st.bind rdU = some (n, t)) : st.bind rdB = if n ≤ t.length then some (t.take n, t.drop n) else none := by
  cases st with
  | none => cases h
  | some l =>
    have h : rdU l = some (n, t) := h
    show rdB l = _
    unfold rdB
    rw [h]; rfl
theorem FBytes_spec {w : World} {g : Nat} {st : Option (List UInt8)} (hr : RfAt g st w) (hl : ∀ l, st = some l → l.length ≤ 549755813888) :
    Calls Try.prog 47 #[.pointer (some ⟨g, 0, none⟩)] w (Ret (FBytesR g w (st.bind rdB))) := by
  refine enter (vs := [.pointer (some ⟨g, 0, none⟩)]) Try.func47 rfl rfl rfl ?_
  refine c_seq (c_region (o_assign rfl rfl (o_assign rfl rfl (o_nil (n_then (c_seq ?_))))))
  rcases hU : st.bind rdU with _ | ⟨n, t⟩
  · refine c_region (o_move rfl rfl (o_call call_FUint rfl rfl (FUint_none hr hU) ?_))
    rintro v9 w9 ⟨x9, rfl, hr1⟩
    have m9 := RdT.kp hr x9
    refine o_move rfl rfl (o_extract rfl rfl (r_ext0) (o_extract rfl rfl (r_ext1) (o_assign rfl rfl (o_assign rfl rfl (o_nil (n_then (c_seq (c_seq (c_region (o_move rfl rfl (o_bin rfl rfl rfl (dec_t (by decide) r_neq_i) ?_)))))))))))
    refine o_nil (n_then (c_yes rfl (c_seq (c_region (o_move rfl rfl (o_assign rfl rfl (o_assign rfl rfl (o_nil (n_then (c_ret (r_then (r_body2 rfl rfl rfl ?_))))))))))))
    exact ⟨_, rfl, x9, by rw [rdB_u0 hU]; exact ⟨rfl, hr1⟩⟩
  · obtain ⟨ht, hn⟩ := rdU_len hU hl
    refine c_region (o_move rfl rfl (o_call call_FUint rfl rfl (FUint_some hr hU) ?_))
    rintro v9 w9 ⟨x9, rfl, hr1⟩
    have m9 := RdT.kp hr x9
    refine o_move rfl rfl (o_extract rfl rfl (r_ext0) (o_extract rfl rfl (r_ext1) ?_))
    obtain ⟨A, n', c, k, b⟩ := id hr1
    have b : Bts t (.slice A n' c) w9 := b
    have hgb : g < w9.heap.size := RfAt.lt hr1
    refine o_assign rfl rfl (o_assign rfl rfl (o_nil (n_then (c_seq (c_seq (c_region (o_move rfl rfl (o_bin rfl rfl rfl (dec_f (by decide) r_neq_i) (o_nil (n_then (c_no rfl (c_skip (n_then ?_)))))))))))))
    refine c_seq (c_seq (c_region (o_move rfl rfl (o_move rfl rfl (o_nilCheck rfl rfl (o_fieldAddr rfl rfl (r_fAt (o := 0) Try.underlying91 rfl (by kernel_rfl) rfl) ?_))))))
    refine o_load rfl rfl (r_load1 Try.underlying22 rfl (k.cell (i := 0) rfl)) (o_len rfl rfl (r_lenB b) (o_conv rfl rfl (r_n_u64 Try.underlying3 Try.underlying31) ?_))
    refine o_bin rfl rfl rfl (r_gtr_u64) (o_nil (n_then ?_))
    refine c_if rfl (fun h22 => ?_) (fun h22 => ?_)
    · have hlong : t.length < n := (gtr_n hn (by omega)).1 h22
      refine c_seq (c_region (o_move rfl rfl (o_call call_Ffail rfl rfl (Ffail_spec hr1) ?_)))
      rintro v24 w24 ⟨rfl, hr2, g24⟩
      have m24 := RdT.kp hr1 g24
      refine o_assign rfl rfl (o_assign rfl rfl (o_nil (n_then (c_ret (r_then (r_body2 rfl rfl rfl ?_))))))
      exact ⟨_, rfl, x9.trans g24, by rw [rdB_u1 hU, if_neg (by omega)]; exact ⟨rfl, hr2⟩⟩
    · have hle : n ≤ t.length := Nat.le_of_not_lt (mt (gtr_n hn (by omega)).2 h22)
      have hnn : (UInt64.ofNat n).toNat = n := by rw [UInt64.toNat_ofNat']; omega
      refine c_skip (n_then (c_seq (c_region ?_)))
      obtain ⟨v25, w25, hr25, x25, o25, ob25⟩ := r_bsB (w := w9) w9.heap.size [] (by simp) (Nat.le_refl _)
      refine o_buildSlice (vs := []) rfl rfl hr25 (o_move rfl rfl (o_nilCheck rfl rfl (o_fieldAddr rfl rfl (r_fAt (o := 0) Try.underlying91 rfl (by kernel_rfl) rfl) ?_)))
      refine o_load rfl rfl (r_load1 Try.underlying22 rfl (x25.cell_some (k.cell (i := 0) rfl))) (o_move rfl rfl ?_)
      obtain ⟨v31, p31, b31⟩ := r_slB_hi (b.ext x25) (hi := (UInt64.ofNat n).toNat) (by omega) .u64
      rw [hnn] at b31
      refine o_slice (b := some (U64 (UInt64.ofNat n))) rfl rfl rfl rfl rfl (p31 _) ?_
      obtain ⟨v32, w32, hr32, o32, g32⟩ := r_appB (ty := 22) o25 b31 (by simp; omega) (x25).size
      have x32 := Ext.of_grew (x25) g32 o25.ge
      refine o_append rfl rfl hr32 (o_assign rfl rfl (o_nil (n_then (c_seq (c_region (o_move rfl rfl (o_move rfl rfl (o_nilCheck rfl rfl (o_fieldAddr rfl rfl (r_fAt (o := 0) Try.underlying91 rfl (by kernel_rfl) rfl) ?_)))))))))
      refine o_load rfl rfl (r_load1 Try.underlying22 rfl (x32.cell_some (k.cell (i := 0) rfl))) (o_move rfl rfl ?_)
      obtain ⟨v39, p39, b39⟩ := r_slB_lo (b.ext x32) (lo := (UInt64.ofNat n).toNat) (by omega) .u64
      rw [hnn] at b39
      refine o_slice (a := some (U64 (UInt64.ofNat n))) rfl rfl rfl rfl rfl (p39 _) ?_
      have hr1' := RfAt.ext hr1 x32
      have hvb : Bts (t.take n) v32 w32 := by simpa using (o32).bts
      refine o_nilCheck rfl rfl (o_fieldAddr rfl rfl (r_fAt (o := 0) Try.underlying91 rfl (by kernel_rfl) rfl) ?_)
      obtain ⟨w3, hs3, q3, r3⟩ := RdT.set hr1' b39
      refine o_store rfl rfl (hs3) ?_
      have gg := (x9.trans (gb_ext x32)).trans q3
      refine o_nil (n_then (c_seq (c_region (o_move rfl rfl (o_assign rfl rfl (o_assign rfl rfl (o_nil (n_then (c_ret (r_body2 rfl rfl rfl ?_))))))))))
      exact ⟨_, rfl, gg, by rw [rdB_u1 hU, if_pos hle]; exact ⟨_, rfl, hvb.kp (RdT.kp hr1' q3), r3⟩⟩
theorem rdB_len' {st : Option (List UInt8)} {a t : List UInt8} {k : Nat} (h : st.bind rdB = some (a, t)) (hl : ∀ l, st = some l → l.length ≤ k) : a.length ≤ k := by
  cases st with
  | none => cases h
  | some l => exact Nat.le_trans (rdB_len (show rdB l = some (a, t) from h)) (hl l rfl)
section
variable {w : World} {g : Nat}
theorem FBytes_none {st : Option (List UInt8)} (hr : RfAt g st w) (hl : ∀ l, st = some l → l.length ≤ 549755813888) (h : st.bind rdB = none) : Calls Try.prog 47 #[.pointer (some ⟨g, 0, none⟩)] w (Ret fun r w' => w.grownBy w' (some g) ∧ r = .tuple #[.slice none 0 0, I 5] ∧ RfAt g none w') := by
  have := FBytes_spec hr hl
  rw [h] at this
  exact this
theorem FBytes_some {st : Option (List UInt8)} {a t : List UInt8} (hr : RfAt g st w) (hl : ∀ l, st = some l → l.length ≤ 549755813888) (h : st.bind rdB = some (a, t)) : Calls Try.prog 47 #[.pointer (some ⟨g, 0, none⟩)] w (Ret fun r w' => w.grownBy w' (some g) ∧ ∃ v, r = .tuple #[v, I 0] ∧ Bts a v w' ∧ RfAt g (some t) w') := by
  have := FBytes_spec hr hl
  rw [h] at this
  exact this
theorem FNat_none {st : Option (List UInt8)} (hr : RfAt g st w) (hl : ∀ l, st = some l → l.length ≤ 549755813888) (h : st.bind rdN = none) : Calls Try.prog 59 #[.pointer (some ⟨g, 0, none⟩)] w (Ret fun r w' => w.grownBy w' (some g) ∧ r = .tuple #[.slice none 0 0, I 5] ∧ RfAt g none w') := by
  have := FNat_spec hr hl
  rw [h] at this
  exact this
theorem FNat_some {st : Option (List UInt8)} {m : List UInt32} {t : List UInt8} (hr : RfAt g st w) (hl : ∀ l, st = some l → l.length ≤ 549755813888) (h : st.bind rdN = some (m, t)) : Calls Try.prog 59 #[.pointer (some ⟨g, 0, none⟩)] w (Ret fun r w' => w.grownBy w' (some g) ∧ ∃ v, r = .tuple #[v, I 0] ∧ Wds m v w' ∧ RfAt g (some t) w') := by
  have := FNat_spec hr hl
  rw [h] at this
  exact this
end
def FTextR (g : Nat) (w : World) (o : Option (List UInt8 × List UInt8)) (r : Value) (w' : World) : Prop :=
  w.grownBy w' (some g) ∧ match o with
    | some (a, t) => r = .tuple #[S a, I 0] ∧ RfAt g (some t) w'
    | none => r = .tuple #[S [], I 5] ∧ RfAt g none w'
theorem FText_spec {w : World} {g : Nat} {st : Option (List UInt8)} (hr : RfAt g st w) (hl : ∀ l, st = some l → l.length ≤ 549755813888) :
    Calls Try.prog 62 #[.pointer (some ⟨g, 0, none⟩)] w (Ret (FTextR g w (st.bind rdB))) := by
  refine enter (vs := [.pointer (some ⟨g, 0, none⟩)]) Try.func62 rfl rfl rfl ?_
  refine c_seq (c_region (o_assign rfl rfl (o_assign rfl rfl (o_nil (n_then (c_seq ?_))))))
  rcases hU : st.bind rdB with _ | ⟨a, t⟩
  · refine c_region (o_move rfl rfl (o_call call_FBytes rfl rfl (FBytes_none hr hl hU) ?_))
    rintro v8 w8 ⟨x8, rfl, hr1⟩
    have m8 := RdT.kp hr x8
    have hnil := Bts.nil w8
    refine o_move rfl rfl (o_extract rfl rfl (r_ext0) (o_extract rfl rfl (r_ext1) (o_assign rfl rfl (o_assign rfl rfl (o_nil (n_then (c_seq (c_region (o_move rfl rfl (o_conv rfl rfl (r_str hnil) ?_))))))))))
    refine o_move rfl rfl (o_assign rfl rfl (o_assign rfl rfl (o_nil (n_then (c_ret (r_body2 rfl rfl rfl ?_))))))
    exact ⟨_, rfl, x8, rfl, hr1⟩
  · refine c_region (o_move rfl rfl (o_call call_FBytes rfl rfl (FBytes_some hr hl hU) ?_))
    rintro v8 w8 ⟨x8, v0, rfl, hb, hr1⟩
    have m8 := RdT.kp hr x8
    refine o_move rfl rfl (o_extract rfl rfl (r_ext0) (o_extract rfl rfl (r_ext1) (o_assign rfl rfl (o_assign rfl rfl (o_nil (n_then (c_seq (c_region (o_move rfl rfl (o_conv rfl rfl (r_str hb) ?_))))))))))
    refine o_move rfl rfl (o_assign rfl rfl (o_assign rfl rfl (o_nil (n_then (c_ret (r_body2 rfl rfl rfl ?_))))))
    exact ⟨_, rfl, x8, rfl, hr1⟩
end Go.Rl


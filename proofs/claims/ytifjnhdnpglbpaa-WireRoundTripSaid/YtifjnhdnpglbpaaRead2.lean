/- Walks of more of the reader: byte strings, texts, what is left. Conditions: the reader is not nil. -/
import Derived.Test.YtifjnhdnpglbpaaText
namespace Go.Rl
open Go.RowKit Go.Proofs

theorem call_blob : Callable Try.prog 72 := ⟨_, Try.func72, by kernel_rfl, rfl⟩
theorem call_Bytes : Callable Try.prog 61 := ⟨_, Try.func61, by kernel_rfl, rfl⟩
theorem call_Text : Callable Try.prog 37 := ⟨_, Try.func37, by kernel_rfl, rfl⟩
theorem call_Done : Callable Try.prog 35 := ⟨_, Try.func35, by kernel_rfl, rfl⟩
theorem call_Left : Callable Try.prog 31 := ⟨_, Try.func31, by kernel_rfl, rfl⟩

/-- A byte string with its length, read. -/
def rdB (l : List UInt8) : Option (List UInt8 × List UInt8) := (rdU l).bind fun p => if p.1 ≤ p.2.length then some (p.2.take p.1, p.2.drop p.1) else none
theorem rdB_encB {m : List UInt8} (h : m.length < 18446744073709551616) (t : List UInt8) : rdB (encB m ++ t) = some (m, t) := by
  unfold rdB encB
  rw [List.append_assoc, rdU_uv h]
  simp

section
variable {w : World} {g : Nat}
theorem ruv_spec {st : Option (List UInt8)} (hr : RdAt g st w) : Calls Try.prog 52 #[.pointer (some ⟨g, 0, none⟩)] w (Ret fun r w' => w.grownBy w' (some g) ∧ match st.bind rdU with
      | some (n, t) => r = .tuple #[U64 (UInt64.ofNat n), B true] ∧ RdAt g (some t) w'
      | none => r = .tuple #[U64 0, B false] ∧ ∃ l', RdAt g l' w') := by
  cases st with
  | none => exact (ruvarint_failed hr).mono fun e w' ⟨v, he, hv, hw⟩ => ⟨v, he, by subst hw; exact ⟨grownBy_refl _ _, hv, none, hr⟩⟩
  | some l =>
    refine (ruvarint_spec hr).mono fun e w' ⟨v, he, hg, hv⟩ => ⟨v, he, hg, ?_⟩
    show match rdU l with | some (n, t) => _ | none => _
    cases hrd : rdU l with
    | none => rw [hrd] at hv; exact ⟨hv.1, hv.2.imp' some fun _ h => h⟩
    | some p => rw [hrd] at hv; exact hv

theorem blob_spec {st : Option (List UInt8)} (hr : RdAt g st w) : Calls Try.prog 72 #[.pointer (some ⟨g, 0, none⟩)] w (Ret fun r w' => w.grownBy w' (some g) ∧ match st.bind rdB with
      | some (a, t) => ∃ v, r = .tuple #[v, B true] ∧ Bts a v w' ∧ RdAt g (some t) w'
      | none => r = .tuple #[.slice none 0 0, B false] ∧ ∃ l', RdAt g l' w') := by
  refine enter (vs := [.pointer (some ⟨g, 0, none⟩)]) Try.func72 rfl rfl rfl ?_
  refine c_seq (c_region (o_assign rfl rfl (o_assign rfl rfl (o_nil (n_then (c_seq (c_region (o_move rfl rfl ?_))))))))
  refine o_call call_ruvarint rfl rfl (ruv_spec hr) ?_
  rintro r1 w1 ⟨hg1, h1⟩
  cases hst : st.bind rdU with
  | none =>
    rw [hst] at h1
    obtain ⟨rfl, l', hr1⟩ := h1
    have hb : st.bind rdB = none := by
      cases st with
      | none => rfl
      | some l => show rdB l = none; unfold rdB; rw [show rdU l = none from hst]; rfl
    rw [hb]
    refine o_move rfl rfl ?_
    refine o_extract rfl rfl (r_ext0) ?_
    refine o_extract rfl rfl (r_ext1) ?_
    refine o_assign rfl rfl (o_assign rfl rfl (o_nil (n_then (c_seq (c_seq (c_region (o_move rfl rfl ?_)))))))
    refine o_not rfl rfl (r_not) ?_
    refine o_nil (n_then ?_)
    refine c_yes rfl ?_
    refine c_seq (c_region (o_assign rfl rfl (o_assign rfl rfl (o_nil (n_then (c_ret (r_then ?_)))))))
    refine r_body2 rfl rfl rfl ?_
    exact ⟨_, rfl, hg1, rfl, l', hr1⟩
  | some p =>
    obtain ⟨n, t⟩ := p
    rw [hst] at h1
    obtain ⟨rfl, hr1⟩ := h1
    obtain ⟨l, rfl, hl⟩ : ∃ l, st = some l ∧ rdU l = some (n, t) := by
      cases st with
      | none => cases hst
      | some l => exact ⟨l, rfl, hst⟩
    have hn := (rdU_inv hl).2
    have hnn : (UInt64.ofNat n).toNat = n := by rw [UInt64.toNat_ofNat']; omega
    have hb : (some l).bind rdB = if n ≤ t.length then some (t.take n, t.drop n) else none := by show rdB l = _; unfold rdB; rw [hl]; rfl
    rw [hb]
    refine o_move rfl rfl ?_
    refine o_extract rfl rfl (r_ext0) ?_
    refine o_extract rfl rfl (r_ext1) ?_
    refine o_assign rfl rfl (o_assign rfl rfl (o_nil (n_then (c_seq (c_seq (c_region (o_move rfl rfl ?_)))))))
    refine o_not rfl rfl (r_not) ?_
    refine o_nil (n_then ?_)
    refine c_no rfl ?_
    refine c_skip (n_then (c_seq (c_region (o_move rfl rfl (o_move rfl rfl ?_)))))
    by_cases hnt : n ≤ t.length
    · rw [if_pos hnt]
      refine o_call call_take rfl rfl (take_yes hr1 (by rw [hnn]; exact hnt)) ?_
      rintro r2 w2 ⟨b, rfl, hb2, hr2, hg2⟩
      rw [hnn] at hb2 hr2
      refine o_extract rfl rfl (r_ext0) ?_
      refine o_extract rfl rfl (r_ext1) ?_
      refine o_assign rfl rfl (o_assign rfl rfl (o_nil (n_then (c_ret ?_))))
      refine r_body2 rfl rfl rfl ?_
      exact ⟨_, rfl, hg1.trans hg2, _, rfl, hb2, hr2⟩
    · rw [if_neg hnt]
      refine o_call call_take rfl rfl (take_no hr1 (by rw [hnn]; omega)) ?_
      rintro r2 w2 ⟨rfl, rfl⟩
      refine o_extract rfl rfl (r_ext0) ?_
      refine o_extract rfl rfl (r_ext1) ?_
      refine o_assign rfl rfl (o_assign rfl rfl (o_nil (n_then (c_ret ?_))))
      refine r_body2 rfl rfl rfl ?_
      exact ⟨_, rfl, hg1, rfl, _, hr1⟩

def BytesR (g : Nat) (w : World) (o : Option (List UInt8 × List UInt8)) (r : Value) (w' : World) : Prop :=
  w.grownBy w' (some g) ∧ match o with
    | some (a, t) => ∃ v, r = .tuple #[v, I 0] ∧ Bts a v w' ∧ RdAt g (some t) w'
    | none => r = .tuple #[.slice none 0 0, I 5] ∧ RdAt g none w'
theorem rdB_len {l a t : List UInt8} (h : rdB l = some (a, t)) : a.length ≤ l.length := by
  unfold rdB at h
  cases hu : rdU l with
  | none => rw [hu] at h; cases h
  | some p =>
    obtain ⟨n, u⟩ := p
    rw [hu] at h
    have h : (if n ≤ u.length then some (u.take n, u.drop n) else none) = some (a, t) := h
    split at h
    · simp only [Option.some.injEq, Prod.mk.injEq] at h
      have := (rdU_inv hu).1
      rw [this, ← h.1]
      simp only [List.length_append, List.length_take]
      omega
    · cases h
theorem Bytes_spec {st : Option (List UInt8)} (hr : RdAt g st w) (hl : ∀ l, st = some l → l.length ≤ 70368744177664) :
    Calls Try.prog 61 #[.pointer (some ⟨g, 0, none⟩)] w (Ret (BytesR g w (st.bind rdB))) := by
  refine enter (vs := [.pointer (some ⟨g, 0, none⟩)]) Try.func61 rfl rfl rfl ?_
  refine c_seq (c_region (o_assign rfl rfl (o_assign rfl rfl (o_nil (n_then (c_seq (c_seq (c_region (o_move rfl rfl ?_)))))))))
  refine o_bin rfl rfl rfl (r_eqnilp Try.underlying43) ?_
  refine o_nil (n_then ?_)
  refine c_no rfl ?_
  refine c_skip (n_then (c_seq (c_region (o_move rfl rfl ?_))))
  refine o_call call_blob rfl rfl (blob_spec hr) ?_
  rintro r1 w1 ⟨hg1, h1⟩
  unfold BytesR
  cases hrd : st.bind rdB with
  | some p =>
    obtain ⟨a, t⟩ := p
    rw [hrd] at h1
    obtain ⟨v, rfl, hb, hr1⟩ := h1
    have hal : a.length ≤ 70368744177664 := by
      cases st with
      | none => cases hrd
      | some l => exact Nat.le_trans (rdB_len hrd) (hl l rfl)
    refine o_move rfl rfl ?_
    refine o_extract rfl rfl (r_ext0) ?_
    refine o_extract rfl rfl (r_ext1) ?_
    refine o_assign rfl rfl (o_assign rfl rfl (o_nil (n_then (c_seq (c_seq (c_region (o_move rfl rfl ?_)))))))
    refine o_not rfl rfl (r_not) ?_
    refine o_nil (n_then ?_)
    refine c_no rfl ?_
    refine c_skip (n_then (c_seq (c_region (o_move rfl rfl ?_))))
    refine o_call call_Clone rfl rfl (Clone_spec hb (by omega)) ?_
    rintro r2 w2 ⟨hx2, ho2⟩
    refine o_assign rfl rfl (o_assign rfl rfl (o_nil (n_then (c_ret ?_))))
    refine r_body2 rfl rfl rfl ?_
    exact ⟨_, rfl, hg1.trans (grownBy_of_ext hx2), _, rfl, ho2.bts, hr1.ext hx2⟩
  | none =>
    rw [hrd] at h1
    obtain ⟨rfl, l', hr1⟩ := h1
    refine o_move rfl rfl ?_
    refine o_extract rfl rfl (r_ext0) ?_
    refine o_extract rfl rfl (r_ext1) ?_
    refine o_assign rfl rfl (o_assign rfl rfl (o_nil (n_then (c_seq (c_seq (c_region (o_move rfl rfl ?_)))))))
    refine o_not rfl rfl (r_not) ?_
    refine o_nil (n_then ?_)
    refine c_yes rfl ?_
    refine c_seq (c_region (o_move rfl rfl ?_))
    refine o_call call_fail rfl rfl (fail_spec hr1) ?_
    rintro r2 w2 ⟨rfl, hr2, hg2⟩
    refine o_assign rfl rfl (o_assign rfl rfl (o_nil (n_then (c_ret (r_then ?_)))))
    refine r_body2 rfl rfl rfl ?_
    exact ⟨_, rfl, hg1.trans hg2, rfl, hr2⟩

def TextR (g : Nat) (w : World) (o : Option (List UInt8 × List UInt8)) (r : Value) (w' : World) : Prop :=
  w.grownBy w' (some g) ∧ match o with
    | some (a, t) => r = .tuple #[S a, I 0] ∧ RdAt g (some t) w'
    | none => r = .tuple #[S [], I 5] ∧ RdAt g none w'
theorem Text_spec {st : Option (List UInt8)} (hr : RdAt g st w) (hl : ∀ l, st = some l → l.length ≤ 70368744177664) :
    Calls Try.prog 37 #[.pointer (some ⟨g, 0, none⟩)] w (Ret (TextR g w (st.bind rdB))) := by
  refine enter (vs := [.pointer (some ⟨g, 0, none⟩)]) Try.func37 rfl rfl rfl ?_
  refine c_seq (c_region (o_assign rfl rfl (o_assign rfl rfl (o_nil (n_then (c_seq (c_region (o_move rfl rfl ?_))))))))
  refine o_call call_Bytes rfl rfl (Bytes_spec hr hl) ?_
  rintro r1 w1 ⟨hg1, h1⟩
  unfold TextR
  cases hrd : st.bind rdB with
  | some p =>
    obtain ⟨a, t⟩ := p
    rw [hrd] at h1
    obtain ⟨v, rfl, hb, hr1⟩ := h1
    refine o_move rfl rfl ?_
    refine o_extract rfl rfl (r_ext0) ?_
    refine o_extract rfl rfl (r_ext1) ?_
    refine o_assign rfl rfl (o_assign rfl rfl (o_nil (n_then (c_seq (c_region (o_move rfl rfl ?_))))))
    refine o_conv rfl rfl (r_str hb) ?_
    refine o_move rfl rfl (o_assign rfl rfl (o_assign rfl rfl (o_nil (n_then (c_ret ?_)))))
    refine r_body2 rfl rfl rfl ?_
    exact ⟨_, rfl, hg1, rfl, hr1⟩
  | none =>
    rw [hrd] at h1
    obtain ⟨rfl, hr1⟩ := h1
    refine o_move rfl rfl ?_
    refine o_extract rfl rfl (r_ext0) ?_
    refine o_extract rfl rfl (r_ext1) ?_
    refine o_assign rfl rfl (o_assign rfl rfl (o_nil (n_then (c_seq (c_region (o_move rfl rfl ?_))))))
    refine o_conv rfl rfl (r_str (Bts.nil _)) ?_
    refine o_move rfl rfl (o_assign rfl rfl (o_assign rfl rfl (o_nil (n_then (c_ret ?_)))))
    refine r_body2 rfl rfl rfl ?_
    exact ⟨_, rfl, hg1, rfl, hr1⟩

theorem Left_spec {st : Option (List UInt8)} (hr : RdAt g st w) :
    Calls Try.prog 31 #[.pointer (some ⟨g, 0, none⟩)] w (Ret fun r w' => r = I ((st.getD []).length : Nat) ∧ w' = w) := by
  obtain ⟨A, n, c, h1, h2⟩ := hr
  refine enter (vs := [.pointer (some ⟨g, 0, none⟩)]) Try.func31 rfl rfl rfl ?_
  refine c_seq (c_region (o_assign rfl rfl (o_nil (n_then (c_seq (c_seq (c_region (o_move rfl rfl ?_))))))))
  refine o_bin rfl rfl rfl (r_eqnilp Try.underlying43) ?_
  refine o_nil (n_then ?_)
  refine c_no rfl ?_
  refine c_skip (n_then (c_seq (c_region (o_move rfl rfl ?_))))
  refine o_nilCheck rfl rfl ?_
  refine o_fieldAddr rfl rfl (r_fieldAt Try.underlying83 rfl size_bytes (by omega)) ?_
  refine o_load rfl rfl (r_load1 Try.underlying22 rfl (cellAt (i := 0) h1 rfl)) ?_
  refine o_len rfl rfl (r_lenB h2) ?_
  refine o_assign rfl rfl (o_nil (n_then (c_ret ?_)))
  refine r_body1 rfl rfl ?_
  exact ⟨_, rfl, rfl, rfl⟩
theorem Done_spec {st : Option (List UInt8)} (hr : RdAt g st w) :
    Calls Try.prog 35 #[.pointer (some ⟨g, 0, none⟩)] w (Ret fun r w' => r = I (if st = some [] then 0 else 5) ∧ w' = w) := by
  obtain ⟨A, n, c, h1, h2⟩ := hr
  refine enter (vs := [.pointer (some ⟨g, 0, none⟩)]) Try.func35 rfl rfl rfl ?_
  refine c_seq (c_region (o_assign rfl rfl (o_nil (n_then (c_seq (c_seq (c_region (o_move rfl rfl ?_))))))))
  refine o_bin rfl rfl rfl (r_nenilp Try.underlying43) ?_
  refine o_move rfl rfl (g_yes rfl (o_move rfl rfl (g_yes rfl ?_)))
  refine o_nilCheck rfl rfl ?_
  refine g_yes rfl (o_fieldAddr rfl rfl (r_fieldAt Try.underlying83 rfl size_bool (by omega)) ?_)
  refine g_yes rfl (o_load rfl rfl (r_load1 Try.underlying4 rfl (cellAt (i := 1) h1 rfl)) ?_)
  cases st with
  | none =>
    refine g_yes rfl (o_move rfl rfl ?_)
    iterate 6 refine g_no rfl rfl rfl ?_
    refine g_yes rfl (o_pick_t rfl rfl rfl (o_pick_t rfl rfl rfl (o_nil (n_then ?_))))
    refine c_yes rfl ?_
    refine c_seq (c_region (o_assign rfl rfl (o_nil (n_then (c_ret (r_then ?_))))))
    refine r_body1 rfl rfl ?_
    exact ⟨_, rfl, rfl, rfl⟩
  | some l =>
    have h2' : Bts l (.slice A n c) w := h2
    refine g_yes rfl (o_move rfl rfl (g_yes rfl (o_move rfl rfl (g_yes rfl ?_))))
    refine o_nilCheck rfl rfl ?_
    refine g_yes rfl (o_fieldAddr rfl rfl (r_fieldAt Try.underlying83 rfl size_bytes (by omega)) ?_)
    refine g_yes rfl (o_load rfl rfl (r_load1 Try.underlying22 rfl (cellAt (i := 0) h1 rfl)) ?_)
    refine g_yes rfl (o_len rfl rfl (r_lenB h2') ?_)
    refine g_yes rfl (o_bin rfl rfl rfl r_gtr_i ?_)
    refine g_yes rfl (o_pick_f rfl rfl rfl (o_pick_t rfl rfl rfl (o_nil (n_then ?_))))
    refine c_if rfl (fun h => ?_) (fun h => ?_)
    · refine c_seq (c_region (o_assign rfl rfl (o_nil (n_then (c_ret (r_then ?_))))))
      refine r_body1 rfl rfl ?_
      have : some l ≠ some [] := by rintro ⟨⟩; simp at h
      rw [if_neg this]
      exact ⟨_, rfl, rfl, rfl⟩
    · refine c_skip (n_then (c_seq (c_region (o_assign rfl rfl (o_nil (n_then (c_ret ?_)))))))
      refine r_body1 rfl rfl ?_
      have : l = [] := List.eq_nil_of_length_eq_zero (by omega)
      subst this
      exact ⟨_, rfl, rfl, rfl⟩
end
end Go.Rl

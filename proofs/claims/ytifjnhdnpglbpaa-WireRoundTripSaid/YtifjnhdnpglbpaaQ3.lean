/- Walks of the reader's limbs and rationals. Conditions: the bytes are not more than 2^39. -/
import Derived.Test.YtifjnhdnpglbpaaRdr
namespace Go.Rl
open Go.RowKit Go.Proofs
theorem call_rnat : Callable Try.prog 54 := ⟨_, Try.func54, by kernel_rfl, rfl⟩
theorem call_RNat : Callable Try.prog 28 := ⟨_, Try.func28, by kernel_rfl, rfl⟩
theorem call_RRat : Callable Try.prog 29 := ⟨_, Try.func29, by kernel_rfl, rfl⟩
theorem call_RInt : Callable Try.prog 27 := ⟨_, Try.func27, by kernel_rfl, rfl⟩
section
variable {w : World} {g : Nat}
theorem ruv_none {st : Option (List UInt8)} (hr : RdAt g st w) (h : st.bind rdU = none) : Calls Try.prog 52 #[.pointer (some ⟨g, 0, none⟩)] w (Ret fun r w' => w.grownBy w' (some g) ∧ r = .tuple #[U64 0, B false] ∧ ∃ l', RdAt g l' w') := by
  have := ruv_spec hr
  rw [h] at this
  exact this
theorem ruv_some {st : Option (List UInt8)} {n : Nat} {t : List UInt8} (hr : RdAt g st w) (h : st.bind rdU = some (n, t)) : Calls Try.prog 52 #[.pointer (some ⟨g, 0, none⟩)] w (Ret fun r w' => w.grownBy w' (some g) ∧ r = .tuple #[U64 (UInt64.ofNat n), B true] ∧ RdAt g (some t) w') := by
  have := ruv_spec hr
  rw [h] at this
  exact this
end
theorem rdN_u0 {st : Option (List UInt8)} (h : st.bind rdU = none) : st.bind rdN = none := by
  cases st with
  | none => rfl
  | some l =>
    have h : rdU l = none := h
    show rdN l = none
    unfold rdN
    rw [h]; rfl
theorem rdN_u1 {st : Option (List UInt8)} {n : Nat} {t : List UInt8} (h : st.bind rdU = some (n, t)) : st.bind rdN = if n ≤ t.length / 4 ∧ lb (val (unle4 (t.take (4 * n)))) = unle4 (t.take (4 * n)) then some (unle4 (t.take (4 * n)), t.drop (4 * n)) else none := by
  cases st with
  | none => cases h
  | some l =>
    have h : rdU l = some (n, t) := h
    show rdN l = _
    unfold rdN
    rw [h]; rfl
theorem rdU_len {st : Option (List UInt8)} {n : Nat} {t : List UInt8} {k : Nat} (h : st.bind rdU = some (n, t)) (hl : ∀ l, st = some l → l.length ≤ k) : t.length ≤ k ∧ n < 18446744073709551616 := by
  cases st with
  | none => cases h
  | some l =>
    obtain ⟨h1, h2⟩ := rdU_inv (show rdU l = some (n, t) from h)
    have := hl l rfl
    rw [h1, List.length_append] at this
    exact ⟨by omega, h2⟩
def NatR (g : Nat) (w : World) (o : Option (List UInt32 × List UInt8)) (r : Value) (w' : World) : Prop :=
  w.grownBy w' (some g) ∧ match o with
    | some (m, t) => ∃ v, r = .tuple #[v, B true] ∧ Wds m v w' ∧ RdAt g (some t) w'
    | none => ∃ v, r = .tuple #[v, B false] ∧ (∃ m, Wds m v w') ∧ ∃ l', RdAt g l' w'
theorem rnat_spec {w : World} {g : Nat} {st : Option (List UInt8)} (hr : RdAt g st w) (hl : ∀ l, st = some l → l.length ≤ 549755813888) :
    Calls Try.prog 54 #[.pointer (some ⟨g, 0, none⟩)] w (Ret (NatR g w (st.bind rdN))) := by
  refine enter (vs := [.pointer (some ⟨g, 0, none⟩)]) Try.func54 rfl rfl rfl ?_
  refine c_seq (c_region (o_assign rfl rfl (o_assign rfl rfl (o_nil (n_then (c_seq ?_))))))
  rcases hU : st.bind rdU with _ | ⟨n, t⟩
  · refine c_region (o_move rfl rfl (o_call call_ruvarint rfl rfl (ruv_none hr hU) ?_))
    rintro v11 w11 ⟨x11, rfl, l', hr1⟩
    have m11 := (hr.rdT).kp x11
    refine o_move rfl rfl (o_extract rfl rfl (r_ext0) (o_extract rfl rfl (r_ext1) (o_assign rfl rfl (o_assign rfl rfl (o_nil (n_then (c_seq (c_seq (c_region (o_move rfl rfl (o_not rfl rfl r_not ?_)))))))))))
    refine o_move rfl rfl (g_no rfl rfl rfl (g_no rfl rfl rfl (g_no rfl rfl rfl (g_no rfl rfl rfl (g_no rfl rfl rfl (g_no rfl rfl rfl (g_no rfl rfl rfl (g_no rfl rfl rfl (g_no rfl rfl rfl ?_)))))))))
    refine o_pick_t rfl rfl rfl (o_nil (n_then (c_yes rfl (c_seq (c_region (o_assign rfl rfl (o_assign rfl rfl (o_nil (n_then (c_ret (r_then (r_body2 rfl rfl rfl ?_))))))))))))
    exact ⟨_, rfl, x11, by rw [rdN_u0 hU]; exact ⟨_, rfl, ⟨_, Wds.nil _⟩, l', hr1⟩⟩
  · obtain ⟨ht, hn⟩ := rdU_len hU hl
    have hnn : (UInt64.ofNat n).toNat = n := by rw [UInt64.toNat_ofNat']; omega
    refine c_region (o_move rfl rfl (o_call call_ruvarint rfl rfl (ruv_some hr hU) ?_))
    rintro v11 w11 ⟨x11, rfl, hr1⟩
    have m11 := (hr.rdT).kp x11
    refine o_move rfl rfl (o_extract rfl rfl (r_ext0) (o_extract rfl rfl (r_ext1) ?_))
    obtain ⟨A, n', c, k, b⟩ := hr1.rdT
    have b : Bts t (.slice A n' c) w11 := b
    refine o_assign rfl rfl (o_assign rfl rfl (o_nil (n_then (c_seq (c_seq (c_region (o_move rfl rfl (o_not rfl rfl r_not (o_move rfl rfl (g_yes rfl (o_move rfl rfl (g_yes rfl (o_move rfl rfl ?_)))))))))))))
    refine g_yes rfl (o_nilCheck rfl rfl (g_yes rfl (o_fieldAddr rfl rfl (r_fAt (o := 0) Try.underlying83 rfl (by kernel_rfl) rfl) (g_yes rfl (o_load rfl rfl (r_load1 Try.underlying22 rfl (k.cell (i := 0) rfl)) ?_)))))
    refine g_yes rfl (o_len rfl rfl (r_lenB b) (g_yes rfl (o_conv rfl rfl (r_n_u64 Try.underlying3 Try.underlying31) (g_yes rfl (o_bin (v := U64 4) rfl rfl rfl (r_quo_u64 (by decide)) ?_)))))
    refine g_yes rfl (o_bin rfl rfl rfl (r_gtr_u64) (o_pick_f rfl rfl rfl (o_nil (n_then ?_))))
    refine c_if rfl (fun h26 => ?_) (fun h26 => ?_)
    · have hlong : t.length / 4 < n := by
        have h26 := UInt64.lt_iff_toNat_lt.1 h26
        rw [UInt64.toNat_div, hnn, UInt64.toNat_ofNat', show (4 : UInt64).toNat = 4 from rfl] at h26
        omega
      refine c_seq (c_region (o_assign rfl rfl (o_assign rfl rfl (o_nil (n_then (c_ret (r_then (r_body2 rfl rfl rfl ?_))))))))
      exact ⟨_, rfl, x11, by rw [rdN_u1 hU, if_neg (by omega)]; exact ⟨_, rfl, ⟨_, Wds.nil _⟩, _, hr1⟩⟩
    · have hle : n ≤ t.length / 4 := by
        refine Nat.le_of_not_lt fun hh => h26 (UInt64.lt_iff_toNat_lt.2 ?_)
        rw [UInt64.toNat_div, hnn, UInt64.toNat_ofNat', show (4 : UInt64).toNat = 4 from rfl]
        omega
      have h4n : (4 * UInt64.ofNat n).toNat = 4 * n := by
        rw [UInt64.toNat_mul, hnn, show (4 : UInt64).toNat = 4 from rfl]
        omega
      obtain ⟨bs, hbs⟩ : ∃ bs, bs = t.take (4 * n) := ⟨_, rfl⟩
      have hbl : bs.length = 4 * n := by rw [hbs, List.length_take]; omega
      refine c_skip (n_then (c_seq (c_region (o_move rfl rfl (o_move rfl rfl (o_bin (u := U64 4) rfl rfl rfl (r_mul_u64) (o_call call_take rfl rfl ((by have := take_yes (n := 4 * UInt64.ofNat n) hr1 (by rw [h4n]; omega); rw [h4n, ← hbs] at this; exact this)) ?_)))))))
      rintro v31 w31 ⟨b31, rfl, hb31, hr2, g31⟩
      have m31 := (hr1.rdT).kp g31
      refine o_move rfl rfl (o_extract rfl rfl (r_ext0) (o_extract rfl rfl (r_ext1) (o_assign rfl rfl (o_assign rfl rfl (o_nil (n_then (c_seq (c_region (o_assign rfl rfl (o_nil (n_then (c_seq ?_))))))))))))
      refine c_block ?_
      refine c_loop3 (fun (i : Nat) (v : Value) (u : Value) => [(4, U64 (UInt64.ofNat n)), (6, v), (8, u)]) (fun (i : Nat) (v : Value) (u : Value) w' => Ext w31 w' ∧ Bts (bs.drop (4 * i)) v w31 ∧ OwnW w31.heap.size (unle4 (bs.take (4 * i))) u w' ∧ i ≤ n) (fun (i : Nat) (v : Value) (u : Value) => n - i) (0) (b31) (.slice none 0 0) ⟨rfl, rfl, rfl, trivial⟩ ⟨Ext.refl _, by simpa using hb31, by simpa [unle4] using OwnW.nil _ _, by omega⟩ ?_
      rintro i v u w6 ⟨e6, h6, o6, hi⟩
      refine c_seq (c_seq ?_)
      have hdl : (bs.drop (4 * i)).length = 4 * n - 4 * i := by rw [List.length_drop, hbl]
      refine c_region (o_move rfl rfl (o_len rfl rfl (r_lenB (h6.ext e6)) (o_bin rfl rfl rfl (r_gtr_i) (o_nil (n_then ?_)))))
      refine c_if rfl (fun h36 => ?_) (fun h36 => ?_)
      · refine c_skip (n_then (c_seq (c_block ?_)))
        have hdl : (bs.drop (4 * i)).length = 4 * n - 4 * i := by rw [List.length_drop, hbl]
        refine c_grow 24 [4, 6, 39, 62] (by kernel_rfl) (by kernel_rfl) ?_
        refine f_move rfl rfl (f_move rfl rfl ?_)
        obtain ⟨a41, p41, q41⟩ := r_ixB (h6.ext e6) (i := 0) (by omega) .i64
        refine f_indexAddr rfl rfl rfl (fun w _ => p41 w) (f_load rfl rfl (fun w hw => r_load1 Try.underlying5 rfl (hw.cell_some q41)) (f_conv rfl rfl (fun w _ => r_u8_u32 Try.underlying5 Try.underlying79) ?_))
        refine f_move rfl rfl ?_
        obtain ⟨a45, p45, q45⟩ := r_ixB (h6.ext e6) (i := 1) (by omega) .i64
        refine f_indexAddr rfl rfl rfl (fun w _ => p45 w) (f_load rfl rfl (fun w hw => r_load1 Try.underlying5 rfl (hw.cell_some q45)) (f_conv rfl rfl (fun w _ => r_u8_u32 Try.underlying5 Try.underlying79) ?_))
        refine f_bin (v := U64 8) rfl rfl rfl (fun w _ => r_shl_u32 8 (by omega)) (f_bin rfl rfl rfl (fun w _ => r_or_u32) (f_move rfl rfl ?_))
        obtain ⟨a51, p51, q51⟩ := r_ixB (h6.ext e6) (i := 2) (by omega) .i64
        refine f_indexAddr rfl rfl rfl (fun w _ => p51 w) (f_load rfl rfl (fun w hw => r_load1 Try.underlying5 rfl (hw.cell_some q51)) (f_conv rfl rfl (fun w _ => r_u8_u32 Try.underlying5 Try.underlying79) ?_))
        refine f_bin (v := U64 16) rfl rfl rfl (fun w _ => r_shl_u32 16 (by omega)) (f_bin rfl rfl rfl (fun w _ => r_or_u32) (f_move rfl rfl ?_))
        obtain ⟨a57, p57, q57⟩ := r_ixB (h6.ext e6) (i := 3) (by omega) .i64
        refine f_indexAddr rfl rfl rfl (fun w _ => p57 w) (f_load rfl rfl (fun w hw => r_load1 Try.underlying5 rfl (hw.cell_some q57)) (f_conv rfl rfl (fun w _ => r_u8_u32 Try.underlying5 Try.underlying79) ?_))
        refine f_bin (v := U64 24) rfl rfl rfl (fun w _ => r_shl_u32 24 (by omega)) (f_bin rfl rfl rfl (fun w _ => r_or_u32) (f_buildSlice (S := Wds [((((((((((bs.drop (4 * i))[0])).toUInt32) ||| ((((((bs.drop (4 * i))[1])).toUInt32) <<< UInt32.ofNat 8)))) ||| ((((((bs.drop (4 * i))[2])).toUInt32) <<< UInt32.ofNat 16)))) ||| ((((((bs.drop (4 * i))[3])).toUInt32) <<< UInt32.ofNat 24))))]) (Wds.stable _) rfl (fun w' _ => by rintro _ rfl; obtain ⟨r, w2, h1, h2, h3, _⟩ := r_bsW Try.underlying33 (w := w') w'.heap.size [((((((((((bs.drop (4 * i))[0])).toUInt32) ||| ((((((bs.drop (4 * i))[1])).toUInt32) <<< UInt32.ofNat 8)))) ||| ((((((bs.drop (4 * i))[2])).toUInt32) <<< UInt32.ofNat 16)))) ||| ((((((bs.drop (4 * i))[3])).toUInt32) <<< UInt32.ofNat 24))))] (by simp) (Nat.le_refl _); exact ⟨r, w2, h1, h2, h3.wds⟩) ?_))
        refine f_nil ?_
        intro wg8 xg8
        rintro _ rfl
        rintro _ hq6
        obtain rfl := Eq.symm hq6
        rintro _ hq39
        obtain rfl := Eq.symm hq39
        intro vg62 b62
        obtain ⟨v63, w63, hr63, o63, g63⟩ := r_appW Try.underlying33 (ty := 33) (o6.ext xg8) b62 (by have := unle4_len i (bs.take (4 * i)) (by rw [List.length_take]; omega); simp; omega) ((e6.trans xg8)).size
        have x63 := Ext.of_grew ((e6.trans xg8)) g63 (o6.ext xg8).ge
        refine o_append rfl rfl hr63 (o_assign rfl rfl (o_nil (n_block (n_then (c_region (o_move rfl rfl ?_))))))
        obtain ⟨v38, p38, b38⟩ := r_slB_lo h6 (lo := 4) (by omega) .i64
        refine o_slice rfl rfl rfl rfl rfl (p38 _) ?_
        refine o_assign rfl rfl (o_nil ?_)
        refine n_round3 (i + 1) (v38) (v63) ⟨rfl, rfl, rfl, trivial⟩ ⟨x63, by rw [List.drop_drop] at b38; exact b38, by
          rw [unle4_next i bs (by omega)]
          have e := w4_or ((bs.drop (4 * i))[0]) ((bs.drop (4 * i))[1]) ((bs.drop (4 * i))[2]) ((bs.drop (4 * i))[3])
          simp only [List.getElem_drop, Nat.add_zero] at e
          simp only [List.getElem_drop, Nat.add_zero, e] at o63
          exact o63, by omega⟩ (by omega)
      · refine c_exit (x_then (x_then (x_here (n_then (c_seq ?_)))))
        by_cases h66 : UInt64.ofNat n = 0
        · refine c_grow 12 [2, 74] (by kernel_rfl) (by kernel_rfl) ?_
          refine f_move rfl rfl (f_move rfl rfl (f_bin (v := U64 0) rfl rfl rfl (fun w _ => dec_t h66 r_eql_u64) (f_move rfl rfl (f_no rfl rfl rfl (f_no rfl rfl rfl (f_no rfl rfl rfl ?_))))))
          refine f_no rfl rfl rfl (f_no rfl rfl rfl (f_no rfl rfl rfl (f_pick_t rfl rfl rfl (f_assign rfl rfl (f_nil ?_)))))
          intro wg9 xg9
          rintro _ hq2
          obtain rfl := Eq.symm hq2
          rintro _ rfl
          refine o_assign rfl rfl (o_nil (n_then (c_ret (r_body2 rfl rfl rfl ?_))))
          exact ⟨_, rfl, (x11.trans g31).trans (grownBy_of_ext (e6.trans xg9)), by
            rw [rdN_u1 hU, ← hbs]
            first
            | (have hx : (unle4 bs)[(UInt64.ofNat n - 1).toNat] ≠ 0 ↔ lb (val (unle4 bs)) = unle4 bs := by
                 have e : (UInt64.ofNat n - 1).toNat = (unle4 bs).length - 1 := by omega
                 simp only [e]
                 exact can_iff (by omega)
               by_cases hc : lb (val (unle4 bs)) = unle4 bs
               · rw [if_pos ⟨hle, hc⟩, decide_eq_true (hx.2 hc)]
                 exact ⟨u, rfl, o6.wds.ext xg9, hr2.ext (e6.trans xg9)⟩
               · rw [if_neg fun h => hc h.2, decide_eq_false fun h => hc (hx.1 h)]
                 exact ⟨u, rfl, ⟨_, o6.wds.ext xg9⟩, _, hr2.ext (e6.trans xg9)⟩)
            | (have h0 : n = 0 := by
                 have := congrArg UInt64.toNat h66
                 rw [hnn] at this
                 exact this
               have hb0 : unle4 bs = [] := List.eq_nil_of_length_eq_zero (by rw [unle4_len n bs hbl]; exact h0)
               have hb1 : bs.take (4 * i) = bs := List.take_of_length_le (by omega)
               rw [hb1, hb0] at o6
               rw [hb0, if_pos ⟨hle, rfl⟩]
               exact ⟨u, rfl, o6.wds.ext xg9, hr2.ext (e6.trans xg9)⟩)⟩
        · refine c_grow 12 [2, 74] (by kernel_rfl) (by kernel_rfl) ?_
          refine f_move rfl rfl (f_move rfl rfl (f_bin (v := U64 0) rfl rfl rfl (fun w _ => dec_f h66 r_eql_u64) (f_move rfl rfl (f_yes rfl rfl (f_move rfl rfl (f_yes rfl rfl (f_move rfl rfl ?_)))))))
          refine f_yes rfl rfl (f_bin (v := U64 1) rfl rfl rfl (fun w _ => r_sub_u64) (f_yes rfl rfl ?_))
          have hn0 : 0 < n := by
            rcases Nat.eq_zero_or_pos n with h | h
            · exact absurd (by rw [h]; rfl) h66
            · exact h
          have hns := unle4_len n bs hbl
          have hin : i = n := by omega
          have hbi : bs.take (4 * i) = bs := List.take_of_length_le (by omega)
          rw [hbi] at o6
          have hm1 : (UInt64.ofNat n - 1).toNat = n - 1 := by
            rw [UInt64.toNat_sub_of_le _ _ (UInt64.le_iff_toNat_le.2 (by rw [hnn]; exact hn0)), hnn]; rfl
          obtain ⟨a71, p71, q71⟩ := r_ixW Try.underlying33 o6.wds (i := (UInt64.ofNat n - 1).toNat) (by omega) .u64
          refine f_indexAddr rfl rfl rfl (fun w hw => p71 _) (f_yes rfl rfl (f_load rfl rfl (fun w hw => r_load1 Try.underlying79 rfl (hw.cell_some q71)) (f_yes rfl rfl ?_)))
          refine f_bin (v := U32 0) rfl rfl rfl (fun w _ => r_neq_u32) (f_pick_f rfl rfl rfl (f_assign rfl rfl (f_nil ?_)))
          intro wg9 xg9
          rintro _ hq2
          obtain rfl := Eq.symm hq2
          rintro _ rfl
          refine o_assign rfl rfl (o_nil (n_then (c_ret (r_body2 rfl rfl rfl ?_))))
          exact ⟨_, rfl, (x11.trans g31).trans (grownBy_of_ext (e6.trans xg9)), by
            rw [rdN_u1 hU, ← hbs]
            first
            | (have hx : (unle4 bs)[(UInt64.ofNat n - 1).toNat] ≠ 0 ↔ lb (val (unle4 bs)) = unle4 bs := by
                 have e : (UInt64.ofNat n - 1).toNat = (unle4 bs).length - 1 := by omega
                 simp only [e]
                 exact can_iff (by omega)
               by_cases hc : lb (val (unle4 bs)) = unle4 bs
               · rw [if_pos ⟨hle, hc⟩, decide_eq_true (hx.2 hc)]
                 exact ⟨u, rfl, o6.wds.ext xg9, hr2.ext (e6.trans xg9)⟩
               · rw [if_neg fun h => hc h.2, decide_eq_false fun h => hc (hx.1 h)]
                 exact ⟨u, rfl, ⟨_, o6.wds.ext xg9⟩, _, hr2.ext (e6.trans xg9)⟩)
            | (have h0 : n = 0 := by
                 have := congrArg UInt64.toNat h66
                 rw [hnn] at this
                 exact this
               have hb0 : unle4 bs = [] := List.eq_nil_of_length_eq_zero (by rw [unle4_len n bs hbl]; exact h0)
               have hb1 : bs.take (4 * i) = bs := List.take_of_length_le (by omega)
               rw [hb1, hb0] at o6
               rw [hb0, if_pos ⟨hle, rfl⟩]
               exact ⟨u, rfl, o6.wds.ext xg9, hr2.ext (e6.trans xg9)⟩)⟩
section
variable {w : World} {g : Nat}
theorem rnat_none {st : Option (List UInt8)} (hr : RdAt g st w) (hl : ∀ l, st = some l → l.length ≤ 549755813888) (h : st.bind rdN = none) : Calls Try.prog 54 #[.pointer (some ⟨g, 0, none⟩)] w (Ret fun r w' => w.grownBy w' (some g) ∧ ∃ v, r = .tuple #[v, B false] ∧ (∃ m, Wds m v w') ∧ ∃ l', RdAt g l' w') := by
  have := rnat_spec hr hl
  rw [h] at this
  exact this
theorem rnat_some {st : Option (List UInt8)} {m : List UInt32} {t : List UInt8} (hr : RdAt g st w) (hl : ∀ l, st = some l → l.length ≤ 549755813888) (h : st.bind rdN = some (m, t)) : Calls Try.prog 54 #[.pointer (some ⟨g, 0, none⟩)] w (Ret fun r w' => w.grownBy w' (some g) ∧ ∃ v, r = .tuple #[v, B true] ∧ Wds m v w' ∧ RdAt g (some t) w') := by
  have := rnat_spec hr hl
  rw [h] at this
  exact this
theorem Uint_none {st : Option (List UInt8)} (hr : RdAt g st w) (h : st.bind rdU = none) : Calls Try.prog 26 #[.pointer (some ⟨g, 0, none⟩)] w (Ret fun r w' => w.grownBy w' (some g) ∧ r = .tuple #[U64 0, I 5] ∧ RdAt g none w') := by
  have := Uint_spec hr
  rw [h] at this
  exact this
theorem Uint_some {st : Option (List UInt8)} {n : Nat} {t : List UInt8} (hr : RdAt g st w) (h : st.bind rdU = some (n, t)) : Calls Try.prog 26 #[.pointer (some ⟨g, 0, none⟩)] w (Ret fun r w' => w.grownBy w' (some g) ∧ r = .tuple #[U64 (UInt64.ofNat n), I 0] ∧ RdAt g (some t) w') := by
  have := Uint_spec hr
  rw [h] at this
  exact this
end
def NatE (g : Nat) (w : World) (o : Option (List UInt32 × List UInt8)) (r : Value) (w' : World) : Prop :=
  w.grownBy w' (some g) ∧ match o with
    | some (m, t) => ∃ v, r = .tuple #[v, I 0] ∧ Wds m v w' ∧ RdAt g (some t) w'
    | none => r = .tuple #[.slice none 0 0, I 5] ∧ RdAt g none w'
theorem RNat_spec {w : World} {g : Nat} {st : Option (List UInt8)} (hr : RdAt g st w) (hl : ∀ l, st = some l → l.length ≤ 549755813888) :
    Calls Try.prog 28 #[.pointer (some ⟨g, 0, none⟩)] w (Ret (NatE g w (st.bind rdN))) := by
  refine enter (vs := [.pointer (some ⟨g, 0, none⟩)]) Try.func28 rfl rfl rfl ?_
  refine c_seq (c_region (o_assign rfl rfl (o_assign rfl rfl (o_nil (n_then (c_seq (c_seq (c_region (o_move rfl rfl (o_bin rfl rfl rfl (r_eqnilp Try.underlying43) (o_nil ?_)))))))))))
  refine n_then (c_no rfl (c_skip (n_then (c_seq ?_))))
  rcases hN : st.bind rdN with _ | ⟨m, t⟩
  · refine c_region (o_move rfl rfl (o_call call_rnat rfl rfl (rnat_none hr hl hN) ?_))
    rintro v10 w10 ⟨x10, v0, rfl, _, l', hr1⟩
    have m10 := (hr.rdT).kp x10
    refine o_move rfl rfl (o_extract rfl rfl (r_ext0) (o_extract rfl rfl (r_ext1) (o_assign rfl rfl (o_assign rfl rfl (o_nil (n_then (c_seq (c_seq (c_region (o_move rfl rfl (o_not rfl rfl r_not ?_)))))))))))
    refine o_nil (n_then (c_yes rfl (c_seq (c_region (o_move rfl rfl (o_call call_fail rfl rfl (fail_spec hr1) ?_))))))
    rintro v16 w16 ⟨rfl, hr2, g2⟩
    refine o_assign rfl rfl (o_assign rfl rfl (o_nil (n_then (c_ret (r_then (r_body2 rfl rfl rfl ?_))))))
    exact ⟨_, rfl, x10.trans g2, rfl, hr2⟩
  · refine c_region (o_move rfl rfl (o_call call_rnat rfl rfl (rnat_some hr hl hN) ?_))
    rintro v10 w10 ⟨x10, v0, rfl, h0, hr1⟩
    have m10 := (hr.rdT).kp x10
    refine o_move rfl rfl (o_extract rfl rfl (r_ext0) (o_extract rfl rfl (r_ext1) (o_assign rfl rfl (o_assign rfl rfl (o_nil (n_then (c_seq (c_seq (c_region (o_move rfl rfl (o_not rfl rfl r_not ?_)))))))))))
    refine o_nil (n_then (c_no rfl (c_skip (n_then (c_seq (c_region (o_move rfl rfl (o_assign rfl rfl (o_assign rfl rfl (o_nil (n_then (c_ret (r_body2 rfl rfl rfl ?_)))))))))))))
    exact ⟨_, rfl, x10, v0, rfl, h0, hr1⟩
def IntR (g : Nat) (w : World) (o : Option (Nat × List UInt8)) (r : Value) (w' : World) : Prop :=
  w.grownBy w' (some g) ∧ match o with
    | some (n, t) => r = .tuple #[I (uz n), I 0] ∧ RdAt g (some t) w'
    | none => r = .tuple #[I 0, I 5] ∧ RdAt g none w'
theorem r_half {P : Program} {w : World} {s d : TypeId} {n : Nat} (hs : P.underlying s = some (.int .u64)) (hd : P.underlying d = some (.int .i64)) (hn : n < 18446744073709551616) : (convert s d (U64 (UInt64.ofNat n >>> UInt64.ofNat 1))).run P w = .ok (I ((n / 2 : Nat) : Int)) w := by
  have e : (UInt64.ofNat n >>> UInt64.ofNat 1).toNat = n / 2 := by
    rw [UInt64.toNat_shiftRight, UInt64.toNat_ofNat', show (UInt64.ofNat 1).toNat % 64 = 1 from rfl, Nat.shiftRight_eq_div_pow]; omega
  have := r_u64_i (P := P) (w := w) hs hd (a := UInt64.ofNat n >>> UInt64.ofNat 1) (by omega)
  rwa [e] at this
theorem low_n {n : Nat} : (UInt64.ofNat n &&& 1).toNat = n % 2 := by
  rw [UInt64.toNat_and, UInt64.toNat_ofNat', show (1 : UInt64).toNat = 1 from rfl, Nat.and_one_is_mod]; omega
theorem r_low0 {P : Program} {w : World} {s d : TypeId} {n : Nat} (hs : P.underlying s = some (.int .u64)) (hd : P.underlying d = some (.int .i64)) (h : n % 2 = 0) : (convert s d (U64 (UInt64.ofNat n &&& 1))).run P w = .ok (I 0) w := by
  have := r_u64_i (P := P) (w := w) hs hd (a := UInt64.ofNat n &&& 1) (by rw [low_n]; omega)
  rw [low_n, h] at this
  exact this
theorem r_low1 {P : Program} {w : World} {s d : TypeId} {n : Nat} (hs : P.underlying s = some (.int .u64)) (hd : P.underlying d = some (.int .i64)) (h : n % 2 = 1) : (convert s d (U64 (UInt64.ofNat n &&& 1))).run P w = .ok (I 1) w := by
  have := r_u64_i (P := P) (w := w) hs hd (a := UInt64.ofNat n &&& 1) (by rw [low_n]; omega)
  rw [low_n, h] at this
  exact this
theorem RInt_spec {w : World} {g : Nat} {st : Option (List UInt8)} (hr : RdAt g st w) :
    Calls Try.prog 27 #[.pointer (some ⟨g, 0, none⟩)] w (Ret (IntR g w (st.bind rdU))) := by
  refine enter (vs := [.pointer (some ⟨g, 0, none⟩)]) Try.func27 rfl rfl rfl ?_
  refine c_seq (c_region (o_assign rfl rfl (o_assign rfl rfl (o_nil (n_then (c_seq ?_))))))
  rcases hN : st.bind rdU with _ | ⟨n, t⟩
  · refine c_region (o_move rfl rfl (o_call call_Uint rfl rfl (Uint_none hr hN) ?_))
    rintro v8 w8 ⟨x8, rfl, hr1⟩
    have m8 := (hr.rdT).kp x8
    refine o_move rfl rfl (o_extract rfl rfl (r_ext0) (o_extract rfl rfl (r_ext1) (o_assign rfl rfl (o_assign rfl rfl (o_nil (n_then (c_seq (c_seq (c_region (o_move rfl rfl (o_bin rfl rfl rfl (dec_t (by decide) r_neq_i) ?_)))))))))))
    refine o_nil (n_then (c_yes rfl (c_seq (c_region (o_move rfl rfl (o_assign rfl rfl (o_assign rfl rfl (o_nil (n_then (c_ret (r_then (r_body2 rfl rfl rfl ?_))))))))))))
    exact ⟨_, rfl, x8, rfl, hr1⟩
  · refine c_region (o_move rfl rfl (o_call call_Uint rfl rfl (Uint_some hr hN) ?_))
    rintro v8 w8 ⟨x8, rfl, hr1⟩
    have m8 := (hr.rdT).kp x8
    refine o_move rfl rfl (o_extract rfl rfl (r_ext0) (o_extract rfl rfl (r_ext1) (o_assign rfl rfl (o_assign rfl rfl (o_nil (n_then (c_seq (c_seq (c_region (o_move rfl rfl (o_bin rfl rfl rfl (dec_f (by decide) r_neq_i) ?_)))))))))))
    have hnn := (rdU_len (k := (st.getD []).length) hN (by rintro l rfl; exact Nat.le_refl _)).2
    refine o_nil (n_then (c_no rfl (c_skip (n_then (c_seq ?_)))))
    rcases Nat.mod_two_eq_zero_or_one n with hm | hm
    · refine c_region (o_move rfl rfl (o_bin rfl rfl rfl (r_shr_u64 1 (by omega)) (o_conv rfl rfl (r_half Try.underlying31 Try.underlying3 hnn) (o_move rfl rfl ?_))))
      refine o_bin (v := U64 1) rfl rfl rfl (r_and_u64) (o_conv rfl rfl (r_low0 Try.underlying31 Try.underlying3 hm) (o_not rfl rfl (r_neg_i (by omega) (by omega)) ?_))
      refine o_bin rfl rfl rfl (r_xor_0 (by omega)) (o_assign rfl rfl (o_assign rfl rfl (o_nil (n_then (c_ret (r_body2 rfl rfl rfl ?_))))))
      exact ⟨_, rfl, x8, congrArg (fun z => Value.tuple #[I z, I 0]) (show _ = uz n by unfold uz; rw [if_pos hm]), hr1⟩
    · refine c_region (o_move rfl rfl (o_bin rfl rfl rfl (r_shr_u64 1 (by omega)) (o_conv rfl rfl (r_half Try.underlying31 Try.underlying3 hnn) (o_move rfl rfl ?_))))
      refine o_bin (v := U64 1) rfl rfl rfl (r_and_u64) (o_conv rfl rfl (r_low1 Try.underlying31 Try.underlying3 hm) (o_not rfl rfl (r_neg_i (by omega) (by omega)) ?_))
      refine o_bin rfl rfl rfl (r_xor_1 (by omega)) (o_assign rfl rfl (o_assign rfl rfl (o_nil (n_then (c_ret (r_body2 rfl rfl rfl ?_))))))
      exact ⟨_, rfl, x8, congrArg (fun z => Value.tuple #[I z, I 0]) (show _ = uz n by unfold uz; rw [if_neg (by omega)]), hr1⟩
theorem rdR_nil : rdR [] = none := rfl
theorem rdR_big {c : UInt8} {l : List UInt8} (h : 1 < c.toNat) : rdR (c :: l) = none := if_pos h
theorem rdR_n0 {c : UInt8} {l : List UInt8} (h : rdN l = none) : rdR (c :: l) = none := by
  show (if 1 < c.toNat then none else _) = none
  split
  · rfl
  · rw [h]; rfl
theorem rdR_n1 {c : UInt8} {l t : List UInt8} {m : List UInt32} (h1 : ¬ 1 < c.toNat) (h : rdN l = some (m, t)) : rdR (c :: l) = (rdN t).bind fun q => if rv (decide (c.toNat = 1)) m q.1 = true then some ((decide (c.toNat = 1), m, q.1), q.2) else none := by
  show (if 1 < c.toNat then none else _) = _
  rw [if_neg h1, h]; rfl
def RatE (g : Nat) (w : World) (o : Option ((Bool × List UInt32 × List UInt32) × List UInt8)) (r : Value) (w' : World) : Prop :=
  w.grownBy w' (some g) ∧ match o with
    | some (q, t) => ∃ v, r = .tuple #[v, I 0] ∧ RatV q.1 q.2.1 q.2.2 v w' ∧ RdAt g (some t) w'
    | none => ∃ v, r = .tuple #[v, I 5] ∧ RatV false [] [] v w' ∧ RdAt g none w'
theorem RdAt.lt {w : World} {g : Nat} {st : Option (List UInt8)} (h : RdAt g st w) : g < w.heap.size := by
  obtain ⟨A, n, c, h1, _⟩ := h
  exact Blk.lt h1
theorem u8_one {c : UInt8} : c.toNat = 1 ↔ c = 1 := by
  rw [← UInt8.toNat_inj, show (1 : UInt8).toNat = 1 from rfl]
theorem RRat_spec {w : World} {g : Nat} {st : Option (List UInt8)} (hr : RdAt g st w) (hl : ∀ l, st = some l → l.length ≤ 549755813888) :
    Calls Try.prog 29 #[.pointer (some ⟨g, 0, none⟩)] w (Ret (RatE g w (st.bind rdR))) := by
  refine enter (vs := [.pointer (some ⟨g, 0, none⟩)]) Try.func29 rfl rfl rfl ?_
  have hglt := hr.lt
  refine c_seq (c_region ?_)
  obtain ⟨g2, w2, hr2, l2, x2, k2⟩ := r_allocR (w := w)
  refine o_alloc rfl hr2 (o_assign rfl rfl (o_nil (n_then (c_seq (c_seq (c_region (o_move rfl rfl (o_bin rfl rfl rfl (r_eqnilp Try.underlying43) (o_nil (n_then (c_no rfl ?_)))))))))))
  refine c_skip (n_then (c_seq ?_))
  have rr := hr.ext x2
  have kk := k2
  have gg : w.grownBy w2 (some g) := grownBy_of_ext x2
  have hne : some g2 ≠ some g := fun h => by have := Option.some.inj h; omega
  have hne' : g ≠ g2 := by omega
  rcases st with _ | (_ | ⟨c, l⟩)
  · have hR : (none : Option (List UInt8)).bind rdR = none := rfl
    refine c_region (o_move rfl rfl (o_call call_take rfl rfl ((take_failed (n := 1) rr)) ?_))
    rintro v14 _ ⟨rfl, rfl⟩
    refine o_move rfl rfl (o_extract rfl rfl (r_ext0) (o_extract rfl rfl (r_ext1) (o_assign rfl rfl (o_assign rfl rfl (o_nil (n_then (c_seq (c_seq (c_region (o_move rfl rfl (o_not rfl rfl r_not ?_)))))))))))
    refine o_move rfl rfl (g_no rfl rfl rfl (g_no rfl rfl rfl (g_no rfl rfl rfl (g_no rfl rfl rfl (o_pick_t rfl rfl rfl (o_nil (n_then (c_yes rfl (c_seq (c_region ?_))))))))))
    refine o_build (vs := []) rfl rfl r_buildR0 ?_
    refine o_move rfl rfl (o_call call_fail rfl rfl (fail_spec rr) ?_)
    rintro v27 w27 ⟨rfl, rs, g27⟩
    have m27 := (rr.rdT).kp g27
    have gg := gg.trans g27
    have kk := kk.other g27 hne
    have rr := rs
    obtain ⟨p, q, w3, hp, hs3, q3, k3, n3, d3⟩ := kk.stR ⟨_, _, _, rfl⟩ ⟨_, _, _, rfl⟩ (RatV.mk (b := false) (Wds.nil _) (Wds.nil _))
    refine o_store rfl rfl (hs3) (o_assign rfl rfl (o_nil (n_then (c_ret (r_then ?_)))))
    refine r_bodyc2 rfl rfl rfl k3 Try.underlying35 rfl size_Rat ?_
    exact ⟨_, rfl, gb_new gg q3 l2, by rw [hR]; exact ⟨_, rfl, ⟨p, q, rfl, n3, d3⟩, (rr.rdT.off (kk.kpR ⟨_, _, _, rfl⟩ ⟨_, _, _, rfl⟩ q3) q3 hne').rdAt⟩⟩
  · have hR : (some []).bind rdR = none := rfl
    refine c_region (o_move rfl rfl (o_call call_take rfl rfl ((take_no (n := 1) rr (by decide))) ?_))
    rintro v14 _ ⟨rfl, rfl⟩
    refine o_move rfl rfl (o_extract rfl rfl (r_ext0) (o_extract rfl rfl (r_ext1) (o_assign rfl rfl (o_assign rfl rfl (o_nil (n_then (c_seq (c_seq (c_region (o_move rfl rfl (o_not rfl rfl r_not ?_)))))))))))
    refine o_move rfl rfl (g_no rfl rfl rfl (g_no rfl rfl rfl (g_no rfl rfl rfl (g_no rfl rfl rfl (o_pick_t rfl rfl rfl (o_nil (n_then (c_yes rfl (c_seq (c_region ?_))))))))))
    refine o_build (vs := []) rfl rfl r_buildR0 ?_
    refine o_move rfl rfl (o_call call_fail rfl rfl (fail_spec rr) ?_)
    rintro v27 w27 ⟨rfl, rs, g27⟩
    have m27 := (rr.rdT).kp g27
    have gg := gg.trans g27
    have kk := kk.other g27 hne
    have rr := rs
    obtain ⟨p, q, w3, hp, hs3, q3, k3, n3, d3⟩ := kk.stR ⟨_, _, _, rfl⟩ ⟨_, _, _, rfl⟩ (RatV.mk (b := false) (Wds.nil _) (Wds.nil _))
    refine o_store rfl rfl (hs3) (o_assign rfl rfl (o_nil (n_then (c_ret (r_then ?_)))))
    refine r_bodyc2 rfl rfl rfl k3 Try.underlying35 rfl size_Rat ?_
    exact ⟨_, rfl, gb_new gg q3 l2, by rw [hR]; exact ⟨_, rfl, ⟨p, q, rfl, n3, d3⟩, (rr.rdT.off (kk.kpR ⟨_, _, _, rfl⟩ ⟨_, _, _, rfl⟩ q3) q3 hne').rdAt⟩⟩
  · refine c_region (o_move rfl rfl (o_call call_take rfl rfl ((take_yes (n := 1) rr (by simp))) ?_))
    rintro v14 w14 ⟨b14, rfl, hb, rs, g14⟩
    have m14 := (rr.rdT).kp g14
    have gg := gg.trans g14
    have kk := kk.other g14 hne
    have rr : RdAt g (some l) w14 := rs
    have hb : Bts [c] b14 w14 := hb
    refine o_move rfl rfl (o_extract rfl rfl (r_ext0) (o_extract rfl rfl (r_ext1) (o_assign rfl rfl (o_assign rfl rfl (o_nil (n_then (c_seq (c_seq (c_region (o_move rfl rfl (o_not rfl rfl r_not ?_)))))))))))
    refine o_move rfl rfl (g_yes rfl (o_move rfl rfl (g_yes rfl ?_)))
    obtain ⟨a21, p21, q21⟩ := r_ixB hb (i := 0) (by simp) .i64
    refine o_indexAddr rfl rfl rfl (p21 _) (g_yes rfl (o_load rfl rfl (r_load1 Try.underlying5 rfl q21) (g_yes rfl (o_bin (v := U8 1) rfl rfl rfl (r_gtr_u8) (o_pick_f rfl rfl rfl ?_)))))
    refine o_nil (n_then ?_)
    refine c_if rfl (fun h24 => ?_) (fun h24 => ?_)
    · have hc : 1 < c.toNat := by have := UInt8.lt_iff_toNat_lt.1 h24; simpa using this
      have hR : (some (c :: l)).bind rdR = none := rdR_big hc
      refine c_seq (c_region ?_)
      refine o_build (vs := []) rfl rfl r_buildR0 ?_
      refine o_move rfl rfl (o_call call_fail rfl rfl (fail_spec rr) ?_)
      rintro v27 w27 ⟨rfl, rs, g27⟩
      have m27 := (rr.rdT).kp g27
      have gg := gg.trans g27
      have kk := kk.other g27 hne
      have rr := rs
      obtain ⟨p, q, w3, hp, hs3, q3, k3, n3, d3⟩ := kk.stR ⟨_, _, _, rfl⟩ ⟨_, _, _, rfl⟩ (RatV.mk (b := false) (Wds.nil _) (Wds.nil _))
      refine o_store rfl rfl (hs3) (o_assign rfl rfl (o_nil (n_then (c_ret (r_then ?_)))))
      refine r_bodyc2 rfl rfl rfl k3 Try.underlying35 rfl size_Rat ?_
      exact ⟨_, rfl, gb_new gg q3 l2, by rw [hR]; exact ⟨_, rfl, ⟨p, q, rfl, n3, d3⟩, (rr.rdT.off (kk.kpR ⟨_, _, _, rfl⟩ ⟨_, _, _, rfl⟩ q3) q3 hne').rdAt⟩⟩
    · have hc : ¬ 1 < c.toNat := fun hh => h24 (UInt8.lt_iff_toNat_lt.2 (by simpa using hh))
      have hl1 : ∀ l', some l = some l' → l'.length ≤ 549755813888 := fun l' e => by
        have := hl _ rfl
        cases e
        simp at this; omega
      refine c_skip (n_then (c_seq ?_))
      rcases hN : rdN l with _ | ⟨m, t⟩
      · have hR : (some (c :: l)).bind rdR = none := rdR_n0 hN
        refine c_region (o_move rfl rfl (o_call call_rnat rfl rfl ((rnat_none (st := some l) rr hl1 hN)) ?_))
        rintro v30 w30 ⟨g30, v0, rfl, _, _, rs⟩
        have m30 := (rr.rdT).kp g30
        have gg := gg.trans g30
        have kk := kk.other g30 hne
        have rr := rs
        refine o_move rfl rfl (o_extract rfl rfl (r_ext0) (o_extract rfl rfl (r_ext1) (o_assign rfl rfl (o_assign rfl rfl (o_nil (n_then (c_seq (c_seq (c_region (o_move rfl rfl (o_not rfl rfl r_not ?_)))))))))))
        refine o_nil (n_then (c_yes rfl (c_seq (c_region ?_))))
        refine o_build (vs := []) rfl rfl r_buildR0 ?_
        refine o_move rfl rfl (o_call call_fail rfl rfl (fail_spec rr) ?_)
        rintro v37 w37 ⟨rfl, rs, g37⟩
        have m37 := (rr.rdT).kp g37
        have gg := gg.trans g37
        have kk := kk.other g37 hne
        have rr := rs
        obtain ⟨p, q, w3, hp, hs3, q3, k3, n3, d3⟩ := kk.stR ⟨_, _, _, rfl⟩ ⟨_, _, _, rfl⟩ (RatV.mk (b := false) (Wds.nil _) (Wds.nil _))
        refine o_store rfl rfl (hs3) (o_assign rfl rfl (o_nil (n_then (c_ret (r_then ?_)))))
        refine r_bodyc2 rfl rfl rfl k3 Try.underlying35 rfl size_Rat ?_
        exact ⟨_, rfl, gb_new gg q3 l2, by rw [hR]; exact ⟨_, rfl, ⟨p, q, rfl, n3, d3⟩, (rr.rdT.off (kk.kpR ⟨_, _, _, rfl⟩ ⟨_, _, _, rfl⟩ q3) q3 hne').rdAt⟩⟩
      · refine c_region (o_move rfl rfl (o_call call_rnat rfl rfl ((rnat_some (st := some l) rr hl1 hN)) ?_))
        rintro v30 w30 ⟨g30, v0, rfl, h0, rs⟩
        have m30 := (rr.rdT).kp g30
        have gg := gg.trans g30
        have kk := kk.other g30 hne
        have rr := rs
        refine o_move rfl rfl (o_extract rfl rfl (r_ext0) (o_extract rfl rfl (r_ext1) (o_assign rfl rfl (o_assign rfl rfl (o_nil (n_then (c_seq (c_seq (c_region (o_move rfl rfl (o_not rfl rfl r_not ?_)))))))))))
        refine o_nil (n_then (c_no rfl (c_skip (n_then (c_seq ?_)))))
        have hl2 : ∀ l', some t = some l' → l'.length ≤ 549755813888 := fun l' e => by
          cases e
          have h1 := (rdN_inv hN).1
          have := hl1 _ rfl
          rw [h1, List.length_append] at this
          omega
        obtain ⟨s, hs⟩ : ∃ s, s = decide (c.toNat = 1) := ⟨_, rfl⟩
        have hcs : s = decide (([c] : List UInt8)[0]'(Nat.zero_lt_one) = (1 : UInt8)) := by
          rw [hs]
          exact decide_eq_decide.2 ⟨fun h => u8_one.1 h, fun h => u8_one.2 h⟩
        have hR1 := rdR_n1 hc hN
        rw [← hs] at hR1
        rcases hM : rdN t with _ | ⟨m', t'⟩
        rotate_left
        rcases hV : rv s m m'
        · have hR : (some (c :: l)).bind rdR = none := by
            show rdR (c :: l) = none
            rw [hR1, hM]
            exact if_neg (by rw [hV]; simp)
          refine c_region (o_move rfl rfl (o_call call_rnat rfl rfl ((rnat_some (st := some t) rr hl2 hM)) ?_))
          rintro v40 w40 ⟨g40, v1, rfl, h1, rs⟩
          have m40 := (rr.rdT).kp g40
          have gg := gg.trans g40
          have kk := kk.other g40 hne
          have rr := rs
          refine o_move rfl rfl (o_extract rfl rfl (r_ext0) (o_extract rfl rfl (r_ext1) (o_assign rfl rfl (o_assign rfl rfl (o_nil (n_then (c_seq (c_region (o_move rfl rfl ?_)))))))))
          obtain ⟨a44, p44, q44⟩ := r_ixB (hb.kp (m30.trans m40)) (i := 0) (by simp) .i64
          refine o_indexAddr rfl rfl rfl (p44 _) (o_load rfl rfl (r_load1 Try.underlying5 rfl q44) (o_bin (v := U8 1) (r := B s) rfl rfl rfl ((by rw [hcs]; exact r_eql_u8)) ?_))
          refine o_move rfl rfl (o_move rfl rfl ?_)
          refine o_build (vs := [(0, B s), (1, v0), (2, v1)]) rfl rfl (r_buildR h0.isS h1.isS) ?_
          obtain ⟨g8, w8, hr8, l8, x8, k8⟩ := r_allocR (w := w40)
          refine o_alloc rfl hr8 ?_
          obtain ⟨p, q, w4, hp, hs4, q4, k4, n4, d4⟩ := k8.stR ⟨_, _, _, rfl⟩ ⟨_, _, _, rfl⟩ (RatV.mk (b := s) ((h0.kp m40).ext x8) (h1.ext x8))
          refine o_store rfl rfl (hs4) ?_
          have x4 := x8.of_new q4 l8
          have rr := rr.ext x4
          have kk := kk.ext x4
          have gg := gg.trans (grownBy_of_ext x4)
          have hml : m.length ≤ 137438953472 := by
            have := hl1 _ rfl
            rw [(rdN_inv hN).1, List.length_append, encN, List.length_append, le4s_len] at this
            omega
          refine o_nil (n_then (c_seq (c_seq (c_region (o_move rfl rfl (o_not rfl rfl r_not (o_move rfl rfl (g_yes rfl (o_load rfl rfl (k4.ldR) (g_yes rfl ?_))))))))))
          have hml' : m'.length ≤ 137438953472 := by
            have := hl2 _ rfl
            rw [(rdN_inv hM).1, List.length_append, encN, List.length_append, le4s_len] at this
            omega
          refine o_call call_QValid rfl rfl ((by have := QValid_spec (b := s) (RatV.mk n4 d4) hml hml'; rw [hV] at this; exact this)) ?_
          rintro v54 w54 ⟨x54, rfl⟩
          have rr := rr.ext x54
          have kk := kk.ext x54
          have gg := gg.trans (grownBy_of_ext x54)
          refine g_yes rfl (o_not rfl rfl r_not (o_pick_f rfl rfl rfl (o_nil (n_then (c_yes rfl (c_seq (c_region ?_)))))))
          refine o_build (vs := []) rfl rfl r_buildR0 ?_
          refine o_move rfl rfl (o_call call_fail rfl rfl (fail_spec rr) ?_)
          rintro v59 w59 ⟨rfl, rs, g59⟩
          have m59 := (rr.rdT).kp g59
          have gg := gg.trans g59
          have kk := kk.other g59 hne
          have rr := rs
          obtain ⟨p, q, w3, hp, hs3, q3, k3, n3, d3⟩ := kk.stR ⟨_, _, _, rfl⟩ ⟨_, _, _, rfl⟩ (RatV.mk (b := false) (Wds.nil _) (Wds.nil _))
          refine o_store rfl rfl (hs3) (o_assign rfl rfl (o_nil (n_then (c_ret (r_then ?_)))))
          refine r_bodyc2 rfl rfl rfl k3 Try.underlying35 rfl size_Rat ?_
          exact ⟨_, rfl, gb_new gg q3 l2, by rw [hR]; exact ⟨_, rfl, ⟨p, q, rfl, n3, d3⟩, (rr.rdT.off (kk.kpR ⟨_, _, _, rfl⟩ ⟨_, _, _, rfl⟩ q3) q3 hne').rdAt⟩⟩
        · have hR : (some (c :: l)).bind rdR = some ((s, m, m'), t') := by
            show rdR (c :: l) = _
            rw [hR1, hM]
            exact if_pos hV
          refine c_region (o_move rfl rfl (o_call call_rnat rfl rfl ((rnat_some (st := some t) rr hl2 hM)) ?_))
          rintro v40 w40 ⟨g40, v1, rfl, h1, rs⟩
          have m40 := (rr.rdT).kp g40
          have gg := gg.trans g40
          have kk := kk.other g40 hne
          have rr := rs
          refine o_move rfl rfl (o_extract rfl rfl (r_ext0) (o_extract rfl rfl (r_ext1) (o_assign rfl rfl (o_assign rfl rfl (o_nil (n_then (c_seq (c_region (o_move rfl rfl ?_)))))))))
          obtain ⟨a44, p44, q44⟩ := r_ixB (hb.kp (m30.trans m40)) (i := 0) (by simp) .i64
          refine o_indexAddr rfl rfl rfl (p44 _) (o_load rfl rfl (r_load1 Try.underlying5 rfl q44) (o_bin (v := U8 1) (r := B s) rfl rfl rfl ((by rw [hcs]; exact r_eql_u8)) ?_))
          refine o_move rfl rfl (o_move rfl rfl ?_)
          refine o_build (vs := [(0, B s), (1, v0), (2, v1)]) rfl rfl (r_buildR h0.isS h1.isS) ?_
          obtain ⟨g8, w8, hr8, l8, x8, k8⟩ := r_allocR (w := w40)
          refine o_alloc rfl hr8 ?_
          obtain ⟨p, q, w4, hp, hs4, q4, k4, n4, d4⟩ := k8.stR ⟨_, _, _, rfl⟩ ⟨_, _, _, rfl⟩ (RatV.mk (b := s) ((h0.kp m40).ext x8) (h1.ext x8))
          refine o_store rfl rfl (hs4) ?_
          have x4 := x8.of_new q4 l8
          have rr := rr.ext x4
          have kk := kk.ext x4
          have gg := gg.trans (grownBy_of_ext x4)
          have hml : m.length ≤ 137438953472 := by
            have := hl1 _ rfl
            rw [(rdN_inv hN).1, List.length_append, encN, List.length_append, le4s_len] at this
            omega
          refine o_nil (n_then (c_seq (c_seq (c_region (o_move rfl rfl (o_not rfl rfl r_not (o_move rfl rfl (g_yes rfl (o_load rfl rfl (k4.ldR) (g_yes rfl ?_))))))))))
          have hml' : m'.length ≤ 137438953472 := by
            have := hl2 _ rfl
            rw [(rdN_inv hM).1, List.length_append, encN, List.length_append, le4s_len] at this
            omega
          refine o_call call_QValid rfl rfl ((by have := QValid_spec (b := s) (RatV.mk n4 d4) hml hml'; rw [hV] at this; exact this)) ?_
          rintro v54 w54 ⟨x54, rfl⟩
          have rr := rr.ext x54
          have kk := kk.ext x54
          have gg := gg.trans (grownBy_of_ext x54)
          refine g_yes rfl (o_not rfl rfl r_not (o_pick_f rfl rfl rfl (o_nil (n_then (c_no rfl (c_skip (n_then (c_seq (c_region (o_load rfl rfl ((k4.ext x54).ldR) ?_))))))))))
          obtain ⟨p, q, w3, hp, hs3, q3, k3, n3, d3⟩ := kk.stR ⟨_, _, _, rfl⟩ ⟨_, _, _, rfl⟩ ((RatV.mk n4 d4).ext x54)
          refine o_store rfl rfl (hs3) (o_assign rfl rfl (o_nil (n_then (c_ret ?_))))
          refine r_bodyc2 rfl rfl rfl k3 Try.underlying35 rfl size_Rat ?_
          exact ⟨_, rfl, gb_new gg q3 l2, by rw [hR]; exact ⟨_, rfl, ⟨p, q, rfl, n3, d3⟩, (rr.rdT.off (kk.kpR ⟨_, _, _, rfl⟩ ⟨_, _, _, rfl⟩ q3) q3 hne').rdAt⟩⟩
        · have hR : (some (c :: l)).bind rdR = none := by
            show rdR (c :: l) = none
            rw [hR1, hM]; rfl
          refine c_region (o_move rfl rfl (o_call call_rnat rfl rfl ((rnat_none (st := some t) rr hl2 hM)) ?_))
          rintro v40 w40 ⟨g40, v1, rfl, ⟨m', h1⟩, _, rs⟩
          have m40 := (rr.rdT).kp g40
          have gg := gg.trans g40
          have kk := kk.other g40 hne
          have rr := rs
          refine o_move rfl rfl (o_extract rfl rfl (r_ext0) (o_extract rfl rfl (r_ext1) (o_assign rfl rfl (o_assign rfl rfl (o_nil (n_then (c_seq (c_region (o_move rfl rfl ?_)))))))))
          obtain ⟨a44, p44, q44⟩ := r_ixB (hb.kp (m30.trans m40)) (i := 0) (by simp) .i64
          refine o_indexAddr rfl rfl rfl (p44 _) (o_load rfl rfl (r_load1 Try.underlying5 rfl q44) (o_bin (v := U8 1) (r := B s) rfl rfl rfl ((by rw [hcs]; exact r_eql_u8)) ?_))
          refine o_move rfl rfl (o_move rfl rfl ?_)
          refine o_build (vs := [(0, B s), (1, v0), (2, v1)]) rfl rfl (r_buildR h0.isS h1.isS) ?_
          obtain ⟨g8, w8, hr8, l8, x8, k8⟩ := r_allocR (w := w40)
          refine o_alloc rfl hr8 ?_
          obtain ⟨p, q, w4, hp, hs4, q4, k4, n4, d4⟩ := k8.stR ⟨_, _, _, rfl⟩ ⟨_, _, _, rfl⟩ (RatV.mk (b := s) ((h0.kp m40).ext x8) (h1.ext x8))
          refine o_store rfl rfl (hs4) ?_
          have x4 := x8.of_new q4 l8
          have rr := rr.ext x4
          have kk := kk.ext x4
          have gg := gg.trans (grownBy_of_ext x4)
          have hml : m.length ≤ 137438953472 := by
            have := hl1 _ rfl
            rw [(rdN_inv hN).1, List.length_append, encN, List.length_append, le4s_len] at this
            omega
          refine o_nil (n_then (c_seq (c_seq (c_region (o_move rfl rfl (o_not rfl rfl r_not (o_move rfl rfl (g_no rfl rfl rfl (g_no rfl rfl rfl (g_no rfl rfl rfl (o_pick_t rfl rfl rfl (o_nil (n_then ?_)))))))))))))
          refine c_yes rfl (c_seq (c_region ?_))
          refine o_build (vs := []) rfl rfl r_buildR0 ?_
          refine o_move rfl rfl (o_call call_fail rfl rfl (fail_spec rr) ?_)
          rintro v59 w59 ⟨rfl, rs, g59⟩
          have m59 := (rr.rdT).kp g59
          have gg := gg.trans g59
          have kk := kk.other g59 hne
          have rr := rs
          obtain ⟨p, q, w3, hp, hs3, q3, k3, n3, d3⟩ := kk.stR ⟨_, _, _, rfl⟩ ⟨_, _, _, rfl⟩ (RatV.mk (b := false) (Wds.nil _) (Wds.nil _))
          refine o_store rfl rfl (hs3) (o_assign rfl rfl (o_nil (n_then (c_ret (r_then ?_)))))
          refine r_bodyc2 rfl rfl rfl k3 Try.underlying35 rfl size_Rat ?_
          exact ⟨_, rfl, gb_new gg q3 l2, by rw [hR]; exact ⟨_, rfl, ⟨p, q, rfl, n3, d3⟩, (rr.rdT.off (kk.kpR ⟨_, _, _, rfl⟩ ⟨_, _, _, rfl⟩ q3) q3 hne').rdAt⟩⟩
end Go.Rl


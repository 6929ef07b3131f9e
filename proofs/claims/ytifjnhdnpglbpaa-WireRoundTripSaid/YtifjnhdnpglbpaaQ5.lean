/- Walks of more of the reference's reader. Conditions: the bytes are not more than 2^39. -/
import Derived.Test.YtifjnhdnpglbpaaQ4
namespace Go.Rl
open Go.RowKit Go.Proofs
section
variable {w : World} {g : Nat}
theorem FUint_none {st : Option (List UInt8)} (hr : RfAt g st w) (h : st.bind rdU = none) : Calls Try.prog 46 #[.pointer (some ⟨g, 0, none⟩)] w (Ret fun r w' => w.grownBy w' (some g) ∧ r = .tuple #[U64 0, I 5] ∧ RfAt g none w') := by
  have := FUint_spec hr
  rw [h] at this
  exact this
theorem FUint_some {st : Option (List UInt8)} {n : Nat} {t : List UInt8} (hr : RfAt g st w) (h : st.bind rdU = some (n, t)) : Calls Try.prog 46 #[.pointer (some ⟨g, 0, none⟩)] w (Ret fun r w' => w.grownBy w' (some g) ∧ r = .tuple #[U64 (UInt64.ofNat n), I 0] ∧ RfAt g (some t) w') := by
  have := FUint_spec hr
  rw [h] at this
  exact this
end
theorem gb_own {w w1 w2 : World} {row row2 : Option Nat} (h : w.grownBy w1 row) (q : w1.grownBy w2 row2) (hg : ∀ k, row2 = some k → w.heap.size ≤ k) : w.grownBy w2 row :=
  ⟨q.os.trans h.os, q.tape.trans h.tape, q.output.trans h.output, Nat.le_trans h.size q.size, fun i hi hne => (q.block i (Nat.lt_of_lt_of_le hi h.size) (fun e => by have := hg i e.symm; omega)).trans (h.block i hi hne)⟩
theorem OwnW.ge' {base : Nat} {l : List UInt32} {v : Value} {w : World} (h : OwnW base l v w) : ∀ k, v.ownBlock = some k → base ≤ k := fun k hk => h.elim fun _ h => (World.ownsRow.lt h k hk).1
theorem r_u64_n {P : Program} {w : World} {s d : TypeId} {n : Nat} (hs : P.underlying s = some (.int .u64)) (hd : P.underlying d = some (.int .i64)) (hn : n < 9223372036854775808) : (convert s d (U64 (UInt64.ofNat n))).run P w = .ok (I (n : Int)) w := by
  have e : (UInt64.ofNat n).toNat = n := by rw [UInt64.toNat_ofNat']; omega
  have := r_u64_i (P := P) (w := w) hs hd (a := UInt64.ofNat n) (by omega)
  rwa [e] at this
theorem r_half2 {P : Program} {w : World} {s d : TypeId} {n : Nat} (hs : P.underlying s = some (.int .u64)) (hd : P.underlying d = some (.int .i64)) (hn : n < 18446744073709551616) : (convert s d (U64 (UInt64.ofNat n / 2))).run P w = .ok (I ((n / 2 : Nat) : Int)) w := by
  have e : (UInt64.ofNat n / 2).toNat = n / 2 := by
    rw [UInt64.toNat_div, UInt64.toNat_ofNat', show (2 : UInt64).toNat = 2 from rfl]; omega
  have := r_u64_i (P := P) (w := w) hs hd (a := UInt64.ofNat n / 2) (by omega)
  rwa [e] at this
theorem odd_n {n : Nat} : UInt64.ofNat n % 2 = 1 ↔ n % 2 = 1 := by
  rw [← UInt64.toNat_inj, UInt64.toNat_mod, UInt64.toNat_ofNat', show (2 : UInt64).toNat = 2 from rfl, show (1 : UInt64).toNat = 1 from rfl]
  omega
def FIntR (g : Nat) (w : World) (o : Option (Nat × List UInt8)) (r : Value) (w' : World) : Prop :=
  w.grownBy w' (some g) ∧ match o with
    | some (n, t) => r = .tuple #[I (uz n), I 0] ∧ RfAt g (some t) w'
    | none => r = .tuple #[I 0, I 5] ∧ RfAt g none w'
theorem FInt_spec {w : World} {g : Nat} {st : Option (List UInt8)} (hr : RfAt g st w) :
    Calls Try.prog 58 #[.pointer (some ⟨g, 0, none⟩)] w (Ret (FIntR g w (st.bind rdU))) := by
  refine enter (vs := [.pointer (some ⟨g, 0, none⟩)]) Try.func58 rfl rfl rfl ?_
  refine c_seq (c_region (o_assign rfl rfl (o_assign rfl rfl (o_nil (n_then (c_seq ?_))))))
  rcases hN : st.bind rdU with _ | ⟨n, t⟩
  · refine c_region (o_move rfl rfl (o_call call_FUint rfl rfl (FUint_none hr hN) ?_))
    rintro v8 w8 ⟨x8, rfl, hr1⟩
    have m8 := RdT.kp hr x8
    refine o_move rfl rfl (o_extract rfl rfl (r_ext0) (o_extract rfl rfl (r_ext1) (o_assign rfl rfl (o_assign rfl rfl (o_nil (n_then (c_seq (c_seq (c_region (o_move rfl rfl (o_bin (v := U64 2) rfl rfl rfl (r_rem_u64 (by decide)) ?_)))))))))))
    refine o_bin (v := U64 1) rfl rfl rfl (dec_f (by decide) r_eql_u64) (o_nil (n_then (c_no rfl (c_skip (n_then (c_seq (c_region (o_move rfl rfl (o_bin (v := U64 2) rfl rfl rfl (r_quo_u64 (by decide)) ?_)))))))))
    refine o_conv rfl rfl (r_u64_i Try.underlying31 Try.underlying3 (by decide)) ?_
    refine o_move rfl rfl (o_assign rfl rfl (o_assign rfl rfl (o_nil (n_then (c_ret (r_body2 rfl rfl rfl ?_))))))
    exact ⟨_, rfl, x8, rfl, hr1⟩
  · have hnn := (rdU_len (k := (st.getD []).length) hN (by rintro l rfl; exact Nat.le_refl _)).2
    refine c_region (o_move rfl rfl (o_call call_FUint rfl rfl (FUint_some hr hN) ?_))
    rintro v8 w8 ⟨x8, rfl, hr1⟩
    have m8 := RdT.kp hr x8
    refine o_move rfl rfl (o_extract rfl rfl (r_ext0) (o_extract rfl rfl (r_ext1) (o_assign rfl rfl (o_assign rfl rfl (o_nil (n_then (c_seq (c_seq (c_region (o_move rfl rfl (o_bin (v := U64 2) rfl rfl rfl (r_rem_u64 (by decide)) ?_)))))))))))
    refine o_bin (v := U64 1) rfl rfl rfl (r_eql_u64) (o_nil (n_then ?_))
    refine c_if rfl (fun h13 => ?_) (fun h13 => ?_)
    · refine c_seq (c_region (o_move rfl rfl (o_bin (v := U64 2) rfl rfl rfl (r_quo_u64 (by decide)) (o_conv rfl rfl (r_half2 Try.underlying31 Try.underlying3 hnn) ?_))))
      refine o_not rfl rfl (r_neg_i (by omega) (by omega)) (o_bin rfl rfl rfl (r_sub_i (by omega) (by omega)) (o_move rfl rfl (o_assign rfl rfl (o_assign rfl rfl (o_nil (n_then ?_))))))
      refine c_ret (r_then (r_body2 rfl rfl rfl ?_))
      exact ⟨_, rfl, x8, congrArg (fun z => Value.tuple #[I z, I 0]) (show _ = uz n by
        unfold uz
        first
        | (have := odd_n.1 h13; rw [if_neg (by omega)])
        | (have := mt odd_n.2 h13; rw [if_pos (by omega)])), hr1⟩
    · refine c_skip (n_then (c_seq (c_region (o_move rfl rfl (o_bin (v := U64 2) rfl rfl rfl (r_quo_u64 (by decide)) (o_conv rfl rfl (r_half2 Try.underlying31 Try.underlying3 hnn) ?_))))))
      refine o_move rfl rfl (o_assign rfl rfl (o_assign rfl rfl (o_nil (n_then (c_ret (r_body2 rfl rfl rfl ?_))))))
      exact ⟨_, rfl, x8, congrArg (fun z => Value.tuple #[I z, I 0]) (show _ = uz n by
        unfold uz
        first
        | (have := odd_n.1 h13; rw [if_neg (by omega)])
        | (have := mt odd_n.2 h13; rw [if_pos (by omega)])), hr1⟩
def FNatE (g : Nat) (w : World) (o : Option (List UInt32 × List UInt8)) (r : Value) (w' : World) : Prop :=
  w.grownBy w' (some g) ∧ match o with
    | some (m, t) => ∃ v, r = .tuple #[v, I 0] ∧ Wds m v w' ∧ RfAt g (some t) w'
    | none => r = .tuple #[.slice none 0 0, I 5] ∧ RfAt g none w'
theorem gtr_n {n m : Nat} (hn : n < 18446744073709551616) (hm : m < 18446744073709551616) : UInt64.ofNat n > UInt64.ofNat m ↔ m < n := by
  show UInt64.ofNat m < UInt64.ofNat n ↔ m < n
  rw [UInt64.lt_iff_toNat_lt, UInt64.toNat_ofNat', UInt64.toNat_ofNat']
  omega
theorem gtr_0 {n : Nat} (hn : n < 18446744073709551616) : UInt64.ofNat n > 0 ↔ 0 < n := gtr_n hn (by decide)
theorem FNat_spec {w : World} {g : Nat} {st : Option (List UInt8)} (hr : RfAt g st w) (hl : ∀ l, st = some l → l.length ≤ 549755813888) :
    Calls Try.prog 59 #[.pointer (some ⟨g, 0, none⟩)] w (Ret (FNatE g w (st.bind rdN))) := by
  refine enter (vs := [.pointer (some ⟨g, 0, none⟩)]) Try.func59 rfl rfl rfl ?_
  have hglt := hr.lt
  refine c_seq (c_region (o_assign rfl rfl (o_assign rfl rfl (o_nil (n_then (c_seq ?_))))))
  rcases hU : st.bind rdU with _ | ⟨n, t⟩
  · refine c_region (o_move rfl rfl (o_call call_FUint rfl rfl (FUint_none hr hU) ?_))
    rintro v10 w10 ⟨x10, rfl, hr1⟩
    have m10 := RdT.kp hr x10
    refine o_move rfl rfl (o_extract rfl rfl (r_ext0) (o_extract rfl rfl (r_ext1) (o_assign rfl rfl (o_assign rfl rfl (o_nil (n_then (c_seq (c_seq (c_region (o_move rfl rfl (o_bin rfl rfl rfl (dec_t (by decide) r_neq_i) ?_)))))))))))
    refine o_nil (n_then (c_yes rfl (c_seq (c_region (o_move rfl rfl (o_assign rfl rfl (o_assign rfl rfl (o_nil (n_then (c_ret (r_then (r_body2 rfl rfl rfl ?_))))))))))))
    exact ⟨_, rfl, x10, by rw [rdN_u0 hU]; exact ⟨rfl, hr1⟩⟩
  · obtain ⟨ht, hn⟩ := rdU_len hU hl
    refine c_region (o_move rfl rfl (o_call call_FUint rfl rfl (FUint_some hr hU) ?_))
    rintro v10 w10 ⟨x10, rfl, hr1⟩
    have m10 := RdT.kp hr x10
    refine o_move rfl rfl (o_extract rfl rfl (r_ext0) (o_extract rfl rfl (r_ext1) ?_))
    obtain ⟨A, n', c, k, b⟩ := id hr1
    have b : Bts t (.slice A n' c) w10 := b
    refine o_assign rfl rfl (o_assign rfl rfl (o_nil (n_then (c_seq (c_seq (c_region (o_move rfl rfl (o_bin rfl rfl rfl (dec_f (by decide) r_neq_i) (o_nil (n_then (c_no rfl (c_skip (n_then ?_)))))))))))))
    refine c_seq (c_seq (c_region (o_move rfl rfl (o_move rfl rfl (o_nilCheck rfl rfl (o_fieldAddr rfl rfl (r_fAt (o := 0) Try.underlying91 rfl (by kernel_rfl) rfl) ?_))))))
    refine o_load rfl rfl (r_load1 Try.underlying22 rfl (k.cell (i := 0) rfl)) (o_len rfl rfl (r_lenB b) (o_bin (r := I ((t.length / 4 : Nat) : Int)) rfl rfl rfl (by have e : ((t.length / 4 : Nat) : Int) = (t.length : Int) / 4 := (by omega); rw [e]; exact r_quo_i (by omega) (by omega) (by omega)) ?_))
    refine o_conv rfl rfl (r_n_u64 Try.underlying3 Try.underlying31) (o_bin rfl rfl rfl (r_gtr_u64) (o_nil (n_then ?_)))
    refine c_if rfl (fun h24 => ?_) (fun h24 => ?_)
    · have hlong : t.length / 4 < n := (gtr_n hn (by omega)).1 h24
      refine c_seq (c_region (o_move rfl rfl (o_call call_Ffail rfl rfl (Ffail_spec hr1) ?_)))
      rintro v26 w26 ⟨rfl, hr2, g26⟩
      have m26 := RdT.kp hr1 g26
      refine o_assign rfl rfl (o_assign rfl rfl (o_nil (n_then (c_ret (r_then (r_body2 rfl rfl rfl ?_))))))
      exact ⟨_, rfl, x10.trans g26, by rw [rdN_u1 hU, if_neg (by omega)]; exact ⟨rfl, hr2⟩⟩
    · have hle : n ≤ t.length / 4 := Nat.le_of_not_lt (mt (gtr_n hn (by omega)).2 h24)
      have hgb : g < w10.heap.size := RfAt.lt hr1
      refine c_skip (n_then (c_seq (c_region (o_assign rfl rfl (o_nil (n_then (c_seq (c_seq (c_region (o_assign rfl rfl (o_nil (n_then (c_block ?_)))))))))))))
      refine c_loop2 (fun (i : Nat) (u : Value) => [(0, .pointer (some ⟨g, 0, none⟩)), (4, U64 (UInt64.ofNat n)), (6, u), (7, I (i : Int))]) (fun (i : Nat) (u : Value) w' => w10.grownBy w' (some g) ∧ (∃ A n' c, Blk g 91 [.slice A n' c, B false] w' ∧ Bts (t.drop (4 * i)) (.slice A n' c) w10) ∧ OwnW w10.heap.size (unle4 (t.take (4 * i))) u w' ∧ i ≤ n) (fun (i : Nat) (u : Value) => n - i) (0) (.slice none 0 0) ⟨rfl, rfl, rfl, rfl, trivial⟩ ⟨grownBy_refl _ _, ⟨A, n', c, k, by simpa using b⟩, by simpa [unle4] using OwnW.nil _ _, by omega⟩ ?_
      rintro i u w8 ⟨g8, ⟨A, n', c, k8, b0⟩, o6, hi⟩
      refine c_seq (c_seq ?_)
      have b8 := b0.kp (RdT.kp hr1 g8)
      have hdl : (t.drop (4 * i)).length = t.length - 4 * i := by rw [List.length_drop]
      refine c_region (o_move rfl rfl (o_move rfl rfl (o_conv rfl rfl (r_u64_n Try.underlying31 Try.underlying3 (by omega)) (o_bin rfl rfl rfl (r_lss_i) (o_nil ?_)))))
      refine n_then ?_
      refine c_if rfl (fun h30 => ?_) (fun h30 => ?_)
      · refine c_skip (n_then (c_seq (c_block (c_seq (c_grow 36 [0, 4, 7, 33, 68] (by kernel_rfl) (by kernel_rfl) ?_)))))
        refine f_move rfl rfl (f_move rfl rfl (f_nilCheck rfl rfl (f_fieldAddr rfl rfl (fun w hw => r_fAt (o := 0) Try.underlying91 rfl (by kernel_rfl) rfl) ?_)))
        refine f_load rfl rfl (fun w hw => r_load1 Try.underlying22 rfl (hw.cell_some (k8.cell (i := 0) rfl))) ?_
        obtain ⟨a38, p38, q38⟩ := r_ixB b8 (i := 0) (by omega) .i64
        refine f_indexAddr rfl rfl rfl (fun w _ => p38 w) (f_load rfl rfl (fun w hw => r_load1 Try.underlying5 rfl (hw.cell_some q38)) (f_conv rfl rfl (fun w _ => r_u8_u32 Try.underlying5 Try.underlying79) ?_))
        refine f_move rfl rfl (f_nilCheck rfl rfl (f_fieldAddr rfl rfl (fun w hw => r_fAt (o := 0) Try.underlying91 rfl (by kernel_rfl) rfl) ?_))
        refine f_load rfl rfl (fun w hw => r_load1 Try.underlying22 rfl (hw.cell_some (k8.cell (i := 0) rfl))) ?_
        obtain ⟨a45, p45, q45⟩ := r_ixB b8 (i := 1) (by omega) .i64
        refine f_indexAddr rfl rfl rfl (fun w _ => p45 w) (f_load rfl rfl (fun w hw => r_load1 Try.underlying5 rfl (hw.cell_some q45)) (f_conv rfl rfl (fun w _ => r_u8_u32 Try.underlying5 Try.underlying79) ?_))
        refine f_bin (v := U32 256) rfl rfl rfl (fun w _ => r_mul_u32) (f_bin rfl rfl rfl (fun w _ => r_add_u32) (f_move rfl rfl (f_nilCheck rfl rfl (f_fieldAddr rfl rfl (fun w hw => r_fAt (o := 0) Try.underlying91 rfl (by kernel_rfl) rfl) ?_))))
        refine f_load rfl rfl (fun w hw => r_load1 Try.underlying22 rfl (hw.cell_some (k8.cell (i := 0) rfl))) ?_
        obtain ⟨a54, p54, q54⟩ := r_ixB b8 (i := 2) (by omega) .i64
        refine f_indexAddr rfl rfl rfl (fun w _ => p54 w) (f_load rfl rfl (fun w hw => r_load1 Try.underlying5 rfl (hw.cell_some q54)) (f_conv rfl rfl (fun w _ => r_u8_u32 Try.underlying5 Try.underlying79) ?_))
        refine f_bin (v := U32 65536) rfl rfl rfl (fun w _ => r_mul_u32) (f_bin rfl rfl rfl (fun w _ => r_add_u32) (f_move rfl rfl (f_nilCheck rfl rfl (f_fieldAddr rfl rfl (fun w hw => r_fAt (o := 0) Try.underlying91 rfl (by kernel_rfl) rfl) ?_))))
        refine f_load rfl rfl (fun w hw => r_load1 Try.underlying22 rfl (hw.cell_some (k8.cell (i := 0) rfl))) ?_
        obtain ⟨a63, p63, q63⟩ := r_ixB b8 (i := 3) (by omega) .i64
        refine f_indexAddr rfl rfl rfl (fun w _ => p63 w) (f_load rfl rfl (fun w hw => r_load1 Try.underlying5 rfl (hw.cell_some q63)) (f_conv rfl rfl (fun w _ => r_u8_u32 Try.underlying5 Try.underlying79) ?_))
        refine f_bin (v := U32 16777216) rfl rfl rfl (fun w _ => r_mul_u32) (f_bin rfl rfl rfl (fun w _ => r_add_u32) (f_buildSlice (S := Wds [w4 ((t.drop (4 * i))[0]'(by omega)) ((t.drop (4 * i))[1]'(by omega)) ((t.drop (4 * i))[2]'(by omega)) ((t.drop (4 * i))[3]'(by omega))]) (Wds.stable _) rfl (fun w' _ => by rintro _ rfl; obtain ⟨r, w2, h1, h2, h3, _⟩ := r_bsW Try.underlying33 (w := w') w'.heap.size [w4 ((t.drop (4 * i))[0]'(by omega)) ((t.drop (4 * i))[1]'(by omega)) ((t.drop (4 * i))[2]'(by omega)) ((t.drop (4 * i))[3]'(by omega))] (by simp) (Nat.le_refl _); rw [← w4_add] at h1; exact ⟨r, w2, h1, h2, h3.wds⟩) ?_))
        refine f_nil ?_
        intro wg10 xg10
        rintro _ rfl
        rintro _ rfl
        rintro _ rfl
        rintro _ hq33
        obtain rfl := Eq.symm hq33
        intro vg68 b68
        obtain ⟨v69, w69, hr69, o69, g69⟩ := r_appW Try.underlying33 (ty := 33) (o6.ext xg10) b68 (by have := unle4_len i (t.take (4 * i)) (by rw [List.length_take]; omega); simp; omega) (Nat.le_trans g8.size xg10.size)
        have gg := gb_own (g8.trans (gb_ext xg10)) g69.grown (fun k hk => o6.ge' k hk)
        have k69 := (k8.ext xg10).other g69.grown (fun e => by have := o6.ge' g e.symm; omega)
        refine o_append rfl rfl hr69 ?_
        refine o_assign rfl rfl (o_nil (n_then (c_region (o_move rfl rfl (o_move rfl rfl (o_nilCheck rfl rfl (o_fieldAddr rfl rfl (r_fAt (o := 0) Try.underlying91 rfl (by kernel_rfl) rfl) ?_)))))))
        refine o_load rfl rfl (r_load1 Try.underlying22 rfl (k69.cell (i := 0) rfl)) ?_
        obtain ⟨v75, p75, b75⟩ := r_slB_lo b0 (lo := 4) (by omega) .i64
        obtain ⟨A5, n5, c5, rfl, _⟩ := id b75
        refine o_slice rfl rfl rfl rfl rfl (p75 _) ?_
        refine o_nilCheck rfl rfl (o_fieldAddr rfl rfl (r_fAt (o := 0) Try.underlying91 rfl (by kernel_rfl) rfl) (o_store rfl rfl (r_store1 (i := 0) size_bytes rfl k69 (by simp)) ?_))
        have g11 := grownBy_setCell w69 g 0 (.slice A5 n5 c5)
        have o11 := o69.kept g11 (.inr (fun e => by have := o69.ge' g e; omega))
        refine o_nil (n_block (n_then (c_region (o_move rfl rfl (o_bin (r := I ((i + 1 : Nat) : Int)) rfl rfl rfl (by have e : ((i + 1 : Nat) : Int) = (i : Int) + 1 := (by omega); rw [e]; exact r_add_i (by omega) (by omega)) ?_)))))
        refine o_assign rfl rfl (o_nil ?_)
        refine n_round2 (i + 1) (v69) ⟨rfl, rfl, rfl, rfl, trivial⟩ ⟨gg.trans g11, ⟨A5, n5, c5, k69.set 0 _, by rw [List.drop_drop] at b75; exact b75⟩, by
          rw [unle4_next i t (by omega)]
          simp only [List.getElem_drop, Nat.add_zero] at o11
          exact o11, by omega⟩ (by omega)
      · refine c_exit (x_then (x_then (x_here (n_then (c_seq (c_seq ?_))))))
        have hin : i = n := by omega
        have r8 : RfAt g (some (t.drop (4 * i))) w8 := ⟨A, n', c, k8, b8⟩
        obtain ⟨bs, hbs⟩ : ∃ bs, bs = t.take (4 * i) := ⟨_, rfl⟩
        have hbs' : bs = t.take (4 * n) := by rw [hbs, hin]
        have hbl : bs.length = 4 * n := by rw [hbs', List.length_take]; omega
        have hns := unle4_len n bs hbl
        rw [← hbs] at o6
        have hnn : (UInt64.ofNat n).toNat = n := by rw [UInt64.toNat_ofNat']; omega
        refine c_region (o_move rfl rfl (o_bin (v := U64 0) rfl rfl rfl (r_gtr_u64) (o_move rfl rfl ?_)))
        refine o_dec (fun h80 => ?_) (fun h80 => ?_)
        · refine g_yes rfl (o_move rfl rfl (g_yes rfl (o_move rfl rfl (g_yes rfl (o_bin (v := U64 1) rfl rfl rfl (r_sub_u64) (g_yes rfl ?_))))))
          have hn0 : 0 < n := by
            rcases Nat.eq_zero_or_pos n with h | h
            · rw [h] at h80; exact absurd h80 (by decide)
            · exact h
          have hm1 : (UInt64.ofNat n - 1).toNat = n - 1 := by
            rw [UInt64.toNat_sub_of_le _ _ (UInt64.le_iff_toNat_le.2 (by rw [hnn]; exact hn0)), hnn]; rfl
          obtain ⟨a84, p84, q84⟩ := r_ixW Try.underlying33 o6.wds (i := (UInt64.ofNat n - 1).toNat) (by omega) .u64
          have hx : (unle4 bs)[(UInt64.ofNat n - 1).toNat] ≠ 0 ↔ lb (val (unle4 bs)) = unle4 bs := by
            have e : (UInt64.ofNat n - 1).toNat = (unle4 bs).length - 1 := by omega
            simp only [e]
            exact can_iff (by omega)
          refine o_indexAddr rfl rfl rfl (p84 _) (g_yes rfl (o_load rfl rfl (r_load1 Try.underlying79 rfl q84) (g_yes rfl (o_bin (v := U32 0) rfl rfl rfl (r_eql_u32) (o_pick_t rfl rfl rfl ?_)))))
          refine o_nil (n_then ?_)
          refine c_if rfl (fun h87 => ?_) (fun h87 => ?_)
          · refine c_seq (c_region (o_move rfl rfl (o_call call_Ffail rfl rfl (Ffail_spec r8) ?_)))
            rintro v89 w89 ⟨rfl, hr2, g89⟩
            have m89 := RdT.kp r8 g89
            refine o_assign rfl rfl (o_assign rfl rfl (o_nil (n_then (c_ret (r_then (r_body2 rfl rfl rfl ?_))))))
            exact ⟨_, rfl, (x10.trans g8).trans g89, by
              rw [rdN_u1 hU, ← hbs', if_neg fun h => hx.2 h.2 h87]
              exact ⟨rfl, hr2⟩⟩
          · refine c_skip (n_then (c_seq (c_region (o_move rfl rfl (o_assign rfl rfl (o_assign rfl rfl (o_nil (n_then (c_ret (r_body2 rfl rfl rfl ?_))))))))))
            exact ⟨_, rfl, x10.trans g8, by
              rw [hin] at r8
              rw [rdN_u1 hU, ← hbs']
              first
              | (have h0 : n = 0 := by
                   rcases Nat.eq_zero_or_pos n with h | h
                   · exact h
                   · exact absurd ((gtr_0 hn).2 h) h80
                 have hb0 : unle4 bs = [] := List.eq_nil_of_length_eq_zero (by rw [hns]; exact h0)
                 rw [hb0] at o6
                 rw [hb0, if_pos ⟨hle, rfl⟩]
                 exact ⟨u, rfl, o6.wds, r8⟩)
              | (have hcan := hx.1 h87
                 rw [if_pos ⟨hle, hcan⟩]
                 exact ⟨u, rfl, o6.wds, r8⟩)⟩
        · refine g_no rfl rfl rfl (g_no rfl rfl rfl (g_no rfl rfl rfl (g_no rfl rfl rfl (g_no rfl rfl rfl (g_no rfl rfl rfl (o_pick_f rfl rfl rfl (o_nil (n_then (c_no rfl (c_skip (n_then (c_seq ?_))))))))))))
          refine c_region (o_move rfl rfl (o_assign rfl rfl (o_assign rfl rfl (o_nil (n_then (c_ret (r_body2 rfl rfl rfl ?_)))))))
          exact ⟨_, rfl, x10.trans g8, by
            rw [hin] at r8
            rw [rdN_u1 hU, ← hbs']
            first
            | (have h0 : n = 0 := by
                 rcases Nat.eq_zero_or_pos n with h | h
                 · exact h
                 · exact absurd ((gtr_0 hn).2 h) h80
               have hb0 : unle4 bs = [] := List.eq_nil_of_length_eq_zero (by rw [hns]; exact h0)
               rw [hb0] at o6
               rw [hb0, if_pos ⟨hle, rfl⟩]
               exact ⟨u, rfl, o6.wds, r8⟩)
            | (have hcan := hx.1 h87
               rw [if_pos ⟨hle, hcan⟩]
               exact ⟨u, rfl, o6.wds, r8⟩)⟩
end Go.Rl


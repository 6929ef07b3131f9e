/- Walks of the reference's reader. Conditions: the bytes are not more than 2^39. -/
import Derived.Test.YtifjnhdnpglbpaaQ3
namespace Go.Rl
open Go.RowKit Go.Proofs
theorem call_FNew : Callable Try.prog 32 := ⟨_, Try.func32, by kernel_rfl, rfl⟩
theorem call_Ffail : Callable Try.prog 66 := ⟨_, Try.func66, by kernel_rfl, rfl⟩
theorem call_FUint : Callable Try.prog 46 := ⟨_, Try.func46, by kernel_rfl, rfl⟩
theorem call_FInt : Callable Try.prog 58 := ⟨_, Try.func58, by kernel_rfl, rfl⟩
theorem call_FNat : Callable Try.prog 59 := ⟨_, Try.func59, by kernel_rfl, rfl⟩
theorem call_FRat : Callable Try.prog 60 := ⟨_, Try.func60, by kernel_rfl, rfl⟩
theorem call_FBytes : Callable Try.prog 47 := ⟨_, Try.func47, by kernel_rfl, rfl⟩
theorem call_FText : Callable Try.prog 62 := ⟨_, Try.func62, by kernel_rfl, rfl⟩
theorem call_FLeft : Callable Try.prog 34 := ⟨_, Try.func34, by kernel_rfl, rfl⟩
theorem call_FDone : Callable Try.prog 36 := ⟨_, Try.func36, by kernel_rfl, rfl⟩
theorem zero_RfReader : (Try.prog.info? 91).map (·.zero) = some (some (.agg #[.slice none 0 0, .bool false])) := by kernel_rfl
def RfAt (g : Nat) (st : Option (List UInt8)) (w : World) : Prop := RdT 91 g st w
theorem RfAt.ext {g : Nat} {st : Option (List UInt8)} {w w' : World} (h : RfAt g st w) (hx : Ext w w') : RfAt g st w' := RdT.ext h hx
theorem RfAt.lt {w : World} {g : Nat} {st : Option (List UInt8)} (h : RfAt g st w) : g < w.heap.size := by
  obtain ⟨A, n, c, h1, _⟩ := h
  exact Blk.lt h1
theorem rdU_getD {st : Option (List UInt8)} : st.bind rdU = rdU (st.getD []) := by cases st <;> rfl
theorem add_byte {acc mult : UInt64} {c : UInt8} {k : Nat} (ha : acc.toNat < 128 ^ k) (hk : k ≤ 9) (h9 : k = 9 → c.toNat % 128 ≤ 1) (hm : mult.toNat = 128 ^ k) :
    (acc + (c % 128).toUInt64 * mult).toNat = acc.toNat + (c.toNat % 128) * 128 ^ k := by
  have e1 : ((c % 128).toUInt64).toNat = c.toNat % 128 := by rw [UInt8.toNat_toUInt64, UInt8.toNat_mod]; rfl
  rw [UInt64.toNat_add, UInt64.toNat_mul, e1, hm]
  rcases Nat.lt_or_ge k 9 with h | h
  · have h1 : (c.toNat % 128) * 128 ^ k ≤ 127 * 128 ^ 8 := Nat.mul_le_mul (by omega) (Nat.pow_le_pow_right (by omega) (by omega))
    have h2 : 128 ^ k ≤ 128 ^ 8 := Nat.pow_le_pow_right (by omega) (by omega)
    have e : (128 : Nat) ^ 8 = 72057594037927936 := by decide
    rw [Nat.mod_eq_of_lt (by omega), Nat.mod_eq_of_lt (by omega)]
  · have h' : k = 9 := by omega
    subst h'
    have := h9 rfl
    have e : (128 : Nat) ^ 9 = 9223372036854775808 := by decide
    rw [e] at ha ⊢
    rw [Nat.mod_eq_of_lt (by omega), Nat.mod_eq_of_lt (by omega)]
theorem FNew_spec {w : World} {l : List UInt8} {v : Value} (hv : Bts l v w) (hl : l.length ≤ 140737488355328) :
    Calls Try.prog 32 #[v] w (Ret fun r w' => Ext w w' ∧ ∃ g, w.heap.size ≤ g ∧ r = .pointer (some ⟨g, 0, none⟩) ∧ RfAt g (some l) w') := by
  refine enter (vs := [v]) Try.func32 rfl rfl rfl ?_
  refine c_seq (c_region (o_assign rfl rfl (o_nil (n_then (c_seq (c_region ?_))))))
  obtain ⟨v3, w3, hr3, x3, o3, ob3⟩ := r_bsB (w := w) w.heap.size [] (by simp) (Nat.le_refl _)
  refine o_buildSlice (vs := []) rfl rfl hr3 (o_move rfl rfl ?_)
  obtain ⟨v5, w5, hr5, o5, g5⟩ := r_appB (ty := 22) o3 (hv.ext x3) (by simpa using hl) (x3).size
  have x5 := Ext.of_grew (x3) g5 o3.ge
  refine o_append rfl rfl hr5 ?_
  obtain ⟨A, n, c, rfl, _⟩ := id o5.bts
  refine o_build (vs := [(0, .slice A n c)]) rfl rfl (r := .agg #[.slice A n c, .bool false]) (by simp [Instr.build, run_underlying Try.underlying91, r_zero zero_RfReader, r_sizeOf size_bytes, r_sizeOf size_bool, Instr.fill, Value.cells]) ?_
  refine o_box rfl rfl (r_box) (o_assign rfl rfl (o_nil (n_then (c_ret (r_body1 rfl rfl ?_)))))
  exact ⟨_, rfl, (x5).trans (Ext.new _ _), _, (x5).size, rfl, A, n, c, heap_alloc_new _ _, o5.bts.ext (Ext.new _ _)⟩
theorem Ffail_spec {w : World} {g : Nat} {st : Option (List UInt8)} (hr : RfAt g st w) :
    Calls Try.prog 66 #[.pointer (some ⟨g, 0, none⟩)] w (Ret fun r w' => r = I 5 ∧ RfAt g none w' ∧ w.grownBy w' (some g)) := by
  refine enter (vs := [.pointer (some ⟨g, 0, none⟩)]) Try.func66 rfl rfl rfl ?_
  obtain ⟨A, n, c, k0, b0⟩ := hr
  refine c_seq (c_region (o_assign rfl rfl (o_nil (n_then (c_seq (c_region (o_move rfl rfl (o_move rfl rfl (o_nilCheck rfl rfl (o_fieldAddr rfl rfl (r_fAt (o := 0) Try.underlying91 rfl (by kernel_rfl) rfl) ?_))))))))))
  refine o_store rfl rfl (r_store1 size_bytes rfl k0 (by simp)) ?_
  have k1 := k0.set 0 (.slice none 0 0)
  refine o_nilCheck rfl rfl (o_fieldAddr rfl rfl (r_fAt (o := 1) Try.underlying91 rfl (by kernel_rfl) rfl) (o_store rfl rfl (r_store1 (i := 1) size_bool rfl k1 (by simp)) ?_))
  refine o_nil (n_then (c_seq (c_region (o_assign rfl rfl (o_nil (n_then (c_ret (r_body1 rfl rfl ?_))))))))
  exact ⟨_, rfl, rfl, ⟨none, 0, 0, k1.set 1 (.bool true), Bts.nil _⟩, (grownBy_setCell w g 0 _).trans (grownBy_setCell _ g 1 _)⟩
theorem FLeft_spec {w : World} {g : Nat} {st : Option (List UInt8)} (hr : RfAt g st w) :
    Calls Try.prog 34 #[.pointer (some ⟨g, 0, none⟩)] w (Ret fun r w' => r = I ((st.getD []).length : Nat) ∧ w' = w) := by
  refine enter (vs := [.pointer (some ⟨g, 0, none⟩)]) Try.func34 rfl rfl rfl ?_
  obtain ⟨A, n, c, k0, b0⟩ := hr
  refine c_seq (c_region (o_assign rfl rfl (o_nil (n_then (c_seq (c_region (o_move rfl rfl (o_nilCheck rfl rfl (o_fieldAddr rfl rfl (r_fAt (o := 0) Try.underlying91 rfl (by kernel_rfl) rfl) ?_)))))))))
  refine o_load rfl rfl (r_load1 Try.underlying22 rfl (k0.cell (i := 0) rfl)) (o_len rfl rfl (r_lenB b0) (o_assign rfl rfl (o_nil (n_then (c_ret (r_body1 rfl rfl ?_))))))
  exact ⟨_, rfl, rfl, rfl⟩
theorem FDone_spec {w : World} {g : Nat} {st : Option (List UInt8)} (hr : RfAt g st w) :
    Calls Try.prog 36 #[.pointer (some ⟨g, 0, none⟩)] w (Ret fun r w' => r = I (if st = some [] then 0 else 5) ∧ w' = w) := by
  refine enter (vs := [.pointer (some ⟨g, 0, none⟩)]) Try.func36 rfl rfl rfl ?_
  obtain ⟨A, n, c, k0, b0⟩ := hr
  refine c_seq (c_region (o_assign rfl rfl (o_nil (n_then (c_seq (c_seq ?_))))))
  rcases st with _ | l
  · refine c_region (o_move rfl rfl (o_nilCheck rfl rfl (o_fieldAddr rfl rfl (r_fAt (o := 1) Try.underlying91 rfl (by kernel_rfl) rfl) (o_load rfl rfl (r_load1 Try.underlying4 rfl (k0.cell (i := 1) rfl)) ?_))))
    refine o_move rfl rfl (g_no rfl rfl rfl (g_no rfl rfl rfl (g_no rfl rfl rfl (g_no rfl rfl rfl (g_no rfl rfl rfl (g_no rfl rfl rfl (o_pick_t rfl rfl rfl (o_nil (n_then (c_yes rfl (c_seq ?_)))))))))))
    refine c_region (o_assign rfl rfl (o_nil (n_then (c_ret (r_then (r_body1 rfl rfl ?_))))))
    exact ⟨_, rfl, rfl, rfl⟩
  · have b0 : Bts l (.slice A n c) w := b0
    refine c_region (o_move rfl rfl (o_nilCheck rfl rfl (o_fieldAddr rfl rfl (r_fAt (o := 1) Try.underlying91 rfl (by kernel_rfl) rfl) (o_load rfl rfl (r_load1 Try.underlying4 rfl (k0.cell (i := 1) rfl)) ?_))))
    refine o_move rfl rfl (g_yes rfl (o_move rfl rfl (g_yes rfl (o_nilCheck rfl rfl (g_yes rfl (o_fieldAddr rfl rfl (r_fAt (o := 0) Try.underlying91 rfl (by kernel_rfl) rfl) ?_))))))
    refine g_yes rfl (o_load rfl rfl (r_load1 Try.underlying22 rfl (k0.cell (i := 0) rfl)) (g_yes rfl (o_len rfl rfl (r_lenB b0) (g_yes rfl (o_bin rfl rfl rfl (r_gtr_i) ?_)))))
    refine o_pick_f rfl rfl rfl (o_nil (n_then ?_))
    refine c_if rfl (fun h14 => ?_) (fun h14 => ?_)
    · refine c_seq (c_region (o_assign rfl rfl (o_nil (n_then (c_ret (r_then (r_body1 rfl rfl ?_)))))))
      exact ⟨_, rfl, by rw [if_neg (by rintro ⟨⟩; simp at h14)]; rfl, rfl⟩
    · refine c_skip (n_then (c_seq (c_region (o_assign rfl rfl (o_nil (n_then (c_ret (r_body1 rfl rfl ?_))))))))
      exact ⟨_, rfl, by
        have h0 : l = [] := List.eq_nil_of_length_eq_zero (by omega)
        rw [h0]; rfl, rfl⟩
def FUintR (g : Nat) (w : World) (o : Option (Nat × List UInt8)) (r : Value) (w' : World) : Prop :=
  w.grownBy w' (some g) ∧ match o with
    | some (n, t) => r = .tuple #[U64 (UInt64.ofNat n), I 0] ∧ RfAt g (some t) w'
    | none => r = .tuple #[U64 0, I 5] ∧ RfAt g none w'
theorem rdUk_zero (k : Nat) (l : List UInt8) : rdUk 0 k l = none := rfl
theorem rdUk_step {k : Nat} {c : UInt8} {l : List UInt8} (hk : k ≤ 9) : rdUk (10 - k) k (c :: l) = if (k = 9 ∧ 1 < c.toNat) ∨ (0 < k ∧ c.toNat = 0) then none else if c.toNat < 128 then some (c.toNat * 128 ^ k, l) else (rdUk (10 - (k + 1)) (k + 1) l).map fun p => (p.1 + (c.toNat % 128) * 128 ^ k, p.2) := by
  rw [show 10 - k = (9 - k) + 1 by omega, show 10 - (k + 1) = 9 - k by omega]; rfl
theorem FUint_spec {w : World} {g : Nat} {st : Option (List UInt8)} (hr : RfAt g st w) :
    Calls Try.prog 46 #[.pointer (some ⟨g, 0, none⟩)] w (Ret (FUintR g w (st.bind rdU))) := by
  refine enter (vs := [.pointer (some ⟨g, 0, none⟩)]) Try.func46 rfl rfl rfl ?_
  obtain ⟨A, n, c0, k0, b0⟩ := id hr
  rw [rdU_getD]
  obtain ⟨l, hl0⟩ : ∃ l, l = st.getD [] := ⟨_, rfl⟩
  rw [← hl0] at b0 ⊢
  refine c_seq (c_region (o_assign rfl rfl (o_assign rfl rfl (o_nil (n_then (c_seq (c_region (o_assign rfl rfl (o_assign rfl rfl (o_nil (n_then (c_seq (c_seq (c_region (o_assign rfl rfl (o_nil ?_))))))))))))))))
  refine n_then (c_block ?_)
  refine c_loop3 (fun (i : Nat) (acc : UInt64) (mult : UInt64) => [(0, .pointer (some ⟨g, 0, none⟩)), (4, U64 acc), (5, U64 mult), (6, I (i : Int))]) (fun (i : Nat) (acc : UInt64) (mult : UInt64) w' => w = w' ∧ i ≤ 10 ∧ i ≤ l.length ∧ (i ≤ 9 → mult.toNat = 128 ^ i) ∧ acc.toNat < 128 ^ i ∧ rdU l = (rdUk (10 - i) i (l.drop i)).map fun p => (p.1 + acc.toNat, p.2)) (fun (i : Nat) (acc : UInt64) (mult : UInt64) => 10 - i) (0) (0) (1) ⟨rfl, rfl, rfl, rfl, trivial⟩ ⟨rfl, by omega, by omega, fun _ => rfl, by simp, by simp [rdU]⟩ ?_
  rintro i acc mult _ ⟨rfl, hi, hil, hm, ha, hrd⟩
  refine c_seq (c_seq (c_region (o_move rfl rfl (o_move rfl rfl (o_nilCheck rfl rfl (o_fieldAddr rfl rfl (r_fAt (o := 0) Try.underlying91 rfl (by kernel_rfl) rfl) ?_))))))
  refine o_load rfl rfl (r_load1 Try.underlying22 rfl (k0.cell (i := 0) rfl)) (o_len rfl rfl (r_lenB b0) (o_bin rfl rfl rfl (r_lss_i) (o_move rfl rfl ?_)))
  refine o_dec (fun h15 => ?_) (fun h15 => ?_)
  · refine g_yes rfl (o_move rfl rfl (g_yes rfl (o_bin rfl rfl rfl (r_lss_i) (o_pick_t rfl rfl rfl (o_nil (n_then ?_))))))
    refine c_if rfl (fun h18 => ?_) (fun h18 => ?_)
    · refine c_skip (n_then (c_seq (c_block (c_seq (c_region (o_move rfl rfl (o_nilCheck rfl rfl (o_fieldAddr rfl rfl (r_fAt (o := 0) Try.underlying91 rfl (by kernel_rfl) rfl) ?_))))))))
      refine o_load rfl rfl (r_load1 Try.underlying22 rfl (k0.cell (i := 0) rfl)) (o_move rfl rfl ?_)
      obtain ⟨a26, p26, q26⟩ := r_ixB b0 (i := i) (by omega) .i64
      refine o_indexAddr rfl rfl rfl (p26 _) (o_load rfl rfl (r_load1 Try.underlying5 rfl q26) ?_)
      have hil' : i < l.length := by omega
      have hdr := List.drop_eq_getElem_cons hil'
      have hd : ((l[i] % 128).toUInt64).toNat = l[i].toNat % 128 := by rw [UInt8.toNat_toUInt64, UInt8.toNat_mod]; rfl
      have hst : st = some l := by
        cases st with
        | none => rw [show l = [] from hl0] at hil'; simp at hil'
        | some l' => rw [show l = l' from hl0]
      refine o_bin (v := U8 128) rfl rfl rfl (r_rem_u8 (by decide)) (o_conv rfl rfl (r_u8_u64 Try.underlying5 Try.underlying31) (o_assign rfl rfl (o_nil ?_)))
      refine n_then (c_seq ?_)
      refine c_cut (fun _ : Unit => [(0, .pointer (some ⟨g, 0, none⟩)), (4, U64 acc), (5, U64 mult), (6, I (i : Int)), (7, U64 ((l[i] % 128).toUInt64))]) (fun _ w' => w = w' ∧ (i = 9 → l[i].toNat % 128 ≤ 1)) ?_ ?_
      · refine c_seq (c_region (o_move rfl rfl (o_bin rfl rfl rfl (r_eql_i) (o_move rfl rfl ?_))))
        refine o_dec (fun h32 => ?_) (fun h32 => ?_)
        · refine g_yes rfl (o_move rfl rfl (g_yes rfl (o_bin (v := U64 1) rfl rfl rfl (r_gtr_u64) (o_pick_t rfl rfl rfl (o_nil (n_then ?_))))))
          refine c_if rfl (fun h35 => ?_) (fun h35 => ?_)
          · have hn : rdU l = none := by
              have h35 := UInt64.lt_iff_toNat_lt.1 h35
              rw [hd, show (1 : UInt64).toNat = 1 from rfl] at h35
              rw [hrd, hdr, rdUk_step (by omega), if_pos (Or.inl ⟨by omega, by omega⟩)]; rfl
            refine c_seq (c_region (o_move rfl rfl (o_call call_Ffail rfl rfl (Ffail_spec hr) ?_)))
            rintro v37 w37 ⟨rfl, hr2, gg⟩
            have m37 := RdT.kp hr gg
            refine o_assign rfl rfl (o_assign rfl rfl (o_nil (n_then (c_ret (r_then (r_then (r_block (r_then (r_then (r_block (r_then (r_body2 rfl rfl rfl ?_))))))))))))
            exact ⟨_, rfl, gg, by rw [hn]; exact ⟨rfl, hr2⟩⟩
          · refine c_skip ?_
            exact n_meet () ⟨rfl, rfl, rfl, rfl, rfl, trivial⟩ ⟨rfl, fun h9 => by
              first
              | exact absurd h9 (by omega)
              | (refine Nat.le_of_not_lt fun hh => h35 (UInt64.lt_iff_toNat_lt.2 ?_); rw [hd]; exact hh)⟩
        · refine g_no rfl rfl rfl (g_no rfl rfl rfl (o_pick_f rfl rfl rfl (o_nil (n_then (c_no rfl (c_skip ?_))))))
          exact n_meet () ⟨rfl, rfl, rfl, rfl, rfl, trivial⟩ ⟨rfl, fun h9 => by
            first
            | exact absurd h9 (by omega)
            | (refine Nat.le_of_not_lt fun hh => h35 (UInt64.lt_iff_toNat_lt.2 ?_); rw [hd]; exact hh)⟩
      rintro ⟨⟩ _ ⟨rfl, h9⟩
      refine n_then (c_seq ?_)
      have hab := add_byte (c := l[i]) ha (by omega) h9 (hm (by omega))
      refine c_region (o_move rfl rfl (o_move rfl rfl (o_move rfl rfl (o_bin rfl rfl rfl (r_mul_u64) (o_bin rfl rfl rfl (r_add_u64) (o_assign rfl rfl (o_nil (n_then (c_seq (c_region (o_move rfl rfl ?_)))))))))))
      refine o_bin (v := U64 128) rfl rfl rfl (r_mul_u64) (o_assign rfl rfl (o_nil (n_then (c_seq (c_region (o_move rfl rfl (o_nilCheck rfl rfl (o_fieldAddr rfl rfl (r_fAt (o := 0) Try.underlying91 rfl (by kernel_rfl) rfl) ?_))))))))
      refine o_load rfl rfl (r_load1 Try.underlying22 rfl (k0.cell (i := 0) rfl)) (o_move rfl rfl ?_)
      obtain ⟨a50, p50, q50⟩ := r_ixB b0 (i := i) (by omega) .i64
      refine o_indexAddr rfl rfl rfl (p50 _) (o_load rfl rfl (r_load1 Try.underlying5 rfl q50) (o_bin (v := U8 128) rfl rfl rfl (r_lss_u8) (o_nil (n_then ?_))))
      refine c_if rfl (fun h52 => ?_) (fun h52 => ?_)
      · have hc : l[i].toNat < 128 := UInt8.lt_iff_toNat_lt.1 h52
        refine c_seq ?_
        refine c_cut (fun _ : Unit => [(0, .pointer (some ⟨g, 0, none⟩)), (4, U64 (acc + (l[i] % 128).toUInt64 * mult)), (6, I (i : Int))]) (fun _ w' => w = w' ∧ ¬ (0 < i ∧ l[i].toNat = 0)) ?_ ?_
        · refine c_seq (c_region (o_move rfl rfl (o_bin rfl rfl rfl (r_gtr_i) (o_move rfl rfl ?_))))
          refine o_dec (fun h55 => ?_) (fun h55 => ?_)
          · refine g_yes rfl (o_move rfl rfl (g_yes rfl (o_bin (v := U64 0) rfl rfl rfl (r_eql_u64) (o_pick_t rfl rfl rfl (o_nil (n_then ?_))))))
            refine c_if rfl (fun h58 => ?_) (fun h58 => ?_)
            · have hn : rdU l = none := by
                have h58 := congrArg UInt64.toNat h58
                rw [hd, show (0 : UInt64).toNat = 0 from rfl] at h58
                rw [hrd, hdr, rdUk_step (by omega), if_pos (Or.inr ⟨by omega, by omega⟩)]; rfl
              refine c_seq (c_region (o_move rfl rfl (o_call call_Ffail rfl rfl (Ffail_spec hr) ?_)))
              rintro v60 w60 ⟨rfl, hr2, gg⟩
              have m60 := RdT.kp hr gg
              refine o_assign rfl rfl (o_assign rfl rfl (o_nil (n_then (c_ret (r_then (r_then (r_block (r_then (r_then (r_block (r_then (r_body2 rfl rfl rfl ?_))))))))))))
              exact ⟨_, rfl, gg, by rw [hn]; exact ⟨rfl, hr2⟩⟩
            · refine c_skip ?_
              exact n_meet () ⟨rfl, rfl, rfl, trivial⟩ ⟨rfl, fun hh => by
                first
                | omega
                | exact h58 (by rw [UInt8.toNat_inj.1 (show l[i].toNat = (0 : UInt8).toNat from hh.2)]; rfl)⟩
          · refine g_no rfl rfl rfl (g_no rfl rfl rfl (o_pick_f rfl rfl rfl (o_nil (n_then (c_no rfl (c_skip ?_))))))
            exact n_meet () ⟨rfl, rfl, rfl, trivial⟩ ⟨rfl, fun hh => by
              first
              | omega
              | exact h58 (by rw [UInt8.toNat_inj.1 (show l[i].toNat = (0 : UInt8).toNat from hh.2)]; rfl)⟩
        rintro ⟨⟩ _ ⟨rfl, hz⟩
        refine n_then (c_seq (c_region (o_move rfl rfl (o_move rfl rfl (o_nilCheck rfl rfl (o_fieldAddr rfl rfl (r_fAt (o := 0) Try.underlying91 rfl (by kernel_rfl) rfl) ?_))))))
        refine o_load rfl rfl (r_load1 Try.underlying22 rfl (k0.cell (i := 0) rfl)) (o_move rfl rfl (o_bin (r := I ((i + 1 : Nat) : Int)) rfl rfl rfl (by have e : ((i + 1 : Nat) : Int) = (i : Int) + 1 := (by omega); rw [e]; exact r_add_i (by omega) (by omega)) ?_))
        obtain ⟨v68, p68, b68⟩ := r_slB_lo b0 (lo := i + 1) (by omega) .i64
        refine o_slice rfl rfl rfl rfl rfl (p68 _) (o_nilCheck rfl rfl (o_fieldAddr rfl rfl (r_fAt (o := 0) Try.underlying91 rfl (by kernel_rfl) rfl) ?_))
        obtain ⟨w3, hs3, q3, r3⟩ := RdT.set (by have := hr; rw [hst] at this; exact this) b68
        refine o_store rfl rfl (hs3) (o_nil (n_then (c_seq (c_region (o_move rfl rfl (o_assign rfl rfl (o_assign rfl rfl (o_nil (n_then (c_ret (r_block (r_then (r_then (r_block (r_then (r_body2 rfl rfl rfl ?_))))))))))))))))
        exact ⟨_, rfl, q3, by
          rw [hrd, hdr, rdUk_step (by omega), if_neg (fun hh => hh.elim (fun h => by have := h9 h.1; omega) hz), if_pos hc]
          rw [Nat.mod_eq_of_lt hc] at hab
          exact ⟨by rw [Nat.add_comm, ← hab, UInt64.ofNat_toNat]; rfl, r3⟩⟩
      · have hc : ¬ l[i].toNat < 128 := fun hh => h52 (UInt8.lt_iff_toNat_lt.2 hh)
        refine c_skip (n_block (n_then (c_region (o_move rfl rfl (o_bin (r := I ((i + 1 : Nat) : Int)) rfl rfl rfl (by have e : ((i + 1 : Nat) : Int) = (i : Int) + 1 := (by omega); rw [e]; exact r_add_i (by omega) (by omega)) ?_)))))
        refine o_assign rfl rfl (o_nil ?_)
        refine n_round3 (i + 1) (acc + (l[i] % 128).toUInt64 * mult) (mult * 128) ⟨rfl, rfl, rfl, rfl, trivial⟩ ⟨rfl, by omega, by omega, fun hi9 => by
          rw [UInt64.toNat_mul, hm (by omega), show (128 : UInt64).toNat = 128 from rfl, ← Nat.pow_succ]
          exact Nat.mod_eq_of_lt (Nat.lt_of_le_of_lt (Nat.pow_le_pow_right (by omega) hi9) (by decide)), by
          rw [hab, Nat.pow_succ]
          have : (l[i].toNat % 128) * 128 ^ i ≤ 127 * 128 ^ i := Nat.mul_le_mul_right _ (by omega)
          omega, by
          rw [hrd, hdr, rdUk_step (by omega), hab]
          by_cases hi9 : i = 9
          · subst hi9
            rw [if_pos (Or.inl ⟨rfl, by omega⟩), show 10 - (9 + 1) = 0 by omega, rdUk_zero, Option.map_none, Option.map_none]
          · rw [if_neg (fun hh => by omega), if_neg hc, Option.map_map]
            congr 1
            funext p
            simp only [Function.comp, Prod.mk.injEq, and_true]
            omega⟩ (by omega)
    · refine c_exit (x_then (x_then (x_here (n_then (c_seq (c_region (o_move rfl rfl (o_call call_Ffail rfl rfl (Ffail_spec hr) ?_))))))))
      rintro v73 w73 ⟨rfl, hr2, gg⟩
      have m73 := RdT.kp hr gg
      refine o_assign rfl rfl (o_assign rfl rfl (o_nil (n_then (c_ret (r_body2 rfl rfl rfl ?_)))))
      exact ⟨_, rfl, gg, by
        have hn : rdU l = none := by
          rw [hrd]
          rcases Nat.lt_or_ge i 10 with h | h
          · rw [List.drop_of_length_le (by omega), rdUk_nil]; rfl
          · rw [show 10 - i = 0 by omega]; rfl
        rw [hn]; exact ⟨rfl, hr2⟩⟩
  · refine g_no rfl rfl rfl (g_no rfl rfl rfl (o_pick_f rfl rfl rfl (o_nil (n_then (c_no rfl (c_exit (x_then (x_then (x_here (n_then (c_seq (c_region (o_move rfl rfl (o_call call_Ffail rfl rfl (Ffail_spec hr) ?_))))))))))))))
    rintro v73 w73 ⟨rfl, hr2, gg⟩
    have m73 := RdT.kp hr gg
    refine o_assign rfl rfl (o_assign rfl rfl (o_nil (n_then (c_ret (r_body2 rfl rfl rfl ?_)))))
    exact ⟨_, rfl, gg, by
      have hn : rdU l = none := by
        rw [hrd]
        rcases Nat.lt_or_ge i 10 with h | h
        · rw [List.drop_of_length_le (by omega), rdUk_nil]; rfl
        · rw [show 10 - i = 0 by omega]; rfl
      rw [hn]; exact ⟨rfl, hr2⟩⟩
end Go.Rl


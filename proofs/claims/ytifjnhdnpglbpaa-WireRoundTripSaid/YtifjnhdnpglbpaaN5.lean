/- Walk of package natural: reduce. Conditions: the estimate is at most one too large. -/
import Derived.Test.YtifjnhdnpglbpaaN4
namespace Go.Rl
open Go.RowKit Go.Proofs
theorem NRed_spec {w : World} {g : Nat} {pre post : List Value} {L m : List UInt32} {u v : Value} {q : UInt64} (hu : PW g pre L post u w) (hv : Wds m v w) (ha : v.ownBlock = none ∨ v.ownBlock ≠ some g) (hL : L.length = m.length + 1) (hm : m.length ≤ 1099511627776)
    (hq : q.toNat < 4294967296) (h1 : (q.toNat - 1) * val m ≤ val L) (h2 : val L < (q.toNat + 1) * val m) :
    Calls Try.prog 100 #[u, v, U64 q] w (Ret fun r w' => ∃ x F, r = U32 x ∧ w.grownBy w' (some g) ∧ PW g pre F post u w' ∧ F.length = L.length ∧ val L = x.toNat * val m + val F ∧ val F < val m) := by
  refine enter (vs := [u, v, U64 q]) Try.func100 rfl rfl rfl ?_
  refine c_seq (c_region (o_assign rfl rfl (o_nil (n_then (c_seq (c_region (o_assign rfl rfl (o_assign rfl rfl (o_nil (n_then (c_seq (c_seq (c_region (o_move rfl rfl (o_len rfl rfl (r_lenW Try.underlying33 hv) ?_)))))))))))))))
  refine o_move rfl rfl (o_nil (n_then (c_block ?_)))
  refine c_loop4 (fun (i : Nat) (M : List UInt32) (c : UInt64) (b : UInt64) => [(0, u), (1, v), (2, U64 q), (7, U64 c), (8, U64 b), (15, v), (16, I (m.length : Int)), (17, I (i : Int))]) (fun (i : Nat) (M : List UInt32) (c : UInt64) (b : UInt64) w' => w.grownBy w' (some g) ∧ PW g pre M post u w' ∧ M.length = L.length ∧ i ≤ m.length ∧ M.drop i = L.drop i ∧ c.toNat < 4294967296 ∧ b.toNat ≤ 1 ∧ val (L.take i) + 4294967296 ^ i * (c.toNat + b.toNat) = val (M.take i) + q.toNat * val (m.take i)) (fun (i : Nat) (M : List UInt32) (c : UInt64) (b : UInt64) => m.length - i) (0) (L) (0) (0) ⟨rfl, rfl, rfl, rfl, rfl, rfl, rfl, rfl, trivial⟩ ⟨gb_ext (Ext.refl _), hu, rfl, by simp, rfl, by simp, by simp, by simp [val]⟩ ?_
  rintro i M c b w3 ⟨q3, pM, hM, hi, hMi, hc, hb, hinv⟩
  refine c_seq ?_
  have v3 := hv.away ha q3
  refine c_region (o_bin rfl rfl rfl (r_lss_i) (o_nil (n_then (c_seq ?_))))
  refine c_if rfl (fun h18 => ?_) (fun h18 => ?_)
  · refine c_skip (n_then (c_seq (c_block (c_seq (c_region (o_move rfl rfl ?_))))))
    obtain ⟨a20, p20, q20⟩ := r_ixW Try.underlying33 v3 (i := i) (by omega) .i64
    refine o_indexAddr rfl rfl rfl (p20 _) (o_load rfl rfl (r_load1 Try.underlying79 rfl q20) (o_assign rfl rfl (o_assign rfl rfl (o_nil (n_then (c_seq (c_region (o_move rfl rfl ?_))))))))
    refine o_move rfl rfl (o_move rfl rfl (o_conv rfl rfl (r_u32_u64 Try.underlying79 Try.underlying31) (o_bin rfl rfl rfl (r_mul_u64) (o_bin rfl rfl rfl (r_add_u64) ?_))))
    refine o_assign rfl rfl (o_nil (n_then (c_seq (c_region (o_move rfl rfl (o_move rfl rfl ?_))))))
    obtain ⟨a30, p30, q30⟩ := r_ixW Try.underlying33 pM.wds (i := i) (by omega) .i64
    refine o_indexAddr rfl rfl rfl (p30 _) (o_load rfl rfl (r_load1 Try.underlying79 rfl q30) (o_conv rfl rfl (r_u32_u64 Try.underlying79 Try.underlying31) ?_))
    refine o_move rfl rfl (o_conv rfl rfl (r_u64_u32 Try.underlying31 Try.underlying79) (o_conv rfl rfl (r_u32_u64 Try.underlying79 Try.underlying31) ?_))
    refine o_bin rfl rfl rfl (r_sub_u64) (o_move rfl rfl (o_bin rfl rfl rfl (r_sub_u64) (o_assign rfl rfl (o_nil (n_then (c_seq (c_region (o_move rfl rfl (o_move rfl rfl (o_move rfl rfl ?_))))))))))
    refine o_conv rfl rfl (r_u64_u32 Try.underlying31 Try.underlying79) ?_
    obtain ⟨w43, p43, s43, pN, q43, c43⟩ := pM.setP Try.underlying33 (i := i) (by omega) ((((((((M[i])).toUInt64) - (((((c) + (((q) * (((m[i])).toUInt64))))).toUInt32).toUInt64))) - (b)))).toUInt32
    refine o_indexAddr rfl rfl rfl (p43 _) (o_store rfl rfl (s43) (o_nil (n_then (c_seq (c_region (o_move rfl rfl (o_bin rfl rfl rfl (r_shr_u64 63 (by omega)) (o_assign rfl rfl (o_nil ?_)))))))))
    refine n_then (c_region (o_move rfl rfl (o_bin rfl rfl rfl (r_shr_u64 32 (by omega)) (o_assign rfl rfl (o_nil (n_block (n_then (c_region (o_bin (r := I ((i + 1 : Nat) : Int)) rfl rfl rfl (by have e : ((i + 1 : Nat) : Int) = (i : Int) + 1 := (by omega); rw [e]; exact r_add_i (by omega) (by omega)) ?_)))))))))
    refine o_move rfl rfl (o_nil ?_)
    have st := sub_step (L := L) (v := m) (M := M) (i := i) (q := q) (c := c) (b := b) (by omega) (by omega) hM hq hc hb hMi hinv rfl
    refine n_round4 (i + 1) (_) (_) (_) ⟨rfl, rfl, rfl, rfl, rfl, rfl, rfl, rfl, trivial⟩ ⟨q3.trans q43, pN, by simpa using hM, by omega, st.1, st.2.1, st.2.2.1, st.2.2.2⟩ (by omega)
  · refine c_exit (x_then (x_then (x_here (n_then (c_seq ?_)))))
    obtain rfl : i = m.length := by omega
    refine c_region (o_move rfl rfl (o_move rfl rfl (o_len rfl rfl (r_lenW Try.underlying33 v3) ?_)))
    obtain ⟨a52, p52, q52⟩ := r_ixW Try.underlying33 pM.wds (i := m.length) (by omega) .i64
    refine o_indexAddr rfl rfl rfl (p52 _) (o_load rfl rfl (r_load1 Try.underlying79 rfl q52) (o_conv rfl rfl (r_u32_u64 Try.underlying79 Try.underlying31) ?_))
    refine o_move rfl rfl (o_bin rfl rfl rfl (r_sub_u64) (o_move rfl rfl (o_bin rfl rfl rfl (r_sub_u64) (o_assign rfl rfl (o_nil (n_then (c_seq (c_region (o_move rfl rfl (o_move rfl rfl ?_))))))))))
    refine o_len rfl rfl (r_lenW Try.underlying33 v3) (o_move rfl rfl (o_conv rfl rfl (r_u64_u32 Try.underlying31 Try.underlying79) ?_))
    obtain ⟨w64, p64, s64, pN, q64, c64⟩ := pM.setP Try.underlying33 (i := m.length) (by omega) ((((((((M[m.length])).toUInt64) - (c))) - (b)))).toUInt32
    refine o_indexAddr rfl rfl rfl (p64 _) (o_store rfl rfl (s64) ?_)
    have v64 := v3.away ha q64
    have tp := red_top (q := q) hL hM hc hb hMi hinv rfl
    have h63 := n_shr ((((((((M[m.length])).toUInt64) - (c))) - (b)))) (s := 63) (by omega)
    simp only [Nat.reducePow] at h63
    have hNl : (M.set m.length ((((((((M[m.length])).toUInt64) - (c))) - (b)))).toUInt32).length = L.length := by simpa using hM
    have hFl := val_lt (M.set m.length ((((((((M[m.length])).toUInt64) - (c))) - (b)))).toUInt32)
    generalize M.set m.length ((((((((M[m.length])).toUInt64) - (c))) - (b)))).toUInt32 = N at pN tp hNl hFl
    generalize hX : (((((((M[m.length])).toUInt64) - (c))) - (b))) = X at tp h63
    refine o_nil (n_then (c_seq (c_seq (c_region (o_move rfl rfl (o_bin rfl rfl rfl (r_shr_u64 63 (by omega)) (o_bin (v := U64 0) rfl rfl rfl (r_eql_u64) (o_nil (n_then ?_)))))))))
    refine c_if rfl (fun h67 => ?_) (fun h67 => ?_)
    · rw [h67] at h63
      rw [← h63] at tp
      refine c_seq (c_region (o_move rfl rfl (o_conv rfl rfl (r_u64_u32 Try.underlying31 Try.underlying79) (o_assign rfl rfl (o_nil (n_then (c_ret (r_then (r_body1 rfl rfl ?_)))))))))
      exact ⟨_, rfl, q.toUInt32, N, rfl, q3.trans q64, pN, hNl, by
        have e : q.toUInt32.toNat = q.toNat := by rw [n_32]; omega
        have := tp.1
        rw [e]
        simp at this
        omega, by
        have := tp.1
        rw [Nat.add_mul, Nat.one_mul] at h2
        simp at this
        omega⟩
    · have hs : X.toNat / 9223372036854775808 = 1 := by
        rcases Nat.eq_zero_or_pos (X.toNat / 9223372036854775808) with h | h
        · exact absurd (u64_zero (h63.trans h)) h67
        · have := tp.2
          omega
      rw [hs, Nat.mul_one] at tp
      refine c_skip (n_then (c_seq (c_region (o_assign rfl rfl (o_nil (n_then (c_seq (c_seq (c_region (o_move rfl rfl (o_len rfl rfl (r_lenW Try.underlying33 v64) (o_move rfl rfl ?_))))))))))))
      refine o_nil (n_then (c_block ?_))
      refine c_loop3 (fun (i : Nat) (K : List UInt32) (d : UInt64) => [(0, u), (1, v), (2, U64 q), (7, U64 d), (70, v), (71, I (m.length : Int)), (72, I (i : Int))]) (fun (i : Nat) (K : List UInt32) (d : UInt64) w' => w.grownBy w' (some g) ∧ PW g pre K post u w' ∧ K.length = L.length ∧ i ≤ m.length ∧ K.drop i = N.drop i ∧ d.toNat ≤ 1 ∧ val (K.take i) + 4294967296 ^ i * d.toNat = val (N.take i) + val (m.take i)) (fun (i : Nat) (K : List UInt32) (d : UInt64) => m.length - i) (0) (N) (0) ⟨rfl, rfl, rfl, rfl, rfl, rfl, rfl, trivial⟩ ⟨q3.trans q64, pN, hNl, by simp, rfl, by simp, by simp [val]⟩ ?_
      rintro i K d w17 ⟨q17, pK, hK, hi, hKi, hd, hinv2⟩
      refine c_seq ?_
      have v17 := hv.away ha q17
      refine c_region (o_bin rfl rfl rfl (r_lss_i) (o_nil (n_then (c_seq ?_))))
      refine c_if rfl (fun h73 => ?_) (fun h73 => ?_)
      · refine c_skip (n_then (c_seq (c_block (c_seq (c_region (o_move rfl rfl ?_))))))
        obtain ⟨a75, p75, q75⟩ := r_ixW Try.underlying33 v17 (i := i) (by omega) .i64
        refine o_indexAddr rfl rfl rfl (p75 _) (o_load rfl rfl (r_load1 Try.underlying79 rfl q75) (o_assign rfl rfl (o_assign rfl rfl (o_nil (n_then (c_seq (c_region (o_move rfl rfl ?_))))))))
        refine o_move rfl rfl (o_move rfl rfl ?_)
        obtain ⟨a80, p80, q80⟩ := r_ixW Try.underlying33 pK.wds (i := i) (by omega) .i64
        refine o_indexAddr rfl rfl rfl (p80 _) (o_load rfl rfl (r_load1 Try.underlying79 rfl q80) (o_conv rfl rfl (r_u32_u64 Try.underlying79 Try.underlying31) ?_))
        refine o_move rfl rfl (o_conv rfl rfl (r_u32_u64 Try.underlying79 Try.underlying31) (o_bin rfl rfl rfl (r_add_u64) (o_bin rfl rfl rfl (r_add_u64) (o_assign rfl rfl ?_))))
        refine o_nil (n_then (c_seq (c_region (o_move rfl rfl (o_move rfl rfl (o_move rfl rfl (o_conv rfl rfl (r_u64_u32 Try.underlying31 Try.underlying79) ?_)))))))
        obtain ⟨w91, p91, s91, pK', q91, c91⟩ := pK.setP Try.underlying33 (i := i) (by omega) ((((d) + (((((K[i])).toUInt64) + (((m[i])).toUInt64)))))).toUInt32
        refine o_indexAddr rfl rfl rfl (p91 _) (o_store rfl rfl (s91) (o_nil (n_then (c_region (o_move rfl rfl (o_bin rfl rfl rfl (r_shr_u64 32 (by omega)) (o_assign rfl rfl (o_nil (n_block ?_)))))))))
        refine n_then (c_region (o_bin (r := I ((i + 1 : Nat) : Int)) rfl rfl rfl (by have e : ((i + 1 : Nat) : Int) = (i : Int) + 1 := (by omega); rw [e]; exact r_add_i (by omega) (by omega)) ?_))
        refine o_move rfl rfl (o_nil ?_)
        have st := add_step (L := N) (v := m) (M := K) (i := i) (c := d) (by omega) (by omega) (by omega) hd hKi hinv2
        refine n_round3 (i + 1) (_) (_) ⟨rfl, rfl, rfl, rfl, rfl, rfl, rfl, trivial⟩ ⟨q17.trans q91, pK', by simpa using hK, by omega, st.1, st.2.1, st.2.2⟩ (by omega)
      · refine c_exit (x_then (x_then (x_here (n_then (c_seq ?_)))))
        obtain rfl : i = m.length := by omega
        refine c_region (o_move rfl rfl (o_move rfl rfl (o_len rfl rfl (r_lenW Try.underlying33 v17) ?_)))
        obtain ⟨a98, p98, q98⟩ := r_ixW Try.underlying33 pK.wds (i := m.length) (by omega) .i64
        refine o_indexAddr rfl rfl rfl (p98 _) (o_load rfl rfl (r_load1 Try.underlying79 rfl q98) (o_move rfl rfl (o_conv rfl rfl (r_u64_u32 Try.underlying31 Try.underlying79) ?_)))
        refine o_bin rfl rfl rfl (r_add_u32) ?_
        obtain ⟨w103, p103, s103, pK', q103, c103⟩ := pK.setP Try.underlying33 (i := m.length) (by omega) (K[m.length]'(by omega) + d.toUInt32)
        refine o_indexAddr rfl rfl rfl (p103 _) (o_store rfl rfl (s103) (o_nil (n_then (c_seq (c_region (o_move rfl rfl (o_bin (v := U64 1) rfl rfl rfl (r_sub_u64) (o_conv rfl rfl (r_u64_u32 Try.underlying31 Try.underlying79) ?_))))))))
        refine o_assign rfl rfl (o_nil (n_then (c_ret (r_body1 rfl rfl ?_))))
        have rb := red_back (q := q.toNat) hL hNl hK hd hKi hinv2 tp.1 h1
        exact ⟨_, rfl, (q - 1).toUInt32, _, rfl, q17.trans q103, pK', by simpa using hK, by
          have e : (q - 1).toUInt32.toNat = q.toNat - 1 := by
            have h0 := rb.1
            rw [n_32, n_sub]
            show (18446744073709551616 - 1 + q.toNat) % 18446744073709551616 % _ = _
            omega
          rw [e]; exact rb.2.1, rb.2.2⟩
end Go.Rl


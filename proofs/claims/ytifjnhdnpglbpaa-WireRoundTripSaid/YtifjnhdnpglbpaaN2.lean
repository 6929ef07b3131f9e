/- Walks of package natural: Uint, Cmp, left, short, Shr, Bits. Conditions: the numbers are shorter than 2^40 limbs. -/
import Derived.Test.YtifjnhdnpglbpaaN1
import Derived.Test.YtifjnhdnpglbpaaNat2
namespace Go.Rl
open Go.RowKit Go.Proofs
theorem call_NLeft : Callable Try.prog 99 := ⟨_, Try.func99, by kernel_rfl, rfl⟩
theorem call_NShort : Callable Try.prog 97 := ⟨_, Try.func97, by kernel_rfl, rfl⟩
theorem call_NShr : Callable Try.prog 102 := ⟨_, Try.func102, by kernel_rfl, rfl⟩
theorem call_NBits : Callable Try.prog 91 := ⟨_, Try.func91, by kernel_rfl, rfl⟩
theorem call_Len32 : Callable Try.prog 103 := ⟨_, Try.func103, by kernel_rfl, rfl⟩
theorem call_LZ32 : Callable Try.prog 98 := ⟨_, Try.func98, by kernel_rfl, rfl⟩

theorem uint_step {t : List UInt32} {i : Nat} {x : UInt64} (h2 : t.length ≤ 2) (hi : i < t.length) (hx : x.toNat = val (t.take i)) : (x ||| t[i].toUInt64 <<< UInt64.ofNat (32 * i)).toNat = val (t.take (i + 1)) := by
  have hl := val_lt (t.take i)
  rw [List.length_take, Nat.min_eq_left (by omega)] at hl
  have hd := u32_lt t[i]
  rw [val_take_succ hi, ← hx, n_or, n_shl _ (by omega), n_64]
  have hp : (4294967296 : Nat) ^ i = 2 ^ (32 * i) := by rw [Nat.pow_mul]
  rw [hp, ← hx] at hl
  have hb : 2 ^ (32 * i) ≤ 2 ^ 32 := Nat.pow_le_pow_right (by omega) (by omega)
  rw [Nat.mod_eq_of_lt, Nat.mul_comm, nor _ _ _ hl, hp]
  have : t[i].toNat * 2 ^ (32 * i) ≤ 4294967295 * 2 ^ 32 := Nat.mul_le_mul (by omega) hb
  omega
theorem cmpN_lt {x y : Nat} (h : x < y) : cmpN x y = -1 := by unfold cmpN; rw [if_pos h]
theorem cmpN_gt {x y : Nat} (h : y < x) : cmpN x y = 1 := by unfold cmpN; rw [if_neg (by omega), if_pos h]
theorem cmpN_eq {x : Nat} : cmpN x x = 0 := by unfold cmpN; rw [if_neg (by omega), if_neg (by omega)]
theorem lt32 {a b : UInt32} : a < b ↔ a.toNat < b.toNat := UInt32.lt_iff_toNat_lt
theorem lb_cmp_lt {x y j : Nat} (h1 : j < (lb x).length) (h2 : j < (lb y).length) (hd : (lb x).drop (j + 1) = (lb y).drop (j + 1)) (h : (lb x)[j] < (lb y)[j]) : x < y := by
  have := val_cmp h1 h2 hd (lt32.1 h)
  rwa [val_lb, val_lb] at this
theorem NUint_spec {w : World} {l : List UInt32} {v : Value} (hv : Wds l v w) :
    Calls Try.prog 95 #[v] w (Ret fun r w' => w = w' ∧ ((18446744073709551616 ≤ val l ∧ r = .tuple #[U64 0, B false]) ∨ ∃ x : UInt64, x.toNat = val l ∧ r = .tuple #[U64 x, B true])) := by
  refine enter (vs := [v]) Try.func95 rfl rfl rfl ?_
  refine c_seq (c_region (o_assign rfl rfl (o_assign rfl rfl (o_nil (n_then (c_seq (c_region (o_move rfl rfl (o_call call_trim rfl rfl (trim_spec hv) ?_)))))))))
  rintro v8 _ ⟨rfl, b8⟩
  refine o_assign rfl rfl (o_nil (n_then (c_seq (c_seq (c_region (o_move rfl rfl (o_len rfl rfl (r_lenW Try.underlying33 b8) (o_bin rfl rfl rfl (r_gtr_i) (o_nil ?_)))))))))
  refine n_then ?_
  refine c_if rfl (fun h11 => ?_) (fun h11 => ?_)
  · refine c_seq (c_region (o_assign rfl rfl (o_assign rfl rfl (o_nil (n_then (c_ret (r_then (r_body2 rfl rfl rfl ?_))))))))
    exact ⟨_, rfl, rfl, .inl ⟨by
      rcases Nat.lt_or_ge (val l) 18446744073709551616 with h | h
      · have := lb_lt (n := val l) (k := 2) h
        omega
      · exact h, rfl⟩⟩
  · obtain ⟨t, ht⟩ : ∃ t, t = lb (val l) := ⟨_, rfl⟩
    have hval : val t = val l := by rw [ht, val_lb]
    rw [← ht] at b8 h11 ⊢
    have h2 : t.length ≤ 2 := by omega
    refine c_skip (n_then (c_seq (c_region (o_assign rfl rfl (o_nil (n_then (c_seq (c_seq (c_region (o_move rfl rfl (o_len (r := I (t.length : Int)) rfl rfl (r_lenW Try.underlying33 b8) ?_)))))))))))
    refine o_move rfl rfl (o_nil (n_then (c_block ?_)))
    refine c_loop2 (fun (i : Nat) (x : UInt64) => [(4, U64 x), (12, v8), (13, I (t.length : Int)), (14, I (i : Int))]) (fun (i : Nat) (x : UInt64) w' => w = w' ∧ i ≤ t.length ∧ x.toNat = val (t.take i)) (fun (i : Nat) (x : UInt64) => t.length - i) (0) (0) ⟨rfl, rfl, rfl, rfl, trivial⟩ ⟨rfl, by simp, rfl⟩ ?_
    rintro i x _ ⟨rfl, hi, hx⟩
    refine c_seq (c_region (o_bin rfl rfl rfl (r_lss_i) (o_nil (n_then (c_seq ?_)))))
    refine c_if rfl (fun h15 => ?_) (fun h15 => ?_)
    · refine c_skip (n_then (c_seq (c_block (c_seq (c_region (o_move rfl rfl ?_))))))
      obtain ⟨a17, p17, q17⟩ := r_ixW Try.underlying33 b8 (i := i) (by omega) .i64
      refine o_indexAddr rfl rfl rfl (p17 _) (o_load rfl rfl (r_load1 Try.underlying79 rfl q17) (o_assign rfl rfl (o_assign rfl rfl (o_nil (n_then (c_region (o_move rfl rfl ?_)))))))
      refine o_move rfl rfl (o_conv rfl rfl (r_u32_u64 Try.underlying79 Try.underlying31) (o_move rfl rfl (o_bin (r := I ((32 * i : Nat) : Int)) rfl rfl rfl (by have e : ((32 * i : Nat) : Int) = 32 * (i : Int) := (by omega); rw [e]; exact r_mul_i (by omega) (by omega)) ?_)))
      refine o_bin rfl rfl rfl (r_shl_u64 ((32 * i : Nat)) (by omega)) (o_bin rfl rfl rfl (r_or_u64) (o_assign rfl rfl (o_nil (n_block (n_then (c_region (o_bin (r := I ((i + 1 : Nat) : Int)) rfl rfl rfl (by have e : ((i + 1 : Nat) : Int) = (i : Int) + 1 := (by omega); rw [e]; exact r_add_i (by omega) (by omega)) ?_)))))))
      refine o_move rfl rfl (o_nil ?_)
      refine n_round2 (i + 1) (x ||| t[i].toUInt64 <<< UInt64.ofNat (32 * i)) ⟨rfl, rfl, rfl, rfl, trivial⟩ ⟨rfl, by show i + 1 ≤ _; omega, uint_step h2 (by omega) hx⟩ (by show t.length - (i + 1) < t.length - i; omega)
    · refine c_exit (x_then (x_then (x_here (n_then (c_seq (c_region (o_move rfl rfl (o_assign rfl rfl (o_assign rfl rfl (o_nil (n_then (c_ret (r_body2 rfl rfl rfl ?_)))))))))))))
      exact ⟨_, rfl, rfl, .inr ⟨x, by rw [hx, List.take_of_length_le (by omega), hval], rfl⟩⟩
theorem NCmp_spec {w : World} {l m : List UInt32} {v u : Value} (hv : Wds l v w) (hu : Wds m u w) :
    Calls Try.prog 71 #[v, u] w (Ret fun r w' => Ext w w' ∧ r = I (cmpN (val l) (val m))) := by
  refine enter (vs := [v, u]) Try.func71 rfl rfl rfl ?_
  refine c_seq (c_region (o_assign rfl rfl (o_nil (n_then (c_seq (c_region (o_move rfl rfl (o_call call_trim rfl rfl (trim_spec hv) ?_))))))))
  rintro v7 _ ⟨rfl, b7⟩
  refine o_move rfl rfl (o_call call_trim rfl rfl (trim_spec hu) ?_)
  rintro v9 _ ⟨rfl, b9⟩
  have hx := b7.len
  have hy := b9.len
  refine o_assign rfl rfl (o_assign rfl rfl (o_nil (n_then (c_seq (c_seq (c_region (o_move rfl rfl (o_len rfl rfl (r_lenW Try.underlying33 b7) (o_move rfl rfl (o_len rfl rfl (r_lenW Try.underlying33 b9) ?_))))))))))
  refine o_bin rfl rfl rfl (r_neq_i) (o_nil (n_then ?_))
  refine c_if rfl (fun h14 => ?_) (fun h14 => ?_)
  · refine c_seq (c_seq (c_region (o_move rfl rfl (o_len rfl rfl (r_lenW Try.underlying33 b7) (o_move rfl rfl (o_len rfl rfl (r_lenW Try.underlying33 b9) ?_))))))
    refine o_bin rfl rfl rfl (r_lss_i) (o_nil (n_then ?_))
    refine c_if rfl (fun h19 => ?_) (fun h19 => ?_)
    · refine c_seq (c_region (o_assign rfl rfl (o_nil (n_then (c_ret (r_then (r_then (r_body1 rfl rfl ?_))))))))
      exact ⟨_, rfl, Ext.refl _, congrArg I (cmpN_lt (len_lt (by omega))).symm⟩
    · refine c_skip (n_then (c_seq (c_region (o_assign rfl rfl (o_nil (n_then (c_ret (r_then (r_body1 rfl rfl ?_)))))))))
      exact ⟨_, rfl, Ext.refl _, congrArg I (cmpN_gt (len_lt (by omega))).symm⟩
  · refine c_skip (n_then (c_seq (c_seq (c_region ?_))))
    have hlen : (lb (val l)).length = (lb (val m)).length := by omega
    refine o_move rfl rfl (o_len rfl rfl (r_lenW Try.underlying33 b7) (o_bin rfl rfl rfl (r_sub_i (by omega) (by omega)) (o_assign rfl rfl (o_nil (n_then ?_)))))
    refine c_block ?_
    refine c_loop (α := Nat) (fun k => [(0, v7), (1, v9), (5, I ((k : Int) - 1))]) (fun k w' => Ext w w' ∧ k ≤ (lb (val l)).length ∧ (lb (val l)).drop k = (lb (val m)).drop k) (fun k => k) ((lb (val l)).length) ⟨rfl, rfl, rfl, trivial⟩ ⟨Ext.refl _, Nat.le_refl _, by rw [List.drop_of_length_le (Nat.le_refl _), List.drop_of_length_le (by omega)]⟩ ?_
    rintro k w7 ⟨x7, hk, hd⟩
    refine c_seq (c_seq (c_region (o_move rfl rfl (o_bin rfl rfl rfl (r_geq_i) (o_nil (n_then ?_))))))
    refine c_if rfl (fun h24 => ?_) (fun h24 => ?_)
    · obtain ⟨j, rfl⟩ : ∃ j, k = j + 1 := ⟨k - 1, by omega⟩
      have e : ((j + 1 : Nat) : Int) - 1 = (j : Int) := by omega
      rw [e]
      refine c_skip (n_then (c_seq (c_block (c_seq (c_grow 8 [0, 1, 5, 30, 34] (by kernel_rfl) (by kernel_rfl) ?_)))))
      refine f_move rfl rfl (f_move rfl rfl ?_)
      obtain ⟨a29, p29, q29⟩ := r_ixW Try.underlying33 (b7.ext x7) (i := j) (by omega) .i64
      refine f_indexAddr rfl rfl rfl (fun w _ => p29 w) (f_load rfl rfl (fun w hw => r_load1 Try.underlying79 rfl (hw.cell_some q29)) (f_move rfl rfl (f_move rfl rfl ?_)))
      obtain ⟨a33, p33, q33⟩ := r_ixW Try.underlying33 (b9.ext x7) (i := j) (by omega) .i64
      refine f_indexAddr rfl rfl rfl (fun w _ => p33 w) (f_load rfl rfl (fun w hw => r_load1 Try.underlying79 rfl (hw.cell_some q33)) (f_nil ?_))
      intro wg9 xg9
      rintro _ hq0
      obtain rfl := Eq.symm hq0
      rintro _ hq1
      obtain rfl := Eq.symm hq1
      rintro _ rfl
      rintro _ rfl
      rintro _ rfl
      refine o_bin rfl rfl rfl (r_neq_u32) (o_nil (n_then ?_))
      refine c_if rfl (fun h35 => ?_) (fun h35 => ?_)
      · refine c_seq (c_seq (c_grow 8 [39, 43] (by kernel_rfl) (by kernel_rfl) ?_))
        refine f_move rfl rfl (f_move rfl rfl ?_)
        obtain ⟨a38, p38, q38⟩ := r_ixW Try.underlying33 (b7.ext (x7.trans xg9)) (i := j) (by omega) .i64
        refine f_indexAddr rfl rfl rfl (fun w _ => p38 w) (f_load rfl rfl (fun w hw => r_load1 Try.underlying79 rfl (hw.cell_some q38)) (f_move rfl rfl (f_move rfl rfl ?_)))
        obtain ⟨a42, p42, q42⟩ := r_ixW Try.underlying33 (b9.ext (x7.trans xg9)) (i := j) (by omega) .i64
        refine f_indexAddr rfl rfl rfl (fun w _ => p42 w) (f_load rfl rfl (fun w hw => r_load1 Try.underlying79 rfl (hw.cell_some q42)) (f_nil ?_))
        intro wg10 xg10
        rintro _ rfl
        rintro _ rfl
        refine o_bin rfl rfl rfl (r_lss_u32) (o_nil (n_then ?_))
        refine c_if rfl (fun h44 => ?_) (fun h44 => ?_)
        · refine c_seq (c_region (o_assign rfl rfl (o_nil (n_then (c_ret (r_then (r_block (r_then (r_then (r_block (r_then (r_body1 rfl rfl ?_))))))))))))
          exact ⟨_, rfl, ((x7.trans xg9).trans xg10), congrArg I (cmpN_lt (lb_cmp_lt (by omega) (by omega) hd h44)).symm⟩
        · refine c_skip (n_then (c_seq (c_region (o_assign rfl rfl (o_nil (n_then (c_ret (r_block (r_then (r_then (r_block (r_then (r_body1 rfl rfl ?_)))))))))))))
          exact ⟨_, rfl, ((x7.trans xg9).trans xg10), by
            refine congrArg I (cmpN_gt (lb_cmp_lt (by omega) (by omega) hd.symm ?_)).symm
            rw [lt32] at h44 ⊢
            have : (lb (val l))[j].toNat ≠ (lb (val m))[j].toNat := fun he => h35 (u32_ext he)
            omega⟩
      · refine c_skip (n_block (n_then (c_region (o_move rfl rfl (o_bin rfl rfl rfl (r_sub_i (by omega) (by omega)) (o_assign rfl rfl (o_nil ?_)))))))
        refine n_round j ⟨rfl, rfl, rfl, trivial⟩ ⟨(x7.trans xg9), by omega, by rw [List.drop_eq_getElem_cons (show j < (lb (val l)).length by omega), List.drop_eq_getElem_cons (show j < (lb (val m)).length by omega), hd, show (lb (val l))[j] = (lb (val m))[j] from Classical.byContradiction fun h => h35 h]⟩ (by omega)
    · refine c_exit (x_then (x_then (x_here (n_then (c_seq (c_region (o_assign rfl rfl (o_nil (n_then (c_ret (r_body1 rfl rfl ?_)))))))))))
      exact ⟨_, rfl, x7, by
        obtain rfl : k = 0 := by omega
        rw [List.drop_zero, List.drop_zero] at hd
        rw [lb_inj hd, cmpN_eq]; rfl⟩
theorem NLeft_spec {w : World} {l : List UInt32} {v : Value} {k : Nat} (hv : Wds l v w) (hl : l.length ≤ 1099511627776) (hk : k < 32) :
    Calls Try.prog 99 #[v, I (k : Int)] w (Ret fun r w' => Ext w w' ∧ ∃ L, OwnW w.heap.size L r w' ∧ L.length = l.length + 1 ∧ val L = val l * 2 ^ k) := by
  refine enter (vs := [v, I (k : Int)]) Try.func99 rfl rfl rfl ?_
  refine c_seq (c_region (o_assign rfl rfl (o_nil (n_then (c_seq (c_region (o_move rfl rfl (o_len rfl rfl (r_lenW Try.underlying33 hv) (o_bin (r := I (((l.length) + 1 : Nat) : Int)) rfl rfl rfl (by have e : (((l.length) + 1 : Nat) : Int) = (l.length : Int) + 1 := (by omega); rw [e]; exact r_add_i (by omega) (by omega)) ?_)))))))))
  obtain ⟨v12, w12, hr12, x12, o12, ob12⟩ := r_mkW Try.underlying33 (w := w) w.heap.size (n := l.length + 1) (by omega) (Nat.le_refl _)
  refine o_makeSlice rfl rfl rfl hr12 (o_assign rfl rfl (o_nil (n_then (c_seq (c_seq (c_region (o_move rfl rfl (o_len rfl rfl (r_lenW Try.underlying33 (hv.ext x12)) ?_))))))))
  refine o_move rfl rfl (o_nil (n_then (c_block ?_)))
  refine c_loop2 (fun (i : Nat) (L : List UInt32) => [(1, I (k : Int)), (5, v12), (13, v), (14, I (l.length : Int)), (15, I (i : Int))]) (fun (i : Nat) (L : List UInt32) w' => OwnW w.heap.size L v12 w' ∧ Ext w w' ∧ i ≤ l.length ∧ L.length = l.length + 1 ∧ val (L.take (i + 1)) = val (l.take i) * 2 ^ k ∧ ∀ h : i < L.length, L[i].toNat < 2 ^ k) (fun (i : Nat) (L : List UInt32) => l.length - i) (0) (List.replicate (l.length + 1) 0) ⟨rfl, rfl, rfl, rfl, rfl, trivial⟩ ⟨o12, x12, by simp, by simp, by simp [val], fun _ => by simp; exact Nat.pow_pos (by omega)⟩ ?_
  rintro i L w3 ⟨oL, e3, hi, hL, hval, hc⟩
  refine c_seq (c_region (o_bin rfl rfl rfl (r_lss_i) (o_nil (n_then (c_seq ?_)))))
  refine c_if rfl (fun h16 => ?_) (fun h16 => ?_)
  · refine c_skip (n_then (c_seq (c_block (c_seq (c_region (o_move rfl rfl ?_))))))
    obtain ⟨a18, p18, q18⟩ := r_ixW Try.underlying33 (hv.ext e3) (i := i) (by omega) .i64
    refine o_indexAddr rfl rfl rfl (p18 _) (o_load rfl rfl (r_load1 Try.underlying79 rfl q18) (o_assign rfl rfl (o_assign rfl rfl (o_nil (n_then (c_seq (c_region (o_move rfl rfl ?_))))))))
    refine o_conv rfl rfl (r_u32_u64 Try.underlying79 Try.underlying31) (o_move rfl rfl (o_bin rfl rfl rfl (r_shl_u64 (k) (by omega)) (o_assign rfl rfl ?_)))
    refine o_nil (n_then (c_seq (c_region (o_move rfl rfl (o_move rfl rfl ?_)))))
    obtain ⟨a26, p26, q26⟩ := r_ixW Try.underlying33 oL.wds (i := i) (by omega) .i64
    refine o_indexAddr rfl rfl rfl (p26 _) (o_load rfl rfl (r_load1 Try.underlying79 rfl q26) (o_move rfl rfl (o_conv rfl rfl (r_u64_u32 Try.underlying31 Try.underlying79) ?_)))
    refine o_bin rfl rfl rfl (r_or_u32) ?_
    obtain ⟨g31, w31, p31, s31, o31, q31, hb31, c31, ob31⟩ := (oL).setW Try.underlying33 (i := i) (by omega) (L[i]'(by omega) ||| (l[i].toUInt64 <<< UInt64.ofNat k).toUInt32)
    refine o_indexAddr rfl rfl rfl (p31 _) (o_store rfl rfl s31 ?_)
    have x31 := Ext.of_new (e3) q31 hb31
    refine o_nil (n_then (c_region (o_move rfl rfl (o_move rfl rfl (o_bin (r := I ((i + 1 : Nat) : Int)) rfl rfl rfl (by have e : ((i + 1 : Nat) : Int) = (i : Int) + 1 := (by omega); rw [e]; exact r_add_i (by omega) (by omega)) ?_)))))
    refine o_move rfl rfl (o_bin rfl rfl rfl (r_shr_u64 32 (by omega)) (o_conv rfl rfl (r_u64_u32 Try.underlying31 Try.underlying79) ?_))
    obtain ⟨g38, w38, p38, s38, o38, q38, hb38, c38, ob38⟩ := (o31).setW Try.underlying33 (i := (i + 1)) (by simp; omega) ((l[i].toUInt64 <<< UInt64.ofNat k >>> UInt64.ofNat 32).toUInt32)
    refine o_indexAddr rfl rfl rfl (p38 _) (o_store rfl rfl s38 ?_)
    have x38 := Ext.of_new (x31) q38 hb38
    refine o_nil (n_block (n_then (c_region (o_bin (r := I ((i + 1 : Nat) : Int)) rfl rfl rfl (by have e : ((i + 1 : Nat) : Int) = (i : Int) + 1 := (by omega); rw [e]; exact r_add_i (by omega) (by omega)) ?_))))
    refine o_move rfl rfl (o_nil ?_)
    have st := left_step hk (show i < l.length by omega) rfl hL hval (hc (by omega))
    refine n_round2 (i + 1) (_) ⟨rfl, rfl, rfl, rfl, rfl, trivial⟩ ⟨o38, x38, by show i + 1 ≤ _; omega, by simpa using hL, st.1, fun _ => by simpa using st.2⟩ (by show l.length - (i + 1) < l.length - i; omega)
  · refine c_exit (x_then (x_then (x_here (n_then (c_seq (c_region (o_move rfl rfl (o_assign rfl rfl (o_nil (n_then (c_ret (r_body1 rfl rfl ?_))))))))))))
    exact ⟨_, rfl, e3, L, oL, hL, by
      obtain rfl : i = l.length := by omega
      rw [List.take_of_length_le (by omega), List.take_length] at hval
      exact hval⟩
theorem NShort_spec {w : World} {l : List UInt32} {v : Value} {d : UInt32} (hv : Wds l v w) (hl : l.length ≤ 1099511627776) (hd : 0 < d.toNat) :
    Calls Try.prog 97 #[v, U32 d] w (Ret fun r w' => Ext w w' ∧ ∃ q s, r = .tuple #[q, s] ∧ Wds (lb (val l / d.toNat)) q w' ∧ Wds (lb (val l % d.toNat)) s w') := by
  refine enter (vs := [v, U32 d]) Try.func97 rfl rfl rfl ?_
  have hd0 : d.toUInt64 ≠ 0 := fun h => by
    have := congrArg UInt64.toNat h
    rw [n_64] at this
    simp at this
    omega
  refine c_seq (c_region (o_assign rfl rfl (o_assign rfl rfl (o_nil (n_then (c_seq (c_region (o_move rfl rfl (o_len rfl rfl (r_lenW Try.underlying33 hv) ?_)))))))))
  obtain ⟨v11, w11, hr11, x11, o11, ob11⟩ := r_mkW Try.underlying33 (w := w) w.heap.size (n := l.length) (by omega) (Nat.le_refl _)
  refine o_makeSlice rfl rfl rfl hr11 (o_assign rfl rfl (o_nil (n_then (c_seq (c_region (o_assign rfl rfl (o_nil (n_then (c_seq (c_seq (c_region (o_move rfl rfl (o_len rfl rfl (r_lenW Try.underlying33 (hv.ext x11)) ?_)))))))))))))
  refine o_bin rfl rfl rfl (r_sub_i (by omega) (by omega)) (o_assign rfl rfl (o_nil (n_then (c_block ?_))))
  refine c_loop3 (fun (k : Nat) (L : List UInt32) (r : UInt64) => [(0, v), (1, U32 d), (6, v11), (7, U64 r), (8, I ((k : Int) - 1))]) (fun (k : Nat) (L : List UInt32) (r : UInt64) w' => OwnW w.heap.size L v11 w' ∧ Ext w w' ∧ k ≤ l.length ∧ L.length = l.length ∧ val (L.drop k) * d.toNat + r.toNat = val (l.drop k) ∧ r.toNat < d.toNat) (fun (k : Nat) (L : List UInt32) (r : UInt64) => k) (l.length) (List.replicate l.length 0) (0) ⟨rfl, rfl, rfl, rfl, rfl, trivial⟩ ⟨o11, x11, Nat.le_refl _, by simp, by simp [List.drop_of_length_le, val], hd⟩ ?_
  rintro k L r w4 ⟨oL, e4, hk, hL, hval, hr⟩
  refine c_seq (c_seq (c_region (o_move rfl rfl (o_bin rfl rfl rfl (r_geq_i) (o_nil (n_then ?_))))))
  refine c_if rfl (fun h16 => ?_) (fun h16 => ?_)
  · obtain ⟨j, rfl⟩ : ∃ j, k = j + 1 := ⟨k - 1, by omega⟩
    have e : ((j + 1 : Nat) : Int) - 1 = (j : Int) := by omega
    rw [e]
    have st := short_step hd (show j < l.length by omega) hL hval hr
    refine c_skip (n_then (c_seq (c_block (c_seq (c_region (o_move rfl rfl (o_bin rfl rfl rfl (r_shl_u64 32 (by omega)) (o_move rfl rfl (o_move rfl rfl ?_)))))))))
    obtain ⟨a23, p23, q23⟩ := r_ixW Try.underlying33 (hv.ext e4) (i := j) (by omega) .i64
    refine o_indexAddr rfl rfl rfl (p23 _) (o_load rfl rfl (r_load1 Try.underlying79 rfl q23) (o_conv rfl rfl (r_u32_u64 Try.underlying79 Try.underlying31) ?_))
    refine o_bin rfl rfl rfl (r_or_u64) (o_assign rfl rfl (o_nil (n_then (c_seq (c_region (o_move rfl rfl (o_move rfl rfl (o_move rfl rfl (o_move rfl rfl (o_conv rfl rfl (r_u32_u64 Try.underlying79 Try.underlying31) ?_))))))))))
    refine o_bin rfl rfl rfl (r_quo_u64 hd0) (o_conv rfl rfl (r_u64_u32 Try.underlying31 Try.underlying79) ?_)
    obtain ⟨g34, w34, p34, s34, o34, q34, hb34, c34, ob34⟩ := (oL).setW Try.underlying33 (i := j) (by omega) (((r <<< UInt64.ofNat 32 ||| l[j].toUInt64) / d.toUInt64).toUInt32)
    refine o_indexAddr rfl rfl rfl (p34 _) (o_store rfl rfl s34 ?_)
    have x34 := Ext.of_new (e4) q34 hb34
    refine o_nil (n_then (c_region (o_move rfl rfl (o_move rfl rfl (o_conv rfl rfl (r_u32_u64 Try.underlying79 Try.underlying31) (o_bin rfl rfl rfl (r_rem_u64 hd0) ?_))))))
    refine o_assign rfl rfl (o_nil (n_block (n_then (c_region (o_move rfl rfl (o_bin rfl rfl rfl (r_sub_i (by omega) (by omega)) (o_assign rfl rfl (o_nil ?_))))))))
    refine n_round3 (j) (_) ((r <<< UInt64.ofNat 32 ||| l[j].toUInt64) % d.toUInt64) ⟨rfl, rfl, rfl, rfl, rfl, trivial⟩ ⟨o34, x34, by show j ≤ _; omega, by simpa using hL, st.1, st.2⟩ (by show j < j + 1; omega)
  · refine c_exit (x_then (x_then (x_here (n_then (c_seq (c_region ?_))))))
    obtain rfl : k = 0 := by omega
    rw [List.drop_zero, List.drop_zero] at hval
    have hq : val l / d.toNat = val L := by rw [← hval, Nat.mul_comm, Nat.mul_add_div hd, Nat.div_eq_of_lt hr, Nat.add_zero]
    have hm : val l % d.toNat = r.toNat := by rw [← hval, Nat.mul_comm, Nat.mul_add_mod, Nat.mod_eq_of_lt hr]
    refine o_move rfl rfl (o_call call_trim rfl rfl (trim_spec oL.wds) ?_)
    rintro v40 _ ⟨rfl, b40⟩
    refine o_move rfl rfl (o_call call_NOf rfl rfl (NOf_spec) ?_)
    rintro v42 w42 ⟨x42, b42⟩
    refine o_assign rfl rfl (o_assign rfl rfl (o_nil (n_then (c_ret (r_body2 rfl rfl rfl ?_)))))
    exact ⟨_, rfl, (e4.trans x42), _, _, rfl, by rw [hq]; exact b40.ext x42, by rw [hm]; exact b42⟩
end Go.Rl


/- Walks of relucertref01.DivMod and Gcd, and of natural.Gcd. Conditions: the divisor is not 0; the numbers are shorter than 2^38 limbs. -/
import Derived.Test.YtifjnhdnpglbpaaR1
import Derived.Test.YtifjnhdnpglbpaaN6
namespace Go.Rl
open Go.RowKit Go.Proofs
theorem call_RDivMod : Callable Try.prog 75 := ⟨_, Try.func75, by kernel_rfl, rfl⟩
theorem call_RGcd : Callable Try.prog 74 := ⟨_, Try.func74, by kernel_rfl, rfl⟩
theorem call_NGcd : Callable Try.prog 89 := ⟨_, Try.func89, by kernel_rfl, rfl⟩
theorem lb_len_lt {n m : Nat} (h : n ≤ m) : (lb n).length ≤ (lb m).length := by
  rcases Nat.lt_or_ge (lb m).length (lb n).length with h1 | h1
  · have := len_lt h1; omega
  · exact h1
theorem shl_zero {v t i : Nat} (h : v = 2 ^ (i + 1) * t) : v = 2 ^ i * (2 * t) := by rw [h, Nat.pow_succ, Nat.mul_assoc]
theorem RDivMod_spec {w : World} {l m : List UInt32} {v u : Value} (hv : Wds l v w) (hu : Wds m u w) (hl : l.length ≤ 274877906944) (hml : m.length ≤ 274877906944) (hm : 0 < val m) :
    Calls Try.prog 75 #[v, u] w (Ret fun r w' => Ext w w' ∧ ∃ q s, r = .tuple #[q, s, I 0] ∧ Wds (lb (val l / val m)) q w' ∧ Wds (lb (val l % val m)) s w') := by
  refine enter (vs := [v, u]) Try.func75 rfl rfl rfl ?_
  refine c_seq (c_region (o_assign rfl rfl (o_assign rfl rfl (o_assign rfl rfl (o_nil (n_then (c_seq (c_region (o_move rfl rfl (o_call call_RUint rfl rfl (RUint_spec hv (by omega)) ?_))))))))))
  rintro v16 w16 ⟨x16, hcx⟩
  obtain ⟨x, bx, rfl, hbx⟩ : ∃ (x : UInt64) (bx : Bool), v16 = .tuple #[U64 x, B bx] ∧ (bx = true → x.toNat = val l) := by
    rcases hcx with ⟨_, rfl⟩ | ⟨x, hx, rfl⟩
    · exact ⟨0, false, rfl, fun h => by cases h⟩
    · exact ⟨x, true, rfl, fun _ => hx⟩
  refine o_move rfl rfl (o_extract rfl rfl r_ext0 (o_extract rfl rfl (r_ext1) (o_assign rfl rfl (o_assign rfl rfl (o_nil (n_then (c_seq (c_region (o_move rfl rfl (o_call call_RUint rfl rfl (RUint_spec (hu.ext x16) (by omega)) ?_))))))))))
  rintro v21 w21 ⟨x21, hcy⟩
  obtain ⟨y, bY, rfl, hby⟩ : ∃ (y : UInt64) (bY : Bool), v21 = .tuple #[U64 y, B bY] ∧ (bY = true → y.toNat = val m) := by
    rcases hcy with ⟨_, rfl⟩ | ⟨y, hy, rfl⟩
    · exact ⟨0, false, rfl, fun h => by cases h⟩
    · exact ⟨y, true, rfl, fun _ => hy⟩
  refine o_move rfl rfl (o_extract rfl rfl r_ext0 (o_extract rfl rfl (r_ext1) ?_))
  have hy0 : bY = true → ¬ y = 0 := fun h h0 => by
    have := hby h
    rw [h0] at this
    have e : (0 : UInt64).toNat = 0 := rfl
    omega
  refine o_assign rfl rfl (o_assign rfl rfl (o_nil (n_then (c_seq ?_))))
  refine c_cut (fun _ : Unit => [(0, v), (1, u), (7, U64 x), (8, B bx), (9, U64 y), (10, B bY)]) (fun _ w' => w21 = w') ?_ ?_
  · refine c_seq ?_
    cases bY
    · refine c_region (o_move rfl rfl (o_move rfl rfl (g_no rfl rfl rfl (g_no rfl rfl rfl (o_pick_f rfl rfl rfl (o_nil (n_then (c_no rfl (c_skip ?_)))))))))
      exact n_meet () ⟨rfl, rfl, rfl, rfl, rfl, rfl, trivial⟩ rfl
    · refine c_region (o_move rfl rfl (o_move rfl rfl (g_yes rfl (o_move rfl rfl (g_yes rfl (o_bin (v := U64 0) rfl rfl rfl (dec_f (hy0 rfl) r_eql_u64) (o_pick_t rfl rfl rfl (o_nil ?_))))))))
      refine n_then (c_no rfl (c_skip ?_))
      exact n_meet () ⟨rfl, rfl, rfl, rfl, rfl, rfl, trivial⟩ rfl
  rintro ⟨⟩ _ rfl
  refine n_then (c_seq ?_)
  refine c_cut (fun _ : Unit => [(0, v), (1, u)]) (fun _ w' => w21 = w') ?_ ?_
  · refine c_seq ?_
    rcases bx with _ | _ <;> rcases bY with _ | _
    · refine c_region (o_move rfl rfl (o_move rfl rfl (g_no rfl rfl rfl (o_pick_f rfl rfl rfl (o_nil (n_then (c_no rfl (c_skip ?_))))))))
      exact n_meet () ⟨rfl, rfl, trivial⟩ rfl
    · refine c_region (o_move rfl rfl (o_move rfl rfl (g_no rfl rfl rfl (o_pick_f rfl rfl rfl (o_nil (n_then (c_no rfl (c_skip ?_))))))))
      exact n_meet () ⟨rfl, rfl, trivial⟩ rfl
    · refine c_region (o_move rfl rfl (o_move rfl rfl (g_yes rfl (o_move rfl rfl (o_pick_t rfl rfl rfl (o_nil (n_then (c_no rfl (c_skip ?_)))))))))
      exact n_meet () ⟨rfl, rfl, trivial⟩ rfl
    · have hx := hbx rfl
      have hy := hby rfl
      have hyn := hy0 rfl
      refine c_region (o_move rfl rfl (o_move rfl rfl (g_yes rfl (o_move rfl rfl (o_pick_t rfl rfl rfl (o_nil (n_then (c_yes rfl (c_seq (c_grow 10 [4, 5] (by kernel_rfl) (by kernel_rfl) ?_))))))))))
      refine f_move rfl rfl (f_move rfl rfl (f_bin rfl rfl rfl (fun w _ => r_quo_u64 hyn) (f_call (S := Wds (lb (val l / val m))) call_ROf (Wds.stable _) rfl (fun w hw => by rintro _ rfl; exact Ret.mono ROf_spec fun v w' h => ⟨h.1, by have := h.2; rwa [UInt64.toNat_div, hx, hy] at this⟩) ?_)))
      refine f_move rfl rfl (f_move rfl rfl (f_bin rfl rfl rfl (fun w _ => r_rem_u64 hyn) (f_call (S := Wds (lb (val l % val m))) call_ROf (Wds.stable _) rfl (fun w hw => by rintro _ rfl; exact Ret.mono ROf_spec fun v w' h => ⟨h.1, by have := h.2; rwa [UInt64.toNat_mod, hx, hy] at this⟩) ?_)))
      refine f_assign rfl rfl (f_assign rfl rfl (f_nil ?_))
      intro wg6 xg6
      intro vg4 b4
      intro vg5 b5
      refine o_assign rfl rfl (o_nil (n_then (c_ret (r_then (r_body3 rfl rfl rfl rfl ?_)))))
      exact ⟨_, rfl, ((x16.trans x21).trans xg6), _, _, rfl, b4, b5⟩
  rintro ⟨⟩ _ rfl
  refine n_then (c_seq (c_region (o_move rfl rfl (o_len rfl rfl (r_lenW Try.underlying33 (hv.ext (x16.trans x21))) ?_))))
  obtain ⟨v43, w43, hr43, x43, o43, ob43⟩ := r_mkW Try.underlying32 (w := w21) w21.heap.size (n := l.length) (by omega) (Nat.le_refl _)
  refine o_makeSlice rfl rfl rfl hr43 ?_
  obtain ⟨v44, w44, hr44, x44, o44, ob44⟩ := r_bsW Try.underlying33 (w := w43) w43.heap.size [] (by simp) (Nat.le_refl _)
  refine o_buildSlice (vs := []) rfl rfl hr44 (o_assign rfl rfl (o_assign rfl rfl (o_nil (n_then (c_seq (c_seq (c_region (o_move rfl rfl (o_call call_RBits rfl rfl (RBits_spec (hv.ext (((x16.trans x21).trans x43).trans x44)) (by omega)) ?_)))))))))
  rintro v46 w46 ⟨x46, rfl⟩
  have hbl : bl (val l) ≤ 32 * l.length := bl_le (by have := val_lt l; rwa [show (4294967296 : Nat) ^ l.length = 2 ^ (32 * l.length) by rw [Nat.pow_mul]] at this)
  have hb0 : val l / 2 ^ bl (val l) = 0 := by
    rcases Nat.eq_zero_or_pos (val l) with h | h
    · rw [h]; simp
    · exact Nat.div_eq_of_lt (bl_spec h).2
  refine o_bin rfl rfl rfl (r_sub_i (by omega) (by omega)) (o_assign rfl rfl (o_nil (n_then (c_block ?_))))
  refine c_loop3 (fun (j : Nat) (O : List UInt32) (vr : Value) => [(0, v), (1, u), (11, v43), (12, vr), (13, I ((j : Int) - 1))]) (fun (j : Nat) (O : List UInt32) (vr : Value) w' => Ext w w' ∧ OwnW w21.heap.size O v43 w' ∧ O.length = l.length ∧ Wds (lb (val l / 2 ^ j % val m)) vr w' ∧ j ≤ bl (val l) ∧ val O = 2 ^ j * (val l / 2 ^ j / val m)) (fun (j : Nat) (O : List UInt32) (vr : Value) => j) (bl (val l)) (List.replicate l.length 0) (v44) ⟨rfl, rfl, rfl, rfl, rfl, trivial⟩ ⟨((((x16.trans x21).trans x43).trans x44).trans x46), (o43.ext x44).ext x46, by simp, by rw [hb0, Nat.zero_mod]; exact (o44.ext x46).wds, Nat.le_refl _, by rw [hb0]; simp [val_zeros]⟩ ?_
  rintro j O vr w9 ⟨e9, oq, hO, br, hj, hq⟩
  refine c_seq (c_seq (c_region (o_move rfl rfl (o_bin rfl rfl rfl (r_geq_i) (o_nil (n_then ?_))))))
  refine c_if rfl (fun h49 => ?_) (fun h49 => ?_)
  · obtain ⟨i, rfl⟩ : ∃ i, j = i + 1 := ⟨j - 1, by omega⟩
    have e : ((i + 1 : Nat) : Int) - 1 = (i : Int) := by omega
    rw [e]
    have hib : i / 32 < l.length := by omega
    have hrl : (lb (val l / 2 ^ (i + 1) % val m)).length ≤ m.length := Nat.le_trans (lb_len_lt (Nat.le_of_lt (Nat.mod_lt _ hm))) (lb_lt (val_lt m))
    obtain ⟨rd1, rd2, rd3⟩ := rdiv_round (N := val l) (i := i) hm
    refine c_skip (n_then (c_seq (c_block (c_seq (c_region (o_move rfl rfl ?_))))))
    have hVl := val_lt m
    have hxl := Nat.mod_lt (val l / 2 ^ (i + 1)) hm
    have h2l : ∀ b, b ≤ 1 → (lb (2 * (val l / 2 ^ (i + 1) % val m) + b)).length ≤ m.length + 1 := fun b hb => lb_lt (by have e : (4294967296 : Nat) ^ (m.length + 1) = 4294967296 ^ m.length * 4294967296 := Nat.pow_succ ..; rw [e]; have := bpow m.length; omega)
    refine o_call call_RShl rfl rfl (RShl_spec (k := 1) br (by omega) (by omega)) ?_
    rintro v53 w53 ⟨x53, b53⟩
    refine o_assign rfl rfl (o_nil (n_then (c_seq (c_region (o_move rfl rfl (o_move rfl rfl (o_move rfl rfl (o_bin (r := I ((i / 32 : Nat) : Int)) rfl rfl rfl (by have e : ((i / 32 : Nat) : Int) = (i : Int) / 32 := (by omega); rw [e]; exact r_quo_i (by omega) (by omega) (by omega)) ?_))))))))
    obtain ⟨a58, p58, q58⟩ := r_ixW Try.underlying33 (hv.ext (e9.trans x53)) (i := (i / 32 : Nat)) (by omega) .i64
    refine o_indexAddr rfl rfl rfl (p58 _) (o_load rfl rfl (r_load1 Try.underlying79 rfl q58) (o_move rfl rfl (o_bin (r := I ((i % 32 : Nat) : Int)) rfl rfl rfl (by have e : ((i % 32 : Nat) : Int) = (i : Int) % 32 := (by omega); rw [e]; exact r_rem_i (by omega) (by omega)) ?_)))
    refine o_bin rfl rfl rfl (r_shr_u32 ((i % 32 : Nat)) (by omega)) (o_bin (v := U32 1) rfl rfl rfl (r_and_u32) ?_)
    obtain ⟨v64, w64, hr64, x64, o64, ob64⟩ := r_bsW Try.underlying33 (w := w53) w53.heap.size [((((((l[(i / 32 : Nat)])) >>> UInt32.ofNat ((i % 32 : Nat)))) &&& (1)))] (by simp) (Nat.le_refl _)
    refine o_buildSlice (vs := [(0, U32 (((((((l[(i / 32 : Nat)])) >>> UInt32.ofNat ((i % 32 : Nat)))) &&& (1)))))]) rfl rfl hr64 (o_call call_RAdd rfl rfl (RAdd_spec (b53.ext x64) o64.wds (by rw [val_lb, Nat.pow_one, Nat.mul_comm]; have := h2l 0 (by omega); rw [Nat.add_zero] at this; omega) (by simp)) ?_)
    rintro v65 w65 ⟨x65, b65⟩
    rw [val_lb, val_lb, val_one, bit_of hib, Nat.pow_one, Nat.mul_comm] at b65
    have x6 := (x53.trans x64).trans x65
    refine o_assign rfl rfl (o_nil (n_then (c_seq (c_region (o_move rfl rfl (o_move rfl rfl (o_call call_RCmp rfl rfl (RCmp_spec b65 (hu.ext (((e9.trans x53).trans x64).trans x65))) ?_)))))))
    rintro v68 _ ⟨rfl, rfl⟩
    refine o_bin rfl rfl rfl (r_geq_i) (o_nil (n_then ?_))
    refine c_if rfl (fun h69 => ?_) (fun h69 => ?_)
    · have hle : val m ≤ val (lb (2 * (val l / 2 ^ (i + 1) % val m) + val l / 2 ^ i % 2)) := Nat.le_of_not_lt fun h => by have := cmpN_neg.2 h; omega
      refine c_seq (c_region (o_move rfl rfl (o_move rfl rfl (o_call call_RSub rfl rfl (RSub_spec b65 (hu.ext (((e9.trans x53).trans x64).trans x65)) (by have := h2l (val l / 2 ^ i % 2) (by omega); omega) hle) ?_))))
      rintro v73 w73 ⟨x73, d73, rfl, b73⟩
      rw [val_lb] at b73 hle
      obtain ⟨rm, rq⟩ := rd2 hle
      rw [← rm] at b73
      have oq73 := (oq.ext x6).ext x73
      obtain ⟨g85, _, p85, _, _, _, _, _, ob85⟩ := oq73.setW Try.underlying32 (i := i / 32) (by omega) (O[i / 32]'(by omega) ||| (1 : UInt32) <<< UInt32.ofNat (i % 32))
      refine o_move rfl rfl (o_extract rfl rfl (r_ext0) (o_extract rfl rfl r_ext1 (o_assign rfl rfl (o_nil (n_then (c_grow 10 [0, 1, 11, 12, 13, 84, 85] (by kernel_rfl) (by kernel_rfl) ?_))))))
      refine f_move rfl rfl (f_move rfl rfl (f_bin (r := I ((i / 32 : Nat) : Int)) rfl rfl rfl (fun w _ => by have e : ((i / 32 : Nat) : Int) = (i : Int) / 32 := (by omega); rw [e]; exact r_quo_i (by omega) (by omega) (by omega)) ?_))
      obtain ⟨a79, p79, q79⟩ := r_ixW Try.underlying32 oq73.wds (i := (i / 32 : Nat)) (by omega) .i64
      refine f_indexAddr rfl rfl rfl (fun w _ => p79 w) (f_load rfl rfl (fun w hw => r_load1 Try.underlying79 rfl (hw.cell_some q79)) (f_move rfl rfl (f_bin (r := I ((i % 32 : Nat) : Int)) rfl rfl rfl (fun w _ => by have e : ((i % 32 : Nat) : Int) = (i : Int) % 32 := (by omega); rw [e]; exact r_rem_i (by omega) (by omega)) ?_)))
      refine f_bin (u := U32 1) rfl rfl rfl (fun w _ => r_shl_u32 ((i % 32 : Nat)) (by omega)) (f_bin rfl rfl rfl (fun w _ => r_or_u32) (f_indexAddr rfl rfl rfl (fun w hw => p85 w) ?_))
      refine f_nil ?_
      intro wg15 xg15
      rintro _ hq0
      obtain rfl := Eq.symm hq0
      rintro _ hq1
      obtain rfl := Eq.symm hq1
      rintro _ hq11
      obtain rfl := Eq.symm hq11
      rintro _ hq12
      obtain rfl := Eq.symm hq12
      rintro _ rfl
      rintro _ rfl
      rintro _ rfl
      obtain ⟨g', w', p', s', o', q', hb', c', ob'⟩ := (oq73.ext xg15).setW Try.underlying32 (i := i / 32) (by omega) (O[i / 32]'(by omega) ||| (1 : UInt32) <<< UInt32.ofNat (i % 32))
      obtain rfl : g85 = g' := Option.some.inj (ob85.symm.trans ob')
      refine o_store rfl rfl (s') ?_
      have x15 := (((e9.trans x6).trans x73).trans xg15).of_new q' (by have := x16.size; have := x21.size; omega)
      have sb := setbit (a := O) (i := i) (by omega) hq
      have br' := ((b73.ext xg15).kept q' (.inr (b73.off (by have := oq.lt _ ob85; have := x6.size; omega)))).wds
      refine o_nil (n_block (n_then (c_region (o_move rfl rfl (o_bin rfl rfl rfl (r_sub_i (by omega) (by omega)) (o_assign rfl rfl (o_nil ?_)))))))
      refine n_round3 (i) (_) (d73) ⟨rfl, rfl, rfl, rfl, rfl, trivial⟩ ⟨x15, o', by simpa using hO, br', by omega, by rw [sb, hq, rq, Nat.pow_succ, Nat.mul_assoc, Nat.mul_add, Nat.mul_one]⟩ (by omega)
    · have hlt : 2 * (val l / 2 ^ (i + 1) % val m) + val l / 2 ^ i % 2 < val m := by
        rcases Nat.lt_or_ge (2 * (val l / 2 ^ (i + 1) % val m) + val l / 2 ^ i % 2) (val m) with h | h
        · exact h
        · refine absurd ?_ h69
          rw [val_lb]
          have : ¬ cmpN (2 * (val l / 2 ^ (i + 1) % val m) + val l / 2 ^ i % 2) (val m) < 0 := fun h' => by have := cmpN_neg.1 h'; omega
          omega
      obtain ⟨rm, rq⟩ := rd3 hlt
      rw [← rm] at b65
      refine c_skip (n_block (n_then (c_region (o_move rfl rfl (o_bin rfl rfl rfl (r_sub_i (by omega) (by omega)) (o_assign rfl rfl (o_nil ?_)))))))
      refine n_round3 (i) (O) (v65) ⟨rfl, rfl, rfl, rfl, rfl, trivial⟩ ⟨(((e9.trans x53).trans x64).trans x65), oq.ext x6, hO, b65, by omega, by rw [hq, rq, Nat.pow_succ, Nat.mul_assoc]⟩ (by omega)
  · refine c_exit (x_then (x_then (x_here (n_then (c_seq ?_)))))
    obtain rfl : j = 0 := by omega
    rw [Nat.pow_zero, Nat.div_one, Nat.one_mul] at hq
    rw [Nat.pow_zero, Nat.div_one] at br
    refine c_region (o_move rfl rfl (o_call call_RMake rfl rfl (RMake_spec oq.wds (by omega)) ?_))
    rintro v87 w87 ⟨x87, b87⟩
    refine o_move rfl rfl (o_assign rfl rfl (o_assign rfl rfl (o_assign rfl rfl (o_nil (n_then (c_ret (r_body3 rfl rfl rfl rfl ?_)))))))
    exact ⟨_, rfl, (e9.trans x87), _, _, rfl, by rw [← hq]; exact b87, br.ext x87⟩
theorem RGcd_spec {w : World} {l m : List UInt32} {v u : Value} (hv : Wds l v w) (hu : Wds m u w) (hl : l.length ≤ 274877906944) (hml : m.length ≤ 274877906944) :
    Calls Try.prog 74 #[v, u] w (Ret fun r w' => Ext w w' ∧ Wds (lb (Nat.gcd (val l) (val m))) r w') := by
  refine enter (vs := [v, u]) Try.func74 rfl rfl rfl ?_
  have hll := lb_lt (val_lt l)
  have hmm := lb_lt (val_lt m)
  refine c_seq (c_region (o_assign rfl rfl (o_nil (n_then (c_seq (c_region (o_move rfl rfl (o_call call_RMake rfl rfl (RMake_spec hv (by omega)) ?_))))))))
  rintro v9 w9 ⟨x9, b9⟩
  refine o_move rfl rfl (o_call call_RMake rfl rfl (RMake_spec (hu.ext x9) (by omega)) ?_)
  rintro v11 w11 ⟨x11, b11⟩
  refine o_assign rfl rfl (o_assign rfl rfl (o_nil (n_then (c_seq (c_block ?_)))))
  refine c_loop4 (fun (a : Nat) (b : Nat) (va : Value) (vb : Value) => [(0, va), (1, vb)]) (fun (a : Nat) (b : Nat) (va : Value) (vb : Value) w' => Ext w w' ∧ Wds (lb a) va w' ∧ Wds (lb b) vb w' ∧ Nat.gcd a b = Nat.gcd (val l) (val m) ∧ (lb a).length ≤ 274877906944 ∧ (lb b).length ≤ 274877906944) (fun (a : Nat) (b : Nat) (va : Value) (vb : Value) => b) (val l) (val m) (v9) (v11) ⟨rfl, rfl, trivial⟩ ⟨(x9.trans x11), b9.ext x11, b11, rfl, by omega, by omega⟩ ?_
  rintro a b va vb w2 ⟨e2, ha, hb, hg, hla, hlb⟩
  refine c_seq (c_seq (c_region (o_move rfl rfl (o_len (r := I ((lb b).length : Int)) rfl rfl (r_lenW Try.underlying33 hb) (o_bin rfl rfl rfl (r_gtr_i) ?_)))))
  refine o_nil (n_then ?_)
  refine c_if rfl (fun h14 => ?_) (fun h14 => ?_)
  · have hb0 : 0 < b := by
      rcases Nat.eq_zero_or_pos b with h | h
      · subst h; simp [lb_zero] at h14
      · exact h
    refine c_skip (n_then (c_block (c_seq (c_region (o_move rfl rfl (o_move rfl rfl (o_call call_RDivMod rfl rfl (RDivMod_spec ha hb (by omega) (by omega) (by rw [val_lb]; exact hb0)) ?_)))))))
    rintro v18 w18 ⟨x18, q, r, rfl, bq, br⟩
    rw [val_lb, val_lb] at br
    refine o_move rfl rfl (o_extract rfl rfl r_ext3_0 (o_extract rfl rfl (r_ext3_1) (o_extract rfl rfl r_ext3_2 (o_assign rfl rfl (o_assign rfl rfl (o_assign rfl rfl (o_nil (n_then ?_))))))))
    refine c_region (o_move rfl rfl (o_move rfl rfl (o_assign rfl rfl (o_assign rfl rfl (o_nil (n_block ?_))))))
    refine n_round4 (b) (a % b) (vb) (r) ⟨rfl, rfl, trivial⟩ ⟨(e2.trans x18), hb.ext x18, br, by rw [← hg, Nat.gcd_comm b, ← Nat.gcd_rec, Nat.gcd_comm], hlb, Nat.le_trans (lb_len_lt (Nat.le_of_lt (Nat.mod_lt a hb0))) hlb⟩ (Nat.mod_lt a hb0)
  · refine c_exit (x_then (x_then (x_here (n_then (c_seq (c_region (o_move rfl rfl (o_assign rfl rfl (o_nil (n_then (c_ret (r_body1 rfl rfl ?_))))))))))))
    exact ⟨_, rfl, e2, by
      have hb0 : b = 0 := by
        refine lb_len0.1 ?_
        omega
      rw [← hg, hb0, Nat.gcd_zero_right]; exact ha⟩
theorem NGcd_spec {w : World} {l m : List UInt32} {v u : Value} (hv : Wds l v w) (hu : Wds m u w) (hl : l.length ≤ 274877906944) (hml : m.length ≤ 274877906944) :
    Calls Try.prog 89 #[v, u] w (Ret fun r w' => Ext w w' ∧ Wds (lb (Nat.gcd (val l) (val m))) r w') := by
  refine enter (vs := [v, u]) Try.func89 rfl rfl rfl ?_
  have hll := lb_lt (val_lt l)
  have hmm := lb_lt (val_lt m)
  refine c_seq (c_region (o_assign rfl rfl (o_nil (n_then (c_seq (c_region (o_move rfl rfl (o_call call_trim rfl rfl (trim_spec hv) ?_))))))))
  rintro v16 _ ⟨rfl, b16⟩
  refine o_move rfl rfl (o_call call_trim rfl rfl (trim_spec hu) ?_)
  rintro v18 _ ⟨rfl, b18⟩
  refine o_assign rfl rfl (o_assign rfl rfl (o_nil (n_then (c_seq (c_block ?_)))))
  refine c_loop4 (fun (a : Nat) (b : Nat) (va : Value) (vb : Value) => [(0, va), (1, vb)]) (fun (a : Nat) (b : Nat) (va : Value) (vb : Value) w' => Ext w w' ∧ Wds (lb a) va w' ∧ Wds (lb b) vb w' ∧ Nat.gcd a b = Nat.gcd (val l) (val m) ∧ (lb a).length ≤ 274877906944 ∧ (lb b).length ≤ 274877906944) (fun (a : Nat) (b : Nat) (va : Value) (vb : Value) => b) (val l) (val m) (v16) (v18) ⟨rfl, rfl, trivial⟩ ⟨Ext.refl _, b16, b18, rfl, by omega, by omega⟩ ?_
  rintro a b va vb w2 ⟨e2, ha, hb, hg, hla, hlb⟩
  refine c_seq (c_seq (c_region (o_move rfl rfl (o_len (r := I ((lb b).length : Int)) rfl rfl (r_lenW Try.underlying33 hb) (o_bin rfl rfl rfl (r_gtr_i) ?_)))))
  refine o_nil (n_then ?_)
  refine c_if rfl (fun h21 => ?_) (fun h21 => ?_)
  · have hb0 : 0 < b := by
      rcases Nat.eq_zero_or_pos b with h | h
      · subst h; simp [lb_zero] at h21
      · exact h
    refine c_skip (n_then (c_block (c_seq (c_region (o_move rfl rfl (o_move rfl rfl (o_call call_NDivMod rfl rfl (NDivMod_spec ha hb (by omega) (by omega) (by rw [val_lb]; exact hb0)) ?_)))))))
    rintro v25 w25 ⟨x25, q, r, rfl, bq, br⟩
    rw [val_lb, val_lb] at br
    refine o_move rfl rfl (o_extract rfl rfl r_ext3_0 (o_extract rfl rfl (r_ext3_1) (o_extract rfl rfl r_ext3_2 (o_assign rfl rfl (o_assign rfl rfl (o_assign rfl rfl (o_nil (n_then ?_))))))))
    refine c_region (o_move rfl rfl (o_move rfl rfl (o_assign rfl rfl (o_assign rfl rfl (o_nil (n_block ?_))))))
    refine n_round4 (b) (a % b) (vb) (r) ⟨rfl, rfl, trivial⟩ ⟨(e2.trans x25), hb.ext x25, br, by rw [← hg, Nat.gcd_comm b, ← Nat.gcd_rec, Nat.gcd_comm], hlb, Nat.le_trans (lb_len_lt (Nat.le_of_lt (Nat.mod_lt a hb0))) hlb⟩ (Nat.mod_lt a hb0)
  · refine c_exit (x_then (x_then (x_here (n_then (c_seq (c_seq (c_region (o_move rfl rfl (o_len (r := I ((lb b).length : Int)) rfl rfl (r_lenW Try.underlying33 hb) ?_)))))))))
    refine o_bin rfl rfl rfl (r_eql_i) (o_nil (n_then ?_))
    refine c_if rfl (fun h33 => ?_) (fun h33 => ?_)
    · have hb0 : b = 0 := by
        refine lb_len0.1 ?_
        omega
      refine c_seq (c_region (o_move rfl rfl (o_call call_NMake rfl rfl (NMake_spec ha (by omega)) ?_)))
      rintro v35 w35 ⟨x35, b35⟩
      refine o_assign rfl rfl (o_nil (n_then (c_ret (r_then (r_body1 rfl rfl ?_)))))
      exact ⟨_, rfl, (e2.trans x35), by
        rw [val_lb] at b35
        rw [← hg, hb0, Nat.gcd_zero_right]; exact b35⟩
    · have hb0 : 0 < b := by
        rcases Nat.eq_zero_or_pos b with h | h
        · subst h; simp [lb_zero] at h33
        · exact h
      have hb64 : b < 18446744073709551616 := by
        have := val_lt (lb b)
        rw [val_lb] at this
        have h2 : (4294967296 : Nat) ^ (lb b).length ≤ 4294967296 ^ 2 := Nat.pow_le_pow_right (by omega) (by omega)
        omega
      refine c_skip (n_then (c_seq (c_region (o_move rfl rfl (o_move rfl rfl (o_call call_NDivMod rfl rfl (NDivMod_spec ha hb (by omega) (by omega) (by rw [val_lb]; exact hb0)) ?_))))))
      rintro v39 w39 ⟨x39, q, r, rfl, bq, br⟩
      rw [val_lb, val_lb] at br
      refine o_move rfl rfl (o_extract rfl rfl r_ext3_0 (o_extract rfl rfl (r_ext3_1) (o_extract rfl rfl r_ext3_2 (o_assign rfl rfl (o_assign rfl rfl (o_assign rfl rfl (o_nil (n_then ?_))))))))
      refine c_seq (c_region (o_move rfl rfl (o_call call_NUint rfl rfl (NUint_spec (hb.ext x39)) ?_)))
      rintro v45 _ ⟨rfl, hcx⟩
      obtain ⟨x, hx, rfl⟩ : ∃ x : UInt64, x.toNat = b ∧ v45 = .tuple #[U64 x, B true] := by
        rw [val_lb] at hcx
        rcases hcx with ⟨h, _⟩ | h
        · omega
        · exact h
      refine o_move rfl rfl (o_extract rfl rfl r_ext0 (o_extract rfl rfl r_ext1 (o_assign rfl rfl (o_assign rfl rfl (o_nil (n_then (c_seq (c_region (o_move rfl rfl (o_call call_NUint rfl rfl (NUint_spec br) ?_))))))))))
      rintro v50 _ ⟨rfl, hcy⟩
      obtain ⟨y, hy, rfl⟩ : ∃ y : UInt64, y.toNat = a % b ∧ v50 = .tuple #[U64 y, B true] := by
        have := Nat.mod_lt a hb0
        rw [val_lb] at hcy
        rcases hcy with ⟨h, _⟩ | h
        · omega
        · exact h
      refine o_move rfl rfl (o_extract rfl rfl r_ext0 (o_extract rfl rfl r_ext1 (o_assign rfl rfl (o_assign rfl rfl (o_nil (n_then (c_seq (c_block ?_))))))))
      refine c_loop2 (fun (x' : UInt64) (y' : UInt64) => [(11, U64 x'), (13, U64 y')]) (fun (x' : UInt64) (y' : UInt64) w' => Ext w w' ∧ Nat.gcd x'.toNat y'.toNat = Nat.gcd (val l) (val m)) (fun (x' : UInt64) (y' : UInt64) => y'.toNat) (x) (y) ⟨rfl, rfl, trivial⟩ ⟨(e2.trans x39), by rw [hx, hy, ← hg, Nat.gcd_comm b, ← Nat.gcd_rec, Nat.gcd_comm]⟩ ?_
      rintro x' y' w10 ⟨e10, hxy⟩
      refine c_seq (c_seq (c_region (o_move rfl rfl (o_bin (v := U64 0) rfl rfl rfl (r_gtr_u64) (o_nil (n_then ?_))))))
      refine c_if rfl (fun h54 => ?_) (fun h54 => ?_)
      · have hy0 : 0 < y'.toNat := gt64.1 h54
        have hyn : y' ≠ 0 := fun h => by
          rw [h] at hy0
          exact absurd hy0 (by decide)
        refine c_skip (n_then (c_block (c_grow 5 [11, 58] (by kernel_rfl) (by kernel_rfl) ?_)))
        refine f_move rfl rfl (f_move rfl rfl (f_move rfl rfl (f_bin rfl rfl rfl (fun w _ => r_rem_u64 hyn) (f_assign rfl rfl (f_nil ?_)))))
        intro wg11 xg11
        rintro _ rfl
        rintro _ rfl
        refine o_assign rfl rfl (o_nil (n_block ?_))
        refine n_round2 (y') (x' % y') ⟨rfl, rfl, trivial⟩ ⟨(e10.trans xg11), by rw [UInt64.toNat_mod, ← hxy, Nat.gcd_comm y'.toNat, ← Nat.gcd_rec, Nat.gcd_comm]⟩ (by rw [UInt64.toNat_mod]; exact Nat.mod_lt _ hy0)
      · have hy0 : y'.toNat = 0 := by
          have := mt gt64.2 h54
          have e : (0 : UInt64).toNat = 0 := rfl
          omega
        refine c_exit (x_then (x_then (x_here (n_then (c_seq (c_region (o_move rfl rfl (o_call call_NOf rfl rfl (NOf_spec) ?_))))))))
        rintro v60 w60 ⟨x60, b60⟩
        refine o_assign rfl rfl (o_nil (n_then (c_ret (r_body1 rfl rfl ?_))))
        exact ⟨_, rfl, (e10.trans x60), by rw [← hxy, hy0, Nat.gcd_zero_right]; exact b60⟩
end Go.Rl


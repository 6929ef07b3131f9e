/- The statement WireSequence: texts and numbers that are appended one after the other are read one after the other. No condition. -/
import Derived.Test.YtlieingmahbmcaaL3
import Derived.Test.YtlieingmahbmcaaInt
namespace Go.Rl
open Go.RowKit Go.Proofs

def encT (i : Nat) (s : List UInt8) : List UInt8 := encB s ++ uv (zig ((i : Int) - 5))
def encSeq : Nat → List (List UInt8) → List UInt8
  | _, [] => []
  | i, s :: t => encT i s ++ encSeq (i + 1) t
theorem encSeq_snoc : ∀ (i : Nat) (l : List (List UInt8)) (s : List UInt8), encSeq i (l ++ [s]) = encSeq i l ++ encT (i + l.length) s
  | i, [], s => by simp [encSeq]
  | i, x :: l, s => by
    simp only [List.cons_append, encSeq, encSeq_snoc (i + 1) l s, List.append_assoc, List.length_cons]
    rw [show i + 1 + l.length = i + (l.length + 1) by omega]
theorem zig_small {i : Nat} (h : i ≤ 20) : zig ((i : Int) - 5) < 18446744073709551616 := zig_lt (by omega) (by omega)
theorem encT_len {i : Nat} {s : List UInt8} (hi : i ≤ 20) (hs : s.length ≤ 200) : (encT i s).length ≤ 220 := by
  have h1 := uv_len (n := s.length) (by omega)
  have h2 := uv_len (zig_small hi)
  simp only [encT, encB, List.length_append]; omega
theorem encSeq_len : ∀ (i : Nat) (l : List (List UInt8)), i + l.length ≤ 20 → (∀ s ∈ l, s.length ≤ 200) → (encSeq i l).length ≤ 220 * l.length
  | i, [], _, _ => by simp [encSeq]
  | i, x :: l, h, hs => by
    simp only [List.length_cons] at h
    have h1 := encSeq_len (i + 1) l (by omega) fun s h => hs s (by simp [h])
    have h2 := encT_len (i := i) (s := x) (by omega) (hs x (by simp))
    simp only [encSeq, List.length_append, List.length_cons]; omega
theorem txs_noCell (A : Option Addr) (n c : Nat) (b : Bool) (l : List (List UInt8)) : ∀ (j : Nat) (u : Value), u ∈ l.map S → (#[.slice A n c, .bool b] : Array Value)[j]? ≠ some u := by
  intro j u hu
  obtain ⟨x, _, rfl⟩ := List.mem_map.1 hu
  match j with
  | 0 => simp [S]
  | 1 => simp [S]
  | j + 2 => simp

theorem WireSequence_walk {w : World} {l : List (List UInt8)} {v : Value} (hv : Txs l v w) (_ : ∀ s ∈ l, s.length ≤ 9223372036854775807) :
    Calls Try.prog 12 #[v] w (Ret fun r w' => r = B true ∧ Ext w w') := by
  refine enter (vs := [v]) Try.func12 rfl rfl rfl ?_
  refine c_seq (c_region (o_assign rfl rfl (o_nil (n_then (c_seq (c_seq (c_region ?_)))))))
  refine o_call call_awake rfl rfl (awake_spec w) ?_
  rintro r1 w1 ⟨rfl, hx1⟩
  refine o_not rfl rfl r_not ?_
  refine o_move rfl rfl (g_yes rfl (o_move rfl rfl ?_))
  refine g_yes rfl (o_len rfl rfl (r_lenT Try.underlying58 (hv.ext hx1)) ?_)
  refine g_yes rfl (o_bin rfl rfl rfl r_gtr_i ?_)
  refine o_pick_f rfl rfl rfl (o_nil (n_then ?_))
  refine c_if rfl (fun h => ?_) (fun h => ?_)
  · refine c_seq (c_region ?_)
    refine o_call call_awake rfl rfl (awake_spec w1) ?_
    rintro r2 w2 ⟨rfl, hx2⟩
    refine o_assign rfl rfl (o_nil (n_then (c_ret (r_then ?_))))
    refine r_body1 rfl rfl ?_
    exact ⟨_, rfl, rfl, hx1.trans hx2⟩
  have hlen : l.length ≤ 20 := by omega
  refine c_skip (n_then (c_seq (c_region (o_assign rfl rfl (o_nil (n_then (c_seq (c_seq (c_region (o_assign rfl rfl (o_nil (n_then (c_block ?_)))))))))))))
  refine c_loop (α := Nat × Value) (fun x => [(0, v), (3, x.2), (4, I (x.1 : Int))])
    (fun x w' => Bts (encSeq 0 (l.take x.1)) x.2 w' ∧ Ext w w' ∧ x.1 ≤ l.length ∧ ∀ s ∈ l.take x.1, s.length ≤ 200) (fun x => l.length - x.1) (0, .slice none 0 0) ⟨rfl, rfl, rfl, trivial⟩
    ⟨by simpa [encSeq] using Bts.nil _, hx1, by simp, by simp⟩ ?_
  rintro ⟨k, b⟩ w2 ⟨hb, hx2, hk, hsm⟩
  dsimp only at hb hx2 hk hsm
  have hbl := encSeq_len 0 (l.take k) (by simp; omega) hsm
  have hbl' : (encSeq 0 (l.take k)).length ≤ 4400 := by
    simp only [List.length_take] at hbl; omega
  refine c_seq (c_seq (c_region (o_move rfl rfl (o_move rfl rfl ?_))))
  refine o_len rfl rfl (r_lenT Try.underlying58 (hv.ext hx2)) ?_
  refine o_bin rfl rfl rfl (r_lss_i) ?_
  refine o_nil (n_then ?_)
  refine c_if rfl (fun h => ?_) (fun h => ?_)
  · have hlt : k < l.length := by omega
    refine c_skip (n_then (c_seq (c_block (c_seq (c_seq (c_region (o_move rfl rfl (o_move rfl rfl ?_))))))))
    obtain ⟨ad, had, hcell⟩ := r_ixT Try.underlying58 (hv.ext hx2) hlt .i64
    refine o_indexAddr rfl rfl rfl (had _) ?_
    refine o_load rfl rfl (r_load1 Try.underlying9 rfl hcell) ?_
    refine o_len rfl rfl r_lenS ?_
    refine o_bin rfl rfl rfl (r_gtr_i) ?_
    refine o_nil (n_then ?_)
    refine c_if rfl (fun h => ?_) (fun h => ?_)
    · refine c_seq (c_region (o_assign rfl rfl (o_nil (n_then (c_ret (r_then (r_block (r_then (r_then (r_block (r_then ?_)))))))))))
      refine r_body1 rfl rfl ?_
      exact ⟨_, rfl, rfl, hx2⟩
    · have hsk : l[k].length ≤ 200 := by omega
      refine c_skip (n_then (c_region (o_move rfl rfl (o_move rfl rfl (o_move rfl rfl ?_)))))
      refine o_indexAddr rfl rfl rfl (had _) ?_
      refine o_load rfl rfl (r_load1 Try.underlying9 rfl hcell) ?_
      refine o_call call_AppendText rfl rfl (AppendText_spec hb (by omega)) ?_
      rintro r3 w3 ⟨hx3, ho3⟩
      refine o_move rfl rfl ?_
      refine o_bin rfl rfl rfl (r_sub_i (by omega) (by omega)) ?_
      have hel : (encB l[k]).length ≤ 210 := by
        have := uv_len (n := l[k].length) (by omega)
        simp only [encB, List.length_append]; omega
      refine o_call call_AppendInt rfl rfl (AppendInt_spec ho3.bts (by simp only [List.length_append]; omega) (by omega) (by omega)) ?_
      rintro r4 w4 ⟨hx4, ho4⟩
      refine o_assign rfl rfl (o_nil (n_block (n_then (c_region (o_move rfl rfl ?_)))))
      refine o_bin rfl rfl rfl (r_add_i (by omega) (by omega)) ?_
      refine o_assign rfl rfl (o_nil ?_)
      refine n_round (k + 1, r4) ⟨rfl, rfl, rfl, trivial⟩ ⟨?_, (hx2.trans hx3).trans hx4, hlt, ?_⟩ (by show l.length - (k + 1) < l.length - k; omega)
      · show Bts (encSeq 0 (l.take (k + 1))) r4 w4
        rw [List.take_succ_eq_append_getElem hlt, encSeq_snoc]
        have : (l.take k).length = k := by simp; omega
        rw [this, Nat.zero_add, encT, ← List.append_assoc]
        exact ho4.bts
      · show ∀ s ∈ l.take (k + 1), s.length ≤ 200
        rw [List.take_succ_eq_append_getElem hlt]
        intro s hs
        rcases List.mem_append.1 hs with h1 | h1
        · exact hsm s h1
        · obtain rfl : s = l[k] := by simpa using h1
          exact hsk
  have hk' : k = l.length := by omega
  subst hk'
  rw [List.take_length] at hb hsm hbl hbl'
  refine c_exit (x_then (x_then (x_here (n_then (c_seq (c_region (o_move rfl rfl ?_)))))))
  refine o_call call_New rfl rfl (New_spec hb (by omega)) ?_
  rintro r3 w3 ⟨hx3, g, hg, rfl, hrd⟩
  have e3 := hx2.trans hx3
  have hgw : w.heap.size ≤ g := Nat.le_trans hx2.size hg
  refine o_assign rfl rfl (o_nil (n_then (c_seq (c_seq (c_region (o_assign rfl rfl (o_nil (n_then (c_block ?_)))))))))
  refine c_loop (α := Nat) (fun x => [(0, v), (5, .pointer (some ⟨g, 0, none⟩)), (6, I (x : Int))])
    (fun x w' => RdAt g (some (encSeq x (l.drop x))) w' ∧ Ext w w' ∧ x ≤ l.length) (fun x => l.length - x) 0 ⟨rfl, rfl, rfl, trivial⟩
    ⟨by simpa using hrd, e3, by simp⟩ ?_
  rintro k w4 ⟨hr4, hx4, hk4⟩
  refine c_seq (c_seq (c_region (o_move rfl rfl (o_move rfl rfl ?_))))
  refine o_len rfl rfl (r_lenT Try.underlying58 (hv.ext hx4)) ?_
  refine o_bin rfl rfl rfl (r_lss_i) ?_
  refine o_nil (n_then ?_)
  refine c_if rfl (fun h => ?_) (fun h => ?_)
  · have hlt : k < l.length := by omega
    have hdrop : l.drop k = l[k] :: l.drop (k + 1) := (List.getElem_cons_drop hlt).symm
    have hsk : l[k].length ≤ 200 := hsm _ (List.getElem_mem hlt)
    rw [hdrop, encSeq] at hr4
    refine c_skip (n_then (c_seq (c_block (c_seq (c_region (o_move rfl rfl ?_))))))
    refine o_call call_Left rfl rfl (Left_spec hr4) ?_
    rintro r5 w5 ⟨rfl, rfl⟩
    refine o_assign rfl rfl (o_nil (n_then (c_seq (c_region (o_move rfl rfl ?_)))))
    have hrest : (encSeq (k + 1) (l.drop (k + 1))).length ≤ 4400 := by
      have := encSeq_len (k + 1) (l.drop (k + 1)) (by simp; omega) fun s h => hsm s (List.mem_of_mem_drop h)
      simp only [List.length_drop] at this
      omega
    have het := encT_len (i := k) (s := l[k]) (by omega) hsk
    refine o_call call_Text rfl rfl (Text_spec hr4 (by rintro _ ⟨⟩; simp only [List.length_append]; omega)) ?_
    rintro r6 w6 ⟨hg6, h6⟩
    have hb6 : (some (encT k l[k] ++ encSeq (k + 1) (l.drop (k + 1)))).bind rdB = some (l[k], uv (zig ((k : Int) - 5)) ++ encSeq (k + 1) (l.drop (k + 1))) := by
      show rdB _ = _
      rw [encT, List.append_assoc, rdB_encB (by omega)]
    rw [hb6] at h6
    obtain ⟨rfl, hr6⟩ := h6
    have e6 := hx4.of_rd hg6 hgw
    refine o_move rfl rfl ?_
    refine o_extract rfl rfl (r_ext0) ?_
    refine o_extract rfl rfl (r_ext1) ?_
    refine o_assign rfl rfl (o_assign rfl rfl (o_nil (n_then (c_seq (c_region (o_move rfl rfl ?_))))))
    refine o_call call_Int rfl rfl (Int_spec hr6) ?_
    rintro r7 w7 ⟨hg7, h7⟩
    have hb7 : (some (uv (zig ((k : Int) - 5)) ++ encSeq (k + 1) (l.drop (k + 1)))).bind rdU = some (zig ((k : Int) - 5), encSeq (k + 1) (l.drop (k + 1))) := rdU_uv (zig_small (by omega)) _
    rw [hb7] at h7
    obtain ⟨rfl, hr7⟩ := h7
    rw [zag_zig]
    have e7 := e6.of_rd hg7 hgw
    refine o_move rfl rfl ?_
    refine o_extract rfl rfl (r_ext0) ?_
    refine o_extract rfl rfl (r_ext1) ?_
    refine o_assign rfl rfl (o_assign rfl rfl (o_nil (n_then (c_seq (c_region (o_move rfl rfl ?_))))))
    obtain ⟨ad, had, hcell⟩ := r_ixT Try.underlying58 (hv.ext e7) hlt .i64
    refine o_bin (v := I 0) rfl rfl rfl (dec_f (by decide) r_neq_i) ?_
    refine o_move rfl rfl (g_yes rfl (o_move rfl rfl ?_))
    refine g_yes rfl (o_bin (v := I 0) rfl rfl rfl (dec_f (by decide) r_neq_i) ?_)
    refine o_pick_f rfl rfl rfl ?_
    refine o_move rfl rfl (g_yes rfl (o_move rfl rfl (g_yes rfl (o_move rfl rfl (g_yes rfl (o_move rfl rfl ?_))))))
    refine g_yes rfl (o_indexAddr rfl rfl rfl (had _) ?_)
    refine g_yes rfl (o_load rfl rfl (r_load1 Try.underlying9 rfl hcell) ?_)
    refine g_yes rfl (o_bin rfl rfl rfl (dec_f (by simp) r_neq_s) ?_)
    refine o_pick_f rfl rfl rfl ?_
    refine o_move rfl rfl (g_yes rfl (o_move rfl rfl (g_yes rfl (o_move rfl rfl ?_))))
    refine g_yes rfl (o_bin rfl rfl rfl (r_sub_i (by omega) (by omega)) ?_)
    refine g_yes rfl (o_bin rfl rfl rfl (dec_f (by simp) r_neq_i) ?_)
    refine o_pick_f rfl rfl rfl ?_
    refine o_move rfl rfl (g_yes rfl (o_move rfl rfl ?_))
    refine g_yes rfl ?_
    refine o_call call_Left rfl rfl (Left_spec hr7) ?_
    rintro r8 w8 ⟨rfl, rfl⟩
    have hpos : (encSeq (k + 1) (l.drop (k + 1))).length < (encT k l[k] ++ encSeq (k + 1) (l.drop (k + 1))).length := by
      have := uv_pos l[k].length
      simp only [List.length_append, encT, encB]; omega
    refine g_yes rfl (o_move rfl rfl ?_)
    refine g_yes rfl (o_bin rfl rfl rfl (dec_f (by simp only [Option.getD_some]; omega) r_geq_i) ?_)
    refine o_pick_f rfl rfl rfl ?_
    refine o_nil (n_then ?_)
    refine c_no rfl ?_
    refine c_skip (n_block (n_then (c_region (o_move rfl rfl ?_))))
    refine o_bin rfl rfl rfl (r_add_i (by omega) (by omega)) ?_
    refine o_assign rfl rfl (o_nil ?_)
    exact n_round (k + 1) ⟨rfl, rfl, rfl, trivial⟩ ⟨hr7, e7, hlt⟩ (by omega)
  · have hk' : k = l.length := by omega
    subst hk'
    rw [List.drop_length, encSeq] at hr4
    refine c_exit (x_then (x_then (x_here (n_then (c_seq (c_region (o_move rfl rfl ?_)))))))
    refine o_call call_Uint rfl rfl (Uint_spec hr4) ?_
    rintro r5 w5 ⟨hg5, h5⟩
    have hb5 : (some ([] : List UInt8)).bind rdU = none := rdUk_nil _ _
    rw [hb5] at h5
    obtain ⟨rfl, hr5⟩ := h5
    refine o_move rfl rfl ?_
    refine o_extract rfl rfl (r_ext0) ?_
    refine o_extract rfl rfl (r_ext1) ?_
    refine o_assign rfl rfl (o_assign rfl rfl (o_nil (n_then (c_seq (c_region (o_move rfl rfl ?_))))))
    refine o_bin (v := I 5) rfl rfl rfl (dec_t rfl r_eql_i) ?_
    refine o_move rfl rfl (g_yes rfl (o_move rfl rfl ?_))
    refine g_yes rfl ?_
    refine o_call call_Done rfl rfl (Done_spec hr5) ?_
    rintro r6 w6 ⟨rfl, rfl⟩
    refine g_yes rfl (o_bin (v := I 5) rfl rfl rfl (dec_t (by simp) r_eql_i) ?_)
    refine o_pick_t rfl rfl rfl ?_
    refine o_assign rfl rfl (o_nil (n_then (c_ret ?_)))
    refine r_body1 rfl rfl ?_
    exact ⟨_, rfl, rfl, hx4.of_rd hg5 hgw⟩
end Go.Rl

/- Walks of the reader of package wire. Conditions: the reader is not nil. -/
import Derived.Test.YtifjnhdnpglbpaaStr
import Derived.Test.YtifjnhdnpglbpaaRd
import Derived.Test.YtifjnhdnpglbpaaW1
namespace Go.Rl
open Go.RowKit Go.Proofs

theorem call_New : Callable Try.prog 25 := ⟨_, Try.func25, by kernel_rfl, rfl⟩
theorem call_take : Callable Try.prog 55 := ⟨_, Try.func55, by kernel_rfl, rfl⟩
theorem call_fail : Callable Try.prog 53 := ⟨_, Try.func53, by kernel_rfl, rfl⟩
theorem call_ruvarint : Callable Try.prog 52 := ⟨_, Try.func52, by kernel_rfl, rfl⟩
theorem call_Uint : Callable Try.prog 26 := ⟨_, Try.func26, by kernel_rfl, rfl⟩

theorem zero_Reader : (Try.prog.info? 83).map (·.zero) = some (some (.agg #[.slice none 0 0, .bool false])) := by kernel_rfl
theorem size_bytes : (Try.prog.info? 22).map (·.size) = some 1 := by kernel_rfl
theorem size_bool : (Try.prog.info? 4).map (·.size) = some 1 := by kernel_rfl

/-- The reader at block g: none: it has failed; some l: these bytes are left. -/
def RdAt (g : Nat) (st : Option (List UInt8)) (w : World) : Prop :=
  ∃ A n c, w.heap[g]? = some (.cells #[.slice A n c, .bool st.isNone] 83 (0, 0)) ∧ Bts (st.getD []) (.slice A n c) w

theorem RdAt.ext {g : Nat} {st : Option (List UInt8)} {w w' : World} (h : RdAt g st w) (hx : Ext w w') : RdAt g st w' := by
  obtain ⟨A, n, c, h1, h2⟩ := h
  exact ⟨A, n, c, hx.heap_some h1, h2.ext hx⟩
theorem rd_noByte (A : Option Addr) (n c : Nat) (b : Bool) (l : List UInt8) : ∀ (j : Nat) (u : Value), u ∈ l.map U8 → (#[.slice A n c, .bool b] : Array Value)[j]? ≠ some u := by
  intro j u hu
  obtain ⟨x, _, rfl⟩ := List.mem_map.1 hu
  match j with
  | 0 => simp [U8]
  | 1 => simp [U8]
  | j + 2 => simp
/-- Bytes stay what they are when a reader moves on. -/
theorem Bts.reader {l : List UInt8} {v : Value} {g : Nat} {st : Option (List UInt8)} {w w' : World} (h : Bts l v w) (hr : RdAt g st w) (hw : w.grownBy w' (some g)) : Bts l v w' := by
  obtain ⟨A, n, c, h1, _⟩ := hr
  exact Sl.keep h h1 (rd_noByte A n c _ l) hw

section
variable {w : World} {g : Nat} {l : List UInt8}
theorem grownBy_of_ext {w' : World} {row : Option Nat} (h : Ext w w') : w.grownBy w' row := ⟨h.os, h.tape, h.output, h.size, fun _ hi _ => h.heap hi⟩
theorem grownBy_refl (w : World) (row : Option Nat) : w.grownBy w row := World.grownBy.refl w row

theorem New_spec {v : Value} (hv : Bts l v w) (hl : l.length ≤ 140737488355328) :
    Calls Try.prog 25 #[v] w (Ret fun r w' => Ext w w' ∧ ∃ g, w.heap.size ≤ g ∧ r = .pointer (some ⟨g, 0, none⟩) ∧ RdAt g (some l) w') := by
  refine enter (vs := [v]) Try.func25 rfl rfl rfl ?_
  refine c_seq (c_region (o_assign rfl rfl (o_nil (n_then (c_seq (c_region (o_move rfl rfl ?_)))))))
  refine o_call call_Clone rfl rfl (Clone_spec hv hl) ?_
  rintro r1 w1 ⟨hx1, ho1⟩
  obtain ⟨A, n, c, rfl, _⟩ := id ho1.bts
  refine o_build rfl rfl (r := .agg #[.slice A n c, .bool false]) (by simp [Instr.build, run_underlying Try.underlying83, r_zero zero_Reader, r_sizeOf size_bytes, r_sizeOf size_bool, Instr.fill, Value.cells]) ?_
  refine o_box rfl rfl r_box ?_
  refine o_assign rfl rfl (o_nil (n_then (c_ret ?_)))
  refine r_body1 rfl rfl ?_
  exact ⟨_, rfl, hx1.trans (Ext.new _ _), w1.heap.size, hx1.size, rfl, A, n, c, heap_alloc_new _ _, ho1.bts.ext (Ext.new _ _)⟩

theorem fail_spec {st : Option (List UInt8)} (hr : RdAt g st w) :
    Calls Try.prog 53 #[.pointer (some ⟨g, 0, none⟩)] w (Ret fun r w' => r = I 5 ∧ RdAt g none w' ∧ w.grownBy w' (some g)) := by
  obtain ⟨A, n, c, h1, _⟩ := hr
  refine enter (vs := [.pointer (some ⟨g, 0, none⟩)]) Try.func53 rfl rfl rfl ?_
  refine c_seq (c_region (o_assign rfl rfl (o_nil (n_then (c_seq (c_region (o_move rfl rfl (o_move rfl rfl ?_))))))))
  refine o_nilCheck rfl rfl ?_
  refine o_fieldAddr rfl rfl (r_fieldAt Try.underlying83 rfl size_bytes (by omega)) ?_
  refine o_store rfl rfl (r_store1 size_bytes rfl h1 (by simp)) ?_
  refine o_nilCheck rfl rfl ?_
  refine o_fieldAddr rfl rfl (r_fieldAt Try.underlying83 rfl size_bool (by omega)) ?_
  have h2 := heap_set h1 0 (.slice none 0 0)
  refine o_store rfl rfl (r_store1 (i := 1) size_bool rfl h2 (by simp)) ?_
  have h3 := heap_set h2 1 (.bool true)
  refine o_nil (n_then (c_seq (c_region (o_assign rfl rfl (o_nil (n_then (c_ret ?_)))))))
  refine r_body1 rfl rfl ?_
  exact ⟨_, rfl, rfl, ⟨none, 0, 0, h3, Bts.nil _⟩, (grownBy_setCell w g 0 _).trans (grownBy_setCell _ g 1 _)⟩

theorem take_failed {n : UInt64} (hr : RdAt g none w) :
    Calls Try.prog 55 #[.pointer (some ⟨g, 0, none⟩), U64 n] w (Ret fun r w' => r = .tuple #[.slice none 0 0, B false] ∧ w' = w) := by
  obtain ⟨A, m, c, h1, _⟩ := hr
  refine enter (vs := [.pointer (some ⟨g, 0, none⟩), U64 n]) Try.func55 rfl rfl rfl ?_
  refine c_seq (c_region (o_assign rfl rfl (o_assign rfl rfl (o_nil (n_then (c_seq (c_seq (c_region (o_move rfl rfl ?_)))))))))
  refine o_nilCheck rfl rfl ?_
  refine o_fieldAddr rfl rfl (r_fieldAt Try.underlying83 rfl size_bool (by omega)) ?_
  refine o_load rfl rfl (r_load1 Try.underlying4 rfl (cellAt (i := 1) h1 rfl)) ?_
  refine o_move rfl rfl ?_
  refine g_no rfl rfl rfl ?_
  refine g_no rfl rfl rfl ?_
  refine g_no rfl rfl rfl ?_
  refine g_no rfl rfl rfl ?_
  refine g_no rfl rfl rfl ?_
  refine g_no rfl rfl rfl ?_
  refine g_no rfl rfl rfl ?_
  refine g_no rfl rfl rfl ?_
  refine o_pick_t rfl rfl rfl ?_
  refine o_nil (n_then ?_)
  refine c_yes rfl ?_
  refine c_seq (c_region (o_assign rfl rfl (o_assign rfl rfl (o_nil (n_then (c_ret (r_then ?_)))))))
  refine r_body2 rfl rfl rfl ?_
  exact ⟨_, rfl, rfl, rfl⟩

theorem u64_len (h : l.length ≤ 9223372036854775807) : (UInt64.ofNat l.length).toNat = l.length := by rw [UInt64.toNat_ofNat']; omega

theorem take_no {n : UInt64} (hr : RdAt g (some l) w) (hn : l.length < n.toNat) :
    Calls Try.prog 55 #[.pointer (some ⟨g, 0, none⟩), U64 n] w (Ret fun r w' => r = .tuple #[.slice none 0 0, B false] ∧ w' = w) := by
  obtain ⟨A, m, c, h1, h2⟩ := hr
  have h2' : Bts l (.slice A m c) w := h2
  refine enter (vs := [.pointer (some ⟨g, 0, none⟩), U64 n]) Try.func55 rfl rfl rfl ?_
  refine c_seq (c_region (o_assign rfl rfl (o_assign rfl rfl (o_nil (n_then (c_seq (c_seq (c_region (o_move rfl rfl ?_)))))))))
  refine o_nilCheck rfl rfl ?_
  refine o_fieldAddr rfl rfl (r_fieldAt Try.underlying83 rfl size_bool (by omega)) ?_
  refine o_load rfl rfl (r_load1 Try.underlying4 rfl (cellAt (i := 1) h1 rfl)) ?_
  refine o_move rfl rfl ?_
  refine g_yes rfl (o_move rfl rfl (g_yes rfl (o_move rfl rfl ?_)))
  refine g_yes rfl (o_nilCheck rfl rfl ?_)
  refine g_yes rfl (o_fieldAddr rfl rfl (r_fieldAt Try.underlying83 rfl size_bytes (by omega)) ?_)
  refine g_yes rfl (o_load rfl rfl (r_load1 Try.underlying22 rfl (cellAt (i := 0) h1 rfl)) ?_)
  refine g_yes rfl (o_len rfl rfl (r_lenB h2') ?_)
  refine g_yes rfl (o_conv rfl rfl (r_n_u64 Try.underlying3 Try.underlying31) ?_)
  refine g_yes rfl (o_bin rfl rfl rfl (dec_t (by show _ < n; rw [UInt64.lt_iff_toNat_lt, u64_len h2'.len]; exact hn) r_gtr_u64) ?_)
  refine o_pick_f rfl rfl rfl ?_
  refine o_nil (n_then ?_)
  refine c_yes rfl ?_
  refine c_seq (c_region (o_assign rfl rfl (o_assign rfl rfl (o_nil (n_then (c_ret (r_then ?_)))))))
  refine r_body2 rfl rfl rfl ?_
  exact ⟨_, rfl, rfl, rfl⟩

theorem take_yes {n : UInt64} (hr : RdAt g (some l) w) (hn : n.toNat ≤ l.length) :
    Calls Try.prog 55 #[.pointer (some ⟨g, 0, none⟩), U64 n] w
      (Ret fun r w' => ∃ b, r = .tuple #[b, B true] ∧ Bts (l.take n.toNat) b w' ∧ RdAt g (some (l.drop n.toNat)) w' ∧ w.grownBy w' (some g)) := by
  obtain ⟨A, m, c, h1, h2⟩ := hr
  have h2' : Bts l (.slice A m c) w := h2
  refine enter (vs := [.pointer (some ⟨g, 0, none⟩), U64 n]) Try.func55 rfl rfl rfl ?_
  refine c_seq (c_region (o_assign rfl rfl (o_assign rfl rfl (o_nil (n_then (c_seq (c_seq (c_region (o_move rfl rfl ?_)))))))))
  refine o_nilCheck rfl rfl ?_
  refine o_fieldAddr rfl rfl (r_fieldAt Try.underlying83 rfl size_bool (by omega)) ?_
  refine o_load rfl rfl (r_load1 Try.underlying4 rfl (cellAt (i := 1) h1 rfl)) ?_
  refine o_move rfl rfl ?_
  refine g_yes rfl (o_move rfl rfl (g_yes rfl (o_move rfl rfl ?_)))
  refine g_yes rfl (o_nilCheck rfl rfl ?_)
  refine g_yes rfl (o_fieldAddr rfl rfl (r_fieldAt Try.underlying83 rfl size_bytes (by omega)) ?_)
  refine g_yes rfl (o_load rfl rfl (r_load1 Try.underlying22 rfl (cellAt (i := 0) h1 rfl)) ?_)
  refine g_yes rfl (o_len rfl rfl (r_lenB h2') ?_)
  refine g_yes rfl (o_conv rfl rfl (r_n_u64 Try.underlying3 Try.underlying31) ?_)
  refine g_yes rfl (o_bin rfl rfl rfl (dec_f (by show ¬ _ < n; rw [UInt64.lt_iff_toNat_lt, u64_len h2'.len]; omega) r_gtr_u64) ?_)
  refine o_pick_f rfl rfl rfl ?_
  refine o_nil (n_then ?_)
  refine c_no rfl ?_
  refine c_skip (n_then (c_seq (c_region (o_move rfl rfl ?_))))
  refine o_nilCheck rfl rfl ?_
  refine o_fieldAddr rfl rfl (r_fieldAt Try.underlying83 rfl size_bytes (by omega)) ?_
  refine o_load rfl rfl (r_load1 Try.underlying22 rfl (cellAt (i := 0) h1 rfl)) ?_
  refine o_move rfl rfl ?_
  obtain ⟨b, hb, hb2⟩ := r_slB_hi h2' hn .u64
  refine o_slice (b := some (U64 n)) rfl rfl rfl rfl rfl (hb _) ?_
  refine o_assign rfl rfl (o_nil (n_then (c_seq (c_region (o_move rfl rfl (o_move rfl rfl ?_))))))
  refine o_nilCheck rfl rfl ?_
  refine o_fieldAddr rfl rfl (r_fieldAt Try.underlying83 rfl size_bytes (by omega)) ?_
  refine o_load rfl rfl (r_load1 Try.underlying22 rfl (cellAt (i := 0) h1 rfl)) ?_
  refine o_move rfl rfl ?_
  obtain ⟨r, hr, hr2⟩ := r_slB_lo h2' hn .u64
  refine o_slice (a := some (U64 n)) rfl rfl rfl rfl rfl (hr _) ?_
  refine o_nilCheck rfl rfl ?_
  refine o_fieldAddr rfl rfl (r_fieldAt Try.underlying83 rfl size_bytes (by omega)) ?_
  obtain ⟨A', m', c', rfl, _⟩ := id hr2
  refine o_store rfl rfl (r_store1 (i := 0) size_bytes rfl h1 (by simp)) ?_
  have h3 := heap_set h1 0 (.slice A' m' c')
  have hg := grownBy_setCell w g 0 (.slice A' m' c')
  refine o_nil (n_then (c_seq (c_region (o_move rfl rfl (o_assign rfl rfl (o_assign rfl rfl (o_nil (n_then (c_ret ?_)))))))))
  refine r_body2 rfl rfl rfl ?_
  have hrd : RdAt g (some l) w := ⟨A, m, c, h1, h2⟩
  exact ⟨_, rfl, b, rfl, hb2.reader hrd hg, ⟨A', m', c', h3, hr2.reader hrd hg⟩, hg⟩

/-- What a reading of a number leaves. -/
def UvR (g : Nat) (w : World) (o : Option (Nat × List UInt8)) (r : Value) (w' : World) : Prop :=
  w.grownBy w' (some g) ∧ match o with
    | some (n, t) => r = .tuple #[U64 (UInt64.ofNat n), B true] ∧ RdAt g (some t) w'
    | none => r = .tuple #[U64 0, B false] ∧ ∃ l', RdAt g (some l') w'

theorem ruvarint_spec (hr : RdAt g (some l) w) :
    Calls Try.prog 52 #[.pointer (some ⟨g, 0, none⟩)] w (Ret (UvR g w (rdU l))) := by
  refine enter (vs := [.pointer (some ⟨g, 0, none⟩)]) Try.func52 rfl rfl rfl ?_
  refine c_seq (c_region (o_assign rfl rfl (o_assign rfl rfl (o_nil (n_then (c_seq (c_seq (c_region (o_assign rfl rfl (o_nil (n_then (c_block ?_))))))))))))
  refine c_loop (α := Nat × List UInt8 × UInt64) (fun x => [(0, .pointer (some ⟨g, 0, none⟩)), (4, I ((7 * x.1 : Nat) : Int)), (2, U64 x.2.2)])
    (fun x w' => RdAt g (some x.2.1) w' ∧ w.grownBy w' (some g) ∧ x.1 ≤ 9 ∧ x.2.2.toNat < 128 ^ x.1 ∧ rdU l = (rdUk (10 - x.1) x.1 x.2.1).map fun p => (p.1 + x.2.2.toNat, p.2)) (fun x => 10 - x.1)
    (0, l, 0) ⟨rfl, rfl, rfl, trivial⟩ ⟨hr, grownBy_refl _ _, by simp, by simp, by simp [rdU]⟩ ?_
  rintro ⟨k, rest, acc⟩ w1 ⟨hr1, hg1, hk, hacc, hrd⟩
  dsimp only at hr1 hg1 hk hacc hrd
  have hfuel : 10 - k = (9 - k) + 1 := by omega
  rw [hfuel] at hrd
  refine c_seq (c_seq (c_region (o_move rfl rfl ?_)))
  refine o_bin rfl rfl rfl (dec_t (by omega) r_lss_i) ?_
  refine o_nil (n_then ?_)
  refine c_yes rfl ?_
  refine c_skip (n_then (c_seq (c_block (c_seq (c_region (o_move rfl rfl ?_))))))
  cases rest with
  | nil =>
    refine o_call (vs := [_, U64 1]) call_take rfl rfl (take_no hr1 (by decide)) ?_
    rintro r2 w2 ⟨rfl, rfl⟩
    refine o_move rfl rfl ?_
    refine o_extract rfl rfl (r_ext0) ?_
    refine o_extract rfl rfl (r_ext1) ?_
    refine o_assign rfl rfl (o_assign rfl rfl (o_nil (n_then (c_seq (c_seq (c_region (o_move rfl rfl ?_)))))))
    refine o_not rfl rfl (r_not) ?_
    refine o_nil (n_then ?_)
    refine c_yes rfl ?_
    refine c_seq (c_region (o_assign rfl rfl (o_assign rfl rfl (o_nil (n_then (c_ret (r_then (r_block (r_then (r_then (r_block (r_then ?_))))))))))))
    refine r_body2 rfl rfl rfl ?_
    refine ⟨_, rfl, hg1, ?_⟩
    rw [hrd, rdUk_nil]
    exact ⟨rfl, [], hr1⟩
  | cons c t =>
    refine o_call (vs := [_, U64 1]) call_take rfl rfl (take_yes hr1 (by simp)) ?_
    rintro r2 w2 ⟨b, rfl, hb, hr2, hg2⟩
    have hb' : Bts [c] b w2 := hb
    have hr2' : RdAt g (some t) w2 := hr2
    have hg := hg1.trans hg2
    refine o_move rfl rfl ?_
    refine o_extract rfl rfl (r_ext0) ?_
    refine o_extract rfl rfl (r_ext1) ?_
    refine o_assign rfl rfl (o_assign rfl rfl (o_nil (n_then (c_seq (c_seq (c_region (o_move rfl rfl ?_)))))))
    refine o_not rfl rfl (r_not) ?_
    refine o_nil (n_then ?_)
    refine c_no rfl ?_
    refine c_skip (n_then (c_seq (c_region (o_move rfl rfl ?_))))
    obtain ⟨ad, had, hcell⟩ := r_ixB hb' (i := 0) (by simp) .i64
    refine o_indexAddr rfl rfl rfl (had _) ?_
    refine o_load rfl rfl (r_ldB hcell) ?_
    refine o_assign rfl rfl (o_nil (n_then (c_seq (c_seq ?_))))
    refine c_cut (fun _ : Unit => [(0, .pointer (some ⟨g, 0, none⟩)), (4, I ((7 * k : Nat) : Int)), (2, U64 acc), (7, U8 c), (35, B (decide ((k = 9 ∧ 1 < c.toNat) ∨ (0 < k ∧ c.toNat = 0))))]) (fun _ w' => w' = w2) ?_ ?_
    · refine c_region (o_move rfl rfl ?_)
      have c1 : c > 1 ↔ 1 < c.toNat := by show 1 < c ↔ _; rw [UInt8.lt_iff_toNat_lt]; rfl
      have c0 : c = 0 ↔ c.toNat = 0 := by rw [← UInt8.toNat_inj]; rfl
      by_cases h9 : k = 9
      · refine o_bin rfl rfl rfl (dec_t (by omega) r_eql_i) ?_
        refine o_move rfl rfl (g_yes rfl (o_move rfl rfl ?_))
        by_cases hc1 : 1 < c.toNat
        · refine g_yes rfl (o_bin (v := U8 1) rfl rfl rfl (dec_t (c1.2 hc1) r_gtr_u8) ?_)
          refine o_pick_t rfl rfl rfl (o_move rfl rfl ?_)
          refine g_no rfl rfl rfl (g_no rfl rfl rfl (g_no rfl rfl rfl ?_))
          refine g_undef rfl rfl rfl (g_undef rfl rfl rfl (g_no rfl rfl rfl ?_))
          refine o_pick_t rfl rfl rfl (o_nil ?_)
          exact n_meet () ⟨rfl, rfl, rfl, rfl, by rw [decide_eq_true (Or.inl ⟨h9, hc1⟩)]; rfl, trivial⟩ rfl
        · refine g_yes rfl (o_bin (v := U8 1) rfl rfl rfl (dec_f (fun h => hc1 (c1.1 h)) r_gtr_u8) ?_)
          refine o_pick_t rfl rfl rfl (o_move rfl rfl ?_)
          refine g_yes rfl (o_move rfl rfl (g_yes rfl (o_bin rfl rfl rfl (dec_t (by omega) r_gtr_i) ?_)))
          refine g_yes rfl (o_move rfl rfl (g_yes rfl (o_move rfl rfl ?_)))
          refine g_yes rfl (o_bin (v := U8 0) rfl rfl rfl r_eql_u8 ?_)
          refine g_yes rfl (o_pick_t rfl rfl rfl ?_)
          refine o_pick_f rfl rfl rfl (o_nil ?_)
          refine n_meet () ⟨rfl, rfl, rfl, rfl, ?_, trivial⟩ rfl
          show some (B (decide (c = 0))) = _
          rw [decide_eq_decide.2 (show c = 0 ↔ ((k = 9 ∧ 1 < c.toNat) ∨ (0 < k ∧ c.toNat = 0)) from by rw [c0]; omega)]
      · refine o_bin rfl rfl rfl (dec_f (by omega) r_eql_i) ?_
        refine o_move rfl rfl (g_no rfl rfl rfl (g_no rfl rfl rfl ?_))
        refine o_pick_f rfl rfl rfl (o_move rfl rfl ?_)
        by_cases hk0 : 0 < k
        · refine g_yes rfl (o_move rfl rfl (g_yes rfl (o_bin rfl rfl rfl (dec_t (by omega) r_gtr_i) ?_)))
          refine g_yes rfl (o_move rfl rfl (g_yes rfl (o_move rfl rfl ?_)))
          refine g_yes rfl (o_bin (v := U8 0) rfl rfl rfl r_eql_u8 ?_)
          refine g_yes rfl (o_pick_t rfl rfl rfl ?_)
          refine o_pick_f rfl rfl rfl (o_nil ?_)
          refine n_meet () ⟨rfl, rfl, rfl, rfl, ?_, trivial⟩ rfl
          show some (B (decide (c = 0))) = _
          rw [decide_eq_decide.2 (show c = 0 ↔ ((k = 9 ∧ 1 < c.toNat) ∨ (0 < k ∧ c.toNat = 0)) from by rw [c0]; omega)]
        · refine g_yes rfl (o_move rfl rfl (g_yes rfl (o_bin rfl rfl rfl (dec_f (by omega) r_gtr_i) ?_)))
          refine g_yes rfl (o_move rfl rfl (g_no rfl rfl rfl (g_no rfl rfl rfl ?_)))
          refine g_yes rfl (o_pick_f rfl rfl rfl ?_)
          refine o_pick_f rfl rfl rfl (o_nil ?_)
          refine n_meet () ⟨rfl, rfl, rfl, rfl, ?_, trivial⟩ rfl
          show some (B false) = _
          rw [decide_eq_false (by omega)]
    · rintro _ w3 rfl
      refine n_then (c_if rfl (fun h => ?_) (fun h => ?_))
      · refine c_seq (c_region (o_assign rfl rfl (o_assign rfl rfl (o_nil (n_then (c_ret (r_then (r_block (r_then (r_then (r_block (r_then ?_))))))))))))
        refine r_body2 rfl rfl rfl ?_
        refine ⟨_, rfl, hg, ?_⟩
        rw [hrd]
        simp only [rdUk]
        rw [if_pos h]
        exact ⟨rfl, t, hr2'⟩
      · have hor := or_byte (acc := acc) (c := c) hacc hk (fun h9 => by
          have : ¬ 1 < c.toNat := fun hc => h (Or.inl ⟨h9, hc⟩)
          omega)
        refine c_skip (n_then (c_seq (c_region (o_move rfl rfl (o_move rfl rfl ?_)))))
        refine o_bin (v := U8 127) rfl rfl rfl (r_and_u8) ?_
        refine o_conv rfl rfl (r_u8_u64 Try.underlying5 Try.underlying31) ?_
        refine o_move rfl rfl ?_
        refine o_bin rfl rfl rfl (r_shl_u64 (7 * k) (by omega)) ?_
        refine o_bin rfl rfl rfl (r_or_u64) ?_
        refine o_assign rfl rfl (o_nil (n_then (c_seq (c_region (o_move rfl rfl ?_)))))
        refine o_bin (v := U8 128) rfl rfl rfl (r_lss_u8) ?_
        refine o_nil (n_then ?_)
        refine c_if rfl (fun h2 => ?_) (fun h2 => ?_)
        · have h2' : c.toNat < 128 := by rw [UInt8.lt_iff_toNat_lt] at h2; exact h2
          refine c_seq (c_region (o_move rfl rfl (o_assign rfl rfl (o_assign rfl rfl (o_nil (n_then (c_ret (r_block (r_then (r_then (r_block (r_then ?_))))))))))))
          refine r_body2 rfl rfl rfl ?_
          refine ⟨_, rfl, hg, ?_⟩
          rw [hrd]
          simp only [rdUk]
          rw [if_neg h, if_pos h2']
          refine ⟨?_, hr2'⟩
          rw [Nat.mod_eq_of_lt h2'] at hor
          have : UInt64.ofNat (c.toNat * 128 ^ k + acc.toNat) = acc ||| ((c &&& 127).toUInt64 <<< UInt64.ofNat (7 * k)) := by
            rw [Nat.add_comm, ← hor, UInt64.ofNat_toNat]
          rw [this]; rfl
        · have h2' : ¬ c.toNat < 128 := fun hc => h2 (by rw [UInt8.lt_iff_toNat_lt]; exact hc)
          have hk9 : k ≠ 9 := fun hk9 => h (Or.inl ⟨hk9, by omega⟩)
          refine c_skip (n_block (n_then (c_region (o_move rfl rfl ?_))))
          refine o_bin rfl rfl rfl (r_add_i (by omega) (by omega)) ?_
          refine o_assign rfl rfl (o_nil ?_)
          refine n_round (k + 1, t, acc ||| ((c &&& 127).toUInt64 <<< UInt64.ofNat (7 * k))) ⟨rfl, ?_, rfl, trivial⟩ ⟨hr2', hg, by show k + 1 ≤ 9; omega, ?_, ?_⟩ (by show 10 - (k + 1) < 10 - k; omega)
          · show some (I (((7 * k : Nat) : Int) + 7)) = some (I ((7 * (k + 1) : Nat) : Int))
            rw [show ((7 * k : Nat) : Int) + 7 = ((7 * (k + 1) : Nat) : Int) by omega]
          · show (acc ||| ((c &&& 127).toUInt64 <<< UInt64.ofNat (7 * k))).toNat < 128 ^ (k + 1)
            rw [hor, Nat.pow_succ]
            have : (c.toNat % 128) * 128 ^ k ≤ 127 * 128 ^ k := Nat.mul_le_mul_right _ (by omega)
            omega
          · show rdU l = (rdUk (10 - (k + 1)) (k + 1) t).map fun p => (p.1 + (acc ||| ((c &&& 127).toUInt64 <<< UInt64.ofNat (7 * k))).toNat, p.2)
            rw [hrd, hor]
            simp only [rdUk]
            rw [if_neg h, if_neg h2', Option.map_map]
            have : 10 - (k + 1) = 9 - k := by omega
            rw [this]
            have ef : ((fun p : Nat × List UInt8 => (p.1 + acc.toNat, p.2)) ∘ fun p : Nat × List UInt8 => (p.1 + c.toNat % 128 * 128 ^ k, p.2)) = fun p => (p.1 + (acc.toNat + c.toNat % 128 * 128 ^ k), p.2) := by
              funext p
              simp only [Function.comp, Prod.mk.injEq, and_true]
              omega
            rw [ef]

theorem ruvarint_failed (hr : RdAt g none w) :
    Calls Try.prog 52 #[.pointer (some ⟨g, 0, none⟩)] w (Ret fun r w' => r = .tuple #[U64 0, B false] ∧ w' = w) := by
  refine enter (vs := [.pointer (some ⟨g, 0, none⟩)]) Try.func52 rfl rfl rfl ?_
  refine c_seq (c_region (o_assign rfl rfl (o_assign rfl rfl (o_nil (n_then (c_seq (c_seq (c_region (o_assign rfl rfl (o_nil (n_then (c_block ?_))))))))))))
  refine c_loop (α := Unit) (fun _ => [(0, .pointer (some ⟨g, 0, none⟩)), (4, I 0), (2, U64 0)]) (fun _ w' => w' = w) (fun _ => 0) () ⟨rfl, rfl, rfl, trivial⟩ rfl ?_
  rintro _ w1 rfl
  refine c_seq (c_seq (c_region (o_move rfl rfl ?_)))
  refine o_bin rfl rfl rfl (dec_t (by omega) r_lss_i) ?_
  refine o_nil (n_then ?_)
  refine c_yes rfl ?_
  refine c_skip (n_then (c_seq (c_block (c_seq (c_region (o_move rfl rfl ?_))))))
  refine o_call (vs := [_, U64 1]) call_take rfl rfl (take_failed hr) ?_
  rintro r2 w2 ⟨rfl, rfl⟩
  refine o_move rfl rfl ?_
  refine o_extract rfl rfl (r_ext0) ?_
  refine o_extract rfl rfl (r_ext1) ?_
  refine o_assign rfl rfl (o_assign rfl rfl (o_nil (n_then (c_seq (c_seq (c_region (o_move rfl rfl ?_)))))))
  refine o_not rfl rfl (r_not) ?_
  refine o_nil (n_then ?_)
  refine c_yes rfl ?_
  refine c_seq (c_region (o_assign rfl rfl (o_assign rfl rfl (o_nil (n_then (c_ret (r_then (r_block (r_then (r_then (r_block (r_then ?_))))))))))))
  refine r_body2 rfl rfl rfl ?_
  exact ⟨_, rfl, rfl, rfl⟩

def UintR (g : Nat) (w : World) (o : Option (Nat × List UInt8)) (r : Value) (w' : World) : Prop :=
  w.grownBy w' (some g) ∧ match o with
    | some (n, t) => r = .tuple #[U64 (UInt64.ofNat n), I 0] ∧ RdAt g (some t) w'
    | none => r = .tuple #[U64 0, I 5] ∧ RdAt g none w'

theorem Uint_spec {st : Option (List UInt8)} (hr : RdAt g st w) :
    Calls Try.prog 26 #[.pointer (some ⟨g, 0, none⟩)] w (Ret (UintR g w (st.bind rdU))) := by
  refine enter (vs := [.pointer (some ⟨g, 0, none⟩)]) Try.func26 rfl rfl rfl ?_
  refine c_seq (c_region (o_assign rfl rfl (o_assign rfl rfl (o_nil (n_then (c_seq (c_seq (c_region (o_move rfl rfl ?_)))))))))
  refine o_bin rfl rfl rfl (r_eqnilp Try.underlying43) ?_
  refine o_nil (n_then ?_)
  refine c_no rfl ?_
  refine c_skip (n_then (c_seq (c_region (o_move rfl rfl ?_))))
  have hcase : Calls Try.prog 52 #[.pointer (some ⟨g, 0, none⟩)] w (Ret fun r w' => w.grownBy w' (some g) ∧ match st.bind rdU with
      | some (n, t) => r = .tuple #[U64 (UInt64.ofNat n), B true] ∧ RdAt g (some t) w'
      | none => r = .tuple #[U64 0, B false] ∧ ∃ l', RdAt g l' w') := by
    cases st with
    | none => exact (ruvarint_failed hr).mono fun e w' ⟨v, he, hv, hw⟩ => ⟨v, he, by subst hw; exact ⟨grownBy_refl _ _, hv, none, hr⟩⟩
    | some l =>
      refine (ruvarint_spec hr).mono fun e w' ⟨v, he, hg, hv⟩ => ⟨v, he, hg, ?_⟩
      show match rdU l with | some (n, t) => _ | none => _
      cases hrd : rdU l with
      | none => rw [hrd] at hv; exact ⟨hv.1, hv.2.imp' some fun _ h => h⟩
      | some p => rw [hrd] at hv; exact hv
  refine o_call call_ruvarint rfl rfl hcase ?_
  rintro r1 w1 ⟨hg1, h1⟩
  unfold UintR
  cases hrd : st.bind rdU with
  | some p =>
    obtain ⟨n, t⟩ := p
    rw [hrd] at h1
    obtain ⟨rfl, hr1⟩ := h1
    refine o_move rfl rfl ?_
    refine o_extract rfl rfl (r_ext0) ?_
    refine o_extract rfl rfl (r_ext1) ?_
    refine o_assign rfl rfl (o_assign rfl rfl (o_nil (n_then (c_seq (c_seq (c_region (o_move rfl rfl ?_)))))))
    refine o_not rfl rfl (r_not) ?_
    refine o_nil (n_then ?_)
    refine c_no rfl ?_
    refine c_skip (n_then (c_seq (c_region (o_move rfl rfl (o_assign rfl rfl (o_assign rfl rfl (o_nil (n_then (c_ret ?_)))))))))
    refine r_body2 rfl rfl rfl ?_
    exact ⟨_, rfl, hg1, rfl, hr1⟩
  | none =>
    rw [hrd] at h1
    obtain ⟨rfl, l', hr1⟩ := h1
    refine o_move rfl rfl ?_
    refine o_extract rfl rfl (r_ext0) ?_
    refine o_extract rfl rfl (r_ext1) ?_
    refine o_assign rfl rfl (o_assign rfl rfl (o_nil (n_then (c_seq (c_seq (c_region (o_move rfl rfl ?_)))))))
    refine o_not rfl rfl (r_not) ?_
    refine o_nil (n_then ?_)
    refine c_yes rfl ?_
    refine c_seq (c_region (o_move rfl rfl ?_))
    refine o_call call_fail rfl rfl (fail_spec hr1) ?_
    rintro r2 w2 ⟨rfl, hr2, hg2⟩
    refine o_assign rfl rfl (o_assign rfl rfl (o_nil (n_then (c_ret (r_then ?_)))))
    refine r_body2 rfl rfl rfl ?_
    exact ⟨_, rfl, hg1.trans hg2, rfl, hr2⟩
end
end Go.Rl

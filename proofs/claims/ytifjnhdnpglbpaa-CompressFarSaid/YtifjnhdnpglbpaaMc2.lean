/- Walks of the reader of package wire. Conditions: the reader is not nil. -/
import Derived.Test.YtifjnhdnpglbpaaMc1
import Derived.Lib.AppendStr
import Derived.Laws.IdiomStrings
namespace Go.Rl
open Go.RowKit Go.Proofs

theorem call_New : Callable Try.prog 25 := ⟨_, Try.func25, by kernel_rfl, rfl⟩
theorem call_take : Callable Try.prog 55 := ⟨_, Try.func55, by kernel_rfl, rfl⟩
theorem call_fail : Callable Try.prog 53 := ⟨_, Try.func53, by kernel_rfl, rfl⟩
theorem call_ruvarint : Callable Try.prog 52 := ⟨_, Try.func52, by kernel_rfl, rfl⟩
theorem call_Uint : Callable Try.prog 26 := ⟨_, Try.func26, by kernel_rfl, rfl⟩

theorem zero_Reader : (Try.prog.info? 83).map (·.zero) = some (some (.agg #[.slice none 0 0, .bool false])) := by kernel_rfl
theorem size_bytes : (Try.prog.info? 22).map (·.size) = some 1 := by kernel_rfl
theorem size_bool : (Try.prog.info? 4).map (·.size) = some 1 := by kernel_rfl

/-- The reader at block g: none: it has failed; some l: these bytes are left. -/
def RdAt (g : Nat) (st : Option (List UInt8)) (w : World) : Prop :=
  ∃ A n c, w.heap[g]? = some (.cells #[.slice A n c, .bool st.isNone] 83 (0, 0)) ∧ Bts (st.getD []) (.slice A n c) w

theorem RdAt.ext {g : Nat} {st : Option (List UInt8)} {w w' : World} (h : RdAt g st w) (hx : Ext w w') : RdAt g st w' := by
  obtain ⟨A, n, c, h1, h2⟩ := h
  exact ⟨A, n, c, hx.heap_some h1, h2.ext hx⟩
theorem rd_noByte (A : Option Addr) (n c : Nat) (b : Bool) (l : List UInt8) : ∀ (j : Nat) (u : Value), u ∈ l.map U8 → (#[.slice A n c, .bool b] : Array Value)[j]? ≠ some u := by
  intro j u hu
  obtain ⟨x, _, rfl⟩ := List.mem_map.1 hu
  match j with
  | 0 => simp [U8]
  | 1 => simp [U8]
  | j + 2 => simp
/-- Bytes stay what they are when a reader moves on. -/
theorem Bts.reader {l : List UInt8} {v : Value} {g : Nat} {st : Option (List UInt8)} {w w' : World} (h : Bts l v w) (hr : RdAt g st w) (hw : w.grownBy w' (some g)) : Bts l v w' := by
  obtain ⟨A, n, c, h1, _⟩ := hr
  exact Sl.keep h h1 (rd_noByte A n c _ l) hw

section
variable {w : World} {g : Nat} {l : List UInt8}
theorem grownBy_of_ext {w' : World} {row : Option Nat} (h : Ext w w') : w.grownBy w' row := ⟨h.os, h.tape, h.output, h.size, fun _ hi _ => h.heap hi⟩
theorem grownBy_refl (w : World) (row : Option Nat) : w.grownBy w row := World.grownBy.refl w row

theorem New_spec {v : Value} (hv : Bts l v w) (hl : l.length ≤ 140737488355328) :
    Calls Try.prog 25 #[v] w (Ret fun r w' => Ext w w' ∧ ∃ g, w.heap.size ≤ g ∧ r = .pointer (some ⟨g, 0, none⟩) ∧ RdAt g (some l) w') := by
  refine enter (vs := [v]) Try.func25 rfl rfl rfl ?_
  refine c_seq (c_region (o_assign rfl rfl (o_nil (n_then (c_seq (c_region (o_move rfl rfl ?_)))))))
  refine o_call call_Clone rfl rfl (Clone_spec hv hl) ?_
  rintro r1 w1 ⟨hx1, ho1⟩
  obtain ⟨A, n, c, rfl, _⟩ := id ho1.bts
  refine o_build rfl rfl (r := .agg #[.slice A n c, .bool false]) (by simp [Instr.build, run_underlying Try.underlying83, r_zero zero_Reader, r_sizeOf size_bytes, r_sizeOf size_bool, Instr.fill, Value.cells]) ?_
  refine o_box rfl rfl r_box ?_
  refine o_assign rfl rfl (o_nil (n_then (c_ret ?_)))
  refine r_body1 rfl rfl ?_
  exact ⟨_, rfl, hx1.trans (Ext.new _ _), w1.heap.size, hx1.size, rfl, A, n, c, heap_alloc_new _ _, ho1.bts.ext (Ext.new _ _)⟩

theorem fail_spec {st : Option (List UInt8)} (hr : RdAt g st w) :
    Calls Try.prog 53 #[.pointer (some ⟨g, 0, none⟩)] w (Ret fun r w' => r = I 5 ∧ RdAt g none w' ∧ w.grownBy w' (some g)) := by
  obtain ⟨A, n, c, h1, _⟩ := hr
  refine enter (vs := [.pointer (some ⟨g, 0, none⟩)]) Try.func53 rfl rfl rfl ?_
  refine c_seq (c_region (o_assign rfl rfl (o_nil (n_then (c_seq (c_region (o_move rfl rfl (o_move rfl rfl ?_))))))))
  refine o_nilCheck rfl rfl ?_
  refine o_fieldAddr rfl rfl (r_fieldAt Try.underlying83 rfl size_bytes (by omega)) ?_
  refine o_store rfl rfl (r_store1 size_bytes rfl h1 (by simp)) ?_
  refine o_nilCheck rfl rfl ?_
  refine o_fieldAddr rfl rfl (r_fieldAt Try.underlying83 rfl size_bool (by omega)) ?_
  have h2 := heap_set h1 0 (.slice none 0 0)
  refine o_store rfl rfl (r_store1 (i := 1) size_bool rfl h2 (by simp)) ?_
  have h3 := heap_set h2 1 (.bool true)
  refine o_nil (n_then (c_seq (c_region (o_assign rfl rfl (o_nil (n_then (c_ret ?_)))))))
  refine r_body1 rfl rfl ?_
  exact ⟨_, rfl, rfl, ⟨none, 0, 0, h3, Bts.nil _⟩, (grownBy_setCell w g 0 _).trans (grownBy_setCell _ g 1 _)⟩

theorem take_failed {n : UInt64} (hr : RdAt g none w) :
    Calls Try.prog 55 #[.pointer (some ⟨g, 0, none⟩), U64 n] w (Ret fun r w' => r = .tuple #[.slice none 0 0, B false] ∧ w' = w) := by
  obtain ⟨A, m, c, h1, _⟩ := hr
  refine enter (vs := [.pointer (some ⟨g, 0, none⟩), U64 n]) Try.func55 rfl rfl rfl ?_
  refine c_seq (c_region (o_assign rfl rfl (o_assign rfl rfl (o_nil (n_then (c_seq (c_seq (c_region (o_move rfl rfl ?_)))))))))
  refine o_nilCheck rfl rfl ?_
  refine o_fieldAddr rfl rfl (r_fieldAt Try.underlying83 rfl size_bool (by omega)) ?_
  refine o_load rfl rfl (r_load1 Try.underlying4 rfl (cellAt (i := 1) h1 rfl)) ?_
  refine o_move rfl rfl ?_
  refine g_no rfl rfl rfl ?_
  refine g_no rfl rfl rfl ?_
  refine g_no rfl rfl rfl ?_
  refine g_no rfl rfl rfl ?_
  refine g_no rfl rfl rfl ?_
  refine g_no rfl rfl rfl ?_
  refine g_no rfl rfl rfl ?_
  refine g_no rfl rfl rfl ?_
  refine o_pick_t rfl rfl rfl ?_
  refine o_nil (n_then ?_)
  refine c_yes rfl ?_
  refine c_seq (c_region (o_assign rfl rfl (o_assign rfl rfl (o_nil (n_then (c_ret (r_then ?_)))))))
  refine r_body2 rfl rfl rfl ?_
  exact ⟨_, rfl, rfl, rfl⟩

theorem u64_len (h : l.length ≤ 9223372036854775807) : (UInt64.ofNat l.length).toNat = l.length := by rw [UInt64.toNat_ofNat']; omega

theorem take_no {n : UInt64} (hr : RdAt g (some l) w) (hn : l.length < n.toNat) :
    Calls Try.prog 55 #[.pointer (some ⟨g, 0, none⟩), U64 n] w (Ret fun r w' => r = .tuple #[.slice none 0 0, B false] ∧ w' = w) := by
  obtain ⟨A, m, c, h1, h2⟩ := hr
  have h2' : Bts l (.slice A m c) w := h2
  refine enter (vs := [.pointer (some ⟨g, 0, none⟩), U64 n]) Try.func55 rfl rfl rfl ?_
  refine c_seq (c_region (o_assign rfl rfl (o_assign rfl rfl (o_nil (n_then (c_seq (c_seq (c_region (o_move rfl rfl ?_)))))))))
  refine o_nilCheck rfl rfl ?_
  refine o_fieldAddr rfl rfl (r_fieldAt Try.underlying83 rfl size_bool (by omega)) ?_
  refine o_load rfl rfl (r_load1 Try.underlying4 rfl (cellAt (i := 1) h1 rfl)) ?_
  refine o_move rfl rfl ?_
  refine g_yes rfl (o_move rfl rfl (g_yes rfl (o_move rfl rfl ?_)))
  refine g_yes rfl (o_nilCheck rfl rfl ?_)
  refine g_yes rfl (o_fieldAddr rfl rfl (r_fieldAt Try.underlying83 rfl size_bytes (by omega)) ?_)
  refine g_yes rfl (o_load rfl rfl (r_load1 Try.underlying22 rfl (cellAt (i := 0) h1 rfl)) ?_)
  refine g_yes rfl (o_len rfl rfl (r_lenB h2') ?_)
  refine g_yes rfl (o_conv rfl rfl (r_n_u64 Try.underlying3 Try.underlying31) ?_)
  refine g_yes rfl (o_bin rfl rfl rfl (dec_t (by show _ < n; rw [UInt64.lt_iff_toNat_lt, u64_len h2'.len]; exact hn) r_gtr_u64) ?_)
  refine o_pick_f rfl rfl rfl ?_
  refine o_nil (n_then ?_)
  refine c_yes rfl ?_
  refine c_seq (c_region (o_assign rfl rfl (o_assign rfl rfl (o_nil (n_then (c_ret (r_then ?_)))))))
  refine r_body2 rfl rfl rfl ?_
  exact ⟨_, rfl, rfl, rfl⟩

theorem take_yes {n : UInt64} (hr : RdAt g (some l) w) (hn : n.toNat ≤ l.length) :
    Calls Try.prog 55 #[.pointer (some ⟨g, 0, none⟩), U64 n] w
      (Ret fun r w' => ∃ b, r = .tuple #[b, B true] ∧ Bts (l.take n.toNat) b w' ∧ RdAt g (some (l.drop n.toNat)) w' ∧ w.grownBy w' (some g)) := by
  obtain ⟨A, m, c, h1, h2⟩ := hr
  have h2' : Bts l (.slice A m c) w := h2
  refine enter (vs := [.pointer (some ⟨g, 0, none⟩), U64 n]) Try.func55 rfl rfl rfl ?_
  refine c_seq (c_region (o_assign rfl rfl (o_assign rfl rfl (o_nil (n_then (c_seq (c_seq (c_region (o_move rfl rfl ?_)))))))))
  refine o_nilCheck rfl rfl ?_
  refine o_fieldAddr rfl rfl (r_fieldAt Try.underlying83 rfl size_bool (by omega)) ?_
  refine o_load rfl rfl (r_load1 Try.underlying4 rfl (cellAt (i := 1) h1 rfl)) ?_
  refine o_move rfl rfl ?_
  refine g_yes rfl (o_move rfl rfl (g_yes rfl (o_move rfl rfl ?_)))
  refine g_yes rfl (o_nilCheck rfl rfl ?_)
  refine g_yes rfl (o_fieldAddr rfl rfl (r_fieldAt Try.underlying83 rfl size_bytes (by omega)) ?_)
  refine g_yes rfl (o_load rfl rfl (r_load1 Try.underlying22 rfl (cellAt (i := 0) h1 rfl)) ?_)
  refine g_yes rfl (o_len rfl rfl (r_lenB h2') ?_)
  refine g_yes rfl (o_conv rfl rfl (r_n_u64 Try.underlying3 Try.underlying31) ?_)
  refine g_yes rfl (o_bin rfl rfl rfl (dec_f (by show ¬ _ < n; rw [UInt64.lt_iff_toNat_lt, u64_len h2'.len]; omega) r_gtr_u64) ?_)
  refine o_pick_f rfl rfl rfl ?_
  refine o_nil (n_then ?_)
  refine c_no rfl ?_
  refine c_skip (n_then (c_seq (c_region (o_move rfl rfl ?_))))
  refine o_nilCheck rfl rfl ?_
  refine o_fieldAddr rfl rfl (r_fieldAt Try.underlying83 rfl size_bytes (by omega)) ?_
  refine o_load rfl rfl (r_load1 Try.underlying22 rfl (cellAt (i := 0) h1 rfl)) ?_
  refine o_move rfl rfl ?_
  obtain ⟨b, hb, hb2⟩ := r_slB_hi h2' hn .u64
  refine o_slice (b := some (U64 n)) rfl rfl rfl rfl rfl (hb _) ?_
  refine o_assign rfl rfl (o_nil (n_then (c_seq (c_region (o_move rfl rfl (o_move rfl rfl ?_))))))
  refine o_nilCheck rfl rfl ?_
  refine o_fieldAddr rfl rfl (r_fieldAt Try.underlying83 rfl size_bytes (by omega)) ?_
  refine o_load rfl rfl (r_load1 Try.underlying22 rfl (cellAt (i := 0) h1 rfl)) ?_
  refine o_move rfl rfl ?_
  obtain ⟨r, hr, hr2⟩ := r_slB_lo h2' hn .u64
  refine o_slice (a := some (U64 n)) rfl rfl rfl rfl rfl (hr _) ?_
  refine o_nilCheck rfl rfl ?_
  refine o_fieldAddr rfl rfl (r_fieldAt Try.underlying83 rfl size_bytes (by omega)) ?_
  obtain ⟨A', m', c', rfl, _⟩ := id hr2
  refine o_store rfl rfl (r_store1 (i := 0) size_bytes rfl h1 (by simp)) ?_
  have h3 := heap_set h1 0 (.slice A' m' c')
  have hg := grownBy_setCell w g 0 (.slice A' m' c')
  refine o_nil (n_then (c_seq (c_region (o_move rfl rfl (o_assign rfl rfl (o_assign rfl rfl (o_nil (n_then (c_ret ?_)))))))))
  refine r_body2 rfl rfl rfl ?_
  have hrd : RdAt g (some l) w := ⟨A, m, c, h1, h2⟩
  exact ⟨_, rfl, b, rfl, hb2.reader hrd hg, ⟨A', m', c', h3, hr2.reader hrd hg⟩, hg⟩

/-- What a reading of a number leaves. -/
def UvR (g : Nat) (w : World) (o : Option (Nat × List UInt8)) (r : Value) (w' : World) : Prop :=
  w.grownBy w' (some g) ∧ match o with
    | some (n, t) => r = .tuple #[U64 (UInt64.ofNat n), B true] ∧ RdAt g (some t) w'
    | none => r = .tuple #[U64 0, B false] ∧ ∃ l', RdAt g (some l') w'

theorem ruvarint_spec (hr : RdAt g (some l) w) :
    Calls Try.prog 52 #[.pointer (some ⟨g, 0, none⟩)] w (Ret (UvR g w (rdU l))) := by
  refine enter (vs := [.pointer (some ⟨g, 0, none⟩)]) Try.func52 rfl rfl rfl ?_
  refine c_seq (c_region (o_assign rfl rfl (o_assign rfl rfl (o_nil (n_then (c_seq (c_seq (c_region (o_assign rfl rfl (o_nil (n_then (c_block ?_))))))))))))
  refine c_loop (α := Nat × List UInt8 × UInt64) (fun x => [(0, .pointer (some ⟨g, 0, none⟩)), (4, I ((7 * x.1 : Nat) : Int)), (2, U64 x.2.2)])
    (fun x w' => RdAt g (some x.2.1) w' ∧ w.grownBy w' (some g) ∧ x.1 ≤ 9 ∧ x.2.2.toNat < 128 ^ x.1 ∧ rdU l = (rdUk (10 - x.1) x.1 x.2.1).map fun p => (p.1 + x.2.2.toNat, p.2)) (fun x => 10 - x.1)
    (0, l, 0) ⟨rfl, rfl, rfl, trivial⟩ ⟨hr, grownBy_refl _ _, by simp, by simp, by simp [rdU]⟩ ?_
  rintro ⟨k, rest, acc⟩ w1 ⟨hr1, hg1, hk, hacc, hrd⟩
  dsimp only at hr1 hg1 hk hacc hrd
  have hfuel : 10 - k = (9 - k) + 1 := by omega
  rw [hfuel] at hrd
  refine c_seq (c_seq (c_region (o_move rfl rfl ?_)))
  refine o_bin rfl rfl rfl (dec_t (by omega) r_lss_i) ?_
  refine o_nil (n_then ?_)
  refine c_yes rfl ?_
  refine c_skip (n_then (c_seq (c_block (c_seq (c_region (o_move rfl rfl ?_))))))
  cases rest with
  | nil =>
    refine o_call (vs := [_, U64 1]) call_take rfl rfl (take_no hr1 (by decide)) ?_
    rintro r2 w2 ⟨rfl, rfl⟩
    refine o_move rfl rfl ?_
    refine o_extract rfl rfl (r_ext0) ?_
    refine o_extract rfl rfl (r_ext1) ?_
    refine o_assign rfl rfl (o_assign rfl rfl (o_nil (n_then (c_seq (c_seq (c_region (o_move rfl rfl ?_)))))))
    refine o_not rfl rfl (r_not) ?_
    refine o_nil (n_then ?_)
    refine c_yes rfl ?_
    refine c_seq (c_region (o_assign rfl rfl (o_assign rfl rfl (o_nil (n_then (c_ret (r_then (r_block (r_then (r_then (r_block (r_then ?_))))))))))))
    refine r_body2 rfl rfl rfl ?_
    refine ⟨_, rfl, hg1, ?_⟩
    rw [hrd, rdUk_nil]
    exact ⟨rfl, [], hr1⟩
  | cons c t =>
    refine o_call (vs := [_, U64 1]) call_take rfl rfl (take_yes hr1 (by simp)) ?_
    rintro r2 w2 ⟨b, rfl, hb, hr2, hg2⟩
    have hb' : Bts [c] b w2 := hb
    have hr2' : RdAt g (some t) w2 := hr2
    have hg := hg1.trans hg2
    refine o_move rfl rfl ?_
    refine o_extract rfl rfl (r_ext0) ?_
    refine o_extract rfl rfl (r_ext1) ?_
    refine o_assign rfl rfl (o_assign rfl rfl (o_nil (n_then (c_seq (c_seq (c_region (o_move rfl rfl ?_)))))))
    refine o_not rfl rfl (r_not) ?_
    refine o_nil (n_then ?_)
    refine c_no rfl ?_
    refine c_skip (n_then (c_seq (c_region (o_move rfl rfl ?_))))
    obtain ⟨ad, had, hcell⟩ := r_ixB hb' (i := 0) (by simp) .i64
    refine o_indexAddr rfl rfl rfl (had _) ?_
    refine o_load rfl rfl (r_ldB hcell) ?_
    refine o_assign rfl rfl (o_nil (n_then (c_seq (c_seq ?_))))
    refine c_cut (fun _ : Unit => [(0, .pointer (some ⟨g, 0, none⟩)), (4, I ((7 * k : Nat) : Int)), (2, U64 acc), (7, U8 c), (35, B (decide ((k = 9 ∧ 1 < c.toNat) ∨ (0 < k ∧ c.toNat = 0))))]) (fun _ w' => w' = w2) ?_ ?_
    · refine c_region (o_move rfl rfl ?_)
      have c1 : c > 1 ↔ 1 < c.toNat := by show 1 < c ↔ _; rw [UInt8.lt_iff_toNat_lt]; rfl
      have c0 : c = 0 ↔ c.toNat = 0 := by rw [← UInt8.toNat_inj]; rfl
      by_cases h9 : k = 9
      · refine o_bin rfl rfl rfl (dec_t (by omega) r_eql_i) ?_
        refine o_move rfl rfl (g_yes rfl (o_move rfl rfl ?_))
        by_cases hc1 : 1 < c.toNat
        · refine g_yes rfl (o_bin (v := U8 1) rfl rfl rfl (dec_t (c1.2 hc1) r_gtr_u8) ?_)
          refine o_pick_t rfl rfl rfl (o_move rfl rfl ?_)
          refine g_no rfl rfl rfl (g_no rfl rfl rfl (g_no rfl rfl rfl ?_))
          refine g_undef rfl rfl rfl (g_undef rfl rfl rfl (g_no rfl rfl rfl ?_))
          refine o_pick_t rfl rfl rfl (o_nil ?_)
          exact n_meet () ⟨rfl, rfl, rfl, rfl, by rw [decide_eq_true (Or.inl ⟨h9, hc1⟩)]; rfl, trivial⟩ rfl
        · refine g_yes rfl (o_bin (v := U8 1) rfl rfl rfl (dec_f (fun h => hc1 (c1.1 h)) r_gtr_u8) ?_)
          refine o_pick_t rfl rfl rfl (o_move rfl rfl ?_)
          refine g_yes rfl (o_move rfl rfl (g_yes rfl (o_bin rfl rfl rfl (dec_t (by omega) r_gtr_i) ?_)))
          refine g_yes rfl (o_move rfl rfl (g_yes rfl (o_move rfl rfl ?_)))
          refine g_yes rfl (o_bin (v := U8 0) rfl rfl rfl r_eql_u8 ?_)
          refine g_yes rfl (o_pick_t rfl rfl rfl ?_)
          refine o_pick_f rfl rfl rfl (o_nil ?_)
          refine n_meet () ⟨rfl, rfl, rfl, rfl, ?_, trivial⟩ rfl
          show some (B (decide (c = 0))) = _
          rw [decide_eq_decide.2 (show c = 0 ↔ ((k = 9 ∧ 1 < c.toNat) ∨ (0 < k ∧ c.toNat = 0)) from by rw [c0]; omega)]
      · refine o_bin rfl rfl rfl (dec_f (by omega) r_eql_i) ?_
        refine o_move rfl rfl (g_no rfl rfl rfl (g_no rfl rfl rfl ?_))
        refine o_pick_f rfl rfl rfl (o_move rfl rfl ?_)
        by_cases hk0 : 0 < k
        · refine g_yes rfl (o_move rfl rfl (g_yes rfl (o_bin rfl rfl rfl (dec_t (by omega) r_gtr_i) ?_)))
          refine g_yes rfl (o_move rfl rfl (g_yes rfl (o_move rfl rfl ?_)))
          refine g_yes rfl (o_bin (v := U8 0) rfl rfl rfl r_eql_u8 ?_)
          refine g_yes rfl (o_pick_t rfl rfl rfl ?_)
          refine o_pick_f rfl rfl rfl (o_nil ?_)
          refine n_meet () ⟨rfl, rfl, rfl, rfl, ?_, trivial⟩ rfl
          show some (B (decide (c = 0))) = _
          rw [decide_eq_decide.2 (show c = 0 ↔ ((k = 9 ∧ 1 < c.toNat) ∨ (0 < k ∧ c.toNat = 0)) from by rw [c0]; omega)]
        · refine g_yes rfl (o_move rfl rfl (g_yes rfl (o_bin rfl rfl rfl (dec_f (by omega) r_gtr_i) ?_)))
          refine g_yes rfl (o_move rfl rfl (g_no rfl rfl rfl (g_no rfl rfl rfl ?_)))
          refine g_yes rfl (o_pick_f rfl rfl rfl ?_)
          refine o_pick_f rfl rfl rfl (o_nil ?_)
          refine n_meet () ⟨rfl, rfl, rfl, rfl, ?_, trivial⟩ rfl
          show some (B false) = _
          rw [decide_eq_false (by omega)]
    · rintro _ w3 rfl
      refine n_then (c_if rfl (fun h => ?_) (fun h => ?_))
      · refine c_seq (c_region (o_assign rfl rfl (o_assign rfl rfl (o_nil (n_then (c_ret (r_then (r_block (r_then (r_then (r_block (r_then ?_))))))))))))
        refine r_body2 rfl rfl rfl ?_
        refine ⟨_, rfl, hg, ?_⟩
        rw [hrd]
        simp only [rdUk]
        rw [if_pos h]
        exact ⟨rfl, t, hr2'⟩
      · have hor := or_byte (acc := acc) (c := c) hacc hk (fun h9 => by
          have : ¬ 1 < c.toNat := fun hc => h (Or.inl ⟨h9, hc⟩)
          omega)
        refine c_skip (n_then (c_seq (c_region (o_move rfl rfl (o_move rfl rfl ?_)))))
        refine o_bin (v := U8 127) rfl rfl rfl (r_and_u8) ?_
        refine o_conv rfl rfl (r_u8_u64 Try.underlying5 Try.underlying31) ?_
        refine o_move rfl rfl ?_
        refine o_bin rfl rfl rfl (r_shl_u64 (7 * k) (by omega)) ?_
        refine o_bin rfl rfl rfl (r_or_u64) ?_
        refine o_assign rfl rfl (o_nil (n_then (c_seq (c_region (o_move rfl rfl ?_)))))
        refine o_bin (v := U8 128) rfl rfl rfl (r_lss_u8) ?_
        refine o_nil (n_then ?_)
        refine c_if rfl (fun h2 => ?_) (fun h2 => ?_)
        · have h2' : c.toNat < 128 := by rw [UInt8.lt_iff_toNat_lt] at h2; exact h2
          refine c_seq (c_region (o_move rfl rfl (o_assign rfl rfl (o_assign rfl rfl (o_nil (n_then (c_ret (r_block (r_then (r_then (r_block (r_then ?_))))))))))))
          refine r_body2 rfl rfl rfl ?_
          refine ⟨_, rfl, hg, ?_⟩
          rw [hrd]
          simp only [rdUk]
          rw [if_neg h, if_pos h2']
          refine ⟨?_, hr2'⟩
          rw [Nat.mod_eq_of_lt h2'] at hor
          have : UInt64.ofNat (c.toNat * 128 ^ k + acc.toNat) = acc ||| ((c &&& 127).toUInt64 <<< UInt64.ofNat (7 * k)) := by
            rw [Nat.add_comm, ← hor, UInt64.ofNat_toNat]
          rw [this]; rfl
        · have h2' : ¬ c.toNat < 128 := fun hc => h2 (by rw [UInt8.lt_iff_toNat_lt]; exact hc)
          have hk9 : k ≠ 9 := fun hk9 => h (Or.inl ⟨hk9, by omega⟩)
          refine c_skip (n_block (n_then (c_region (o_move rfl rfl ?_))))
          refine o_bin rfl rfl rfl (r_add_i (by omega) (by omega)) ?_
          refine o_assign rfl rfl (o_nil ?_)
          refine n_round (k + 1, t, acc ||| ((c &&& 127).toUInt64 <<< UInt64.ofNat (7 * k))) ⟨rfl, ?_, rfl, trivial⟩ ⟨hr2', hg, by show k + 1 ≤ 9; omega, ?_, ?_⟩ (by show 10 - (k + 1) < 10 - k; omega)
          · show some (I (((7 * k : Nat) : Int) + 7)) = some (I ((7 * (k + 1) : Nat) : Int))
            rw [show ((7 * k : Nat) : Int) + 7 = ((7 * (k + 1) : Nat) : Int) by omega]
          · show (acc ||| ((c &&& 127).toUInt64 <<< UInt64.ofNat (7 * k))).toNat < 128 ^ (k + 1)
            rw [hor, Nat.pow_succ]
            have : (c.toNat % 128) * 128 ^ k ≤ 127 * 128 ^ k := Nat.mul_le_mul_right _ (by omega)
            omega
          · show rdU l = (rdUk (10 - (k + 1)) (k + 1) t).map fun p => (p.1 + (acc ||| ((c &&& 127).toUInt64 <<< UInt64.ofNat (7 * k))).toNat, p.2)
            rw [hrd, hor]
            simp only [rdUk]
            rw [if_neg h, if_neg h2', Option.map_map]
            have : 10 - (k + 1) = 9 - k := by omega
            rw [this]
            have ef : ((fun p : Nat × List UInt8 => (p.1 + acc.toNat, p.2)) ∘ fun p : Nat × List UInt8 => (p.1 + c.toNat % 128 * 128 ^ k, p.2)) = fun p => (p.1 + (acc.toNat + c.toNat % 128 * 128 ^ k), p.2) := by
              funext p
              simp only [Function.comp, Prod.mk.injEq, and_true]
              omega
            rw [ef]

theorem ruvarint_failed (hr : RdAt g none w) :
    Calls Try.prog 52 #[.pointer (some ⟨g, 0, none⟩)] w (Ret fun r w' => r = .tuple #[U64 0, B false] ∧ w' = w) := by
  refine enter (vs := [.pointer (some ⟨g, 0, none⟩)]) Try.func52 rfl rfl rfl ?_
  refine c_seq (c_region (o_assign rfl rfl (o_assign rfl rfl (o_nil (n_then (c_seq (c_seq (c_region (o_assign rfl rfl (o_nil (n_then (c_block ?_))))))))))))
  refine c_loop (α := Unit) (fun _ => [(0, .pointer (some ⟨g, 0, none⟩)), (4, I 0), (2, U64 0)]) (fun _ w' => w' = w) (fun _ => 0) () ⟨rfl, rfl, rfl, trivial⟩ rfl ?_
  rintro _ w1 rfl
  refine c_seq (c_seq (c_region (o_move rfl rfl ?_)))
  refine o_bin rfl rfl rfl (dec_t (by omega) r_lss_i) ?_
  refine o_nil (n_then ?_)
  refine c_yes rfl ?_
  refine c_skip (n_then (c_seq (c_block (c_seq (c_region (o_move rfl rfl ?_))))))
  refine o_call (vs := [_, U64 1]) call_take rfl rfl (take_failed hr) ?_
  rintro r2 w2 ⟨rfl, rfl⟩
  refine o_move rfl rfl ?_
  refine o_extract rfl rfl (r_ext0) ?_
  refine o_extract rfl rfl (r_ext1) ?_
  refine o_assign rfl rfl (o_assign rfl rfl (o_nil (n_then (c_seq (c_seq (c_region (o_move rfl rfl ?_)))))))
  refine o_not rfl rfl (r_not) ?_
  refine o_nil (n_then ?_)
  refine c_yes rfl ?_
  refine c_seq (c_region (o_assign rfl rfl (o_assign rfl rfl (o_nil (n_then (c_ret (r_then (r_block (r_then (r_then (r_block (r_then ?_))))))))))))
  refine r_body2 rfl rfl rfl ?_
  exact ⟨_, rfl, rfl, rfl⟩

def UintR (g : Nat) (w : World) (o : Option (Nat × List UInt8)) (r : Value) (w' : World) : Prop :=
  w.grownBy w' (some g) ∧ match o with
    | some (n, t) => r = .tuple #[U64 (UInt64.ofNat n), I 0] ∧ RdAt g (some t) w'
    | none => r = .tuple #[U64 0, I 5] ∧ RdAt g none w'

theorem Uint_spec {st : Option (List UInt8)} (hr : RdAt g st w) :
    Calls Try.prog 26 #[.pointer (some ⟨g, 0, none⟩)] w (Ret (UintR g w (st.bind rdU))) := by
  refine enter (vs := [.pointer (some ⟨g, 0, none⟩)]) Try.func26 rfl rfl rfl ?_
  refine c_seq (c_region (o_assign rfl rfl (o_assign rfl rfl (o_nil (n_then (c_seq (c_seq (c_region (o_move rfl rfl ?_)))))))))
  refine o_bin rfl rfl rfl (r_eqnilp Try.underlying43) ?_
  refine o_nil (n_then ?_)
  refine c_no rfl ?_
  refine c_skip (n_then (c_seq (c_region (o_move rfl rfl ?_))))
  have hcase : Calls Try.prog 52 #[.pointer (some ⟨g, 0, none⟩)] w (Ret fun r w' => w.grownBy w' (some g) ∧ match st.bind rdU with
      | some (n, t) => r = .tuple #[U64 (UInt64.ofNat n), B true] ∧ RdAt g (some t) w'
      | none => r = .tuple #[U64 0, B false] ∧ ∃ l', RdAt g l' w') := by
    cases st with
    | none => exact (ruvarint_failed hr).mono fun e w' ⟨v, he, hv, hw⟩ => ⟨v, he, by subst hw; exact ⟨grownBy_refl _ _, hv, none, hr⟩⟩
    | some l =>
      refine (ruvarint_spec hr).mono fun e w' ⟨v, he, hg, hv⟩ => ⟨v, he, hg, ?_⟩
      show match rdU l with | some (n, t) => _ | none => _
      cases hrd : rdU l with
      | none => rw [hrd] at hv; exact ⟨hv.1, hv.2.imp' some fun _ h => h⟩
      | some p => rw [hrd] at hv; exact hv
  refine o_call call_ruvarint rfl rfl hcase ?_
  rintro r1 w1 ⟨hg1, h1⟩
  unfold UintR
  cases hrd : st.bind rdU with
  | some p =>
    obtain ⟨n, t⟩ := p
    rw [hrd] at h1
    obtain ⟨rfl, hr1⟩ := h1
    refine o_move rfl rfl ?_
    refine o_extract rfl rfl (r_ext0) ?_
    refine o_extract rfl rfl (r_ext1) ?_
    refine o_assign rfl rfl (o_assign rfl rfl (o_nil (n_then (c_seq (c_seq (c_region (o_move rfl rfl ?_)))))))
    refine o_not rfl rfl (r_not) ?_
    refine o_nil (n_then ?_)
    refine c_no rfl ?_
    refine c_skip (n_then (c_seq (c_region (o_move rfl rfl (o_assign rfl rfl (o_assign rfl rfl (o_nil (n_then (c_ret ?_)))))))))
    refine r_body2 rfl rfl rfl ?_
    exact ⟨_, rfl, hg1, rfl, hr1⟩
  | none =>
    rw [hrd] at h1
    obtain ⟨rfl, l', hr1⟩ := h1
    refine o_move rfl rfl ?_
    refine o_extract rfl rfl (r_ext0) ?_
    refine o_extract rfl rfl (r_ext1) ?_
    refine o_assign rfl rfl (o_assign rfl rfl (o_nil (n_then (c_seq (c_seq (c_region (o_move rfl rfl ?_)))))))
    refine o_not rfl rfl (r_not) ?_
    refine o_nil (n_then ?_)
    refine c_yes rfl ?_
    refine c_seq (c_region (o_move rfl rfl ?_))
    refine o_call call_fail rfl rfl (fail_spec hr1) ?_
    rintro r2 w2 ⟨rfl, hr2, hg2⟩
    refine o_assign rfl rfl (o_assign rfl rfl (o_nil (n_then (c_ret (r_then ?_)))))
    refine r_body2 rfl rfl rfl ?_
    exact ⟨_, rfl, hg1.trans hg2, rfl, hr2⟩
end
end Go.Rl
/- Walks of the functions that append limbs. Conditions: what is appended to is short. -/
namespace Go.Rl
open Go.RowKit Go.Proofs

theorem call_nat : Callable Try.prog 49 := ⟨_, Try.func49, by kernel_rfl, rfl⟩
theorem call_AppendNat : Callable Try.prog 22 := ⟨_, Try.func22, by kernel_rfl, rfl⟩
theorem call_awake : Callable Try.prog 19 := ⟨_, Try.func19, by kernel_rfl, rfl⟩

/-- A limb, the least significant byte first. -/
def le4 (x : UInt32) : List UInt8 := [x.toUInt8, (x >>> UInt32.ofNat 8).toUInt8, (x >>> UInt32.ofNat 16).toUInt8, (x >>> UInt32.ofNat 24).toUInt8]
def le4s (l : List UInt32) : List UInt8 := l.flatMap le4
theorem le4s_snoc (l : List UInt32) (k : Nat) (h : k < l.length) : le4s (l.take (k + 1)) = le4s (l.take k) ++ le4 l[k] := by
  unfold le4s
  rw [List.take_succ_eq_append_getElem h, List.flatMap_append]
  simp
theorem le4s_len (l : List UInt32) : (le4s l).length = 4 * l.length := by
  induction l with
  | nil => rfl
  | cons x l ih =>
    have : le4s (x :: l) = le4 x ++ le4s l := by simp [le4s]
    rw [this, List.length_append, ih]
    simp [le4]; omega
def encN (l : List UInt32) : List UInt8 := uv l.length ++ le4s l
theorem encN_len (l : List UInt32) (h : l.length < 18446744073709551616) : (encN l).length ≤ 10 + 4 * l.length := by
  have := uv_len h
  simp only [encN, List.length_append, le4s_len]; omega

section
variable {w0 w : World} {l : List UInt8} {ns : List UInt32} {v nv : Value}

theorem nat_spec (hx : Ext w0 w) (hv : OwnB w0.heap.size l v w) (hn : Wds ns nv w0) (hl : l.length + 4 * ns.length ≤ 35184372088832) :
    Calls Try.prog 49 #[v, nv] w (Ret fun r w' => OwnB w0.heap.size (l ++ encN ns) r w' ∧ Ext w0 w' ∧ Grew w w' v r) := by
  refine enter (vs := [v, nv]) Try.func49 rfl rfl rfl ?_
  refine c_seq (c_region (o_assign rfl rfl (o_nil (n_then (c_seq (c_region (o_move rfl rfl (o_move rfl rfl ?_))))))))
  refine o_len rfl rfl (r_lenW Try.underlying33 (hn.ext hx)) ?_
  refine o_conv rfl rfl (r_n_u64 Try.underlying3 Try.underlying31) ?_
  refine o_call call_uvarint rfl rfl (uvarint_spec hv (by omega) hx.size) ?_
  rintro b1 w1 ⟨hb1, hg1⟩
  have hlen : (UInt64.ofNat ns.length).toNat = ns.length := by rw [UInt64.toNat_ofNat']; have := hn.len; omega
  rw [hlen] at hb1
  have hx1 : Ext w0 w1 := hx.of_grew hg1 hv.ge
  have huv := uv_len (n := ns.length) (by have := hn.len; omega)
  refine o_assign rfl rfl (o_nil (n_then (c_seq (c_seq (c_region (o_move rfl rfl ?_))))))
  refine o_len rfl rfl (r_lenW Try.underlying33 (hn.ext hx1)) ?_
  refine o_move rfl rfl (o_nil (n_then (c_block ?_)))
  refine c_loop (α := Nat × Value) (fun x => [(0, x.2), (12, nv), (13, I (ns.length : Int)), (14, I (x.1 : Int))])
    (fun x w' => OwnB w0.heap.size (l ++ uv ns.length ++ le4s (ns.take x.1)) x.2 w' ∧ Ext w0 w' ∧ Grew w w' v x.2 ∧ x.1 ≤ ns.length) (fun x => ns.length - x.1) (0, b1) ⟨rfl, rfl, rfl, rfl, trivial⟩
    ⟨by simpa [le4s] using hb1, hx1, hg1, by simp⟩ ?_
  rintro ⟨k, b⟩ w2 ⟨hb, hx2, hg2, hk⟩
  dsimp only at hb hx2 hg2 hk
  have hns := hn.len
  have hdl : (l ++ uv ns.length ++ le4s (ns.take k)).length ≤ 35184372088832 + 10 := by
    simp only [List.length_append, le4s_len, List.length_take]; omega
  refine c_seq (c_region ?_)
  refine o_bin rfl rfl rfl (r_lss_i) ?_
  refine o_nil (n_then (c_seq ?_))
  refine c_if rfl (fun h => ?_) (fun h => ?_)
  · have hlt : k < ns.length := by omega
    refine c_skip (n_then (c_seq (c_block (c_seq (c_region ?_)))))
    obtain ⟨ad, had, hcell⟩ := r_ixW Try.underlying33 (hn.ext hx2) hlt .i64
    refine o_indexAddr rfl rfl rfl (had _) ?_
    refine o_load rfl rfl (r_ldW hcell) ?_
    refine o_assign rfl rfl (o_nil (n_then (c_region (o_move rfl rfl (o_move rfl rfl ?_)))))
    refine o_conv rfl rfl (r_u32_u8 Try.underlying79 Try.underlying5) ?_
    refine o_move rfl rfl ?_
    refine o_bin rfl rfl rfl (r_shr_u32 8 (by omega)) ?_
    refine o_conv rfl rfl (r_u32_u8 Try.underlying79 Try.underlying5) ?_
    refine o_move rfl rfl ?_
    refine o_bin rfl rfl rfl (r_shr_u32 16 (by omega)) ?_
    refine o_conv rfl rfl (r_u32_u8 Try.underlying79 Try.underlying5) ?_
    refine o_move rfl rfl ?_
    refine o_bin rfl rfl rfl (r_shr_u32 24 (by omega)) ?_
    refine o_conv rfl rfl (r_u32_u8 Try.underlying79 Try.underlying5) ?_
    obtain ⟨r3, w3, hr3, hx3, ho3, _⟩ := r_bsB (w := w2) w2.heap.size (le4 ns[k]) (by simp [le4]) (Nat.le_refl _)
    refine o_buildSlice rfl rfl hr3 ?_
    obtain ⟨r4, w4, hr4, ho4, hg4⟩ := r_appB (ty := 22) (hb.ext hx3) ho3.bts (by simp only [le4, List.length_cons, List.length_nil]; omega) (Nat.le_trans hx2.size hx3.size)
    refine o_append rfl rfl hr4 ?_
    refine o_assign rfl rfl (o_nil (n_block (n_then (c_region ?_))))
    refine o_bin rfl rfl rfl (r_add_i (by omega) (by omega)) ?_
    refine o_move rfl rfl (o_nil ?_)
    refine n_round (k + 1, r4) ⟨rfl, rfl, rfl, rfl, trivial⟩ ⟨?_, (hx2.trans hx3).of_grew hg4 hb.ge, hg2.trans (Grew.before hx3 hg4), hlt⟩ (by show ns.length - (k + 1) < ns.length - k; omega)
    show OwnB _ (l ++ uv ns.length ++ le4s (ns.take (k + 1))) r4 w4
    rw [le4s_snoc ns k hlt, ← List.append_assoc]
    exact ho4
  · have hk' : k = ns.length := by omega
    refine c_exit (x_then (x_then (x_here (n_then (c_seq (c_region (o_move rfl rfl (o_assign rfl rfl (o_nil (n_then (c_ret ?_)))))))))))
    refine r_body1 rfl rfl ?_
    refine ⟨_, rfl, ?_, hx2, hg2⟩
    rw [hk', List.take_length, List.append_assoc] at hb
    exact hb

theorem AppendNat_spec (hv : Bts l v w) (hn : Wds ns nv w) (hl : l.length + 4 * ns.length ≤ 35184372088832) :
    Calls Try.prog 22 #[v, nv] w (Ret fun r w' => Ext w w' ∧ OwnB w.heap.size (l ++ encN ns) r w') := by
  refine enter (vs := [v, nv]) Try.func22 rfl rfl rfl ?_
  refine c_seq (c_region (o_assign rfl rfl (o_nil (n_then (c_seq (c_region (o_move rfl rfl ?_)))))))
  refine o_call call_Clone rfl rfl (Clone_spec hv (by omega)) ?_
  rintro r1 w1 ⟨hx1, ho1⟩
  refine o_move rfl rfl ?_
  refine o_call call_nat rfl rfl (nat_spec hx1 ho1 hn hl) ?_
  rintro r2 w2 ⟨ho2, hx2, _⟩
  refine o_assign rfl rfl (o_nil (n_then (c_ret ?_)))
  refine r_body1 rfl rfl ?_
  exact ⟨_, rfl, hx2, ho2⟩
end

theorem awake_spec (w : World) : Calls Try.prog 19 #[] w (Ret fun r w' => r = B true ∧ Ext w w') := by
  refine enter (vs := []) Try.func19 rfl rfl rfl ?_
  refine c_seq (c_region (o_assign rfl rfl (o_nil (n_then (c_seq (c_region ?_))))))
  obtain ⟨r1, w1, hr1, hx1, ho1, _⟩ := r_bsB (w := w) w.heap.size [128, 0] (by simp) (Nat.le_refl _)
  refine o_buildSlice (vs := [(0, U8 128), (1, U8 0)]) rfl rfl hr1 ?_
  refine o_call call_New rfl rfl (New_spec ho1.bts (by simp)) ?_
  rintro r2 w2 ⟨hx2, g, hg, rfl, hrd⟩
  have e2 := hx1.trans hx2
  refine o_assign rfl rfl (o_nil (n_then (c_seq (c_seq (c_region (o_move rfl rfl ?_))))))
  refine o_bin rfl rfl rfl (r_eqnilp Try.underlying43) ?_
  refine o_nil (n_then ?_)
  refine c_no rfl ?_
  refine c_skip (n_then (c_seq (c_region (o_move rfl rfl ?_))))
  refine o_call call_Uint rfl rfl (Uint_spec hrd) ?_
  rintro r3 w3 ⟨hg3, h3⟩
  have hu : (some [(128 : UInt8), 0]).bind rdU = none := by decide
  rw [hu] at h3
  obtain ⟨rfl, _⟩ := h3
  have e3 : Ext w w3 := e2.of_grown hg3 fun k hk => by
    obtain rfl := Option.some.inj hk
    exact Nat.le_trans hx1.size hg
  refine o_move rfl rfl ?_
  refine o_extract rfl rfl (r_ext0) ?_
  refine o_extract rfl rfl (r_ext1) ?_
  refine o_assign rfl rfl (o_assign rfl rfl (o_nil (n_then (c_seq (c_region ?_)))))
  refine o_call (vs := [_, U64 300]) call_AppendUint rfl rfl (AppendUint_spec (Bts.nil _) (by simp)) ?_
  rintro r4 w4 ⟨hx4, ho4⟩
  refine o_conv rfl rfl (r_str ho4.bts) ?_
  refine o_bin (v := S [172, 2]) rfl rfl rfl (dec_t (by decide) r_eql_s) ?_
  refine o_move rfl rfl (g_yes rfl ?_)
  refine o_call (vs := [_, I (-1)]) call_AppendInt rfl rfl (AppendInt_spec (Bts.nil _) (by simp) (by omega) (by omega)) ?_
  rintro r5 w5 ⟨hx5, ho5⟩
  refine g_yes rfl (o_conv rfl rfl (r_str ho5.bts) ?_)
  refine g_yes rfl (o_bin (v := S [1]) rfl rfl rfl (dec_t (by decide) r_eql_s) ?_)
  refine o_pick_t rfl rfl rfl (o_move rfl rfl (g_yes rfl ?_))
  obtain ⟨r6, w6, hr6, hx6, ho6, _⟩ := r_bsW Try.underlying33 (w := w5) w5.heap.size [258] (by simp) (Nat.le_refl _)
  refine o_buildSlice (vs := [(0, U32 258)]) rfl rfl hr6 (g_yes rfl ?_)
  refine o_call call_AppendNat rfl rfl (AppendNat_spec (Bts.nil _) ho6.wds (by simp)) ?_
  rintro r7 w7 ⟨hx7, ho7⟩
  refine g_yes rfl (o_conv rfl rfl (r_str ho7.bts) ?_)
  refine g_yes rfl (o_bin (v := S [1, 2, 1, 0, 0]) rfl rfl rfl (dec_t (by decide) r_eql_s) ?_)
  refine o_pick_t rfl rfl rfl (o_move rfl rfl (g_yes rfl (o_move rfl rfl ?_)))
  refine g_yes rfl (o_bin rfl rfl rfl (dec_t rfl r_eql_i) ?_)
  refine o_pick_t rfl rfl rfl ?_
  refine o_assign rfl rfl (o_nil (n_then (c_ret ?_)))
  refine r_body1 rfl rfl ?_
  exact ⟨_, rfl, rfl, ((((e3.trans hx4).trans hx5).trans hx6).trans hx7)⟩
end Go.Rl
/- Walks of the functions that append byte strings and texts. Conditions: what is appended to is short. -/
namespace Go.Rl
open Go.RowKit Go.Proofs Go.Lib

theorem call_AppendText : Callable Try.prog 38 := ⟨_, Try.func38, by kernel_rfl, rfl⟩

theorem strCells_S (l : List UInt8) : strCells ⟨l.toArray⟩ = l.map U8 := by
  simp [strCells]
  intro a _
  rfl
section
variable {w w0 : World} {l m : List UInt8} {v x : Value}
/-- The bytes of a text, anew. -/
theorem r_bytes (h : l.length ≤ 140737488355328) : ∃ r w', (convert 9 22 (S l)).run Try.prog w = .ok r w' ∧ Ext w w' ∧ Bts l r w' := by
  have hr := run_bytes_of_string (P := Try.prog) w 9 22 5 ⟨l.toArray⟩ Try.underlying9 Try.underlying22 Try.underlying5
  have hsz : (⟨l.toArray⟩ : ByteArray).size = l.length := by simp [ByteArray.size]
  refine ⟨_, _, hr, (Ext.refl w).drew.trans (Ext.new w.drew _), ?_⟩
  rw [hsz]
  have hge := grownCap_ge w l.length 0 5
  refine ⟨some ⟨w.heap.size, 0, none⟩, l.length, grownCap w l.length 0 5, rfl, hge, grownCap_le_maxLen w l.length 0 _ (by unfold maxLen; omega), by simp, fun _ => ⟨_, rfl, fun j u hu => ?_⟩, fun h => by cases h⟩
  have hws : w.drew.heap.size = w.heap.size := rfl
  have hg := heap_alloc_new w.drew (.cells (bytesRow ⟨l.toArray⟩ (grownCap w l.length 0 5)) 5 ((bytesRow ⟨l.toArray⟩ (grownCap w l.length 0 5)).size, (bytesRow ⟨l.toArray⟩ (grownCap w l.length 0 5)).size + 1))
  have hadd : (⟨w.heap.size, 0, none⟩ : Addr).add j = ⟨w.heap.size, j, none⟩ := by unfold Addr.add; split <;> simp_all
  rw [hws] at hg
  rw [hadd, cell_of_row _ _ j _ _ _ hg]
  rw [List.getElem?_map, Option.map_eq_some_iff] at hu
  obtain ⟨b, hb, rfl⟩ := hu
  obtain ⟨hj, hb⟩ := List.getElem?_eq_some_iff.1 hb
  unfold bytesRow
  rw [Array.getElem?_append_left (by simpa using hj)]
  simp [hj, hb, U8]
/-- append of a text's bytes onto a row of its own -/
theorem r_appS {base : Nat} {ty : TypeId} (hv : OwnB base l v w) (hb : l.length + m.length ≤ 140737488355328) (hbase : base ≤ w.heap.size) :
    ∃ r w', (Builtin.append_ #[22, 9] ty #[v, S m]).run Try.prog w = .ok r w' ∧ OwnB base (l ++ m) r w' ∧ w.grownBy w' v.ownBlock := by
  obtain ⟨n, hv⟩ := hv
  obtain ⟨i, hi, hz, hsize, hby⟩ := info_parts info_u8
  have hln : (l.map U8).length = n := by simpa using hv.1
  have hsz : (⟨m.toArray⟩ : ByteArray).size = m.length := by simp [ByteArray.size]
  simp only [List.length_map] at hln
  obtain ⟨r, w', h1, h2, h3, _⟩ := run_append_own_string (P := Try.prog) w base 22 9 ty 5 i Try.underlying22 Try.underlying9 hi hz hsize hby v n _ hv ⟨m.toArray⟩ (by rw [hsz]; unfold maxLen; omega) (by rw [hsz]; omega) hbase
  rw [strCells_S m, ← List.map_append] at h2
  exact ⟨r, w', h1, ⟨_, h2⟩, h3⟩
theorem Ext.of_own {base : Nat} {w' : World} (hx : Ext w0 w) (h : w.grownBy w' v.ownBlock) (hv : OwnB base l v w) (hb : w0.heap.size ≤ base) : Ext w0 w' :=
  hx.of_grown h fun k hk => Nat.le_trans hb (hv.ge k hk)

def encB (m : List UInt8) : List UInt8 := uv m.length ++ m
theorem AppendText_spec (hv : Bts l v w) (hl : l.length + m.length ≤ 70368744177664) :
    Calls Try.prog 38 #[v, S m] w (Ret fun r w' => Ext w w' ∧ OwnB w.heap.size (l ++ encB m) r w') := by
  refine enter (vs := [v, S m]) Try.func38 rfl rfl rfl ?_
  refine c_seq (c_region (o_assign rfl rfl (o_nil (n_then (c_seq (c_region (o_move rfl rfl ?_)))))))
  refine o_call call_Clone rfl rfl (Clone_spec hv (by omega)) ?_
  rintro r1 w1 ⟨hx1, ho1⟩
  refine o_move rfl rfl ?_
  refine o_len rfl rfl r_lenS ?_
  refine o_conv rfl rfl (r_n_u64 Try.underlying3 Try.underlying31) ?_
  refine o_call call_uvarint rfl rfl (uvarint_spec ho1 (by omega) hx1.size) ?_
  rintro r2 w2 ⟨ho2, hg2⟩
  rw [u64_len (by omega)] at ho2
  have huv := uv_len (n := m.length) (by omega)
  have hx2 := hx1.of_grew hg2 ho1.ge
  refine o_move rfl rfl ?_
  obtain ⟨r3, w3, hr3, ho3, hg3⟩ := r_appS (ty := 22) (m := m) ho2 (by simp only [List.length_append]; omega) hx2.size
  refine o_append rfl rfl hr3 ?_
  refine o_assign rfl rfl (o_nil (n_then (c_ret ?_)))
  refine r_body1 rfl rfl ?_
  refine ⟨_, rfl, hx2.of_own hg3 ho2 (Nat.le_refl _), ?_⟩
  rw [List.append_assoc] at ho3
  exact ho3
end
end Go.Rl
/- Walks of more of the reader: byte strings, texts, what is left. Conditions: the reader is not nil. -/
namespace Go.Rl
open Go.RowKit Go.Proofs

theorem call_blob : Callable Try.prog 72 := ⟨_, Try.func72, by kernel_rfl, rfl⟩
theorem call_Bytes : Callable Try.prog 61 := ⟨_, Try.func61, by kernel_rfl, rfl⟩
theorem call_Text : Callable Try.prog 37 := ⟨_, Try.func37, by kernel_rfl, rfl⟩
theorem call_Done : Callable Try.prog 35 := ⟨_, Try.func35, by kernel_rfl, rfl⟩
theorem call_Left : Callable Try.prog 31 := ⟨_, Try.func31, by kernel_rfl, rfl⟩

/-- A byte string with its length, read. -/
def rdB (l : List UInt8) : Option (List UInt8 × List UInt8) := (rdU l).bind fun p => if p.1 ≤ p.2.length then some (p.2.take p.1, p.2.drop p.1) else none
theorem rdB_encB {m : List UInt8} (h : m.length < 18446744073709551616) (t : List UInt8) : rdB (encB m ++ t) = some (m, t) := by
  unfold rdB encB
  rw [List.append_assoc, rdU_uv h]
  simp

section
variable {w : World} {g : Nat}
theorem ruv_spec {st : Option (List UInt8)} (hr : RdAt g st w) : Calls Try.prog 52 #[.pointer (some ⟨g, 0, none⟩)] w (Ret fun r w' => w.grownBy w' (some g) ∧ match st.bind rdU with
      | some (n, t) => r = .tuple #[U64 (UInt64.ofNat n), B true] ∧ RdAt g (some t) w'
      | none => r = .tuple #[U64 0, B false] ∧ ∃ l', RdAt g l' w') := by
  cases st with
  | none => exact (ruvarint_failed hr).mono fun e w' ⟨v, he, hv, hw⟩ => ⟨v, he, by subst hw; exact ⟨grownBy_refl _ _, hv, none, hr⟩⟩
  | some l =>
    refine (ruvarint_spec hr).mono fun e w' ⟨v, he, hg, hv⟩ => ⟨v, he, hg, ?_⟩
    show match rdU l with | some (n, t) => _ | none => _
    cases hrd : rdU l with
    | none => rw [hrd] at hv; exact ⟨hv.1, hv.2.imp' some fun _ h => h⟩
    | some p => rw [hrd] at hv; exact hv

theorem blob_spec {st : Option (List UInt8)} (hr : RdAt g st w) : Calls Try.prog 72 #[.pointer (some ⟨g, 0, none⟩)] w (Ret fun r w' => w.grownBy w' (some g) ∧ match st.bind rdB with
      | some (a, t) => ∃ v, r = .tuple #[v, B true] ∧ Bts a v w' ∧ RdAt g (some t) w'
      | none => r = .tuple #[.slice none 0 0, B false] ∧ ∃ l', RdAt g l' w') := by
  refine enter (vs := [.pointer (some ⟨g, 0, none⟩)]) Try.func72 rfl rfl rfl ?_
  refine c_seq (c_region (o_assign rfl rfl (o_assign rfl rfl (o_nil (n_then (c_seq (c_region (o_move rfl rfl ?_))))))))
  refine o_call call_ruvarint rfl rfl (ruv_spec hr) ?_
  rintro r1 w1 ⟨hg1, h1⟩
  cases hst : st.bind rdU with
  | none =>
    rw [hst] at h1
    obtain ⟨rfl, l', hr1⟩ := h1
    have hb : st.bind rdB = none := by
      cases st with
      | none => rfl
      | some l => show rdB l = none; unfold rdB; rw [show rdU l = none from hst]; rfl
    rw [hb]
    refine o_move rfl rfl ?_
    refine o_extract rfl rfl (r_ext0) ?_
    refine o_extract rfl rfl (r_ext1) ?_
    refine o_assign rfl rfl (o_assign rfl rfl (o_nil (n_then (c_seq (c_seq (c_region (o_move rfl rfl ?_)))))))
    refine o_not rfl rfl (r_not) ?_
    refine o_nil (n_then ?_)
    refine c_yes rfl ?_
    refine c_seq (c_region (o_assign rfl rfl (o_assign rfl rfl (o_nil (n_then (c_ret (r_then ?_)))))))
    refine r_body2 rfl rfl rfl ?_
    exact ⟨_, rfl, hg1, rfl, l', hr1⟩
  | some p =>
    obtain ⟨n, t⟩ := p
    rw [hst] at h1
    obtain ⟨rfl, hr1⟩ := h1
    obtain ⟨l, rfl, hl⟩ : ∃ l, st = some l ∧ rdU l = some (n, t) := by
      cases st with
      | none => cases hst
      | some l => exact ⟨l, rfl, hst⟩
    have hn := (rdU_inv hl).2
    have hnn : (UInt64.ofNat n).toNat = n := by rw [UInt64.toNat_ofNat']; omega
    have hb : (some l).bind rdB = if n ≤ t.length then some (t.take n, t.drop n) else none := by show rdB l = _; unfold rdB; rw [hl]; rfl
    rw [hb]
    refine o_move rfl rfl ?_
    refine o_extract rfl rfl (r_ext0) ?_
    refine o_extract rfl rfl (r_ext1) ?_
    refine o_assign rfl rfl (o_assign rfl rfl (o_nil (n_then (c_seq (c_seq (c_region (o_move rfl rfl ?_)))))))
    refine o_not rfl rfl (r_not) ?_
    refine o_nil (n_then ?_)
    refine c_no rfl ?_
    refine c_skip (n_then (c_seq (c_region (o_move rfl rfl (o_move rfl rfl ?_)))))
    by_cases hnt : n ≤ t.length
    · rw [if_pos hnt]
      refine o_call call_take rfl rfl (take_yes hr1 (by rw [hnn]; exact hnt)) ?_
      rintro r2 w2 ⟨b, rfl, hb2, hr2, hg2⟩
      rw [hnn] at hb2 hr2
      refine o_extract rfl rfl (r_ext0) ?_
      refine o_extract rfl rfl (r_ext1) ?_
      refine o_assign rfl rfl (o_assign rfl rfl (o_nil (n_then (c_ret ?_))))
      refine r_body2 rfl rfl rfl ?_
      exact ⟨_, rfl, hg1.trans hg2, _, rfl, hb2, hr2⟩
    · rw [if_neg hnt]
      refine o_call call_take rfl rfl (take_no hr1 (by rw [hnn]; omega)) ?_
      rintro r2 w2 ⟨rfl, rfl⟩
      refine o_extract rfl rfl (r_ext0) ?_
      refine o_extract rfl rfl (r_ext1) ?_
      refine o_assign rfl rfl (o_assign rfl rfl (o_nil (n_then (c_ret ?_))))
      refine r_body2 rfl rfl rfl ?_
      exact ⟨_, rfl, hg1, rfl, _, hr1⟩

def BytesR (g : Nat) (w : World) (o : Option (List UInt8 × List UInt8)) (r : Value) (w' : World) : Prop :=
  w.grownBy w' (some g) ∧ match o with
    | some (a, t) => ∃ v, r = .tuple #[v, I 0] ∧ Bts a v w' ∧ RdAt g (some t) w'
    | none => r = .tuple #[.slice none 0 0, I 5] ∧ RdAt g none w'
theorem rdB_len {l a t : List UInt8} (h : rdB l = some (a, t)) : a.length ≤ l.length := by
  unfold rdB at h
  cases hu : rdU l with
  | none => rw [hu] at h; cases h
  | some p =>
    obtain ⟨n, u⟩ := p
    rw [hu] at h
    have h : (if n ≤ u.length then some (u.take n, u.drop n) else none) = some (a, t) := h
    split at h
    · simp only [Option.some.injEq, Prod.mk.injEq] at h
      have := (rdU_inv hu).1
      rw [this, ← h.1]
      simp only [List.length_append, List.length_take]
      omega
    · cases h
theorem Bytes_spec {st : Option (List UInt8)} (hr : RdAt g st w) (hl : ∀ l, st = some l → l.length ≤ 70368744177664) :
    Calls Try.prog 61 #[.pointer (some ⟨g, 0, none⟩)] w (Ret (BytesR g w (st.bind rdB))) := by
  refine enter (vs := [.pointer (some ⟨g, 0, none⟩)]) Try.func61 rfl rfl rfl ?_
  refine c_seq (c_region (o_assign rfl rfl (o_assign rfl rfl (o_nil (n_then (c_seq (c_seq (c_region (o_move rfl rfl ?_)))))))))
  refine o_bin rfl rfl rfl (r_eqnilp Try.underlying43) ?_
  refine o_nil (n_then ?_)
  refine c_no rfl ?_
  refine c_skip (n_then (c_seq (c_region (o_move rfl rfl ?_))))
  refine o_call call_blob rfl rfl (blob_spec hr) ?_
  rintro r1 w1 ⟨hg1, h1⟩
  unfold BytesR
  cases hrd : st.bind rdB with
  | some p =>
    obtain ⟨a, t⟩ := p
    rw [hrd] at h1
    obtain ⟨v, rfl, hb, hr1⟩ := h1
    have hal : a.length ≤ 70368744177664 := by
      cases st with
      | none => cases hrd
      | some l => exact Nat.le_trans (rdB_len hrd) (hl l rfl)
    refine o_move rfl rfl ?_
    refine o_extract rfl rfl (r_ext0) ?_
    refine o_extract rfl rfl (r_ext1) ?_
    refine o_assign rfl rfl (o_assign rfl rfl (o_nil (n_then (c_seq (c_seq (c_region (o_move rfl rfl ?_)))))))
    refine o_not rfl rfl (r_not) ?_
    refine o_nil (n_then ?_)
    refine c_no rfl ?_
    refine c_skip (n_then (c_seq (c_region (o_move rfl rfl ?_))))
    refine o_call call_Clone rfl rfl (Clone_spec hb (by omega)) ?_
    rintro r2 w2 ⟨hx2, ho2⟩
    refine o_assign rfl rfl (o_assign rfl rfl (o_nil (n_then (c_ret ?_))))
    refine r_body2 rfl rfl rfl ?_
    exact ⟨_, rfl, hg1.trans (grownBy_of_ext hx2), _, rfl, ho2.bts, hr1.ext hx2⟩
  | none =>
    rw [hrd] at h1
    obtain ⟨rfl, l', hr1⟩ := h1
    refine o_move rfl rfl ?_
    refine o_extract rfl rfl (r_ext0) ?_
    refine o_extract rfl rfl (r_ext1) ?_
    refine o_assign rfl rfl (o_assign rfl rfl (o_nil (n_then (c_seq (c_seq (c_region (o_move rfl rfl ?_)))))))
    refine o_not rfl rfl (r_not) ?_
    refine o_nil (n_then ?_)
    refine c_yes rfl ?_
    refine c_seq (c_region (o_move rfl rfl ?_))
    refine o_call call_fail rfl rfl (fail_spec hr1) ?_
    rintro r2 w2 ⟨rfl, hr2, hg2⟩
    refine o_assign rfl rfl (o_assign rfl rfl (o_nil (n_then (c_ret (r_then ?_)))))
    refine r_body2 rfl rfl rfl ?_
    exact ⟨_, rfl, hg1.trans hg2, rfl, hr2⟩

def TextR (g : Nat) (w : World) (o : Option (List UInt8 × List UInt8)) (r : Value) (w' : World) : Prop :=
  w.grownBy w' (some g) ∧ match o with
    | some (a, t) => r = .tuple #[S a, I 0] ∧ RdAt g (some t) w'
    | none => r = .tuple #[S [], I 5] ∧ RdAt g none w'
theorem Text_spec {st : Option (List UInt8)} (hr : RdAt g st w) (hl : ∀ l, st = some l → l.length ≤ 70368744177664) :
    Calls Try.prog 37 #[.pointer (some ⟨g, 0, none⟩)] w (Ret (TextR g w (st.bind rdB))) := by
  refine enter (vs := [.pointer (some ⟨g, 0, none⟩)]) Try.func37 rfl rfl rfl ?_
  refine c_seq (c_region (o_assign rfl rfl (o_assign rfl rfl (o_nil (n_then (c_seq (c_region (o_move rfl rfl ?_))))))))
  refine o_call call_Bytes rfl rfl (Bytes_spec hr hl) ?_
  rintro r1 w1 ⟨hg1, h1⟩
  unfold TextR
  cases hrd : st.bind rdB with
  | some p =>
    obtain ⟨a, t⟩ := p
    rw [hrd] at h1
    obtain ⟨v, rfl, hb, hr1⟩ := h1
    refine o_move rfl rfl ?_
    refine o_extract rfl rfl (r_ext0) ?_
    refine o_extract rfl rfl (r_ext1) ?_
    refine o_assign rfl rfl (o_assign rfl rfl (o_nil (n_then (c_seq (c_region (o_move rfl rfl ?_))))))
    refine o_conv rfl rfl (r_str hb) ?_
    refine o_move rfl rfl (o_assign rfl rfl (o_assign rfl rfl (o_nil (n_then (c_ret ?_)))))
    refine r_body2 rfl rfl rfl ?_
    exact ⟨_, rfl, hg1, rfl, hr1⟩
  | none =>
    rw [hrd] at h1
    obtain ⟨rfl, hr1⟩ := h1
    refine o_move rfl rfl ?_
    refine o_extract rfl rfl (r_ext0) ?_
    refine o_extract rfl rfl (r_ext1) ?_
    refine o_assign rfl rfl (o_assign rfl rfl (o_nil (n_then (c_seq (c_region (o_move rfl rfl ?_))))))
    refine o_conv rfl rfl (r_str (Bts.nil _)) ?_
    refine o_move rfl rfl (o_assign rfl rfl (o_assign rfl rfl (o_nil (n_then (c_ret ?_)))))
    refine r_body2 rfl rfl rfl ?_
    exact ⟨_, rfl, hg1, rfl, hr1⟩

theorem Left_spec {st : Option (List UInt8)} (hr : RdAt g st w) :
    Calls Try.prog 31 #[.pointer (some ⟨g, 0, none⟩)] w (Ret fun r w' => r = I ((st.getD []).length : Nat) ∧ w' = w) := by
  obtain ⟨A, n, c, h1, h2⟩ := hr
  refine enter (vs := [.pointer (some ⟨g, 0, none⟩)]) Try.func31 rfl rfl rfl ?_
  refine c_seq (c_region (o_assign rfl rfl (o_nil (n_then (c_seq (c_seq (c_region (o_move rfl rfl ?_))))))))
  refine o_bin rfl rfl rfl (r_eqnilp Try.underlying43) ?_
  refine o_nil (n_then ?_)
  refine c_no rfl ?_
  refine c_skip (n_then (c_seq (c_region (o_move rfl rfl ?_))))
  refine o_nilCheck rfl rfl ?_
  refine o_fieldAddr rfl rfl (r_fieldAt Try.underlying83 rfl size_bytes (by omega)) ?_
  refine o_load rfl rfl (r_load1 Try.underlying22 rfl (cellAt (i := 0) h1 rfl)) ?_
  refine o_len rfl rfl (r_lenB h2) ?_
  refine o_assign rfl rfl (o_nil (n_then (c_ret ?_)))
  refine r_body1 rfl rfl ?_
  exact ⟨_, rfl, rfl, rfl⟩
theorem Done_spec {st : Option (List UInt8)} (hr : RdAt g st w) :
    Calls Try.prog 35 #[.pointer (some ⟨g, 0, none⟩)] w (Ret fun r w' => r = I (if st = some [] then 0 else 5) ∧ w' = w) := by
  obtain ⟨A, n, c, h1, h2⟩ := hr
  refine enter (vs := [.pointer (some ⟨g, 0, none⟩)]) Try.func35 rfl rfl rfl ?_
  refine c_seq (c_region (o_assign rfl rfl (o_nil (n_then (c_seq (c_seq (c_region (o_move rfl rfl ?_))))))))
  refine o_bin rfl rfl rfl (r_nenilp Try.underlying43) ?_
  refine o_move rfl rfl (g_yes rfl (o_move rfl rfl (g_yes rfl ?_)))
  refine o_nilCheck rfl rfl ?_
  refine g_yes rfl (o_fieldAddr rfl rfl (r_fieldAt Try.underlying83 rfl size_bool (by omega)) ?_)
  refine g_yes rfl (o_load rfl rfl (r_load1 Try.underlying4 rfl (cellAt (i := 1) h1 rfl)) ?_)
  cases st with
  | none =>
    refine g_yes rfl (o_move rfl rfl ?_)
    iterate 6 refine g_no rfl rfl rfl ?_
    refine g_yes rfl (o_pick_t rfl rfl rfl (o_pick_t rfl rfl rfl (o_nil (n_then ?_))))
    refine c_yes rfl ?_
    refine c_seq (c_region (o_assign rfl rfl (o_nil (n_then (c_ret (r_then ?_))))))
    refine r_body1 rfl rfl ?_
    exact ⟨_, rfl, rfl, rfl⟩
  | some l =>
    have h2' : Bts l (.slice A n c) w := h2
    refine g_yes rfl (o_move rfl rfl (g_yes rfl (o_move rfl rfl (g_yes rfl ?_))))
    refine o_nilCheck rfl rfl ?_
    refine g_yes rfl (o_fieldAddr rfl rfl (r_fieldAt Try.underlying83 rfl size_bytes (by omega)) ?_)
    refine g_yes rfl (o_load rfl rfl (r_load1 Try.underlying22 rfl (cellAt (i := 0) h1 rfl)) ?_)
    refine g_yes rfl (o_len rfl rfl (r_lenB h2') ?_)
    refine g_yes rfl (o_bin rfl rfl rfl r_gtr_i ?_)
    refine g_yes rfl (o_pick_f rfl rfl rfl (o_pick_t rfl rfl rfl (o_nil (n_then ?_))))
    refine c_if rfl (fun h => ?_) (fun h => ?_)
    · refine c_seq (c_region (o_assign rfl rfl (o_nil (n_then (c_ret (r_then ?_))))))
      refine r_body1 rfl rfl ?_
      have : some l ≠ some [] := by rintro ⟨⟩; simp at h
      rw [if_neg this]
      exact ⟨_, rfl, rfl, rfl⟩
    · refine c_skip (n_then (c_seq (c_region (o_assign rfl rfl (o_nil (n_then (c_ret ?_)))))))
      refine r_body1 rfl rfl ?_
      have : l = [] := List.eq_nil_of_length_eq_zero (by omega)
      subst this
      exact ⟨_, rfl, rfl, rfl⟩
end
end Go.Rl
/- Unpacking as the reference does it, in plain words; both ways accept the same bytes. No condition. -/
namespace Go.Rl
/-- The reference's way: what comes out, and what is left. -/
def unr (total : Nat) : Nat → List UInt8 → List UInt8 → Option (List UInt8 × List UInt8)
  | 0, _, _ => none
  | f + 1, rest, out =>
    if out.length < total then
      (rdB rest).bind fun p =>
        if (out ++ p.1).length < total then
          (rdU p.2).bind fun q => (rdU q.2).bind fun r =>
            if total ≤ q.1 ∨ (out ++ p.1).length ≤ r.1 then none
            else unr total f r.2 (cpy (r.1 + 1) (min (q.1 + 4) (total - (out ++ p.1).length)) (out ++ p.1))
        else some (out ++ p.1, p.2)
    else some (out, rest)
theorem unr_pk {d : List UInt8} (hd : d.length < 18446744073709551616) : ∀ (c i run f : Nat), d.length - i = c → run ≤ i → i ≤ d.length → d.length - i + 1 ≤ f →
    unr d.length f (pk d i run) (d.take (i - run)) = some (d, []) := by
  intro c
  induction c using Nat.strongRecOn with
  | ind c ih =>
    intro i run f hc hr hid hf
    obtain ⟨f, rfl⟩ : ∃ g, f = g + 1 := ⟨f - 1, by omega⟩
    have hlo : (d.take (i - run)).length = i - run := by rw [List.length_take]; omega
    by_cases hi : i < d.length
    · by_cases hn : (best d i).1 = 0
      · rw [pk_lit hi hn]
        have := ih (d.length - (i + 1)) (by omega) (i + 1) (run + 1) (f + 1) rfl (by omega) (by omega) (by omega)
        rw [show i + 1 - (run + 1) = i - run by omega] at this
        exact this
      · obtain ⟨h4, h1, h2, h3, hml, h5⟩ := best_ok hn
        obtain ⟨n, hnn⟩ : ∃ n, n = (best d i).1 := ⟨_, rfl⟩
        obtain ⟨k, hkk⟩ : ∃ k, k = (best d i).2 := ⟨_, rfl⟩
        rw [pk_match hi hn]
        rw [← hnn] at h4 h5 hml ⊢
        rw [← hkk] at h1 h2 h3 hml ⊢
        obtain ⟨L, hL⟩ : ∃ L, L = (d.drop (i - run)).take run := ⟨_, rfl⟩
        have hlr : L.length = run := by rw [hL, List.length_take, List.length_drop]; omega
        have htl : d.take (i - run) ++ L = d.take i := by rw [hL]; exact take_lits hr
        have hti : (d.take i).length = i := by rw [List.length_take]; omega
        rw [← hL]
        unfold unr
        rw [if_pos (by rw [hlo]; omega)]
        have e : uv run ++ L ++ uv (n - 4) ++ uv (k - 1) ++ pk d (i + n) 0 = encB L ++ (uv (n - 4) ++ (uv (k - 1) ++ pk d (i + n) 0)) := by
          rw [encB, hlr]; simp only [List.append_assoc]
        rw [e, rdB_encB (by omega)]
        simp only [Option.bind_some, htl, hti]
        rw [if_pos hi, rdU_uv (by omega)]
        simp only [Option.bind_some]
        rw [rdU_uv (by omega)]
        simp only [Option.bind_some]
        rw [if_neg (by omega), show k - 1 + 1 = k by omega, show min (n - 4 + 4) (d.length - i) = n by omega]
        have hc0 := cpy_ml (d := d) (i := i) (k := k) h1 h2 n 0 (by omega)
        rw [Nat.add_zero] at hc0
        rw [hc0]
        have := ih (d.length - (i + n)) (by omega) (i + n) 0 f rfl (by omega) h5 (by omega)
        rw [Nat.sub_zero] at this
        exact this
    · have hie : i = d.length := by omega
      rw [pk_end hi]
      unfold unr
      by_cases hr0 : 0 < run
      · have hdl : (d.drop (d.length - run)).length = run := by rw [List.length_drop]; omega
        have e : uv run ++ d.drop (d.length - run) = encB (d.drop (d.length - run)) ++ [] := by rw [encB, hdl, List.append_nil]
        rw [if_pos hr0, if_pos (by rw [hlo]; omega), e, rdB_encB (by omega)]
        simp only [Option.bind_some]
        rw [hie, List.take_append_drop, if_neg (by omega)]
      · have : run = 0 := by omega
        subst this
        rw [if_neg (show ¬ 0 < 0 by omega), if_neg (by rw [hlo]; omega), hie, Nat.sub_zero, List.take_length]
/-- What is packed unpacks, both ways. -/
theorem unp_packed {d : List UInt8} (hd : d.length < 18446744073709551616) : unp d.length (d.length + 1) (pk d 0 0) [] = some d := by
  have := unp_pk hd (d.length - 0) 0 0 (d.length + 1) rfl (by omega) (by omega) (by omega)
  simpa using this
theorem unr_packed {d : List UInt8} (hd : d.length < 18446744073709551616) : unr d.length (d.length + 1) (pk d 0 0) [] = some (d, []) := by
  have := unr_pk hd (d.length - 0) 0 0 (d.length + 1) rfl (by omega) (by omega) (by omega)
  simpa using this
/-- Packed bytes say what they unpack to. -/
theorem packed_ways {l t out : List UInt8} {total : Nat} (hl : rdU l = some (total, t)) (ho : out.length < 18446744073709551616) (hp : packed out = l) :
    unp total (total + 1) t [] = some out ∧ unr total (total + 1) t [] = some (out, []) := by
  rw [← hp, packed, rdU_uv ho] at hl
  obtain ⟨rfl, rfl⟩ := Prod.mk.inj (Option.some.inj hl)
  exact ⟨unp_packed ho, unr_packed ho⟩
/-- What the program accepts. -/
def vp (l t : List UInt8) (total : Nat) : Option (List UInt8) := (unp total (total + 1) t []).bind fun out => if packed out = l then some out else none
/-- What the reference accepts. -/
def vr (l t : List UInt8) (total : Nat) : Option (List UInt8) := (unr total (total + 1) t []).bind fun p => if p.2 = [] ∧ packed p.1 = l then some p.1 else none
theorem vp_vr {l t : List UInt8} {total : Nat} (hl : rdU l = some (total, t)) (h1 : ∀ out, unp total (total + 1) t [] = some out → out.length < 18446744073709551616)
    (h2 : ∀ p, unr total (total + 1) t [] = some p → p.1.length < 18446744073709551616) : vp l t total = vr l t total := by
  have key : ∀ out, out.length < 18446744073709551616 → packed out = l → vp l t total = some out ∧ vr l t total = some out := fun out ho hp => by
    obtain ⟨e1, e2⟩ := packed_ways hl ho hp
    constructor
    · unfold vp; rw [e1]; exact if_pos hp
    · unfold vr; rw [e2]; exact if_pos ⟨rfl, hp⟩
  cases hv : vp l t total with
  | some out =>
    have hv' := hv
    unfold vp at hv'
    cases hu : unp total (total + 1) t [] with
    | none => rw [hu] at hv'; cases hv'
    | some o =>
      rw [hu] at hv'
      have hv' : (if packed o = l then some o else none) = some out := hv'
      split at hv'
      · rename_i hp
        obtain rfl := Option.some.inj hv'
        exact (key _ (h1 _ hu) hp).2.symm
      · cases hv'
  | none =>
    cases hw : vr l t total with
    | none => rfl
    | some out =>
      have hw' := hw
      unfold vr at hw'
      cases hu : unr total (total + 1) t [] with
      | none => rw [hu] at hw'; cases hw'
      | some p =>
        rw [hu] at hw'
        have hw' : (if p.2 = [] ∧ packed p.1 = l then some p.1 else none) = some out := hw'
        split at hw'
        · rename_i hp
          obtain rfl := Option.some.inj hw'
          rw [(key _ (h2 _ hu) hp.2).1] at hv
          cases hv
        · cases hw'
/-- A row of one byte over and over. -/
theorem lcp_rep (b : UInt8) : ∀ (n m : Nat), n ≤ m → lcp (List.replicate n b) (List.replicate m b) = n
  | 0, m, _ => by cases m <;> rfl
  | n + 1, 0, h => by omega
  | n + 1, m + 1, h => by
    rw [List.replicate_succ, List.replicate_succ, lcp, if_pos rfl, lcp_rep b n m (by omega)]
theorem best_rep {b : UInt8} {n : Nat} (hn : 5 ≤ n) : best (List.replicate n b) 1 = (n - 1, 1) := by
  have hm : ml (List.replicate n b) 1 1 = n - 1 := by
    unfold ml
    rw [List.drop_replicate, List.drop_replicate]
    exact lcp_rep b _ _ (by omega)
  unfold best
  rw [show min 1 4096 = 0 + 1 by omega, bst, hm, if_pos ⟨by omega, by show 0 < n - 1; omega⟩]
theorem best_zero (d : List UInt8) : best d 0 = (0, 0) := by
  unfold best
  rw [Nat.zero_min]; rfl
theorem packed_rep {b : UInt8} {n : Nat} (hn : 5 ≤ n) : packed (List.replicate n b) = uv n ++ (uv 1 ++ [b] ++ uv (n - 5) ++ uv 0) := by
  have hl : (List.replicate n b).length = n := List.length_replicate
  unfold packed
  rw [hl, pk_lit (by rw [hl]; omega) (by rw [best_zero]), pk_match (by rw [hl]; omega) (by rw [Nat.zero_add, best_rep hn]; show n - 1 ≠ 0; omega), Nat.zero_add, best_rep hn]
  rw [pk_end (by rw [hl]; show ¬ 1 + (n - 1) < n; omega), if_neg (by omega), List.append_nil]
  have e : (List.drop (1 - 1) (List.replicate n b)).take 1 = [b] := by
    rw [Nat.sub_self, List.drop_zero, List.take_replicate, show min 1 n = 1 by omega]; rfl
  rw [e, show n - 1 - 4 = n - 5 by omega, show (n - 1, 1).2 - 1 = 0 from rfl]
/-- A rough bound, for bytes of any length. -/
theorem pk_any {d : List UInt8} (hd : d.length < 18446744073709551616) : ∀ (c i run : Nat), d.length - i = c → run ≤ i → i ≤ d.length → (pk d i run).length ≤ 31 * (d.length - i + run) + 10 := by
  intro c
  induction c using Nat.strongRecOn with
  | ind c ih =>
    intro i run hc hr hid
    by_cases hi : i < d.length
    · by_cases hn : (best d i).1 = 0
      · rw [pk_lit hi hn]
        have := ih (d.length - (i + 1)) (by omega) (i + 1) (run + 1) rfl (by omega) (by omega)
        omega
      · obtain ⟨h4, h1, h2, h3, _, h5⟩ := best_ok hn
        rw [pk_match hi hn]
        have := ih (d.length - (i + (best d i).1)) (by omega) (i + (best d i).1) 0 rfl (by omega) (by omega)
        have u1 := uv_len (n := run) (by omega)
        have u2 := uv_len (n := (best d i).1 - 4) (by omega)
        have u3 := uv_len (n := (best d i).2 - 1) (by omega)
        have ht : ((d.drop (i - run)).take run).length ≤ run := by rw [List.length_take]; omega
        simp only [List.length_append]
        omega
    · rw [pk_end hi]
      split
      · have u1 := uv_len (n := run) (by omega)
        simp only [List.length_append, List.length_drop]
        omega
      · simp
theorem packed_any {d : List UInt8} (hd : d.length < 18446744073709551616) : (packed d).length ≤ 31 * d.length + 20 := by
  have h1 := pk_any hd d.length 0 0 (by omega) (by omega) (by omega)
  have h2 := uv_len (n := d.length) hd
  unfold packed
  rw [List.length_append]
  omega
end Go.Rl
/- Earlier positions of four bytes, and the best of them. No condition. -/
namespace Go.Rl
/-- The positions ahead of n at which q stands. -/
def pos (d q : List UInt8) (n : Nat) : List Nat := (List.range n).filter fun p => (d.drop p).take 4 == q
theorem pos_succ (d q : List UInt8) (n : Nat) : pos d q (n + 1) = pos d q n ++ if (d.drop n).take 4 = q then [n] else [] := by
  unfold pos
  rw [List.range_succ, List.filter_append]
  congr 1
  by_cases h : (d.drop n).take 4 = q
  · simp [h]
  · simp [h]
theorem mem_pos {d q : List UInt8} {n p : Nat} : p ∈ pos d q n ↔ p < n ∧ (d.drop p).take 4 = q := by
  unfold pos
  simp
theorem pos_sorted (d q : List UInt8) (n : Nat) : (pos d q n).Pairwise (· < ·) := List.Pairwise.filter _ List.pairwise_lt_range
theorem pos_zero (d q : List UInt8) : pos d q 0 = [] := rfl
theorem pos_len (d q : List UInt8) (n : Nat) : (pos d q n).length ≤ n := by
  have := List.length_filter_le (fun p => (d.drop p).take 4 == q) (List.range n)
  unfold pos
  simpa using this

theorem lcp_cons (a b : UInt8) (l m : List UInt8) : lcp (a :: l) (b :: m) = if a = b then lcp l m + 1 else 0 := rfl
theorem lcp4 : ∀ (l m : List UInt8), 4 ≤ l.length → (4 ≤ lcp l m ↔ m.take 4 = l.take 4) := by
  intro l m hl
  match l, hl with
  | a :: b :: c :: e :: l, _ =>
    match m with
    | [] => simp [lcp]
    | [a'] => simp only [lcp_cons, lcp_nil]; constructor <;> intro h <;> (first | (split at h <;> omega) | simp at h)
    | [a', b'] => simp only [lcp_cons, lcp_nil]; constructor <;> intro h <;> (first | ((repeat' split at h) <;> omega) | simp at h)
    | [a', b', c'] => simp only [lcp_cons, lcp_nil]; constructor <;> intro h <;> (first | ((repeat' split at h) <;> omega) | simp at h)
    | a' :: b' :: c' :: e' :: m =>
      simp only [lcp_cons, List.take_succ_cons, List.take_zero, List.cons.injEq, and_true]
      constructor
      · intro h
        (repeat' split at h) <;> first | omega | (subst_vars; simp)
      · rintro ⟨rfl, rfl, rfl, rfl⟩
        simp
theorem ml4 {d : List UInt8} {i k : Nat} (hi : i + 4 ≤ d.length) : 4 ≤ ml d i k ↔ (d.drop (i - k)).take 4 = (d.drop i).take 4 := lcp4 _ _ (by rw [List.length_drop]; omega)
theorem bst_succ (d : List UInt8) (i j : Nat) : bst d i (j + 1) = if 4 ≤ ml d i (j + 1) ∧ (bst d i j).1 < ml d i (j + 1) then (ml d i (j + 1), j + 1) else bst d i j := rfl
theorem bst_skip {d : List UInt8} {i a : Nat} : ∀ b, a ≤ b → (∀ k, a < k → k ≤ b → ml d i k < 4 ∨ ml d i k ≤ (bst d i a).1) → bst d i b = bst d i a
  | 0, h, _ => by rw [show a = 0 by omega]
  | b + 1, h, hk => by
    rcases Nat.lt_or_ge b a with h' | h'
    · rw [show a = b + 1 by omega]
    · have ih := bst_skip b h' (fun k h1 h2 => hk k h1 (by omega))
      rw [bst_succ, if_neg, ih]
      rintro ⟨h1, h2⟩
      rw [ih] at h2
      rcases hk (b + 1) (by omega) (Nat.le_refl _) with h3 | h3 <;> omega
/-- One position more. -/
def stp (d : List UInt8) (i : Nat) (s : Nat × Nat) (p : Nat) : Nat × Nat := if s.1 < ml d i (i - p) then (ml d i (i - p), i - p) else s
def farK (i : Nat) (l : List Nat) : Nat := match l.getLast? with | none => 0 | some p => i - p
theorem farK_snoc (i p : Nat) (l : List Nat) : farK i (l ++ [p]) = i - p := by simp [farK]
section
variable {d : List UInt8} {i : Nat} {R : List Nat}
theorem fold_bst (hi : i + 4 ≤ d.length) (hR : R.Pairwise (fun a b => b < a)) (hm : ∀ p, p ∈ R ↔ p < i ∧ (d.drop p).take 4 = (d.drop i).take 4) : ∀ (n : Nat) (pre suf : List Nat), pre.length = n → R = pre ++ suf →
    pre.foldl (stp d i) (0, 0) = bst d i (farK i pre) ∧ farK i pre ≤ i ∧ ∀ k, farK i pre < k → k ≤ i → 4 ≤ ml d i k → i - k ∈ suf := by
  intro n
  induction n with
  | zero =>
    intro pre suf hl hs
    have : pre = [] := List.eq_nil_of_length_eq_zero hl
    subst this
    refine ⟨rfl, Nat.zero_le _, fun k h1 h2 h3 => ?_⟩
    have h0 : 0 < k := h1
    have := (hm (i - k)).2 ⟨by omega, (ml4 hi).1 h3⟩
    rw [hs] at this
    simpa using this
  | succ n ih =>
    intro pre suf hl hs
    obtain ⟨pre', x, rfl⟩ : ∃ pre' x, pre = pre' ++ [x] := by
      rcases List.eq_nil_or_concat pre with h | ⟨l, a, h⟩
      · subst h; simp at hl
      · exact ⟨l, a, by rw [h, List.concat_eq_append]⟩
    have hs' : R = pre' ++ (x :: suf) := by rw [hs]; simp
    obtain ⟨h1, h2, h3⟩ := ih pre' (x :: suf) (by simp at hl; omega) hs'
    have hx := (hm x).1 (by rw [hs']; simp)
    have hxk : 4 ≤ ml d i (i - x) := (ml4 hi).2 (by rw [show i - (i - x) = x by omega]; exact hx.2)
    have hsuf : ∀ p ∈ suf, p < x := by
      rw [hs'] at hR
      have := (List.pairwise_append.1 hR).2.1
      exact (List.pairwise_cons.1 this).1
    have hlast : farK i pre' < i - x := by
      unfold farK
      cases hg : pre'.getLast? with
      | none => simp only []; omega
      | some p =>
        have hp : p ∈ pre' := List.mem_of_getLast? hg
        rw [hs'] at hR
        have := (List.pairwise_append.1 hR).2.2 p hp x (by simp)
        have hpi := (hm p).1 (by rw [hs']; simp [hp])
        simp only []
        omega
    rw [farK_snoc, List.foldl_append, List.foldl_cons, List.foldl_nil, h1]
    refine ⟨?_, by omega, fun k hk1 hk2 hk3 => ?_⟩
    · have hskip : bst d i (i - x - 1) = bst d i (farK i pre') := bst_skip _ (by omega) (fun k hk1 hk2 => by
        rcases Nat.lt_or_ge (ml d i k) 4 with h | h
        · exact .inl h
        · have := h3 k hk1 (by omega) h
          rcases List.mem_cons.1 this with e | e
          · omega
          · have := hsuf _ e; omega)
      have hsucc : i - x = (i - x - 1) + 1 := by omega
      conv => rhs; rw [hsucc]
      rw [bst_succ, ← hsucc, hskip]
      unfold stp
      by_cases hlt : (bst d i (farK i pre')).1 < ml d i (i - x)
      · rw [if_pos hlt, if_pos ⟨hxk, hlt⟩]
      · rw [if_neg hlt, if_neg (fun h => hlt h.2)]
    · rcases List.mem_cons.1 (h3 k (by omega) hk2 hk3) with e | e
      · omega
      · exact e
/-- The end of the loop: what is left is too far away. -/
theorem fold_far (hi : i + 4 ≤ d.length) (hR : R.Pairwise (fun a b => b < a)) (hm : ∀ p, p ∈ R ↔ p < i ∧ (d.drop p).take 4 = (d.drop i).take 4) {pre suf : List Nat} (hs : R = pre ++ suf) (hp : ∀ p ∈ pre, i - p ≤ 4096) (hf : ∀ p ∈ suf, 4096 < i - p) :
    pre.foldl (stp d i) (0, 0) = best d i := by
  obtain ⟨h1, h2, h3⟩ := fold_bst hi hR hm _ pre suf rfl hs
  have hk : farK i pre ≤ 4096 := by
    unfold farK
    cases hg : pre.getLast? with
    | none => simp
    | some p => exact hp p (List.mem_of_getLast? hg)
  rw [h1]
  unfold best
  refine (bst_skip _ (by omega) (fun k hk1 hk2 => .inl ?_)).symm
  rcases Nat.lt_or_ge (ml d i k) 4 with h | h
  · exact h
  · have := hf _ (h3 k hk1 (by omega) h)
    omega
/-- .. or the match reaches the end. -/
theorem fold_full (hi : i + 4 ≤ d.length) (hR : R.Pairwise (fun a b => b < a)) (hm : ∀ p, p ∈ R ↔ p < i ∧ (d.drop p).take 4 = (d.drop i).take 4) {pre suf : List Nat} {x : Nat} (hs : R = (pre ++ [x]) ++ suf) (hp : ∀ p ∈ pre ++ [x], i - p ≤ 4096) (hx : i + ml d i (i - x) = d.length) :
    (pre ++ [x]).foldl (stp d i) (0, 0) = best d i := by
  obtain ⟨h1, h2, h3⟩ := fold_bst hi hR hm _ (pre ++ [x]) suf rfl hs
  have hk : farK i (pre ++ [x]) ≤ 4096 := by rw [farK_snoc]; exact hp x (by simp)
  have hge : d.length - i ≤ (bst d i (farK i (pre ++ [x]))).1 := by
    rw [← h1, List.foldl_append, List.foldl_cons, List.foldl_nil]
    unfold stp
    split
    · show d.length - i ≤ ml d i (i - x); omega
    · rename_i h; omega
  rw [h1]
  unfold best
  refine (bst_skip _ (by omega) (fun k hk1 hk2 => .inr ?_)).symm
  have := ml_le d i k
  omega
end
/-- The run found by steps. -/
theorem ml_step {d : List UInt8} {i k j : Nat} (hk : k ≤ i) (hi : i + j < d.length) : lcp (d.drop (i + j)) (d.drop (i - k + j)) = if d[i + j] = d[i - k + j]'(by omega) then lcp (d.drop (i + (j + 1))) (d.drop (i - k + (j + 1))) + 1 else 0 := by
  rw [List.drop_eq_getElem_cons hi, List.drop_eq_getElem_cons (show i - k + j < d.length by omega), lcp]
  rfl
theorem lcp_drop4 {l m : List UInt8} (h : 4 ≤ lcp l m) : lcp l m = 4 + lcp (l.drop 4) (m.drop 4) := by
  match l, m with
  | [], m => simp [lcp] at h
  | [a], [] => simp [lcp] at h
  | a :: l, [] => simp [lcp] at h
  | a :: l, a' :: m =>
    rw [lcp_cons] at h ⊢
    split at h
    · rename_i e
      rw [if_pos e]
      match l, m with
      | [], m => simp [lcp] at h
      | b :: l, [] => simp [lcp] at h
      | b :: l, b' :: m =>
        rw [lcp_cons] at h ⊢
        split at h
        · rename_i e
          rw [if_pos e]
          match l, m with
          | [], m => simp [lcp] at h
          | c :: l, [] => simp [lcp] at h
          | c :: l, c' :: m =>
            rw [lcp_cons] at h ⊢
            split at h
            · rename_i e
              rw [if_pos e]
              match l, m with
              | [], m => simp [lcp] at h
              | f :: l, [] => simp [lcp] at h
              | f :: l, f' :: m =>
                rw [lcp_cons] at h ⊢
                split at h
                · rename_i e
                  rw [if_pos e]
                  simp only [List.drop_succ_cons, List.drop_zero]
                  omega
                · omega
            · omega
        · omega
    · omega
theorem ml_from4 {d : List UInt8} {i p : Nat} (hi : i + 4 ≤ d.length) (hp : p < i) (h : (d.drop p).take 4 = (d.drop i).take 4) : ml d i (i - p) = 4 + lcp (d.drop (i + 4)) (d.drop (p + 4)) := by
  have h4 : 4 ≤ ml d i (i - p) := (ml4 hi).2 (by rw [show i - (i - p) = p by omega]; exact h)
  unfold ml at h4 ⊢
  rw [lcp_drop4 h4, List.drop_drop, List.drop_drop, show i - (i - p) = p by omega]
end Go.Rl
/- The finder's map: positions of four bytes. Conditions: each lemma names its own. -/
namespace Go.Rl
open Go.RowKit Go.Proofs
open Go.Maps (Keyed)

/-! ### Four bytes as a key -/
def K4 (q : List UInt8) : Value := .agg (q.map U8).toArray
theorem u8_wf (x : UInt8) : (Lit.int .u8 (x.toNat : Int)).wf = true := by
  have := x.toNat_lt
  simp [Lit.wf, IntKind.min, IntKind.max, IntKind.bits, IntKind.signed]
  omega
theorem keyed4 : Keyed Try.prog 92 := Keyed.of_law (deep_law (m := 2) (by omega) (by kernel_rfl) (by kernel_rfl) (by rw [Try.underlying92]))
theorem keyType4 : Try.prog.keyType 92 = true := by kernel_rfl
theorem size4 : (Try.prog.info? 92).map (·.size) = some 4 := by kernel_rfl
theorem cellsOf4 : Try.prog.cellsOf 92 = 4 := by kernel_rfl
theorem cellsOf1 : Try.prog.cellsOf 5 = 1 := by kernel_rfl
theorem keyOf4 {q : List UInt8} (hq : q.length = 4) : ∃ l, keyOf Try.prog 92 (K4 q) = some l := by
  match q, hq with
  | [a, b, c, e], _ =>
    have hl : ∀ (n : Nat) (x : UInt8), Try.prog.keyLits (n + 1) 5 [U8 x] = some [.int .u8 (x.toNat : Int)] := fun n x => by
      simp [Program.keyLits, Try.underlying5, U8, u8_wf x]
    have hf : (K4 [a, b, c, e]).formed Try.prog 92 = true := by
      simp [K4, Value.formed, Try.underlying92, cellsOf4]
    obtain ⟨S, hS⟩ : ∃ S, Try.prog.types.size = S + 1 := ⟨Try.prog.types.size - 1, by kernel_rfl⟩
    have hk : Try.prog.keyLits (Try.prog.types.size + 1) 92 (K4 [a, b, c, e]).cells.toList = some [.int .u8 (a.toNat : Int), .int .u8 (b.toNat : Int), .int .u8 (c.toNat : Int), .int .u8 (e.toNat : Int)] := by
      rw [hS]
      unfold Program.keyLits
      rw [Try.underlying92]
      simp [K4, Value.cells, cellsOf4, cellsOf1, hl, List.range_succ, List.mapM_cons]
    refine ⟨.string (keyBytes [.int .u8 (a.toNat : Int), .int .u8 (b.toNat : Int), .int .u8 (c.toNat : Int), .int .u8 (e.toNat : Int)]), ?_⟩
    unfold keyOf
    rw [Try.underlying92]
    simp only [keyType4, hf, hk]
    rfl
theorem K4_inj {q r : List UInt8} (h : K4 q = K4 r) : q = r := by
  have h2 : q.map U8 = r.map U8 := by
    have := congrArg (fun v => match v with | .agg a => a.toList | _ => []) h
    simpa [K4] using this
  have inj : ∀ (q r : List UInt8), q.map U8 = r.map U8 → q = r := by
    intro q
    induction q with
    | nil => intro r h; cases r with
      | nil => rfl
      | cons b r => simp at h
    | cons a q ih => intro r h; cases r with
      | nil => simp at h
      | cons b r =>
        simp only [List.map_cons, List.cons.injEq] at h
        have e : a = b := by
          have h1 := h.1
          simp only [U8, Value.int.injEq, true_and] at h1
          exact UInt8.toNat_inj.1 (by omega)
        rw [e, ih r h.2]
  exact inj q r h2

/-! ### The map -/
def posI (d q : List UInt8) (n : Nat) : List Int := (pos d q n).map Int.ofNat
theorem posI_succ (d q : List UInt8) (n : Nat) : posI d q (n + 1) = posI d q n ++ if (d.drop n).take 4 = q then [(n : Int)] else [] := by
  unfold posI
  rw [pos_succ, List.map_append]
  congr 1
  split <;> rfl
/-- The entry e of the map, when the positions ahead of n are in it. -/
structure EntAt (base : Nat) (d : List UInt8) (n clock : Nat) (X : Nat → Prop) (w : World) (e : MapEntry) (q : List UInt8) : Prop where
  len : q.length = 4
  key : e.key = K4 q
  row : OwnI base (posI d q n) e.val w
  born : e.born < clock
  own : ∀ k, e.val.ownBlock = some k → X k
/-- The map at block m: the positions ahead of n. -/
structure MapEs (base : Nat) (d : List UInt8) (m n : Nat) (X : Nat → Prop) (w : World) (es : List MapEntry) (clock : Nat) : Prop where
  at_ : w.heap[m]? = some (.map es.toArray clock)
  ent : ∀ e ∈ es, ∃ q, EntAt base d n clock X w e q
  apart : ∀ (i j : Nat) (e f : MapEntry), es[i]? = some e → es[j]? = some f → i ≠ j → e.key ≠ f.key ∧ e.born ≠ f.born ∧ (e.val.ownBlock = none ∨ e.val.ownBlock ≠ f.val.ownBlock)
  full : ∀ q, pos d q n ≠ [] → ∃ e ∈ es, e.key = K4 q
def MapAt (base : Nat) (d : List UInt8) (m n : Nat) (X : Nat → Prop) (w : World) : Prop := ∃ es clock, MapEs base d m n X w es clock
section
variable {base : Nat} {d : List UInt8} {m n clock : Nat} {X : Nat → Prop} {w w' : World} {es : List MapEntry}
theorem MapEs.keys (h : MapEs base d m n X w es clock) : KeysOk Try.prog 92 es := fun e he => by
  obtain ⟨q, hq⟩ := h.ent e he
  rw [hq.key]
  exact keyOf4 hq.len
theorem MapEs.lt (h : MapEs base d m n X w es clock) : m < w.heap.size := (Array.getElem?_eq_some_iff.1 h.at_).1
theorem OwnI.cells {l : List Int} {v : Value} (h : OwnI base l v w) {k : Nat} (hk : v.ownBlock = some k) : ∃ cs f, w.heap[k]? = some (.cells cs 3 f) := by
  obtain ⟨n, h1, h2⟩ := h
  rcases h2 with ⟨rfl, _⟩ | ⟨g, cap, cur, rfl, h3, h4, h5⟩
  · cases hk
  · obtain rfl : g = k := Option.some.inj hk
    exact ⟨_, _, h4⟩
theorem MapEs.ne (h : MapEs base d m n X w es clock) {e : MapEntry} (he : e ∈ es) : e.val.ownBlock ≠ some m := fun hk => by
  obtain ⟨q, hq⟩ := h.ent e he
  obtain ⟨cs, f, hc⟩ := hq.row.cells hk
  rw [h.at_] at hc
  cases hc
/-- What is not the map's may turn. -/
theorem MapEs.same (h : MapEs base d m n X w es clock) (hm : w'.heap[m]? = w.heap[m]?) (hX : ∀ k, X k → k < w.heap.size → w'.heap[k]? = w.heap[k]?) : MapEs base d m n X w' es clock :=
  ⟨hm.trans h.at_, fun e he => by
    obtain ⟨q, hq⟩ := h.ent e he
    exact ⟨q, hq.len, hq.key, hq.row.same fun k hk => hX k (hq.own k hk) (hq.row.lt k hk).2, hq.born, hq.own⟩, h.apart, h.full⟩
theorem MapAt.same (h : MapAt base d m n X w) (hm : w'.heap[m]? = w.heap[m]?) (hX : ∀ k, X k → k < w.heap.size → w'.heap[k]? = w.heap[k]?) : MapAt base d m n X w' := by
  obtain ⟨es, clock, h⟩ := h
  exact ⟨es, clock, h.same hm hX⟩
theorem MapAt.lt (h : MapAt base d m n X w) : m < w.heap.size := by
  obtain ⟨es, clock, h⟩ := h
  exact h.lt
theorem MapAt.ext (h : MapAt base d m n X w) (hx : Ext w w') : MapAt base d m n X w' := h.same (hx.heap h.lt) fun _ _ hk => hx.heap hk
theorem zero_ints : (Try.prog.info? 94).map (·.zero) = some (some (.slice none 0 0)) := by kernel_rfl
/-- What stands under four bytes. -/
theorem MapAt.look (h : MapAt base d m n X w) {q : List UInt8} (hq : q.length = 4) : ∃ v, (Instr.lookup 67 (.map (some m)) (K4 q) false).run Try.prog w = .ok v w ∧ OwnI base (posI d q n) v w ∧ ∀ k, v.ownBlock = some k → X k := by
  obtain ⟨es, clock, h⟩ := h
  obtain ⟨l, hl⟩ := keyOf4 hq
  rcases r_lookup (P := Try.prog) keyed4 Try.underlying67 zero_ints h.at_ h.keys hl with ⟨h1, _, h2⟩ | ⟨j, e, h1, _, h2, h3⟩
  · have hp : pos d q n = [] := Classical.byContradiction fun hn => by
      obtain ⟨e, he, hk⟩ := h.full q hn
      exact h2 e he hk
    exact ⟨_, h1, by unfold posI; rw [hp]; exact OwnI.nil _ _, fun k hk => by cases hk⟩
  · obtain ⟨r, hr⟩ := h.ent e (List.mem_of_getElem? h2)
    have e1 : r = q := K4_inj (hr.key.symm.trans h3)
    subst e1
    exact ⟨_, h1, hr.row, hr.own⟩
theorem MapEs.put (h : MapEs base d m n X w es clock) {w2 w3 : World} {j : Nat} {e0 : MapEntry} {q : List UInt8} {v : Value} (hj : es[j]? = some e0) (hk : e0.key = K4 q) (hqd : (d.drop n).take 4 = q) (hg : w.grownBy w2 e0.val.ownBlock) (ho : v.ownBlock = e0.val.ownBlock ∨ ∀ k, v.ownBlock = some k → w.heap.size ≤ k)
    (hv : OwnI base (posI d q n ++ [(n : Int)]) v w2) (hg3 : w2.grownBy w3 (some m)) (h3 : w3.heap[m]? = some (.map (es.set j { e0 with val := v }).toArray clock)) : MapEs base d m (n + 1) (fun k => X k ∨ v.ownBlock = some k) w3 (es.set j { e0 with val := v }) clock := by
  have hjl : j < es.length := by
    rcases Nat.lt_or_ge j es.length with h | h
    · exact h
    · rw [List.getElem?_eq_none h] at hj; cases hj
  have hm0 := List.mem_of_getElem? hj
  obtain ⟨q0, hq0⟩ := h.ent e0 hm0
  have eq0 : q0 = q := K4_inj (hq0.key.symm.trans hk)
  subst eq0
  have hvm : v.ownBlock ≠ some m := fun hb => by
    obtain ⟨cs, f, hc⟩ := hv.cells hb
    rcases ho with ho | ho
    · exact h.ne hm0 (ho ▸ hb)
    · have := ho m hb
      have := h.lt
      omega
  -- another entry, in the world behind
  have other : ∀ (i : Nat) (e : MapEntry), es[i]? = some e → i ≠ j → ∃ r, EntAt base d (n + 1) clock (fun k => X k ∨ v.ownBlock = some k) w3 e r := fun i e hi hij => by
    have hme := List.mem_of_getElem? hi
    obtain ⟨r, hr⟩ := h.ent e hme
    have hap := h.apart i j e e0 hi hj hij
    have hne : ¬ (d.drop n).take 4 = r := fun hh => hap.1 (by rw [hr.key, hk, ← hqd, hh])
    have e1 : posI d r (n + 1) = posI d r n := by rw [posI_succ, if_neg hne, List.append_nil]
    refine ⟨r, hr.len, hr.key, ?_, hr.born, fun k hk => .inl (hr.own k hk)⟩
    rw [e1]
    exact (hr.row.kept hg hap.2.2).kept hg3 (.inr (h.ne hme))
  have getset : ∀ (i : Nat) (e : MapEntry), (es.set j { e0 with val := v })[i]? = some e → (i = j ∧ e = { e0 with val := v }) ∨ (i ≠ j ∧ es[i]? = some e) := fun i e hi => by
    by_cases hij : i = j
    · subst hij
      rw [List.getElem?_set_self (by omega)] at hi
      exact .inl ⟨rfl, (Option.some.inj hi).symm⟩
    · rw [List.getElem?_set_ne (Ne.symm hij)] at hi
      exact .inr ⟨hij, hi⟩
  refine ⟨h3, fun e he => ?_, fun i i' e e' hi hi' hne => ?_, fun r hr => ?_⟩
  · obtain ⟨i, hi⟩ := List.mem_iff_getElem?.1 he
    rcases getset i e hi with ⟨rfl, rfl⟩ | ⟨hij, hi⟩
    · refine ⟨q0, hq0.len, hq0.key, ?_, hq0.born, fun k hk => .inr hk⟩
      rw [posI_succ, if_pos hqd]
      exact hv.kept hg3 (.inr hvm)
    · exact other i e hi hij
  · have lt_of : ∀ (i : Nat) (e : MapEntry), es[i]? = some e → ∀ k, e.val.ownBlock = some k → k < w.heap.size := fun i e hi k hk => by
      obtain ⟨r, hr⟩ := h.ent e (List.mem_of_getElem? hi)
      exact (hr.row.lt k hk).2
    rcases getset i e hi with ⟨rfl, rfl⟩ | ⟨hij, hi0⟩ <;> rcases getset i' e' hi' with ⟨rfl, rfl⟩ | ⟨hij', hi0'⟩
    · exact absurd rfl hne
    · have hap := h.apart i i' e0 e' hj hi0' hne
      refine ⟨hap.1, hap.2.1, ?_⟩
      rcases ho with ho | ho
      · show v.ownBlock = none ∨ v.ownBlock ≠ _
        rw [ho]; exact hap.2.2
      · cases hb : v.ownBlock with
        | none => exact .inl rfl
        | some k => exact .inr fun hc => by have := lt_of i' e' hi0' k hc.symm; have := ho k hb; omega
    · have hap := h.apart i i' e e0 hi0 hj hne
      refine ⟨hap.1, hap.2.1, ?_⟩
      rcases ho with ho | ho
      · show e.val.ownBlock = none ∨ e.val.ownBlock ≠ v.ownBlock
        rw [ho]; exact hap.2.2
      · cases hb : e.val.ownBlock with
        | none => exact .inl rfl
        | some k => exact .inr fun hc => by have := lt_of i e hi0 k hb; have := ho k hc.symm; omega
    · exact h.apart i i' e e' hi0 hi0' hne
  · have hsome : ∃ e ∈ es, e.key = K4 r := by
      by_cases hr0 : pos d r n = []
      · have : (d.drop n).take 4 = r := Classical.byContradiction fun hh => hr (by rw [pos_succ, hr0, if_neg hh]; rfl)
        exact ⟨e0, hm0, by rw [hk, ← hqd, this]⟩
      · exact h.full r hr0
    obtain ⟨e, he, hek⟩ := hsome
    obtain ⟨i, hi⟩ := List.mem_iff_getElem?.1 he
    by_cases hij : i = j
    · subst hij
      rw [hj] at hi
      obtain rfl := Option.some.inj hi
      exact ⟨{ e0 with val := v }, List.mem_iff_getElem?.2 ⟨i, List.getElem?_set_self (by omega)⟩, hek⟩
    · exact ⟨e, List.mem_iff_getElem?.2 ⟨i, by rw [List.getElem?_set_ne (Ne.symm hij)]; exact hi⟩, hek⟩
theorem MapEs.add (h : MapEs base d m n X w es clock) {q : List UInt8} (hq : q.length = 4) (hno : ∀ e ∈ es, e.key ≠ K4 q) (hg : w.grownBy w' (some m)) (h' : w'.heap[m]? = some (.map (es ++ [({ key := K4 q, val := .slice none 0 0, born := clock } : MapEntry)]).toArray (clock + 1))) :
    MapEs base d m n X w' (es ++ [({ key := K4 q, val := .slice none 0 0, born := clock } : MapEntry)]) (clock + 1) := by
  have hp : pos d q n = [] := Classical.byContradiction fun hn => by
    obtain ⟨e, he, hk⟩ := h.full q hn
    exact hno e he hk
  have hget : ∀ (i : Nat) (e : MapEntry), (es ++ [({ key := K4 q, val := .slice none 0 0, born := clock } : MapEntry)])[i]? = some e → es[i]? = some e ∨ (i = es.length ∧ e = { key := K4 q, val := .slice none 0 0, born := clock }) := fun i e hi => by
    rcases Nat.lt_or_ge i es.length with hl | hl
    · rw [List.getElem?_append_left hl] at hi; exact .inl hi
    · rw [List.getElem?_append_right hl] at hi
      rcases Nat.eq_zero_or_pos (i - es.length) with h0 | h0
      · rw [h0] at hi
        exact .inr ⟨by omega, (Option.some.inj hi).symm⟩
      · rw [List.getElem?_eq_none (by simp; omega)] at hi; cases hi
  refine ⟨h', fun e he => ?_, fun i j e f hi hj hij => ?_, fun r hr => ?_⟩
  · rcases List.mem_append.1 he with he | he
    · obtain ⟨r, hr⟩ := h.ent e he
      exact ⟨r, hr.len, hr.key, hr.row.kept hg (.inr (h.ne he)), Nat.lt_succ_of_lt hr.born, hr.own⟩
    · obtain rfl := List.mem_singleton.1 he
      exact ⟨q, hq, rfl, by unfold posI; rw [hp]; exact OwnI.nil _ _, Nat.lt_succ_self _, fun k hk => by cases hk⟩
  · rcases hget i e hi with hi | ⟨rfl, rfl⟩ <;> rcases hget j f hj with hj | ⟨rfl, rfl⟩
    · exact h.apart i j e f hi hj hij
    · have hm := List.mem_of_getElem? hi
      obtain ⟨r, hr⟩ := h.ent e hm
      have := hr.born
      refine ⟨hno e hm, by simp only []; omega, ?_⟩
      cases hb : e.val.ownBlock with
      | none => exact .inl rfl
      | some k => exact .inr (by simp [Value.ownBlock])
    · have hm := List.mem_of_getElem? hj
      obtain ⟨r, hr⟩ := h.ent f hm
      have := hr.born
      exact ⟨(hno f hm).symm, by simp only []; omega, .inl rfl⟩
    · exact absurd rfl hij
  · obtain ⟨e, he, hk⟩ := h.full r hr
    exact ⟨e, List.mem_append_left _ he, hk⟩
/-- A position is put into the map: the entry, then the row, then the store. -/
theorem MapAt.step (h : MapAt base d m n X w) (hn : n + 4 ≤ d.length) : ∃ v born w1, (Instr.mapEntry 67 (.map (some m)) (K4 ((d.drop n).take 4))).run Try.prog w = .ok (.tuple #[v, I (born : Nat)]) w1 ∧ w.grownBy w1 (some m) ∧ OwnI base (posI d ((d.drop n).take 4) n) v w1 ∧ (∀ k, v.ownBlock = some k → X k) ∧ v.ownBlock ≠ some m ∧
    ∀ v' w2, Grew w1 w2 v v' → OwnI base (posI d ((d.drop n).take 4) n ++ [(n : Int)]) v' w2 → ∃ w3, (Instr.entryStore 67 (.map (some m)) (I (born : Nat)) v').run Try.prog w2 = .ok () w3 ∧ w2.grownBy w3 (some m) ∧ MapAt base d m (n + 1) (fun k => X k ∨ v'.ownBlock = some k) w3 := by
  obtain ⟨es, clock, h⟩ := h
  have hq : ((d.drop n).take 4).length = 4 := by rw [List.length_take, List.length_drop]; omega
  obtain ⟨l, hl⟩ := keyOf4 hq
  have fin : ∀ (es : List MapEntry) (clock : Nat) (w1 : World) (j : Nat) (e : MapEntry), MapEs base d m n X w1 es clock → es[j]? = some e → e.key = K4 ((d.drop n).take 4) → ∀ v' w2, Grew w1 w2 e.val v' → OwnI base (posI d ((d.drop n).take 4) n ++ [(n : Int)]) v' w2 →
      ∃ w3, (Instr.entryStore 67 (.map (some m)) (I (e.born : Nat)) v').run Try.prog w2 = .ok () w3 ∧ w2.grownBy w3 (some m) ∧ MapAt base d m (n + 1) (fun k => X k ∨ v'.ownBlock = some k) w3 := by
    intro es clock w1 j e h1 hj hk v' w2 hG hv
    have hm2 : w2.heap[m]? = some (.map es.toArray clock) := (hG.grown.block m h1.lt (fun e => h1.ne (List.mem_of_getElem? hj) e.symm)).trans h1.at_
    obtain ⟨w3, r3, g3, h3⟩ := r_entryStore (P := Try.prog) (t := 67) (v := v') hm2 hj (fun i f hi hb => Classical.byContradiction fun hij => (h1.apart i j f e hi hj hij).2.1 hb)
    exact ⟨w3, r3, g3, _, _, h1.put hj hk rfl hG.grown hG.own hv g3 h3⟩
  obtain ⟨w1, g1, ⟨j, e, hj, hk, hr, h1⟩ | ⟨hno, hr, h1⟩⟩ := r_mapEntry (P := Try.prog) keyed4 Try.underlying67 zero_ints h.at_ h.keys hl
  · have hes : MapEs base d m n X w1 es clock := ⟨h1, fun e he => by
      obtain ⟨r, hr⟩ := h.ent e he
      exact ⟨r, hr.len, hr.key, hr.row.kept g1 (.inr (h.ne he)), hr.born, hr.own⟩, h.apart, h.full⟩
    obtain ⟨r, hr'⟩ := hes.ent e (List.mem_of_getElem? hj)
    have e1 : r = (d.drop n).take 4 := K4_inj (hr'.key.symm.trans hk)
    subst e1
    exact ⟨e.val, e.born, w1, hr, g1, hr'.row, hr'.own, hes.ne (List.mem_of_getElem? hj), fin es clock w1 j e hes hj hk⟩
  · have hes := h.add hq hno g1 h1
    have hj : (es ++ [({ key := K4 ((d.drop n).take 4), val := .slice none 0 0, born := clock } : MapEntry)])[es.length]? = some { key := K4 ((d.drop n).take 4), val := .slice none 0 0, born := clock } := by simp
    obtain ⟨r, hr'⟩ := hes.ent _ (List.mem_of_getElem? hj)
    have e1 : r = (d.drop n).take 4 := K4_inj (hr'.key.symm.trans rfl)
    subst e1
    exact ⟨.slice none 0 0, clock, w1, hr, g1, hr'.row, hr'.own, by simp [Value.ownBlock], fin _ _ w1 es.length _ hes hj rfl⟩
end
end Go.Rl
/- Walks of the reference's packing. Conditions: the bytes are not more than 2^40. -/
namespace Go.Rl
open Go.RowKit Go.Proofs
theorem call_TLen : Callable Try.prog 65 := ⟨_, Try.func65, by kernel_rfl, rfl⟩
theorem call_TBest : Callable Try.prog 42 := ⟨_, Try.func42, by kernel_rfl, rfl⟩
theorem call_TPack : Callable Try.prog 16 := ⟨_, Try.func16, by kernel_rfl, rfl⟩
theorem TLen_spec {w : World} {d : List UInt8} {v : Value} {i k : Nat} (hv : Bts d v w) (hi : i ≤ d.length) (hk : 1 ≤ k) (hki : k ≤ i) (hl : d.length ≤ 1099511627776) :
    Calls Try.prog 65 #[v, I (i : Int), I (k : Int)] w (Ret fun r w' => Ext w w' ∧ r = I ((ml d i k : Nat) : Int)) := by
  refine enter (vs := [v, I (i : Int), I (k : Int)]) Try.func65 rfl rfl rfl ?_
  refine c_seq (c_region (o_assign rfl rfl (o_nil (n_then (c_seq (c_region (o_assign rfl rfl (o_nil (n_then (c_seq (c_block ?_)))))))))))
  refine c_loop (α := Nat) (fun x => [(0, v), (1, I (i : Int)), (2, I (k : Int)), (7, I (x : Int))]) (fun x w' => Ext w w' ∧ i + x ≤ d.length ∧ ml d i k = x + lcp (d.drop (i + x)) (d.drop (i - k + x))) (fun x => d.length - x) (0) ⟨rfl, rfl, rfl, rfl, trivial⟩ ⟨Ext.refl _, by omega, by simp [ml]⟩ ?_
  rintro j w2 ⟨e2, hj, hm⟩
  refine c_seq (c_seq ?_)
  by_cases h13 : ((i + j : Nat) : Int) < ((d.length : Nat) : Int)
  · refine c_grow 22 [0, 1, 2, 7, 14, 29] (by kernel_rfl) (by kernel_rfl) ?_
    refine f_move rfl rfl (f_move rfl rfl (f_bin (r := I ((i + j : Nat) : Int)) rfl rfl rfl (fun w _ => by have e : ((i + j : Nat) : Int) = (i : Int) + (j : Int) := (by omega); rw [e]; exact r_add_i (by omega) (by omega)) ?_))
    refine f_move rfl rfl (f_len (vs := [v]) rfl rfl (fun w hw => r_lenB ((hv.ext e2).ext hw)) (f_bin rfl rfl rfl (fun w _ => dec_t h13 r_lss_i) (f_move rfl rfl (f_yes rfl rfl ?_))))
    refine f_move rfl rfl (f_yes rfl rfl (f_move rfl rfl (f_yes rfl rfl (f_move rfl rfl (f_yes rfl rfl (f_bin (r := I ((i + j : Nat) : Int)) rfl rfl rfl (fun w _ => by have e : ((i + j : Nat) : Int) = (i : Int) + (j : Int) := (by omega); rw [e]; exact r_add_i (by omega) (by omega)) ?_))))))
    refine f_yes rfl rfl ?_
    obtain ⟨a19, p19, q19⟩ := r_ixB (hv.ext e2) (i := i + j) (by omega) .i64
    refine f_indexAddr rfl rfl rfl (fun w _ => p19 w) (f_yes rfl rfl (f_load rfl rfl (fun w hw => r_load1 Try.underlying5 rfl (hw.cell_some q19)) (f_yes rfl rfl ?_)))
    refine f_move rfl rfl (f_yes rfl rfl (f_move rfl rfl (f_yes rfl rfl (f_move rfl rfl (f_yes rfl rfl (f_bin (r := I ((i + j : Nat) : Int)) rfl rfl rfl (fun w _ => by have e : ((i + j : Nat) : Int) = (i : Int) + (j : Int) := (by omega); rw [e]; exact r_add_i (by omega) (by omega)) ?_))))))
    refine f_yes rfl rfl (f_move rfl rfl (f_yes rfl rfl (f_bin (r := I ((i - k + j : Nat) : Int)) rfl rfl rfl (fun w _ => by have e : ((i - k + j : Nat) : Int) = ((i + j : Nat) : Int) - (k : Int) := (by omega); rw [e]; exact r_sub_i (by omega) (by omega)) ?_)))
    refine f_yes rfl rfl ?_
    obtain ⟨a27, p27, q27⟩ := r_ixB (hv.ext e2) (i := i - k + j) (by omega) .i64
    refine f_indexAddr rfl rfl rfl (fun w _ => p27 w) (f_yes rfl rfl (f_load rfl rfl (fun w hw => r_load1 Try.underlying5 rfl (hw.cell_some q27)) (f_yes rfl rfl ?_)))
    refine f_bin rfl rfl rfl (fun w _ => r_eql_u8) (f_nil ?_)
    intro wg2 xg2
    rintro _ hq0
    obtain rfl := Eq.symm hq0
    rintro _ rfl
    rintro _ rfl
    rintro _ rfl
    rintro _ rfl
    rintro _ rfl
    refine o_pick_t rfl rfl rfl (o_nil (n_then ?_))
    refine c_if rfl (fun h30 => ?_) (fun h30 => ?_)
    · refine c_skip (n_then (c_block ?_))
      have hst := ml_step (d := d) (j := j) hki (by omega)
      refine c_region (o_move rfl rfl (o_bin (r := I ((j + 1 : Nat) : Int)) rfl rfl rfl (by have e : ((j + 1 : Nat) : Int) = (j : Int) + 1 := (by omega); rw [e]; exact r_add_i (by omega) (by omega)) ?_))
      refine o_assign rfl rfl (o_nil (n_block ?_))
      refine n_round (j + 1) ⟨rfl, rfl, rfl, rfl, trivial⟩ ⟨(e2.trans xg2), by omega, by rw [hm, hst, if_pos h30]; omega⟩ (by omega)
    · refine c_exit (x_then (x_then (x_here (n_then (c_seq (c_region (o_move rfl rfl (o_assign rfl rfl (o_nil (n_then (c_ret (r_body1 rfl rfl ?_))))))))))))
      exact ⟨_, rfl, (e2.trans xg2), by
        have e : lcp (d.drop (i + j)) (d.drop (i - k + j)) = 0 := by
          first
          | (rw [List.drop_of_length_le (show d.length ≤ i + j by omega)]; rfl)
          | (rw [ml_step (d := d) (j := j) hki (by omega), if_neg h30])
        rw [hm, e]; rfl⟩
  · refine c_grow 22 [0, 1, 2, 7, 14, 29] (by kernel_rfl) (by kernel_rfl) ?_
    refine f_move rfl rfl (f_move rfl rfl (f_bin (r := I ((i + j : Nat) : Int)) rfl rfl rfl (fun w _ => by have e : ((i + j : Nat) : Int) = (i : Int) + (j : Int) := (by omega); rw [e]; exact r_add_i (by omega) (by omega)) ?_))
    refine f_move rfl rfl (f_len (vs := [v]) rfl rfl (fun w hw => r_lenB ((hv.ext e2).ext hw)) (f_bin rfl rfl rfl (fun w _ => dec_f h13 r_lss_i) (f_move rfl rfl (f_no rfl rfl rfl ?_))))
    refine f_no rfl rfl rfl (f_no rfl rfl rfl (f_no rfl rfl rfl (f_no rfl rfl rfl (f_no rfl rfl rfl (f_no rfl rfl rfl (f_no rfl rfl rfl (f_no rfl rfl rfl (f_no rfl rfl rfl (f_no rfl rfl rfl ?_)))))))))
    refine f_no rfl rfl rfl (f_no rfl rfl rfl (f_no rfl rfl rfl (f_no rfl rfl rfl (f_nil ?_))))
    intro wg2 xg2
    rintro _ hq0
    obtain rfl := Eq.symm hq0
    rintro _ rfl
    rintro _ rfl
    rintro _ rfl
    rintro _ rfl
    rintro _ rfl
    refine o_pick_f rfl rfl rfl (o_nil (n_then (c_no rfl (c_exit (x_then (x_then (x_here (n_then (c_seq (c_region (o_move rfl rfl (o_assign rfl rfl (o_nil (n_then (c_ret (r_body1 rfl rfl ?_))))))))))))))))
    exact ⟨_, rfl, (e2.trans xg2), by
      have e : lcp (d.drop (i + j)) (d.drop (i - k + j)) = 0 := by
        first
        | (rw [List.drop_of_length_le (show d.length ≤ i + j by omega)]; rfl)
        | (rw [ml_step (d := d) (j := j) hki (by omega), if_neg h30])
      rw [hm, e]; rfl⟩
theorem TBest_spec {w : World} {d : List UInt8} {v : Value} {i : Nat} (hv : Bts d v w) (hi : i ≤ d.length) (hl : d.length ≤ 1099511627776) :
    Calls Try.prog 42 #[v, I (i : Int)] w (Ret fun r w' => Ext w w' ∧ r = .tuple #[I (((best d i).1 : Nat) : Int), I (((best d i).2 : Nat) : Int)]) := by
  refine enter (vs := [v, I (i : Int)]) Try.func42 rfl rfl rfl ?_
  refine c_seq (c_region (o_assign rfl rfl (o_assign rfl rfl (o_nil (n_then (c_seq (c_region (o_assign rfl rfl (o_assign rfl rfl (o_nil (n_then (c_seq (c_seq (c_region (o_assign rfl rfl (o_nil ?_))))))))))))))))
  refine n_then (c_block ?_)
  refine c_loop3 (fun (j : Nat) (bn : Nat) (bk : Nat) => [(0, v), (1, I (i : Int)), (6, I (bn : Int)), (7, I (bk : Int)), (8, I ((j + 1 : Nat) : Int))]) (fun (j : Nat) (bn : Nat) (bk : Nat) w' => Ext w w' ∧ j ≤ min i 4096 ∧ bst d i j = (bn, bk)) (fun (j : Nat) (bn : Nat) (bk : Nat) => min i 4096 - j) (0) (0) (0) ⟨rfl, rfl, rfl, rfl, rfl, trivial⟩ ⟨Ext.refl _, by omega, rfl⟩ ?_
  rintro j bn bk w3 ⟨e3, hj, hb⟩
  refine c_seq (c_seq (c_region (o_move rfl rfl (o_move rfl rfl (o_bin rfl rfl rfl (r_leq_i) (o_move rfl rfl ?_))))))
  refine o_dec (fun h13 => ?_) (fun h13 => ?_)
  · refine g_yes rfl (o_move rfl rfl (g_yes rfl (o_bin rfl rfl rfl (r_leq_i) (o_pick_t rfl rfl rfl (o_nil (n_then ?_))))))
    refine c_if rfl (fun h16 => ?_) (fun h16 => ?_)
    · refine c_skip (n_then (c_seq (c_block (c_seq (c_region (o_move rfl rfl (o_move rfl rfl (o_move rfl rfl (o_call call_TLen rfl rfl (TLen_spec (hv.ext e3) hi (by omega) (by omega) hl) ?_)))))))))
      rintro v22 w22 ⟨x22, rfl⟩
      refine o_assign rfl rfl (o_nil (n_then (c_seq (c_region (o_move rfl rfl (o_bin rfl rfl rfl (r_geq_i) (o_move rfl rfl ?_)))))))
      refine o_dec (fun h25 => ?_) (fun h25 => ?_)
      · refine g_yes rfl (o_move rfl rfl (g_yes rfl (o_move rfl rfl (g_yes rfl (o_bin rfl rfl rfl (r_gtr_i) (o_pick_t rfl rfl rfl (o_nil (n_then ?_))))))))
        refine c_if rfl (fun h29 => ?_) (fun h29 => ?_)
        · refine c_region (o_move rfl rfl (o_move rfl rfl (o_assign rfl rfl (o_assign rfl rfl (o_nil (n_block (n_then (c_region (o_move rfl rfl (o_bin (r := I ((j + 1 + 1 : Nat) : Int)) rfl rfl rfl (by have e : ((j + 1 + 1 : Nat) : Int) = ((j + 1 : Nat) : Int) + 1 := (by omega); rw [e]; exact r_add_i (by omega) (by omega)) ?_))))))))))
          refine o_assign rfl rfl (o_nil ?_)
          refine n_round3 (j + 1) (ml d i (j + 1)) (j + 1) ⟨rfl, rfl, rfl, rfl, rfl, trivial⟩ ⟨(e3.trans x22), by omega, by rw [bst, hb, if_pos ⟨by omega, by show bn < ml d i (j + 1); omega⟩]⟩ (by omega)
        · refine c_skip (n_block (n_then (c_region (o_move rfl rfl (o_bin (r := I ((j + 1 + 1 : Nat) : Int)) rfl rfl rfl (by have e : ((j + 1 + 1 : Nat) : Int) = ((j + 1 : Nat) : Int) + 1 := (by omega); rw [e]; exact r_add_i (by omega) (by omega)) ?_)))))
          refine o_assign rfl rfl (o_nil ?_)
          refine n_round3 (j + 1) (bn) (bk) ⟨rfl, rfl, rfl, rfl, rfl, trivial⟩ ⟨(e3.trans x22), by omega, by
            rw [bst, hb, if_neg]
            intro h
            have h2 : bn < ml d i (j + 1) := h.2
            exact h29 (by omega)⟩ (by omega)
      · refine g_no rfl rfl rfl (g_no rfl rfl rfl (g_no rfl rfl rfl (o_pick_f rfl rfl rfl (o_nil (n_then (c_no rfl (c_skip (n_block (n_then (c_region (o_move rfl rfl (o_bin (r := I ((j + 1 + 1 : Nat) : Int)) rfl rfl rfl (by have e : ((j + 1 + 1 : Nat) : Int) = ((j + 1 : Nat) : Int) + 1 := (by omega); rw [e]; exact r_add_i (by omega) (by omega)) ?_))))))))))))
        refine o_assign rfl rfl (o_nil ?_)
        refine n_round3 (j + 1) (bn) (bk) ⟨rfl, rfl, rfl, rfl, rfl, trivial⟩ ⟨(e3.trans x22), by omega, by
          rw [bst, hb, if_neg]
          intro h
          exact h25 (by omega)⟩ (by omega)
    · refine c_exit (x_then (x_then (x_here (n_then (c_seq (c_region (o_move rfl rfl (o_move rfl rfl (o_assign rfl rfl (o_assign rfl rfl (o_nil (n_then (c_ret (r_body2 rfl rfl rfl ?_))))))))))))))
      exact ⟨_, rfl, e3, by
        unfold best
        rw [show min i 4096 = j by omega, hb]⟩
  · refine g_no rfl rfl rfl (g_no rfl rfl rfl (o_pick_f rfl rfl rfl (o_nil (n_then (c_no rfl (c_exit (x_then (x_then (x_here (n_then (c_seq (c_region (o_move rfl rfl (o_move rfl rfl (o_assign rfl rfl ?_)))))))))))))))
    refine o_assign rfl rfl (o_nil (n_then (c_ret (r_body2 rfl rfl rfl ?_))))
    exact ⟨_, rfl, e3, by
      unfold best
      rw [show min i 4096 = j by omega, hb]⟩
end Go.Rl
/- Plain maths: natural numbers as limbs of 32 bits. No condition. -/
namespace Go.Rl

def val : List UInt32 → Nat
  | [] => 0
  | x :: l => x.toNat + 4294967296 * val l
def tr : List UInt32 → List UInt32
  | [] => []
  | x :: l => match tr l with
    | [] => if x = 0 then [] else [x]
    | y :: m => x :: y :: m
def lbF : Nat → Nat → List UInt32
  | 0, _ => []
  | f + 1, n => if n = 0 then [] else UInt32.ofNat (n % 4294967296) :: lbF f (n / 4294967296)
/-- The canonical limbs of a number. -/
def lb (n : Nat) : List UInt32 := lbF n n

theorem lbF_eq : ∀ (f g n : Nat), n ≤ f → n ≤ g → lbF f n = lbF g n
  | 0, 0, n, _, _ => rfl
  | 0, g + 1, n, h, _ => by simp [lbF, show n = 0 by omega]
  | f + 1, 0, n, _, h => by simp [lbF, show n = 0 by omega]
  | f + 1, g + 1, n, h1, h2 => by
    simp only [lbF]
    split
    · rfl
    · rw [lbF_eq f g (n / 4294967296) (by omega) (by omega)]
theorem lb_zero : lb 0 = [] := rfl
theorem lb_pos {n : Nat} (h : 0 < n) : lb n = UInt32.ofNat (n % 4294967296) :: lb (n / 4294967296) := by
  obtain ⟨m, rfl⟩ : ∃ m, n = m + 1 := ⟨n - 1, by omega⟩
  show lbF (m + 1) (m + 1) = _
  simp only [lbF]
  rw [if_neg (by omega), lbF_eq m ((m + 1) / 4294967296) _ (by omega) (Nat.le_refl _)]
  rfl
theorem u32_lt (x : UInt32) : x.toNat < 4294967296 := x.toNat_lt
theorem u32_ofNat {n : Nat} (h : n < 4294967296) : (UInt32.ofNat n).toNat = n := by rw [UInt32.toNat_ofNat']; omega
theorem u32_ext {x y : UInt32} (h : x.toNat = y.toNat) : x = y := UInt32.toNat_inj.1 h
theorem u32_ne {x : UInt32} (h : x ≠ 0) : 0 < x.toNat := by
  rcases Nat.eq_zero_or_pos x.toNat with h0 | h0
  · exact absurd (u32_ext (y := 0) h0) h
  · exact h0

theorem val_lb (n : Nat) : val (lb n) = n := by
  induction n using Nat.strongRecOn with
  | ind n ih =>
    rcases Nat.eq_zero_or_pos n with rfl | h
    · rfl
    · rw [lb_pos h, val, ih _ (by omega), u32_ofNat (by omega)]
      omega
theorem val_append : ∀ (l m : List UInt32), val (l ++ m) = val l + 4294967296 ^ l.length * val m
  | [], m => by simp [val]
  | x :: l, m => by
    rw [List.cons_append, val, val_append l m, val, List.length_cons, Nat.pow_succ, Nat.mul_add, ← Nat.mul_assoc, Nat.mul_comm (4294967296 ^ l.length), Nat.add_assoc]
theorem val_lt : ∀ (l : List UInt32), val l < 4294967296 ^ l.length
  | [] => by simp [val]
  | x :: l => by
    have := val_lt l
    have hx := u32_lt x
    rw [val, List.length_cons, Nat.pow_succ]
    have : 4294967296 * (val l + 1) ≤ 4294967296 * 4294967296 ^ l.length := Nat.mul_le_mul_left _ this
    rw [Nat.mul_comm (4294967296 ^ l.length)]
    omega
theorem val_zeros (n : Nat) : val (List.replicate n 0) = 0 := by
  induction n with
  | zero => rfl
  | succ n ih => rw [List.replicate_succ, val, ih]; rfl
theorem val_one (x : UInt32) : val [x] = x.toNat := by simp [val]
theorem val_take_succ {l : List UInt32} {i : Nat} (h : i < l.length) : val (l.take (i + 1)) = val (l.take i) + 4294967296 ^ i * l[i].toNat := by
  rw [List.take_succ_eq_append_getElem h, val_append, val_one, List.length_take, Nat.min_eq_left (by omega)]
theorem val_drop {l : List UInt32} {i : Nat} (h : i < l.length) : val (l.drop i) = l[i].toNat + 4294967296 * val (l.drop (i + 1)) := by
  rw [List.drop_eq_getElem_cons h, val]
theorem val_split (l : List UInt32) (i : Nat) (h : i ≤ l.length) : val l = val (l.take i) + 4294967296 ^ i * val (l.drop i) := by
  conv => lhs; rw [← List.take_append_drop i l]
  rw [val_append, List.length_take, Nat.min_eq_left h]

theorem val_tr : ∀ (l : List UInt32), val (tr l) = val l
  | [] => rfl
  | x :: l => by
    have ih := val_tr l
    rw [tr]
    split
    · rename_i h
      rw [h] at ih
      split
      · rename_i hx; subst hx; simp [val, ← ih]
      · simp [val, ← ih]
    · rename_i y m h
      rw [h] at ih
      rw [val, ih, val]
theorem tr_eq : ∀ (l : List UInt32), tr l = lb (val l)
  | [] => rfl
  | x :: l => by
    have ih := tr_eq l
    have hx := u32_lt x
    rw [tr, val]
    rcases Nat.eq_zero_or_pos (val l) with h | h
    · rw [h, lb_zero] at ih
      rw [ih, h, Nat.mul_zero, Nat.add_zero]
      by_cases h0 : x = 0
      · subst h0; simp [lb_zero]
      · have := u32_ne h0
        have e : UInt32.ofNat x.toNat = x := u32_ext (by rw [u32_ofNat hx])
        simp only [if_neg h0]
        rw [lb_pos this, Nat.mod_eq_of_lt hx, Nat.div_eq_of_lt hx, lb_zero, e]
    · rw [lb_pos (n := x.toNat + 4294967296 * val l) (by omega), Nat.add_mul_mod_self_left, Nat.add_mul_div_left _ _ (by omega), Nat.div_eq_of_lt hx, Nat.zero_add, Nat.mod_eq_of_lt hx, ← ih]
      have hne : tr l ≠ [] := fun h0 => by
        have := val_tr l
        rw [h0, val] at this
        omega
      split
      · rename_i h0; exact absurd h0 hne
      · rename_i y m h0
        rw [h0]
        congr 1
        exact u32_ext (by rw [u32_ofNat hx])
theorem tr_snoc0 (l : List UInt32) : tr (l ++ [0]) = tr l := by
  rw [tr_eq, tr_eq, val_append, val_one]; simp
theorem tr_snoc {x : UInt32} (h : x ≠ 0) : ∀ (l : List UInt32), tr (l ++ [x]) = l ++ [x]
  | [] => by simp [tr, h]
  | y :: l => by
    rw [List.cons_append, tr, tr_snoc h l]
    cases l <;> rfl
theorem lb_lt {n k : Nat} (h : n < 4294967296 ^ k) : (lb n).length ≤ k := by
  induction k generalizing n with
  | zero => have : n = 0 := by simpa using h
            subst this; simp [lb_zero]
  | succ k ih =>
    rcases Nat.eq_zero_or_pos n with rfl | h0
    · simp [lb_zero]
    · rw [lb_pos h0, List.length_cons]
      have : n / 4294967296 < 4294967296 ^ k := by
        rw [Nat.div_lt_iff_lt_mul (by omega), ← Nat.pow_succ]; exact h
      have := ih this
      omega
theorem lb_ge {n : Nat} (h : 0 < n) : 4294967296 ^ ((lb n).length - 1) ≤ n := by
  induction n using Nat.strongRecOn with
  | ind n ih =>
    rw [lb_pos h, List.length_cons, Nat.add_sub_cancel]
    rcases Nat.eq_zero_or_pos (n / 4294967296) with h0 | h0
    · rw [h0, lb_zero]; exact h
    · have h1 := ih (n / 4294967296) (by omega) h0
      have h2 : 0 < (lb (n / 4294967296)).length := by rw [lb_pos h0]; simp
      obtain ⟨k, hk⟩ : ∃ k, (lb (n / 4294967296)).length = k + 1 := ⟨_, (Nat.sub_add_cancel h2).symm⟩
      rw [hk, Nat.add_sub_cancel] at h1
      rw [hk, Nat.pow_succ]
      omega
theorem lb_len0 {n : Nat} : (lb n).length = 0 ↔ n = 0 := by
  constructor
  · intro h
    rcases Nat.eq_zero_or_pos n with h0 | h0
    · exact h0
    · rw [lb_pos h0] at h; simp at h
  · rintro rfl; rfl
theorem lb_inj {n m : Nat} (h : lb n = lb m) : n = m := by rw [← val_lb n, ← val_lb m, h]
theorem len_lt {n m : Nat} (h : (lb n).length < (lb m).length) : n < m := by
  have h1 := val_lt (lb n)
  rw [val_lb] at h1
  have hm : 0 < m := by
    rcases Nat.eq_zero_or_pos m with rfl | h0
    · simp [lb_zero] at h
    · exact h0
  have h2 := lb_ge hm
  exact Nat.lt_of_lt_of_le h1 (Nat.le_trans (Nat.pow_le_pow_right (by omega) (by omega)) h2)
/-- The last limb is not 0. -/
theorem lb_last {n i : Nat} (h : i + 1 = (lb n).length) : 0 < ((lb n)[i]'(by omega)).toNat := by
  have hn : 0 < n := by
    rcases Nat.eq_zero_or_pos n with h0 | h0
    · subst h0; simp [lb_zero] at h
    · exact h0
  have h1 := lb_ge hn
  have h2 : val (lb n) = val ((lb n).take i) + 4294967296 ^ i * ((lb n)[i]'(by omega)).toNat := by
    rw [← val_take_succ (by omega), h, List.take_length]
  rw [val_lb] at h2
  have h3 := val_lt ((lb n).take i)
  rw [List.length_take, Nat.min_eq_left (by omega)] at h3
  rw [← h, Nat.add_sub_cancel] at h1
  rcases Nat.eq_zero_or_pos ((lb n)[i]'(by omega)).toNat with h0 | h0
  · rw [h0] at h2; omega
  · exact h0
def cmpN (x y : Nat) : Int := if x < y then -1 else if y < x then 1 else 0
/-- Lists that agree from i + 1 on, compared at i. -/
theorem val_cmp {l m : List UInt32} {i : Nat} (hl : i < l.length) (hm : i < m.length) (hd : l.drop (i + 1) = m.drop (i + 1)) (h : l[i].toNat < m[i].toNat) : val l < val m := by
  rw [val_split l (i + 1) (by omega), val_split m (i + 1) (by omega), hd, val_take_succ hl, val_take_succ hm]
  have h1 := val_lt (l.take i)
  rw [List.length_take, Nat.min_eq_left (by omega)] at h1
  have h2 : 4294967296 ^ i * (l[i].toNat + 1) ≤ 4294967296 ^ i * m[i].toNat := Nat.mul_le_mul_left _ h
  rw [Nat.mul_add, Nat.mul_one] at h2
  omega
theorem bpow (i : Nat) : 0 < 4294967296 ^ i := Nat.pow_pos (by omega)
theorem lb_small {n : Nat} (h0 : 0 < n) (h : n < 4294967296) : lb n = [UInt32.ofNat n] := by rw [lb_pos h0, Nat.mod_eq_of_lt h, Nat.div_eq_of_lt h, lb_zero]
end Go.Rl
/- Runs over slices of limbs: parts, new rows, stores. Conditions: each names its own. -/
namespace Go.Rl
open Go.RowKit Go.Proofs
section
variable {w : World} {t : TypeId}
theorem r_slW (ht : Try.prog.underlying t = some (.slice 79)) {l : List UInt32} {v : Value} (h : Wds l v w) {lo hi : Nat} (h1 : lo ≤ hi) (h2 : hi ≤ l.length) (kl kh : IntKind) :
    ∃ r, (∀ w' : World, (Instr.sliceAt t v (some (.int kl lo)) (some (.int kh hi)) none).run Try.prog w' = .ok r w') ∧ Wds ((l.take hi).drop lo) r w := by
  obtain ⟨r, h3, h4⟩ := r_slice (P := Try.prog) ht size_u32 h h1 (by simpa using h2) (by omega) kl kh
  exact ⟨r, h3, by simpa [Wds, List.map_drop, List.map_take] using h4⟩
theorem r_slW_lo (ht : Try.prog.underlying t = some (.slice 79)) {l : List UInt32} {v : Value} (h : Wds l v w) {lo : Nat} (h2 : lo ≤ l.length) (kl : IntKind) :
    ∃ r, (∀ w' : World, (Instr.sliceAt t v (some (.int kl lo)) none none).run Try.prog w' = .ok r w') ∧ Wds (l.drop lo) r w := by
  obtain ⟨r, h3, h4⟩ := r_slice_lo (P := Try.prog) ht size_u32 h (lo := lo) (by simpa using h2) (by omega) kl
  exact ⟨r, h3, by simpa [Wds, List.map_drop] using h4⟩
theorem r_slW_hi (ht : Try.prog.underlying t = some (.slice 79)) {l : List UInt32} {v : Value} (h : Wds l v w) {hi : Nat} (h2 : hi ≤ l.length) (kh : IntKind) :
    ∃ r, (∀ w' : World, (Instr.sliceAt t v none (some (.int kh hi)) none).run Try.prog w' = .ok r w') ∧ Wds (l.take hi) r w := by
  obtain ⟨r, h3, h4⟩ := r_slice_hi (P := Try.prog) ht size_u32 h (hi := hi) (by simpa using h2) (by omega) kh
  exact ⟨r, h3, by simpa [Wds, List.map_take] using h4⟩
theorem r_mkW (ht : Try.prog.underlying t = some (.slice 79)) (base : Nat) {n : Nat} (hn : n ≤ 70368744177664) (hb : base ≤ w.heap.size) :
    ∃ r w', (Instr.makeSlice t (I (n : Int)) (I (n : Int))).run Try.prog w = .ok r w' ∧ Ext w w' ∧ OwnW base (List.replicate n 0) r w' ∧ r.ownBlock = some w.heap.size := by
  obtain ⟨i, hi, hz, hs, hby⟩ := info_parts info_u32
  have hrun := run_make (P := Try.prog) w t 79 i _ ht hi hz .i64 .i64 (n : Int) (n : Int) (by omega) (by omega) (by rw [hby]; omega) (by omega)
  refine ⟨_, _, hrun, Ext.new _ _, ⟨n, ?_⟩, rfl⟩
  have := World.ownsRow_lit (base := base) (e := 79) (size := 1) w (madeCells (Value.int .u32 0).cells ((n : Int).toNat * i.size)) n hb (by unfold maxLen; omega) (by rw [hs]; simp [madeCells])
  have e : (madeCells (Value.int .u32 0).cells ((n : Int).toNat * i.size)).toList = (List.replicate n (0 : UInt32)).map U32 := by
    rw [hs]
    have h2 := toList_madeCells_one (.int .u32 0) n
    simp only [Value.cells, Int.toNat_natCast, Nat.mul_one, List.map_replicate] at h2 ⊢
    rw [h2]; rfl
  rw [e] at this
  simpa using this
theorem OwnW.setW (ht : Try.prog.underlying t = some (.slice 79)) {base : Nat} {l : List UInt32} {v : Value} (h : OwnW base l v w) {i : Nat} (hi : i < l.length) (x : UInt32) :
    ∃ g w', (∀ u : World, (Instr.indexAt t v (I (i : Int))).run Try.prog u = .ok (.pointer (some ⟨g, i, none⟩)) u) ∧ (Instr.storeAt 79 (.pointer (some ⟨g, i, none⟩)) (U32 x)).run Try.prog w = .ok () w' ∧
      OwnW base (l.set i x) v w' ∧ w.grownBy w' (some g) ∧ base ≤ g ∧ w.cell? ⟨g, i, none⟩ = some (U32 l[i]) ∧ v.ownBlock = some g := by
  obtain ⟨n, hn⟩ := id h
  have hnl : l.length = n := by simpa using hn.1
  obtain ⟨ad, hix, hcell⟩ := r_ixW ht h.wds hi .i64
  rcases hn.2 with ⟨_, h0⟩ | ⟨g, cap, cur, rfl, hb, hg, hnc, hcm, hcs, htk⟩
  · omega
  · have hlt : i < cur.size := by omega
    have had : ad = ⟨g, i, none⟩ := by
      have h1 := hix w
      obtain ⟨ti, hi', hs⟩ := Option.map_eq_some_iff.1 size_u32
      have hin : i < n := by omega
      have h2 : (Instr.indexAt t (.slice (some ⟨g, 0, none⟩) n cap) (.int .i64 i)).run Try.prog w = .ok (.pointer (some ⟨g, i, none⟩)) w := by
        simp [Instr.indexAt, asIntOf, run_underlying ht, hin, sizeOf, typeInfo, hi', hs, add_mk]
      rw [h2] at h1
      simp at h1
      exact h1.symm
    subst had
    refine ⟨g, w.setCell ⟨g, i, none⟩ (U32 x), hix, r_store1 size_u32 rfl hg hlt, ⟨n, ?_, .inr ⟨g, cap, cur.setIfInBounds i (U32 x), rfl, hb, heap_set hg i (U32 x), hnc, hcm, by simpa using hcs, ?_⟩⟩, grownBy_setCell w g i _, hb, hcell, rfl⟩
    · simpa using hnl
    · rw [List.map_set, ← htk, Array.toList_setIfInBounds, List.take_set]
theorem OwnW.kept {base : Nat} {l : List UInt32} {v : Value} {w' : World} (h : OwnW base l v w) {row : Option Nat} (hg : w.grownBy w' row) (hne : v.ownBlock = none ∨ v.ownBlock ≠ row) : OwnW base l v w' :=
  h.elim fun n h => ⟨n, World.ownsRow.kept h hg hne⟩
theorem OwnW.ge {base : Nat} {l : List UInt32} {v : Value} (h : OwnW base l v w) : ∀ k, v.ownBlock = some k → base ≤ k := fun k hk => h.elim fun _ h => (World.ownsRow.lt h k hk).1
theorem OwnW.lt {base : Nat} {l : List UInt32} {v : Value} (h : OwnW base l v w) : ∀ k, v.ownBlock = some k → k < w.heap.size := fun k hk => h.elim fun _ h => (World.ownsRow.lt h k hk).2
/-- The second slice's type does not matter. -/
theorem append_ty {P : Program} {w : World} {t t2 e e2 ty : TypeId} (ht : P.underlying t = some (.slice e)) (ht2 : P.underlying t2 = some (.slice e2)) (a b : Value) : (Builtin.append_ #[t, t2] ty #[a, b]).run P w = (Builtin.append_ #[t, t] ty #[a, b]).run P w := by
  unfold Builtin.append_
  cases a <;> simp [Sem.run_bind, run_underlying ht, run_underlying ht2]
theorem r_appW2 {base : Nat} {t2 : TypeId} (ht : Try.prog.underlying t = some (.slice 79)) (ht2 : Try.prog.underlying t2 = some (.slice 79)) {l m : List UInt32} {v x : Value} {ty : TypeId} (hv : OwnW base l v w) (hx : Wds m x w) (hb : l.length + m.length ≤ 35184372088832) (hbase : base ≤ w.heap.size) :
    ∃ r w', (Builtin.append_ #[t, t2] ty #[v, x]).run Try.prog w = .ok r w' ∧ OwnW base (l ++ m) r w' ∧ Grew w w' v r := by
  obtain ⟨r, w', h1, h2⟩ := r_appW (ty := ty) ht hv hx hb hbase
  exact ⟨r, w', (append_ty ht ht2 v x).trans h1, h2⟩
theorem r_max_i {P : Program} {t ty : TypeId} {a b : Nat} : (Builtin.max_ #[t, t] ty #[I (a : Int), I (b : Int)]).run P w = .ok (I ((max a b : Nat) : Int)) w := by
  have : (Builtin.max_ #[t, t] ty #[I (a : Int), I (b : Int)]) = pure (.int .i64 (if (b : Int) > (a : Int) then (b : Int) else (a : Int))) := rfl
  rw [this, Sem.run_pure]
  congr 2
  split <;> omega
/-- A part of a row of words: block g, behind pre and before post. -/
structure PW (g : Nat) (pre : List Value) (L : List UInt32) (post : List Value) (v : Value) (w : World) : Prop where
  isv : ∃ c, v = .slice (some ⟨g, pre.length, none⟩) L.length c ∧ L.length ≤ c ∧ c ≤ maxLen
  row : w.heap[g]? = some (.cells (pre ++ (L.map U32 ++ post)).toArray 79 (0, 0))
theorem PW.cell {g : Nat} {pre : List Value} {L : List UInt32} {post : List Value} {v : Value} (h : PW g pre L post v w) {i : Nat} (hi : i < L.length) : w.cell? ⟨g, pre.length + i, none⟩ = some (U32 L[i]) := by
  rw [cell_of_row w g _ _ _ _ h.row, List.getElem?_toArray, List.getElem?_append_right (by omega), Nat.add_sub_cancel_left, List.getElem?_append_left (by simpa using hi), List.getElem?_map, List.getElem?_eq_getElem hi]
  rfl
theorem PW.wds {g : Nat} {pre : List Value} {L : List UInt32} {post : List Value} {v : Value} (h : PW g pre L post v w) : Wds L v w := by
  obtain ⟨c, rfl, h1, h2⟩ := h.isv
  refine ⟨_, _, _, rfl, h1, h2, by simp, fun _ => ⟨_, rfl, fun j u hu => ?_⟩, fun h => by cases h⟩
  rw [List.getElem?_map, Option.map_eq_some_iff] at hu
  obtain ⟨x, hx, rfl⟩ := hu
  obtain ⟨hj, rfl⟩ := List.getElem?_eq_some_iff.1 hx
  rw [add_mk]
  exact h.cell hj
theorem PW.setP (ht : Try.prog.underlying t = some (.slice 79)) {g : Nat} {pre : List Value} {L : List UInt32} {post : List Value} {v : Value} (h : PW g pre L post v w) {i : Nat} (hi : i < L.length) (x : UInt32) :
    ∃ w', (∀ u : World, (Instr.indexAt t v (I (i : Int))).run Try.prog u = .ok (.pointer (some ⟨g, pre.length + i, none⟩)) u) ∧ (Instr.storeAt 79 (.pointer (some ⟨g, pre.length + i, none⟩)) (U32 x)).run Try.prog w = .ok () w' ∧
      PW g pre (L.set i x) post v w' ∧ w.grownBy w' (some g) ∧ w.cell? ⟨g, pre.length + i, none⟩ = some (U32 L[i]) := by
  obtain ⟨c, rfl, h1, h2⟩ := h.isv
  obtain ⟨ti, hti, hs⟩ := Option.map_eq_some_iff.1 size_u32
  refine ⟨w.setCell ⟨g, pre.length + i, none⟩ (U32 x), fun u => ?_, r_store1 size_u32 rfl h.row (by simp; omega), ⟨⟨c, by simp, by simpa using h1, h2⟩, ?_⟩, grownBy_setCell w g _ _, h.cell hi⟩
  · show (Instr.indexAt t (.slice (some ⟨g, pre.length, none⟩) L.length c) (.int .i64 (i : Int))).run Try.prog u = _
    simp [Instr.indexAt, asIntOf, run_underlying ht, hi, sizeOf, typeInfo, hti, hs, add_mk]
  · have := heap_set h.row (pre.length + i) (U32 x)
    rw [this, List.setIfInBounds_toArray, List.set_append_right _ _ (by omega), Nat.add_sub_cancel_left, List.set_append_left _ _ (by simpa using hi), List.map_set]
/-- Away from a block. -/
theorem Wds.away {l : List UInt32} {v : Value} {g : Nat} {w' : World} (h : Wds l v w) (ha : v.ownBlock = none ∨ v.ownBlock ≠ some g) (hg : w.grownBy w' (some g)) : Wds l v w' := by
  obtain ⟨A, n, c, rfl, h1, h2, h3, h4, h5⟩ := h
  refine ⟨A, n, c, rfl, h1, h2, h3, fun hn => ?_, h5⟩
  obtain ⟨ad, rfl, hc⟩ := h4 hn
  refine ⟨ad, rfl, fun j u hu => ?_⟩
  have hcell := hc j u hu
  have hb : ad.block ≠ g := by
    rcases ha with ha | ha
    · simp [Value.ownBlock] at ha
    · intro e; exact ha (by simp [Value.ownBlock, e])
  have hlt := World.block_lt_of_cell? w (ad.add j) hcell
  refine (World.cell?_of_block (hg.block _ hlt fun e => hb ?_)).trans hcell
  rw [add_block] at e
  exact Option.some.inj e
theorem r_slW_hi2 (ht : Try.prog.underlying t = some (.slice 79)) {l : List UInt32} {v : Value} (h : Wds l v w) {hi : Nat} (h2 : hi ≤ l.length) (kh : IntKind) :
    ∃ r, (∀ w' : World, (Instr.sliceAt t v none (some (.int kh hi)) none).run Try.prog w' = .ok r w') ∧ Wds (l.take hi) r w ∧ r.ownBlock = v.ownBlock := by
  obtain ⟨r, h3, h4⟩ := r_slW_hi ht h h2 kh
  refine ⟨r, h3, h4, ?_⟩
  obtain ⟨A, n, c, rfl, hnc, _, hl, _, _⟩ := h
  have h5 := h3 w
  obtain ⟨ti, hti, hs⟩ := Option.map_eq_some_iff.1 size_u32
  have hhi : hi ≤ n := by simp at hl; omega
  have hb : (Instr.sliceBounds true n c none (some (.int kh hi)) none).run Try.prog w = .ok (0, hi, c) w := by
    have a1 := run_sliceBound (P := Try.prog) (w := w) kh (hi : Int) c .sliceAcap (by omega) (by omega)
    simp only [Int.toNat_natCast] at a1
    simp [Instr.sliceBounds, a1]
  simp [Instr.sliceAt, Instr.slice, run_underlying ht, hb, sizeOf, typeInfo, hti, hs] at h5
  subst h5
  cases A with
  | none => split <;> rfl
  | some a => split <;> simp [Value.ownBlock, add_block]
theorem OwnW.off {base : Nat} {l : List UInt32} {v : Value} (h : OwnW base l v w) {g : Nat} (hg : g < base) : v.ownBlock ≠ some g := fun he => by
  have := h.ge g he
  omega
theorem OwnW.low {base base' : Nat} {l : List UInt32} {v : Value} (h : OwnW base l v w) (hb : base' ≤ base) : OwnW base' l v w := h.elim fun n h => ⟨n, ownsRow_base h fun k hk => Nat.le_trans hb (World.ownsRow.lt h k hk).1⟩
theorem OwnW.pw {base : Nat} {L : List UInt32} {v : Value} (h : OwnW base L v w) (h0 : 0 < L.length) : ∃ g sp, base ≤ g ∧ v.ownBlock = some g ∧ PW g [] L sp v w := by
  obtain ⟨n, h⟩ := h
  have hnl : L.length = n := by simpa using h.1
  rcases h.2 with ⟨_, h1⟩ | ⟨g, cap, cur, rfl, hb, hg, hnc, hcm, hcs, htk⟩
  · omega
  · refine ⟨g, cur.toList.drop (n * 1), hb, rfl, ⟨cap, by rw [hnl]; rfl, by omega, hcm⟩, ?_⟩
    rw [List.nil_append, ← htk, List.take_append_drop]
    exact hg
theorem PW.ext {g : Nat} {pre : List Value} {L : List UInt32} {post : List Value} {v : Value} {w' : World} (h : PW g pre L post v w) (hx : Ext w w') : PW g pre L post v w' := ⟨h.isv, hx.heap_some h.row⟩
theorem PW.lt {g : Nat} {pre : List Value} {L : List UInt32} {post : List Value} {v : Value} (h : PW g pre L post v w) : g < w.heap.size := (Array.getElem?_eq_some_iff.1 h.row).1
theorem PW.kept {g : Nat} {pre : List Value} {L : List UInt32} {post : List Value} {v : Value} {w' : World} (h : PW g pre L post v w) {row : Option Nat} (hg : w.grownBy w' row) (hne : some g ≠ row) : PW g pre L post v w' := ⟨h.isv, (hg.block g h.lt hne).trans h.row⟩
theorem r_slPW (ht : Try.prog.underlying t = some (.slice 79)) {g : Nat} {L : List UInt32} {sp : List Value} {v : Value} (h : PW g [] L sp v w) {lo hi : Nat} (h1 : lo < hi) (h2 : hi ≤ L.length) (kl kh : IntKind) :
    ∃ r, (∀ w' : World, (Instr.sliceAt t v (some (.int kl lo)) (some (.int kh hi)) none).run Try.prog w' = .ok r w') ∧ PW g ((L.take lo).map U32) ((L.take hi).drop lo) ((L.drop hi).map U32 ++ sp) r w := by
  obtain ⟨c, rfl, h3, h4⟩ := h.isv
  obtain ⟨i, hi', hs⟩ := Option.map_eq_some_iff.1 size_u32
  have hb : ∀ w : World, (Instr.sliceBounds true L.length c (some (.int kl lo)) (some (.int kh hi)) none).run Try.prog w = .ok (lo, hi, c) w := fun w => by
    have a1 := run_sliceBound (P := Try.prog) (w := w) kh (hi : Int) c .sliceAcap (by omega) (by omega)
    have a2 := run_sliceBound (P := Try.prog) (w := w) kl (lo : Int) hi .sliceB (by omega) (by omega)
    simp only [Int.toNat_natCast] at a1 a2
    simp [Instr.sliceBounds, a1, a2]
  have hne : ¬ c = lo := by omega
  refine ⟨.slice (some ⟨g, lo, none⟩) (hi - lo) (c - lo), fun w' => ?_, ⟨c - lo, ?_, ?_, by omega⟩, ?_⟩
  · simp [Instr.sliceAt, Instr.slice, run_underlying ht, hb, sizeOf, typeInfo, hi', hs, hne, add_mk]
  · simp only [List.length_map, List.length_take, List.length_drop, Nat.min_eq_left h2, Nat.min_eq_left (show lo ≤ L.length by omega)]
  · simp only [List.length_take, List.length_drop, Nat.min_eq_left h2]; omega
  · have e : L.take lo ++ (L.take hi).drop lo = L.take hi := by
      have := List.take_append_drop lo (L.take hi)
      rwa [List.take_take, Nat.min_eq_left (by omega)] at this
    have e2 : ([] : List Value) ++ (L.map U32 ++ sp) = (L.take lo).map U32 ++ (((L.take hi).drop lo).map U32 ++ ((L.drop hi).map U32 ++ sp)) := by
      rw [List.nil_append, ← List.append_assoc, ← List.append_assoc, ← List.map_append, ← List.map_append, e, List.take_append_drop]
    rw [h.row, e2]
theorem PW.join {g : Nat} {L F : List UInt32} {sp : List Value} {v r : Value} {lo hi : Nat} {w0 : World} (h : PW g [] L sp v w0) (h1 : lo ≤ hi) (h2 : hi ≤ L.length) (hF : F.length = hi - lo) (h3 : PW g ((L.take lo).map U32) F ((L.drop hi).map U32 ++ sp) r w) : PW g [] (L.take lo ++ F ++ L.drop hi) sp v w := by
  obtain ⟨c, rfl, h4, h5⟩ := h.isv
  have e : (L.take lo ++ F ++ L.drop hi).length = L.length := by simp [hF]; omega
  refine ⟨⟨c, by rw [e], by omega, h5⟩, ?_⟩
  rw [h3.row]
  simp only [List.nil_append, List.map_append, List.append_assoc]
end
end Go.Rl
/- Walks of package natural: canonical form, comparison, conversion. Conditions: each names its own. -/
namespace Go.Rl
open Go.RowKit Go.Proofs
theorem call_trim : Callable Try.prog 79 := ⟨_, Try.func79, by kernel_rfl, rfl⟩
theorem call_CloneN : Callable Try.prog 94 := ⟨_, Try.func94, by kernel_rfl, rfl⟩
theorem call_NMake : Callable Try.prog 87 := ⟨_, Try.func87, by kernel_rfl, rfl⟩
theorem call_NValid : Callable Try.prog 69 := ⟨_, Try.func69, by kernel_rfl, rfl⟩
theorem call_NOf : Callable Try.prog 96 := ⟨_, Try.func96, by kernel_rfl, rfl⟩
theorem call_NUint : Callable Try.prog 95 := ⟨_, Try.func95, by kernel_rfl, rfl⟩
theorem call_NCmp : Callable Try.prog 71 := ⟨_, Try.func71, by kernel_rfl, rfl⟩

theorem trim_step {l : List UInt32} {n : Nat} (h0 : 0 < n) (hn : n ≤ l.length) (h : l[n - 1]'(by omega) = 0) : val (l.take (n - 1)) = val (l.take n) := by
  obtain ⟨m, rfl⟩ : ∃ m, n = m + 1 := ⟨n - 1, by omega⟩
  simp only [Nat.add_sub_cancel] at h ⊢
  rw [val_take_succ (by omega), h]; simp
theorem trim_done {l : List UInt32} {n : Nat} (h0 : 0 < n) (hn : n ≤ l.length) (h : ¬ l[n - 1]'(by omega) = 0) : lb (val (l.take n)) = l.take n := by
  obtain ⟨m, rfl⟩ : ∃ m, n = m + 1 := ⟨n - 1, by omega⟩
  simp only [Nat.add_sub_cancel] at h
  rw [← tr_eq, List.take_succ_eq_append_getElem (by omega), tr_snoc h]
theorem can_iff {l : List UInt32} (h0 : 0 < l.length) : l[l.length - 1]'(by omega) ≠ 0 ↔ lb (val l) = l := by
  constructor
  · intro h
    have := trim_done (n := l.length) h0 (Nat.le_refl _) h
    rwa [List.take_length] at this
  · intro h h1
    have h2 := trim_step (n := l.length) h0 (Nat.le_refl _) h1
    rw [List.take_length] at h2
    have h3 : (lb (val l)).length ≤ l.length - 1 := by
      refine lb_lt ?_
      rw [← h2]
      have := val_lt (l.take (l.length - 1))
      rwa [List.length_take, Nat.min_eq_left (by omega)] at this
    rw [h] at h3
    omega
theorem u64_shr32 (x : UInt64) : (x >>> UInt64.ofNat 32).toNat = x.toNat / 4294967296 := by
  rw [UInt64.toNat_shiftRight]
  show x.toNat >>> 32 = _
  rw [Nat.shiftRight_eq_div_pow]
theorem trim_spec2 {w : World} {l : List UInt32} {v : Value} (hv : Wds l v w) :
    Calls Try.prog 79 #[v] w (Ret fun r w' => w = w' ∧ Wds (lb (val l)) r w ∧ (r.ownBlock = none ∨ r.ownBlock = v.ownBlock)) := by
  refine enter (vs := [v]) Try.func79 rfl rfl rfl ?_
  have hl := hv.len
  refine c_seq (c_region (o_assign rfl rfl (o_nil (n_then (c_seq (c_region (o_move rfl rfl (o_len rfl rfl (r_lenW Try.underlying33 hv) (o_assign rfl rfl (o_nil (n_then ?_)))))))))))
  refine c_seq (c_block ?_)
  refine c_loop (α := Nat) (fun n => [(0, v), (3, I (n : Int))]) (fun n w' => w = w' ∧ n ≤ l.length ∧ val (l.take n) = val l) (fun n => n) (l.length) ⟨rfl, rfl, trivial⟩ ⟨rfl, Nat.le_refl _, by rw [List.take_length]⟩ ?_
  rintro n _ ⟨rfl, hn, hval⟩
  refine c_seq (c_seq (c_region (o_move rfl rfl (o_bin rfl rfl rfl (r_gtr_i) (o_move rfl rfl ?_)))))
  refine o_dec (fun h8 => ?_) (fun h8 => ?_)
  · refine g_yes rfl (o_move rfl rfl (g_yes rfl (o_move rfl rfl (g_yes rfl (o_bin (r := I ((n - 1 : Nat) : Int)) rfl rfl rfl (by have e : ((n - 1 : Nat) : Int) = (n : Int) - 1 := (by omega); rw [e]; exact r_sub_i (by omega) (by omega)) ?_)))))
    refine g_yes rfl ?_
    obtain ⟨a12, p12, q12⟩ := r_ixW Try.underlying33 hv (i := (n - 1 : Nat)) (by omega) .i64
    refine o_indexAddr rfl rfl rfl (p12 _) (g_yes rfl (o_load rfl rfl (r_load1 Try.underlying79 rfl q12) (g_yes rfl (o_bin (v := U32 0) rfl rfl rfl (r_eql_u32) (o_pick_t rfl rfl rfl ?_)))))
    refine o_nil (n_then ?_)
    refine c_if rfl (fun h15 => ?_) (fun h15 => ?_)
    · refine c_skip (n_then (c_block (c_region (o_move rfl rfl (o_bin (r := I ((n - 1 : Nat) : Int)) rfl rfl rfl (by have e : ((n - 1 : Nat) : Int) = (n : Int) - 1 := (by omega); rw [e]; exact r_sub_i (by omega) (by omega)) ?_)))))
      refine o_assign rfl rfl (o_nil (n_block ?_))
      refine n_round (n - 1) ⟨rfl, rfl, trivial⟩ ⟨rfl, by omega, by rw [trim_step (by omega) hn h15]; exact hval⟩ (by omega)
    · refine c_exit (x_then (x_then (x_here (n_then (c_seq (c_seq (c_region (o_move rfl rfl (o_bin rfl rfl rfl (r_eql_i) (o_nil (n_then ?_)))))))))))
      refine c_if rfl (fun h19 => ?_) (fun h19 => ?_)
      · refine c_seq (c_region (o_assign rfl rfl (o_nil (n_then (c_ret (r_then (r_body1 rfl rfl ?_)))))))
        exact ⟨_, rfl, rfl, by
          obtain rfl : n = 0 := by omega
          rw [← hval]; exact Wds.nil _, .inl rfl⟩
      · refine c_skip (n_then (c_seq (c_region (o_move rfl rfl (o_move rfl rfl ?_)))))
        obtain ⟨v22, p22, b22, ob22⟩ := r_slW_hi2 Try.underlying33 hv (hi := n) hn .i64
        refine o_slice rfl rfl rfl rfl rfl (p22 _) (o_assign rfl rfl (o_nil (n_then (c_ret (r_body1 rfl rfl ?_)))))
        exact ⟨_, rfl, rfl, by
          first
          | (exfalso; omega)
          | (rw [← hval, trim_done (by omega) hn h15]; exact b22), .inr ob22⟩
  · refine g_no rfl rfl rfl (g_no rfl rfl rfl (g_no rfl rfl rfl (g_no rfl rfl rfl (g_no rfl rfl rfl (g_no rfl rfl rfl (o_pick_f rfl rfl rfl (o_nil (n_then (c_no rfl (c_exit (x_then (x_then ?_))))))))))))
    refine x_here (n_then (c_seq (c_seq (c_region (o_move rfl rfl (o_bin rfl rfl rfl (r_eql_i) (o_nil (n_then ?_))))))))
    refine c_if rfl (fun h19 => ?_) (fun h19 => ?_)
    · refine c_seq (c_region (o_assign rfl rfl (o_nil (n_then (c_ret (r_then (r_body1 rfl rfl ?_)))))))
      exact ⟨_, rfl, rfl, by
        obtain rfl : n = 0 := by omega
        rw [← hval]; exact Wds.nil _, .inl rfl⟩
    · refine c_skip (n_then (c_seq (c_region (o_move rfl rfl (o_move rfl rfl ?_)))))
      obtain ⟨v22, p22, b22, ob22⟩ := r_slW_hi2 Try.underlying33 hv (hi := n) hn .i64
      refine o_slice rfl rfl rfl rfl rfl (p22 _) (o_assign rfl rfl (o_nil (n_then (c_ret (r_body1 rfl rfl ?_)))))
      exact ⟨_, rfl, rfl, by
        first
        | (exfalso; omega)
        | (rw [← hval, trim_done (by omega) hn h15]; exact b22), .inr ob22⟩
theorem trim_spec {w : World} {l : List UInt32} {v : Value} (hv : Wds l v w) :
    Calls Try.prog 79 #[v] w (Ret fun r w' => w = w' ∧ Wds (lb (val l)) r w) :=
  (trim_spec2 hv).mono fun _ _ ⟨r, he, h1, h2, _⟩ => ⟨r, he, h1, h2⟩
theorem CloneN_spec {w : World} {l : List UInt32} {v : Value} (hv : Wds l v w) (hl : l.length ≤ 17592186044416) :
    Calls Try.prog 94 #[v] w (Ret fun r w' => Ext w w' ∧ OwnW w.heap.size l r w') := by
  obtain ⟨A, n, c, rfl, hnc, hcm, hll, hc, hnone⟩ := id hv
  refine enter (vs := [.slice A n c]) Try.func94 rfl rfl rfl ?_
  refine c_seq (c_region (o_assign rfl rfl (o_nil (n_then (c_seq (c_seq (c_region (o_move rfl rfl (o_bin rfl rfl rfl (r_eqnil Try.underlying33) (o_nil (n_then ?_)))))))))))
  refine c_cond rfl (fun h4 => ?_) (fun h4 => ?_)
  · refine c_seq (c_region (o_assign rfl rfl (o_nil (n_then (c_ret (r_then (r_body1 rfl rfl ?_)))))))
    have hA : A = none := by simpa using h4
    have := hnone hA
    have hnil : l = [] := List.eq_nil_of_length_eq_zero (by simp at hll; omega)
    subst hnil
    exact ⟨_, rfl, Ext.refl _, OwnW.nil _ _⟩
  · refine c_skip (n_then (c_seq (c_region ?_)))
    obtain ⟨v5, w5, hr5, x5, o5, ob5⟩ := r_bsW Try.underlying33 (w := w) w.heap.size [] (by simp) (Nat.le_refl _)
    refine o_buildSlice (vs := []) rfl rfl hr5 (o_move rfl rfl ?_)
    obtain ⟨v7, w7, hr7, o7, g7⟩ := r_appW Try.underlying33 (ty := 33) o5 (hv.ext x5) (by simp; omega) (x5).size
    have x7 := Ext.of_grew (x5) g7 o5.ge
    refine o_append rfl rfl hr7 (o_assign rfl rfl (o_nil (n_then (c_ret (r_body1 rfl rfl ?_)))))
    exact ⟨_, rfl, x7, by simpa using o7⟩
theorem NMake_spec {w : World} {l : List UInt32} {v : Value} (hv : Wds l v w) (hl : l.length ≤ 17592186044416) :
    Calls Try.prog 87 #[v] w (Ret fun r w' => Ext w w' ∧ Wds (lb (val l)) r w') := by
  refine enter (vs := [v]) Try.func87 rfl rfl rfl ?_
  have hll := lb_lt (val_lt l)
  refine c_seq (c_region (o_assign rfl rfl (o_nil (n_then (c_seq (c_region (o_move rfl rfl (o_call call_trim rfl rfl (trim_spec hv) ?_))))))))
  rintro v4 _ ⟨rfl, b4⟩
  refine o_call call_CloneN rfl rfl (CloneN_spec b4 (by omega)) ?_
  rintro v5 w5 ⟨x5, o5⟩
  refine o_assign rfl rfl (o_nil (n_then (c_ret (r_body1 rfl rfl ?_))))
  exact ⟨_, rfl, x5, o5.wds⟩
theorem NValid_spec {w : World} {l : List UInt32} {v : Value} (hv : Wds l v w) :
    Calls Try.prog 69 #[v] w (Ret fun r w' => w = w' ∧ r = B (decide (lb (val l) = l))) := by
  refine enter (vs := [v]) Try.func69 rfl rfl rfl ?_
  have hl := hv.len
  refine c_seq (c_region (o_assign rfl rfl (o_nil (n_then (c_seq (c_region (o_move rfl rfl (o_len rfl rfl (r_lenW Try.underlying33 hv) (o_bin rfl rfl rfl (r_eql_i) ?_)))))))))
  refine o_move rfl rfl ?_
  refine o_dec (fun h6 => ?_) (fun h6 => ?_)
  · refine g_no rfl rfl rfl (g_no rfl rfl rfl (g_no rfl rfl rfl (g_no rfl rfl rfl (g_no rfl rfl rfl (g_no rfl rfl rfl (g_no rfl rfl rfl (o_pick_t rfl rfl rfl (o_assign rfl rfl (o_nil ?_)))))))))
    refine n_then (c_ret (r_body1 rfl rfl ?_))
    exact ⟨_, rfl, rfl, by
      first
      | (have h0 : l = [] := List.eq_nil_of_length_eq_zero (by omega)
         subst h0; rfl)
      | exact congrArg B (decide_eq_decide.2 (can_iff (by omega)))⟩
  · refine g_yes rfl (o_move rfl rfl (g_yes rfl (o_move rfl rfl (g_yes rfl (o_len rfl rfl (r_lenW Try.underlying33 hv) (g_yes rfl (o_bin (r := I ((l.length - 1 : Nat) : Int)) rfl rfl rfl (by have e : ((l.length - 1 : Nat) : Int) = (l.length : Int) - 1 := (by omega); rw [e]; exact r_sub_i (by omega) (by omega)) ?_)))))))
    refine g_yes rfl ?_
    obtain ⟨a11, p11, q11⟩ := r_ixW Try.underlying33 hv (i := (l.length - 1 : Nat)) (by omega) .i64
    refine o_indexAddr rfl rfl rfl (p11 _) (g_yes rfl (o_load rfl rfl (r_load1 Try.underlying79 rfl q11) (g_yes rfl (o_bin (v := U32 0) rfl rfl rfl (r_neq_u32) (o_pick_f rfl rfl rfl ?_)))))
    refine o_assign rfl rfl (o_nil (n_then (c_ret (r_body1 rfl rfl ?_))))
    exact ⟨_, rfl, rfl, by
      first
      | (have h0 : l = [] := List.eq_nil_of_length_eq_zero (by omega)
         subst h0; rfl)
      | exact congrArg B (decide_eq_decide.2 (can_iff (by omega)))⟩
theorem NOf_spec {w : World} {x : UInt64} :
    Calls Try.prog 96 #[U64 x] w (Ret fun r w' => Ext w w' ∧ Wds (lb x.toNat) r w') := by
  refine enter (vs := [U64 x]) Try.func96 rfl rfl rfl ?_
  refine c_seq (c_region (o_assign rfl rfl (o_nil (n_then (c_seq (c_region (o_move rfl rfl (o_conv rfl rfl (r_u64_u32 Try.underlying31 Try.underlying79) (o_move rfl rfl ?_)))))))))
  refine o_bin rfl rfl rfl (r_shr_u64 32 (by omega)) (o_conv rfl rfl (r_u64_u32 Try.underlying31 Try.underlying79) ?_)
  obtain ⟨v8, w8, hr8, x8, o8, ob8⟩ := r_bsW Try.underlying33 (w := w) w.heap.size [x.toUInt32, (x >>> UInt64.ofNat 32).toUInt32] (by simp) (Nat.le_refl _)
  refine o_buildSlice (vs := [(0, U32 (x.toUInt32)), (1, U32 ((x >>> UInt64.ofNat 32).toUInt32))]) rfl rfl hr8 (o_call call_trim rfl rfl (trim_spec o8.wds) ?_)
  rintro v9 _ ⟨rfl, b9⟩
  refine o_assign rfl rfl (o_nil (n_then (c_ret (r_body1 rfl rfl ?_))))
  exact ⟨_, rfl, x8, by
    have e : val [x.toUInt32, (x >>> UInt64.ofNat 32).toUInt32] = x.toNat := by
      have h1 : (x.toUInt32).toNat = x.toNat % 4294967296 := UInt64.toNat_toUInt32 x
      have h2 : ((x >>> UInt64.ofNat 32).toUInt32).toNat = x.toNat / 4294967296 := by
        have := x.toNat_lt
        rw [UInt64.toNat_toUInt32, u64_shr32]
        omega
      simp only [val, h1, h2]; omega
    rw [e] at b9; exact b9⟩
end Go.Rl
/- Plain maths: words of 32 and 64 bits as numbers; steps of the algorithms on limbs. Conditions: each names its own. -/
namespace Go.Rl

theorem u64_lt (x : UInt64) : x.toNat < 18446744073709551616 := x.toNat_lt
theorem n_shl (x : UInt64) {s : Nat} (hs : s < 64) : (x <<< UInt64.ofNat s).toNat = x.toNat * 2 ^ s % 18446744073709551616 := by
  rw [UInt64.toNat_shiftLeft, UInt64.toNat_ofNat', Nat.mod_eq_of_lt (Nat.lt_trans hs (by decide)), Nat.mod_eq_of_lt hs, Nat.shiftLeft_eq]
theorem n_shr (x : UInt64) {s : Nat} (hs : s < 64) : (x >>> UInt64.ofNat s).toNat = x.toNat / 2 ^ s := by
  rw [UInt64.toNat_shiftRight, UInt64.toNat_ofNat', Nat.mod_eq_of_lt (Nat.lt_trans hs (by decide)), Nat.mod_eq_of_lt hs, Nat.shiftRight_eq_div_pow]
theorem n_shl32 (x : UInt32) {s : Nat} (hs : s < 32) : (x <<< UInt32.ofNat s).toNat = x.toNat * 2 ^ s % 4294967296 := by
  rw [UInt32.toNat_shiftLeft, UInt32.toNat_ofNat', Nat.mod_eq_of_lt (Nat.lt_trans hs (by decide)), Nat.mod_eq_of_lt hs, Nat.shiftLeft_eq]
theorem n_shr32 (x : UInt32) {s : Nat} (hs : s < 32) : (x >>> UInt32.ofNat s).toNat = x.toNat / 2 ^ s := by
  rw [UInt32.toNat_shiftRight, UInt32.toNat_ofNat', Nat.mod_eq_of_lt (Nat.lt_trans hs (by decide)), Nat.mod_eq_of_lt hs, Nat.shiftRight_eq_div_pow]
theorem n_64 (x : UInt32) : x.toUInt64.toNat = x.toNat := UInt32.toNat_toUInt64 x
theorem n_32 (x : UInt64) : x.toUInt32.toNat = x.toNat % 4294967296 := UInt64.toNat_toUInt32 x
theorem n_add (x y : UInt64) : (x + y).toNat = (x.toNat + y.toNat) % 18446744073709551616 := UInt64.toNat_add x y
theorem n_mul (x y : UInt64) : (x * y).toNat = x.toNat * y.toNat % 18446744073709551616 := UInt64.toNat_mul x y
theorem n_sub (x y : UInt64) : (x - y).toNat = (18446744073709551616 - y.toNat + x.toNat) % 18446744073709551616 := UInt64.toNat_sub x y
theorem nor (a b i : Nat) (h : a < 2 ^ i) : a ||| 2 ^ i * b = a + 2 ^ i * b := by
  rw [Nat.or_comm, ← Nat.two_pow_add_eq_or_of_lt h, Nat.add_comm]
theorem n_or (x y : UInt64) : (x ||| y).toNat = x.toNat ||| y.toNat := UInt64.toNat_or x y
theorem n_or32 (x y : UInt32) : (x ||| y).toNat = x.toNat ||| y.toNat := UInt32.toNat_or x y
/-- Two limbs as one number. -/
theorem n_two (r : UInt64) (d : UInt32) (hr : r.toNat < 4294967296) : (r <<< UInt64.ofNat 32 ||| d.toUInt64).toNat = r.toNat * 4294967296 + d.toNat := by
  have hd := u32_lt d
  rw [n_or, n_shl r (by omega), n_64, Nat.mod_eq_of_lt (by omega), Nat.or_comm]
  have := nor d.toNat r.toNat 32 hd
  simp only [Nat.reducePow] at this ⊢
  rw [Nat.mul_comm r.toNat, this]; omega

theorem val_set_take {l : List UInt32} {i : Nat} (h : i < l.length) (x : UInt32) : val ((l.set i x).take (i + 1)) = val (l.take i) + 4294967296 ^ i * x.toNat := by
  rw [val_take_succ (by simpa using h), List.take_set_of_le (Nat.le_refl _)]
  simp
theorem val_set_drop {l : List UInt32} {i : Nat} (h : i < l.length) (x : UInt32) : val ((l.set i x).drop i) = x.toNat + 4294967296 * val (l.drop (i + 1)) := by
  rw [val_drop (by simpa using h), List.drop_set_of_lt (by omega)]
  simp

/-- One step of 'left'. -/
theorem left_step {l L : List UInt32} {i k : Nat} {d : UInt32} (hk : k < 32) (hi : i < l.length) (hd : d = l[i]) (hL : L.length = l.length + 1) (hv : val (L.take (i + 1)) = val (l.take i) * 2 ^ k) (hc : (L[i]'(by omega)).toNat < 2 ^ k) :
    val (((L.set i (L[i]'(by omega) ||| (d.toUInt64 <<< UInt64.ofNat k).toUInt32)).set (i + 1) ((d.toUInt64 <<< UInt64.ofNat k) >>> UInt64.ofNat 32).toUInt32).take (i + 1 + 1)) = val (l.take (i + 1)) * 2 ^ k ∧
      ((d.toUInt64 <<< UInt64.ofNat k) >>> UInt64.ofNat 32).toUInt32.toNat < 2 ^ k := by
  have hdl := u32_lt d
  have hp : 2 ^ k * 2 ^ (32 - k) = 4294967296 := by rw [← Nat.pow_add, show k + (32 - k) = 32 by omega]
  have hpos : 0 < 2 ^ k := Nat.pow_pos (by omega)
  have hx : (d.toUInt64 <<< UInt64.ofNat k).toNat = d.toNat * 2 ^ k := by
    rw [n_shl _ (by omega), n_64, Nat.mod_eq_of_lt]
    have h1 : d.toNat * 2 ^ k ≤ 4294967296 * 2 ^ k := Nat.mul_le_mul_right _ (by omega)
    have h2 : 2 ^ k ≤ 2 ^ 31 := Nat.pow_le_pow_right (by omega) (by omega)
    omega
  have hlo : (d.toUInt64 <<< UInt64.ofNat k).toUInt32.toNat = 2 ^ k * (d.toNat % 2 ^ (32 - k)) := by
    rw [n_32, hx, ← hp, Nat.mul_comm d.toNat, Nat.mul_mod_mul_left]
  have hhi : ((d.toUInt64 <<< UInt64.ofNat k) >>> UInt64.ofNat 32).toUInt32.toNat = d.toNat * 2 ^ k / 4294967296 := by
    rw [n_32, n_shr _ (by omega), hx, Nat.mod_eq_of_lt]
    have h1 : d.toNat * 2 ^ k < 4294967296 * 2 ^ k := Nat.mul_lt_mul_of_pos_right hdl hpos
    have h2 : 2 ^ k ≤ 2 ^ 31 := Nat.pow_le_pow_right (by omega) (by omega)
    simp only [Nat.reducePow] at h2 ⊢
    omega
  have hor : (L[i]'(by omega) ||| (d.toUInt64 <<< UInt64.ofNat k).toUInt32).toNat = (L[i]'(by omega)).toNat + 2 ^ k * (d.toNat % 2 ^ (32 - k)) := by
    rw [n_or32, hlo, nor _ _ _ hc]
  have hdm : 2 ^ k * (d.toNat % 2 ^ (32 - k)) + 4294967296 * (d.toNat * 2 ^ k / 4294967296) = d.toNat * 2 ^ k := by
    have h1 := Nat.mod_add_div (d.toNat * 2 ^ k) 4294967296
    rw [n_32, hx] at hlo
    omega
  refine ⟨?_, ?_⟩
  · generalize d.toNat * 2 ^ k / 4294967296 = q at hhi hdm
    rw [val_set_take (by simp; omega), hhi, val_set_take (by omega), hor, val_take_succ hi, ← hd]
    rw [val_take_succ (by omega)] at hv
    rw [Nat.add_mul, ← hv, Nat.mul_assoc, ← hdm, Nat.pow_succ]
    rw [Nat.mul_add (4294967296 ^ i), Nat.mul_add (4294967296 ^ i), Nat.mul_assoc (4294967296 ^ i), Nat.add_assoc, Nat.add_assoc, Nat.add_assoc]
  · rw [hhi, Nat.div_lt_iff_lt_mul (by omega), Nat.mul_comm]
    exact Nat.mul_lt_mul_of_pos_left hdl hpos
/-- One step of division by a limb. -/
theorem short_step {l L : List UInt32} {j : Nat} {d : UInt32} {r : UInt64} (hd : 0 < d.toNat) (hj : j < l.length) (hL : L.length = l.length) (hv : val (L.drop (j + 1)) * d.toNat + r.toNat = val (l.drop (j + 1))) (hr : r.toNat < d.toNat) :
    val ((L.set j ((r <<< UInt64.ofNat 32 ||| l[j].toUInt64) / d.toUInt64).toUInt32).drop j) * d.toNat + ((r <<< UInt64.ofNat 32 ||| l[j].toUInt64) % d.toUInt64).toNat = val (l.drop j) ∧
      ((r <<< UInt64.ofNat 32 ||| l[j].toUInt64) % d.toUInt64).toNat < d.toNat := by
  have hdl := u32_lt d
  have hx := n_two r l[j] (by omega)
  have hq : ((r <<< UInt64.ofNat 32 ||| l[j].toUInt64) / d.toUInt64).toNat = (r.toNat * 4294967296 + l[j].toNat) / d.toNat := by rw [UInt64.toNat_div, hx, n_64]
  have hm : ((r <<< UInt64.ofNat 32 ||| l[j].toUInt64) % d.toUInt64).toNat = (r.toNat * 4294967296 + l[j].toNat) % d.toNat := by rw [UInt64.toNat_mod, hx, n_64]
  have hlt : (r.toNat * 4294967296 + l[j].toNat) / d.toNat < 4294967296 := by
    rw [Nat.div_lt_iff_lt_mul hd]
    have := u32_lt l[j]
    have h2 : (r.toNat + 1) * 4294967296 ≤ d.toNat * 4294967296 := Nat.mul_le_mul_right _ hr
    omega
  refine ⟨?_, by rw [hm]; exact Nat.mod_lt _ hd⟩
  rw [val_set_drop (by omega), n_32, hq, hm, Nat.mod_eq_of_lt hlt, val_drop hj, ← hv]
  have := Nat.div_add_mod (r.toNat * 4294967296 + l[j].toNat) d.toNat
  rw [Nat.add_mul, Nat.mul_assoc, Nat.mul_comm ((r.toNat * 4294967296 + l[j].toNat) / d.toNat)]
  omega
/-- One step of the shift to the right. -/
theorem shr_step {x : UInt64} {d R s : Nat} (hs : s < 32) (hx : x.toNat = d + 4294967296 * (R % 4294967296)) :
    ((x >>> UInt64.ofNat s).toUInt32).toNat + 4294967296 * (R / 2 ^ s) = (d + 4294967296 * R) / 2 ^ s ∨ 4294967296 ≤ d := by
  by_cases hd : 4294967296 ≤ d
  · exact .inr hd
  left
  have hp : 2 ^ s * 2 ^ (32 - s) = 4294967296 := by rw [← Nat.pow_add, show s + (32 - s) = 32 by omega]
  have hpos : 0 < 2 ^ s := Nat.pow_pos (by omega)
  have e1 : d + 4294967296 * R = x.toNat + 2 ^ s * (2 ^ (32 - s) * (4294967296 * (R / 4294967296))) := by
    rw [← Nat.mul_assoc, hp, hx]; omega
  have e2 : (d + 4294967296 * R) / 2 ^ s = x.toNat / 2 ^ s + 4294967296 * (2 ^ (32 - s) * (R / 4294967296)) := by
    rw [e1, Nat.add_mul_div_left _ _ hpos, Nat.mul_left_comm]
  have e3 : (d + 4294967296 * R) / 2 ^ s / 4294967296 = R / 2 ^ s := by
    rw [Nat.div_div_eq_div_mul, Nat.mul_comm (2 ^ s), ← Nat.div_div_eq_div_mul]
    congr 1
    omega
  have e4 := Nat.mod_add_div ((d + 4294967296 * R) / 2 ^ s) 4294967296
  rw [e3] at e4
  rw [n_32, n_shr _ (by omega)]
  rw [← e4]
  congr 1
  rw [e2, Nat.add_mul_mod_self_left]
theorem limb2 {x : UInt64} {a : Nat} {e : UInt32} (hx : x.toNat = a) (ha : a < 4294967296) : (x ||| e.toUInt64 <<< UInt64.ofNat 32).toNat = a + 4294967296 * e.toNat := by
  have he := u32_lt e
  rw [n_or, n_shl _ (by omega), n_64, Nat.mod_eq_of_lt (by omega), hx]
  have := nor a e.toNat 32 ha
  simp only [Nat.reducePow] at this ⊢
  rw [Nat.mul_comm e.toNat, this]
/-- The number of bits. -/
def bl (n : Nat) : Nat := if n = 0 then 0 else Nat.log2 n + 1
theorem bl_zero : bl 0 = 0 := rfl
theorem bl_spec {n : Nat} (h : 0 < n) : 2 ^ (bl n - 1) ≤ n ∧ n < 2 ^ bl n := by
  unfold bl
  rw [if_neg (by omega), Nat.add_sub_cancel]
  exact ⟨Nat.log2_self_le (by omega), Nat.lt_log2_self⟩
theorem bl_pos {n : Nat} (h : 0 < n) : 0 < bl n := by unfold bl; rw [if_neg (by omega)]; omega
theorem bl_unique {n k : Nat} (h1 : 2 ^ k ≤ n) (h2 : n < 2 ^ (k + 1)) : bl n = k + 1 := by
  have hn : 0 < n := Nat.lt_of_lt_of_le (Nat.pow_pos (by omega)) h1
  obtain ⟨h3, h4⟩ := bl_spec hn
  have hp := bl_pos hn
  have a : k < bl n := (Nat.pow_lt_pow_iff_right (a := 2) (by omega)).1 (Nat.lt_of_le_of_lt h1 h4)
  have b : bl n - 1 < k + 1 := (Nat.pow_lt_pow_iff_right (a := 2) (by omega)).1 (Nat.lt_of_le_of_lt h3 h2)
  omega
theorem bl_shift {n s : Nat} (h : 2 ^ s ≤ n) : bl n = s + bl (n / 2 ^ s) := by
  have hps : 0 < 2 ^ s := Nat.pow_pos (by omega)
  have hq : 0 < n / 2 ^ s := Nat.div_pos h hps
  obtain ⟨h1, h2⟩ := bl_spec hq
  have hp := bl_pos hq
  obtain ⟨k, hk⟩ : ∃ k, bl (n / 2 ^ s) = k + 1 := ⟨_, (Nat.sub_add_cancel hp).symm⟩
  rw [hk, Nat.add_sub_cancel] at h1
  rw [hk] at h2 ⊢
  refine (bl_unique (k := s + k) ?_ ?_)
  · rw [Nat.pow_add, Nat.mul_comm]
    exact Nat.le_trans (Nat.mul_le_mul_right _ h1) (Nat.div_mul_le_self _ _)
  · rw [show s + k + 1 = s + (k + 1) by omega, Nat.pow_add, Nat.mul_comm]
    exact (Nat.div_lt_iff_lt_mul hps).1 h2
theorem bl_le {n k : Nat} (h : n < 2 ^ k) : bl n ≤ k := by
  rcases Nat.eq_zero_or_pos n with rfl | h0
  · simp [bl_zero]
  · have h1 := (bl_spec h0).1
    have h2 := bl_pos h0
    have := (Nat.pow_lt_pow_iff_right (a := 2) (by omega)).1 (Nat.lt_of_le_of_lt h1 h)
    omega
/-- The number of bits, out of the limbs. -/
theorem bl_lb {n i : Nat} (h : i + 1 = (lb n).length) : bl n = 32 * i + bl ((lb n)[i]'(by omega)).toNat := by
  have hl := lb_last h
  have h2 : n = val ((lb n).take i) + 4294967296 ^ i * ((lb n)[i]'(by omega)).toNat := by
    rw [← val_take_succ (by omega), h, List.take_length, val_lb]
  have h3 := val_lt ((lb n).take i)
  rw [List.length_take, Nat.min_eq_left (by omega)] at h3
  have hp : (4294967296 : Nat) ^ i = 2 ^ (32 * i) := by rw [Nat.pow_mul]
  rw [hp] at h2 h3
  have hge : 2 ^ (32 * i) ≤ n := by
    rw [h2]
    have : 2 ^ (32 * i) * 1 ≤ 2 ^ (32 * i) * ((lb n)[i]'(by omega)).toNat := Nat.mul_le_mul_left _ hl
    omega
  rw [bl_shift hge]
  congr 2
  have : n / 2 ^ (32 * i) = (val ((lb n).take i) + 2 ^ (32 * i) * ((lb n)[i]'(by omega)).toNat) / 2 ^ (32 * i) := by rw [← h2]
  rw [this, Nat.add_mul_div_left _ _ (Nat.pow_pos (by omega)), Nat.div_eq_of_lt h3, Nat.zero_add]
end Go.Rl
/- Walks of package natural: Uint, Cmp, left, short, Shr, Bits. Conditions: the numbers are shorter than 2^40 limbs. -/
namespace Go.Rl
open Go.RowKit Go.Proofs
theorem call_NLeft : Callable Try.prog 99 := ⟨_, Try.func99, by kernel_rfl, rfl⟩
theorem call_NShort : Callable Try.prog 97 := ⟨_, Try.func97, by kernel_rfl, rfl⟩
theorem call_NShr : Callable Try.prog 102 := ⟨_, Try.func102, by kernel_rfl, rfl⟩
theorem call_NBits : Callable Try.prog 91 := ⟨_, Try.func91, by kernel_rfl, rfl⟩
theorem call_Len32 : Callable Try.prog 103 := ⟨_, Try.func103, by kernel_rfl, rfl⟩
theorem call_LZ32 : Callable Try.prog 98 := ⟨_, Try.func98, by kernel_rfl, rfl⟩

theorem uint_step {t : List UInt32} {i : Nat} {x : UInt64} (h2 : t.length ≤ 2) (hi : i < t.length) (hx : x.toNat = val (t.take i)) : (x ||| t[i].toUInt64 <<< UInt64.ofNat (32 * i)).toNat = val (t.take (i + 1)) := by
  have hl := val_lt (t.take i)
  rw [List.length_take, Nat.min_eq_left (by omega)] at hl
  have hd := u32_lt t[i]
  rw [val_take_succ hi, ← hx, n_or, n_shl _ (by omega), n_64]
  have hp : (4294967296 : Nat) ^ i = 2 ^ (32 * i) := by rw [Nat.pow_mul]
  rw [hp, ← hx] at hl
  have hb : 2 ^ (32 * i) ≤ 2 ^ 32 := Nat.pow_le_pow_right (by omega) (by omega)
  rw [Nat.mod_eq_of_lt, Nat.mul_comm, nor _ _ _ hl, hp]
  have : t[i].toNat * 2 ^ (32 * i) ≤ 4294967295 * 2 ^ 32 := Nat.mul_le_mul (by omega) hb
  omega
theorem cmpN_lt {x y : Nat} (h : x < y) : cmpN x y = -1 := by unfold cmpN; rw [if_pos h]
theorem cmpN_gt {x y : Nat} (h : y < x) : cmpN x y = 1 := by unfold cmpN; rw [if_neg (by omega), if_pos h]
theorem cmpN_eq {x : Nat} : cmpN x x = 0 := by unfold cmpN; rw [if_neg (by omega), if_neg (by omega)]
theorem lt32 {a b : UInt32} : a < b ↔ a.toNat < b.toNat := UInt32.lt_iff_toNat_lt
theorem lb_cmp_lt {x y j : Nat} (h1 : j < (lb x).length) (h2 : j < (lb y).length) (hd : (lb x).drop (j + 1) = (lb y).drop (j + 1)) (h : (lb x)[j] < (lb y)[j]) : x < y := by
  have := val_cmp h1 h2 hd (lt32.1 h)
  rwa [val_lb, val_lb] at this
theorem NUint_spec {w : World} {l : List UInt32} {v : Value} (hv : Wds l v w) :
    Calls Try.prog 95 #[v] w (Ret fun r w' => w = w' ∧ ((18446744073709551616 ≤ val l ∧ r = .tuple #[U64 0, B false]) ∨ ∃ x : UInt64, x.toNat = val l ∧ r = .tuple #[U64 x, B true])) := by
  refine enter (vs := [v]) Try.func95 rfl rfl rfl ?_
  refine c_seq (c_region (o_assign rfl rfl (o_assign rfl rfl (o_nil (n_then (c_seq (c_region (o_move rfl rfl (o_call call_trim rfl rfl (trim_spec hv) ?_)))))))))
  rintro v8 _ ⟨rfl, b8⟩
  refine o_assign rfl rfl (o_nil (n_then (c_seq (c_seq (c_region (o_move rfl rfl (o_len rfl rfl (r_lenW Try.underlying33 b8) (o_bin rfl rfl rfl (r_gtr_i) (o_nil ?_)))))))))
  refine n_then ?_
  refine c_if rfl (fun h11 => ?_) (fun h11 => ?_)
  · refine c_seq (c_region (o_assign rfl rfl (o_assign rfl rfl (o_nil (n_then (c_ret (r_then (r_body2 rfl rfl rfl ?_))))))))
    exact ⟨_, rfl, rfl, .inl ⟨by
      rcases Nat.lt_or_ge (val l) 18446744073709551616 with h | h
      · have := lb_lt (n := val l) (k := 2) h
        omega
      · exact h, rfl⟩⟩
  · obtain ⟨t, ht⟩ : ∃ t, t = lb (val l) := ⟨_, rfl⟩
    have hval : val t = val l := by rw [ht, val_lb]
    rw [← ht] at b8 h11 ⊢
    have h2 : t.length ≤ 2 := by omega
    refine c_skip (n_then (c_seq (c_region (o_assign rfl rfl (o_nil (n_then (c_seq (c_seq (c_region (o_move rfl rfl (o_len (r := I (t.length : Int)) rfl rfl (r_lenW Try.underlying33 b8) ?_)))))))))))
    refine o_move rfl rfl (o_nil (n_then (c_block ?_)))
    refine c_loop2 (fun (i : Nat) (x : UInt64) => [(4, U64 x), (12, v8), (13, I (t.length : Int)), (14, I (i : Int))]) (fun (i : Nat) (x : UInt64) w' => w = w' ∧ i ≤ t.length ∧ x.toNat = val (t.take i)) (fun (i : Nat) (x : UInt64) => t.length - i) (0) (0) ⟨rfl, rfl, rfl, rfl, trivial⟩ ⟨rfl, by simp, rfl⟩ ?_
    rintro i x _ ⟨rfl, hi, hx⟩
    refine c_seq (c_region (o_bin rfl rfl rfl (r_lss_i) (o_nil (n_then (c_seq ?_)))))
    refine c_if rfl (fun h15 => ?_) (fun h15 => ?_)
    · refine c_skip (n_then (c_seq (c_block (c_seq (c_region (o_move rfl rfl ?_))))))
      obtain ⟨a17, p17, q17⟩ := r_ixW Try.underlying33 b8 (i := i) (by omega) .i64
      refine o_indexAddr rfl rfl rfl (p17 _) (o_load rfl rfl (r_load1 Try.underlying79 rfl q17) (o_assign rfl rfl (o_assign rfl rfl (o_nil (n_then (c_region (o_move rfl rfl ?_)))))))
      refine o_move rfl rfl (o_conv rfl rfl (r_u32_u64 Try.underlying79 Try.underlying31) (o_move rfl rfl (o_bin (r := I ((32 * i : Nat) : Int)) rfl rfl rfl (by have e : ((32 * i : Nat) : Int) = 32 * (i : Int) := (by omega); rw [e]; exact r_mul_i (by omega) (by omega)) ?_)))
      refine o_bin rfl rfl rfl (r_shl_u64 ((32 * i : Nat)) (by omega)) (o_bin rfl rfl rfl (r_or_u64) (o_assign rfl rfl (o_nil (n_block (n_then (c_region (o_bin (r := I ((i + 1 : Nat) : Int)) rfl rfl rfl (by have e : ((i + 1 : Nat) : Int) = (i : Int) + 1 := (by omega); rw [e]; exact r_add_i (by omega) (by omega)) ?_)))))))
      refine o_move rfl rfl (o_nil ?_)
      refine n_round2 (i + 1) (x ||| t[i].toUInt64 <<< UInt64.ofNat (32 * i)) ⟨rfl, rfl, rfl, rfl, trivial⟩ ⟨rfl, by show i + 1 ≤ _; omega, uint_step h2 (by omega) hx⟩ (by show t.length - (i + 1) < t.length - i; omega)
    · refine c_exit (x_then (x_then (x_here (n_then (c_seq (c_region (o_move rfl rfl (o_assign rfl rfl (o_assign rfl rfl (o_nil (n_then (c_ret (r_body2 rfl rfl rfl ?_)))))))))))))
      exact ⟨_, rfl, rfl, .inr ⟨x, by rw [hx, List.take_of_length_le (by omega), hval], rfl⟩⟩
theorem NCmp_spec {w : World} {l m : List UInt32} {v u : Value} (hv : Wds l v w) (hu : Wds m u w) :
    Calls Try.prog 71 #[v, u] w (Ret fun r w' => Ext w w' ∧ r = I (cmpN (val l) (val m))) := by
  refine enter (vs := [v, u]) Try.func71 rfl rfl rfl ?_
  refine c_seq (c_region (o_assign rfl rfl (o_nil (n_then (c_seq (c_region (o_move rfl rfl (o_call call_trim rfl rfl (trim_spec hv) ?_))))))))
  rintro v7 _ ⟨rfl, b7⟩
  refine o_move rfl rfl (o_call call_trim rfl rfl (trim_spec hu) ?_)
  rintro v9 _ ⟨rfl, b9⟩
  have hx := b7.len
  have hy := b9.len
  refine o_assign rfl rfl (o_assign rfl rfl (o_nil (n_then (c_seq (c_seq (c_region (o_move rfl rfl (o_len rfl rfl (r_lenW Try.underlying33 b7) (o_move rfl rfl (o_len rfl rfl (r_lenW Try.underlying33 b9) ?_))))))))))
  refine o_bin rfl rfl rfl (r_neq_i) (o_nil (n_then ?_))
  refine c_if rfl (fun h14 => ?_) (fun h14 => ?_)
  · refine c_seq (c_seq (c_region (o_move rfl rfl (o_len rfl rfl (r_lenW Try.underlying33 b7) (o_move rfl rfl (o_len rfl rfl (r_lenW Try.underlying33 b9) ?_))))))
    refine o_bin rfl rfl rfl (r_lss_i) (o_nil (n_then ?_))
    refine c_if rfl (fun h19 => ?_) (fun h19 => ?_)
    · refine c_seq (c_region (o_assign rfl rfl (o_nil (n_then (c_ret (r_then (r_then (r_body1 rfl rfl ?_))))))))
      exact ⟨_, rfl, Ext.refl _, congrArg I (cmpN_lt (len_lt (by omega))).symm⟩
    · refine c_skip (n_then (c_seq (c_region (o_assign rfl rfl (o_nil (n_then (c_ret (r_then (r_body1 rfl rfl ?_)))))))))
      exact ⟨_, rfl, Ext.refl _, congrArg I (cmpN_gt (len_lt (by omega))).symm⟩
  · refine c_skip (n_then (c_seq (c_seq (c_region ?_))))
    have hlen : (lb (val l)).length = (lb (val m)).length := by omega
    refine o_move rfl rfl (o_len rfl rfl (r_lenW Try.underlying33 b7) (o_bin rfl rfl rfl (r_sub_i (by omega) (by omega)) (o_assign rfl rfl (o_nil (n_then ?_)))))
    refine c_block ?_
    refine c_loop (α := Nat) (fun k => [(0, v7), (1, v9), (5, I ((k : Int) - 1))]) (fun k w' => Ext w w' ∧ k ≤ (lb (val l)).length ∧ (lb (val l)).drop k = (lb (val m)).drop k) (fun k => k) ((lb (val l)).length) ⟨rfl, rfl, rfl, trivial⟩ ⟨Ext.refl _, Nat.le_refl _, by rw [List.drop_of_length_le (Nat.le_refl _), List.drop_of_length_le (by omega)]⟩ ?_
    rintro k w7 ⟨x7, hk, hd⟩
    refine c_seq (c_seq (c_region (o_move rfl rfl (o_bin rfl rfl rfl (r_geq_i) (o_nil (n_then ?_))))))
    refine c_if rfl (fun h24 => ?_) (fun h24 => ?_)
    · obtain ⟨j, rfl⟩ : ∃ j, k = j + 1 := ⟨k - 1, by omega⟩
      have e : ((j + 1 : Nat) : Int) - 1 = (j : Int) := by omega
      rw [e]
      refine c_skip (n_then (c_seq (c_block (c_seq (c_grow 8 [0, 1, 5, 30, 34] (by kernel_rfl) (by kernel_rfl) ?_)))))
      refine f_move rfl rfl (f_move rfl rfl ?_)
      obtain ⟨a29, p29, q29⟩ := r_ixW Try.underlying33 (b7.ext x7) (i := j) (by omega) .i64
      refine f_indexAddr rfl rfl rfl (fun w _ => p29 w) (f_load rfl rfl (fun w hw => r_load1 Try.underlying79 rfl (hw.cell_some q29)) (f_move rfl rfl (f_move rfl rfl ?_)))
      obtain ⟨a33, p33, q33⟩ := r_ixW Try.underlying33 (b9.ext x7) (i := j) (by omega) .i64
      refine f_indexAddr rfl rfl rfl (fun w _ => p33 w) (f_load rfl rfl (fun w hw => r_load1 Try.underlying79 rfl (hw.cell_some q33)) (f_nil ?_))
      intro wg9 xg9
      rintro _ hq0
      obtain rfl := Eq.symm hq0
      rintro _ hq1
      obtain rfl := Eq.symm hq1
      rintro _ rfl
      rintro _ rfl
      rintro _ rfl
      refine o_bin rfl rfl rfl (r_neq_u32) (o_nil (n_then ?_))
      refine c_if rfl (fun h35 => ?_) (fun h35 => ?_)
      · refine c_seq (c_seq (c_grow 8 [39, 43] (by kernel_rfl) (by kernel_rfl) ?_))
        refine f_move rfl rfl (f_move rfl rfl ?_)
        obtain ⟨a38, p38, q38⟩ := r_ixW Try.underlying33 (b7.ext (x7.trans xg9)) (i := j) (by omega) .i64
        refine f_indexAddr rfl rfl rfl (fun w _ => p38 w) (f_load rfl rfl (fun w hw => r_load1 Try.underlying79 rfl (hw.cell_some q38)) (f_move rfl rfl (f_move rfl rfl ?_)))
        obtain ⟨a42, p42, q42⟩ := r_ixW Try.underlying33 (b9.ext (x7.trans xg9)) (i := j) (by omega) .i64
        refine f_indexAddr rfl rfl rfl (fun w _ => p42 w) (f_load rfl rfl (fun w hw => r_load1 Try.underlying79 rfl (hw.cell_some q42)) (f_nil ?_))
        intro wg10 xg10
        rintro _ rfl
        rintro _ rfl
        refine o_bin rfl rfl rfl (r_lss_u32) (o_nil (n_then ?_))
        refine c_if rfl (fun h44 => ?_) (fun h44 => ?_)
        · refine c_seq (c_region (o_assign rfl rfl (o_nil (n_then (c_ret (r_then (r_block (r_then (r_then (r_block (r_then (r_body1 rfl rfl ?_))))))))))))
          exact ⟨_, rfl, ((x7.trans xg9).trans xg10), congrArg I (cmpN_lt (lb_cmp_lt (by omega) (by omega) hd h44)).symm⟩
        · refine c_skip (n_then (c_seq (c_region (o_assign rfl rfl (o_nil (n_then (c_ret (r_block (r_then (r_then (r_block (r_then (r_body1 rfl rfl ?_)))))))))))))
          exact ⟨_, rfl, ((x7.trans xg9).trans xg10), by
            refine congrArg I (cmpN_gt (lb_cmp_lt (by omega) (by omega) hd.symm ?_)).symm
            rw [lt32] at h44 ⊢
            have : (lb (val l))[j].toNat ≠ (lb (val m))[j].toNat := fun he => h35 (u32_ext he)
            omega⟩
      · refine c_skip (n_block (n_then (c_region (o_move rfl rfl (o_bin rfl rfl rfl (r_sub_i (by omega) (by omega)) (o_assign rfl rfl (o_nil ?_)))))))
        refine n_round j ⟨rfl, rfl, rfl, trivial⟩ ⟨(x7.trans xg9), by omega, by rw [List.drop_eq_getElem_cons (show j < (lb (val l)).length by omega), List.drop_eq_getElem_cons (show j < (lb (val m)).length by omega), hd, show (lb (val l))[j] = (lb (val m))[j] from Classical.byContradiction fun h => h35 h]⟩ (by omega)
    · refine c_exit (x_then (x_then (x_here (n_then (c_seq (c_region (o_assign rfl rfl (o_nil (n_then (c_ret (r_body1 rfl rfl ?_)))))))))))
      exact ⟨_, rfl, x7, by
        obtain rfl : k = 0 := by omega
        rw [List.drop_zero, List.drop_zero] at hd
        rw [lb_inj hd, cmpN_eq]; rfl⟩
theorem NLeft_spec {w : World} {l : List UInt32} {v : Value} {k : Nat} (hv : Wds l v w) (hl : l.length ≤ 1099511627776) (hk : k < 32) :
    Calls Try.prog 99 #[v, I (k : Int)] w (Ret fun r w' => Ext w w' ∧ ∃ L, OwnW w.heap.size L r w' ∧ L.length = l.length + 1 ∧ val L = val l * 2 ^ k) := by
  refine enter (vs := [v, I (k : Int)]) Try.func99 rfl rfl rfl ?_
  refine c_seq (c_region (o_assign rfl rfl (o_nil (n_then (c_seq (c_region (o_move rfl rfl (o_len rfl rfl (r_lenW Try.underlying33 hv) (o_bin (r := I (((l.length) + 1 : Nat) : Int)) rfl rfl rfl (by have e : (((l.length) + 1 : Nat) : Int) = (l.length : Int) + 1 := (by omega); rw [e]; exact r_add_i (by omega) (by omega)) ?_)))))))))
  obtain ⟨v12, w12, hr12, x12, o12, ob12⟩ := r_mkW Try.underlying33 (w := w) w.heap.size (n := l.length + 1) (by omega) (Nat.le_refl _)
  refine o_makeSlice rfl rfl rfl hr12 (o_assign rfl rfl (o_nil (n_then (c_seq (c_seq (c_region (o_move rfl rfl (o_len rfl rfl (r_lenW Try.underlying33 (hv.ext x12)) ?_))))))))
  refine o_move rfl rfl (o_nil (n_then (c_block ?_)))
  refine c_loop2 (fun (i : Nat) (L : List UInt32) => [(1, I (k : Int)), (5, v12), (13, v), (14, I (l.length : Int)), (15, I (i : Int))]) (fun (i : Nat) (L : List UInt32) w' => OwnW w.heap.size L v12 w' ∧ Ext w w' ∧ i ≤ l.length ∧ L.length = l.length + 1 ∧ val (L.take (i + 1)) = val (l.take i) * 2 ^ k ∧ ∀ h : i < L.length, L[i].toNat < 2 ^ k) (fun (i : Nat) (L : List UInt32) => l.length - i) (0) (List.replicate (l.length + 1) 0) ⟨rfl, rfl, rfl, rfl, rfl, trivial⟩ ⟨o12, x12, by simp, by simp, by simp [val], fun _ => by simp; exact Nat.pow_pos (by omega)⟩ ?_
  rintro i L w3 ⟨oL, e3, hi, hL, hval, hc⟩
  refine c_seq (c_region (o_bin rfl rfl rfl (r_lss_i) (o_nil (n_then (c_seq ?_)))))
  refine c_if rfl (fun h16 => ?_) (fun h16 => ?_)
  · refine c_skip (n_then (c_seq (c_block (c_seq (c_region (o_move rfl rfl ?_))))))
    obtain ⟨a18, p18, q18⟩ := r_ixW Try.underlying33 (hv.ext e3) (i := i) (by omega) .i64
    refine o_indexAddr rfl rfl rfl (p18 _) (o_load rfl rfl (r_load1 Try.underlying79 rfl q18) (o_assign rfl rfl (o_assign rfl rfl (o_nil (n_then (c_seq (c_region (o_move rfl rfl ?_))))))))
    refine o_conv rfl rfl (r_u32_u64 Try.underlying79 Try.underlying31) (o_move rfl rfl (o_bin rfl rfl rfl (r_shl_u64 (k) (by omega)) (o_assign rfl rfl ?_)))
    refine o_nil (n_then (c_seq (c_region (o_move rfl rfl (o_move rfl rfl ?_)))))
    obtain ⟨a26, p26, q26⟩ := r_ixW Try.underlying33 oL.wds (i := i) (by omega) .i64
    refine o_indexAddr rfl rfl rfl (p26 _) (o_load rfl rfl (r_load1 Try.underlying79 rfl q26) (o_move rfl rfl (o_conv rfl rfl (r_u64_u32 Try.underlying31 Try.underlying79) ?_)))
    refine o_bin rfl rfl rfl (r_or_u32) ?_
    obtain ⟨g31, w31, p31, s31, o31, q31, hb31, c31, ob31⟩ := (oL).setW Try.underlying33 (i := i) (by omega) (L[i]'(by omega) ||| (l[i].toUInt64 <<< UInt64.ofNat k).toUInt32)
    refine o_indexAddr rfl rfl rfl (p31 _) (o_store rfl rfl s31 ?_)
    have x31 := Ext.of_new (e3) q31 hb31
    refine o_nil (n_then (c_region (o_move rfl rfl (o_move rfl rfl (o_bin (r := I ((i + 1 : Nat) : Int)) rfl rfl rfl (by have e : ((i + 1 : Nat) : Int) = (i : Int) + 1 := (by omega); rw [e]; exact r_add_i (by omega) (by omega)) ?_)))))
    refine o_move rfl rfl (o_bin rfl rfl rfl (r_shr_u64 32 (by omega)) (o_conv rfl rfl (r_u64_u32 Try.underlying31 Try.underlying79) ?_))
    obtain ⟨g38, w38, p38, s38, o38, q38, hb38, c38, ob38⟩ := (o31).setW Try.underlying33 (i := (i + 1)) (by simp; omega) ((l[i].toUInt64 <<< UInt64.ofNat k >>> UInt64.ofNat 32).toUInt32)
    refine o_indexAddr rfl rfl rfl (p38 _) (o_store rfl rfl s38 ?_)
    have x38 := Ext.of_new (x31) q38 hb38
    refine o_nil (n_block (n_then (c_region (o_bin (r := I ((i + 1 : Nat) : Int)) rfl rfl rfl (by have e : ((i + 1 : Nat) : Int) = (i : Int) + 1 := (by omega); rw [e]; exact r_add_i (by omega) (by omega)) ?_))))
    refine o_move rfl rfl (o_nil ?_)
    have st := left_step hk (show i < l.length by omega) rfl hL hval (hc (by omega))
    refine n_round2 (i + 1) (_) ⟨rfl, rfl, rfl, rfl, rfl, trivial⟩ ⟨o38, x38, by show i + 1 ≤ _; omega, by simpa using hL, st.1, fun _ => by simpa using st.2⟩ (by show l.length - (i + 1) < l.length - i; omega)
  · refine c_exit (x_then (x_then (x_here (n_then (c_seq (c_region (o_move rfl rfl (o_assign rfl rfl (o_nil (n_then (c_ret (r_body1 rfl rfl ?_))))))))))))
    exact ⟨_, rfl, e3, L, oL, hL, by
      obtain rfl : i = l.length := by omega
      rw [List.take_of_length_le (by omega), List.take_length] at hval
      exact hval⟩
theorem NShort_spec {w : World} {l : List UInt32} {v : Value} {d : UInt32} (hv : Wds l v w) (hl : l.length ≤ 1099511627776) (hd : 0 < d.toNat) :
    Calls Try.prog 97 #[v, U32 d] w (Ret fun r w' => Ext w w' ∧ ∃ q s, r = .tuple #[q, s] ∧ Wds (lb (val l / d.toNat)) q w' ∧ Wds (lb (val l % d.toNat)) s w') := by
  refine enter (vs := [v, U32 d]) Try.func97 rfl rfl rfl ?_
  have hd0 : d.toUInt64 ≠ 0 := fun h => by
    have := congrArg UInt64.toNat h
    rw [n_64] at this
    simp at this
    omega
  refine c_seq (c_region (o_assign rfl rfl (o_assign rfl rfl (o_nil (n_then (c_seq (c_region (o_move rfl rfl (o_len rfl rfl (r_lenW Try.underlying33 hv) ?_)))))))))
  obtain ⟨v11, w11, hr11, x11, o11, ob11⟩ := r_mkW Try.underlying33 (w := w) w.heap.size (n := l.length) (by omega) (Nat.le_refl _)
  refine o_makeSlice rfl rfl rfl hr11 (o_assign rfl rfl (o_nil (n_then (c_seq (c_region (o_assign rfl rfl (o_nil (n_then (c_seq (c_seq (c_region (o_move rfl rfl (o_len rfl rfl (r_lenW Try.underlying33 (hv.ext x11)) ?_)))))))))))))
  refine o_bin rfl rfl rfl (r_sub_i (by omega) (by omega)) (o_assign rfl rfl (o_nil (n_then (c_block ?_))))
  refine c_loop3 (fun (k : Nat) (L : List UInt32) (r : UInt64) => [(0, v), (1, U32 d), (6, v11), (7, U64 r), (8, I ((k : Int) - 1))]) (fun (k : Nat) (L : List UInt32) (r : UInt64) w' => OwnW w.heap.size L v11 w' ∧ Ext w w' ∧ k ≤ l.length ∧ L.length = l.length ∧ val (L.drop k) * d.toNat + r.toNat = val (l.drop k) ∧ r.toNat < d.toNat) (fun (k : Nat) (L : List UInt32) (r : UInt64) => k) (l.length) (List.replicate l.length 0) (0) ⟨rfl, rfl, rfl, rfl, rfl, trivial⟩ ⟨o11, x11, Nat.le_refl _, by simp, by simp [List.drop_of_length_le, val], hd⟩ ?_
  rintro k L r w4 ⟨oL, e4, hk, hL, hval, hr⟩
  refine c_seq (c_seq (c_region (o_move rfl rfl (o_bin rfl rfl rfl (r_geq_i) (o_nil (n_then ?_))))))
  refine c_if rfl (fun h16 => ?_) (fun h16 => ?_)
  · obtain ⟨j, rfl⟩ : ∃ j, k = j + 1 := ⟨k - 1, by omega⟩
    have e : ((j + 1 : Nat) : Int) - 1 = (j : Int) := by omega
    rw [e]
    have st := short_step hd (show j < l.length by omega) hL hval hr
    refine c_skip (n_then (c_seq (c_block (c_seq (c_region (o_move rfl rfl (o_bin rfl rfl rfl (r_shl_u64 32 (by omega)) (o_move rfl rfl (o_move rfl rfl ?_)))))))))
    obtain ⟨a23, p23, q23⟩ := r_ixW Try.underlying33 (hv.ext e4) (i := j) (by omega) .i64
    refine o_indexAddr rfl rfl rfl (p23 _) (o_load rfl rfl (r_load1 Try.underlying79 rfl q23) (o_conv rfl rfl (r_u32_u64 Try.underlying79 Try.underlying31) ?_))
    refine o_bin rfl rfl rfl (r_or_u64) (o_assign rfl rfl (o_nil (n_then (c_seq (c_region (o_move rfl rfl (o_move rfl rfl (o_move rfl rfl (o_move rfl rfl (o_conv rfl rfl (r_u32_u64 Try.underlying79 Try.underlying31) ?_))))))))))
    refine o_bin rfl rfl rfl (r_quo_u64 hd0) (o_conv rfl rfl (r_u64_u32 Try.underlying31 Try.underlying79) ?_)
    obtain ⟨g34, w34, p34, s34, o34, q34, hb34, c34, ob34⟩ := (oL).setW Try.underlying33 (i := j) (by omega) (((r <<< UInt64.ofNat 32 ||| l[j].toUInt64) / d.toUInt64).toUInt32)
    refine o_indexAddr rfl rfl rfl (p34 _) (o_store rfl rfl s34 ?_)
    have x34 := Ext.of_new (e4) q34 hb34
    refine o_nil (n_then (c_region (o_move rfl rfl (o_move rfl rfl (o_conv rfl rfl (r_u32_u64 Try.underlying79 Try.underlying31) (o_bin rfl rfl rfl (r_rem_u64 hd0) ?_))))))
    refine o_assign rfl rfl (o_nil (n_block (n_then (c_region (o_move rfl rfl (o_bin rfl rfl rfl (r_sub_i (by omega) (by omega)) (o_assign rfl rfl (o_nil ?_))))))))
    refine n_round3 (j) (_) ((r <<< UInt64.ofNat 32 ||| l[j].toUInt64) % d.toUInt64) ⟨rfl, rfl, rfl, rfl, rfl, trivial⟩ ⟨o34, x34, by show j ≤ _; omega, by simpa using hL, st.1, st.2⟩ (by show j < j + 1; omega)
  · refine c_exit (x_then (x_then (x_here (n_then (c_seq (c_region ?_))))))
    obtain rfl : k = 0 := by omega
    rw [List.drop_zero, List.drop_zero] at hval
    have hq : val l / d.toNat = val L := by rw [← hval, Nat.mul_comm, Nat.mul_add_div hd, Nat.div_eq_of_lt hr, Nat.add_zero]
    have hm : val l % d.toNat = r.toNat := by rw [← hval, Nat.mul_comm, Nat.mul_add_mod, Nat.mod_eq_of_lt hr]
    refine o_move rfl rfl (o_call call_trim rfl rfl (trim_spec oL.wds) ?_)
    rintro v40 _ ⟨rfl, b40⟩
    refine o_move rfl rfl (o_call call_NOf rfl rfl (NOf_spec) ?_)
    rintro v42 w42 ⟨x42, b42⟩
    refine o_assign rfl rfl (o_assign rfl rfl (o_nil (n_then (c_ret (r_body2 rfl rfl rfl ?_)))))
    exact ⟨_, rfl, (e4.trans x42), _, _, rfl, by rw [hq]; exact b40.ext x42, by rw [hm]; exact b42⟩
end Go.Rl
/- Walks of package natural: Shr, Bits, and of math/bits.Len32. Conditions: the numbers are shorter than 2^40 limbs. -/
namespace Go.Rl
open Go.RowKit Go.Proofs

def tab8 : List UInt8 := (List.range 256).map fun n => UInt8.ofNat (bl n)
theorem bl8 (y : UInt8) : (UInt8.ofNat (bl y.toNat)).toNat = bl y.toNat ∧ bl y.toNat ≤ 8 := by
  have := bl_le (n := y.toNat) (k := 8) y.toNat_lt
  exact ⟨by rw [UInt8.toNat_ofNat']; omega, this⟩
theorem r_tab {w : World} (y : UInt8) : (Instr.index 9 (S tab8) (U8 y)).run Try.prog w = .ok (U8 (UInt8.ofNat (bl y.toNat))) w := by
  have hy := y.toNat_lt
  have hs : (⟨tab8.toArray⟩ : ByteArray).size = 256 := by simp [ByteArray.size, tab8]
  rw [S, U8, run_index_string _ _ _ _ _ Try.underlying9, dif_pos (by rw [hs]; omega)]
  have e : (⟨tab8.toArray⟩ : ByteArray)[((y.toNat : Int)).toNat]'(by rw [hs]; omega) = UInt8.ofNat (bl y.toNat) := by
    show tab8.toArray[((y.toNat : Int)).toNat]'(by simp [tab8]; omega) = _
    simp [tab8]
  rw [e]; rfl
theorem bl_u8 (x : UInt32) (h : x.toNat < 256) : bl x.toUInt8.toNat = bl x.toNat := by
  have : x.toUInt8.toNat = x.toNat % 256 := UInt32.toNat_toUInt8 x
  rw [this, Nat.mod_eq_of_lt h]
theorem ge32 {a b : UInt32} : a ≥ b ↔ b.toNat ≤ a.toNat := UInt32.le_iff_toNat_le
theorem Len32_spec {w : World} {x : UInt32} :
    Calls Try.prog 103 #[U32 x] w (Ret fun r w' => w = w' ∧ r = I ((bl x.toNat : Nat) : Int)) := by
  refine enter (vs := [U32 x]) Try.func103 rfl rfl rfl ?_
  have hx := u32_lt x
  refine c_seq (c_region (o_assign rfl rfl (o_nil (n_then (c_seq (c_seq (c_region (o_move rfl rfl (o_bin (v := U32 65536) rfl rfl rfl (r_geq_u32) (o_nil (n_then ?_)))))))))))
  refine c_if rfl (fun h4 => ?_) (fun h4 => ?_)
  · have h4' : 65536 ≤ x.toNat := ge32.1 h4
    have hb1 := bl_shift (n := x.toNat) (s := 16) (by omega)
    have hz := n_shr32 x (s := 16) (by omega)
    refine c_seq (c_region (o_move rfl rfl (o_bin rfl rfl rfl (r_shr_u32 16 (by omega)) (o_assign rfl rfl (o_nil (n_then (c_region (o_assign rfl rfl (o_nil (n_then (c_seq (c_seq (c_region (o_move rfl rfl ?_))))))))))))))
    refine o_bin (v := U32 256) rfl rfl rfl (r_geq_u32) (o_nil (n_then ?_))
    refine c_if rfl (fun h8 => ?_) (fun h8 => ?_)
    · have h8' : 256 ≤ ((((x) >>> UInt32.ofNat 16))).toNat := ge32.1 h8
      have hb2 := bl_shift (n := ((((x) >>> UInt32.ofNat 16))).toNat) (s := 8) (by omega)
      have hz2 := n_shr32 (((x) >>> UInt32.ofNat 16)) (s := 8) (by omega)
      refine c_seq (c_region (o_move rfl rfl (o_bin rfl rfl rfl (r_shr_u32 8 (by omega)) (o_assign rfl rfl (o_nil (n_then (c_region (o_move rfl rfl (o_bin rfl rfl rfl (r_add_i (by omega) (by omega)) ?_)))))))))
      refine o_assign rfl rfl (o_nil (n_then (c_seq (c_region (o_move rfl rfl ?_)))))
      have hu := bl_u8 (((((x) >>> UInt32.ofNat 16)) >>> UInt32.ofNat 8)) (by first | omega | (rw [hz2]; omega))
      refine o_move rfl rfl (o_conv rfl rfl (r_u32_u8 Try.underlying79 Try.underlying5) ?_)
      have hy := bl8 ((((((x) >>> UInt32.ofNat 16)) >>> UInt32.ofNat 8))).toUInt8
      refine o_index (u := S tab8) (v := U8 ((((((x) >>> UInt32.ofNat 16)) >>> UInt32.ofNat 8))).toUInt8) (by kernel_rfl) rfl rfl (r_tab _) ?_
      refine o_conv rfl rfl (r_u8_i Try.underlying5 Try.underlying3) (o_bin rfl rfl rfl (r_add_i (by omega) (by omega)) (o_assign rfl rfl (o_nil (n_then (c_ret ?_)))))
      refine r_body1 rfl rfl ?_
      exact ⟨_, rfl, rfl, congrArg I (by
        try simp only [Nat.reducePow] at *
        first
        | (rw [hz2] at hu; rw [hz] at hb2 hu; rw [hb1, hb2]; omega)
        | (rw [hz2] at hu; rw [hb2]; omega)
        | (rw [hz] at hu; rw [hb1]; omega)
        | omega)⟩
    · have h8' : ((((x) >>> UInt32.ofNat 16))).toNat < 256 := Nat.lt_of_not_le fun h => h8 (ge32.2 h)
      refine c_skip (n_then (c_seq (c_region (o_move rfl rfl ?_))))
      have hu := bl_u8 (((x) >>> UInt32.ofNat 16)) (by first | omega | (rw [hz2]; omega))
      refine o_move rfl rfl (o_conv rfl rfl (r_u32_u8 Try.underlying79 Try.underlying5) ?_)
      have hy := bl8 ((((x) >>> UInt32.ofNat 16))).toUInt8
      refine o_index (u := S tab8) (v := U8 ((((x) >>> UInt32.ofNat 16))).toUInt8) (by kernel_rfl) rfl rfl (r_tab _) ?_
      refine o_conv rfl rfl (r_u8_i Try.underlying5 Try.underlying3) (o_bin rfl rfl rfl (r_add_i (by omega) (by omega)) (o_assign rfl rfl (o_nil (n_then (c_ret ?_)))))
      refine r_body1 rfl rfl ?_
      exact ⟨_, rfl, rfl, congrArg I (by
        try simp only [Nat.reducePow] at *
        first
        | (rw [hz2] at hu; rw [hz] at hb2 hu; rw [hb1, hb2]; omega)
        | (rw [hz2] at hu; rw [hb2]; omega)
        | (rw [hz] at hu; rw [hb1]; omega)
        | omega)⟩
  · have h4' : x.toNat < 65536 := Nat.lt_of_not_le fun h => h4 (ge32.2 h)
    refine c_skip (n_then (c_seq (c_seq (c_region (o_move rfl rfl (o_bin (v := U32 256) rfl rfl rfl (r_geq_u32) (o_nil (n_then ?_))))))))
    refine c_if rfl (fun h8 => ?_) (fun h8 => ?_)
    · have h8' : 256 ≤ ((x)).toNat := ge32.1 h8
      have hb2 := bl_shift (n := ((x)).toNat) (s := 8) (by omega)
      have hz2 := n_shr32 (x) (s := 8) (by omega)
      refine c_seq (c_region (o_move rfl rfl (o_bin rfl rfl rfl (r_shr_u32 8 (by omega)) (o_assign rfl rfl (o_nil (n_then (c_region (o_move rfl rfl (o_bin rfl rfl rfl (r_add_i (by omega) (by omega)) ?_)))))))))
      refine o_assign rfl rfl (o_nil (n_then (c_seq (c_region (o_move rfl rfl ?_)))))
      have hu := bl_u8 (((x) >>> UInt32.ofNat 8)) (by first | omega | (rw [hz2]; omega))
      refine o_move rfl rfl (o_conv rfl rfl (r_u32_u8 Try.underlying79 Try.underlying5) ?_)
      have hy := bl8 ((((x) >>> UInt32.ofNat 8))).toUInt8
      refine o_index (u := S tab8) (v := U8 ((((x) >>> UInt32.ofNat 8))).toUInt8) (by kernel_rfl) rfl rfl (r_tab _) ?_
      refine o_conv rfl rfl (r_u8_i Try.underlying5 Try.underlying3) (o_bin rfl rfl rfl (r_add_i (by omega) (by omega)) (o_assign rfl rfl (o_nil (n_then (c_ret ?_)))))
      refine r_body1 rfl rfl ?_
      exact ⟨_, rfl, rfl, congrArg I (by
        try simp only [Nat.reducePow] at *
        first
        | (rw [hz2] at hu; rw [hz] at hb2 hu; rw [hb1, hb2]; omega)
        | (rw [hz2] at hu; rw [hb2]; omega)
        | (rw [hz] at hu; rw [hb1]; omega)
        | omega)⟩
    · have h8' : ((x)).toNat < 256 := Nat.lt_of_not_le fun h => h8 (ge32.2 h)
      refine c_skip (n_then (c_seq (c_region (o_move rfl rfl ?_))))
      have hu := bl_u8 (x) (by first | omega | (rw [hz2]; omega))
      refine o_move rfl rfl (o_conv rfl rfl (r_u32_u8 Try.underlying79 Try.underlying5) ?_)
      have hy := bl8 ((x)).toUInt8
      refine o_index (u := S tab8) (v := U8 ((x)).toUInt8) (by kernel_rfl) rfl rfl (r_tab _) ?_
      refine o_conv rfl rfl (r_u8_i Try.underlying5 Try.underlying3) (o_bin rfl rfl rfl (r_add_i (by omega) (by omega)) (o_assign rfl rfl (o_nil (n_then (c_ret ?_)))))
      refine r_body1 rfl rfl ?_
      exact ⟨_, rfl, rfl, congrArg I (by
        try simp only [Nat.reducePow] at *
        first
        | (rw [hz2] at hu; rw [hz] at hb2 hu; rw [hb1, hb2]; omega)
        | (rw [hz2] at hu; rw [hb2]; omega)
        | (rw [hz] at hu; rw [hb1]; omega)
        | omega)⟩
theorem LZ32_spec {w : World} {x : UInt32} :
    Calls Try.prog 98 #[U32 x] w (Ret fun r w' => w = w' ∧ r = I ((32 - bl x.toNat : Nat) : Int)) := by
  refine enter (vs := [U32 x]) Try.func98 rfl rfl rfl ?_
  have hx := bl_le (n := x.toNat) (k := 32) x.toNat_lt
  refine c_seq (c_region (o_assign rfl rfl (o_nil (n_then (c_seq (c_region (o_move rfl rfl (o_call call_Len32 rfl rfl (Len32_spec) ?_))))))))
  rintro v4 _ ⟨rfl, rfl⟩
  refine o_bin (r := I ((32 - bl x.toNat : Nat) : Int)) rfl rfl rfl (by have e : ((32 - bl x.toNat : Nat) : Int) = 32 - ((bl x.toNat : Nat) : Int) := (by omega); rw [e]; exact r_sub_i (by omega) (by omega)) ?_
  refine o_assign rfl rfl (o_nil (n_then (c_ret (r_body1 rfl rfl ?_))))
  exact ⟨_, rfl, rfl, rfl⟩
theorem NBits_spec {w : World} {l : List UInt32} {v : Value} (hv : Wds l v w) (hl : l.length ≤ 1099511627776) :
    Calls Try.prog 91 #[v] w (Ret fun r w' => w = w' ∧ r = I ((bl (val l) : Nat) : Int)) := by
  refine enter (vs := [v]) Try.func91 rfl rfl rfl ?_
  have hll := lb_lt (val_lt l)
  refine c_seq (c_region (o_assign rfl rfl (o_nil (n_then (c_seq (c_region (o_move rfl rfl (o_call call_trim rfl rfl (trim_spec hv) ?_))))))))
  rintro v4 _ ⟨rfl, b4⟩
  refine o_assign rfl rfl (o_nil (n_then (c_seq (c_seq (c_region (o_move rfl rfl (o_len (r := I ((lb (val l)).length : Int)) rfl rfl (r_lenW Try.underlying33 b4) ?_)))))))
  refine o_bin rfl rfl rfl (r_eql_i) (o_nil (n_then ?_))
  refine c_if rfl (fun h7 => ?_) (fun h7 => ?_)
  · refine c_seq (c_region (o_assign rfl rfl (o_nil (n_then (c_ret (r_then (r_body1 rfl rfl ?_)))))))
    exact ⟨_, rfl, rfl, by
      have : val l = 0 := lb_len0.1 (by omega)
      rw [this]; rfl⟩
  · refine c_skip (n_then (c_seq (c_region (o_move rfl rfl (o_len (r := I ((lb (val l)).length : Int)) rfl rfl (r_lenW Try.underlying33 b4) (o_bin (r := I (((lb (val l)).length - 1 : Nat) : Int)) rfl rfl rfl (by have e : (((lb (val l)).length - 1 : Nat) : Int) = ((lb (val l)).length : Int) - 1 := (by omega); rw [e]; exact r_sub_i (by omega) (by omega)) ?_))))))
    refine o_bin (r := I ((32 * ((lb (val l)).length - 1 : Nat) : Nat) : Int)) rfl rfl rfl (by have e : ((32 * ((lb (val l)).length - 1 : Nat) : Nat) : Int) = 32 * (((lb (val l)).length - 1 : Nat) : Int) := (by omega); rw [e]; exact r_mul_i (by omega) (by omega)) ?_
    refine o_move rfl rfl (o_move rfl rfl (o_len (r := I ((lb (val l)).length : Int)) rfl rfl (r_lenW Try.underlying33 b4) (o_bin (r := I (((lb (val l)).length - 1 : Nat) : Int)) rfl rfl rfl (by have e : (((lb (val l)).length - 1 : Nat) : Int) = ((lb (val l)).length : Int) - 1 := (by omega); rw [e]; exact r_sub_i (by omega) (by omega)) ?_)))
    obtain ⟨a16, p16, q16⟩ := r_ixW Try.underlying33 b4 (i := ((lb (val l)).length - 1 : Nat)) (by omega) .i64
    refine o_indexAddr rfl rfl rfl (p16 _) (o_load rfl rfl (r_load1 Try.underlying79 rfl q16) (o_call call_Len32 rfl rfl (Len32_spec) ?_))
    rintro v18 _ ⟨rfl, rfl⟩
    have hb := bl_lb (n := val l) (i := (lb (val l)).length - 1) (by omega)
    have hb32 := bl_le (n := ((lb (val l))[(lb (val l)).length - 1]'(by omega)).toNat) (k := 32) (u32_lt _)
    refine o_bin (r := I ((((32 * ((lb (val l)).length - 1 : Nat) : Nat)) + (bl ((lb (val l))[(lb (val l)).length - 1]'(by omega)).toNat : Nat) : Nat) : Int)) rfl rfl rfl (by have e : ((((32 * ((lb (val l)).length - 1 : Nat) : Nat)) + (bl ((lb (val l))[(lb (val l)).length - 1]'(by omega)).toNat : Nat) : Nat) : Int) = ((32 * ((lb (val l)).length - 1 : Nat) : Nat) : Int) + ((bl ((lb (val l))[(lb (val l)).length - 1]'(by omega)).toNat : Nat) : Int) := (by omega); rw [e]; exact r_add_i (by omega) (by omega)) ?_
    refine o_assign rfl rfl (o_nil (n_then (c_ret (r_body1 rfl rfl ?_))))
    exact ⟨_, rfl, rfl, by rw [hb]⟩
theorem shr_inv {a L : List UInt32} {i s V : Nat} {o : UInt32} (hi : i < a.length) (hL : L.length = a.length) (hv : val (L.take i) + 4294967296 ^ i * (val (a.drop i) / 2 ^ s) = V)
    (st : o.toNat + 4294967296 * (val (a.drop (i + 1)) / 2 ^ s) = (a[i].toNat + 4294967296 * val (a.drop (i + 1))) / 2 ^ s) : val ((L.set i o).take (i + 1)) + 4294967296 ^ (i + 1) * (val (a.drop (i + 1)) / 2 ^ s) = V := by
  rw [val_set_take (by omega), Nat.add_assoc, Nat.pow_succ, Nat.mul_assoc, ← Nat.mul_add, st, ← val_drop hi, hv]
theorem shr_next {a : List UInt32} {i : Nat} {x : UInt64} (hi : i < a.length) (hx : (∃ h : i + 1 < a.length, x = a[i].toUInt64 ||| a[i + 1].toUInt64 <<< UInt64.ofNat 32) ∨ (a.length ≤ i + 1 ∧ x = a[i].toUInt64)) {s : Nat} (hs : s < 32) :
    ((x >>> UInt64.ofNat s).toUInt32).toNat + 4294967296 * (val (a.drop (i + 1)) / 2 ^ s) = (a[i].toNat + 4294967296 * val (a.drop (i + 1))) / 2 ^ s := by
  refine (shr_step hs ?_).resolve_right (by have := u32_lt a[i]; omega)
  rcases hx with ⟨h, rfl⟩ | ⟨h, rfl⟩
  · rw [limb2 (n_64 _) (u32_lt _), val_drop h]
    have := u32_lt a[i + 1]
    rw [Nat.add_mul_mod_self_left, Nat.mod_eq_of_lt this]
  · rw [n_64, List.drop_of_length_le h]; simp [val]
theorem NShr_spec {w : World} {l : List UInt32} {v : Value} {k : Nat} (hv : Wds l v w) (hl : l.length ≤ 1099511627776) (hk : k ≤ 1048576) :
    Calls Try.prog 102 #[v, I (k : Int)] w (Ret fun r w' => Ext w w' ∧ ∃ q, r = .tuple #[q, I 0] ∧ Wds (lb (val l / 2 ^ k)) q w') := by
  refine enter (vs := [v, I (k : Int)]) Try.func102 rfl rfl rfl ?_
  have hll := lb_lt (val_lt l)
  refine c_seq (c_region (o_assign rfl rfl (o_assign rfl rfl (o_nil (n_then (c_seq (c_seq (c_region (o_move rfl rfl (o_bin rfl rfl rfl (dec_f (by omega) r_lss_i) (o_move rfl rfl (g_yes rfl ?_))))))))))))
  refine o_move rfl rfl (g_yes rfl (o_bin rfl rfl rfl (dec_f (by omega) r_gtr_i) (o_pick_f rfl rfl rfl (o_nil (n_then (c_no rfl (c_skip (n_then (c_seq (c_region (o_move rfl rfl (o_call call_trim rfl rfl (trim_spec hv) ?_))))))))))))
  rintro v17 _ ⟨rfl, b17⟩
  refine o_assign rfl rfl (o_nil (n_then (c_seq (c_seq (c_region (o_move rfl rfl (o_bin (r := I ((k / 32 : Nat) : Int)) rfl rfl rfl (by have e : ((k / 32 : Nat) : Int) = (k : Int) / 32 := (by omega); rw [e]; exact r_quo_i (by omega) (by omega) (by omega)) ?_)))))))
  refine o_move rfl rfl (o_len rfl rfl (r_lenW Try.underlying33 b17) (o_bin rfl rfl rfl (r_geq_i) (o_nil (n_then ?_))))
  refine c_if rfl (fun h22 => ?_) (fun h22 => ?_)
  · refine c_seq (c_region (o_assign rfl rfl (o_assign rfl rfl (o_nil (n_then (c_ret (r_then (r_body2 rfl rfl rfl ?_))))))))
    exact ⟨_, rfl, Ext.refl _, _, rfl, by
      have h1 := val_lt (lb (val l))
      rw [val_lb] at h1
      have h2 : (4294967296 : Nat) ^ (lb (val l)).length = 2 ^ (32 * (lb (val l)).length) := by rw [Nat.pow_mul]
      have h3 : 2 ^ (32 * (lb (val l)).length) ≤ 2 ^ k := Nat.pow_le_pow_right (by omega) (by omega)
      rw [Nat.div_eq_of_lt (by omega)]
      exact Wds.nil _⟩
  · refine c_skip (n_then (c_seq (c_region (o_move rfl rfl (o_move rfl rfl (o_bin (r := I ((k / 32 : Nat) : Int)) rfl rfl rfl (by have e : ((k / 32 : Nat) : Int) = (k : Int) / 32 := (by omega); rw [e]; exact r_quo_i (by omega) (by omega) (by omega)) ?_))))))
    obtain ⟨v26, p26, b26⟩ := r_slW_lo Try.underlying33 b17 (lo := k / 32) (by omega) .i64
    refine o_slice rfl rfl rfl rfl rfl (p26 _) (o_assign rfl rfl (o_nil (n_then (c_seq ?_))))
    obtain ⟨a, ha⟩ : ∃ a, a = (lb (val l)).drop (k / 32) := ⟨_, rfl⟩
    have hva : val a = val l / 2 ^ (32 * (k / 32)) := by
      have h1 := val_split (lb (val l)) (k / 32) (by omega)
      have h2 := val_lt ((lb (val l)).take (k / 32))
      rw [List.length_take, Nat.min_eq_left (by omega)] at h2
      rw [val_lb] at h1
      have h3 : (4294967296 : Nat) ^ (k / 32) = 2 ^ (32 * (k / 32)) := by rw [Nat.pow_mul]
      rw [h3] at h1 h2
      rw [ha]
      conv => rhs; rw [h1]
      rw [Nat.add_mul_div_left _ _ (Nat.pow_pos (by omega)), Nat.div_eq_of_lt h2, Nat.zero_add]
    have hal : a.length ≤ 1099511627776 := by rw [ha, List.length_drop]; omega
    rw [← ha] at b26
    refine c_region (o_move rfl rfl (o_len (r := I (a.length : Int)) rfl rfl (r_lenW Try.underlying33 b26) ?_))
    obtain ⟨v29, w29, hr29, x29, o29, ob29⟩ := r_mkW Try.underlying33 (w := w) w.heap.size (n := a.length) (by omega) (Nat.le_refl _)
    refine o_makeSlice rfl rfl rfl hr29 (o_assign rfl rfl (o_nil (n_then (c_seq (c_seq (c_region (o_move rfl rfl (o_len (r := I (a.length : Int)) rfl rfl (r_lenW Try.underlying33 (b26.ext x29)) ?_))))))))
    refine o_move rfl rfl (o_nil (n_then (c_block ?_)))
    refine c_loop2 (fun (i : Nat) (L : List UInt32) => [(0, v26), (1, I (k : Int)), (6, v29), (30, v26), (31, I (a.length : Int)), (32, I (i : Int))]) (fun (i : Nat) (L : List UInt32) w' => OwnW w.heap.size L v29 w' ∧ Ext w w' ∧ i ≤ a.length ∧ L.length = a.length ∧ val (L.take i) + 4294967296 ^ i * (val (a.drop i) / 2 ^ (k % 32)) = val a / 2 ^ (k % 32)) (fun (i : Nat) (L : List UInt32) => a.length - i) (0) (List.replicate a.length 0) ⟨rfl, rfl, rfl, rfl, rfl, rfl, trivial⟩ ⟨o29, x29, by simp, by simp, by simp [val]⟩ ?_
    rintro i L w9 ⟨oL, e9, hi, hL, hval⟩
    refine c_seq (c_region (o_bin rfl rfl rfl (r_lss_i) (o_nil (n_then (c_seq ?_)))))
    refine c_if rfl (fun h33 => ?_) (fun h33 => ?_)
    · have hia : i < a.length := by omega
      refine c_skip (n_then (c_seq (c_block (c_seq (c_region (o_move rfl rfl ?_))))))
      obtain ⟨a35, p35, q35⟩ := r_ixW Try.underlying33 (b26.ext e9) (i := i) (by omega) .i64
      refine o_indexAddr rfl rfl rfl (p35 _) (o_load rfl rfl (r_load1 Try.underlying79 rfl q35) (o_assign rfl rfl (o_assign rfl rfl (o_nil (n_then (c_seq (c_region (o_move rfl rfl ?_))))))))
      refine o_conv rfl rfl (r_u32_u64 Try.underlying79 Try.underlying31) (o_assign rfl rfl (o_nil (n_then (c_seq (c_seq (c_region (o_move rfl rfl (o_bin (r := I ((i + 1 : Nat) : Int)) rfl rfl rfl (by have e : ((i + 1 : Nat) : Int) = (i : Int) + 1 := (by omega); rw [e]; exact r_add_i (by omega) (by omega)) ?_))))))))
      refine o_move rfl rfl (o_len (r := I (a.length : Int)) rfl rfl (r_lenW Try.underlying33 (b26.ext e9)) (o_bin rfl rfl rfl (r_lss_i) (o_nil (n_then ?_))))
      refine c_if rfl (fun h43 => ?_) (fun h43 => ?_)
      · refine c_region (o_move rfl rfl (o_move rfl rfl (o_move rfl rfl (o_bin (r := I ((i + 1 : Nat) : Int)) rfl rfl rfl (by have e : ((i + 1 : Nat) : Int) = (i : Int) + 1 := (by omega); rw [e]; exact r_add_i (by omega) (by omega)) ?_))))
        obtain ⟨a48, p48, q48⟩ := r_ixW Try.underlying33 (b26.ext e9) (i := (i + 1 : Nat)) (by omega) .i64
        refine o_indexAddr rfl rfl rfl (p48 _) (o_load rfl rfl (r_load1 Try.underlying79 rfl q48) (o_conv rfl rfl (r_u32_u64 Try.underlying79 Try.underlying31) ?_))
        refine o_bin rfl rfl rfl (r_shl_u64 32 (by omega)) (o_bin rfl rfl rfl (r_or_u64) (o_assign rfl rfl (o_nil (n_then (c_region (o_move rfl rfl (o_move rfl rfl (o_move rfl rfl (o_move rfl rfl ?_)))))))))
        refine o_bin (r := I ((k % 32 : Nat) : Int)) rfl rfl rfl (by have e : ((k % 32 : Nat) : Int) = (k : Int) % 32 := (by omega); rw [e]; exact r_rem_i (by omega) (by omega)) ?_
        refine o_bin rfl rfl rfl (r_shr_u64 ((k % 32 : Nat)) (by omega)) (o_conv rfl rfl (r_u64_u32 Try.underlying31 Try.underlying79) ?_)
        have st := shr_next (x := (((((a[i])).toUInt64) ||| (((((a[(i + 1 : Nat)])).toUInt64) <<< UInt64.ofNat 32))))) hia (by first | exact .inl ⟨by omega, rfl⟩ | exact .inr ⟨by omega, rfl⟩) (Nat.mod_lt k (show 0 < 32 by omega))
        obtain ⟨g60, w60, p60, s60, o60, q60, hb60, c60, ob60⟩ := (oL).setW Try.underlying33 (i := i) (by omega) (((((((a[i])).toUInt64) ||| (((((a[(i + 1 : Nat)])).toUInt64) <<< UInt64.ofNat 32)))) >>> UInt64.ofNat (k % 32)).toUInt32)
        refine o_indexAddr rfl rfl rfl (p60 _) (o_store rfl rfl s60 ?_)
        have x60 := Ext.of_new (e9) q60 hb60
        refine o_nil (n_block (n_then (c_region (o_bin (r := I ((i + 1 : Nat) : Int)) rfl rfl rfl (by have e : ((i + 1 : Nat) : Int) = (i : Int) + 1 := (by omega); rw [e]; exact r_add_i (by omega) (by omega)) ?_))))
        refine o_move rfl rfl (o_nil ?_)
        refine n_round2 (i + 1) (_) ⟨rfl, rfl, rfl, rfl, rfl, rfl, trivial⟩ ⟨o60, x60, hia, by simpa using hL, shr_inv hia hL hval st⟩ (by show a.length - (i + 1) < a.length - i; omega)
      · refine c_skip (n_then (c_region (o_move rfl rfl (o_move rfl rfl (o_move rfl rfl (o_move rfl rfl (o_bin (r := I ((k % 32 : Nat) : Int)) rfl rfl rfl (by have e : ((k % 32 : Nat) : Int) = (k : Int) % 32 := (by omega); rw [e]; exact r_rem_i (by omega) (by omega)) ?_)))))))
        refine o_bin rfl rfl rfl (r_shr_u64 ((k % 32 : Nat)) (by omega)) (o_conv rfl rfl (r_u64_u32 Try.underlying31 Try.underlying79) ?_)
        have st := shr_next (x := (((a[i])).toUInt64)) hia (by first | exact .inl ⟨by omega, rfl⟩ | exact .inr ⟨by omega, rfl⟩) (Nat.mod_lt k (show 0 < 32 by omega))
        obtain ⟨g60, w60, p60, s60, o60, q60, hb60, c60, ob60⟩ := (oL).setW Try.underlying33 (i := i) (by omega) (((((a[i])).toUInt64) >>> UInt64.ofNat (k % 32)).toUInt32)
        refine o_indexAddr rfl rfl rfl (p60 _) (o_store rfl rfl s60 ?_)
        have x60 := Ext.of_new (e9) q60 hb60
        refine o_nil (n_block (n_then (c_region (o_bin (r := I ((i + 1 : Nat) : Int)) rfl rfl rfl (by have e : ((i + 1 : Nat) : Int) = (i : Int) + 1 := (by omega); rw [e]; exact r_add_i (by omega) (by omega)) ?_))))
        refine o_move rfl rfl (o_nil ?_)
        refine n_round2 (i + 1) (_) ⟨rfl, rfl, rfl, rfl, rfl, rfl, trivial⟩ ⟨o60, x60, hia, by simpa using hL, shr_inv hia hL hval st⟩ (by show a.length - (i + 1) < a.length - i; omega)
    · refine c_exit (x_then (x_then (x_here (n_then (c_seq (c_region ?_))))))
      have hla : val L = val l / 2 ^ k := by
        rw [List.take_of_length_le (by omega), List.drop_of_length_le (by omega)] at hval
        simp only [val, Nat.zero_div, Nat.mul_zero, Nat.add_zero] at hval
        rw [hval, hva, Nat.div_div_eq_div_mul, ← Nat.pow_add, Nat.div_add_mod]
      refine o_move rfl rfl (o_call call_trim rfl rfl (trim_spec oL.wds) ?_)
      rintro v63 _ ⟨rfl, b63⟩
      refine o_assign rfl rfl (o_assign rfl rfl (o_nil (n_then (c_ret (r_body2 rfl rfl rfl ?_)))))
      exact ⟨_, rfl, e9, _, rfl, by rw [← hla]; exact b63⟩
end Go.Rl
/- Plain maths: long division by estimated limbs. Conditions: each lemma names its own. -/
namespace Go.Rl

/-- The estimate before a step is too large: it may be lowered. -/
theorem est_down {V U v1 v2 u01 u2 P Vl Ul q r : Nat} (hV : V = (v1 * 4294967296 + v2) * P + Vl) (hU : U = (u01 * 4294967296 + u2) * P + Ul) (hUl : Ul < P) (hqr : q * v1 + r = u01)
    (h : r * 4294967296 + u2 < q * v2) : U < q * V := by
  have h1 : u01 * 4294967296 + u2 + 1 ≤ q * (v1 * 4294967296 + v2) := by
    rw [← hqr, Nat.mul_add, ← Nat.mul_assoc, Nat.add_mul]; omega
  have h2 : (u01 * 4294967296 + u2 + 1) * P ≤ q * (v1 * 4294967296 + v2) * P := Nat.mul_le_mul_right _ h1
  have h3 : q * (v1 * 4294967296 + v2) * P ≤ q * V := by
    rw [hV, Nat.mul_assoc]; exact Nat.mul_le_mul_left _ (Nat.le_add_right _ _)
  rw [Nat.add_mul _ 1] at h2
  omega
/-- Where it is not, it is at most one too large. -/
theorem est_done {V U v1 v2 u01 u2 P Vl Ul q : Nat} (hV : V = (v1 * 4294967296 + v2) * P + Vl) (hU : U = (u01 * 4294967296 + u2) * P + Ul) (hVl : Vl < P) (h1 : 0 < v1) (hq : 0 < q) (hqB : q ≤ 4294967296)
    (h : q * (v1 * 4294967296 + v2) ≤ u01 * 4294967296 + u2) : (q - 1) * V ≤ U := by
  obtain ⟨m, rfl⟩ : ∃ m, q = m + 1 := ⟨q - 1, by omega⟩
  rw [Nat.add_sub_cancel]
  have h2 : (m + 1) * (v1 * 4294967296 + v2) * P ≤ (u01 * 4294967296 + u2) * P := Nat.mul_le_mul_right _ h
  have h3 : m * Vl ≤ (v1 * 4294967296 + v2) * P := by
    have a : m * Vl ≤ 4294967296 * P := Nat.mul_le_mul (by omega) (by omega)
    have b : 4294967296 * P ≤ (v1 * 4294967296 + v2) * P := Nat.mul_le_mul_right _ (by omega)
    omega
  rw [hV, Nat.mul_add, ← Nat.mul_assoc]
  rw [Nat.add_mul m 1, Nat.one_mul, Nat.add_mul] at h2
  omega
theorem est_fin {V U v1 v2 u01 u2 P Vl Ul q r : Nat} (hV : V = (v1 * 4294967296 + v2) * P + Vl) (hU : U = (u01 * 4294967296 + u2) * P + Ul) (hVl : Vl < P) (h1 : 0 < v1) (hv2 : v2 < 4294967296) (hqB : q < 4294967296) (hqr : q * v1 + r = u01)
    (h : 4294967296 ≤ r ∨ q * v2 ≤ r * 4294967296 + u2) : (q - 1) * V ≤ U := by
  rcases Nat.eq_zero_or_pos q with rfl | hq
  · simp
  · refine est_done hV hU hVl h1 hq (by omega) ?_
    rw [Nat.mul_add, ← Nat.mul_assoc]
    have hp : q * v2 ≤ 4294967295 * 4294967295 := Nat.mul_le_mul (by omega) (by omega)
    omega
theorem est_lt {v1 u0 u1 q r : Nat} (hu0 : u0 ≤ v1) (hu1 : u1 < 4294967296) (hqr : q * v1 + r = u0 * 4294967296 + u1) (hr : 4294967296 ≤ r) : q < 4294967296 := by
  rcases Nat.lt_or_ge q 4294967296 with h | h
  · exact h
  · have := Nat.mul_le_mul_right v1 h
    omega
/-- The first estimate is not too small. -/
theorem est_up {V U v1 u01 P Q : Nat} (hV : v1 * P ≤ V) (hU : U < (u01 + 1) * P) (h1 : 0 < v1) (h : Q * V ≤ U) : Q ≤ u01 / v1 := by
  rw [Nat.le_div_iff_mul_le h1]
  have h2 : Q * v1 * P ≤ Q * V := by rw [Nat.mul_assoc]; exact Nat.mul_le_mul_left _ hV
  have h3 : Q * v1 * P < (u01 + 1) * P := by omega
  have := Nat.lt_of_mul_lt_mul_right h3
  omega

theorem sub2 {u lo b : Nat} (hu : u < 4294967296) (hlo : lo < 4294967296) (hb : b ≤ 1) {x : UInt64} (hx : x.toNat = (18446744073709551616 - b + (18446744073709551616 - lo + u) % 18446744073709551616) % 18446744073709551616) :
    x.toNat % 4294967296 + lo + b = u + 4294967296 * (x.toNat / 9223372036854775808) ∧ x.toNat / 9223372036854775808 ≤ 1 := by
  omega
/-- One step of the subtraction. -/
theorem sub_step {L v : List UInt32} {M : List UInt32} {i : Nat} {q c b x : UInt64} (hi : i < v.length) (hL : v.length < L.length) (hM : M.length = L.length) (hq : q.toNat < 4294967296) (hc : c.toNat < 4294967296) (hb : b.toNat ≤ 1)
    (hMi : M.drop i = L.drop i) (hinv : val (L.take i) + 4294967296 ^ i * (c.toNat + b.toNat) = val (M.take i) + q.toNat * val (v.take i))
    (hx : x = (M[i]'(by omega)).toUInt64 - ((c + q * v[i].toUInt64).toUInt32).toUInt64 - b) :
    (M.set i x.toUInt32).drop (i + 1) = L.drop (i + 1) ∧ ((c + q * v[i].toUInt64) >>> UInt64.ofNat 32).toNat < 4294967296 ∧ (x >>> UInt64.ofNat 63).toNat ≤ 1 ∧
      val (L.take (i + 1)) + 4294967296 ^ (i + 1) * (((c + q * v[i].toUInt64) >>> UInt64.ofNat 32).toNat + (x >>> UInt64.ofNat 63).toNat) = val ((M.set i x.toUInt32).take (i + 1)) + q.toNat * val (v.take (i + 1)) := by
  have hd := u32_lt v[i]
  have hMl : M[i]'(by omega) = L[i]'(by omega) := by
    have h1 := List.getElem?_drop (xs := M) (i := i) (j := 0)
    have h2 := List.getElem?_drop (xs := L) (i := i) (j := 0)
    rw [hMi] at h1
    rw [h1, Nat.add_zero, List.getElem?_eq_getElem (by omega), List.getElem?_eq_getElem (by omega)] at h2
    exact Option.some.inj h2
  have hu := u32_lt (M[i]'(by omega))
  have hprod : q.toNat * v[i].toNat ≤ 4294967295 * 4294967295 := Nat.mul_le_mul (by omega) (by omega)
  have hC : (c + q * v[i].toUInt64).toNat = c.toNat + q.toNat * v[i].toNat := by
    rw [n_add, n_mul, n_64]; omega
  have hhi : ((c + q * v[i].toUInt64) >>> UInt64.ofNat 32).toNat = (c.toNat + q.toNat * v[i].toNat) / 4294967296 := by rw [n_shr _ (by omega), hC]
  have hb1 : (x >>> UInt64.ofNat 63).toNat = x.toNat / 9223372036854775808 := by rw [n_shr _ (by omega)]
  have hxn : x.toNat = (18446744073709551616 - b.toNat + (18446744073709551616 - (c.toNat + q.toNat * v[i].toNat) % 4294967296 + (M[i]'(by omega)).toNat) % 18446744073709551616) % 18446744073709551616 := by
    rw [hx, n_sub, n_sub, n_64, n_64, n_32, hC]
  obtain ⟨hs1, hs2⟩ := sub2 hu (Nat.mod_lt _ (by omega)) hb hxn
  refine ⟨?_, by rw [hhi]; omega, by rw [hb1]; exact hs2, ?_⟩
  · rw [List.drop_set_of_lt (by omega)]
    have := congrArg (List.drop 1) hMi
    rwa [List.drop_drop, List.drop_drop] at this
  · rw [val_set_take (by omega), val_take_succ (by omega), val_take_succ hi, hhi, hb1, n_32, ← hMl, Nat.pow_succ, Nat.mul_add q.toNat, Nat.mul_left_comm q.toNat]
    have hdm := Nat.div_add_mod (c.toNat + q.toNat * v[i].toNat) 4294967296
    have key : (M[i]'(by omega)).toNat + 4294967296 * ((c.toNat + q.toNat * v[i].toNat) / 4294967296 + x.toNat / 9223372036854775808) = x.toNat % 4294967296 + q.toNat * v[i].toNat + (c.toNat + b.toNat) := by omega
    have k2 := congrArg (4294967296 ^ i * ·) key
    simp only [Nat.mul_add] at k2 hinv ⊢
    simp only [Nat.mul_assoc] at k2 ⊢
    omega
/-- One step of the addition. -/
theorem add_step {M v L : List UInt32} {i : Nat} {c : UInt64} (hi : i < v.length) (hL : v.length < L.length) (hM : M.length = L.length) (hc : c.toNat ≤ 1)
    (hMi : M.drop i = L.drop i) (hinv : val (M.take i) + 4294967296 ^ i * c.toNat = val (L.take i) + val (v.take i)) :
    (M.set i (c + ((M[i]'(by omega)).toUInt64 + v[i].toUInt64)).toUInt32).drop (i + 1) = L.drop (i + 1) ∧ ((c + ((M[i]'(by omega)).toUInt64 + v[i].toUInt64)) >>> UInt64.ofNat 32).toNat ≤ 1 ∧
      val ((M.set i (c + ((M[i]'(by omega)).toUInt64 + v[i].toUInt64)).toUInt32).take (i + 1)) + 4294967296 ^ (i + 1) * ((c + ((M[i]'(by omega)).toUInt64 + v[i].toUInt64)) >>> UInt64.ofNat 32).toNat = val (L.take (i + 1)) + val (v.take (i + 1)) := by
  have hd := u32_lt v[i]
  have hMl : M[i]'(by omega) = L[i]'(by omega) := by
    have h1 := List.getElem?_drop (xs := M) (i := i) (j := 0)
    have h2 := List.getElem?_drop (xs := L) (i := i) (j := 0)
    rw [hMi] at h1
    rw [h1, Nat.add_zero, List.getElem?_eq_getElem (by omega), List.getElem?_eq_getElem (by omega)] at h2
    exact Option.some.inj h2
  have hu := u32_lt (M[i]'(by omega))
  have hC : (c + ((M[i]'(by omega)).toUInt64 + v[i].toUInt64)).toNat = c.toNat + ((M[i]'(by omega)).toNat + v[i].toNat) := by
    rw [n_add, n_add, n_64, n_64]; omega
  have hhi : ((c + ((M[i]'(by omega)).toUInt64 + v[i].toUInt64)) >>> UInt64.ofNat 32).toNat = (c.toNat + ((M[i]'(by omega)).toNat + v[i].toNat)) / 4294967296 := by rw [n_shr _ (by omega), hC]
  refine ⟨?_, by rw [hhi]; omega, ?_⟩
  · rw [List.drop_set_of_lt (by omega)]
    have := congrArg (List.drop 1) hMi
    rwa [List.drop_drop, List.drop_drop] at this
  · rw [val_set_take (by omega), val_take_succ (by omega), val_take_succ hi, hhi, n_32, hC, ← hMl, Nat.pow_succ]
    have key : (c.toNat + ((M[i]'(by omega)).toNat + v[i].toNat)) % 4294967296 + 4294967296 * ((c.toNat + ((M[i]'(by omega)).toNat + v[i].toNat)) / 4294967296) = (M[i]'(by omega)).toNat + v[i].toNat + c.toNat := by omega
    have k2 := congrArg (4294967296 ^ i * ·) key
    simp only [Nat.mul_add] at k2 hinv ⊢
    simp only [Nat.mul_assoc] at k2 ⊢
    omega
theorem lb_len_eq {n j : Nat} (h1 : 4294967296 ^ j ≤ n) (h2 : n < 4294967296 ^ (j + 1)) : (lb n).length = j + 1 := by
  have a := lb_lt h2
  have b := val_lt (lb n)
  rw [val_lb] at b
  have c := (Nat.pow_lt_pow_iff_right (a := 4294967296) (by omega)).1 (Nat.lt_of_le_of_lt h1 b)
  omega
theorem cmpN_neg {x y : Nat} : cmpN x y < 0 ↔ x < y := by
  unfold cmpN
  split
  · simp; assumption
  · split
    · simp; omega
    · simp; omega
/-- The divisor, shifted so that its highest bit is set, has as many limbs as before. -/
theorem norm_len {n k : Nat} (h : (lb n).length = k + 2) :
    32 - bl ((lb n)[k + 1]'(by omega)).toNat < 32 ∧ (lb (n * 2 ^ (32 - bl ((lb n)[k + 1]'(by omega)).toNat))).length = k + 2 := by
  have hn : 0 < n := by
    rcases Nat.eq_zero_or_pos n with h0 | h0
    · subst h0; simp [lb_zero] at h
    · exact h0
  have ht := lb_last (n := n) (i := k + 1) (by omega)
  have h1 := lb_ge hn
  rw [h] at h1
  have hb := (bl_spec ht).2
  have hp := bl_pos ht
  have h32 := bl_le (n := ((lb n)[k + 1]'(by omega)).toNat) (k := 32) (u32_lt _)
  have hv : n < (((lb n)[k + 1]'(by omega)).toNat + 1) * 4294967296 ^ (k + 1) := by
    have e := val_take_succ (l := lb n) (i := k + 1) (by omega)
    rw [List.take_of_length_le (by omega), val_lb] at e
    have := val_lt ((lb n).take (k + 1))
    rw [List.length_take, Nat.min_eq_left (by omega)] at this
    rw [Nat.mul_comm, Nat.mul_add]
    omega
  generalize ((lb n)[k + 1]'(by omega)).toNat = t at *
  refine ⟨by omega, lb_len_eq (j := k + 1) ?_ ?_⟩
  · exact Nat.le_trans h1 (Nat.le_mul_of_pos_right _ (Nat.pow_pos (by omega)))
  · have hs : 0 < 2 ^ (32 - bl t) := Nat.pow_pos (by omega)
    have a : n * 2 ^ (32 - bl t) < (t + 1) * 4294967296 ^ (k + 1) * 2 ^ (32 - bl t) := Nat.mul_lt_mul_of_pos_right hv hs
    have b : (t + 1) * 4294967296 ^ (k + 1) * 2 ^ (32 - bl t) ≤ 2 ^ bl t * 4294967296 ^ (k + 1) * 2 ^ (32 - bl t) := Nat.mul_le_mul_right _ (Nat.mul_le_mul_right _ hb)
    have c : 2 ^ bl t * 4294967296 ^ (k + 1) * 2 ^ (32 - bl t) = 4294967296 ^ (k + 1 + 1) := by
      rw [Nat.mul_right_comm, ← Nat.pow_add, show bl t + (32 - bl t) = 32 by omega, Nat.pow_succ 4294967296 (k + 1), Nat.mul_comm]
    omega
theorem u64_zero {x : UInt64} (h : x.toNat = 0) : x = 0 := UInt64.toNat_inj.1 h
theorem set_last {M : List UInt32} {n : Nat} (h : M.length = n + 1) (x : UInt32) : val (M.set n x) = val (M.take n) + 4294967296 ^ n * x.toNat := by
  have := val_set_take (l := M) (i := n) (by omega) x
  rwa [List.take_of_length_le (by simp; omega)] at this
theorem val_last {M : List UInt32} {n : Nat} (h : M.length = n + 1) : val M = val (M.take n) + 4294967296 ^ n * (M[n]'(by omega)).toNat := by
  rw [← val_take_succ (by omega), List.take_of_length_le (by omega)]
theorem drop_get {M L : List UInt32} {i : Nat} (h : M.drop i = L.drop i) (h1 : i < M.length) (h2 : i < L.length) : M[i] = L[i] := by
  have e1 := List.getElem?_drop (xs := M) (i := i) (j := 0)
  have e2 := List.getElem?_drop (xs := L) (i := i) (j := 0)
  rw [h] at e1
  rw [e1, Nat.add_zero, List.getElem?_eq_getElem h1, List.getElem?_eq_getElem h2] at e2
  exact Option.some.inj e2
/-- The last limb of the subtraction. -/
theorem red_top {L v M : List UInt32} {q c b x : UInt64} (hL : L.length = v.length + 1) (hM : M.length = L.length) (hc : c.toNat < 4294967296) (hb : b.toNat ≤ 1)
    (hMi : M.drop v.length = L.drop v.length) (hinv : val (L.take v.length) + 4294967296 ^ v.length * (c.toNat + b.toNat) = val (M.take v.length) + q.toNat * val (v.take v.length))
    (hx : x = (M[v.length]'(by omega)).toUInt64 - c - b) :
    val L + 4294967296 ^ (v.length + 1) * (x.toNat / 9223372036854775808) = val (M.set v.length x.toUInt32) + q.toNat * val v ∧ x.toNat / 9223372036854775808 ≤ 1 := by
  have hu := u32_lt (M[v.length]'(by omega))
  have hxn : x.toNat = (18446744073709551616 - b.toNat + (18446744073709551616 - c.toNat + (M[v.length]'(by omega)).toNat) % 18446744073709551616) % 18446744073709551616 := by
    rw [hx, n_sub, n_sub, n_64]
  obtain ⟨hs1, hs2⟩ := sub2 hu hc hb hxn
  refine ⟨?_, hs2⟩
  rw [set_last (by omega), n_32, val_last hL, ← drop_get hMi (by omega) (by omega), Nat.pow_succ]
  rw [List.take_length (l := v)] at hinv
  have k2 := congrArg (4294967296 ^ v.length * ·) hs1
  simp only [Nat.mul_add] at k2 hinv ⊢
  simp only [Nat.mul_assoc] at k2 ⊢
  omega
/-- Where the difference is negative, the divisor is added again. -/
theorem red_back {L v N M : List UInt32} {q : Nat} {c : UInt64} (hL : L.length = v.length + 1) (hN : N.length = L.length) (hM : M.length = L.length) (hc : c.toNat ≤ 1) (hMi : M.drop v.length = N.drop v.length)
    (hinv : val (M.take v.length) + 4294967296 ^ v.length * c.toNat = val (N.take v.length) + val (v.take v.length)) (ht : val L + 4294967296 ^ (v.length + 1) = val N + q * val v) (h1 : (q - 1) * val v ≤ val L) :
    0 < q ∧ val L = (q - 1) * val v + val (M.set v.length ((M[v.length]'(by omega)) + c.toUInt32)) ∧ val (M.set v.length ((M[v.length]'(by omega)) + c.toUInt32)) < val v := by
  have hu := u32_lt (M[v.length]'(by omega))
  have hNl := val_lt N
  rw [hN, hL] at hNl
  have hq : 0 < q := by
    rcases Nat.eq_zero_or_pos q with h | h
    · subst h; omega
    · exact h
  obtain ⟨p, rfl⟩ : ∃ p, q = p + 1 := ⟨q - 1, by omega⟩
  rw [Nat.add_sub_cancel] at h1 ⊢
  rw [Nat.add_mul, Nat.one_mul] at ht
  have hlast : ((M[v.length]'(by omega)) + c.toUInt32).toNat = ((M[v.length]'(by omega)).toNat + c.toNat) % 4294967296 := by
    rw [UInt32.toNat_add, n_32]; omega
  have hF := set_last (show M.length = v.length + 1 by omega) ((M[v.length]'(by omega)) + c.toUInt32)
  have hFl := val_lt (M.set v.length ((M[v.length]'(by omega)) + c.toUInt32))
  have hFe : (M.set v.length ((M[v.length]'(by omega)) + c.toUInt32)).length = v.length + 1 := by simp; omega
  rw [hFe] at hFl
  have hNe := val_last (show N.length = v.length + 1 by omega)
  rw [← drop_get hMi (by omega) (by omega)] at hNe
  rw [List.take_length (l := v)] at hinv
  have hdm := Nat.div_add_mod ((M[v.length]'(by omega)).toNat + c.toNat) 4294967296
  have hs : ((M[v.length]'(by omega)).toNat + c.toNat) / 4294967296 ≤ 1 := by omega
  have key : val (M.set v.length ((M[v.length]'(by omega)) + c.toUInt32)) + 4294967296 ^ (v.length + 1) * (((M[v.length]'(by omega)).toNat + c.toNat) / 4294967296) = val N + val v := by
    rw [hF, hlast, hNe, Nat.pow_succ]
    have k2 := congrArg (4294967296 ^ v.length * ·) hdm
    simp only [Nat.mul_add] at k2 ⊢
    simp only [Nat.mul_assoc] at k2 ⊢
    omega
  generalize val (M.set v.length ((M[v.length]'(by omega)) + c.toUInt32)) = F at *
  generalize ((M[v.length]'(by omega)).toNat + c.toNat) / 4294967296 = s at *
  rcases (show s = 0 ∨ s = 1 by omega) with rfl | rfl
  · omega
  · refine ⟨by omega, by omega, by omega⟩
/-- One round of the long division, on whole numbers. -/
theorem div_round {A Q V X lo part q part' P : Nat} (hX : X = lo + P * part) (hlo : lo < P) (hA : A = Q * (P * 4294967296) * V + X) (hp : part = q * V + part') (hr : part' < V) :
    A = (q + 4294967296 * Q) * P * V + (lo + P * part') ∧ lo + P * part' < P * V := by
  constructor
  · rw [hA, hX, hp, Nat.mul_add P, Nat.add_mul q, Nat.add_mul]
    have e1 : 4294967296 * Q * P * V = Q * (P * 4294967296) * V := by
      rw [Nat.mul_comm 4294967296 Q, Nat.mul_assoc Q, Nat.mul_comm 4294967296 P]
    have e2 : q * P * V = P * (q * V) := by rw [Nat.mul_comm q P, Nat.mul_assoc]
    rw [e1, e2]; omega
  · have : P * (part' + 1) ≤ P * V := Nat.mul_le_mul_left _ hr
    rw [Nat.mul_add] at this
    omega
end Go.Rl
/- Plain maths: steps of the reference's algorithms on limbs. Conditions: each lemma names its own. -/
namespace Go.Rl

theorem val_take_getD (l : List UInt32) (i : Nat) : val (l.take (i + 1)) = val (l.take i) + 4294967296 ^ i * (l.getD i 0).toNat := by
  rcases Nat.lt_or_ge i l.length with h | h
  · rw [val_take_succ h]; simp [List.getD, List.getElem?_eq_getElem h]
  · rw [List.take_of_length_le h, List.take_of_length_le (by omega)]; simp [List.getD, List.getElem?_eq_none h]
theorem val_take_all (l : List UInt32) {i : Nat} (h : l.length ≤ i) : val (l.take i) = val l := by rw [List.take_of_length_le h]
def pad (l : List UInt32) (n : Nat) : List UInt32 := l ++ List.replicate (n - l.length) 0
theorem pad_len {l : List UInt32} {n : Nat} (h : l.length ≤ n) : (pad l n).length = n := by simp [pad]; omega
theorem pad_val (l : List UInt32) (n : Nat) : val (pad l n) = val l := by simp [pad, val_append, val_zeros]
theorem pad_get {l : List UInt32} {n i : Nat} (h : i < (pad l n).length) : (pad l n)[i] = l.getD i 0 := by
  unfold pad at h ⊢
  rcases Nat.lt_or_ge i l.length with h1 | h1
  · rw [List.getElem_append_left h1]; simp [List.getD, List.getElem?_eq_getElem h1]
  · rw [List.getElem_append_right h1]; simp [List.getD, List.getElem?_eq_none h1]
theorem pad_lt {l m : List UInt32} {n j : Nat} (hl : l.length ≤ n) (hm : m.length ≤ n) (hj : j < n) (hd : (pad l n).drop (j + 1) = (pad m n).drop (j + 1)) (h : (l.getD j 0).toNat < (m.getD j 0).toNat) : val l < val m := by
  rw [← pad_val l n, ← pad_val m n]
  exact val_cmp (by rw [pad_len hl]; exact hj) (by rw [pad_len hm]; exact hj) hd (by rw [pad_get, pad_get]; exact h)
theorem pad_next {l m : List UInt32} {n j : Nat} (hl : l.length ≤ n) (hm : m.length ≤ n) (hj : j < n) (hd : (pad l n).drop (j + 1) = (pad m n).drop (j + 1)) (h : (l.getD j 0).toNat = (m.getD j 0).toNat) : (pad l n).drop j = (pad m n).drop j := by
  have h1 := List.drop_eq_getElem_cons (l := pad l n) (i := j) (by rw [pad_len hl]; exact hj)
  have h2 := List.drop_eq_getElem_cons (l := pad m n) (i := j) (by rw [pad_len hm]; exact hj)
  rw [h1, h2, hd, pad_get, pad_get, u32_ext h]
theorem pad_all {l m : List UInt32} {n : Nat} (h : pad l n = pad m n) : val l = val m := by rw [← pad_val l n, ← pad_val m n, h]

theorem radd_step {a b O : List UInt32} {i : Nat} {c : UInt64} (hO : O.length = i) (hc : c.toNat ≤ 1) (hinv : val O + 4294967296 ^ i * c.toNat = val (a.take i) + val (b.take i)) :
    val (O ++ [(c + ((a.getD i 0).toUInt64 + (b.getD i 0).toUInt64)).toUInt32]) + 4294967296 ^ (i + 1) * ((c + ((a.getD i 0).toUInt64 + (b.getD i 0).toUInt64)) >>> UInt64.ofNat 32).toNat = val (a.take (i + 1)) + val (b.take (i + 1)) ∧
      ((c + ((a.getD i 0).toUInt64 + (b.getD i 0).toUInt64)) >>> UInt64.ofNat 32).toNat ≤ 1 := by
  have ha := u32_lt (a.getD i 0)
  have hb := u32_lt (b.getD i 0)
  have hC : (c + ((a.getD i 0).toUInt64 + (b.getD i 0).toUInt64)).toNat = c.toNat + ((a.getD i 0).toNat + (b.getD i 0).toNat) := by rw [n_add, n_add, n_64, n_64]; omega
  have hhi : ((c + ((a.getD i 0).toUInt64 + (b.getD i 0).toUInt64)) >>> UInt64.ofNat 32).toNat = (c.toNat + ((a.getD i 0).toNat + (b.getD i 0).toNat)) / 4294967296 := by rw [n_shr _ (by omega), hC]
  refine ⟨?_, by rw [hhi]; omega⟩
  rw [val_append, val_one, hO, n_32, hhi, hC, val_take_getD, val_take_getD, Nat.pow_succ]
  have key := Nat.div_add_mod (c.toNat + ((a.getD i 0).toNat + (b.getD i 0).toNat)) 4294967296
  have k2 := congrArg (4294967296 ^ i * ·) key
  simp only [Nat.mul_add] at k2 hinv ⊢
  simp only [Nat.mul_assoc] at k2 ⊢
  omega
/-- The last limb of the sum. -/
theorem radd_end {O : List UInt32} {i : Nat} {c : UInt64} (hO : O.length = i) (hc : c.toNat ≤ 1) : val (O ++ [c.toUInt32]) = val O + 4294967296 ^ i * c.toNat := by
  rw [val_append, val_one, hO, n_32, Nat.mod_eq_of_lt (by omega)]
theorem rsub_step {a b O : List UInt32} {i : Nat} {d : UInt64} (hO : O.length = i) (hd : d.toNat ≤ 1) (hinv : val (a.take i) + 4294967296 ^ i * d.toNat = val O + val (b.take i)) {x y : UInt64}
    (h : (x = (a.getD i 0).toUInt64 + 4294967296 ∧ (a.getD i 0).toNat < (b.getD i 0).toNat + d.toNat ∧ y = 1) ∨ (x = (a.getD i 0).toUInt64 ∧ (b.getD i 0).toNat + d.toNat ≤ (a.getD i 0).toNat ∧ y = 0)) :
    val (a.take (i + 1)) + 4294967296 ^ (i + 1) * y.toNat = val (O ++ [(x - ((b.getD i 0).toUInt64 + d)).toUInt32]) + val (b.take (i + 1)) ∧ y.toNat ≤ 1 := by
  have ha := u32_lt (a.getD i 0)
  have hb := u32_lt (b.getD i 0)
  have hy : ((b.getD i 0).toUInt64 + d).toNat = (b.getD i 0).toNat + d.toNat := by rw [n_add, n_64]; omega
  have e1 : (1 : UInt64).toNat = 1 := rfl
  have e0 : (0 : UInt64).toNat = 0 := rfl
  have key : (a.getD i 0).toNat + 4294967296 * y.toNat = (x - ((b.getD i 0).toUInt64 + d)).toUInt32.toNat + ((b.getD i 0).toNat + d.toNat) ∧ y.toNat ≤ 1 := by
    rcases h with ⟨rfl, h, rfl⟩ | ⟨rfl, h, rfl⟩
    · have hx : ((a.getD i 0).toUInt64 + 4294967296).toNat = (a.getD i 0).toNat + 4294967296 := by
        rw [n_add, n_64]
        show ((a.getD i 0).toNat + 4294967296) % 18446744073709551616 = _
        omega
      rw [n_32, n_sub, hy, hx, e1]
      omega
    · rw [n_32, n_sub, hy, n_64, e0]
      omega
  refine ⟨?_, key.2⟩
  rw [val_append, val_one, hO, val_take_getD, val_take_getD, Nat.pow_succ]
  have k2 := congrArg (4294967296 ^ i * ·) key.1
  simp only [Nat.mul_add] at k2 hinv ⊢
  simp only [Nat.mul_assoc] at k2 ⊢
  omega
theorem rshl_step {a O : List UInt32} {i q s : Nat} {c : UInt64} (hs : s < 32) (hi : i < a.length) (hO : O.length = q + i) (hc : c.toNat < 2 ^ s) (hinv : val O + 4294967296 ^ (q + i) * c.toNat = val (a.take i) * (4294967296 ^ q * 2 ^ s)) :
    val (O ++ [(c ||| a[i].toUInt64 <<< UInt64.ofNat s).toUInt32]) + 4294967296 ^ (q + (i + 1)) * ((c ||| a[i].toUInt64 <<< UInt64.ofNat s) >>> UInt64.ofNat 32).toNat = val (a.take (i + 1)) * (4294967296 ^ q * 2 ^ s) ∧
      ((c ||| a[i].toUInt64 <<< UInt64.ofNat s) >>> UInt64.ofNat 32).toNat < 2 ^ s := by
  have ha := u32_lt a[i]
  have hps : 2 ^ s ≤ 2 ^ 31 := Nat.pow_le_pow_right (by omega) (by omega)
  have hsh : (a[i].toUInt64 <<< UInt64.ofNat s).toNat = 2 ^ s * a[i].toNat := by
    rw [n_shl _ (by omega), n_64, Nat.mod_eq_of_lt, Nat.mul_comm]
    have : a[i].toNat * 2 ^ s ≤ 4294967295 * 2 ^ 31 := Nat.mul_le_mul (by omega) hps
    omega
  have hC : (c ||| a[i].toUInt64 <<< UInt64.ofNat s).toNat = c.toNat + 2 ^ s * a[i].toNat := by rw [n_or, hsh, nor _ _ _ hc]
  have hhi : ((c ||| a[i].toUInt64 <<< UInt64.ofNat s) >>> UInt64.ofNat 32).toNat = (c.toNat + 2 ^ s * a[i].toNat) / 4294967296 := by rw [n_shr _ (by omega), hC]
  refine ⟨?_, ?_⟩
  · rw [val_append, val_one, hO, n_32, hhi, hC, val_take_succ hi, Nat.add_mul, ← hinv, ← Nat.add_assoc q i 1, Nat.pow_succ, Nat.pow_add]
    have key := Nat.div_add_mod (c.toNat + 2 ^ s * a[i].toNat) 4294967296
    have k2 := congrArg (4294967296 ^ q * 4294967296 ^ i * ·) key
    have e : 4294967296 ^ i * a[i].toNat * (4294967296 ^ q * 2 ^ s) = 4294967296 ^ q * 4294967296 ^ i * (2 ^ s * a[i].toNat) := by
      simp only [Nat.mul_comm, Nat.mul_left_comm, Nat.mul_assoc]
    rw [e]
    simp only [Nat.mul_add] at k2 ⊢
    simp only [Nat.mul_assoc] at k2 ⊢
    omega
  · rw [hhi, Nat.div_lt_iff_lt_mul (by omega)]
    have h1 : 2 ^ s * (a[i].toNat + 1) ≤ 2 ^ s * 4294967296 := Nat.mul_le_mul_left _ ha
    rw [Nat.mul_add] at h1
    omega
/-- Bit i of a number, out of its limbs. -/
theorem bit_of {a : List UInt32} {i : Nat} (hi : i / 32 < a.length) : ((a[i / 32] >>> UInt32.ofNat (i % 32)) &&& 1).toNat = val a / 2 ^ i % 2 := by
  have hs : i % 32 < 32 := Nat.mod_lt _ (by omega)
  have e1 : ((a[i / 32] >>> UInt32.ofNat (i % 32)) &&& 1).toNat = a[i / 32].toNat / 2 ^ (i % 32) % 2 := by
    rw [UInt32.toNat_and, n_shr32 _ hs]
    show _ &&& 1 = _
    rw [Nat.and_one_is_mod]
  have h1 := val_split a (i / 32) (by omega)
  have h2 := val_lt (a.take (i / 32))
  rw [List.length_take, Nat.min_eq_left (by omega)] at h2
  have h3 : (4294967296 : Nat) ^ (i / 32) = 2 ^ (32 * (i / 32)) := by rw [Nat.pow_mul]
  rw [h3] at h1 h2
  have h4 : val a / 2 ^ (32 * (i / 32)) = val (a.drop (i / 32)) := by
    rw [h1, Nat.add_mul_div_left _ _ (Nat.pow_pos (by omega)), Nat.div_eq_of_lt h2, Nat.zero_add]
  have h5 : val a / 2 ^ i = val (a.drop (i / 32)) / 2 ^ (i % 32) := by
    rw [← h4, Nat.div_div_eq_div_mul, ← Nat.pow_add, Nat.div_add_mod]
  rw [e1, h5, val_drop hi]
  have hp : 2 ^ (i % 32) * 2 ^ (32 - i % 32) = 4294967296 := by rw [← Nat.pow_add, show i % 32 + (32 - i % 32) = 32 by omega]
  obtain ⟨k, hk⟩ : ∃ k, 32 - i % 32 = k + 1 := ⟨31 - i % 32, by omega⟩
  rw [← hp, Nat.mul_assoc, Nat.add_mul_div_left _ _ (Nat.pow_pos (by omega)), hk, Nat.pow_succ, Nat.mul_comm (2 ^ k) 2, Nat.mul_assoc, Nat.add_mul_mod_self_left]
/-- Setting bit i of a number whose bits up to i are 0. -/
theorem setbit {a : List UInt32} {i t : Nat} (hi : i / 32 < a.length) (hv : val a = 2 ^ (i + 1) * t) : val (a.set (i / 32) (a[i / 32] ||| (1 : UInt32) <<< UInt32.ofNat (i % 32))) = val a + 2 ^ i := by
  have hs : i % 32 < 32 := Nat.mod_lt _ (by omega)
  have h1 := val_split a (i / 32) (by omega)
  have h2 := val_lt (a.take (i / 32))
  rw [List.length_take, Nat.min_eq_left (by omega)] at h2
  have h3 : (4294967296 : Nat) ^ (i / 32) = 2 ^ (32 * (i / 32)) := by rw [Nat.pow_mul]
  have h4 : val (a.drop (i / 32)) = 2 ^ (i % 32 + 1) * t := by
    have e : val a / 2 ^ (32 * (i / 32)) = val (a.drop (i / 32)) := by
      rw [h3] at h1 h2
      rw [h1, Nat.add_mul_div_left _ _ (Nat.pow_pos (by omega)), Nat.div_eq_of_lt h2, Nat.zero_add]
    rw [← e, hv, show i + 1 = 32 * (i / 32) + (i % 32 + 1) by omega, Nat.pow_add, Nat.mul_assoc, Nat.mul_div_cancel_left _ (Nat.pow_pos (by omega))]
  have h5 : a[i / 32].toNat = 2 ^ (i % 32 + 1) * (t % 2 ^ (31 - i % 32)) := by
    have e := val_drop hi
    rw [h4] at e
    have e2 : a[i / 32].toNat = 2 ^ (i % 32 + 1) * t % 4294967296 := by
      rw [e, Nat.add_mul_mod_self_left, Nat.mod_eq_of_lt (u32_lt _)]
    have hp : 2 ^ (i % 32 + 1) * 2 ^ (31 - i % 32) = 4294967296 := by rw [← Nat.pow_add, show i % 32 + 1 + (31 - i % 32) = 32 by omega]
    rw [e2, ← hp, Nat.mul_mod_mul_left]
  have h6 : ((1 : UInt32) <<< UInt32.ofNat (i % 32)).toNat = 2 ^ (i % 32) := by
    rw [n_shl32 _ hs]
    show 1 * 2 ^ (i % 32) % 4294967296 = _
    have : 2 ^ (i % 32) ≤ 2 ^ 31 := Nat.pow_le_pow_right (by omega) (by omega)
    rw [Nat.one_mul, Nat.mod_eq_of_lt (by omega)]
  have h7 : (a[i / 32] ||| (1 : UInt32) <<< UInt32.ofNat (i % 32)).toNat = a[i / 32].toNat + 2 ^ (i % 32) := by
    rw [n_or32, h6, h5, Nat.or_comm, nor _ _ _ (Nat.pow_lt_pow_right (by omega) (by omega)), Nat.add_comm]
  have h8 := val_set_take hi (a[i / 32] ||| (1 : UInt32) <<< UInt32.ofNat (i % 32))
  have h9 := val_split (a.set (i / 32) (a[i / 32] ||| (1 : UInt32) <<< UInt32.ofNat (i % 32))) (i / 32 + 1) (by simp; omega)
  rw [h8, List.drop_set_of_lt (by omega), h7] at h9
  have h10 := val_split a (i / 32 + 1) (by omega)
  rw [val_take_succ hi] at h10
  rw [h9, h10, Nat.mul_add]
  have e : 4294967296 ^ (i / 32) * 2 ^ (i % 32) = 2 ^ i := by rw [h3, ← Nat.pow_add, Nat.div_add_mod]
  rw [e]; omega
/-- One round of division bit by bit. -/
theorem rdiv_round {N V i : Nat} (hV : 0 < V) :
    N / 2 ^ i = 2 * (N / 2 ^ (i + 1)) + N / 2 ^ i % 2 ∧ (V ≤ 2 * (N / 2 ^ (i + 1) % V) + N / 2 ^ i % 2 → N / 2 ^ i % V = 2 * (N / 2 ^ (i + 1) % V) + N / 2 ^ i % 2 - V ∧ N / 2 ^ i / V = 2 * (N / 2 ^ (i + 1) / V) + 1) ∧
      (2 * (N / 2 ^ (i + 1) % V) + N / 2 ^ i % 2 < V → N / 2 ^ i % V = 2 * (N / 2 ^ (i + 1) % V) + N / 2 ^ i % 2 ∧ N / 2 ^ i / V = 2 * (N / 2 ^ (i + 1) / V)) := by
  have e : N / 2 ^ (i + 1) = N / 2 ^ i / 2 := by rw [Nat.pow_succ, Nat.div_div_eq_div_mul]
  rw [e]
  generalize N / 2 ^ i = M
  have h1 : M = 2 * (M / 2) + M % 2 := by omega
  have h2 := Nat.div_add_mod (M / 2) V
  have h3 := Nat.mod_lt (M / 2) hV
  refine ⟨h1, fun h => ?_, fun h => ?_⟩
  · have key : M = V * (2 * (M / 2 / V) + 1) + (2 * (M / 2 % V) + M % 2 - V) := by
      rw [Nat.mul_add, Nat.mul_left_comm]; omega
    have hlt : 2 * (M / 2 % V) + M % 2 - V < V := by omega
    constructor
    · conv => lhs; rw [key]
      rw [Nat.mul_add_mod, Nat.mod_eq_of_lt hlt]
    · conv => lhs; rw [key]
      rw [Nat.mul_add_div hV, Nat.div_eq_of_lt hlt, Nat.add_zero]
  · have key : M = V * (2 * (M / 2 / V)) + (2 * (M / 2 % V) + M % 2) := by
      rw [Nat.mul_left_comm]; omega
    constructor
    · conv => lhs; rw [key]
      rw [Nat.mul_add_mod, Nat.mod_eq_of_lt h]
    · conv => lhs; rw [key]
      rw [Nat.mul_add_div hV, Nat.div_eq_of_lt h, Nat.add_zero]
theorem bl_step {n : Nat} (h : 0 < n) : bl n = bl (n / 2) + 1 := by
  rcases (show n = 1 ∨ 2 ≤ n by omega) with rfl | h1
  · rfl
  · have := bl_shift (n := n) (s := 1) (by omega)
    rw [Nat.pow_one] at this
    omega
end Go.Rl
/- Walks of package relucertref01. Conditions: the numbers are shorter than 2^39 limbs. -/
namespace Go.Rl
open Go.RowKit Go.Proofs
theorem call_RMake : Callable Try.prog 76 := ⟨_, Try.func76, by kernel_rfl, rfl⟩
theorem call_ROf : Callable Try.prog 81 := ⟨_, Try.func81, by kernel_rfl, rfl⟩
theorem call_RUint : Callable Try.prog 80 := ⟨_, Try.func80, by kernel_rfl, rfl⟩
theorem call_RLimb : Callable Try.prog 93 := ⟨_, Try.func93, by kernel_rfl, rfl⟩
theorem call_RCmp : Callable Try.prog 85 := ⟨_, Try.func85, by kernel_rfl, rfl⟩
theorem call_RSame : Callable Try.prog 57 := ⟨_, Try.func57, by kernel_rfl, rfl⟩
theorem call_RAdd : Callable Try.prog 84 := ⟨_, Try.func84, by kernel_rfl, rfl⟩
theorem call_RSub : Callable Try.prog 86 := ⟨_, Try.func86, by kernel_rfl, rfl⟩
theorem call_RShl : Callable Try.prog 83 := ⟨_, Try.func83, by kernel_rfl, rfl⟩
theorem call_RBits : Callable Try.prog 82 := ⟨_, Try.func82, by kernel_rfl, rfl⟩

theorem RMake_own {w : World} {l : List UInt32} {v : Value} (hv : Wds l v w) (hl : l.length ≤ 8796093022208) :
    Calls Try.prog 76 #[v] w (Ret fun r w' => Ext w w' ∧ OwnW w.heap.size (lb (val l)) r w') := by
  refine enter (vs := [v]) Try.func76 rfl rfl rfl ?_
  refine c_seq (c_region (o_assign rfl rfl (o_nil (n_then (c_seq (c_region (o_move rfl rfl (o_len rfl rfl (r_lenW Try.underlying32 hv) (o_assign rfl rfl (o_nil (n_then (c_seq ?_))))))))))))
  refine c_block ?_
  refine c_loop (α := Nat) (fun n => [(0, v), (3, I (n : Int))]) (fun n w' => w = w' ∧ n ≤ l.length ∧ val (l.take n) = val l) (fun n => n) (l.length) ⟨rfl, rfl, trivial⟩ ⟨rfl, Nat.le_refl _, by rw [List.take_length]⟩ ?_
  rintro n _ ⟨rfl, hn, hval⟩
  refine c_seq (c_seq (c_region (o_move rfl rfl (o_bin rfl rfl rfl (r_gtr_i) (o_move rfl rfl ?_)))))
  refine o_dec (fun h8 => ?_) (fun h8 => ?_)
  · refine g_yes rfl (o_move rfl rfl (g_yes rfl (o_move rfl rfl (g_yes rfl (o_bin (r := I ((n - 1 : Nat) : Int)) rfl rfl rfl (by have e : ((n - 1 : Nat) : Int) = (n : Int) - 1 := (by omega); rw [e]; exact r_sub_i (by omega) (by omega)) ?_)))))
    refine g_yes rfl ?_
    obtain ⟨a12, p12, q12⟩ := r_ixW Try.underlying32 hv (i := (n - 1 : Nat)) (by omega) .i64
    refine o_indexAddr rfl rfl rfl (p12 _) (g_yes rfl (o_load rfl rfl (r_load1 Try.underlying79 rfl q12) (g_yes rfl (o_bin (v := U32 0) rfl rfl rfl (r_eql_u32) (o_pick_t rfl rfl rfl ?_)))))
    refine o_nil (n_then ?_)
    refine c_if rfl (fun h15 => ?_) (fun h15 => ?_)
    · refine c_skip (n_then (c_block (c_region (o_move rfl rfl (o_bin (r := I ((n - 1 : Nat) : Int)) rfl rfl rfl (by have e : ((n - 1 : Nat) : Int) = (n : Int) - 1 := (by omega); rw [e]; exact r_sub_i (by omega) (by omega)) ?_)))))
      refine o_assign rfl rfl (o_nil (n_block ?_))
      refine n_round (n - 1) ⟨rfl, rfl, trivial⟩ ⟨rfl, by omega, by rw [trim_step (by omega) hn h15]; exact hval⟩ (by omega)
    · refine c_exit (x_then (x_then (x_here (n_then (c_seq (c_region ?_))))))
      obtain ⟨v18, w18, hr18, x18, o18, ob18⟩ := r_bsW Try.underlying33 (w := w) w.heap.size [] (by simp) (Nat.le_refl _)
      refine o_buildSlice (vs := []) rfl rfl hr18 (o_move rfl rfl (o_move rfl rfl ?_))
      obtain ⟨v21, p21, b21⟩ := r_slW_hi Try.underlying32 (hv.ext x18) (hi := n) hn .i64
      refine o_slice rfl rfl rfl rfl rfl (p21 _) ?_
      obtain ⟨v22, w22, hr22, o22, g22⟩ := r_appW2 Try.underlying33 Try.underlying32 (ty := 33) o18 b21 (by simp; omega) (x18).size
      have x22 := Ext.of_grew (x18) g22 o18.ge
      refine o_append rfl rfl hr22 (o_assign rfl rfl (o_nil (n_then (c_ret (r_body1 rfl rfl ?_)))))
      exact ⟨_, rfl, x22, by
        have e : lb (val l) = l.take n := by
          first
          | rw [← hval, trim_done (by omega) hn h15]
          | (have h0 : n = 0 := by omega
             subst h0
             rw [← hval]; rfl)
        rw [e]; simpa using o22⟩
  · refine g_no rfl rfl rfl (g_no rfl rfl rfl (g_no rfl rfl rfl (g_no rfl rfl rfl (g_no rfl rfl rfl (g_no rfl rfl rfl (o_pick_f rfl rfl rfl (o_nil (n_then (c_no rfl (c_exit (x_then (x_then ?_))))))))))))
    refine x_here (n_then (c_seq (c_region ?_)))
    obtain ⟨v18, w18, hr18, x18, o18, ob18⟩ := r_bsW Try.underlying33 (w := w) w.heap.size [] (by simp) (Nat.le_refl _)
    refine o_buildSlice (vs := []) rfl rfl hr18 (o_move rfl rfl (o_move rfl rfl ?_))
    obtain ⟨v21, p21, b21⟩ := r_slW_hi Try.underlying32 (hv.ext x18) (hi := n) hn .i64
    refine o_slice rfl rfl rfl rfl rfl (p21 _) ?_
    obtain ⟨v22, w22, hr22, o22, g22⟩ := r_appW2 Try.underlying33 Try.underlying32 (ty := 33) o18 b21 (by simp; omega) (x18).size
    have x22 := Ext.of_grew (x18) g22 o18.ge
    refine o_append rfl rfl hr22 (o_assign rfl rfl (o_nil (n_then (c_ret (r_body1 rfl rfl ?_)))))
    exact ⟨_, rfl, x22, by
      have e : lb (val l) = l.take n := by
        first
        | rw [← hval, trim_done (by omega) hn h15]
        | (have h0 : n = 0 := by omega
           subst h0
           rw [← hval]; rfl)
      rw [e]; simpa using o22⟩
theorem RMake_spec {w : World} {l : List UInt32} {v : Value} (hv : Wds l v w) (hl : l.length ≤ 8796093022208) :
    Calls Try.prog 76 #[v] w (Ret fun r w' => Ext w w' ∧ Wds (lb (val l)) r w') :=
  (RMake_own hv hl).mono fun _ _ ⟨r, he, h1, h2⟩ => ⟨r, he, h1, h2.wds⟩
theorem ROf_spec {w : World} {x : UInt64} :
    Calls Try.prog 81 #[U64 x] w (Ret fun r w' => Ext w w' ∧ Wds (lb x.toNat) r w') := by
  refine enter (vs := [U64 x]) Try.func81 rfl rfl rfl ?_
  refine c_seq (c_region (o_assign rfl rfl (o_nil (n_then (c_seq (c_region (o_move rfl rfl (o_conv rfl rfl (r_u64_u32 Try.underlying31 Try.underlying79) (o_move rfl rfl ?_)))))))))
  refine o_bin rfl rfl rfl (r_shr_u64 32 (by omega)) (o_conv rfl rfl (r_u64_u32 Try.underlying31 Try.underlying79) ?_)
  obtain ⟨v8, w8, hr8, x8, o8, ob8⟩ := r_bsW Try.underlying32 (w := w) w.heap.size [x.toUInt32, (x >>> UInt64.ofNat 32).toUInt32] (by simp) (Nat.le_refl _)
  refine o_buildSlice (vs := [(0, U32 (x.toUInt32)), (1, U32 ((x >>> UInt64.ofNat 32).toUInt32))]) rfl rfl hr8 (o_call call_RMake rfl rfl (RMake_spec o8.wds (by simp)) ?_)
  rintro v9 w9 ⟨x9, b9⟩
  refine o_assign rfl rfl (o_nil (n_then (c_ret (r_body1 rfl rfl ?_))))
  exact ⟨_, rfl, (x8.trans x9), by
    have e : val [x.toUInt32, (x >>> UInt64.ofNat 32).toUInt32] = x.toNat := by
      have h1 := n_32 x
      have h2 : ((x >>> UInt64.ofNat 32).toUInt32).toNat = x.toNat / 4294967296 := by
        have := u64_lt x
        rw [n_32, u64_shr32]
        omega
      simp only [val, h1, h2]; omega
    rw [e] at b9; exact b9⟩
theorem RLimb_spec {w : World} {l : List UInt32} {v : Value} {i : Nat} (hv : Wds l v w) :
    Calls Try.prog 93 #[v, I (i : Int)] w (Ret fun r w' => w = w' ∧ r = U32 (l.getD i 0)) := by
  refine enter (vs := [v, I (i : Int)]) Try.func93 rfl rfl rfl ?_
  refine c_seq (c_region (o_assign rfl rfl (o_nil (n_then (c_seq (c_seq (c_region (o_move rfl rfl (o_move rfl rfl (o_len rfl rfl (r_lenW Try.underlying33 hv) (o_bin rfl rfl rfl (r_lss_i) ?_)))))))))))
  refine o_nil (n_then ?_)
  refine c_if rfl (fun h8 => ?_) (fun h8 => ?_)
  · refine c_seq (c_region (o_move rfl rfl (o_move rfl rfl ?_)))
    obtain ⟨a11, p11, q11⟩ := r_ixW Try.underlying33 hv (i := i) (by omega) .i64
    refine o_indexAddr rfl rfl rfl (p11 _) (o_load rfl rfl (r_load1 Try.underlying79 rfl q11) (o_assign rfl rfl (o_nil (n_then (c_ret (r_then (r_body1 rfl rfl ?_)))))))
    exact ⟨_, rfl, rfl, by simp [List.getD, List.getElem?_eq_getElem (show i < l.length by omega)]⟩
  · refine c_skip (n_then (c_seq (c_region (o_assign rfl rfl (o_nil (n_then (c_ret (r_body1 rfl rfl ?_))))))))
    exact ⟨_, rfl, rfl, by simp [List.getD, List.getElem?_eq_none (show l.length ≤ i by omega)]; rfl⟩
theorem RCmp_spec {w : World} {l m : List UInt32} {v u : Value} (hv : Wds l v w) (hu : Wds m u w) :
    Calls Try.prog 85 #[v, u] w (Ret fun r w' => w = w' ∧ r = I (cmpN (val l) (val m))) := by
  refine enter (vs := [v, u]) Try.func85 rfl rfl rfl ?_
  have hll := hv.len
  have hml := hu.len
  obtain ⟨n, hn⟩ : ∃ n, n = max l.length m.length := ⟨_, rfl⟩
  have hln : l.length ≤ n := by omega
  have hmn : m.length ≤ n := by omega
  refine c_seq (c_region (o_assign rfl rfl (o_nil (n_then (c_seq (c_seq (c_region (o_move rfl rfl (o_len rfl rfl (r_lenW Try.underlying33 hv) (o_move rfl rfl (o_len rfl rfl (r_lenW Try.underlying33 hu) ?_)))))))))))
  refine o_max (r := I ((n : Nat) : Int)) (vs := [I (l.length : Int), I (m.length : Int)]) rfl rfl (by rw [hn]; exact r_max_i) ?_
  refine o_bin rfl rfl rfl (r_sub_i (by omega) (by omega)) (o_assign rfl rfl (o_nil (n_then (c_block ?_))))
  refine c_loop (α := Nat) (fun k => [(0, v), (1, u), (5, I ((k : Int) - 1))]) (fun k w' => w = w' ∧ k ≤ n ∧ (pad l n).drop k = (pad m n).drop k) (fun k => k) (n) ⟨rfl, rfl, rfl, trivial⟩ ⟨rfl, Nat.le_refl _, by rw [List.drop_of_length_le (by rw [pad_len hln]; exact Nat.le_refl _), List.drop_of_length_le (by rw [pad_len hmn]; exact Nat.le_refl _)]⟩ ?_
  rintro k _ ⟨rfl, hk, hd⟩
  refine c_seq (c_seq (c_region (o_move rfl rfl (o_bin rfl rfl rfl (r_geq_i) (o_nil (n_then ?_))))))
  refine c_if rfl (fun h13 => ?_) (fun h13 => ?_)
  · obtain ⟨j, rfl⟩ : ∃ j, k = j + 1 := ⟨k - 1, by omega⟩
    have e : ((j + 1 : Nat) : Int) - 1 = (j : Int) := by omega
    rw [e]
    refine c_skip (n_then (c_seq (c_block (c_seq (c_seq (c_region (o_move rfl rfl (o_move rfl rfl (o_call call_RLimb rfl rfl (RLimb_spec hv) ?_)))))))))
    rintro v18 _ ⟨rfl, rfl⟩
    refine o_move rfl rfl (o_move rfl rfl (o_call call_RLimb rfl rfl (RLimb_spec hu) ?_))
    rintro v21 _ ⟨rfl, rfl⟩
    refine o_bin rfl rfl rfl (r_lss_u32) (o_nil (n_then ?_))
    refine c_if rfl (fun h22 => ?_) (fun h22 => ?_)
    · refine c_seq (c_region (o_assign rfl rfl (o_nil (n_then (c_ret (r_then (r_block (r_then (r_then (r_block (r_then (r_body1 rfl rfl ?_))))))))))))
      exact ⟨_, rfl, rfl, congrArg I (cmpN_lt (pad_lt hln hmn (by omega) hd (lt32.1 h22))).symm⟩
    · refine c_skip (n_then (c_seq (c_region (o_move rfl rfl (o_move rfl rfl (o_call call_RLimb rfl rfl (RLimb_spec hv) ?_))))))
      rintro v25 _ ⟨rfl, rfl⟩
      refine o_move rfl rfl (o_move rfl rfl (o_call call_RLimb rfl rfl (RLimb_spec hu) ?_))
      rintro v28 _ ⟨rfl, rfl⟩
      refine o_bin rfl rfl rfl (r_gtr_u32) (o_nil (n_then ?_))
      refine c_if rfl (fun h29 => ?_) (fun h29 => ?_)
      · refine c_seq (c_region (o_assign rfl rfl (o_nil (n_then (c_ret (r_block (r_then (r_then (r_block (r_then (r_body1 rfl rfl ?_)))))))))))
        exact ⟨_, rfl, rfl, congrArg I (cmpN_gt (pad_lt hmn hln (by omega) hd.symm (lt32.1 h29))).symm⟩
      · refine c_skip (n_block (n_then (c_region (o_move rfl rfl (o_bin rfl rfl rfl (r_sub_i (by omega) (by omega)) (o_assign rfl rfl (o_nil ?_)))))))
        refine n_round j ⟨rfl, rfl, rfl, trivial⟩ ⟨rfl, by omega, pad_next hln hmn (by omega) hd (by
          have a := mt lt32.2 h22
          have b := mt (lt32 (a := m.getD j 0) (b := l.getD j 0)).2 h29
          omega)⟩ (by omega)
  · refine c_exit (x_then (x_then (x_here (n_then (c_seq (c_region (o_assign rfl rfl (o_nil (n_then (c_ret (r_body1 rfl rfl ?_)))))))))))
    exact ⟨_, rfl, rfl, by
      obtain rfl : k = 0 := by omega
      rw [List.drop_zero, List.drop_zero] at hd
      rw [pad_all hd, cmpN_eq]; rfl⟩
theorem RSame_spec {w : World} {l m : List UInt32} {v u : Value} (hv : Wds l v w) (hu : Wds m u w) :
    Calls Try.prog 57 #[v, u] w (Ret fun r w' => Ext w w' ∧ r = B (decide (l = m))) := by
  refine enter (vs := [v, u]) Try.func57 rfl rfl rfl ?_
  have hll := hv.len
  refine c_seq (c_region (o_assign rfl rfl (o_nil (n_then (c_seq (c_seq (c_region (o_move rfl rfl (o_len rfl rfl (r_lenW Try.underlying33 hv) (o_move rfl rfl (o_len rfl rfl (r_lenW Try.underlying33 hu) ?_)))))))))))
  refine o_bin rfl rfl rfl (r_neq_i) (o_nil (n_then ?_))
  refine c_if rfl (fun h10 => ?_) (fun h10 => ?_)
  · refine c_seq (c_region (o_assign rfl rfl (o_nil (n_then (c_ret (r_then (r_body1 rfl rfl ?_)))))))
    exact ⟨_, rfl, Ext.refl _, congrArg B (decide_eq_false fun h => by subst h; exact h10 rfl).symm⟩
  · have hlen : l.length = m.length := by omega
    refine c_skip (n_then (c_seq (c_seq (c_region (o_assign rfl rfl (o_nil (n_then (c_block ?_))))))))
    refine c_loop (α := Nat) (fun i => [(0, v), (1, u), (5, I (i : Int))]) (fun i w' => Ext w w' ∧ i ≤ l.length ∧ l.take i = m.take i) (fun i => l.length - i) (0) ⟨rfl, rfl, rfl, trivial⟩ ⟨Ext.refl _, by omega, rfl⟩ ?_
    rintro i w4 ⟨e4, hi, ht⟩
    refine c_seq (c_seq (c_region (o_move rfl rfl (o_move rfl rfl (o_len rfl rfl (r_lenW Try.underlying33 (hv.ext e4)) (o_bin rfl rfl rfl (r_lss_i) (o_nil (n_then ?_))))))))
    refine c_if rfl (fun h14 => ?_) (fun h14 => ?_)
    · refine c_skip (n_then (c_seq (c_block (c_seq (c_grow 8 [0, 1, 5, 20, 24] (by kernel_rfl) (by kernel_rfl) ?_)))))
      refine f_move rfl rfl (f_move rfl rfl ?_)
      obtain ⟨a19, p19, q19⟩ := r_ixW Try.underlying33 (hv.ext e4) (i := i) (by omega) .i64
      refine f_indexAddr rfl rfl rfl (fun w _ => p19 w) (f_load rfl rfl (fun w hw => r_load1 Try.underlying79 rfl (hw.cell_some q19)) (f_move rfl rfl (f_move rfl rfl ?_)))
      obtain ⟨a23, p23, q23⟩ := r_ixW Try.underlying33 (hu.ext e4) (i := i) (by omega) .i64
      refine f_indexAddr rfl rfl rfl (fun w _ => p23 w) (f_load rfl rfl (fun w hw => r_load1 Try.underlying79 rfl (hw.cell_some q23)) (f_nil ?_))
      intro wg6 xg6
      rintro _ hq0
      obtain rfl := Eq.symm hq0
      rintro _ hq1
      obtain rfl := Eq.symm hq1
      rintro _ rfl
      rintro _ rfl
      rintro _ rfl
      refine o_bin rfl rfl rfl (r_neq_u32) (o_nil (n_then ?_))
      refine c_if rfl (fun h25 => ?_) (fun h25 => ?_)
      · have hne : l ≠ m := fun h => by subst h; exact h25 rfl
        refine c_seq (c_region (o_assign rfl rfl (o_nil (n_then (c_ret (r_block (r_then (r_then (r_block (r_then (r_body1 rfl rfl ?_)))))))))))
        exact ⟨_, rfl, (e4.trans xg6), congrArg B (decide_eq_false hne).symm⟩
      · refine c_skip (n_block (n_then (c_region (o_move rfl rfl (o_bin (r := I ((i + 1 : Nat) : Int)) rfl rfl rfl (by have e : ((i + 1 : Nat) : Int) = (i : Int) + 1 := (by omega); rw [e]; exact r_add_i (by omega) (by omega)) ?_)))))
        refine o_assign rfl rfl (o_nil ?_)
        refine n_round (i + 1) ⟨rfl, rfl, rfl, trivial⟩ ⟨(e4.trans xg6), by omega, by rw [List.take_succ_eq_append_getElem (show i < l.length by omega), List.take_succ_eq_append_getElem (show i < m.length by omega), ht, show l[i] = m[i] from Classical.byContradiction fun h => h25 h]⟩ (by omega)
    · refine c_exit (x_then (x_then (x_here (n_then (c_seq (c_region (o_assign rfl rfl (o_nil (n_then (c_ret (r_body1 rfl rfl ?_)))))))))))
      exact ⟨_, rfl, e4, congrArg B (decide_eq_true (by
        rw [List.take_of_length_le (by omega), List.take_of_length_le (by omega)] at ht
        exact ht)).symm⟩
theorem RUint_spec {w : World} {l : List UInt32} {v : Value} (hv : Wds l v w) (hl : l.length ≤ 8796093022208) :
    Calls Try.prog 80 #[v] w (Ret fun r w' => Ext w w' ∧ ((18446744073709551616 ≤ val l ∧ r = .tuple #[U64 0, B false]) ∨ ∃ x : UInt64, x.toNat = val l ∧ r = .tuple #[U64 x, B true])) := by
  refine enter (vs := [v]) Try.func80 rfl rfl rfl ?_
  refine c_seq (c_region (o_assign rfl rfl (o_assign rfl rfl (o_nil (n_then (c_seq (c_region (o_move rfl rfl (o_call call_RMake rfl rfl (RMake_spec hv hl) ?_)))))))))
  rintro v5 w5 ⟨x5, b5⟩
  refine o_assign rfl rfl (o_nil (n_then (c_seq (c_seq ?_))))
  obtain ⟨t, ht⟩ : ∃ t, t = lb (val l) := ⟨_, rfl⟩
  have hval : val t = val l := by rw [ht, val_lb]
  have h64 : t.length ≤ 2 ∨ 18446744073709551616 ≤ val l := by
    rcases Nat.lt_or_ge (val l) 18446744073709551616 with h | h
    · exact .inl (by rw [ht]; exact lb_lt (n := val l) (k := 2) h)
    · exact .inr h
  rw [← ht] at b5
  refine c_region (o_move rfl rfl (o_len rfl rfl (r_lenW Try.underlying33 b5) (o_nil (n_then (c_block (c_seq (c_region (o_bin rfl rfl rfl (r_eql_i) (o_assign rfl rfl ?_)))))))))
  refine o_nil (n_then ?_)
  refine c_if rfl (fun h8 => ?_) (fun h8 => ?_)
  · refine c_seq (c_region (o_assign rfl rfl (o_assign rfl rfl (o_nil (n_then (c_ret (r_block (r_then (r_body2 rfl rfl rfl ?_)))))))))
    exact ⟨_, rfl, x5, .inr ⟨0, by
      have : t = [] := List.eq_nil_of_length_eq_zero (by omega)
      rw [← hval, this]; rfl, rfl⟩⟩
  · refine c_seq (c_region (o_bin rfl rfl rfl (r_eql_i) (o_assign rfl rfl (o_nil (n_then ?_)))))
    refine c_if rfl (fun h10 => ?_) (fun h10 => ?_)
    · refine c_seq (c_region (o_move rfl rfl ?_))
      obtain ⟨a13, p13, q13⟩ := r_ixW Try.underlying33 b5 (i := 0) (by omega) .i64
      refine o_indexAddr rfl rfl rfl (p13 _) (o_load rfl rfl (r_load1 Try.underlying79 rfl q13) (o_conv rfl rfl (r_u32_u64 Try.underlying79 Try.underlying31) ?_))
      refine o_assign rfl rfl (o_assign rfl rfl (o_nil (n_then (c_ret (r_block (r_then (r_body2 rfl rfl rfl ?_)))))))
      exact ⟨_, rfl, x5, .inr ⟨_, by
        obtain ⟨x, rfl⟩ := List.length_eq_one_iff.1 (show t.length = 1 by omega)
        rw [n_64, ← hval]; simp [val], rfl⟩⟩
    · refine c_seq (c_region (o_bin rfl rfl rfl (r_eql_i) (o_assign rfl rfl (o_nil (n_then ?_)))))
      refine c_if rfl (fun h16 => ?_) (fun h16 => ?_)
      · refine c_seq (c_grow 11 [2] (by kernel_rfl) (by kernel_rfl) ?_)
        refine f_move rfl rfl ?_
        obtain ⟨a19, p19, q19⟩ := r_ixW Try.underlying33 b5 (i := 0) (by omega) .i64
        refine f_indexAddr rfl rfl rfl (fun w _ => p19 w) (f_load rfl rfl (fun w hw => r_load1 Try.underlying79 rfl (hw.cell_some q19)) (f_conv rfl rfl (fun w _ => r_u32_u64 Try.underlying79 Try.underlying31) ?_))
        refine f_move rfl rfl ?_
        obtain ⟨a23, p23, q23⟩ := r_ixW Try.underlying33 b5 (i := 1) (by omega) .i64
        refine f_indexAddr rfl rfl rfl (fun w _ => p23 w) (f_load rfl rfl (fun w hw => r_load1 Try.underlying79 rfl (hw.cell_some q23)) (f_conv rfl rfl (fun w _ => r_u32_u64 Try.underlying79 Try.underlying31) ?_))
        refine f_bin (v := U64 32) rfl rfl rfl (fun w _ => r_shl_u64 32 (by omega)) (f_bin rfl rfl rfl (fun w _ => r_or_u64) (f_assign rfl rfl (f_nil ?_)))
        intro wg8 xg8
        rintro _ rfl
        refine o_assign rfl rfl (o_nil (n_then (c_ret (r_block (r_then (r_body2 rfl rfl rfl ?_))))))
        exact ⟨_, rfl, (x5.trans xg8), .inr ⟨_, by
          have e1 := val_drop (l := t) (i := 0) (by omega)
          have e2 := val_drop (l := t) (i := 1) (by omega)
          simp only [Nat.zero_add, Nat.reduceAdd, List.drop_zero] at e1 e2
          rw [List.drop_of_length_le (show t.length ≤ 2 by omega)] at e2
          rw [limb2 (n_64 _) (u32_lt _), ← hval, e1, e2]
          simp [val], rfl⟩⟩
      · refine c_skip (n_block (n_then (c_seq (c_region (o_assign rfl rfl (o_assign rfl rfl (o_nil (n_then (c_ret (r_body2 rfl rfl rfl ?_))))))))))
        exact ⟨_, rfl, x5, .inl ⟨by omega, rfl⟩⟩
theorem RAdd_spec {w : World} {l m : List UInt32} {v u : Value} (hv : Wds l v w) (hu : Wds m u w) (hl : l.length ≤ 1099511627776) (hm : m.length ≤ 1099511627776) :
    Calls Try.prog 84 #[v, u] w (Ret fun r w' => Ext w w' ∧ Wds (lb (val l + val m)) r w') := by
  refine enter (vs := [v, u]) Try.func84 rfl rfl rfl ?_
  refine c_seq (c_region (o_assign rfl rfl (o_nil (n_then (c_seq (c_region (o_assign rfl rfl (o_nil (n_then (c_seq (c_region (o_assign rfl rfl (o_nil (n_then (c_seq (c_seq (c_region (o_assign rfl rfl ?_))))))))))))))))))
  refine o_nil (n_then (c_block ?_))
  refine c_loop4 (fun (i : Nat) (vo : Value) (O : List UInt32) (c : UInt64) => [(0, v), (1, u), (5, vo), (6, U64 c), (7, I (i : Int))]) (fun (i : Nat) (vo : Value) (O : List UInt32) (c : UInt64) w' => Ext w w' ∧ OwnW w.heap.size O vo w' ∧ O.length = i ∧ i ≤ max l.length m.length ∧ c.toNat ≤ 1 ∧ val O + 4294967296 ^ i * c.toNat = val (l.take i) + val (m.take i)) (fun (i : Nat) (vo : Value) (O : List UInt32) (c : UInt64) => max l.length m.length - i) (0) (.slice none 0 0) ([]) (0) ⟨rfl, rfl, rfl, rfl, rfl, trivial⟩ ⟨Ext.refl _, OwnW.nil _ _, rfl, by simp, by simp, by simp [val]⟩ ?_
  rintro i vo O c w4 ⟨e4, oO, hO, hi, hc, hinv⟩
  refine c_seq (c_seq (c_region (o_move rfl rfl (o_move rfl rfl (o_len rfl rfl (r_lenW Try.underlying33 (hv.ext e4)) (o_bin rfl rfl rfl (r_lss_i) (o_move rfl rfl ?_)))))))
  refine o_dec (fun h12 => ?_) (fun h12 => ?_)
  · refine g_no rfl rfl rfl (g_no rfl rfl rfl (g_no rfl rfl rfl (g_no rfl rfl rfl (o_pick_t rfl rfl rfl (o_nil (n_then (c_yes rfl (c_skip (n_then (c_seq (c_block (c_seq ?_))))))))))))
    have hlt : i < max l.length m.length := by
      first
      | (have := h12; omega)
      | (have := h17; omega)
    have st := radd_step (a := l) (b := m) hO hc hinv
    refine c_region (o_move rfl rfl (o_move rfl rfl (o_move rfl rfl (o_call call_RLimb rfl rfl (RLimb_spec (hv.ext e4)) ?_))))
    rintro v23 _ ⟨rfl, rfl⟩
    refine o_conv rfl rfl (r_u32_u64 Try.underlying79 Try.underlying31) (o_move rfl rfl (o_move rfl rfl (o_call call_RLimb rfl rfl (RLimb_spec (hu.ext e4)) ?_)))
    rintro v27 _ ⟨rfl, rfl⟩
    refine o_conv rfl rfl (r_u32_u64 Try.underlying79 Try.underlying31) (o_bin rfl rfl rfl (r_add_u64) (o_bin rfl rfl rfl (r_add_u64) (o_assign rfl rfl ?_)))
    refine o_nil (n_then (c_seq (c_region (o_move rfl rfl (o_move rfl rfl (o_conv rfl rfl (r_u64_u32 Try.underlying31 Try.underlying79) ?_))))))
    obtain ⟨v34, w34, hr34, x34, o34, ob34⟩ := r_bsW Try.underlying32 (w := w4) w4.heap.size [((((c) + (((((l.getD i 0)).toUInt64) + (((m.getD i 0)).toUInt64))))).toUInt32)] (by simp) (Nat.le_refl _)
    refine o_buildSlice (vs := [(0, U32 (((((c) + (((((l.getD i 0)).toUInt64) + (((m.getD i 0)).toUInt64))))).toUInt32)))]) rfl rfl hr34 ?_
    obtain ⟨v35, w35, hr35, o35, g35⟩ := r_appW Try.underlying32 (ty := 32) (oO.ext x34) o34.wds (by simp; omega) ((e4.trans x34)).size
    have x35 := Ext.of_grew ((e4.trans x34)) g35 (oO.ext x34).ge
    refine o_append rfl rfl hr35 (o_assign rfl rfl (o_nil (n_then (c_region (o_move rfl rfl (o_bin rfl rfl rfl (r_shr_u64 32 (by omega)) (o_assign rfl rfl (o_nil (n_block (n_then (c_region ?_)))))))))))
    refine o_move rfl rfl (o_bin (r := I ((i + 1 : Nat) : Int)) rfl rfl rfl (by have e : ((i + 1 : Nat) : Int) = (i : Int) + 1 := (by omega); rw [e]; exact r_add_i (by omega) (by omega)) ?_)
    refine o_assign rfl rfl (o_nil ?_)
    refine n_round4 (i + 1) (_) (_) (_) ⟨rfl, rfl, rfl, rfl, rfl, trivial⟩ ⟨x35, o35, by simp [hO], by omega, st.2, st.1⟩ (by omega)
  · refine g_yes rfl (o_move rfl rfl (g_yes rfl (o_move rfl rfl (g_yes rfl (o_len rfl rfl (r_lenW Try.underlying33 (hu.ext e4)) (g_yes rfl (o_bin rfl rfl rfl (r_lss_i) ?_)))))))
    refine o_pick_f rfl rfl rfl (o_nil (n_then ?_))
    refine c_if rfl (fun h17 => ?_) (fun h17 => ?_)
    · refine c_skip (n_then (c_seq (c_block (c_seq ?_))))
      have hlt : i < max l.length m.length := by
        first
        | (have := h12; omega)
        | (have := h17; omega)
      have st := radd_step (a := l) (b := m) hO hc hinv
      refine c_region (o_move rfl rfl (o_move rfl rfl (o_move rfl rfl (o_call call_RLimb rfl rfl (RLimb_spec (hv.ext e4)) ?_))))
      rintro v23 _ ⟨rfl, rfl⟩
      refine o_conv rfl rfl (r_u32_u64 Try.underlying79 Try.underlying31) (o_move rfl rfl (o_move rfl rfl (o_call call_RLimb rfl rfl (RLimb_spec (hu.ext e4)) ?_)))
      rintro v27 _ ⟨rfl, rfl⟩
      refine o_conv rfl rfl (r_u32_u64 Try.underlying79 Try.underlying31) (o_bin rfl rfl rfl (r_add_u64) (o_bin rfl rfl rfl (r_add_u64) (o_assign rfl rfl ?_)))
      refine o_nil (n_then (c_seq (c_region (o_move rfl rfl (o_move rfl rfl (o_conv rfl rfl (r_u64_u32 Try.underlying31 Try.underlying79) ?_))))))
      obtain ⟨v34, w34, hr34, x34, o34, ob34⟩ := r_bsW Try.underlying32 (w := w4) w4.heap.size [((((c) + (((((l.getD i 0)).toUInt64) + (((m.getD i 0)).toUInt64))))).toUInt32)] (by simp) (Nat.le_refl _)
      refine o_buildSlice (vs := [(0, U32 (((((c) + (((((l.getD i 0)).toUInt64) + (((m.getD i 0)).toUInt64))))).toUInt32)))]) rfl rfl hr34 ?_
      obtain ⟨v35, w35, hr35, o35, g35⟩ := r_appW Try.underlying32 (ty := 32) (oO.ext x34) o34.wds (by simp; omega) ((e4.trans x34)).size
      have x35 := Ext.of_grew ((e4.trans x34)) g35 (oO.ext x34).ge
      refine o_append rfl rfl hr35 (o_assign rfl rfl (o_nil (n_then (c_region (o_move rfl rfl (o_bin rfl rfl rfl (r_shr_u64 32 (by omega)) (o_assign rfl rfl (o_nil (n_block (n_then (c_region ?_)))))))))))
      refine o_move rfl rfl (o_bin (r := I ((i + 1 : Nat) : Int)) rfl rfl rfl (by have e : ((i + 1 : Nat) : Int) = (i : Int) + 1 := (by omega); rw [e]; exact r_add_i (by omega) (by omega)) ?_)
      refine o_assign rfl rfl (o_nil ?_)
      refine n_round4 (i + 1) (_) (_) (_) ⟨rfl, rfl, rfl, rfl, rfl, trivial⟩ ⟨x35, o35, by simp [hO], by omega, st.2, st.1⟩ (by omega)
    · refine c_exit (x_then (x_then (x_here (n_then (c_seq ?_)))))
      have hge : max l.length m.length ≤ i := by
        first
        | (have := h17; omega)
      rw [val_take_all _ (by omega), val_take_all _ (by omega)] at hinv
      refine c_region (o_move rfl rfl (o_move rfl rfl (o_conv rfl rfl (r_u64_u32 Try.underlying31 Try.underlying79) ?_)))
      obtain ⟨v41, w41, hr41, x41, o41, ob41⟩ := r_bsW Try.underlying32 (w := w4) w4.heap.size [((c).toUInt32)] (by simp) (Nat.le_refl _)
      refine o_buildSlice (vs := [(0, U32 (((c).toUInt32)))]) rfl rfl hr41 ?_
      obtain ⟨v42, w42, hr42, o42, g42⟩ := r_appW Try.underlying32 (ty := 32) (oO.ext x41) o41.wds (by simp; omega) ((e4.trans x41)).size
      have x42 := Ext.of_grew ((e4.trans x41)) g42 (oO.ext x41).ge
      refine o_append rfl rfl hr42 (o_call call_RMake rfl rfl (RMake_spec o42.wds (by simp; omega)) ?_)
      rintro v43 w43 ⟨x43, b43⟩
      refine o_assign rfl rfl (o_nil (n_then (c_ret (r_body1 rfl rfl ?_))))
      exact ⟨_, rfl, (x42.trans x43), by rw [← hinv, ← radd_end hO hc]; exact b43⟩
theorem RSub_spec {w : World} {l m : List UInt32} {v u : Value} (hv : Wds l v w) (hu : Wds m u w) (hl : l.length ≤ 1099511627776) (hle : val m ≤ val l) :
    Calls Try.prog 86 #[v, u] w (Ret fun r w' => Ext w w' ∧ ∃ d, r = .tuple #[d, I 0] ∧ OwnW w.heap.size (lb (val l - val m)) d w') := by
  refine enter (vs := [v, u]) Try.func86 rfl rfl rfl ?_
  refine c_seq (c_region (o_assign rfl rfl (o_assign rfl rfl (o_nil (n_then (c_seq (c_seq (c_region (o_move rfl rfl (o_move rfl rfl (o_call call_RCmp rfl rfl (RCmp_spec hv hu) ?_)))))))))))
  rintro v13 _ ⟨rfl, rfl⟩
  refine o_bin rfl rfl rfl (dec_f (fun h => by have := cmpN_neg.1 h; omega) r_lss_i) (o_nil (n_then (c_no rfl (c_skip (n_then (c_seq (c_region (o_assign rfl rfl (o_nil (n_then (c_seq ?_)))))))))))
  refine c_region (o_assign rfl rfl (o_nil (n_then (c_seq (c_seq (c_region (o_assign rfl rfl (o_nil (n_then (c_block ?_))))))))))
  refine c_loop4 (fun (i : Nat) (vo : Value) (O : List UInt32) (d : UInt64) => [(0, v), (1, u), (6, vo), (7, U64 d), (8, I (i : Int))]) (fun (i : Nat) (vo : Value) (O : List UInt32) (d : UInt64) w' => Ext w w' ∧ OwnW w.heap.size O vo w' ∧ O.length = i ∧ i ≤ l.length ∧ d.toNat ≤ 1 ∧ val (l.take i) + 4294967296 ^ i * d.toNat = val O + val (m.take i)) (fun (i : Nat) (vo : Value) (O : List UInt32) (d : UInt64) => l.length - i) (0) (.slice none 0 0) ([]) (0) ⟨rfl, rfl, rfl, rfl, rfl, trivial⟩ ⟨Ext.refl _, OwnW.nil _ _, rfl, by simp, by simp, by simp [val]⟩ ?_
  rintro i vo O d w6 ⟨e6, oO, hO, hi, hd, hinv⟩
  refine c_seq (c_seq (c_region (o_move rfl rfl (o_move rfl rfl (o_len rfl rfl (r_lenW Try.underlying33 (hv.ext e6)) (o_bin rfl rfl rfl (r_lss_i) (o_nil (n_then ?_))))))))
  refine c_if rfl (fun h18 => ?_) (fun h18 => ?_)
  · refine c_skip (n_then (c_seq (c_block (c_seq ?_))))
    have hlt : i < l.length := by omega
    have hxa := n_64 (l.getD i 0)
    have hyb : ((m.getD i 0).toUInt64 + d).toNat = (m.getD i 0).toNat + d.toNat := by
      have := u32_lt (m.getD i 0)
      rw [n_add, n_64]; omega
    refine c_region (o_move rfl rfl (o_move rfl rfl (o_call call_RLimb rfl rfl (RLimb_spec (hv.ext e6)) ?_)))
    rintro v23 _ ⟨rfl, rfl⟩
    refine o_conv rfl rfl (r_u32_u64 Try.underlying79 Try.underlying31) (o_move rfl rfl (o_move rfl rfl (o_call call_RLimb rfl rfl (RLimb_spec (hu.ext e6)) ?_)))
    rintro v27 _ ⟨rfl, rfl⟩
    refine o_conv rfl rfl (r_u32_u64 Try.underlying79 Try.underlying31) (o_move rfl rfl (o_bin rfl rfl rfl (r_add_u64) (o_assign rfl rfl (o_assign rfl rfl ?_))))
    refine o_nil (n_then (c_seq (c_region (o_assign rfl rfl (o_nil (n_then (c_seq (c_seq (c_region (o_move rfl rfl (o_move rfl rfl (o_bin rfl rfl rfl (r_lss_u64) (o_nil (n_then ?_))))))))))))))
    refine c_if rfl (fun h33 => ?_) (fun h33 => ?_)
    · have hlt2 : (l.getD i 0).toNat < (m.getD i 0).toNat + d.toNat := by
        have := UInt64.lt_iff_toNat_lt.1 h33
        rwa [hxa, hyb] at this
      have st := rsub_step (a := l) (b := m) hO hd hinv (.inl ⟨rfl, hlt2, rfl⟩)
      refine c_seq (c_region (o_move rfl rfl (o_bin (v := U64 4294967296) rfl rfl rfl (r_add_u64) (o_assign rfl rfl (o_nil (n_then (c_region (o_assign rfl rfl (o_nil (n_then (c_region (o_move rfl rfl ?_))))))))))))
      refine o_move rfl rfl (o_move rfl rfl (o_bin rfl rfl rfl (r_sub_u64) (o_conv rfl rfl (r_u64_u32 Try.underlying31 Try.underlying79) ?_)))
      obtain ⟨v41, w41, hr41, x41, o41, ob41⟩ := r_bsW Try.underlying32 (w := w6) w6.heap.size [((((((((l.getD i 0)).toUInt64) + (4294967296))) - (((((m.getD i 0)).toUInt64) + (d))))).toUInt32)] (by simp) (Nat.le_refl _)
      refine o_buildSlice (vs := [(0, U32 (((((((((l.getD i 0)).toUInt64) + (4294967296))) - (((((m.getD i 0)).toUInt64) + (d))))).toUInt32)))]) rfl rfl hr41 ?_
      obtain ⟨v42, w42, hr42, o42, g42⟩ := r_appW Try.underlying32 (ty := 32) (oO.ext x41) o41.wds (by simp; omega) ((e6.trans x41)).size
      have x42 := Ext.of_grew ((e6.trans x41)) g42 (oO.ext x41).ge
      refine o_append rfl rfl hr42 (o_assign rfl rfl (o_nil (n_block (n_then (c_region (o_move rfl rfl (o_bin (r := I ((i + 1 : Nat) : Int)) rfl rfl rfl (by have e : ((i + 1 : Nat) : Int) = (i : Int) + 1 := (by omega); rw [e]; exact r_add_i (by omega) (by omega)) ?_)))))))
      refine o_assign rfl rfl (o_nil ?_)
      refine n_round4 (i + 1) (_) (_) (_) ⟨rfl, rfl, rfl, rfl, rfl, trivial⟩ ⟨x42, o42, by simp [hO], by omega, st.2, st.1⟩ (by omega)
    · have hge2 : (m.getD i 0).toNat + d.toNat ≤ (l.getD i 0).toNat := by
        have := mt UInt64.lt_iff_toNat_lt.2 h33
        rw [hxa, hyb] at this
        omega
      have st := rsub_step (a := l) (b := m) hO hd hinv (.inr ⟨rfl, hge2, rfl⟩)
      refine c_skip (n_then (c_region (o_move rfl rfl (o_move rfl rfl (o_move rfl rfl (o_bin rfl rfl rfl (r_sub_u64) (o_conv rfl rfl (r_u64_u32 Try.underlying31 Try.underlying79) ?_)))))))
      obtain ⟨v41, w41, hr41, x41, o41, ob41⟩ := r_bsW Try.underlying32 (w := w6) w6.heap.size [((((((l.getD i 0)).toUInt64) - (((((m.getD i 0)).toUInt64) + (d))))).toUInt32)] (by simp) (Nat.le_refl _)
      refine o_buildSlice (vs := [(0, U32 (((((((l.getD i 0)).toUInt64) - (((((m.getD i 0)).toUInt64) + (d))))).toUInt32)))]) rfl rfl hr41 ?_
      obtain ⟨v42, w42, hr42, o42, g42⟩ := r_appW Try.underlying32 (ty := 32) (oO.ext x41) o41.wds (by simp; omega) ((e6.trans x41)).size
      have x42 := Ext.of_grew ((e6.trans x41)) g42 (oO.ext x41).ge
      refine o_append rfl rfl hr42 (o_assign rfl rfl (o_nil (n_block (n_then (c_region (o_move rfl rfl (o_bin (r := I ((i + 1 : Nat) : Int)) rfl rfl rfl (by have e : ((i + 1 : Nat) : Int) = (i : Int) + 1 := (by omega); rw [e]; exact r_add_i (by omega) (by omega)) ?_)))))))
      refine o_assign rfl rfl (o_nil ?_)
      refine n_round4 (i + 1) (_) (_) (_) ⟨rfl, rfl, rfl, rfl, rfl, trivial⟩ ⟨x42, o42, by simp [hO], by omega, st.2, st.1⟩ (by omega)
  · refine c_exit (x_then (x_then (x_here (n_then (c_seq ?_)))))
    have hil : i = l.length := by omega
    have hOl := val_lt O
    rw [hO, hil] at hOl
    have hml : val (m.take i) = val m ∧ d.toNat = 0 := by
      have h1 := val_split m (min i m.length) (by omega)
      have h2 : m.take (min i m.length) = m.take i := by
        rcases Nat.le_total i m.length with h | h
        · rw [Nat.min_eq_left h]
        · rw [Nat.min_eq_right h, List.take_of_length_le (Nat.le_refl _), List.take_of_length_le h]
      rw [h2] at h1
      have hll := val_lt l
      rw [hil, List.take_length] at hinv
      have hz : val (m.drop (min i m.length)) = 0 := by
        rcases Nat.le_total i m.length with h | h
        · rw [Nat.min_eq_left h] at h1 ⊢
          rcases Nat.eq_zero_or_pos (val (m.drop i)) with h0 | h0
          · exact h0
          · have : 4294967296 ^ i * 1 ≤ 4294967296 ^ i * val (m.drop i) := Nat.mul_le_mul_left _ h0
            rw [hil] at this h1
            omega
        · rw [Nat.min_eq_right h, List.drop_of_length_le (Nat.le_refl _)]; rfl
      rw [hz, Nat.mul_zero, Nat.add_zero] at h1
      refine ⟨h1.symm, ?_⟩
      rcases (show d.toNat = 0 ∨ d.toNat = 1 by omega) with h | h
      · exact h
      · rw [hil] at h1
        rw [h, Nat.mul_one, ← h1] at hinv
        omega
    have hres : val l - val m = val O := by
      rw [hml.1, hml.2, hil, List.take_length] at hinv
      omega
    refine c_region (o_move rfl rfl (o_call call_RMake rfl rfl (RMake_own oO.wds (by omega)) ?_))
    rintro v44 w44 ⟨x44, b44⟩
    refine o_assign rfl rfl (o_assign rfl rfl (o_nil (n_then (c_ret (r_body2 rfl rfl rfl ?_)))))
    exact ⟨_, rfl, (e6.trans x44), _, rfl, by rw [hres]; exact b44.low e6.size⟩
theorem RShl_spec {w : World} {l : List UInt32} {v : Value} {k : Nat} (hv : Wds l v w) (hl : l.length ≤ 1099511627776) (hk : k ≤ 1099511627776) :
    Calls Try.prog 83 #[v, I (k : Int)] w (Ret fun r w' => Ext w w' ∧ Wds (lb (val l * 2 ^ k)) r w') := by
  refine enter (vs := [v, I (k : Int)]) Try.func83 rfl rfl rfl ?_
  refine c_seq (c_region (o_assign rfl rfl (o_nil (n_then (c_seq (c_region (o_move rfl rfl (o_bin (r := I ((k / 32 : Nat) : Int)) rfl rfl rfl (by have e : ((k / 32 : Nat) : Int) = (k : Int) / 32 := (by omega); rw [e]; exact r_quo_i (by omega) (by omega) (by omega)) ?_))))))))
  obtain ⟨v10, w10, hr10, x10, o10, ob10⟩ := r_mkW Try.underlying32 (w := w) w.heap.size (n := k / 32) (by omega) (Nat.le_refl _)
  refine o_makeSlice rfl rfl rfl hr10 (o_assign rfl rfl (o_nil (n_then (c_seq (c_region (o_assign rfl rfl (o_nil (n_then (c_seq (c_seq (c_region (o_assign rfl rfl (o_nil (n_then (c_block ?_)))))))))))))))
  refine c_loop4 (fun (i : Nat) (vo : Value) (O : List UInt32) (c : UInt64) => [(0, v), (1, I (k : Int)), (5, vo), (6, U64 c), (7, I (i : Int))]) (fun (i : Nat) (vo : Value) (O : List UInt32) (c : UInt64) w' => Ext w w' ∧ OwnW w.heap.size O vo w' ∧ O.length = k / 32 + i ∧ i ≤ l.length ∧ c.toNat < 2 ^ (k % 32) ∧ val O + 4294967296 ^ (k / 32 + i) * c.toNat = val (l.take i) * (4294967296 ^ (k / 32) * 2 ^ (k % 32))) (fun (i : Nat) (vo : Value) (O : List UInt32) (c : UInt64) => l.length - i) (0) (v10) (List.replicate (k / 32) 0) (0) ⟨rfl, rfl, rfl, rfl, rfl, trivial⟩ ⟨x10, o10, by simp, by simp, by simp; exact Nat.pow_pos (by omega), by simp [val, val_zeros]⟩ ?_
  rintro i vo O c w4 ⟨e4, oO, hO, hi, hc, hinv⟩
  refine c_seq (c_seq (c_region (o_move rfl rfl (o_move rfl rfl (o_len rfl rfl (r_lenW Try.underlying33 (hv.ext e4)) (o_bin rfl rfl rfl (r_lss_i) (o_nil (n_then ?_))))))))
  refine c_if rfl (fun h14 => ?_) (fun h14 => ?_)
  · refine c_skip (n_then (c_seq (c_block (c_seq ?_))))
    have hlt : i < l.length := by omega
    have st := rshl_step (Nat.mod_lt k (show 0 < 32 by omega)) hlt hO hc hinv
    refine c_region (o_move rfl rfl (o_move rfl rfl (o_move rfl rfl ?_)))
    obtain ⟨a20, p20, q20⟩ := r_ixW Try.underlying33 (hv.ext e4) (i := i) (by omega) .i64
    refine o_indexAddr rfl rfl rfl (p20 _) (o_load rfl rfl (r_load1 Try.underlying79 rfl q20) (o_conv rfl rfl (r_u32_u64 Try.underlying79 Try.underlying31) ?_))
    refine o_move rfl rfl (o_bin (r := I ((k % 32 : Nat) : Int)) rfl rfl rfl (by have e : ((k % 32 : Nat) : Int) = (k : Int) % 32 := (by omega); rw [e]; exact r_rem_i (by omega) (by omega)) ?_)
    refine o_bin rfl rfl rfl (r_shl_u64 ((k % 32 : Nat)) (by omega)) (o_bin rfl rfl rfl (r_or_u64) (o_assign rfl rfl (o_nil (n_then (c_seq (c_region (o_move rfl rfl (o_move rfl rfl ?_))))))))
    refine o_conv rfl rfl (r_u64_u32 Try.underlying31 Try.underlying79) ?_
    obtain ⟨v30, w30, hr30, x30, o30, ob30⟩ := r_bsW Try.underlying32 (w := w4) w4.heap.size [((((c) ||| (((((l[i])).toUInt64) <<< UInt64.ofNat ((k % 32 : Nat)))))).toUInt32)] (by simp) (Nat.le_refl _)
    refine o_buildSlice (vs := [(0, U32 (((((c) ||| (((((l[i])).toUInt64) <<< UInt64.ofNat ((k % 32 : Nat)))))).toUInt32)))]) rfl rfl hr30 ?_
    obtain ⟨v31, w31, hr31, o31, g31⟩ := r_appW Try.underlying32 (ty := 32) (oO.ext x30) o30.wds (by simp; omega) ((e4.trans x30)).size
    have x31 := Ext.of_grew ((e4.trans x30)) g31 (oO.ext x30).ge
    refine o_append rfl rfl hr31 (o_assign rfl rfl (o_nil (n_then (c_region (o_move rfl rfl (o_bin rfl rfl rfl (r_shr_u64 32 (by omega)) (o_assign rfl rfl (o_nil (n_block (n_then (c_region ?_)))))))))))
    refine o_move rfl rfl (o_bin (r := I ((i + 1 : Nat) : Int)) rfl rfl rfl (by have e : ((i + 1 : Nat) : Int) = (i : Int) + 1 := (by omega); rw [e]; exact r_add_i (by omega) (by omega)) ?_)
    refine o_assign rfl rfl (o_nil ?_)
    refine n_round4 (i + 1) (_) (_) (_) ⟨rfl, rfl, rfl, rfl, rfl, trivial⟩ ⟨x31, o31, by simp [hO]; omega, by omega, st.2, st.1⟩ (by omega)
  · refine c_exit (x_then (x_then (x_here (n_then (c_seq ?_)))))
    rw [val_take_all _ (by omega)] at hinv
    have e32 : 4294967296 ^ (k / 32) * 2 ^ (k % 32) = 2 ^ k := by
      have h3 : (4294967296 : Nat) ^ (k / 32) = 2 ^ (32 * (k / 32)) := by rw [Nat.pow_mul]
      rw [h3, ← Nat.pow_add, Nat.div_add_mod]
    have hc1 : c.toNat < 4294967296 := Nat.lt_of_lt_of_le hc (Nat.pow_le_pow_right (show 0 < 2 by omega) (show k % 32 ≤ 32 by omega))
    have hend : val (O ++ [c.toUInt32]) = val l * 2 ^ k := by
      rw [val_append, val_one, hO, n_32, Nat.mod_eq_of_lt hc1, hinv, e32]
    refine c_region (o_move rfl rfl (o_move rfl rfl (o_conv rfl rfl (r_u64_u32 Try.underlying31 Try.underlying79) ?_)))
    obtain ⟨v37, w37, hr37, x37, o37, ob37⟩ := r_bsW Try.underlying32 (w := w4) w4.heap.size [((c).toUInt32)] (by simp) (Nat.le_refl _)
    refine o_buildSlice (vs := [(0, U32 (((c).toUInt32)))]) rfl rfl hr37 ?_
    obtain ⟨v38, w38, hr38, o38, g38⟩ := r_appW Try.underlying32 (ty := 32) (oO.ext x37) o37.wds (by simp; omega) ((e4.trans x37)).size
    have x38 := Ext.of_grew ((e4.trans x37)) g38 (oO.ext x37).ge
    refine o_append rfl rfl hr38 (o_call call_RMake rfl rfl (RMake_spec o38.wds (by simp; omega)) ?_)
    rintro v39 w39 ⟨x39, b39⟩
    refine o_assign rfl rfl (o_nil (n_then (c_ret (r_body1 rfl rfl ?_))))
    exact ⟨_, rfl, (x38.trans x39), by rw [← hend]; exact b39⟩
theorem RBits_spec {w : World} {l : List UInt32} {v : Value} (hv : Wds l v w) (hl : l.length ≤ 1099511627776) :
    Calls Try.prog 82 #[v] w (Ret fun r w' => Ext w w' ∧ r = I ((bl (val l) : Nat) : Int)) := by
  refine enter (vs := [v]) Try.func82 rfl rfl rfl ?_
  have hll := lb_lt (val_lt l)
  refine c_seq (c_region (o_assign rfl rfl (o_nil (n_then (c_seq (c_region (o_move rfl rfl (o_call call_RMake rfl rfl (RMake_spec hv (by omega)) ?_))))))))
  rintro v6 w6 ⟨x6, b6⟩
  refine o_assign rfl rfl (o_nil (n_then (c_seq (c_seq (c_region (o_move rfl rfl (o_len (r := I ((lb (val l)).length : Int)) rfl rfl (r_lenW Try.underlying33 b6) ?_)))))))
  refine o_bin rfl rfl rfl (r_eql_i) (o_nil (n_then ?_))
  refine c_if rfl (fun h9 => ?_) (fun h9 => ?_)
  · refine c_seq (c_region (o_assign rfl rfl (o_nil (n_then (c_ret (r_then (r_body1 rfl rfl ?_)))))))
    exact ⟨_, rfl, x6, by
      have : val l = 0 := lb_len0.1 (by omega)
      rw [this]; rfl⟩
  · refine c_skip (n_then (c_seq (c_region (o_move rfl rfl (o_len (r := I ((lb (val l)).length : Int)) rfl rfl (r_lenW Try.underlying33 b6) (o_bin (r := I (((lb (val l)).length - 1 : Nat) : Int)) rfl rfl rfl (by have e : (((lb (val l)).length - 1 : Nat) : Int) = ((lb (val l)).length : Int) - 1 := (by omega); rw [e]; exact r_sub_i (by omega) (by omega)) ?_))))))
    refine o_bin (r := I ((32 * ((lb (val l)).length - 1 : Nat) : Nat) : Int)) rfl rfl rfl (by have e : ((32 * ((lb (val l)).length - 1 : Nat) : Nat) : Int) = 32 * (((lb (val l)).length - 1 : Nat) : Int) := (by omega); rw [e]; exact r_mul_i (by omega) (by omega)) ?_
    refine o_assign rfl rfl (o_nil (n_then (c_seq (c_seq (c_region (o_move rfl rfl (o_move rfl rfl (o_len (r := I ((lb (val l)).length : Int)) rfl rfl (r_lenW Try.underlying33 b6) ?_))))))))
    refine o_bin (r := I (((lb (val l)).length - 1 : Nat) : Int)) rfl rfl rfl (by have e : (((lb (val l)).length - 1 : Nat) : Int) = ((lb (val l)).length : Int) - 1 := (by omega); rw [e]; exact r_sub_i (by omega) (by omega)) ?_
    obtain ⟨a18, p18, q18⟩ := r_ixW Try.underlying33 b6 (i := ((lb (val l)).length - 1 : Nat)) (by omega) .i64
    refine o_indexAddr rfl rfl rfl (p18 _) (o_load rfl rfl (r_load1 Try.underlying79 rfl q18) (o_assign rfl rfl (o_nil (n_then (c_block ?_)))))
    refine c_loop2 (fun (k : Nat) (x : UInt32) => [(3, I (k : Int)), (4, U32 x)]) (fun (k : Nat) (x : UInt32) w' => w6 = w' ∧ k + bl x.toNat = bl (val l)) (fun (k : Nat) (x : UInt32) => x.toNat) (32 * ((lb (val l)).length - 1)) ((lb (val l))[(lb (val l)).length - 1]'(by omega)) ⟨rfl, rfl, trivial⟩ ⟨rfl, (bl_lb (by omega)).symm⟩ ?_
    rintro k x _ ⟨rfl, hinv⟩
    refine c_seq (c_seq (c_region (o_move rfl rfl (o_bin (v := U32 0) rfl rfl rfl (r_gtr_u32) (o_nil (n_then ?_))))))
    refine c_if rfl (fun h21 => ?_) (fun h21 => ?_)
    · have hx : 0 < x.toNat := lt32.1 h21
      have hb := bl_step hx
      have hs : (x >>> UInt32.ofNat 1).toNat = x.toNat / 2 := n_shr32 x (s := 1) (by omega)
      have hbl := bl_le (n := val l) (k := 32 * l.length) (by have := val_lt l; rwa [show (4294967296 : Nat) ^ l.length = 2 ^ (32 * l.length) by rw [Nat.pow_mul]] at this)
      refine c_skip (n_then (c_seq (c_block (c_region (o_move rfl rfl (o_bin (r := I ((k + 1 : Nat) : Int)) rfl rfl rfl (by have e : ((k + 1 : Nat) : Int) = (k : Int) + 1 := (by omega); rw [e]; exact r_add_i (by omega) (by omega)) ?_))))))
      refine o_assign rfl rfl (o_nil (n_block (n_then (c_region (o_move rfl rfl (o_bin rfl rfl rfl (r_shr_u32 1 (by omega)) (o_assign rfl rfl (o_nil ?_))))))))
      refine n_round2 (k + 1) (_) ⟨rfl, rfl, trivial⟩ ⟨rfl, by rw [hs]; omega⟩ (by omega)
    · refine c_exit (x_then (x_then (x_here (n_then (c_seq (c_region (o_move rfl rfl (o_assign rfl rfl (o_nil (n_then (c_ret (r_body1 rfl rfl ?_))))))))))))
      exact ⟨_, rfl, x6, by
        have hx : x.toNat = 0 := by
          have := mt (lt32 (a := 0) (b := x)).2 h21
          have e : (0 : UInt32).toNat = 0 := rfl
          omega
        rw [hx, bl_zero, Nat.add_zero] at hinv
        rw [hinv]⟩
end Go.Rl

/- The statement WireReads: the wire's reader and the reference's go the same way. No condition. -/
import Derived.Test.YtifjnhdnpglbpaaQ9
namespace Go.Rl
open Go.RowKit Go.Proofs
theorem New_own {w : World} {l : List UInt8} {v : Value} (hv : Bts l v w) (hl : l.length ≤ 140737488355328) :
    Calls Try.prog 25 #[v] w (Ret fun r w' => Ext w w' ∧ ∃ g A n c, w.heap.size ≤ g ∧ r = .pointer (some ⟨g, 0, none⟩) ∧ Blk g 83 [.slice A n c, B false] w' ∧ OwnB w.heap.size l (.slice A n c) w') := by
  refine enter (vs := [v]) Try.func25 rfl rfl rfl ?_
  refine c_seq (c_region (o_assign rfl rfl (o_nil (n_then (c_seq (c_region (o_move rfl rfl ?_)))))))
  refine o_call call_Clone rfl rfl (Clone_spec hv hl) ?_
  rintro r1 w1 ⟨hx1, ho1⟩
  obtain ⟨A, n, c, rfl, _⟩ := id ho1.bts
  refine o_build rfl rfl (r := .agg #[.slice A n c, .bool false]) (by simp [Instr.build, run_underlying Try.underlying83, r_zero zero_Reader, r_sizeOf size_bytes, r_sizeOf size_bool, Instr.fill, Value.cells]) ?_
  refine o_box rfl rfl r_box ?_
  refine o_assign rfl rfl (o_nil (n_then (c_ret ?_)))
  refine r_body1 rfl rfl ?_
  exact ⟨_, rfl, hx1.trans (Ext.new _ _), w1.heap.size, A, n, c, hx1.size, rfl, heap_alloc_new _ _, ho1.ext (Ext.new _ _)⟩
theorem FNew_own {w : World} {l : List UInt8} {v : Value} (hv : Bts l v w) (hl : l.length ≤ 140737488355328) :
    Calls Try.prog 32 #[v] w (Ret fun r w' => Ext w w' ∧ ∃ g A n c, w.heap.size ≤ g ∧ r = .pointer (some ⟨g, 0, none⟩) ∧ Blk g 91 [.slice A n c, B false] w' ∧ OwnB w.heap.size l (.slice A n c) w') := by
  refine enter (vs := [v]) Try.func32 rfl rfl rfl ?_
  refine c_seq (c_region (o_assign rfl rfl (o_nil (n_then (c_seq (c_region ?_))))))
  obtain ⟨v3, w3, hr3, x3, o3, ob3⟩ := r_bsB (w := w) w.heap.size [] (by simp) (Nat.le_refl _)
  refine o_buildSlice (vs := []) rfl rfl hr3 (o_move rfl rfl ?_)
  obtain ⟨v5, w5, hr5, o5, g5⟩ := r_appB (ty := 22) o3 (hv.ext x3) (by simpa using hl) (x3).size
  have x5 := Ext.of_grew (x3) g5 o3.ge
  refine o_append rfl rfl hr5 ?_
  obtain ⟨A, n, c, rfl, _⟩ := id o5.bts
  refine o_build (vs := [(0, .slice A n c)]) rfl rfl (r := .agg #[.slice A n c, .bool false]) (by simp [Instr.build, run_underlying Try.underlying91, r_zero zero_RfReader, r_sizeOf size_bytes, r_sizeOf size_bool, Instr.fill, Value.cells]) ?_
  refine o_box rfl rfl (r_box) (o_assign rfl rfl (o_nil (n_then (c_ret (r_body1 rfl rfl ?_)))))
  exact ⟨_, rfl, (x5).trans (Ext.new _ _), _, A, n, c, (x5).size, rfl, heap_alloc_new _ _, OwnB.ext (show OwnB _ l _ _ from o5) (Ext.new _ _)⟩
theorem OwnB.later {base : Nat} {l : List UInt8} {v : Value} {w w' : World} {row : Option Nat} (h : OwnB base l v w) (hg : w.grownBy w' row) (hr : ∀ k, row = some k → k < base) : OwnB base l v w' := by
  refine h.kept hg ?_
  cases hb : v.ownBlock with
  | none => exact .inl rfl
  | some k => exact .inr fun e => by have := hr k e.symm; have := h.ge k hb; omega
theorem OwnB.below {base : Nat} {l : List UInt8} {v : Value} {w : World} (h : OwnB base l v w) : ∀ k, v.ownBlock = some k → k < w.heap.size := fun k hk => h.elim fun _ h => (World.ownsRow.lt h k hk).2
section
variable {w : World} {g : Nat} {st : Option (List UInt8)}
theorem Left_s (hr : RdAt g st w) : Calls Try.prog 31 #[.pointer (some ⟨g, 0, none⟩)] w (Ret fun r w' => w = w' ∧ r = I ((st.getD []).length : Nat)) := (Left_spec hr).mono fun _ _ ⟨v, h, h1, h2⟩ => ⟨v, h, h2.symm, h1⟩
theorem Done_s (hr : RdAt g st w) : Calls Try.prog 35 #[.pointer (some ⟨g, 0, none⟩)] w (Ret fun r w' => w = w' ∧ r = I (if st = some [] then 0 else 5)) := (Done_spec hr).mono fun _ _ ⟨v, h, h1, h2⟩ => ⟨v, h, h2.symm, h1⟩
theorem FLeft_s (hr : RfAt g st w) : Calls Try.prog 34 #[.pointer (some ⟨g, 0, none⟩)] w (Ret fun r w' => w = w' ∧ r = I ((st.getD []).length : Nat)) := (FLeft_spec hr).mono fun _ _ ⟨v, h, h1, h2⟩ => ⟨v, h, h2.symm, h1⟩
theorem FDone_s (hr : RfAt g st w) : Calls Try.prog 36 #[.pointer (some ⟨g, 0, none⟩)] w (Ret fun r w' => w = w' ∧ r = I (if st = some [] then 0 else 5)) := (FDone_spec hr).mono fun _ _ ⟨v, h, h1, h2⟩ => ⟨v, h, h2.symm, h1⟩
end
theorem WireReads_walk {w : World} {d p : List UInt8} {v u : Value} (hd : Bts d v w) (hp : Bts p u w) :
    Calls Try.prog 11 #[v, u] w (Ret fun r w' => r = B true ∧ Ext w w') := by
  refine enter (vs := [v, u]) Try.func11 rfl rfl rfl ?_
  refine c_seq (c_region (o_assign rfl rfl (o_nil (n_then (c_seq (c_seq (c_region (o_call call_awake rfl rfl (awake_spec _) ?_))))))))
  rintro v10 w10 ⟨rfl, x10⟩
  refine o_not rfl rfl r_not (o_move rfl rfl (g_yes rfl (o_move rfl rfl (g_yes rfl (o_len rfl rfl (r_lenB (hd.ext x10)) (g_yes rfl (o_bin rfl rfl rfl (r_gtr_i) (o_pick_f rfl rfl rfl ?_))))))))
  refine o_move rfl rfl ?_
  refine o_dec (fun h17 => ?_) (fun h17 => ?_)
  · refine g_no rfl rfl rfl (g_no rfl rfl rfl (g_no rfl rfl rfl (o_pick_t rfl rfl rfl (o_nil (n_then (c_yes rfl (c_seq (c_region (o_call call_awake rfl rfl (awake_spec _) ?_)))))))))
    rintro v22 w22 ⟨rfl, x22⟩
    refine o_assign rfl rfl (o_nil (n_then (c_ret (r_then (r_body1 rfl rfl ?_)))))
    exact ⟨_, rfl, rfl, (x10.trans x22)⟩
  · refine g_yes rfl (o_move rfl rfl (g_yes rfl (o_len rfl rfl (r_lenB (hp.ext x10)) (g_yes rfl (o_bin rfl rfl rfl (r_gtr_i) (o_pick_f rfl rfl rfl (o_nil (n_then ?_))))))))
    refine c_if rfl (fun h21 => ?_) (fun h21 => ?_)
    · refine c_seq (c_region (o_call call_awake rfl rfl (awake_spec _) ?_))
      rintro v22 w22 ⟨rfl, x22⟩
      refine o_assign rfl rfl (o_nil (n_then (c_ret (r_then (r_body1 rfl rfl ?_)))))
      exact ⟨_, rfl, rfl, (x10.trans x22)⟩
    · refine c_skip (n_then (c_seq (c_region ?_)))
      obtain ⟨v23, w23, hr23, x23, o23, ob23⟩ := r_bsB (w := w10) w10.heap.size [] (by simp) (Nat.le_refl _)
      refine o_buildSlice (vs := []) rfl rfl hr23 (o_move rfl rfl ?_)
      obtain ⟨v25, w25, hr25, o25, g25⟩ := r_appB (ty := 22) o23 (hd.ext (x10.trans x23)) (by simp; omega) (x23).size
      have x25 := Ext.of_grew (x23) g25 o23.ge
      refine o_append rfl rfl hr25 ?_
      rw [List.nil_append] at o25
      have ob25 := o25.below
      have oge := o25.ge
      refine o_assign rfl rfl (o_nil (n_then (c_seq (c_region (o_move rfl rfl (o_call call_New rfl rfl ((New_own o25.bts (by omega))) ?_))))))
      rintro v27 w27 ⟨x27, g, A, n, c, lg, rfl, kg, og⟩
      refine o_move rfl rfl (o_call call_FNew rfl rfl ((FNew_own (hd.ext ((x10.trans x25).trans x27)) (by omega))) ?_)
      rintro v29 w29 ⟨x29, g', A', n', c', lg', rfl, kf, of⟩
      refine o_assign rfl rfl (o_assign rfl rfl (o_nil (n_then (c_seq (c_seq (c_region (o_assign rfl rfl (o_nil (n_then (c_block ?_))))))))))
      refine c_loop2 (fun (i : Nat) (L : List UInt8) => [(1, u), (5, v25), (6, .pointer (some ⟨g, 0, none⟩)), (7, .pointer (some ⟨g', 0, none⟩)), (8, I (i : Int))]) (fun (i : Nat) (L : List UInt8) w' => w29.grownBy w' v25.ownBlock ∧ OwnB w10.heap.size L v25 w' ∧ L.length = d.length ∧ i ≤ d.length) (fun (i : Nat) (L : List UInt8) => d.length - i) (0) (d) ⟨rfl, rfl, rfl, rfl, rfl, trivial⟩ ⟨grownBy_refl _ _, (o25.ext (x27.trans x29)), rfl, by omega⟩ ?_
      rintro i L w6 ⟨g6, o6, hL, hi⟩
      refine c_seq (c_seq (c_region (o_move rfl rfl (o_move rfl rfl (o_len rfl rfl (r_lenB o6.bts) (o_bin rfl rfl rfl (r_lss_i) (o_nil (n_then ?_))))))))
      refine c_if rfl (fun h33 => ?_) (fun h33 => ?_)
      · refine c_skip (n_then (c_seq (c_block (c_region (o_move rfl rfl (o_move rfl rfl ?_))))))
        obtain ⟨g38, w38, p38, s38, o38, q38, hb38, c38, ob38⟩ := o6.setB (i := i) (by omega) 77
        refine o_indexAddr rfl rfl rfl (p38 _) ?_
        refine o_store rfl rfl (s38) (o_nil (n_block (n_then (c_region (o_move rfl rfl (o_bin (r := I ((i + 1 : Nat) : Int)) rfl rfl rfl (by have e : ((i + 1 : Nat) : Int) = (i : Int) + 1 := (by omega); rw [e]; exact r_add_i (by omega) (by omega)) ?_))))))
        refine o_assign rfl rfl (o_nil ?_)
        refine n_round2 (i + 1) (L.set i 77) ⟨rfl, rfl, rfl, rfl, rfl, trivial⟩ ⟨g6.trans (by rw [ob38]; exact q38), o38, by rw [List.length_set]; exact hL, by omega⟩ (by omega)
      · refine c_exit (x_then (x_then (x_here (n_then (c_seq (c_seq ?_))))))
        have ex6 : Ext w w6 := (((x10.trans x25).trans x27).trans x29).of_grown g6 (fun k hk => Nat.le_trans x10.size (oge k hk))
        have hsz := x27.size
        have r6 : RdAt g (some d) w6 := ⟨A, n, c, (kg.ext x29).other g6 (fun e => by have := ob25 g e.symm; omega), ((og.ext x29).later g6 ob25).bts⟩
        have f6 : RfAt g' (some d) w6 := ⟨A', n', c', kf.other g6 (fun e => by have := ob25 g' e.symm; omega), (of.later g6 (fun k hk => by have := ob25 k hk; omega)).bts⟩
        have hgg : g ≠ g' := by have := Blk.lt kg; omega
        have hw25 := (x10.trans x25).size
        refine c_region (o_assign rfl rfl (o_nil (n_then (c_block ?_))))
        refine c_loop2 (fun (i : Nat) (st : Option (List UInt8)) => [(1, u), (6, .pointer (some ⟨g, 0, none⟩)), (7, .pointer (some ⟨g', 0, none⟩)), (9, I (i : Int))]) (fun (i : Nat) (st : Option (List UInt8)) w' => Ext w w' ∧ RdAt g st w' ∧ RfAt g' st w' ∧ Few st ∧ i ≤ p.length) (fun (i : Nat) (st : Option (List UInt8)) => p.length - i) (0) (some d) ⟨rfl, rfl, rfl, rfl, trivial⟩ ⟨ex6, r6, f6, fun l e => by cases e; omega, by omega⟩ ?_
        rintro i st w9 ⟨e9, r9, f9, hs, hi⟩
        refine c_seq (c_seq (c_region (o_move rfl rfl (o_move rfl rfl (o_len rfl rfl (r_lenB (hp.ext e9)) (o_bin rfl rfl rfl (r_lss_i) (o_nil (n_then ?_))))))))
        refine c_if rfl (fun h42 => ?_) (fun h42 => ?_)
        · refine c_skip (n_then (c_seq (c_block (c_seq (c_region (o_move rfl rfl (o_move rfl rfl (o_move rfl rfl (o_move rfl rfl ?_)))))))))
          obtain ⟨a49, p49, q49⟩ := r_ixB (hp.ext e9) (i := i) (by omega) .i64
          refine o_indexAddr rfl rfl rfl (p49 _) (o_load rfl rfl (r_load1 Try.underlying5 rfl q49) (o_call call_wstep rfl rfl ((wstep_spec r9 f9 hgg hs)) ?_))
          rintro v51 w51 ⟨rfl, m51, E51, st', r5, f5, hs'⟩
          have x51 := E51 w e9 (by omega) (by omega)
          refine o_not rfl rfl r_not (o_move rfl rfl (g_yes rfl (o_move rfl rfl (g_yes rfl (o_call call_Left rfl rfl (Left_s r5) ?_)))))
          rintro v55 _ ⟨rfl, rfl⟩
          refine g_yes rfl (o_move rfl rfl (g_yes rfl (o_call call_FLeft rfl rfl (FLeft_s f5) ?_)))
          rintro v57 _ ⟨rfl, rfl⟩
          refine g_yes rfl (o_bin rfl rfl rfl (dec_f (fun h => h rfl) r_neq_i) (o_pick_f rfl rfl rfl (o_move rfl rfl (g_yes rfl (o_move rfl rfl (g_yes rfl (o_call call_Done rfl rfl (Done_s r5) ?_)))))))
          rintro v62 _ ⟨rfl, rfl⟩
          refine g_yes rfl (o_move rfl rfl (g_yes rfl (o_call call_FDone rfl rfl (FDone_s f5) ?_)))
          rintro v64 _ ⟨rfl, rfl⟩
          refine g_yes rfl (o_bin rfl rfl rfl (dec_f (fun h => h rfl) r_neq_i) (o_pick_f rfl rfl rfl (o_nil (n_then (c_no rfl (c_skip (n_block (n_then (c_region (o_move rfl rfl (o_bin (r := I ((i + 1 : Nat) : Int)) rfl rfl rfl (by have e : ((i + 1 : Nat) : Int) = (i : Int) + 1 := (by omega); rw [e]; exact r_add_i (by omega) (by omega)) ?_)))))))))))
          refine o_assign rfl rfl (o_nil ?_)
          refine n_round2 (i + 1) (st') ⟨rfl, rfl, rfl, rfl, trivial⟩ ⟨x51, r5, f5, hs', by omega⟩ (by omega)
        · refine c_exit (x_then (x_then (x_here (n_then (c_seq (c_region (o_move rfl rfl (o_call call_Left rfl rfl (Left_s r9) ?_))))))))
          rintro v68 _ ⟨rfl, rfl⟩
          refine o_move rfl rfl (o_call call_FLeft rfl rfl (FLeft_s f9) ?_)
          rintro v70 _ ⟨rfl, rfl⟩
          refine o_bin rfl rfl rfl (dec_t rfl r_eql_i) (o_move rfl rfl (g_yes rfl (o_move rfl rfl (g_yes rfl (o_call call_Done rfl rfl (Done_s r9) ?_)))))
          rintro v74 _ ⟨rfl, rfl⟩
          refine g_yes rfl (o_move rfl rfl (g_yes rfl (o_call call_FDone rfl rfl (FDone_s f9) ?_)))
          rintro v76 _ ⟨rfl, rfl⟩
          refine g_yes rfl (o_bin rfl rfl rfl (dec_t rfl r_eql_i) (o_pick_t rfl rfl rfl (o_assign rfl rfl (o_nil (n_then (c_ret (r_body1 rfl rfl ?_)))))))
          exact ⟨_, rfl, rfl, e9⟩
end Go.Rl


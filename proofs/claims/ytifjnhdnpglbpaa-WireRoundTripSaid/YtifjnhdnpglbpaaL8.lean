/- The statement WireRoundTrip: numbers that are written are read back. No condition. -/
import Derived.Test.YtifjnhdnpglbpaaL7
namespace Go.Rl
open Go.RowKit Go.Proofs
theorem size_Numbers : (Try.prog.info? 37).map (·.size) = some 6 := by kernel_rfl
section
variable {P : Program} {w : World}
theorem r_fAtO {s : TypeId} {fs : Array Field} {f : Field} {n g o b : Nat} (hs : P.underlying s = some (.struct fs)) (hf : fs[n]? = some f) (hk : (P.cellsOf f.type == 0) = false) (ho : f.offset = o) :
    (Instr.fieldAt s (.pointer (some ⟨g, b, none⟩)) n).run P w = .ok (.pointer (some ⟨g, b + o, none⟩)) w := by
  have hk' : P.cellsOf f.type ≠ 0 := by simpa using hk
  obtain ⟨k, hk1⟩ : ∃ k, (P.info? f.type).map (·.size) = some k := by
    cases hi : (P.info? f.type).map (·.size) with
    | none => exact absurd (by simp [Program.cellsOf, hi]) hk'
    | some k => exact ⟨k, rfl⟩
  have hk0 : k ≠ 0 := by
    intro h
    apply hk'
    simp [Program.cellsOf, hk1, h]
  rw [r_fieldAt hs hf hk1 hk0, ho, add_mk]
end
theorem Blk.ldRN {w : World} {g : Nat} {T : TypeId} {a b c d e f : Value} (h : Blk g T [a, b, c, d, e, f] w) : (Instr.loadAt 35 (.pointer (some ⟨g, 2, none⟩))).run Try.prog w = .ok (.agg #[c, d, e]) w :=
  r_ldA (m := [c, d, e]) h (fun j v hj => by
    match j with
    | 0 => simpa using hj
    | 1 => simpa using hj
    | 2 => simpa using hj
    | j + 3 => simp at hj) Try.underlying35 rfl size_Rat
theorem r_boxN {w : World} {a b c d e f v : Value} (hv : v = .agg #[a, b, c, d, e, f]) :
    ∃ g w', (Instr.box 37 v).run Try.prog w = .ok (.pointer (some ⟨g, 0, none⟩)) w' ∧ Ext w w' ∧ Blk g 37 [a, b, c, d, e, f] w' := by
  subst hv
  exact ⟨_, _, r_box, Ext.new w _, Blk.new (T := 37) (l := [a, b, c, d, e, f]) (.agg #[a, b, c, d, e, f]) rfl⟩
theorem OwnB.down {base base' : Nat} {l : List UInt8} {v : Value} {w : World} (h : OwnB base l v w) (hb : base' ≤ base) : OwnB base' l v w := by
  obtain ⟨n, h1, h2⟩ := h
  refine ⟨n, h1, ?_⟩
  rcases h2 with h2 | ⟨g, cap, cur, e, hg, rest⟩
  · exact .inl h2
  · exact .inr ⟨g, cap, cur, e, Nat.le_trans hb hg, rest⟩
theorem WireRoundTrip_walk {w : World} {a : UInt64} {i : Int} {s : Bool} {n m : List UInt32} {bs : List UInt8} {x y z v : Value} (hv : v = .agg #[U64 a, I i, B s, x, y, z]) (h1 : -9223372036854775808 ≤ i) (h2 : i ≤ 9223372036854775807) (hn : Wds n x w) (hm : Wds m y w) (hz : Bts bs z w) :
    Calls Try.prog 10 #[v] w (Ret fun r w' => r = B true ∧ Ext w w') := by
  refine enter (vs := [v]) Try.func10 rfl rfl rfl ?_
  refine c_seq (c_region ?_)
  obtain ⟨g1, w1, hr1, x1, k1⟩ := r_boxN (w := w) hv
  refine o_box rfl rfl hr1 ?_
  have hn := hn.ext x1
  have hm := hm.ext x1
  have hz := hz.ext x1
  refine o_assign rfl rfl (o_nil (n_then (c_seq (c_seq ?_))))
  rcases hV : rv s n m
  · refine c_region (o_call call_awake rfl rfl (awake_spec _) ?_)
    rintro v13 w13 ⟨rfl, x13⟩
    refine o_not rfl rfl r_not (o_move rfl rfl (g_yes rfl (o_fieldAddr rfl rfl (r_fAt (o := 2) Try.underlying37 rfl (by kernel_rfl) rfl) ?_)))
    refine g_yes rfl (o_fieldAddr rfl rfl (r_fAtO (b := 2) (o := 1) Try.underlying35 rfl (by kernel_rfl) rfl) (g_yes rfl (o_load rfl rfl (r_load1 Try.underlying33 rfl (x13.cell_some (k1.cell (i := 3) rfl))) ?_)))
    refine g_yes rfl (o_len rfl rfl (r_lenW Try.underlying33 (hn.ext x13)) (g_yes rfl (o_bin rfl rfl rfl (r_gtr_i) (o_pick_f rfl rfl rfl (o_move rfl rfl ?_)))))
    refine o_dec (fun h22 => ?_) (fun h22 => ?_)
    · refine g_no rfl rfl rfl (g_no rfl rfl rfl (g_no rfl rfl rfl (g_no rfl rfl rfl (g_no rfl rfl rfl (o_pick_t rfl rfl rfl (o_move rfl rfl (g_no rfl rfl rfl (g_no rfl rfl rfl (g_no rfl rfl rfl ?_)))))))))
      refine g_no rfl rfl rfl (o_pick_t rfl rfl rfl (o_move rfl rfl (g_no rfl rfl rfl (g_no rfl rfl rfl (g_no rfl rfl rfl (g_no rfl rfl rfl (o_pick_t rfl rfl rfl (o_nil (n_then (c_yes rfl ?_))))))))))
      refine c_seq (c_region (o_call call_awake rfl rfl (awake_spec _) ?_))
      rintro v41 w41 ⟨rfl, x41⟩
      refine o_assign rfl rfl (o_nil (n_then (c_ret (r_then (r_body1 rfl rfl ?_)))))
      exact ⟨_, rfl, rfl, ((x1.trans x13).trans x41)⟩
    · refine g_yes rfl (o_fieldAddr rfl rfl (r_fAt (o := 2) Try.underlying37 rfl (by kernel_rfl) rfl) (g_yes rfl (o_fieldAddr rfl rfl (r_fAtO (b := 2) (o := 2) Try.underlying35 rfl (by kernel_rfl) rfl) ?_)))
      refine g_yes rfl (o_load rfl rfl (r_load1 Try.underlying33 rfl (x13.cell_some (k1.cell (i := 4) rfl))) (g_yes rfl (o_len rfl rfl (r_lenW Try.underlying33 (hm.ext x13)) ?_)))
      refine g_yes rfl (o_bin rfl rfl rfl (r_gtr_i) (o_pick_f rfl rfl rfl (o_move rfl rfl ?_)))
      refine o_dec (fun h29 => ?_) (fun h29 => ?_)
      · refine g_no rfl rfl rfl (g_no rfl rfl rfl (g_no rfl rfl rfl (g_no rfl rfl rfl (o_pick_t rfl rfl rfl (o_move rfl rfl (g_no rfl rfl rfl (g_no rfl rfl rfl (g_no rfl rfl rfl (g_no rfl rfl rfl ?_)))))))))
        refine o_pick_t rfl rfl rfl (o_nil (n_then (c_yes rfl (c_seq (c_region (o_call call_awake rfl rfl (awake_spec _) ?_))))))
        rintro v41 w41 ⟨rfl, x41⟩
        refine o_assign rfl rfl (o_nil (n_then (c_ret (r_then (r_body1 rfl rfl ?_)))))
        exact ⟨_, rfl, rfl, ((x1.trans x13).trans x41)⟩
      · refine g_yes rfl (o_fieldAddr rfl rfl (r_fAt (o := 2) Try.underlying37 rfl (by kernel_rfl) rfl) (g_yes rfl (o_load rfl rfl ((k1.ext x13).ldRN) ?_)))
        refine g_yes rfl (o_call call_SValid rfl rfl ((by have := SValid_spec (b := s) ((RatV.mk hn hm).ext x13) (by omega) (by omega); rw [hV] at this; exact this)) ?_)
        rintro v32 w32 ⟨x32, rfl⟩
        refine g_yes rfl (o_not rfl rfl r_not (o_pick_f rfl rfl rfl (o_move rfl rfl (g_no rfl rfl rfl (g_no rfl rfl rfl (g_no rfl rfl rfl (g_no rfl rfl rfl (o_pick_t rfl rfl rfl (o_nil ?_)))))))))
        refine n_then (c_yes rfl (c_seq (c_region (o_call call_awake rfl rfl (awake_spec _) ?_))))
        rintro v41 w41 ⟨rfl, x41⟩
        refine o_assign rfl rfl (o_nil (n_then (c_ret (r_then (r_body1 rfl rfl ?_)))))
        exact ⟨_, rfl, rfl, (((x1.trans x13).trans x32).trans x41)⟩
  · refine c_region (o_call call_awake rfl rfl (awake_spec _) ?_)
    rintro v13 w13 ⟨rfl, x13⟩
    refine o_not rfl rfl r_not (o_move rfl rfl (g_yes rfl (o_fieldAddr rfl rfl (r_fAt (o := 2) Try.underlying37 rfl (by kernel_rfl) rfl) ?_)))
    refine g_yes rfl (o_fieldAddr rfl rfl (r_fAtO (b := 2) (o := 1) Try.underlying35 rfl (by kernel_rfl) rfl) (g_yes rfl (o_load rfl rfl (r_load1 Try.underlying33 rfl (x13.cell_some (k1.cell (i := 3) rfl))) ?_)))
    refine g_yes rfl (o_len rfl rfl (r_lenW Try.underlying33 (hn.ext x13)) (g_yes rfl (o_bin rfl rfl rfl (r_gtr_i) (o_pick_f rfl rfl rfl (o_move rfl rfl ?_)))))
    refine o_dec (fun h22 => ?_) (fun h22 => ?_)
    · refine g_no rfl rfl rfl (g_no rfl rfl rfl (g_no rfl rfl rfl (g_no rfl rfl rfl (g_no rfl rfl rfl (o_pick_t rfl rfl rfl (o_move rfl rfl (g_no rfl rfl rfl (g_no rfl rfl rfl (g_no rfl rfl rfl ?_)))))))))
      refine g_no rfl rfl rfl (o_pick_t rfl rfl rfl (o_move rfl rfl (g_no rfl rfl rfl (g_no rfl rfl rfl (g_no rfl rfl rfl (g_no rfl rfl rfl (o_pick_t rfl rfl rfl (o_nil (n_then (c_yes rfl ?_))))))))))
      refine c_seq (c_region (o_call call_awake rfl rfl (awake_spec _) ?_))
      rintro v41 w41 ⟨rfl, x41⟩
      refine o_assign rfl rfl (o_nil (n_then (c_ret (r_then (r_body1 rfl rfl ?_)))))
      exact ⟨_, rfl, rfl, ((x1.trans x13).trans x41)⟩
    · refine g_yes rfl (o_fieldAddr rfl rfl (r_fAt (o := 2) Try.underlying37 rfl (by kernel_rfl) rfl) (g_yes rfl (o_fieldAddr rfl rfl (r_fAtO (b := 2) (o := 2) Try.underlying35 rfl (by kernel_rfl) rfl) ?_)))
      refine g_yes rfl (o_load rfl rfl (r_load1 Try.underlying33 rfl (x13.cell_some (k1.cell (i := 4) rfl))) (g_yes rfl (o_len rfl rfl (r_lenW Try.underlying33 (hm.ext x13)) ?_)))
      refine g_yes rfl (o_bin rfl rfl rfl (r_gtr_i) (o_pick_f rfl rfl rfl (o_move rfl rfl ?_)))
      refine o_dec (fun h29 => ?_) (fun h29 => ?_)
      · refine g_no rfl rfl rfl (g_no rfl rfl rfl (g_no rfl rfl rfl (g_no rfl rfl rfl (o_pick_t rfl rfl rfl (o_move rfl rfl (g_no rfl rfl rfl (g_no rfl rfl rfl (g_no rfl rfl rfl (g_no rfl rfl rfl ?_)))))))))
        refine o_pick_t rfl rfl rfl (o_nil (n_then (c_yes rfl (c_seq (c_region (o_call call_awake rfl rfl (awake_spec _) ?_))))))
        rintro v41 w41 ⟨rfl, x41⟩
        refine o_assign rfl rfl (o_nil (n_then (c_ret (r_then (r_body1 rfl rfl ?_)))))
        exact ⟨_, rfl, rfl, ((x1.trans x13).trans x41)⟩
      · refine g_yes rfl (o_fieldAddr rfl rfl (r_fAt (o := 2) Try.underlying37 rfl (by kernel_rfl) rfl) (g_yes rfl (o_load rfl rfl ((k1.ext x13).ldRN) ?_)))
        refine g_yes rfl (o_call call_SValid rfl rfl ((by have := SValid_spec (b := s) ((RatV.mk hn hm).ext x13) (by omega) (by omega); rw [hV] at this; exact this)) ?_)
        rintro v32 w32 ⟨x32, rfl⟩
        have hc := rv_can hV
        have la : (uv a.toNat).length ≤ 10 := uv_len (u64_lt a)
        have li : (uv (zig i)).length ≤ 10 := uv_len (zig_lt h1 h2)
        refine g_yes rfl (o_not rfl rfl r_not (o_pick_f rfl rfl rfl (o_move rfl rfl (g_yes rfl (o_fieldAddr rfl rfl (r_fAt (o := 5) Try.underlying37 rfl (by kernel_rfl) rfl) ?_)))))
        refine g_yes rfl (o_load rfl rfl (r_load1 Try.underlying22 rfl ((x13.trans x32).cell_some (k1.cell (i := 5) rfl))) (g_yes rfl (o_len rfl rfl (r_lenB (hz.ext (x13.trans x32))) ?_)))
        refine g_yes rfl (o_bin rfl rfl rfl (r_gtr_i) (o_pick_f rfl rfl rfl (o_nil (n_then ?_))))
        refine c_if rfl (fun h40 => ?_) (fun h40 => ?_)
        · refine c_seq (c_region (o_call call_awake rfl rfl (awake_spec _) ?_))
          rintro v41 w41 ⟨rfl, x41⟩
          refine o_assign rfl rfl (o_nil (n_then (c_ret (r_then (r_body1 rfl rfl ?_)))))
          exact ⟨_, rfl, rfl, (((x1.trans x13).trans x32).trans x41)⟩
        · refine c_skip (n_then (c_seq ?_))
          have ln := encN_len n (by omega)
          have lm := encN_len m (by omega)
          have lR : (encR s n m).length ≤ 85 := by simp only [encR, List.length_append, List.length_singleton]; omega
          refine c_grow 15 [1, 54, 56] (by kernel_rfl) (by kernel_rfl) ?_
          refine f_fieldAddr rfl rfl (fun w hw => r_fAt (o := 0) Try.underlying37 rfl (by kernel_rfl) rfl) (f_load rfl rfl (fun w hw => r_load1 Try.underlying31 rfl (hw.cell_some ((x13.trans x32).cell_some (k1.cell (i := 0) rfl)))) ?_)
          refine f_call (S := Bts (uv a.toNat)) call_AppendUint (Bts.stable _) rfl (fun w hw => by rintro _ rfl _ rfl; exact Ret.mono (AppendUint_spec (Bts.nil _) (by simp)) fun v w' h => ⟨h.1, h.2.bts⟩) ?_
          refine f_fieldAddr rfl rfl (fun w hw => r_fAt (o := 1) Try.underlying37 rfl (by kernel_rfl) rfl) (f_load rfl rfl (fun w hw => r_load1 Try.underlying3 rfl (hw.cell_some ((x13.trans x32).cell_some (k1.cell (i := 1) rfl)))) ?_)
          refine f_call (S := Bts (uv a.toNat ++ uv (zig i))) call_AppendInt (Bts.stable _) rfl (fun w hw => by rintro z hz' _ rfl; exact Ret.mono (AppendInt_spec hz' (by omega) h1 h2) fun v w' h => ⟨h.1, h.2.bts⟩) ?_
          refine f_fieldAddr rfl rfl (fun w hw => r_fAt (o := 2) Try.underlying37 rfl (by kernel_rfl) rfl) (f_fieldAddr rfl rfl (fun w hw => r_fAtO (b := 2) (o := 1) Try.underlying35 rfl (by kernel_rfl) rfl) ?_)
          refine f_load rfl rfl (fun w hw => r_load1 Try.underlying33 rfl (hw.cell_some ((x13.trans x32).cell_some (k1.cell (i := 3) rfl)))) (f_call (S := Bts (uv a.toNat ++ uv (zig i) ++ encN n)) call_AppendNat (Bts.stable _) rfl (fun w hw => by rintro z hz' _ rfl; exact Ret.mono (AppendNat_spec hz' ((hn.ext (x13.trans x32)).ext hw) (by simp only [List.length_append]; omega)) fun v w' h => ⟨h.1, h.2.bts⟩) ?_)
          refine f_fieldAddr rfl rfl (fun w hw => r_fAt (o := 2) Try.underlying37 rfl (by kernel_rfl) rfl) (f_load rfl rfl (fun w hw => ((k1.ext (x13.trans x32)).ext hw).ldRN) ?_)
          refine f_call (S := OwnB w32.heap.size (uv a.toNat ++ uv (zig i) ++ encN n ++ encR s n m)) call_AppendRat (OwnB.stable _ _) rfl (fun w hw => by rintro z hz' _ rfl; exact Ret.mono (AppendRat_spec hz' (((RatV.mk hn hm).ext (x13.trans x32)).ext hw) (by simp only [List.length_append]; omega)) fun v w' h => ⟨h.1, h.2.down hw.size⟩) ?_
          refine f_fieldAddr rfl rfl (fun w hw => r_fAt (o := 5) Try.underlying37 rfl (by kernel_rfl) rfl) (f_load rfl rfl (fun w hw => r_load1 Try.underlying22 rfl (hw.cell_some ((x13.trans x32).cell_some (k1.cell (i := 5) rfl)))) ?_)
          refine f_nil ?_
          intro wg3 xg3
          rintro _ rfl
          intro vg54 b54
          rintro _ hq56
          obtain rfl := Eq.symm hq56
          obtain ⟨v57, w57, hr57, o57, g57⟩ := r_appB (ty := 22) b54 (hz.ext ((x13.trans x32).trans xg3)) (by simp only [List.length_append]; omega) (xg3).size
          have x57 := Ext.of_grew (xg3) g57 b54.ge
          refine o_append rfl rfl hr57 ?_
          obtain ⟨r3, hr3⟩ : ∃ r3, r3 = encR s n m ++ bs := ⟨_, rfl⟩
          obtain ⟨r2, hr2⟩ : ∃ r2, r2 = encN n ++ r3 := ⟨_, rfl⟩
          obtain ⟨r1, hr1⟩ : ∃ r1, r1 = uv (zig i) ++ r2 := ⟨_, rfl⟩
          have hL : uv a.toNat ++ uv (zig i) ++ encN n ++ encR s n m ++ bs = uv a.toNat ++ r1 := by rw [hr1, hr2, hr3]; simp only [List.append_assoc]
          have l3 : r3.length ≤ 135 := by rw [hr3, List.length_append]; omega
          have l2 : r2.length ≤ 177 := by rw [hr2, List.length_append]; omega
          have l1 : r1.length ≤ 187 := by rw [hr1, List.length_append]; omega
          rw [hL] at o57
          refine o_assign rfl rfl (o_nil (n_then (c_seq (c_region (o_move rfl rfl (o_call call_New rfl rfl ((New_spec o57.bts (by simp only [List.length_append]; omega))) ?_))))))
          rintro v59 w59 ⟨x59, g, lg, rfl, rr⟩
          have hg : w1.heap.size ≤ g := Nat.le_trans ((x13.trans x32).trans x57).size lg
          refine o_assign rfl rfl (o_nil (n_then (c_seq (c_region (o_move rfl rfl (o_call call_Uint rfl rfl ((by have := WU_ok (st := some (uv a.toNat ++ r1)) rr (rdU_uv (u64_lt a) r1); rw [UInt64.ofNat_toNat] at this; exact this)) ?_))))))
          rintro v62 w62 ⟨g62, rfl, rr1⟩
          have x62 := ((((x13.trans x32).trans x57).trans x59)).of_new g62 hg
          have m62 := (rr.rdT).kp g62
          refine o_move rfl rfl (o_extract rfl rfl (r_ext0) (o_extract rfl rfl (r_ext1) (o_assign rfl rfl (o_assign rfl rfl (o_nil (n_then (c_seq (c_region (o_move rfl rfl (o_call call_RInt rfl rfl ((by have := WI_ok (st := some r1) rr1 (by rw [hr1]; exact rdU_uv (zig_lt h1 h2) r2); rw [uz_zig] at this; exact this)) ?_))))))))))
          rintro v67 w67 ⟨g67, rfl, rr2⟩
          have x67 := (x62).of_new g67 hg
          have m67 := (rr1.rdT).kp g67
          refine o_move rfl rfl (o_extract rfl rfl (r_ext0) (o_extract rfl rfl (r_ext1) (o_assign rfl rfl (o_assign rfl rfl (o_nil (n_then (c_seq (c_region (o_move rfl rfl (o_call call_RNat rfl rfl ((WN_ok (st := some r2) rr2 (fun l e => by cases e; omega) (by rw [hr2]; exact rdN_encN (by omega) hc.1 r3))) ?_))))))))))
          rintro v72 w72 ⟨g72, v0, rfl, h0, rr3⟩
          have x72 := (x67).of_new g72 hg
          have m72 := (rr2.rdT).kp g72
          refine o_move rfl rfl (o_extract rfl rfl (r_ext0) (o_extract rfl rfl (r_ext1) (o_assign rfl rfl (o_assign rfl rfl (o_nil (n_then (c_seq (c_region (o_move rfl rfl (o_call call_RRat rfl rfl ((WR_ok (st := some r3) rr3 (fun l e => by cases e; omega) (by rw [hr3]; exact rdR_encR hV (by omega) (by omega) bs))) ?_))))))))))
          rintro v77 w77 ⟨g77, u0, rfl, j0, rr4⟩
          have x77 := (x72).of_new g77 hg
          have m77 := (rr3.rdT).kp g77
          refine o_move rfl rfl (o_extract rfl rfl (r_ext0) (o_extract rfl rfl (r_ext1) ?_))
          obtain ⟨g11, w11, hr11, l11, x11, k11⟩ := r_allocR (w := w77)
          refine o_alloc rfl hr11 ?_
          obtain ⟨p1, q1, w5, hp1, hs1, e1, k5, n5, d5⟩ := k11.stR ⟨_, _, _, rfl⟩ ⟨_, _, _, rfl⟩ (j0.ext x11)
          refine o_store rfl rfl (hs1) ?_
          have x5 := x11.of_new e1 l11
          refine o_assign rfl rfl (o_nil (n_then (c_seq (c_grow 49 [128] (by kernel_rfl) (by kernel_rfl) ?_))))
          refine f_move rfl rfl (f_bin rfl rfl rfl (fun w _ => dec_t rfl r_eql_i) (f_move rfl rfl (f_yes rfl rfl (f_move rfl rfl (f_yes rfl rfl (f_bin rfl rfl rfl (fun w _ => dec_t rfl r_eql_i) ?_))))))
          refine f_pick_t rfl rfl rfl (f_move rfl rfl (f_yes rfl rfl (f_move rfl rfl (f_yes rfl rfl (f_bin rfl rfl rfl (fun w _ => dec_t rfl r_eql_i) (f_pick_t rfl rfl rfl (f_move rfl rfl ?_)))))))
          refine f_yes rfl rfl (f_move rfl rfl (f_yes rfl rfl (f_bin rfl rfl rfl (fun w _ => dec_t rfl r_eql_i) (f_pick_t rfl rfl rfl (f_move rfl rfl (f_yes rfl rfl (f_move rfl rfl (f_yes rfl rfl ?_))))))))
          refine f_fieldAddr rfl rfl (fun w hw => r_fAt (o := 0) Try.underlying37 rfl (by kernel_rfl) rfl) (f_yes rfl rfl (f_load rfl rfl (fun w hw => r_load1 Try.underlying31 rfl (hw.cell_some ((x77.trans x5).cell_some (k1.cell (i := 0) rfl)))) ?_))
          refine f_yes rfl rfl (f_bin rfl rfl rfl (fun w _ => dec_t rfl r_eql_u64) (f_pick_t rfl rfl rfl (f_move rfl rfl (f_yes rfl rfl (f_move rfl rfl (f_yes rfl rfl (f_fieldAddr rfl rfl (fun w hw => r_fAt (o := 1) Try.underlying37 rfl (by kernel_rfl) rfl) ?_)))))))
          refine f_yes rfl rfl (f_load rfl rfl (fun w hw => r_load1 Try.underlying3 rfl (hw.cell_some ((x77.trans x5).cell_some (k1.cell (i := 1) rfl)))) (f_yes rfl rfl ?_))
          refine f_bin rfl rfl rfl (fun w _ => dec_t rfl r_eql_i) (f_pick_t rfl rfl rfl (f_move rfl rfl (f_yes rfl rfl (f_move rfl rfl (f_yes rfl rfl (f_build (S := Is (.agg #[B false, v0, .slice none 0 0])) (Stable.is _) rfl (fun w' _ => by rintro _ rfl; exact ⟨_, w', r_build1N h0.isS, Ext.refl _, rfl⟩) ?_))))))
          refine f_yes rfl rfl (f_fieldAddr rfl rfl (fun w hw => r_fAt (o := 2) Try.underlying37 rfl (by kernel_rfl) rfl) (f_yes rfl rfl (f_fieldAddr rfl rfl (fun w hw => r_fAtO (b := 2) (o := 1) Try.underlying35 rfl (by kernel_rfl) rfl) ?_)))
          refine f_yes rfl rfl (f_load rfl rfl (fun w hw => r_load1 Try.underlying33 rfl (hw.cell_some ((x77.trans x5).cell_some (k1.cell (i := 3) rfl)))) ?_)
          refine f_yes rfl rfl (f_build (S := Is (.agg #[B false, x, .slice none 0 0])) (Stable.is _) rfl (fun w' _ => by rintro _ rfl; exact ⟨_, w', r_build1N hn.isS, Ext.refl _, rfl⟩) ?_)
          refine f_yes rfl rfl (f_call (S := Is (B true)) call_SSame (Stable.is _) rfl (fun w hw => by rintro _ rfl _ rfl; exact SSame_refl (RatV.mk (b := false) (((h0.kp m77).ext x5).ext hw) (Wds.nil _)) (RatV.mk (b := false) ((hn.ext (x77.trans x5)).ext hw) (Wds.nil _))) ?_)
          refine f_pick_t rfl rfl rfl (f_move rfl rfl (f_yes rfl rfl (f_fieldAddr rfl rfl (fun w hw => r_fAt (o := 2) Try.underlying37 rfl (by kernel_rfl) rfl) ?_)))
          refine f_yes rfl rfl (f_load rfl rfl (fun w hw => ((k1.ext (x77.trans x5)).ext hw).ldRN) (f_yes rfl rfl (f_load rfl rfl (fun w hw => (k5.ext hw).ldR) (f_yes rfl rfl (f_call (S := Is (B true)) call_SSame (Stable.is _) rfl (fun w hw => by rintro _ rfl _ rfl; exact SSame_refl (((RatV.mk hn hm).ext (x77.trans x5)).ext hw) ((RatV.mk n5 d5).ext hw)) ?_)))))
          refine f_pick_t rfl rfl rfl (f_move rfl rfl (f_yes rfl rfl (f_move rfl rfl (f_yes rfl rfl (f_call (S := Is (I ((bs.length : Nat) : Int))) call_Left (Stable.is _) rfl (fun w hw => by rintro _ rfl; exact Ret.mono (Left_s (((rr4.ext x5)).ext hw)) fun v w' h => ⟨h.1 ▸ Ext.refl _, h.2⟩) ?_)))))
          refine f_yes rfl rfl (f_fieldAddr rfl rfl (fun w hw => r_fAt (o := 5) Try.underlying37 rfl (by kernel_rfl) rfl) (f_yes rfl rfl (f_load rfl rfl (fun w hw => r_load1 Try.underlying22 rfl (hw.cell_some ((x77.trans x5).cell_some (k1.cell (i := 5) rfl)))) ?_)))
          refine f_yes rfl rfl (f_len (vs := [z]) rfl rfl (fun w hw => r_lenB ((hz.ext (x77.trans x5)).ext hw)) (f_yes rfl rfl (f_bin rfl rfl rfl (fun w _ => dec_t rfl r_eql_i) ?_)))
          refine f_pick_t rfl rfl rfl (f_nil ?_)
          intro wg9 xg9
          rintro _ rfl
          refine o_assign rfl rfl (o_nil (n_then (c_ret (r_body1 rfl rfl ?_))))
          exact ⟨_, rfl, rfl, (((x1.trans x77).trans x5).trans xg9)⟩
end Go.Rl


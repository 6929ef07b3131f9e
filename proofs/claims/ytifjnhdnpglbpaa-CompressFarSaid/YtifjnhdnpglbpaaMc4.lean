/- The reference's reader of rationals. Conditions: the bytes are not more than 2^39. -/
import Derived.Test.YtifjnhdnpglbpaaMc3
namespace Go.Rl
open Go.RowKit Go.Proofs
theorem Blk.st1 {P : Program} {w : World} {T t : TypeId} {g : Nat} {l : List Value} {v : Value} (h : Blk g T l w) (i : Nat) (hs : (P.info? t).map (·.size) = some 1) (hv : ∃ A n c, v = .slice A n c) (hi : i < l.length) :
    ∃ w', (Instr.storeAt t (.pointer (some ⟨g, i, none⟩)) v).run P w = .ok () w' ∧ w.grownBy w' (some g) ∧ Blk g T (l.set i v) w' := by
  obtain ⟨A, n, c, rfl⟩ := hv
  exact ⟨_, r_store1 hs rfl h (by simpa using hi), grownBy_setCell w g i _, h.set i _⟩
theorem r_buildR1 {w : World} {b : Bool} : (Instr.build 35 #[(0, B b)]).run Try.prog w = .ok (.agg #[B b, .slice none 0 0, .slice none 0 0]) w :=
  run_build _ _ _ #[B b, .slice none 0 0, .slice none 0 0] (by kernel_rfl)
def FRatE (g : Nat) (w : World) (o : Option ((Bool × List UInt32 × List UInt32) × List UInt8)) (r : Value) (w' : World) : Prop :=
  w.grownBy w' (some g) ∧ match o with
    | some (q, t) => ∃ v, r = .tuple #[v, I 0] ∧ RatV q.1 q.2.1 q.2.2 v w' ∧ RfAt g (some t) w'
    | none => ∃ v, r = .tuple #[v, I 5] ∧ RatV false [] [] v w' ∧ RfAt g none w'
theorem FRat_spec {w : World} {g : Nat} {st : Option (List UInt8)} (hr : RfAt g st w) (hl : ∀ l, st = some l → l.length ≤ 549755813888) :
    Calls Try.prog 60 #[.pointer (some ⟨g, 0, none⟩)] w (Ret (FRatE g w (st.bind rdR))) := by
  refine enter (vs := [.pointer (some ⟨g, 0, none⟩)]) Try.func60 rfl rfl rfl ?_
  have hglt := RfAt.lt hr
  refine c_seq (c_region ?_)
  obtain ⟨g2, w2, hr2, l2, x2, k2⟩ := r_allocR (w := w)
  refine o_alloc rfl hr2 (o_assign rfl rfl (o_nil (n_then (c_seq (c_seq ?_)))))
  have rr := RfAt.ext hr x2
  have kk := k2
  have gg : w.grownBy w2 (some g) := gb_ext x2
  have hne : some g2 ≠ some g := fun h => by have := Option.some.inj h; omega
  have hne' : g ≠ g2 := by omega
  obtain ⟨A, n, c0, k0, b0⟩ := id rr
  rcases st with _ | (_ | ⟨c, l⟩)
  · have hR : (none : Option (List UInt8)).bind rdR = none := rfl
    have bn : Bts [] (.slice A n c0) w2 := b0
    refine c_region (o_move rfl rfl (o_nilCheck rfl rfl (o_fieldAddr rfl rfl (r_fAt (o := 0) Try.underlying91 rfl (by kernel_rfl) rfl) (o_load rfl rfl (r_load1 Try.underlying22 rfl (k0.cell (i := 0) rfl)) ?_))))
    refine o_len rfl rfl (r_lenB bn) (o_bin rfl rfl rfl (dec_t (by simp) r_eql_i) (o_move rfl rfl (g_no rfl rfl rfl (g_no rfl rfl rfl (g_no rfl rfl rfl (g_no rfl rfl rfl (g_no rfl rfl rfl ?_)))))))
    refine g_no rfl rfl rfl (g_no rfl rfl rfl (o_pick_t rfl rfl rfl (o_nil (n_then (c_yes rfl (c_seq (c_region ?_)))))))
    refine o_build (vs := []) rfl rfl r_buildR0 ?_
    refine o_move rfl rfl (o_call call_Ffail rfl rfl (Ffail_spec rr) ?_)
    rintro v22 w22 ⟨rfl, rs, g22⟩
    have m22 := RdT.kp rr g22
    have gg := gg.trans g22
    have kk := kk.other g22 hne
    have rr := rs
    obtain ⟨p, q, w3, hp, hs3, q3, k3, n3, d3⟩ := kk.stR ⟨_, _, _, rfl⟩ ⟨_, _, _, rfl⟩ (RatV.mk (b := false) (Wds.nil _) (Wds.nil _))
    refine o_store rfl rfl (hs3) (o_assign rfl rfl (o_nil (n_then (c_ret (r_then ?_)))))
    refine r_bodyc2 rfl rfl rfl k3 Try.underlying35 rfl size_Rat ?_
    exact ⟨_, rfl, gb_new gg q3 l2, by rw [hR]; exact ⟨_, rfl, ⟨p, q, rfl, n3, d3⟩, RdT.off rr (kk.kpR ⟨_, _, _, rfl⟩ ⟨_, _, _, rfl⟩ q3) q3 hne'⟩⟩
  · have hR : (some []).bind rdR = none := rfl
    have bn : Bts [] (.slice A n c0) w2 := b0
    refine c_region (o_move rfl rfl (o_nilCheck rfl rfl (o_fieldAddr rfl rfl (r_fAt (o := 0) Try.underlying91 rfl (by kernel_rfl) rfl) (o_load rfl rfl (r_load1 Try.underlying22 rfl (k0.cell (i := 0) rfl)) ?_))))
    refine o_len rfl rfl (r_lenB bn) (o_bin rfl rfl rfl (dec_t (by simp) r_eql_i) (o_move rfl rfl (g_no rfl rfl rfl (g_no rfl rfl rfl (g_no rfl rfl rfl (g_no rfl rfl rfl (g_no rfl rfl rfl ?_)))))))
    refine g_no rfl rfl rfl (g_no rfl rfl rfl (o_pick_t rfl rfl rfl (o_nil (n_then (c_yes rfl (c_seq (c_region ?_)))))))
    refine o_build (vs := []) rfl rfl r_buildR0 ?_
    refine o_move rfl rfl (o_call call_Ffail rfl rfl (Ffail_spec rr) ?_)
    rintro v22 w22 ⟨rfl, rs, g22⟩
    have m22 := RdT.kp rr g22
    have gg := gg.trans g22
    have kk := kk.other g22 hne
    have rr := rs
    obtain ⟨p, q, w3, hp, hs3, q3, k3, n3, d3⟩ := kk.stR ⟨_, _, _, rfl⟩ ⟨_, _, _, rfl⟩ (RatV.mk (b := false) (Wds.nil _) (Wds.nil _))
    refine o_store rfl rfl (hs3) (o_assign rfl rfl (o_nil (n_then (c_ret (r_then ?_)))))
    refine r_bodyc2 rfl rfl rfl k3 Try.underlying35 rfl size_Rat ?_
    exact ⟨_, rfl, gb_new gg q3 l2, by rw [hR]; exact ⟨_, rfl, ⟨p, q, rfl, n3, d3⟩, RdT.off rr (kk.kpR ⟨_, _, _, rfl⟩ ⟨_, _, _, rfl⟩ q3) q3 hne'⟩⟩
  · have b0 : Bts (c :: l) (.slice A n c0) w2 := b0
    refine c_region (o_move rfl rfl (o_nilCheck rfl rfl (o_fieldAddr rfl rfl (r_fAt (o := 0) Try.underlying91 rfl (by kernel_rfl) rfl) (o_load rfl rfl (r_load1 Try.underlying22 rfl (k0.cell (i := 0) rfl)) ?_))))
    refine o_len rfl rfl (r_lenB b0) (o_bin rfl rfl rfl (dec_f (by simp; omega) r_eql_i) (o_move rfl rfl (g_yes rfl (o_move rfl rfl (g_yes rfl (o_nilCheck rfl rfl (g_yes rfl (o_fieldAddr rfl rfl (r_fAt (o := 0) Try.underlying91 rfl (by kernel_rfl) rfl) ?_))))))))
    refine g_yes rfl (o_load rfl rfl (r_load1 Try.underlying22 rfl (k0.cell (i := 0) rfl)) (g_yes rfl ?_))
    obtain ⟨a16, p16, q16⟩ := r_ixB b0 (i := 0) (by simp) .i64
    refine o_indexAddr rfl rfl rfl (p16 _) (g_yes rfl (o_load rfl rfl (r_load1 Try.underlying5 rfl q16) (g_yes rfl (o_bin (v := U8 1) rfl rfl rfl (r_gtr_u8) (o_pick_f rfl rfl rfl ?_)))))
    refine o_nil (n_then ?_)
    refine c_if rfl (fun h19 => ?_) (fun h19 => ?_)
    · have hc : 1 < c.toNat := by have := UInt8.lt_iff_toNat_lt.1 h19; simpa using this
      have hR : (some (c :: l)).bind rdR = none := rdR_big hc
      refine c_seq (c_region ?_)
      refine o_build (vs := []) rfl rfl r_buildR0 ?_
      refine o_move rfl rfl (o_call call_Ffail rfl rfl (Ffail_spec rr) ?_)
      rintro v22 w22 ⟨rfl, rs, g22⟩
      have m22 := RdT.kp rr g22
      have gg := gg.trans g22
      have kk := kk.other g22 hne
      have rr := rs
      obtain ⟨p, q, w3, hp, hs3, q3, k3, n3, d3⟩ := kk.stR ⟨_, _, _, rfl⟩ ⟨_, _, _, rfl⟩ (RatV.mk (b := false) (Wds.nil _) (Wds.nil _))
      refine o_store rfl rfl (hs3) (o_assign rfl rfl (o_nil (n_then (c_ret (r_then ?_)))))
      refine r_bodyc2 rfl rfl rfl k3 Try.underlying35 rfl size_Rat ?_
      exact ⟨_, rfl, gb_new gg q3 l2, by rw [hR]; exact ⟨_, rfl, ⟨p, q, rfl, n3, d3⟩, RdT.off rr (kk.kpR ⟨_, _, _, rfl⟩ ⟨_, _, _, rfl⟩ q3) q3 hne'⟩⟩
    · have hc : ¬ 1 < c.toNat := fun hh => h19 (UInt8.lt_iff_toNat_lt.2 (by simpa using hh))
      have hl1 : ∀ l', some l = some l' → l'.length ≤ 549755813888 := fun l' e => by
        have := hl _ rfl
        cases e
        simp at this; omega
      refine c_skip (n_then (c_seq ?_))
      obtain ⟨s, hs⟩ : ∃ s, s = decide (c.toNat = 1) := ⟨_, rfl⟩
      have hcs : s = decide ((c :: l)[0]'(Nat.zero_lt_succ _) = (1 : UInt8)) := by
        rw [hs]
        exact decide_eq_decide.2 ⟨fun h => u8_one.1 h, fun h => u8_one.2 h⟩
      refine c_region (o_move rfl rfl (o_nilCheck rfl rfl (o_fieldAddr rfl rfl (r_fAt (o := 0) Try.underlying91 rfl (by kernel_rfl) rfl) (o_load rfl rfl (r_load1 Try.underlying22 rfl (k0.cell (i := 0) rfl)) ?_))))
      obtain ⟨a27, p27, q27⟩ := r_ixB b0 (i := 0) (by simp) .i64
      refine o_indexAddr rfl rfl rfl (p27 _) (o_load rfl rfl (r_load1 Try.underlying5 rfl q27) (o_bin (v := U8 1) (r := B s) rfl rfl rfl ((by rw [hcs]; exact r_eql_u8)) ?_))
      refine o_build (vs := [(0, B s)]) rfl rfl r_buildR1 ?_
      obtain ⟨g4, w4, hr4, l4, x4, k4⟩ := r_allocR (w := w2)
      refine o_alloc rfl hr4 ?_
      obtain ⟨p4, q4, w5, hp4, hs5, q5, k5, n5, d5⟩ := k4.stR ⟨_, _, _, rfl⟩ ⟨_, _, _, rfl⟩ (RatV.mk (b := s) (Wds.nil _) (Wds.nil _))
      refine o_store rfl rfl (hs5) ?_
      have x5 := x4.of_new q5 l4
      have hg2 := kk.lt
      have hgw := x2.size
      have hne4 : some g4 ≠ some g := fun h => by have := Option.some.inj h; omega
      have hne4' : g ≠ g4 := by omega
      have hne24 : some g2 ≠ some g4 := fun h => by have := Option.some.inj h; omega
      have hw4 : w.heap.size ≤ g4 := by omega
      have kk := kk.ext x5
      have rr := RfAt.ext rr x5
      have gg := gg.trans (gb_ext x5)
      refine o_nil (n_then (c_seq (c_region (o_move rfl rfl (o_move rfl rfl (o_nilCheck rfl rfl (o_fieldAddr rfl rfl (r_fAt (o := 0) Try.underlying91 rfl (by kernel_rfl) rfl) ?_)))))))
      refine o_load rfl rfl (r_load1 Try.underlying22 rfl (x5.cell_some (k0.cell (i := 0) rfl))) ?_
      obtain ⟨v36, p36, b36⟩ := r_slB_lo (b0.ext x5) (lo := 1) (by simp) .i64
      refine o_slice rfl rfl rfl rfl rfl (p36 _) (o_nilCheck rfl rfl (o_fieldAddr rfl rfl (r_fAt (o := 0) Try.underlying91 rfl (by kernel_rfl) rfl) ?_))
      obtain ⟨w6, hs6, q6, r6⟩ := RdT.set (l' := l) rr b36
      refine o_store rfl rfl (hs6) ?_
      have m6 := RdT.kp rr q6
      have kk := kk.other q6 hne
      have k5 := k5.other q6 hne4
      have gg := gg.trans q6
      have rr : RfAt g (some l) w6 := r6
      have n5 := n5.kp m6
      have d5 := d5.kp m6
      refine o_nil (n_then (c_seq ?_))
      rcases hN : rdN l with _ | ⟨m, t⟩
      rotate_left
      rcases hM : rdN t with _ | ⟨m', t'⟩
      rotate_left
      rcases hV : rv s m m'
      · have hR : (some (c :: l)).bind rdR = none := by
          show rdR (c :: l) = none
          rw [rdR_n1 hc hN, ← hs, hM]
          exact if_neg (by rw [hV]; simp)
        refine c_region (o_move rfl rfl (o_call call_FNat rfl rfl ((FNat_some (st := some l) rr hl1 hN)) ?_))
        rintro v41 w41 ⟨g41, v0, rfl, h0, rs⟩
        have m41 := RdT.kp rr g41
        have kk := kk.other g41 hne
        have k5 := k5.other g41 hne4
        have gg := gg.trans g41
        have rr := rs
        have n5 := n5.kp m41
        have d5 := d5.kp m41
        refine o_move rfl rfl (o_extract rfl rfl (r_ext0) (o_extract rfl rfl r_ext1 (o_fieldAddr rfl rfl (r_fAt (o := 1) Try.underlying35 rfl (by kernel_rfl) rfl) ?_)))
        obtain ⟨w7, hs7, q7, k7⟩ := k5.st1 1 size_Nat h0.isS (by simp)
        refine o_store rfl rfl (hs7) ?_
        have m7 := k5.kpR n5.isS d5.isS q7
        have kk := kk.other q7 hne24
        have rr := RdT.off rr m7 q7 hne4'
        have gg := gb_new gg q7 hw4
        have n7 := h0.kp m7
        have d7 := d5.kp m7
        refine o_nil (n_then (c_seq (c_region (o_move rfl rfl ?_))))
        have hl2 : ∀ l', some t = some l' → l'.length ≤ 549755813888 := fun l' e => by
          cases e
          have h1 := (rdN_inv hN).1
          have := hl1 _ rfl
          rw [h1, List.length_append] at this
          omega
        refine o_call call_FNat rfl rfl ((FNat_some (st := some t) rr hl2 hM)) ?_
        rintro v47 w47 ⟨g47, v1, rfl, h1, rs⟩
        have m47 := RdT.kp rr g47
        have kk := kk.other g47 hne
        have k7 := k7.other g47 hne4
        have gg := gg.trans g47
        have rr := rs
        have n7 := n7.kp m47
        have d7 := d7.kp m47
        refine o_move rfl rfl (o_extract rfl rfl (r_ext0) (o_extract rfl rfl r_ext1 (o_fieldAddr rfl rfl (r_fAt (o := 2) Try.underlying35 rfl (by kernel_rfl) rfl) ?_)))
        obtain ⟨w8, hs8, q8, k8⟩ := k7.st1 2 size_Nat h1.isS (by simp)
        refine o_store rfl rfl (hs8) ?_
        have m8 := k7.kpR n7.isS d7.isS q8
        have kk := kk.other q8 hne24
        have rr := RdT.off rr m8 q8 hne4'
        have gg := gb_new gg q8 hw4
        have n8 := n7.kp m8
        have d8 := h1.kp m8
        obtain ⟨A9, n9, c9, kr, br⟩ := id rr
        refine o_nil (n_then (c_seq (c_seq (c_region (o_move rfl rfl (o_nilCheck rfl rfl (o_fieldAddr rfl rfl (r_fAt (o := 1) Try.underlying91 rfl (by kernel_rfl) rfl) ?_)))))))
        refine o_load rfl rfl (r_load1 Try.underlying4 rfl (kr.cell (i := 1) rfl)) (o_move rfl rfl (g_yes rfl (o_load rfl rfl (k8.ldR) (g_yes rfl ?_))))
        have hml : m.length ≤ 137438953472 := by
          have := hl1 _ rfl
          rw [(rdN_inv hN).1, List.length_append, encN, List.length_append, le4s_len] at this
          omega
        have hml' : m'.length ≤ 137438953472 := by
          have := hl2 _ rfl
          rw [(rdN_inv hM).1, List.length_append, encN, List.length_append, le4s_len] at this
          omega
        refine o_call call_SValid rfl rfl ((by have := SValid_spec (b := s) (RatV.mk n8 d8) hml hml'; rw [hV] at this; exact this)) ?_
        rintro v57 w57 ⟨x57, rfl⟩
        have rr := RfAt.ext rr x57
        have kk := kk.ext x57
        have gg := gg.trans (gb_ext x57)
        refine g_yes rfl (o_not rfl rfl r_not (o_pick_f rfl rfl rfl (o_nil (n_then (c_yes rfl (c_seq (c_region ?_)))))))
        refine o_build (vs := []) rfl rfl r_buildR0 ?_
        refine o_move rfl rfl (o_call call_Ffail rfl rfl (Ffail_spec rr) ?_)
        rintro v62 w62 ⟨rfl, rs, g62⟩
        have m62 := RdT.kp rr g62
        have gg := gg.trans g62
        have kk := kk.other g62 hne
        have rr := rs
        obtain ⟨p, q, w3, hp, hs3, q3, k3, n3, d3⟩ := kk.stR ⟨_, _, _, rfl⟩ ⟨_, _, _, rfl⟩ (RatV.mk (b := false) (Wds.nil _) (Wds.nil _))
        refine o_store rfl rfl (hs3) (o_assign rfl rfl (o_nil (n_then (c_ret (r_then ?_)))))
        refine r_bodyc2 rfl rfl rfl k3 Try.underlying35 rfl size_Rat ?_
        exact ⟨_, rfl, gb_new gg q3 l2, by rw [hR]; exact ⟨_, rfl, ⟨p, q, rfl, n3, d3⟩, RdT.off rr (kk.kpR ⟨_, _, _, rfl⟩ ⟨_, _, _, rfl⟩ q3) q3 hne'⟩⟩
      · have hR : (some (c :: l)).bind rdR = some ((s, m, m'), t') := by
          show rdR (c :: l) = _
          rw [rdR_n1 hc hN, ← hs, hM]
          exact if_pos hV
        refine c_region (o_move rfl rfl (o_call call_FNat rfl rfl ((FNat_some (st := some l) rr hl1 hN)) ?_))
        rintro v41 w41 ⟨g41, v0, rfl, h0, rs⟩
        have m41 := RdT.kp rr g41
        have kk := kk.other g41 hne
        have k5 := k5.other g41 hne4
        have gg := gg.trans g41
        have rr := rs
        have n5 := n5.kp m41
        have d5 := d5.kp m41
        refine o_move rfl rfl (o_extract rfl rfl (r_ext0) (o_extract rfl rfl r_ext1 (o_fieldAddr rfl rfl (r_fAt (o := 1) Try.underlying35 rfl (by kernel_rfl) rfl) ?_)))
        obtain ⟨w7, hs7, q7, k7⟩ := k5.st1 1 size_Nat h0.isS (by simp)
        refine o_store rfl rfl (hs7) ?_
        have m7 := k5.kpR n5.isS d5.isS q7
        have kk := kk.other q7 hne24
        have rr := RdT.off rr m7 q7 hne4'
        have gg := gb_new gg q7 hw4
        have n7 := h0.kp m7
        have d7 := d5.kp m7
        refine o_nil (n_then (c_seq (c_region (o_move rfl rfl ?_))))
        have hl2 : ∀ l', some t = some l' → l'.length ≤ 549755813888 := fun l' e => by
          cases e
          have h1 := (rdN_inv hN).1
          have := hl1 _ rfl
          rw [h1, List.length_append] at this
          omega
        refine o_call call_FNat rfl rfl ((FNat_some (st := some t) rr hl2 hM)) ?_
        rintro v47 w47 ⟨g47, v1, rfl, h1, rs⟩
        have m47 := RdT.kp rr g47
        have kk := kk.other g47 hne
        have k7 := k7.other g47 hne4
        have gg := gg.trans g47
        have rr := rs
        have n7 := n7.kp m47
        have d7 := d7.kp m47
        refine o_move rfl rfl (o_extract rfl rfl (r_ext0) (o_extract rfl rfl r_ext1 (o_fieldAddr rfl rfl (r_fAt (o := 2) Try.underlying35 rfl (by kernel_rfl) rfl) ?_)))
        obtain ⟨w8, hs8, q8, k8⟩ := k7.st1 2 size_Nat h1.isS (by simp)
        refine o_store rfl rfl (hs8) ?_
        have m8 := k7.kpR n7.isS d7.isS q8
        have kk := kk.other q8 hne24
        have rr := RdT.off rr m8 q8 hne4'
        have gg := gb_new gg q8 hw4
        have n8 := n7.kp m8
        have d8 := h1.kp m8
        obtain ⟨A9, n9, c9, kr, br⟩ := id rr
        refine o_nil (n_then (c_seq (c_seq (c_region (o_move rfl rfl (o_nilCheck rfl rfl (o_fieldAddr rfl rfl (r_fAt (o := 1) Try.underlying91 rfl (by kernel_rfl) rfl) ?_)))))))
        refine o_load rfl rfl (r_load1 Try.underlying4 rfl (kr.cell (i := 1) rfl)) (o_move rfl rfl (g_yes rfl (o_load rfl rfl (k8.ldR) (g_yes rfl ?_))))
        have hml : m.length ≤ 137438953472 := by
          have := hl1 _ rfl
          rw [(rdN_inv hN).1, List.length_append, encN, List.length_append, le4s_len] at this
          omega
        have hml' : m'.length ≤ 137438953472 := by
          have := hl2 _ rfl
          rw [(rdN_inv hM).1, List.length_append, encN, List.length_append, le4s_len] at this
          omega
        refine o_call call_SValid rfl rfl ((by have := SValid_spec (b := s) (RatV.mk n8 d8) hml hml'; rw [hV] at this; exact this)) ?_
        rintro v57 w57 ⟨x57, rfl⟩
        have rr := RfAt.ext rr x57
        have kk := kk.ext x57
        have gg := gg.trans (gb_ext x57)
        refine g_yes rfl (o_not rfl rfl r_not (o_pick_f rfl rfl rfl (o_nil (n_then (c_no rfl (c_skip (n_then (c_seq (c_region (o_load rfl rfl ((k8.ext x57).ldR) ?_))))))))))
        obtain ⟨p, q, w3, hp, hs3, q3, k3, n3, d3⟩ := kk.stR ⟨_, _, _, rfl⟩ ⟨_, _, _, rfl⟩ ((RatV.mk n8 d8).ext x57)
        refine o_store rfl rfl (hs3) (o_assign rfl rfl (o_nil (n_then (c_ret ?_))))
        refine r_bodyc2 rfl rfl rfl k3 Try.underlying35 rfl size_Rat ?_
        exact ⟨_, rfl, gb_new gg q3 l2, by rw [hR]; exact ⟨_, rfl, ⟨p, q, rfl, n3, d3⟩, RdT.off rr (kk.kpR ⟨_, _, _, rfl⟩ ⟨_, _, _, rfl⟩ q3) q3 hne'⟩⟩
      · have hR : (some (c :: l)).bind rdR = none := rdR_n0 hN
        refine c_region (o_move rfl rfl (o_call call_FNat rfl rfl ((FNat_none (st := some l) rr hl1 hN)) ?_))
        rintro v41 w41 ⟨g41, rfl, rs⟩
        have m41 := RdT.kp rr g41
        have kk := kk.other g41 hne
        have k5 := k5.other g41 hne4
        have gg := gg.trans g41
        have rr := rs
        have n5 := n5.kp m41
        have d5 := d5.kp m41
        have h0 := Wds.nil w41
        refine o_move rfl rfl (o_extract rfl rfl (r_ext0) (o_extract rfl rfl r_ext1 (o_fieldAddr rfl rfl (r_fAt (o := 1) Try.underlying35 rfl (by kernel_rfl) rfl) ?_)))
        obtain ⟨w7, hs7, q7, k7⟩ := k5.st1 1 size_Nat h0.isS (by simp)
        refine o_store rfl rfl (hs7) ?_
        have m7 := k5.kpR n5.isS d5.isS q7
        have kk := kk.other q7 hne24
        have rr := RdT.off rr m7 q7 hne4'
        have gg := gb_new gg q7 hw4
        have n7 := h0.kp m7
        have d7 := d5.kp m7
        refine o_nil (n_then (c_seq (c_region (o_move rfl rfl (o_call call_FNat rfl rfl ((FNat_none (st := none) rr (fun _ e => by cases e) rfl)) ?_)))))
        rintro v47 w47 ⟨g47, rfl, rs⟩
        have m47 := RdT.kp rr g47
        have kk := kk.other g47 hne
        have k7 := k7.other g47 hne4
        have gg := gg.trans g47
        have rr := rs
        have n7 := n7.kp m47
        have d7 := d7.kp m47
        have h1 := Wds.nil w47
        refine o_move rfl rfl (o_extract rfl rfl (r_ext0) (o_extract rfl rfl r_ext1 (o_fieldAddr rfl rfl (r_fAt (o := 2) Try.underlying35 rfl (by kernel_rfl) rfl) ?_)))
        obtain ⟨w8, hs8, q8, k8⟩ := k7.st1 2 size_Nat h1.isS (by simp)
        refine o_store rfl rfl (hs8) ?_
        have m8 := k7.kpR n7.isS d7.isS q8
        have kk := kk.other q8 hne24
        have rr := RdT.off rr m8 q8 hne4'
        have gg := gb_new gg q8 hw4
        have n8 := n7.kp m8
        have d8 := h1.kp m8
        obtain ⟨A9, n9, c9, kr, br⟩ := id rr
        refine o_nil (n_then (c_seq (c_seq (c_region (o_move rfl rfl (o_nilCheck rfl rfl (o_fieldAddr rfl rfl (r_fAt (o := 1) Try.underlying91 rfl (by kernel_rfl) rfl) ?_)))))))
        refine o_load rfl rfl (r_load1 Try.underlying4 rfl (kr.cell (i := 1) rfl)) (o_move rfl rfl (g_no rfl rfl rfl (g_no rfl rfl rfl (g_no rfl rfl rfl (o_pick_t rfl rfl rfl ?_)))))
        refine o_nil (n_then (c_yes rfl (c_seq (c_region ?_))))
        refine o_build (vs := []) rfl rfl r_buildR0 ?_
        refine o_move rfl rfl (o_call call_Ffail rfl rfl (Ffail_spec rr) ?_)
        rintro v62 w62 ⟨rfl, rs, g62⟩
        have m62 := RdT.kp rr g62
        have gg := gg.trans g62
        have kk := kk.other g62 hne
        have rr := rs
        obtain ⟨p, q, w3, hp, hs3, q3, k3, n3, d3⟩ := kk.stR ⟨_, _, _, rfl⟩ ⟨_, _, _, rfl⟩ (RatV.mk (b := false) (Wds.nil _) (Wds.nil _))
        refine o_store rfl rfl (hs3) (o_assign rfl rfl (o_nil (n_then (c_ret (r_then ?_)))))
        refine r_bodyc2 rfl rfl rfl k3 Try.underlying35 rfl size_Rat ?_
        exact ⟨_, rfl, gb_new gg q3 l2, by rw [hR]; exact ⟨_, rfl, ⟨p, q, rfl, n3, d3⟩, RdT.off rr (kk.kpR ⟨_, _, _, rfl⟩ ⟨_, _, _, rfl⟩ q3) q3 hne'⟩⟩
      · have hR : (some (c :: l)).bind rdR = none := by
          show rdR (c :: l) = none
          rw [rdR_n1 hc hN, ← hs, hM]; rfl
        refine c_region (o_move rfl rfl (o_call call_FNat rfl rfl ((FNat_some (st := some l) rr hl1 hN)) ?_))
        rintro v41 w41 ⟨g41, v0, rfl, h0, rs⟩
        have m41 := RdT.kp rr g41
        have kk := kk.other g41 hne
        have k5 := k5.other g41 hne4
        have gg := gg.trans g41
        have rr := rs
        have n5 := n5.kp m41
        have d5 := d5.kp m41
        refine o_move rfl rfl (o_extract rfl rfl (r_ext0) (o_extract rfl rfl r_ext1 (o_fieldAddr rfl rfl (r_fAt (o := 1) Try.underlying35 rfl (by kernel_rfl) rfl) ?_)))
        obtain ⟨w7, hs7, q7, k7⟩ := k5.st1 1 size_Nat h0.isS (by simp)
        refine o_store rfl rfl (hs7) ?_
        have m7 := k5.kpR n5.isS d5.isS q7
        have kk := kk.other q7 hne24
        have rr := RdT.off rr m7 q7 hne4'
        have gg := gb_new gg q7 hw4
        have n7 := h0.kp m7
        have d7 := d5.kp m7
        refine o_nil (n_then (c_seq (c_region (o_move rfl rfl ?_))))
        have hl2 : ∀ l', some t = some l' → l'.length ≤ 549755813888 := fun l' e => by
          cases e
          have h1 := (rdN_inv hN).1
          have := hl1 _ rfl
          rw [h1, List.length_append] at this
          omega
        refine o_call call_FNat rfl rfl ((FNat_none (st := some t) rr hl2 hM)) ?_
        rintro v47 w47 ⟨g47, rfl, rs⟩
        have m47 := RdT.kp rr g47
        have kk := kk.other g47 hne
        have k7 := k7.other g47 hne4
        have gg := gg.trans g47
        have rr := rs
        have n7 := n7.kp m47
        have d7 := d7.kp m47
        have h1 := Wds.nil w47
        refine o_move rfl rfl (o_extract rfl rfl (r_ext0) (o_extract rfl rfl r_ext1 (o_fieldAddr rfl rfl (r_fAt (o := 2) Try.underlying35 rfl (by kernel_rfl) rfl) ?_)))
        obtain ⟨w8, hs8, q8, k8⟩ := k7.st1 2 size_Nat h1.isS (by simp)
        refine o_store rfl rfl (hs8) ?_
        have m8 := k7.kpR n7.isS d7.isS q8
        have kk := kk.other q8 hne24
        have rr := RdT.off rr m8 q8 hne4'
        have gg := gb_new gg q8 hw4
        have n8 := n7.kp m8
        have d8 := h1.kp m8
        obtain ⟨A9, n9, c9, kr, br⟩ := id rr
        refine o_nil (n_then (c_seq (c_seq (c_region (o_move rfl rfl (o_nilCheck rfl rfl (o_fieldAddr rfl rfl (r_fAt (o := 1) Try.underlying91 rfl (by kernel_rfl) rfl) ?_)))))))
        refine o_load rfl rfl (r_load1 Try.underlying4 rfl (kr.cell (i := 1) rfl)) (o_move rfl rfl (g_no rfl rfl rfl (g_no rfl rfl rfl (g_no rfl rfl rfl (o_pick_t rfl rfl rfl ?_)))))
        refine o_nil (n_then (c_yes rfl (c_seq (c_region ?_))))
        refine o_build (vs := []) rfl rfl r_buildR0 ?_
        refine o_move rfl rfl (o_call call_Ffail rfl rfl (Ffail_spec rr) ?_)
        rintro v62 w62 ⟨rfl, rs, g62⟩
        have m62 := RdT.kp rr g62
        have gg := gg.trans g62
        have kk := kk.other g62 hne
        have rr := rs
        obtain ⟨p, q, w3, hp, hs3, q3, k3, n3, d3⟩ := kk.stR ⟨_, _, _, rfl⟩ ⟨_, _, _, rfl⟩ (RatV.mk (b := false) (Wds.nil _) (Wds.nil _))
        refine o_store rfl rfl (hs3) (o_assign rfl rfl (o_nil (n_then (c_ret (r_then ?_)))))
        refine r_bodyc2 rfl rfl rfl k3 Try.underlying35 rfl size_Rat ?_
        exact ⟨_, rfl, gb_new gg q3 l2, by rw [hR]; exact ⟨_, rfl, ⟨p, q, rfl, n3, d3⟩, RdT.off rr (kk.kpR ⟨_, _, _, rfl⟩ ⟨_, _, _, rfl⟩ q3) q3 hne'⟩⟩
end Go.Rl
/- A step of two readers at once. Conditions: the bytes are not more than 2^39. -/
namespace Go.Rl
open Go.RowKit Go.Proofs
theorem call_wstep : Callable Try.prog 33 := ⟨_, Try.func33, by kernel_rfl, rfl⟩
theorem rdB_inv {l a t : List UInt8} (h : rdB l = some (a, t)) : l = encB a ++ t := by
  unfold rdB at h
  cases hu : rdU l with
  | none => rw [hu] at h; cases h
  | some p =>
    obtain ⟨n, u⟩ := p
    rw [hu] at h
    have h : (if n ≤ u.length then some (u.take n, u.drop n) else none) = some (a, t) := h
    split at h
    · simp only [Option.some.injEq, Prod.mk.injEq] at h
      have e := (rdU_inv hu).1
      have hl : (u.take n).length = n := by rw [List.length_take]; omega
      rw [e, ← h.1, ← h.2, encB, hl, List.append_assoc, List.take_append_drop]
    · cases h
theorem rdR_inv {l t : List UInt8} {b : Bool} {n m : List UInt32} (h : rdR l = some ((b, n, m), t)) : l = encR b n m ++ t ∧ rv b n m = true ∧ 4 * (n.length + m.length) ≤ l.length := by
  cases l with
  | nil => cases h
  | cons c l =>
    by_cases hc : 1 < c.toNat
    · rw [rdR_big hc] at h; cases h
    · cases hN : rdN l with
      | none => rw [rdR_n0 hN] at h; cases h
      | some p =>
        obtain ⟨n', u⟩ := p
        rw [rdR_n1 hc hN] at h
        cases hM : rdN u with
        | none => rw [hM] at h; cases h
        | some q =>
          obtain ⟨m', u'⟩ := q
          rw [hM] at h
          have h : (if rv (decide (c.toNat = 1)) n' m' = true then some ((decide (c.toNat = 1), n', m'), u') else none) = some ((b, n, m), t) := h
          split at h
          · rename_i hv
            simp only [Option.some.injEq, Prod.mk.injEq] at h
            obtain ⟨⟨rfl, rfl, rfl⟩, rfl⟩ := h
            have hcs : c = sgn (decide (c.toNat = 1)) := by
              by_cases h1 : c.toNat = 1
              · rw [decide_eq_true h1, u8_one.1 h1]; rfl
              · rw [decide_eq_false h1]
                exact UInt8.toNat_inj.1 (show c.toNat = (0 : UInt8).toNat by rw [show (0 : UInt8).toNat = 0 from rfl]; omega)
            have e : c :: l = encR (decide (c.toNat = 1)) n' m' ++ u' := by
              rw [encR, ← hcs, (rdN_inv hN).1, (rdN_inv hM).1]
              simp
            refine ⟨e, hv, ?_⟩
            rw [e]
            simp only [encR, encN, List.length_append, le4s_len]
            omega
          · cases h
theorem rv_can {b : Bool} {n m : List UInt32} (h : rv b n m = true) : lb (val n) = n ∧ lb (val m) = m := by
  obtain ⟨_, h2, h3⟩ := of_decide_eq_true h
  constructor
  · obtain ⟨x, hx⟩ : ∃ x, x = val n / Nat.gcd (val n) (val (ud m)) := ⟨_, rfl⟩
    rw [← hx] at h2
    rw [h2, val_lb]
  · unfold cqD at h3
    split at h3
    · rw [h3]; rfl
    · obtain ⟨x, hx⟩ : ∃ x, x = val (ud m) / Nat.gcd (val n) (val (ud m)) := ⟨_, rfl⟩
      rw [← hx] at h3
      rw [h3, val_lb]
theorem rdR_encR {b : Bool} {n m : List UInt32} (h : rv b n m = true) (hn : n.length < 18446744073709551616) (hm : m.length < 18446744073709551616) (t : List UInt8) : rdR (encR b n m ++ t) = some ((b, n, m), t) := by
  have hs : ¬ 1 < (sgn b).toNat := by cases b <;> decide
  have hd : decide ((sgn b).toNat = 1) = b := by cases b <;> decide
  have e : encR b n m ++ t = sgn b :: (encN n ++ (encN m ++ t)) := by simp [encR]
  rw [e, rdR_n1 hs (rdN_encN hn (rv_can h).1 _), hd, rdN_encN hm (rv_can h).2]
  exact if_pos h
/-- Not too many bytes are left. -/
def Few (st : Option (List UInt8)) : Prop := ∀ l, st = some l → l.length ≤ 549755813888
theorem Few.none : Few none := fun _ h => by cases h
theorem Few.u {st : Option (List UInt8)} {n : Nat} {t : List UInt8} (h : Few st) (hu : st.bind rdU = some (n, t)) : Few (some t) := fun l e => by cases e; exact (rdU_len hu h).1
theorem Few.of {st : Option (List UInt8)} {l t p : List UInt8} (h : Few st) (e : st = some l) (hp : l = p ++ t) : Few (some t) := fun x hx => by
  cases hx
  have := h l e
  rw [hp, List.length_append] at this
  omega
theorem bind_some {α : Type} {st : Option (List UInt8)} {f : List UInt8 → Option α} {y : α} (h : st.bind f = some y) : ∃ l, st = some l ∧ f l = some y := by
  cases st with
  | none => cases h
  | some l => exact ⟨l, rfl, h⟩
theorem Few.n {st : Option (List UInt8)} {m : List UInt32} {t : List UInt8} (h : Few st) (hu : st.bind rdN = some (m, t)) : Few (some t) := by
  obtain ⟨l, e, hl⟩ := bind_some hu
  exact h.of e (rdN_inv hl).1
theorem Few.r {st : Option (List UInt8)} {q : Bool × List UInt32 × List UInt32} {t : List UInt8} (h : Few st) (hu : st.bind rdR = some (q, t)) : Few (some t) := by
  obtain ⟨l, e, hl⟩ := bind_some hu
  obtain ⟨b, n, m⟩ := q
  exact h.of e (rdR_inv hl).1
theorem Few.b {st : Option (List UInt8)} {a t : List UInt8} (h : Few st) (hu : st.bind rdB = some (a, t)) : Few (some t) := by
  obtain ⟨l, e, hl⟩ := bind_some hu
  exact h.of e (rdB_inv hl)
theorem r_build1N {w : World} {p : Value} (hp : ∃ A n c, p = .slice A n c) : (Instr.build 35 #[(1, p)]).run Try.prog w = .ok (.agg #[B false, p, .slice none 0 0]) w := by
  obtain ⟨A, n, d, rfl⟩ := hp
  exact run_build _ _ _ #[B false, .slice A n d, .slice none 0 0] (by kernel_rfl)
theorem SSame_refl {w : World} {a : Bool} {n m : List UInt32} {v u : Value} (hv : RatV a n m v w) (hu : RatV a n m u w) :
    Calls Try.prog 30 #[v, u] w (Ret fun r w' => Ext w w' ∧ r = B true) := by
  have := SSame_spec hv hu
  rw [decide_eq_true ⟨rfl, rfl, rfl⟩] at this
  exact this
/-! What a call on the wire's reader and on the reference's leaves, by cases. -/
section
variable {w : World} {g : Nat} {st : Option (List UInt8)}
theorem WU_no (hr : RdAt g st w) (h : st.bind rdU = none) : Calls Try.prog 26 #[.pointer (some ⟨g, 0, none⟩)] w (Ret fun r w' => w.grownBy w' (some g) ∧ r = .tuple #[U64 0, I 5] ∧ RdAt g none w') := by
  have := Uint_spec hr
  rw [h] at this
  exact this
theorem WU_ok {n : Nat} {t : List UInt8} (hr : RdAt g st w) (h : st.bind rdU = some (n, t)) : Calls Try.prog 26 #[.pointer (some ⟨g, 0, none⟩)] w (Ret fun r w' => w.grownBy w' (some g) ∧ r = .tuple #[U64 (UInt64.ofNat n), I 0] ∧ RdAt g (some t) w') := by
  have := Uint_spec hr
  rw [h] at this
  exact this
theorem WI_no (hr : RdAt g st w) (h : st.bind rdU = none) : Calls Try.prog 27 #[.pointer (some ⟨g, 0, none⟩)] w (Ret fun r w' => w.grownBy w' (some g) ∧ r = .tuple #[I 0, I 5] ∧ RdAt g none w') := by
  have := RInt_spec hr
  rw [h] at this
  exact this
theorem WI_ok {n : Nat} {t : List UInt8} (hr : RdAt g st w) (h : st.bind rdU = some (n, t)) : Calls Try.prog 27 #[.pointer (some ⟨g, 0, none⟩)] w (Ret fun r w' => w.grownBy w' (some g) ∧ r = .tuple #[I (uz n), I 0] ∧ RdAt g (some t) w') := by
  have := RInt_spec hr
  rw [h] at this
  exact this
theorem WN_no (hr : RdAt g st w) (hl : Few st) (h : st.bind rdN = none) : Calls Try.prog 28 #[.pointer (some ⟨g, 0, none⟩)] w (Ret fun r w' => w.grownBy w' (some g) ∧ r = .tuple #[.slice none 0 0, I 5] ∧ RdAt g none w') := by
  have := RNat_spec hr hl
  rw [h] at this
  exact this
theorem WN_ok {m : List UInt32} {t : List UInt8} (hr : RdAt g st w) (hl : Few st) (h : st.bind rdN = some (m, t)) : Calls Try.prog 28 #[.pointer (some ⟨g, 0, none⟩)] w (Ret fun r w' => w.grownBy w' (some g) ∧ ∃ v, r = .tuple #[v, I 0] ∧ Wds m v w' ∧ RdAt g (some t) w') := by
  have := RNat_spec hr hl
  rw [h] at this
  exact this
theorem WR_no (hr : RdAt g st w) (hl : Few st) (h : st.bind rdR = none) : Calls Try.prog 29 #[.pointer (some ⟨g, 0, none⟩)] w (Ret fun r w' => w.grownBy w' (some g) ∧ ∃ v, r = .tuple #[v, I 5] ∧ RatV false [] [] v w' ∧ RdAt g none w') := by
  have := RRat_spec hr hl
  rw [h] at this
  exact this
theorem WR_ok {b : Bool} {n m : List UInt32} {t : List UInt8} (hr : RdAt g st w) (hl : Few st) (h : st.bind rdR = some ((b, n, m), t)) : Calls Try.prog 29 #[.pointer (some ⟨g, 0, none⟩)] w (Ret fun r w' => w.grownBy w' (some g) ∧ ∃ v, r = .tuple #[v, I 0] ∧ RatV b n m v w' ∧ RdAt g (some t) w') := by
  have := RRat_spec hr hl
  rw [h] at this
  exact this
theorem WB_no (hr : RdAt g st w) (hl : Few st) (h : st.bind rdB = none) : Calls Try.prog 61 #[.pointer (some ⟨g, 0, none⟩)] w (Ret fun r w' => w.grownBy w' (some g) ∧ r = .tuple #[.slice none 0 0, I 5] ∧ RdAt g none w') := by
  have := Bytes_spec hr (fun l e => Nat.le_trans (hl l e) (by decide))
  rw [h] at this
  exact this
theorem WB_ok {a t : List UInt8} (hr : RdAt g st w) (hl : Few st) (h : st.bind rdB = some (a, t)) : Calls Try.prog 61 #[.pointer (some ⟨g, 0, none⟩)] w (Ret fun r w' => w.grownBy w' (some g) ∧ ∃ v, r = .tuple #[v, I 0] ∧ Bts a v w' ∧ RdAt g (some t) w') := by
  have := Bytes_spec hr (fun l e => Nat.le_trans (hl l e) (by decide))
  rw [h] at this
  exact this
theorem WT_no (hr : RdAt g st w) (hl : Few st) (h : st.bind rdB = none) : Calls Try.prog 37 #[.pointer (some ⟨g, 0, none⟩)] w (Ret fun r w' => w.grownBy w' (some g) ∧ r = .tuple #[S [], I 5] ∧ RdAt g none w') := by
  have := Text_spec hr (fun l e => Nat.le_trans (hl l e) (by decide))
  rw [h] at this
  exact this
theorem WT_ok {a t : List UInt8} (hr : RdAt g st w) (hl : Few st) (h : st.bind rdB = some (a, t)) : Calls Try.prog 37 #[.pointer (some ⟨g, 0, none⟩)] w (Ret fun r w' => w.grownBy w' (some g) ∧ r = .tuple #[S a, I 0] ∧ RdAt g (some t) w') := by
  have := Text_spec hr (fun l e => Nat.le_trans (hl l e) (by decide))
  rw [h] at this
  exact this
theorem FU_no (hr : RfAt g st w) (h : st.bind rdU = none) : Calls Try.prog 46 #[.pointer (some ⟨g, 0, none⟩)] w (Ret fun r w' => w.grownBy w' (some g) ∧ r = .tuple #[U64 0, I 5] ∧ RfAt g none w') := by
  have := FUint_spec hr
  rw [h] at this
  exact this
theorem FU_ok {n : Nat} {t : List UInt8} (hr : RfAt g st w) (h : st.bind rdU = some (n, t)) : Calls Try.prog 46 #[.pointer (some ⟨g, 0, none⟩)] w (Ret fun r w' => w.grownBy w' (some g) ∧ r = .tuple #[U64 (UInt64.ofNat n), I 0] ∧ RfAt g (some t) w') := by
  have := FUint_spec hr
  rw [h] at this
  exact this
theorem FI_no (hr : RfAt g st w) (h : st.bind rdU = none) : Calls Try.prog 58 #[.pointer (some ⟨g, 0, none⟩)] w (Ret fun r w' => w.grownBy w' (some g) ∧ r = .tuple #[I 0, I 5] ∧ RfAt g none w') := by
  have := FInt_spec hr
  rw [h] at this
  exact this
theorem FI_ok {n : Nat} {t : List UInt8} (hr : RfAt g st w) (h : st.bind rdU = some (n, t)) : Calls Try.prog 58 #[.pointer (some ⟨g, 0, none⟩)] w (Ret fun r w' => w.grownBy w' (some g) ∧ r = .tuple #[I (uz n), I 0] ∧ RfAt g (some t) w') := by
  have := FInt_spec hr
  rw [h] at this
  exact this
theorem FN_no (hr : RfAt g st w) (hl : Few st) (h : st.bind rdN = none) : Calls Try.prog 59 #[.pointer (some ⟨g, 0, none⟩)] w (Ret fun r w' => w.grownBy w' (some g) ∧ r = .tuple #[.slice none 0 0, I 5] ∧ RfAt g none w') := by
  have := FNat_spec hr hl
  rw [h] at this
  exact this
theorem FN_ok {m : List UInt32} {t : List UInt8} (hr : RfAt g st w) (hl : Few st) (h : st.bind rdN = some (m, t)) : Calls Try.prog 59 #[.pointer (some ⟨g, 0, none⟩)] w (Ret fun r w' => w.grownBy w' (some g) ∧ ∃ v, r = .tuple #[v, I 0] ∧ Wds m v w' ∧ RfAt g (some t) w') := by
  have := FNat_spec hr hl
  rw [h] at this
  exact this
theorem FR_no (hr : RfAt g st w) (hl : Few st) (h : st.bind rdR = none) : Calls Try.prog 60 #[.pointer (some ⟨g, 0, none⟩)] w (Ret fun r w' => w.grownBy w' (some g) ∧ ∃ v, r = .tuple #[v, I 5] ∧ RatV false [] [] v w' ∧ RfAt g none w') := by
  have := FRat_spec hr hl
  rw [h] at this
  exact this
theorem FR_ok {b : Bool} {n m : List UInt32} {t : List UInt8} (hr : RfAt g st w) (hl : Few st) (h : st.bind rdR = some ((b, n, m), t)) : Calls Try.prog 60 #[.pointer (some ⟨g, 0, none⟩)] w (Ret fun r w' => w.grownBy w' (some g) ∧ ∃ v, r = .tuple #[v, I 0] ∧ RatV b n m v w' ∧ RfAt g (some t) w') := by
  have := FRat_spec hr hl
  rw [h] at this
  exact this
theorem FB_no (hr : RfAt g st w) (hl : Few st) (h : st.bind rdB = none) : Calls Try.prog 47 #[.pointer (some ⟨g, 0, none⟩)] w (Ret fun r w' => w.grownBy w' (some g) ∧ r = .tuple #[.slice none 0 0, I 5] ∧ RfAt g none w') := by
  have := FBytes_spec hr hl
  rw [h] at this
  exact this
theorem FB_ok {a t : List UInt8} (hr : RfAt g st w) (hl : Few st) (h : st.bind rdB = some (a, t)) : Calls Try.prog 47 #[.pointer (some ⟨g, 0, none⟩)] w (Ret fun r w' => w.grownBy w' (some g) ∧ ∃ v, r = .tuple #[v, I 0] ∧ Bts a v w' ∧ RfAt g (some t) w') := by
  have := FBytes_spec hr hl
  rw [h] at this
  exact this
theorem FT_no (hr : RfAt g st w) (hl : Few st) (h : st.bind rdB = none) : Calls Try.prog 62 #[.pointer (some ⟨g, 0, none⟩)] w (Ret fun r w' => w.grownBy w' (some g) ∧ r = .tuple #[S [], I 5] ∧ RfAt g none w') := by
  have := FText_spec hr hl
  rw [h] at this
  exact this
theorem FT_ok {a t : List UInt8} (hr : RfAt g st w) (hl : Few st) (h : st.bind rdB = some (a, t)) : Calls Try.prog 62 #[.pointer (some ⟨g, 0, none⟩)] w (Ret fun r w' => w.grownBy w' (some g) ∧ r = .tuple #[S a, I 0] ∧ RfAt g (some t) w') := by
  have := FText_spec hr hl
  rw [h] at this
  exact this
end
end Go.Rl
/- A step of two readers at once: the walk. Conditions: the bytes are not more than 2^39. -/
namespace Go.Rl
open Go.RowKit Go.Proofs
theorem wstep_spec {w : World} {g g' : Nat} {st : Option (List UInt8)} {k : UInt8} (hr : RdAt g st w) (hf : RfAt g' st w) (hne : g ≠ g') (hl : Few st) :
    Calls Try.prog 33 #[.pointer (some ⟨g, 0, none⟩), .pointer (some ⟨g', 0, none⟩), U8 k] w (Ret fun r w' => r = B true ∧ Kp w w' ∧ (∀ w0, Ext w0 w → w0.heap.size ≤ g → w0.heap.size ≤ g' → Ext w0 w') ∧ ∃ st', RdAt g st' w' ∧ RfAt g' st' w' ∧ Few st') := by
  refine enter (vs := [.pointer (some ⟨g, 0, none⟩), .pointer (some ⟨g', 0, none⟩), U8 k]) Try.func33 rfl rfl rfl ?_
  have hne' := hne.symm
  have hgl := hr.lt
  have hgl' := RfAt.lt hf
  refine c_seq (c_region (o_assign rfl rfl (o_nil (n_then (c_seq (c_seq (c_region (o_move rfl rfl (o_bin (v := U8 6) rfl rfl rfl (r_rem_u8 (by decide)) (o_nil (n_then (c_block (c_seq (c_region ?_))))))))))))))
  refine o_bin (v := U8 0) rfl rfl rfl (r_eql_u8) (o_assign rfl rfl (o_nil (n_then ?_)))
  refine c_if rfl (fun h33 => ?_) (fun h33 => ?_)
  · refine c_seq ?_
    rcases hU : st.bind rdU with _ | ⟨n, t⟩
    · refine c_region (o_move rfl rfl (o_call call_Uint rfl rfl ((WU_no hr hU)) ?_))
      rintro v37 w37 ⟨x37, rfl, r1⟩
      have m37 := (hr.rdT).kp x37
      have f1 := RdT.other hf hr.rdT x37 hne'
      refine o_move rfl rfl (o_extract rfl rfl (r_ext0) (o_extract rfl rfl (r_ext1) (o_assign rfl rfl (o_assign rfl rfl (o_nil (n_then (c_seq (c_region (o_move rfl rfl (o_call call_FUint rfl rfl ((FU_no f1 hU)) ?_))))))))))
      rintro v42 w42 ⟨x42, rfl, f2⟩
      have m42 := RdT.kp f1 x42
      have r2 := (RdT.other r1.rdT f1 x42 hne).rdAt
      refine o_move rfl rfl (o_extract rfl rfl (r_ext0) (o_extract rfl rfl (r_ext1) (o_assign rfl rfl (o_assign rfl rfl (o_nil (n_then (c_seq (c_region (o_move rfl rfl (o_move rfl rfl (o_bin rfl rfl rfl (dec_t rfl r_eql_u64) ?_)))))))))))
      refine o_move rfl rfl (g_yes rfl (o_move rfl rfl (g_yes rfl (o_move rfl rfl (g_yes rfl (o_bin rfl rfl rfl (dec_t rfl r_eql_i) (o_pick_t rfl rfl rfl (o_assign rfl rfl (o_nil (n_then ?_))))))))))
      refine c_ret (r_block (r_then (r_body1 rfl rfl ?_)))
      exact ⟨_, rfl, rfl, m37.trans m42, fun w0 hx h1 h2 => ((hx.of_new x37 h1).of_new x42 h2), _, r2, f2, Few.none⟩
    · refine c_region (o_move rfl rfl (o_call call_Uint rfl rfl ((WU_ok hr hU)) ?_))
      rintro v37 w37 ⟨x37, rfl, r1⟩
      have m37 := (hr.rdT).kp x37
      have f1 := RdT.other hf hr.rdT x37 hne'
      refine o_move rfl rfl (o_extract rfl rfl (r_ext0) (o_extract rfl rfl (r_ext1) (o_assign rfl rfl (o_assign rfl rfl (o_nil (n_then (c_seq (c_region (o_move rfl rfl (o_call call_FUint rfl rfl ((FU_ok f1 hU)) ?_))))))))))
      rintro v42 w42 ⟨x42, rfl, f2⟩
      have m42 := RdT.kp f1 x42
      have r2 := (RdT.other r1.rdT f1 x42 hne).rdAt
      refine o_move rfl rfl (o_extract rfl rfl (r_ext0) (o_extract rfl rfl (r_ext1) (o_assign rfl rfl (o_assign rfl rfl (o_nil (n_then (c_seq (c_region (o_move rfl rfl (o_move rfl rfl (o_bin rfl rfl rfl (dec_t rfl r_eql_u64) ?_)))))))))))
      refine o_move rfl rfl (g_yes rfl (o_move rfl rfl (g_yes rfl (o_move rfl rfl (g_yes rfl (o_bin rfl rfl rfl (dec_t rfl r_eql_i) (o_pick_t rfl rfl rfl (o_assign rfl rfl (o_nil (n_then ?_))))))))))
      refine c_ret (r_block (r_then (r_body1 rfl rfl ?_)))
      exact ⟨_, rfl, rfl, m37.trans m42, fun w0 hx h1 h2 => ((hx.of_new x37 h1).of_new x42 h2), _, r2, f2, hl.u hU⟩
  · refine c_seq (c_region (o_bin (v := U8 1) rfl rfl rfl (r_eql_u8) (o_assign rfl rfl (o_nil (n_then ?_)))))
    refine c_if rfl (fun h53 => ?_) (fun h53 => ?_)
    · refine c_seq ?_
      rcases hU : st.bind rdU with _ | ⟨n, t⟩
      · refine c_region (o_move rfl rfl (o_call call_RInt rfl rfl ((WI_no hr hU)) ?_))
        rintro v57 w57 ⟨x57, rfl, r1⟩
        have m57 := (hr.rdT).kp x57
        have f1 := RdT.other hf hr.rdT x57 hne'
        refine o_move rfl rfl (o_extract rfl rfl (r_ext0) (o_extract rfl rfl (r_ext1) (o_assign rfl rfl (o_assign rfl rfl (o_nil (n_then (c_seq (c_region (o_move rfl rfl (o_call call_FInt rfl rfl ((FI_no f1 hU)) ?_))))))))))
        rintro v62 w62 ⟨x62, rfl, f2⟩
        have m62 := RdT.kp f1 x62
        have r2 := (RdT.other r1.rdT f1 x62 hne).rdAt
        refine o_move rfl rfl (o_extract rfl rfl (r_ext0) (o_extract rfl rfl (r_ext1) (o_assign rfl rfl (o_assign rfl rfl (o_nil (n_then (c_seq (c_region (o_move rfl rfl (o_move rfl rfl (o_bin rfl rfl rfl (dec_t rfl r_eql_i) ?_)))))))))))
        refine o_move rfl rfl (g_yes rfl (o_move rfl rfl (g_yes rfl (o_move rfl rfl (g_yes rfl (o_bin rfl rfl rfl (dec_t rfl r_eql_i) (o_pick_t rfl rfl rfl (o_assign rfl rfl (o_nil (n_then ?_))))))))))
        refine c_ret (r_block (r_then (r_body1 rfl rfl ?_)))
        exact ⟨_, rfl, rfl, m57.trans m62, fun w0 hx h1 h2 => ((hx.of_new x57 h1).of_new x62 h2), _, r2, f2, Few.none⟩
      · refine c_region (o_move rfl rfl (o_call call_RInt rfl rfl ((WI_ok hr hU)) ?_))
        rintro v57 w57 ⟨x57, rfl, r1⟩
        have m57 := (hr.rdT).kp x57
        have f1 := RdT.other hf hr.rdT x57 hne'
        refine o_move rfl rfl (o_extract rfl rfl (r_ext0) (o_extract rfl rfl (r_ext1) (o_assign rfl rfl (o_assign rfl rfl (o_nil (n_then (c_seq (c_region (o_move rfl rfl (o_call call_FInt rfl rfl ((FI_ok f1 hU)) ?_))))))))))
        rintro v62 w62 ⟨x62, rfl, f2⟩
        have m62 := RdT.kp f1 x62
        have r2 := (RdT.other r1.rdT f1 x62 hne).rdAt
        refine o_move rfl rfl (o_extract rfl rfl (r_ext0) (o_extract rfl rfl (r_ext1) (o_assign rfl rfl (o_assign rfl rfl (o_nil (n_then (c_seq (c_region (o_move rfl rfl (o_move rfl rfl (o_bin rfl rfl rfl (dec_t rfl r_eql_i) ?_)))))))))))
        refine o_move rfl rfl (g_yes rfl (o_move rfl rfl (g_yes rfl (o_move rfl rfl (g_yes rfl (o_bin rfl rfl rfl (dec_t rfl r_eql_i) (o_pick_t rfl rfl rfl (o_assign rfl rfl (o_nil (n_then ?_))))))))))
        refine c_ret (r_block (r_then (r_body1 rfl rfl ?_)))
        exact ⟨_, rfl, rfl, m57.trans m62, fun w0 hx h1 h2 => ((hx.of_new x57 h1).of_new x62 h2), _, r2, f2, hl.u hU⟩
    · refine c_seq (c_region (o_bin (v := U8 2) rfl rfl rfl (r_eql_u8) (o_assign rfl rfl (o_nil (n_then ?_)))))
      refine c_if rfl (fun h73 => ?_) (fun h73 => ?_)
      · refine c_seq ?_
        rcases hU : st.bind rdN with _ | ⟨m, t⟩
        · refine c_region (o_move rfl rfl (o_call call_RNat rfl rfl ((WN_no hr hl hU)) ?_))
          rintro v77 w77 ⟨x77, rfl, r1⟩
          have m77 := (hr.rdT).kp x77
          have f1 := RdT.other hf hr.rdT x77 hne'
          refine o_move rfl rfl (o_extract rfl rfl (r_ext0) (o_extract rfl rfl (r_ext1) (o_assign rfl rfl (o_assign rfl rfl (o_nil (n_then (c_seq (c_region (o_move rfl rfl (o_call call_FNat rfl rfl ((FN_no f1 hl hU)) ?_))))))))))
          rintro v82 w82 ⟨x82, rfl, f2⟩
          have m82 := RdT.kp f1 x82
          have r2 := (RdT.other r1.rdT f1 x82 hne).rdAt
          refine o_move rfl rfl (o_extract rfl rfl (r_ext0) (o_extract rfl rfl (r_ext1) (o_assign rfl rfl (o_assign rfl rfl (o_nil (n_then (c_seq (c_region (o_move rfl rfl (o_move rfl rfl (o_bin rfl rfl rfl (dec_t rfl r_eql_i) ?_)))))))))))
          refine o_move rfl rfl (g_yes rfl (o_move rfl rfl (g_yes rfl ?_)))
          refine o_build (vs := [(1, .slice none 0 0)]) rfl rfl (r_build1N ⟨_, _, _, rfl⟩) ?_
          refine g_yes rfl (o_move rfl rfl (g_yes rfl ?_))
          refine o_build (vs := [(1, .slice none 0 0)]) rfl rfl (r_build1N ⟨_, _, _, rfl⟩) ?_
          refine g_yes rfl (o_call call_SSame rfl rfl ((SSame_refl (RatV.mk (b := false) (Wds.nil _) (Wds.nil _)) (RatV.mk (b := false) (Wds.nil _) (Wds.nil _)))) ?_)
          rintro v93 w93 ⟨x93, rfl⟩
          refine o_pick_t rfl rfl rfl (o_assign rfl rfl (o_nil (n_then (c_ret (r_block (r_then (r_body1 rfl rfl ?_)))))))
          exact ⟨_, rfl, rfl, (m77.trans m82).trans (Kp.of_ext x93), fun w0 hx h1 h2 => ((hx.of_new x77 h1).of_new x82 h2).trans x93, _, r2.ext x93, RfAt.ext f2 x93, Few.none⟩
        · refine c_region (o_move rfl rfl (o_call call_RNat rfl rfl ((WN_ok hr hl hU)) ?_))
          rintro v77 w77 ⟨x77, v0, rfl, h0, r1⟩
          have m77 := (hr.rdT).kp x77
          have f1 := RdT.other hf hr.rdT x77 hne'
          refine o_move rfl rfl (o_extract rfl rfl (r_ext0) (o_extract rfl rfl (r_ext1) (o_assign rfl rfl (o_assign rfl rfl (o_nil (n_then (c_seq (c_region (o_move rfl rfl (o_call call_FNat rfl rfl ((FN_ok f1 hl hU)) ?_))))))))))
          rintro v82 w82 ⟨x82, u0, rfl, j0, f2⟩
          have m82 := RdT.kp f1 x82
          have r2 := (RdT.other r1.rdT f1 x82 hne).rdAt
          refine o_move rfl rfl (o_extract rfl rfl (r_ext0) (o_extract rfl rfl (r_ext1) (o_assign rfl rfl (o_assign rfl rfl (o_nil (n_then (c_seq (c_region (o_move rfl rfl (o_move rfl rfl (o_bin rfl rfl rfl (dec_t rfl r_eql_i) ?_)))))))))))
          refine o_move rfl rfl (g_yes rfl (o_move rfl rfl (g_yes rfl ?_)))
          refine o_build (vs := [(1, v0)]) rfl rfl (r_build1N h0.isS) ?_
          refine g_yes rfl (o_move rfl rfl (g_yes rfl ?_))
          refine o_build (vs := [(1, u0)]) rfl rfl (r_build1N j0.isS) ?_
          refine g_yes rfl (o_call call_SSame rfl rfl ((SSame_refl (RatV.mk (b := false) (h0.kp m82) (Wds.nil _)) (RatV.mk (b := false) j0 (Wds.nil _)))) ?_)
          rintro v93 w93 ⟨x93, rfl⟩
          refine o_pick_t rfl rfl rfl (o_assign rfl rfl (o_nil (n_then (c_ret (r_block (r_then (r_body1 rfl rfl ?_)))))))
          exact ⟨_, rfl, rfl, (m77.trans m82).trans (Kp.of_ext x93), fun w0 hx h1 h2 => ((hx.of_new x77 h1).of_new x82 h2).trans x93, _, r2.ext x93, RfAt.ext f2 x93, hl.n hU⟩
      · refine c_seq (c_region (o_bin (v := U8 3) rfl rfl rfl (r_eql_u8) (o_assign rfl rfl (o_nil (n_then ?_)))))
        refine c_if rfl (fun h95 => ?_) (fun h95 => ?_)
        · refine c_seq ?_
          rcases hU : st.bind rdR with _ | ⟨⟨b, n, m⟩, t⟩
          · refine c_region (o_move rfl rfl (o_call call_RRat rfl rfl ((WR_no hr hl hU)) ?_))
            rintro v99 w99 ⟨x99, v0, rfl, h0, r1⟩
            have m99 := (hr.rdT).kp x99
            have f1 := RdT.other hf hr.rdT x99 hne'
            refine o_move rfl rfl (o_extract rfl rfl (r_ext0) (o_extract rfl rfl (r_ext1) ?_))
            obtain ⟨g19, w19, hr19, l19, x19, k19⟩ := r_allocR (w := w99)
            refine o_alloc rfl hr19 ?_
            obtain ⟨p1, q1, w5, hp1, hs1, e1, k1, n1, d1⟩ := k19.stR ⟨_, _, _, rfl⟩ ⟨_, _, _, rfl⟩ (h0.ext x19)
            refine o_store rfl rfl (hs1) ?_
            have x5 := x19.of_new e1 l19
            have r1 := r1.ext x5
            have f1 := RfAt.ext f1 x5
            have hg19 : some g19 ≠ some g' := fun e => by have := Option.some.inj e; have := m99.size; omega
            refine o_assign rfl rfl (o_nil (n_then (c_seq (c_region (o_move rfl rfl (o_call call_FRat rfl rfl ((FR_no f1 hl hU)) ?_))))))
            rintro v104 w104 ⟨x104, u0, rfl, j0, f2⟩
            have m104 := RdT.kp f1 x104
            have r2 := (RdT.other r1.rdT f1 x104 hne).rdAt
            have k1 := k1.other x104 hg19
            have n1 := n1.kp m104
            have d1 := d1.kp m104
            refine o_move rfl rfl (o_extract rfl rfl (r_ext0) (o_extract rfl rfl (r_ext1) ?_))
            obtain ⟨g21, w21, hr21, l21, x21, k21⟩ := r_allocR (w := w104)
            refine o_alloc rfl hr21 ?_
            obtain ⟨p2, q2, w6, hp2, hs2, e2, k2, n2, d2⟩ := k21.stR ⟨_, _, _, rfl⟩ ⟨_, _, _, rfl⟩ (j0.ext x21)
            refine o_store rfl rfl (hs2) ?_
            have x6 := x21.of_new e2 l21
            refine o_assign rfl rfl (o_nil (n_then (c_seq (c_region (o_move rfl rfl (o_move rfl rfl (o_bin rfl rfl rfl (dec_t rfl r_eql_i) (o_move rfl rfl (g_yes rfl (o_load rfl rfl ((k1.ext x6).ldR) ?_))))))))))
            refine g_yes rfl (o_load rfl rfl (k2.ldR) (g_yes rfl (o_call call_SSame rfl rfl ((SSame_refl ((RatV.mk n1 d1).ext x6) (RatV.mk n2 d2))) ?_)))
            rintro v113 w113 ⟨x113, rfl⟩
            refine o_pick_t rfl rfl rfl (o_assign rfl rfl (o_nil (n_then (c_ret (r_block (r_then (r_body1 rfl rfl ?_)))))))
            exact ⟨_, rfl, rfl, ((m99.trans (Kp.of_ext x5)).trans m104).trans (Kp.of_ext (x6.trans x113)), fun w0 hx h1 h2 => (((hx.of_new x99 h1).trans x5).of_new x104 h2).trans (x6.trans x113), _, r2.ext (x6.trans x113), RfAt.ext f2 (x6.trans x113), Few.none⟩
          · refine c_region (o_move rfl rfl (o_call call_RRat rfl rfl ((WR_ok hr hl hU)) ?_))
            rintro v99 w99 ⟨x99, v0, rfl, h0, r1⟩
            have m99 := (hr.rdT).kp x99
            have f1 := RdT.other hf hr.rdT x99 hne'
            refine o_move rfl rfl (o_extract rfl rfl (r_ext0) (o_extract rfl rfl (r_ext1) ?_))
            obtain ⟨g19, w19, hr19, l19, x19, k19⟩ := r_allocR (w := w99)
            refine o_alloc rfl hr19 ?_
            obtain ⟨p1, q1, w5, hp1, hs1, e1, k1, n1, d1⟩ := k19.stR ⟨_, _, _, rfl⟩ ⟨_, _, _, rfl⟩ (h0.ext x19)
            refine o_store rfl rfl (hs1) ?_
            have x5 := x19.of_new e1 l19
            have r1 := r1.ext x5
            have f1 := RfAt.ext f1 x5
            have hg19 : some g19 ≠ some g' := fun e => by have := Option.some.inj e; have := m99.size; omega
            refine o_assign rfl rfl (o_nil (n_then (c_seq (c_region (o_move rfl rfl (o_call call_FRat rfl rfl ((FR_ok f1 hl hU)) ?_))))))
            rintro v104 w104 ⟨x104, u0, rfl, j0, f2⟩
            have m104 := RdT.kp f1 x104
            have r2 := (RdT.other r1.rdT f1 x104 hne).rdAt
            have k1 := k1.other x104 hg19
            have n1 := n1.kp m104
            have d1 := d1.kp m104
            refine o_move rfl rfl (o_extract rfl rfl (r_ext0) (o_extract rfl rfl (r_ext1) ?_))
            obtain ⟨g21, w21, hr21, l21, x21, k21⟩ := r_allocR (w := w104)
            refine o_alloc rfl hr21 ?_
            obtain ⟨p2, q2, w6, hp2, hs2, e2, k2, n2, d2⟩ := k21.stR ⟨_, _, _, rfl⟩ ⟨_, _, _, rfl⟩ (j0.ext x21)
            refine o_store rfl rfl (hs2) ?_
            have x6 := x21.of_new e2 l21
            refine o_assign rfl rfl (o_nil (n_then (c_seq (c_region (o_move rfl rfl (o_move rfl rfl (o_bin rfl rfl rfl (dec_t rfl r_eql_i) (o_move rfl rfl (g_yes rfl (o_load rfl rfl ((k1.ext x6).ldR) ?_))))))))))
            refine g_yes rfl (o_load rfl rfl (k2.ldR) (g_yes rfl (o_call call_SSame rfl rfl ((SSame_refl ((RatV.mk n1 d1).ext x6) (RatV.mk n2 d2))) ?_)))
            rintro v113 w113 ⟨x113, rfl⟩
            refine o_pick_t rfl rfl rfl (o_assign rfl rfl (o_nil (n_then (c_ret (r_block (r_then (r_body1 rfl rfl ?_)))))))
            exact ⟨_, rfl, rfl, ((m99.trans (Kp.of_ext x5)).trans m104).trans (Kp.of_ext (x6.trans x113)), fun w0 hx h1 h2 => (((hx.of_new x99 h1).trans x5).of_new x104 h2).trans (x6.trans x113), _, r2.ext (x6.trans x113), RfAt.ext f2 (x6.trans x113), hl.r hU⟩
        · refine c_seq (c_region (o_bin (v := U8 4) rfl rfl rfl (r_eql_u8) (o_assign rfl rfl (o_nil (n_then ?_)))))
          refine c_if rfl (fun h115 => ?_) (fun h115 => ?_)
          · refine c_seq ?_
            rcases hU : st.bind rdB with _ | ⟨a, t⟩
            · refine c_region (o_move rfl rfl (o_call call_Bytes rfl rfl ((WB_no hr hl hU)) ?_))
              rintro v119 w119 ⟨x119, rfl, r1⟩
              have m119 := (hr.rdT).kp x119
              have f1 := RdT.other hf hr.rdT x119 hne'
              refine o_move rfl rfl (o_extract rfl rfl (r_ext0) (o_extract rfl rfl (r_ext1) (o_assign rfl rfl (o_assign rfl rfl (o_nil (n_then (c_seq (c_region (o_move rfl rfl (o_call call_FBytes rfl rfl ((FB_no f1 hl hU)) ?_))))))))))
              rintro v124 w124 ⟨x124, rfl, f2⟩
              have m124 := RdT.kp f1 x124
              have r2 := (RdT.other r1.rdT f1 x124 hne).rdAt
              refine o_move rfl rfl (o_extract rfl rfl (r_ext0) (o_extract rfl rfl (r_ext1) (o_assign rfl rfl (o_assign rfl rfl (o_nil (n_then (c_seq (c_region (o_move rfl rfl (o_move rfl rfl (o_bin rfl rfl rfl (dec_t rfl r_eql_i) ?_)))))))))))
              refine o_move rfl rfl (g_yes rfl (o_move rfl rfl (g_yes rfl (o_conv rfl rfl (r_str (Bts.nil _)) (g_yes rfl (o_move rfl rfl (g_yes rfl (o_conv rfl rfl (r_str (Bts.nil _)) (g_yes rfl ?_)))))))))
              refine o_bin rfl rfl rfl (dec_t rfl r_eql_s) (o_pick_t rfl rfl rfl (o_assign rfl rfl (o_nil (n_then (c_ret (r_block (r_then (r_body1 rfl rfl ?_))))))))
              exact ⟨_, rfl, rfl, m119.trans m124, fun w0 hx h1 h2 => ((hx.of_new x119 h1).of_new x124 h2), _, r2, f2, Few.none⟩
            · refine c_region (o_move rfl rfl (o_call call_Bytes rfl rfl ((WB_ok hr hl hU)) ?_))
              rintro v119 w119 ⟨x119, v0, rfl, h0, r1⟩
              have m119 := (hr.rdT).kp x119
              have f1 := RdT.other hf hr.rdT x119 hne'
              refine o_move rfl rfl (o_extract rfl rfl (r_ext0) (o_extract rfl rfl (r_ext1) (o_assign rfl rfl (o_assign rfl rfl (o_nil (n_then (c_seq (c_region (o_move rfl rfl (o_call call_FBytes rfl rfl ((FB_ok f1 hl hU)) ?_))))))))))
              rintro v124 w124 ⟨x124, u0, rfl, j0, f2⟩
              have m124 := RdT.kp f1 x124
              have r2 := (RdT.other r1.rdT f1 x124 hne).rdAt
              refine o_move rfl rfl (o_extract rfl rfl (r_ext0) (o_extract rfl rfl (r_ext1) (o_assign rfl rfl (o_assign rfl rfl (o_nil (n_then (c_seq (c_region (o_move rfl rfl (o_move rfl rfl (o_bin rfl rfl rfl (dec_t rfl r_eql_i) ?_)))))))))))
              refine o_move rfl rfl (g_yes rfl (o_move rfl rfl (g_yes rfl (o_conv rfl rfl (r_str (h0.kp m124)) (g_yes rfl (o_move rfl rfl (g_yes rfl (o_conv rfl rfl (r_str j0) (g_yes rfl (o_bin rfl rfl rfl (dec_t rfl r_eql_s) ?_))))))))))
              refine o_pick_t rfl rfl rfl (o_assign rfl rfl (o_nil (n_then (c_ret (r_block (r_then (r_body1 rfl rfl ?_)))))))
              exact ⟨_, rfl, rfl, m119.trans m124, fun w0 hx h1 h2 => ((hx.of_new x119 h1).of_new x124 h2), _, r2, f2, hl.b hU⟩
          · refine c_skip (n_block (n_then (c_seq ?_)))
            rcases hU : st.bind rdB with _ | ⟨a, t⟩
            · refine c_region (o_move rfl rfl (o_call call_Text rfl rfl ((WT_no hr hl hU)) ?_))
              rintro v139 w139 ⟨x139, rfl, r1⟩
              have m139 := (hr.rdT).kp x139
              have f1 := RdT.other hf hr.rdT x139 hne'
              refine o_move rfl rfl (o_extract rfl rfl (r_ext0) (o_extract rfl rfl (r_ext1) (o_assign rfl rfl (o_assign rfl rfl (o_nil (n_then (c_seq (c_region (o_move rfl rfl (o_call call_FText rfl rfl ((FT_no f1 hl hU)) ?_))))))))))
              rintro v144 w144 ⟨x144, rfl, f2⟩
              have m144 := RdT.kp f1 x144
              have r2 := (RdT.other r1.rdT f1 x144 hne).rdAt
              refine o_move rfl rfl (o_extract rfl rfl (r_ext0) (o_extract rfl rfl (r_ext1) (o_assign rfl rfl (o_assign rfl rfl (o_nil (n_then (c_seq (c_region (o_move rfl rfl (o_move rfl rfl (o_bin rfl rfl rfl (dec_t rfl r_eql_i) ?_)))))))))))
              refine o_move rfl rfl (g_yes rfl (o_move rfl rfl (g_yes rfl (o_move rfl rfl (g_yes rfl (o_bin rfl rfl rfl (dec_t rfl r_eql_s) (o_pick_t rfl rfl rfl (o_assign rfl rfl (o_nil (n_then ?_))))))))))
              refine c_ret (r_body1 rfl rfl ?_)
              exact ⟨_, rfl, rfl, m139.trans m144, fun w0 hx h1 h2 => ((hx.of_new x139 h1).of_new x144 h2), _, r2, f2, Few.none⟩
            · refine c_region (o_move rfl rfl (o_call call_Text rfl rfl ((WT_ok hr hl hU)) ?_))
              rintro v139 w139 ⟨x139, rfl, r1⟩
              have m139 := (hr.rdT).kp x139
              have f1 := RdT.other hf hr.rdT x139 hne'
              refine o_move rfl rfl (o_extract rfl rfl (r_ext0) (o_extract rfl rfl (r_ext1) (o_assign rfl rfl (o_assign rfl rfl (o_nil (n_then (c_seq (c_region (o_move rfl rfl (o_call call_FText rfl rfl ((FT_ok f1 hl hU)) ?_))))))))))
              rintro v144 w144 ⟨x144, rfl, f2⟩
              have m144 := RdT.kp f1 x144
              have r2 := (RdT.other r1.rdT f1 x144 hne).rdAt
              refine o_move rfl rfl (o_extract rfl rfl (r_ext0) (o_extract rfl rfl (r_ext1) (o_assign rfl rfl (o_assign rfl rfl (o_nil (n_then (c_seq (c_region (o_move rfl rfl (o_move rfl rfl (o_bin rfl rfl rfl (dec_t rfl r_eql_i) ?_)))))))))))
              refine o_move rfl rfl (g_yes rfl (o_move rfl rfl (g_yes rfl (o_move rfl rfl (g_yes rfl (o_bin rfl rfl rfl (dec_t rfl r_eql_s) (o_pick_t rfl rfl rfl (o_assign rfl rfl (o_nil (n_then ?_))))))))))
              refine c_ret (r_body1 rfl rfl ?_)
              exact ⟨_, rfl, rfl, m139.trans m144, fun w0 hx h1 h2 => ((hx.of_new x139 h1).of_new x144 h2), _, r2, f2, hl.b hU⟩
end Go.Rl
/- The statement WireReads: the wire's reader and the reference's go the same way. No condition. -/
namespace Go.Rl
open Go.RowKit Go.Proofs
theorem New_own {w : World} {l : List UInt8} {v : Value} (hv : Bts l v w) (hl : l.length ≤ 140737488355328) :
    Calls Try.prog 25 #[v] w (Ret fun r w' => Ext w w' ∧ ∃ g A n c, w.heap.size ≤ g ∧ r = .pointer (some ⟨g, 0, none⟩) ∧ Blk g 83 [.slice A n c, B false] w' ∧ OwnB w.heap.size l (.slice A n c) w') := by
  refine enter (vs := [v]) Try.func25 rfl rfl rfl ?_
  refine c_seq (c_region (o_assign rfl rfl (o_nil (n_then (c_seq (c_region (o_move rfl rfl ?_)))))))
  refine o_call call_Clone rfl rfl (Clone_spec hv hl) ?_
  rintro r1 w1 ⟨hx1, ho1⟩
  obtain ⟨A, n, c, rfl, _⟩ := id ho1.bts
  refine o_build rfl rfl (r := .agg #[.slice A n c, .bool false]) (by simp [Instr.build, run_underlying Try.underlying83, r_zero zero_Reader, r_sizeOf size_bytes, r_sizeOf size_bool, Instr.fill, Value.cells]) ?_
  refine o_box rfl rfl r_box ?_
  refine o_assign rfl rfl (o_nil (n_then (c_ret ?_)))
  refine r_body1 rfl rfl ?_
  exact ⟨_, rfl, hx1.trans (Ext.new _ _), w1.heap.size, A, n, c, hx1.size, rfl, heap_alloc_new _ _, ho1.ext (Ext.new _ _)⟩
theorem FNew_own {w : World} {l : List UInt8} {v : Value} (hv : Bts l v w) (hl : l.length ≤ 140737488355328) :
    Calls Try.prog 32 #[v] w (Ret fun r w' => Ext w w' ∧ ∃ g A n c, w.heap.size ≤ g ∧ r = .pointer (some ⟨g, 0, none⟩) ∧ Blk g 91 [.slice A n c, B false] w' ∧ OwnB w.heap.size l (.slice A n c) w') := by
  refine enter (vs := [v]) Try.func32 rfl rfl rfl ?_
  refine c_seq (c_region (o_assign rfl rfl (o_nil (n_then (c_seq (c_region ?_))))))
  obtain ⟨v3, w3, hr3, x3, o3, ob3⟩ := r_bsB (w := w) w.heap.size [] (by simp) (Nat.le_refl _)
  refine o_buildSlice (vs := []) rfl rfl hr3 (o_move rfl rfl ?_)
  obtain ⟨v5, w5, hr5, o5, g5⟩ := r_appB (ty := 22) o3 (hv.ext x3) (by simpa using hl) (x3).size
  have x5 := Ext.of_grew (x3) g5 o3.ge
  refine o_append rfl rfl hr5 ?_
  obtain ⟨A, n, c, rfl, _⟩ := id o5.bts
  refine o_build (vs := [(0, .slice A n c)]) rfl rfl (r := .agg #[.slice A n c, .bool false]) (by simp [Instr.build, run_underlying Try.underlying91, r_zero zero_RfReader, r_sizeOf size_bytes, r_sizeOf size_bool, Instr.fill, Value.cells]) ?_
  refine o_box rfl rfl (r_box) (o_assign rfl rfl (o_nil (n_then (c_ret (r_body1 rfl rfl ?_)))))
  exact ⟨_, rfl, (x5).trans (Ext.new _ _), _, A, n, c, (x5).size, rfl, heap_alloc_new _ _, OwnB.ext (show OwnB _ l _ _ from o5) (Ext.new _ _)⟩
theorem OwnB.later {base : Nat} {l : List UInt8} {v : Value} {w w' : World} {row : Option Nat} (h : OwnB base l v w) (hg : w.grownBy w' row) (hr : ∀ k, row = some k → k < base) : OwnB base l v w' := by
  refine h.kept hg ?_
  cases hb : v.ownBlock with
  | none => exact .inl rfl
  | some k => exact .inr fun e => by have := hr k e.symm; have := h.ge k hb; omega
theorem OwnB.below {base : Nat} {l : List UInt8} {v : Value} {w : World} (h : OwnB base l v w) : ∀ k, v.ownBlock = some k → k < w.heap.size := fun k hk => h.elim fun _ h => (World.ownsRow.lt h k hk).2
section
variable {w : World} {g : Nat} {st : Option (List UInt8)}
theorem Left_s (hr : RdAt g st w) : Calls Try.prog 31 #[.pointer (some ⟨g, 0, none⟩)] w (Ret fun r w' => w = w' ∧ r = I ((st.getD []).length : Nat)) := (Left_spec hr).mono fun _ _ ⟨v, h, h1, h2⟩ => ⟨v, h, h2.symm, h1⟩
theorem Done_s (hr : RdAt g st w) : Calls Try.prog 35 #[.pointer (some ⟨g, 0, none⟩)] w (Ret fun r w' => w = w' ∧ r = I (if st = some [] then 0 else 5)) := (Done_spec hr).mono fun _ _ ⟨v, h, h1, h2⟩ => ⟨v, h, h2.symm, h1⟩
theorem FLeft_s (hr : RfAt g st w) : Calls Try.prog 34 #[.pointer (some ⟨g, 0, none⟩)] w (Ret fun r w' => w = w' ∧ r = I ((st.getD []).length : Nat)) := (FLeft_spec hr).mono fun _ _ ⟨v, h, h1, h2⟩ => ⟨v, h, h2.symm, h1⟩
theorem FDone_s (hr : RfAt g st w) : Calls Try.prog 36 #[.pointer (some ⟨g, 0, none⟩)] w (Ret fun r w' => w = w' ∧ r = I (if st = some [] then 0 else 5)) := (FDone_spec hr).mono fun _ _ ⟨v, h, h1, h2⟩ => ⟨v, h, h2.symm, h1⟩
end
theorem WireReads_walk {w : World} {d p : List UInt8} {v u : Value} (hd : Bts d v w) (hp : Bts p u w) :
    Calls Try.prog 11 #[v, u] w (Ret fun r w' => r = B true ∧ Ext w w') := by
  refine enter (vs := [v, u]) Try.func11 rfl rfl rfl ?_
  refine c_seq (c_region (o_assign rfl rfl (o_nil (n_then (c_seq (c_seq (c_region (o_call call_awake rfl rfl (awake_spec _) ?_))))))))
  rintro v10 w10 ⟨rfl, x10⟩
  refine o_not rfl rfl r_not (o_move rfl rfl (g_yes rfl (o_move rfl rfl (g_yes rfl (o_len rfl rfl (r_lenB (hd.ext x10)) (g_yes rfl (o_bin rfl rfl rfl (r_gtr_i) (o_pick_f rfl rfl rfl ?_))))))))
  refine o_move rfl rfl ?_
  refine o_dec (fun h17 => ?_) (fun h17 => ?_)
  · refine g_no rfl rfl rfl (g_no rfl rfl rfl (g_no rfl rfl rfl (o_pick_t rfl rfl rfl (o_nil (n_then (c_yes rfl (c_seq (c_region (o_call call_awake rfl rfl (awake_spec _) ?_)))))))))
    rintro v22 w22 ⟨rfl, x22⟩
    refine o_assign rfl rfl (o_nil (n_then (c_ret (r_then (r_body1 rfl rfl ?_)))))
    exact ⟨_, rfl, rfl, (x10.trans x22)⟩
  · refine g_yes rfl (o_move rfl rfl (g_yes rfl (o_len rfl rfl (r_lenB (hp.ext x10)) (g_yes rfl (o_bin rfl rfl rfl (r_gtr_i) (o_pick_f rfl rfl rfl (o_nil (n_then ?_))))))))
    refine c_if rfl (fun h21 => ?_) (fun h21 => ?_)
    · refine c_seq (c_region (o_call call_awake rfl rfl (awake_spec _) ?_))
      rintro v22 w22 ⟨rfl, x22⟩
      refine o_assign rfl rfl (o_nil (n_then (c_ret (r_then (r_body1 rfl rfl ?_)))))
      exact ⟨_, rfl, rfl, (x10.trans x22)⟩
    · refine c_skip (n_then (c_seq (c_region ?_)))
      obtain ⟨v23, w23, hr23, x23, o23, ob23⟩ := r_bsB (w := w10) w10.heap.size [] (by simp) (Nat.le_refl _)
      refine o_buildSlice (vs := []) rfl rfl hr23 (o_move rfl rfl ?_)
      obtain ⟨v25, w25, hr25, o25, g25⟩ := r_appB (ty := 22) o23 (hd.ext (x10.trans x23)) (by simp; omega) (x23).size
      have x25 := Ext.of_grew (x23) g25 o23.ge
      refine o_append rfl rfl hr25 ?_
      rw [List.nil_append] at o25
      have ob25 := o25.below
      have oge := o25.ge
      refine o_assign rfl rfl (o_nil (n_then (c_seq (c_region (o_move rfl rfl (o_call call_New rfl rfl ((New_own o25.bts (by omega))) ?_))))))
      rintro v27 w27 ⟨x27, g, A, n, c, lg, rfl, kg, og⟩
      refine o_move rfl rfl (o_call call_FNew rfl rfl ((FNew_own (hd.ext ((x10.trans x25).trans x27)) (by omega))) ?_)
      rintro v29 w29 ⟨x29, g', A', n', c', lg', rfl, kf, of⟩
      refine o_assign rfl rfl (o_assign rfl rfl (o_nil (n_then (c_seq (c_seq (c_region (o_assign rfl rfl (o_nil (n_then (c_block ?_))))))))))
      refine c_loop2 (fun (i : Nat) (L : List UInt8) => [(1, u), (5, v25), (6, .pointer (some ⟨g, 0, none⟩)), (7, .pointer (some ⟨g', 0, none⟩)), (8, I (i : Int))]) (fun (i : Nat) (L : List UInt8) w' => w29.grownBy w' v25.ownBlock ∧ OwnB w10.heap.size L v25 w' ∧ L.length = d.length ∧ i ≤ d.length) (fun (i : Nat) (L : List UInt8) => d.length - i) (0) (d) ⟨rfl, rfl, rfl, rfl, rfl, trivial⟩ ⟨grownBy_refl _ _, (o25.ext (x27.trans x29)), rfl, by omega⟩ ?_
      rintro i L w6 ⟨g6, o6, hL, hi⟩
      refine c_seq (c_seq (c_region (o_move rfl rfl (o_move rfl rfl (o_len rfl rfl (r_lenB o6.bts) (o_bin rfl rfl rfl (r_lss_i) (o_nil (n_then ?_))))))))
      refine c_if rfl (fun h33 => ?_) (fun h33 => ?_)
      · refine c_skip (n_then (c_seq (c_block (c_region (o_move rfl rfl (o_move rfl rfl ?_))))))
        obtain ⟨g38, w38, p38, s38, o38, q38, hb38, c38, ob38⟩ := o6.setB (i := i) (by omega) 77
        refine o_indexAddr rfl rfl rfl (p38 _) ?_
        refine o_store rfl rfl (s38) (o_nil (n_block (n_then (c_region (o_move rfl rfl (o_bin (r := I ((i + 1 : Nat) : Int)) rfl rfl rfl (by have e : ((i + 1 : Nat) : Int) = (i : Int) + 1 := (by omega); rw [e]; exact r_add_i (by omega) (by omega)) ?_))))))
        refine o_assign rfl rfl (o_nil ?_)
        refine n_round2 (i + 1) (L.set i 77) ⟨rfl, rfl, rfl, rfl, rfl, trivial⟩ ⟨g6.trans (by rw [ob38]; exact q38), o38, by rw [List.length_set]; exact hL, by omega⟩ (by omega)
      · refine c_exit (x_then (x_then (x_here (n_then (c_seq (c_seq ?_))))))
        have ex6 : Ext w w6 := (((x10.trans x25).trans x27).trans x29).of_grown g6 (fun k hk => Nat.le_trans x10.size (oge k hk))
        have hsz := x27.size
        have r6 : RdAt g (some d) w6 := ⟨A, n, c, (kg.ext x29).other g6 (fun e => by have := ob25 g e.symm; omega), ((og.ext x29).later g6 ob25).bts⟩
        have f6 : RfAt g' (some d) w6 := ⟨A', n', c', kf.other g6 (fun e => by have := ob25 g' e.symm; omega), (of.later g6 (fun k hk => by have := ob25 k hk; omega)).bts⟩
        have hgg : g ≠ g' := by have := Blk.lt kg; omega
        have hw25 := (x10.trans x25).size
        refine c_region (o_assign rfl rfl (o_nil (n_then (c_block ?_))))
        refine c_loop2 (fun (i : Nat) (st : Option (List UInt8)) => [(1, u), (6, .pointer (some ⟨g, 0, none⟩)), (7, .pointer (some ⟨g', 0, none⟩)), (9, I (i : Int))]) (fun (i : Nat) (st : Option (List UInt8)) w' => Ext w w' ∧ RdAt g st w' ∧ RfAt g' st w' ∧ Few st ∧ i ≤ p.length) (fun (i : Nat) (st : Option (List UInt8)) => p.length - i) (0) (some d) ⟨rfl, rfl, rfl, rfl, trivial⟩ ⟨ex6, r6, f6, fun l e => by cases e; omega, by omega⟩ ?_
        rintro i st w9 ⟨e9, r9, f9, hs, hi⟩
        refine c_seq (c_seq (c_region (o_move rfl rfl (o_move rfl rfl (o_len rfl rfl (r_lenB (hp.ext e9)) (o_bin rfl rfl rfl (r_lss_i) (o_nil (n_then ?_))))))))
        refine c_if rfl (fun h42 => ?_) (fun h42 => ?_)
        · refine c_skip (n_then (c_seq (c_block (c_seq (c_region (o_move rfl rfl (o_move rfl rfl (o_move rfl rfl (o_move rfl rfl ?_)))))))))
          obtain ⟨a49, p49, q49⟩ := r_ixB (hp.ext e9) (i := i) (by omega) .i64
          refine o_indexAddr rfl rfl rfl (p49 _) (o_load rfl rfl (r_load1 Try.underlying5 rfl q49) (o_call call_wstep rfl rfl ((wstep_spec r9 f9 hgg hs)) ?_))
          rintro v51 w51 ⟨rfl, m51, E51, st', r5, f5, hs'⟩
          have x51 := E51 w e9 (by omega) (by omega)
          refine o_not rfl rfl r_not (o_move rfl rfl (g_yes rfl (o_move rfl rfl (g_yes rfl (o_call call_Left rfl rfl (Left_s r5) ?_)))))
          rintro v55 _ ⟨rfl, rfl⟩
          refine g_yes rfl (o_move rfl rfl (g_yes rfl (o_call call_FLeft rfl rfl (FLeft_s f5) ?_)))
          rintro v57 _ ⟨rfl, rfl⟩
          refine g_yes rfl (o_bin rfl rfl rfl (dec_f (fun h => h rfl) r_neq_i) (o_pick_f rfl rfl rfl (o_move rfl rfl (g_yes rfl (o_move rfl rfl (g_yes rfl (o_call call_Done rfl rfl (Done_s r5) ?_)))))))
          rintro v62 _ ⟨rfl, rfl⟩
          refine g_yes rfl (o_move rfl rfl (g_yes rfl (o_call call_FDone rfl rfl (FDone_s f5) ?_)))
          rintro v64 _ ⟨rfl, rfl⟩
          refine g_yes rfl (o_bin rfl rfl rfl (dec_f (fun h => h rfl) r_neq_i) (o_pick_f rfl rfl rfl (o_nil (n_then (c_no rfl (c_skip (n_block (n_then (c_region (o_move rfl rfl (o_bin (r := I ((i + 1 : Nat) : Int)) rfl rfl rfl (by have e : ((i + 1 : Nat) : Int) = (i : Int) + 1 := (by omega); rw [e]; exact r_add_i (by omega) (by omega)) ?_)))))))))))
          refine o_assign rfl rfl (o_nil ?_)
          refine n_round2 (i + 1) (st') ⟨rfl, rfl, rfl, rfl, trivial⟩ ⟨x51, r5, f5, hs', by omega⟩ (by omega)
        · refine c_exit (x_then (x_then (x_here (n_then (c_seq (c_region (o_move rfl rfl (o_call call_Left rfl rfl (Left_s r9) ?_))))))))
          rintro v68 _ ⟨rfl, rfl⟩
          refine o_move rfl rfl (o_call call_FLeft rfl rfl (FLeft_s f9) ?_)
          rintro v70 _ ⟨rfl, rfl⟩
          refine o_bin rfl rfl rfl (dec_t rfl r_eql_i) (o_move rfl rfl (g_yes rfl (o_move rfl rfl (g_yes rfl (o_call call_Done rfl rfl (Done_s r9) ?_)))))
          rintro v74 _ ⟨rfl, rfl⟩
          refine g_yes rfl (o_move rfl rfl (g_yes rfl (o_call call_FDone rfl rfl (FDone_s f9) ?_)))
          rintro v76 _ ⟨rfl, rfl⟩
          refine g_yes rfl (o_bin rfl rfl rfl (dec_t rfl r_eql_i) (o_pick_t rfl rfl rfl (o_assign rfl rfl (o_nil (n_then (c_ret (r_body1 rfl rfl ?_)))))))
          exact ⟨_, rfl, rfl, e9⟩
end Go.Rl
/- The statement WireUnique: what is read is written again in the same bytes. No condition. -/
namespace Go.Rl
open Go.RowKit Go.Proofs
theorem uz_lo {n : Nat} (h : n < 18446744073709551616) : -9223372036854775808 ≤ uz n := by unfold uz; split <;> omega
theorem uz_hi {n : Nat} (h : n < 18446744073709551616) : uz n ≤ 9223372036854775807 := by unfold uz; split <;> omega
theorem WireUnique_walk {w : World} {d : List UInt8} {v : Value} {k : UInt8} (hd : Bts d v w) :
    Calls Try.prog 12 #[v, U8 k] w (Ret fun r w' => r = B true ∧ Ext w w') := by
  refine enter (vs := [v, U8 k]) Try.func12 rfl rfl rfl ?_
  refine c_seq (c_region (o_assign rfl rfl (o_nil (n_then (c_seq (c_seq (c_region (o_call call_awake rfl rfl (awake_spec _) ?_))))))))
  rintro v17 w17 ⟨rfl, x17⟩
  refine o_not rfl rfl r_not (o_move rfl rfl (g_yes rfl (o_move rfl rfl (g_yes rfl (o_len rfl rfl (r_lenB (hd.ext x17)) (g_yes rfl (o_bin rfl rfl rfl (r_gtr_i) (o_pick_f rfl rfl rfl ?_))))))))
  refine o_nil (n_then ?_)
  refine c_if rfl (fun h23 => ?_) (fun h23 => ?_)
  · refine c_seq (c_region (o_call call_awake rfl rfl (awake_spec _) ?_))
    rintro v24 w24 ⟨rfl, x24⟩
    refine o_assign rfl rfl (o_nil (n_then (c_ret (r_then (r_body1 rfl rfl ?_)))))
    exact ⟨_, rfl, rfl, (x17.trans x24)⟩
  · refine c_skip (n_then (c_seq (c_region (o_move rfl rfl (o_call call_New rfl rfl ((New_spec (hd.ext x17) (by omega))) ?_)))))
    rintro v26 w26 ⟨x26, g, lg, rfl, rr⟩
    have hg : w.heap.size ≤ g := Nat.le_trans x17.size lg
    have hf : Few (some d) := fun l e => by cases e; omega
    refine o_assign rfl rfl (o_nil (n_then (c_seq (c_region (o_assign rfl rfl (o_nil (n_then (c_seq (c_region (o_assign rfl rfl (o_nil (n_then (c_seq ?_)))))))))))))
    refine c_cut (fun p : Value × Int => [(0, v), (5, .pointer (some ⟨g, 0, none⟩)), (6, p.1), (7, I p.2)]) (fun p w' => Ext w w' ∧ ((p.2 = 5 ∧ RdAt g none w') ∨ (p.2 = 0 ∧ ∃ a t, d = a ++ t ∧ Bts a p.1 w' ∧ RdAt g (some t) w'))) ?_ ?_
    · refine c_seq (c_region (o_move rfl rfl (o_bin (v := U8 4) rfl rfl rfl (r_rem_u8 (by decide)) (o_nil (n_then (c_block (c_seq (c_region (o_bin (v := U8 0) rfl rfl rfl (r_eql_u8) (o_assign rfl rfl ?_))))))))))
      refine o_nil (n_then ?_)
      refine c_if rfl (fun h37 => ?_) (fun h37 => ?_)
      · refine c_seq ?_
        rcases hU : rdU d with _ | ⟨n, t⟩
        · refine c_region (o_move rfl rfl (o_call call_Uint rfl rfl ((WU_no (st := some d) rr hU)) ?_))
          rintro v41 w41 ⟨x41, rfl, r1⟩
          have x41 := ((x17.trans x26)).of_new x41 hg
          refine o_move rfl rfl (o_extract rfl rfl (r_ext0) (o_extract rfl rfl (r_ext1) (o_assign rfl rfl (o_assign rfl rfl (o_nil (n_then (c_region (o_move rfl rfl (o_call call_AppendUint rfl rfl (AppendUint_spec (Bts.nil _) (by simp)) ?_)))))))))
          rintro v45 w45 ⟨x45, o45⟩
          refine o_move rfl rfl (o_assign rfl rfl (o_assign rfl rfl (o_nil (n_block ?_))))
          exact n_meet (v45, 5) ⟨rfl, rfl, rfl, rfl, trivial⟩ ⟨(x41.trans x45), Or.inl ⟨rfl, r1.ext x45⟩⟩
        · refine c_region (o_move rfl rfl (o_call call_Uint rfl rfl ((WU_ok (st := some d) rr hU)) ?_))
          rintro v41 w41 ⟨x41, rfl, r1⟩
          have x41 := ((x17.trans x26)).of_new x41 hg
          refine o_move rfl rfl (o_extract rfl rfl (r_ext0) (o_extract rfl rfl (r_ext1) (o_assign rfl rfl (o_assign rfl rfl (o_nil (n_then (c_region (o_move rfl rfl (o_call call_AppendUint rfl rfl (AppendUint_spec (Bts.nil _) (by simp)) ?_)))))))))
          rintro v45 w45 ⟨x45, o45⟩
          refine o_move rfl rfl (o_assign rfl rfl (o_assign rfl rfl (o_nil (n_block ?_))))
          exact n_meet (v45, 0) ⟨rfl, rfl, rfl, rfl, trivial⟩ ⟨(x41.trans x45), Or.inr ⟨rfl, uv n, t, (rdU_inv hU).1, by have := o45.bts; rw [List.nil_append, UInt64.toNat_ofNat_of_lt' (rdU_inv hU).2] at this; exact this, r1.ext x45⟩⟩
      · refine c_seq (c_region (o_bin (v := U8 1) rfl rfl rfl (r_eql_u8) (o_assign rfl rfl (o_nil (n_then ?_)))))
        refine c_if rfl (fun h47 => ?_) (fun h47 => ?_)
        · refine c_seq ?_
          rcases hU : rdU d with _ | ⟨n, t⟩
          · refine c_region (o_move rfl rfl (o_call call_RInt rfl rfl ((WI_no (st := some d) rr hU)) ?_))
            rintro v51 w51 ⟨x51, rfl, r1⟩
            have x51 := ((x17.trans x26)).of_new x51 hg
            refine o_move rfl rfl (o_extract rfl rfl (r_ext0) (o_extract rfl rfl (r_ext1) (o_assign rfl rfl (o_assign rfl rfl (o_nil (n_then (c_region (o_move rfl rfl (o_call call_AppendInt rfl rfl (AppendInt_spec (Bts.nil _) (by simp) (by decide) (by decide)) ?_)))))))))
            rintro v55 w55 ⟨x55, o55⟩
            refine o_move rfl rfl (o_assign rfl rfl (o_assign rfl rfl (o_nil (n_block ?_))))
            exact n_meet (v55, 5) ⟨rfl, rfl, rfl, rfl, trivial⟩ ⟨(x51.trans x55), Or.inl ⟨rfl, r1.ext x55⟩⟩
          · refine c_region (o_move rfl rfl (o_call call_RInt rfl rfl ((WI_ok (st := some d) rr hU)) ?_))
            rintro v51 w51 ⟨x51, rfl, r1⟩
            have x51 := ((x17.trans x26)).of_new x51 hg
            refine o_move rfl rfl (o_extract rfl rfl (r_ext0) (o_extract rfl rfl (r_ext1) (o_assign rfl rfl (o_assign rfl rfl (o_nil (n_then (c_region (o_move rfl rfl (o_call call_AppendInt rfl rfl (AppendInt_spec (Bts.nil _) (by simp) (uz_lo (rdU_inv hU).2) (uz_hi (rdU_inv hU).2)) ?_)))))))))
            rintro v55 w55 ⟨x55, o55⟩
            refine o_move rfl rfl (o_assign rfl rfl (o_assign rfl rfl (o_nil (n_block ?_))))
            exact n_meet (v55, 0) ⟨rfl, rfl, rfl, rfl, trivial⟩ ⟨(x51.trans x55), Or.inr ⟨rfl, uv n, t, (rdU_inv hU).1, by have := o55.bts; rw [List.nil_append, zig_uz] at this; exact this, r1.ext x55⟩⟩
        · refine c_seq (c_region (o_bin (v := U8 2) rfl rfl rfl (r_eql_u8) (o_assign rfl rfl (o_nil (n_then ?_)))))
          refine c_if rfl (fun h57 => ?_) (fun h57 => ?_)
          · refine c_seq ?_
            rcases hU : rdR d with _ | ⟨⟨b, n, m⟩, t⟩
            · refine c_region (o_move rfl rfl (o_call call_RRat rfl rfl ((WR_no (st := some d) rr hf hU)) ?_))
              rintro v61 w61 ⟨x61, v0, rfl, h0, r1⟩
              have x61 := ((x17.trans x26)).of_new x61 hg
              refine o_move rfl rfl (o_extract rfl rfl (r_ext0) (o_extract rfl rfl (r_ext1) ?_))
              obtain ⟨g12, w12, hr12, l12, x12, k12⟩ := r_allocR (w := w61)
              refine o_alloc rfl hr12 ?_
              obtain ⟨p1, q1, w5, hp1, hs1, e1, k1, n1, d1⟩ := k12.stR ⟨_, _, _, rfl⟩ ⟨_, _, _, rfl⟩ (h0.ext x12)
              refine o_store rfl rfl (hs1) ?_
              have x5 := x12.of_new e1 l12
              refine o_assign rfl rfl (o_nil (n_then (c_region (o_load rfl rfl (k1.ldR) (o_call call_AppendRat rfl rfl (AppendRat_spec (Bts.nil _) (RatV.mk n1 d1) (by simp)) ?_)))))
              rintro v65 w65 ⟨x65, o65⟩
              refine o_move rfl rfl (o_assign rfl rfl (o_assign rfl rfl (o_nil (n_block ?_))))
              exact n_meet (v65, 5) ⟨rfl, rfl, rfl, rfl, trivial⟩ ⟨((x61.trans x5).trans x65), Or.inl ⟨rfl, r1.ext (x5.trans x65)⟩⟩
            · refine c_region (o_move rfl rfl (o_call call_RRat rfl rfl ((WR_ok (st := some d) rr hf hU)) ?_))
              rintro v61 w61 ⟨x61, v0, rfl, h0, r1⟩
              have x61 := ((x17.trans x26)).of_new x61 hg
              refine o_move rfl rfl (o_extract rfl rfl (r_ext0) (o_extract rfl rfl (r_ext1) ?_))
              obtain ⟨g12, w12, hr12, l12, x12, k12⟩ := r_allocR (w := w61)
              refine o_alloc rfl hr12 ?_
              obtain ⟨p1, q1, w5, hp1, hs1, e1, k1, n1, d1⟩ := k12.stR ⟨_, _, _, rfl⟩ ⟨_, _, _, rfl⟩ (h0.ext x12)
              refine o_store rfl rfl (hs1) ?_
              have x5 := x12.of_new e1 l12
              refine o_assign rfl rfl (o_nil (n_then (c_region (o_load rfl rfl (k1.ldR) (o_call call_AppendRat rfl rfl (AppendRat_spec (Bts.nil _) (RatV.mk n1 d1) (by have := (rdR_inv hU).2.2; simp only [List.length_nil]; omega)) ?_)))))
              rintro v65 w65 ⟨x65, o65⟩
              refine o_move rfl rfl (o_assign rfl rfl (o_assign rfl rfl (o_nil (n_block ?_))))
              exact n_meet (v65, 0) ⟨rfl, rfl, rfl, rfl, trivial⟩ ⟨((x61.trans x5).trans x65), Or.inr ⟨rfl, encR b n m, t, (rdR_inv hU).1, by have := o65.bts; rw [List.nil_append] at this; exact this, r1.ext (x5.trans x65)⟩⟩
          · refine c_seq ?_
            rcases hU : rdB d with _ | ⟨a, t⟩
            · refine c_region (o_move rfl rfl (o_call call_Text rfl rfl ((WT_no (st := some d) rr hf hU)) ?_))
              rintro v31 w31 ⟨x31, rfl, r1⟩
              have x31 := ((x17.trans x26)).of_new x31 hg
              refine o_move rfl rfl (o_extract rfl rfl (r_ext0) (o_extract rfl rfl (r_ext1) (o_assign rfl rfl (o_assign rfl rfl (o_nil (n_then (c_region (o_move rfl rfl (o_call call_AppendText rfl rfl (AppendText_spec (Bts.nil _) (by simp)) ?_)))))))))
              rintro v35 w35 ⟨x35, o35⟩
              refine o_move rfl rfl (o_assign rfl rfl (o_assign rfl rfl (o_nil (n_block ?_))))
              exact n_meet (v35, 5) ⟨rfl, rfl, rfl, rfl, trivial⟩ ⟨(x31.trans x35), Or.inl ⟨rfl, r1.ext x35⟩⟩
            · refine c_region (o_move rfl rfl (o_call call_Text rfl rfl ((WT_ok (st := some d) rr hf hU)) ?_))
              rintro v31 w31 ⟨x31, rfl, r1⟩
              have x31 := ((x17.trans x26)).of_new x31 hg
              refine o_move rfl rfl (o_extract rfl rfl (r_ext0) (o_extract rfl rfl (r_ext1) (o_assign rfl rfl (o_assign rfl rfl (o_nil (n_then (c_region (o_move rfl rfl (o_call call_AppendText rfl rfl (AppendText_spec (Bts.nil _) (by have := rdB_len hU; simp only [List.length_nil]; omega)) ?_)))))))))
              rintro v35 w35 ⟨x35, o35⟩
              refine o_move rfl rfl (o_assign rfl rfl (o_assign rfl rfl (o_nil (n_block ?_))))
              exact n_meet (v35, 0) ⟨rfl, rfl, rfl, rfl, trivial⟩ ⟨(x31.trans x35), Or.inr ⟨rfl, encB a, t, rdB_inv hU, by have := o35.bts; rw [List.nil_append] at this; exact this, r1.ext x35⟩⟩
    rintro ⟨x, e⟩ w9 ⟨e9, h9⟩
    refine n_then (c_seq (c_seq ?_))
    rcases h9 with ⟨rfl, r9⟩ | ⟨rfl, a, t, hat, ba, r9⟩
    · refine c_region (o_move rfl rfl (o_bin rfl rfl rfl (dec_t (show (5 : Int) ≠ 0 by decide) r_neq_i) (o_nil (n_then (c_yes rfl (c_seq (c_region (o_move rfl rfl (o_bin rfl rfl rfl (dec_t rfl r_eql_i) ?_)))))))))
      refine o_move rfl rfl (g_yes rfl (o_move rfl rfl (g_yes rfl (o_call call_Left rfl rfl (Left_s r9) ?_))))
      rintro v73 _ ⟨rfl, rfl⟩
      refine g_yes rfl (o_bin rfl rfl rfl (dec_t rfl r_eql_i) (o_pick_t rfl rfl rfl (o_move rfl rfl (g_yes rfl (o_move rfl rfl (g_yes rfl (o_call call_Done rfl rfl (Done_s r9) ?_)))))))
      rintro v78 _ ⟨rfl, rfl⟩
      refine g_yes rfl (o_bin rfl rfl rfl (dec_t rfl r_eql_i) (o_pick_t rfl rfl rfl (o_assign rfl rfl (o_nil (n_then (c_ret (r_then (r_body1 rfl rfl ?_))))))))
      exact ⟨_, rfl, rfl, e9⟩
    · have hal : d.length = a.length + t.length := by rw [hat, List.length_append]
      refine c_region (o_move rfl rfl (o_bin rfl rfl rfl (dec_f (show ¬ (0 : Int) ≠ 0 by decide) r_neq_i) (o_nil (n_then (c_no rfl (c_skip (n_then (c_seq (c_region (o_move rfl rfl (o_len rfl rfl (r_lenB (hd.ext e9)) ?_)))))))))))
      refine o_move rfl rfl (o_call call_Left rfl rfl ((show Calls _ _ _ _ (Ret fun r w' => w9 = w' ∧ r = I ((t.length : Nat) : Int)) from Left_s r9)) ?_)
      rintro v84 _ ⟨rfl, rfl⟩
      refine o_bin (r := I ((a.length : Nat) : Int)) rfl rfl rfl (by have e : ((a.length : Nat) : Int) = (d.length : Int) - ((t.length : Nat) : Int) := (by omega); rw [e]; exact r_sub_i (by omega) (by omega)) ?_
      refine o_assign rfl rfl (o_nil (n_then (c_seq (c_grow 17 [102] (by kernel_rfl) (by kernel_rfl) ?_))))
      refine f_move rfl rfl (f_bin rfl rfl rfl (fun w _ => dec_t (by omega) r_geq_i) (f_move rfl rfl (f_yes rfl rfl (f_move rfl rfl (f_yes rfl rfl (f_move rfl rfl (f_yes rfl rfl (f_len (vs := [v]) rfl rfl (fun w hw => r_lenB ((hd.ext e9).ext hw)) ?_))))))))
      refine f_yes rfl rfl (f_bin rfl rfl rfl (fun w _ => dec_t (by omega) r_leq_i) (f_pick_t rfl rfl rfl (f_move rfl rfl (f_yes rfl rfl (f_move rfl rfl (f_yes rfl rfl (f_conv rfl rfl (fun w hw => r_str (ba.ext hw)) ?_)))))))
      refine f_yes rfl rfl (f_move rfl rfl (f_yes rfl rfl (f_move rfl rfl (f_yes rfl rfl ?_))))
      obtain ⟨v99, p99, b99⟩ := r_slB_hi (hd.ext e9) (hi := a.length) (by omega) .i64
      refine f_slice rfl rfl rfl rfl (fun w _ => p99 w) (f_yes rfl rfl (f_conv rfl rfl (fun w hw => r_str (b99.ext hw)) (f_yes rfl rfl (f_bin rfl rfl rfl (fun w _ => dec_t (by rw [hat]; simp) r_eql_s) ?_))))
      refine f_pick_t rfl rfl rfl (f_nil ?_)
      intro wg21 xg21
      rintro _ rfl
      refine o_assign rfl rfl (o_nil (n_then (c_ret (r_body1 rfl rfl ?_))))
      exact ⟨_, rfl, rfl, (e9.trans xg21)⟩
end Go.Rl
/- The statement WireNil: a reader that is nil answers as one that has failed. No condition. -/
namespace Go.Rl
open Go.RowKit Go.Proofs
theorem WU_nil {w : World} :
    Calls Try.prog 26 #[.pointer none] w (Ret fun r w' => w = w' ∧ r = .tuple #[U64 0, I 5]) := by
  refine enter (vs := [.pointer none]) Try.func26 rfl rfl rfl ?_
  refine c_seq (c_region (o_assign rfl rfl (o_assign rfl rfl (o_nil (n_then (c_seq (c_seq (c_region (o_move rfl rfl (o_bin rfl rfl rfl (r_eqnilp Try.underlying43) (o_nil ?_)))))))))))
  refine n_then (c_yes rfl (c_seq (c_region (o_assign rfl rfl (o_assign rfl rfl (o_nil (n_then (c_ret (r_then (r_body2 rfl rfl rfl ?_))))))))))
  exact ⟨_, rfl, rfl, rfl⟩
theorem WN_nil {w : World} :
    Calls Try.prog 28 #[.pointer none] w (Ret fun r w' => w = w' ∧ r = .tuple #[.slice none 0 0, I 5]) := by
  refine enter (vs := [.pointer none]) Try.func28 rfl rfl rfl ?_
  refine c_seq (c_region (o_assign rfl rfl (o_assign rfl rfl (o_nil (n_then (c_seq (c_seq (c_region (o_move rfl rfl (o_bin rfl rfl rfl (r_eqnilp Try.underlying43) (o_nil ?_)))))))))))
  refine n_then (c_yes rfl (c_seq (c_region (o_assign rfl rfl (o_assign rfl rfl (o_nil (n_then (c_ret (r_then (r_body2 rfl rfl rfl ?_))))))))))
  exact ⟨_, rfl, rfl, rfl⟩
theorem WB_nil {w : World} :
    Calls Try.prog 61 #[.pointer none] w (Ret fun r w' => w = w' ∧ r = .tuple #[.slice none 0 0, I 5]) := by
  refine enter (vs := [.pointer none]) Try.func61 rfl rfl rfl ?_
  refine c_seq (c_region (o_assign rfl rfl (o_assign rfl rfl (o_nil (n_then (c_seq (c_seq (c_region (o_move rfl rfl (o_bin rfl rfl rfl (r_eqnilp Try.underlying43) (o_nil ?_)))))))))))
  refine n_then (c_yes rfl (c_seq (c_region (o_assign rfl rfl (o_assign rfl rfl (o_nil (n_then (c_ret (r_then (r_body2 rfl rfl rfl ?_))))))))))
  exact ⟨_, rfl, rfl, rfl⟩
theorem WL_nil {w : World} :
    Calls Try.prog 31 #[.pointer none] w (Ret fun r w' => w = w' ∧ r = I 0) := by
  refine enter (vs := [.pointer none]) Try.func31 rfl rfl rfl ?_
  refine c_seq (c_region (o_assign rfl rfl (o_nil (n_then (c_seq (c_seq (c_region (o_move rfl rfl (o_bin rfl rfl rfl (r_eqnilp Try.underlying43) (o_nil (n_then (c_yes rfl ?_))))))))))))
  refine c_seq (c_region (o_assign rfl rfl (o_nil (n_then (c_ret (r_then (r_body1 rfl rfl ?_)))))))
  exact ⟨_, rfl, rfl, rfl⟩
theorem WD_nil {w : World} :
    Calls Try.prog 35 #[.pointer none] w (Ret fun r w' => w = w' ∧ r = I 0) := by
  refine enter (vs := [.pointer none]) Try.func35 rfl rfl rfl ?_
  refine c_seq (c_region (o_assign rfl rfl (o_nil (n_then (c_seq (c_seq (c_region (o_move rfl rfl (o_bin rfl rfl rfl (r_nenilp Try.underlying43) (o_move rfl rfl (g_no rfl rfl rfl ?_)))))))))))
  refine g_no rfl rfl rfl (g_no rfl rfl rfl (g_no rfl rfl rfl (g_no rfl rfl rfl (g_undef rfl rfl rfl (g_undef rfl rfl rfl (g_undef rfl rfl rfl (g_undef rfl rfl rfl (g_undef rfl rfl rfl ?_))))))))
  refine g_undef rfl rfl rfl (g_no rfl rfl rfl (o_pick_f rfl rfl rfl (o_nil (n_then (c_no rfl (c_skip (n_then (c_seq (c_region (o_assign rfl rfl (o_nil (n_then (c_ret (r_body1 rfl rfl ?_))))))))))))))
  exact ⟨_, rfl, rfl, rfl⟩
theorem WI_nil {w : World} :
    Calls Try.prog 27 #[.pointer none] w (Ret fun r w' => w = w' ∧ r = .tuple #[I 0, I 5]) := by
  refine enter (vs := [.pointer none]) Try.func27 rfl rfl rfl ?_
  refine c_seq (c_region (o_assign rfl rfl (o_assign rfl rfl (o_nil (n_then (c_seq (c_region (o_move rfl rfl (o_call call_Uint rfl rfl (WU_nil) ?_)))))))))
  rintro v8 _ ⟨rfl, rfl⟩
  refine o_move rfl rfl (o_extract rfl rfl (r_ext0) (o_extract rfl rfl (r_ext1) (o_assign rfl rfl (o_assign rfl rfl (o_nil (n_then (c_seq (c_seq (c_region (o_move rfl rfl (o_bin rfl rfl rfl (dec_t (by decide) r_neq_i) ?_)))))))))))
  refine o_nil (n_then (c_yes rfl (c_seq (c_region (o_move rfl rfl (o_assign rfl rfl (o_assign rfl rfl (o_nil (n_then (c_ret (r_then (r_body2 rfl rfl rfl ?_))))))))))))
  exact ⟨_, rfl, rfl, rfl⟩
theorem WT_nil {w : World} :
    Calls Try.prog 37 #[.pointer none] w (Ret fun r w' => w = w' ∧ r = .tuple #[S [], I 5]) := by
  refine enter (vs := [.pointer none]) Try.func37 rfl rfl rfl ?_
  refine c_seq (c_region (o_assign rfl rfl (o_assign rfl rfl (o_nil (n_then (c_seq (c_region (o_move rfl rfl (o_call call_Bytes rfl rfl (WB_nil) ?_)))))))))
  rintro v8 _ ⟨rfl, rfl⟩
  refine o_move rfl rfl (o_extract rfl rfl (r_ext0) (o_extract rfl rfl (r_ext1) (o_assign rfl rfl (o_assign rfl rfl (o_nil (n_then (c_seq (c_region (o_move rfl rfl (o_conv rfl rfl (r_str (Bts.nil _)) ?_))))))))))
  refine o_move rfl rfl (o_assign rfl rfl (o_assign rfl rfl (o_nil (n_then (c_ret (r_body2 rfl rfl rfl ?_))))))
  exact ⟨_, rfl, rfl, rfl⟩
theorem WR_nil {w : World} :
    Calls Try.prog 29 #[.pointer none] w (Ret fun r w' => Ext w w' ∧ ∃ v, r = .tuple #[v, I 5] ∧ RatV false [] [] v w') := by
  refine enter (vs := [.pointer none]) Try.func29 rfl rfl rfl ?_
  refine c_seq (c_region ?_)
  obtain ⟨g2, w2, hr2, l2, x2, k2⟩ := r_allocR (w := w)
  refine o_alloc rfl hr2 (o_assign rfl rfl (o_nil (n_then (c_seq (c_seq (c_region (o_move rfl rfl (o_bin rfl rfl rfl (r_eqnilp Try.underlying43) (o_nil (n_then (c_yes rfl ?_)))))))))))
  refine c_seq (c_region ?_)
  refine o_build (vs := []) rfl rfl r_buildR0 ?_
  obtain ⟨p, q, w3, hp, hs3, q3, k3, n3, d3⟩ := k2.stR ⟨_, _, _, rfl⟩ ⟨_, _, _, rfl⟩ (RatV.mk (b := false) (Wds.nil _) (Wds.nil _))
  refine o_store rfl rfl (hs3) (o_assign rfl rfl (o_nil (n_then (c_ret (r_then ?_)))))
  refine r_bodyc2 rfl rfl rfl k3 Try.underlying35 rfl size_Rat ?_
  exact ⟨_, rfl, x2.of_new q3 l2, _, rfl, p, q, rfl, n3, d3⟩
theorem wstep_nil {w : World} {g' : Nat} {k : UInt8} (hf : RfAt g' (some []) w) :
    Calls Try.prog 33 #[.pointer none, .pointer (some ⟨g', 0, none⟩), U8 k] w (Ret fun r w' => r = B true ∧ (∀ w0, Ext w0 w → w0.heap.size ≤ g' → Ext w0 w')) := by
  refine enter (vs := [.pointer none, .pointer (some ⟨g', 0, none⟩), U8 k]) Try.func33 rfl rfl rfl ?_
  have hgl' := RfAt.lt hf
  have hl : Few (some []) := fun l e => by cases e; simp
  refine c_seq (c_region (o_assign rfl rfl (o_nil (n_then (c_seq (c_seq (c_region (o_move rfl rfl (o_bin (v := U8 6) rfl rfl rfl (r_rem_u8 (by decide)) (o_nil (n_then (c_block (c_seq (c_region ?_))))))))))))))
  refine o_bin (v := U8 0) rfl rfl rfl (r_eql_u8) (o_assign rfl rfl (o_nil (n_then ?_)))
  refine c_if rfl (fun h33 => ?_) (fun h33 => ?_)
  · refine c_seq (c_region (o_move rfl rfl (o_call call_Uint rfl rfl (WU_nil) ?_)))
    rintro v37 _ ⟨rfl, rfl⟩
    refine o_move rfl rfl (o_extract rfl rfl (r_ext0) (o_extract rfl rfl (r_ext1) (o_assign rfl rfl (o_assign rfl rfl (o_nil (n_then (c_seq (c_region (o_move rfl rfl (o_call call_FUint rfl rfl ((FU_no hf rfl)) ?_))))))))))
    rintro v42 w42 ⟨x42, rfl, f2⟩
    have m42 := RdT.kp hf x42
    refine o_move rfl rfl (o_extract rfl rfl (r_ext0) (o_extract rfl rfl (r_ext1) (o_assign rfl rfl (o_assign rfl rfl (o_nil (n_then (c_seq (c_region (o_move rfl rfl (o_move rfl rfl (o_bin rfl rfl rfl (dec_t rfl r_eql_u64) ?_)))))))))))
    refine o_move rfl rfl (g_yes rfl (o_move rfl rfl (g_yes rfl (o_move rfl rfl (g_yes rfl (o_bin rfl rfl rfl (dec_t rfl r_eql_i) (o_pick_t rfl rfl rfl (o_assign rfl rfl (o_nil (n_then ?_))))))))))
    refine c_ret (r_block (r_then (r_body1 rfl rfl ?_)))
    exact ⟨_, rfl, rfl, fun w0 hx h2 => hx.of_new x42 h2⟩
  · refine c_seq (c_region (o_bin (v := U8 1) rfl rfl rfl (r_eql_u8) (o_assign rfl rfl (o_nil (n_then ?_)))))
    refine c_if rfl (fun h53 => ?_) (fun h53 => ?_)
    · refine c_seq (c_region (o_move rfl rfl (o_call call_RInt rfl rfl (WI_nil) ?_)))
      rintro v57 _ ⟨rfl, rfl⟩
      refine o_move rfl rfl (o_extract rfl rfl (r_ext0) (o_extract rfl rfl (r_ext1) (o_assign rfl rfl (o_assign rfl rfl (o_nil (n_then (c_seq (c_region (o_move rfl rfl (o_call call_FInt rfl rfl ((FI_no hf rfl)) ?_))))))))))
      rintro v62 w62 ⟨x62, rfl, f2⟩
      have m62 := RdT.kp hf x62
      refine o_move rfl rfl (o_extract rfl rfl (r_ext0) (o_extract rfl rfl (r_ext1) (o_assign rfl rfl (o_assign rfl rfl (o_nil (n_then (c_seq (c_region (o_move rfl rfl (o_move rfl rfl (o_bin rfl rfl rfl (dec_t rfl r_eql_i) ?_)))))))))))
      refine o_move rfl rfl (g_yes rfl (o_move rfl rfl (g_yes rfl (o_move rfl rfl (g_yes rfl (o_bin rfl rfl rfl (dec_t rfl r_eql_i) (o_pick_t rfl rfl rfl (o_assign rfl rfl (o_nil (n_then ?_))))))))))
      refine c_ret (r_block (r_then (r_body1 rfl rfl ?_)))
      exact ⟨_, rfl, rfl, fun w0 hx h2 => hx.of_new x62 h2⟩
    · refine c_seq (c_region (o_bin (v := U8 2) rfl rfl rfl (r_eql_u8) (o_assign rfl rfl (o_nil (n_then ?_)))))
      refine c_if rfl (fun h73 => ?_) (fun h73 => ?_)
      · refine c_seq (c_region (o_move rfl rfl (o_call call_RNat rfl rfl (WN_nil) ?_)))
        rintro v77 _ ⟨rfl, rfl⟩
        refine o_move rfl rfl (o_extract rfl rfl (r_ext0) (o_extract rfl rfl (r_ext1) (o_assign rfl rfl (o_assign rfl rfl (o_nil (n_then (c_seq (c_region (o_move rfl rfl (o_call call_FNat rfl rfl ((FN_no hf hl rfl)) ?_))))))))))
        rintro v82 w82 ⟨x82, rfl, f2⟩
        have m82 := RdT.kp hf x82
        refine o_move rfl rfl (o_extract rfl rfl (r_ext0) (o_extract rfl rfl (r_ext1) (o_assign rfl rfl (o_assign rfl rfl (o_nil (n_then (c_seq (c_region (o_move rfl rfl (o_move rfl rfl (o_bin rfl rfl rfl (dec_t rfl r_eql_i) ?_)))))))))))
        refine o_move rfl rfl (g_yes rfl (o_move rfl rfl (g_yes rfl ?_)))
        refine o_build (vs := [(1, .slice none 0 0)]) rfl rfl (r_build1N ⟨_, _, _, rfl⟩) ?_
        refine g_yes rfl (o_move rfl rfl (g_yes rfl ?_))
        refine o_build (vs := [(1, .slice none 0 0)]) rfl rfl (r_build1N ⟨_, _, _, rfl⟩) ?_
        refine g_yes rfl (o_call call_SSame rfl rfl ((SSame_refl (RatV.mk (b := false) (Wds.nil _) (Wds.nil _)) (RatV.mk (b := false) (Wds.nil _) (Wds.nil _)))) ?_)
        rintro v93 w93 ⟨x93, rfl⟩
        refine o_pick_t rfl rfl rfl (o_assign rfl rfl (o_nil (n_then (c_ret (r_block (r_then (r_body1 rfl rfl ?_)))))))
        exact ⟨_, rfl, rfl, fun w0 hx h2 => (hx.of_new x82 h2).trans x93⟩
      · refine c_seq (c_region (o_bin (v := U8 3) rfl rfl rfl (r_eql_u8) (o_assign rfl rfl (o_nil (n_then ?_)))))
        refine c_if rfl (fun h95 => ?_) (fun h95 => ?_)
        · refine c_seq (c_region (o_move rfl rfl (o_call call_RRat rfl rfl (WR_nil) ?_)))
          rintro v99 w99 ⟨x99, v0, rfl, h0⟩
          refine o_move rfl rfl (o_extract rfl rfl (r_ext0) (o_extract rfl rfl (r_ext1) ?_))
          obtain ⟨g19, w19, hr19, l19, x19, k19⟩ := r_allocR (w := w99)
          refine o_alloc rfl hr19 ?_
          obtain ⟨p1, q1, w5, hp1, hs1, e1, k1, n1, d1⟩ := k19.stR ⟨_, _, _, rfl⟩ ⟨_, _, _, rfl⟩ (h0.ext x19)
          refine o_store rfl rfl (hs1) ?_
          have x5 := x19.of_new e1 l19
          have f1 := RfAt.ext hf (x99.trans x5)
          have hg19 : some g19 ≠ some g' := fun e => by have := Option.some.inj e; have := x99.size; omega
          refine o_assign rfl rfl (o_nil (n_then (c_seq (c_region (o_move rfl rfl (o_call call_FRat rfl rfl ((FR_no f1 hl rfl)) ?_))))))
          rintro v104 w104 ⟨x104, u0, rfl, j0, f2⟩
          have m104 := RdT.kp f1 x104
          have k1 := k1.other x104 hg19
          have n1 := n1.kp m104
          have d1 := d1.kp m104
          refine o_move rfl rfl (o_extract rfl rfl (r_ext0) (o_extract rfl rfl (r_ext1) ?_))
          obtain ⟨g21, w21, hr21, l21, x21, k21⟩ := r_allocR (w := w104)
          refine o_alloc rfl hr21 ?_
          obtain ⟨p2, q2, w6, hp2, hs2, e2, k2, n2, d2⟩ := k21.stR ⟨_, _, _, rfl⟩ ⟨_, _, _, rfl⟩ (j0.ext x21)
          refine o_store rfl rfl (hs2) ?_
          have x6 := x21.of_new e2 l21
          refine o_assign rfl rfl (o_nil (n_then (c_seq (c_region (o_move rfl rfl (o_move rfl rfl (o_bin rfl rfl rfl (dec_t rfl r_eql_i) (o_move rfl rfl (g_yes rfl (o_load rfl rfl ((k1.ext x6).ldR) ?_))))))))))
          refine g_yes rfl (o_load rfl rfl (k2.ldR) (g_yes rfl (o_call call_SSame rfl rfl ((SSame_refl ((RatV.mk n1 d1).ext x6) (RatV.mk n2 d2))) ?_)))
          rintro v113 w113 ⟨x113, rfl⟩
          refine o_pick_t rfl rfl rfl (o_assign rfl rfl (o_nil (n_then (c_ret (r_block (r_then (r_body1 rfl rfl ?_)))))))
          exact ⟨_, rfl, rfl, fun w0 hx h2 => ((hx.trans (x99.trans x5)).of_new x104 h2).trans (x6.trans x113)⟩
        · refine c_seq (c_region (o_bin (v := U8 4) rfl rfl rfl (r_eql_u8) (o_assign rfl rfl (o_nil (n_then ?_)))))
          refine c_if rfl (fun h115 => ?_) (fun h115 => ?_)
          · refine c_seq (c_region (o_move rfl rfl (o_call call_Bytes rfl rfl (WB_nil) ?_)))
            rintro v119 _ ⟨rfl, rfl⟩
            refine o_move rfl rfl (o_extract rfl rfl (r_ext0) (o_extract rfl rfl (r_ext1) (o_assign rfl rfl (o_assign rfl rfl (o_nil (n_then (c_seq (c_region (o_move rfl rfl (o_call call_FBytes rfl rfl ((FB_no hf hl rfl)) ?_))))))))))
            rintro v124 w124 ⟨x124, rfl, f2⟩
            have m124 := RdT.kp hf x124
            refine o_move rfl rfl (o_extract rfl rfl (r_ext0) (o_extract rfl rfl (r_ext1) (o_assign rfl rfl (o_assign rfl rfl (o_nil (n_then (c_seq (c_region (o_move rfl rfl (o_move rfl rfl (o_bin rfl rfl rfl (dec_t rfl r_eql_i) ?_)))))))))))
            refine o_move rfl rfl (g_yes rfl (o_move rfl rfl (g_yes rfl (o_conv rfl rfl (r_str (Bts.nil _)) (g_yes rfl (o_move rfl rfl (g_yes rfl (o_conv rfl rfl (r_str (Bts.nil _)) (g_yes rfl ?_)))))))))
            refine o_bin rfl rfl rfl (dec_t rfl r_eql_s) (o_pick_t rfl rfl rfl (o_assign rfl rfl (o_nil (n_then (c_ret (r_block (r_then (r_body1 rfl rfl ?_))))))))
            exact ⟨_, rfl, rfl, fun w0 hx h2 => hx.of_new x124 h2⟩
          · refine c_skip (n_block (n_then (c_seq (c_region (o_move rfl rfl (o_call call_Text rfl rfl (WT_nil) ?_))))))
            rintro v139 _ ⟨rfl, rfl⟩
            refine o_move rfl rfl (o_extract rfl rfl (r_ext0) (o_extract rfl rfl (r_ext1) (o_assign rfl rfl (o_assign rfl rfl (o_nil (n_then (c_seq (c_region (o_move rfl rfl (o_call call_FText rfl rfl ((FT_no hf hl rfl)) ?_))))))))))
            rintro v144 w144 ⟨x144, rfl, f2⟩
            have m144 := RdT.kp hf x144
            refine o_move rfl rfl (o_extract rfl rfl (r_ext0) (o_extract rfl rfl (r_ext1) (o_assign rfl rfl (o_assign rfl rfl (o_nil (n_then (c_seq (c_region (o_move rfl rfl (o_move rfl rfl (o_bin rfl rfl rfl (dec_t rfl r_eql_i) ?_)))))))))))
            refine o_move rfl rfl (g_yes rfl (o_move rfl rfl (g_yes rfl (o_move rfl rfl (g_yes rfl (o_bin rfl rfl rfl (dec_t rfl r_eql_s) (o_pick_t rfl rfl rfl (o_assign rfl rfl (o_nil (n_then ?_))))))))))
            refine c_ret (r_body1 rfl rfl ?_)
            exact ⟨_, rfl, rfl, fun w0 hx h2 => hx.of_new x144 h2⟩
theorem WireNil_walk {w : World} {k : UInt8} :
    Calls Try.prog 13 #[U8 k] w (Ret fun r w' => r = B true ∧ Ext w w') := by
  refine enter (vs := [U8 k]) Try.func13 rfl rfl rfl ?_
  refine c_seq (c_region (o_assign rfl rfl (o_nil (n_then (c_seq (c_seq (c_region (o_call call_awake rfl rfl (awake_spec _) ?_))))))))
  rintro v5 w5 ⟨rfl, x5⟩
  refine o_not rfl rfl r_not (o_nil (n_then (c_no rfl (c_skip (n_then (c_seq (c_region (o_assign rfl rfl (o_nil (n_then (c_seq (c_region (o_move rfl rfl (o_call call_Left rfl rfl (WL_nil) ?_))))))))))))))
  rintro v8 _ ⟨rfl, rfl⟩
  refine o_bin rfl rfl rfl (dec_t rfl r_eql_i) (o_move rfl rfl (g_yes rfl (o_move rfl rfl (g_yes rfl (o_call call_Done rfl rfl (WD_nil) ?_)))))
  rintro v12 _ ⟨rfl, rfl⟩
  refine g_yes rfl (o_bin rfl rfl rfl (dec_t rfl r_eql_i) (o_pick_t rfl rfl rfl (o_assign rfl rfl (o_nil (n_then (c_seq (c_region (o_move rfl rfl (o_move rfl rfl (g_yes rfl (o_move rfl rfl ?_)))))))))))
  refine g_yes rfl (o_call call_FNew rfl rfl ((FNew_spec (Bts.nil _) (by simp))) ?_)
  rintro v18 w18 ⟨x18, g', lg', rfl, hf⟩
  refine g_yes rfl (o_move rfl rfl (g_yes rfl (o_call call_wstep rfl rfl ((wstep_nil hf)) ?_)))
  rintro v20 w20 ⟨rfl, E20⟩
  have x20 := E20 w ((x5.trans x18)) (Nat.le_trans x5.size lg')
  refine o_pick_t rfl rfl rfl (o_move rfl rfl (g_yes rfl (o_move rfl rfl (g_yes rfl (o_call call_Done rfl rfl (WD_nil) ?_)))))
  rintro v24 _ ⟨rfl, rfl⟩
  refine g_yes rfl (o_bin rfl rfl rfl (dec_t rfl r_eql_i) (o_pick_t rfl rfl rfl (o_assign rfl rfl (o_nil (n_then (c_ret (r_body1 rfl rfl ?_)))))))
  exact ⟨_, rfl, rfl, x20⟩
end Go.Rl
/- The statement WireRoundTrip: numbers that are written are read back. No condition. -/
namespace Go.Rl
open Go.RowKit Go.Proofs
theorem size_Numbers : (Try.prog.info? 37).map (·.size) = some 6 := by kernel_rfl
section
variable {P : Program} {w : World}
theorem r_fAtO {s : TypeId} {fs : Array Field} {f : Field} {n g o b : Nat} (hs : P.underlying s = some (.struct fs)) (hf : fs[n]? = some f) (hk : (P.cellsOf f.type == 0) = false) (ho : f.offset = o) :
    (Instr.fieldAt s (.pointer (some ⟨g, b, none⟩)) n).run P w = .ok (.pointer (some ⟨g, b + o, none⟩)) w := by
  have hk' : P.cellsOf f.type ≠ 0 := by simpa using hk
  obtain ⟨k, hk1⟩ : ∃ k, (P.info? f.type).map (·.size) = some k := by
    cases hi : (P.info? f.type).map (·.size) with
    | none => exact absurd (by simp [Program.cellsOf, hi]) hk'
    | some k => exact ⟨k, rfl⟩
  have hk0 : k ≠ 0 := by
    intro h
    apply hk'
    simp [Program.cellsOf, hk1, h]
  rw [r_fieldAt hs hf hk1 hk0, ho, add_mk]
end
theorem Blk.ldRN {w : World} {g : Nat} {T : TypeId} {a b c d e f : Value} (h : Blk g T [a, b, c, d, e, f] w) : (Instr.loadAt 35 (.pointer (some ⟨g, 2, none⟩))).run Try.prog w = .ok (.agg #[c, d, e]) w :=
  r_ldA (m := [c, d, e]) h (fun j v hj => by
    match j with
    | 0 => simpa using hj
    | 1 => simpa using hj
    | 2 => simpa using hj
    | j + 3 => simp at hj) Try.underlying35 rfl size_Rat
theorem r_boxN {w : World} {a b c d e f v : Value} (hv : v = .agg #[a, b, c, d, e, f]) :
    ∃ g w', (Instr.box 37 v).run Try.prog w = .ok (.pointer (some ⟨g, 0, none⟩)) w' ∧ Ext w w' ∧ Blk g 37 [a, b, c, d, e, f] w' := by
  subst hv
  exact ⟨_, _, r_box, Ext.new w _, Blk.new (T := 37) (l := [a, b, c, d, e, f]) (.agg #[a, b, c, d, e, f]) rfl⟩
theorem OwnB.down {base base' : Nat} {l : List UInt8} {v : Value} {w : World} (h : OwnB base l v w) (hb : base' ≤ base) : OwnB base' l v w := by
  obtain ⟨n, h1, h2⟩ := h
  refine ⟨n, h1, ?_⟩
  rcases h2 with h2 | ⟨g, cap, cur, e, hg, rest⟩
  · exact .inl h2
  · exact .inr ⟨g, cap, cur, e, Nat.le_trans hb hg, rest⟩
theorem WireRoundTrip_walk {w : World} {a : UInt64} {i : Int} {s : Bool} {n m : List UInt32} {bs : List UInt8} {x y z v : Value} (hv : v = .agg #[U64 a, I i, B s, x, y, z]) (h1 : -9223372036854775808 ≤ i) (h2 : i ≤ 9223372036854775807) (hn : Wds n x w) (hm : Wds m y w) (hz : Bts bs z w) :
    Calls Try.prog 10 #[v] w (Ret fun r w' => r = B true ∧ Ext w w') := by
  refine enter (vs := [v]) Try.func10 rfl rfl rfl ?_
  refine c_seq (c_region ?_)
  obtain ⟨g1, w1, hr1, x1, k1⟩ := r_boxN (w := w) hv
  refine o_box rfl rfl hr1 ?_
  have hn := hn.ext x1
  have hm := hm.ext x1
  have hz := hz.ext x1
  refine o_assign rfl rfl (o_nil (n_then (c_seq (c_seq ?_))))
  rcases hV : rv s n m
  · refine c_region (o_call call_awake rfl rfl (awake_spec _) ?_)
    rintro v13 w13 ⟨rfl, x13⟩
    refine o_not rfl rfl r_not (o_move rfl rfl (g_yes rfl (o_fieldAddr rfl rfl (r_fAt (o := 2) Try.underlying37 rfl (by kernel_rfl) rfl) ?_)))
    refine g_yes rfl (o_fieldAddr rfl rfl (r_fAtO (b := 2) (o := 1) Try.underlying35 rfl (by kernel_rfl) rfl) (g_yes rfl (o_load rfl rfl (r_load1 Try.underlying33 rfl (x13.cell_some (k1.cell (i := 3) rfl))) ?_)))
    refine g_yes rfl (o_len rfl rfl (r_lenW Try.underlying33 (hn.ext x13)) (g_yes rfl (o_bin rfl rfl rfl (r_gtr_i) (o_pick_f rfl rfl rfl (o_move rfl rfl ?_)))))
    refine o_dec (fun h22 => ?_) (fun h22 => ?_)
    · refine g_no rfl rfl rfl (g_no rfl rfl rfl (g_no rfl rfl rfl (g_no rfl rfl rfl (g_no rfl rfl rfl (o_pick_t rfl rfl rfl (o_move rfl rfl (g_no rfl rfl rfl (g_no rfl rfl rfl (g_no rfl rfl rfl ?_)))))))))
      refine g_no rfl rfl rfl (o_pick_t rfl rfl rfl (o_move rfl rfl (g_no rfl rfl rfl (g_no rfl rfl rfl (g_no rfl rfl rfl (g_no rfl rfl rfl (o_pick_t rfl rfl rfl (o_nil (n_then (c_yes rfl ?_))))))))))
      refine c_seq (c_region (o_call call_awake rfl rfl (awake_spec _) ?_))
      rintro v41 w41 ⟨rfl, x41⟩
      refine o_assign rfl rfl (o_nil (n_then (c_ret (r_then (r_body1 rfl rfl ?_)))))
      exact ⟨_, rfl, rfl, ((x1.trans x13).trans x41)⟩
    · refine g_yes rfl (o_fieldAddr rfl rfl (r_fAt (o := 2) Try.underlying37 rfl (by kernel_rfl) rfl) (g_yes rfl (o_fieldAddr rfl rfl (r_fAtO (b := 2) (o := 2) Try.underlying35 rfl (by kernel_rfl) rfl) ?_)))
      refine g_yes rfl (o_load rfl rfl (r_load1 Try.underlying33 rfl (x13.cell_some (k1.cell (i := 4) rfl))) (g_yes rfl (o_len rfl rfl (r_lenW Try.underlying33 (hm.ext x13)) ?_)))
      refine g_yes rfl (o_bin rfl rfl rfl (r_gtr_i) (o_pick_f rfl rfl rfl (o_move rfl rfl ?_)))
      refine o_dec (fun h29 => ?_) (fun h29 => ?_)
      · refine g_no rfl rfl rfl (g_no rfl rfl rfl (g_no rfl rfl rfl (g_no rfl rfl rfl (o_pick_t rfl rfl rfl (o_move rfl rfl (g_no rfl rfl rfl (g_no rfl rfl rfl (g_no rfl rfl rfl (g_no rfl rfl rfl ?_)))))))))
        refine o_pick_t rfl rfl rfl (o_nil (n_then (c_yes rfl (c_seq (c_region (o_call call_awake rfl rfl (awake_spec _) ?_))))))
        rintro v41 w41 ⟨rfl, x41⟩
        refine o_assign rfl rfl (o_nil (n_then (c_ret (r_then (r_body1 rfl rfl ?_)))))
        exact ⟨_, rfl, rfl, ((x1.trans x13).trans x41)⟩
      · refine g_yes rfl (o_fieldAddr rfl rfl (r_fAt (o := 2) Try.underlying37 rfl (by kernel_rfl) rfl) (g_yes rfl (o_load rfl rfl ((k1.ext x13).ldRN) ?_)))
        refine g_yes rfl (o_call call_SValid rfl rfl ((by have := SValid_spec (b := s) ((RatV.mk hn hm).ext x13) (by omega) (by omega); rw [hV] at this; exact this)) ?_)
        rintro v32 w32 ⟨x32, rfl⟩
        refine g_yes rfl (o_not rfl rfl r_not (o_pick_f rfl rfl rfl (o_move rfl rfl (g_no rfl rfl rfl (g_no rfl rfl rfl (g_no rfl rfl rfl (g_no rfl rfl rfl (o_pick_t rfl rfl rfl (o_nil ?_)))))))))
        refine n_then (c_yes rfl (c_seq (c_region (o_call call_awake rfl rfl (awake_spec _) ?_))))
        rintro v41 w41 ⟨rfl, x41⟩
        refine o_assign rfl rfl (o_nil (n_then (c_ret (r_then (r_body1 rfl rfl ?_)))))
        exact ⟨_, rfl, rfl, (((x1.trans x13).trans x32).trans x41)⟩
  · refine c_region (o_call call_awake rfl rfl (awake_spec _) ?_)
    rintro v13 w13 ⟨rfl, x13⟩
    refine o_not rfl rfl r_not (o_move rfl rfl (g_yes rfl (o_fieldAddr rfl rfl (r_fAt (o := 2) Try.underlying37 rfl (by kernel_rfl) rfl) ?_)))
    refine g_yes rfl (o_fieldAddr rfl rfl (r_fAtO (b := 2) (o := 1) Try.underlying35 rfl (by kernel_rfl) rfl) (g_yes rfl (o_load rfl rfl (r_load1 Try.underlying33 rfl (x13.cell_some (k1.cell (i := 3) rfl))) ?_)))
    refine g_yes rfl (o_len rfl rfl (r_lenW Try.underlying33 (hn.ext x13)) (g_yes rfl (o_bin rfl rfl rfl (r_gtr_i) (o_pick_f rfl rfl rfl (o_move rfl rfl ?_)))))
    refine o_dec (fun h22 => ?_) (fun h22 => ?_)
    · refine g_no rfl rfl rfl (g_no rfl rfl rfl (g_no rfl rfl rfl (g_no rfl rfl rfl (g_no rfl rfl rfl (o_pick_t rfl rfl rfl (o_move rfl rfl (g_no rfl rfl rfl (g_no rfl rfl rfl (g_no rfl rfl rfl ?_)))))))))
      refine g_no rfl rfl rfl (o_pick_t rfl rfl rfl (o_move rfl rfl (g_no rfl rfl rfl (g_no rfl rfl rfl (g_no rfl rfl rfl (g_no rfl rfl rfl (o_pick_t rfl rfl rfl (o_nil (n_then (c_yes rfl ?_))))))))))
      refine c_seq (c_region (o_call call_awake rfl rfl (awake_spec _) ?_))
      rintro v41 w41 ⟨rfl, x41⟩
      refine o_assign rfl rfl (o_nil (n_then (c_ret (r_then (r_body1 rfl rfl ?_)))))
      exact ⟨_, rfl, rfl, ((x1.trans x13).trans x41)⟩
    · refine g_yes rfl (o_fieldAddr rfl rfl (r_fAt (o := 2) Try.underlying37 rfl (by kernel_rfl) rfl) (g_yes rfl (o_fieldAddr rfl rfl (r_fAtO (b := 2) (o := 2) Try.underlying35 rfl (by kernel_rfl) rfl) ?_)))
      refine g_yes rfl (o_load rfl rfl (r_load1 Try.underlying33 rfl (x13.cell_some (k1.cell (i := 4) rfl))) (g_yes rfl (o_len rfl rfl (r_lenW Try.underlying33 (hm.ext x13)) ?_)))
      refine g_yes rfl (o_bin rfl rfl rfl (r_gtr_i) (o_pick_f rfl rfl rfl (o_move rfl rfl ?_)))
      refine o_dec (fun h29 => ?_) (fun h29 => ?_)
      · refine g_no rfl rfl rfl (g_no rfl rfl rfl (g_no rfl rfl rfl (g_no rfl rfl rfl (o_pick_t rfl rfl rfl (o_move rfl rfl (g_no rfl rfl rfl (g_no rfl rfl rfl (g_no rfl rfl rfl (g_no rfl rfl rfl ?_)))))))))
        refine o_pick_t rfl rfl rfl (o_nil (n_then (c_yes rfl (c_seq (c_region (o_call call_awake rfl rfl (awake_spec _) ?_))))))
        rintro v41 w41 ⟨rfl, x41⟩
        refine o_assign rfl rfl (o_nil (n_then (c_ret (r_then (r_body1 rfl rfl ?_)))))
        exact ⟨_, rfl, rfl, ((x1.trans x13).trans x41)⟩
      · refine g_yes rfl (o_fieldAddr rfl rfl (r_fAt (o := 2) Try.underlying37 rfl (by kernel_rfl) rfl) (g_yes rfl (o_load rfl rfl ((k1.ext x13).ldRN) ?_)))
        refine g_yes rfl (o_call call_SValid rfl rfl ((by have := SValid_spec (b := s) ((RatV.mk hn hm).ext x13) (by omega) (by omega); rw [hV] at this; exact this)) ?_)
        rintro v32 w32 ⟨x32, rfl⟩
        have hc := rv_can hV
        have la : (uv a.toNat).length ≤ 10 := uv_len (u64_lt a)
        have li : (uv (zig i)).length ≤ 10 := uv_len (zig_lt h1 h2)
        refine g_yes rfl (o_not rfl rfl r_not (o_pick_f rfl rfl rfl (o_move rfl rfl (g_yes rfl (o_fieldAddr rfl rfl (r_fAt (o := 5) Try.underlying37 rfl (by kernel_rfl) rfl) ?_)))))
        refine g_yes rfl (o_load rfl rfl (r_load1 Try.underlying22 rfl ((x13.trans x32).cell_some (k1.cell (i := 5) rfl))) (g_yes rfl (o_len rfl rfl (r_lenB (hz.ext (x13.trans x32))) ?_)))
        refine g_yes rfl (o_bin rfl rfl rfl (r_gtr_i) (o_pick_f rfl rfl rfl (o_nil (n_then ?_))))
        refine c_if rfl (fun h40 => ?_) (fun h40 => ?_)
        · refine c_seq (c_region (o_call call_awake rfl rfl (awake_spec _) ?_))
          rintro v41 w41 ⟨rfl, x41⟩
          refine o_assign rfl rfl (o_nil (n_then (c_ret (r_then (r_body1 rfl rfl ?_)))))
          exact ⟨_, rfl, rfl, (((x1.trans x13).trans x32).trans x41)⟩
        · refine c_skip (n_then (c_seq ?_))
          have ln := encN_len n (by omega)
          have lm := encN_len m (by omega)
          have lR : (encR s n m).length ≤ 85 := by simp only [encR, List.length_append, List.length_singleton]; omega
          refine c_grow 15 [1, 54, 56] (by kernel_rfl) (by kernel_rfl) ?_
          refine f_fieldAddr rfl rfl (fun w hw => r_fAt (o := 0) Try.underlying37 rfl (by kernel_rfl) rfl) (f_load rfl rfl (fun w hw => r_load1 Try.underlying31 rfl (hw.cell_some ((x13.trans x32).cell_some (k1.cell (i := 0) rfl)))) ?_)
          refine f_call (S := Bts (uv a.toNat)) call_AppendUint (Bts.stable _) rfl (fun w hw => by rintro _ rfl _ rfl; exact Ret.mono (AppendUint_spec (Bts.nil _) (by simp)) fun v w' h => ⟨h.1, h.2.bts⟩) ?_
          refine f_fieldAddr rfl rfl (fun w hw => r_fAt (o := 1) Try.underlying37 rfl (by kernel_rfl) rfl) (f_load rfl rfl (fun w hw => r_load1 Try.underlying3 rfl (hw.cell_some ((x13.trans x32).cell_some (k1.cell (i := 1) rfl)))) ?_)
          refine f_call (S := Bts (uv a.toNat ++ uv (zig i))) call_AppendInt (Bts.stable _) rfl (fun w hw => by rintro z hz' _ rfl; exact Ret.mono (AppendInt_spec hz' (by omega) h1 h2) fun v w' h => ⟨h.1, h.2.bts⟩) ?_
          refine f_fieldAddr rfl rfl (fun w hw => r_fAt (o := 2) Try.underlying37 rfl (by kernel_rfl) rfl) (f_fieldAddr rfl rfl (fun w hw => r_fAtO (b := 2) (o := 1) Try.underlying35 rfl (by kernel_rfl) rfl) ?_)
          refine f_load rfl rfl (fun w hw => r_load1 Try.underlying33 rfl (hw.cell_some ((x13.trans x32).cell_some (k1.cell (i := 3) rfl)))) (f_call (S := Bts (uv a.toNat ++ uv (zig i) ++ encN n)) call_AppendNat (Bts.stable _) rfl (fun w hw => by rintro z hz' _ rfl; exact Ret.mono (AppendNat_spec hz' ((hn.ext (x13.trans x32)).ext hw) (by simp only [List.length_append]; omega)) fun v w' h => ⟨h.1, h.2.bts⟩) ?_)
          refine f_fieldAddr rfl rfl (fun w hw => r_fAt (o := 2) Try.underlying37 rfl (by kernel_rfl) rfl) (f_load rfl rfl (fun w hw => ((k1.ext (x13.trans x32)).ext hw).ldRN) ?_)
          refine f_call (S := OwnB w32.heap.size (uv a.toNat ++ uv (zig i) ++ encN n ++ encR s n m)) call_AppendRat (OwnB.stable _ _) rfl (fun w hw => by rintro z hz' _ rfl; exact Ret.mono (AppendRat_spec hz' (((RatV.mk hn hm).ext (x13.trans x32)).ext hw) (by simp only [List.length_append]; omega)) fun v w' h => ⟨h.1, h.2.down hw.size⟩) ?_
          refine f_fieldAddr rfl rfl (fun w hw => r_fAt (o := 5) Try.underlying37 rfl (by kernel_rfl) rfl) (f_load rfl rfl (fun w hw => r_load1 Try.underlying22 rfl (hw.cell_some ((x13.trans x32).cell_some (k1.cell (i := 5) rfl)))) ?_)
          refine f_nil ?_
          intro wg3 xg3
          rintro _ rfl
          intro vg54 b54
          rintro _ hq56
          obtain rfl := Eq.symm hq56
          obtain ⟨v57, w57, hr57, o57, g57⟩ := r_appB (ty := 22) b54 (hz.ext ((x13.trans x32).trans xg3)) (by simp only [List.length_append]; omega) (xg3).size
          have x57 := Ext.of_grew (xg3) g57 b54.ge
          refine o_append rfl rfl hr57 ?_
          obtain ⟨r3, hr3⟩ : ∃ r3, r3 = encR s n m ++ bs := ⟨_, rfl⟩
          obtain ⟨r2, hr2⟩ : ∃ r2, r2 = encN n ++ r3 := ⟨_, rfl⟩
          obtain ⟨r1, hr1⟩ : ∃ r1, r1 = uv (zig i) ++ r2 := ⟨_, rfl⟩
          have hL : uv a.toNat ++ uv (zig i) ++ encN n ++ encR s n m ++ bs = uv a.toNat ++ r1 := by rw [hr1, hr2, hr3]; simp only [List.append_assoc]
          have l3 : r3.length ≤ 135 := by rw [hr3, List.length_append]; omega
          have l2 : r2.length ≤ 177 := by rw [hr2, List.length_append]; omega
          have l1 : r1.length ≤ 187 := by rw [hr1, List.length_append]; omega
          rw [hL] at o57
          refine o_assign rfl rfl (o_nil (n_then (c_seq (c_region (o_move rfl rfl (o_call call_New rfl rfl ((New_spec o57.bts (by simp only [List.length_append]; omega))) ?_))))))
          rintro v59 w59 ⟨x59, g, lg, rfl, rr⟩
          have hg : w1.heap.size ≤ g := Nat.le_trans ((x13.trans x32).trans x57).size lg
          refine o_assign rfl rfl (o_nil (n_then (c_seq (c_region (o_move rfl rfl (o_call call_Uint rfl rfl ((by have := WU_ok (st := some (uv a.toNat ++ r1)) rr (rdU_uv (u64_lt a) r1); rw [UInt64.ofNat_toNat] at this; exact this)) ?_))))))
          rintro v62 w62 ⟨g62, rfl, rr1⟩
          have x62 := ((((x13.trans x32).trans x57).trans x59)).of_new g62 hg
          have m62 := (rr.rdT).kp g62
          refine o_move rfl rfl (o_extract rfl rfl (r_ext0) (o_extract rfl rfl (r_ext1) (o_assign rfl rfl (o_assign rfl rfl (o_nil (n_then (c_seq (c_region (o_move rfl rfl (o_call call_RInt rfl rfl ((by have := WI_ok (st := some r1) rr1 (by rw [hr1]; exact rdU_uv (zig_lt h1 h2) r2); rw [uz_zig] at this; exact this)) ?_))))))))))
          rintro v67 w67 ⟨g67, rfl, rr2⟩
          have x67 := (x62).of_new g67 hg
          have m67 := (rr1.rdT).kp g67
          refine o_move rfl rfl (o_extract rfl rfl (r_ext0) (o_extract rfl rfl (r_ext1) (o_assign rfl rfl (o_assign rfl rfl (o_nil (n_then (c_seq (c_region (o_move rfl rfl (o_call call_RNat rfl rfl ((WN_ok (st := some r2) rr2 (fun l e => by cases e; omega) (by rw [hr2]; exact rdN_encN (by omega) hc.1 r3))) ?_))))))))))
          rintro v72 w72 ⟨g72, v0, rfl, h0, rr3⟩
          have x72 := (x67).of_new g72 hg
          have m72 := (rr2.rdT).kp g72
          refine o_move rfl rfl (o_extract rfl rfl (r_ext0) (o_extract rfl rfl (r_ext1) (o_assign rfl rfl (o_assign rfl rfl (o_nil (n_then (c_seq (c_region (o_move rfl rfl (o_call call_RRat rfl rfl ((WR_ok (st := some r3) rr3 (fun l e => by cases e; omega) (by rw [hr3]; exact rdR_encR hV (by omega) (by omega) bs))) ?_))))))))))
          rintro v77 w77 ⟨g77, u0, rfl, j0, rr4⟩
          have x77 := (x72).of_new g77 hg
          have m77 := (rr3.rdT).kp g77
          refine o_move rfl rfl (o_extract rfl rfl (r_ext0) (o_extract rfl rfl (r_ext1) ?_))
          obtain ⟨g11, w11, hr11, l11, x11, k11⟩ := r_allocR (w := w77)
          refine o_alloc rfl hr11 ?_
          obtain ⟨p1, q1, w5, hp1, hs1, e1, k5, n5, d5⟩ := k11.stR ⟨_, _, _, rfl⟩ ⟨_, _, _, rfl⟩ (j0.ext x11)
          refine o_store rfl rfl (hs1) ?_
          have x5 := x11.of_new e1 l11
          refine o_assign rfl rfl (o_nil (n_then (c_seq (c_grow 49 [128] (by kernel_rfl) (by kernel_rfl) ?_))))
          refine f_move rfl rfl (f_bin rfl rfl rfl (fun w _ => dec_t rfl r_eql_i) (f_move rfl rfl (f_yes rfl rfl (f_move rfl rfl (f_yes rfl rfl (f_bin rfl rfl rfl (fun w _ => dec_t rfl r_eql_i) ?_))))))
          refine f_pick_t rfl rfl rfl (f_move rfl rfl (f_yes rfl rfl (f_move rfl rfl (f_yes rfl rfl (f_bin rfl rfl rfl (fun w _ => dec_t rfl r_eql_i) (f_pick_t rfl rfl rfl (f_move rfl rfl ?_)))))))
          refine f_yes rfl rfl (f_move rfl rfl (f_yes rfl rfl (f_bin rfl rfl rfl (fun w _ => dec_t rfl r_eql_i) (f_pick_t rfl rfl rfl (f_move rfl rfl (f_yes rfl rfl (f_move rfl rfl (f_yes rfl rfl ?_))))))))
          refine f_fieldAddr rfl rfl (fun w hw => r_fAt (o := 0) Try.underlying37 rfl (by kernel_rfl) rfl) (f_yes rfl rfl (f_load rfl rfl (fun w hw => r_load1 Try.underlying31 rfl (hw.cell_some ((x77.trans x5).cell_some (k1.cell (i := 0) rfl)))) ?_))
          refine f_yes rfl rfl (f_bin rfl rfl rfl (fun w _ => dec_t rfl r_eql_u64) (f_pick_t rfl rfl rfl (f_move rfl rfl (f_yes rfl rfl (f_move rfl rfl (f_yes rfl rfl (f_fieldAddr rfl rfl (fun w hw => r_fAt (o := 1) Try.underlying37 rfl (by kernel_rfl) rfl) ?_)))))))
          refine f_yes rfl rfl (f_load rfl rfl (fun w hw => r_load1 Try.underlying3 rfl (hw.cell_some ((x77.trans x5).cell_some (k1.cell (i := 1) rfl)))) (f_yes rfl rfl ?_))
          refine f_bin rfl rfl rfl (fun w _ => dec_t rfl r_eql_i) (f_pick_t rfl rfl rfl (f_move rfl rfl (f_yes rfl rfl (f_move rfl rfl (f_yes rfl rfl (f_build (S := Is (.agg #[B false, v0, .slice none 0 0])) (Stable.is _) rfl (fun w' _ => by rintro _ rfl; exact ⟨_, w', r_build1N h0.isS, Ext.refl _, rfl⟩) ?_))))))
          refine f_yes rfl rfl (f_fieldAddr rfl rfl (fun w hw => r_fAt (o := 2) Try.underlying37 rfl (by kernel_rfl) rfl) (f_yes rfl rfl (f_fieldAddr rfl rfl (fun w hw => r_fAtO (b := 2) (o := 1) Try.underlying35 rfl (by kernel_rfl) rfl) ?_)))
          refine f_yes rfl rfl (f_load rfl rfl (fun w hw => r_load1 Try.underlying33 rfl (hw.cell_some ((x77.trans x5).cell_some (k1.cell (i := 3) rfl)))) ?_)
          refine f_yes rfl rfl (f_build (S := Is (.agg #[B false, x, .slice none 0 0])) (Stable.is _) rfl (fun w' _ => by rintro _ rfl; exact ⟨_, w', r_build1N hn.isS, Ext.refl _, rfl⟩) ?_)
          refine f_yes rfl rfl (f_call (S := Is (B true)) call_SSame (Stable.is _) rfl (fun w hw => by rintro _ rfl _ rfl; exact SSame_refl (RatV.mk (b := false) (((h0.kp m77).ext x5).ext hw) (Wds.nil _)) (RatV.mk (b := false) ((hn.ext (x77.trans x5)).ext hw) (Wds.nil _))) ?_)
          refine f_pick_t rfl rfl rfl (f_move rfl rfl (f_yes rfl rfl (f_fieldAddr rfl rfl (fun w hw => r_fAt (o := 2) Try.underlying37 rfl (by kernel_rfl) rfl) ?_)))
          refine f_yes rfl rfl (f_load rfl rfl (fun w hw => ((k1.ext (x77.trans x5)).ext hw).ldRN) (f_yes rfl rfl (f_load rfl rfl (fun w hw => (k5.ext hw).ldR) (f_yes rfl rfl (f_call (S := Is (B true)) call_SSame (Stable.is _) rfl (fun w hw => by rintro _ rfl _ rfl; exact SSame_refl (((RatV.mk hn hm).ext (x77.trans x5)).ext hw) ((RatV.mk n5 d5).ext hw)) ?_)))))
          refine f_pick_t rfl rfl rfl (f_move rfl rfl (f_yes rfl rfl (f_move rfl rfl (f_yes rfl rfl (f_call (S := Is (I ((bs.length : Nat) : Int))) call_Left (Stable.is _) rfl (fun w hw => by rintro _ rfl; exact Ret.mono (Left_s (((rr4.ext x5)).ext hw)) fun v w' h => ⟨h.1 ▸ Ext.refl _, h.2⟩) ?_)))))
          refine f_yes rfl rfl (f_fieldAddr rfl rfl (fun w hw => r_fAt (o := 5) Try.underlying37 rfl (by kernel_rfl) rfl) (f_yes rfl rfl (f_load rfl rfl (fun w hw => r_load1 Try.underlying22 rfl (hw.cell_some ((x77.trans x5).cell_some (k1.cell (i := 5) rfl)))) ?_)))
          refine f_yes rfl rfl (f_len (vs := [z]) rfl rfl (fun w hw => r_lenB ((hz.ext (x77.trans x5)).ext hw)) (f_yes rfl rfl (f_bin rfl rfl rfl (fun w _ => dec_t rfl r_eql_i) ?_)))
          refine f_pick_t rfl rfl rfl (f_nil ?_)
          intro wg9 xg9
          rintro _ rfl
          refine o_assign rfl rfl (o_nil (n_then (c_ret (r_body1 rfl rfl ?_))))
          exact ⟨_, rfl, rfl, (((x1.trans x77).trans x5).trans xg9)⟩
end Go.Rl
/- The reference's packing walked. Conditions: the bytes are not more than 2^40. -/
namespace Go.Rl
open Go.RowKit Go.Proofs
theorem own_len {base : Nat} {l : List UInt8} {v : Value} {w : World} (h : OwnB base l v w) : l.length ≤ 9223372036854775807 := h.bts.len
theorem n64 {n : Nat} (h : n < 18446744073709551616) : (UInt64.ofNat n).toNat = n := by rw [UInt64.toNat_ofNat']; omega
theorem TPack_spec {w : World} {d : List UInt8} {v : Value} (hv : Bts d v w) (hl : d.length ≤ 1099511627776) :
    Calls Try.prog 16 #[v] w (Ret fun r w' => Ext w w' ∧ Bts (packed d) r w') := by
  refine enter (vs := [v]) Try.func16 rfl rfl rfl ?_
  have hpl := packed_any (d := d) (by omega)
  refine c_seq (c_region (o_assign rfl rfl (o_nil (n_then (c_seq (c_region (o_move rfl rfl (o_len rfl rfl (r_lenB hv) (o_conv rfl rfl (r_n_u64 Try.underlying3 Try.underlying31) ?_)))))))))
  refine o_call call_rAppendUint rfl rfl (rAppendUint_spec (Bts.nil _) (by simp)) ?_
  rintro v11 w11 ⟨x11, o11⟩
  refine o_assign rfl rfl (o_nil (n_then (c_seq (c_seq (c_region (o_assign rfl rfl (o_nil (n_then (c_block ?_)))))))))
  refine c_loop3 (fun (s : Nat) (O : List UInt8) (vo : Value) => [(0, v), (3, vo), (4, I (s : Int))]) (fun (s : Nat) (O : List UInt8) (vo : Value) w' => Ext w w' ∧ s ≤ d.length ∧ Bts O vo w' ∧ O ++ pk d s 0 = packed d) (fun (s : Nat) (O : List UInt8) (vo : Value) => d.length - s) (0) (uv d.length) (v11) ⟨rfl, rfl, rfl, trivial⟩ ⟨x11, by omega, by have := o11.bts; rw [List.nil_append, n64 (by omega)] at this; exact this, rfl⟩ ?_
  rintro s O vo w3 ⟨e3, hs, hO, hp⟩
  refine c_seq (c_seq (c_region (o_move rfl rfl (o_move rfl rfl (o_len rfl rfl (r_lenB (hv.ext e3)) (o_bin rfl rfl rfl (r_lss_i) (o_nil (n_then ?_))))))))
  refine c_if rfl (fun h15 => ?_) (fun h15 => ?_)
  · refine c_skip (n_then (c_block (c_seq (c_region (o_move rfl rfl (o_assign rfl rfl (o_nil (n_then (c_seq (c_region (o_move rfl rfl (o_move rfl rfl (o_call call_TBest rfl rfl (TBest_spec (hv.ext e3) hs (by omega)) ?_)))))))))))))
    rintro v20 w20 ⟨x20, rfl⟩
    refine o_move rfl rfl (o_extract rfl rfl (r_ext0) (o_extract rfl rfl (r_ext1) (o_assign rfl rfl (o_assign rfl rfl (o_nil (n_then (c_seq (c_block ?_))))))))
    refine c_loop3 (fun (i : Nat) (n : Nat) (k : Nat) => [(0, v), (3, vo), (4, I (i : Int)), (5, I (s : Int)), (6, I (n : Int)), (7, I (k : Int))]) (fun (i : Nat) (n : Nat) (k : Nat) w' => Ext w3 w' ∧ s ≤ i ∧ i ≤ d.length ∧ O ++ pk d i (i - s) = packed d ∧ best d i = (n, k)) (fun (i : Nat) (n : Nat) (k : Nat) => d.length - i) (s) ((best d s).1) ((best d s).2) ⟨rfl, rfl, rfl, rfl, rfl, rfl, trivial⟩ ⟨x20, by omega, hs, by rw [Nat.sub_self]; exact hp, rfl⟩ ?_
    rintro i n k w6 ⟨e6, hsi, hi, hq, hb⟩
    refine c_seq (c_seq (c_region (o_move rfl rfl (o_bin rfl rfl rfl (r_eql_i) (o_move rfl rfl ?_)))))
    refine o_dec (fun h25 => ?_) (fun h25 => ?_)
    · refine g_yes rfl (o_move rfl rfl (g_yes rfl (o_move rfl rfl (g_yes rfl (o_len rfl rfl (r_lenB (hv.ext (e3.trans e6))) (g_yes rfl (o_bin rfl rfl rfl (r_lss_i) (o_pick_t rfl rfl rfl ?_))))))))
      refine o_nil (n_then ?_)
      refine c_if rfl (fun h30 => ?_) (fun h30 => ?_)
      · refine c_skip (n_then (c_block (c_seq (c_region (o_move rfl rfl (o_bin (r := I ((i + 1 : Nat) : Int)) rfl rfl rfl (by have e : ((i + 1 : Nat) : Int) = (i : Int) + 1 := (by omega); rw [e]; exact r_add_i (by omega) (by omega)) ?_))))))
        refine o_assign rfl rfl (o_nil (n_then (c_region (o_move rfl rfl (o_move rfl rfl (o_call call_TBest rfl rfl (TBest_spec (hv.ext (e3.trans e6)) (by omega) (by omega)) ?_))))))
        rintro v36 w36 ⟨x36, rfl⟩
        refine o_move rfl rfl (o_extract rfl rfl (r_ext0) (o_extract rfl rfl (r_ext1) (o_assign rfl rfl (o_assign rfl rfl (o_nil (n_block ?_))))))
        refine n_round3 (i + 1) ((best d (i + 1)).1) ((best d (i + 1)).2) ⟨rfl, rfl, rfl, rfl, rfl, rfl, trivial⟩ ⟨(e6.trans x36), by omega, by omega, by rw [pk_lit (by omega) (by rw [hb]; show n = 0; omega)] at hq; rw [show i + 1 - s = i - s + 1 by omega]; exact hq, rfl⟩ (by omega)
      · refine c_exit (x_then (x_then (x_here (n_then (c_seq ?_)))))
        have hpO : O.length ≤ (packed d).length := by rw [← hq, List.length_append]; omega
        have hus : (UInt64.ofNat (i - s)).toNat = i - s := n64 (by omega)
        have hul := uv_len (n := i - s) (by omega)
        obtain ⟨L, hL⟩ : ∃ L, L = (d.drop s).take (i - s) := ⟨_, rfl⟩
        have hLl : L.length = i - s := by rw [hL, List.length_take, List.length_drop]; omega
        refine c_grow 10 [0, 4, 6, 7, 44, 48] (by kernel_rfl) (by kernel_rfl) ?_
        refine f_move rfl rfl (f_move rfl rfl (f_move rfl rfl (f_bin (r := I ((i - s : Nat) : Int)) rfl rfl rfl (fun w _ => by have e : ((i - s : Nat) : Int) = (i : Int) - (s : Int) := (by omega); rw [e]; exact r_sub_i (by omega) (by omega)) ?_)))
        refine f_conv rfl rfl (fun w hw => r_n_u64 Try.underlying3 Try.underlying31) (f_call (S := OwnB w6.heap.size (O ++ uv (i - s))) call_rAppendUint (OwnB.stable _ _) rfl (fun w hw => by rintro _ rfl _ rfl; exact Ret.mono (rAppendUint_spec ((hO.ext e6).ext hw) (by omega)) fun v w' h => ⟨h.1, by have := h.2.down hw.size; rw [hus] at this; exact this⟩) ?_)
        refine f_move rfl rfl (f_move rfl rfl (f_move rfl rfl ?_))
        obtain ⟨v48, p48, b48⟩ := r_slB (hv.ext (e3.trans e6)) (lo := s) (hi := i) (by omega) (by omega) .i64 .i64
        refine f_slice rfl rfl rfl rfl (fun w _ => p48 w) (f_nil ?_)
        intro wg9 xg9
        rintro _ hq0
        obtain rfl := Eq.symm hq0
        rintro _ rfl
        rintro _ rfl
        rintro _ rfl
        intro vg44 b44
        rintro _ hq48
        obtain rfl := Eq.symm hq48
        have b48 : Bts L v48 wg9 := by rw [List.drop_take] at b48; rw [hL]; exact b48.ext xg9
        obtain ⟨v49, w49, hr49, o49, g49⟩ := r_appB (ty := 22) b44 b48 (by simp only [List.length_append]; omega) (xg9).size
        have x49 := Ext.of_grew (xg9) g49 b44.ge
        refine o_append rfl rfl hr49 (o_assign rfl rfl (o_nil (n_then (c_seq (c_region (o_move rfl rfl (o_move rfl rfl (o_len rfl rfl (r_lenB (hv.ext ((e3.trans e6).trans x49))) (o_bin rfl rfl rfl (r_lss_i) ?_)))))))))
        refine o_nil (n_then ?_)
        refine c_if rfl (fun h53 => ?_) (fun h53 => ?_)
        · have hn0 : n ≠ 0 := by omega
          have hbo := best_ok (d := d) (i := i) (by rw [hb]; exact hn0)
          rw [hb] at hbo
          obtain ⟨h4, h1, h2, h3, _, h5⟩ := hbo
          have h4 : 4 ≤ n := h4
          have h1 : 1 ≤ k := h1
          have h3 : k ≤ 4096 := h3
          have h5 : i + n ≤ d.length := h5
          have hun : (UInt64.ofNat (n - 4)).toNat = n - 4 := n64 (by omega)
          have huk : (UInt64.ofNat (k - 1)).toNat = k - 1 := n64 (by omega)
          have hu4 := uv_len (n := n - 4) (by omega)
          have hq2 : O ++ uv (i - s) ++ L ++ uv (n - 4) ++ uv (k - 1) ++ pk d (i + n) 0 = packed d := by
            rw [pk_match (by omega) (by rw [hb]; exact hn0), hb, show i - (i - s) = s by omega, ← hL] at hq
            rw [← hq]; simp only [List.append_assoc]
          refine c_seq (c_region (o_move rfl rfl (o_move rfl rfl (o_bin (r := I ((n - 4 : Nat) : Int)) rfl rfl rfl (by have e : ((n - 4 : Nat) : Int) = (n : Int) - 4 := (by omega); rw [e]; exact r_sub_i (by omega) (by omega)) ?_))))
          refine o_conv rfl rfl (r_n_u64 Try.underlying3 Try.underlying31) (o_call call_rAppendUint rfl rfl (rAppendUint_spec o49.bts (by simp only [List.length_append]; omega)) ?_)
          rintro v58 w58 ⟨x58, o58⟩
          rw [hun] at o58
          refine o_move rfl rfl (o_bin (r := I ((k - 1 : Nat) : Int)) rfl rfl rfl (by have e : ((k - 1 : Nat) : Int) = (k : Int) - 1 := (by omega); rw [e]; exact r_sub_i (by omega) (by omega)) ?_)
          refine o_conv rfl rfl (r_n_u64 Try.underlying3 Try.underlying31) (o_call call_rAppendUint rfl rfl (rAppendUint_spec o58.bts (by simp only [List.length_append]; omega)) ?_)
          rintro v62 w62 ⟨x62, o62⟩
          rw [huk] at o62
          refine o_assign rfl rfl (o_nil (n_then (c_region (o_move rfl rfl (o_move rfl rfl (o_bin (r := I ((i + n : Nat) : Int)) rfl rfl rfl (by have e : ((i + n : Nat) : Int) = (i : Int) + (n : Int) := (by omega); rw [e]; exact r_add_i (by omega) (by omega)) ?_))))))
          refine o_assign rfl rfl (o_nil (n_block ?_))
          refine n_round3 (i + n) (O ++ uv (i - s) ++ L ++ uv (n - 4) ++ uv (k - 1)) (v62) ⟨rfl, rfl, rfl, trivial⟩ ⟨((((e3.trans e6).trans x49).trans x58).trans x62), h5, o62.bts, hq2⟩ (by omega)
        · have hie : i = d.length := by omega
          have hq2 : O ++ uv (i - s) ++ L ++ pk d i 0 = packed d := by
            rw [pk_end (by omega), if_pos (by omega), show d.length - (i - s) = s by omega] at hq
            rw [pk_end (by omega), if_neg (by omega), List.append_nil, ← hq, hL, List.take_of_length_le (by rw [List.length_drop]; omega), List.append_assoc]
          refine c_skip (n_block ?_)
          refine n_round3 (i) (O ++ uv (i - s) ++ L) (v49) ⟨rfl, rfl, rfl, trivial⟩ ⟨((e3.trans e6).trans x49), by omega, (o49).bts, hq2⟩ (by omega)
    · refine g_no rfl rfl rfl (g_no rfl rfl rfl (g_no rfl rfl rfl (g_no rfl rfl rfl (o_pick_f rfl rfl rfl (o_nil (n_then (c_no rfl (c_exit (x_then (x_then (x_here (n_then (c_seq ?_)))))))))))))
      have hpO : O.length ≤ (packed d).length := by rw [← hq, List.length_append]; omega
      have hus : (UInt64.ofNat (i - s)).toNat = i - s := n64 (by omega)
      have hul := uv_len (n := i - s) (by omega)
      obtain ⟨L, hL⟩ : ∃ L, L = (d.drop s).take (i - s) := ⟨_, rfl⟩
      have hLl : L.length = i - s := by rw [hL, List.length_take, List.length_drop]; omega
      refine c_grow 10 [0, 4, 6, 7, 44, 48] (by kernel_rfl) (by kernel_rfl) ?_
      refine f_move rfl rfl (f_move rfl rfl (f_move rfl rfl (f_bin (r := I ((i - s : Nat) : Int)) rfl rfl rfl (fun w _ => by have e : ((i - s : Nat) : Int) = (i : Int) - (s : Int) := (by omega); rw [e]; exact r_sub_i (by omega) (by omega)) ?_)))
      refine f_conv rfl rfl (fun w hw => r_n_u64 Try.underlying3 Try.underlying31) (f_call (S := OwnB w6.heap.size (O ++ uv (i - s))) call_rAppendUint (OwnB.stable _ _) rfl (fun w hw => by rintro _ rfl _ rfl; exact Ret.mono (rAppendUint_spec ((hO.ext e6).ext hw) (by omega)) fun v w' h => ⟨h.1, by have := h.2.down hw.size; rw [hus] at this; exact this⟩) ?_)
      refine f_move rfl rfl (f_move rfl rfl (f_move rfl rfl ?_))
      obtain ⟨v48, p48, b48⟩ := r_slB (hv.ext (e3.trans e6)) (lo := s) (hi := i) (by omega) (by omega) .i64 .i64
      refine f_slice rfl rfl rfl rfl (fun w _ => p48 w) (f_nil ?_)
      intro wg9 xg9
      rintro _ hq0
      obtain rfl := Eq.symm hq0
      rintro _ rfl
      rintro _ rfl
      rintro _ rfl
      intro vg44 b44
      rintro _ hq48
      obtain rfl := Eq.symm hq48
      have b48 : Bts L v48 wg9 := by rw [List.drop_take] at b48; rw [hL]; exact b48.ext xg9
      obtain ⟨v49, w49, hr49, o49, g49⟩ := r_appB (ty := 22) b44 b48 (by simp only [List.length_append]; omega) (xg9).size
      have x49 := Ext.of_grew (xg9) g49 b44.ge
      refine o_append rfl rfl hr49 (o_assign rfl rfl (o_nil (n_then (c_seq (c_region (o_move rfl rfl (o_move rfl rfl (o_len rfl rfl (r_lenB (hv.ext ((e3.trans e6).trans x49))) (o_bin rfl rfl rfl (r_lss_i) ?_)))))))))
      refine o_nil (n_then ?_)
      refine c_if rfl (fun h53 => ?_) (fun h53 => ?_)
      · have hn0 : n ≠ 0 := by omega
        have hbo := best_ok (d := d) (i := i) (by rw [hb]; exact hn0)
        rw [hb] at hbo
        obtain ⟨h4, h1, h2, h3, _, h5⟩ := hbo
        have h4 : 4 ≤ n := h4
        have h1 : 1 ≤ k := h1
        have h3 : k ≤ 4096 := h3
        have h5 : i + n ≤ d.length := h5
        have hun : (UInt64.ofNat (n - 4)).toNat = n - 4 := n64 (by omega)
        have huk : (UInt64.ofNat (k - 1)).toNat = k - 1 := n64 (by omega)
        have hu4 := uv_len (n := n - 4) (by omega)
        have hq2 : O ++ uv (i - s) ++ L ++ uv (n - 4) ++ uv (k - 1) ++ pk d (i + n) 0 = packed d := by
          rw [pk_match (by omega) (by rw [hb]; exact hn0), hb, show i - (i - s) = s by omega, ← hL] at hq
          rw [← hq]; simp only [List.append_assoc]
        refine c_seq (c_region (o_move rfl rfl (o_move rfl rfl (o_bin (r := I ((n - 4 : Nat) : Int)) rfl rfl rfl (by have e : ((n - 4 : Nat) : Int) = (n : Int) - 4 := (by omega); rw [e]; exact r_sub_i (by omega) (by omega)) ?_))))
        refine o_conv rfl rfl (r_n_u64 Try.underlying3 Try.underlying31) (o_call call_rAppendUint rfl rfl (rAppendUint_spec o49.bts (by simp only [List.length_append]; omega)) ?_)
        rintro v58 w58 ⟨x58, o58⟩
        rw [hun] at o58
        refine o_move rfl rfl (o_bin (r := I ((k - 1 : Nat) : Int)) rfl rfl rfl (by have e : ((k - 1 : Nat) : Int) = (k : Int) - 1 := (by omega); rw [e]; exact r_sub_i (by omega) (by omega)) ?_)
        refine o_conv rfl rfl (r_n_u64 Try.underlying3 Try.underlying31) (o_call call_rAppendUint rfl rfl (rAppendUint_spec o58.bts (by simp only [List.length_append]; omega)) ?_)
        rintro v62 w62 ⟨x62, o62⟩
        rw [huk] at o62
        refine o_assign rfl rfl (o_nil (n_then (c_region (o_move rfl rfl (o_move rfl rfl (o_bin (r := I ((i + n : Nat) : Int)) rfl rfl rfl (by have e : ((i + n : Nat) : Int) = (i : Int) + (n : Int) := (by omega); rw [e]; exact r_add_i (by omega) (by omega)) ?_))))))
        refine o_assign rfl rfl (o_nil (n_block ?_))
        refine n_round3 (i + n) (O ++ uv (i - s) ++ L ++ uv (n - 4) ++ uv (k - 1)) (v62) ⟨rfl, rfl, rfl, trivial⟩ ⟨((((e3.trans e6).trans x49).trans x58).trans x62), h5, o62.bts, hq2⟩ (by omega)
      · have hie : i = d.length := by omega
        have hq2 : O ++ uv (i - s) ++ L ++ pk d i 0 = packed d := by
          rw [pk_end (by omega), if_pos (by omega), show d.length - (i - s) = s by omega] at hq
          rw [pk_end (by omega), if_neg (by omega), List.append_nil, ← hq, hL, List.take_of_length_le (by rw [List.length_drop]; omega), List.append_assoc]
        refine c_skip (n_block ?_)
        refine n_round3 (i) (O ++ uv (i - s) ++ L) (v49) ⟨rfl, rfl, rfl, trivial⟩ ⟨((e3.trans e6).trans x49), by omega, (o49).bts, hq2⟩ (by omega)
  · refine c_exit (x_then (x_then (x_here (n_then (c_seq (c_region (o_move rfl rfl (o_assign rfl rfl (o_nil (n_then (c_ret (r_body1 rfl rfl ?_))))))))))))
    exact ⟨_, rfl, e3, by
      rw [pk_end (by omega), if_neg (by omega), List.append_nil] at hp
      rw [← hp]; exact hO⟩
end Go.Rl
/- slices.Equal walked. No condition. -/
namespace Go.Rl
open Go.RowKit Go.Proofs
theorem call_EqB : Callable Try.prog 45 := ⟨_, Try.func45, by kernel_rfl, rfl⟩
theorem EqB_spec {w : World} {l m : List UInt8} {v u : Value} (hv : Bts l v w) (hu : Bts m u w) :
    Calls Try.prog 45 #[v, u] w (Ret fun r w' => Ext w w' ∧ r = B (decide (l = m))) := by
  refine enter (vs := [v, u]) Try.func45 rfl rfl rfl ?_
  have hll := hv.len
  refine c_seq (c_region (o_assign rfl rfl (o_nil (n_then (c_seq (c_seq (c_region (o_move rfl rfl (o_len rfl rfl (r_lenB hv) (o_move rfl rfl (o_len rfl rfl (r_lenB hu) (o_bin rfl rfl rfl (r_neq_i) ?_))))))))))))
  refine o_nil (n_then ?_)
  refine c_if rfl (fun h10 => ?_) (fun h10 => ?_)
  · have hne : l ≠ m := fun h => h10 (by rw [h])
    refine c_seq (c_region (o_assign rfl rfl (o_nil (n_then (c_ret (r_then (r_body1 rfl rfl ?_)))))))
    exact ⟨_, rfl, Ext.refl _, congrArg B (decide_eq_false hne).symm⟩
  · have hlen : l.length = m.length := by omega
    refine c_skip (n_then (c_seq (c_seq (c_region (o_move rfl rfl (o_len rfl rfl (r_lenB hv) (o_move rfl rfl (o_nil (n_then (c_block ?_))))))))))
    refine c_loop (α := Nat) (fun x => [(0, v), (1, u), (12, I (l.length : Int)), (13, I (x : Int))]) (fun x w' => Ext w w' ∧ x ≤ l.length ∧ l.take x = m.take x) (fun x => l.length - x) (0) ⟨rfl, rfl, rfl, rfl, trivial⟩ ⟨Ext.refl _, by omega, rfl⟩ ?_
    rintro i w4 ⟨e4, hi, ht⟩
    refine c_seq (c_region (o_bin rfl rfl rfl (r_lss_i) (o_nil (n_then (c_seq ?_)))))
    refine c_if rfl (fun h14 => ?_) (fun h14 => ?_)
    · refine c_skip (n_then (c_seq (c_block (c_seq (c_region (o_move rfl rfl (o_assign rfl rfl (o_nil (n_then (c_seq (c_grow 8 [0, 1, 12, 13, 19, 23] (by kernel_rfl) (by kernel_rfl) ?_)))))))))))
      refine f_move rfl rfl (f_move rfl rfl ?_)
      obtain ⟨a18, p18, q18⟩ := r_ixB (hv.ext e4) (i := i) (by omega) .i64
      refine f_indexAddr rfl rfl rfl (fun w _ => p18 w) (f_load rfl rfl (fun w hw => r_load1 Try.underlying5 rfl (hw.cell_some q18)) (f_move rfl rfl (f_move rfl rfl ?_)))
      obtain ⟨a22, p22, q22⟩ := r_ixB (hu.ext e4) (i := i) (by omega) .i64
      refine f_indexAddr rfl rfl rfl (fun w _ => p22 w) (f_load rfl rfl (fun w hw => r_load1 Try.underlying5 rfl (hw.cell_some q22)) (f_nil ?_))
      intro wg6 xg6
      rintro _ hq0
      obtain rfl := Eq.symm hq0
      rintro _ hq1
      obtain rfl := Eq.symm hq1
      rintro _ rfl
      rintro _ rfl
      rintro _ rfl
      rintro _ rfl
      refine o_bin rfl rfl rfl (r_neq_u8) (o_nil (n_then ?_))
      refine c_if rfl (fun h24 => ?_) (fun h24 => ?_)
      · have hne : l ≠ m := fun h => h24 (by subst h; rfl)
        refine c_seq (c_region (o_assign rfl rfl (o_nil (n_then (c_ret (r_block (r_then (r_then (r_block (r_then (r_body1 rfl rfl ?_)))))))))))
        exact ⟨_, rfl, (e4.trans xg6), congrArg B (decide_eq_false hne).symm⟩
      · have he : l[i]'(by omega) = m[i]'(by omega) := Classical.byContradiction fun h => h24 h
        refine c_skip (n_block (n_then (c_region (o_bin (r := I ((i + 1 : Nat) : Int)) rfl rfl rfl (by have e : ((i + 1 : Nat) : Int) = (i : Int) + 1 := (by omega); rw [e]; exact r_add_i (by omega) (by omega)) ?_))))
        refine o_move rfl rfl (o_nil ?_)
        refine n_round (i + 1) ⟨rfl, rfl, rfl, rfl, trivial⟩ ⟨(e4.trans xg6), by omega, by rw [List.take_succ_eq_append_getElem (by omega), List.take_succ_eq_append_getElem (by omega), ht, he]⟩ (by omega)
    · refine c_exit (x_then (x_then (x_here (n_then (c_seq (c_region (o_assign rfl rfl (o_nil (n_then (c_ret (r_body1 rfl rfl ?_)))))))))))
      exact ⟨_, rfl, e4, by
        rw [List.take_of_length_le (by omega), List.take_of_length_le (by omega)] at ht
        rw [decide_eq_true ht]; rfl⟩
end Go.Rl
/- compress.number walked. Conditions: the bytes are not more than 2^40. -/
namespace Go.Rl
open Go.RowKit Go.Proofs
theorem call_ANum : Callable Try.prog 43 := ⟨_, Try.func43, by kernel_rfl, rfl⟩
theorem rdU_ten_some {l t' : List UInt8} {n : Nat} (h : rdU (l.take 10) = some (n, t')) : rdU l = some (n, l.drop (uv n).length) ∧ (uv n).length + t'.length = min l.length 10 := by
  obtain ⟨h1, h2⟩ := rdU_inv h
  have hlen : (uv n).length + t'.length = min l.length 10 := by
    have := congrArg List.length h1
    rw [List.length_take, List.length_append] at this
    omega
  have e : l = uv n ++ (t' ++ l.drop 10) := by
    rw [← List.append_assoc, ← h1, List.take_append_drop]
  refine ⟨?_, hlen⟩
  have hd : l.drop (uv n).length = t' ++ l.drop 10 := by
    conv => lhs; rw [e]
    rw [List.drop_left' rfl]
  rw [hd]
  conv => lhs; rw [e]
  exact rdU_uv h2 _
theorem rdU_ten_none {l : List UInt8} (h : rdU (l.take 10) = none) : rdU l = none := by
  cases hr : rdU l with
  | none => rfl
  | some p =>
    obtain ⟨n, t⟩ := p
    obtain ⟨h1, h2⟩ := rdU_inv hr
    have hl := uv_len (n := n) h2
    have e : l.take 10 = uv n ++ t.take (10 - (uv n).length) := by
      rw [h1, List.take_append]
      congr 1
      exact List.take_of_length_le (by omega)
    rw [e, rdU_uv h2] at h
    cases h
theorem r_min10 {P : Program} {w : World} {ts : Array TypeId} {ty : TypeId} {n : Nat} : (Builtin.min_ ts ty #[I (n : Int), I 10]).run P w = .ok (I ((min n 10 : Nat) : Int)) w := by
  have e : ((min n 10 : Nat) : Int) = if (10 : Int) < (n : Int) then 10 else (n : Int) := by split <;> omega
  rw [e]; rfl
theorem r_subN {P : Program} {w : World} {t : TypeId} {x y : Operand} {a b c : Nat} (h : c + b = a) (ha : a ≤ 1099511627776) : (bin .sub t x y (I (a : Int)) (I (b : Int))).run P w = .ok (I (c : Int)) w := by
  have e : (c : Int) = (a : Int) - (b : Int) := by omega
  rw [e]
  exact r_sub_i (by omega) (by omega)
def NumR (l : List UInt8) (r : Value) (w' : World) : Prop := match rdU l with
  | some (n, t) => ∃ v, r = .tuple #[U64 (UInt64.ofNat n), v, B true] ∧ Bts t v w'
  | none => r = .tuple #[U64 0, .slice none 0 0, B false]
theorem ANum_spec {w w0 : World} {l : List UInt8} {v : Value} (h0 : Bts l v w0) (hv : Bts l v w) (hl : l.length ≤ 1099511627776) :
    Calls Try.prog 43 #[v] w (Ret fun r w' => Ext w w' ∧ NumR l r w0) := by
  refine enter (vs := [v]) Try.func43 rfl rfl rfl ?_
  refine c_seq (c_region (o_assign rfl rfl (o_assign rfl rfl (o_assign rfl rfl (o_nil (n_then (c_seq (c_region (o_move rfl rfl (o_move rfl rfl (o_len rfl rfl (r_lenB hv) ?_)))))))))))
  refine o_min (vs := [I (l.length : Int), I 10]) rfl rfl r_min10 ?_
  obtain ⟨v12, p12, b12⟩ := r_slB_hi hv (hi := min l.length 10) (by omega) .i64
  refine o_slice rfl rfl rfl rfl rfl (p12 _) ?_
  have b12 : Bts (l.take 10) v12 w := by
    have e : l.take (min l.length 10) = l.take 10 := by rw [Nat.min_comm, ← List.take_take, List.take_length]
    rw [e] at b12; exact b12
  refine o_call call_New rfl rfl ((New_spec b12 (by rw [List.length_take]; omega))) ?_
  rintro v13 w13 ⟨x13, g, lg, rfl, rr⟩
  refine o_assign rfl rfl (o_nil (n_then (c_seq ?_)))
  rcases hU : rdU (l.take 10) with _ | ⟨n, t⟩
  · refine c_region (o_move rfl rfl (o_call call_Uint rfl rfl ((WU_no (st := some (l.take 10)) rr hU)) ?_))
    rintro v16 w16 ⟨g16, rfl, r1⟩
    have x16 := (x13).of_new g16 lg
    refine o_move rfl rfl (o_extract rfl rfl (r_ext0) (o_extract rfl rfl (r_ext1) (o_assign rfl rfl (o_assign rfl rfl (o_nil (n_then (c_seq (c_seq (c_region (o_move rfl rfl (o_bin rfl rfl rfl (dec_t (by decide) r_neq_i) ?_)))))))))))
    refine o_nil (n_then (c_yes rfl (c_seq (c_region (o_assign rfl rfl (o_assign rfl rfl (o_assign rfl rfl (o_nil (n_then (c_ret (r_then (r_body3 rfl rfl rfl rfl ?_))))))))))))
    exact ⟨_, rfl, x16, by unfold NumR; rw [rdU_ten_none hU]; rfl⟩
  · obtain ⟨hs, hlen⟩ := rdU_ten_some hU
    refine c_region (o_move rfl rfl (o_call call_Uint rfl rfl ((WU_ok (st := some (l.take 10)) rr hU)) ?_))
    rintro v16 w16 ⟨g16, rfl, r1⟩
    have x16 := (x13).of_new g16 lg
    refine o_move rfl rfl (o_extract rfl rfl (r_ext0) (o_extract rfl rfl (r_ext1) (o_assign rfl rfl (o_assign rfl rfl (o_nil (n_then (c_seq (c_seq (c_region (o_move rfl rfl (o_bin rfl rfl rfl (dec_f (by decide) r_neq_i) ?_)))))))))))
    refine o_nil (n_then (c_no rfl (c_skip (n_then (c_seq (c_grow 11 [2, 3] (by kernel_rfl) (by kernel_rfl) ?_))))))
    refine f_move rfl rfl (f_move rfl rfl (f_move rfl rfl (f_len (vs := [v]) rfl rfl (fun w hw => r_lenB ((hv.ext x16).ext hw)) (f_min (vs := [I (l.length : Int), I 10]) rfl rfl (fun _ _ => r_min10) ?_))))
    refine f_move rfl rfl (f_call (S := Is (I ((t.length : Nat) : Int))) call_Left (Stable.is _) rfl (fun w hw => by rintro _ rfl; exact Ret.mono (Left_s (r1.ext hw)) fun v w' h => ⟨h.1 ▸ Ext.refl _, h.2⟩) ?_)
    refine f_bin rfl rfl rfl (fun w _ => r_subN hlen (by omega)) ?_
    obtain ⟨v29, p29, b29⟩ := r_slB_lo h0 (lo := (uv n).length) (by omega) .i64
    refine f_slice rfl rfl rfl rfl (fun w hw => p29 _) (f_assign rfl rfl (f_assign rfl rfl (f_nil ?_)))
    intro wg5 xg5
    rintro _ rfl
    rintro _ rfl
    refine o_assign rfl rfl (o_nil (n_then (c_ret (r_body3 rfl rfl rfl rfl ?_))))
    exact ⟨_, rfl, (x16.trans xg5), by unfold NumR; rw [hs]; exact ⟨_, rfl, b29⟩⟩
end Go.Rl
/- compress.expand walked. Conditions: the bytes and the total are not more than 2^39. -/
namespace Go.Rl
open Go.RowKit Go.Proofs
theorem call_AExp : Callable Try.prog 44 := ⟨_, Try.func44, by kernel_rfl, rfl⟩
def ExpR (o : Option (List UInt8)) (r : Value) (w' : World) : Prop := match o with
  | some out => ∃ v, r = .tuple #[v, B true] ∧ Bts out v w'
  | none => ∃ v, r = .tuple #[v, B false]
section
variable {w w0 : World} {l : List UInt8} {v : Value}
theorem ANum_none (hv : Bts l v w) (hl : l.length ≤ 1099511627776) (h : rdU l = none) : Calls Try.prog 43 #[v] w (Ret fun r w' => Ext w w' ∧ r = .tuple #[U64 0, .slice none 0 0, B false]) :=
  (ANum_spec hv hv hl).mono fun _ _ ⟨r, he, h1, h2⟩ => ⟨r, he, h1, by unfold NumR at h2; rw [h] at h2; exact h2⟩
theorem ANum_some {n : Nat} {t : List UInt8} (h0 : Bts l v w0) (hv : Bts l v w) (hl : l.length ≤ 1099511627776) (h : rdU l = some (n, t)) : Calls Try.prog 43 #[v] w (Ret fun r w' => Ext w w' ∧ ∃ u, r = .tuple #[U64 (UInt64.ofNat n), u, B true] ∧ Bts t u w0) :=
  (ANum_spec h0 hv hl).mono fun _ _ ⟨r, he, h1, h2⟩ => ⟨r, he, h1, by unfold NumR at h2; rw [h] at h2; exact h2⟩
end
theorem lss_n {n m : Nat} (hn : n < 18446744073709551616) (hm : m < 18446744073709551616) : UInt64.ofNat n < UInt64.ofNat m ↔ n < m := by
  rw [UInt64.lt_iff_toNat_lt, UInt64.toNat_ofNat', UInt64.toNat_ofNat']
  omega
theorem geq_n {n m : Nat} (hn : n < 18446744073709551616) (hm : m < 18446744073709551616) : UInt64.ofNat n ≥ UInt64.ofNat m ↔ m ≤ n := by
  show UInt64.ofNat m ≤ UInt64.ofNat n ↔ m ≤ n
  rw [UInt64.le_iff_toNat_le, UInt64.toNat_ofNat', UInt64.toNat_ofNat']
  omega
theorem sub_n {n m : Nat} (hn : n < 18446744073709551616) (h : m ≤ n) : UInt64.ofNat n - UInt64.ofNat m = UInt64.ofNat (n - m) := by
  apply UInt64.toNat_inj.1
  rw [UInt64.toNat_sub_of_le _ _ (UInt64.le_iff_toNat_le.2 (by rw [UInt64.toNat_ofNat', UInt64.toNat_ofNat']; omega)), UInt64.toNat_ofNat', UInt64.toNat_ofNat', UInt64.toNat_ofNat']
  omega
theorem unp_a {total f : Nat} {l O : List UInt8} (h : O.length < total) (hN : rdU l = none) : unp total (f + 1) l O = none := by
  unfold unp; rw [if_pos h, hN]; rfl
theorem unp_b {total f n : Nat} {l O t : List UInt8} (h : O.length < total) (hN : rdU l = some (n, t)) : unp total (f + 1) l O =
    if total - O.length < n ∨ t.length < n then none
    else if total - O.length = n then (if t.drop n = [] then some (O ++ t.take n) else none)
    else (rdU (t.drop n)).bind fun q =>
      if total - O.length - n < 4 ∨ total - O.length - n - 4 < q.1 then none
      else (rdU q.2).bind fun r =>
        if 4096 ≤ r.1 ∨ (O ++ t.take n).length ≤ r.1 then none
        else unp total f r.2 (cpy (r.1 + 1) (q.1 + 4) (O ++ t.take n)) := by
  rw [unp, if_pos h, hN]; rfl
theorem unp_z {total f : Nat} {l O : List UInt8} (h : ¬ O.length < total) : unp total (f + 1) l O = if l = [] then some O else none := by
  rw [unp, if_neg h]
theorem cpy_next {k m j c : Nat} {X : List UInt8} (hj : j < m) (hX : X.length = c + j) (hk : k < c) : cpy (k + 1) (m - j) X = cpy (k + 1) (m - (j + 1)) (X ++ [X[c - 1 - k + j]'(by omega)]) := by
  obtain ⟨s, hs⟩ : ∃ s, m - j = s + 1 := ⟨m - j - 1, by omega⟩
  have e : X.getD (X.length - (k + 1)) 0 = X[c - 1 - k + j]'(by omega) := by
    have : X.length - (k + 1) = c - 1 - k + j := by omega
    rw [this, List.getD_eq_getElem?_getD, List.getElem?_eq_getElem (by omega)]
    rfl
  rw [hs, cpy, e, show m - (j + 1) = s by omega]
theorem AExp_spec {w : World} {rest : List UInt8} {v : Value} {total : Nat} (hv : Bts rest v w) (hl : rest.length ≤ 549755813888) (ht : total ≤ 549755813888) :
    Calls Try.prog 44 #[v, U64 (UInt64.ofNat total)] w (Ret fun r w' => Ext w w' ∧ ExpR (unp total (total + 1) rest []) r w') := by
  refine enter (vs := [v, U64 (UInt64.ofNat total)]) Try.func44 rfl rfl rfl ?_
  refine c_seq (c_region (o_assign rfl rfl (o_assign rfl rfl (o_nil (n_then (c_seq (c_region (o_assign rfl rfl (o_nil (n_then (c_seq (c_block ?_))))))))))))
  refine c_loop5 (fun (f : Nat) (l : List UInt8) (O : List UInt8) (vl : Value) (vo : Value) => [(0, vl), (1, U64 (UInt64.ofNat total)), (6, vo)]) (fun (f : Nat) (l : List UInt8) (O : List UInt8) (vl : Value) (vo : Value) w' => Ext w w' ∧ Bts l vl w ∧ OwnB w.heap.size O vo w' ∧ l.length ≤ 549755813888 ∧ O.length ≤ total ∧ total - O.length < f ∧ unp total (total + 1) rest [] = unp total f l O) (fun (f : Nat) (l : List UInt8) (O : List UInt8) (vl : Value) (vo : Value) => total - O.length) (total + 1) (rest) ([]) (v) (.slice none 0 0) ⟨rfl, rfl, rfl, trivial⟩ ⟨Ext.refl _, hv, OwnB.nil _ _, hl, by simp, by simp, rfl⟩ ?_
  rintro f l O vl vo w2 ⟨e2, hb, oO, hll, hOt, hf, hu⟩
  refine c_seq (c_seq ?_)
  obtain ⟨f, rfl⟩ : ∃ g, f = g + 1 := ⟨f - 1, by omega⟩
  refine c_region (o_move rfl rfl (o_len rfl rfl (r_lenB oO.bts) (o_conv rfl rfl (r_n_u64 Try.underlying3 Try.underlying31) (o_move rfl rfl (o_bin rfl rfl rfl (r_lss_u64) ?_)))))
  refine o_nil (n_then ?_)
  refine c_if rfl (fun h19 => ?_) (fun h19 => ?_)
  · have hlt : O.length < total := (lss_n (by omega) (by omega)).1 h19
    refine c_skip (n_then (c_block (c_seq (c_region (o_move rfl rfl (o_move rfl rfl (o_len rfl rfl (r_lenB oO.bts) (o_conv rfl rfl (r_n_u64 Try.underlying3 Try.underlying31) ?_))))))))
    refine o_bin (r := U64 (UInt64.ofNat (total - O.length))) rfl rfl rfl ((by rw [← sub_n (n := total) (m := O.length) (by omega) (by omega)]; exact r_sub_u64)) (o_assign rfl rfl ?_)
    refine o_nil (n_then (c_seq ?_))
    rcases hN : rdU l with _ | ⟨n, t⟩
    · refine c_region (o_move rfl rfl (o_call call_ANum rfl rfl ((ANum_none (hb.ext e2) (by omega) hN)) ?_))
      rintro v27 w27 ⟨x27, rfl⟩
      refine o_move rfl rfl (o_extract rfl rfl (r_ext3_0) (o_extract rfl rfl (r_ext3_1) (o_extract rfl rfl (r_ext3_2) (o_assign rfl rfl (o_assign rfl rfl (o_assign rfl rfl (o_nil ?_)))))))
      refine n_then (c_seq (c_seq (c_region (o_move rfl rfl (o_not rfl rfl r_not (o_move rfl rfl (g_no rfl rfl rfl (g_no rfl rfl rfl (g_no rfl rfl rfl (o_pick_t rfl rfl rfl (o_move rfl rfl ?_)))))))))))
      refine g_no rfl rfl rfl (g_no rfl rfl rfl (g_no rfl rfl rfl (g_no rfl rfl rfl (g_no rfl rfl rfl (o_pick_t rfl rfl rfl (o_nil (n_then (c_yes rfl (c_seq (c_region (o_assign rfl rfl (o_assign rfl rfl ?_))))))))))))
      refine o_nil (n_then (c_ret (r_then (r_block (r_then (r_block (r_then (r_body2 rfl rfl rfl ?_))))))))
      exact ⟨_, rfl, (e2.trans x27), by rw [hu, unp_a hlt hN]; exact ⟨_, rfl⟩⟩
    · obtain ⟨hN1, hN2⟩ := rdU_inv hN
      have htl : t.length ≤ 549755813888 := by rw [hN1, List.length_append] at hll; omega
      refine c_region (o_move rfl rfl (o_call call_ANum rfl rfl ((ANum_some hb (hb.ext e2) (by omega) hN)) ?_))
      rintro v27 w27 ⟨x27, u1, rfl, hb1⟩
      refine o_move rfl rfl (o_extract rfl rfl (r_ext3_0) (o_extract rfl rfl (r_ext3_1) (o_extract rfl rfl (r_ext3_2) (o_assign rfl rfl (o_assign rfl rfl (o_assign rfl rfl (o_nil ?_)))))))
      refine n_then (c_seq (c_seq (c_region (o_move rfl rfl (o_not rfl rfl r_not (o_move rfl rfl (g_yes rfl (o_move rfl rfl (g_yes rfl (o_move rfl rfl (g_yes rfl (o_bin rfl rfl rfl (r_gtr_u64) ?_))))))))))))
      refine o_pick_f rfl rfl rfl (o_move rfl rfl ?_)
      refine o_dec (fun h38 => ?_) (fun h38 => ?_)
      · refine g_no rfl rfl rfl (g_no rfl rfl rfl (g_no rfl rfl rfl (g_no rfl rfl rfl (g_no rfl rfl rfl (o_pick_t rfl rfl rfl (o_nil (n_then (c_yes rfl (c_seq (c_region (o_assign rfl rfl (o_assign rfl rfl ?_))))))))))))
        refine o_nil (n_then (c_ret (r_then (r_block (r_then (r_block (r_then (r_body2 rfl rfl rfl ?_))))))))
        exact ⟨_, rfl, (e2.trans x27), by
          rw [hu, unp_b hlt hN, if_pos (by
            first
            | exact .inl ((gtr_n (by omega) (by omega)).1 h38)
            | exact .inr ((gtr_n (by omega) (by omega)).1 h44))]
          exact ⟨_, rfl⟩⟩
      · refine g_yes rfl (o_move rfl rfl (g_yes rfl (o_move rfl rfl (g_yes rfl (o_len rfl rfl (r_lenB (hb1.ext (e2.trans x27))) (g_yes rfl (o_conv rfl rfl (r_n_u64 Try.underlying3 Try.underlying31) ?_)))))))
        refine g_yes rfl (o_bin rfl rfl rfl (r_gtr_u64) (o_pick_f rfl rfl rfl (o_nil (n_then ?_))))
        refine c_if rfl (fun h44 => ?_) (fun h44 => ?_)
        · refine c_seq (c_region (o_assign rfl rfl (o_assign rfl rfl (o_nil (n_then (c_ret (r_then (r_block (r_then (r_block (r_then (r_body2 rfl rfl rfl ?_))))))))))))
          exact ⟨_, rfl, (e2.trans x27), by
            rw [hu, unp_b hlt hN, if_pos (by
              first
              | exact .inl ((gtr_n (by omega) (by omega)).1 h38)
              | exact .inr ((gtr_n (by omega) (by omega)).1 h44))]
            exact ⟨_, rfl⟩⟩
        · have hn1 : n ≤ total - O.length := Nat.le_of_not_lt (mt (gtr_n (by omega) (by omega)).2 h38)
          have hn2 : n ≤ t.length := Nat.le_of_not_lt (mt (gtr_n (by omega) (by omega)).2 h44)
          have hnn : (UInt64.ofNat n).toNat = n := n64 hN2
          refine c_skip (n_then (c_seq (c_region (o_move rfl rfl (o_move rfl rfl (o_move rfl rfl ?_))))))
          obtain ⟨v48, p48, b48⟩ := r_slB_hi hb1 (hi := (UInt64.ofNat n).toNat) (by omega) .u64
          rw [hnn] at b48
          refine o_slice (b := some (U64 (UInt64.ofNat n))) rfl rfl rfl rfl rfl (p48 _) ?_
          obtain ⟨v49, w49, hr49, o49, g49⟩ := r_appB (ty := 22) (oO.ext x27) (b48.ext (e2.trans x27)) (by simp only [List.length_take]; omega) ((e2.trans x27)).size
          have x49 := Ext.of_grew ((e2.trans x27)) g49 (oO.ext x27).ge
          refine o_append rfl rfl hr49 (o_assign rfl rfl (o_nil (n_then (c_seq (c_region (o_move rfl rfl (o_move rfl rfl ?_)))))))
          obtain ⟨v52, p52, b52⟩ := r_slB_lo hb1 (lo := (UInt64.ofNat n).toNat) (by omega) .u64
          rw [hnn] at b52
          refine o_slice (a := some (U64 (UInt64.ofNat n))) rfl rfl rfl rfl rfl (p52 _) ?_
          refine o_assign rfl rfl (o_nil (n_then (c_seq (c_region (o_move rfl rfl (o_move rfl rfl (o_bin (r := U64 (UInt64.ofNat (total - O.length - n))) rfl rfl rfl ((by rw [← sub_n (n := total - O.length) (m := n) (by omega) hn1]; exact r_sub_u64)) ?_)))))))
          refine o_assign rfl rfl (o_nil (n_then (c_seq (c_seq (c_region (o_move rfl rfl (o_bin (v := U64 0) rfl rfl rfl (r_eql_u64) (o_nil (n_then ?_)))))))))
          refine c_if rfl (fun h57 => ?_) (fun h57 => ?_)
          · have hz : total - O.length = n := by
              have := congrArg UInt64.toNat h57
              rw [n64 (by omega), show (0 : UInt64).toNat = 0 from rfl] at this
              omega
            refine c_exit (x_then (x_out rfl (x_then (x_here (n_then (c_seq (c_region (o_move rfl rfl (o_move rfl rfl (o_len rfl rfl (r_lenB (b52.ext x49)) (o_bin rfl rfl rfl (r_eql_i) (o_assign rfl rfl ?_))))))))))))
            refine o_assign rfl rfl (o_nil (n_then (c_ret (r_body2 rfl rfl rfl ?_))))
            exact ⟨_, rfl, x49, by
              rw [hu, unp_b hlt hN, if_neg (by omega), if_pos hz]
              by_cases hd : t.drop n = []
              · rw [if_pos hd, hd]
                exact ⟨_, rfl, (o49).bts⟩
              · rw [if_neg hd]
                have : ¬ (((t.drop n).length : Nat) : Int) = 0 := fun h => hd (List.eq_nil_of_length_eq_zero (by omega))
                exact ⟨_, by rw [decide_eq_false this]⟩⟩
          · have hnz : ¬ total - O.length = n := fun h => h57 (by rw [show total - O.length - n = 0 by omega]; rfl)
            refine c_skip (n_then (c_seq ?_))
            obtain ⟨Y, hY⟩ : ∃ Y, Y = total - O.length - n := ⟨_, rfl⟩
            have htd : (t.drop n).length ≤ 549755813888 := by rw [List.length_drop]; omega
            rcases hM : rdU (t.drop n) with _ | ⟨m, t2⟩
            · refine c_region (o_move rfl rfl (o_call call_ANum rfl rfl ((ANum_none (b52.ext x49) (by omega) hM)) ?_))
              rintro v60 w60 ⟨x60, rfl⟩
              refine o_move rfl rfl (o_extract rfl rfl (r_ext3_0) (o_extract rfl rfl (r_ext3_1) (o_extract rfl rfl (r_ext3_2) (o_assign rfl rfl (o_assign rfl rfl (o_assign rfl rfl (o_nil ?_)))))))
              refine n_then (c_seq (c_seq (c_region (o_move rfl rfl (o_not rfl rfl r_not (o_move rfl rfl (g_no rfl rfl rfl (g_no rfl rfl rfl (o_pick_t rfl rfl rfl (o_move rfl rfl (g_no rfl rfl rfl ?_)))))))))))
              refine g_no rfl rfl rfl (g_no rfl rfl rfl (g_no rfl rfl rfl (o_pick_t rfl rfl rfl (o_nil (n_then (c_yes rfl (c_seq (c_region (o_assign rfl rfl (o_assign rfl rfl (o_nil (n_then (c_ret (r_then ?_))))))))))))))
              refine r_block (r_then (r_block (r_then (r_body2 rfl rfl rfl ?_))))
              exact ⟨_, rfl, (x49.trans x60), by rw [hu, unp_b hlt hN, if_neg (by omega), if_neg hnz, hM]; exact ⟨_, rfl⟩⟩
            · obtain ⟨hM1, hM2⟩ := rdU_inv hM
              have ht2 : t2.length ≤ 549755813888 := by rw [hM1, List.length_append] at htd; omega
              refine c_region (o_move rfl rfl (o_call call_ANum rfl rfl ((ANum_some b52 (b52.ext x49) (by omega) hM)) ?_))
              rintro v60 w60 ⟨x60, u2, rfl, hb2⟩
              refine o_move rfl rfl (o_extract rfl rfl (r_ext3_0) (o_extract rfl rfl (r_ext3_1) (o_extract rfl rfl (r_ext3_2) (o_assign rfl rfl (o_assign rfl rfl (o_assign rfl rfl (o_nil ?_)))))))
              refine n_then (c_seq (c_seq (c_region (o_move rfl rfl (o_not rfl rfl r_not (o_move rfl rfl (g_yes rfl (o_move rfl rfl (g_yes rfl (o_bin (v := U64 4) rfl rfl rfl (r_lss_u64) (o_pick_f rfl rfl rfl ?_)))))))))))
              refine o_move rfl rfl ?_
              refine o_dec (fun h70 => ?_) (fun h70 => ?_)
              · refine g_no rfl rfl rfl (g_no rfl rfl rfl (g_no rfl rfl rfl (g_no rfl rfl rfl (o_pick_t rfl rfl rfl (o_nil (n_then (c_yes rfl (c_seq (c_region (o_assign rfl rfl (o_assign rfl rfl (o_nil ?_))))))))))))
                refine n_then (c_ret (r_then (r_block (r_then (r_block (r_then (r_body2 rfl rfl rfl ?_)))))))
                exact ⟨_, rfl, (x49.trans x60), by
                  rw [hu, unp_b hlt hN, if_neg (by omega), if_neg hnz, hM]
                  simp only [Option.bind_some]
                  rw [if_pos (by
                    first
                    | exact .inl ((lss_n (m := 4) (by omega) (by omega)).1 h70)
                    | exact .inr ((gtr_n (by omega) (by omega)).1 h75))]
                  exact ⟨_, rfl⟩⟩
              · refine g_yes rfl (o_move rfl rfl (g_yes rfl (o_move rfl rfl (g_yes rfl ?_))))
                have hX4 : 4 ≤ total - O.length - n := Nat.le_of_not_lt fun h => h70 ((lss_n (m := 4) (by omega) (by omega)).2 h)
                refine o_bin (v := U64 4) (r := U64 (UInt64.ofNat (total - O.length - n - 4))) rfl rfl rfl ((by rw [← sub_n (n := total - O.length - n) (m := 4) (by omega) hX4]; exact r_sub_u64)) ?_
                refine g_yes rfl (o_bin rfl rfl rfl (r_gtr_u64) (o_pick_f rfl rfl rfl (o_nil (n_then ?_))))
                refine c_if rfl (fun h75 => ?_) (fun h75 => ?_)
                · refine c_seq (c_region (o_assign rfl rfl (o_assign rfl rfl (o_nil (n_then (c_ret (r_then (r_block (r_then (r_block (r_then (r_body2 rfl rfl rfl ?_))))))))))))
                  exact ⟨_, rfl, (x49.trans x60), by
                    rw [hu, unp_b hlt hN, if_neg (by omega), if_neg hnz, hM]
                    simp only [Option.bind_some]
                    rw [if_pos (by
                      first
                      | exact .inl ((lss_n (m := 4) (by omega) (by omega)).1 h70)
                      | exact .inr ((gtr_n (by omega) (by omega)).1 h75))]
                    exact ⟨_, rfl⟩⟩
                · have hm1 : m ≤ total - O.length - n - 4 := Nat.le_of_not_lt (mt (gtr_n (by omega) (by omega)).2 h75)
                  refine c_skip (n_then (c_seq ?_))
                  rcases hK : rdU t2 with _ | ⟨k, t3⟩
                  · refine c_region (o_move rfl rfl (o_call call_ANum rfl rfl ((ANum_none (hb2.ext (x49.trans x60)) (by omega) hK)) ?_))
                    rintro v78 w78 ⟨x78, rfl⟩
                    refine o_move rfl rfl (o_extract rfl rfl (r_ext3_0) (o_extract rfl rfl (r_ext3_1) (o_extract rfl rfl (r_ext3_2) (o_assign rfl rfl (o_assign rfl rfl (o_assign rfl rfl (o_nil ?_)))))))
                    refine n_then (c_seq (c_seq (c_region (o_move rfl rfl (o_not rfl rfl r_not (o_move rfl rfl (g_no rfl rfl rfl (g_no rfl rfl rfl (o_pick_t rfl rfl rfl (o_move rfl rfl (g_no rfl rfl rfl ?_)))))))))))
                    refine g_no rfl rfl rfl (g_no rfl rfl rfl (g_no rfl rfl rfl (g_no rfl rfl rfl (o_pick_t rfl rfl rfl (o_nil (n_then (c_yes rfl (c_seq (c_region (o_assign rfl rfl (o_assign rfl rfl (o_nil ?_))))))))))))
                    refine n_then (c_ret (r_then (r_block (r_then (r_block (r_then (r_body2 rfl rfl rfl ?_)))))))
                    exact ⟨_, rfl, ((x49.trans x60).trans x78), by
                      rw [hu, unp_b hlt hN, if_neg (by omega), if_neg hnz, hM]
                      simp only [Option.bind_some]
                      rw [if_neg (by omega), hK]; exact ⟨_, rfl⟩⟩
                  · obtain ⟨hK1, hK2⟩ := rdU_inv hK
                    have ht3 : t3.length ≤ 549755813888 := by rw [hK1, List.length_append] at ht2; omega
                    refine c_region (o_move rfl rfl (o_call call_ANum rfl rfl ((ANum_some hb2 (hb2.ext (x49.trans x60)) (by omega) hK)) ?_))
                    rintro v78 w78 ⟨x78, u3, rfl, hb3⟩
                    refine o_move rfl rfl (o_extract rfl rfl (r_ext3_0) (o_extract rfl rfl (r_ext3_1) (o_extract rfl rfl (r_ext3_2) (o_assign rfl rfl (o_assign rfl rfl (o_assign rfl rfl (o_nil ?_)))))))
                    refine n_then (c_seq (c_seq (c_region (o_move rfl rfl (o_not rfl rfl r_not (o_move rfl rfl (g_yes rfl (o_move rfl rfl (g_yes rfl (o_bin (v := U64 4096) rfl rfl rfl (r_geq_u64) (o_pick_f rfl rfl rfl ?_)))))))))))
                    refine o_move rfl rfl ?_
                    refine o_dec (fun h88 => ?_) (fun h88 => ?_)
                    · refine g_no rfl rfl rfl (g_no rfl rfl rfl (g_no rfl rfl rfl (g_no rfl rfl rfl (g_no rfl rfl rfl (o_pick_t rfl rfl rfl (o_nil (n_then (c_yes rfl (c_seq (c_region (o_assign rfl rfl (o_assign rfl rfl ?_))))))))))))
                      refine o_nil (n_then (c_ret (r_then (r_block (r_then (r_block (r_then (r_body2 rfl rfl rfl ?_))))))))
                      exact ⟨_, rfl, ((x49.trans x60).trans x78), by
                        rw [hu, unp_b hlt hN, if_neg (by omega), if_neg hnz, hM]
                        simp only [Option.bind_some]
                        rw [if_neg (by omega), hK]
                        simp only [Option.bind_some]
                        rw [if_pos (by
                          first
                          | exact .inl ((geq_n (m := 4096) (by omega) (by omega)).1 h88)
                          | exact (.inr ((geq_n (by omega) (by simp only [List.length_append, List.length_take]; omega)).1 h94)))]
                        exact ⟨_, rfl⟩⟩
                    · refine g_yes rfl (o_move rfl rfl (g_yes rfl (o_move rfl rfl (g_yes rfl (o_len rfl rfl (r_lenB (o49.ext (x60.trans x78)).bts) (g_yes rfl (o_conv rfl rfl (r_n_u64 Try.underlying3 Try.underlying31) ?_)))))))
                      refine g_yes rfl (o_bin rfl rfl rfl (r_geq_u64) (o_pick_f rfl rfl rfl (o_nil (n_then ?_))))
                      refine c_if rfl (fun h94 => ?_) (fun h94 => ?_)
                      · refine c_seq (c_region (o_assign rfl rfl (o_assign rfl rfl (o_nil (n_then (c_ret (r_then (r_block (r_then (r_block (r_then (r_body2 rfl rfl rfl ?_))))))))))))
                        exact ⟨_, rfl, ((x49.trans x60).trans x78), by
                          rw [hu, unp_b hlt hN, if_neg (by omega), if_neg hnz, hM]
                          simp only [Option.bind_some]
                          rw [if_neg (by omega), hK]
                          simp only [Option.bind_some]
                          rw [if_pos (by
                            first
                            | exact .inl ((geq_n (m := 4096) (by omega) (by omega)).1 h88)
                            | exact (.inr ((geq_n (by omega) (by simp only [List.length_append, List.length_take]; omega)).1 h94)))]
                          exact ⟨_, rfl⟩⟩
                      · obtain ⟨O1, hO1⟩ : ∃ O1, O1 = O ++ t.take n := ⟨_, rfl⟩
                        have hOl : O1.length = O.length + n := by rw [hO1, List.length_append, List.length_take]; omega
                        have hk1 : k < 4096 := Nat.lt_of_not_le (mt (geq_n (m := 4096) (by omega) (by omega)).2 h88)
                        have hk2 : k < O1.length := by rw [hO1]; exact Nat.lt_of_not_le (mt (geq_n (by omega) (by simp only [List.length_append, List.length_take]; omega)).2 h94)
                        rw [← hO1] at o49
                        refine c_skip (n_then (c_seq (c_region (o_move rfl rfl (o_assign rfl rfl (o_nil (n_then (c_seq (c_region (o_move rfl rfl (o_len rfl rfl (r_lenB (o49.ext (x60.trans x78)).bts) (o_bin (r := I ((O1.length - 1 : Nat) : Int)) rfl rfl rfl (by have e : ((O1.length - 1 : Nat) : Int) = (O1.length : Int) - 1 := (by omega); rw [e]; exact r_sub_i (by omega) (by omega)) ?_))))))))))))
                        refine o_move rfl rfl (o_conv rfl rfl (r_u64_n Try.underlying31 Try.underlying3 (by omega)) (o_bin (r := I ((O1.length - 1 - k : Nat) : Int)) rfl rfl rfl (by have e : ((O1.length - 1 - k : Nat) : Int) = ((O1.length - 1 : Nat) : Int) - (k : Int) := (by omega); rw [e]; exact r_sub_i (by omega) (by omega)) ?_))
                        refine o_assign rfl rfl (o_nil (n_then (c_seq (c_region (o_move rfl rfl (o_conv rfl rfl (r_u64_n Try.underlying31 Try.underlying3 (by omega)) (o_bin (r := I ((m + 4 : Nat) : Int)) rfl rfl rfl (by have e : ((m + 4 : Nat) : Int) = (m : Int) + 4 := (by omega); rw [e]; exact r_add_i (by omega) (by omega)) ?_)))))))
                        refine o_move rfl rfl (o_nil (n_then (c_block ?_)))
                        refine c_loop3 (fun (j : Nat) (X : List UInt8) (vx : Value) => [(0, u3), (1, U64 (UInt64.ofNat total)), (6, vx), (13, I ((O1.length - 1 - k : Nat) : Int)), (104, I ((m + 4 : Nat) : Int)), (105, I (j : Int))]) (fun (j : Nat) (X : List UInt8) (vx : Value) w' => Ext w w' ∧ OwnB w.heap.size X vx w' ∧ X.length = O1.length + j ∧ j ≤ m + 4 ∧ cpy (k + 1) (m + 4 - j) X = cpy (k + 1) (m + 4) O1) (fun (j : Nat) (X : List UInt8) (vx : Value) => m + 4 - j) (0) (O1) (v49) ⟨rfl, rfl, rfl, rfl, rfl, rfl, trivial⟩ ⟨((x49.trans x60).trans x78), (o49.ext (x60.trans x78)), rfl, by omega, rfl⟩ ?_
                        rintro j X vx w20 ⟨e20, oX, hXl, hj, hX⟩
                        refine c_seq (c_region (o_bin rfl rfl rfl (r_lss_i) (o_nil (n_then (c_seq ?_)))))
                        refine c_if rfl (fun h106 => ?_) (fun h106 => ?_)
                        · refine c_skip (n_then (c_seq (c_block (c_seq (c_region (o_move rfl rfl (o_assign rfl rfl (o_nil (n_then (c_region (o_move rfl rfl (o_move rfl rfl (o_move rfl rfl (o_move rfl rfl (o_bin (r := I ((O1.length - 1 - k + j : Nat) : Int)) rfl rfl rfl (by have e : ((O1.length - 1 - k + j : Nat) : Int) = ((O1.length - 1 - k : Nat) : Int) + (j : Int) := (by omega); rw [e]; exact r_add_i (by omega) (by omega)) ?_)))))))))))))))
                          obtain ⟨a113, p113, q113⟩ := r_ixB oX.bts (i := O1.length - 1 - k + j) (by omega) .i64
                          refine o_indexAddr rfl rfl rfl (p113 _) (o_load rfl rfl (r_load1 Try.underlying5 rfl q113) ?_)
                          obtain ⟨v115, w115, hr115, x115, o115, ob115⟩ := r_bsB (w := w20) w20.heap.size [X[O1.length - 1 - k + j]'(by omega)] (by simp) (Nat.le_refl _)
                          refine o_buildSlice (vs := [(0, U8 (X[O1.length - 1 - k + j]))]) rfl rfl hr115 ?_
                          obtain ⟨v116, w116, hr116, o116, g116⟩ := r_appB (ty := 22) (oX.ext x115) o115.bts (by simp; omega) ((e20.trans x115)).size
                          have x116 := Ext.of_grew ((e20.trans x115)) g116 (oX.ext x115).ge
                          refine o_append rfl rfl hr116 (o_assign rfl rfl (o_nil (n_block (n_then (c_region (o_bin (r := I ((j + 1 : Nat) : Int)) rfl rfl rfl (by have e : ((j + 1 : Nat) : Int) = (j : Int) + 1 := (by omega); rw [e]; exact r_add_i (by omega) (by omega)) ?_))))))
                          refine o_move rfl rfl (o_nil ?_)
                          refine n_round3 (j + 1) (X ++ [X[O1.length - 1 - k + j]'(by omega)]) (v116) ⟨rfl, rfl, rfl, rfl, rfl, rfl, trivial⟩ ⟨x116, o116, by simp; omega, by omega, by
                            rw [← hX]
                            exact (cpy_next (by omega) hXl hk2).symm⟩ (by omega)
                        · refine c_exit (x_then (x_then (x_here (n_block ?_))))
                          refine n_round5 (f) (t3) (X) (u3) (vx) ⟨rfl, rfl, rfl, trivial⟩ ⟨e20, hb3, oX, ht3, by omega, by omega, by
                            rw [hu, unp_b hlt hN, if_neg (by omega), if_neg hnz, hM]
                            simp only [Option.bind_some]
                            rw [if_neg (by omega), hK]
                            simp only [Option.bind_some]
                            rw [← hO1, if_neg (by omega)]
                            rw [show m + 4 - j = 0 by omega] at hX
                            rw [← hX]; rfl⟩ (by omega)
  · have hlt : ¬ O.length < total := mt (lss_n (by omega) (by omega)).2 h19
    refine c_exit (x_then (x_then (x_here (n_then (c_seq (c_region (o_move rfl rfl (o_move rfl rfl (o_len rfl rfl (r_lenB (hb.ext e2)) (o_bin rfl rfl rfl (r_eql_i) (o_assign rfl rfl (o_assign rfl rfl ?_))))))))))))
    refine o_nil (n_then (c_ret (r_body2 rfl rfl rfl ?_)))
    exact ⟨_, rfl, e2, by
      rw [hu, unp_z hlt]
      by_cases hd : l = []
      · rw [if_pos hd, hd]
        exact ⟨_, rfl, (oO).bts⟩
      · rw [if_neg hd]
        have : ¬ ((l.length : Nat) : Int) = 0 := fun h => hd (List.eq_nil_of_length_eq_zero (by omega))
        exact ⟨_, by rw [decide_eq_false this]⟩⟩
end Go.Rl
/- The reference's reader, its bytes known in an earlier world. Conditions: each walk names its own. -/
namespace Go.Rl
open Go.RowKit Go.Proofs
/-- The reader at block g; its bytes are read in the world b. -/
def RfB (g : Nat) (st : Option (List UInt8)) (b w : World) : Prop := ∃ A n c, Blk g 91 [.slice A n c, B st.isNone] w ∧ Bts (st.getD []) (.slice A n c) b
section
variable {g : Nat} {st : Option (List UInt8)} {b w w' : World}
theorem RfB.ext (h : RfB g st b w) (hx : Ext w w') : RfB g st b w' := by
  obtain ⟨A, n, c, h1, h2⟩ := h
  exact ⟨A, n, c, h1.ext hx, h2⟩
theorem RfB.at_ (h : RfB g st b w) (k : Kp b w) : RfAt g st w := by
  obtain ⟨A, n, c, h1, h2⟩ := h
  exact ⟨A, n, c, h1, h2.kp k⟩
theorem RfB.other {row : Option Nat} (h : RfB g st b w) (hw : w.grownBy w' row) (hne : row ≠ some g) : RfB g st b w' := by
  obtain ⟨A, n, c, h1, h2⟩ := h
  exact ⟨A, n, c, h1.other hw (Ne.symm hne), h2⟩
theorem Bts.nil_any {v : Value} {w w' : World} (h : Bts [] v w) : Bts [] v w' := by
  obtain ⟨A, n, c, rfl, h1, h2, h3, h4, h5⟩ := h
  exact ⟨A, n, c, rfl, h1, h2, h3, fun hn => absurd h3 (by simp; omega), h5⟩
theorem RfAt.rfB (h : RfAt g none w) (b : World) : RfB g none b w := by
  obtain ⟨A, n, c, h1, h2⟩ := h
  exact ⟨A, n, c, h1, Bts.nil_any h2⟩
theorem RfB.set {l l' : List UInt8} {v : Value} (h : RfB g (some l) b w) (hv : Bts l' v b) :
    ∃ w', (Instr.storeAt 22 (.pointer (some ⟨g, 0, none⟩)) v).run Try.prog w = .ok () w' ∧ w.grownBy w' (some g) ∧ RfB g (some l') b w' := by
  obtain ⟨A, n, c, h1, h2⟩ := h
  obtain ⟨A', n', c', rfl, h3⟩ := id hv
  exact ⟨_, r_store1 (i := 0) size_bytes rfl h1 (by simp), grownBy_setCell w g 0 _, A', n', c', h1.set 0 _, hv⟩
end
def FUintB (g : Nat) (b w : World) (o : Option (Nat × List UInt8)) (r : Value) (w' : World) : Prop :=
  w.grownBy w' (some g) ∧ match o with
    | some (n, t) => r = .tuple #[U64 (UInt64.ofNat n), I 0] ∧ RfB g (some t) b w'
    | none => r = .tuple #[U64 0, I 5] ∧ RfB g none b w'
theorem FUintB_spec {b w : World} {g : Nat} {st : Option (List UInt8)} (hrb : RfB g st b w) (hkb : Kp b w) :
    Calls Try.prog 46 #[.pointer (some ⟨g, 0, none⟩)] w (Ret (FUintB g b w (st.bind rdU))) := by
  refine enter (vs := [.pointer (some ⟨g, 0, none⟩)]) Try.func46 rfl rfl rfl ?_
  have hr := hrb.at_ hkb
  obtain ⟨A, n, c0, k0, b0w⟩ := id hrb
  rw [rdU_getD]
  obtain ⟨l, hl0⟩ : ∃ l, l = st.getD [] := ⟨_, rfl⟩
  rw [← hl0] at b0w ⊢
  have b0 := b0w.kp hkb
  refine c_seq (c_region (o_assign rfl rfl (o_assign rfl rfl (o_nil (n_then (c_seq (c_region (o_assign rfl rfl (o_assign rfl rfl (o_nil (n_then (c_seq (c_seq (c_region (o_assign rfl rfl (o_nil ?_))))))))))))))))
  refine n_then (c_block ?_)
  refine c_loop3 (fun (i : Nat) (acc : UInt64) (mult : UInt64) => [(0, .pointer (some ⟨g, 0, none⟩)), (4, U64 acc), (5, U64 mult), (6, I (i : Int))]) (fun (i : Nat) (acc : UInt64) (mult : UInt64) w' => w = w' ∧ i ≤ 10 ∧ i ≤ l.length ∧ (i ≤ 9 → mult.toNat = 128 ^ i) ∧ acc.toNat < 128 ^ i ∧ rdU l = (rdUk (10 - i) i (l.drop i)).map fun p => (p.1 + acc.toNat, p.2)) (fun (i : Nat) (acc : UInt64) (mult : UInt64) => 10 - i) (0) (0) (1) ⟨rfl, rfl, rfl, rfl, trivial⟩ ⟨rfl, by omega, by omega, fun _ => rfl, by simp, by simp [rdU]⟩ ?_
  rintro i acc mult _ ⟨rfl, hi, hil, hm, ha, hrd⟩
  refine c_seq (c_seq (c_region (o_move rfl rfl (o_move rfl rfl (o_nilCheck rfl rfl (o_fieldAddr rfl rfl (r_fAt (o := 0) Try.underlying91 rfl (by kernel_rfl) rfl) ?_))))))
  refine o_load rfl rfl (r_load1 Try.underlying22 rfl (k0.cell (i := 0) rfl)) (o_len rfl rfl (r_lenB b0) (o_bin rfl rfl rfl (r_lss_i) (o_move rfl rfl ?_)))
  refine o_dec (fun h15 => ?_) (fun h15 => ?_)
  · refine g_yes rfl (o_move rfl rfl (g_yes rfl (o_bin rfl rfl rfl (r_lss_i) (o_pick_t rfl rfl rfl (o_nil (n_then ?_))))))
    refine c_if rfl (fun h18 => ?_) (fun h18 => ?_)
    · refine c_skip (n_then (c_seq (c_block (c_seq (c_region (o_move rfl rfl (o_nilCheck rfl rfl (o_fieldAddr rfl rfl (r_fAt (o := 0) Try.underlying91 rfl (by kernel_rfl) rfl) ?_))))))))
      refine o_load rfl rfl (r_load1 Try.underlying22 rfl (k0.cell (i := 0) rfl)) (o_move rfl rfl ?_)
      obtain ⟨a26, p26, q26⟩ := r_ixB b0 (i := i) (by omega) .i64
      refine o_indexAddr rfl rfl rfl (p26 _) (o_load rfl rfl (r_load1 Try.underlying5 rfl q26) ?_)
      have hil' : i < l.length := by omega
      have hdr := List.drop_eq_getElem_cons hil'
      have hd : ((l[i] % 128).toUInt64).toNat = l[i].toNat % 128 := by rw [UInt8.toNat_toUInt64, UInt8.toNat_mod]; rfl
      have hst : st = some l := by
        cases st with
        | none => rw [show l = [] from hl0] at hil'; simp at hil'
        | some l' => rw [show l = l' from hl0]
      refine o_bin (v := U8 128) rfl rfl rfl (r_rem_u8 (by decide)) (o_conv rfl rfl (r_u8_u64 Try.underlying5 Try.underlying31) (o_assign rfl rfl (o_nil ?_)))
      refine n_then (c_seq ?_)
      refine c_cut (fun _ : Unit => [(0, .pointer (some ⟨g, 0, none⟩)), (4, U64 acc), (5, U64 mult), (6, I (i : Int)), (7, U64 ((l[i] % 128).toUInt64))]) (fun _ w' => w = w' ∧ (i = 9 → l[i].toNat % 128 ≤ 1)) ?_ ?_
      · refine c_seq (c_region (o_move rfl rfl (o_bin rfl rfl rfl (r_eql_i) (o_move rfl rfl ?_))))
        refine o_dec (fun h32 => ?_) (fun h32 => ?_)
        · refine g_yes rfl (o_move rfl rfl (g_yes rfl (o_bin (v := U64 1) rfl rfl rfl (r_gtr_u64) (o_pick_t rfl rfl rfl (o_nil (n_then ?_))))))
          refine c_if rfl (fun h35 => ?_) (fun h35 => ?_)
          · have hn : rdU l = none := by
              have h35 := UInt64.lt_iff_toNat_lt.1 h35
              rw [hd, show (1 : UInt64).toNat = 1 from rfl] at h35
              rw [hrd, hdr, rdUk_step (by omega), if_pos (Or.inl ⟨by omega, by omega⟩)]; rfl
            refine c_seq (c_region (o_move rfl rfl (o_call call_Ffail rfl rfl (Ffail_spec hr) ?_)))
            rintro v37 w37 ⟨rfl, hr2, gg⟩
            have m37 := RdT.kp hr gg
            refine o_assign rfl rfl (o_assign rfl rfl (o_nil (n_then (c_ret (r_then (r_then (r_block (r_then (r_then (r_block (r_then (r_body2 rfl rfl rfl ?_))))))))))))
            exact ⟨_, rfl, gg, by rw [hn]; exact ⟨rfl, RfAt.rfB hr2 b⟩⟩
          · refine c_skip ?_
            exact n_meet () ⟨rfl, rfl, rfl, rfl, rfl, trivial⟩ ⟨rfl, fun h9 => by
              first
              | exact absurd h9 (by omega)
              | (refine Nat.le_of_not_lt fun hh => h35 (UInt64.lt_iff_toNat_lt.2 ?_); rw [hd]; exact hh)⟩
        · refine g_no rfl rfl rfl (g_no rfl rfl rfl (o_pick_f rfl rfl rfl (o_nil (n_then (c_no rfl (c_skip ?_))))))
          exact n_meet () ⟨rfl, rfl, rfl, rfl, rfl, trivial⟩ ⟨rfl, fun h9 => by
            first
            | exact absurd h9 (by omega)
            | (refine Nat.le_of_not_lt fun hh => h35 (UInt64.lt_iff_toNat_lt.2 ?_); rw [hd]; exact hh)⟩
      rintro ⟨⟩ _ ⟨rfl, h9⟩
      refine n_then (c_seq ?_)
      have hab := add_byte (c := l[i]) ha (by omega) h9 (hm (by omega))
      refine c_region (o_move rfl rfl (o_move rfl rfl (o_move rfl rfl (o_bin rfl rfl rfl (r_mul_u64) (o_bin rfl rfl rfl (r_add_u64) (o_assign rfl rfl (o_nil (n_then (c_seq (c_region (o_move rfl rfl ?_)))))))))))
      refine o_bin (v := U64 128) rfl rfl rfl (r_mul_u64) (o_assign rfl rfl (o_nil (n_then (c_seq (c_region (o_move rfl rfl (o_nilCheck rfl rfl (o_fieldAddr rfl rfl (r_fAt (o := 0) Try.underlying91 rfl (by kernel_rfl) rfl) ?_))))))))
      refine o_load rfl rfl (r_load1 Try.underlying22 rfl (k0.cell (i := 0) rfl)) (o_move rfl rfl ?_)
      obtain ⟨a50, p50, q50⟩ := r_ixB b0 (i := i) (by omega) .i64
      refine o_indexAddr rfl rfl rfl (p50 _) (o_load rfl rfl (r_load1 Try.underlying5 rfl q50) (o_bin (v := U8 128) rfl rfl rfl (r_lss_u8) (o_nil (n_then ?_))))
      refine c_if rfl (fun h52 => ?_) (fun h52 => ?_)
      · have hc : l[i].toNat < 128 := UInt8.lt_iff_toNat_lt.1 h52
        refine c_seq ?_
        refine c_cut (fun _ : Unit => [(0, .pointer (some ⟨g, 0, none⟩)), (4, U64 (acc + (l[i] % 128).toUInt64 * mult)), (6, I (i : Int))]) (fun _ w' => w = w' ∧ ¬ (0 < i ∧ l[i].toNat = 0)) ?_ ?_
        · refine c_seq (c_region (o_move rfl rfl (o_bin rfl rfl rfl (r_gtr_i) (o_move rfl rfl ?_))))
          refine o_dec (fun h55 => ?_) (fun h55 => ?_)
          · refine g_yes rfl (o_move rfl rfl (g_yes rfl (o_bin (v := U64 0) rfl rfl rfl (r_eql_u64) (o_pick_t rfl rfl rfl (o_nil (n_then ?_))))))
            refine c_if rfl (fun h58 => ?_) (fun h58 => ?_)
            · have hn : rdU l = none := by
                have h58 := congrArg UInt64.toNat h58
                rw [hd, show (0 : UInt64).toNat = 0 from rfl] at h58
                rw [hrd, hdr, rdUk_step (by omega), if_pos (Or.inr ⟨by omega, by omega⟩)]; rfl
              refine c_seq (c_region (o_move rfl rfl (o_call call_Ffail rfl rfl (Ffail_spec hr) ?_)))
              rintro v60 w60 ⟨rfl, hr2, gg⟩
              have m60 := RdT.kp hr gg
              refine o_assign rfl rfl (o_assign rfl rfl (o_nil (n_then (c_ret (r_then (r_then (r_block (r_then (r_then (r_block (r_then (r_body2 rfl rfl rfl ?_))))))))))))
              exact ⟨_, rfl, gg, by rw [hn]; exact ⟨rfl, RfAt.rfB hr2 b⟩⟩
            · refine c_skip ?_
              exact n_meet () ⟨rfl, rfl, rfl, trivial⟩ ⟨rfl, fun hh => by
                first
                | omega
                | exact h58 (by rw [UInt8.toNat_inj.1 (show l[i].toNat = (0 : UInt8).toNat from hh.2)]; rfl)⟩
          · refine g_no rfl rfl rfl (g_no rfl rfl rfl (o_pick_f rfl rfl rfl (o_nil (n_then (c_no rfl (c_skip ?_))))))
            exact n_meet () ⟨rfl, rfl, rfl, trivial⟩ ⟨rfl, fun hh => by
              first
              | omega
              | exact h58 (by rw [UInt8.toNat_inj.1 (show l[i].toNat = (0 : UInt8).toNat from hh.2)]; rfl)⟩
        rintro ⟨⟩ _ ⟨rfl, hz⟩
        refine n_then (c_seq (c_region (o_move rfl rfl (o_move rfl rfl (o_nilCheck rfl rfl (o_fieldAddr rfl rfl (r_fAt (o := 0) Try.underlying91 rfl (by kernel_rfl) rfl) ?_))))))
        refine o_load rfl rfl (r_load1 Try.underlying22 rfl (k0.cell (i := 0) rfl)) (o_move rfl rfl (o_bin (r := I ((i + 1 : Nat) : Int)) rfl rfl rfl (by have e : ((i + 1 : Nat) : Int) = (i : Int) + 1 := (by omega); rw [e]; exact r_add_i (by omega) (by omega)) ?_))
        obtain ⟨v68, p68, b68⟩ := r_slB_lo b0w (lo := i + 1) (by omega) .i64
        refine o_slice rfl rfl rfl rfl rfl (p68 _) (o_nilCheck rfl rfl (o_fieldAddr rfl rfl (r_fAt (o := 0) Try.underlying91 rfl (by kernel_rfl) rfl) ?_))
        obtain ⟨w3, hs3, q3, r3⟩ := RfB.set (by have := hrb; rw [hst] at this; exact this) b68
        refine o_store rfl rfl (hs3) (o_nil (n_then (c_seq (c_region (o_move rfl rfl (o_assign rfl rfl (o_assign rfl rfl (o_nil (n_then (c_ret (r_block (r_then (r_then (r_block (r_then (r_body2 rfl rfl rfl ?_))))))))))))))))
        exact ⟨_, rfl, q3, by
          rw [hrd, hdr, rdUk_step (by omega), if_neg (fun hh => hh.elim (fun h => by have := h9 h.1; omega) hz), if_pos hc]
          rw [Nat.mod_eq_of_lt hc] at hab
          exact ⟨by rw [Nat.add_comm, ← hab, UInt64.ofNat_toNat]; rfl, r3⟩⟩
      · have hc : ¬ l[i].toNat < 128 := fun hh => h52 (UInt8.lt_iff_toNat_lt.2 hh)
        refine c_skip (n_block (n_then (c_region (o_move rfl rfl (o_bin (r := I ((i + 1 : Nat) : Int)) rfl rfl rfl (by have e : ((i + 1 : Nat) : Int) = (i : Int) + 1 := (by omega); rw [e]; exact r_add_i (by omega) (by omega)) ?_)))))
        refine o_assign rfl rfl (o_nil ?_)
        refine n_round3 (i + 1) (acc + (l[i] % 128).toUInt64 * mult) (mult * 128) ⟨rfl, rfl, rfl, rfl, trivial⟩ ⟨rfl, by omega, by omega, fun hi9 => by
          rw [UInt64.toNat_mul, hm (by omega), show (128 : UInt64).toNat = 128 from rfl, ← Nat.pow_succ]
          exact Nat.mod_eq_of_lt (Nat.lt_of_le_of_lt (Nat.pow_le_pow_right (by omega) hi9) (by decide)), by
          rw [hab, Nat.pow_succ]
          have : (l[i].toNat % 128) * 128 ^ i ≤ 127 * 128 ^ i := Nat.mul_le_mul_right _ (by omega)
          omega, by
          rw [hrd, hdr, rdUk_step (by omega), hab]
          by_cases hi9 : i = 9
          · subst hi9
            rw [if_pos (Or.inl ⟨rfl, by omega⟩), show 10 - (9 + 1) = 0 by omega, rdUk_zero, Option.map_none, Option.map_none]
          · rw [if_neg (fun hh => by omega), if_neg hc, Option.map_map]
            congr 1
            funext p
            simp only [Function.comp, Prod.mk.injEq, and_true]
            omega⟩ (by omega)
    · refine c_exit (x_then (x_then (x_here (n_then (c_seq (c_region (o_move rfl rfl (o_call call_Ffail rfl rfl (Ffail_spec hr) ?_))))))))
      rintro v73 w73 ⟨rfl, hr2, gg⟩
      have m73 := RdT.kp hr gg
      refine o_assign rfl rfl (o_assign rfl rfl (o_nil (n_then (c_ret (r_body2 rfl rfl rfl ?_)))))
      exact ⟨_, rfl, gg, by
        have hn : rdU l = none := by
          rw [hrd]
          rcases Nat.lt_or_ge i 10 with h | h
          · rw [List.drop_of_length_le (by omega), rdUk_nil]; rfl
          · rw [show 10 - i = 0 by omega]; rfl
        rw [hn]; exact ⟨rfl, RfAt.rfB hr2 b⟩⟩
  · refine g_no rfl rfl rfl (g_no rfl rfl rfl (o_pick_f rfl rfl rfl (o_nil (n_then (c_no rfl (c_exit (x_then (x_then (x_here (n_then (c_seq (c_region (o_move rfl rfl (o_call call_Ffail rfl rfl (Ffail_spec hr) ?_))))))))))))))
    rintro v73 w73 ⟨rfl, hr2, gg⟩
    have m73 := RdT.kp hr gg
    refine o_assign rfl rfl (o_assign rfl rfl (o_nil (n_then (c_ret (r_body2 rfl rfl rfl ?_)))))
    exact ⟨_, rfl, gg, by
      have hn : rdU l = none := by
        rw [hrd]
        rcases Nat.lt_or_ge i 10 with h | h
        · rw [List.drop_of_length_le (by omega), rdUk_nil]; rfl
        · rw [show 10 - i = 0 by omega]; rfl
      rw [hn]; exact ⟨rfl, RfAt.rfB hr2 b⟩⟩
section
variable {b w : World} {g : Nat}
theorem FUintB_none {st : Option (List UInt8)} (hr : RfB g st b w) (hk : Kp b w) (h : st.bind rdU = none) : Calls Try.prog 46 #[.pointer (some ⟨g, 0, none⟩)] w (Ret fun r w' => w.grownBy w' (some g) ∧ r = .tuple #[U64 0, I 5] ∧ RfB g none b w') := by
  have := FUintB_spec hr hk
  rw [h] at this
  exact this
theorem FUintB_some {st : Option (List UInt8)} {n : Nat} {t : List UInt8} (hr : RfB g st b w) (hk : Kp b w) (h : st.bind rdU = some (n, t)) : Calls Try.prog 46 #[.pointer (some ⟨g, 0, none⟩)] w (Ret fun r w' => w.grownBy w' (some g) ∧ r = .tuple #[U64 (UInt64.ofNat n), I 0] ∧ RfB g (some t) b w') := by
  have := FUintB_spec hr hk
  rw [h] at this
  exact this
end
def FBytesB (g : Nat) (b w : World) (o : Option (List UInt8 × List UInt8)) (r : Value) (w' : World) : Prop :=
  w.grownBy w' (some g) ∧ match o with
    | some (a, t) => ∃ v, r = .tuple #[v, I 0] ∧ Bts a v w' ∧ RfB g (some t) b w'
    | none => r = .tuple #[.slice none 0 0, I 5] ∧ RfB g none b w'
theorem FBytesB_spec {b w : World} {g : Nat} {st : Option (List UInt8)} (hr : RfB g st b w) (hkb : Kp b w) (hl : ∀ l, st = some l → l.length ≤ 549755813888) :
    Calls Try.prog 47 #[.pointer (some ⟨g, 0, none⟩)] w (Ret (FBytesB g b w (st.bind rdB))) := by
  refine enter (vs := [.pointer (some ⟨g, 0, none⟩)]) Try.func47 rfl rfl rfl ?_
  refine c_seq (c_region (o_assign rfl rfl (o_assign rfl rfl (o_nil (n_then (c_seq ?_))))))
  rcases hU : st.bind rdU with _ | ⟨n, t⟩
  · refine c_region (o_move rfl rfl (o_call call_FUint rfl rfl (FUintB_none hr hkb hU) ?_))
    rintro v9 w9 ⟨x9, rfl, hr1⟩
    have m9 := RdT.kp (hr.at_ hkb) x9
    refine o_move rfl rfl (o_extract rfl rfl (r_ext0) (o_extract rfl rfl (r_ext1) (o_assign rfl rfl (o_assign rfl rfl (o_nil (n_then (c_seq (c_seq (c_region (o_move rfl rfl (o_bin rfl rfl rfl (dec_t (by decide) r_neq_i) ?_)))))))))))
    refine o_nil (n_then (c_yes rfl (c_seq (c_region (o_move rfl rfl (o_assign rfl rfl (o_assign rfl rfl (o_nil (n_then (c_ret (r_then (r_body2 rfl rfl rfl ?_))))))))))))
    exact ⟨_, rfl, x9, by rw [rdB_u0 hU]; exact ⟨rfl, hr1⟩⟩
  · obtain ⟨ht, hn⟩ := rdU_len hU hl
    refine c_region (o_move rfl rfl (o_call call_FUint rfl rfl (FUintB_some hr hkb hU) ?_))
    rintro v9 w9 ⟨x9, rfl, hr1⟩
    have m9 := RdT.kp (hr.at_ hkb) x9
    refine o_move rfl rfl (o_extract rfl rfl (r_ext0) (o_extract rfl rfl (r_ext1) ?_))
    obtain ⟨A, n', c, k, b1⟩ := id hr1
    have b0 : Bts t (.slice A n' c) b := b1
    have b1 := b0.kp (hkb.trans m9)
    have hgb : g < w9.heap.size := RfAt.lt (hr1.at_ (hkb.trans m9))
    refine o_assign rfl rfl (o_assign rfl rfl (o_nil (n_then (c_seq (c_seq (c_region (o_move rfl rfl (o_bin rfl rfl rfl (dec_f (by decide) r_neq_i) (o_nil (n_then (c_no rfl (c_skip (n_then ?_)))))))))))))
    refine c_seq (c_seq (c_region (o_move rfl rfl (o_move rfl rfl (o_nilCheck rfl rfl (o_fieldAddr rfl rfl (r_fAt (o := 0) Try.underlying91 rfl (by kernel_rfl) rfl) ?_))))))
    refine o_load rfl rfl (r_load1 Try.underlying22 rfl (k.cell (i := 0) rfl)) (o_len rfl rfl (r_lenB b1) (o_conv rfl rfl (r_n_u64 Try.underlying3 Try.underlying31) ?_))
    refine o_bin rfl rfl rfl (r_gtr_u64) (o_nil (n_then ?_))
    refine c_if rfl (fun h22 => ?_) (fun h22 => ?_)
    · have hlong : t.length < n := (gtr_n hn (by omega)).1 h22
      refine c_seq (c_region (o_move rfl rfl (o_call call_Ffail rfl rfl (Ffail_spec (hr1.at_ (hkb.trans m9))) ?_)))
      rintro v24 w24 ⟨rfl, hr2, g24⟩
      have m24 := RdT.kp (hr1.at_ (hkb.trans m9)) g24
      refine o_assign rfl rfl (o_assign rfl rfl (o_nil (n_then (c_ret (r_then (r_body2 rfl rfl rfl ?_))))))
      exact ⟨_, rfl, x9.trans g24, by rw [rdB_u1 hU, if_neg (by omega)]; exact ⟨rfl, RfAt.rfB hr2 b⟩⟩
    · have hle : n ≤ t.length := Nat.le_of_not_lt (mt (gtr_n hn (by omega)).2 h22)
      have hnn : (UInt64.ofNat n).toNat = n := by rw [UInt64.toNat_ofNat']; omega
      refine c_skip (n_then (c_seq (c_region ?_)))
      obtain ⟨v25, w25, hr25, x25, o25, ob25⟩ := r_bsB (w := w9) w9.heap.size [] (by simp) (Nat.le_refl _)
      refine o_buildSlice (vs := []) rfl rfl hr25 (o_move rfl rfl (o_nilCheck rfl rfl (o_fieldAddr rfl rfl (r_fAt (o := 0) Try.underlying91 rfl (by kernel_rfl) rfl) ?_)))
      refine o_load rfl rfl (r_load1 Try.underlying22 rfl (x25.cell_some (k.cell (i := 0) rfl))) (o_move rfl rfl ?_)
      obtain ⟨v31, p31, b31⟩ := r_slB_hi (b1.ext x25) (hi := (UInt64.ofNat n).toNat) (by omega) .u64
      rw [hnn] at b31
      refine o_slice (b := some (U64 (UInt64.ofNat n))) rfl rfl rfl rfl rfl (p31 _) ?_
      obtain ⟨v32, w32, hr32, o32, g32⟩ := r_appB (ty := 22) o25 b31 (by simp; omega) (x25).size
      have x32 := Ext.of_grew (x25) g32 o25.ge
      refine o_append rfl rfl hr32 (o_assign rfl rfl (o_nil (n_then (c_seq (c_region (o_move rfl rfl (o_move rfl rfl (o_nilCheck rfl rfl (o_fieldAddr rfl rfl (r_fAt (o := 0) Try.underlying91 rfl (by kernel_rfl) rfl) ?_)))))))))
      refine o_load rfl rfl (r_load1 Try.underlying22 rfl (x32.cell_some (k.cell (i := 0) rfl))) (o_move rfl rfl ?_)
      obtain ⟨v39, p39, b39⟩ := r_slB_lo b0 (lo := (UInt64.ofNat n).toNat) (by omega) .u64
      rw [hnn] at b39
      refine o_slice (a := some (U64 (UInt64.ofNat n))) rfl rfl rfl rfl rfl (p39 _) ?_
      have hr1' := RfB.ext hr1 x32
      have hvb : Bts (t.take n) v32 w32 := by simpa using (o32).bts
      refine o_nilCheck rfl rfl (o_fieldAddr rfl rfl (r_fAt (o := 0) Try.underlying91 rfl (by kernel_rfl) rfl) ?_)
      obtain ⟨w3, hs3, q3, r3⟩ := RfB.set hr1' b39
      refine o_store rfl rfl (hs3) ?_
      have gg := (x9.trans (gb_ext x32)).trans q3
      refine o_nil (n_then (c_seq (c_region (o_move rfl rfl (o_assign rfl rfl (o_assign rfl rfl (o_nil (n_then (c_ret (r_body2 rfl rfl rfl ?_))))))))))
      exact ⟨_, rfl, gg, by rw [rdB_u1 hU, if_pos hle]; exact ⟨_, rfl, hvb.kp (RdT.kp (hr1'.at_ ((hkb.trans m9).trans (Kp.of_ext x32))) q3), r3⟩⟩
section
variable {b w : World} {g : Nat}
theorem FBytesB_none {st : Option (List UInt8)} (hr : RfB g st b w) (hk : Kp b w) (hl : ∀ l, st = some l → l.length ≤ 549755813888) (h : st.bind rdB = none) : Calls Try.prog 47 #[.pointer (some ⟨g, 0, none⟩)] w (Ret fun r w' => w.grownBy w' (some g) ∧ r = .tuple #[.slice none 0 0, I 5] ∧ RfB g none b w') := by
  have := FBytesB_spec hr hk hl
  rw [h] at this
  exact this
theorem FBytesB_some {st : Option (List UInt8)} {a t : List UInt8} (hr : RfB g st b w) (hk : Kp b w) (hl : ∀ l, st = some l → l.length ≤ 549755813888) (h : st.bind rdB = some (a, t)) : Calls Try.prog 47 #[.pointer (some ⟨g, 0, none⟩)] w (Ret fun r w' => w.grownBy w' (some g) ∧ ∃ v, r = .tuple #[v, I 0] ∧ Bts a v w' ∧ RfB g (some t) b w') := by
  have := FBytesB_spec hr hk hl
  rw [h] at this
  exact this
end
end Go.Rl
/- relucertref10.Unpack walked. Conditions: not more than 2^32 bytes, a bound of not more than 2^32. -/
namespace Go.Rl
open Go.RowKit Go.Proofs
theorem call_TUnp : Callable Try.prog 18 := ⟨_, Try.func18, by kernel_rfl, rfl⟩
/-- What unpacking answers: the bytes, or an error. -/
def UnpR (l : List UInt8) (max : Int) (f : List UInt8 → Nat → Option (List UInt8)) (r : Value) (w' : World) : Prop :=
  if max < 0 then r = .tuple #[.slice none 0 0, I 8]
  else match rdU l with
    | none => r = .tuple #[.slice none 0 0, I 5]
    | some (n, t) => if max < (n : Int) then r = .tuple #[.slice none 0 0, I 8] else match f t n with
      | some out => ∃ v, r = .tuple #[v, I 0] ∧ Bts out v w'
      | none => r = .tuple #[.slice none 0 0, I 5]
theorem vr_of {l t O r : List UInt8} {n : Nat} (h : unr n (n + 1) t [] = some (O, r)) : vr l t n = if r = [] ∧ packed O = l then some O else none := by
  unfold vr; rw [h]; rfl
section
variable {l t : List UInt8} {max : Int} {n : Nat} {f : List UInt8 → Nat → Option (List UInt8)} {w : World}
theorem UnpR_no (hM : 0 ≤ max) (hU : rdU l = some (n, t)) (hn : (n : Int) ≤ max) (h : f t n = none) : UnpR l max f (.tuple #[.slice none 0 0, I 5]) w := by
  unfold UnpR
  rw [if_neg (by omega), hU]
  show (if max < (n : Int) then _ else _)
  rw [if_neg (by omega), h]
theorem UnpR_yes {out : List UInt8} {v : Value} (hM : 0 ≤ max) (hU : rdU l = some (n, t)) (hn : (n : Int) ≤ max) (h : f t n = some out) (hv : Bts out v w) : UnpR l max f (.tuple #[v, I 0]) w := by
  unfold UnpR
  rw [if_neg (by omega), hU]
  show (if max < (n : Int) then _ else _)
  rw [if_neg (by omega), h]
  exact ⟨v, rfl, hv⟩
end
theorem unr_a {total f : Nat} {l O : List UInt8} (h : O.length < total) (hB : rdB l = none) : unr total (f + 1) l O = none := by
  rw [unr, if_pos h, hB]; rfl
theorem unr_b {total f : Nat} {l O a t : List UInt8} (h : O.length < total) (hB : rdB l = some (a, t)) : unr total (f + 1) l O =
    if (O ++ a).length < total then
      (rdU t).bind fun q => (rdU q.2).bind fun r =>
        if total ≤ q.1 ∨ (O ++ a).length ≤ r.1 then none
        else unr total f r.2 (cpy (r.1 + 1) (min (q.1 + 4) (total - (O ++ a).length)) (O ++ a))
    else some (O ++ a, t) := by
  rw [unr, if_pos h, hB]; rfl
theorem unr_z {total f : Nat} {l O : List UInt8} (h : ¬ O.length < total) : unr total (f + 1) l O = some (O, l) := by
  rw [unr, if_neg h]
theorem rdU_le {l t : List UInt8} {n : Nat} (h : rdU l = some (n, t)) : t.length ≤ l.length := by
  obtain ⟨h1, _⟩ := rdU_inv h
  rw [h1, List.length_append]; omega
theorem rdB_le {l a t : List UInt8} (h : rdB l = some (a, t)) : a.length + t.length ≤ l.length := by
  unfold rdB at h
  cases hU : rdU l with
  | none => rw [hU] at h; cases h
  | some p =>
    obtain ⟨n, u⟩ := p
    rw [hU] at h
    have h : (if n ≤ u.length then some (u.take n, u.drop n) else none) = some (a, t) := h
    have := rdU_le hU
    split at h
    · simp only [Option.some.injEq, Prod.mk.injEq] at h
      rw [← h.1, ← h.2, List.length_take, List.length_drop]
      omega
    · cases h
theorem wrap4 {q : Nat} (_ : q < 4294967297) : UInt64.ofNat q + 4 = UInt64.ofNat (q + 4) := by
  apply UInt64.toNat_inj.1
  rw [UInt64.toNat_add, UInt64.toNat_ofNat', UInt64.toNat_ofNat', show (4 : UInt64).toNat = 4 from rfl]
  omega
theorem next_n {k : Nat} (_ : k < 4294967306) : UInt64.ofNat k + 1 = UInt64.ofNat (k + 1) := by
  apply UInt64.toNat_inj.1
  rw [UInt64.toNat_add, UInt64.toNat_ofNat', UInt64.toNat_ofNat', show (1 : UInt64).toNat = 1 from rfl]
  omega
theorem TUnp_spec {w : World} {l : List UInt8} {v : Value} {max : Int} (hv : Bts l v w) (hl : l.length ≤ 4294967296) (h1 : -9223372036854775808 ≤ max) (h2 : max ≤ 4294967296) :
    Calls Try.prog 18 #[v, I max] w (Ret fun r w' => Ext w w' ∧ UnpR l max (vr l) r w') := by
  refine enter (vs := [v, I max]) Try.func18 rfl rfl rfl ?_
  refine c_seq (c_region (o_assign rfl rfl (o_assign rfl rfl (o_nil (n_then (c_seq (c_region (o_move rfl rfl (o_call call_FNew rfl rfl ((FNew_spec hv (by omega))) ?_)))))))))
  rintro v15 w15 ⟨x15, g, lg, rfl, rr⟩
  have hgb : g < w15.heap.size := RfAt.lt rr
  have rb : RfB g (some l) w15 w15 := rr
  have kr : ∀ {w' : World}, w15.grownBy w' (some g) → Kp w15 w' := fun h => RdT.kp rr h
  refine o_assign rfl rfl (o_nil (n_then (c_seq ?_)))
  have h4 : (max < 0 ∧ rdU l = none) ∨ (max < 0 ∧ ∃ n t, rdU l = some (n, t)) ∨ (∃ M : Nat, max = (M : Int) ∧ rdU l = none) ∨ (∃ M : Nat, max = (M : Int) ∧ ∃ n t, rdU l = some (n, t)) := by
    have hM : 0 ≤ max → ∃ M : Nat, max = (M : Int) := fun h => ⟨max.toNat, by omega⟩
    cases hU : rdU l with
    | none =>
      rcases Int.lt_or_le max 0 with hm | hm
      · exact .inl ⟨hm, rfl⟩
      · obtain ⟨M, hM⟩ := hM hm
        exact .inr (.inr (.inl ⟨M, hM, rfl⟩))
    | some p =>
      rcases Int.lt_or_le max 0 with hm | hm
      · exact .inr (.inl ⟨hm, p.1, p.2, rfl⟩)
      · obtain ⟨M, hM⟩ := hM hm
        exact .inr (.inr (.inr ⟨M, hM, p.1, p.2, rfl⟩))
  rcases h4 with ⟨hm, hU⟩ | ⟨hm, n, t, hU⟩ | ⟨M, rfl, hU⟩ | ⟨M, rfl, n, t, hU⟩
  · refine c_region (o_move rfl rfl (o_call call_FUint rfl rfl ((FUintB_none rb (Kp.refl _) hU)) ?_))
    rintro v18 w18 ⟨g18, rfl, r1⟩
    have x18 := (x15.of_new g18 lg)
    refine o_move rfl rfl (o_extract rfl rfl (r_ext0) (o_extract rfl rfl (r_ext1) (o_assign rfl rfl (o_assign rfl rfl (o_nil (n_then (c_seq (c_seq (c_region (o_move rfl rfl (o_bin rfl rfl rfl (dec_t (by omega) r_lss_i) ?_)))))))))))
    refine o_move rfl rfl (g_no rfl rfl rfl (g_no rfl rfl rfl (g_no rfl rfl rfl (g_undef rfl rfl rfl (g_undef rfl rfl rfl (g_undef rfl rfl rfl (g_undef rfl rfl rfl (g_no rfl rfl rfl ?_))))))))
    refine o_pick_t rfl rfl rfl (o_nil (n_then (c_yes rfl (c_seq (c_region (o_assign rfl rfl (o_assign rfl rfl (o_nil (n_then (c_ret (r_then (r_body2 rfl rfl rfl ?_))))))))))))
    exact ⟨_, rfl, x18, by unfold UnpR; rw [if_pos hm]; rfl⟩
  · refine c_region (o_move rfl rfl (o_call call_FUint rfl rfl ((FUintB_some rb (Kp.refl _) hU)) ?_))
    rintro v18 w18 ⟨g18, rfl, r1⟩
    have x18 := (x15.of_new g18 lg)
    refine o_move rfl rfl (o_extract rfl rfl (r_ext0) (o_extract rfl rfl (r_ext1) (o_assign rfl rfl (o_assign rfl rfl (o_nil (n_then (c_seq (c_seq (c_region (o_move rfl rfl (o_bin rfl rfl rfl (dec_t (by omega) r_lss_i) ?_)))))))))))
    refine o_move rfl rfl (g_no rfl rfl rfl (g_no rfl rfl rfl (g_no rfl rfl rfl (g_undef rfl rfl rfl (g_undef rfl rfl rfl (g_undef rfl rfl rfl (g_undef rfl rfl rfl (g_no rfl rfl rfl ?_))))))))
    refine o_pick_t rfl rfl rfl (o_nil (n_then (c_yes rfl (c_seq (c_region (o_assign rfl rfl (o_assign rfl rfl (o_nil (n_then (c_ret (r_then (r_body2 rfl rfl rfl ?_))))))))))))
    exact ⟨_, rfl, x18, by unfold UnpR; rw [if_pos hm]; rfl⟩
  · refine c_region (o_move rfl rfl (o_call call_FUint rfl rfl ((FUintB_none rb (Kp.refl _) hU)) ?_))
    rintro v18 w18 ⟨g18, rfl, r1⟩
    have x18 := (x15.of_new g18 lg)
    refine o_move rfl rfl (o_extract rfl rfl (r_ext0) (o_extract rfl rfl (r_ext1) (o_assign rfl rfl (o_assign rfl rfl (o_nil (n_then (c_seq (c_seq (c_region (o_move rfl rfl (o_bin rfl rfl rfl (dec_f (by omega) r_lss_i) ?_)))))))))))
    refine o_move rfl rfl (g_yes rfl (o_move rfl rfl (g_yes rfl (o_bin rfl rfl rfl (dec_f (by decide) r_eql_i) (g_yes rfl (o_move rfl rfl (g_no rfl rfl rfl (g_no rfl rfl rfl (g_no rfl rfl rfl ?_)))))))))
    refine g_no rfl rfl rfl (g_yes rfl (o_pick_f rfl rfl rfl (o_pick_f rfl rfl rfl (o_nil (n_then (c_no rfl (c_skip (n_then (c_seq (c_region (o_assign rfl rfl (o_nil (n_then (c_seq (c_block ?_)))))))))))))))
    refine c_loop (α := Unit) (fun _ => [(6, .pointer (some ⟨g, 0, none⟩)), (0, v), (7, U64 0), (8, I 5), (9, .slice none 0 0)]) (fun _ w' => w18 = w') (fun _ => 0) (()) ⟨rfl, rfl, rfl, rfl, rfl, trivial⟩ rfl ?_
    rintro ⟨⟩ _ rfl
    refine c_seq (c_seq (c_region (o_move rfl rfl (o_bin rfl rfl rfl (dec_f (by decide) r_eql_i) (o_move rfl rfl (g_no rfl rfl rfl (g_no rfl rfl rfl (g_no rfl rfl rfl (g_no rfl rfl rfl ?_)))))))))
    refine g_no rfl rfl rfl (o_pick_f rfl rfl rfl (o_nil (n_then (c_no rfl (c_exit (x_then (x_then (x_here (n_then (c_seq (c_seq (c_grow 14 [9, 119, 125] (by kernel_rfl) (by kernel_rfl) ?_))))))))))))
    refine f_move rfl rfl (f_bin rfl rfl rfl (fun w _ => dec_t (by decide) r_neq_i) (f_move rfl rfl (f_no rfl rfl rfl (f_no rfl rfl rfl (f_no rfl rfl rfl (f_pick_t rfl rfl rfl ?_))))))
    refine f_move rfl rfl (f_no rfl rfl rfl (f_no rfl rfl rfl (f_no rfl rfl rfl (f_no rfl rfl rfl (f_no rfl rfl rfl (f_no rfl rfl rfl (f_nil ?_)))))))
    intro wg20 xg20
    rintro _ rfl
    rintro _ rfl
    rintro _ rfl
    refine o_pick_t rfl rfl rfl (o_nil (n_then (c_yes rfl (c_seq (c_region (o_assign rfl rfl (o_assign rfl rfl (o_nil (n_then (c_ret (r_then (r_body2 rfl rfl rfl ?_))))))))))))
    exact ⟨_, rfl, (x18.trans xg20), by
      unfold UnpR
      rw [if_neg (by omega), hU]; rfl⟩
  · refine c_region (o_move rfl rfl (o_call call_FUint rfl rfl ((FUintB_some rb (Kp.refl _) hU)) ?_))
    rintro v18 w18 ⟨g18, rfl, r1⟩
    have x18 := (x15.of_new g18 lg)
    refine o_move rfl rfl (o_extract rfl rfl (r_ext0) (o_extract rfl rfl (r_ext1) (o_assign rfl rfl (o_assign rfl rfl (o_nil (n_then (c_seq (c_seq ?_))))))))
    obtain ⟨hU1, hU2⟩ := rdU_inv hU
    have htl := rdU_le hU
    by_cases h30 : UInt64.ofNat n > UInt64.ofNat M
    · refine c_region (o_move rfl rfl (o_bin rfl rfl rfl (dec_f (by omega) r_lss_i) (o_move rfl rfl (g_yes rfl (o_move rfl rfl (g_yes rfl (o_bin rfl rfl rfl (dec_t (by decide) r_eql_i) ?_)))))))
      refine g_yes rfl (o_move rfl rfl (g_yes rfl (o_move rfl rfl (g_yes rfl (o_move rfl rfl (g_yes rfl (o_conv rfl rfl (r_n_u64 Try.underlying3 Try.underlying31) ?_)))))))
      refine g_yes rfl (o_bin rfl rfl rfl (dec_t h30 r_gtr_u64) (g_yes rfl (o_pick_t rfl rfl rfl (o_pick_f rfl rfl rfl (o_nil (n_then (c_yes rfl (c_seq (c_region (o_assign rfl rfl (o_assign rfl rfl ?_)))))))))))
      refine o_nil (n_then (c_ret (r_then (r_body2 rfl rfl rfl ?_))))
      exact ⟨_, rfl, x18, by
        have := (gtr_n hU2 (by omega)).1 h30
        unfold UnpR
        rw [if_neg (by omega), hU]
        show (if (M : Int) < (n : Int) then _ else _)
        rw [if_pos (by omega)]; rfl⟩
    · refine c_region (o_move rfl rfl (o_bin rfl rfl rfl (dec_f (by omega) r_lss_i) (o_move rfl rfl (g_yes rfl (o_move rfl rfl (g_yes rfl (o_bin rfl rfl rfl (dec_t (by decide) r_eql_i) ?_)))))))
      refine g_yes rfl (o_move rfl rfl (g_yes rfl (o_move rfl rfl (g_yes rfl (o_move rfl rfl (g_yes rfl (o_conv rfl rfl (r_n_u64 Try.underlying3 Try.underlying31) ?_)))))))
      refine g_yes rfl (o_bin rfl rfl rfl (dec_f h30 r_gtr_u64) (g_yes rfl (o_pick_t rfl rfl rfl (o_pick_f rfl rfl rfl (o_nil (n_then (c_no rfl (c_skip (n_then (c_seq ?_))))))))))
      have hnM : n ≤ M := Nat.le_of_not_lt (mt (gtr_n hU2 (by omega)).2 h30)
      refine c_region (o_assign rfl rfl (o_nil (n_then (c_seq (c_block ?_)))))
      refine c_loop5 (fun (e0 : Int) (f : Nat) (r : List UInt8) (O : List UInt8) (vo : Value) => [(6, .pointer (some ⟨g, 0, none⟩)), (0, v), (7, U64 (UInt64.ofNat n)), (8, I e0), (9, vo)]) (fun (e0 : Int) (f : Nat) (r : List UInt8) (O : List UInt8) (vo : Value) w' => Ext w w' ∧ w15.grownBy w' (some g) ∧ ((e0 = 0 ∧ RfB g (some r) w15 w' ∧ OwnB w15.heap.size O vo w' ∧ r.length ≤ l.length ∧ O.length ≤ n + l.length ∧ 0 < f ∧ n < f + O.length ∧ unr n (n + 1) t [] = unr n f r O) ∨ (e0 = 5 ∧ unr n (n + 1) t [] = none))) (fun (e0 : Int) (f : Nat) (r : List UInt8) (O : List UInt8) (vo : Value) => if e0 = 0 then n + 1 - O.length else 0) (0) (n + 1) (t) ([]) (.slice none 0 0) ⟨rfl, rfl, rfl, rfl, rfl, trivial⟩ ⟨x18, g18, .inl ⟨rfl, r1, OwnB.nil _ _, htl, by simp, by omega, by simp, rfl⟩⟩ ?_
      rintro e0 f r O vo w6 ⟨e6, hg6, hst⟩
      refine c_seq (c_seq ?_)
      rcases hst with ⟨he0, r6, oO, hrl, hOl, hf0, hfO, hun⟩ | ⟨he0, hun⟩
      · obtain rfl : 0 = e0 := he0.symm
        obtain ⟨f, rfl⟩ : ∃ f', f = f' + 1 := ⟨f - 1, by omega⟩
        have bO := oO.bts
        refine c_region (o_move rfl rfl (o_bin rfl rfl rfl (dec_t (by decide) r_eql_i) (o_move rfl rfl (g_yes rfl (o_move rfl rfl (g_yes rfl (o_len rfl rfl (r_lenB bO) (g_yes rfl (o_conv rfl rfl (r_n_u64 Try.underlying3 Try.underlying31) ?_)))))))))
        refine g_yes rfl (o_move rfl rfl (g_yes rfl (o_bin rfl rfl rfl (r_lss_u64) (o_pick_t rfl rfl rfl (o_nil (n_then ?_))))))
        refine c_if rfl (fun h41 => ?_) (fun h41 => ?_)
        · refine c_skip (n_then (c_block (c_seq (c_region (o_assign rfl rfl (o_nil (n_then (c_seq ?_))))))))
          have hlt : O.length < n := (lss_n (by omega) hU2).1 h41
          rcases hB : rdB r with _ | ⟨a, t2⟩
          · refine c_region (o_move rfl rfl (o_call call_FBytes rfl rfl ((FBytesB_none r6 (kr hg6) (by rintro _ ⟨⟩; omega) hB)) ?_))
            rintro v44 w44 ⟨g44, rfl, r44⟩
            have x44 := (x15.of_new (hg6.trans g44) lg)
            refine o_move rfl rfl (o_extract rfl rfl (r_ext0) (o_extract rfl rfl (r_ext1) (o_assign rfl rfl (o_assign rfl rfl (o_nil (n_then (c_seq (c_region (o_move rfl rfl (o_move rfl rfl ?_))))))))))
            obtain ⟨v49, w49, hr49, o49, g49⟩ := r_appB (ty := 22) (oO.kept g44 (.inr (oO.off hgb))) (Bts.nil w44) (by simp; omega) (Nat.le_trans hg6.size g44.size)
            have hg49 := gb_own (hg6.trans g44) g49.grown (fun k hk => oO.ge k hk)
            have x49 := x15.of_new hg49 lg
            refine o_append rfl rfl hr49 ?_
            refine o_assign rfl rfl (o_nil (n_then (c_seq (c_region (o_move rfl rfl (o_bin rfl rfl rfl (dec_f (by decide) r_eql_i) (o_move rfl rfl (g_no rfl rfl rfl (g_no rfl rfl rfl (g_no rfl rfl rfl ?_))))))))))
            refine g_no rfl rfl rfl (g_no rfl rfl rfl (o_pick_f rfl rfl rfl (o_nil (n_then (c_no rfl (c_skip (n_block ?_)))))))
            refine n_round5 (5) (0) ([]) ([]) (v49) ⟨rfl, rfl, rfl, rfl, rfl, trivial⟩ ⟨x49, hg49, .inr ⟨rfl, by rw [hun]; exact unr_a hlt hB⟩⟩ (by simp; omega)
          · have hab := rdB_le hB
            refine c_region (o_move rfl rfl (o_call call_FBytes rfl rfl ((FBytesB_some r6 (kr hg6) (by rintro _ ⟨⟩; omega) hB)) ?_))
            rintro v44 w44 ⟨g44, va, rfl, ha, r44⟩
            have x44 := (x15.of_new (hg6.trans g44) lg)
            refine o_move rfl rfl (o_extract rfl rfl (r_ext0) (o_extract rfl rfl (r_ext1) (o_assign rfl rfl (o_assign rfl rfl (o_nil (n_then (c_seq (c_region (o_move rfl rfl (o_move rfl rfl ?_))))))))))
            obtain ⟨v49, w49, hr49, o49, g49⟩ := r_appB (ty := 22) (oO.kept g44 (.inr (oO.off hgb))) ha (by omega) (Nat.le_trans hg6.size g44.size)
            have hg49 := gb_own (hg6.trans g44) g49.grown (fun k hk => oO.ge k hk)
            have x49 := x15.of_new hg49 lg
            refine o_append rfl rfl hr49 ?_
            have r49 := r44.other g49.grown (oO.off hgb)
            obtain ⟨O1, hO1⟩ : ∃ O1, O1 = O ++ a := ⟨_, rfl⟩
            have hOl1 : O1.length = O.length + a.length := by rw [hO1, List.length_append]
            have hstep := unr_b (f := f) hlt hB
            rw [← hO1] at o49 hstep
            have b49 := o49.bts
            refine o_assign rfl rfl (o_nil (n_then (c_seq (c_region (o_move rfl rfl (o_bin rfl rfl rfl (dec_t (by decide) r_eql_i) (o_move rfl rfl (g_yes rfl (o_move rfl rfl (g_yes rfl (o_len rfl rfl (r_lenB b49) ?_)))))))))))
            refine g_yes rfl (o_conv rfl rfl (r_n_u64 Try.underlying3 Try.underlying31) (g_yes rfl (o_move rfl rfl (g_yes rfl (o_bin rfl rfl rfl (r_lss_u64) (o_pick_t rfl rfl rfl ?_))))))
            refine o_nil (n_then ?_)
            refine c_if rfl (fun h58 => ?_) (fun h58 => ?_)
            · have hlt1 : O1.length < n := (lss_n (by omega) hU2).1 h58
              rw [if_pos hlt1] at hstep
              refine c_seq (c_region (o_assign rfl rfl (o_assign rfl rfl (o_nil (n_then (c_seq ?_))))))
              rcases hM : rdU t2 with _ | ⟨m, t3⟩
              · refine c_region (o_move rfl rfl (o_call call_FUint rfl rfl ((FUintB_none r49 (kr hg49) hM)) ?_))
                rintro v61 w61 ⟨g61, rfl, r61⟩
                have x61 := (x15.of_new (hg49.trans g61) lg)
                refine o_move rfl rfl (o_extract rfl rfl (r_ext0) (o_extract rfl rfl (r_ext1) (o_assign rfl rfl (o_nil (n_then (c_seq (c_region (o_move rfl rfl (o_call call_FUint rfl rfl ((FUintB_none r61 (kr (hg49.trans g61)) rfl)) ?_)))))))))
                rintro v66 w66 ⟨g66, rfl, r66⟩
                have x66 := (x15.of_new ((hg49.trans g61).trans g66) lg)
                refine o_move rfl rfl (o_extract rfl rfl (r_ext0) (o_extract rfl rfl (r_ext1) (o_assign rfl rfl (o_assign rfl rfl (o_nil (n_then (c_seq (c_seq (c_region (o_move rfl rfl (o_bin rfl rfl rfl (dec_f (by decide) r_eql_i) ?_)))))))))))
                refine o_move rfl rfl (g_no rfl rfl rfl (g_no rfl rfl rfl (g_no rfl rfl rfl (g_no rfl rfl rfl (g_undef rfl rfl rfl (g_undef rfl rfl rfl (g_undef rfl rfl rfl (g_undef rfl rfl rfl ?_))))))))
                refine g_undef rfl rfl rfl (g_no rfl rfl rfl (o_pick_f rfl rfl rfl (o_nil (n_then (c_no rfl (c_skip (n_then (c_seq (c_region (o_assign rfl rfl (o_nil (n_then (c_block ?_)))))))))))))
                refine c_loop (α := Unit) (fun _ => [(6, .pointer (some ⟨g, 0, none⟩)), (0, v), (7, U64 (UInt64.ofNat n)), (8, I 5), (9, v49)]) (fun _ w' => w66 = w') (fun _ => 0) (()) ⟨rfl, rfl, rfl, rfl, rfl, trivial⟩ rfl ?_
                rintro ⟨⟩ _ rfl
                refine c_seq (c_seq (c_region (o_move rfl rfl (o_bin rfl rfl rfl (dec_f (by decide) r_eql_i) (o_move rfl rfl (g_no rfl rfl rfl (g_no rfl rfl rfl (g_no rfl rfl rfl (g_no rfl rfl rfl ?_)))))))))
                refine o_pick_f rfl rfl rfl (o_move rfl rfl (g_no rfl rfl rfl (g_no rfl rfl rfl (g_no rfl rfl rfl (g_no rfl rfl rfl (g_no rfl rfl rfl (o_pick_f rfl rfl rfl (o_nil (n_then (c_no rfl ?_))))))))))
                refine c_exit (x_then (x_then (x_here (n_block ?_))))
                refine n_round5 (5) (0) ([]) ([]) (v49) ⟨rfl, rfl, rfl, rfl, rfl, trivial⟩ ⟨x66, (hg49.trans g61).trans g66, .inr ⟨rfl, by rw [hun, hstep, hM]; rfl⟩⟩ (by simp; omega)
              · obtain ⟨hM1, hM2⟩ := rdU_inv hM
                refine c_region (o_move rfl rfl (o_call call_FUint rfl rfl ((FUintB_some r49 (kr hg49) hM)) ?_))
                rintro v61 w61 ⟨g61, rfl, r61⟩
                have x61 := (x15.of_new (hg49.trans g61) lg)
                refine o_move rfl rfl (o_extract rfl rfl (r_ext0) (o_extract rfl rfl (r_ext1) (o_assign rfl rfl (o_nil (n_then (c_seq ?_))))))
                rcases hK : rdU t3 with _ | ⟨k, t4⟩
                · refine c_region (o_move rfl rfl (o_call call_FUint rfl rfl ((FUintB_none r61 (kr (hg49.trans g61)) hK)) ?_))
                  rintro v66 w66 ⟨g66, rfl, r66⟩
                  have x66 := (x15.of_new ((hg49.trans g61).trans g66) lg)
                  refine o_move rfl rfl (o_extract rfl rfl (r_ext0) (o_extract rfl rfl (r_ext1) (o_assign rfl rfl (o_assign rfl rfl (o_nil (n_then (c_seq (c_seq (c_region (o_move rfl rfl (o_bin rfl rfl rfl (dec_f (by decide) r_eql_i) ?_)))))))))))
                  refine o_move rfl rfl (g_no rfl rfl rfl (g_no rfl rfl rfl (g_no rfl rfl rfl (g_no rfl rfl rfl (g_undef rfl rfl rfl (g_undef rfl rfl rfl (g_undef rfl rfl rfl (g_undef rfl rfl rfl ?_))))))))
                  refine g_undef rfl rfl rfl (g_no rfl rfl rfl (o_pick_f rfl rfl rfl (o_nil (n_then (c_no rfl (c_skip (n_then (c_seq (c_region (o_assign rfl rfl (o_nil (n_then (c_block ?_)))))))))))))
                  refine c_loop (α := Unit) (fun _ => [(6, .pointer (some ⟨g, 0, none⟩)), (0, v), (7, U64 (UInt64.ofNat n)), (8, I 5), (9, v49)]) (fun _ w' => w66 = w') (fun _ => 0) (()) ⟨rfl, rfl, rfl, rfl, rfl, trivial⟩ rfl ?_
                  rintro ⟨⟩ _ rfl
                  refine c_seq (c_seq (c_region (o_move rfl rfl (o_bin rfl rfl rfl (dec_f (by decide) r_eql_i) (o_move rfl rfl (g_no rfl rfl rfl (g_no rfl rfl rfl (g_no rfl rfl rfl (g_no rfl rfl rfl ?_)))))))))
                  refine o_pick_f rfl rfl rfl (o_move rfl rfl (g_no rfl rfl rfl (g_no rfl rfl rfl (g_no rfl rfl rfl (g_no rfl rfl rfl (g_no rfl rfl rfl (o_pick_f rfl rfl rfl (o_nil (n_then (c_no rfl ?_))))))))))
                  refine c_exit (x_then (x_then (x_here (n_block ?_))))
                  refine n_round5 (5) (0) ([]) ([]) (v49) ⟨rfl, rfl, rfl, rfl, rfl, trivial⟩ ⟨x66, (hg49.trans g61).trans g66, .inr ⟨rfl, by
                    rw [hun, hstep, hM]
                    simp only [Option.bind_some]
                    rw [hK]; rfl⟩⟩ (by simp; omega)
                · obtain ⟨hK1, hK2⟩ := rdU_inv hK
                  refine c_region (o_move rfl rfl (o_call call_FUint rfl rfl ((FUintB_some r61 (kr (hg49.trans g61)) hK)) ?_))
                  rintro v66 w66 ⟨g66, rfl, r66⟩
                  have x66 := (x15.of_new ((hg49.trans g61).trans g66) lg)
                  refine o_move rfl rfl (o_extract rfl rfl (r_ext0) (o_extract rfl rfl (r_ext1) ?_))
                  have hg66 := (hg49.trans g61).trans g66
                  have o66 := (o49.kept g61 (.inr (o49.off hgb))).kept g66 (.inr (o49.off hgb))
                  have b66 := o66.bts
                  refine o_assign rfl rfl (o_assign rfl rfl (o_nil (n_then (c_seq (c_seq (c_region (o_move rfl rfl (o_bin rfl rfl rfl (dec_t (by decide) r_eql_i) (o_move rfl rfl (g_yes rfl (o_move rfl rfl ?_)))))))))))
                  refine g_yes rfl (o_move rfl rfl (g_yes rfl (o_bin rfl rfl rfl (r_geq_u64) (g_yes rfl (o_move rfl rfl ?_)))))
                  refine o_dec (fun h75 => ?_) (fun h75 => ?_)
                  · refine g_no rfl rfl rfl (g_no rfl rfl rfl (g_no rfl rfl rfl (g_no rfl rfl rfl (g_no rfl rfl rfl (g_yes rfl (o_pick_t rfl rfl rfl (o_pick_t rfl rfl rfl (o_nil (n_then (c_yes rfl (c_region ?_)))))))))))
                    refine o_assign rfl rfl (o_nil (n_then (c_seq (c_region (o_assign rfl rfl (o_nil (n_then (c_block ?_))))))))
                    refine c_loop (α := Unit) (fun _ => [(6, .pointer (some ⟨g, 0, none⟩)), (0, v), (7, U64 (UInt64.ofNat n)), (8, I 5), (9, v49)]) (fun _ w' => w66 = w') (fun _ => 0) (()) ⟨rfl, rfl, rfl, rfl, rfl, trivial⟩ rfl ?_
                    rintro ⟨⟩ _ rfl
                    refine c_seq (c_seq (c_region (o_move rfl rfl (o_bin rfl rfl rfl (dec_f (by decide) r_eql_i) (o_move rfl rfl (g_no rfl rfl rfl (g_no rfl rfl rfl (g_no rfl rfl rfl (g_no rfl rfl rfl ?_)))))))))
                    refine o_pick_f rfl rfl rfl (o_move rfl rfl (g_no rfl rfl rfl (g_no rfl rfl rfl (g_no rfl rfl rfl (g_no rfl rfl rfl (g_no rfl rfl rfl (o_pick_f rfl rfl rfl (o_nil (n_then (c_no rfl ?_))))))))))
                    refine c_exit (x_then (x_then (x_here (n_block ?_))))
                    refine n_round5 (5) (0) ([]) ([]) (v49) ⟨rfl, rfl, rfl, rfl, rfl, trivial⟩ ⟨x66, hg66, .inr ⟨rfl, by
                      rw [hun, hstep, hM]
                      simp only [Option.bind_some]
                      rw [hK]
                      simp only [Option.bind_some]
                      rw [if_pos (by
                        first
                        | exact .inl ((geq_n hM2 hU2).1 h75)
                        | exact .inr ((geq_n hK2 (by omega)).1 h82))]⟩⟩ (by simp; omega)
                  · refine g_yes rfl (o_move rfl rfl (g_yes rfl (o_move rfl rfl (g_yes rfl (o_len rfl rfl (r_lenB b66) (g_yes rfl (o_conv rfl rfl (r_n_u64 Try.underlying3 Try.underlying31) ?_)))))))
                    refine g_yes rfl (o_bin rfl rfl rfl (r_geq_u64) (g_yes rfl (o_pick_f rfl rfl rfl (o_pick_t rfl rfl rfl (o_nil (n_then ?_))))))
                    refine c_if rfl (fun h82 => ?_) (fun h82 => ?_)
                    · refine c_region (o_assign rfl rfl (o_nil (n_then (c_seq (c_region (o_assign rfl rfl (o_nil (n_then (c_block ?_)))))))))
                      refine c_loop (α := Unit) (fun _ => [(6, .pointer (some ⟨g, 0, none⟩)), (0, v), (7, U64 (UInt64.ofNat n)), (8, I 5), (9, v49)]) (fun _ w' => w66 = w') (fun _ => 0) (()) ⟨rfl, rfl, rfl, rfl, rfl, trivial⟩ rfl ?_
                      rintro ⟨⟩ _ rfl
                      refine c_seq (c_seq (c_region (o_move rfl rfl (o_bin rfl rfl rfl (dec_f (by decide) r_eql_i) (o_move rfl rfl (g_no rfl rfl rfl (g_no rfl rfl rfl (g_no rfl rfl rfl (g_no rfl rfl rfl ?_)))))))))
                      refine o_pick_f rfl rfl rfl (o_move rfl rfl (g_no rfl rfl rfl (g_no rfl rfl rfl (g_no rfl rfl rfl (g_no rfl rfl rfl (g_no rfl rfl rfl (o_pick_f rfl rfl rfl (o_nil (n_then (c_no rfl ?_))))))))))
                      refine c_exit (x_then (x_then (x_here (n_block ?_))))
                      refine n_round5 (5) (0) ([]) ([]) (v49) ⟨rfl, rfl, rfl, rfl, rfl, trivial⟩ ⟨x66, hg66, .inr ⟨rfl, by
                        rw [hun, hstep, hM]
                        simp only [Option.bind_some]
                        rw [hK]
                        simp only [Option.bind_some]
                        rw [if_pos (by
                          first
                          | exact .inl ((geq_n hM2 hU2).1 h75)
                          | exact .inr ((geq_n hK2 (by omega)).1 h82))]⟩⟩ (by simp; omega)
                    · have hmn : m < n := Nat.lt_of_not_le (mt (geq_n hM2 hU2).2 h75)
                      have hkO : k < O1.length := Nat.lt_of_not_le (mt (geq_n hK2 (by omega)).2 h82)
                      obtain ⟨c, hc⟩ : ∃ c, c = min (m + 4) (n - O1.length) := ⟨_, rfl⟩
                      refine c_skip (n_then (c_seq (c_region (o_assign rfl rfl (o_nil (n_then (c_block ?_)))))))
                      refine c_loop3 (fun (j : Nat) (X : List UInt8) (vx : Value) => [(6, .pointer (some ⟨g, 0, none⟩)), (0, v), (7, U64 (UInt64.ofNat n)), (8, I 0), (9, vx), (11, U64 (UInt64.ofNat m)), (12, U64 (UInt64.ofNat k)), (13, U64 (UInt64.ofNat j))]) (fun (j : Nat) (X : List UInt8) (vx : Value) w' => Ext w w' ∧ w15.grownBy w' (some g) ∧ RfB g (some t4) w15 w' ∧ OwnB w15.heap.size X vx w' ∧ X.length = O1.length + j ∧ j ≤ c ∧ cpy (k + 1) (c - j) X = cpy (k + 1) c O1) (fun (j : Nat) (X : List UInt8) (vx : Value) => c - j) (0) (O1) (v49) ⟨rfl, rfl, rfl, rfl, rfl, rfl, rfl, rfl, trivial⟩ ⟨x66, hg66, r66, o66, rfl, by omega, rfl⟩ ?_
                      rintro j X vx w17 ⟨e17, hg17, r17, oX, hXl, hj, hX⟩
                      refine c_seq (c_seq ?_)
                      have bX := oX.bts
                      refine c_region (o_move rfl rfl (o_bin rfl rfl rfl (dec_t (by decide) r_eql_i) (o_move rfl rfl (g_yes rfl (o_move rfl rfl (g_yes rfl (o_move rfl rfl (g_yes rfl (o_bin (v := U64 4) (r := U64 (UInt64.ofNat (m + 4))) rfl rfl rfl ((by rw [← wrap4 (by omega)]; exact r_add_u64)) ?_)))))))))
                      refine g_yes rfl (o_bin rfl rfl rfl (r_lss_u64) (o_pick_t rfl rfl rfl (o_move rfl rfl ?_)))
                      refine o_dec (fun h91 => ?_) (fun h91 => ?_)
                      · refine g_yes rfl (o_move rfl rfl (g_yes rfl (o_len rfl rfl (r_lenB bX) (g_yes rfl (o_conv rfl rfl (r_n_u64 Try.underlying3 Try.underlying31) (g_yes rfl (o_move rfl rfl ?_)))))))
                        refine g_yes rfl (o_bin rfl rfl rfl (r_lss_u64) (o_pick_t rfl rfl rfl (o_nil (n_then ?_))))
                        refine c_if rfl (fun h97 => ?_) (fun h97 => ?_)
                        · have hj1 : j < m + 4 := (lss_n (by omega) (by omega)).1 h91
                          have hj2 : X.length < n := (lss_n (by omega) hU2).1 h97
                          refine c_skip (n_then (c_seq (c_block (c_region (o_move rfl rfl (o_move rfl rfl (o_move rfl rfl (o_len rfl rfl (r_lenB bX) (o_bin (r := I ((X.length - 1 : Nat) : Int)) rfl rfl rfl (by have e : ((X.length - 1 : Nat) : Int) = (X.length : Int) - 1 := (by omega); rw [e]; exact r_sub_i (by omega) (by omega)) ?_)))))))))
                          refine o_move rfl rfl (o_conv rfl rfl (r_u64_n Try.underlying31 Try.underlying3 (by omega)) (o_bin (r := I ((O1.length - 1 - k + j : Nat) : Int)) rfl rfl rfl (by have e : ((O1.length - 1 - k + j : Nat) : Int) = ((X.length - 1 : Nat) : Int) - (k : Int) := (by omega); rw [e]; exact r_sub_i (by omega) (by omega)) ?_))
                          obtain ⟨a108, p108, q108⟩ := r_ixB bX (i := O1.length - 1 - k + j) (by omega) .i64
                          refine o_indexAddr rfl rfl rfl (p108 _) (o_load rfl rfl (r_load1 Try.underlying5 rfl q108) ?_)
                          obtain ⟨v110, w110, hr110, x110, o110, ob110⟩ := r_bsB (w := w17) w17.heap.size [X[O1.length - 1 - k + j]'(by omega)] (by simp) (Nat.le_refl _)
                          refine o_buildSlice (vs := [(0, U8 (X[O1.length - 1 - k + j]))]) rfl rfl hr110 ?_
                          obtain ⟨v111, w111, hr111, o111, g111⟩ := r_appB (ty := 22) (oX.ext x110) o110.bts (by simp; omega) (Nat.le_trans hg17.size x110.size)
                          have hg111 := gb_own (hg17.trans (gb_ext x110)) g111.grown (fun k hk => oX.ge k hk)
                          have x111 := x15.of_new hg111 lg
                          refine o_append rfl rfl hr111 ?_
                          have r111 := (r17.ext x110).other g111.grown (oX.off hgb)
                          refine o_assign rfl rfl (o_nil (n_block (n_then (c_region (o_move rfl rfl (o_bin (v := U64 1) (r := U64 (UInt64.ofNat (j + 1))) rfl rfl rfl ((by rw [← next_n (by omega)]; exact r_add_u64)) ?_))))))
                          refine o_assign rfl rfl (o_nil ?_)
                          refine n_round3 (j + 1) (X ++ [X[O1.length - 1 - k + j]'(by omega)]) (v111) ⟨rfl, rfl, rfl, rfl, rfl, rfl, rfl, rfl, trivial⟩ ⟨x111, hg111, r111, o111, by simp; omega, by omega, by
                            rw [← hX]
                            exact (cpy_next (by omega) hXl hkO).symm⟩ (by omega)
                        · refine c_exit (x_then (x_then (x_here (n_block ?_))))
                          have hjc : j = c := by
                            first
                            | (have := mt (lss_n (by omega) (by omega)).2 h91; omega)
                            | (have := mt (lss_n (by omega) hU2).2 h97; omega)
                          refine n_round5 (0) (f) (t4) (X) (vx) ⟨rfl, rfl, rfl, rfl, rfl, trivial⟩ ⟨e17, hg17, .inl ⟨rfl, r17, oX, by have := rdU_le hM; have := rdU_le hK; omega, by omega, by omega, by omega, by
                            rw [hun, hstep, hM]
                            simp only [Option.bind_some]
                            rw [hK]
                            simp only [Option.bind_some]
                            rw [if_neg (by omega), ← hc, ← hX, hjc, Nat.sub_self]; rfl⟩⟩ (by simp; omega)
                      · refine g_no rfl rfl rfl (g_no rfl rfl rfl (g_no rfl rfl rfl (g_no rfl rfl rfl (g_no rfl rfl rfl (o_pick_f rfl rfl rfl (o_nil (n_then (c_no rfl (c_exit (x_then (x_then (x_here (n_block ?_)))))))))))))
                        have hjc : j = c := by
                          first
                          | (have := mt (lss_n (by omega) (by omega)).2 h91; omega)
                          | (have := mt (lss_n (by omega) hU2).2 h97; omega)
                        refine n_round5 (0) (f) (t4) (X) (vx) ⟨rfl, rfl, rfl, rfl, rfl, trivial⟩ ⟨e17, hg17, .inl ⟨rfl, r17, oX, by have := rdU_le hM; have := rdU_le hK; omega, by omega, by omega, by omega, by
                          rw [hun, hstep, hM]
                          simp only [Option.bind_some]
                          rw [hK]
                          simp only [Option.bind_some]
                          rw [if_neg (by omega), ← hc, ← hX, hjc, Nat.sub_self]; rfl⟩⟩ (by simp; omega)
            · have hge : ¬ O1.length < n := mt (lss_n (by omega) hU2).2 h58
              refine c_skip (n_block ?_)
              refine n_round5 (0) (f + 1) (t2) (O1) (v49) ⟨rfl, rfl, rfl, rfl, rfl, trivial⟩ ⟨x49, hg49, .inl ⟨rfl, r49, o49, by omega, by omega, by omega, by omega, by rw [hun, hstep, if_neg hge, unr_z hge]⟩⟩ (by simp; omega)
        · have hge : ¬ O.length < n := mt (lss_n (by omega) hU2).2 h41
          have hz := unr_z (total := n) (f := f) (l := r) hge
          refine c_exit (x_then (x_then (x_here (n_then (c_seq (c_seq ?_))))))
          rcases r with _ | ⟨r0, rs⟩
          · refine c_grow 14 [9, 119, 125] (by kernel_rfl) (by kernel_rfl) ?_
            refine f_move rfl rfl (f_bin rfl rfl rfl (fun w _ => dec_f (by decide) r_neq_i) (f_move rfl rfl (f_yes rfl rfl (f_move rfl rfl (f_yes rfl rfl (f_call (S := Is (I 0)) call_FDone (Stable.is _) rfl (fun w hw => by rintro _ rfl; exact Ret.mono (FDone_spec (RdT.ext (r6.at_ (kr hg6)) hw)) fun v w' h => ⟨h.2 ▸ Ext.refl _, h.1.trans (by rw [if_pos rfl])⟩) ?_))))))
            refine f_yes rfl rfl (f_bin rfl rfl rfl (fun w _ => dec_f (by decide) r_neq_i) (f_pick_f rfl rfl rfl (f_move rfl rfl (f_yes rfl rfl (f_move rfl rfl (f_yes rfl rfl (f_call (S := Bts (packed O)) call_TPack (Bts.stable _) rfl (fun w hw => by rintro _ rfl; exact Ret.mono (TPack_spec (bO.ext hw) (by omega)) fun v w' h => h) ?_)))))))
            refine f_yes rfl rfl (f_convS rfl (Stable.is _) rfl (fun w v hw hv => ⟨_, w, r_str hv, Ext.refl _, rfl⟩) (f_yes rfl rfl (f_move rfl rfl (f_yes rfl rfl (f_conv rfl rfl (fun w hw => r_str ((hv.ext e6).ext hw)) ?_)))))
            refine f_yes rfl rfl (f_bin rfl rfl rfl (fun w _ => r_neq_s) (f_nil ?_))
            intro wg20 xg20
            rintro _ hq9
            obtain rfl := Eq.symm hq9
            rintro _ rfl
            rintro _ rfl
            refine o_pick_f rfl rfl rfl (o_nil (n_then ?_))
            refine c_if rfl (fun h126 => ?_) (fun h126 => ?_)
            · refine c_seq (c_region (o_assign rfl rfl (o_assign rfl rfl (o_nil (n_then (c_ret (r_then (r_body2 rfl rfl rfl ?_))))))))
              exact ⟨_, rfl, (e6.trans xg20), by
                first
                | exact UnpR_no (by omega) hU (by omega) (by rw [vr_of (hun.trans hz), if_neg (fun h => h126 h.2)])
                | exact UnpR_yes (by omega) hU (by omega) (by rw [vr_of (hun.trans hz), if_pos ⟨rfl, Classical.byContradiction h126⟩]) (bO.ext xg20)⟩
            · refine c_skip (n_then (c_seq (c_region (o_move rfl rfl (o_assign rfl rfl (o_assign rfl rfl (o_nil (n_then (c_ret (r_body2 rfl rfl rfl ?_))))))))))
              exact ⟨_, rfl, (e6.trans xg20), by
                first
                | exact UnpR_no (by omega) hU (by omega) (by rw [vr_of (hun.trans hz), if_neg (fun h => h126 h.2)])
                | exact UnpR_yes (by omega) hU (by omega) (by rw [vr_of (hun.trans hz), if_pos ⟨rfl, Classical.byContradiction h126⟩]) (bO.ext xg20)⟩
          · refine c_grow 14 [9, 119, 125] (by kernel_rfl) (by kernel_rfl) ?_
            refine f_move rfl rfl (f_bin rfl rfl rfl (fun w _ => dec_f (by decide) r_neq_i) (f_move rfl rfl (f_yes rfl rfl (f_move rfl rfl (f_yes rfl rfl (f_call (S := Is (I 5)) call_FDone (Stable.is _) rfl (fun w hw => by rintro _ rfl; exact Ret.mono (FDone_spec (RdT.ext (r6.at_ (kr hg6)) hw)) fun v w' h => ⟨h.2 ▸ Ext.refl _, h.1.trans (by rw [if_neg (by simp)])⟩) ?_))))))
            refine f_yes rfl rfl (f_bin rfl rfl rfl (fun w _ => dec_t (by decide) r_neq_i) (f_pick_f rfl rfl rfl (f_move rfl rfl (f_no rfl rfl rfl (f_no rfl rfl rfl (f_no rfl rfl rfl ?_))))))
            refine f_no rfl rfl rfl (f_no rfl rfl rfl (f_no rfl rfl rfl (f_nil ?_)))
            intro wg20 xg20
            rintro _ hq9
            obtain rfl := Eq.symm hq9
            rintro _ rfl
            rintro _ rfl
            refine o_pick_t rfl rfl rfl (o_nil (n_then (c_yes rfl (c_seq (c_region (o_assign rfl rfl (o_assign rfl rfl (o_nil (n_then (c_ret (r_then (r_body2 rfl rfl rfl ?_))))))))))))
            exact ⟨_, rfl, (e6.trans xg20), UnpR_no (by omega) hU (by omega) (by rw [vr_of (hun.trans hz), if_neg (by simp)])⟩
      · obtain rfl : 5 = e0 := he0.symm
        refine c_region (o_move rfl rfl (o_bin rfl rfl rfl (dec_f (by decide) r_eql_i) (o_move rfl rfl (g_no rfl rfl rfl (g_no rfl rfl rfl (g_no rfl rfl rfl (g_no rfl rfl rfl (g_no rfl rfl rfl ?_))))))))
        refine o_pick_f rfl rfl rfl (o_nil (n_then (c_no rfl (c_exit (x_then (x_then (x_here (n_then (c_seq (c_seq (c_grow 14 [9, 119, 125] (by kernel_rfl) (by kernel_rfl) ?_)))))))))))
        refine f_move rfl rfl (f_bin rfl rfl rfl (fun w _ => dec_t (by decide) r_neq_i) (f_move rfl rfl (f_no rfl rfl rfl (f_no rfl rfl rfl (f_no rfl rfl rfl (f_pick_t rfl rfl rfl ?_))))))
        refine f_move rfl rfl (f_no rfl rfl rfl (f_no rfl rfl rfl (f_no rfl rfl rfl (f_no rfl rfl rfl (f_no rfl rfl rfl (f_no rfl rfl rfl (f_nil ?_)))))))
        intro wg20 xg20
        rintro _ hq9
        obtain rfl := Eq.symm hq9
        rintro _ rfl
        rintro _ rfl
        refine o_pick_t rfl rfl rfl (o_nil (n_then (c_yes rfl (c_seq (c_region (o_assign rfl rfl (o_assign rfl rfl (o_nil (n_then (c_ret (r_then (r_body2 rfl rfl rfl ?_))))))))))))
        exact ⟨_, rfl, (e6.trans xg20), UnpR_no (by omega) hU (by omega) (by unfold vr; rw [hun]; rfl)⟩
end Go.Rl
/- Four bytes of a finder, and slices.Backward. Conditions: the bytes are not more than 2^40. -/
namespace Go.Rl
open Go.RowKit Go.Proofs
theorem call_Key : Callable Try.prog 63 := ⟨_, Try.func63, by kernel_rfl, rfl⟩
theorem call_Bwd : Callable Try.prog 64 := ⟨_, Try.func64, by kernel_rfl, rfl⟩
theorem call_Bwd1 : Callable Try.prog 73 := ⟨_, Try.func73, by kernel_rfl, rfl⟩
section
variable {P : Program} {w : World}
theorem r_toArr {t e : TypeId} {n : Nat} (ht : P.underlying t = some (.array n e)) {xs : List Value} {v : Value} (h : Sl 1 xs v w) (hn : n ≤ xs.length) (h0 : 0 < n) :
    ∃ ad, (∀ w' : World, (Instr.arrayAt t v).run P w' = .ok (.pointer (some ad)) w') ∧ Cells w ad (xs.take n) := by
  obtain ⟨A, m, c, rfl, hmc, hcm, hl, hc, hnone⟩ := h
  obtain ⟨ad, rfl, hcl⟩ := hc (by omega)
  refine ⟨ad, fun w' => ?_, hcl.take _⟩
  have : ¬ m < n := by omega
  simp [Instr.arrayAt, run_underlying ht, this]
theorem r_ldCells {t : TypeId} {d : TypeDesc} {m : List Value} {ad : Addr} (hu : P.underlying t = some d) (hd : d.isRow = true) (hi : (P.info? t).map (·.size) = some m.length) (h : Cells w ad m) :
    (Instr.loadAt t (.pointer (some ad))).run P w = .ok (.agg m.toArray) w := by
  have hagg : (isAgg t).run P w = .ok true w := by
    unfold isAgg
    simp only [Sem.run_bind, run_underlying hu, Result.andThen_ok]
    cases d <;> first | rfl | simp [TypeDesc.isRow] at hd
  have hl := run_loadCells_list (P := P) (w := w) ad m h
  simp only [Instr.loadAt, Instr.sureAddr, loadVar, Sem.run_bind, Sem.run_pure, Result.andThen_ok, hagg, if_true, r_sizeOf hi, hl]
end
theorem zero_A4 : (Try.prog.info? 92).map (·.zero) = some (some (.agg #[.int .u8 0, .int .u8 0, .int .u8 0, .int .u8 0])) := by kernel_rfl
theorem Key_spec {w : World} {g c i n : Nat} {A : Option Addr} {d : List UInt8} {mv nv : Value} (hb : Blk g 69 [.slice A n c, mv, nv] w) (hd : Bts d (.slice A n c) w) (hi : i + 4 ≤ d.length) (hl : d.length ≤ 1099511627776) :
    Calls Try.prog 63 #[.pointer (some ⟨g, 0, none⟩), I (i : Int)] w (Ret fun r w' => Ext w w' ∧ r = K4 ((d.drop i).take 4)) := by
  refine enter (vs := [.pointer (some ⟨g, 0, none⟩), I (i : Int)]) Try.func63 rfl rfl rfl ?_
  refine c_seq (c_region ?_)
  obtain ⟨g4, w4, hr4, n4, x4, b4⟩ := r_allocB (P := Try.prog) (w := w) (l := [.int .u8 0, .int .u8 0, .int .u8 0, .int .u8 0]) zero_A4 rfl
  refine o_alloc rfl hr4 ?_
  refine o_nil (n_then (c_seq (c_region (o_move rfl rfl (o_nilCheck rfl rfl (o_fieldAddr rfl rfl (r_fAt (o := 0) Try.underlying69 rfl (by kernel_rfl) rfl) ?_))))))
  refine o_load rfl rfl (r_load1 Try.underlying22 rfl (x4.cell_some (hb.cell (i := 0) rfl))) (o_move rfl rfl (o_move rfl rfl (o_bin (r := I ((i + 4 : Nat) : Int)) rfl rfl rfl (by have e : ((i + 4 : Nat) : Int) = (i : Int) + 4 := (by omega); rw [e]; exact r_add_i (by omega) (by omega)) ?_)))
  obtain ⟨v12, p12, b12⟩ := r_slB (hd.ext x4) (lo := i) (hi := i + 4) (by omega) (by omega) .i64 .i64
  refine o_slice rfl rfl rfl rfl rfl (p12 _) ?_
  have e12 : (d.take (i + 4)).drop i = (d.drop i).take 4 := by rw [List.drop_take, show i + 4 - i = 4 by omega]
  rw [e12] at b12
  have l12 : ((d.drop i).take 4).length = 4 := by rw [List.length_take, List.length_drop]; omega
  obtain ⟨a13, p13, q13⟩ := r_toArr (P := Try.prog) Try.underlying92 b12 (by simp only [List.length_map, l12]; omega) (by omega)
  rw [List.take_of_length_le (by simp only [List.length_map, l12]; omega)] at q13
  refine o_toArray rfl rfl (p13 _) (o_load rfl rfl (r_ldCells Try.underlying92 rfl (by rw [List.length_map, l12]; exact size4) q13) (o_store rfl rfl (r_stA b4 (by rw [List.length_map, l12]; rfl) (by rw [List.length_map, l12]; exact size4) (one_U8 _)) ?_))
  have b5 := b4.row (((d.drop i).take 4).map U8)
  have x5 := Ext.of_new x4 (grownBy_setRow w4 g4 (((d.drop i).take 4).map U8).toArray) n4
  refine o_nil (n_then (c_ret ?_))
  refine r_bodyc rfl rfl b5 Try.underlying92 rfl (by rw [List.length_map, l12]; exact size4) ?_
  exact ⟨_, rfl, x5, rfl⟩
theorem Bwd_spec {w : World} {A : Option Addr} {n c : Nat} :
    Calls Try.prog 64 #[.slice A n c] w (Ret fun r w' => Ext w w' ∧ r = .func (.func 73) #[] #[.pointer (some ⟨w.heap.size, 0, none⟩)] ∧ w' = w.alloc (.cells #[.slice A n c] 94)) := by
  refine enter (vs := [.slice A n c]) Try.func64 rfl rfl rfl ?_
  refine c_seq (c_region (o_box rfl rfl (r_box) (o_assign rfl rfl (o_nil (n_then (c_seq (c_region ?_)))))))
  refine o_makeFunc (us := []) (vs := [.pointer (some ⟨w.heap.size, 0, none⟩)]) rfl rfl rfl ?_
  refine o_assign rfl rfl (o_nil (n_then (c_ret (r_body1 rfl rfl ?_))))
  exact ⟨_, rfl, Ext.new _ _, rfl, rfl⟩
/-- Blocks that stay. -/
def Keep (Kb : Nat → Prop) (W W' : World) : Prop := W.heap.size ≤ W'.heap.size ∧ ∀ k, Kb k → W'.heap[k]? = W.heap[k]?
theorem Keep.trans {Kb : Nat → Prop} {a b c : World} (h : Keep Kb a b) (k : Keep Kb b c) : Keep Kb a c := ⟨Nat.le_trans h.1 k.1, fun n hn => (k.2 n hn).trans (h.2 n hn)⟩
theorem Keep.refl (Kb : Nat → Prop) (a : World) : Keep Kb a a := ⟨Nat.le_refl _, fun _ _ => rfl⟩
theorem Keep.of_ext {Kb : Nat → Prop} {a b : World} (h : Ext a b) (hk : ∀ k, Kb k → k < a.heap.size) : Keep Kb a b := ⟨h.size, fun k hn => h.heap (hk k hn)⟩
/-- The elements of a slice of integers, the last one first. -/
theorem Bwd1_stops {α : Type} {w : World} {Bs base : Nat} {v : Value} {zs : List Int} {ys : List α} {encs : α → List Value} {Kb : Nat → Prop} (hv : OwnI base zs v w) (hc : Blk Bs 94 [v] w) (hK1 : Kb Bs) (hK2 : ∀ k, v.ownBlock = some k → Kb k)
    (hlen : ys.length = zs.length) (hz : zs.length ≤ 1099511627776) (hy : ∀ (k : Nat) (h : k < ys.length), encs ys[k] = [I ((zs.length - 1 - k : Nat) : Int), I (zs[zs.length - 1 - k]'(by omega))]) :
    SeqStopsK Fence.wide 1 Try.prog 73 #[.pointer (some ⟨Bs, 0, none⟩)] (fun x => (encs x).toArray) (Keep Kb) (fun xs => xs = ys) (fun pre => pre <+: ys) ys.length w := by
  intro lp J Jx W hW _ _ hY h0
  have hW : Ext w W := hW
  refine callsIn_wide.2 ?_
  refine Calls.mono (R := Ret fun r W' => (∃ xs, xs = ys ∧ J xs W') ∨ (∃ pre, pre <+: ys ∧ Jx pre W')) ?_ (fun e W' h => by obtain ⟨r, rfl, h⟩ := h; exact ⟨⟨r, rfl⟩, h⟩)
  have hv := hv.ext hW
  have hc := hc.ext hW
  have ea : (#[.func (.yield lp) #[] #[]] : Array Value) ++ #[.pointer (some ⟨Bs, 0, none⟩)] = [.func (.yield lp) #[] #[], .pointer (some ⟨Bs, 0, none⟩)].toArray := by simp
  rw [ea]
  refine enter Try.func73 rfl rfl rfl ?_
  refine c_seq (c_region (o_load rfl rfl (r_load1 Try.underlying94 rfl (hc.cell (i := 0) rfl)) (o_len rfl rfl (r_lenI hv.its) (o_bin rfl rfl rfl (r_sub_i (by omega) (by omega)) ?_))))
  refine o_assign rfl rfl (o_nil (n_then (c_block ?_)))
  refine c_loop (α := Int) (fun x => [(0, .func (.yield lp) #[] #[]), (1, .pointer (some ⟨Bs, 0, none⟩)), (3, I x)]) (fun x W' => ∃ k : Nat, k ≤ ys.length ∧ x = (zs.length : Int) - 1 - (k : Int) ∧ J (ys.take k) W' ∧ Keep Kb W W') (fun x => (x + 1).toNat) ((zs.length : Int) - 1) ⟨rfl, rfl, rfl, trivial⟩ ⟨0, Nat.zero_le _, by omega, by simpa using h0, Keep.refl _ _⟩ ?_
  rintro x w1 ⟨k, hk, hx, hJ, hKp⟩
  refine c_seq (c_seq (c_region (o_move rfl rfl (o_bin rfl rfl rfl r_geq_i (o_nil (n_then ?_))))))
  refine c_if rfl (fun h8 => ?_) (fun h8 => ?_)
  · have hkl : k < ys.length := by omega
    obtain ⟨j, rfl⟩ : ∃ j : Nat, x = (j : Int) := ⟨x.toNat, by omega⟩
    have hj : j = zs.length - 1 - k := by omega
    have hv1 : OwnI base zs v w1 := hv.same fun n hn => hKp.2 n (hK2 n hn)
    have hc1 : Blk Bs 94 [v] w1 := (hKp.2 Bs hK1).trans hc
    refine c_skip (n_then (c_seq (c_block (c_seq (y_region (y_split 6 ?_))))))
    refine o_move rfl rfl (o_move rfl rfl (o_load rfl rfl (r_load1 Try.underlying94 rfl (hc1.cell (i := 0) rfl)) (o_move rfl rfl ?_)))
    obtain ⟨a15, p15, q15⟩ := r_ixI hv1.its (i := j) (by omega) .i64
    refine o_indexAddr rfl rfl rfl (p15 _) (o_load rfl rfl (r_load1 Try.underlying3 rfl q15) (o_nil (n_y ?_)))
    have hx := hY (ys.take k) ys[k] w1 hJ (by rw [List.length_take]; omega)
    simp only [hy k hkl] at hx
    have hz : zs[zs.length - 1 - k]'(by omega) = zs[j]'(by omega) := by simp only [hj]
    rw [hz, ← hj] at hx
    refine y_yield rfl rfl rfl hx ?_
    rintro e w3 (⟨rfl, hJ3, hK3⟩ | ⟨rfl, hJx3⟩)
    · refine ⟨_, rfl, y_tail (o_not rfl rfl r_not (o_nil (n_then (c_no rfl (c_skip (n_block (n_then (c_region (o_move rfl rfl (o_bin rfl rfl rfl (r_sub_i (by omega) (by omega)) (o_assign rfl rfl (o_nil ?_))))))))))))⟩
      refine n_round ((j : Int) - 1) ⟨rfl, rfl, rfl, trivial⟩ ⟨k + 1, by omega, by omega, ?_, hKp.trans hK3⟩ (by omega)
      rw [List.take_succ_eq_append_getElem hkl]; exact hJ3
    · refine ⟨_, rfl, y_tail (o_not rfl rfl r_not (o_nil (n_then (c_yes rfl (c_ret (r_block (r_then (r_then (r_block (r_body0 rfl ?_)))))))))) ⟩
      exact ⟨_, rfl, .inr ⟨_, ⟨ys.drop (k + 1), by rw [← List.take_succ_eq_append_getElem hkl, List.take_append_drop]⟩, hJx3⟩⟩
  · refine c_exit (x_then (x_then (x_here (n_body0 rfl ?_))))
    have hkl : k = ys.length := by omega
    exact ⟨_, rfl, .inl ⟨_, rfl, by rw [hkl, List.take_length] at hJ; exact hJ⟩⟩
end Go.Rl
/- Regions that draw their order, whose late operations are walked in a given order: quiet ones may be taken early. Conditions: each rule names its own. -/
namespace Go.Rl
open Go.RowKit

section
variable {P : Program} {ops : Array Oper} {w0 : World} {N : Nat}

def chainG (ops : Array Oper) (n : Nat) : Bool :=
  (List.range ops.size).all fun t => decide (t ≤ n) || (List.range t).any fun j => decide (n ≤ j) && Region.waitsFor .any ops t j
theorem tail_waitsG {n : Nat} {listed : Array Bool} (hs : Region.sinkB .any ops n = true) (hc : chainG ops n = true) (inv : HeadInv .any ops n listed) :
    ∀ (d i : Nat), n - i = d → i < n → listed.getD i true = false → ∀ t, n ≤ t → t ∉ Region.ready .any ops listed := by
  intro d
  induction d using Nat.strongRecOn with
  | _ d ih =>
    intro i hd hi hun t ht hr
    obtain ⟨_, ot, hot, hall⟩ := mem_ready.1 hr
    have htlt : t < ops.size := (Array.getElem?_eq_some_iff.1 hot).1
    by_cases htn : t = n
    · subst htn
      have h1 := List.all_eq_true.1 hs i (List.mem_range.2 hi)
      obtain ⟨j, hj, hj2⟩ := List.any_eq_true.1 h1
      simp only [Bool.and_eq_true, decide_eq_true_eq] at hj2
      obtain ⟨oj, hoj, e, he, hb, hon⟩ := Region.waitsFor_spec hj2.2
      have hjle : j ≤ t := by have := List.mem_range.1 hj; omega
      by_cases hjt : j = t
      · subst hjt
        have : oj = ot := Option.some.inj (hoj.symm.trans hot)
        subst this
        have h2 := hall e he hb
        rw [hon, getD_both hun] at h2
        cases h2
      · cases hl : listed.getD j false with
        | true =>
          have h2 := inv.closed j oj hoj hl e he hb
          rw [hon, getD_both hun] at h2
          cases h2
        | false =>
          have hjs : j < listed.size := by rw [inv.size]; omega
          exact ih (t - j) (by omega) j rfl (by omega) (getD_in hjs hl) t (Nat.le_refl _) hr
    · have h1 := List.all_eq_true.1 hc t (List.mem_range.2 htlt)
      simp only [Bool.or_eq_true, decide_eq_true_eq] at h1
      rcases h1 with h1 | h1
      · omega
      · obtain ⟨j, hj, hj2⟩ := List.any_eq_true.1 h1
        simp only [Bool.and_eq_true, decide_eq_true_eq] at hj2
        have hjt := List.mem_range.1 hj
        obtain ⟨o', ho', e, he, hb, hon⟩ := Region.waitsFor_spec hj2.2
        have : o' = ot := Option.some.inj (ho'.symm.trans hot)
        subst this
        have h2 := hall e he hb
        rw [hon, getD_both (inv.tail j hj2.1 (by omega))] at h2
        cases h2

/-- Operations whose value is theirs alone. -/
def quietB (o : Oper) : Bool := o.guard.isNone && o.dst.isSome && match o.op with | .extract .. | .move _ | .assign _ => true | _ => false
theorem quiet_run {o : Oper} (h : quietB o = true) (ρ : Operand → Value) : (∃ v, ∀ w, (execOp ρ o).run P w = .ok (.value v) w) ∨ ∃ x, (∀ v, x ≠ .panic v) ∧ ∀ w, (execOp ρ o).run P w = .halt x w := by
  obtain ⟨dst, op, ty, pos, aft, g⟩ := o
  unfold quietB at h
  simp only [Bool.and_eq_true] at h
  have h2 := h.2
  cases op <;> simp only [] at h2
  case move x => exact .inl ⟨ρ x, fun w => by simp [execOp]⟩
  case assign x => exact .inl ⟨ρ x, fun w => by simp [execOp]⟩
  case extract x n =>
    have e : execOp ρ ⟨dst, .extract x n, ty, pos, aft, g⟩ = (do pure (Next.value (← Instr.extract (ρ x) n)) : Sem Next) := rfl
    rw [e]
    cases hx : ρ x with
    | tuple vs =>
      cases hv : vs[n]? with
      | some v => exact .inl ⟨v, fun w => by simp [Instr.extract, hv]⟩
      | none => exact .inr ⟨.stuck "Extract: no such component", fun v => by simp, fun w => by simp [Instr.extract, hv, stuck, Sem.run]⟩
    | _ => exact .inr ⟨.stuck "Extract: tuple expected", fun v => by simp, fun w => by simp [Instr.extract, stuck, Sem.run]⟩
  all_goals cases h2

def okPerm (ops : Array Oper) : List Nat → Array Bool → Bool
  | [], listed => (Region.ready .any ops listed).isEmpty
  | i :: rest, listed => (decide (Region.ready .any ops listed = [i]) || ((match ops[i]? with | some o => quietB o | none => false) && Region.free .any ops listed i && (Region.ready .any ops listed).contains i)) && okPerm ops rest (listed.setIfInBounds i true)
theorem wpAny_of_perm {Q : Post} (hsel : Region.noSelect ops = true) : ∀ (perm : List Nat) (os : List Oper) (listed : Array Bool) (a : Act) (w : World), (perm.map fun i => ops[i]?) = os.map some → okPerm ops perm listed = true → wpList P ops (calm Q) os a w → wpAny P .any ops (calm Q) perm.length listed a w
  | [], os, listed, a, w, ho, hB, h => by
    have : os = [] := by cases os with | nil => rfl | cons o os => simp at ho
    subst this
    exact ⟨by simpa [okPerm] using hB, h⟩
  | i :: perm, os, listed, a, w, ho, hB, h => by
    cases os with
    | nil => simp at ho
    | cons o os =>
      simp only [List.map_cons, List.cons.injEq] at ho
      obtain ⟨h0, ho⟩ := ho
      simp only [okPerm, Bool.and_eq_true, Bool.or_eq_true, decide_eq_true_eq] at hB
      obtain ⟨hB1, hB2⟩ := hB
      have nolet : ¬ LetsOut (calm Q) := fun ⟨_, _, hq⟩ => by obtain ⟨hq, _⟩ := hq; cases hq
      rcases hB1 with hr | ⟨⟨hq, hf⟩, hr⟩
      · refine ⟨fun h1 => (by rw [hr] at h1; cases h1), fun k hk => ?_⟩
        rw [hr] at hk
        have hik : k = i := by simpa using hk
        subst hik
        have hw : wpOp P ops (calm Q) k (wpList P ops (calm Q) os) a w := by unfold wpOp; simp only [h0]; exact h
        exact wpOp_mono (fun a' w' h' => wpAny_of_perm hsel perm os _ a' w' ho hB2 h') hw
      · rw [h0] at hq
        have hq : quietB o = true := hq
        have hwant : Region.wanted o (yielded ops a.tmps) = true := by
          unfold quietB at hq
          simp only [Bool.and_eq_true, Option.isNone_iff_eq_none] at hq
          unfold Region.wanted
          rw [hq.1.1]
        unfold wpList at h
        rw [if_pos hwant] at h
        have h := h.resolve_right fun h => nolet h.2
        unfold Oper.wp at h
        rcases quiet_run (P := P) hq a.eval with ⟨v, hv⟩ | ⟨x, hx, hv⟩
        · rw [hv w] at h
          exact wpAny_take h0 hsel hf hr (fun c a w hp => by obtain ⟨hp, _⟩ := hp; cases hp) (.inl ⟨hwant, hv⟩) (wpAny_of_perm hsel perm os _ _ w ho hB2 h)
        · rw [hv w] at h
          cases x <;> first | exact absurd rfl (hx _) | exact h.elim

theorem wpAnyF_firstG {n i : Nat} {oi : Oper} {S : Fact} {L : Array Bool → Facts → Prop} (hi : ops[i]? = some oi)
    (hs : Region.sinkB .any ops n = true) (hc : chainG ops n = true) (hin : i < n)
    (hdone : ∀ listed F, L listed F → ∀ j ∈ Region.ready .any ops listed, n ≤ j) :
    ∀ (f : Nat) (listed : Array Bool) (F : Facts), HeadInv .any ops n listed →
      (∀ j oj, ops[j]? = some oj → j ≠ i → listed.getD j true = false → (∀ e ∈ oj.after, Region.binds .any e = true → e.on ≠ i) → oi.apart ops oj = true) →
      i ∈ Region.ready .any ops listed → OpSpec P ops w0 N F oi S →
      wpAnyF P .any ops w0 N n L f (listed.setIfInBounds i true) (upd F oi.dst S) → wpAnyF P .any ops w0 N n L (f + 1) listed F := by
  intro f
  induction f with
  | zero =>
    intro listed F inv _ hr hy H
    have hun := (mem_ready.1 hr).1
    refine ⟨fun h => (by rw [h] at hr; cases hr), fun j hj => ?_⟩
    have hjn : j < n := by
      rcases Nat.lt_or_ge j n with h | h
      · exact h
      · exact absurd hj (tail_waitsG hs hc inv _ i rfl hin hun j h)
    refine ⟨hjn, ?_⟩
    by_cases hji : j = i
    · subst hji; exact ⟨oi, S, hi, hy, H⟩
    · have := hdone _ _ H j (ready_mono hj hji)
      omega
  | succ f ih =>
    intro listed F inv hfree hr hy H
    have hun := (mem_ready.1 hr).1
    refine ⟨fun h => (by rw [h] at hr; cases hr), fun j hj => ?_⟩
    have hjn : j < n := by
      rcases Nat.lt_or_ge j n with h | h
      · exact h
      · exact absurd hj (tail_waitsG hs hc inv _ i rfl hin hun j h)
    refine ⟨hjn, ?_⟩
    by_cases hji : j = i
    · subst hji; exact ⟨oi, S, hi, hy, H⟩
    · obtain ⟨_, oj, R, hoj, hspec, hrest⟩ := H.2 j (ready_mono hj hji)
      obtain ⟨hjun, oj', hoj', hall⟩ := mem_ready.1 hj
      obtain rfl : oj = oj' := Option.some.inj (hoj.symm.trans hoj')
      have hnot : ∀ e ∈ oj.after, Region.binds .any e = true → e.on ≠ i := fun e he hb heq => by
        have h1 := hall e he hb
        rw [heq, getD_both hun] at h1
        cases h1
      obtain ⟨h1, h2, h3⟩ := Oper.apart_spec (hfree j oj hoj hji hjun hnot)
      have hfree' : ∀ k ok, ops[k]? = some ok → k ≠ i → (listed.setIfInBounds j true).getD k true = false →
          (∀ e ∈ ok.after, Region.binds .any e = true → e.on ≠ i) → oi.apart ops ok = true := fun k ok hk hki hun hno => by
        refine hfree k ok hk hki ?_ hno
        by_cases hjk : j = k
        · subst hjk; exact hjun
        · rw [getD_set_ne true hjk] at hun; exact hun
      refine ⟨oj, R, hoj, OpSpec.of_upd h1 hspec, ih (listed.setIfInBounds j true) _ (inv.set hj hjn) hfree' (ready_mono hr (Ne.symm hji)) (OpSpec.to_upd h3 hy) ?_⟩
      rw [Array.setIfInBounds_comm _ _ hji, ← upd_comm F S R h2]
      exact hrest

def permHead (ops : Array Oper) (n : Nat) (perm : List Nat) : Nat → Nat → Array Bool → Bool
  | 0, _, listed => okPerm ops perm listed && (Region.ready .any ops listed).all fun j => decide (n ≤ j)
  | f + 1, k, listed => (Region.ready .any ops listed).contains k && Region.free .any ops listed k && permHead ops n perm f (k + 1) (listed.setIfInBounds k true)
theorem wpAnyF_lexG {n : Nat} {perm : List Nat} {Lq : Facts → Prop} (hs : Region.sinkB .any ops n = true) (hc : chainG ops n = true) :
    ∀ (l : List Oper) (k : Nat) (listed : Array Bool) (F : Facts), (∀ j, j < l.length → l[j]? = ops[k + j]?) → k + l.length = n → HeadInv .any ops n listed →
    permHead ops n perm l.length k listed = true → (∀ t, Stable (F t)) → wpF P ops w0 N l F Lq →
    wpAnyF P .any ops w0 N n (fun listed' F' => (okPerm ops perm listed' = true ∧ (Region.ready .any ops listed').all (fun j => decide (n ≤ j)) = true) ∧ Lq F') l.length listed F
  | [], k, listed, F, _, hk, _, hB, _, h => by
    simp only [List.length_nil, permHead, Bool.and_eq_true] at hB
    exact ⟨hB, h⟩
  | o :: l, k, listed, F, hl, hk, inv, hB, hF, h => by
    have h0 : ops[k]? = some o := by simpa using (hl 0 (by simp)).symm
    simp only [List.length_cons, permHead, Bool.and_eq_true] at hB
    obtain ⟨⟨hr, hf⟩, hB'⟩ := hB
    have hkn : k < n := by simp only [List.length_cons] at hk; omega
    have hr' : k ∈ Region.ready .any ops listed := by simpa using hr
    obtain ⟨S, hspec, hrest⟩ := h hF
    exact wpAnyF_firstG h0 hs hc hkn (fun listed' F' hL j hj => by simpa using List.all_eq_true.1 hL.1.2 j hj) l.length listed F inv (Region.free_spec h0 hf) hr' hspec
      (wpAnyF_lexG hs hc l (k + 1) _ _ (fun j hj => by have := hl (j + 1) (by simp; omega); simpa [Nat.add_assoc, Nat.add_comm 1 j] using this) (by simp only [List.length_cons] at hk; omega) (inv.set hr' hkn) hB' (stable_upd hF hspec.stable) hrest)
/-- n head operations, then perm. -/
def growB (ops : Array Oper) (n : Nat) (perm : List Nat) : Bool :=
  Region.noSelect ops && decide (n < ops.size) && Region.sinkB .any ops n && chainG ops n && decide (n + perm.length = ops.size) && permHead ops n perm n 0 (Array.replicate ops.size false)
def pick (os : List Oper) : List Nat → List Oper
  | [] => []
  | i :: is => match os[i]? with | some o => o :: pick os is | none => pick os is

theorem wp_any_growP {Q : Post} {a : Act} {D : List Deferred} {F : Facts} {w : World} {l : List Oper} {n : Nat} {perm : List Nat} (hB : growB l.toArray n perm = true) (hp : (perm.all fun i => decide (i < l.length)) = true)
    (hF : ∀ t, Stable (F t)) (hsat : Sat N D F a { w with drawn := w.drawn + 1 })
    (h : wpF P l.toArray w N (l.take n) F (fun F => ∀ a' w', Ext w w' → Sat N D F a' w' → wpList P l.toArray (calm Q) (pick l perm) a' w')) : wpAny P .any l.toArray (calm Q) l.toArray.size (Array.replicate l.toArray.size false) a { w with drawn := w.drawn + 1 } := by
  simp only [growB, Bool.and_eq_true, decide_eq_true_eq] at hB
  obtain ⟨⟨⟨⟨⟨hsel, hn⟩, hs⟩, hc⟩, hlen⟩, hlex⟩ := hB
  have hn' : n < l.length := by simpa using hn
  have htl : (l.take n).length = n := by simp; omega
  have inv0 : HeadInv .any l.toArray n (Array.replicate l.toArray.size false) :=
    ⟨by simp, fun j oj _ hl => (by rw [getD_replicate_false] at hl; cases hl), fun t _ ht => getD_in (by simpa using ht) (getD_replicate_false _ _)⟩
  have H := wpAnyF_lexG (perm := perm) hs hc (l.take n) 0 _ _ (fun j hj => by
    have hj' : j < n := by rw [htl] at hj; exact hj
    simp [hj']) (by simpa using htl) inv0 (by rw [htl]; exact hlex) hF h
  have hpick : ∀ (perm : List Nat), (perm.all fun i => decide (i < l.length)) = true → (perm.map fun i => l.toArray[i]?) = (pick l perm).map some := by
    intro perm
    induction perm with
    | nil => intro _; rfl
    | cons i is ih =>
      intro hp
      simp only [List.all_cons, Bool.and_eq_true, decide_eq_true_eq] at hp
      have e : l[i]? = some l[i] := List.getElem?_eq_getElem hp.1
      simp only [List.map_cons, pick, e, List.getElem?_toArray]
      rw [← ih hp.2]
      simp
  have := wpAny_of_facts (D := D) (Q' := calm Q) (g := perm.length) (fun listed F hL hF a' w' he hsat => wpAny_of_perm hsel perm (pick l perm) listed a' w' (hpick perm hp) hL.1.1 (hL.2 a' w' he hsat)) _ _ _ H hF a { w with drawn := w.drawn + 1 } ⟨rfl, rfl, rfl, Nat.le_refl _, fun _ _ => rfl⟩ hsat
  rw [htl, hlen] at this
  exact this
theorem c_growP {Q : Post} {D : List Deferred} {l : Fr} {w : World} {id : Nat} {os : List Oper} (n : Nat) (perm : List Nat) (ts : List Nat) (hm : P.follows .mixedOrders = true) (hB : growB os.toArray n perm = true) (hp : (perm.all fun i => decide (i < os.length)) = true)
    (h : wpF P os.toArray w N (os.take n) (frF l) (fun F => ∀ w', Ext w w' → OpenJ F w' ts (fun l' => OpsJ P os.toArray (calm Q) N D l' w' (pick os perm)))) : CodeJ P Q N D l w (.region id os.toArray true) := fun a ha => by
  have mono : ∀ (l : List Oper) (F : Facts) {K K' : Facts → Prop}, (∀ F, K F → K' F) → wpF P os.toArray w N l F K → wpF P os.toArray w N l F K' := by
    intro l
    induction l with
    | nil => intro F K K' hK h; exact hK _ h
    | cons o l ih => intro F K K' hK h hF; obtain ⟨S, h1, h2⟩ := h hF; exact ⟨S, h1, ih _ hK h2⟩
  have hsat : Sat N D (frF l) a { w with drawn := w.drawn + 1 } := ⟨ha.size, ha.defers, fun t => by
    show frF l t (a.tmps.getD t undef) _
    unfold frF
    cases hv : lk l t with
    | some v => exact ha.at_ t v hv
    | none => trivial⟩
  refine wp_mono (wp_region_any (Q := calm Q) hm (wp_any_growP hB hp (frF_stable l) hsat (mono _ _ (fun F hK a' w' he hs => ?_) h))) fun e a w he => by obtain ⟨rfl, h⟩ := he; exact h
  obtain ⟨l', hl', hk⟩ := OpenJ.use hs (hK w' he)
  exact hk a' hl'
theorem n_calm {Q : Post} {D : List Deferred} {l : Fr} {w : World} (h : NormJ Q N D l w) : NormJ (calm Q) N D l w := fun a ha => ⟨rfl, h a ha⟩
theorem noOut_calm {Q : Post} : ¬ LetsOut (calm Q) := fun ⟨_, _, hq⟩ => by
  obtain ⟨hq, _⟩ := hq
  cases hq
theorem I.c_held {Q : Post} {D : List Deferred} {l : Fr} {w : World} {rd : Option Nat} {id : Nat} {os : List Oper} (S : World → Prop) (n : Nat) (hn : os.toArray.size = n) (hm : P.follows .mixedOrders = true) (hd : noDefer os = true)
    (h : HeldJ P os.toArray Q N D S n (Array.replicate n false) l w.drew) : CodeI rd P Q N D l w (.region id os.toArray true) := fun a ha => by
  subst hn
  refine wpIn_mono (wpIn_region_draw (Q := calm Q) fun t => opsIn_of noOut_calm (.inr hd) _ _ _ ?_) fun e a w he => by obtain ⟨rfl, h⟩ := he; exact h
  simp only [Region.schedule, hm, Bool.true_or, if_true]
  exact wpAny_sound os.toArray.size t _ a _ (wpAny_of_held _ _ _ _ (h a ha))
end
end Go.Rl

/- The reference's reader of rationals. Conditions: the bytes are not more than 2^39. -/
import Derived.Test.YtifjnhdnpglbpaaQ6
namespace Go.Rl
open Go.RowKit Go.Proofs
theorem Blk.st1 {P : Program} {w : World} {T t : TypeId} {g : Nat} {l : List Value} {v : Value} (h : Blk g T l w) (i : Nat) (hs : (P.info? t).map (·.size) = some 1) (hv : ∃ A n c, v = .slice A n c) (hi : i < l.length) :
    ∃ w', (Instr.storeAt t (.pointer (some ⟨g, i, none⟩)) v).run P w = .ok () w' ∧ w.grownBy w' (some g) ∧ Blk g T (l.set i v) w' := by
  obtain ⟨A, n, c, rfl⟩ := hv
  exact ⟨_, r_store1 hs rfl h (by simpa using hi), grownBy_setCell w g i _, h.set i _⟩
theorem r_buildR1 {w : World} {b : Bool} : (Instr.build 35 #[(0, B b)]).run Try.prog w = .ok (.agg #[B b, .slice none 0 0, .slice none 0 0]) w :=
  run_build _ _ _ #[B b, .slice none 0 0, .slice none 0 0] (by kernel_rfl)
def FRatE (g : Nat) (w : World) (o : Option ((Bool × List UInt32 × List UInt32) × List UInt8)) (r : Value) (w' : World) : Prop :=
  w.grownBy w' (some g) ∧ match o with
    | some (q, t) => ∃ v, r = .tuple #[v, I 0] ∧ RatV q.1 q.2.1 q.2.2 v w' ∧ RfAt g (some t) w'
    | none => ∃ v, r = .tuple #[v, I 5] ∧ RatV false [] [] v w' ∧ RfAt g none w'
theorem FRat_spec {w : World} {g : Nat} {st : Option (List UInt8)} (hr : RfAt g st w) (hl : ∀ l, st = some l → l.length ≤ 549755813888) :
    Calls Try.prog 60 #[.pointer (some ⟨g, 0, none⟩)] w (Ret (FRatE g w (st.bind rdR))) := by
  refine enter (vs := [.pointer (some ⟨g, 0, none⟩)]) Try.func60 rfl rfl rfl ?_
  have hglt := RfAt.lt hr
  refine c_seq (c_region ?_)
  obtain ⟨g2, w2, hr2, l2, x2, k2⟩ := r_allocR (w := w)
  refine o_alloc rfl hr2 (o_assign rfl rfl (o_nil (n_then (c_seq (c_seq ?_)))))
  have rr := RfAt.ext hr x2
  have kk := k2
  have gg : w.grownBy w2 (some g) := gb_ext x2
  have hne : some g2 ≠ some g := fun h => by have := Option.some.inj h; omega
  have hne' : g ≠ g2 := by omega
  obtain ⟨A, n, c0, k0, b0⟩ := id rr
  rcases st with _ | (_ | ⟨c, l⟩)
  · have hR : (none : Option (List UInt8)).bind rdR = none := rfl
    have bn : Bts [] (.slice A n c0) w2 := b0
    refine c_region (o_move rfl rfl (o_nilCheck rfl rfl (o_fieldAddr rfl rfl (r_fAt (o := 0) Try.underlying91 rfl (by kernel_rfl) rfl) (o_load rfl rfl (r_load1 Try.underlying22 rfl (k0.cell (i := 0) rfl)) ?_))))
    refine o_len rfl rfl (r_lenB bn) (o_bin rfl rfl rfl (dec_t (by simp) r_eql_i) (o_move rfl rfl (g_no rfl rfl rfl (g_no rfl rfl rfl (g_no rfl rfl rfl (g_no rfl rfl rfl (g_no rfl rfl rfl ?_)))))))
    refine g_no rfl rfl rfl (g_no rfl rfl rfl (o_pick_t rfl rfl rfl (o_nil (n_then (c_yes rfl (c_seq (c_region ?_)))))))
    refine o_build (vs := []) rfl rfl r_buildR0 ?_
    refine o_move rfl rfl (o_call call_Ffail rfl rfl (Ffail_spec rr) ?_)
    rintro v22 w22 ⟨rfl, rs, g22⟩
    have m22 := RdT.kp rr g22
    have gg := gg.trans g22
    have kk := kk.other g22 hne
    have rr := rs
    obtain ⟨p, q, w3, hp, hs3, q3, k3, n3, d3⟩ := kk.stR ⟨_, _, _, rfl⟩ ⟨_, _, _, rfl⟩ (RatV.mk (b := false) (Wds.nil _) (Wds.nil _))
    refine o_store rfl rfl (hs3) (o_assign rfl rfl (o_nil (n_then (c_ret (r_then ?_)))))
    refine r_bodyc2 rfl rfl rfl k3 Try.underlying35 rfl size_Rat ?_
    exact ⟨_, rfl, gb_new gg q3 l2, by rw [hR]; exact ⟨_, rfl, ⟨p, q, rfl, n3, d3⟩, RdT.off rr (kk.kpR ⟨_, _, _, rfl⟩ ⟨_, _, _, rfl⟩ q3) q3 hne'⟩⟩
  · have hR : (some []).bind rdR = none := rfl
    have bn : Bts [] (.slice A n c0) w2 := b0
    refine c_region (o_move rfl rfl (o_nilCheck rfl rfl (o_fieldAddr rfl rfl (r_fAt (o := 0) Try.underlying91 rfl (by kernel_rfl) rfl) (o_load rfl rfl (r_load1 Try.underlying22 rfl (k0.cell (i := 0) rfl)) ?_))))
    refine o_len rfl rfl (r_lenB bn) (o_bin rfl rfl rfl (dec_t (by simp) r_eql_i) (o_move rfl rfl (g_no rfl rfl rfl (g_no rfl rfl rfl (g_no rfl rfl rfl (g_no rfl rfl rfl (g_no rfl rfl rfl ?_)))))))
    refine g_no rfl rfl rfl (g_no rfl rfl rfl (o_pick_t rfl rfl rfl (o_nil (n_then (c_yes rfl (c_seq (c_region ?_)))))))
    refine o_build (vs := []) rfl rfl r_buildR0 ?_
    refine o_move rfl rfl (o_call call_Ffail rfl rfl (Ffail_spec rr) ?_)
    rintro v22 w22 ⟨rfl, rs, g22⟩
    have m22 := RdT.kp rr g22
    have gg := gg.trans g22
    have kk := kk.other g22 hne
    have rr := rs
    obtain ⟨p, q, w3, hp, hs3, q3, k3, n3, d3⟩ := kk.stR ⟨_, _, _, rfl⟩ ⟨_, _, _, rfl⟩ (RatV.mk (b := false) (Wds.nil _) (Wds.nil _))
    refine o_store rfl rfl (hs3) (o_assign rfl rfl (o_nil (n_then (c_ret (r_then ?_)))))
    refine r_bodyc2 rfl rfl rfl k3 Try.underlying35 rfl size_Rat ?_
    exact ⟨_, rfl, gb_new gg q3 l2, by rw [hR]; exact ⟨_, rfl, ⟨p, q, rfl, n3, d3⟩, RdT.off rr (kk.kpR ⟨_, _, _, rfl⟩ ⟨_, _, _, rfl⟩ q3) q3 hne'⟩⟩
  · have b0 : Bts (c :: l) (.slice A n c0) w2 := b0
    refine c_region (o_move rfl rfl (o_nilCheck rfl rfl (o_fieldAddr rfl rfl (r_fAt (o := 0) Try.underlying91 rfl (by kernel_rfl) rfl) (o_load rfl rfl (r_load1 Try.underlying22 rfl (k0.cell (i := 0) rfl)) ?_))))
    refine o_len rfl rfl (r_lenB b0) (o_bin rfl rfl rfl (dec_f (by simp; omega) r_eql_i) (o_move rfl rfl (g_yes rfl (o_move rfl rfl (g_yes rfl (o_nilCheck rfl rfl (g_yes rfl (o_fieldAddr rfl rfl (r_fAt (o := 0) Try.underlying91 rfl (by kernel_rfl) rfl) ?_))))))))
    refine g_yes rfl (o_load rfl rfl (r_load1 Try.underlying22 rfl (k0.cell (i := 0) rfl)) (g_yes rfl ?_))
    obtain ⟨a16, p16, q16⟩ := r_ixB b0 (i := 0) (by simp) .i64
    refine o_indexAddr rfl rfl rfl (p16 _) (g_yes rfl (o_load rfl rfl (r_load1 Try.underlying5 rfl q16) (g_yes rfl (o_bin (v := U8 1) rfl rfl rfl (r_gtr_u8) (o_pick_f rfl rfl rfl ?_)))))
    refine o_nil (n_then ?_)
    refine c_if rfl (fun h19 => ?_) (fun h19 => ?_)
    · have hc : 1 < c.toNat := by have := UInt8.lt_iff_toNat_lt.1 h19; simpa using this
      have hR : (some (c :: l)).bind rdR = none := rdR_big hc
      refine c_seq (c_region ?_)
      refine o_build (vs := []) rfl rfl r_buildR0 ?_
      refine o_move rfl rfl (o_call call_Ffail rfl rfl (Ffail_spec rr) ?_)
      rintro v22 w22 ⟨rfl, rs, g22⟩
      have m22 := RdT.kp rr g22
      have gg := gg.trans g22
      have kk := kk.other g22 hne
      have rr := rs
      obtain ⟨p, q, w3, hp, hs3, q3, k3, n3, d3⟩ := kk.stR ⟨_, _, _, rfl⟩ ⟨_, _, _, rfl⟩ (RatV.mk (b := false) (Wds.nil _) (Wds.nil _))
      refine o_store rfl rfl (hs3) (o_assign rfl rfl (o_nil (n_then (c_ret (r_then ?_)))))
      refine r_bodyc2 rfl rfl rfl k3 Try.underlying35 rfl size_Rat ?_
      exact ⟨_, rfl, gb_new gg q3 l2, by rw [hR]; exact ⟨_, rfl, ⟨p, q, rfl, n3, d3⟩, RdT.off rr (kk.kpR ⟨_, _, _, rfl⟩ ⟨_, _, _, rfl⟩ q3) q3 hne'⟩⟩
    · have hc : ¬ 1 < c.toNat := fun hh => h19 (UInt8.lt_iff_toNat_lt.2 (by simpa using hh))
      have hl1 : ∀ l', some l = some l' → l'.length ≤ 549755813888 := fun l' e => by
        have := hl _ rfl
        cases e
        simp at this; omega
      refine c_skip (n_then (c_seq ?_))
      obtain ⟨s, hs⟩ : ∃ s, s = decide (c.toNat = 1) := ⟨_, rfl⟩
      have hcs : s = decide ((c :: l)[0]'(Nat.zero_lt_succ _) = (1 : UInt8)) := by
        rw [hs]
        exact decide_eq_decide.2 ⟨fun h => u8_one.1 h, fun h => u8_one.2 h⟩
      refine c_region (o_move rfl rfl (o_nilCheck rfl rfl (o_fieldAddr rfl rfl (r_fAt (o := 0) Try.underlying91 rfl (by kernel_rfl) rfl) (o_load rfl rfl (r_load1 Try.underlying22 rfl (k0.cell (i := 0) rfl)) ?_))))
      obtain ⟨a27, p27, q27⟩ := r_ixB b0 (i := 0) (by simp) .i64
      refine o_indexAddr rfl rfl rfl (p27 _) (o_load rfl rfl (r_load1 Try.underlying5 rfl q27) (o_bin (v := U8 1) (r := B s) rfl rfl rfl ((by rw [hcs]; exact r_eql_u8)) ?_))
      refine o_build (vs := [(0, B s)]) rfl rfl r_buildR1 ?_
      obtain ⟨g4, w4, hr4, l4, x4, k4⟩ := r_allocR (w := w2)
      refine o_alloc rfl hr4 ?_
      obtain ⟨p4, q4, w5, hp4, hs5, q5, k5, n5, d5⟩ := k4.stR ⟨_, _, _, rfl⟩ ⟨_, _, _, rfl⟩ (RatV.mk (b := s) (Wds.nil _) (Wds.nil _))
      refine o_store rfl rfl (hs5) ?_
      have x5 := x4.of_new q5 l4
      have hg2 := kk.lt
      have hgw := x2.size
      have hne4 : some g4 ≠ some g := fun h => by have := Option.some.inj h; omega
      have hne4' : g ≠ g4 := by omega
      have hne24 : some g2 ≠ some g4 := fun h => by have := Option.some.inj h; omega
      have hw4 : w.heap.size ≤ g4 := by omega
      have kk := kk.ext x5
      have rr := RfAt.ext rr x5
      have gg := gg.trans (gb_ext x5)
      refine o_nil (n_then (c_seq (c_region (o_move rfl rfl (o_move rfl rfl (o_nilCheck rfl rfl (o_fieldAddr rfl rfl (r_fAt (o := 0) Try.underlying91 rfl (by kernel_rfl) rfl) ?_)))))))
      refine o_load rfl rfl (r_load1 Try.underlying22 rfl (x5.cell_some (k0.cell (i := 0) rfl))) ?_
      obtain ⟨v36, p36, b36⟩ := r_slB_lo (b0.ext x5) (lo := 1) (by simp) .i64
      refine o_slice rfl rfl rfl rfl rfl (p36 _) (o_nilCheck rfl rfl (o_fieldAddr rfl rfl (r_fAt (o := 0) Try.underlying91 rfl (by kernel_rfl) rfl) ?_))
      obtain ⟨w6, hs6, q6, r6⟩ := RdT.set (l' := l) rr b36
      refine o_store rfl rfl (hs6) ?_
      have m6 := RdT.kp rr q6
      have kk := kk.other q6 hne
      have k5 := k5.other q6 hne4
      have gg := gg.trans q6
      have rr : RfAt g (some l) w6 := r6
      have n5 := n5.kp m6
      have d5 := d5.kp m6
      refine o_nil (n_then (c_seq ?_))
      rcases hN : rdN l with _ | ⟨m, t⟩
      rotate_left
      rcases hM : rdN t with _ | ⟨m', t'⟩
      rotate_left
      rcases hV : rv s m m'
      · have hR : (some (c :: l)).bind rdR = none := by
          show rdR (c :: l) = none
          rw [rdR_n1 hc hN, ← hs, hM]
          exact if_neg (by rw [hV]; simp)
        refine c_region (o_move rfl rfl (o_call call_FNat rfl rfl ((FNat_some (st := some l) rr hl1 hN)) ?_))
        rintro v41 w41 ⟨g41, v0, rfl, h0, rs⟩
        have m41 := RdT.kp rr g41
        have kk := kk.other g41 hne
        have k5 := k5.other g41 hne4
        have gg := gg.trans g41
        have rr := rs
        have n5 := n5.kp m41
        have d5 := d5.kp m41
        refine o_move rfl rfl (o_extract rfl rfl (r_ext0) (o_extract rfl rfl r_ext1 (o_fieldAddr rfl rfl (r_fAt (o := 1) Try.underlying35 rfl (by kernel_rfl) rfl) ?_)))
        obtain ⟨w7, hs7, q7, k7⟩ := k5.st1 1 size_Nat h0.isS (by simp)
        refine o_store rfl rfl (hs7) ?_
        have m7 := k5.kpR n5.isS d5.isS q7
        have kk := kk.other q7 hne24
        have rr := RdT.off rr m7 q7 hne4'
        have gg := gb_new gg q7 hw4
        have n7 := h0.kp m7
        have d7 := d5.kp m7
        refine o_nil (n_then (c_seq (c_region (o_move rfl rfl ?_))))
        have hl2 : ∀ l', some t = some l' → l'.length ≤ 549755813888 := fun l' e => by
          cases e
          have h1 := (rdN_inv hN).1
          have := hl1 _ rfl
          rw [h1, List.length_append] at this
          omega
        refine o_call call_FNat rfl rfl ((FNat_some (st := some t) rr hl2 hM)) ?_
        rintro v47 w47 ⟨g47, v1, rfl, h1, rs⟩
        have m47 := RdT.kp rr g47
        have kk := kk.other g47 hne
        have k7 := k7.other g47 hne4
        have gg := gg.trans g47
        have rr := rs
        have n7 := n7.kp m47
        have d7 := d7.kp m47
        refine o_move rfl rfl (o_extract rfl rfl (r_ext0) (o_extract rfl rfl r_ext1 (o_fieldAddr rfl rfl (r_fAt (o := 2) Try.underlying35 rfl (by kernel_rfl) rfl) ?_)))
        obtain ⟨w8, hs8, q8, k8⟩ := k7.st1 2 size_Nat h1.isS (by simp)
        refine o_store rfl rfl (hs8) ?_
        have m8 := k7.kpR n7.isS d7.isS q8
        have kk := kk.other q8 hne24
        have rr := RdT.off rr m8 q8 hne4'
        have gg := gb_new gg q8 hw4
        have n8 := n7.kp m8
        have d8 := h1.kp m8
        obtain ⟨A9, n9, c9, kr, br⟩ := id rr
        refine o_nil (n_then (c_seq (c_seq (c_region (o_move rfl rfl (o_nilCheck rfl rfl (o_fieldAddr rfl rfl (r_fAt (o := 1) Try.underlying91 rfl (by kernel_rfl) rfl) ?_)))))))
        refine o_load rfl rfl (r_load1 Try.underlying4 rfl (kr.cell (i := 1) rfl)) (o_move rfl rfl (g_yes rfl (o_load rfl rfl (k8.ldR) (g_yes rfl ?_))))
        have hml : m.length ≤ 137438953472 := by
          have := hl1 _ rfl
          rw [(rdN_inv hN).1, List.length_append, encN, List.length_append, le4s_len] at this
          omega
        have hml' : m'.length ≤ 137438953472 := by
          have := hl2 _ rfl
          rw [(rdN_inv hM).1, List.length_append, encN, List.length_append, le4s_len] at this
          omega
        refine o_call call_SValid rfl rfl ((by have := SValid_spec (b := s) (RatV.mk n8 d8) hml hml'; rw [hV] at this; exact this)) ?_
        rintro v57 w57 ⟨x57, rfl⟩
        have rr := RfAt.ext rr x57
        have kk := kk.ext x57
        have gg := gg.trans (gb_ext x57)
        refine g_yes rfl (o_not rfl rfl r_not (o_pick_f rfl rfl rfl (o_nil (n_then (c_yes rfl (c_seq (c_region ?_)))))))
        refine o_build (vs := []) rfl rfl r_buildR0 ?_
        refine o_move rfl rfl (o_call call_Ffail rfl rfl (Ffail_spec rr) ?_)
        rintro v62 w62 ⟨rfl, rs, g62⟩
        have m62 := RdT.kp rr g62
        have gg := gg.trans g62
        have kk := kk.other g62 hne
        have rr := rs
        obtain ⟨p, q, w3, hp, hs3, q3, k3, n3, d3⟩ := kk.stR ⟨_, _, _, rfl⟩ ⟨_, _, _, rfl⟩ (RatV.mk (b := false) (Wds.nil _) (Wds.nil _))
        refine o_store rfl rfl (hs3) (o_assign rfl rfl (o_nil (n_then (c_ret (r_then ?_)))))
        refine r_bodyc2 rfl rfl rfl k3 Try.underlying35 rfl size_Rat ?_
        exact ⟨_, rfl, gb_new gg q3 l2, by rw [hR]; exact ⟨_, rfl, ⟨p, q, rfl, n3, d3⟩, RdT.off rr (kk.kpR ⟨_, _, _, rfl⟩ ⟨_, _, _, rfl⟩ q3) q3 hne'⟩⟩
      · have hR : (some (c :: l)).bind rdR = some ((s, m, m'), t') := by
          show rdR (c :: l) = _
          rw [rdR_n1 hc hN, ← hs, hM]
          exact if_pos hV
        refine c_region (o_move rfl rfl (o_call call_FNat rfl rfl ((FNat_some (st := some l) rr hl1 hN)) ?_))
        rintro v41 w41 ⟨g41, v0, rfl, h0, rs⟩
        have m41 := RdT.kp rr g41
        have kk := kk.other g41 hne
        have k5 := k5.other g41 hne4
        have gg := gg.trans g41
        have rr := rs
        have n5 := n5.kp m41
        have d5 := d5.kp m41
        refine o_move rfl rfl (o_extract rfl rfl (r_ext0) (o_extract rfl rfl r_ext1 (o_fieldAddr rfl rfl (r_fAt (o := 1) Try.underlying35 rfl (by kernel_rfl) rfl) ?_)))
        obtain ⟨w7, hs7, q7, k7⟩ := k5.st1 1 size_Nat h0.isS (by simp)
        refine o_store rfl rfl (hs7) ?_
        have m7 := k5.kpR n5.isS d5.isS q7
        have kk := kk.other q7 hne24
        have rr := RdT.off rr m7 q7 hne4'
        have gg := gb_new gg q7 hw4
        have n7 := h0.kp m7
        have d7 := d5.kp m7
        refine o_nil (n_then (c_seq (c_region (o_move rfl rfl ?_))))
        have hl2 : ∀ l', some t = some l' → l'.length ≤ 549755813888 := fun l' e => by
          cases e
          have h1 := (rdN_inv hN).1
          have := hl1 _ rfl
          rw [h1, List.length_append] at this
          omega
        refine o_call call_FNat rfl rfl ((FNat_some (st := some t) rr hl2 hM)) ?_
        rintro v47 w47 ⟨g47, v1, rfl, h1, rs⟩
        have m47 := RdT.kp rr g47
        have kk := kk.other g47 hne
        have k7 := k7.other g47 hne4
        have gg := gg.trans g47
        have rr := rs
        have n7 := n7.kp m47
        have d7 := d7.kp m47
        refine o_move rfl rfl (o_extract rfl rfl (r_ext0) (o_extract rfl rfl r_ext1 (o_fieldAddr rfl rfl (r_fAt (o := 2) Try.underlying35 rfl (by kernel_rfl) rfl) ?_)))
        obtain ⟨w8, hs8, q8, k8⟩ := k7.st1 2 size_Nat h1.isS (by simp)
        refine o_store rfl rfl (hs8) ?_
        have m8 := k7.kpR n7.isS d7.isS q8
        have kk := kk.other q8 hne24
        have rr := RdT.off rr m8 q8 hne4'
        have gg := gb_new gg q8 hw4
        have n8 := n7.kp m8
        have d8 := h1.kp m8
        obtain ⟨A9, n9, c9, kr, br⟩ := id rr
        refine o_nil (n_then (c_seq (c_seq (c_region (o_move rfl rfl (o_nilCheck rfl rfl (o_fieldAddr rfl rfl (r_fAt (o := 1) Try.underlying91 rfl (by kernel_rfl) rfl) ?_)))))))
        refine o_load rfl rfl (r_load1 Try.underlying4 rfl (kr.cell (i := 1) rfl)) (o_move rfl rfl (g_yes rfl (o_load rfl rfl (k8.ldR) (g_yes rfl ?_))))
        have hml : m.length ≤ 137438953472 := by
          have := hl1 _ rfl
          rw [(rdN_inv hN).1, List.length_append, encN, List.length_append, le4s_len] at this
          omega
        have hml' : m'.length ≤ 137438953472 := by
          have := hl2 _ rfl
          rw [(rdN_inv hM).1, List.length_append, encN, List.length_append, le4s_len] at this
          omega
        refine o_call call_SValid rfl rfl ((by have := SValid_spec (b := s) (RatV.mk n8 d8) hml hml'; rw [hV] at this; exact this)) ?_
        rintro v57 w57 ⟨x57, rfl⟩
        have rr := RfAt.ext rr x57
        have kk := kk.ext x57
        have gg := gg.trans (gb_ext x57)
        refine g_yes rfl (o_not rfl rfl r_not (o_pick_f rfl rfl rfl (o_nil (n_then (c_no rfl (c_skip (n_then (c_seq (c_region (o_load rfl rfl ((k8.ext x57).ldR) ?_))))))))))
        obtain ⟨p, q, w3, hp, hs3, q3, k3, n3, d3⟩ := kk.stR ⟨_, _, _, rfl⟩ ⟨_, _, _, rfl⟩ ((RatV.mk n8 d8).ext x57)
        refine o_store rfl rfl (hs3) (o_assign rfl rfl (o_nil (n_then (c_ret ?_))))
        refine r_bodyc2 rfl rfl rfl k3 Try.underlying35 rfl size_Rat ?_
        exact ⟨_, rfl, gb_new gg q3 l2, by rw [hR]; exact ⟨_, rfl, ⟨p, q, rfl, n3, d3⟩, RdT.off rr (kk.kpR ⟨_, _, _, rfl⟩ ⟨_, _, _, rfl⟩ q3) q3 hne'⟩⟩
      · have hR : (some (c :: l)).bind rdR = none := rdR_n0 hN
        refine c_region (o_move rfl rfl (o_call call_FNat rfl rfl ((FNat_none (st := some l) rr hl1 hN)) ?_))
        rintro v41 w41 ⟨g41, rfl, rs⟩
        have m41 := RdT.kp rr g41
        have kk := kk.other g41 hne
        have k5 := k5.other g41 hne4
        have gg := gg.trans g41
        have rr := rs
        have n5 := n5.kp m41
        have d5 := d5.kp m41
        have h0 := Wds.nil w41
        refine o_move rfl rfl (o_extract rfl rfl (r_ext0) (o_extract rfl rfl r_ext1 (o_fieldAddr rfl rfl (r_fAt (o := 1) Try.underlying35 rfl (by kernel_rfl) rfl) ?_)))
        obtain ⟨w7, hs7, q7, k7⟩ := k5.st1 1 size_Nat h0.isS (by simp)
        refine o_store rfl rfl (hs7) ?_
        have m7 := k5.kpR n5.isS d5.isS q7
        have kk := kk.other q7 hne24
        have rr := RdT.off rr m7 q7 hne4'
        have gg := gb_new gg q7 hw4
        have n7 := h0.kp m7
        have d7 := d5.kp m7
        refine o_nil (n_then (c_seq (c_region (o_move rfl rfl (o_call call_FNat rfl rfl ((FNat_none (st := none) rr (fun _ e => by cases e) rfl)) ?_)))))
        rintro v47 w47 ⟨g47, rfl, rs⟩
        have m47 := RdT.kp rr g47
        have kk := kk.other g47 hne
        have k7 := k7.other g47 hne4
        have gg := gg.trans g47
        have rr := rs
        have n7 := n7.kp m47
        have d7 := d7.kp m47
        have h1 := Wds.nil w47
        refine o_move rfl rfl (o_extract rfl rfl (r_ext0) (o_extract rfl rfl r_ext1 (o_fieldAddr rfl rfl (r_fAt (o := 2) Try.underlying35 rfl (by kernel_rfl) rfl) ?_)))
        obtain ⟨w8, hs8, q8, k8⟩ := k7.st1 2 size_Nat h1.isS (by simp)
        refine o_store rfl rfl (hs8) ?_
        have m8 := k7.kpR n7.isS d7.isS q8
        have kk := kk.other q8 hne24
        have rr := RdT.off rr m8 q8 hne4'
        have gg := gb_new gg q8 hw4
        have n8 := n7.kp m8
        have d8 := h1.kp m8
        obtain ⟨A9, n9, c9, kr, br⟩ := id rr
        refine o_nil (n_then (c_seq (c_seq (c_region (o_move rfl rfl (o_nilCheck rfl rfl (o_fieldAddr rfl rfl (r_fAt (o := 1) Try.underlying91 rfl (by kernel_rfl) rfl) ?_)))))))
        refine o_load rfl rfl (r_load1 Try.underlying4 rfl (kr.cell (i := 1) rfl)) (o_move rfl rfl (g_no rfl rfl rfl (g_no rfl rfl rfl (g_no rfl rfl rfl (o_pick_t rfl rfl rfl ?_)))))
        refine o_nil (n_then (c_yes rfl (c_seq (c_region ?_))))
        refine o_build (vs := []) rfl rfl r_buildR0 ?_
        refine o_move rfl rfl (o_call call_Ffail rfl rfl (Ffail_spec rr) ?_)
        rintro v62 w62 ⟨rfl, rs, g62⟩
        have m62 := RdT.kp rr g62
        have gg := gg.trans g62
        have kk := kk.other g62 hne
        have rr := rs
        obtain ⟨p, q, w3, hp, hs3, q3, k3, n3, d3⟩ := kk.stR ⟨_, _, _, rfl⟩ ⟨_, _, _, rfl⟩ (RatV.mk (b := false) (Wds.nil _) (Wds.nil _))
        refine o_store rfl rfl (hs3) (o_assign rfl rfl (o_nil (n_then (c_ret (r_then ?_)))))
        refine r_bodyc2 rfl rfl rfl k3 Try.underlying35 rfl size_Rat ?_
        exact ⟨_, rfl, gb_new gg q3 l2, by rw [hR]; exact ⟨_, rfl, ⟨p, q, rfl, n3, d3⟩, RdT.off rr (kk.kpR ⟨_, _, _, rfl⟩ ⟨_, _, _, rfl⟩ q3) q3 hne'⟩⟩
      · have hR : (some (c :: l)).bind rdR = none := by
          show rdR (c :: l) = none
          rw [rdR_n1 hc hN, ← hs, hM]; rfl
        refine c_region (o_move rfl rfl (o_call call_FNat rfl rfl ((FNat_some (st := some l) rr hl1 hN)) ?_))
        rintro v41 w41 ⟨g41, v0, rfl, h0, rs⟩
        have m41 := RdT.kp rr g41
        have kk := kk.other g41 hne
        have k5 := k5.other g41 hne4
        have gg := gg.trans g41
        have rr := rs
        have n5 := n5.kp m41
        have d5 := d5.kp m41
        refine o_move rfl rfl (o_extract rfl rfl (r_ext0) (o_extract rfl rfl r_ext1 (o_fieldAddr rfl rfl (r_fAt (o := 1) Try.underlying35 rfl (by kernel_rfl) rfl) ?_)))
        obtain ⟨w7, hs7, q7, k7⟩ := k5.st1 1 size_Nat h0.isS (by simp)
        refine o_store rfl rfl (hs7) ?_
        have m7 := k5.kpR n5.isS d5.isS q7
        have kk := kk.other q7 hne24
        have rr := RdT.off rr m7 q7 hne4'
        have gg := gb_new gg q7 hw4
        have n7 := h0.kp m7
        have d7 := d5.kp m7
        refine o_nil (n_then (c_seq (c_region (o_move rfl rfl ?_))))
        have hl2 : ∀ l', some t = some l' → l'.length ≤ 549755813888 := fun l' e => by
          cases e
          have h1 := (rdN_inv hN).1
          have := hl1 _ rfl
          rw [h1, List.length_append] at this
          omega
        refine o_call call_FNat rfl rfl ((FNat_none (st := some t) rr hl2 hM)) ?_
        rintro v47 w47 ⟨g47, rfl, rs⟩
        have m47 := RdT.kp rr g47
        have kk := kk.other g47 hne
        have k7 := k7.other g47 hne4
        have gg := gg.trans g47
        have rr := rs
        have n7 := n7.kp m47
        have d7 := d7.kp m47
        have h1 := Wds.nil w47
        refine o_move rfl rfl (o_extract rfl rfl (r_ext0) (o_extract rfl rfl r_ext1 (o_fieldAddr rfl rfl (r_fAt (o := 2) Try.underlying35 rfl (by kernel_rfl) rfl) ?_)))
        obtain ⟨w8, hs8, q8, k8⟩ := k7.st1 2 size_Nat h1.isS (by simp)
        refine o_store rfl rfl (hs8) ?_
        have m8 := k7.kpR n7.isS d7.isS q8
        have kk := kk.other q8 hne24
        have rr := RdT.off rr m8 q8 hne4'
        have gg := gb_new gg q8 hw4
        have n8 := n7.kp m8
        have d8 := h1.kp m8
        obtain ⟨A9, n9, c9, kr, br⟩ := id rr
        refine o_nil (n_then (c_seq (c_seq (c_region (o_move rfl rfl (o_nilCheck rfl rfl (o_fieldAddr rfl rfl (r_fAt (o := 1) Try.underlying91 rfl (by kernel_rfl) rfl) ?_)))))))
        refine o_load rfl rfl (r_load1 Try.underlying4 rfl (kr.cell (i := 1) rfl)) (o_move rfl rfl (g_no rfl rfl rfl (g_no rfl rfl rfl (g_no rfl rfl rfl (o_pick_t rfl rfl rfl ?_)))))
        refine o_nil (n_then (c_yes rfl (c_seq (c_region ?_))))
        refine o_build (vs := []) rfl rfl r_buildR0 ?_
        refine o_move rfl rfl (o_call call_Ffail rfl rfl (Ffail_spec rr) ?_)
        rintro v62 w62 ⟨rfl, rs, g62⟩
        have m62 := RdT.kp rr g62
        have gg := gg.trans g62
        have kk := kk.other g62 hne
        have rr := rs
        obtain ⟨p, q, w3, hp, hs3, q3, k3, n3, d3⟩ := kk.stR ⟨_, _, _, rfl⟩ ⟨_, _, _, rfl⟩ (RatV.mk (b := false) (Wds.nil _) (Wds.nil _))
        refine o_store rfl rfl (hs3) (o_assign rfl rfl (o_nil (n_then (c_ret (r_then ?_)))))
        refine r_bodyc2 rfl rfl rfl k3 Try.underlying35 rfl size_Rat ?_
        exact ⟨_, rfl, gb_new gg q3 l2, by rw [hR]; exact ⟨_, rfl, ⟨p, q, rfl, n3, d3⟩, RdT.off rr (kk.kpR ⟨_, _, _, rfl⟩ ⟨_, _, _, rfl⟩ q3) q3 hne'⟩⟩
end Go.Rl


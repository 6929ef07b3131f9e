/- Walk of the statement DigestDivision. No condition but that the rows can be read. -/
import Derived.Test.YtlieingmahbmcaaDgC
import Derived.Test.YtlieingmahbmcaaTy
namespace Go.Rl
open Go.RowKit Go.Proofs

theorem size_bs : (Try.prog.info? 22).map (·.size) = some 1 := by kernel_rfl
theorem dBs_size (l : List (List UInt8)) : ∀ d ∈ l.map dBs, d.size = 1 := by
  intro d hd
  obtain ⟨x, _, rfl⟩ := List.mem_map.1 hd
  rfl
/-- the row at an index of a row of rows -/
theorem r_ixBs {w : World} {l : List (List UInt8)} {v : Value} (h : Rp w (dBss l) [v]) {i : Nat} (hi : i < l.length) (k : IntKind) :
    ∃ ad x, (∀ w' : World, (Instr.indexAt 39 v (.int k i)).run Try.prog w' = .ok (.pointer (some ad)) w') ∧ w.cell? ad = some x ∧ Bts l[i] x w := by
  obtain ⟨ad, cs, h1, h2, h3⟩ := r_ixD (P := Try.prog) Try.underlying39 size_bs h (dBs_size l) (by omega) (i := i) (by simpa using hi) k
  rw [List.getElem_map] at h3
  obtain ⟨x, rfl, h4, _⟩ := h3.isSlice
  exact ⟨ad, x, h1, h2.cell0, Rp.bts.1 h4⟩
theorem OwnB.away {base : Nat} {l : List UInt8} {v : Value} {w : World} (h : OwnB base l v w) {g : Nat} (hg : g < base) : Away g v := by
  rintro a n c rfl he
  exact h.off hg (by rw [← he]; rfl)
theorem flat_take {l : List (List UInt8)} {i : Nat} (h : i < l.length) : (l.take (i + 1)).flatten = (l.take i).flatten ++ l[i] := by
  rw [List.take_succ_eq_append_getElem h, List.flatten_append]; simp
theorem flat_len : ∀ (l : List (List UInt8)), (∀ s ∈ l, s.length ≤ 200) → l.flatten.length ≤ 200 * l.length
  | [], _ => by simp
  | s :: l, h => by
    have := flat_len l fun s h' => h s (by simp [h'])
    have := h s (by simp)
    simp only [List.flatten_cons, List.length_append, List.length_cons]
    omega
theorem DigestDivision_walk {w : World} {l : List (List UInt8)} {v : Value} (hv : Rp w (dBss l) [v]) :
    Calls Try.prog 7 #[v] w (Ret fun r w' => r = B true ∧ Ext w w') := by
  refine enter (vs := [v]) Try.func7 rfl rfl rfl ?_
  refine c_seq (c_region (o_assign rfl rfl (o_nil (n_then (c_seq (c_seq (c_region (o_call call_dawake rfl rfl (dawake_spec w) ?_))))))))
  rintro v9 w9 ⟨rfl, x9⟩
  refine o_not rfl rfl r_not (o_move rfl rfl (g_yes rfl (o_move rfl rfl (g_yes rfl (o_len rfl rfl (r_lenD Try.underlying39 (hv.ext x9)) (g_yes rfl (o_bin rfl rfl rfl (r_gtr_i) ?_)))))))
  refine o_pick_f rfl rfl rfl (o_nil (n_then ?_))
  refine c_if rfl (fun h15 => ?_) (fun h15 => ?_)
  · refine c_seq (c_region (o_call call_dawake rfl rfl (dawake_spec w9) ?_))
    rintro v16 w16 ⟨rfl, x16⟩
    refine o_assign rfl rfl (o_nil (n_then (c_ret (r_then (r_body1 rfl rfl ?_)))))
    exact ⟨_, rfl, rfl, (x9.trans x16)⟩
  · have hlen : l.length ≤ 12 := by simp at h15; omega
    refine c_skip (n_then (c_seq (c_region (o_call (vs := []) call_HNew rfl rfl (New0_spec w9) ?_))))
    rintro v17 w17 ⟨x17, g, hg, rfl, hA⟩
    refine o_call (vs := []) call_HNew rfl rfl (New0_spec w17) ?_
    rintro v18 w18 ⟨x18, g', hg', rfl, hC⟩
    have hgw : w.heap.size ≤ g := Nat.le_trans x9.size hg
    have hgw' : w.heap.size ≤ g' := Nat.le_trans (x9.trans x17).size hg'
    have ltg : g < g' := Nat.lt_of_lt_of_le hA.lt hg'
    have ne1 : some g' ≠ some g := fun h => by cases h; omega
    have ne2 : some g ≠ some g' := fun h => by cases h; omega
    refine o_assign rfl rfl (o_assign rfl rfl (o_nil (n_then (c_seq (c_region (o_assign rfl rfl (o_nil (n_then (c_seq (c_seq (c_region (o_assign rfl rfl (o_nil (n_then (c_block ?_)))))))))))))))
    refine c_loop (α := Nat × Value) (fun x => [(0, v), (3, .pointer (some ⟨g, 0, none⟩)), (4, .pointer (some ⟨g', 0, none⟩)), (5, x.2), (6, I (x.1 : Int))]) (fun x w' => HA g (l.take x.1).flatten (UInt64.ofNat (l.take x.1).flatten.length) w' ∧ HA g' (l.take x.1).flatten (UInt64.ofNat (l.take x.1).flatten.length) w' ∧ OwnB w.heap.size (l.take x.1).flatten x.2 w' ∧ x.2.ownBlock ≠ some g ∧ x.2.ownBlock ≠ some g' ∧ Ext w w' ∧ x.1 ≤ l.length ∧ ∀ s ∈ l.take x.1, s.length ≤ 200) (fun x => l.length - x.1) ((0, .slice none 0 0)) ⟨rfl, rfl, rfl, rfl, rfl, trivial⟩ ⟨by simpa using hA.ext x18, by simpa using hC, by simpa using OwnB.nil _ _, by simp [Value.ownBlock], by simp [Value.ownBlock], ((x9.trans x17).trans x18), by simp, by simp⟩ ?_
    rintro ⟨i, va⟩ w6 ⟨h1, h2, oa, na, nb, e6, hi, hs⟩
    refine c_seq (c_seq ?_)
    dsimp only at h1 h2 oa na nb e6 hi hs
    have hfl := flat_len _ hs
    have hfl2 : (l.take i).flatten.length ≤ 2400 := by simp only [List.length_take] at hfl; omega
    refine c_region (o_move rfl rfl (o_move rfl rfl (o_len rfl rfl (r_lenD Try.underlying39 (hv.ext e6)) (o_bin rfl rfl rfl (r_lss_i) (o_nil (n_then ?_))))))
    refine c_if rfl (fun h22 => ?_) (fun h22 => ?_)
    · have hlt : i < l.length := by simp at h22; omega
      refine c_skip (n_then (c_seq (c_block (c_seq (c_seq (c_region (o_move rfl rfl (o_move rfl rfl ?_))))))))
      obtain ⟨a27, b, p27, c27, f27⟩ := r_ixBs (hv.ext e6) hlt .i64
      refine o_indexAddr rfl rfl rfl (p27 _) (o_load rfl rfl (r_load1 Try.underlying22 rfl c27) (o_len rfl rfl (r_lenB f27) (o_bin rfl rfl rfl (r_gtr_i) (o_nil (n_then ?_)))))
      refine c_if rfl (fun h30 => ?_) (fun h30 => ?_)
      · refine c_seq (c_region (o_assign rfl rfl (o_nil (n_then (c_ret (r_then (r_block (r_then (r_then (r_block (r_then (r_body1 rfl rfl ?_))))))))))))
        exact ⟨_, rfl, rfl, e6⟩
      · refine c_skip (n_then (c_seq ?_))
        have hl2 : l[i].length ≤ 200 := by omega
        refine c_region ?_
        obtain ⟨v31, w31, hr31, x31, o31, ob31⟩ := r_bsB (w := w6) w6.heap.size [] (by simp) (Nat.le_refl _)
        refine o_buildSlice (vs := []) rfl rfl hr31 (o_move rfl rfl (o_move rfl rfl (o_indexAddr rfl rfl rfl (p27 _) ?_)))
        refine o_load rfl rfl (r_load1 Try.underlying22 rfl (x31.cell_some c27)) ?_
        have f35 := f27.ext x31
        obtain ⟨v36, w36, hr36, o36, g36⟩ := r_appB (ty := 22) o31 f35 (by simp only [List.length_nil]; omega) (x31).size
        have x36 := Ext.of_grew (x31) g36 o31.ge
        refine o_append rfl rfl hr36 ?_
        rw [List.nil_append] at o36
        have lg : g < w6.heap.size := h1.lt
        have lg' : g' < w6.heap.size := h2.lt
        have na' := oa.ext x36
        refine o_assign rfl rfl (o_nil (n_then (c_seq (c_region (o_move rfl rfl (o_move rfl rfl (o_call call_Write rfl rfl (Write_spec (h1.ext x36) o36.bts (fun _ => o36.away lg)) ?_)))))))
        rintro v39 w39 ⟨q39, h39⟩
        have x39 := (e6.trans x36).of_new q39 hgw
        have o39 := o36.kept q39 (.inr (o36.off lg))
        have k39 := (h2.ext x36).other q39 ne1
        have a39 := na'.kept q39 (.inr na)
        refine o_nil (n_then (c_seq (c_region (o_move rfl rfl (o_move rfl rfl (o_call call_Write rfl rfl (Write_spec k39 o39.bts (fun _ => o39.away lg')) ?_))))))
        rintro v42 w42 ⟨q42, h42⟩
        have x42 := x39.of_new q42 hgw'
        have o42 := o39.kept q42 (.inr (o39.off lg'))
        have k42 := h39.other q42 ne2
        have a42 := a39.kept q42 (.inr nb)
        rw [← UInt64.ofNat_add, ← List.length_append, ← flat_take hlt] at h42 k42
        have lo : ∀ k, va.ownBlock = some k → k < w6.heap.size := fun k hk => oa.lt k hk
        have no : va.ownBlock = none ∨ va.ownBlock ≠ v36.ownBlock := by
          cases hq : va.ownBlock with
          | none => exact .inl rfl
          | some k => exact .inr fun he => by have := o42.ge k he.symm; have := lo k hq; omega
        have no1 : some g ≠ v36.ownBlock := fun he => o42.off lg he.symm
        have no2 : some g' ≠ v36.ownBlock := fun he => o42.off lg' he.symm
        refine o_nil (n_then (c_seq (c_seq (c_region (o_assign rfl rfl (o_nil (n_then (c_block ?_))))))))
        refine c_loop (α := Nat × List UInt8) (fun x => [(0, v), (3, .pointer (some ⟨g, 0, none⟩)), (4, .pointer (some ⟨g', 0, none⟩)), (5, va), (6, I (i : Int)), (7, v36), (8, I (x.1 : Int))]) (fun x w' => w42.grownBy w' v36.ownBlock ∧ OwnB w6.heap.size x.2 v36 w' ∧ x.2.length = l[i].length ∧ x.1 ≤ l[i].length) (fun x => l[i].length - x.1) ((0, l[i])) ⟨rfl, rfl, rfl, rfl, rfl, rfl, rfl, trivial⟩ ⟨gb_ext (Ext.refl _), o42, rfl, by simp⟩ ?_
        rintro ⟨k, m⟩ w14 ⟨q14, o14, hm, hk⟩
        refine c_seq (c_seq ?_)
        dsimp only at q14 o14 hm hk
        refine c_region (o_move rfl rfl (o_move rfl rfl (o_len rfl rfl (r_lenB o14.bts) (o_bin rfl rfl rfl (r_lss_i) (o_nil (n_then ?_))))))
        refine c_if rfl (fun h46 => ?_) (fun h46 => ?_)
        · refine c_skip (n_then (c_seq (c_block (c_region (o_move rfl rfl (o_move rfl rfl ?_))))))
          obtain ⟨go, w51, p51, s51, o51, q51, hgo, c51, hb51⟩ := o14.setB (i := k) (by omega) (m[k]'(by omega) + 1)
          refine o_indexAddr rfl rfl rfl (p51 _) (o_load rfl rfl (r_load1 Try.underlying5 rfl c51) (o_bin (v := U8 1) rfl rfl rfl (r_add_u8) (o_indexAddr rfl rfl rfl (p51 _) ?_)))
          refine o_store rfl rfl (s51) (o_nil (n_block (n_then (c_region (o_move rfl rfl (o_bin rfl rfl rfl (r_add_i (by omega) (by omega)) (o_assign rfl rfl (o_nil ?_))))))))
          refine n_round (k + 1, m.set k (m[k]'(by omega) + 1)) ⟨rfl, rfl, rfl, rfl, rfl, rfl, rfl, trivial⟩ ⟨q14.trans (by rw [hb51]; exact q51), o51, by simpa using hm, by show k + 1 ≤ _; omega⟩ (by show l[i].length - (k + 1) < l[i].length - k; omega)
        · refine c_exit (x_then (x_then (x_here (n_then (c_seq ?_)))))
          have e14 : Ext w w14 := x42.of_grown q14 (fun k hk => Nat.le_trans e6.size (o14.ge k hk))
          have h17 := h42.other q14 no2
          have k17 := k42.other q14 no1
          have a17 := a42.kept q14 no
          refine c_region (o_move rfl rfl (o_move rfl rfl (o_move rfl rfl ?_)))
          obtain ⟨a58, b', p58, c58, f58⟩ := r_ixBs (hv.ext e14) hlt .i64
          refine o_indexAddr rfl rfl rfl (p58 _) (o_load rfl rfl (r_load1 Try.underlying22 rfl c58) ?_)
          obtain ⟨v60, w60, hr60, o60, g60⟩ := r_appB (ty := 22) a17 f58 (by omega) e14.size
          refine o_append rfl rfl hr60 ?_
          have x60 : Ext w w60 := Ext.of_grew e14 g60 a17.ge
          have h60 := h17.other g60.grown (fun he => nb he.symm)
          have k60 := k17.other g60.grown (fun he => na he.symm)
          have n60 : v60.ownBlock ≠ some g := fun he => by
            rcases g60.own with h | h
            · exact na (h ▸ he)
            · have := h g he; have := k17.lt; omega
          have n60' : v60.ownBlock ≠ some g' := fun he => by
            rcases g60.own with h | h
            · exact nb (h ▸ he)
            · have := h g' he; have := h17.lt; omega
          rw [← flat_take hlt] at o60
          have hs' : ∀ s ∈ l.take (i + 1), s.length ≤ 200 := by
            rw [List.take_succ_eq_append_getElem hlt]
            intro s h
            rcases List.mem_append.1 h with h | h
            · exact hs s h
            · obtain rfl : s = l[i] := by simpa using h
              exact hl2
          have hfl' := flat_len _ hs'
          have hfl3 : (l.take (i + 1)).flatten.length ≤ 2600 := by simp only [List.length_take] at hfl'; omega
          refine o_assign rfl rfl (o_nil (n_then (c_seq (c_region (o_move rfl rfl (o_call call_HSum rfl rfl (HSum_spec h60) ?_))))))
          rintro v62 w62 ⟨x62, rfl⟩
          refine o_move rfl rfl (o_call call_rSum rfl rfl (rSum_spec ((o60.ext x62).bts) (by omega)) ?_)
          rintro v64 w64 ⟨x64, rfl⟩
          refine o_bin rfl rfl rfl (r_neqA (dig_len _)) (o_nil (n_then (c_no rfl (c_skip (n_block (n_then (c_region (o_move rfl rfl (o_bin rfl rfl rfl (r_add_i (by omega) (by omega)) (o_assign rfl rfl ?_))))))))))
          refine o_nil ?_
          refine n_round (i + 1, v60) ⟨rfl, rfl, rfl, rfl, rfl, trivial⟩ ⟨(k60.ext x62).ext x64, (h60.ext x62).ext x64, (o60.ext x62).ext x64, n60, n60', ((x60.trans x62).trans x64), hlt, hs'⟩ (by show l.length - (i + 1) < l.length - i; omega)
    · refine c_exit (x_then (x_then (x_here (n_then (c_seq ?_)))))
      have hil : l.take i = l := List.take_of_length_le (by simp at h22; omega)
      rw [hil] at h1 h2 oa hfl2
      refine c_region (o_move rfl rfl (o_call call_HSum rfl rfl (HSum_spec h1) ?_))
      rintro v67 w67 ⟨x67, rfl⟩
      refine o_move rfl rfl (o_call call_rSum rfl rfl (rSum_spec ((oa.ext x67).bts) (by omega)) ?_)
      rintro v69 w69 ⟨x69, rfl⟩
      refine o_bin rfl rfl rfl (r_eqlA (dig_len _)) (o_move rfl rfl (g_yes rfl (o_move rfl rfl (g_yes rfl (o_call call_HSum rfl rfl (HSum_spec ((h1.ext x67).ext x69)) ?_)))))
      rintro v73 w73 ⟨x73, rfl⟩
      refine g_yes rfl (o_move rfl rfl (g_yes rfl (o_call call_HSum rfl rfl (HSum_spec (((h2.ext x67).ext x69).ext x73)) ?_)))
      rintro v75 w75 ⟨x75, rfl⟩
      refine g_yes rfl (o_bin rfl rfl rfl (r_eqlA (dig_len _)) (o_pick_t rfl rfl rfl (o_assign rfl rfl (o_nil (n_then (c_ret (r_body1 rfl rfl ?_)))))))
      exact ⟨_, rfl, rfl, ((((e6.trans x67).trans x69).trans x73).trans x75)⟩
end Go.Rl


/- The statement WireRationals: naturals and rationals are appended in the specified bytes. No condition. -/
import Derived.Test.YtlieingmahbmcaaRat
namespace Go.Rl
open Go.RowKit Go.Proofs

theorem r_loadRow {P : Program} {w : World} {ty T : TypeId} {d : TypeDesc} {g : Nat} {cs : Array Value} {fr : Nat × Nat} (hu : P.underlying ty = some d) (hd : (match d with | .struct _ | .array _ _ => true | _ => false) = true) (hi : (P.info? ty).map (·.size) = some cs.size) (hg : w.heap[g]? = some (.cells cs T fr)) :
    (Instr.loadAt ty (.pointer (some ⟨g, 0, none⟩))).run P w = .ok (.agg cs) w := by
  simp only [Instr.loadAt, Instr.sureAddr, Sem.run_bind, Sem.run_pure, Result.andThen_ok, run_loadVar_row w g T ty cs fr d hg hu hd hi]

theorem WireRationals_walk {w : World} {l : List UInt8} {v nv rv : Value} {ns : List UInt32} {b : Bool} {n m : List UInt32} (hv : Bts l v w) (hn : Wds ns nv w) (hr : RatV b n m rv w) :
    Calls Try.prog 4 #[v, nv, rv] w (Ret fun r w' => r = B true ∧ Ext w w') := by
  have hr0 := hr
  obtain ⟨x, y, rfl, hx, hy⟩ := hr
  refine enter (vs := [v, nv, .agg #[B b, x, y]]) Try.func4 rfl rfl rfl ?_
  refine c_seq (c_region (o_box rfl rfl r_box ?_))
  have e1 : Ext w (w.alloc (.cells (Value.agg #[B b, x, y]).cells 31)) := Ext.new w _
  have hbx := heap_alloc_new w (.cells (Value.agg #[B b, x, y]).cells 31)
  revert e1 hbx
  generalize w.alloc (.cells (Value.agg #[B b, x, y]).cells 31) = w1
  intro e1 hbx
  have cell : ∀ (i : Nat) (u : Value), (#[B b, x, y] : Array Value)[i]? = some u → ∀ w', Ext w1 w' → w'.cell? ⟨w.heap.size, i, none⟩ = some u := fun i u hu w' hw' => cellAt (hw'.at hbx) hu
  refine o_assign rfl rfl (o_nil (n_then ?_))
  refine c_seq (c_seq (c_cut (fun c : Bool => [(0, v), (1, nv), (5, .pointer (some ⟨w.heap.size, 0, none⟩)), (30, B c)]) (fun c w' => Ext w1 w' ∧ (c = false → l.length ≤ 100 ∧ ns.length ≤ 10 ∧ n.length ≤ 10 ∧ m.length ≤ 10)) (c_region ?_) ?_))
  · refine o_call call_awake rfl rfl (awake_spec w1) ?_
    rintro r1 w2 ⟨rfl, hx2⟩
    have q2 := e1.trans hx2
    refine o_not rfl rfl r_not ?_
    refine o_move rfl rfl (g_yes rfl (o_move rfl rfl ?_))
    refine g_yes rfl (o_len rfl rfl (r_lenB (hv.ext q2)) ?_)
    by_cases h1 : (100 : Int) < (l.length : Int)
    · refine g_yes rfl (o_bin rfl rfl rfl (dec_t h1 r_gtr_i) ?_)
      refine o_pick_f rfl rfl rfl (o_move rfl rfl ?_)
      iterate 3 refine g_no rfl rfl rfl ?_
      refine o_pick_t rfl rfl rfl (o_move rfl rfl ?_)
      iterate 4 refine g_no rfl rfl rfl ?_
      refine o_pick_t rfl rfl rfl (o_move rfl rfl ?_)
      iterate 4 refine g_no rfl rfl rfl ?_
      exact o_pick_t rfl rfl rfl (o_nil (n_meet true ⟨rfl, rfl, rfl, rfl, trivial⟩ ⟨hx2, fun h => by cases h⟩))
    refine g_yes rfl (o_bin rfl rfl rfl (dec_f h1 r_gtr_i) ?_)
    refine o_pick_f rfl rfl rfl (o_move rfl rfl (g_yes rfl (o_move rfl rfl ?_)))
    refine g_yes rfl (o_len rfl rfl (r_lenW Try.underlying29 (hn.ext q2)) ?_)
    by_cases h2 : (10 : Int) < (ns.length : Int)
    · refine g_yes rfl (o_bin rfl rfl rfl (dec_t h2 r_gtr_i) ?_)
      refine o_pick_f rfl rfl rfl (o_move rfl rfl ?_)
      iterate 4 refine g_no rfl rfl rfl ?_
      refine o_pick_t rfl rfl rfl (o_move rfl rfl ?_)
      iterate 4 refine g_no rfl rfl rfl ?_
      exact o_pick_t rfl rfl rfl (o_nil (n_meet true ⟨rfl, rfl, rfl, rfl, trivial⟩ ⟨hx2, fun h => by cases h⟩))
    refine g_yes rfl (o_bin rfl rfl rfl (dec_f h2 r_gtr_i) ?_)
    refine o_pick_f rfl rfl rfl (o_move rfl rfl ?_)
    refine g_yes rfl (o_fieldAddr rfl rfl (r_fieldAt Try.underlying31 rfl size_Nat (by omega)) ?_)
    refine g_yes rfl (o_load rfl rfl (r_load1 Try.underlying29 rfl (cell 1 _ rfl _ hx2)) ?_)
    refine g_yes rfl (o_len rfl rfl (r_lenW Try.underlying29 (hx.ext q2)) ?_)
    by_cases h3 : (10 : Int) < (n.length : Int)
    · refine g_yes rfl (o_bin rfl rfl rfl (dec_t h3 r_gtr_i) ?_)
      refine o_pick_f rfl rfl rfl (o_move rfl rfl ?_)
      iterate 4 refine g_no rfl rfl rfl ?_
      exact o_pick_t rfl rfl rfl (o_nil (n_meet true ⟨rfl, rfl, rfl, rfl, trivial⟩ ⟨hx2, fun h => by cases h⟩))
    refine g_yes rfl (o_bin rfl rfl rfl (dec_f h3 r_gtr_i) ?_)
    refine o_pick_f rfl rfl rfl (o_move rfl rfl ?_)
    refine g_yes rfl (o_fieldAddr rfl rfl (r_fieldAt Try.underlying31 rfl size_Nat (by omega)) ?_)
    refine g_yes rfl (o_load rfl rfl (r_load1 Try.underlying29 rfl (cell 2 _ rfl _ hx2)) ?_)
    refine g_yes rfl (o_len rfl rfl (r_lenW Try.underlying29 (hy.ext q2)) ?_)
    refine g_yes rfl (o_bin rfl rfl rfl r_gtr_i ?_)
    refine o_pick_f rfl rfl rfl (o_nil (n_meet (decide ((10 : Int) < (m.length : Int))) ⟨rfl, rfl, rfl, rfl, trivial⟩ ⟨hx2, fun h => ?_⟩))
    have := of_decide_eq_false h
    omega
  rintro c w2 ⟨hx2, hsm⟩
  refine n_then (c_cond rfl (fun h => ?_) (fun h => ?_))
  · refine c_seq (c_region ?_)
    refine o_call call_awake rfl rfl (awake_spec w2) ?_
    rintro r1 w3 ⟨rfl, hx3⟩
    refine o_assign rfl rfl (o_nil (n_then (c_ret (r_then ?_))))
    refine r_body1 rfl rfl ?_
    exact ⟨_, rfl, rfl, (e1.trans hx2).trans hx3⟩
  · obtain ⟨s1, s2, s3, s4⟩ := hsm h
    have q2 := e1.trans hx2
    refine c_skip (n_then (c_seq ?_))
    have hld : ∀ w', Ext w2 w' → (Instr.loadAt 31 (.pointer (some ⟨w.heap.size, 0, none⟩))).run Try.prog w' = .ok (.agg #[B b, x, y]) w' := fun w' hw' => r_loadRow Try.underlying31 rfl size_Rat ((hx2.trans hw').at hbx)
    refine c_grow 20 [51] (by kernel_rfl) (by kernel_rfl) ?_
    refine f_move rfl rfl (f_move rfl rfl ?_)
    refine f_call (S := Bts (l ++ encN ns)) call_AppendNat (Bts.stable _) rfl (fun w' hw => by
      rintro _ rfl _ rfl
      exact Ret.mono (AppendNat_spec ((hv.ext q2).ext hw) ((hn.ext q2).ext hw) (by omega)) fun v w' h => ⟨h.1, h.2.bts⟩) ?_
    refine f_convS (S := Bts (l ++ encN ns)) rfl (Stable.is _) rfl (fun w v hw hv => ⟨_, w, r_str hv, Ext.refl _, rfl⟩) ?_
    refine f_move rfl rfl (f_move rfl rfl ?_)
    refine f_call (S := Bts (l ++ encN ns)) call_rAppendNat (Bts.stable _) rfl (fun w' hw => by
      rintro _ rfl _ rfl
      exact Ret.mono (rAppendNat_spec ((hv.ext q2).ext hw) ((hn.ext q2).ext hw) (by omega)) fun v w' h => ⟨h.1, h.2.bts⟩) ?_
    refine f_convS (S := Bts (l ++ encN ns)) rfl (Stable.is _) rfl (fun w v hw hv => ⟨_, w, r_str hv, Ext.refl _, rfl⟩) ?_
    refine f_bin rfl rfl rfl (fun w _ => dec_t rfl r_eql_s) ?_
    refine f_move rfl rfl (f_yes rfl rfl (f_move rfl rfl ?_))
    refine f_yes rfl rfl (f_load rfl rfl hld ?_)
    refine f_yes rfl rfl (f_call (S := Bts (l ++ encR b n m)) call_AppendRat (Bts.stable _) rfl (fun w' hw => by
      rintro _ rfl _ rfl
      exact Ret.mono (AppendRat_spec ((hv.ext q2).ext hw) ((hr0.ext q2).ext hw) (by omega)) fun v w' h => ⟨h.1, h.2.bts⟩) ?_)
    refine f_yes rfl rfl (f_convS (S := Bts (l ++ encR b n m)) rfl (Stable.is _) rfl (fun w v hw hv => ⟨_, w, r_str hv, Ext.refl _, rfl⟩) ?_)
    refine f_yes rfl rfl (f_move rfl rfl (f_yes rfl rfl (f_load rfl rfl hld ?_)))
    refine f_yes rfl rfl (f_call (S := Bts (l ++ encR b n m)) call_rAppendRat (Bts.stable _) rfl (fun w' hw => by
      rintro _ rfl _ rfl
      exact Ret.mono (rAppendRat_spec ((hv.ext q2).ext hw) ((hr0.ext q2).ext hw) (by omega)) fun v w' h => ⟨h.1, h.2.bts⟩) ?_)
    refine f_yes rfl rfl (f_convS (S := Bts (l ++ encR b n m)) rfl (Stable.is _) rfl (fun w v hw hv => ⟨_, w, r_str hv, Ext.refl _, rfl⟩) ?_)
    refine f_yes rfl rfl (f_bin rfl rfl rfl (fun w _ => dec_t rfl r_eql_s) ?_)
    refine f_pick_t rfl rfl rfl (f_nil ?_)
    intro w3 hx3
    rintro _ rfl
    refine o_assign rfl rfl (o_nil (n_then (c_ret ?_)))
    refine r_body1 rfl rfl ?_
    exact ⟨_, rfl, rfl, q2.trans hx3⟩
end Go.Rl

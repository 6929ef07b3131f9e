/- Walks of the functions that append rationals, and of the statement WireRationals. Conditions: what is appended to is short. -/
import Derived.Test.YtlieingmahbmcaaW2
import Derived.Test.YtlieingmahbmcaaHeld
namespace Go.Rl
open Go.RowKit Go.Proofs

theorem call_AppendRat : Callable Try.prog 20 := ⟨_, Try.func20, by kernel_rfl, rfl⟩
theorem call_rAppendRat : Callable Try.prog 21 := ⟨_, Try.func21, by kernel_rfl, rfl⟩

theorem Ext.at {w w' : World} (hx : Ext w w') {g : Nat} {o : Obj} (h : w.heap[g]? = some o) : w'.heap[g]? = some o := by
  rw [hx.block g (by obtain ⟨h, _⟩ := Array.getElem?_eq_some_iff.1 h; exact h)]
  exact h
theorem OwnB.low {base base' : Nat} {l : List UInt8} {v : Value} {w : World} (h : OwnB base l v w) (hb : base' ≤ base) : OwnB base' l v w := by
  have hge := h.ge
  obtain ⟨n, h⟩ := h
  exact ⟨n, ownsRow_base h fun k hk => Nat.le_trans hb (hge k hk)⟩

theorem OwnB.grown {base : Nat} {l : List UInt8} {u v r : Value} {w w' : World} (h : OwnB base l u w) (hg : Grew w w' v r) (hne : u.ownBlock = none ∨ u.ownBlock ≠ v.ownBlock) : OwnB base l u w' := by
  obtain ⟨n, h⟩ := h
  exact ⟨n, World.ownsRow.kept h hg.grown hne⟩
theorem OwnB.lt {base : Nat} {l : List UInt8} {v : Value} {w : World} (h : OwnB base l v w) : ∀ k, v.ownBlock = some k → k < w.heap.size := by
  obtain ⟨n, h⟩ := h
  exact fun k hk => (World.ownsRow.lt h k hk).2

/-- A rational value: a sign and two rows of limbs. -/
def RatV (b : Bool) (n m : List UInt32) : Fact := fun v w => ∃ x y, v = .agg #[B b, x, y] ∧ Wds n x w ∧ Wds m y w
theorem RatV.ext {b : Bool} {n m : List UInt32} {v : Value} {w w' : World} (h : RatV b n m v w) (hx : Ext w w') : RatV b n m v w' := by
  obtain ⟨x, y, rfl, h1, h2⟩ := h
  exact ⟨x, y, rfl, h1.ext hx, h2.ext hx⟩
def sgn (b : Bool) : UInt8 := if b then 1 else 0
def encR (b : Bool) (n m : List UInt32) : List UInt8 := [sgn b] ++ encN n ++ encN m

theorem size_bool' : (Try.prog.info? 4).map (·.size) = some 1 := by kernel_rfl
theorem size_Nat : (Try.prog.info? 29).map (·.size) = some 1 := by kernel_rfl
theorem size_Rat : (Try.prog.info? 31).map (·.size) = some 3 := by kernel_rfl

section
variable {w : World} {l : List UInt8} {ns : List UInt32} {v nv : Value}

theorem rAppendNat_spec (hv : Bts l v w) (hn : Wds ns nv w) (hl : l.length + 4 * ns.length ≤ 35184372088832) :
    Calls Try.prog 19 #[v, nv] w (Ret fun r w' => Ext w w' ∧ OwnB w.heap.size (l ++ encN ns) r w') := by
  refine enter (vs := [v, nv]) Try.func19 rfl rfl rfl ?_
  refine c_seq (c_region (o_assign rfl rfl (o_nil (n_then (c_seq (c_region (o_move rfl rfl (o_move rfl rfl ?_))))))))
  refine o_len rfl rfl (r_lenW Try.underlying29 hn) ?_
  refine o_conv rfl rfl (r_n_u64 Try.underlying3 Try.underlying23) ?_
  refine o_call call_rAppendUint rfl rfl (rAppendUint_spec hv (by omega)) ?_
  rintro b1 w1 ⟨hx1, hb1⟩
  have hns := hn.len
  have hlen : (UInt64.ofNat ns.length).toNat = ns.length := by rw [UInt64.toNat_ofNat']; omega
  rw [hlen] at hb1
  have huv := uv_len (n := ns.length) (by omega)
  refine o_assign rfl rfl (o_nil (n_then (c_seq (c_seq (c_region (o_assign rfl rfl (o_nil (n_then (c_block ?_)))))))))
  refine c_loop (α := Nat × Value) (fun x => [(1, nv), (5, x.2), (6, I (x.1 : Int))])
    (fun x w' => OwnB w.heap.size (l ++ uv ns.length ++ le4s (ns.take x.1)) x.2 w' ∧ Ext w w' ∧ x.1 ≤ ns.length) (fun x => ns.length - x.1) (0, b1) ⟨rfl, rfl, rfl, trivial⟩
    ⟨by simpa [le4s] using hb1, hx1, by simp⟩ ?_
  rintro ⟨k, b⟩ w2 ⟨hb, hx2, hk⟩
  dsimp only at hb hx2 hk
  have hdl : (l ++ uv ns.length ++ le4s (ns.take k)).length ≤ 35184372088832 + 10 := by
    simp only [List.length_append, le4s_len, List.length_take]; omega
  refine c_seq (c_seq (c_region (o_move rfl rfl (o_move rfl rfl ?_))))
  refine o_len rfl rfl (r_lenW Try.underlying29 (hn.ext hx2)) ?_
  refine o_bin rfl rfl rfl (r_lss_i) ?_
  refine o_nil (n_then ?_)
  refine c_if rfl (fun h => ?_) (fun h => ?_)
  · have hlt : k < ns.length := by omega
    refine c_skip (n_then (c_seq (c_block ?_)))
    obtain ⟨ad, had, hcell⟩ := r_ixW Try.underlying29 (hn.ext hx2) hlt .i64
    have hld : ∀ w', Ext w2 w' → (Instr.loadAt 64 (.pointer (some ad))).run Try.prog w' = .ok (U32 ns[k]) w' := fun w' hw' => by
      obtain ⟨ad', had', hcell'⟩ := r_ixW Try.underlying29 (hn.ext (hx2.trans hw')) hlt .i64
      have := (had w').symm.trans (had' w')
      simp only [Result.ok.injEq, Value.pointer.injEq, Option.some.injEq, and_true] at this
      subst this
      exact r_ldW hcell'
    refine c_grow 25 [1, 6, 18, 42] (by kernel_rfl) (by kernel_rfl) ?_
    refine f_move rfl rfl (f_move rfl rfl (f_move rfl rfl ?_))
    refine f_indexAddr rfl rfl rfl (fun w _ => had w) ?_
    refine f_load rfl rfl hld ?_
    refine f_conv rfl rfl (fun w _ => r_u32_u8 Try.underlying64 Try.underlying5) ?_
    refine f_move rfl rfl (f_move rfl rfl ?_)
    refine f_indexAddr rfl rfl rfl (fun w _ => had w) ?_
    refine f_load rfl rfl hld ?_
    refine f_bin rfl rfl rfl (fun w _ => r_shr_u32 8 (by omega)) ?_
    refine f_conv rfl rfl (fun w _ => r_u32_u8 Try.underlying64 Try.underlying5) ?_
    refine f_move rfl rfl (f_move rfl rfl ?_)
    refine f_indexAddr rfl rfl rfl (fun w _ => had w) ?_
    refine f_load rfl rfl hld ?_
    refine f_bin rfl rfl rfl (fun w _ => r_shr_u32 16 (by omega)) ?_
    refine f_conv rfl rfl (fun w _ => r_u32_u8 Try.underlying64 Try.underlying5) ?_
    refine f_move rfl rfl (f_move rfl rfl ?_)
    refine f_indexAddr rfl rfl rfl (fun w _ => had w) ?_
    refine f_load rfl rfl hld ?_
    refine f_bin rfl rfl rfl (fun w _ => r_shr_u32 24 (by omega)) ?_
    refine f_conv rfl rfl (fun w _ => r_u32_u8 Try.underlying64 Try.underlying5) ?_
    refine f_buildSlice (S := Bts (le4 ns[k])) (Bts.stable _) rfl (fun w' _ => by
      rintro _ rfl _ rfl _ rfl _ rfl
      obtain ⟨r3, w3, hr3, hx3, ho3, _⟩ := r_bsB (w := w') w'.heap.size (le4 ns[k]) (by simp [le4]) (Nat.le_refl _)
      exact ⟨r3, w3, hr3, hx3, ho3.bts⟩) ?_
    refine f_nil ?_
    intro w3 hx3
    rintro _ rfl _ rfl _ rfl r3 hr3
    obtain ⟨r4, w4, hr4, ho4, hg4⟩ := r_appB (ty := 22) (hb.ext hx3) hr3 (by simp only [le4, List.length_cons, List.length_nil]; omega) (Nat.le_trans hx2.size hx3.size)
    refine o_append rfl rfl hr4 ?_
    refine o_assign rfl rfl (o_nil (n_block (n_then (c_region (o_move rfl rfl ?_)))))
    refine o_bin rfl rfl rfl (r_add_i (by omega) (by omega)) ?_
    refine o_assign rfl rfl (o_nil ?_)
    refine n_round (k + 1, r4) ⟨rfl, rfl, rfl, trivial⟩ ⟨?_, (hx2.trans hx3).of_grew hg4 hb.ge, hlt⟩ (by show ns.length - (k + 1) < ns.length - k; omega)
    show OwnB _ (l ++ uv ns.length ++ le4s (ns.take (k + 1))) r4 w4
    rw [le4s_snoc ns k hlt, ← List.append_assoc]
    exact ho4
  · have hk' : k = ns.length := by omega
    refine c_exit (x_then (x_then (x_here (n_then (c_seq (c_region (o_move rfl rfl (o_assign rfl rfl (o_nil (n_then (c_ret ?_)))))))))))
    refine r_body1 rfl rfl ?_
    rw [hk', List.take_length, List.append_assoc] at hb
    exact ⟨_, rfl, hx2, hb⟩

theorem AppendRat_spec {b : Bool} {n m : List UInt32} {rv : Value} (hv : Bts l v w) (hr : RatV b n m rv w) (hl : l.length + 4 * n.length + 4 * m.length ≤ 8796093022208) :
    Calls Try.prog 20 #[v, rv] w (Ret fun r w' => Ext w w' ∧ OwnB w.heap.size (l ++ encR b n m) r w') := by
  obtain ⟨x, y, rfl, hx, hy⟩ := hr
  have hn := encN_len n (by have := hx.len; omega)
  refine enter (vs := [v, .agg #[B b, x, y]]) Try.func20 rfl rfl rfl ?_
  refine c_seq (c_region (o_box rfl rfl r_box ?_))
  have e1 : Ext w (w.alloc (.cells (Value.agg #[B b, x, y]).cells 31)) := Ext.new w _
  have hbx := heap_alloc_new w (.cells (Value.agg #[B b, x, y]).cells 31)
  revert e1 hbx
  generalize w.alloc (.cells (Value.agg #[B b, x, y]).cells 31) = w1
  intro e1 hbx
  have cell : ∀ (i : Nat) (u : Value), (#[B b, x, y] : Array Value)[i]? = some u → ∀ w', Ext w1 w' → w'.cell? ⟨w.heap.size, i, none⟩ = some u := fun i u hu w' hw' => cellAt (hw'.at hbx) hu
  refine o_assign rfl rfl (o_nil (n_then (c_seq (c_region (o_assign rfl rfl (o_nil (n_then ?_)))))))
  refine c_seq (c_cut (fun _ : Unit => [(0, v), (3, .pointer (some ⟨w.heap.size, 0, none⟩)), (5, U8 (sgn b))]) (fun _ w' => w' = w1) ?_ ?_)
  · refine c_seq (c_region ?_)
    refine o_fieldAddr rfl rfl (r_fieldAt Try.underlying31 rfl size_bool' (by omega)) ?_
    refine o_load rfl rfl (r_load1 Try.underlying4 rfl (cell 0 _ rfl _ (Ext.refl _))) ?_
    refine o_nil (n_then ?_)
    cases b with
    | true => exact c_yes rfl (c_region (o_assign rfl rfl (o_nil (n_meet () ⟨rfl, rfl, rfl, trivial⟩ rfl))))
    | false => exact c_no rfl (c_skip (n_meet () ⟨rfl, rfl, rfl, trivial⟩ rfl))
  rintro _ w2 rfl
  refine n_then (c_seq ?_)
  refine c_held (Ext w2) 12 rfl (by kernel_rfl) ?_
  have hd : Ext w2 w2.drew := (Ext.refl w2).drew
  refine h_move 0 rfl rfl (by kernel_rfl) rfl hd ?_
  refine h_move 2 rfl rfl (by kernel_rfl) rfl hd ?_
  refine h_fieldAddr 5 rfl rfl (by kernel_rfl) rfl hd (fun w' _ => r_fieldAt Try.underlying31 rfl size_Nat (by omega)) ?_
  refine h_load 6 rfl rfl (by kernel_rfl) rfl hd (fun w' hw' => r_load1 Try.underlying29 rfl (cell 1 _ rfl _ hw')) ?_
  refine h_fieldAddr 8 rfl rfl (by kernel_rfl) rfl hd (fun w' _ => r_fieldAt Try.underlying31 rfl size_Nat (by omega)) ?_
  refine h_load 9 rfl rfl (by kernel_rfl) rfl hd (fun w' hw' => r_load1 Try.underlying29 rfl (cell 2 _ rfl _ hw')) ?_
  refine h_meet (fun p : Value × Value => [(9, p.1), (11, p.2), (14, x), (17, y)]) (fun p w' => Ext w2 w' ∧ OwnB w2.heap.size l p.1 w' ∧ Bts [sgn b] p.2 w') #[true, true, true, true, false, true, true, false, true, true, false, false] 4 ?_ (fun join => h_two 1 3 (by kernel_rfl) rfl rfl ?_ ?_)
  · rintro ⟨r9, r11⟩ w3 ⟨hx3, ho9, ho11⟩
    dsimp only at ho9 ho11
    refine h_one 4 (by kernel_rfl) rfl ?_
    obtain ⟨r4, w4, hr4, ho4, hg4⟩ := r_appB (ty := 22) ho9 ho11 (by simp only [List.length_cons, List.length_nil]; omega) hx3.size
    have hx4 := hx3.of_grew hg4 ho9.ge
    refine o_append rfl rfl hr4 (h_next hx4 ?_)
    refine h_one 7 (by kernel_rfl) rfl ?_
    refine o_call call_nat rfl rfl (nat_spec hx4 ho4 (hx.ext e1) (by simp only [List.length_append, List.length_cons, List.length_nil]; omega)) ?_
    rintro r5 w5 ⟨ho5, hx5, _⟩
    refine h_next hx5 (h_one 10 (by kernel_rfl) rfl ?_)
    refine o_call call_nat rfl rfl (nat_spec hx5 ho5 (hy.ext e1) (by simp only [List.length_append, List.length_cons, List.length_nil]; omega)) ?_
    rintro r6 w6 ⟨ho6, hx6, _⟩
    refine h_next hx6 (h_one 11 (by kernel_rfl) rfl ?_)
    refine o_assign rfl rfl (h_next hx6 (h_done (by kernel_rfl) (n_then (c_ret ?_))))
    refine r_body1 rfl rfl ?_
    refine ⟨_, rfl, e1.trans hx6, ?_⟩
    have := ho6.low e1.size
    simpa only [encR, List.append_assoc] using this
  · refine o_call call_Clone rfl rfl (Clone_spec ((hv.ext e1).ext hd) (by omega)) ?_
    rintro r9 w3 ⟨hx3, ho9⟩
    obtain ⟨r11, w4, hr11, hx4, ho11, _⟩ := r_bsB (w := w3) w3.heap.size [sgn b] (by simp) (Nat.le_refl _)
    refine h_next (hd.trans hx3) (h_one 3 (by kernel_rfl) rfl ?_)
    refine o_buildSlice (vs := [(0, U8 (sgn b))]) rfl rfl hr11 (h_next ((hd.trans hx3).trans hx4) (h_eq (by kernel_rfl) (join _ _ ⟨(r9, r11), ⟨rfl, rfl, rfl, rfl, trivial⟩, (hd.trans hx3).trans hx4, ?_, ho11.bts⟩)))
    exact (ho9.ext hx4).low hd.size
  · obtain ⟨r11, w3, hr11, hx3, ho11, _⟩ := r_bsB (w := w2.drew) w2.heap.size [sgn b] (by simp) hd.size
    refine o_buildSlice (vs := [(0, U8 (sgn b))]) rfl rfl hr11 (h_next (hd.trans hx3) (h_one 1 (by kernel_rfl) rfl ?_))
    refine o_call call_Clone rfl rfl (Clone_spec (((hv.ext e1).ext hd).ext hx3) (by omega)) ?_
    rintro r9 w4 ⟨hx4, ho9⟩
    refine h_next ((hd.trans hx3).trans hx4) (h_eq (by kernel_rfl) (join _ _ ⟨(r9, r11), ⟨rfl, rfl, rfl, rfl, trivial⟩, (hd.trans hx3).trans hx4, ?_, ho11.bts.ext hx4⟩))
    exact ho9.low (hd.trans hx3).size

theorem rAppendRat_spec {b : Bool} {n m : List UInt32} {rv : Value} (hv : Bts l v w) (hr : RatV b n m rv w) (hl : l.length + 4 * n.length + 4 * m.length ≤ 8796093022208) :
    Calls Try.prog 21 #[v, rv] w (Ret fun r w' => Ext w w' ∧ OwnB w.heap.size (l ++ encR b n m) r w') := by
  obtain ⟨x, y, rfl, hx, hy⟩ := hr
  have hn := encN_len n (by have := hx.len; omega)
  refine enter (vs := [v, .agg #[B b, x, y]]) Try.func21 rfl rfl rfl ?_
  refine c_seq (c_region (o_box rfl rfl r_box ?_))
  have e1 : Ext w (w.alloc (.cells (Value.agg #[B b, x, y]).cells 31)) := Ext.new w _
  have hbx := heap_alloc_new w (.cells (Value.agg #[B b, x, y]).cells 31)
  revert e1 hbx
  generalize w.alloc (.cells (Value.agg #[B b, x, y]).cells 31) = w1
  intro e1 hbx
  have cell : ∀ (i : Nat) (u : Value), (#[B b, x, y] : Array Value)[i]? = some u → ∀ w', Ext w1 w' → w'.cell? ⟨w.heap.size, i, none⟩ = some u := fun i u hu w' hw' => cellAt (hw'.at hbx) hu
  refine o_assign rfl rfl (o_nil (n_then (c_seq (c_region (o_assign rfl rfl (o_nil (n_then ?_)))))))
  refine c_seq (c_cut (fun _ : Unit => [(0, v), (3, .pointer (some ⟨w.heap.size, 0, none⟩)), (5, U8 (sgn b))]) (fun _ w' => w' = w1) ?_ ?_)
  · refine c_seq (c_region ?_)
    refine o_fieldAddr rfl rfl (r_fieldAt Try.underlying31 rfl size_bool' (by omega)) ?_
    refine o_load rfl rfl (r_load1 Try.underlying4 rfl (cell 0 _ rfl _ (Ext.refl _))) ?_
    refine o_nil (n_then ?_)
    cases b with
    | true => exact c_yes rfl (c_region (o_assign rfl rfl (o_nil (n_meet () ⟨rfl, rfl, rfl, trivial⟩ rfl))))
    | false => exact c_no rfl (c_skip (n_meet () ⟨rfl, rfl, rfl, trivial⟩ rfl))
  rintro _ w2 rfl
  refine n_then (c_seq ?_)
  refine c_held (Ext w2) 13 rfl (by kernel_rfl) ?_
  have hd : Ext w2 w2.drew := (Ext.refl w2).drew
  refine h_move 1 rfl rfl (by kernel_rfl) rfl hd ?_
  refine h_move 3 rfl rfl (by kernel_rfl) rfl hd ?_
  refine h_fieldAddr 6 rfl rfl (by kernel_rfl) rfl hd (fun w' _ => r_fieldAt Try.underlying31 rfl size_Nat (by omega)) ?_
  refine h_load 7 rfl rfl (by kernel_rfl) rfl hd (fun w' hw' => r_load1 Try.underlying29 rfl (cell 1 _ rfl _ hw')) ?_
  refine h_fieldAddr 9 rfl rfl (by kernel_rfl) rfl hd (fun w' _ => r_fieldAt Try.underlying31 rfl size_Nat (by omega)) ?_
  refine h_load 10 rfl rfl (by kernel_rfl) rfl hd (fun w' hw' => r_load1 Try.underlying29 rfl (cell 2 _ rfl _ hw')) ?_
  have hv2 : Bts l v w2 := hv.ext e1
  refine h_meet (fun p : Value × Value => [(10, p.1), (12, p.2), (15, x), (18, y)]) (fun p w' => Ext w2 w' ∧ OwnB w2.heap.size l p.1 w' ∧ Bts [sgn b] p.2 w') #[true, true, true, true, true, false, true, true, false, true, true, false, false] 4 ?_ (fun join => h_two 0 4 (by kernel_rfl) rfl rfl ?_ ?_)
  · rintro ⟨r9, r11⟩ w3 ⟨hx3, ho9, ho11⟩
    dsimp only at ho9 ho11
    refine h_one 5 (by kernel_rfl) rfl ?_
    obtain ⟨r4, w4, hr4, ho4, hg4⟩ := r_appB (ty := 22) ho9 ho11 (by simp only [List.length_cons, List.length_nil]; omega) hx3.size
    have hx4 := hx3.of_grew hg4 ho9.ge
    refine o_append rfl rfl hr4 (h_next hx4 ?_)
    refine h_one 8 (by kernel_rfl) rfl ?_
    refine o_call call_rAppendNat rfl rfl (rAppendNat_spec ho4.bts ((hx.ext e1).ext hx4) (by simp only [List.length_append, List.length_cons, List.length_nil]; omega)) ?_
    rintro r5 w5 ⟨hx5, ho5⟩
    refine h_next (hx4.trans hx5) (h_one 11 (by kernel_rfl) rfl ?_)
    refine o_call call_rAppendNat rfl rfl (rAppendNat_spec ho5.bts ((hy.ext e1).ext (hx4.trans hx5)) (by simp only [List.length_append, List.length_cons, List.length_nil]; omega)) ?_
    rintro r6 w6 ⟨hx6, ho6⟩
    have q6 := (hx4.trans hx5).trans hx6
    refine h_next q6 (h_one 12 (by kernel_rfl) rfl ?_)
    refine o_assign rfl rfl (h_next q6 (h_done (by kernel_rfl) (n_then (c_ret ?_))))
    refine r_body1 rfl rfl ?_
    refine ⟨_, rfl, e1.trans q6, ?_⟩
    have := ho6.low (e1.trans (hx4.trans hx5)).size
    simpa only [encR, List.append_assoc] using this
  · obtain ⟨r8, w3, hr8, hx3, ho8, _⟩ := r_bsB (w := w2.drew) w2.heap.size [] (by simp) hd.size
    refine o_buildSlice (vs := []) rfl rfl hr8 (h_next (hd.trans hx3) (h_two 2 4 (by kernel_rfl) rfl rfl ?_ ?_))
    · obtain ⟨r4, w4, hr4, ho4, hg4⟩ := r_appB (ty := 22) ho8 ((hv2.ext hd).ext hx3) (by simp only [List.length_nil]; omega) (hd.trans hx3).size
      have hx4 := (hd.trans hx3).of_grew hg4 ho8.ge
      refine o_append rfl rfl hr4 (h_next hx4 (h_one 4 (by kernel_rfl) rfl ?_))
      obtain ⟨r11, w5, hr11, hx5, ho11, _⟩ := r_bsB (w := w4) w4.heap.size [sgn b] (by simp) (Nat.le_refl _)
      refine o_buildSlice (vs := [(0, U8 (sgn b))]) rfl rfl hr11 (h_next (hx4.trans hx5) (h_eq (by kernel_rfl) (join _ _ ⟨(r4, r11), ⟨rfl, rfl, rfl, rfl, trivial⟩, hx4.trans hx5, ?_, ho11.bts⟩)))
      exact ho4.ext hx5
    · obtain ⟨r11, w4, hr11, hx4, ho11, hb11⟩ := r_bsB (w := w3) w3.heap.size [sgn b] (by simp) (Nat.le_refl _)
      have hx04 := (hd.trans hx3).trans hx4
      refine o_buildSlice (vs := [(0, U8 (sgn b))]) rfl rfl hr11 (h_next hx04 (h_one 2 (by kernel_rfl) rfl ?_))
      obtain ⟨r4, w5, hr4, ho4, hg4⟩ := r_appB (ty := 22) (ho8.ext hx4) (hv2.ext hx04) (by simp only [List.length_nil]; omega) hx04.size
      have hx5 := hx04.of_grew hg4 ho8.ge
      have hb5 := ho11.grown hg4 (.inr (by rw [hb11]; intro he; have := ho8.lt _ he.symm; omega))
      exact o_append rfl rfl hr4 (h_next hx5 (h_eq (by kernel_rfl) (join _ _ ⟨(r4, r11), ⟨rfl, rfl, rfl, rfl, trivial⟩, hx5, ho4, hb5.bts⟩)))
  · obtain ⟨r11, w3, hr11, hx3, ho11, hb11⟩ := r_bsB (w := w2.drew) w2.drew.heap.size [sgn b] (by simp) (Nat.le_refl _)
    have hx03 := hd.trans hx3
    refine o_buildSlice (vs := [(0, U8 (sgn b))]) rfl rfl hr11 (h_next hx03 (h_one 0 (by kernel_rfl) rfl ?_))
    obtain ⟨r8, w4, hr8, hx4, ho8, hb8⟩ := r_bsB (w := w3) w2.heap.size [] (by simp) hx03.size
    have hx04 := hx03.trans hx4
    refine o_buildSlice (vs := []) rfl rfl hr8 (h_next hx04 (h_one 2 (by kernel_rfl) rfl ?_))
    obtain ⟨r4, w5, hr4, ho4, hg4⟩ := r_appB (ty := 22) ho8 (hv2.ext hx04) (by simp only [List.length_nil]; omega) hx04.size
    have hx5 := hx04.of_grew hg4 ho8.ge
    have hb5 := (ho11.ext hx4).grown hg4 (.inr (by rw [hb8]; intro he; have := ho11.lt _ he; omega))
    exact o_append rfl rfl hr4 (h_next hx5 (h_eq (by kernel_rfl) (join _ _ ⟨(r4, r11), ⟨rfl, rfl, rfl, rfl, trivial⟩, hx5, ho4, hb5.bts⟩)))
end
end Go.Rl

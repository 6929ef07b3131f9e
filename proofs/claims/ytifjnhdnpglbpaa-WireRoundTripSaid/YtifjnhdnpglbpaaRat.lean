/- Walks of the functions that append rationals, and of the statement WireRationals. Conditions: what is appended to is short. -/
import Derived.Test.YtifjnhdnpglbpaaW2
import Derived.Test.YtifjnhdnpglbpaaHeld
namespace Go.Rl
open Go.RowKit Go.Proofs

theorem call_AppendRat : Callable Try.prog 21 := ⟨_, Try.func21, by kernel_rfl, rfl⟩

theorem Ext.at {w w' : World} (hx : Ext w w') {g : Nat} {o : Obj} (h : w.heap[g]? = some o) : w'.heap[g]? = some o := by
  rw [hx.block g (by obtain ⟨h, _⟩ := Array.getElem?_eq_some_iff.1 h; exact h)]
  exact h
theorem OwnB.low {base base' : Nat} {l : List UInt8} {v : Value} {w : World} (h : OwnB base l v w) (hb : base' ≤ base) : OwnB base' l v w := by
  have hge := h.ge
  obtain ⟨n, h⟩ := h
  exact ⟨n, ownsRow_base h fun k hk => Nat.le_trans hb (hge k hk)⟩

theorem OwnB.grown {base : Nat} {l : List UInt8} {u v r : Value} {w w' : World} (h : OwnB base l u w) (hg : Grew w w' v r) (hne : u.ownBlock = none ∨ u.ownBlock ≠ v.ownBlock) : OwnB base l u w' := by
  obtain ⟨n, h⟩ := h
  exact ⟨n, World.ownsRow.kept h hg.grown hne⟩
theorem OwnB.lt {base : Nat} {l : List UInt8} {v : Value} {w : World} (h : OwnB base l v w) : ∀ k, v.ownBlock = some k → k < w.heap.size := by
  obtain ⟨n, h⟩ := h
  exact fun k hk => (World.ownsRow.lt h k hk).2

/-- A rational value: a sign and two rows of limbs. -/
def RatV (b : Bool) (n m : List UInt32) : Fact := fun v w => ∃ x y, v = .agg #[B b, x, y] ∧ Wds n x w ∧ Wds m y w
theorem RatV.ext {b : Bool} {n m : List UInt32} {v : Value} {w w' : World} (h : RatV b n m v w) (hx : Ext w w') : RatV b n m v w' := by
  obtain ⟨x, y, rfl, h1, h2⟩ := h
  exact ⟨x, y, rfl, h1.ext hx, h2.ext hx⟩
def sgn (b : Bool) : UInt8 := if b then 1 else 0
def encR (b : Bool) (n m : List UInt32) : List UInt8 := [sgn b] ++ encN n ++ encN m

theorem size_bool' : (Try.prog.info? 4).map (·.size) = some 1 := by kernel_rfl
theorem size_Nat : (Try.prog.info? 33).map (·.size) = some 1 := by kernel_rfl
theorem size_Rat : (Try.prog.info? 35).map (·.size) = some 3 := by kernel_rfl

section
variable {w : World} {l : List UInt8} {ns : List UInt32} {v nv : Value}


theorem AppendRat_spec {b : Bool} {n m : List UInt32} {rv : Value} (hv : Bts l v w) (hr : RatV b n m rv w) (hl : l.length + 4 * n.length + 4 * m.length ≤ 8796093022208) :
    Calls Try.prog 21 #[v, rv] w (Ret fun r w' => Ext w w' ∧ OwnB w.heap.size (l ++ encR b n m) r w') := by
  obtain ⟨x, y, rfl, hx, hy⟩ := hr
  have hn := encN_len n (by have := hx.len; omega)
  refine enter (vs := [v, .agg #[B b, x, y]]) Try.func21 rfl rfl rfl ?_
  refine c_seq (c_region (o_box rfl rfl r_box ?_))
  have e1 : Ext w (w.alloc (.cells (Value.agg #[B b, x, y]).cells 35)) := Ext.new w _
  have hbx := heap_alloc_new w (.cells (Value.agg #[B b, x, y]).cells 35)
  revert e1 hbx
  generalize w.alloc (.cells (Value.agg #[B b, x, y]).cells 35) = w1
  intro e1 hbx
  have cell : ∀ (i : Nat) (u : Value), (#[B b, x, y] : Array Value)[i]? = some u → ∀ w', Ext w1 w' → w'.cell? ⟨w.heap.size, i, none⟩ = some u := fun i u hu w' hw' => cellAt (hw'.at hbx) hu
  refine o_assign rfl rfl (o_nil (n_then (c_seq (c_region (o_assign rfl rfl (o_nil (n_then ?_)))))))
  refine c_seq (c_cut (fun _ : Unit => [(0, v), (3, .pointer (some ⟨w.heap.size, 0, none⟩)), (5, U8 (sgn b))]) (fun _ w' => w' = w1) ?_ ?_)
  · refine c_seq (c_region ?_)
    refine o_fieldAddr rfl rfl (r_fieldAt Try.underlying35 rfl size_bool' (by omega)) ?_
    refine o_load rfl rfl (r_load1 Try.underlying4 rfl (cell 0 _ rfl _ (Ext.refl _))) ?_
    refine o_nil (n_then ?_)
    cases b with
    | true => exact c_yes rfl (c_region (o_assign rfl rfl (o_nil (n_meet () ⟨rfl, rfl, rfl, trivial⟩ rfl))))
    | false => exact c_no rfl (c_skip (n_meet () ⟨rfl, rfl, rfl, trivial⟩ rfl))
  rintro _ w2 rfl
  refine n_then (c_seq ?_)
  refine c_held (Ext w2) 12 rfl (by kernel_rfl) ?_
  have hd : Ext w2 w2.drew := (Ext.refl w2).drew
  refine h_move 0 rfl rfl (by kernel_rfl) rfl hd ?_
  refine h_move 2 rfl rfl (by kernel_rfl) rfl hd ?_
  refine h_fieldAddr 5 rfl rfl (by kernel_rfl) rfl hd (fun w' _ => r_fieldAt Try.underlying35 rfl size_Nat (by omega)) ?_
  refine h_load 6 rfl rfl (by kernel_rfl) rfl hd (fun w' hw' => r_load1 Try.underlying33 rfl (cell 1 _ rfl _ hw')) ?_
  refine h_fieldAddr 8 rfl rfl (by kernel_rfl) rfl hd (fun w' _ => r_fieldAt Try.underlying35 rfl size_Nat (by omega)) ?_
  refine h_load 9 rfl rfl (by kernel_rfl) rfl hd (fun w' hw' => r_load1 Try.underlying33 rfl (cell 2 _ rfl _ hw')) ?_
  refine h_meet (fun p : Value × Value => [(9, p.1), (11, p.2), (14, x), (17, y)]) (fun p w' => Ext w2 w' ∧ OwnB w2.heap.size l p.1 w' ∧ Bts [sgn b] p.2 w') #[true, true, true, true, false, true, true, false, true, true, false, false] 4 ?_ (fun join => h_two 1 3 (by kernel_rfl) rfl rfl ?_ ?_)
  · rintro ⟨r9, r11⟩ w3 ⟨hx3, ho9, ho11⟩
    dsimp only at ho9 ho11
    refine h_one 4 (by kernel_rfl) rfl ?_
    obtain ⟨r4, w4, hr4, ho4, hg4⟩ := r_appB (ty := 22) ho9 ho11 (by simp only [List.length_cons, List.length_nil]; omega) hx3.size
    have hx4 := hx3.of_grew hg4 ho9.ge
    refine o_append rfl rfl hr4 (h_next hx4 ?_)
    refine h_one 7 (by kernel_rfl) rfl ?_
    refine o_call call_nat rfl rfl (nat_spec hx4 ho4 (hx.ext e1) (by simp only [List.length_append, List.length_cons, List.length_nil]; omega)) ?_
    rintro r5 w5 ⟨ho5, hx5, _⟩
    refine h_next hx5 (h_one 10 (by kernel_rfl) rfl ?_)
    refine o_call call_nat rfl rfl (nat_spec hx5 ho5 (hy.ext e1) (by simp only [List.length_append, List.length_cons, List.length_nil]; omega)) ?_
    rintro r6 w6 ⟨ho6, hx6, _⟩
    refine h_next hx6 (h_one 11 (by kernel_rfl) rfl ?_)
    refine o_assign rfl rfl (h_next hx6 (h_done (by kernel_rfl) (n_then (c_ret ?_))))
    refine r_body1 rfl rfl ?_
    refine ⟨_, rfl, e1.trans hx6, ?_⟩
    have := ho6.low e1.size
    simpa only [encR, List.append_assoc] using this
  · refine o_call call_Clone rfl rfl (Clone_spec ((hv.ext e1).ext hd) (by omega)) ?_
    rintro r9 w3 ⟨hx3, ho9⟩
    obtain ⟨r11, w4, hr11, hx4, ho11, _⟩ := r_bsB (w := w3) w3.heap.size [sgn b] (by simp) (Nat.le_refl _)
    refine h_next (hd.trans hx3) (h_one 3 (by kernel_rfl) rfl ?_)
    refine o_buildSlice (vs := [(0, U8 (sgn b))]) rfl rfl hr11 (h_next ((hd.trans hx3).trans hx4) (h_eq (by kernel_rfl) (join _ _ ⟨(r9, r11), ⟨rfl, rfl, rfl, rfl, trivial⟩, (hd.trans hx3).trans hx4, ?_, ho11.bts⟩)))
    exact (ho9.ext hx4).low hd.size
  · obtain ⟨r11, w3, hr11, hx3, ho11, _⟩ := r_bsB (w := w2.drew) w2.heap.size [sgn b] (by simp) hd.size
    refine o_buildSlice (vs := [(0, U8 (sgn b))]) rfl rfl hr11 (h_next (hd.trans hx3) (h_one 1 (by kernel_rfl) rfl ?_))
    refine o_call call_Clone rfl rfl (Clone_spec (((hv.ext e1).ext hd).ext hx3) (by omega)) ?_
    rintro r9 w4 ⟨hx4, ho9⟩
    refine h_next ((hd.trans hx3).trans hx4) (h_eq (by kernel_rfl) (join _ _ ⟨(r9, r11), ⟨rfl, rfl, rfl, rfl, trivial⟩, (hd.trans hx3).trans hx4, ?_, ho11.bts.ext hx4⟩))
    exact ho9.low (hd.trans hx3).size

end
end Go.Rl

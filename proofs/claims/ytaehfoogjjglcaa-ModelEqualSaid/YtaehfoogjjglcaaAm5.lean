/- Rows of structs of the call's own, whose data is new: appending, readers that go on. Conditions: each lemma names its own. -/
import Derived.Test.YtaehfoogjjglcaaAm4
import Derived.Test.YtaehfoogjjglcaaRows
namespace Go.Rl
open Go.RowKit Go.Proofs
section
variable {α : Type} {f : α → Dt} {l : List α} {v x : Value} {w w' : World} {e t ty : TypeId} {sz base : Nat}
/-- A row of one's own, behind base, whose elements read as f of the list's; all that they reach is new and apart from the row. -/
def OwnD (e : TypeId) (sz base : Nat) (f : α → Dt) (l : List α) (v : Value) (w : World) : Prop := ∃ n xs, w.ownsRow base e sz v n xs ∧ RpXAll (fun k => k < base ∨ v.ownBlock = some k) w (l.map f) xs
theorem OwnD.nil (w : World) : OwnD e sz base f ([] : List α) (.slice none 0 0) w := ⟨0, [], World.ownsRow_nil _ _ _ _, RpXAll.nil⟩
theorem OwnD.lt (h : OwnD e sz base f l v w) : ∀ k, v.ownBlock = some k → base ≤ k ∧ k < w.heap.size := fun k hk => by
  obtain ⟨n, xs, h, _⟩ := h
  exact World.ownsRow.lt h k hk
theorem OwnD.isS (h : OwnD e sz base f l v w) : ∃ A n c, v = .slice A n c := by
  obtain ⟨n, xs, ⟨_, h | ⟨g, cap, cur, rfl, _⟩⟩, _⟩ := h
  · exact ⟨_, _, _, h.1⟩
  · exact ⟨_, _, _, rfl⟩
theorem OwnD.rpx (h : OwnD e sz base f l v w) (hs : ∀ a, (f a).size = sz) (h0 : 0 < sz) : RpX (fun k => k < base) w (.sl (l.map f)) [v] := by
  obtain ⟨n, xs, h1, h2⟩ := h
  exact RpX.ofOwn h1 (h2.weak fun k hk => .inl (.inl hk)) (by simp [hs]) h0 fun k hk => Nat.not_lt.2 (World.ownsRow.lt h1 k hk).1
/-- Only blocks below base, or others than the row, may have changed. -/
theorem OwnD.mv {X : Nat → Prop} (h : OwnD e sz base f l v w) (hm : Mv X w w') (hX : ∀ k, X k → k < base) : OwnD e sz base f l v w' := by
  obtain ⟨n, xs, h1, h2⟩ := h
  refine ⟨n, xs, ⟨h1.1, ?_⟩, RpXAll.mv (hm.weak fun k hk _ => .inl (hX k hk)) (fun k hk => .inl hk) h2⟩
  rcases h1.2 with h3 | ⟨g, cap, cur, rfl, h3, h4, h5⟩
  · exact .inl h3
  · refine .inr ⟨g, cap, cur, rfl, h3, ?_, h5⟩
    rw [hm.keep g (Array.getElem?_eq_some_iff.1 h4).1 fun hx => by have := hX g hx; omega]
    exact h4
theorem OwnD.app {P : Program} {z : Value} {bytes : Nat} (ht : P.underlying t = some (.slice e)) (hi : (P.info? e).map (fun i => (i.zero, i.size, i.bytes)) = some (some z, sz, bytes)) (hzs : z.cells.size = sz) (hsz : 0 < sz) (hb0 : 0 < bytes)
    (h : OwnD e sz base f l v w) {a : α} {cs : List Value} (hx : Sl sz cs x w) (h1 : Ones cs) (ha : RpX (fun k => k < base ∨ v.ownBlock = some k) w (f a) cs) (hs : ∀ a, (f a).size = sz) (hb : (l.length + 1) * bytes ≤ 140737488355328) (hbase : base ≤ w.heap.size) :
    ∃ r w1, (Builtin.append_ #[t, t] ty #[v, x]).run P w = .ok r w1 ∧ OwnD e sz base f (l ++ [a]) r w1 ∧ Grew w w1 v r := by
  obtain ⟨n, xs, h2, h3⟩ := h
  have hxl : xs.length = l.length * sz := by rw [h3.len, sizeAll_uniform (sz := sz) (by simp [hs]), List.length_map]
  have hcl : cs.length = sz := by rw [ha.len, hs]
  obtain ⟨r, w1, n', h4, h5, h6⟩ := r_append (P := P) (ty := ty) ht hi hzs hsz h2 hx h1 (by
    rw [hxl, hcl, show l.length * sz + sz = (l.length + 1) * sz by rw [Nat.add_mul, Nat.one_mul], Nat.mul_right_comm]
    exact Nat.mul_le_mul_right _ hb) hb0 hbase
  refine ⟨r, w1, h4, ⟨n', _, h5, ?_⟩, h6⟩
  have hm : Mv (fun k => k < base ∨ v.ownBlock = some k) w w1 := Mv.of_grown h6.grown fun k hk _ => .inr hk
  have hY : ∀ k, (k < base ∨ r.ownBlock = some k) → (k < base ∨ v.ownBlock = some k) ∨ w.heap.size ≤ k := fun k hk => by
    rcases hk with hk | hk
    · exact .inl (.inl hk)
    · rcases h6.own with h7 | h7
      · rw [h7] at hk; exact .inl (.inr hk)
      · exact .inr (h7 k hk)
  rw [List.map_append]
  exact RpXAll.append (RpXAll.mv hm hY h3) (by simpa using RpXAll.cons (RpX.mv hm hY ha) RpXAll.nil)
/-- append of one struct: a literal row of one, then append. -/
theorem OwnD.push {P : Program} {z : Value} {bytes : Nat} (ht : P.underlying t = some (.slice e)) (hi : (P.info? e).map (fun i => (i.zero, i.size, i.bytes)) = some (some z, sz, bytes)) (hzs : z.cells.size = sz) (hsz : 0 < sz) (hsb : sz ≤ 16777216) (hb0 : 0 < bytes)
    (h : OwnD e sz base f l v w) {a : α} {cs : List Value} (h1 : Ones cs) (ha : RpX (fun k => k < base ∨ v.ownBlock = some k) w (f a) cs) (hs : ∀ a, (f a).size = sz) (hb : (l.length + 1) * bytes ≤ 140737488355328) (hbase : base ≤ w.heap.size) :
    ∃ x w0 r w1, (Instr.buildSlice t 1 (number 0 [Value.agg cs.toArray]).toArray).run P w = .ok x w0 ∧ (Builtin.append_ #[t, t] ty #[v, x]).run P w0 = .ok r w1 ∧ OwnD e sz base f (l ++ [a]) r w1 ∧ Mv (fun k => v.ownBlock = some k) w w1 ∧ ∀ k, r.ownBlock = some k → v.ownBlock = some k ∨ w.heap.size ≤ k := by
  have hcl : cs.length = sz := by rw [ha.len, hs]
  have hi2 : (P.info? e).map (fun i => (i.zero, i.size)) = some (some z, sz) := by
    obtain ⟨i, hi', h2⟩ := Option.map_eq_some_iff.1 hi
    simp only [Prod.mk.injEq] at h2
    rw [hi']
    simp [h2.1, h2.2.1]
  obtain ⟨x, w0, h3, h4, h5, _⟩ := r_bsS (w := w) ht hi2 hzs hsz [cs] (by simp [hcl]) (by simp) (by simpa using hsb)
  have h' : OwnD e sz base f l v w0 := by
    obtain ⟨n, xs, h6, h7⟩ := h
    exact ⟨n, xs, ownsRow_ext h6 h4, h7.ext h4⟩
  obtain ⟨r, w1, h6, h7, h8⟩ := h'.app (ty := ty) ht hi hzs hsz hb0 (by simpa using h5) h1 (ha.ext h4) hs hb (Nat.le_trans hbase h4.size)
  refine ⟨x, w0, r, w1, by simpa using h3, h6, h7, (Mv.of_ext h4).trans (Mv.of_grown h8.grown fun k hk _ => hk) fun _ hn _ => hn, fun k hk => ?_⟩
  rcases h8.own with h9 | h9
  · rw [h9] at hk; exact .inl hk
  · exact .inr (Nat.le_trans h4.size (h9 k hk))
end
end Go.Rl
/- Plain: reading, as equations on what is left. No condition. -/
namespace Go.Rl
open Go.RowKit
section
variable {α β : Type} {f : List UInt8 → Option (α × List UInt8)} {st s1 s2 so : Option (List UInt8)} {a : α}
/-- From st, f reads a and leaves s1 (none: it fails). -/
def RdE (f : List UInt8 → Option (α × List UInt8)) (st : Option (List UInt8)) (a : α) (s1 : Option (List UInt8)) : Prop := st.bind f = s1.map fun t => (a, t)
theorem RdE.some {t : List UInt8} (h : RdE f st a (some t)) : ∃ l, st = .some l ∧ f l = .some (a, t) := by
  cases st with
  | none => cases h
  | some l => exact ⟨l, rfl, h⟩
/-- What f leaves is not longer. -/
def Le (f : List UInt8 → Option (α × List UInt8)) : Prop := ∀ l a t, f l = some (a, t) → t.length ≤ l.length
def Lt (f : List UInt8 → Option (α × List UInt8)) : Prop := ∀ l a t, f l = some (a, t) → t.length + 1 ≤ l.length
theorem Lt.le (h : Lt f) : Le f := fun l a t e => by have := h l a t e; omega
/-- At most n bytes are left. -/
def AtM (n : Nat) (st : Option (List UInt8)) : Prop := ∀ l, st = some l → l.length ≤ n
theorem AtM.none (n : Nat) : AtM n none := fun _ h => by cases h
theorem AtM.mono {n m : Nat} (h : AtM n st) (hm : n ≤ m) : AtM m st := fun l e => Nat.le_trans (h l e) hm
theorem RdE.atM {n : Nat} (h : RdE f st a s1) (hf : Le f) (hn : AtM n st) : AtM n s1 := fun t e => by
  subst e
  obtain ⟨l, h1, h2⟩ := h.some
  exact Nat.le_trans (hf l a t h2) (hn l h1)
theorem many_start {N : Nat} : so.bind (rdMany f N) = so.bind (fun l => (rdMany f N l).map fun p => ([] ++ p.1, p.2)) := by
  cases so with
  | none => rfl
  | some l => simp
theorem many_step {X : Option (List α × List UInt8)} {k : Nat} {done : List α} (hR : X = so.bind (fun l => (rdMany f (k + 1) l).map fun p => (done ++ p.1, p.2))) (hq : RdE f so a s2) :
    X = s2.bind (fun l => (rdMany f k l).map fun p => ((done ++ [a]) ++ p.1, p.2)) := by
  rw [hR]
  cases so with
  | none =>
    cases s2 with
    | none => rfl
    | some t => cases hq
  | some l =>
    have hq : f l = s2.map fun t => (a, t) := hq
    show (rdMany f (k + 1) l).map _ = _
    simp only [rdMany]
    rw [hq]
    cases s2 with
    | none => rfl
    | some t =>
      simp only [Option.map_some, Option.bind_some, Option.map_map]
      cases rdMany f k t <;> simp
theorem many_none {X : Option (List α × List UInt8)} {k : Nat} {done : List α} (hR : X = (none : Option (List UInt8)).bind (fun l => (rdMany f k l).map fun p => (done ++ p.1, p.2))) : X = none := hR
theorem many_done {X : Option (List α × List UInt8)} {done : List α} (hR : X = so.bind (fun l => (rdMany f 0 l).map fun p => (done ++ p.1, p.2))) : X = so.map fun t => (done, t) := by
  rw [hR]
  cases so with
  | none => rfl
  | some l => simp [rdMany]
theorem rdMany_le (hf : Le f) : ∀ (n : Nat) (l : List UInt8) (a : List α) (t : List UInt8), rdMany f n l = some (a, t) → t.length ≤ l.length
  | 0, l, a, t, h => by simp only [rdMany, Option.some.injEq, Prod.mk.injEq] at h; rw [← h.2]; exact Nat.le_refl _
  | n + 1, l, a, t, h => by
    simp only [rdMany] at h
    obtain ⟨p, h1, h2⟩ := Option.bind_eq_some_iff.1 h
    obtain ⟨q, h3, h4⟩ := Option.map_eq_some_iff.1 h2
    simp only [Prod.mk.injEq] at h4
    have := rdMany_le hf n p.2 q.1 q.2 h3
    have := hf l p.1 p.2 h1
    rw [← h4.2]
    omega
theorem rdU_lt : Lt rdU := fun l a t h => by
  have h1 := (rdU_inv h).1
  have h2 := uv_pos a
  rw [h1, List.length_append]
  omega
theorem rdList_le (hf : Le f) : Le (rdList f) := fun l a t h => by
  unfold rdList at h
  obtain ⟨p, h1, h2⟩ := Option.bind_eq_some_iff.1 h
  have := rdMany_le hf p.1 p.2 a t h2
  have := rdU_lt l p.1 p.2 h1
  omega
theorem rdI_lt : Lt rdI := fun l a t h => by
  unfold rdI at h
  obtain ⟨p, h1, h2⟩ := Option.map_eq_some_iff.1 h
  have := rdU_lt l p.1 p.2 h1
  simp only [Prod.mk.injEq] at h2
  rw [← h2.2]
  exact this
theorem rdR_lt : Lt rdR := fun l q t h => by
  obtain ⟨b, n, m⟩ := q
  have := (rdR_inv h).1
  rw [this, List.length_append]
  have h1 : 1 ≤ (encR b n m).length := by simp only [encR, List.length_append, List.length_cons, List.length_nil]; omega
  omega
theorem rdQs_le : Le rdQs := rdList_le rdR_lt.le
theorem rdI_i64 {st : Option (List UInt8)} {n : Int} {t : List UInt8} (h : RdE rdI st n (some t)) : i64 n := by
  obtain ⟨l, _, h⟩ := h.some
  unfold rdI at h
  obtain ⟨p, h1, h2⟩ := Option.map_eq_some_iff.1 h
  have := (rdU_inv h1).2
  simp only [Prod.mk.injEq] at h2
  rw [← h2.1]
  unfold uz i64
  split <;> omega
end
/-- A layer, piece by piece. -/
theorem rdL_chain {st s1 s2 s3 s4 s5 s6 s7 s8 s9 : Option (List UInt8)} {a b c d e f g : Int} {x y : List RatD} (h1 : RdE rdI st a s1) (h2 : RdE rdI s1 b s2) (h3 : RdE rdI s2 c s3) (h4 : RdE rdI s3 d s4) (h5 : RdE rdI s4 e s5) (h6 : RdE rdI s5 f s6) (h7 : RdE rdI s6 g s7)
    (h8 : RdE rdQs s7 x s8) (h9 : RdE rdQs s8 y s9) : RdE rdL st ⟨a, b, c, d, e, f, g, x, y⟩ s9 := by
  have dead : ∀ {α : Type} {f : List UInt8 → Option (α × List UInt8)} {a : α} {s : Option (List UInt8)}, RdE f none a s → s = none := fun {α f a s} h => by
    cases s with
    | none => rfl
    | some t => cases h
  have fin : ∀ {s : Option (List UInt8)}, s = none → (∀ l, st = some l → rdL l = none) → s9 = s → RdE rdL st ⟨a, b, c, d, e, f, g, x, y⟩ s9 := fun {s} hs hl he => by
    subst he
    subst hs
    show st.bind rdL = none
    cases st with
    | none => rfl
    | some l => exact hl l rfl
  have step : ∀ {α : Type} {f : List UInt8 → Option (α × List UInt8)} {a : α} {l : List UInt8} {s : Option (List UInt8)}, RdE f (some l) a s → f l = s.map fun t => (a, t) := fun {α f a l s} h => h
  cases st with
  | none =>
    obtain rfl := dead h1; obtain rfl := dead h2; obtain rfl := dead h3; obtain rfl := dead h4; obtain rfl := dead h5; obtain rfl := dead h6; obtain rfl := dead h7; obtain rfl := dead h8; obtain rfl := dead h9
    rfl
  | some l =>
    show rdL l = _
    unfold rdL
    rw [step h1]
    cases s1 with
    | none => obtain rfl := dead h2; obtain rfl := dead h3; obtain rfl := dead h4; obtain rfl := dead h5; obtain rfl := dead h6; obtain rfl := dead h7; obtain rfl := dead h8; obtain rfl := dead h9; rfl
    | some t1 =>
    simp only [Option.map_some, Option.bind_some]
    rw [step h2]
    cases s2 with
    | none => obtain rfl := dead h3; obtain rfl := dead h4; obtain rfl := dead h5; obtain rfl := dead h6; obtain rfl := dead h7; obtain rfl := dead h8; obtain rfl := dead h9; rfl
    | some t2 =>
    simp only [Option.map_some, Option.bind_some]
    rw [step h3]
    cases s3 with
    | none => obtain rfl := dead h4; obtain rfl := dead h5; obtain rfl := dead h6; obtain rfl := dead h7; obtain rfl := dead h8; obtain rfl := dead h9; rfl
    | some t3 =>
    simp only [Option.map_some, Option.bind_some]
    rw [step h4]
    cases s4 with
    | none => obtain rfl := dead h5; obtain rfl := dead h6; obtain rfl := dead h7; obtain rfl := dead h8; obtain rfl := dead h9; rfl
    | some t4 =>
    simp only [Option.map_some, Option.bind_some]
    rw [step h5]
    cases s5 with
    | none => obtain rfl := dead h6; obtain rfl := dead h7; obtain rfl := dead h8; obtain rfl := dead h9; rfl
    | some t5 =>
    simp only [Option.map_some, Option.bind_some]
    rw [step h6]
    cases s6 with
    | none => obtain rfl := dead h7; obtain rfl := dead h8; obtain rfl := dead h9; rfl
    | some t6 =>
    simp only [Option.map_some, Option.bind_some]
    rw [step h7]
    cases s7 with
    | none => obtain rfl := dead h8; obtain rfl := dead h9; rfl
    | some t7 =>
    simp only [Option.map_some, Option.bind_some]
    rw [step h8]
    cases s8 with
    | none => obtain rfl := dead h9; rfl
    | some t8 =>
    simp only [Option.map_some, Option.bind_some]
    rw [step h9]
    cases s9 with
    | none => rfl
    | some t9 => rfl
theorem rdL_lt : Lt rdL := fun l a t h => by
  unfold rdL at h
  obtain ⟨p1, h1, h⟩ := Option.bind_eq_some_iff.1 h
  obtain ⟨p2, h2, h⟩ := Option.bind_eq_some_iff.1 h
  obtain ⟨p3, h3, h⟩ := Option.bind_eq_some_iff.1 h
  obtain ⟨p4, h4, h⟩ := Option.bind_eq_some_iff.1 h
  obtain ⟨p5, h5, h⟩ := Option.bind_eq_some_iff.1 h
  obtain ⟨p6, h6, h⟩ := Option.bind_eq_some_iff.1 h
  obtain ⟨p7, h7, h⟩ := Option.bind_eq_some_iff.1 h
  obtain ⟨p8, h8, h⟩ := Option.bind_eq_some_iff.1 h
  obtain ⟨p9, h9, h⟩ := Option.bind_eq_some_iff.1 h
  have a1 := rdI_lt _ p1.1 p1.2 h1
  have a2 := rdI_lt _ p2.1 p2.2 h2
  have a3 := rdI_lt _ p3.1 p3.2 h3
  have a4 := rdI_lt _ p4.1 p4.2 h4
  have a5 := rdI_lt _ p5.1 p5.2 h5
  have a6 := rdI_lt _ p6.1 p6.2 h6
  have a7 := rdI_lt _ p7.1 p7.2 h7
  have a8 := rdQs_le _ p8.1 p8.2 h8
  have a9 := rdQs_le _ p9.1 p9.2 h9
  simp only [Option.some.injEq, Prod.mk.injEq] at h
  rw [← h.2]
  omega
/-- A model: its two lists. -/
theorem rdM_chain {st s1 s2 : Option (List UInt8)} {ns : List Int} {ls : List LayD} (h1 : RdE (rdList rdI) st ns s1) (h2 : RdE (rdList rdL) s1 ls s2) : RdE rdM st ⟨ns, ls⟩ s2 := by
  cases st with
  | none =>
    cases s1 with
    | some t => cases h1
    | none =>
      cases s2 with
      | some t => cases h2
      | none => rfl
  | some l =>
    show rdM l = _
    unfold rdM
    rw [show rdList rdI l = _ from h1]
    cases s1 with
    | none =>
      cases s2 with
      | some t => cases h2
      | none => rfl
    | some t =>
      simp only [Option.map_some, Option.bind_some]
      rw [show rdList rdL t = _ from h2]
      cases s2 <;> rfl
end Go.Rl
/- The model's reader walked: count, int, rats, body. Conditions: the bytes are not more than 2^39. -/
namespace Go.Rl
open Go.RowKit Go.Proofs
theorem call_MCount : Callable Try.prog 35 := ⟨_, Try.func35, by kernel_rfl, rfl⟩
theorem call_MInt : Callable Try.prog 36 := ⟨_, Try.func36, by kernel_rfl, rfl⟩
theorem call_MRats2 : Callable Try.prog 37 := ⟨_, Try.func37, by kernel_rfl, rfl⟩
theorem call_MBody : Callable Try.prog 21 := ⟨_, Try.func21, by kernel_rfl, rfl⟩
abbrev MrR : Nat → Nat → Option (List UInt8) → World → Prop := MrAt 55
def CountR (h g : Nat) (w : World) (o : Option (Nat × List UInt8)) (r : Value) (w' : World) : Prop :=
  Mv (MrX h g) w w' ∧ match o with
    | some (n, t) => r = U64 (UInt64.ofNat n) ∧ MrR h g (some t) w'
    | none => r = U64 0 ∧ MrR h g none w'
theorem size_bool2 : (Try.prog.info? 4).map (·.size) = some 1 := by kernel_rfl
theorem MCount_spec {w : World} {h g : Nat} {st : Option (List UInt8)} (hm : MrR h g st w) :
    Calls Try.prog 35 #[.pointer (some ⟨h, 0, none⟩)] w (Ret (CountR h g w (st.bind rdU))) := by
  refine enter (vs := [.pointer (some ⟨h, 0, none⟩)]) Try.func35 rfl rfl rfl ?_
  have kb := hm.blk
  refine c_seq (c_region (o_assign rfl rfl (o_nil (n_then (c_seq ?_)))))
  rcases hst : st with _ | l
  have hU : (none : Option (List UInt8)).bind rdU = none := rfl
  have hr : RdAt g none w := hst ▸ hm.rd
  have kb : Blk h 55 [.pointer (some ⟨g, 0, none⟩), B false] w := by subst hst; exact kb
  rotate_left
  have hr : RdAt g (some l) w := hst ▸ hm.rd
  have kb : Blk h 55 [.pointer (some ⟨g, 0, none⟩), B true] w := by subst hst; exact kb
  rcases hU : (some l).bind rdU with _ | ⟨n, t⟩
  · refine c_region (o_move rfl rfl (o_nilCheck rfl rfl (o_fieldAddr rfl rfl (r_fAt (o := 0) Try.underlying55 rfl (by kernel_rfl) rfl) (o_load rfl rfl (r_load1 Try.underlying52 rfl (kb.cell (i := 0) rfl)) ?_))))
    refine o_call call_Uint rfl rfl ((Uint_none hr hU)) ?_
    rintro v10 w10 ⟨g10, rfl, rs⟩
    have m10 := (hr.rdT).kp g10
    have kb1 := kb.other g10 (fun e => hm.ne (Option.some.inj e))
    obtain ⟨w2, s2, m2, h2, _⟩ := MrAt.flag (b := true) kb hm.ne g10 rs size_bool2
    refine o_move rfl rfl (o_extract rfl rfl (r_ext0) (o_extract rfl rfl (r_ext1) (o_assign rfl rfl (o_assign rfl rfl (o_nil (n_then (c_seq (c_region (o_move rfl rfl (o_move rfl rfl (o_nilCheck rfl rfl ?_)))))))))))
    refine o_fieldAddr rfl rfl (r_fAt (o := 1) Try.underlying55 rfl (by kernel_rfl) rfl) (o_load rfl rfl (r_load1 Try.underlying4 rfl (kb1.cell (i := 1) rfl)) ?_)
    refine o_move rfl rfl (g_yes rfl (o_move rfl rfl (g_yes rfl (o_bin rfl rfl rfl (dec_f (by decide) r_eql_i) (o_pick_t rfl rfl rfl (o_nilCheck rfl rfl (o_fieldAddr rfl rfl (r_fAt (o := 1) Try.underlying55 rfl (by kernel_rfl) rfl) ?_)))))))
    refine o_store rfl rfl (s2) (o_nil (n_then (c_seq (c_region (o_move rfl rfl (o_assign rfl rfl (o_nil (n_then (c_ret (r_body1 rfl rfl ?_))))))))))
    exact ⟨_, rfl, m2, rfl, h2⟩
  · refine c_region (o_move rfl rfl (o_nilCheck rfl rfl (o_fieldAddr rfl rfl (r_fAt (o := 0) Try.underlying55 rfl (by kernel_rfl) rfl) (o_load rfl rfl (r_load1 Try.underlying52 rfl (kb.cell (i := 0) rfl)) ?_))))
    refine o_call call_Uint rfl rfl ((Uint_some hr hU)) ?_
    rintro v10 w10 ⟨g10, rfl, rs⟩
    have m10 := (hr.rdT).kp g10
    have kb1 := kb.other g10 (fun e => hm.ne (Option.some.inj e))
    obtain ⟨w2, s2, m2, h2, _⟩ := MrAt.flag (b := true) kb hm.ne g10 rs size_bool2
    refine o_move rfl rfl (o_extract rfl rfl (r_ext0) (o_extract rfl rfl (r_ext1) (o_assign rfl rfl (o_assign rfl rfl (o_nil (n_then (c_seq (c_region (o_move rfl rfl (o_move rfl rfl (o_nilCheck rfl rfl ?_)))))))))))
    refine o_fieldAddr rfl rfl (r_fAt (o := 1) Try.underlying55 rfl (by kernel_rfl) rfl) (o_load rfl rfl (r_load1 Try.underlying4 rfl (kb1.cell (i := 1) rfl)) ?_)
    refine o_move rfl rfl (g_yes rfl (o_move rfl rfl (g_yes rfl (o_bin rfl rfl rfl (dec_t rfl r_eql_i) (o_pick_t rfl rfl rfl (o_nilCheck rfl rfl (o_fieldAddr rfl rfl (r_fAt (o := 1) Try.underlying55 rfl (by kernel_rfl) rfl) ?_)))))))
    refine o_store rfl rfl (s2) (o_nil (n_then (c_seq (c_region (o_move rfl rfl (o_assign rfl rfl (o_nil (n_then (c_ret (r_body1 rfl rfl ?_))))))))))
    exact ⟨_, rfl, m2, rfl, h2⟩
  · refine c_region (o_move rfl rfl (o_nilCheck rfl rfl (o_fieldAddr rfl rfl (r_fAt (o := 0) Try.underlying55 rfl (by kernel_rfl) rfl) (o_load rfl rfl (r_load1 Try.underlying52 rfl (kb.cell (i := 0) rfl)) ?_))))
    refine o_call call_Uint rfl rfl ((Uint_none hr hU)) ?_
    rintro v10 w10 ⟨g10, rfl, rs⟩
    have m10 := (hr.rdT).kp g10
    have kb1 := kb.other g10 (fun e => hm.ne (Option.some.inj e))
    obtain ⟨w2, s2, m2, h2, _⟩ := MrAt.flag (b := false) kb hm.ne g10 rs size_bool2
    refine o_move rfl rfl (o_extract rfl rfl (r_ext0) (o_extract rfl rfl (r_ext1) (o_assign rfl rfl (o_assign rfl rfl (o_nil (n_then (c_seq (c_region (o_move rfl rfl (o_move rfl rfl (o_nilCheck rfl rfl ?_)))))))))))
    refine o_fieldAddr rfl rfl (r_fAt (o := 1) Try.underlying55 rfl (by kernel_rfl) rfl) (o_load rfl rfl (r_load1 Try.underlying4 rfl (kb1.cell (i := 1) rfl)) ?_)
    refine o_move rfl rfl (g_no rfl rfl rfl (g_no rfl rfl rfl (o_pick_f rfl rfl rfl (o_nilCheck rfl rfl (o_fieldAddr rfl rfl (r_fAt (o := 1) Try.underlying55 rfl (by kernel_rfl) rfl) ?_)))))
    refine o_store rfl rfl (s2) (o_nil (n_then (c_seq (c_region (o_move rfl rfl (o_assign rfl rfl (o_nil (n_then (c_ret (r_body1 rfl rfl ?_))))))))))
    exact ⟨_, rfl, m2, rfl, h2⟩
def MIntR (h g : Nat) (w : World) (o : Option (Int × List UInt8)) (r : Value) (w' : World) : Prop :=
  Mv (MrX h g) w w' ∧ match o with
    | some (n, t) => r = I n ∧ MrR h g (some t) w'
    | none => r = I 0 ∧ MrR h g none w'
theorem Int_none {w : World} {g : Nat} {st : Option (List UInt8)} (hr : RdAt g st w) (h : st.bind rdI = none) : Calls Try.prog 58 #[.pointer (some ⟨g, 0, none⟩)] w (Ret fun r w' => w.grownBy w' (some g) ∧ r = .tuple #[I 0, I 5] ∧ RdAt g none w') := by
  have hU : st.bind rdU = none := by
    cases st with
    | none => rfl
    | some l =>
      have : (rdU l).map (fun p => (uz p.1, p.2)) = none := h
      simpa using this
  have := RInt_spec hr
  rw [hU] at this
  exact this
theorem Int_some {w : World} {g : Nat} {st : Option (List UInt8)} {n : Int} {t : List UInt8} (hr : RdAt g st w) (h : st.bind rdI = some (n, t)) : Calls Try.prog 58 #[.pointer (some ⟨g, 0, none⟩)] w (Ret fun r w' => w.grownBy w' (some g) ∧ r = .tuple #[I n, I 0] ∧ RdAt g (some t) w') := by
  obtain ⟨k, hU, rfl⟩ : ∃ k, st.bind rdU = some (k, t) ∧ n = uz k := by
    cases st with
    | none => cases h
    | some l =>
      have h : (rdU l).map (fun p => (uz p.1, p.2)) = some (n, t) := h
      obtain ⟨p, h1, h2⟩ := Option.map_eq_some_iff.1 h
      simp only [Prod.mk.injEq] at h2
      exact ⟨p.1, by rw [← h2.2]; exact h1, h2.1.symm⟩
  have := RInt_spec hr
  rw [hU] at this
  exact this
theorem MInt_spec {w : World} {h g : Nat} {st : Option (List UInt8)} (hm : MrR h g st w) :
    Calls Try.prog 36 #[.pointer (some ⟨h, 0, none⟩)] w (Ret (MIntR h g w (st.bind rdI))) := by
  refine enter (vs := [.pointer (some ⟨h, 0, none⟩)]) Try.func36 rfl rfl rfl ?_
  have kb := hm.blk
  refine c_seq (c_region (o_assign rfl rfl (o_nil (n_then (c_seq ?_)))))
  rcases hst : st with _ | l
  have hU : (none : Option (List UInt8)).bind rdI = none := rfl
  have hr : RdAt g none w := hst ▸ hm.rd
  have kb : Blk h 55 [.pointer (some ⟨g, 0, none⟩), B false] w := by subst hst; exact kb
  rotate_left
  have hr : RdAt g (some l) w := hst ▸ hm.rd
  have kb : Blk h 55 [.pointer (some ⟨g, 0, none⟩), B true] w := by subst hst; exact kb
  rcases hU : (some l).bind rdI with _ | ⟨n, t⟩
  · refine c_region (o_move rfl rfl (o_nilCheck rfl rfl (o_fieldAddr rfl rfl (r_fAt (o := 0) Try.underlying55 rfl (by kernel_rfl) rfl) (o_load rfl rfl (r_load1 Try.underlying52 rfl (kb.cell (i := 0) rfl)) ?_))))
    refine o_call call_RInt rfl rfl ((Int_none hr hU)) ?_
    rintro v10 w10 ⟨g10, rfl, rs⟩
    have m10 := (hr.rdT).kp g10
    have kb1 := kb.other g10 (fun e => hm.ne (Option.some.inj e))
    obtain ⟨w2, s2, m2, h2, _⟩ := MrAt.flag (b := true) kb hm.ne g10 rs size_bool2
    refine o_move rfl rfl (o_extract rfl rfl (r_ext0) (o_extract rfl rfl (r_ext1) (o_assign rfl rfl (o_assign rfl rfl (o_nil (n_then (c_seq (c_region (o_move rfl rfl (o_move rfl rfl (o_nilCheck rfl rfl ?_)))))))))))
    refine o_fieldAddr rfl rfl (r_fAt (o := 1) Try.underlying55 rfl (by kernel_rfl) rfl) (o_load rfl rfl (r_load1 Try.underlying4 rfl (kb1.cell (i := 1) rfl)) ?_)
    refine o_move rfl rfl (g_yes rfl (o_move rfl rfl (g_yes rfl (o_bin rfl rfl rfl (dec_f (by decide) r_eql_i) (o_pick_t rfl rfl rfl (o_nilCheck rfl rfl (o_fieldAddr rfl rfl (r_fAt (o := 1) Try.underlying55 rfl (by kernel_rfl) rfl) ?_)))))))
    refine o_store rfl rfl (s2) (o_nil (n_then (c_seq (c_region (o_move rfl rfl (o_assign rfl rfl (o_nil (n_then (c_ret (r_body1 rfl rfl ?_))))))))))
    exact ⟨_, rfl, m2, rfl, h2⟩
  · refine c_region (o_move rfl rfl (o_nilCheck rfl rfl (o_fieldAddr rfl rfl (r_fAt (o := 0) Try.underlying55 rfl (by kernel_rfl) rfl) (o_load rfl rfl (r_load1 Try.underlying52 rfl (kb.cell (i := 0) rfl)) ?_))))
    refine o_call call_RInt rfl rfl ((Int_some hr hU)) ?_
    rintro v10 w10 ⟨g10, rfl, rs⟩
    have m10 := (hr.rdT).kp g10
    have kb1 := kb.other g10 (fun e => hm.ne (Option.some.inj e))
    obtain ⟨w2, s2, m2, h2, _⟩ := MrAt.flag (b := true) kb hm.ne g10 rs size_bool2
    refine o_move rfl rfl (o_extract rfl rfl (r_ext0) (o_extract rfl rfl (r_ext1) (o_assign rfl rfl (o_assign rfl rfl (o_nil (n_then (c_seq (c_region (o_move rfl rfl (o_move rfl rfl (o_nilCheck rfl rfl ?_)))))))))))
    refine o_fieldAddr rfl rfl (r_fAt (o := 1) Try.underlying55 rfl (by kernel_rfl) rfl) (o_load rfl rfl (r_load1 Try.underlying4 rfl (kb1.cell (i := 1) rfl)) ?_)
    refine o_move rfl rfl (g_yes rfl (o_move rfl rfl (g_yes rfl (o_bin rfl rfl rfl (dec_t rfl r_eql_i) (o_pick_t rfl rfl rfl (o_nilCheck rfl rfl (o_fieldAddr rfl rfl (r_fAt (o := 1) Try.underlying55 rfl (by kernel_rfl) rfl) ?_)))))))
    refine o_store rfl rfl (s2) (o_nil (n_then (c_seq (c_region (o_move rfl rfl (o_assign rfl rfl (o_nil (n_then (c_ret (r_body1 rfl rfl ?_))))))))))
    exact ⟨_, rfl, m2, rfl, h2⟩
  · refine c_region (o_move rfl rfl (o_nilCheck rfl rfl (o_fieldAddr rfl rfl (r_fAt (o := 0) Try.underlying55 rfl (by kernel_rfl) rfl) (o_load rfl rfl (r_load1 Try.underlying52 rfl (kb.cell (i := 0) rfl)) ?_))))
    refine o_call call_RInt rfl rfl ((Int_none hr hU)) ?_
    rintro v10 w10 ⟨g10, rfl, rs⟩
    have m10 := (hr.rdT).kp g10
    have kb1 := kb.other g10 (fun e => hm.ne (Option.some.inj e))
    obtain ⟨w2, s2, m2, h2, _⟩ := MrAt.flag (b := false) kb hm.ne g10 rs size_bool2
    refine o_move rfl rfl (o_extract rfl rfl (r_ext0) (o_extract rfl rfl (r_ext1) (o_assign rfl rfl (o_assign rfl rfl (o_nil (n_then (c_seq (c_region (o_move rfl rfl (o_move rfl rfl (o_nilCheck rfl rfl ?_)))))))))))
    refine o_fieldAddr rfl rfl (r_fAt (o := 1) Try.underlying55 rfl (by kernel_rfl) rfl) (o_load rfl rfl (r_load1 Try.underlying4 rfl (kb1.cell (i := 1) rfl)) ?_)
    refine o_move rfl rfl (g_no rfl rfl rfl (g_no rfl rfl rfl (o_pick_f rfl rfl rfl (o_nilCheck rfl rfl (o_fieldAddr rfl rfl (r_fAt (o := 1) Try.underlying55 rfl (by kernel_rfl) rfl) ?_)))))
    refine o_store rfl rfl (s2) (o_nil (n_then (c_seq (c_region (o_move rfl rfl (o_assign rfl rfl (o_nil (n_then (c_ret (r_body1 rfl rfl ?_))))))))))
    exact ⟨_, rfl, m2, rfl, h2⟩
theorem info_rat : (Try.prog.info? 41).map (fun i => (i.zero, i.size, i.bytes)) = some (some (.agg #[B false, .slice none 0 0, .slice none 0 0]), 3, 56) := by kernel_rfl
theorem info_rat2 : (Try.prog.info? 41).map (fun i => (i.zero, i.size)) = some (some (.agg #[B false, .slice none 0 0, .slice none 0 0]), 3) := by kernel_rfl
theorem NewS.rpx {w : World} {b : Nat} {l : List UInt32} {v : Value} (h : Wds l v w) (hn : NewS b v) : RpX (fun k => k < b) w (dNat l) [v] := by
  have h' : Rp w (dNat l) [v] := Rp.wds.2 h
  unfold dNat at h' ⊢
  simp only [Rp] at h'
  obtain ⟨A, n, c, hv, h2, h3, h4, h5, h6⟩ := h'
  obtain rfl : v = .slice A n c := by simpa using hv
  simp only [RpX]
  refine ⟨A, n, c, rfl, h2, h3, h4, h5, fun hp => ?_⟩
  obtain ⟨ad, xs, rfl, h8, h9⟩ := h6 hp
  refine ⟨ad, xs, rfl, fun _ hb => ?_, h8, ?_⟩
  · have := hn ad.block rfl
    omega
  · have : ∀ (l : List UInt32) (ys : List Value), RpAll w (l.map dU32) ys → RpXAll (fun k => k < b) w (l.map dU32) ys := by
      intro l
      induction l with
      | nil => intro ys h; simpa only [List.map_nil, RpAll, RpXAll] using h
      | cons a l ih =>
        intro ys h
        simp only [List.map_cons, RpAll, RpXAll] at h ⊢
        obtain ⟨c1, c2, h1, h2, h3⟩ := h
        exact ⟨c1, c2, h1, by simpa only [dU32, Rp, RpX] using h2, ih _ h3⟩
    exact this l xs h9
theorem NewS.rpx' {w : World} {b : Nat} {l : List UInt32} {v : Value} (hn : NewS b v) (h : Wds l v w) : RpX (fun k => k < b) w (dNat l) [v] := NewS.rpx h hn
/-- A rational is read; whatever comes of it. -/
theorem RRat_any {w : World} {g : Nat} {st : Option (List UInt8)} (hr : RdAt g st w) (hl : ∀ l, st = some l → l.length ≤ 549755813888) :
    Calls Try.prog 59 #[.pointer (some ⟨g, 0, none⟩)] w (Ret fun r w' => w.grownBy w' (some g) ∧ ∃ (q : RatD) (x y : Value) (s1 : Option (List UInt8)), r = .tuple #[.agg #[B q.1, x, y], I (if s1.isSome then 0 else 5)] ∧ Wds q.2.1 x w' ∧ Wds q.2.2 y w' ∧ RpX (fun k => k < w.heap.size) w' (dRat q) [B q.1, x, y] ∧ RdAt g s1 w' ∧ st.bind rdR = s1.map fun t => (q, t)) := by
  refine Ret.mono (RRat_specF hr hl) fun r w' hR => ⟨hR.1, ?_⟩
  have h2 := hR.2
  have key : ∀ {q : RatD} {x y : Value}, RpX (fun k => k < w.heap.size) w' (dNat q.2.1) [x] → RpX (fun k => k < w.heap.size) w' (dNat q.2.2) [y] → RpX (fun k => k < w.heap.size) w' (dRat q) [B q.1, x, y] := fun {q x y} h1 h2 => by
    simp only [dRat, RpX]
    exact RpXAll.cons (a := [B q.1]) (by simp only [RpX, B]) (RpXAll.cons h1 (RpXAll.cons (b := []) h2 RpXAll.nil))
  cases hq : st.bind rdR with
  | none =>
    rw [hq] at h2
    obtain ⟨v, h3, ⟨x, y, rfl, hx, hy⟩, h4⟩ := h2
    have hn : ∀ {z : Value}, Wds [] z w' → RpX (fun k => k < w.heap.size) w' (dNat []) [z] := fun {z} hz => by
      obtain ⟨A, n, c, rfl, h5, h6, h7, h8, h9⟩ := hz
      simp only [dNat, List.map_nil, RpX]
      have : n = 0 := by simp at h7; omega
      subst this
      exact ⟨A, 0, c, rfl, rfl, h5, h6, h9, fun h => by omega⟩
    exact ⟨(false, [], []), x, y, none, h3, hx, hy, key (hn hx) (hn hy), h4, rfl⟩
  | some p =>
    obtain ⟨q, t⟩ := p
    rw [hq] at h2
    obtain ⟨x, y, h3, hx, hy, h4, n1, n2⟩ := h2
    exact ⟨q, x, y, some t, h3, hx, hy, key (n1.rpx' hx) (n2.rpx' hy), h4, rfl⟩
/-- What rats returns. -/
def RatsR (h g : Nat) (w : World) (st : Option (List UInt8)) (r : Value) (w' : World) : Prop :=
  Mv (MrX h g) w w' ∧ ∃ qs s1, RpX (fun k => k < w.heap.size) w' (dRats qs) [r] ∧ MrR h g s1 w' ∧ RdE rdQs st qs s1
/-- The number of elements of a list, and the reader behind it. -/
theorem MCount_list {w : World} {h g : Nat} {st : Option (List UInt8)} (hm : MrR h g st w) :
    Calls Try.prog 35 #[.pointer (some ⟨h, 0, none⟩)] w (Ret fun r w' => Mv (MrX h g) w w' ∧ ∃ N s1, r = U64 (UInt64.ofNat N) ∧ N < 18446744073709551616 ∧ MrR h g s1 w' ∧ (∀ l1, s1 = some l1 → ∃ l, st = some l ∧ l1.length ≤ l.length) ∧ ∀ {α : Type} (f : List UInt8 → Option (α × List UInt8)), st.bind (rdList f) = s1.bind (rdMany f N)) := by
  refine Ret.mono (MCount_spec hm) fun r w' hr => ⟨hr.1, ?_⟩
  have h2 := hr.2
  cases st with
  | none => exact ⟨0, none, h2.1, by omega, h2.2, fun _ h => (by cases h), fun _ => rfl⟩
  | some l =>
    cases hU : rdU l with
    | none =>
      rw [show (some l).bind rdU = none from hU] at h2
      exact ⟨0, none, h2.1, by omega, h2.2, fun _ h => (by cases h), fun f => by show rdList f l = none; unfold rdList; rw [hU]; rfl⟩
    | some p =>
      obtain ⟨n, t⟩ := p
      rw [show (some l).bind rdU = some (n, t) from hU] at h2
      obtain ⟨h3, h4⟩ := rdU_inv hU
      refine ⟨n, some t, h2.1, h4, h2.2, fun l1 h5 => ⟨l, rfl, ?_⟩, fun f => by show rdList f l = _; unfold rdList; rw [hU]; rfl⟩
      cases h5
      rw [h3, List.length_append]
      omega
theorem MRats2_spec {w : World} {h g : Nat} {st : Option (List UInt8)} (hm : MrR h g st w) (hl : ∀ l, st = some l → l.length ≤ 549755813888) :
    Calls Try.prog 37 #[.pointer (some ⟨h, 0, none⟩)] w (Ret (RatsR h g w st)) := by
  refine enter (vs := [.pointer (some ⟨h, 0, none⟩)]) Try.func37 rfl rfl rfl ?_
  have hlt := hm.blk.lt
  have glt := hm.rd.lt
  have hX : ∀ k, MrX h g k → k < w.heap.size := fun k hk => by rcases hk with rfl | rfl <;> assumption
  refine c_seq (c_region (o_assign rfl rfl (o_nil (n_then (c_seq (c_region (o_assign rfl rfl (o_nil (n_then (c_seq (c_seq (c_region (o_move rfl rfl (o_call call_MCount rfl rfl ((MCount_list hm)) ?_))))))))))))))
  rintro v8 w8 ⟨m8, N, s1, rfl, hN, hm8, hle, hrel⟩
  have m8 := m8
  have hl1 : ∀ l1, s1 = some l1 → l1.length ≤ 549755813888 := fun l1 e => by
    obtain ⟨l, h1, h2⟩ := hle l1 e
    exact Nat.le_trans h2 (hl l h1)
  refine o_assign rfl rfl (o_nil (n_then (c_block ?_)))
  refine c_loop4 (fun (k : Nat) (v : Value) (so : Option (List UInt8)) (qs : List RatD) => [(0, .pointer (some ⟨h, 0, none⟩)), (3, v), (4, U64 (UInt64.ofNat k))]) (fun (k : Nat) (v : Value) (so : Option (List UInt8)) (qs : List RatD) w' => Mv (MrX h g) w w' ∧ MrR h g so w' ∧ OwnD 41 3 w.heap.size dRat qs v w' ∧ k < 18446744073709551616 ∧ s1.bind (rdMany rdR N) = so.bind (fun l => (rdMany rdR k l).map fun p => (qs ++ p.1, p.2)) ∧ qs.length ≤ 549755813890 ∧ ∀ l, so = some l → l.length + qs.length ≤ 549755813888) (fun (k : Nat) (v : Value) (so : Option (List UInt8)) (qs : List RatD) => k) (N) (.slice none 0 0) (s1) ([]) ⟨rfl, rfl, rfl, trivial⟩ ⟨m8, hm8, OwnD.nil _, hN, by cases s1 <;> simp, by simp, fun l e => by have := hl1 l e; simpa using this⟩ ?_
  rintro k v so qs wL ⟨mL, hmL, oL, hk, hR, hql, hsl⟩
  refine c_seq (c_seq ?_)
  have hkn : (UInt64.ofNat k).toNat = k := by rw [UInt64.toNat_ofNat']; omega
  have kb := hmL.blk
  rcases Nat.eq_zero_or_pos k with h0 | h0
  rotate_left
  rcases so with _ | l
  · refine c_region (o_move rfl rfl (o_bin (v := U64 0) rfl rfl rfl (dec_t (UInt64.lt_iff_toNat_lt.2 (by rw [hkn]; exact h0)) r_gtr_u64) (o_move rfl rfl (g_yes rfl (o_move rfl rfl ?_)))))
    refine g_yes rfl (o_nilCheck rfl rfl (g_yes rfl (o_fieldAddr rfl rfl (r_fAt (o := 1) Try.underlying55 rfl (by kernel_rfl) rfl) (g_yes rfl (o_load rfl rfl (r_load1 Try.underlying4 rfl (kb.cell (i := 1) rfl)) ?_)))))
    refine o_pick_t rfl rfl rfl (o_nil (n_then (c_no rfl (c_exit (x_then (x_then (x_here (n_then (c_seq (c_region (o_move rfl rfl (o_assign rfl rfl (o_nil (n_then (c_ret (r_body1 rfl rfl ?_))))))))))))))))
    exact ⟨_, rfl, mL, qs, none, oL.rpx dRat_size (by omega), hmL, (hrel rdR).trans hR⟩
  · refine c_region (o_move rfl rfl (o_bin (v := U64 0) rfl rfl rfl (dec_t (UInt64.lt_iff_toNat_lt.2 (by rw [hkn]; exact h0)) r_gtr_u64) (o_move rfl rfl (g_yes rfl (o_move rfl rfl ?_)))))
    refine g_yes rfl (o_nilCheck rfl rfl (g_yes rfl (o_fieldAddr rfl rfl (r_fAt (o := 1) Try.underlying55 rfl (by kernel_rfl) rfl) (g_yes rfl (o_load rfl rfl (r_load1 Try.underlying4 rfl (kb.cell (i := 1) rfl)) ?_)))))
    refine o_pick_t rfl rfl rfl (o_nil (n_then (c_yes rfl (c_skip (n_then (c_seq (c_block (c_seq (c_region (o_move rfl rfl (o_nilCheck rfl rfl (o_fieldAddr rfl rfl (r_fAt (o := 0) Try.underlying55 rfl (by kernel_rfl) rfl) ?_))))))))))))
    refine o_load rfl rfl (r_load1 Try.underlying52 rfl (kb.cell (i := 0) rfl)) (o_call call_RRat rfl rfl ((RRat_any (st := some l) hmL.rd (fun l' e => by cases e; have := hsl l rfl; omega))) ?_)
    rintro v24 w24 ⟨g24, q, x, y, s2, rfl, hx, hy, hq24, rs, hrq⟩
    have m24 := (hmL.rd.rdT).kp g24
    have kb1 := kb.other g24 (fun e => hmL.ne (Option.some.inj e))
    refine o_move rfl rfl (o_extract rfl rfl (r_ext0) (o_extract rfl rfl (r_ext1) ?_))
    obtain ⟨g5, w5, hr5, l5, x5, k5⟩ := r_allocB (P := Try.prog) (w := w24) (t := 41) (z := .agg #[B false, .slice none 0 0, .slice none 0 0]) (l := [B false, .slice none 0 0, .slice none 0 0]) (by kernel_rfl) rfl
    refine o_alloc rfl hr5 ?_
    obtain ⟨w5_9, s5_9, q5_9, k5_9⟩ := k5.stS (P := Try.prog) (t := 41) (m := [B q.1, x, y]) rfl (by kernel_rfl) (Ones.cons rfl (Ones.cons hx.one (Ones.cons hy.one Ones.nil)))
    refine o_store rfl rfl s5_9 ?_
    have x5_9 := Ext.of_new (x5) q5_9 l5
    refine o_assign rfl rfl (o_nil (n_then (c_seq (c_region (o_move rfl rfl (o_move rfl rfl (o_bin (r := B s2.isSome) rfl rfl rfl ((by cases s2 <;> exact r_eql_i)) (o_nilCheck rfl rfl ?_))))))))
    refine o_fieldAddr rfl rfl (r_fAt (o := 1) Try.underlying55 rfl (by kernel_rfl) rfl) ?_
    have ga := g24.trans (grownBy_of_ext x5_9)
    obtain ⟨wf, sf, mf, hmf, gf⟩ := MrAt.flag (b := true) kb hmL.ne ga (rs.ext x5_9) size_bool2
    have h5 : g5 ≠ h := fun e => by have := hmL.blk.lt; have := g24.size; omega
    have kf := k5_9.other gf (fun e => h5 (Option.some.inj e))
    have mq : Mv (fun k => k < wL.heap.size) w24 wf := ((Mv.of_ext x5_9).trans (Mv.of_grown gf fun k hk _ => by obtain rfl := Option.some.inj hk; exact hmL.blk.lt) fun _ hn _ => hn)
    have of := oL.mv mf (fun k hk => hX k hk)
    have hqf : RpX (fun k => k < w.heap.size ∨ v.ownBlock = some k) wf (dRat q) [B q.1, x, y] := hq24.mv mq fun k hk => by
      rcases hk with hk | hk
      · exact .inl (Nat.lt_of_lt_of_le hk mL.size)
      · exact .inl (oL.lt k hk).2
    refine o_store rfl rfl (sf) (o_nil (n_then (c_region (o_move rfl rfl (o_load rfl rfl (kf.ld Try.underlying41 rfl (by kernel_rfl)) ?_)))))
    obtain ⟨x34, w34, v35, w35, hr34, hr35, o35, m35, n35⟩ := of.push (ty := 35) (t := 35) Try.underlying35 info_rat rfl (by omega) (by omega) (by omega) (Ones.cons rfl (Ones.cons hx.one (Ones.cons hy.one Ones.nil))) hqf dRat_size (by have := hsl l rfl; omega) (Nat.le_trans mL.size mf.size)
    refine o_buildSlice (vs := [(0, .agg #[B q.1, x, y])]) rfl rfl hr34 ?_
    refine o_append rfl rfl hr35 ?_
    refine o_assign rfl rfl (o_nil (n_block (n_then (c_region ?_))))
    obtain ⟨k', rfl⟩ : ∃ k', k = k' + 1 := ⟨k - 1, by omega⟩
    have hm35 := hmf.mv m35 fun n hn => by
      have := (oL.lt n hn).1
      have := hX g (.inr rfl)
      have := hX h (.inl rfl)
      omega
    have mz : Mv (MrX h g) w w35 := (mL.trans mf fun _ hn _ => hn).trans m35 fun n hn hlt => by have := (oL.lt n hn).1; omega
    have ek : UInt64.ofNat (k' + 1) - 1 = UInt64.ofNat k' := by
      refine UInt64.toNat_inj.1 ?_
      rw [UInt64.toNat_sub_of_le _ _ (UInt64.le_iff_toNat_le.2 (by rw [hkn]; show 1 ≤ _; omega)), hkn, UInt64.toNat_ofNat', show (1 : UInt64).toNat = 1 from rfl]
      omega
    refine o_move rfl rfl (o_bin (v := U64 1) (r := U64 (UInt64.ofNat k')) rfl rfl rfl ((by rw [← ek]; exact r_sub_u64)) (o_assign rfl rfl (o_nil ?_)))
    refine n_round4 (k') (v35) (s2) (qs ++ [q]) ⟨rfl, rfl, rfl, trivial⟩ ⟨mz, hm35, o35, by omega, by
      rw [hR]
      show (rdMany rdR (k' + 1) l).map _ = _
      simp only [rdMany]
      rw [show rdR l = _ from hrq]
      cases s2 with
      | none => rfl
      | some t =>
        simp only [Option.map_some, Option.bind_some, Option.map_map]
        cases rdMany rdR k' t <;> simp, by have := hsl l rfl; simp; omega, fun l' e => by
      subst e
      have := hsl l rfl
      have := rdR_lt _ _ _ (show rdR l = some (q, l') from hrq)
      simp
      omega⟩ (by omega)
  · refine c_region (o_move rfl rfl (o_bin (v := U64 0) rfl rfl rfl (dec_f (fun hh => by have := UInt64.lt_iff_toNat_lt.1 hh; rw [hkn, h0] at this; exact absurd this (by decide)) r_gtr_u64) ?_))
    refine o_move rfl rfl (g_no rfl rfl rfl (g_no rfl rfl rfl (g_no rfl rfl rfl (g_no rfl rfl rfl (o_pick_f rfl rfl rfl (o_nil (n_then (c_no rfl (c_exit (x_then (x_then (x_here (n_then (c_seq ?_))))))))))))))
    refine c_region (o_move rfl rfl (o_assign rfl rfl (o_nil (n_then (c_ret (r_body1 rfl rfl ?_))))))
    exact ⟨_, rfl, mL, qs, so, oL.rpx dRat_size (by omega), hmL, by subst h0; exact (hrel rdR).trans (many_done hR)⟩
theorem MInt_any (st : Option (List UInt8)) : ∃ n s1, RdE rdI st n s1 ∧ i64 n ∧ ∀ {w : World} {h g : Nat}, MrR h g st w → Calls Try.prog 36 #[.pointer (some ⟨h, 0, none⟩)] w (Ret fun r w' => Mv (MrX h g) w w' ∧ r = I n ∧ MrR h g s1 w') := by
  cases hI : st.bind rdI with
  | none => exact ⟨0, none, hI, by unfold i64; omega, fun hm => Ret.mono (MInt_spec hm) fun r w' hr => by rw [hI] at hr; exact hr⟩
  | some p =>
    obtain ⟨n, t⟩ := p
    exact ⟨n, some t, hI, rdI_i64 (st := st) (t := t) hI, fun hm => Ret.mono (MInt_spec hm) fun r w' hr => by rw [hI] at hr; exact hr⟩
theorem EnvOk.mv (X : Nat → Prop) (w : World) : EnvOk (Mv X w) (Mv X) := ⟨fun _ _ h => Mv.of_ext h, fun _ _ h k => h.trans k fun _ hn _ => hn⟩
theorem OwnI.stableM {X : Nat → Prop} {b : Nat} {l : List Int} (hX : ∀ k, X k → k < b) : StableR (Mv X) (OwnI b l) := fun _ _ _ h hm => hm.ownI h fun k hk hx => by
  have := (h.lt k hk).1
  have := hX k hx
  omega
theorem MrAt.stableZ {T : TypeId} {h g : Nat} {st : Option (List UInt8)} : StableZ (MrAt T h g st) := fun _ _ h hx => h.ext hx
theorem dLay_rpx {X : Nat → Prop} {w : World} {l : LayD} {x y : Value} (hx : RpX X w (dRats l.ws) [x]) (hy : RpX X w (dRats l.bs) [y]) : RpX X w (dLay l) [I l.kd, I l.fr, I l.ou, I l.kh, I l.kw, I l.sr, I l.pd, x, y] := by
  have hi : ∀ n : Int, RpX X w (dIn n) [I n] := fun n => by simp only [dIn, RpX, I]
  unfold dLay
  simp only [RpX.eq_5]
  exact RpXAll.cons (hi _) (RpXAll.cons (hi _) (RpXAll.cons (hi _) (RpXAll.cons (hi _) (RpXAll.cons (hi _) (RpXAll.cons (hi _) (RpXAll.cons (hi _) (RpXAll.cons hx (RpXAll.cons (b := []) hy RpXAll.nil))))))))
theorem dMod_rpx {X : Nat → Prop} {w : World} {m : ModD} {x y : Value} (hx : RpX X w (dInts m.inp) [x]) (hy : RpX X w (.sl (m.lays.map dLay)) [y]) : RpX X w (dMod m) [x, y] := by
  unfold dMod
  simp only [RpX.eq_5]
  exact RpXAll.cons (a := [x]) hx (RpXAll.cons (b := []) hy RpXAll.nil)
theorem RpX.isS {X : Nat → Prop} {w : World} {l : List Dt} {v : Value} (h : RpX X w (.sl l) [v]) : ∃ A n c, v = .slice A n c := by
  simp only [RpX] at h
  obtain ⟨A, n, c, hv, _⟩ := h
  exact ⟨A, n, c, by simpa using hv⟩
theorem RpX.one {X : Nat → Prop} {w : World} {l : List Dt} {v : Value} (h : RpX X w (.sl l) [v]) : v.oneCell' = true := by obtain ⟨A, n, c, rfl⟩ := h.isS; rfl
end Go.Rl
/- The model's reader walked: body. Conditions: the bytes are not more than 2^39. -/
namespace Go.Rl
open Go.RowKit Go.Proofs
theorem info_lay : (Try.prog.info? 37).map (fun i => (i.zero, i.size, i.bytes)) = some (some (.agg #[I 0, I 0, I 0, I 0, I 0, I 0, I 0, .slice none 0 0, .slice none 0 0]), 9, 104) := by kernel_rfl
theorem info_intv : (Try.prog.info? 3).map (fun i => (i.zero, i.size, i.bytes)) = some (some (I 0), 1, 8) := by kernel_rfl
/-- What body returns. -/
def BodyR (h g : Nat) (w : World) (st : Option (List UInt8)) (r : Value) (w' : World) : Prop :=
  Mv (MrX h g) w w' ∧ ∃ m s1 x y, r = .agg #[x, y] ∧ RpX (fun k => k < w.heap.size) w' (dMod m) [x, y] ∧ MrR h g s1 w' ∧ RdE rdM st m s1
theorem dIn_rpx {X : Nat → Prop} {w : World} (n : Int) : RpX X w (dIn n) [I n] := by simp only [dIn, RpX, I]
theorem MBody_spec {w : World} {h g : Nat} {st : Option (List UInt8)} (hm : MrR h g st w) (hl : AtM 549755813888 st) :
    Calls Try.prog 21 #[.pointer (some ⟨h, 0, none⟩)] w (Ret (BodyR h g w st)) := by
  refine enter (vs := [.pointer (some ⟨h, 0, none⟩)]) Try.func21 rfl rfl rfl ?_
  have hlt := hm.blk.lt
  have glt := hm.rd.lt
  refine c_seq (c_region ?_)
  obtain ⟨g2, w2, hr2, l2, x2, k2⟩ := r_allocB (P := Try.prog) (w := w) (t := 25) (z := .agg #[.slice none 0 0, .slice none 0 0]) (l := [.slice none 0 0, .slice none 0 0]) (by kernel_rfl) rfl
  refine o_alloc rfl hr2 (o_nil (n_then (c_seq (c_region ?_))))
  obtain ⟨g3, w3, hr3, l3, x3, k3⟩ := r_allocB (P := Try.prog) (w := w2) (t := 25) (z := .agg #[.slice none 0 0, .slice none 0 0]) (l := [.slice none 0 0, .slice none 0 0]) (by kernel_rfl) rfl
  refine o_alloc rfl hr3 ?_
  have ex3 := (x2.trans x3)
  have hX : ∀ k, MrX h g k → k < w.heap.size := fun k hk => by rcases hk with rfl | rfl <;> assumption
  have hX3 : ∀ k, MrX h g k → k < w3.heap.size := fun k hk => Nat.lt_of_lt_of_le (hX k hk) ex3.size
  have g32 : w.heap.size ≤ g3 := Nat.le_trans x2.size l3
  have nX3 : ¬ MrX h g g3 := fun hh => by have := hX g3 hh; omega
  have nX2 : ¬ MrX h g g2 := fun hh => by have := hX g2 hh; omega
  have hg3 := k3.lt
  have hg2 := k2.lt
  have h23 : g2 ≠ g3 := by omega
  have hmA : MrR h g st w3 := hm.ext ex3
  refine o_nil (n_then (c_seq ?_))
  refine c_cut (fun (x : Value × Option (List UInt8) × List Int) => [(0, .pointer (some ⟨h, 0, none⟩)), (2, .pointer (some ⟨g2, 0, none⟩)), (3, .pointer (some ⟨g3, 0, none⟩))]) (fun x w' => Mv (fun k => MrX h g k ∨ k = g3) w3 w' ∧ MrR h g x.2.1 w' ∧ Blk g3 25 [x.1, .slice none 0 0] w' ∧ OwnD 3 1 w3.heap.size dIn x.2.2 x.1 w' ∧ RdE (rdList rdI) st x.2.2 x.2.1 ∧ AtM 549755813888 x.2.1) ?_ ?_
  · refine c_seq (c_region (o_move rfl rfl (o_call call_MCount rfl rfl ((MCount_list hmA)) ?_)))
    rintro v8 w8 ⟨m8, N, s1, rfl, hN, hm8, hle, hrel⟩
    have m8 := m8
    have hl1 : AtM 549755813888 s1 := fun l1 e => by
      obtain ⟨l, h1, h2⟩ := hle l1 e
      exact Nat.le_trans h2 (hl l h1)
    have k38 := m8.blk k3 nX3
    refine o_assign rfl rfl (o_nil (n_then (c_block ?_)))
    refine c_loop4 (fun (k : Nat) (v : Value) (so : Option (List UInt8)) (ns : List Int) => [(0, .pointer (some ⟨h, 0, none⟩)), (2, .pointer (some ⟨g2, 0, none⟩)), (3, .pointer (some ⟨g3, 0, none⟩)), (4, U64 (UInt64.ofNat k))]) (fun (k : Nat) (v : Value) (so : Option (List UInt8)) (ns : List Int) w' => Mv (fun k => MrX h g k ∨ k = g3) w3 w' ∧ MrR h g so w' ∧ Blk g3 25 [v, .slice none 0 0] w' ∧ OwnD 3 1 w3.heap.size dIn ns v w' ∧ k < 18446744073709551616 ∧ s1.bind (rdMany rdI N) = so.bind (fun l => (rdMany rdI k l).map fun p => (ns ++ p.1, p.2)) ∧ ns.length ≤ 549755813890 ∧ ∀ l, so = some l → l.length + ns.length ≤ 549755813888) (fun (k : Nat) (v : Value) (so : Option (List UInt8)) (ns : List Int) => k) (N) (.slice none 0 0) (s1) ([]) ⟨rfl, rfl, rfl, rfl, trivial⟩ ⟨m8.weak fun _ hk _ => .inl hk, hm8, k38, OwnD.nil _, hN, many_start, by simp, fun l e => by have := hl1 l e; simpa using this⟩ ?_
    rintro k v so ns wL ⟨mL, hmL, kL, oL, hk, hR, hql, hsl⟩
    refine c_seq (c_seq ?_)
    have hkn : (UInt64.ofNat k).toNat = k := by rw [UInt64.toNat_ofNat']; omega
    have kb := hmL.blk
    have hlC : AtM 549755813888 so := fun l e => by have := hsl l e; omega
    rcases Nat.eq_zero_or_pos k with h0 | h0
    rotate_left
    rcases so with _ | l
    · refine c_region (o_move rfl rfl (o_bin (v := U64 0) rfl rfl rfl (dec_t (UInt64.lt_iff_toNat_lt.2 (by rw [hkn]; exact h0)) r_gtr_u64) (o_move rfl rfl (g_yes rfl (o_move rfl rfl ?_)))))
      refine g_yes rfl (o_nilCheck rfl rfl (g_yes rfl (o_fieldAddr rfl rfl (r_fAt (o := 1) Try.underlying55 rfl (by kernel_rfl) rfl) (g_yes rfl (o_load rfl rfl (r_load1 Try.underlying4 rfl (kb.cell (i := 1) rfl)) ?_)))))
      refine o_pick_t rfl rfl rfl (o_nil (n_then (c_no rfl (c_exit (x_then (x_then (x_here ?_)))))))
      exact n_meet (v, none, ns) ⟨rfl, rfl, rfl, trivial⟩ ⟨mL, hmL, kL, oL, (hrel rdI).trans hR, AtM.none _⟩
    · refine c_region (o_move rfl rfl (o_bin (v := U64 0) rfl rfl rfl (dec_t (UInt64.lt_iff_toNat_lt.2 (by rw [hkn]; exact h0)) r_gtr_u64) (o_move rfl rfl (g_yes rfl (o_move rfl rfl ?_)))))
      refine g_yes rfl (o_nilCheck rfl rfl (g_yes rfl (o_fieldAddr rfl rfl (r_fAt (o := 1) Try.underlying55 rfl (by kernel_rfl) rfl) (g_yes rfl (o_load rfl rfl (r_load1 Try.underlying4 rfl (kb.cell (i := 1) rfl)) ?_)))))
      refine o_pick_t rfl rfl rfl (o_nil (n_then (c_yes rfl (c_skip (n_then (c_seq (c_block ?_)))))))
      obtain ⟨n, s2, hq, hi64, hcall⟩ := MInt_any (some l)
      have hXL : ∀ j, MrX h g j → j < wL.heap.size := fun j hj => Nat.lt_of_lt_of_le (hX3 j hj) mL.size
      have hvS := oL.isS
      refine c_growE 5 [0, 2, 3, 4, 20, 23] (Mv (MrX h g) wL) (Mv (MrX h g)) true NoP (MrR h g (some l)) (EnvOk.mv _ _) (Mv.refl _ _) MrAt.stableZ hmL (fun _ _ _ _ h => h.elim) (fun _ => by kernel_rfl) (by kernel_rfl) (by kernel_rfl) ?_
      refine f_fieldAddr rfl rfl (fun w hw => r_fAt (o := 0) Try.underlying25 rfl (by kernel_rfl) rfl) (f_load rfl rfl (fun w hw => r_load1 Try.underlying22 rfl ((hw.blk kL nX3).k0)) ?_)
      refine f_move rfl rfl (f_callM (S := Is (I n)) (Z' := MrR h g s2) call_MInt rfl (Stable.is _) (MrAt.stableZ) rfl (fun w hw hz => by rintro _ rfl; exact (hcall hz).mono fun _ _ ⟨r, he, h1, h2, h3⟩ => .inl ⟨r, he, h1, h2, h3⟩) ?_)
      refine f_buildSlice (S := fun v w => OwnI wL.heap.size [n] v w) (OwnI.stableM hXL) rfl (fun w' hw => by rintro _ rfl; obtain ⟨r, w2, h1, h2, h3, _⟩ := r_bsI (w := w') wL.heap.size [n] (by simp) hw.size; exact ⟨r, w2, h1, h2, h3⟩) ?_
      refine f_nil ?_
      intro wg5 xg5 zg5
      rintro _ rfl
      rintro _ rfl
      rintro _ rfl
      rintro _ rfl
      rintro _ hq20
      obtain rfl := Eq.symm hq20
      intro vg23 b23
      have oG := oL.mv xg5 hX3
      have kG := xg5.blk kL nX3
      obtain ⟨v24, w24, hr24, o24, g24⟩ := oG.app (t := 22) (ty := 22) Try.underlying22 info_intv rfl (by omega) (by omega) b23.its (Ones.cons rfl Ones.nil) (dIn_rpx n) dIn_size (by have := hsl l rfl; omega) (Nat.le_trans mL.size xg5.size)
      have k24 := kG.other g24.grown (fun e => by have := (oG.lt g3 e.symm).1; omega)
      have m24 : Mv (fun k => v.ownBlock = some k) wg5 w24 := Mv.of_grown g24.grown fun k hk _ => hk
      have h24 := zg5.mv m24 fun j hj => by
        have := (oG.lt j hj).1
        have := hX3 g (.inr rfl)
        have := hX3 h (.inl rfl)
        omega
      obtain ⟨A24, n24, c24, rfl⟩ := o24.isS
      obtain ⟨w5, s5, q5, k5⟩ := k24.stC (P := Try.prog) (t := 22) (i := 0) (v := .slice A24 n24 c24) (by kernel_rfl) rfl (by simp)
      have m5 : Mv (fun k => k = g3) w24 w5 := Mv.of_grown q5 fun k hk _ => (Option.some.inj hk).symm
      have h5 := h24.mv m5 fun j hj => by
        have := hX g (.inr rfl)
        have := hX h (.inl rfl)
        omega
      have o5 := o24.mv m5 fun j hj => by omega
      have mz : Mv (fun k => MrX h g k ∨ k = g3) w3 w5 := ((mL.trans xg5 fun _ hn _ => .inl hn).trans m24 fun j hj hlt => by have := (oG.lt j hj).1; omega).trans m5 fun _ hj _ => .inr hj
      refine o_append rfl rfl hr24 ?_
      refine o_fieldAddr rfl rfl (r_fAt (o := 0) Try.underlying25 rfl (by kernel_rfl) rfl) ?_
      refine o_store rfl rfl s5 ?_
      refine o_nil (n_block (n_then (c_region ?_)))
      obtain ⟨k', rfl⟩ : ∃ k', k = k' + 1 := ⟨k - 1, by omega⟩
      have ek : UInt64.ofNat (k' + 1) - 1 = UInt64.ofNat k' := by
        refine UInt64.toNat_inj.1 ?_
        rw [UInt64.toNat_sub_of_le _ _ (UInt64.le_iff_toNat_le.2 (by rw [hkn]; show 1 ≤ _; omega)), hkn, UInt64.toNat_ofNat', show (1 : UInt64).toNat = 1 from rfl]
        omega
      refine o_move rfl rfl (o_bin (v := U64 1) (r := U64 (UInt64.ofNat k')) rfl rfl rfl ((by rw [← ek]; exact r_sub_u64)) (o_assign rfl rfl (o_nil ?_)))
      refine n_round4 (k') (.slice A24 n24 c24) (s2) (ns ++ [n]) ⟨rfl, rfl, rfl, rfl, trivial⟩ ⟨mz, h5, k5, o5, by omega, many_step hR hq, by have := hsl l rfl; simp; omega, fun l' e => by
        subst e
        have := hsl l rfl
        have := rdI_lt _ _ _ (show rdI l = some (n, l') from hq)
        simp
        omega⟩ (by omega)
    · refine c_region (o_move rfl rfl (o_bin (v := U64 0) rfl rfl rfl (dec_f (fun hh => by have := UInt64.lt_iff_toNat_lt.1 hh; rw [hkn, h0] at this; exact absurd this (by decide)) r_gtr_u64) ?_))
      refine o_move rfl rfl (g_no rfl rfl rfl (g_no rfl rfl rfl (g_no rfl rfl rfl (g_no rfl rfl rfl (o_pick_f rfl rfl rfl (o_nil (n_then (c_no rfl (c_exit (x_then (x_then (x_here ?_))))))))))))
      exact n_meet (v, so, ns) ⟨rfl, rfl, rfl, trivial⟩ ⟨mL, hmL, kL, oL, by subst h0; exact (hrel rdI).trans (many_done hR), hlC⟩
  rintro ⟨vi, so, ns⟩ wC ⟨mC, hmC, kC, oC, hrC, hlC⟩
  refine n_then (c_seq (c_seq (c_region (o_move rfl rfl (o_call call_MCount rfl rfl ((MCount_list hmC)) ?_)))))
  rintro v27 w27 ⟨m27, N2, t1, rfl, hN2, hm27, hle2, hrel2⟩
  have m27 := m27
  have hl2 : AtM 549755813888 t1 := fun l1 e => by
    obtain ⟨l, h1, h2⟩ := hle2 l1 e
    exact Nat.le_trans h2 (hlC l h1)
  have k327 := m27.blk kC nX3
  have o27 := oC.mv m27 hX3
  have rC : RpX (fun k => k < w3.heap.size) w27 (dInts ns) [vi] := oC.mv m27 hX3 |>.rpx dIn_size (by omega)
  have lC : ∀ j, vi.ownBlock = some j → w3.heap.size ≤ j ∧ j < w27.heap.size := o27.lt
  have mC27 : Mv (fun k => MrX h g k ∨ k = g3) w3 w27 := mC.trans m27 fun _ hn _ => .inl hn
  refine o_assign rfl rfl (o_nil (n_then (c_block ?_)))
  refine c_loop4 (fun (k : Nat) (v : Value) (so : Option (List UInt8)) (ls : List LayD) => [(0, .pointer (some ⟨h, 0, none⟩)), (2, .pointer (some ⟨g2, 0, none⟩)), (3, .pointer (some ⟨g3, 0, none⟩)), (5, U64 (UInt64.ofNat k))]) (fun (k : Nat) (v : Value) (so : Option (List UInt8)) (ls : List LayD) w' => Mv (fun k => MrX h g k ∨ k = g3) w3 w' ∧ MrR h g so w' ∧ Blk g3 25 [vi, v] w' ∧ OwnD 37 9 w27.heap.size dLay ls v w' ∧ k < 18446744073709551616 ∧ t1.bind (rdMany rdL N2) = so.bind (fun l => (rdMany rdL k l).map fun p => (ls ++ p.1, p.2)) ∧ ls.length ≤ 549755813890 ∧ (∀ l, so = some l → l.length + ls.length ≤ 549755813888) ∧ RpX (fun k => k < w3.heap.size ∨ w27.heap.size ≤ k) w' (dInts ns) [vi] ∧ w27.heap.size ≤ w'.heap.size) (fun (k : Nat) (v : Value) (so : Option (List UInt8)) (ls : List LayD) => k) (N2) (.slice none 0 0) (t1) ([]) ⟨rfl, rfl, rfl, rfl, trivial⟩ ⟨mC27, hm27, k327, OwnD.nil _, hN2, many_start, by simp, (fun l e => by have := hl2 l e; simpa using this), rC.weak fun _ hk => hk, Nat.le_refl _⟩ ?_
  rintro k v so ls wM ⟨mM, hmM, kM, oM, hk, hR, hql, hsl, rM, szM⟩
  refine c_seq (c_seq ?_)
  have hkn : (UInt64.ofNat k).toNat = k := by rw [UInt64.toNat_ofNat']; omega
  have kb := hmM.blk
  rcases Nat.eq_zero_or_pos k with h0 | h0
  rotate_left
  rcases so with _ | l
  · refine c_region (o_move rfl rfl (o_bin (v := U64 0) rfl rfl rfl (dec_t (UInt64.lt_iff_toNat_lt.2 (by rw [hkn]; exact h0)) r_gtr_u64) (o_move rfl rfl (g_yes rfl (o_move rfl rfl ?_)))))
    refine g_yes rfl (o_nilCheck rfl rfl (g_yes rfl (o_fieldAddr rfl rfl (r_fAt (o := 1) Try.underlying55 rfl (by kernel_rfl) rfl) (g_yes rfl (o_load rfl rfl (r_load1 Try.underlying4 rfl (kb.cell (i := 1) rfl)) ?_)))))
    refine o_pick_t rfl rfl rfl (o_nil (n_then (c_no rfl (c_exit (x_then (x_then (x_here (n_then (c_seq ?_)))))))))
    have kF2 := mM.blk (k2.ext x3) (fun hh => hh.elim nX2 h23)
    obtain ⟨Av, nv, cv, rfl⟩ := oM.isS
    obtain ⟨Ai, ni, ci, rfl⟩ := rM.isS
    obtain ⟨wz, sz, qz, kz⟩ := kF2.stS (P := Try.prog) (t := 25) (m := [.slice Ai ni ci, .slice Av nv cv]) rfl (by kernel_rfl) (Ones.cons rfl (Ones.cons rfl Ones.nil))
    have mz : Mv (fun k => k = g2) wM wz := Mv.of_grown qz fun k hk _ => (Option.some.inj hk).symm
    have hz := hmM.mv mz fun j hj => by have := hX g (.inr rfl); have := hX h (.inl rfl); omega
    have mw : Mv (MrX h g) w wz := ((Mv.of_ext ex3).trans mM fun j hj hlt => by
      rcases hj with hj | hj
      · exact hj
      · omega).trans mz fun j hj hlt => by omega
    have rz : RpX (fun k => k < w3.heap.size) wz (dInts ns) [.slice Ai ni ci] := (rM.weak (Y := fun k => k < w3.heap.size) fun _ hk => .inl (.inl hk)).mv (mz.weak fun j hj _ => by show j < w3.heap.size; omega) fun _ hk => .inl hk
    have lz : RpX (fun k => k < w27.heap.size) wz (.sl (ls.map dLay)) [.slice Av nv cv] := (oM.rpx dLay_size (by omega)).mv (mz.weak fun j hj _ => by have := mC27.size; show j < w27.heap.size; omega) fun _ hk => .inl hk
    have dz : RpX (fun k => k < w.heap.size) wz (dMod ⟨ns, ls⟩) [.slice Ai ni ci, .slice Av nv cv] := dMod_rpx (rz.weak fun j hj => .inl (Nat.lt_of_lt_of_le hj ex3.size)) (lz.weak fun j hj => .inl (by have := ex3.size; have := mC27.size; omega))
    refine c_region (o_load rfl rfl (kM.ld Try.underlying25 rfl (by kernel_rfl)) ?_)
    refine o_store rfl rfl sz ?_
    refine o_nil (n_then (c_ret ?_))
    refine r_bodyc rfl rfl kz Try.underlying25 rfl (by kernel_rfl) ?_
    exact ⟨_, rfl, mw, ⟨ns, ls⟩, none, _, _, rfl, dz, hz, rdM_chain hrC ((hrel2 rdL).trans hR)⟩
  · refine c_region (o_move rfl rfl (o_bin (v := U64 0) rfl rfl rfl (dec_t (UInt64.lt_iff_toNat_lt.2 (by rw [hkn]; exact h0)) r_gtr_u64) (o_move rfl rfl (g_yes rfl (o_move rfl rfl ?_)))))
    refine g_yes rfl (o_nilCheck rfl rfl (g_yes rfl (o_fieldAddr rfl rfl (r_fAt (o := 1) Try.underlying55 rfl (by kernel_rfl) rfl) (g_yes rfl (o_load rfl rfl (r_load1 Try.underlying4 rfl (kb.cell (i := 1) rfl)) ?_)))))
    refine o_pick_t rfl rfl rfl (o_nil (n_then (c_yes rfl (c_skip (n_then (c_seq (c_block (c_seq ?_))))))))
    obtain ⟨n1, s1', q1, i1, c1⟩ := MInt_any (some l)
    obtain ⟨n2, s2', q2, i2, c2⟩ := MInt_any s1'
    obtain ⟨n3, s3', q3, i3, c3⟩ := MInt_any s2'
    obtain ⟨n4, s4', q4, i4, c4⟩ := MInt_any s3'
    obtain ⟨n5, s5', q5, i5, c5⟩ := MInt_any s4'
    obtain ⟨n6, s6', q6, i6, c6⟩ := MInt_any s5'
    obtain ⟨n7, s7', q7, i7, c7⟩ := MInt_any s6'
    have at7 : AtM 549755813888 s7' := ((((((((fun l' e => by cases e; have := hsl l rfl; omega : AtM 549755813888 (some l))) |> q1.atM rdI_lt.le) |> q2.atM rdI_lt.le) |> q3.atM rdI_lt.le) |> q4.atM rdI_lt.le) |> q5.atM rdI_lt.le) |> q6.atM rdI_lt.le) |> q7.atM rdI_lt.le
    refine c_region (o_move rfl rfl (o_call call_MInt rfl rfl ((c1 hmM)) ?_))
    rintro v39 w39 ⟨m39, rfl, h39⟩
    have m39 := m39
    refine o_move rfl rfl (o_call call_MInt rfl rfl ((c2 h39)) ?_)
    rintro v41 w41 ⟨m41, rfl, h41⟩
    have m41 := m41
    refine o_move rfl rfl (o_call call_MInt rfl rfl ((c3 h41)) ?_)
    rintro v43 w43 ⟨m43, rfl, h43⟩
    have m43 := m43
    refine o_move rfl rfl (o_call call_MInt rfl rfl ((c4 h43)) ?_)
    rintro v45 w45 ⟨m45, rfl, h45⟩
    have m45 := m45
    refine o_move rfl rfl (o_call call_MInt rfl rfl ((c5 h45)) ?_)
    rintro v47 w47 ⟨m47, rfl, h47⟩
    have m47 := m47
    refine o_move rfl rfl (o_call call_MInt rfl rfl ((c6 h47)) ?_)
    rintro v49 w49 ⟨m49, rfl, h49⟩
    have m49 := m49
    refine o_move rfl rfl (o_call call_MInt rfl rfl ((c7 h49)) ?_)
    rintro v51 w51 ⟨m51, rfl, h51⟩
    have m51 := m51
    refine o_build (vs := [(0, I n1), (1, I n2), (2, I n3), (3, I n4), (4, I n5), (5, I n6), (6, I n7)]) (r := .agg #[I n1, I n2, I n3, I n4, I n5, I n6, I n7, .slice none 0 0, .slice none 0 0]) rfl rfl (by exact run_build _ _ _ _ (by kernel_rfl)) ?_
    obtain ⟨g6, w6, hr6, l6, x6, k6⟩ := r_allocB (P := Try.prog) (w := w51) (t := 37) (z := .agg #[I 0, I 0, I 0, I 0, I 0, I 0, I 0, .slice none 0 0, .slice none 0 0]) (l := [I 0, I 0, I 0, I 0, I 0, I 0, I 0, .slice none 0 0, .slice none 0 0]) (by kernel_rfl) rfl
    refine o_alloc rfl hr6 ?_
    obtain ⟨w9_16, s9_16, q9_16, k9_16⟩ := k6.stS (P := Try.prog) (t := 37) (m := [I n1, I n2, I n3, I n4, I n5, I n6, I n7, .slice none 0 0, .slice none 0 0]) rfl (by kernel_rfl) (Ones.cons rfl (Ones.cons rfl (Ones.cons rfl (Ones.cons rfl (Ones.cons rfl (Ones.cons rfl (Ones.cons rfl (Ones.cons rfl (Ones.cons rfl Ones.nil)))))))))
    refine o_store rfl rfl s9_16 ?_
    have x9_16 := Ext.of_new (x6) q9_16 l6
    refine o_nil (n_then (c_seq ?_))
    have mz1 : Mv (MrX h g) wM w51 := (((((m39.trans m41 fun _ hn _ => hn).trans m43 fun _ hn _ => hn).trans m45 fun _ hn _ => hn).trans m47 fun _ hn _ => hn).trans m49 fun _ hn _ => hn).trans m51 fun _ hn _ => hn
    have hXM : ∀ j, MrX h g j → j < wM.heap.size := fun j hj => Nat.lt_of_lt_of_le (hX3 j hj) mM.size
    have h9 := h51.ext x9_16
    have x9 := x9_16
    have lt6 : wM.heap.size ≤ g6 := Nat.le_trans mz1.size l6
    have nX6 : ¬ MrX h g g6 := fun hh => by have := hXM g6 hh; omega
    refine c_region (o_move rfl rfl (o_call call_MRats2 rfl rfl ((MRats2_spec h9 at7)) ?_))
    rintro v54 w54 ⟨m54, qs1, s8, rq54, h54, q8⟩
    have m54 := m54
    have k54 := m54.blk k9_16 nX6
    obtain ⟨w10, s10, q10, k10⟩ := k54.stC (P := Try.prog) (t := 35) (i := 7) (v := v54) (by kernel_rfl) rq54.one (by simp)
    have mm10 : Mv (fun k => k = g6) w54 w10 := Mv.of_grown q10 fun k hk _ => (Option.some.inj hk).symm
    have h10 := h54.mv mm10 fun j hj => by have := hXM g (.inr rfl); have := hXM h (.inl rfl); omega
    have g6lt := k9_16.lt
    have rq10 := rq54.mv (mm10.weak fun j hj _ => by show j < w9_16.heap.size; omega) fun j hj => .inl hj
    refine o_fieldAddr rfl rfl (r_fAt (o := 7) Try.underlying37 rfl (by kernel_rfl) rfl) ?_
    refine o_store rfl rfl s10 ?_
    refine o_nil (n_then (c_seq (c_region (o_move rfl rfl (o_call call_MRats2 rfl rfl ((MRats2_spec h10 (q8.atM rdQs_le at7))) ?_)))))
    rintro v57 w57 ⟨m57, qs2, s9, rq57, h57, q9⟩
    have m57 := m57
    have k57 := m57.blk k10 nX6
    obtain ⟨w11, s11, q11, k11⟩ := k57.stC (P := Try.prog) (t := 35) (i := 8) (v := v57) (by kernel_rfl) rq57.one (by simp)
    have mm11 : Mv (fun k => k = g6) w57 w11 := Mv.of_grown q11 fun k hk _ => (Option.some.inj hk).symm
    have h11 := h57.mv mm11 fun j hj => by have := hXM g (.inr rfl); have := hXM h (.inl rfl); omega
    have szz : w9_16.heap.size ≤ w10.heap.size := Nat.le_trans m54.size q10.size
    have rq57' := rq57.mv (mm11.weak fun j hj _ => by show j < w10.heap.size; omega) fun j hj => .inl hj
    have m1011 : Mv (fun k => k < w9_16.heap.size) w10 w11 := (m57.weak fun j hj _ => by have := hXM j hj; show j < w9_16.heap.size; omega).trans mm11 fun j hj _ => by show j < w9_16.heap.size; omega
    have rq54' := rq10.mv m1011 fun j hj => .inl hj
    have mAll : Mv (MrX h g) wM w11 := ((((mz1.trans (Mv.of_ext x9) fun _ hn _ => hn).trans m54 fun _ hn _ => hn).trans mm10 fun j hj hlt => by omega).trans m57 fun _ hn _ => hn).trans mm11 fun j hj hlt => by omega
    have hX27 : ∀ j, MrX h g j → j < w27.heap.size := fun j hj => Nat.lt_of_lt_of_le (hX3 j hj) mC27.size
    have lt927 : w27.heap.size ≤ w9_16.heap.size := by have := mz1.size; have := x9.size; omega
    have oQ := oM.mv mAll hX27
    have kQ := mAll.blk kM nX3
    have hY54 : ∀ j, (j < w27.heap.size ∨ v.ownBlock = some j) → j < w9_16.heap.size := fun j hj => by
      rcases hj with hj | hj
      · omega
      · have := (oM.lt j hj).2; have := mz1.size; have := x9.size; omega
    have hLay := dLay_rpx (l := ⟨n1, n2, n3, n4, n5, n6, n7, qs1, qs2⟩) (rq54'.weak fun j hj => .inl (hY54 j hj)) (rq57'.weak fun j hj => .inl (Nat.lt_of_lt_of_le (hY54 j hj) szz))
    obtain ⟨x62, w62, v63, w63, hr62, hr63, o63, m63, n63⟩ := oQ.push (ty := 23) (t := 23) Try.underlying23 info_lay rfl (by omega) (by omega) (by omega) (Ones.cons rfl (Ones.cons rfl (Ones.cons rfl (Ones.cons rfl (Ones.cons rfl (Ones.cons rfl (Ones.cons rfl (Ones.cons rq54.one (Ones.cons rq57.one Ones.nil))))))))) hLay dLay_size (by have := hsl l rfl; omega) (Nat.le_trans szM mAll.size)
    have own63 : ∀ j, v.ownBlock = some j → w27.heap.size ≤ j := fun j hj => (oM.lt j hj).1
    have g327 : g3 < w27.heap.size := Nat.lt_of_lt_of_le hg3 mC27.size
    have k63 := m63.blk kQ fun hh => by have := own63 g3 hh; omega
    have h63 := h11.mv m63 fun j hj => by have := own63 j hj; have := hX27 g (.inr rfl); have := hX27 h (.inl rfl); omega
    obtain ⟨A63, n63', c63, rfl⟩ := o63.isS
    obtain ⟨w12, s12, q12, k12⟩ := k63.stC (P := Try.prog) (t := 23) (i := 1) (v := .slice A63 n63' c63) (by kernel_rfl) rfl (by simp)
    have m12 : Mv (fun k => k = g3) w63 w12 := Mv.of_grown q12 fun k hk _ => (Option.some.inj hk).symm
    have h12 := h63.mv m12 fun j hj => by have := hX g (.inr rfl); have := hX h (.inl rfl); omega
    have o12 := o63.mv m12 fun j hj => by omega
    have mT : Mv (fun k => MrX h g k ∨ k = g3) w3 w12 := ((mM.trans mAll fun _ hn _ => .inl hn).trans m63 fun j hj hlt => by have := own63 j hj; have := mC27.size; omega).trans m12 fun _ hj _ => .inr hj
    have mI : Mv (fun k => k < w3.heap.size ∨ w27.heap.size ≤ k) wM w12 := ((mAll.weak fun j hj _ => .inl (hX3 j hj)).trans m63 fun j hj _ => .inr (own63 j hj)).trans m12 fun j hj _ => .inl (by omega)
    have rI := rM.mv mI fun _ hk => .inl hk
    refine o_fieldAddr rfl rfl (r_fAt (o := 8) Try.underlying37 rfl (by kernel_rfl) rfl) ?_
    refine o_store rfl rfl s11 ?_
    refine o_nil (n_then (c_region (o_fieldAddr rfl rfl (r_fAt (o := 1) Try.underlying25 rfl (by kernel_rfl) rfl) (o_load rfl rfl (r_load1 Try.underlying23 rfl (kQ.cell (i := 1) rfl)) ?_))))
    refine o_load rfl rfl (k11.ld Try.underlying37 rfl (by kernel_rfl)) ?_
    refine o_buildSlice (vs := [(0, .agg #[I n1, I n2, I n3, I n4, I n5, I n6, I n7, v54, v57])]) rfl rfl hr62 ?_
    refine o_append rfl rfl hr63 ?_
    refine o_fieldAddr rfl rfl (r_fAt (o := 1) Try.underlying25 rfl (by kernel_rfl) rfl) ?_
    refine o_store rfl rfl s12 ?_
    refine o_nil (n_block (n_then (c_region ?_)))
    obtain ⟨k', rfl⟩ : ∃ k', k = k' + 1 := ⟨k - 1, by omega⟩
    have ek : UInt64.ofNat (k' + 1) - 1 = UInt64.ofNat k' := by
      refine UInt64.toNat_inj.1 ?_
      rw [UInt64.toNat_sub_of_le _ _ (UInt64.le_iff_toNat_le.2 (by rw [hkn]; show 1 ≤ _; omega)), hkn, UInt64.toNat_ofNat', show (1 : UInt64).toNat = 1 from rfl]
      omega
    refine o_move rfl rfl (o_bin (v := U64 1) (r := U64 (UInt64.ofNat k')) rfl rfl rfl ((by rw [← ek]; exact r_sub_u64)) (o_assign rfl rfl (o_nil ?_)))
    refine n_round4 (k') (.slice A63 n63' c63) (s9) (ls ++ [⟨n1, n2, n3, n4, n5, n6, n7, qs1, qs2⟩]) ⟨rfl, rfl, rfl, rfl, trivial⟩ ⟨mT, h12, k12, o12, by omega, many_step hR (rdL_chain q1 q2 q3 q4 q5 q6 q7 q8 q9), by have := hsl l rfl; simp; omega, (fun l' e => by
      subst e
      have := hsl l rfl
      have := rdL_lt _ _ _ (show rdL l = some (_, l') from rdL_chain (st := some l) q1 q2 q3 q4 q5 q6 q7 q8 q9)
      simp
      omega), rI, Nat.le_trans szM mI.size⟩ (by omega)
  · refine c_region (o_move rfl rfl (o_bin (v := U64 0) rfl rfl rfl (dec_f (fun hh => by have := UInt64.lt_iff_toNat_lt.1 hh; rw [hkn, h0] at this; exact absurd this (by decide)) r_gtr_u64) ?_))
    refine o_move rfl rfl (g_no rfl rfl rfl (g_no rfl rfl rfl (g_no rfl rfl rfl (g_no rfl rfl rfl (o_pick_f rfl rfl rfl (o_nil (n_then (c_no rfl (c_exit (x_then (x_then (x_here (n_then (c_seq ?_))))))))))))))
    have kF2 := mM.blk (k2.ext x3) (fun hh => hh.elim nX2 h23)
    obtain ⟨Av, nv, cv, rfl⟩ := oM.isS
    obtain ⟨Ai, ni, ci, rfl⟩ := rM.isS
    obtain ⟨wz, sz, qz, kz⟩ := kF2.stS (P := Try.prog) (t := 25) (m := [.slice Ai ni ci, .slice Av nv cv]) rfl (by kernel_rfl) (Ones.cons rfl (Ones.cons rfl Ones.nil))
    have mz : Mv (fun k => k = g2) wM wz := Mv.of_grown qz fun k hk _ => (Option.some.inj hk).symm
    have hz := hmM.mv mz fun j hj => by have := hX g (.inr rfl); have := hX h (.inl rfl); omega
    have mw : Mv (MrX h g) w wz := ((Mv.of_ext ex3).trans mM fun j hj hlt => by
      rcases hj with hj | hj
      · exact hj
      · omega).trans mz fun j hj hlt => by omega
    have rz : RpX (fun k => k < w3.heap.size) wz (dInts ns) [.slice Ai ni ci] := (rM.weak (Y := fun k => k < w3.heap.size) fun _ hk => .inl (.inl hk)).mv (mz.weak fun j hj _ => by show j < w3.heap.size; omega) fun _ hk => .inl hk
    have lz : RpX (fun k => k < w27.heap.size) wz (.sl (ls.map dLay)) [.slice Av nv cv] := (oM.rpx dLay_size (by omega)).mv (mz.weak fun j hj _ => by have := mC27.size; show j < w27.heap.size; omega) fun _ hk => .inl hk
    have dz : RpX (fun k => k < w.heap.size) wz (dMod ⟨ns, ls⟩) [.slice Ai ni ci, .slice Av nv cv] := dMod_rpx (rz.weak fun j hj => .inl (Nat.lt_of_lt_of_le hj ex3.size)) (lz.weak fun j hj => .inl (by have := ex3.size; have := mC27.size; omega))
    refine c_region (o_load rfl rfl (kM.ld Try.underlying25 rfl (by kernel_rfl)) ?_)
    refine o_store rfl rfl sz ?_
    refine o_nil (n_then (c_ret ?_))
    refine r_bodyc rfl rfl kz Try.underlying25 rfl (by kernel_rfl) ?_
    exact ⟨_, rfl, mw, ⟨ns, ls⟩, so, _, _, rfl, dz, hz, rdM_chain hrC (by subst h0; exact (hrel2 rdL).trans (many_done hR))⟩
end Go.Rl
/- Plain: what Decode of models returns; a valid model's file decodes to it. Conditions: the model's rows are not too long. -/
namespace Go.Rl
open Go.RowKit
def e0M : ModD := ⟨[], []⟩
/-- What Decode returns: a model and a number. -/
def decM (l : List UInt8) : ModD × Int :=
  if 1048576 < l.length then (e0M, 8) else if l.length < 36 ∨ l.take 4 ≠ rlum then (e0M, 5) else if dig (l.take (l.length - 32)) ≠ l.drop (l.length - 32) then (e0M, 6) else
    match rdM ((l.take (l.length - 32)).drop 4) with
    | some (m, []) => if validM m = true then (m, 0) else (e0M, 1)
    | _ => (e0M, 5)
section
variable {l : List UInt8}
theorem decM_long (h : 1048576 < l.length) : decM l = (e0M, 8) := by unfold decM; rw [if_pos h]
theorem decM_form (h : ¬ 1048576 < l.length) (h2 : l.length < 36 ∨ l.take 4 ≠ rlum) : decM l = (e0M, 5) := by unfold decM; rw [if_neg h, if_pos h2]
theorem decM_sum (h : ¬ 1048576 < l.length) (h2 : ¬ (l.length < 36 ∨ l.take 4 ≠ rlum)) (h3 : dig (l.take (l.length - 32)) ≠ l.drop (l.length - 32)) : decM l = (e0M, 6) := by unfold decM; rw [if_neg h, if_neg h2, if_pos h3]
theorem decM_body (h : ¬ 1048576 < l.length) (h2 : ¬ (l.length < 36 ∨ l.take 4 ≠ rlum)) (h3 : ¬ dig (l.take (l.length - 32)) ≠ l.drop (l.length - 32)) : decM l = match rdM ((l.take (l.length - 32)).drop 4) with
    | some (m, []) => if validM m = true then (m, 0) else (e0M, 1)
    | _ => (e0M, 5) := by unfold decM; rw [if_neg h, if_neg h2, if_neg h3]
end
theorem rdMany_mem {α : Type} {f : List UInt8 → Option (α × List UInt8)} (hf : Le f) : ∀ (n : Nat) (l : List UInt8) (xs : List α) (t : List UInt8), rdMany f n l = some (xs, t) → ∀ a ∈ xs, ∃ l' t', f l' = some (a, t') ∧ l'.length ≤ l.length
  | 0, l, xs, t, h, a, ha => by simp only [rdMany, Option.some.injEq, Prod.mk.injEq] at h; rw [← h.1] at ha; simp at ha
  | n + 1, l, xs, t, h, a, ha => by
    simp only [rdMany] at h
    obtain ⟨p, h1, h2⟩ := Option.bind_eq_some_iff.1 h
    obtain ⟨q, h3, h4⟩ := Option.map_eq_some_iff.1 h2
    simp only [Prod.mk.injEq] at h4
    rw [← h4.1] at ha
    rcases List.mem_cons.1 ha with rfl | ha
    · exact ⟨l, _, h1, Nat.le_refl _⟩
    · obtain ⟨l', t', h5, h6⟩ := rdMany_mem hf n p.2 q.1 q.2 h3 a ha
      exact ⟨l', t', h5, Nat.le_trans h6 (hf l p.1 p.2 h1)⟩
theorem rdList_mem {α : Type} {f : List UInt8 → Option (α × List UInt8)} (hf : Le f) {l : List UInt8} {xs : List α} {t : List UInt8} (h : rdList f l = some (xs, t)) : ∀ a ∈ xs, ∃ l' t', f l' = some (a, t') ∧ l'.length ≤ l.length := by
  unfold rdList at h
  obtain ⟨p, h1, h2⟩ := Option.bind_eq_some_iff.1 h
  intro a ha
  obtain ⟨l', t', h3, h4⟩ := rdMany_mem hf p.1 p.2 xs t h2 a ha
  exact ⟨l', t', h3, Nat.le_trans h4 (rdU_lt.le _ _ _ h1)⟩
theorem rdQs_small {l t : List UInt8} {qs : List RatD} (h : rdQs l = some (qs, t)) (hl : l.length ≤ 1073741824) : small qs := fun q hq => by
  obtain ⟨l', t', h1, h2⟩ := rdList_mem rdR_lt.le h q hq
  obtain ⟨b, n, m⟩ := q
  have := (rdR_inv h1).2.2
  exact ⟨by show n.length ≤ _; omega, by show m.length ≤ _; omega⟩
theorem rdI_64 {l t : List UInt8} {n : Int} (h : rdI l = some (n, t)) : i64 n := rdI_i64 (st := some l) (t := t) h
theorem rdL_small {l t : List UInt8} {a : LayD} (h : rdL l = some (a, t)) (hl : l.length ≤ 1073741824) : (small a.ws ∧ small a.bs) ∧ a.wf := by
  unfold rdL at h
  obtain ⟨p1, h1, h⟩ := Option.bind_eq_some_iff.1 h
  obtain ⟨p2, h2, h⟩ := Option.bind_eq_some_iff.1 h
  obtain ⟨p3, h3, h⟩ := Option.bind_eq_some_iff.1 h
  obtain ⟨p4, h4, h⟩ := Option.bind_eq_some_iff.1 h
  obtain ⟨p5, h5, h⟩ := Option.bind_eq_some_iff.1 h
  obtain ⟨p6, h6, h⟩ := Option.bind_eq_some_iff.1 h
  obtain ⟨p7, h7, h⟩ := Option.bind_eq_some_iff.1 h
  obtain ⟨p8, h8, h⟩ := Option.bind_eq_some_iff.1 h
  obtain ⟨p9, h9, h⟩ := Option.bind_eq_some_iff.1 h
  have a1 := rdI_lt _ p1.1 p1.2 h1
  have a2 := rdI_lt _ p2.1 p2.2 h2
  have a3 := rdI_lt _ p3.1 p3.2 h3
  have a4 := rdI_lt _ p4.1 p4.2 h4
  have a5 := rdI_lt _ p5.1 p5.2 h5
  have a6 := rdI_lt _ p6.1 p6.2 h6
  have a7 := rdI_lt _ p7.1 p7.2 h7
  have a8 := rdQs_le _ p8.1 p8.2 h8
  simp only [Option.some.injEq, Prod.mk.injEq] at h
  obtain ⟨rfl, _⟩ := h
  refine ⟨⟨rdQs_small h8 (by omega), rdQs_small h9 (by omega)⟩, ?_⟩
  simp only [LayD.wf, LayD.ints, List.mem_cons, List.not_mem_nil, or_false, forall_eq_or_imp, forall_eq]
  exact ⟨rdI_64 h1, rdI_64 h2, rdI_64 h3, rdI_64 h4, rdI_64 h5, rdI_64 h6, rdI_64 h7⟩
theorem rdM_small {l t : List UInt8} {m : ModD} (h : rdM l = some (m, t)) (hl : l.length ≤ 1073741824) : smallM m ∧ m.wf := by
  unfold rdM at h
  obtain ⟨p1, h1, h⟩ := Option.bind_eq_some_iff.1 h
  obtain ⟨p2, h2, h⟩ := Option.bind_eq_some_iff.1 h
  simp only [Option.some.injEq, Prod.mk.injEq] at h
  obtain ⟨rfl, _⟩ := h
  have a1 := rdList_le rdI_lt.le _ p1.1 p1.2 h1
  refine ⟨fun a ha => ?_, fun n hn => ?_, fun a ha => ?_⟩
  · obtain ⟨l', t', h3, h4⟩ := rdList_mem rdL_lt.le h2 a ha
    exact (rdL_small h3 (by omega)).1
  · obtain ⟨l', t', h3, h4⟩ := rdList_mem rdI_lt.le h1 n hn
    exact rdI_64 h3
  · obtain ⟨l', t', h3, h4⟩ := rdList_mem rdL_lt.le h2 a ha
    exact (rdL_small h3 (by omega)).2
/-! ### The file of a valid model -/
theorem laysOk_mem : ∀ {ls : List LayD} {i : Nat}, laysOk i ls = true → ∀ l ∈ ls, canQ l.ws = true ∧ canQ l.bs = true
  | [], _, _, l, hl => by simp at hl
  | a :: ls, i, h, l, hl => by
    simp only [laysOk, Bool.and_eq_true] at h
    rcases List.mem_cons.1 hl with rfl | hl
    · have h1 := h.1
      simp only [layOk, Bool.and_eq_true] at h1
      exact h1.1
    · exact laysOk_mem h.2 l hl
theorem ok_of_valid {m : ModD} (hv : validM m = true) (hs : smallM m) (hw : m.wf) (hl : lenM m ≤ 17592186044416) : m.ok := by
  have hv' := hv
  simp only [validM, Bool.and_eq_true, decide_eq_true_eq] at hv'
  have hq : ∀ {qs : List RatD}, canQ qs = true → small qs → ∀ q ∈ qs, okQ q := fun {qs} hc hs q hq => by
    refine ⟨List.all_eq_true.1 hc q hq, ?_, ?_⟩
    · have := (hs q hq).1; omega
    · have := (hs q hq).2; omega
  have hlq : ∀ l ∈ m.lays, lenQs l.ws ≤ lenLs m.lays ∧ lenQs l.bs ≤ lenLs m.lays := by
    have : ∀ ls : List LayD, ∀ l ∈ ls, lenQs l.ws ≤ lenLs ls ∧ lenQs l.bs ≤ lenLs ls := by
      intro ls
      induction ls with
      | nil => intro l hl; simp at hl
      | cons a ls ih =>
        intro l hl
        simp only [lenLs]
        rcases List.mem_cons.1 hl with rfl | hl
        · exact ⟨by omega, by omega⟩
        · have := ih l hl
          exact ⟨by omega, by omega⟩
    exact this m.lays
  have hlen : ∀ qs : List RatD, qs.length ≤ lenQs qs := by
    intro qs
    induction qs with
    | nil => simp
    | cons q qs ih => simp only [List.length_cons, lenQs]; omega
  unfold lenM at hl
  refine ⟨by omega, by omega, hw.1, fun l hl => ?_⟩
  have h1 := laysOk_mem hv'.2 l hl
  have h2 := hlq l hl
  have h3 := hlen l.ws
  have h4 := hlen l.bs
  exact ⟨hw.2 l hl, by omega, by omega, hq h1.1 (hs l hl).1, hq h1.2 (hs l hl).2⟩
theorem decM_file {m : ModD} (hv : validM m = true) (hs : smallM m) (hw : m.wf) (hl : lenM m ≤ 17592186044416) (hf : (fileM m).length ≤ 1048576) : decM (fileM m) = (m, 0) := by
  have hd := dig_len (rlum ++ encM m)
  have hlen : (fileM m).length = (rlum ++ encM m).length + 32 := by unfold fileM; rw [List.length_append, hd]
  have e : (fileM m).length - 32 = (rlum ++ encM m).length := by omega
  have h4 : (rlum ++ encM m).length = 4 + (encM m).length := by rw [List.length_append]; rfl
  have ht : (fileM m).take ((fileM m).length - 32) = rlum ++ encM m := by rw [e]; unfold fileM; rw [List.take_left']; rfl
  have hdr : (fileM m).drop ((fileM m).length - 32) = dig (rlum ++ encM m) := by rw [e]; unfold fileM; rw [List.drop_left']; rfl
  have h5 : (fileM m).take 4 = rlum := by
    unfold fileM
    rw [List.append_assoc]
    exact List.take_left' (l₁ := rlum) rfl
  rw [decM_body (by omega) (fun h => h.elim (fun h => by omega) fun h => h h5) (by rw [ht, hdr]; exact fun h => h rfl), ht]
  have h6 : (rlum ++ encM m).drop 4 = encM m := List.drop_left' (l₁ := rlum) rfl
  rw [h6]
  have := rdM_enc (ok_of_valid hv hs hw hl) []
  rw [List.append_nil] at this
  rw [this]
  show (if validM m = true then (m, (0 : Int)) else (e0M, 1)) = _
  rw [if_pos hv]
end Go.Rl
/- Slices as arrays of 32 bytes. Conditions: each rule names its own. -/
namespace Go.Rl
open Go.RowKit Go.Proofs
section
variable {P : Program} {ops : Array Oper} {Env : World → Prop} {Rl : World → World → Prop} {mo : Bool} {Pn : List PanicEntry → World → Prop} {Z : Zst} {N : Nat} {F : Facts} {K : Facts → Zst → Prop} {rest : List Oper} {d : Nat} {ty : TypeId} {pos : String} {aft : Array Edge}
theorem f_toArray {t : TypeId} {x : Operand} {u r : Value} (hx : look F x = Is u) (hd : Nat.blt d N = true) (hrun : ∀ w, Env w → (Instr.arrayAt t u).run P w = .ok r w)
    (k : wpF P ops Env Rl mo Pn N rest (upd F (some d) (Is r)) Z K) : wpF P ops Env Rl mo Pn N (⟨some d, .sliceToArrayPointer t x, ty, pos, aft, none⟩ :: rest) F Z K :=
  f_pure (xs := [x]) (vs := [u]) (f := fun | [a] => Instr.arrayAt t a | _ => stuck "") (fun _ => rfl) (by simp [Op.operands]) (by simp [hx]) hd hrun k
end
/-- A slice of 32 bytes as an array. -/
theorem r_toA {w : World} {l : List UInt8} {v : Value} (h : Bts l v w) (hl : l.length = 32) : ∃ ad, (∀ w' : World, (Instr.arrayAt 49 v).run Try.prog w' = .ok (.pointer (some ad)) w') ∧ Cells w ad (l.map U8) := by
  obtain ⟨A, n, c, rfl, h1, h2, h3, h4, h5⟩ := h
  have hn : n = 32 := by simp at h3; omega
  subst hn
  obtain ⟨ad, rfl, hc⟩ := h4 (by omega)
  exact ⟨ad, fun w' => by simp [Instr.arrayAt, run_underlying Try.underlying49], hc⟩
theorem r_ldA32 {w : World} {l : List UInt8} {ad : Addr} (h : Cells w ad (l.map U8)) (hl : l.length = 32) : (Instr.loadAt 49 (.pointer (some ad))).run Try.prog w = .ok (.agg (l.map U8).toArray) w :=
  h.ld Try.underlying49 rfl (by rw [List.length_map, hl]; exact size32)
end Go.Rl
/- model.Decode walked. No condition. -/
namespace Go.Rl
open Go.RowKit Go.Proofs
theorem call_ADecode : Callable Try.prog 9 := ⟨_, Try.func9, by kernel_rfl, rfl⟩
theorem Done_s {w : World} {g : Nat} {st : Option (List UInt8)} (hr : RdAt g st w) : Calls Try.prog 22 #[.pointer (some ⟨g, 0, none⟩)] w (Ret fun r w' => w = w' ∧ r = I (if st = some [] then 0 else 5)) := (Done_spec hr).mono fun _ _ ⟨v, h, h1, h2⟩ => ⟨v, h, h2.symm, h1⟩
def DecR (base : Nat) (l : List UInt8) (r : Value) (w : World) : Prop := ∃ x y, r = .tuple #[.agg #[x, y], I (decM l).2] ∧ RpX (fun k => k < base) w (dMod (decM l).1) [x, y]
theorem DecR.err {base : Nat} {l : List UInt8} {w : World} {n : Int} (h : decM l = (e0M, n)) : DecR base l (.tuple #[.agg #[.slice none 0 0, .slice none 0 0], I n]) w := ⟨_, _, by rw [h], by rw [h]; exact dMod_rpx RpX.nilSl RpX.nilSl⟩
theorem ADecode_spec {w : World} {l : List UInt8} {v : Value} (hv : Bts l v w) :
    Calls Try.prog 9 #[v] w (Ret fun r w' => Ext w w' ∧ DecR w.heap.size l r w') := by
  refine enter (vs := [v]) Try.func9 rfl rfl rfl ?_
  have hll := hv.len
  refine c_seq (c_region ?_)
  obtain ⟨g2, w2, hr2, l2, x2, k2⟩ := r_allocB (P := Try.prog) (w := w) (t := 25) (z := .agg #[.slice none 0 0, .slice none 0 0]) (l := [.slice none 0 0, .slice none 0 0]) (by kernel_rfl) rfl
  refine o_alloc rfl hr2 (o_assign rfl rfl (o_nil (n_then (c_seq (c_seq (c_region (o_move rfl rfl (o_len rfl rfl (r_lenB (hv.ext x2)) (o_bin rfl rfl rfl (r_gtr_i) (o_nil (n_then ?_)))))))))))
  refine c_if rfl (fun h9 => ?_) (fun h9 => ?_)
  · have h1 : 1048576 < l.length := by omega
    refine c_seq (c_region (o_build (vs := []) (r := .agg #[.slice none 0 0, .slice none 0 0]) rfl rfl (by exact run_build _ _ _ _ (by kernel_rfl)) ?_))
    obtain ⟨w2_1, s2_1, q2_1, k2_1⟩ := k2.stS (P := Try.prog) (t := 25) (m := [.slice none 0 0, .slice none 0 0]) rfl (by kernel_rfl) (Ones.cons rfl (Ones.cons rfl Ones.nil))
    refine o_store rfl rfl s2_1 ?_
    have x2_1 := Ext.of_new (x2) q2_1 l2
    refine o_assign rfl rfl (o_nil (n_then (c_ret (r_then ?_))))
    refine r_bodyc2 rfl rfl rfl k2_1 Try.underlying25 rfl (by kernel_rfl) ?_
    exact ⟨_, rfl, x2_1, DecR.err (decM_long h1)⟩
  · have h1 : ¬ 1048576 < l.length := by omega
    refine c_skip (n_then (c_seq (c_seq ?_)))
    rcases Nat.lt_or_ge l.length 36 with h36 | h36
    · refine c_region (o_move rfl rfl (o_len rfl rfl (r_lenB (hv.ext x2)) (o_bin rfl rfl rfl (dec_t (by omega) r_lss_i) (o_move rfl rfl (g_no rfl rfl rfl (g_no rfl rfl rfl (g_no rfl rfl rfl ?_)))))))
      refine g_no rfl rfl rfl (o_pick_t rfl rfl rfl (o_nil (n_then (c_yes rfl (c_seq (c_region (o_build (vs := []) (r := .agg #[.slice none 0 0, .slice none 0 0]) rfl rfl (by exact run_build _ _ _ _ (by kernel_rfl)) ?_)))))))
      obtain ⟨w4_1, s4_1, q4_1, k4_1⟩ := k2.stS (P := Try.prog) (t := 25) (m := [.slice none 0 0, .slice none 0 0]) rfl (by kernel_rfl) (Ones.cons rfl (Ones.cons rfl Ones.nil))
      refine o_store rfl rfl s4_1 ?_
      have x4_1 := Ext.of_new (x2) q4_1 l2
      refine o_assign rfl rfl (o_nil (n_then (c_ret (r_then ?_))))
      refine r_bodyc2 rfl rfl rfl k4_1 Try.underlying25 rfl (by kernel_rfl) ?_
      exact ⟨_, rfl, x4_1, DecR.err (decM_form h1 (by first | exact .inl h36 | exact .inr h2))⟩
    · refine c_region (o_move rfl rfl (o_len rfl rfl (r_lenB (hv.ext x2)) (o_bin rfl rfl rfl (dec_f (by omega) r_lss_i) (o_move rfl rfl (g_yes rfl (o_move rfl rfl (g_yes rfl ?_)))))))
      obtain ⟨v16, p16, b16⟩ := r_slB_hi (hv.ext x2) (hi := 4) (by omega) .i64
      refine o_slice rfl rfl rfl rfl rfl (p16 _) (g_yes rfl (o_conv rfl rfl (r_str b16) (g_yes rfl (o_bin (v := S [82, 76, 85, 77]) rfl rfl rfl (r_neq_s) (o_pick_f rfl rfl rfl ?_)))))
      refine o_nil (n_then ?_)
      refine c_if rfl (fun h19 => ?_) (fun h19 => ?_)
      · have h2 : l.take 4 ≠ rlum := h19
        refine c_seq (c_region (o_build (vs := []) (r := .agg #[.slice none 0 0, .slice none 0 0]) rfl rfl (by exact run_build _ _ _ _ (by kernel_rfl)) ?_))
        obtain ⟨w4_1, s4_1, q4_1, k4_1⟩ := k2.stS (P := Try.prog) (t := 25) (m := [.slice none 0 0, .slice none 0 0]) rfl (by kernel_rfl) (Ones.cons rfl (Ones.cons rfl Ones.nil))
        refine o_store rfl rfl s4_1 ?_
        have x4_1 := Ext.of_new (x2) q4_1 l2
        refine o_assign rfl rfl (o_nil (n_then (c_ret (r_then ?_))))
        refine r_bodyc2 rfl rfl rfl k4_1 Try.underlying25 rfl (by kernel_rfl) ?_
        exact ⟨_, rfl, x4_1, DecR.err (decM_form h1 (by first | exact .inl h36 | exact .inr h2))⟩
      · have h2 : ¬ (l.length < 36 ∨ l.take 4 ≠ rlum) := fun hh => hh.elim (fun hh => by omega) h19
        refine c_skip (n_then (c_seq (c_region (o_move rfl rfl (o_len rfl rfl (r_lenB (hv.ext x2)) (o_bin (r := I ((l.length - 32 : Nat) : Int)) rfl rfl rfl (by have e : ((l.length - 32 : Nat) : Int) = (l.length : Int) - 32 := (by omega); rw [e]; exact r_sub_i (by omega) (by omega)) ?_))))))
        refine o_assign rfl rfl (o_nil (n_then (c_seq (c_seq (c_grow 9 [0, 2, 4, 27, 32] (by kernel_rfl) (by kernel_rfl) ?_)))))
        have hvg := hv.ext x2
        obtain ⟨v26, p26, b26⟩ := r_slB_hi hvg (hi := l.length - 32) (by omega) .i64
        obtain ⟨v30, p30, b30⟩ := r_slB_lo hvg (lo := l.length - 32) (by omega) .i64
        have l30 : (l.drop (l.length - 32)).length = 32 := by rw [List.length_drop]; omega
        obtain ⟨ad, p31, c31⟩ := r_toA b30 l30
        refine f_move rfl rfl (f_move rfl rfl (f_slice (a := none) (b := some (I ((l.length - 32 : Nat) : Int))) rfl rfl rfl rfl (fun w _ => p26 w) (f_call (S := Is (.agg ((dig (l.take (l.length - 32))).map U8).toArray)) call_dSum (Stable.is _) rfl (fun w hw => by rintro _ rfl; exact (dSum_spec (b26.ext hw))) ?_)))
        refine f_move rfl rfl (f_move rfl rfl (f_slice (a := some (I ((l.length - 32 : Nat) : Int))) (b := none) rfl rfl rfl rfl (fun w _ => p30 w) (f_toArray rfl rfl (fun w _ => p31 w) ?_)))
        refine f_load rfl rfl (fun w hw => r_ldA32 (c31.ext hw) l30) (f_nil ?_)
        intro wg6 xg6
        rintro _ hq0
        obtain rfl := Eq.symm hq0
        rintro _ rfl
        rintro _ rfl
        rintro _ rfl
        rintro _ rfl
        refine o_bin rfl rfl rfl ((by exact r_neA (dig_len _) l30)) (o_nil (n_then ?_))
        refine c_if rfl (fun h33 => ?_) (fun h33 => ?_)
        · have h3 : dig (l.take (l.length - 32)) ≠ l.drop (l.length - 32) := h33
          refine c_seq (c_region (o_build (vs := []) (r := .agg #[.slice none 0 0, .slice none 0 0]) rfl rfl (by exact run_build _ _ _ _ (by kernel_rfl)) ?_))
          obtain ⟨w7_1, s7_1, q7_1, k7_1⟩ := (k2.ext xg6).stS (P := Try.prog) (t := 25) (m := [.slice none 0 0, .slice none 0 0]) rfl (by kernel_rfl) (Ones.cons rfl (Ones.cons rfl Ones.nil))
          refine o_store rfl rfl s7_1 ?_
          have x7_1 := Ext.of_new ((x2.trans xg6)) q7_1 l2
          refine o_assign rfl rfl (o_nil (n_then (c_ret (r_then ?_))))
          refine r_bodyc2 rfl rfl rfl k7_1 Try.underlying25 rfl (by kernel_rfl) ?_
          exact ⟨_, rfl, x7_1, DecR.err (decM_sum h1 h2 h3)⟩
        · have h3 : ¬ dig (l.take (l.length - 32)) ≠ l.drop (l.length - 32) := h33
          obtain ⟨bd, hbd⟩ : ∃ bd, bd = (l.take (l.length - 32)).drop 4 := ⟨_, rfl⟩
          have hbl : bd.length ≤ 1048576 := by rw [hbd, List.length_drop, List.length_take]; omega
          have hdec := decM_body h1 h2 h3
          rw [← hbd] at hdec
          refine c_skip (n_then (c_seq (c_region (o_move rfl rfl (o_move rfl rfl ?_)))))
          obtain ⟨v37, p37, b37⟩ := r_slB (hv.ext (x2.trans xg6)) (lo := 4) (hi := l.length - 32) (by omega) (by omega) .i64 .i64
          refine o_slice rfl rfl rfl rfl rfl (p37 _) ?_
          rw [← hbd] at b37
          refine o_call call_New rfl rfl ((New_spec b37 (by omega))) ?_
          rintro v38 w38 ⟨x38, g, hg, rfl, rd⟩
          obtain ⟨h, w40, hr40, l40, x40, k40⟩ := r_boxS (P := Try.prog) (w := w38) (T := 55) (cs := [.pointer (some ⟨g, 0, none⟩), B true])
          have hmr : MrR h g (some bd) w40 := ⟨k40, rd.ext x40, by have := rd.lt; omega⟩
          refine o_build (vs := [(0, .pointer (some ⟨g, 0, none⟩)), (1, B true)]) (r := .agg #[.pointer (some ⟨g, 0, none⟩), B true]) rfl rfl (run_build _ _ _ _ (by kernel_rfl)) ?_
          refine o_box rfl rfl hr40 ?_
          refine o_assign rfl rfl (o_nil (n_then (c_seq (c_region (o_move rfl rfl ?_)))))
          have e2 : Ext w2 w40 := ((xg6.trans x38).trans x40)
          have sz2 : w2.heap.size ≤ w38.heap.size := Nat.le_trans (by have := xg6.size; omega) x38.size
          have hgg : ∀ k, MrX h g k → w2.heap.size ≤ k := fun k hk => by
            rcases hk with rfl | rfl
            · omega
            · have := xg6.size; omega
          refine o_call call_MBody rfl rfl ((MBody_spec hmr (fun l' e => by cases e; omega))) ?_
          rintro v42 w42 ⟨m42, m, s1, x, y, rfl, rq, hm42, hq⟩
          have x42 := m42.ext_from e2 hgg
          obtain ⟨xi, yl, hxy, dI, dL⟩ := dMod_inv rq.rp
          obtain ⟨rfl, rfl⟩ : x = xi ∧ y = yl := by simpa using hxy
          obtain ⟨A1, n1, c1, rfl⟩ := dI.isS
          obtain ⟨A2, n2, c2, rfl⟩ := dL.isS
          have kh := hm42.blk
          obtain ⟨g6, w6, hr6, l6, x6, k6⟩ := r_allocB (P := Try.prog) (w := w42) (t := 25) (z := .agg #[.slice none 0 0, .slice none 0 0]) (l := [.slice none 0 0, .slice none 0 0]) (by kernel_rfl) rfl
          refine o_alloc rfl hr6 ?_
          obtain ⟨w9_3, s9_3, q9_3, k9_3⟩ := k6.stS (P := Try.prog) (t := 25) (m := [.slice A1 n1 c1, .slice A2 n2 c2]) rfl (by kernel_rfl) (Ones.cons rfl (Ones.cons rfl Ones.nil))
          refine o_store rfl rfl s9_3 ?_
          have x9_3 := Ext.of_new (x6) q9_3 l6
          refine o_nil (n_then (c_seq (c_seq ?_)))
          have rd6 := hm42.rd.ext x9_3
          rcases s1 with _ | (_ | ⟨c, t⟩)
          · have hD : decM l = (e0M, 5) := by rw [hdec]; cases hx : rdM bd with
              | none => rfl
              | some p => obtain ⟨p1, p2⟩ := p; have hq : rdM bd = none := hq; rw [hx] at hq; cases hq
            have kh := kh.ext x9_3
            refine c_region (o_move rfl rfl (o_nilCheck rfl rfl (o_fieldAddr rfl rfl (r_fAt (o := 1) Try.underlying55 rfl (by kernel_rfl) rfl) (o_load rfl rfl (r_load1 Try.underlying4 rfl (kh.cell (i := 1) rfl)) ?_))))
            refine o_not rfl rfl r_not (o_move rfl rfl (g_no rfl rfl rfl (g_no rfl rfl rfl (g_no rfl rfl rfl (g_no rfl rfl rfl (g_no rfl rfl rfl (g_no rfl rfl rfl (o_pick_t rfl rfl rfl (o_nil ?_)))))))))
            refine n_then (c_yes rfl (c_seq (c_region (o_build (vs := []) (r := .agg #[.slice none 0 0, .slice none 0 0]) rfl rfl (by exact run_build _ _ _ _ (by kernel_rfl)) ?_))))
            obtain ⟨w11_1, s11_1, q11_1, k11_1⟩ := (k2.ext (x42.trans x9_3)).stS (P := Try.prog) (t := 25) (m := [.slice none 0 0, .slice none 0 0]) rfl (by kernel_rfl) (Ones.cons rfl (Ones.cons rfl Ones.nil))
            refine o_store rfl rfl s11_1 ?_
            have x11_1 := Ext.of_new (((x2.trans x42).trans x9_3)) q11_1 l2
            refine o_assign rfl rfl (o_nil (n_then (c_ret (r_then ?_))))
            refine r_bodyc2 rfl rfl rfl k11_1 Try.underlying25 rfl (by kernel_rfl) ?_
            exact ⟨_, rfl, x11_1, DecR.err hD⟩
          · have hq' : rdM bd = some (m, []) := hq
            have kh := kh.ext x9_3
            refine c_region (o_move rfl rfl (o_nilCheck rfl rfl (o_fieldAddr rfl rfl (r_fAt (o := 1) Try.underlying55 rfl (by kernel_rfl) rfl) (o_load rfl rfl (r_load1 Try.underlying4 rfl (kh.cell (i := 1) rfl)) ?_))))
            refine o_not rfl rfl r_not (o_move rfl rfl (g_yes rfl (o_move rfl rfl (g_yes rfl (o_nilCheck rfl rfl (g_yes rfl (o_fieldAddr rfl rfl (r_fAt (o := 0) Try.underlying55 rfl (by kernel_rfl) rfl) ?_)))))))
            refine g_yes rfl (o_load rfl rfl (r_load1 Try.underlying52 rfl (kh.cell (i := 0) rfl)) (g_yes rfl (o_call call_Done rfl rfl ((Done_s rd6)) ?_)))
            rintro v53 _ ⟨rfl, rfl⟩
            refine g_yes rfl (o_bin rfl rfl rfl (dec_f (by decide) r_neq_i) (o_pick_f rfl rfl rfl (o_nil (n_then (c_no rfl (c_skip (n_then (c_seq (c_seq ?_)))))))))
            have hsm := rdM_small hq' (by omega)
            refine c_region (o_load rfl rfl (k9_3.ld Try.underlying25 rfl (by kernel_rfl)) (o_call call_AValid rfl rfl ((AValid_spec (dI.ext x9_3) (dL.ext x9_3) hsm.1 (fun a ha => hsm.2.2 a ha a.kd (by simp [LayD.ints])))) ?_))
            rintro v58 w58 ⟨x58, rfl⟩
            have e58 := (x9_3.trans x58)
            refine o_not rfl rfl r_not (o_nil (n_then ?_))
            refine c_cond rfl (fun h59 => ?_) (fun h59 => ?_)
            · have hvm : validM m = false := by simpa using h59
              have hD : decM l = (e0M, 1) := by rw [hdec, hq']; show (if validM m = true then (m, (0 : Int)) else (e0M, 1)) = _; rw [hvm]; rfl
              refine c_seq (c_region (o_build (vs := []) (r := .agg #[.slice none 0 0, .slice none 0 0]) rfl rfl (by exact run_build _ _ _ _ (by kernel_rfl)) ?_))
              obtain ⟨w13_1, s13_1, q13_1, k13_1⟩ := (k2.ext ((x42.trans x9_3).trans x58)).stS (P := Try.prog) (t := 25) (m := [.slice none 0 0, .slice none 0 0]) rfl (by kernel_rfl) (Ones.cons rfl (Ones.cons rfl Ones.nil))
              refine o_store rfl rfl s13_1 ?_
              have x13_1 := Ext.of_new ((((x2.trans x42).trans x9_3).trans x58)) q13_1 l2
              refine o_assign rfl rfl (o_nil (n_then (c_ret (r_then ?_))))
              refine r_bodyc2 rfl rfl rfl k13_1 Try.underlying25 rfl (by kernel_rfl) ?_
              exact ⟨_, rfl, x13_1, DecR.err hD⟩
            · have hvm : validM m = true := by simpa using h59
              have hD : decM l = (m, 0) := by rw [hdec, hq']; show (if validM m = true then (m, (0 : Int)) else (e0M, 1)) = _; rw [hvm]; rfl
              refine c_skip (n_then (c_seq (c_region (o_load rfl rfl ((k9_3.ext x58).ld Try.underlying25 rfl (by kernel_rfl)) ?_))))
              obtain ⟨w14_1, s14_1, q14_1, k14_1⟩ := (k2.ext ((x42.trans x9_3).trans x58)).stS (P := Try.prog) (t := 25) (m := [.slice A1 n1 c1, .slice A2 n2 c2]) rfl (by kernel_rfl) (Ones.cons rfl (Ones.cons rfl Ones.nil))
              refine o_store rfl rfl s14_1 ?_
              have x14_1 := Ext.of_new ((((x2.trans x42).trans x9_3).trans x58)) q14_1 l2
              refine o_assign rfl rfl (o_nil (n_then (c_ret ?_)))
              refine r_bodyc2 rfl rfl rfl k14_1 Try.underlying25 rfl (by kernel_rfl) ?_
              exact ⟨_, rfl, x14_1, .slice A1 n1 c1, .slice A2 n2 c2, by rw [hD]; rfl, by rw [hD]; exact rq.mv ((Mv.of_ext e58).trans (Mv.of_grown q14_1 fun k hk _ => by obtain rfl := Option.some.inj hk; exact Nat.lt_of_lt_of_le k2.lt e2.size) fun _ hn _ => hn) fun k hk => .inl (Nat.lt_of_lt_of_le hk (by have := e2.size; have := x2.size; omega))⟩
          · have hD : decM l = (e0M, 5) := by rw [hdec, show rdM bd = some (m, c :: t) from hq]
            have kh := kh.ext x9_3
            refine c_region (o_move rfl rfl (o_nilCheck rfl rfl (o_fieldAddr rfl rfl (r_fAt (o := 1) Try.underlying55 rfl (by kernel_rfl) rfl) (o_load rfl rfl (r_load1 Try.underlying4 rfl (kh.cell (i := 1) rfl)) ?_))))
            refine o_not rfl rfl r_not (o_move rfl rfl (g_yes rfl (o_move rfl rfl (g_yes rfl (o_nilCheck rfl rfl (g_yes rfl (o_fieldAddr rfl rfl (r_fAt (o := 0) Try.underlying55 rfl (by kernel_rfl) rfl) ?_)))))))
            refine g_yes rfl (o_load rfl rfl (r_load1 Try.underlying52 rfl (kh.cell (i := 0) rfl)) (g_yes rfl (o_call call_Done rfl rfl ((Done_s rd6)) ?_)))
            rintro v53 _ ⟨rfl, rfl⟩
            refine g_yes rfl (o_bin rfl rfl rfl (dec_t (by simp) r_neq_i) (o_pick_f rfl rfl rfl (o_nil (n_then (c_yes rfl (c_seq (c_region (o_build (vs := []) (r := .agg #[.slice none 0 0, .slice none 0 0]) rfl rfl (by exact run_build _ _ _ _ (by kernel_rfl)) ?_))))))))
            obtain ⟨w11_1, s11_1, q11_1, k11_1⟩ := (k2.ext (x42.trans x9_3)).stS (P := Try.prog) (t := 25) (m := [.slice none 0 0, .slice none 0 0]) rfl (by kernel_rfl) (Ones.cons rfl (Ones.cons rfl Ones.nil))
            refine o_store rfl rfl s11_1 ?_
            have x11_1 := Ext.of_new (((x2.trans x42).trans x9_3)) q11_1 l2
            refine o_assign rfl rfl (o_nil (n_then (c_ret (r_then ?_))))
            refine r_bodyc2 rfl rfl rfl k11_1 Try.underlying25 rfl (by kernel_rfl) ?_
            exact ⟨_, rfl, x11_1, DecR.err hD⟩
end Go.Rl
/- relucertlaw12.awake walked. No condition. -/
namespace Go.Rl
open Go.RowKit Go.Proofs
theorem call_Awake12 : Callable Try.prog 4 := ⟨_, Try.func4, by kernel_rfl, rfl⟩
def m1 : ModD := ⟨[1], []⟩
def mBad : ModD := ⟨[1], [⟨5, 0, 1, 0, 0, 0, 0, [], []⟩]⟩
theorem enc_m1 : encM m1 = [1, 2, 0] := by decide
theorem val_m1 : validM m1 = true := by decide
theorem val_bad : validM mBad = false := by decide
theorem file_m1 : fileM m1 = [82, 76, 85, 77, 1, 2, 0] ++ dig [82, 76, 85, 77, 1, 2, 0] := by unfold fileM; rw [enc_m1]; rfl
theorem small_m1 : smallM m1 := fun l hl => by simp [m1] at hl
theorem wf_m1 : m1.wf := ⟨fun n hn => by simp only [m1, List.mem_singleton] at hn; subst hn; unfold i64; omega, fun l hl => by simp [m1] at hl⟩
theorem len_m1 : lenM m1 = 110 := rfl
theorem small_bad : smallM mBad := fun l hl => by simp only [mBad, List.mem_singleton] at hl; subst hl; exact ⟨fun _ h => by simp at h, fun _ h => by simp at h⟩
theorem file_m1_len : (fileM m1).length = 39 := by rw [file_m1, List.length_append, dig_len]; rfl
theorem encRes_m1 : encRes m1 = (fileM m1, 0) := by unfold encRes; rw [if_pos val_m1, if_pos (by rw [file_m1_len]; omega)]
theorem dec_m1 : decM (fileM m1) = (m1, 0) := decM_file val_m1 small_m1 wf_m1 (by rw [len_m1]; omega) (by rw [file_m1_len]; omega)
theorem take_m1 : (fileM m1).take 7 = [82, 76, 85, 77, 1, 2, 0] := by rw [file_m1]; rfl
theorem Awake12_spec {w : World} : Calls Try.prog 4 #[] w (Ret fun r w' => Ext w w' ∧ r = B true) := by
  refine enter Try.func4 rfl rfl rfl ?_
  refine c_seq (c_region (o_assign rfl rfl (o_nil (n_then (c_seq (c_region ?_))))))
  obtain ⟨v7, w7, hr7, x7, o7, ob7⟩ := r_bsI (w := w) w.heap.size [1] (by simp) (Nat.le_refl _)
  refine o_buildSlice (vs := [(0, I 1)]) rfl rfl hr7 ?_
  have d7 : DsV dIn m1.inp v7 w7 := (o7.rpx (X := fun _ => False) fun _ _ h => h).rp
  refine o_build (vs := [(0, v7)]) (r := .agg #[v7, .slice none 0 0]) rfl rfl (by obtain ⟨_, _, _, rfl⟩ := d7.isS; exact run_build _ _ _ _ (by kernel_rfl)) ?_
  obtain ⟨g1, w1, hr1, l1, x1, k1⟩ := r_allocB (P := Try.prog) (w := w7) (t := 25) (z := .agg #[.slice none 0 0, .slice none 0 0]) (l := [.slice none 0 0, .slice none 0 0]) (by kernel_rfl) rfl
  refine o_alloc rfl hr1 ?_
  obtain ⟨w1_3, s1_3, q1_3, k1_3⟩ := k1.stS (P := Try.prog) (t := 25) (m := [v7, .slice none 0 0]) rfl (by kernel_rfl) (Ones.cons d7.one (Ones.cons rfl Ones.nil))
  refine o_store rfl rfl s1_3 ?_
  have x1_3 := Ext.of_new (x1) q1_3 l1
  refine o_nil (n_then (c_seq (c_region (o_load rfl rfl (k1_3.ld Try.underlying25 rfl (by kernel_rfl)) (o_call call_AEncode rfl rfl ((AEncode_spec (d7.ext x1_3) (DsV.nil _ _) small_m1 wf_m1 (by rw [len_m1]; omega))) ?_)))))
  rintro v11 w11 ⟨x11, v12, rfl, o12⟩
  rw [encRes_m1] at o12
  rw [encRes_m1]
  refine o_move rfl rfl (o_extract rfl rfl (r_ext0) ?_)
  have o12 : OwnB w1_3.heap.size (fileM m1) v12 w11 := o12
  have b12 := o12.bts
  refine o_extract rfl rfl (r_ext1) (o_assign rfl rfl (o_assign rfl rfl (o_nil (n_then (c_seq (c_region (o_move rfl rfl (o_call call_ADecode rfl rfl ((ADecode_spec b12)) ?_))))))))
  rintro v16 w16 ⟨x16, xi, yi, rfl, r16⟩
  rw [dec_m1] at r16
  rw [dec_m1]
  obtain ⟨xi', yi', hxy, dI, dL⟩ := dMod_inv r16.rp
  obtain ⟨rfl, rfl⟩ : xi = xi' ∧ yi = yi' := by simpa using hxy
  obtain ⟨A1, n1, c1, rfl⟩ := dI.isS
  obtain ⟨A2, n2, c2, rfl⟩ := dL.isS
  refine o_move rfl rfl (o_extract rfl rfl r_ext0 (o_extract rfl rfl (r_ext1) ?_))
  obtain ⟨g4, w4, hr4, l4, x4, k4⟩ := r_allocB (P := Try.prog) (w := w16) (t := 25) (z := .agg #[.slice none 0 0, .slice none 0 0]) (l := [.slice none 0 0, .slice none 0 0]) (by kernel_rfl) rfl
  refine o_alloc rfl hr4 ?_
  obtain ⟨w3_6, s3_6, q3_6, k3_6⟩ := k4.stS (P := Try.prog) (t := 25) (m := [.slice A1 n1 c1, .slice A2 n2 c2]) rfl (by kernel_rfl) (Ones.cons rfl (Ones.cons rfl Ones.nil))
  refine o_store rfl rfl s3_6 ?_
  have x3_6 := Ext.of_new (x4) q3_6 l4
  refine o_assign rfl rfl (o_nil (n_then (c_seq (c_region ?_))))
  obtain ⟨v19, w19, hr19, x19, o19, ob19⟩ := r_bsI (w := w3_6) (w3_6).heap.size [1] (by simp) (Nat.le_refl _)
  refine o_buildSlice (vs := [(0, I 1)]) rfl rfl hr19 ?_
  have d19 : DsV dIn mBad.inp v19 w19 := (o19.rpx (X := fun _ => False) fun _ _ h => h).rp
  refine o_build (vs := [(0, I 5), (2, I 1)]) (r := .agg #[I 5, I 0, I 1, I 0, I 0, I 0, I 0, .slice none 0 0, .slice none 0 0]) rfl rfl (by exact run_build _ _ _ _ (by kernel_rfl)) ?_
  obtain ⟨v21, w21, hr21, x21, s21, ob21⟩ := r_bsS (P := Try.prog) (w := w19) (t := 23) (e := 37) (sz := 9) Try.underlying23 (z := .agg #[I 0, I 0, I 0, I 0, I 0, I 0, I 0, .slice none 0 0, .slice none 0 0]) (by kernel_rfl) rfl (by omega) [[I 5, I 0, I 1, I 0, I 0, I 0, I 0, .slice none 0 0, .slice none 0 0]] (by simp) (by simp) (by simp)
  have d21 : DsV dLay mBad.lays v21 w21 := Rp.ofSl s21 (RpAll.cons (a := [I 5, I 0, I 1, I 0, I 0, I 0, I 0, .slice none 0 0, .slice none 0 0]) (b := []) (dLay_mk (l := ⟨5, 0, 1, 0, 0, 0, 0, [], []⟩) (DsV.nil _ _) (DsV.nil _ _)) RpAll.nil) (by simp [mBad, dLay_size]) (by omega)
  refine o_buildSlice (vs := [(0, .agg #[I 5, I 0, I 1, I 0, I 0, I 0, I 0, .slice none 0 0, .slice none 0 0])]) rfl rfl hr21 ?_
  refine o_build (vs := [(0, v19), (1, v21)]) (r := .agg #[v19, v21]) rfl rfl (by obtain ⟨_, _, _, rfl⟩ := d19.isS; obtain ⟨_, _, _, rfl⟩ := d21.isS; exact run_build _ _ _ _ (by kernel_rfl)) ?_
  obtain ⟨g6, w6, hr6, l6, x6, k6⟩ := r_allocB (P := Try.prog) (w := w21) (t := 25) (z := .agg #[.slice none 0 0, .slice none 0 0]) (l := [.slice none 0 0, .slice none 0 0]) (by kernel_rfl) rfl
  refine o_alloc rfl hr6 ?_
  obtain ⟨w4_5, s4_5, q4_5, k4_5⟩ := k6.stS (P := Try.prog) (t := 25) (m := [v19, v21]) rfl (by kernel_rfl) (Ones.cons d19.one (Ones.cons d21.one Ones.nil))
  refine o_store rfl rfl s4_5 ?_
  have x4_5 := Ext.of_new (x6) q4_5 l6
  refine o_nil (n_then (c_seq (c_region (o_move rfl rfl (o_bin rfl rfl rfl (dec_t rfl r_eql_i) (o_move rfl rfl (g_yes rfl (o_move rfl rfl (g_yes rfl (o_len (r := I 39) rfl rfl ((by have h := r_lenB (ty := 3) (b12.ext ((((x16.trans x3_6).trans x19).trans x21).trans x4_5)); rw [file_m1_len] at h; exact h)) ?_))))))))))
  refine g_yes rfl (o_bin rfl rfl rfl (dec_t rfl r_eql_i) (o_pick_t rfl rfl rfl (o_move rfl rfl (g_yes rfl (o_move rfl rfl (g_yes rfl ?_))))))
  obtain ⟨v32, p32, b32⟩ := r_slB_hi (b12.ext ((((x16.trans x3_6).trans x19).trans x21).trans x4_5)) (hi := 7) (by rw [file_m1_len]; omega) .i64
  refine o_slice rfl rfl rfl rfl rfl (p32 _) ?_
  rw [take_m1] at b32
  refine g_yes rfl (o_conv rfl rfl (r_str b32) (g_yes rfl (o_bin (v := S [82, 76, 85, 77, 1, 2, 0]) rfl rfl rfl (dec_t rfl r_eql_s) (o_pick_t rfl rfl rfl (o_move rfl rfl (g_yes rfl ?_))))))
  refine o_move rfl rfl (g_yes rfl (o_bin rfl rfl rfl (dec_t rfl r_eql_i) (o_pick_t rfl rfl rfl (o_move rfl rfl (g_yes rfl (o_load rfl rfl ((k1_3.ext (((((x11.trans x16).trans x3_6).trans x19).trans x21).trans x4_5)).ld Try.underlying25 rfl (by kernel_rfl)) ?_))))))
  refine g_yes rfl (o_load rfl rfl ((k3_6.ext ((x19.trans x21).trans x4_5)).ld Try.underlying25 rfl (by kernel_rfl)) (g_yes rfl (o_call call_MEqual rfl rfl ((MEqual_spec (a := m1) (b := m1) (d7.ext ((((((x1_3.trans x11).trans x16).trans x3_6).trans x19).trans x21).trans x4_5)) (DsV.nil _ _) (dI.ext (((x3_6.trans x19).trans x21).trans x4_5)) (dL.ext (((x3_6.trans x19).trans x21).trans x4_5)))) ?_)))
  rintro v43 w43 ⟨x43, rfl⟩
  refine o_pick_t rfl rfl rfl (o_move rfl rfl (g_yes rfl (o_load rfl rfl ((k1_3.ext ((((((x11.trans x16).trans x3_6).trans x19).trans x21).trans x4_5).trans x43)).ld Try.underlying25 rfl (by kernel_rfl)) ?_)))
  refine g_yes rfl (o_call call_AValid rfl rfl ((AValid_spec (m := m1) (d7.ext (((((((x1_3.trans x11).trans x16).trans x3_6).trans x19).trans x21).trans x4_5).trans x43)) (DsV.nil _ _) small_m1 (fun l hl => by simp [m1] at hl))) ?_)
  rintro v47 w47 ⟨x47, rfl⟩
  refine o_pick_t rfl rfl rfl (o_move rfl rfl (g_yes rfl (o_load rfl rfl ((k4_5.ext (x43.trans x47)).ld Try.underlying25 rfl (by kernel_rfl)) (g_yes rfl ?_))))
  refine o_call call_AValid rfl rfl ((AValid_spec (m := mBad) (d19.ext (((x21.trans x4_5).trans x43).trans x47)) (d21.ext ((x4_5.trans x43).trans x47)) small_bad (fun l hl => by simp only [mBad, List.mem_singleton] at hl; subst hl; exact (show i64 5 by unfold i64; omega)))) ?_
  rintro v51 w51 ⟨x51, rfl⟩
  refine g_yes rfl (o_not rfl rfl r_not (o_pick_t rfl rfl rfl (o_assign rfl rfl (o_nil (n_then (c_ret (r_body1 rfl rfl ?_)))))))
  exact ⟨_, rfl, ((((((((((x7.trans x1_3).trans x11).trans x16).trans x3_6).trans x19).trans x21).trans x4_5).trans x43).trans x47).trans x51), rfl⟩
end Go.Rl
/- What the bound of an 'upto' statement says of deep data. No condition. -/
namespace Go.Rl
open Go.RowKit Go.Proofs
mutual
def Dt.bulk : Dt → Nat
  | .int _ _ => 1
  | .bool _ => 1
  | .str l => l.length + 1
  | .sl l => Dt.bulkAll l + 1
  | .st l => Dt.bulkAll l + 1
def Dt.bulkAll : List Dt → Nat
  | [] => 0
  | d :: l => Dt.bulk d + Dt.bulkAll l
end
mutual
theorem bulk_dtOf {H : Type} : ∀ d : DataW H, (dtOf d).bulk ≤ Ytaehfoogjjglcaa.Rows.uptoBulk d
  | .lit (.string b) => by simp [dtOf, Dt.bulk, Ytaehfoogjjglcaa.Rows.uptoBulk]
  | .lit (.int k n) => by simp [dtOf, Dt.bulk, Ytaehfoogjjglcaa.Rows.uptoBulk]
  | .lit (.bool b) => by simp [dtOf, Dt.bulk, Ytaehfoogjjglcaa.Rows.uptoBulk]
  | .lit (.float ..) => by simp [dtOf, Dt.bulk, Dt.bulkAll, Ytaehfoogjjglcaa.Rows.uptoBulk]
  | .lit .nil => by simp [dtOf, Dt.bulk, Dt.bulkAll, Ytaehfoogjjglcaa.Rows.uptoBulk]
  | .nil => by simp [dtOf, Dt.bulk, Dt.bulkAll, Ytaehfoogjjglcaa.Rows.uptoBulk]
  | .ptr d => by simp [dtOf, Dt.bulk, Dt.bulkAll, Ytaehfoogjjglcaa.Rows.uptoBulk]
  | .slice elems spare => by
    have := bulkAll_dtAll elems
    simp only [dtOf, Dt.bulk, Ytaehfoogjjglcaa.Rows.uptoBulk]
    omega
  | .agg parts => by
    have := bulkAll_dtAll parts
    simp only [dtOf, Dt.bulk, Ytaehfoogjjglcaa.Rows.uptoBulk]
    omega
  | .iface t d => by simp [dtOf, Dt.bulk, Dt.bulkAll, Ytaehfoogjjglcaa.Rows.uptoBulk]
  | .map entries => by simp [dtOf, Dt.bulk, Dt.bulkAll, Ytaehfoogjjglcaa.Rows.uptoBulk]
  | .held h => by simp [dtOf, Dt.bulk, Dt.bulkAll, Ytaehfoogjjglcaa.Rows.uptoBulk]
theorem bulkAll_dtAll {H : Type} : ∀ l : List (DataW H), Dt.bulkAll (dtAll l) ≤ Ytaehfoogjjglcaa.Rows.uptoBulkAll l
  | [] => by simp [dtAll, Dt.bulkAll, Ytaehfoogjjglcaa.Rows.uptoBulkAll]
  | d :: l => by
    have := bulk_dtOf d
    have := bulkAll_dtAll l
    simp only [dtAll, Dt.bulkAll, Ytaehfoogjjglcaa.Rows.uptoBulkAll]
    omega
end
theorem upto_part {H : Type} {d : DataW H} : ∀ {l : List (DataW H)}, d ∈ l → Ytaehfoogjjglcaa.Rows.uptoBulk d ≤ Ytaehfoogjjglcaa.Rows.uptoBulkAll l
  | [], h => by simp at h
  | x :: l, h => by
    simp only [Ytaehfoogjjglcaa.Rows.uptoBulkAll]
    rcases List.mem_cons.1 h with rfl | h
    · omega
    · have := upto_part h; omega
theorem upto_bulk {H : Type} {d : DataW H} {l : List (DataW H)} (hk : Ytaehfoogjjglcaa.Rows.uptoSmall H l = true) (h : d ∈ l) : (dtOf d).bulk ≤ 1048576 := by
  have h1 : Ytaehfoogjjglcaa.Rows.uptoBulkAll l ≤ 1048576 := of_decide_eq_true hk
  have := bulk_dtOf d
  have := upto_part h
  omega
theorem list_ofP {α : Type} {f : α → Dt} {p : α → Prop} : ∀ (l : List Dt), (∀ d ∈ l, ∃ x, d = f x ∧ p x) → ∃ m : List α, l = m.map f ∧ ∀ x ∈ m, p x
  | [], _ => ⟨[], rfl, by simp⟩
  | d :: l, h => by
    obtain ⟨x, rfl, hx⟩ := h d (by simp)
    obtain ⟨m, rfl, hm⟩ := list_ofP l fun e he => h e (by simp [he])
    exact ⟨x :: m, rfl, by simpa using ⟨hx, hm⟩⟩
theorem Ty.inv_slP {P : Program} {t e : TypeId} {d : Dt} {α : Type} {f : α → Dt} {p : α → Prop} (hu : P.underlying t = some (.slice e)) (he : ∀ x, Ty P e x → ∃ y, x = f y ∧ p y) (h : Ty P t d) : ∃ l : List α, d = .sl (l.map f) ∧ ∀ x ∈ l, p x := by
  obtain ⟨l, rfl, ha⟩ := h.inv_slD hu
  obtain ⟨m, rfl, hm⟩ := list_ofP l fun x hx => he x (ha x hx)
  exact ⟨m, rfl, hm⟩
theorem bulkAll_mem {l : List Dt} : ∀ {d : Dt}, d ∈ l → d.bulk ≤ Dt.bulkAll l := by
  induction l with
  | nil => intro d h; simp at h
  | cons x l ih =>
    intro d h
    simp only [Dt.bulkAll]
    rcases List.mem_cons.1 h with rfl | h
    · omega
    · have := ih h; omega
theorem bulk_pos (d : Dt) : 1 ≤ d.bulk := by cases d <;> simp [Dt.bulk]
theorem bulkAll_len (l : List Dt) : l.length ≤ Dt.bulkAll l := by
  induction l with
  | nil => simp
  | cons d l ih => have := bulk_pos d; simp only [List.length_cons, Dt.bulkAll]; omega
end Go.Rl
/- How a model among the arguments reads, and what the bound says of it. No condition. -/
namespace Go.Rl
open Go.RowKit Go.Proofs
theorem dat2 {α : Type} {l : List α} (h : l.length = 2) : ∃ a b, l = [a, b] := by
  match l, h with
  | [a, b], _ => exact ⟨a, b, rfl⟩
theorem dat3 {α : Type} {l : List α} (h : l.length = 3) : ∃ a b c, l = [a, b, c] := by
  match l, h with
  | [a, b, c], _ => exact ⟨a, b, c, rfl⟩
theorem dat9 {α : Type} {l : List α} (h : l.length = 9) : ∃ a b c d e f g i j, l = [a, b, c, d, e, f, g, i, j] := by
  match l, h with
  | [a, b, c, d, e, f, g, i, j], _ => exact ⟨a, b, c, d, e, f, g, i, j, rfl⟩
theorem Ty.inv_ratD {d : Dt} (ht : Ty Try.prog 41 d) : ∃ q : RatD, d = dRat q := by
  obtain ⟨l, rfl, hl, hf⟩ := ht.inv_st Try.underlying41
  obtain ⟨a, b, c, rfl⟩ := dat3 (show l.length = 3 from hl)
  obtain ⟨s, rfl⟩ := (hf 0 _ a rfl rfl).inv_bool Try.underlying4
  obtain ⟨n, rfl⟩ := (hf 1 _ b rfl rfl).inv_nat Try.underlying39 Try.underlying88
  obtain ⟨m, rfl⟩ := (hf 2 _ c rfl rfl).inv_nat Try.underlying39 Try.underlying88
  exact ⟨(s, n, m), rfl⟩
theorem Ty.inv_ratsD {d : Dt} (ht : Ty Try.prog 35 d) : ∃ l : List RatD, d = dRats l := ht.inv_sl Try.underlying35 fun _ hx => Ty.inv_ratD hx
theorem Ty.inv_intD {d : Dt} (ht : Ty Try.prog 3 d) : ∃ n : Int, d = dIn n ∧ i64 n := by
  obtain ⟨n, rfl, hw⟩ := ht.inv_int Try.underlying3
  exact ⟨n, rfl, wf_I hw⟩
theorem Ty.inv_lay {d : Dt} (ht : Ty Try.prog 37 d) : ∃ l : LayD, d = dLay l ∧ l.wf := by
  obtain ⟨l, rfl, hl, hf⟩ := ht.inv_st Try.underlying37
  obtain ⟨d0, d1, d2, d3, d4, d5, d6, d7, d8, rfl⟩ := dat9 (show l.length = 9 from hl)
  obtain ⟨n0, rfl, w0⟩ := Ty.inv_intD (hf 0 _ d0 rfl rfl)
  obtain ⟨n1, rfl, w1⟩ := Ty.inv_intD (hf 1 _ d1 rfl rfl)
  obtain ⟨n2, rfl, w2⟩ := Ty.inv_intD (hf 2 _ d2 rfl rfl)
  obtain ⟨n3, rfl, w3⟩ := Ty.inv_intD (hf 3 _ d3 rfl rfl)
  obtain ⟨n4, rfl, w4⟩ := Ty.inv_intD (hf 4 _ d4 rfl rfl)
  obtain ⟨n5, rfl, w5⟩ := Ty.inv_intD (hf 5 _ d5 rfl rfl)
  obtain ⟨n6, rfl, w6⟩ := Ty.inv_intD (hf 6 _ d6 rfl rfl)
  obtain ⟨ws, rfl⟩ := Ty.inv_ratsD (hf 7 _ d7 rfl rfl)
  obtain ⟨bs, rfl⟩ := Ty.inv_ratsD (hf 8 _ d8 rfl rfl)
  refine ⟨⟨n0, n1, n2, n3, n4, n5, n6, ws, bs⟩, rfl, ?_⟩
  simp only [LayD.wf, LayD.ints, List.mem_cons, List.not_mem_nil, or_false, forall_eq_or_imp, forall_eq]
  exact ⟨w0, w1, w2, w3, w4, w5, w6⟩
theorem mod_open {W : World} {v : Value} {d : Dt} {cs : List Value} (hv : v = .agg cs.toArray) (hr : Rp W d cs) (ht : Ty Try.prog 25 d) :
    ∃ (m : ModD) (x y : Value), v = .agg #[x, y] ∧ DsV dIn m.inp x W ∧ DsV dLay m.lays y W ∧ m.wf ∧ d = dMod m := by
  obtain ⟨l, rfl, hl, hf⟩ := ht.inv_st Try.underlying25
  obtain ⟨d0, d1, rfl⟩ := dat2 (show l.length = 2 from hl)
  obtain ⟨inp, rfl, hi⟩ := (hf 0 _ d0 rfl rfl).inv_slP Try.underlying22 fun _ hx => Ty.inv_intD hx
  obtain ⟨lays, rfl, hs⟩ := (hf 1 _ d1 rfl rfl).inv_slP Try.underlying23 fun _ hx => Ty.inv_lay hx
  obtain ⟨x, y, rfl, hx, hy⟩ := dMod_inv (m := ⟨inp, lays⟩) hr
  exact ⟨⟨inp, lays⟩, x, y, hv, hx, hy, ⟨hi, hs⟩, rfl⟩

/-! ### the bound -/
theorem bulk_nat (l : List UInt32) : (dNat l).bulk = l.length + 1 := by
  have : ∀ l : List UInt32, Dt.bulkAll (l.map dU32) = l.length := by
    intro l
    induction l with
    | nil => rfl
    | cons a l ih => simp only [List.map_cons, Dt.bulkAll, ih, dU32, Dt.bulk, List.length_cons]; omega
  simp only [dNat, Dt.bulk, this]
theorem bulk_rat (q : RatD) : (dRat q).bulk = q.2.1.length + q.2.2.length + 4 := by
  simp only [dRat, Dt.bulk, Dt.bulkAll, bulk_nat]; omega
theorem bulk_rats (l : List RatD) : (dRats l).bulk = cntQ l + 4 * l.length + 1 := by
  have : ∀ l : List RatD, Dt.bulkAll (l.map dRat) = cntQ l + 4 * l.length := by
    intro l
    induction l with
    | nil => rfl
    | cons q l ih => simp only [List.map_cons, Dt.bulkAll, ih, bulk_rat, cntQ, List.length_cons]; omega
  simp only [dRats, Dt.bulk, this]
theorem bulk_lay (l : LayD) : (dLay l).bulk = cntQ l.ws + 4 * l.ws.length + cntQ l.bs + 4 * l.bs.length + 10 := by
  simp only [dLay, dIn, Dt.bulk, Dt.bulkAll, bulk_rats]; omega
theorem lenQs_cnt (l : List RatD) : lenQs l = 4 * cntQ l + 21 * l.length := by
  induction l with
  | nil => rfl
  | cons q l ih => simp only [lenQs, cntQ, List.length_cons, ih]; omega
theorem cntQ_mem {l : List RatD} {q : RatD} (h : q ∈ l) : q.2.1.length + q.2.2.length ≤ cntQ l := by
  induction l with
  | nil => simp at h
  | cons a l ih =>
    simp only [cntQ]
    rcases List.mem_cons.1 h with rfl | h
    · omega
    · have := ih h; omega
theorem lays_bulk (l : List LayD) : 10 * l.length + cntLs l ≤ Dt.bulkAll (l.map dLay) ∧ lenLs l ≤ 90 * Dt.bulkAll (l.map dLay) ∧ parL l ≤ Dt.bulkAll (l.map dLay) ∧ lenLs l ≤ 90 * l.length + 25 * cntLs l := by
  induction l with
  | nil => simp [cntLs, lenLs, parL, Dt.bulkAll]
  | cons a l ih =>
    obtain ⟨h1, h2, h3, h4⟩ := ih
    simp only [List.map_cons, Dt.bulkAll, bulk_lay, cntLs, cntL, lenLs, parL, List.length_cons, lenQs_cnt]
    refine ⟨by omega, by omega, by omega, by omega⟩
/-- A model of few layers with few numbers. -/
abbrev fairM (m : ModD) : Prop := m.inp.length ≤ 8 ∧ m.lays.length ≤ 70 ∧ cntLs m.lays ≤ 600
structure ModB (m : ModD) : Prop where
  small : smallM m
  lenM : lenM m ≤ 105000000
  cnt : cntLs m.lays ≤ 1048576
  par : parL m.lays ≤ 1048576
  enc : (encM m).length ≤ 105000000
  file : fairM m → (fileM m).length ≤ 1048576
/-- What a model of small bulk is. -/
theorem mod_bulk {m : ModD} (h : (dMod m).bulk ≤ 1048576) (hw : m.wf) : ModB m := by
  have hb : (dMod m).bulk = Dt.bulkAll (m.inp.map dIn) + 1 + (Dt.bulkAll (m.lays.map dLay) + 1) + 1 := by simp only [dMod, dInts, Dt.bulk, Dt.bulkAll]
  have h1 := bulkAll_len (m.inp.map dIn)
  rw [List.length_map] at h1
  obtain ⟨h2, h3, h4, h4'⟩ := lays_bulk m.lays
  have hs : smallM m := fun l hl => by
    have h5 := bulkAll_mem (List.mem_map_of_mem (f := dLay) hl)
    rw [bulk_lay] at h5
    refine ⟨fun q hq => ?_, fun q hq => ?_⟩
    · have := cntQ_mem hq; exact ⟨by omega, by omega⟩
    · have := cntQ_mem hq; exact ⟨by omega, by omega⟩
  have hl : ∀ l ∈ m.lays, l.ws.length ≤ 9223372036854775807 ∧ l.bs.length ≤ 9223372036854775807 := fun l hl => by
    have h5 := bulkAll_mem (List.mem_map_of_mem (f := dLay) hl)
    rw [bulk_lay] at h5
    omega
  have h5 := uv_len (n := m.inp.length) (by omega)
  have h6 := uv_len (n := m.lays.length) (by omega)
  have h7 := ints_len hw.1
  have key : ∀ ls : List LayD, (∀ l ∈ ls, (small l.ws ∧ small l.bs) ∧ l.wf ∧ l.ws.length ≤ 9223372036854775807 ∧ l.bs.length ≤ 9223372036854775807) → (ls.flatMap encL).length ≤ lenLs ls := by
    intro ls
    induction ls with
    | nil => intro _; simp [lenLs]
    | cons a ls ih =>
      intro h
      obtain ⟨a1, a2, a3, a4⟩ := h a (by simp)
      have := encL_len a1 a2 a3 a4
      have := ih fun l hl => h l (by simp [hl])
      simp only [List.flatMap_cons, List.length_append, lenLs]
      omega
  have h8 := key m.lays fun l h => ⟨hs l h, hw.2 l h, hl l h⟩
  have he : (encM m).length ≤ 20 + 10 * m.inp.length + lenLs m.lays := by
    unfold encM
    simp only [List.length_append]
    omega
  refine ⟨hs, by unfold Go.Rl.lenM; omega, by omega, by omega, by omega, fun ⟨f1, f2, f3⟩ => ?_⟩
  unfold fileM
  simp only [List.length_append, dig_len, show rlum.length = 4 from rfl]
  omega
end Go.Rl
/- The law of Equal for models, walked. No condition. -/
namespace Go.Rl
open Go.RowKit Go.Proofs
theorem r_add_w {P : Program} {w : World} {t : TypeId} {x y : Operand} {a b : Int} : (bin .add t x y (I a) (I b)).run P w = .ok (I (IntKind.i64.wrap (a + b))) w := by
  unfold I; rw [bin_int]; simp [binOp, Op.intArith]
theorem Fair_any {w : World} {m : ModD} {x y : Value} (ha : DsV dIn m.inp x w) (hb : DsV dLay m.lays y w) :
    Calls Try.prog 5 #[.agg #[x, y]] w (Ret fun r w' => Ext w w' ∧ ∃ b, r = B b) := by
  refine enter (vs := [.agg #[x, y]]) Try.func5 rfl rfl rfl ?_
  refine c_seq (c_region ?_)
  obtain ⟨g1, w1, hr1, l1, x1, k1⟩ := r_boxS (P := Try.prog) (w := w) (T := 25) (cs := [x, y])
  refine o_box rfl rfl hr1 (o_assign rfl rfl (o_nil (n_then (c_seq (c_seq (c_region (o_fieldAddr rfl rfl (r_fAt (o := 0) Try.underlying25 rfl (by kernel_rfl) rfl) ?_)))))))
  refine o_load rfl rfl (r_load1 Try.underlying22 rfl (k1.cell (i := 0) rfl)) (o_len rfl rfl (r_lenDs Try.underlying22 (ha.ext x1)) (o_bin rfl rfl rfl (r_gtr_i) ?_))
  refine o_move rfl rfl ?_
  refine o_dec (fun h11 => ?_) (fun h11 => ?_)
  · refine g_no rfl rfl rfl (g_no rfl rfl rfl (g_no rfl rfl rfl (g_no rfl rfl rfl (o_pick_t rfl rfl rfl (o_nil (n_then (c_yes rfl (c_seq (c_region (o_assign rfl rfl (o_nil (n_then (c_ret (r_then ?_))))))))))))))
    refine r_body1 rfl rfl ?_
    exact ⟨_, rfl, x1, _, rfl⟩
  · refine g_yes rfl (o_fieldAddr rfl rfl (r_fAt (o := 1) Try.underlying25 rfl (by kernel_rfl) rfl) (g_yes rfl (o_load rfl rfl (r_load1 Try.underlying23 rfl (k1.cell (i := 1) rfl)) ?_)))
    refine g_yes rfl (o_len rfl rfl (r_lenDs Try.underlying23 (hb.ext x1)) (g_yes rfl (o_bin rfl rfl rfl (r_gtr_i) (o_pick_f rfl rfl rfl (o_nil (n_then ?_))))))
    refine c_if rfl (fun h16 => ?_) (fun h16 => ?_)
    · refine c_seq (c_region (o_assign rfl rfl (o_nil (n_then (c_ret (r_then (r_body1 rfl rfl ?_)))))))
      exact ⟨_, rfl, x1, _, rfl⟩
    · refine c_skip (n_then (c_seq (c_region (o_assign rfl rfl (o_nil (n_then (c_seq (c_seq (c_region (o_assign rfl rfl (o_nil (n_then (c_block ?_)))))))))))))
      refine c_loop2 (fun (i : Nat) (n : Int) => [(1, .pointer (some ⟨g1, 0, none⟩)), (3, I n), (4, I (i : Int))]) (fun (i : Nat) (n : Int) w' => Ext w w' ∧ Ext w1 w' ∧ i ≤ m.lays.length) (fun (i : Nat) (n : Int) => m.lays.length - i) (0) (0) ⟨rfl, rfl, rfl, trivial⟩ ⟨x1, Ext.refl _, by omega⟩ ?_
      rintro i n wL ⟨e0, e1, hi⟩
      refine c_seq (c_seq (c_region (o_move rfl rfl (o_fieldAddr rfl rfl (r_fAt (o := 1) Try.underlying25 rfl (by kernel_rfl) rfl) (o_load rfl rfl (r_load1 Try.underlying23 rfl (e1.cell_some (k1.cell (i := 1) rfl))) ?_)))))
      refine o_len rfl rfl (r_lenDs Try.underlying23 (hb.ext e0)) (o_bin rfl rfl rfl (r_lss_i) (o_nil (n_then ?_)))
      refine c_if rfl (fun h21 => ?_) (fun h21 => ?_)
      · refine c_skip (n_then (c_seq (c_block (c_seq (c_grow 17 [1, 4, 40] (by kernel_rfl) (by kernel_rfl) ?_)))))
        refine f_move rfl rfl (f_fieldAddr rfl rfl (fun w hw => r_fAt (o := 1) Try.underlying25 rfl (by kernel_rfl) rfl) (f_load rfl rfl (fun w hw => r_load1 Try.underlying23 rfl (hw.cell_some (e1.cell_some (k1.cell (i := 1) rfl)))) ?_))
        refine f_move rfl rfl ?_
        obtain ⟨a28, c28, p28, q28, h28⟩ := r_ixDs (P := Try.prog) (sz := 9) Try.underlying23 (by kernel_rfl) dLay_size (by omega) (hb.ext e0) (i := i) (by omega) .i64
        obtain ⟨e28, he28⟩ : ∃ e, e = m.lays[i]'(by omega) := ⟨_, rfl⟩
        rw [← he28] at h28
        obtain ⟨x28_0, x28_1, rfl, f28_0, f28_1⟩ := dLay_inv h28
        refine f_indexAddr rfl rfl rfl (fun w _ => p28 w) (f_fieldAddr rfl rfl (fun w hw => r_fC (o := 7) Try.underlying37 rfl (by kernel_rfl) rfl) ?_)
        refine f_load rfl rfl (fun w hw => r_load1 Try.underlying35 rfl (hw.cell_some (q28.at (j := 7) rfl))) (f_len (vs := [x28_0]) rfl rfl (fun w hw => r_lenDs Try.underlying35 (f28_0.ext hw)) ?_)
        refine f_fieldAddr rfl rfl (fun w hw => r_fAt (o := 1) Try.underlying25 rfl (by kernel_rfl) rfl) (f_load rfl rfl (fun w hw => r_load1 Try.underlying23 rfl (hw.cell_some (e1.cell_some (k1.cell (i := 1) rfl)))) ?_)
        refine f_move rfl rfl ?_
        obtain ⟨a35, c35, p35, q35, h35⟩ := r_ixDs (P := Try.prog) (sz := 9) Try.underlying23 (by kernel_rfl) dLay_size (by omega) (hb.ext e0) (i := i) (by omega) .i64
        rw [← he28] at h35
        obtain ⟨x35_0, x35_1, rfl, f35_0, f35_1⟩ := dLay_inv h35
        refine f_indexAddr rfl rfl rfl (fun w _ => p35 w) (f_fieldAddr rfl rfl (fun w hw => r_fC (o := 8) Try.underlying37 rfl (by kernel_rfl) rfl) ?_)
        refine f_load rfl rfl (fun w hw => r_load1 Try.underlying35 rfl (hw.cell_some (q35.at (j := 8) rfl))) (f_len (vs := [x35_1]) rfl rfl (fun w hw => r_lenDs Try.underlying35 (f35_1.ext hw)) ?_)
        refine f_bin rfl rfl rfl (fun w _ => r_add_w) (f_bin rfl rfl rfl (fun w _ => r_add_w) (f_nil ?_))
        intro wg7 xg7
        rintro _ rfl
        rintro _ rfl
        rintro _ rfl
        refine o_assign rfl rfl (o_nil (n_then (c_seq (c_seq ?_))))
        have hws := f28_0.len
        have hbs := f28_1.len
        refine c_region (o_assign rfl rfl (o_nil (n_then (c_block ?_))))
        refine c_loop2 (fun (k : Nat) (n2 : Int) => [(1, .pointer (some ⟨g1, 0, none⟩)), (3, I n2), (4, I (i : Int)), (5, I (k : Int))]) (fun (k : Nat) (n2 : Int) w' => Ext w w' ∧ Ext w1 w' ∧ k ≤ e28.ws.length) (fun (k : Nat) (n2 : Int) => e28.ws.length - k) (0) (IntKind.i64.wrap (n + IntKind.i64.wrap ((e28.ws.length : Int) + (e28.bs.length : Int)))) ⟨rfl, rfl, rfl, rfl, trivial⟩ ⟨(e0.trans xg7), (e1.trans xg7), by omega⟩ ?_
        rintro k n2 wM ⟨e0, e1, hk⟩
        refine c_seq (c_seq (c_region (o_move rfl rfl (o_fieldAddr rfl rfl (r_fAt (o := 1) Try.underlying25 rfl (by kernel_rfl) rfl) (o_load rfl rfl (r_load1 Try.underlying23 rfl (e1.cell_some (k1.cell (i := 1) rfl))) ?_)))))
        refine o_move rfl rfl ?_
        obtain ⟨a45, c45, p45, q45, h45⟩ := r_ixDs (P := Try.prog) (sz := 9) Try.underlying23 (by kernel_rfl) dLay_size (by omega) (hb.ext e0) (i := i) (by omega) .i64
        rw [← he28] at h45
        obtain ⟨x45_0, x45_1, rfl, f45_0, f45_1⟩ := dLay_inv h45
        refine o_indexAddr rfl rfl rfl (p45 _) (o_fieldAddr rfl rfl (r_fC (o := 7) Try.underlying37 rfl (by kernel_rfl) rfl) (o_load rfl rfl (r_load1 Try.underlying35 rfl (q45.at (j := 7) rfl)) ?_))
        refine o_len rfl rfl (r_lenDs Try.underlying35 f45_0) (o_bin rfl rfl rfl (r_lss_i) (o_nil (n_then ?_)))
        refine c_if rfl (fun h49 => ?_) (fun h49 => ?_)
        · refine c_skip (n_then (c_seq (c_block (c_grow 25 [1, 4, 5, 76] (by kernel_rfl) (by kernel_rfl) ?_))))
          refine f_move rfl rfl (f_fieldAddr rfl rfl (fun w hw => r_fAt (o := 1) Try.underlying25 rfl (by kernel_rfl) rfl) (f_load rfl rfl (fun w hw => r_load1 Try.underlying23 rfl (hw.cell_some (e1.cell_some (k1.cell (i := 1) rfl)))) ?_))
          refine f_move rfl rfl ?_
          obtain ⟨a56, c56, p56, q56, h56⟩ := r_ixDs (P := Try.prog) (sz := 9) Try.underlying23 (by kernel_rfl) dLay_size (by omega) (hb.ext e0) (i := i) (by omega) .i64
          rw [← he28] at h56
          obtain ⟨x56_0, x56_1, rfl, f56_0, f56_1⟩ := dLay_inv h56
          refine f_indexAddr rfl rfl rfl (fun w _ => p56 w) (f_fieldAddr rfl rfl (fun w hw => r_fC (o := 7) Try.underlying37 rfl (by kernel_rfl) rfl) ?_)
          refine f_load rfl rfl (fun w hw => r_load1 Try.underlying35 rfl (hw.cell_some (q56.at (j := 7) rfl))) (f_move rfl rfl ?_)
          obtain ⟨a60, c60, p60, q60, h60⟩ := r_ixDs (P := Try.prog) (sz := 3) Try.underlying35 (by kernel_rfl) dRat_size (by omega) f56_0 (i := k) (by omega) .i64
          obtain ⟨e60, he60⟩ : ∃ e, e = e28.ws[k]'(by omega) := ⟨_, rfl⟩
          rw [← he60] at h60
          obtain ⟨x60_0, x60_1, rfl, f60_0, f60_1⟩ := dRat_inv h60
          refine f_indexAddr rfl rfl rfl (fun w _ => p60 w) (f_fieldAddr rfl rfl (fun w hw => r_fC (o := 1) Try.underlying41 rfl (by kernel_rfl) rfl) (f_load rfl rfl (fun w hw => r_load1 Try.underlying39 rfl (hw.cell_some (q60.at (j := 1) rfl))) ?_))
          refine f_len (vs := [x60_0]) rfl rfl (fun w hw => r_lenW Try.underlying39 (f60_0.ext hw)) (f_fieldAddr rfl rfl (fun w hw => r_fAt (o := 1) Try.underlying25 rfl (by kernel_rfl) rfl) ?_)
          refine f_load rfl rfl (fun w hw => r_load1 Try.underlying23 rfl (hw.cell_some (e1.cell_some (k1.cell (i := 1) rfl)))) (f_move rfl rfl ?_)
          obtain ⟨a67, c67, p67, q67, h67⟩ := r_ixDs (P := Try.prog) (sz := 9) Try.underlying23 (by kernel_rfl) dLay_size (by omega) (hb.ext e0) (i := i) (by omega) .i64
          rw [← he28] at h67
          obtain ⟨x67_0, x67_1, rfl, f67_0, f67_1⟩ := dLay_inv h67
          refine f_indexAddr rfl rfl rfl (fun w _ => p67 w) (f_fieldAddr rfl rfl (fun w hw => r_fC (o := 7) Try.underlying37 rfl (by kernel_rfl) rfl) ?_)
          refine f_load rfl rfl (fun w hw => r_load1 Try.underlying35 rfl (hw.cell_some (q67.at (j := 7) rfl))) (f_move rfl rfl ?_)
          obtain ⟨a71, c71, p71, q71, h71⟩ := r_ixDs (P := Try.prog) (sz := 3) Try.underlying35 (by kernel_rfl) dRat_size (by omega) f67_0 (i := k) (by omega) .i64
          rw [← he60] at h71
          obtain ⟨x71_0, x71_1, rfl, f71_0, f71_1⟩ := dRat_inv h71
          refine f_indexAddr rfl rfl rfl (fun w _ => p71 w) (f_fieldAddr rfl rfl (fun w hw => r_fC (o := 2) Try.underlying41 rfl (by kernel_rfl) rfl) (f_load rfl rfl (fun w hw => r_load1 Try.underlying39 rfl (hw.cell_some (q71.at (j := 2) rfl))) ?_))
          refine f_len (vs := [x71_1]) rfl rfl (fun w hw => r_lenW Try.underlying39 (f71_1.ext hw)) (f_bin rfl rfl rfl (fun w _ => r_add_w) (f_bin rfl rfl rfl (fun w _ => r_add_w) ?_))
          refine f_nil ?_
          intro wg11 xg11
          rintro _ rfl
          rintro _ rfl
          rintro _ rfl
          rintro _ rfl
          refine o_assign rfl rfl (o_nil (n_block (n_then (c_region (o_move rfl rfl (o_bin (r := I ((k + 1 : Nat) : Int)) rfl rfl rfl (by have e : ((k + 1 : Nat) : Int) = (k : Int) + 1 := (by omega); rw [e]; exact r_add_i (by omega) (by omega)) ?_))))))
          refine o_assign rfl rfl (o_nil ?_)
          refine n_round2 (k + 1) (IntKind.i64.wrap (n2 + IntKind.i64.wrap ((e60.2.1.length : Int) + (e60.2.2.length : Int)))) ⟨rfl, rfl, rfl, rfl, trivial⟩ ⟨(e0.trans xg11), (e1.trans xg11), by omega⟩ (by omega)
        · refine c_exit (x_then (x_then (x_here (n_then (c_seq (c_seq (c_region (o_assign rfl rfl (o_nil (n_then (c_block ?_)))))))))))
          refine c_loop2 (fun (j : Nat) (n3 : Int) => [(1, .pointer (some ⟨g1, 0, none⟩)), (3, I n3), (4, I (i : Int)), (6, I (j : Int))]) (fun (j : Nat) (n3 : Int) w' => Ext w w' ∧ Ext w1 w' ∧ j ≤ e28.bs.length) (fun (j : Nat) (n3 : Int) => e28.bs.length - j) (0) (n2) ⟨rfl, rfl, rfl, rfl, trivial⟩ ⟨e0, e1, by omega⟩ ?_
          rintro j n3 wN ⟨e0, e1, hj⟩
          refine c_seq (c_seq (c_region (o_move rfl rfl (o_fieldAddr rfl rfl (r_fAt (o := 1) Try.underlying25 rfl (by kernel_rfl) rfl) (o_load rfl rfl (r_load1 Try.underlying23 rfl (e1.cell_some (k1.cell (i := 1) rfl))) ?_)))))
          refine o_move rfl rfl ?_
          obtain ⟨a81, c81, p81, q81, h81⟩ := r_ixDs (P := Try.prog) (sz := 9) Try.underlying23 (by kernel_rfl) dLay_size (by omega) (hb.ext e0) (i := i) (by omega) .i64
          rw [← he28] at h81
          obtain ⟨x81_0, x81_1, rfl, f81_0, f81_1⟩ := dLay_inv h81
          refine o_indexAddr rfl rfl rfl (p81 _) (o_fieldAddr rfl rfl (r_fC (o := 8) Try.underlying37 rfl (by kernel_rfl) rfl) (o_load rfl rfl (r_load1 Try.underlying35 rfl (q81.at (j := 8) rfl)) ?_))
          refine o_len rfl rfl (r_lenDs Try.underlying35 f81_1) (o_bin rfl rfl rfl (r_lss_i) (o_nil (n_then ?_)))
          refine c_if rfl (fun h85 => ?_) (fun h85 => ?_)
          · refine c_skip (n_then (c_seq (c_block (c_grow 25 [1, 4, 6, 112] (by kernel_rfl) (by kernel_rfl) ?_))))
            refine f_move rfl rfl (f_fieldAddr rfl rfl (fun w hw => r_fAt (o := 1) Try.underlying25 rfl (by kernel_rfl) rfl) (f_load rfl rfl (fun w hw => r_load1 Try.underlying23 rfl (hw.cell_some (e1.cell_some (k1.cell (i := 1) rfl)))) ?_))
            refine f_move rfl rfl ?_
            obtain ⟨a92, c92, p92, q92, h92⟩ := r_ixDs (P := Try.prog) (sz := 9) Try.underlying23 (by kernel_rfl) dLay_size (by omega) (hb.ext e0) (i := i) (by omega) .i64
            rw [← he28] at h92
            obtain ⟨x92_0, x92_1, rfl, f92_0, f92_1⟩ := dLay_inv h92
            refine f_indexAddr rfl rfl rfl (fun w _ => p92 w) (f_fieldAddr rfl rfl (fun w hw => r_fC (o := 8) Try.underlying37 rfl (by kernel_rfl) rfl) ?_)
            refine f_load rfl rfl (fun w hw => r_load1 Try.underlying35 rfl (hw.cell_some (q92.at (j := 8) rfl))) (f_move rfl rfl ?_)
            obtain ⟨a96, c96, p96, q96, h96⟩ := r_ixDs (P := Try.prog) (sz := 3) Try.underlying35 (by kernel_rfl) dRat_size (by omega) f92_1 (i := j) (by omega) .i64
            obtain ⟨e96, he96⟩ : ∃ e, e = e28.bs[j]'(by omega) := ⟨_, rfl⟩
            rw [← he96] at h96
            obtain ⟨x96_0, x96_1, rfl, f96_0, f96_1⟩ := dRat_inv h96
            refine f_indexAddr rfl rfl rfl (fun w _ => p96 w) (f_fieldAddr rfl rfl (fun w hw => r_fC (o := 1) Try.underlying41 rfl (by kernel_rfl) rfl) (f_load rfl rfl (fun w hw => r_load1 Try.underlying39 rfl (hw.cell_some (q96.at (j := 1) rfl))) ?_))
            refine f_len (vs := [x96_0]) rfl rfl (fun w hw => r_lenW Try.underlying39 (f96_0.ext hw)) (f_fieldAddr rfl rfl (fun w hw => r_fAt (o := 1) Try.underlying25 rfl (by kernel_rfl) rfl) ?_)
            refine f_load rfl rfl (fun w hw => r_load1 Try.underlying23 rfl (hw.cell_some (e1.cell_some (k1.cell (i := 1) rfl)))) (f_move rfl rfl ?_)
            obtain ⟨a103, c103, p103, q103, h103⟩ := r_ixDs (P := Try.prog) (sz := 9) Try.underlying23 (by kernel_rfl) dLay_size (by omega) (hb.ext e0) (i := i) (by omega) .i64
            rw [← he28] at h103
            obtain ⟨x103_0, x103_1, rfl, f103_0, f103_1⟩ := dLay_inv h103
            refine f_indexAddr rfl rfl rfl (fun w _ => p103 w) (f_fieldAddr rfl rfl (fun w hw => r_fC (o := 8) Try.underlying37 rfl (by kernel_rfl) rfl) ?_)
            refine f_load rfl rfl (fun w hw => r_load1 Try.underlying35 rfl (hw.cell_some (q103.at (j := 8) rfl))) (f_move rfl rfl ?_)
            obtain ⟨a107, c107, p107, q107, h107⟩ := r_ixDs (P := Try.prog) (sz := 3) Try.underlying35 (by kernel_rfl) dRat_size (by omega) f103_1 (i := j) (by omega) .i64
            rw [← he96] at h107
            obtain ⟨x107_0, x107_1, rfl, f107_0, f107_1⟩ := dRat_inv h107
            refine f_indexAddr rfl rfl rfl (fun w _ => p107 w) (f_fieldAddr rfl rfl (fun w hw => r_fC (o := 2) Try.underlying41 rfl (by kernel_rfl) rfl) (f_load rfl rfl (fun w hw => r_load1 Try.underlying39 rfl (hw.cell_some (q107.at (j := 2) rfl))) ?_))
            refine f_len (vs := [x107_1]) rfl rfl (fun w hw => r_lenW Try.underlying39 (f107_1.ext hw)) (f_bin rfl rfl rfl (fun w _ => r_add_w) (f_bin rfl rfl rfl (fun w _ => r_add_w) ?_))
            refine f_nil ?_
            intro wg15 xg15
            rintro _ rfl
            rintro _ rfl
            rintro _ rfl
            rintro _ rfl
            refine o_assign rfl rfl (o_nil (n_block (n_then (c_region (o_move rfl rfl (o_bin (r := I ((j + 1 : Nat) : Int)) rfl rfl rfl (by have e : ((j + 1 : Nat) : Int) = (j : Int) + 1 := (by omega); rw [e]; exact r_add_i (by omega) (by omega)) ?_))))))
            refine o_assign rfl rfl (o_nil ?_)
            refine n_round2 (j + 1) (IntKind.i64.wrap (n3 + IntKind.i64.wrap ((e96.2.1.length : Int) + (e96.2.2.length : Int)))) ⟨rfl, rfl, rfl, rfl, trivial⟩ ⟨(e0.trans xg15), (e1.trans xg15), by omega⟩ (by omega)
          · refine c_exit (x_then (x_then (x_here (n_then (c_seq (c_region (o_move rfl rfl (o_bin rfl rfl rfl (r_gtr_i) (o_nil (n_then ?_))))))))))
            refine c_if rfl (fun h114 => ?_) (fun h114 => ?_)
            · refine c_seq (c_region (o_assign rfl rfl (o_nil (n_then (c_ret (r_block (r_then (r_then (r_block (r_then (r_body1 rfl rfl ?_)))))))))))
              exact ⟨_, rfl, e0, _, rfl⟩
            · refine c_skip (n_block (n_then (c_region (o_move rfl rfl (o_bin (r := I ((i + 1 : Nat) : Int)) rfl rfl rfl (by have e : ((i + 1 : Nat) : Int) = (i : Int) + 1 := (by omega); rw [e]; exact r_add_i (by omega) (by omega)) ?_)))))
              refine o_assign rfl rfl (o_nil ?_)
              refine n_round2 (i + 1) (n3) ⟨rfl, rfl, rfl, trivial⟩ ⟨e0, e1, by omega⟩ (by omega)
      · refine c_exit (x_then (x_then (x_here (n_then (c_seq (c_region (o_assign rfl rfl (o_nil (n_then (c_ret (r_body1 rfl rfl ?_)))))))))))
        exact ⟨_, rfl, e0, _, rfl⟩
theorem Fair_dec {w : World} {m : ModD} {x y : Value} (ha : DsV dIn m.inp x w) (hb : DsV dLay m.lays y w) :
    Calls Try.prog 5 #[.agg #[x, y]] w (Ret fun r w' => Ext w w' ∧ ∃ (p : Prop) (_ : Decidable p), r = B (decide p)) :=
  Ret.mono (Fair_any ha hb) fun r w' ⟨h, b, hb⟩ => ⟨h, b = true, inferInstance, by rw [hb]; cases b <;> rfl⟩
theorem MEqual_self {w : World} {a : ModD} {x y : Value} (ha : DsV dIn a.inp x w) (ha' : DsV dLay a.lays y w) :
    Calls Try.prog 6 #[.agg #[x, y], .agg #[x, y]] w (Ret fun r w' => Ext w w' ∧ r = B true) :=
  Ret.mono (MEqual_spec ha ha' ha ha') fun r w' ⟨h, e⟩ => ⟨h, by rw [e, decide_eq_true rfl]⟩
theorem ModelEqual_walk {w : World} {a b : ModD} {x y p q : Value} (ha : DsV dIn a.inp x w) (ha' : DsV dLay a.lays y w) (hb : DsV dIn b.inp p w) (hb' : DsV dLay b.lays q w) :
    Calls Try.prog 3 #[.agg #[x, y], .agg #[p, q]] w (Ret fun r w' => r = B true ∧ Ext w w') := by
  refine enter (vs := [.agg #[x, y], .agg #[p, q]]) Try.func3 rfl rfl rfl ?_
  refine c_seq (c_region ?_)
  obtain ⟨g2, w2, hr2, l2, x2, k2⟩ := r_boxS (P := Try.prog) (w := w) (T := 25) (cs := [x, y])
  refine o_box rfl rfl hr2 ?_
  obtain ⟨g3, w3, hr3, l3, x3, k3⟩ := r_boxS (P := Try.prog) (w := w2) (T := 25) (cs := [p, q])
  refine o_box rfl rfl hr3 (o_assign rfl rfl (o_nil (n_then (c_seq (c_seq (c_region (o_call call_Awake12 rfl rfl (Awake12_spec) ?_)))))))
  rintro v5 w5 ⟨x5, rfl⟩
  refine o_not rfl rfl r_not (o_move rfl rfl (g_yes rfl (o_load rfl rfl ((k2.ext (x3.trans x5)).ld Try.underlying25 rfl (by kernel_rfl)) (g_yes rfl ?_))))
  refine o_call call_Fair rfl rfl ((Fair_dec (ha.ext ((x2.trans x3).trans x5)) (ha'.ext ((x2.trans x3).trans x5)))) ?_
  rintro v9 w9 ⟨x9, p9, d9, rfl⟩
  refine g_yes rfl (o_not rfl rfl r_not_d (o_pick_f rfl rfl rfl (o_move rfl rfl ?_)))
  refine o_dec (fun h12 => ?_) (fun h12 => ?_)
  · refine g_no rfl rfl rfl (g_no rfl rfl rfl (g_no rfl rfl rfl (o_pick_t rfl rfl rfl (o_nil (n_then (c_yes rfl (c_seq (c_region (o_call call_Awake12 rfl rfl (Awake12_spec) ?_)))))))))
    rintro v17 w17 ⟨x17, rfl⟩
    refine o_assign rfl rfl (o_nil (n_then (c_ret (r_then (r_body1 rfl rfl ?_)))))
    exact ⟨_, rfl, rfl, ((((x2.trans x3).trans x5).trans x9).trans x17)⟩
  · refine g_yes rfl (o_load rfl rfl ((k3.ext (x5.trans x9)).ld Try.underlying25 rfl (by kernel_rfl)) (g_yes rfl (o_call call_Fair rfl rfl ((Fair_dec (hb.ext (((x2.trans x3).trans x5).trans x9)) (hb'.ext (((x2.trans x3).trans x5).trans x9)))) ?_)))
    rintro v14 w14 ⟨x14, p14, d14, rfl⟩
    refine g_yes rfl (o_not rfl rfl r_not_d (o_pick_f rfl rfl rfl (o_nil (n_then ?_))))
    refine c_if rfl (fun h16 => ?_) (fun h16 => ?_)
    · refine c_seq (c_region (o_call call_Awake12 rfl rfl (Awake12_spec) ?_))
      rintro v17 w17 ⟨x17, rfl⟩
      refine o_assign rfl rfl (o_nil (n_then (c_ret (r_then (r_body1 rfl rfl ?_)))))
      exact ⟨_, rfl, rfl, (((((x2.trans x3).trans x5).trans x9).trans x14).trans x17)⟩
    · refine c_skip (n_then (c_seq (c_grow 12 [29] (by kernel_rfl) (by kernel_rfl) ?_)))
      refine f_load rfl rfl (fun w hw => ((k2.ext (((x3.trans x5).trans x9).trans x14)).ext hw).ld Try.underlying25 rfl (by kernel_rfl)) (f_load rfl rfl (fun w hw => ((k3.ext ((x5.trans x9).trans x14)).ext hw).ld Try.underlying25 rfl (by kernel_rfl)) ?_)
      refine f_call (S := Is (B (decide (a = b)))) call_MEqual (Stable.is _) rfl (fun w hw => by rintro _ rfl _ rfl; exact MEqual_spec ((ha.ext ((((x2.trans x3).trans x5).trans x9).trans x14)).ext hw) ((ha'.ext ((((x2.trans x3).trans x5).trans x9).trans x14)).ext hw) ((hb.ext ((((x2.trans x3).trans x5).trans x9).trans x14)).ext hw) ((hb'.ext ((((x2.trans x3).trans x5).trans x9).trans x14)).ext hw)) ?_
      refine f_load rfl rfl (fun w hw => ((k2.ext (((x3.trans x5).trans x9).trans x14)).ext hw).ld Try.underlying25 rfl (by kernel_rfl)) (f_load rfl rfl (fun w hw => ((k3.ext ((x5.trans x9).trans x14)).ext hw).ld Try.underlying25 rfl (by kernel_rfl)) ?_)
      refine f_call (S := Is (B (decide (a = b)))) call_TEqual (Stable.is _) rfl (fun w hw => by rintro _ rfl _ rfl; exact TEqual_spec ((ha.ext ((((x2.trans x3).trans x5).trans x9).trans x14)).ext hw) ((ha'.ext ((((x2.trans x3).trans x5).trans x9).trans x14)).ext hw) ((hb.ext ((((x2.trans x3).trans x5).trans x9).trans x14)).ext hw) ((hb'.ext ((((x2.trans x3).trans x5).trans x9).trans x14)).ext hw)) ?_
      refine f_bin rfl rfl rfl (fun w _ => dec_t rfl (r_eql_b Try.underlying4)) (f_move rfl rfl (f_yes rfl rfl (f_load rfl rfl (fun w hw => ((k2.ext (((x3.trans x5).trans x9).trans x14)).ext hw).ld Try.underlying25 rfl (by kernel_rfl)) ?_)))
      refine f_yes rfl rfl (f_load rfl rfl (fun w hw => ((k2.ext (((x3.trans x5).trans x9).trans x14)).ext hw).ld Try.underlying25 rfl (by kernel_rfl)) ?_)
      refine f_yes rfl rfl (f_call (S := Is (B true)) call_MEqual (Stable.is _) rfl (fun w hw => by rintro _ rfl _ rfl; exact MEqual_self ((ha.ext ((((x2.trans x3).trans x5).trans x9).trans x14)).ext hw) ((ha'.ext ((((x2.trans x3).trans x5).trans x9).trans x14)).ext hw)) ?_)
      refine f_pick_t rfl rfl rfl (f_nil ?_)
      intro wg3 xg3
      rintro _ rfl
      refine o_assign rfl rfl (o_nil (n_then (c_ret (r_body1 rfl rfl ?_))))
      exact ⟨_, rfl, rfl, (((((x2.trans x3).trans x5).trans x9).trans x14).trans xg3)⟩
end Go.Rl

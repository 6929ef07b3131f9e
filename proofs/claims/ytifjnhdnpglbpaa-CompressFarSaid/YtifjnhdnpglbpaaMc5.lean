/- The finder's match walked. Conditions: the bytes are not more than 2^40. -/
import Derived.Test.YtifjnhdnpglbpaaMc4
import Derived.KernelRfl
import Derived.Lib.SlBytesConst
import Derived.ProofKit
import Derived.OpenShut
import Derived.ShutString
import Derived.SliceStrings
import Derived.ChangeOld
import Derived.ArgAppend
namespace Go.Rl
open Go.RowKit Go.Proofs
theorem call_Match : Callable Try.prog 40 := ⟨_, Try.func40, by kernel_rfl, rfl⟩
section
variable {P : Program} {w w' : World}
theorem r_box1 {t : TypeId} {v : Value} (h : v.cells = [v].toArray) : ∃ g w', (Instr.box t v).run P w = .ok (.pointer (some ⟨g, 0, none⟩)) w' ∧ w.heap.size ≤ g ∧ Ext w w' ∧ Blk g t [v] w' :=
  ⟨_, _, r_box, Nat.le_refl _, Ext.new w _, Blk.new v h⟩
theorem r_stB1 {t T : TypeId} {g : Nat} {u v : Value} (hs : (P.info? t).map (·.size) = some 1) (hv : v.oneCell' = true) (h : Blk g T [u] w) :
    ∃ w', (Instr.storeAt t (.pointer (some ⟨g, 0, none⟩)) v).run P w = .ok () w' ∧ w.grownBy w' (some g) ∧ Blk g T [v] w' :=
  ⟨_, r_store1 (i := 0) hs hv h (by simp), grownBy_setCell w g 0 v, h.set 0 v⟩
end
theorem zero_int : (Try.prog.info? 3).map (·.zero) = some (some (.int .i64 0)) := by kernel_rfl
theorem lcp_at {d : List UInt8} {x y : Nat} (hx : x < d.length) (hy : y < d.length) : lcp (d.drop x) (d.drop y) = if d[x] = d[y] then lcp (d.drop (x + 1)) (d.drop (y + 1)) + 1 else 0 := by
  rw [List.drop_eq_getElem_cons hx, List.drop_eq_getElem_cons hy, lcp]
theorem lcp_end {d : List UInt8} {x y : Nat} (hx : d.length ≤ x) : lcp (d.drop x) (d.drop y) = 0 := by
  rw [List.drop_of_length_le hx]; cases d.drop y <;> rfl

theorem Blk.c0 {w : World} {g : Nat} {T : TypeId} {v : Value} {l : List Value} (h : Blk g T (v :: l) w) : w.cell? ⟨g, 0, none⟩ = some v := h.cell (i := 0) rfl
/-- A new block. -/
def NewB (b : Nat) (T : TypeId) (l : List Value) : Fact := fun v w => ∃ g, v = .pointer (some ⟨g, 0, none⟩) ∧ b ≤ g ∧ Blk g T l w
theorem NewB.stable (b : Nat) (T : TypeId) (l : List Value) : Stable (NewB b T l) := fun _ _ _ ⟨g, h1, h2, h3⟩ hx => ⟨g, h1, h2, h3.ext hx⟩
theorem r_stK4 {w : World} {g : Nat} {T : TypeId} {l : List Value} {q : List UInt8} (h : Blk g T l w) (hl : l.length = 4) (hq : q.length = 4) :
    ∃ w', (Instr.storeAt 92 (.pointer (some ⟨g, 0, none⟩)) (K4 q)).run Try.prog w = .ok () w' ∧ w.grownBy w' (some g) ∧ Blk g T (q.map U8) w' :=
  ⟨_, r_stA h (by rw [List.length_map, hl, hq]) (by rw [List.length_map, hq]; exact size4) (one_U8 q), grownBy_setRow w g _, h.row _⟩

/-! ### The finder -/
/-- A finder at block g with its map at block m; Y: the rows of the map. -/
structure Fnd (wb : World) (d : List UInt8) (g m nx : Nat) (Y : Nat → Prop) (w : World) : Prop where
  ext : Ext wb w
  low : ∀ k, (k = g ∨ k = m ∨ Y k) → wb.heap.size ≤ k ∧ k < w.heap.size
  ng : ¬ Y g
  nm : ¬ Y m
  gm : g ≠ m
  blk : ∃ A n c, Blk g 69 [.slice A n c, .map (some m), I (nx : Int)] w ∧ Bts d (.slice A n c) wb
  map : MapAt wb.heap.size d m nx Y w
/-- What a finder may turn. -/
def Foot (g m : Nat) (Y : Nat → Prop) : Nat → Prop := fun k => k = g ∨ k = m ∨ Y k
section
variable {wb w w' : World} {d : List UInt8} {g m nx : Nat} {Y : Nat → Prop}
theorem Fnd.mv {X : Nat → Prop} (h : Fnd wb d g m nx Y w) (hx : Mv X w w') (hX : ∀ k, Foot g m Y k → ¬ X k) (hb : ∀ k, X k → wb.heap.size ≤ k) : Fnd wb d g m nx Y w' :=
  ⟨hx.ext_from h.ext hb, fun k hk => ⟨(h.low k hk).1, Nat.lt_of_lt_of_le (h.low k hk).2 hx.size⟩, h.ng, h.nm, h.gm, by
    obtain ⟨A, n, c, h1, h2⟩ := h.blk
    exact ⟨A, n, c, hx.blk h1 (hX g (.inl rfl)), h2⟩, h.map.same (hx.keep m h.map.lt (hX m (.inr (.inl rfl)))) fun k hk hl => hx.keep k hl (hX k (.inr (.inr hk)))⟩
theorem Fnd.xt (h : Fnd wb d g m nx Y w) (hx : Ext w w') : Fnd wb d g m nx Y w' := h.mv (X := fun _ => False) (Mv.of_ext hx) (fun _ _ => id) (fun _ hk => hk.elim)
end
theorem MapAt.ne_row {base b : Nat} {d : List UInt8} {m n : Nat} {Y : Nat → Prop} {w : World} (h : MapAt base d m n Y w) {l : List Int} {v : Value} (hv : OwnI b l v w) : v.ownBlock ≠ some m := fun hk => by
  obtain ⟨es, clock, h⟩ := h
  obtain ⟨cs, f, hc⟩ := hv.cells hk
  rw [h.at_] at hc
  cases hc
/-- One position more. -/
theorem Fnd.step {wb w : World} {d : List UInt8} {g m x n c : Nat} {A : Option Addr} {Y : Nat → Prop} (h : Fnd wb d g m x Y w) (hx : x + 4 ≤ d.length) (hb : Blk g 69 [.slice A n c, .map (some m), I (x : Int)] w) (hd : Bts d (.slice A n c) wb) :
    ∃ v born w1, (Instr.mapEntry 67 (.map (some m)) (K4 ((d.drop x).take 4))).run Try.prog w = .ok (.tuple #[v, I (born : Nat)]) w1 ∧ w.grownBy w1 (some m) ∧ OwnI wb.heap.size (posI d ((d.drop x).take 4) x) v w1 ∧
    ∀ v' w2, Grew w1 w2 v v' → OwnI wb.heap.size (posI d ((d.drop x).take 4) x ++ [(x : Int)]) v' w2 → ∃ w3, (Instr.entryStore 67 (.map (some m)) (I (born : Nat)) v').run Try.prog w2 = .ok () w3 ∧ Mv (fun k => k = m ∨ Y k) w w3 ∧ Blk g 69 [.slice A n c, .map (some m), I (x : Int)] w3 ∧
      ∀ w4, w3.grownBy w4 (some g) → Blk g 69 [.slice A n c, .map (some m), I ((x + 1 : Nat) : Int)] w4 → ∃ Y', Fnd wb d g m (x + 1) Y' w4 ∧ Mv (Foot g m Y) w w4 ∧ ∀ k, Y' k → Y k ∨ w.heap.size ≤ k := by
  obtain ⟨v, born, w1, r1, g1, o1, hY, nm, fin⟩ := h.map.step hx
  refine ⟨v, born, w1, r1, g1, o1, fun v' w2 gr hv => ?_⟩
  obtain ⟨w3, r3, g3, m3⟩ := fin v' w2 gr hv
  have mv3 : Mv (fun k => k = m ∨ Y k) w w3 :=
    ((Mv.of_grown (X := fun k => k = m ∨ Y k) g1 (fun k e _ => .inl (Option.some.inj e).symm)).trans (Mv.of_grown (X := fun k => k = m ∨ Y k) gr.grown (fun k e _ => .inr (hY k e))) (fun _ hn _ => hn)).trans (Mv.of_grown (X := fun k => k = m ∨ Y k) g3 (fun k e _ => .inl (Option.some.inj e).symm)) (fun _ hn _ => hn)
  have hbg := mv3.blk hb (fun hk => hk.elim h.gm h.ng)
  refine ⟨w3, r3, mv3, hbg, fun w4 g4 hb4 => ?_⟩
  have mv4 : Mv (Foot g m Y) w w4 := (mv3.weak (Y := Foot g m Y) (fun k hk _ => .inr hk)).trans (Mv.of_grown (X := Foot g m Y) g4 (fun k e _ => .inl (Option.some.inj e).symm)) (fun _ hn _ => hn)
  have hv' : ∀ k, v'.ownBlock = some k → Y k ∨ w.heap.size ≤ k := fun k hk => by
    rcases gr.own with e | e
    · exact .inl (hY k (e ▸ hk))
    · exact .inr (Nat.le_trans g1.size (e k hk))
  refine ⟨fun k => Y k ∨ v'.ownBlock = some k, ⟨mv4.ext_from h.ext (fun k hk => (h.low k hk).1), ?_, ?_, ?_, h.gm, ⟨A, n, c, hb4, hd⟩, ?_⟩, mv4, fun k hk => hk.elim .inl (hv' k)⟩
  · rintro k (hk | hk | hk | hk)
    · exact ⟨(h.low k (.inl hk)).1, Nat.lt_of_lt_of_le (h.low k (.inl hk)).2 mv4.size⟩
    · exact ⟨(h.low k (.inr (.inl hk))).1, Nat.lt_of_lt_of_le (h.low k (.inr (.inl hk))).2 mv4.size⟩
    · exact ⟨(h.low k (.inr (.inr hk))).1, Nat.lt_of_lt_of_le (h.low k (.inr (.inr hk))).2 mv4.size⟩
    · have := hv.lt k hk
      exact ⟨this.1, Nat.lt_of_lt_of_le this.2 (Nat.le_trans g3.size g4.size)⟩
  · rintro (hk | hk)
    · exact h.ng hk
    · rcases hv' g hk with hk | hk
      · exact h.ng hk
      · have := (h.low g (.inl rfl)).2; omega
  · rintro (hk | hk)
    · exact h.nm hk
    · rcases hv' m hk with hk | hk
      · exact h.nm hk
      · have := (h.low m (.inr (.inl rfl))).2; omega
  · refine m3.same (g4.block m m3.lt (fun e => h.gm (Option.some.inj e).symm)) (fun k hk hl => g4.block k hl (fun e => ?_))
    obtain rfl := Option.some.inj e
    rcases hk with hk | hk
    · exact h.ng hk
    · rcases hv' k hk with hk | hk
      · exact h.ng hk
      · have := (h.low k (.inl rfl)).2; omega
/-- A position with the same four bytes. -/
abbrev Pl (d : List UInt8) (i : Nat) : Type := { p : Nat × Nat // p.2 < i ∧ (d.drop p.2).take 4 = (d.drop i).take 4 }
def Pl.enc {d : List UInt8} {i : Nat} (x : Pl d i) : List Value := [I (x.1.1 : Int), I (x.1.2 : Int)]
/-- All of them, the last one first. -/
def pls (d : List UInt8) (i : Nat) : List (Pl d i) := List.ofFn fun k : Fin (pos d ((d.drop i).take 4) i).length =>
  ⟨((pos d ((d.drop i).take 4) i).length - 1 - k.1, (pos d ((d.drop i).take 4) i)[(pos d ((d.drop i).take 4) i).length - 1 - k.1]'(by have := k.2; omega)), mem_pos.1 (List.getElem_mem _)⟩
theorem pls_len (d : List UInt8) (i : Nat) : (pls d i).length = (pos d ((d.drop i).take 4) i).length := by simp [pls]
theorem pls_map (d : List UInt8) (i : Nat) : (pls d i).map (·.1.2) = (pos d ((d.drop i).take 4) i).reverse := by
  apply List.ext_getElem
  · simp [pls_len]
  · intro k h1 h2
    simp [pls, List.getElem_reverse]
theorem pls_enc (d : List UInt8) (i k : Nat) (h : k < (pls d i).length) : (pls d i)[k].enc = [I (((posI d ((d.drop i).take 4) i).length - 1 - k : Nat) : Int), I ((posI d ((d.drop i).take 4) i)[(posI d ((d.drop i).take 4) i).length - 1 - k]'(by rw [pls_len] at h; simp only [posI, List.length_map]; omega))] := by
  simp [pls, Pl.enc, posI]
/-- How far the loop has come. -/
def fld (d : List UInt8) (i : Nat) (l : List (Pl d i)) : Nat × Nat := (l.map (·.1.2)).foldl (stp d i) (0, 0)
theorem fld_snoc (d : List UInt8) (i : Nat) (l : List (Pl d i)) (x : Pl d i) : fld d i (l ++ [x]) = stp d i (fld d i l) x.1.2 := by
  unfold fld
  rw [List.map_append, List.foldl_append]; rfl
theorem pls_sorted (d : List UInt8) (i : Nat) : ((pls d i).map (·.1.2)).Pairwise (fun a b => b < a) := by
  rw [pls_map, List.pairwise_reverse]
  exact pos_sorted _ _ _
theorem pls_mem (d : List UInt8) (i p : Nat) : p ∈ (pls d i).map (·.1.2) ↔ p < i ∧ (d.drop p).take 4 = (d.drop i).take 4 := by
  rw [pls_map, List.mem_reverse, mem_pos]
theorem best_short {d : List UInt8} {i : Nat} (h : d.length < i + 4) : best d i = (0, 0) := by
  rcases Nat.eq_zero_or_pos (best d i).1 with h0 | h0
  · rcases bst_ok d i (min i 4096) with e | e
    · exact e
    · unfold best at h0; omega
  · have := best_ok (d := d) (i := i) (by omega)
    omega
/-- The two cells of the loop, and all else as it was. -/
structure Rnd (wl : World) (g7 g8 : Nat) (s : Nat × Nat) (W : World) : Prop where
  c7 : Blk g7 3 [I (s.1 : Int)] W
  c8 : Blk g8 3 [I (s.2 : Int)] W
  mv : Mv (fun k => k = g7 ∨ k = g8) wl W
section
variable {wl W W' : World} {g7 g8 : Nat} {s : Nat × Nat}
theorem Rnd.own (h : Rnd wl g7 g8 s W) (h7 : g7 < wl.heap.size) (h8 : g8 < wl.heap.size) {row : Option Nat} (hg : W.grownBy W' row) (hr : ∀ r, row = some r → wl.heap.size ≤ r) : Rnd wl g7 g8 s W' :=
  ⟨h.c7.other hg (fun e => by have := hr g7 e.symm; omega), h.c8.other hg (fun e => by have := hr g8 e.symm; omega), h.mv.trans (Mv.of_grown (X := fun k => wl.heap.size ≤ k) hg (fun k hk _ => hr k hk)) (fun n hn hl => by omega)⟩
theorem Rnd.xt (h : Rnd wl g7 g8 s W) (hx : Ext W W') : Rnd wl g7 g8 s W' := ⟨h.c7.ext hx, h.c8.ext hx, h.mv.trans (Mv.of_ext (X := fun _ => False) hx) (fun _ hn _ => hn.elim)⟩
end
theorem Rnd.keeps {wl W W' : World} {g7 g8 : Nat} (h : Mv (fun k => k = g7 ∨ k = g8) W W') (h7 : g7 < wl.heap.size) (h8 : g8 < wl.heap.size) : KeepsFrom wl.heap.size W W' :=
  ⟨h.size, fun k o hk ho _ => (h.keep k (Array.getElem?_eq_some_iff.1 ho).1 (fun e => by omega)).trans ho⟩
theorem Rnd.keep {wl W W' : World} {g7 g8 : Nat} (h : Mv (fun k => k = g7 ∨ k = g8) W W') (hl : wl.heap.size ≤ W.heap.size) : Keep (fun k => k < wl.heap.size ∧ k ≠ g7 ∧ k ≠ g8) W W' :=
  ⟨h.size, fun k hk => h.keep k (Nat.lt_of_lt_of_le hk.1 hl) (fun e => e.elim hk.2.1 hk.2.2)⟩
theorem Match_spec {wb w : World} {d : List UInt8} {g m nx i : Nat} {Y : Nat → Prop} (h : Fnd wb d g m nx Y w) (hni : nx ≤ i) (hi : i ≤ d.length) (hl : d.length ≤ 1099511627776) :
    Calls Try.prog 40 #[.pointer (some ⟨g, 0, none⟩), I (i : Int)] w (Ret fun r w' => r = .tuple #[I ((best d i).1 : Int), I ((best d i).2 : Int)] ∧ ∃ nx' Y', nx' ≤ i ∧ Fnd wb d g m nx' Y' w' ∧ Mv (Foot g m Y) w w' ∧ ∀ k, Y' k → Y k ∨ w.heap.size ≤ k) := by
  refine enterM (vs := [.pointer (some ⟨g, 0, none⟩), I (i : Int)]) Try.func40 rfl rfl rfl ?_
  obtain ⟨A, n, c, k0, hd⟩ := h.blk
  have hf : ∀ k, Foot g m Y k → k < w.heap.size := fun k hk => (h.low k hk).2
  have hw0 := h.ext.size
  refine c_seq (c_region ?_)
  obtain ⟨g2, w2, hr2, l2, x2, k2⟩ := r_box1 (P := Try.prog) (w := w) (t := 66) (v := .pointer (some ⟨g, 0, none⟩)) rfl
  refine o_box rfl rfl hr2 ?_
  obtain ⟨g3, w3, hr3, l3, x3, k3⟩ := r_box1 (P := Try.prog) (w := w2) (t := 3) (v := I (i : Int)) rfl
  refine o_box rfl rfl hr3 ?_
  have h3 := h.xt (x2.trans x3)
  have x3' := (x2.trans x3)
  have hg2 : w.heap.size ≤ g2 := l2
  have hg3 : w.heap.size ≤ g3 := Nat.le_trans x2.size l3
  have k2 := k2.ext x3
  have b2 := k2.lt
  have b3 := k3.lt
  have nf2 : ¬ Foot g m Y g2 := fun hk => by have := hf _ hk; omega
  have nf3 : ¬ Foot g m Y g3 := fun hk => by have := hf _ hk; omega
  refine o_assign rfl rfl (o_assign rfl rfl (o_nil (n_then (c_seq (c_seq ?_)))))
  have k1 := k0.ext (x2.trans x3)
  have hd1 := hd.ext h3.ext
  refine c_grow 7 [2, 3, 13, 18] (by kernel_rfl) (by kernel_rfl) ?_
  refine f_load rfl rfl (fun w hw => r_load1 Try.underlying3 rfl (hw.cell_some k3.c0)) (f_bin (r := I ((i + 4 : Nat) : Int)) rfl rfl rfl (fun w _ => by have e : ((i + 4 : Nat) : Int) = (i : Int) + 4 := (by omega); rw [e]; exact r_add_i (by omega) (by omega)) ?_)
  refine f_load rfl rfl (fun w hw => r_load1 Try.underlying66 rfl (hw.cell_some k2.c0)) (f_nilCheck rfl rfl (f_fieldAddr rfl rfl (fun w hw => r_fAt (o := 0) Try.underlying69 rfl (by kernel_rfl) rfl) ?_))
  refine f_load rfl rfl (fun w hw => r_load1 Try.underlying22 rfl (hw.cell_some (k1.cell (i := 0) rfl))) (f_len (vs := [.slice A n c]) rfl rfl (fun w hw => r_lenB (hd1.ext hw)) ?_)
  refine f_nil ?_
  intro wg1 xg1
  rintro _ rfl
  rintro _ rfl
  rintro _ rfl
  rintro _ rfl
  refine o_bin rfl rfl rfl (r_gtr_i) (o_nil (n_then ?_))
  refine c_if rfl (fun h19 => ?_) (fun h19 => ?_)
  · refine c_seq (c_region (o_assign rfl rfl (o_assign rfl rfl (o_nil (n_then (c_ret (r_then (m_body2 rfl rfl rfl ?_))))))))
    exact ⟨_, rfl, by rw [best_short (by omega)]; rfl, nx, Y, hni, h3.xt xg1, Mv.of_ext ((x2.trans x3).trans xg1), fun k hk => .inl hk⟩
  · refine c_skip (n_then (c_seq (c_block ?_)))
    refine c_loop (α := Nat) (fun x => [(2, .pointer (some ⟨g2, 0, none⟩)), (3, .pointer (some ⟨g3, 0, none⟩))]) (fun x w' => x ≤ i ∧ ∃ Y', Fnd wb d g m x Y' w' ∧ Mv (Foot g m Y) w3 w' ∧ ∀ k, Y' k → Y k ∨ w3.heap.size ≤ k) (fun x => i - x) (nx) ⟨rfl, rfl, trivial⟩ ⟨hni, Y, h3.xt xg1, Mv.of_ext xg1, fun k hk => .inl hk⟩ ?_
    rintro x w4 ⟨hx2, Y', h4, mv4, hY4⟩
    refine c_seq (c_seq ?_)
    obtain ⟨A, n, c, k1, hd⟩ := h4.blk
    have k2 := mv4.blk k2 nf2
    have k3 := mv4.blk k3 nf3
    have hd1 := hd.ext h4.ext
    refine c_grow 5 [2, 3, 23, 24] (by kernel_rfl) (by kernel_rfl) ?_
    refine f_load rfl rfl (fun w hw => r_load1 Try.underlying66 rfl (hw.cell_some k2.c0)) (f_nilCheck rfl rfl (f_fieldAddr rfl rfl (fun w hw => r_fAt (o := 2) Try.underlying69 rfl (by kernel_rfl) rfl) ?_))
    refine f_load rfl rfl (fun w hw => r_load1 Try.underlying3 rfl (hw.cell_some (k1.cell (i := 2) rfl))) (f_load rfl rfl (fun w hw => r_load1 Try.underlying3 rfl (hw.cell_some k3.c0)) ?_)
    refine f_nil ?_
    intro wg3 xg3
    rintro _ rfl
    rintro _ rfl
    rintro _ rfl
    rintro _ rfl
    refine o_bin rfl rfl rfl (r_lss_i) (o_nil (n_then ?_))
    refine c_if rfl (fun h25 => ?_) (fun h25 => ?_)
    · have hlt : x < i := by omega
      have hq4 : ((d.drop x).take 4).length = 4 := by rw [List.length_take, List.length_drop]; omega
      refine c_skip (n_then (c_seq (c_block (c_seq (c_grow 7 [2, 3, 6, 38] (by kernel_rfl) (by kernel_rfl) ?_)))))
      refine f_load rfl rfl (fun w hw => r_load1 Try.underlying66 rfl (hw.cell_some (xg3.cell_some k2.c0))) (f_load rfl rfl (fun w hw => r_load1 Try.underlying66 rfl (hw.cell_some (xg3.cell_some k2.c0))) ?_)
      refine f_nilCheck rfl rfl (f_fieldAddr rfl rfl (fun w hw => r_fAt (o := 2) Try.underlying69 rfl (by kernel_rfl) rfl) (f_load rfl rfl (fun w hw => r_load1 Try.underlying3 rfl (hw.cell_some (xg3.cell_some (k1.cell (i := 2) rfl)))) ?_))
      refine f_call (S := Is (K4 ((d.drop x).take 4))) call_Key (Stable.is _) rfl (fun w hw => by rintro _ rfl _ rfl; exact Ret.mono (Key_spec (k1.ext (Ext.trans xg3 hw)) (hd1.ext (Ext.trans xg3 hw)) (by omega) hl) fun v w' h => h) ?_
      refine f_alloc (S := NewB wg3.heap.size 92 [.int .u8 0, .int .u8 0, .int .u8 0, .int .u8 0]) (NewB.stable _ _ _) rfl (fun w' hw => by obtain ⟨g6, w2, h1, h2, h3, h4⟩ := r_allocB (P := Try.prog) (w := w') (l := [.int .u8 0, .int .u8 0, .int .u8 0, .int .u8 0]) zero_A4 rfl; exact ⟨_, w2, h1, h3, g6, rfl, Nat.le_trans hw.size h2, h4⟩) ?_
      refine f_nil ?_
      intro wg5 xg5
      rintro _ rfl
      rintro _ rfl
      intro vg6 q6
      rintro _ rfl
      obtain ⟨g6, rfl, l6, b6⟩ := q6
      obtain ⟨w5, r5, gr5, b5⟩ := r_stK4 b6 rfl hq4
      refine o_store rfl rfl (r5) ?_
      have x5 := Ext.of_new (w := w4) (xg3.trans xg5) gr5 (Nat.le_trans xg3.size l6)
      refine o_nil (n_then (c_growP 10 [10, 11, 13, 12, 14] [2, 3, 42, 43, 49] (by kernel_rfl) (by kernel_rfl) rfl ?_))
      refine f_load rfl rfl (fun w hw => r_load1 Try.underlying66 rfl (hw.cell_some (x5.cell_some k2.c0))) (f_nilCheck rfl rfl (f_fieldAddr rfl rfl (fun w hw => r_fAt (o := 1) Try.underlying69 rfl (by kernel_rfl) rfl) ?_))
      refine f_load rfl rfl (fun w hw => r_load1 Try.underlying67 rfl (hw.cell_some (x5.cell_some (k1.cell (i := 1) rfl)))) (f_load rfl rfl (fun w hw => r_ldA (o := 0) (m := ((d.drop x).take 4).map U8) (b5.ext hw) (fun _ _ h => by simpa using h) Try.underlying92 rfl (by rw [List.length_map, hq4]; exact size4)) ?_)
      refine f_load rfl rfl (fun w hw => r_load1 Try.underlying66 rfl (hw.cell_some (x5.cell_some k2.c0))) (f_nilCheck rfl rfl (f_fieldAddr rfl rfl (fun w hw => r_fAt (o := 2) Try.underlying69 rfl (by kernel_rfl) rfl) ?_))
      refine f_load rfl rfl (fun w hw => r_load1 Try.underlying3 rfl (hw.cell_some (x5.cell_some (k1.cell (i := 2) rfl)))) (f_buildSlice (S := OwnI wb.heap.size [(x : Int)]) (OwnI.stable _ _) rfl (fun w' hw => by rintro _ rfl; obtain ⟨r, w2, h1, h2, h3, _⟩ := r_bsI (w := w') wb.heap.size [(x : Int)] (by simp) (Nat.le_trans h4.ext.size (Nat.le_trans x5.size hw.size)); exact ⟨r, w2, h1, h2, h3⟩) ?_)
      refine f_nil ?_
      intro wg6 xg6
      rintro _ rfl
      rintro _ rfl
      rintro _ rfl
      rintro _ rfl
      intro vg49 b49
      have h6 := h4.xt (x5.trans xg6)
      obtain ⟨v50, q50, w50, r50, g50, o50, fin⟩ := h6.step (by omega) (k1.ext (x5.trans xg6)) hd
      refine o_mapEntry rfl rfl rfl r50 ?_
      refine o_extract rfl rfl (r_ext0) (o_extract rfl rfl (r_ext1) ?_)
      obtain ⟨v51, w51, r51, o51, gr51⟩ := r_appI (ty := 94) o50 (b49.kept g50 (.inr (h6.map.ne_row b49))).its (by have := pos_len d ((d.drop x).take 4) x; simp only [posI, List.length_map, List.length_cons, List.length_nil]; omega) (Nat.le_trans h6.ext.size g50.size)
      refine o_append rfl rfl r51 ?_
      obtain ⟨w6, r6, mv6, k6, fin⟩ := fin v51 w51 gr51 o51
      refine o_entryStore rfl rfl rfl r6 ?_
      have sz4 : w3.heap.size ≤ wg6.heap.size := Nat.le_trans mv4.size (Nat.le_trans x5.size xg6.size)
      have nX : ∀ k, w.heap.size ≤ k → k < w3.heap.size → ¬ (k = m ∨ Y' k) := fun k h1 h2 hk => by
        rcases hk with hk | hk
        · have := hf m (.inr (.inl rfl)); omega
        · rcases hY4 k hk with h | h
          · have := hf k (.inr (.inr h)); omega
          · omega
      have k26 := mv6.blk (k2.ext (Ext.trans x5 xg6)) (nX g2 hg2 b2)
      refine o_nil (n_calm (n_block (n_then (c_region (o_load rfl rfl (r_load1 Try.underlying66 rfl k26.c0) (o_nilCheck rfl rfl (o_fieldAddr rfl rfl (r_fAt (o := 2) Try.underlying69 rfl (by kernel_rfl) rfl) ?_)))))))
      refine o_load rfl rfl (r_load1 Try.underlying3 rfl (k6.cell (i := 2) rfl)) (o_bin (r := I ((x + 1 : Nat) : Int)) rfl rfl rfl (by have e : ((x + 1 : Nat) : Int) = (x : Int) + 1 := (by omega); rw [e]; exact r_add_i (by omega) (by omega)) ?_)
      refine o_nilCheck rfl rfl (o_fieldAddr rfl rfl (r_fAt (o := 2) Try.underlying69 rfl (by kernel_rfl) rfl) ?_)
      obtain ⟨w7, r7, gr7, k7⟩ : ∃ w7, (Instr.storeAt 3 (.pointer (some ⟨g, 2, none⟩)) (I ((x + 1 : Nat) : Int))).run Try.prog w6 = .ok () w7 ∧ w6.grownBy w7 (some g) ∧ Blk g 69 [.slice A n c, .map (some m), I ((x + 1 : Nat) : Int)] w7 := ⟨_, r_store1 (i := 2) size_int rfl k6 (by simp), grownBy_setCell _ _ _ _, k6.set 2 _⟩
      obtain ⟨Y7, h7, mv7, hY7⟩ := fin w7 gr7 k7
      refine o_store rfl rfl (r7) (o_nil ?_)
      have mv7' : Mv (Foot g m Y) w3 w7 := (mv4.trans (Mv.of_ext (X := fun _ => False) (Ext.trans x5 xg6)) (fun _ hn _ => hn.elim)).trans mv7 (fun k hk hl => by
        rcases hk with hk | hk | hk
        · exact .inl hk
        · exact .inr (.inl hk)
        · rcases hY4 k hk with h | h
          · exact .inr (.inr h)
          · omega)
      have hY7' : ∀ k, Y7 k → Y k ∨ w3.heap.size ≤ k := fun k hk => by
        rcases hY7 k hk with h | h
        · exact hY4 k h
        · exact .inr (by omega)
      refine n_round (x + 1) ⟨rfl, rfl, trivial⟩ ⟨by omega, Y7, h7, mv7', hY7'⟩ (by omega)
    · have hxi : i = x := by omega
      subst hxi
      have hi4 : i + 4 ≤ d.length := by omega
      have hq4 : ((d.drop i).take 4).length = 4 := by rw [List.length_take, List.length_drop]; omega
      refine c_exit (x_then (x_then (x_here (n_then (c_seq (c_region ?_))))))
      obtain ⟨g7, w7, hr7, l7, x7, k7⟩ := r_allocB (P := Try.prog) (w := wg3) (l := [I 0]) zero_int rfl
      refine o_alloc rfl hr7 ?_
      obtain ⟨g8, w8, hr8, l8, x8, k8⟩ := r_allocB (P := Try.prog) (w := w7) (l := [I 0]) zero_int rfl
      refine o_alloc rfl hr8 ?_
      have hg7 : w3.heap.size ≤ g7 := Nat.le_trans mv4.size (Nat.le_trans xg3.size l7)
      have hg8 : w3.heap.size ≤ g8 := Nat.le_trans mv4.size (Nat.le_trans xg3.size (Nat.le_trans x7.size l8))
      have h78 : g7 ≠ g8 := by have := k7.lt; omega
      have kk7 := k7.ext x8
      obtain ⟨w71, r71, gr71, k71⟩ := r_stB1 (P := Try.prog) (t := 3) (v := I 0) size_int rfl kk7
      refine o_store rfl rfl (r71) ?_
      have x71 := Ext.of_new (w := w4) ((xg3.trans x7).trans x8) gr71 (Nat.le_trans xg3.size l7)
      have kk8 := k8.other gr71 (fun e => h78 (Option.some.inj e).symm)
      obtain ⟨w72, r72, gr72, k72⟩ := r_stB1 (P := Try.prog) (t := 3) (v := I 0) size_int rfl kk8
      refine o_store rfl rfl (r72) ?_
      have x72 := Ext.of_new (w := w4) x71 gr72 (Nat.le_trans xg3.size (Nat.le_trans x7.size l8))
      have k73 := k71.other gr72 (fun e => h78 (Option.some.inj e))
      refine o_nil (n_then (c_seq (c_seq (c_grow 8 [2, 3, 7, 8, 60] (by kernel_rfl) (by kernel_rfl) ?_))))
      refine f_load rfl rfl (fun w hw => r_load1 Try.underlying66 rfl (hw.cell_some (x72.cell_some k2.c0))) (f_nilCheck rfl rfl (f_fieldAddr rfl rfl (fun w hw => r_fAt (o := 1) Try.underlying69 rfl (by kernel_rfl) rfl) ?_))
      refine f_load rfl rfl (fun w hw => r_load1 Try.underlying67 rfl (hw.cell_some (x72.cell_some (k1.cell (i := 1) rfl)))) (f_load rfl rfl (fun w hw => r_load1 Try.underlying66 rfl (hw.cell_some (x72.cell_some k2.c0))) ?_)
      refine f_load rfl rfl (fun w hw => r_load1 Try.underlying3 rfl (hw.cell_some (x72.cell_some k3.c0))) (f_call (S := Is (K4 ((d.drop i).take 4))) call_Key (Stable.is _) rfl (fun w hw => by rintro _ rfl _ rfl; exact Ret.mono (Key_spec (k1.ext (Ext.trans x72 hw)) (hd1.ext (Ext.trans x72 hw)) (by omega) hl) fun v w' h => h) ?_)
      refine f_lookupS (S := Is (.map (some m))) (R := Is (K4 ((d.drop i).take 4))) (S' := fun v w => OwnI wb.heap.size (posI d ((d.drop i).take 4) i) v w ∧ ∀ k, v.ownBlock = some k → Y' k) rfl rfl (fun _ _ _ h hx => ⟨h.1.ext hx, h.2⟩) rfl (fun w u v hw hu hv => by subst hu; subst hv; exact ((h4.map.ext (Ext.trans x72 hw)).look hq4).elim fun r h => ⟨r, h.1, h.2⟩) ?_
      refine f_nil ?_
      intro wg8 xg8
      rintro _ rfl
      rintro _ rfl
      rintro _ rfl
      rintro _ rfl
      intro vg60 q60
      obtain ⟨o60, hY60⟩ := q60
      obtain ⟨A6, n6, c6, rfl⟩ := o60.isSlice
      refine o_call call_Bwd rfl rfl (Bwd_spec) ?_
      rintro v61 w61 ⟨x61, rfl, hw61⟩
      refine o_nil (n_then (c_block ?_))
      have bs : Blk wg8.heap.size 94 [.slice A6 n6 c6] w61 := by rw [hw61]; exact heap_alloc_new _ _
      have f7 := k73.ext (xg8.trans x61)
      have f8 := k72.ext (xg8.trans x61)
      have l7' : g7 < w61.heap.size := f7.lt
      have l8' : g8 < w61.heap.size := f8.lt
      have xl := ((x72.trans xg8).trans x61)
      have szl : w3.heap.size ≤ w61.heap.size := Nat.le_trans mv4.size xl.size
      have hpl := pls_len d i
      have hnY : ∀ k, Y' k → k ≠ g7 ∧ k ≠ g8 := fun k hk => by have := (h4.low k (.inr (.inr hk))).2; have := xg3.size; have := x7.size; omega
      have hR0 : Rnd w61 g7 g8 (fld d i []) w61 := ⟨f7, f8, Mv.refl _ _⟩
      refine c_rangeFunc (α := Pl d i) (encs := Pl.enc) (Kp := Keep fun k => k < w61.heap.size ∧ k ≠ g7 ∧ k ≠ g8) (S := fun xs => xs = pls d i) (Sp := fun pre => pre <+: pls d i) (M := (pls d i).length) (w0 := w61) rfl call_Bwd1 (Bwd1_stops (o60.ext x61) bs ⟨bs.lt, by have := xg8.size; have := kk7.lt; have := gr71.size; have := gr72.size; omega, by have := xg8.size; have := kk8.lt; have := gr72.size; omega⟩ (fun k hk => ⟨((o60.ext x61).lt k hk).2, hnY k (hY60 k hk)⟩) (by simp only [hpl, posI, List.length_map]) (by have := pos_len d ((d.drop i).take 4) i; simp only [posI, List.length_map]; omega) (pls_enc d i)) (fun h k => h.trans k) ?_ (Below.refl _ _) (fun _ => rfl) (fun pre W => Rnd w61 g7 g8 (fld d i pre) W ∧ ∀ p ∈ pre, i - p.1.2 ≤ 4096) (fun c pre W => c = .exit 2 ∧ ∃ pre' y, pre = pre' ++ [y] ∧ (∀ p ∈ pre', i - p.1.2 ≤ 4096) ∧ ((4096 < i - y.1.2 ∧ Rnd w61 g7 g8 (fld d i pre') W) ∨ (i - y.1.2 ≤ 4096 ∧ i + ml d i (i - y.1.2) = d.length ∧ Rnd w61 g7 g8 (fld d i pre) W))) (fun s W W' row hs hg hr => ⟨hs.1.own l7' l8' hg (fun r e => (hr r e).1), hs.2⟩) (fun c s W W' row hs hg hr => hs.elim fun h1 h => ⟨h1, h.elim fun pre' h => h.elim fun y h => ⟨pre', y, h.1, h.2.1, h.2.2.imp (fun h => ⟨h.1, h.2.own l7' l8' hg (fun r e => (hr r e).1)⟩) (fun h => ⟨h.1, h.2.1, h.2.2.own l7' l8' hg (fun r e => (hr r e).1)⟩)⟩⟩) ⟨hR0, by simp⟩ (fun y => (10, I (y.1.2 : Int)) :: (63, I (y.1.2 : Int)) :: (62, I (y.1.1 : Int)) :: _) (fun _ => rfl) rfl rfl rfl ?_ ?_ ?_
      · intro W l o o' hl' ho _ _
        exact ⟨(grownBy_putObj' W l o').size, fun k hk => World.putObj_heap_other (by have := hk.1; omega)⟩
      · rintro lp pre y W ⟨hI, hpre⟩ hlen
        have hy1 : y.1.2 < i := y.2.1
        have hy2 := y.2.2
        have mvW := hI.mv
        have n78 : ∀ k, k < w3.heap.size → ¬ (k = g7 ∨ k = g8) := fun k hk e => by omega
        have k2 := mvW.blk (k2.ext xl) (n78 g2 b2)
        have k3 := mvW.blk (k3.ext xl) (n78 g3 b3)
        have k1 := mvW.blk (k1.ext xl) (n78 g (Nat.lt_of_lt_of_le (hf g (.inl rfl)) (Ext.size x3')))
        have hdW := hd.ext (mvW.ext_from (h4.ext.trans xl) (fun k hk => by have := h3.ext.size; omega))
        refine I.c_block (I.c_seq (I.c_seq (I.c_region rfl (o_load rfl rfl (r_load1 Try.underlying3 rfl k3.c0) (o_move rfl rfl (o_bin (r := I ((i - y.1.2 : Nat) : Int)) rfl rfl rfl (by have e : ((i - y.1.2 : Nat) : Int) = (i : Int) - (y.1.2 : Int) := (by omega); rw [e]; exact r_sub_i (by omega) (by omega)) ?_))))))
        refine o_bin rfl rfl rfl (r_gtr_i) (o_nil (I.n_then ?_))
        refine I.c_if rfl (fun h67 => ?_) (fun h67 => ?_)
        · refine I.c_exit (x_then (x_out rfl ?_))
          exact fun _ _ => ⟨KeepsFrom.refl _ _, rfl, pre, y, rfl, hpre, .inl ⟨by omega, hI⟩⟩
        · refine I.c_skip (I.n_then (I.c_seq (I.c_region rfl (o_assign rfl rfl (o_nil (I.n_then (I.c_seq (I.c_block ?_))))))))
          refine I.c_loop (α := Nat) (fun n' => [(2, .pointer (some ⟨g2, 0, none⟩)), (3, .pointer (some ⟨g3, 0, none⟩)), (7, .pointer (some ⟨g7, 0, none⟩)), (8, .pointer (some ⟨g8, 0, none⟩)), (10, I (y.1.2 : Int)), (11, I (n' : Int))]) (fun n' w' => Ext W w' ∧ 4 ≤ n' ∧ i + n' ≤ d.length ∧ ml d i (i - y.1.2) = n' + lcp (d.drop (i + n')) (d.drop (y.1.2 + n'))) (fun n' => d.length - n') (4) ⟨rfl, rfl, rfl, rfl, rfl, rfl, trivial⟩ ⟨Ext.refl _, by omega, hi4, ml_from4 hi4 hy1 hy2⟩ ?_
          rintro n' w12 ⟨e12, hn4, hnl, hml⟩
          refine I.c_seq (I.c_seq ?_)
          have hdX := hdW.ext e12
          have k1X := k1.ext e12
          have k2X := k2.ext e12
          have k3X := k3.ext e12
          have c7X := hI.c7.ext e12
          have c8X := hI.c8.ext e12
          by_cases h76 : ((i + n' : Nat) : Int) < ((d.length : Nat) : Int)
          · refine I.c_grow 29 [2, 3, 7, 8, 10, 11, 77, 96] (by kernel_rfl) (by kernel_rfl) rfl ?_
            refine f_load rfl rfl (fun w hw => r_load1 Try.underlying3 rfl (hw.cell_some k3X.c0)) (f_move rfl rfl (f_bin (r := I ((i + n' : Nat) : Int)) rfl rfl rfl (fun w _ => by have e : ((i + n' : Nat) : Int) = (i : Int) + (n' : Int) := (by omega); rw [e]; exact r_add_i (by omega) (by omega)) ?_))
            refine f_load rfl rfl (fun w hw => r_load1 Try.underlying66 rfl (hw.cell_some k2X.c0)) (f_nilCheck rfl rfl (f_fieldAddr rfl rfl (fun w hw => r_fAt (o := 0) Try.underlying69 rfl (by kernel_rfl) rfl) ?_))
            refine f_load rfl rfl (fun w hw => r_load1 Try.underlying22 rfl (hw.cell_some (k1X.cell (i := 0) rfl))) (f_len (vs := [.slice A n c]) rfl rfl (fun w hw => r_lenB (hdX.ext hw)) ?_)
            refine f_bin rfl rfl rfl (fun w _ => dec_t h76 r_lss_i) (f_move rfl rfl (f_yes rfl rfl (f_load rfl rfl (fun w hw => r_load1 Try.underlying66 rfl (hw.cell_some k2X.c0)) ?_)))
            refine f_yes rfl rfl (f_nilCheck rfl rfl (f_yes rfl rfl (f_fieldAddr rfl rfl (fun w hw => r_fAt (o := 0) Try.underlying69 rfl (by kernel_rfl) rfl) ?_)))
            refine f_yes rfl rfl (f_load rfl rfl (fun w hw => r_load1 Try.underlying22 rfl (hw.cell_some (k1X.cell (i := 0) rfl))) (f_yes rfl rfl (f_move rfl rfl (f_yes rfl rfl ?_))))
            refine f_move rfl rfl (f_yes rfl rfl (f_bin (r := I ((y.1.2 + n' : Nat) : Int)) rfl rfl rfl (fun w _ => by have e : ((y.1.2 + n' : Nat) : Int) = (y.1.2 : Int) + (n' : Int) := (by omega); rw [e]; exact r_add_i (by omega) (by omega)) ?_))
            refine f_yes rfl rfl ?_
            obtain ⟨a85, p85, q85⟩ := r_ixB hdX (i := (y.1.2 + n' : Nat)) (by omega) .i64
            refine f_indexAddr rfl rfl rfl (fun w _ => p85 w) (f_yes rfl rfl (f_load rfl rfl (fun w hw => r_load1 Try.underlying5 rfl (hw.cell_some q85)) (f_yes rfl rfl ?_)))
            refine f_load rfl rfl (fun w hw => r_load1 Try.underlying66 rfl (hw.cell_some k2X.c0)) (f_yes rfl rfl (f_nilCheck rfl rfl (f_yes rfl rfl (f_fieldAddr rfl rfl (fun w hw => r_fAt (o := 0) Try.underlying69 rfl (by kernel_rfl) rfl) ?_))))
            refine f_yes rfl rfl (f_load rfl rfl (fun w hw => r_load1 Try.underlying22 rfl (hw.cell_some (k1X.cell (i := 0) rfl))) (f_yes rfl rfl (f_load rfl rfl (fun w hw => r_load1 Try.underlying3 rfl (hw.cell_some k3X.c0)) ?_)))
            refine f_yes rfl rfl (f_move rfl rfl (f_yes rfl rfl (f_bin (r := I ((i + n' : Nat) : Int)) rfl rfl rfl (fun w _ => by have e : ((i + n' : Nat) : Int) = (i : Int) + (n' : Int) := (by omega); rw [e]; exact r_add_i (by omega) (by omega)) ?_)))
            refine f_yes rfl rfl ?_
            obtain ⟨a94, p94, q94⟩ := r_ixB hdX (i := (i + n' : Nat)) (by omega) .i64
            refine f_indexAddr rfl rfl rfl (fun w _ => p94 w) (f_yes rfl rfl (f_load rfl rfl (fun w hw => r_load1 Try.underlying5 rfl (hw.cell_some q94)) (f_yes rfl rfl ?_)))
            refine f_bin rfl rfl rfl (fun w _ => r_eql_u8) (f_nil ?_)
            intro wg12 xg12
            rintro _ rfl
            rintro _ rfl
            rintro _ rfl
            rintro _ rfl
            rintro _ rfl
            rintro _ rfl
            rintro _ rfl
            rintro _ rfl
            refine o_pick_t rfl rfl rfl (o_nil (I.n_then ?_))
            refine I.c_if rfl (fun h97 => ?_) (fun h97 => ?_)
            · refine I.c_skip (I.n_then (I.c_block (I.c_region rfl (o_move rfl rfl (o_bin (r := I ((n' + 1 : Nat) : Int)) rfl rfl rfl (by have e : ((n' + 1 : Nat) : Int) = (n' : Int) + 1 := (by omega); rw [e]; exact r_add_i (by omega) (by omega)) ?_)))))
              refine o_assign rfl rfl (o_nil (n_block ?_))
              refine n_round (n' + 1) ⟨rfl, rfl, rfl, rfl, rfl, rfl, trivial⟩ ⟨(e12.trans xg12), by omega, by omega, by rw [hml, lcp_at (by omega) (by omega), if_pos (show d[i + n'] = d[y.1.2 + n'] from h97.symm), show i + (n' + 1) = i + n' + 1 by omega, show y.1.2 + (n' + 1) = y.1.2 + n' + 1 by omega]; omega⟩ (by omega)
            · refine I.c_exit (x_then (x_then (x_here (I.n_then (I.c_seq (I.c_seq ?_))))))
              have hnn : ml d i (i - y.1.2) = n' := by
                first
                | (rw [hml, lcp_at (by omega) (by omega), if_neg (fun e => h97 e.symm)]; rfl)
                | (rw [hml, lcp_end (by omega)]; rfl)
              refine I.c_region rfl (o_move rfl rfl (o_load rfl rfl (r_load1 Try.underlying3 rfl (xg12.cell_some c7X.c0)) (o_bin rfl rfl rfl (r_gtr_i) (o_nil (I.n_then ?_)))))
              refine I.c_if rfl (fun h102 => ?_) (fun h102 => ?_)
              · have hstp : fld d i (pre ++ [y]) = (n', i - y.1.2) := by rw [fld_snoc, stp, hnn, if_pos (by omega)]
                have hS0 : wg12.drew.cell? ⟨g3, 0, none⟩ = some (I (i : Int)) := (k3.ext (Ext.trans e12 xg12).drew).c0
                obtain ⟨w15, r15, gr15, k15⟩ := r_stB1 (P := Try.prog) (t := 3) (v := I (n' : Int)) size_int rfl (hI.c7.ext (Ext.trans e12 xg12).drew)
                obtain ⟨w16, r16, gr16, k16⟩ := r_stB1 (P := Try.prog) (t := 3) (v := I ((i - y.1.2 : Nat) : Int)) size_int rfl ((hI.c8.ext (Ext.trans e12 xg12).drew).other gr15 (fun e => h78 (Option.some.inj e).symm))
                have h37 : g3 ≠ g7 ∧ g3 ≠ g8 := by omega
                have hS1 : w15.cell? ⟨g3, 0, none⟩ = some (I (i : Int)) := ((k3.ext (Ext.trans e12 xg12).drew).other gr15 (fun e => h37.1 (Option.some.inj e))).c0
                have hS2 : w16.cell? ⟨g3, 0, none⟩ = some (I (i : Int)) := (((k3.ext (Ext.trans e12 xg12).drew).other gr15 (fun e => h37.1 (Option.some.inj e))).other gr16 (fun e => h37.2 (Option.some.inj e))).c0
                refine I.c_held (fun w' => w'.cell? ⟨g3, 0, none⟩ = some (I (i : Int))) 6 rfl (by kernel_rfl) rfl ?_
                refine h_move 0 rfl rfl (by kernel_rfl) rfl hS0 ?_
                refine h_load 1 rfl rfl (by kernel_rfl) rfl hS0 (fun w' hS => r_load1 Try.underlying3 rfl hS) ?_
                refine h_move 2 rfl rfl (by kernel_rfl) rfl hS0 ?_
                refine h_bin 3 (r := I ((i - y.1.2 : Nat) : Int)) rfl rfl rfl (by kernel_rfl) rfl hS0 (fun w' _ => by have e : ((i - y.1.2 : Nat) : Int) = (i : Int) - (y.1.2 : Int) := (by omega); rw [e]; exact r_sub_i (by omega) (by omega)) ?_
                refine h_one 4 (by kernel_rfl) rfl (o_store rfl rfl r15 (h_next hS1 ?_))
                refine h_one 5 (by kernel_rfl) rfl (o_store rfl rfl r16 (h_next hS2 ?_))
                refine h_done (by kernel_rfl) ?_
                have mv16 : Mv (fun k => k = g7 ∨ k = g8) W w16 := ((Mv.of_ext (X := fun k => k = g7 ∨ k = g8) (Ext.trans e12 xg12).drew).trans (Mv.of_grown (X := fun k => k = g7 ∨ k = g8) gr15 (fun k e _ => .inl (Option.some.inj e).symm)) (fun _ hn _ => hn)).trans (Mv.of_grown (X := fun k => k = g7 ∨ k = g8) gr16 (fun k e _ => .inr (Option.some.inj e).symm)) (fun _ hn _ => hn)
                have hR : Rnd w61 g7 g8 (fld d i (pre ++ [y])) w16 := by rw [hstp]; exact ⟨k15.other gr16 (fun e => h78 (Option.some.inj e)), k16, hI.mv.trans mv16 (fun _ hn _ => hn)⟩
                refine I.n_then (I.c_seq ?_)
                have k1 := mv16.blk k1 (n78 g (Nat.lt_of_lt_of_le (hf g (.inl rfl)) (Ext.size x3')))
                have k3 := mv16.blk k3 (n78 g3 b3)
                have k2 := mv16.blk k2 (n78 g2 b2)
                have hdX := hd.ext ((hI.mv.trans mv16 (fun _ hn _ => hn)).ext_from (h4.ext.trans xl) (fun k hk => by have := h3.ext.size; omega))
                refine I.c_grow 8 [109, 114] (by kernel_rfl) (by kernel_rfl) rfl ?_
                refine f_load rfl rfl (fun w hw => r_load1 Try.underlying3 rfl (hw.cell_some k3.c0)) (f_move rfl rfl (f_bin (r := I ((i + n' : Nat) : Int)) rfl rfl rfl (fun w _ => by have e : ((i + n' : Nat) : Int) = (i : Int) + (n' : Int) := (by omega); rw [e]; exact r_add_i (by omega) (by omega)) ?_))
                refine f_load rfl rfl (fun w hw => r_load1 Try.underlying66 rfl (hw.cell_some k2.c0)) (f_nilCheck rfl rfl (f_fieldAddr rfl rfl (fun w hw => r_fAt (o := 0) Try.underlying69 rfl (by kernel_rfl) rfl) ?_))
                refine f_load rfl rfl (fun w hw => r_load1 Try.underlying22 rfl (hw.cell_some (k1.cell (i := 0) rfl))) (f_len (vs := [.slice A n c]) rfl rfl (fun w hw => r_lenB (hdX.ext hw)) ?_)
                refine f_nil ?_
                intro wg16 xg16
                rintro _ rfl
                rintro _ rfl
                refine o_bin rfl rfl rfl (r_eql_i) (o_nil (I.n_then ?_))
                refine I.c_if rfl (fun h115 => ?_) (fun h115 => ?_)
                · refine I.c_exit (x_out rfl ?_)
                  exact fun _ _ => ⟨Rnd.keeps (mv16.trans (Mv.of_ext (X := fun _ => False) xg16) (fun _ hn _ => hn.elim)) l7' l8', rfl, pre, y, rfl, hpre, .inr ⟨by omega, by omega, hR.xt xg16⟩⟩
                · refine I.c_skip (n_block ?_)
                  exact fun _ _ => ⟨Rnd.keeps (mv16.trans (Mv.of_ext (X := fun _ => False) xg16) (fun _ hn _ => hn.elim)) l7' l8', Rnd.keep (mv16.trans (Mv.of_ext (X := fun _ => False) xg16) (fun _ hn _ => hn.elim)) hI.mv.size, hR.xt xg16, fun p hp => (List.mem_append.1 hp).elim (hpre p) (fun hp => by rw [List.mem_singleton.1 hp]; omega)⟩
              · have hstp : fld d i (pre ++ [y]) = fld d i pre := by rw [fld_snoc, stp, hnn, if_neg (by omega)]
                refine I.c_skip (I.n_then (I.c_seq ?_))
                have mv16 : Mv (fun k => k = g7 ∨ k = g8) W wg12 := Mv.of_ext (Ext.trans e12 xg12)
                have hR : Rnd w61 g7 g8 (fld d i (pre ++ [y])) wg12 := by rw [hstp]; exact hI.xt (Ext.trans e12 xg12)
                refine I.c_grow 8 [109, 114] (by kernel_rfl) (by kernel_rfl) rfl ?_
                refine f_load rfl rfl (fun w hw => r_load1 Try.underlying3 rfl (hw.cell_some (xg12.cell_some k3X.c0))) (f_move rfl rfl (f_bin (r := I ((i + n' : Nat) : Int)) rfl rfl rfl (fun w _ => by have e : ((i + n' : Nat) : Int) = (i : Int) + (n' : Int) := (by omega); rw [e]; exact r_add_i (by omega) (by omega)) ?_))
                refine f_load rfl rfl (fun w hw => r_load1 Try.underlying66 rfl (hw.cell_some (xg12.cell_some k2X.c0))) (f_nilCheck rfl rfl (f_fieldAddr rfl rfl (fun w hw => r_fAt (o := 0) Try.underlying69 rfl (by kernel_rfl) rfl) ?_))
                refine f_load rfl rfl (fun w hw => r_load1 Try.underlying22 rfl (hw.cell_some (xg12.cell_some (k1X.cell (i := 0) rfl)))) (f_len (vs := [.slice A n c]) rfl rfl (fun w hw => r_lenB ((hdX.ext xg12).ext hw)) ?_)
                refine f_nil ?_
                intro wg16 xg16
                rintro _ rfl
                rintro _ rfl
                refine o_bin rfl rfl rfl (r_eql_i) (o_nil (I.n_then ?_))
                refine I.c_if rfl (fun h115 => ?_) (fun h115 => ?_)
                · refine I.c_exit (x_out rfl ?_)
                  exact fun _ _ => ⟨Rnd.keeps (mv16.trans (Mv.of_ext (X := fun _ => False) xg16) (fun _ hn _ => hn.elim)) l7' l8', rfl, pre, y, rfl, hpre, .inr ⟨by omega, by omega, hR.xt xg16⟩⟩
                · refine I.c_skip (n_block ?_)
                  exact fun _ _ => ⟨Rnd.keeps (mv16.trans (Mv.of_ext (X := fun _ => False) xg16) (fun _ hn _ => hn.elim)) l7' l8', Rnd.keep (mv16.trans (Mv.of_ext (X := fun _ => False) xg16) (fun _ hn _ => hn.elim)) hI.mv.size, hR.xt xg16, fun p hp => (List.mem_append.1 hp).elim (hpre p) (fun hp => by rw [List.mem_singleton.1 hp]; omega)⟩
          · refine I.c_grow 29 [2, 3, 7, 8, 10, 11, 77, 96] (by kernel_rfl) (by kernel_rfl) rfl ?_
            refine f_load rfl rfl (fun w hw => r_load1 Try.underlying3 rfl (hw.cell_some k3X.c0)) (f_move rfl rfl (f_bin (r := I ((i + n' : Nat) : Int)) rfl rfl rfl (fun w _ => by have e : ((i + n' : Nat) : Int) = (i : Int) + (n' : Int) := (by omega); rw [e]; exact r_add_i (by omega) (by omega)) ?_))
            refine f_load rfl rfl (fun w hw => r_load1 Try.underlying66 rfl (hw.cell_some k2X.c0)) (f_nilCheck rfl rfl (f_fieldAddr rfl rfl (fun w hw => r_fAt (o := 0) Try.underlying69 rfl (by kernel_rfl) rfl) ?_))
            refine f_load rfl rfl (fun w hw => r_load1 Try.underlying22 rfl (hw.cell_some (k1X.cell (i := 0) rfl))) (f_len (vs := [.slice A n c]) rfl rfl (fun w hw => r_lenB (hdX.ext hw)) ?_)
            refine f_bin rfl rfl rfl (fun w _ => dec_f h76 r_lss_i) (f_move rfl rfl (f_no rfl rfl rfl (f_no rfl rfl rfl (f_no rfl rfl rfl (f_no rfl rfl rfl (f_no rfl rfl rfl (f_no rfl rfl rfl ?_)))))))
            refine f_no rfl rfl rfl (f_no rfl rfl rfl (f_no rfl rfl rfl (f_no rfl rfl rfl (f_no rfl rfl rfl (f_no rfl rfl rfl (f_no rfl rfl rfl (f_no rfl rfl rfl (f_no rfl rfl rfl (f_no rfl rfl rfl ?_)))))))))
            refine f_no rfl rfl rfl (f_no rfl rfl rfl (f_no rfl rfl rfl (f_nil ?_)))
            intro wg12 xg12
            rintro _ rfl
            rintro _ rfl
            rintro _ rfl
            rintro _ rfl
            rintro _ rfl
            rintro _ rfl
            rintro _ rfl
            rintro _ rfl
            refine o_pick_f rfl rfl rfl (o_nil (I.n_then (I.c_no rfl (I.c_exit (x_then (x_then (x_here (I.n_then (I.c_seq (I.c_seq ?_))))))))))
            have hnn : ml d i (i - y.1.2) = n' := by
              first
              | (rw [hml, lcp_at (by omega) (by omega), if_neg (fun e => h97 e.symm)]; rfl)
              | (rw [hml, lcp_end (by omega)]; rfl)
            refine I.c_region rfl (o_move rfl rfl (o_load rfl rfl (r_load1 Try.underlying3 rfl (xg12.cell_some c7X.c0)) (o_bin rfl rfl rfl (r_gtr_i) (o_nil (I.n_then ?_)))))
            refine I.c_if rfl (fun h102 => ?_) (fun h102 => ?_)
            · have hstp : fld d i (pre ++ [y]) = (n', i - y.1.2) := by rw [fld_snoc, stp, hnn, if_pos (by omega)]
              have hS0 : wg12.drew.cell? ⟨g3, 0, none⟩ = some (I (i : Int)) := (k3.ext (Ext.trans e12 xg12).drew).c0
              obtain ⟨w15, r15, gr15, k15⟩ := r_stB1 (P := Try.prog) (t := 3) (v := I (n' : Int)) size_int rfl (hI.c7.ext (Ext.trans e12 xg12).drew)
              obtain ⟨w16, r16, gr16, k16⟩ := r_stB1 (P := Try.prog) (t := 3) (v := I ((i - y.1.2 : Nat) : Int)) size_int rfl ((hI.c8.ext (Ext.trans e12 xg12).drew).other gr15 (fun e => h78 (Option.some.inj e).symm))
              have h37 : g3 ≠ g7 ∧ g3 ≠ g8 := by omega
              have hS1 : w15.cell? ⟨g3, 0, none⟩ = some (I (i : Int)) := ((k3.ext (Ext.trans e12 xg12).drew).other gr15 (fun e => h37.1 (Option.some.inj e))).c0
              have hS2 : w16.cell? ⟨g3, 0, none⟩ = some (I (i : Int)) := (((k3.ext (Ext.trans e12 xg12).drew).other gr15 (fun e => h37.1 (Option.some.inj e))).other gr16 (fun e => h37.2 (Option.some.inj e))).c0
              refine I.c_held (fun w' => w'.cell? ⟨g3, 0, none⟩ = some (I (i : Int))) 6 rfl (by kernel_rfl) rfl ?_
              refine h_move 0 rfl rfl (by kernel_rfl) rfl hS0 ?_
              refine h_load 1 rfl rfl (by kernel_rfl) rfl hS0 (fun w' hS => r_load1 Try.underlying3 rfl hS) ?_
              refine h_move 2 rfl rfl (by kernel_rfl) rfl hS0 ?_
              refine h_bin 3 (r := I ((i - y.1.2 : Nat) : Int)) rfl rfl rfl (by kernel_rfl) rfl hS0 (fun w' _ => by have e : ((i - y.1.2 : Nat) : Int) = (i : Int) - (y.1.2 : Int) := (by omega); rw [e]; exact r_sub_i (by omega) (by omega)) ?_
              refine h_one 4 (by kernel_rfl) rfl (o_store rfl rfl r15 (h_next hS1 ?_))
              refine h_one 5 (by kernel_rfl) rfl (o_store rfl rfl r16 (h_next hS2 ?_))
              refine h_done (by kernel_rfl) ?_
              have mv16 : Mv (fun k => k = g7 ∨ k = g8) W w16 := ((Mv.of_ext (X := fun k => k = g7 ∨ k = g8) (Ext.trans e12 xg12).drew).trans (Mv.of_grown (X := fun k => k = g7 ∨ k = g8) gr15 (fun k e _ => .inl (Option.some.inj e).symm)) (fun _ hn _ => hn)).trans (Mv.of_grown (X := fun k => k = g7 ∨ k = g8) gr16 (fun k e _ => .inr (Option.some.inj e).symm)) (fun _ hn _ => hn)
              have hR : Rnd w61 g7 g8 (fld d i (pre ++ [y])) w16 := by rw [hstp]; exact ⟨k15.other gr16 (fun e => h78 (Option.some.inj e)), k16, hI.mv.trans mv16 (fun _ hn _ => hn)⟩
              refine I.n_then (I.c_seq ?_)
              have k1 := mv16.blk k1 (n78 g (Nat.lt_of_lt_of_le (hf g (.inl rfl)) (Ext.size x3')))
              have k3 := mv16.blk k3 (n78 g3 b3)
              have k2 := mv16.blk k2 (n78 g2 b2)
              have hdX := hd.ext ((hI.mv.trans mv16 (fun _ hn _ => hn)).ext_from (h4.ext.trans xl) (fun k hk => by have := h3.ext.size; omega))
              refine I.c_grow 8 [109, 114] (by kernel_rfl) (by kernel_rfl) rfl ?_
              refine f_load rfl rfl (fun w hw => r_load1 Try.underlying3 rfl (hw.cell_some k3.c0)) (f_move rfl rfl (f_bin (r := I ((i + n' : Nat) : Int)) rfl rfl rfl (fun w _ => by have e : ((i + n' : Nat) : Int) = (i : Int) + (n' : Int) := (by omega); rw [e]; exact r_add_i (by omega) (by omega)) ?_))
              refine f_load rfl rfl (fun w hw => r_load1 Try.underlying66 rfl (hw.cell_some k2.c0)) (f_nilCheck rfl rfl (f_fieldAddr rfl rfl (fun w hw => r_fAt (o := 0) Try.underlying69 rfl (by kernel_rfl) rfl) ?_))
              refine f_load rfl rfl (fun w hw => r_load1 Try.underlying22 rfl (hw.cell_some (k1.cell (i := 0) rfl))) (f_len (vs := [.slice A n c]) rfl rfl (fun w hw => r_lenB (hdX.ext hw)) ?_)
              refine f_nil ?_
              intro wg16 xg16
              rintro _ rfl
              rintro _ rfl
              refine o_bin rfl rfl rfl (r_eql_i) (o_nil (I.n_then ?_))
              refine I.c_if rfl (fun h115 => ?_) (fun h115 => ?_)
              · refine I.c_exit (x_out rfl ?_)
                exact fun _ _ => ⟨Rnd.keeps (mv16.trans (Mv.of_ext (X := fun _ => False) xg16) (fun _ hn _ => hn.elim)) l7' l8', rfl, pre, y, rfl, hpre, .inr ⟨by omega, by omega, hR.xt xg16⟩⟩
              · refine I.c_skip (n_block ?_)
                exact fun _ _ => ⟨Rnd.keeps (mv16.trans (Mv.of_ext (X := fun _ => False) xg16) (fun _ hn _ => hn.elim)) l7' l8', Rnd.keep (mv16.trans (Mv.of_ext (X := fun _ => False) xg16) (fun _ hn _ => hn.elim)) hI.mv.size, hR.xt xg16, fun p hp => (List.mem_append.1 hp).elim (hpre p) (fun hp => by rw [List.mem_singleton.1 hp]; omega)⟩
            · have hstp : fld d i (pre ++ [y]) = fld d i pre := by rw [fld_snoc, stp, hnn, if_neg (by omega)]
              refine I.c_skip (I.n_then (I.c_seq ?_))
              have mv16 : Mv (fun k => k = g7 ∨ k = g8) W wg12 := Mv.of_ext (Ext.trans e12 xg12)
              have hR : Rnd w61 g7 g8 (fld d i (pre ++ [y])) wg12 := by rw [hstp]; exact hI.xt (Ext.trans e12 xg12)
              refine I.c_grow 8 [109, 114] (by kernel_rfl) (by kernel_rfl) rfl ?_
              refine f_load rfl rfl (fun w hw => r_load1 Try.underlying3 rfl (hw.cell_some (xg12.cell_some k3X.c0))) (f_move rfl rfl (f_bin (r := I ((i + n' : Nat) : Int)) rfl rfl rfl (fun w _ => by have e : ((i + n' : Nat) : Int) = (i : Int) + (n' : Int) := (by omega); rw [e]; exact r_add_i (by omega) (by omega)) ?_))
              refine f_load rfl rfl (fun w hw => r_load1 Try.underlying66 rfl (hw.cell_some (xg12.cell_some k2X.c0))) (f_nilCheck rfl rfl (f_fieldAddr rfl rfl (fun w hw => r_fAt (o := 0) Try.underlying69 rfl (by kernel_rfl) rfl) ?_))
              refine f_load rfl rfl (fun w hw => r_load1 Try.underlying22 rfl (hw.cell_some (xg12.cell_some (k1X.cell (i := 0) rfl)))) (f_len (vs := [.slice A n c]) rfl rfl (fun w hw => r_lenB ((hdX.ext xg12).ext hw)) ?_)
              refine f_nil ?_
              intro wg16 xg16
              rintro _ rfl
              rintro _ rfl
              refine o_bin rfl rfl rfl (r_eql_i) (o_nil (I.n_then ?_))
              refine I.c_if rfl (fun h115 => ?_) (fun h115 => ?_)
              · refine I.c_exit (x_out rfl ?_)
                exact fun _ _ => ⟨Rnd.keeps (mv16.trans (Mv.of_ext (X := fun _ => False) xg16) (fun _ hn _ => hn.elim)) l7' l8', rfl, pre, y, rfl, hpre, .inr ⟨by omega, by omega, hR.xt xg16⟩⟩
              · refine I.c_skip (n_block ?_)
                exact fun _ _ => ⟨Rnd.keeps (mv16.trans (Mv.of_ext (X := fun _ => False) xg16) (fun _ hn _ => hn.elim)) l7' l8', Rnd.keep (mv16.trans (Mv.of_ext (X := fun _ => False) xg16) (fun _ hn _ => hn.elim)) hI.mv.size, hR.xt xg16, fun p hp => (List.mem_append.1 hp).elim (hpre p) (fun hp => by rw [List.mem_singleton.1 hp]; omega)⟩
      · rintro D0 xs W hD rfl ⟨hR, hp⟩ hDe
        have hB : Rnd w61 g7 g8 (best d i) W := by
          have e : fld d i (pls d i) = best d i := fold_far (suf := []) hi4 (pls_sorted d i) (fun p => pls_mem d i p) (by simp) (fun p hq => by obtain ⟨y, hy, rfl⟩ := List.mem_map.1 hq; exact hp y hy) (by simp)
          rw [← e]; exact hR
        refine n_block (n_then (c_seq (c_grow 3 [4, 117] (by kernel_rfl) (by kernel_rfl) ?_)))
        refine f_load rfl rfl (fun w hw => r_load1 Try.underlying3 rfl (hw.cell_some hB.c7.c0)) (f_load rfl rfl (fun w hw => r_load1 Try.underlying3 rfl (hw.cell_some hB.c8.c0)) ?_)
        refine f_assign rfl rfl (f_nil ?_)
        intro wg17 xg17
        rintro _ rfl
        rintro _ rfl
        refine o_assign rfl rfl (o_nil (n_then (c_ret (k_body2 rfl rfl rfl (xg17.heap_some hDe) ?_))))
        intro w9 hg9
        have mvl : Mv (fun k => k = g7 ∨ k = g8) w61 w9 := (hB.mv.trans (Mv.of_ext (X := fun _ => False) xg17) (fun _ hn _ => hn.elim)).trans (Mv.of_grown (X := fun k => k = D0) hg9 (fun k e _ => (Option.some.inj e).symm)) (fun k hk hl => by omega)
        have mva : Mv (Foot g m Y) w w9 := (((Mv.of_ext (X := Foot g m Y) x3').trans mv4 (fun _ hn _ => hn)).trans (Mv.of_ext (X := fun _ => False) xl) (fun _ hn _ => hn.elim)).trans mvl (fun k hk hl => by have := x2.size; have := x3.size; omega)
        exact ⟨_, rfl, rfl, i, Y', Nat.le_refl _, (h4.xt xl).mv mvl (fun k hk e => by
          have := (h4.low k hk).2
          have := xg3.size
          have := x7.size
          omega) (fun k hk => by have := h3.ext.size; omega), mva, fun k hk => (hY4 k hk).imp_right (fun h => by have := x2.size; have := x3.size; omega)⟩
      · rintro D0 _ pre W hD hSp ⟨rfl, pre', y, rfl, hp, hcase⟩ hDe
        have hB : Rnd w61 g7 g8 (best d i) W := by
          obtain ⟨suf, hs⟩ := hSp
          have hps : ∀ p ∈ pre'.map (·.1.2), i - p ≤ 4096 := fun p hq => by obtain ⟨z, hz, rfl⟩ := List.mem_map.1 hq; exact hp z hz
          rcases hcase with ⟨hfar, hR⟩ | ⟨hnear, hfull, hR⟩
          · have e : fld d i pre' = best d i := fold_far (suf := y.1.2 :: suf.map (·.1.2)) hi4 (pls_sorted d i) (fun p => pls_mem d i p) (by rw [← hs]; simp) hps (fun p hq => by
              have hsrt := pls_sorted d i
              rw [← hs] at hsrt
              simp only [List.map_append, List.map_cons, List.append_assoc, List.cons_append, List.nil_append] at hsrt
              rcases List.mem_cons.1 hq with rfl | hq
              · exact hfar
              · have := (List.pairwise_cons.1 (List.pairwise_append.1 hsrt).2.1).1 p hq
                omega)
            rw [← e]; exact hR
          · have e : fld d i (pre' ++ [y]) = best d i := by
              have := fold_full (pre := pre'.map (·.1.2)) (x := y.1.2) (suf := suf.map (·.1.2)) hi4 (pls_sorted d i) (fun p => pls_mem d i p) (by rw [← hs]; simp) (fun p hq => by
                rcases List.mem_append.1 hq with hq | hq
                · exact hps p hq
                · rw [List.mem_singleton.1 hq]; exact hnear) hfull
              unfold fld
              rw [List.map_append]; exact this
            rw [← e]; exact hR
        refine c_exit (x_here (n_then (c_seq (c_grow 3 [4, 117] (by kernel_rfl) (by kernel_rfl) ?_))))
        refine f_load rfl rfl (fun w hw => r_load1 Try.underlying3 rfl (hw.cell_some hB.c7.c0)) (f_load rfl rfl (fun w hw => r_load1 Try.underlying3 rfl (hw.cell_some hB.c8.c0)) ?_)
        refine f_assign rfl rfl (f_nil ?_)
        intro wg17 xg17
        rintro _ rfl
        rintro _ rfl
        refine o_assign rfl rfl (o_nil (n_then (c_ret (k_body2 rfl rfl rfl (xg17.heap_some hDe) ?_))))
        intro w9 hg9
        have mvl : Mv (fun k => k = g7 ∨ k = g8) w61 w9 := (hB.mv.trans (Mv.of_ext (X := fun _ => False) xg17) (fun _ hn _ => hn.elim)).trans (Mv.of_grown (X := fun k => k = D0) hg9 (fun k e _ => (Option.some.inj e).symm)) (fun k hk hl => by omega)
        have mva : Mv (Foot g m Y) w w9 := (((Mv.of_ext (X := Foot g m Y) x3').trans mv4 (fun _ hn _ => hn)).trans (Mv.of_ext (X := fun _ => False) xl) (fun _ hn _ => hn.elim)).trans mvl (fun k hk hl => by have := x2.size; have := x3.size; omega)
        exact ⟨_, rfl, rfl, i, Y', Nat.le_refl _, (h4.xt xl).mv mvl (fun k hk e => by
          have := (h4.low k hk).2
          have := xg3.size
          have := x7.size
          omega) (fun k hk => by have := h3.ext.size; omega), mva, fun k hk => (hY4 k hk).imp_right (fun h => by have := x2.size; have := x3.size; omega)⟩
end Go.Rl
/- compress.Pack and its closure walked. Conditions: the bytes are not more than 2^40. -/
namespace Go.Rl
open Go.RowKit Go.Proofs
theorem call_Put : Callable Try.prog 39 := ⟨_, Try.func39, by kernel_rfl, rfl⟩
theorem call_APack : Callable Try.prog 15 := ⟨_, Try.func15, by kernel_rfl, rfl⟩
/-- The state of packing: the finder at g with its map at m, the cell c of what has come out. -/
structure Pst (wb : World) (d : List UInt8) (g m c nx : Nat) (O : List UInt8) (Y : Nat → Prop) (v : Value) (w : World) : Prop where
  fnd : Fnd wb d g m nx Y w
  cell : Blk c 22 [v] w
  own : OwnB wb.heap.size O v w
  nc : ¬ Foot g m Y c
  nv : ∀ k, v.ownBlock = some k → ¬ Foot g m Y k
  low : wb.heap.size ≤ c
def PstE (wb : World) (d : List UInt8) (g m c nx : Nat) (O : List UInt8) (w : World) : Prop := ∃ Y v, Pst wb d g m c nx O Y v w
section
variable {wb w w' : World} {d O O' : List UInt8} {g m c nx : Nat} {Y : Nat → Prop} {v v' : Value}
theorem Pst.xt (h : Pst wb d g m c nx O Y v w) (hx : Ext w w') : Pst wb d g m c nx O Y v w' := ⟨h.fnd.xt hx, h.cell.ext hx, h.own.ext hx, h.nc, h.nv, h.low⟩
theorem Pst.outs (h : Pst wb d g m c nx O Y v w) (hm : Mv (fun k => k = c ∨ v.ownBlock = some k) w w') (hc : Blk c 22 [v'] w') (ho : OwnB wb.heap.size O' v' w') (hv : v'.ownBlock = v.ownBlock ∨ ∀ k, v'.ownBlock = some k → w.heap.size ≤ k) : Pst wb d g m c nx O' Y v' w' :=
  ⟨h.fnd.mv hm (fun k hk e => e.elim (fun e => h.nc (e ▸ hk)) (fun e => h.nv k e hk)) (fun k hk => hk.elim (fun e => e ▸ h.low) (fun e => h.own.ge k e)), hc, ho, h.nc, fun k hk hf => by
    rcases hv with e | e
    · exact h.nv k (e ▸ hk) hf
    · have := (h.fnd.low k hf).2
      have := e k hk
      omega, h.low⟩
theorem Pst.found {nx' : Nat} {Y' : Nat → Prop} (h : Pst wb d g m c nx O Y v w) (hf : Fnd wb d g m nx' Y' w') (hm : Mv (Foot g m Y) w w') (hY : ∀ k, Y' k → Y k ∨ w.heap.size ≤ k) : Pst wb d g m c nx' O Y' v w' := by
  have hlt : c < w.heap.size := h.cell.lt
  have key : ∀ k, k < w.heap.size → ¬ Foot g m Y k → ¬ Foot g m Y' k := fun k hk hn hf => hf.elim (fun e => hn (.inl e)) fun e => e.elim (fun e => hn (.inr (.inl e))) fun e => (hY k e).elim (fun e => hn (.inr (.inr e))) fun e => by omega
  refine ⟨hf, hm.blk h.cell h.nc, hm.ownB h.own h.nv, key c hlt h.nc, fun k hk => key k ?_ (h.nv k hk), h.low⟩
  obtain ⟨n, ho⟩ := h.own
  exact (World.ownsRow.lt ho k hk).2
end
/-- A row of bytes has grown, and the cell takes it. -/
theorem Pst.grew {wb wa w1 w2 : World} {d O O' : List UInt8} {g m c nx : Nat} {Y : Nat → Prop} {v v' : Value} (h : Pst wb d g m c nx O Y v wa) (hg : Grew wa w1 v v') (ho : OwnB wb.heap.size O' v' w1) (h2 : w1.grownBy w2 (some c)) (hc : Blk c 22 [v'] w2) (hvc : v'.ownBlock ≠ some c) : Pst wb d g m c nx O' Y v' w2 :=
  h.outs ((Mv.of_grown (X := fun k => k = c ∨ v.ownBlock = some k) hg.grown (fun _ e _ => .inr e)).trans (Mv.of_grown (X := fun k => k = c ∨ v.ownBlock = some k) h2 (fun _ e _ => .inl (Option.some.inj e).symm)) (fun _ hn _ => hn)) hc (ho.kept h2 (.inr hvc)) hg.own
theorem OwnB.cells {base : Nat} {l : List UInt8} {v : Value} {w : World} (h : OwnB base l v w) {k : Nat} (hk : v.ownBlock = some k) : ∃ cs f, w.heap[k]? = some (.cells cs 5 f) := by
  obtain ⟨n, h1, h2⟩ := h
  rcases h2 with ⟨rfl, _⟩ | ⟨g, cap, cur, rfl, h3, h4, h5⟩
  · cases hk
  · obtain rfl : g = k := Option.some.inj hk
    exact ⟨_, _, h4⟩
theorem OwnB.ne_cell {base c : Nat} {l : List UInt8} {v u : Value} {w : World} (h : OwnB base l v w) (hc : Blk c 22 [u] w) : v.ownBlock ≠ some c := fun hk => by
  obtain ⟨cs, f, h1⟩ := h.cells hk
  rw [hc] at h1
  simp at h1
theorem Put_spec {wb w : World} {d O : List UInt8} {g m c nx n : Nat} (h : PstE wb d g m c nx O w) (hO : O.length ≤ 70368744177664) (hn : n ≤ 9223372036854775807) :
    Calls Try.prog 39 #[I (n : Int), .pointer (some ⟨c, 0, none⟩)] w (Ret fun _ w' => PstE wb d g m c nx (O ++ uv n) w') := by
  refine enter (vs := [I (n : Int), .pointer (some ⟨c, 0, none⟩)]) Try.func39 rfl rfl rfl ?_
  obtain ⟨Y, v, hp⟩ := h
  have kc := hp.cell
  refine c_grow 4 [1, 3, 6] (by kernel_rfl) (by kernel_rfl) ?_
  refine f_load rfl rfl (fun w hw => r_load1 Try.underlying22 rfl (hw.cell_some kc.c0)) (f_move rfl rfl (f_conv rfl rfl (fun w hw => r_n_u64 Try.underlying3 Try.underlying31) ?_))
  refine f_call (S := Bts (uv n)) call_AppendUint (Bts.stable _) rfl (fun w hw => by rintro _ rfl _ rfl; exact Ret.mono (AppendUint_spec (Bts.nil _) (by simp)) fun v w' h => ⟨h.1, by have := h.2.bts; rw [List.nil_append, n64 (by omega)] at this; exact this⟩) ?_
  refine f_nil ?_
  intro wg0 xg0
  rintro _ rfl
  rintro _ hq3
  obtain rfl := Eq.symm hq3
  intro vg6 b6
  have hp := hp.xt xg0
  have hul := uv_len (n := n) (by omega)
  obtain ⟨v7, w7, r7, o7, g7⟩ := r_appB (ty := 22) hp.own b6 (by omega) (Nat.le_trans hp.fnd.ext.size (Nat.le_refl _))
  refine o_append rfl rfl r7 ?_
  have kc7 := hp.cell.other g7.grown (fun e => (hp.own.ne_cell hp.cell) e.symm)
  obtain ⟨w8, r8, g8, k8⟩ := r_stB1 (P := Try.prog) (t := 22) (v := v7) size_bytes (by obtain ⟨A, n, c, rfl, _⟩ := id o7.bts; rfl) kc7
  refine o_store rfl rfl (r8) (o_nil (n_body0 rfl ?_))
  exact ⟨_, rfl, Y, v7, hp.grew g7 o7 g8 k8 (o7.ne_cell kc7)⟩
theorem Put_call {wb w : World} {d O : List UInt8} {g m c nx n : Nat} {Y : Nat → Prop} {v : Value} (h : Pst wb d g m c nx O Y v w) (hO : O.length ≤ 70368744177664) (hn : n ≤ 9223372036854775807) :
    Calls Try.prog 39 ((#[] : Array Value) ++ [I (n : Int)].toArray ++ #[.pointer (some ⟨c, 0, none⟩)]) w (Ret fun _ w' => PstE wb d g m c nx (O ++ uv n) w') := by
  have := Put_spec ⟨Y, v, h⟩ hO hn
  simpa using this
theorem zero_bytes : (Try.prog.info? 22).map (·.zero) = some (some (.slice none 0 0)) := by kernel_rfl
theorem zero_finder : (Try.prog.info? 69).map (·.zero) = some (some (.agg #[.slice none 0 0, .map none, .int .i64 0])) := by kernel_rfl
theorem size_map : (Try.prog.info? 67).map (·.size) = some 1 := by kernel_rfl
/-- An empty map. -/
theorem MapAt.new {base : Nat} {d : List UInt8} {w : World} {m : Nat} (h : w.heap[m]? = some (.map #[] 0)) : MapAt base d m 0 (fun _ => False) w :=
  ⟨[], 0, h, fun e he => by simp at he, fun i j e f hi => by simp at hi, fun q hq => absurd (pos_zero d q) hq⟩
theorem APack_spec {w : World} {d : List UInt8} {v : Value} (hv : Bts d v w) (hl : d.length ≤ 1099511627776) :
    Calls Try.prog 15 #[v] w (Ret fun r w' => Ext w w' ∧ Bts (packed d) r w') := by
  refine enter (vs := [v]) Try.func15 rfl rfl rfl ?_
  have hpl := packed_any (d := d) (by omega)
  obtain ⟨A, n, c0, rfl, _⟩ := id hv
  refine c_seq (c_region (o_assign rfl rfl (o_nil (n_then (c_seq (c_region (o_move rfl rfl ?_)))))))
  refine o_makeMap rfl ?_
  obtain ⟨w1, hw1⟩ : ∃ w1, w1 = w.alloc (.map #[] 0) := ⟨_, rfl⟩
  have x1 : Ext w w1 := hw1 ▸ Ext.new w _
  have m1 : w1.heap[w.heap.size]? = some (.map #[] 0) := by rw [hw1]; exact heap_alloc_new w _
  rw [← hw1]
  refine o_build (vs := [(0, .slice A n c0), (1, .map (some w.heap.size))]) rfl rfl (r := .agg #[.slice A n c0, .map (some w.heap.size), I 0]) (by simp [Instr.build, run_underlying Try.underlying69, r_zero zero_finder, r_sizeOf size_bytes, r_sizeOf size_map, Instr.fill, Value.cells, I]) ?_
  refine o_box rfl rfl (r_box) ?_
  obtain ⟨w2, hw2⟩ : ∃ w2, w2 = w1.alloc (.cells (Value.agg #[.slice A n c0, .map (some w.heap.size), I 0]).cells 69) := ⟨_, rfl⟩
  have x2 : Ext w1 w2 := hw2 ▸ Ext.new w1 _
  have k2 : Blk w1.heap.size 69 [.slice A n c0, .map (some w.heap.size), I ((0 : Nat) : Int)] w2 := by rw [hw2]; exact heap_alloc_new w1 _
  rw [← hw2]
  obtain ⟨g, hg⟩ : ∃ g, g = w1.heap.size := ⟨_, rfl⟩
  obtain ⟨m, hm⟩ : ∃ m, m = w.heap.size := ⟨_, rfl⟩
  rw [← hg, ← hm] at k2
  have hmg : m < g := by have := (Array.getElem?_eq_some_iff.1 m1).1; omega
  have fnd0 : Fnd w d g m 0 (fun _ => False) w2 := ⟨x1.trans x2, fun k hk => by
    have := k2.lt
    have := x1.size
    rcases hk with rfl | rfl | hk
    · exact ⟨by omega, k2.lt⟩
    · exact ⟨by omega, by omega⟩
    · exact hk.elim, id, id, by omega, ⟨A, n, c0, k2, hv⟩, MapAt.new (by rw [hm]; exact x2.heap_some m1)⟩
  rw [← hg]
  refine o_assign rfl rfl (o_nil (n_then (c_seq (c_region (o_move rfl rfl (o_len rfl rfl (r_lenB (hv.ext (x1.trans x2))) (o_conv rfl rfl (r_n_u64 Try.underlying3 Try.underlying31) ?_)))))))
  refine o_call call_AppendUint rfl rfl (AppendUint_spec (Bts.nil _) (by simp)) ?_
  rintro v17 w17 ⟨x17, o17⟩
  rw [List.nil_append, n64 (by omega)] at o17
  obtain ⟨g4, w4, hr4, l4, x4, k4⟩ := r_allocB (P := Try.prog) (w := w17) (l := [.slice none 0 0]) zero_bytes rfl
  refine o_alloc rfl hr4 ?_
  obtain ⟨w5, r5, g5, k5⟩ := r_stB1 (P := Try.prog) (t := 22) (v := v17) size_bytes (by obtain ⟨A, n, c, rfl, _⟩ := id o17.bts; rfl) k4
  refine o_store rfl rfl (r5) ?_
  have x5 : Ext w2 w5 := Ext.of_new (w := w2) (x17.trans x4) g5 (Nat.le_trans x17.size l4)
  have own5 : OwnB w.heap.size (uv d.length) v17 w5 := by
    obtain ⟨n', hn'⟩ := (o17.ext x4).kept g5 (.inr (o17.ext x4 |>.ne_cell k4))
    exact ⟨n', ownsRow_base hn' (fun k hk => Nat.le_trans (x1.trans x2).size (o17.ge k hk))⟩
  have pst0 : PstE w d g m g4 0 (uv d.length) w5 := ⟨fun _ => False, v17, fnd0.xt x5, k5, own5, fun hf => by
    rcases hf with rfl | rfl | hf
    · have := k2.lt; have := x17.size; omega
    · have := k2.lt; have := x17.size; omega
    · exact hf, fun k hk hf => by
    have := o17.ge k hk
    rcases hf with rfl | rfl | hf
    · have := k2.lt; omega
    · have := k2.lt; omega
    · exact hf, Nat.le_trans (x1.trans x2).size (Nat.le_trans x17.size l4)⟩
  refine o_nil (n_then (c_seq (c_region (o_assign rfl rfl (o_nil (n_then (c_seq (c_region ?_))))))))
  refine o_makeFunc (us := []) (vs := [.pointer (some ⟨g4, 0, none⟩)]) rfl rfl rfl ?_
  refine o_assign rfl rfl (o_nil (n_then (c_seq (c_seq (c_region (o_assign rfl rfl (o_nil (n_then (c_block ?_)))))))))
  refine c_loop3 (fun (i : Nat) (run : Nat) (O : List UInt8) => [(0, .slice A n c0), (3, .pointer (some ⟨g, 0, none⟩)), (4, .pointer (some ⟨g4, 0, none⟩)), (5, I (run : Int)), (6, .func (.func 39) #[] #[.pointer (some ⟨g4, 0, none⟩)]), (7, I (i : Int))]) (fun (i : Nat) (run : Nat) (O : List UInt8) w' => i ≤ d.length ∧ run ≤ i ∧ (∃ nx, nx ≤ i ∧ PstE w d g m g4 nx O w') ∧ O ++ pk d i run = packed d) (fun (i : Nat) (run : Nat) (O : List UInt8) => d.length - i) (0) (0) (uv d.length) ⟨rfl, rfl, rfl, rfl, rfl, rfl, trivial⟩ ⟨by omega, by omega, ⟨0, by omega, pst0⟩, rfl⟩ ?_
  rintro i run O w6 ⟨hi, hri, ⟨nx, hnx, Y, vo, hp⟩, hq⟩
  refine c_seq (c_seq ?_)
  have hOl : O.length ≤ (packed d).length := by rw [← hq, List.length_append]; omega
  refine c_region (o_move rfl rfl (o_move rfl rfl (o_len rfl rfl (r_lenB (hv.ext hp.fnd.ext)) (o_bin rfl rfl rfl (r_lss_i) (o_nil (n_then ?_))))))
  refine c_if rfl (fun h22 => ?_) (fun h22 => ?_)
  · refine c_skip (n_then (c_block (c_seq (c_region (o_move rfl rfl (o_move rfl rfl (o_call call_Match rfl rfl ((Match_spec hp.fnd hnx hi hl)) ?_)))))))
    rintro v26 w26 ⟨rfl, nx', Y', hnx', f26, mv26, hY26⟩
    have x26 := f26.ext
    have hp26 := hp.found f26 mv26 hY26
    refine o_move rfl rfl (o_extract rfl rfl (r_ext0) (o_extract rfl rfl (r_ext1) (o_assign rfl rfl (o_assign rfl rfl (o_nil (n_then (c_seq (c_seq (c_region (o_move rfl rfl (o_bin rfl rfl rfl (r_eql_i) ?_)))))))))))
    refine o_nil (n_then ?_)
    refine c_if rfl (fun h30 => ?_) (fun h30 => ?_)
    · have hb0 : (best d i).1 = 0 := by omega
      refine c_seq (c_region (o_move rfl rfl (o_bin (r := I ((i + 1 : Nat) : Int)) rfl rfl rfl (by have e : ((i + 1 : Nat) : Int) = (i : Int) + 1 := (by omega); rw [e]; exact r_add_i (by omega) (by omega)) ?_)))
      refine o_assign rfl rfl (o_nil (n_then (c_seq (c_region (o_move rfl rfl (o_bin (r := I ((run + 1 : Nat) : Int)) rfl rfl rfl (by have e : ((run + 1 : Nat) : Int) = (run : Int) + 1 := (by omega); rw [e]; exact r_add_i (by omega) (by omega)) ?_))))))
      refine o_assign rfl rfl (o_nil (n_then (c_exit (x_then (x_here ?_)))))
      refine n_round3 (i + 1) (run + 1) (O) ⟨rfl, rfl, rfl, rfl, rfl, rfl, trivial⟩ ⟨by omega, by omega, ⟨nx', by omega, Y', vo, hp26⟩, by rw [pk_lit (by omega) hb0] at hq; exact hq⟩ (by omega)
    · have hb0 : (best d i).1 ≠ 0 := by omega
      obtain ⟨h4, h1, h2, h3, _, h5⟩ := best_ok hb0
      rw [pk_match (by omega) hb0] at hq
      obtain ⟨L, hL⟩ : ∃ L, L = (d.drop (i - run)).take run := ⟨_, rfl⟩
      rw [← hL] at hq
      have hLl : L.length = run := by rw [hL, List.length_take, List.length_drop]; omega
      have u1 := uv_len (n := run) (by omega)
      have u2 := uv_len (n := (best d i).1 - 4) (by omega)
      refine c_skip (n_then (c_seq (c_region (o_move rfl rfl (o_move rfl rfl (o_callfn rfl call_Put rfl rfl ((Put_call hp26 (by omega) (by omega))) ?_))))))
      rintro v37 w37 ⟨Y1, v1, p37⟩
      have x37 := p37.fnd.ext
      refine o_nil (n_then (c_seq ?_))
      have kc := p37.cell
      refine c_grow 7 [0, 3, 4, 6, 7, 8, 9, 38, 44] (by kernel_rfl) (by kernel_rfl) ?_
      refine f_load rfl rfl (fun w hw => r_load1 Try.underlying22 rfl (hw.cell_some kc.c0)) (f_move rfl rfl (f_move rfl rfl (f_move rfl rfl (f_bin (r := I ((i - run : Nat) : Int)) rfl rfl rfl (fun w _ => by have e : ((i - run : Nat) : Int) = (i : Int) - (run : Int) := (by omega); rw [e]; exact r_sub_i (by omega) (by omega)) ?_))))
      refine f_move rfl rfl ?_
      obtain ⟨v44, p44, b44⟩ := r_slB (hv.ext x37) (lo := i - run) (hi := i) (by omega) (by omega) .i64 .i64
      refine f_slice rfl rfl rfl rfl (fun w _ => p44 w) (f_nil ?_)
      intro wg12 xg12
      rintro _ rfl
      rintro _ rfl
      rintro _ rfl
      rintro _ rfl
      rintro _ rfl
      rintro _ rfl
      rintro _ rfl
      rintro _ hq38
      obtain rfl := Eq.symm hq38
      rintro _ hq44
      obtain rfl := Eq.symm hq44
      have b45 : Bts L v44 wg12 := by have := b44; rw [List.drop_take, show i - (i - run) = run by omega, ← hL] at this; exact this.ext xg12
      have p12 := p37.xt xg12
      obtain ⟨v45, w45, r45, o45, g45⟩ := r_appB (ty := 22) p12.own b45 (by simp only [List.length_append]; omega) p12.fnd.ext.size
      refine o_append rfl rfl r45 ?_
      have kc45 := p12.cell.other g45.grown (fun e => (p12.own.ne_cell p12.cell) e.symm)
      obtain ⟨w46, r46, g46, k46⟩ := r_stB1 (P := Try.prog) (t := 22) (v := v45) size_bytes (by obtain ⟨A, n, c, rfl, _⟩ := id o45.bts; rfl) kc45
      refine o_store rfl rfl (r46) ?_
      have p46 := p12.grew g45 o45 g46 k46 (o45.ne_cell kc45)
      have x46 := p46.fnd.ext
      refine o_nil (n_then (c_seq (c_region (o_move rfl rfl (o_move rfl rfl (o_bin (r := I (((best d i).1 - 4 : Nat) : Int)) rfl rfl rfl (by have e : (((best d i).1 - 4 : Nat) : Int) = ((best d i).1 : Int) - 4 := (by omega); rw [e]; exact r_sub_i (by omega) (by omega)) ?_))))))
      refine o_callfn rfl call_Put rfl rfl ((Put_call p46 (by simp only [List.length_append]; omega) (by omega))) ?_
      rintro v49 w49 ⟨Y2, v2, p49⟩
      have x49 := p49.fnd.ext
      refine o_nil (n_then (c_seq (c_region (o_move rfl rfl (o_move rfl rfl (o_bin (r := I (((best d i).2 - 1 : Nat) : Int)) rfl rfl rfl (by have e : (((best d i).2 - 1 : Nat) : Int) = ((best d i).2 : Int) - 1 := (by omega); rw [e]; exact r_sub_i (by omega) (by omega)) ?_))))))
      refine o_callfn rfl call_Put rfl rfl ((Put_call p49 (by simp only [List.length_append]; omega) (by omega))) ?_
      rintro v53 w53 p53
      have x53 := (p53.elim fun _ h => h.elim fun _ h => h.fnd.ext)
      refine o_nil (n_then (c_seq (c_region (o_move rfl rfl (o_move rfl rfl (o_bin (r := I ((i + (best d i).1 : Nat) : Int)) rfl rfl rfl (by have e : ((i + (best d i).1 : Nat) : Int) = (i : Int) + ((best d i).1 : Int) := (by omega); rw [e]; exact r_add_i (by omega) (by omega)) ?_))))))
      refine o_assign rfl rfl (o_nil (n_then (c_region (o_assign rfl rfl (o_nil (n_block ?_))))))
      refine n_round3 (i + (best d i).1) (0) (O ++ uv run ++ L ++ uv ((best d i).1 - 4) ++ uv ((best d i).2 - 1)) ⟨rfl, rfl, rfl, rfl, rfl, rfl, trivial⟩ ⟨h5, by omega, ⟨nx', by omega, p53⟩, by rw [← hq]; simp only [List.append_assoc]⟩ (by omega)
  · have hie : i = d.length := by omega
    rw [pk_end (by omega)] at hq
    refine c_exit (x_then (x_then (x_here (n_then (c_seq (c_seq (c_region (o_move rfl rfl (o_bin rfl rfl rfl (r_gtr_i) (o_nil (n_then ?_)))))))))))
    refine c_if rfl (fun h58 => ?_) (fun h58 => ?_)
    · rw [if_pos (by omega)] at hq
      have u1 := uv_len (n := run) (by omega)
      refine c_seq (c_region (o_move rfl rfl (o_move rfl rfl (o_callfn rfl call_Put rfl rfl ((Put_call hp (by omega) (by omega))) ?_))))
      rintro v61 w61 ⟨Y1, v1, p61⟩
      have x61 := p61.fnd.ext
      refine o_nil (n_then ?_)
      have kc := p61.cell
      refine c_grow 7 [4, 62, 68] (by kernel_rfl) (by kernel_rfl) ?_
      refine f_load rfl rfl (fun w hw => r_load1 Try.underlying22 rfl (hw.cell_some kc.c0)) (f_move rfl rfl (f_move rfl rfl (f_len (vs := [.slice A n c0]) rfl rfl (fun w hw => r_lenB ((hv.ext x61).ext hw)) ?_)))
      refine f_move rfl rfl (f_bin (r := I ((d.length - run : Nat) : Int)) rfl rfl rfl (fun w _ => by have e : ((d.length - run : Nat) : Int) = (d.length : Int) - (run : Int) := (by omega); rw [e]; exact r_sub_i (by omega) (by omega)) ?_)
      obtain ⟨v68, p68, b68⟩ := r_slB_lo (hv.ext x61) (lo := d.length - run) (by omega) .i64
      refine f_slice rfl rfl rfl rfl (fun w _ => p68 w) (f_nil ?_)
      intro wg19 xg19
      rintro _ rfl
      rintro _ hq62
      obtain rfl := Eq.symm hq62
      rintro _ hq68
      obtain rfl := Eq.symm hq68
      have p19 := p61.xt xg19
      obtain ⟨v69, w69, r69, o69, g69⟩ := r_appB (ty := 22) p19.own (b68.ext xg19) (by simp only [List.length_append, List.length_drop]; omega) p19.fnd.ext.size
      refine o_append rfl rfl r69 ?_
      have kc69 := p19.cell.other g69.grown (fun e => (p19.own.ne_cell p19.cell) e.symm)
      obtain ⟨w70, r70, g70, k70⟩ := r_stB1 (P := Try.prog) (t := 22) (v := v69) size_bytes (by obtain ⟨A, n, c, rfl, _⟩ := id o69.bts; rfl) kc69
      refine o_store rfl rfl (r70) ?_
      have p70 := p19.grew g69 o69 g70 k70 (o69.ne_cell kc69)
      refine o_nil (n_then (c_seq (c_region (o_load rfl rfl (r_load1 Try.underlying22 rfl k70.c0) (o_assign rfl rfl (o_nil (n_then (c_ret (r_body1 rfl rfl ?_)))))))))
      exact ⟨_, rfl, p70.fnd.ext, by rw [← hq, ← List.append_assoc]; exact p70.own.bts⟩
    · rw [if_neg (by omega), List.append_nil] at hq
      refine c_skip (n_then (c_seq ?_))
      have kc := hp.cell
      refine c_region (o_load rfl rfl (r_load1 Try.underlying22 rfl kc.c0) (o_assign rfl rfl (o_nil (n_then (c_ret (r_body1 rfl rfl ?_))))))
      exact ⟨_, rfl, hp.fnd.ext, by rw [← hq]; exact hp.own.bts⟩
end Go.Rl
/- compress.Unpack walked, and the examples. Conditions: not more than 2^32 bytes, what is said to come out not more than 2^32 either. -/
namespace Go.Rl
open Go.RowKit Go.Proofs
theorem call_AUnp : Callable Try.prog 17 := ⟨_, Try.func17, by kernel_rfl, rfl⟩
theorem call_Awake10 : Callable Try.prog 14 := ⟨_, Try.func14, by kernel_rfl, rfl⟩
theorem unp_len {total : Nat} : ∀ (f : Nat) (l O out : List UInt8), O.length ≤ total → unp total f l O = some out → out.length ≤ total
  | 0, _, _, _, _, h => by cases h
  | f + 1, l, O, out, hO, h => by
    unfold unp at h
    split at h
    · cases hU : rdU l with
      | none => rw [hU] at h; cases h
      | some p =>
        obtain ⟨n, t⟩ := p
        rw [hU] at h
        simp only [Option.bind_some] at h
        split at h
        · cases h
        · rename_i hn
          split at h
          · split at h
            · obtain rfl := Option.some.inj h
              rw [List.length_append, List.length_take]; omega
            · cases h
          · cases hV : rdU (t.drop n) with
            | none => rw [hV] at h; cases h
            | some q =>
              obtain ⟨m, t2⟩ := q
              rw [hV] at h
              simp only [Option.bind_some] at h
              split at h
              · cases h
              · cases hW : rdU t2 with
                | none => rw [hW] at h; cases h
                | some r =>
                  obtain ⟨k, t3⟩ := r
                  rw [hW] at h
                  simp only [Option.bind_some] at h
                  split at h
                  · cases h
                  · refine unp_len f _ _ _ ?_ h
                    rw [cpy_len, List.length_append, List.length_take]
                    omega
    · split at h
      · obtain rfl := Option.some.inj h
        exact hO
      · cases h
theorem vp_of {l t O : List UInt8} {n : Nat} (h : unp n (n + 1) t [] = some O) : vp l t n = if packed O = l then some O else none := by
  unfold vp; rw [h]; rfl
theorem vp_no {l t : List UInt8} {n : Nat} (h : unp n (n + 1) t [] = none) : vp l t n = none := by
  unfold vp; rw [h]; rfl
section
variable {w : World} {rest : List UInt8} {v : Value} {total : Nat}
theorem AExp_none (hv : Bts rest v w) (hl : rest.length ≤ 549755813888) (ht : total ≤ 549755813888) (h : unp total (total + 1) rest [] = none) : Calls Try.prog 44 #[v, U64 (UInt64.ofNat total)] w (Ret fun r w' => Ext w w' ∧ ∃ u, r = .tuple #[u, B false]) :=
  Ret.mono (AExp_spec hv hl ht) fun _ _ h2 => ⟨h2.1, by have := h2.2; rw [h] at this; exact this⟩
theorem AExp_some {out : List UInt8} (hv : Bts rest v w) (hl : rest.length ≤ 549755813888) (ht : total ≤ 549755813888) (h : unp total (total + 1) rest [] = some out) : Calls Try.prog 44 #[v, U64 (UInt64.ofNat total)] w (Ret fun r w' => Ext w w' ∧ ∃ u, r = .tuple #[u, B true] ∧ Bts out u w') :=
  Ret.mono (AExp_spec hv hl ht) fun _ _ h2 => ⟨h2.1, by have := h2.2; rw [h] at this; exact this⟩
end
theorem AUnp_spec {w : World} {l : List UInt8} {v : Value} {max : Int} (hv : Bts l v w) (hl : l.length ≤ 4294967296) (h1 : -9223372036854775808 ≤ max) (h2 : max ≤ 9223372036854775807) (h3 : ∀ n t, rdU l = some (n, t) → (n : Int) ≤ max → n ≤ 4294967296) :
    Calls Try.prog 17 #[v, I max] w (Ret fun r w' => Ext w w' ∧ UnpR l max (vp l) r w') := by
  refine enter (vs := [v, I max]) Try.func17 rfl rfl rfl ?_
  refine c_seq (c_region (o_assign rfl rfl (o_assign rfl rfl (o_nil (n_then (c_seq (c_seq (c_region (o_move rfl rfl (o_bin rfl rfl rfl (r_lss_i) (o_nil (n_then ?_))))))))))))
  refine c_if rfl (fun h11 => ?_) (fun h11 => ?_)
  · have hm : max < 0 := h11
    refine c_seq (c_region (o_assign rfl rfl (o_assign rfl rfl (o_nil (n_then (c_ret (r_then (r_body2 rfl rfl rfl ?_))))))))
    exact ⟨_, rfl, Ext.refl _, by unfold UnpR; rw [if_pos (by omega)]; rfl⟩
  · obtain ⟨M, rfl⟩ : ∃ M : Nat, max = (M : Int) := ⟨max.toNat, by omega⟩
    refine c_skip (n_then (c_seq ?_))
    rcases hU : rdU l with _ | ⟨n, t⟩
    · refine c_region (o_move rfl rfl (o_call call_ANum rfl rfl ((ANum_none hv (by omega) hU)) ?_))
      rintro v14 w14 ⟨x14, rfl⟩
      refine o_move rfl rfl (o_extract rfl rfl (r_ext3_0) (o_extract rfl rfl (r_ext3_1) (o_extract rfl rfl (r_ext3_2) (o_assign rfl rfl (o_assign rfl rfl (o_assign rfl rfl (o_nil ?_)))))))
      refine n_then (c_seq (c_seq (c_region (o_move rfl rfl (o_not rfl rfl r_not (o_nil (n_then (c_yes rfl (c_seq (c_region (o_assign rfl rfl (o_assign rfl rfl (o_nil (n_then (c_ret (r_then (r_body2 rfl rfl rfl ?_)))))))))))))))))
      exact ⟨_, rfl, x14, by unfold UnpR; rw [if_neg (by omega), hU]; rfl⟩
    · obtain ⟨hU1, hU2⟩ := rdU_inv hU
      have htl := rdU_le hU
      refine c_region (o_move rfl rfl (o_call call_ANum rfl rfl ((ANum_some hv hv (by omega) hU)) ?_))
      rintro v14 w14 ⟨x14, u1, rfl, b1⟩
      refine o_move rfl rfl (o_extract rfl rfl (r_ext3_0) (o_extract rfl rfl (r_ext3_1) (o_extract rfl rfl (r_ext3_2) (o_assign rfl rfl (o_assign rfl rfl (o_assign rfl rfl (o_nil ?_)))))))
      refine n_then (c_seq (c_seq (c_region (o_move rfl rfl (o_not rfl rfl r_not (o_nil (n_then (c_no rfl (c_skip (n_then (c_seq (c_seq (c_region (o_move rfl rfl (o_move rfl rfl (o_conv rfl rfl (r_n_u64 Try.underlying3 Try.underlying31) ?_))))))))))))))))
      refine o_bin rfl rfl rfl (r_gtr_u64) (o_nil (n_then ?_))
      refine c_if rfl (fun h23 => ?_) (fun h23 => ?_)
      · have hbig : M < n := (gtr_n hU2 (by omega)).1 h23
        refine c_seq (c_region (o_assign rfl rfl (o_assign rfl rfl (o_nil (n_then (c_ret (r_then (r_body2 rfl rfl rfl ?_))))))))
        exact ⟨_, rfl, x14, by
          unfold UnpR
          rw [if_neg (by omega), hU]
          show (if (M : Int) < (n : Int) then _ else _)
          rw [if_pos (by omega)]; rfl⟩
      · have hnM : n ≤ M := Nat.le_of_not_lt (mt (gtr_n hU2 (by omega)).2 h23)
        have hn3 := h3 n t hU (by omega)
        refine c_skip (n_then (c_seq ?_))
        rcases hE : unp n (n + 1) t [] with _ | out
        · refine c_region (o_move rfl rfl (o_move rfl rfl (o_call call_AExp rfl rfl ((AExp_none (b1.ext x14) (by omega) (by omega) hE)) ?_)))
          rintro v27 w27 ⟨x27, u2, rfl⟩
          refine o_move rfl rfl (o_extract rfl rfl (r_ext0) (o_extract rfl rfl (r_ext1) (o_assign rfl rfl (o_assign rfl rfl (o_nil (n_then (c_seq (c_seq (c_region (o_move rfl rfl (o_not rfl rfl r_not ?_)))))))))))
          refine o_move rfl rfl (g_no rfl rfl rfl (g_no rfl rfl rfl (g_no rfl rfl rfl (g_no rfl rfl rfl (g_no rfl rfl rfl (o_pick_t rfl rfl rfl (o_nil (n_then (c_yes rfl (c_seq (c_region (o_assign rfl rfl ?_))))))))))))
          refine o_assign rfl rfl (o_nil (n_then (c_ret (r_then (r_body2 rfl rfl rfl ?_)))))
          exact ⟨_, rfl, (x14.trans x27), UnpR_no (by omega) hU (by omega) (vp_no hE)⟩
        · have hol := unp_len _ _ _ _ (by simp) hE
          refine c_region (o_move rfl rfl (o_move rfl rfl (o_call call_AExp rfl rfl ((AExp_some (b1.ext x14) (by omega) (by omega) hE)) ?_)))
          rintro v27 w27 ⟨x27, u2, rfl, b2⟩
          refine o_move rfl rfl (o_extract rfl rfl (r_ext0) (o_extract rfl rfl (r_ext1) (o_assign rfl rfl (o_assign rfl rfl (o_nil (n_then (c_seq (c_seq (c_region (o_move rfl rfl (o_not rfl rfl r_not ?_)))))))))))
          refine o_move rfl rfl (g_yes rfl (o_move rfl rfl (g_yes rfl (o_call call_APack rfl rfl ((APack_spec b2 (by omega))) ?_))))
          rintro v34 w34 ⟨x34, b34⟩
          refine g_yes rfl (o_move rfl rfl (g_yes rfl (o_call call_EqB rfl rfl ((EqB_spec b34 (hv.ext ((x14.trans x27).trans x34)))) ?_)))
          rintro v36 w36 ⟨x36, rfl⟩
          refine g_yes rfl (o_not rfl rfl r_not (o_pick_f rfl rfl rfl (o_nil (n_then ?_))))
          refine c_cond rfl (fun h38 => ?_) (fun h38 => ?_)
          · have hne : ¬ packed out = l := by simpa using h38
            refine c_seq (c_region (o_assign rfl rfl (o_assign rfl rfl (o_nil (n_then (c_ret (r_then (r_body2 rfl rfl rfl ?_))))))))
            exact ⟨_, rfl, (((x14.trans x27).trans x34).trans x36), UnpR_no (by omega) hU (by omega) (by rw [vp_of hE, if_neg hne])⟩
          · have heq : packed out = l := by simpa using h38
            refine c_skip (n_then (c_seq (c_region (o_move rfl rfl (o_assign rfl rfl (o_assign rfl rfl (o_nil (n_then (c_ret (r_body2 rfl rfl rfl ?_))))))))))
            exact ⟨_, rfl, (((x14.trans x27).trans x34).trans x36), UnpR_yes (by omega) hU (by omega) (by rw [vp_of hE, if_pos heq]) (b2.ext (x34.trans x36))⟩
end Go.Rl
/- Examples of packing. No condition. -/
namespace Go.Rl
theorem exA : packed (List.replicate 6 97) = [6, 1, 97, 1, 0] := by
  rw [packed_rep (by omega), uv_small (by omega), uv_small (by omega), uv_small (by omega)]
  rfl
theorem best_ab1 : best [97, 98, 99, 100, 97, 98, 99, 100] 1 = (0, 0) := by kernel_rfl
theorem best_ab2 : best [97, 98, 99, 100, 97, 98, 99, 100] 2 = (0, 0) := by kernel_rfl
theorem best_ab3 : best [97, 98, 99, 100, 97, 98, 99, 100] 3 = (0, 0) := by kernel_rfl
theorem best_ab4 : best [97, 98, 99, 100, 97, 98, 99, 100] 4 = (4, 4) := by kernel_rfl
theorem exB : packed [97, 98, 99, 100, 97, 98, 99, 100] = [8, 4, 97, 98, 99, 100, 0, 3] := by
  unfold packed
  rw [pk_lit (by simp) (by rw [best_zero]), pk_lit (by simp) (by rw [best_ab1]), pk_lit (by simp) (by rw [best_ab2]), pk_lit (by simp) (by rw [best_ab3]), pk_match (by simp) (by rw [best_ab4]; simp), best_ab4, pk_end (by simp), if_neg (by omega)]
  rw [uv_small (by simp), uv_small (by simp), uv_small (by simp), uv_small (by simp)]
  rfl
theorem exU : rdU [6, 1, 97, 1, 0] = some (6, [1, 97, 1, 0]) := by kernel_rfl
theorem exV : vp [6, 1, 97, 1, 0] [1, 97, 1, 0] 6 = some (List.replicate 6 97) := by
  have h := (packed_ways exU (by simp) exA).1
  unfold vp
  rw [h]
  show (if packed (List.replicate 6 97) = [6, 1, 97, 1, 0] then some (List.replicate 6 97) else none) = _
  rw [if_pos exA]
theorem exW : rdU [6, 2, 97, 97, 0, 0] = some (6, [2, 97, 97, 0, 0]) := by kernel_rfl
theorem exX : unp 6 (6 + 1) [2, 97, 97, 0, 0] [] = some (List.replicate 6 97) := by kernel_rfl
theorem exY : vp [6, 2, 97, 97, 0, 0] [2, 97, 97, 0, 0] 6 = none := by
  unfold vp
  rw [exX]
  show (if packed (List.replicate 6 97) = [6, 2, 97, 97, 0, 0] then some (List.replicate 6 97) else none) = _
  rw [if_neg]
  rw [exA]
  simp
end Go.Rl
/- A literal row of bytes. No condition. -/
namespace Go.Rl
open Go.RowKit Go.Proofs
/-- A literal row of bytes, and the mark behind it. -/
theorem r_lit {w : World} (l : List UInt8) (hl : l.length ≤ 16777216) : ∃ v w1 w2, (Instr.buildSlice 22 l.length (number 0 (l.map U8)).toArray).run Try.prog w = .ok v w1 ∧ (convert 22 22 v).run Try.prog w1 = .ok v w2 ∧ Ext w w2 ∧ Bts l v w2 := by
  obtain ⟨i, hi, hz0, hs, _⟩ := info_parts info_u8
  have hf : ∀ Z : Array Value, Z.size = (l.map U8).length → Instr.fill (fun i => some (i * 1, 1)) Z (number 0 (l.map U8)) = some (l.map U8).toArray := fun Z hZ => by
    have := fill_number (l.map U8) [] Z.toList (fun v hv => one_cells (one_U8 l v hv)) (by simpa using hZ)
    simpa using this
  have hle : ¬ (l.length * 1 > 2 ^ 24) := by omega
  have hinfo : (typeInfo 5).run Try.prog w = .ok i w := by simp [typeInfo, hi]
  have hsz : (sizeOf 5).run Try.prog w = .ok 1 w := by simp [sizeOf, hinfo, hs]
  have hzv : (zeroValue 5).run Try.prog w = .ok (.int .u8 0) w := by simp [zeroValue, hinfo, hz0]
  have hrun : (Instr.buildSlice 22 l.length (number 0 (l.map U8)).toArray).run Try.prog w = .ok (.slice (some ⟨w.heap.size, 0, none⟩) l.length l.length) (w.alloc (.cells (l.map U8).toArray 5)) := by
    simp only [Instr.buildSlice, Sem.run_bind, run_underlying Try.underlying22, Result.andThen_ok, hsz, if_neg hle]
    by_cases h0 : l.length * 1 = 0
    · rw [if_pos h0]
      simp only [Sem.run_bind, Sem.run_pure, Result.andThen_ok]
      rw [hf _ (by simp)]
      simp [newRow]
    · rw [if_neg h0]
      simp only [Sem.run_bind, Sem.run_pure, Result.andThen_ok, hzv]
      rw [hf _ (by simp [Value.cells])]
      simp [newRow]
  refine ⟨_, _, _, hrun, Go.Lib.run_convert_bytes_const w 22 5 _ _ _ Try.underlying22 Try.underlying5, Ext.new w _, ?_⟩
  have hg := heap_alloc_new w (.cells (l.map U8).toArray 5 ((l.map U8).toArray.size, (l.map U8).toArray.size + 1))
  refine ⟨_, _, _, rfl, Nat.le_refl _, by unfold maxLen; omega, by simp, fun _ => ⟨_, rfl, fun j u hu => ?_⟩, fun h => by cases h⟩
  rw [Addr.add_mid, Nat.zero_add, cell_of_row _ _ j _ _ _ hg]
  simpa using hu
end Go.Rl
/- The examples of the packing's statements, walked. No condition. -/
namespace Go.Rl
open Go.RowKit Go.Proofs
theorem call_aw10 : Callable Try.prog 14 := ⟨_, Try.func14, by kernel_rfl, rfl⟩
section
variable {l t : List UInt8} {max : Int} {n : Nat} {f : List UInt8 → Nat → Option (List UInt8)} {r : Value} {w : World}
theorem UnpR_ok {out : List UInt8} (hM : 0 ≤ max) (hU : rdU l = some (n, t)) (hn : (n : Int) ≤ max) (h : f t n = some out) (hr : UnpR l max f r w) : ∃ v, r = .tuple #[v, I 0] ∧ Bts out v w := by
  unfold UnpR at hr
  rw [if_neg (by omega), hU] at hr
  have hr : (if max < (n : Int) then r = .tuple #[.slice none 0 0, I 8] else match f t n with
      | some out => ∃ v, r = .tuple #[v, I 0] ∧ Bts out v w
      | none => r = .tuple #[.slice none 0 0, I 5]) := hr
  rw [if_neg (by omega), h] at hr
  exact hr
theorem UnpR_form (hM : 0 ≤ max) (hU : rdU l = some (n, t)) (hn : (n : Int) ≤ max) (h : f t n = none) (hr : UnpR l max f r w) : r = .tuple #[.slice none 0 0, I 5] := by
  unfold UnpR at hr
  rw [if_neg (by omega), hU] at hr
  have hr : (if max < (n : Int) then r = .tuple #[.slice none 0 0, I 8] else match f t n with
      | some out => ∃ v, r = .tuple #[v, I 0] ∧ Bts out v w
      | none => r = .tuple #[.slice none 0 0, I 5]) := hr
  rw [if_neg (by omega), h] at hr
  exact hr
theorem UnpR_neg (hM : max < 0) (hr : UnpR l max f r w) : r = .tuple #[.slice none 0 0, I 8] := by
  unfold UnpR at hr
  rwa [if_pos hM] at hr
theorem UnpR_rd (hM : 0 ≤ max) (hU : rdU l = none) (hr : UnpR l max f r w) : r = .tuple #[.slice none 0 0, I 5] := by
  unfold UnpR at hr
  rw [if_neg (by omega), hU] at hr
  exact hr
theorem UnpR_big (hM : 0 ≤ max) (hU : rdU l = some (n, t)) (hn : max < (n : Int)) (hr : UnpR l max f r w) : r = .tuple #[.slice none 0 0, I 8] := by
  unfold UnpR at hr
  rw [if_neg (by omega), hU] at hr
  have hr : (if max < (n : Int) then r = .tuple #[.slice none 0 0, I 8] else match f t n with
      | some out => ∃ v, r = .tuple #[v, I 0] ∧ Bts out v w
      | none => r = .tuple #[.slice none 0 0, I 5]) := hr
  rwa [if_pos hn] at hr
end
theorem aw10_spec (w : World) : Calls Try.prog 14 #[] w (Ret fun r w' => r = B true ∧ Ext w w') := by
  refine enter (vs := []) Try.func14 rfl rfl rfl ?_
  refine c_seq (c_region (o_assign rfl rfl (o_nil (n_then (c_seq (c_region ?_))))))
  obtain ⟨v6, w60, w6, hr6, hc6, x6, b6⟩ := r_lit (w := w) [6, 1, 97, 1, 0] (by simp)
  refine o_buildSlice (vs := [(0, U8 6), (1, U8 1), (2, U8 97), (3, U8 1), (4, U8 0)]) rfl rfl hr6 ?_
  refine o_conv rfl rfl hc6 ?_
  refine o_call call_AUnp rfl rfl ((AUnp_spec b6 (by simp) (by omega) (by omega) (fun _ _ _ _ => by omega))) ?_
  rintro v8 w8 ⟨x8, h8⟩
  obtain ⟨v9, rfl, b9⟩ := UnpR_ok (by omega) exU (by omega) exV h8
  refine o_move rfl rfl (o_extract rfl rfl (r_ext0) (o_extract rfl rfl (r_ext1) (o_assign rfl rfl (o_assign rfl rfl (o_nil (n_then (c_seq (c_region ?_))))))))
  obtain ⟨v12, w120, w12, hr12, hc12, x12, b12⟩ := r_lit (w := w8) [6, 2, 97, 97, 0, 0] (by simp)
  refine o_buildSlice (vs := [(0, U8 6), (1, U8 2), (2, U8 97), (3, U8 97), (4, U8 0), (5, U8 0)]) rfl rfl hr12 ?_
  refine o_conv rfl rfl hc12 ?_
  refine o_call call_AUnp rfl rfl ((AUnp_spec b12 (by simp) (by omega) (by omega) (fun _ _ _ _ => by omega))) ?_
  rintro v14 w14 ⟨x14, h14⟩
  obtain rfl := UnpR_form (by omega) exW (by omega) exY h14
  refine o_move rfl rfl (o_extract rfl rfl (r_ext0) (o_extract rfl rfl (r_ext1) (o_assign rfl rfl (o_assign rfl rfl (o_nil (n_then (c_seq (c_region ?_))))))))
  obtain ⟨v17, w170, w17, hr17, hc17, x17, b17⟩ := r_lit (w := w14) [97, 98, 99, 100, 97, 98, 99, 100] (by simp)
  refine o_buildSlice (vs := [(0, U8 97), (1, U8 98), (2, U8 99), (3, U8 100), (4, U8 97), (5, U8 98), (6, U8 99), (7, U8 100)]) rfl rfl hr17 ?_
  refine o_conv rfl rfl hc17 ?_
  refine o_call call_APack rfl rfl ((APack_spec b17 (by simp))) ?_
  rintro v19 w19 ⟨x19, b19⟩
  rw [exB] at b19
  refine o_conv rfl rfl (r_str b19) (o_bin (v := S [8, 4, 97, 98, 99, 100, 0, 3]) rfl rfl rfl (dec_t rfl r_eql_s) (o_move rfl rfl (g_yes rfl (o_move rfl rfl (g_yes rfl (o_bin rfl rfl rfl (dec_t rfl r_eql_i) ?_))))))
  refine o_pick_t rfl rfl rfl (o_move rfl rfl (g_yes rfl (o_move rfl rfl (g_yes rfl (o_conv rfl rfl (r_str (b9.ext (((x12.trans x14).trans x17).trans x19))) (g_yes rfl (o_bin (v := S [97, 97, 97, 97, 97, 97]) rfl rfl rfl (dec_t rfl r_eql_s) ?_)))))))
  refine o_pick_t rfl rfl rfl (o_move rfl rfl (g_yes rfl (o_move rfl rfl (g_yes rfl (o_bin rfl rfl rfl (dec_t rfl r_eql_i) (o_pick_t rfl rfl rfl (o_assign rfl rfl (o_nil (n_then (c_ret ?_))))))))))
  refine r_body1 rfl rfl ?_
  exact ⟨_, rfl, rfl, (((((x6.trans x8).trans x12).trans x14).trans x17).trans x19)⟩
end Go.Rl
/- The statements CompressPack, CompressUnpack, CompressInverse, CompressUnique, CompressSize and CompressRepeats, walked. No condition. -/
namespace Go.Rl
open Go.RowKit Go.Proofs
section
variable {l : List UInt8} {max : Int} {f : List UInt8 → Nat → Option (List UInt8)} {r : Value} {w : World}
def unpRes (l : List UInt8) (max : Int) (f : List UInt8 → Nat → Option (List UInt8)) : List UInt8 × Int :=
  if max < 0 then ([], 8) else match rdU l with
    | none => ([], 5)
    | some (n, t) => if max < (n : Int) then ([], 8) else match f t n with
      | some out => (out, 0)
      | none => ([], 5)
theorem UnpR_any (h : UnpR l max f r w) : ∃ v, r = .tuple #[v, I (unpRes l max f).2] ∧ Bts (unpRes l max f).1 v w := by
  unfold UnpR at h
  unfold unpRes
  split at h
  · rename_i hm
    rw [if_pos hm]
    exact ⟨_, h, Bts.nil _⟩
  · rename_i hm
    rw [if_neg hm]
    cases hU : rdU l with
    | none =>
      rw [hU] at h
      exact ⟨_, h, Bts.nil _⟩
    | some p =>
      obtain ⟨n, t⟩ := p
      rw [hU] at h
      have h : (if max < (n : Int) then r = .tuple #[.slice none 0 0, I 8] else match f t n with
        | some out => ∃ v, r = .tuple #[v, I 0] ∧ Bts out v w
        | none => r = .tuple #[.slice none 0 0, I 5]) := h
      show ∃ v, r = .tuple #[v, I (if max < (n : Int) then ([], 8) else match f t n with
        | some out => (out, 0)
        | none => ([], 5) : List UInt8 × Int).2] ∧ Bts (if max < (n : Int) then ([], 8) else match f t n with
        | some out => (out, 0)
        | none => ([], 5) : List UInt8 × Int).1 v w
      split at h
      · rename_i hn
        rw [if_pos hn]
        exact ⟨_, h, Bts.nil _⟩
      · rename_i hn
        rw [if_neg hn]
        cases hf : f t n with
        | none =>
          rw [hf] at h
          exact ⟨_, h, Bts.nil _⟩
        | some out =>
          rw [hf] at h
          exact h
theorem unpRes_cases : ((unpRes l max f).1 = [] ∧ ((unpRes l max f).2 = 5 ∨ (unpRes l max f).2 = 8)) ∨ ((unpRes l max f).2 = 0 ∧ ∃ n t, f t n = some (unpRes l max f).1 ∧ (n : Int) ≤ max) := by
  unfold unpRes
  split
  · exact .inl ⟨rfl, .inr rfl⟩
  · cases hU : rdU l with
    | none => exact .inl ⟨rfl, .inl rfl⟩
    | some p =>
      obtain ⟨n, t⟩ := p
      simp only []
      split
      · exact .inl ⟨rfl, .inr rfl⟩
      · rename_i hn
        cases hf : f t n with
        | none => exact .inl ⟨rfl, .inl rfl⟩
        | some out => exact .inr ⟨rfl, n, t, hf, by omega⟩
end
theorem unr_len {total B : Nat} : ∀ (f : Nat) (l O out r : List UInt8), O.length ≤ total + B → l.length ≤ B → unr total f l O = some (out, r) → out.length ≤ total + B
  | 0, _, _, _, _, _, _, h => by cases h
  | f + 1, l, O, out, r, hO, hl, h => by
    unfold unr at h
    split at h
    · cases hB : rdB l with
      | none => rw [hB] at h; cases h
      | some p =>
        obtain ⟨a, t⟩ := p
        have hab := rdB_le hB
        rw [hB] at h
        simp only [Option.bind_some] at h
        split at h
        · rename_i hlt
          cases hU : rdU t with
          | none => rw [hU] at h; cases h
          | some q =>
            obtain ⟨m, t2⟩ := q
            rw [hU] at h
            simp only [Option.bind_some] at h
            have h1 := rdU_le hU
            cases hV : rdU t2 with
            | none => rw [hV] at h; cases h
            | some s =>
              obtain ⟨k, t3⟩ := s
              rw [hV] at h
              simp only [Option.bind_some] at h
              have h2 := rdU_le hV
              split at h
              · cases h
              · refine unr_len f _ _ _ _ ?_ (by omega) h
                rw [cpy_len]
                omega
        · simp only [Option.some.injEq, Prod.mk.injEq] at h
          rw [← h.1, List.length_append]; omega
    · simp only [Option.some.injEq, Prod.mk.injEq] at h
      rw [← h.1]; exact hO
theorem res_same {l : List UInt8} {max : Int} (hl : l.length ≤ 4294967296) (h2 : max ≤ 4294967296) : unpRes l max (vr l) = unpRes l max (vp l) := by
  unfold unpRes
  split
  · rfl
  · cases hU : rdU l with
    | none => rfl
    | some p =>
      obtain ⟨n, t⟩ := p
      simp only []
      split
      · rfl
      · have htl := rdU_le hU
        rw [vp_vr hU (fun out h => by have := unp_len _ _ _ _ (by simp) h; omega) (fun p h => by have := unr_len (B := t.length) _ _ _ p.1 p.2 (by simp) (Nat.le_refl _) h; omega)]
theorem CompressPack_walk {w : World} {l : List UInt8} {v : Value} (hv : Bts l v w) :
    Calls Try.prog 3 #[v] w (Ret fun r w' => r = B true ∧ Ext w w') := by
  refine enter (vs := [v]) Try.func3 rfl rfl rfl ?_
  refine c_seq (c_region (o_assign rfl rfl (o_nil (n_then (c_seq (c_seq (c_region (o_call call_aw10 rfl rfl (aw10_spec _) ?_))))))))
  rintro v4 w4 ⟨rfl, x4⟩
  refine o_not rfl rfl r_not (o_move rfl rfl (g_yes rfl (o_move rfl rfl (g_yes rfl (o_len rfl rfl (r_lenB (hv.ext x4)) (g_yes rfl (o_bin rfl rfl rfl (r_gtr_i) (o_pick_f rfl rfl rfl ?_))))))))
  refine o_nil (n_then ?_)
  refine c_if rfl (fun h10 => ?_) (fun h10 => ?_)
  · refine c_seq (c_region (o_call call_aw10 rfl rfl (aw10_spec _) ?_))
    rintro v11 w11 ⟨rfl, x11⟩
    refine o_assign rfl rfl (o_nil (n_then (c_ret (r_then (r_body1 rfl rfl ?_)))))
    exact ⟨_, rfl, rfl, (x4.trans x11)⟩
  · refine c_skip (n_then (c_seq (c_region ?_)))
    obtain ⟨v12, w12, hr12, x12, o12, ob12⟩ := r_bsB (w := w4) w4.heap.size [] (by simp) (Nat.le_refl _)
    refine o_buildSlice (vs := []) rfl rfl hr12 (o_move rfl rfl ?_)
    obtain ⟨v14, w14, hr14, o14, g14⟩ := r_appB (ty := 22) o12 (hv.ext (x4.trans x12)) (by simp; omega) (x12).size
    have x14 := Ext.of_grew (x12) g14 o12.ge
    refine o_append rfl rfl hr14 ?_
    rw [List.nil_append] at o14
    refine o_assign rfl rfl (o_nil (n_then (c_seq (c_grow 14 [28] (by kernel_rfl) (by kernel_rfl) ?_))))
    refine f_move rfl rfl (f_call (S := Bts (packed l)) call_APack (Bts.stable _) rfl (fun w hw => by rintro _ rfl; exact Ret.mono (APack_spec (o14.bts.ext hw) (by omega)) fun v w' h => h) ?_)
    refine f_convS rfl (Stable.is _) rfl (fun w v hw hv => ⟨_, w, r_str hv, Ext.refl _, rfl⟩) (f_move rfl rfl (f_call (S := Bts (packed l)) call_TPack (Bts.stable _) rfl (fun w hw => by rintro _ rfl; exact Ret.mono (TPack_spec ((hv.ext (x4.trans x14)).ext hw) (by omega)) fun v w' h => h) ?_))
    refine f_convS rfl (Stable.is _) rfl (fun w v hw hv => ⟨_, w, r_str hv, Ext.refl _, rfl⟩) (f_bin rfl rfl rfl (fun w _ => dec_t rfl r_eql_s) (f_move rfl rfl (f_yes rfl rfl ?_)))
    refine f_move rfl rfl (f_yes rfl rfl (f_conv rfl rfl (fun w hw => r_str (o14.bts.ext hw)) (f_yes rfl rfl (f_move rfl rfl (f_yes rfl rfl (f_conv rfl rfl (fun w hw => r_str ((hv.ext (x4.trans x14)).ext hw)) ?_))))))
    refine f_yes rfl rfl (f_bin rfl rfl rfl (fun w _ => dec_t rfl r_eql_s) (f_pick_t rfl rfl rfl (f_nil ?_)))
    intro wg4 xg4
    rintro _ rfl
    refine o_assign rfl rfl (o_nil (n_then (c_ret (r_body1 rfl rfl ?_))))
    exact ⟨_, rfl, rfl, ((x4.trans x14).trans xg4)⟩
theorem CompressUnpack_walk {w : World} {l : List UInt8} {v : Value} {max : Int} (hv : Bts l v w) (h1 : -9223372036854775808 ≤ max) (h2 : max ≤ 9223372036854775807) :
    Calls Try.prog 4 #[v, I max] w (Ret fun r w' => r = B true ∧ Ext w w') := by
  refine enter (vs := [v, I max]) Try.func4 rfl rfl rfl ?_
  refine c_seq (c_region (o_assign rfl rfl (o_nil (n_then (c_seq (c_seq (c_region (o_call call_aw10 rfl rfl (aw10_spec _) ?_))))))))
  rintro v9 w9 ⟨rfl, x9⟩
  refine o_not rfl rfl r_not (o_move rfl rfl (g_yes rfl (o_move rfl rfl (g_yes rfl (o_len rfl rfl (r_lenB (hv.ext x9)) (g_yes rfl (o_bin rfl rfl rfl (r_gtr_i) (o_pick_f rfl rfl rfl ?_))))))))
  refine o_move rfl rfl ?_
  refine o_dec (fun h16 => ?_) (fun h16 => ?_)
  · refine g_no rfl rfl rfl (g_no rfl rfl rfl (o_pick_t rfl rfl rfl (o_nil (n_then (c_yes rfl (c_seq (c_region (o_call call_aw10 rfl rfl (aw10_spec _) ?_))))))))
    rintro v20 w20 ⟨rfl, x20⟩
    refine o_assign rfl rfl (o_nil (n_then (c_ret (r_then (r_body1 rfl rfl ?_)))))
    exact ⟨_, rfl, rfl, (x9.trans x20)⟩
  · refine g_yes rfl (o_move rfl rfl (g_yes rfl (o_bin rfl rfl rfl (r_gtr_i) (o_pick_f rfl rfl rfl (o_nil (n_then ?_))))))
    refine c_if rfl (fun h19 => ?_) (fun h19 => ?_)
    · refine c_seq (c_region (o_call call_aw10 rfl rfl (aw10_spec _) ?_))
      rintro v20 w20 ⟨rfl, x20⟩
      refine o_assign rfl rfl (o_nil (n_then (c_ret (r_then (r_body1 rfl rfl ?_)))))
      exact ⟨_, rfl, rfl, (x9.trans x20)⟩
    · refine c_skip (n_then (c_seq ?_))
      have hlim : max ≤ 400 := by omega
      have hsame := res_same (l := l) (max := max) (by omega) (by omega)
      refine c_region (o_move rfl rfl (o_move rfl rfl (o_call call_AUnp rfl rfl ((AUnp_spec (hv.ext x9) (by omega) h1 h2 (fun _ _ _ _ => by omega))) ?_)))
      rintro v24 w24 ⟨x24, h24⟩
      obtain ⟨v25, rfl, b25⟩ := UnpR_any h24
      refine o_move rfl rfl (o_extract rfl rfl (r_ext0) (o_extract rfl rfl (r_ext1) (o_assign rfl rfl (o_assign rfl rfl (o_nil (n_then (c_seq (c_region (o_move rfl rfl (o_move rfl rfl (o_call call_TUnp rfl rfl ((TUnp_spec (hv.ext (x9.trans x24)) (by omega) h1 (by omega))) ?_)))))))))))
      rintro v30 w30 ⟨x30, h30⟩
      obtain ⟨v31, rfl, b31⟩ := UnpR_any h30
      rw [hsame] at b31 ⊢
      refine o_move rfl rfl (o_extract rfl rfl (r_ext0) (o_extract rfl rfl (r_ext1) (o_assign rfl rfl (o_assign rfl rfl (o_nil (n_then (c_seq (c_region (o_move rfl rfl (o_move rfl rfl (o_bin rfl rfl rfl (dec_t rfl r_eql_i) ?_)))))))))))
      refine o_move rfl rfl (g_yes rfl (o_move rfl rfl (g_yes rfl (o_conv rfl rfl (r_str (b25.ext x30)) (g_yes rfl (o_move rfl rfl (g_yes rfl (o_conv rfl rfl (r_str b31) (g_yes rfl (o_bin rfl rfl rfl (dec_t rfl r_eql_s) ?_))))))))))
      refine o_pick_t rfl rfl rfl (o_assign rfl rfl (o_nil (n_then (c_ret (r_body1 rfl rfl ?_)))))
      exact ⟨_, rfl, rfl, ((x9.trans x24).trans x30)⟩
theorem CompressInverse_walk {w : World} {l : List UInt8} {v : Value} {max : Int} (hv : Bts l v w) (h1 : -9223372036854775808 ≤ max) (h2 : max ≤ 9223372036854775807) :
    Calls Try.prog 5 #[v, I max] w (Ret fun r w' => r = B true ∧ Ext w w') := by
  refine enter (vs := [v, I max]) Try.func5 rfl rfl rfl ?_
  refine c_seq (c_region (o_assign rfl rfl (o_nil (n_then (c_seq (c_seq (c_region (o_call call_aw10 rfl rfl (aw10_spec _) ?_))))))))
  rintro v7 w7 ⟨rfl, x7⟩
  refine o_not rfl rfl r_not (o_move rfl rfl (g_yes rfl (o_move rfl rfl (g_yes rfl (o_len rfl rfl (r_lenB (hv.ext x7)) (g_yes rfl (o_bin rfl rfl rfl (r_gtr_i) (o_pick_f rfl rfl rfl ?_))))))))
  refine o_nil (n_then ?_)
  refine c_if rfl (fun h13 => ?_) (fun h13 => ?_)
  · refine c_seq (c_region (o_call call_aw10 rfl rfl (aw10_spec _) ?_))
    rintro v14 w14 ⟨rfl, x14⟩
    refine o_assign rfl rfl (o_nil (n_then (c_ret (r_then (r_body1 rfl rfl ?_)))))
    exact ⟨_, rfl, rfl, (x7.trans x14)⟩
  · refine c_skip (n_then (c_seq ?_))
    have hll : l.length ≤ 600 := by omega
    have hpl := packed_any (d := l) (by omega)
    have hrd : rdU (packed l) = some (l.length, pk l 0 0) := by unfold packed; exact rdU_uv (by omega) _
    have hw := (packed_ways hrd (by omega) rfl).1
    have hvp : vp (packed l) (pk l 0 0) l.length = some l := by rw [vp_of hw, if_pos rfl]
    have hres : unpRes (packed l) max (vp (packed l)) = if max < (l.length : Int) then ([], 8) else (l, 0) := by
      unfold unpRes
      by_cases hm : max < 0
      · rw [if_pos hm, if_pos (by omega)]
      · rw [if_neg hm, hrd]
        simp only [hvp]
    refine c_region (o_move rfl rfl (o_call call_APack rfl rfl (APack_spec (hv.ext x7) (by omega)) ?_))
    rintro v17 w17 ⟨x17, b17⟩
    refine o_move rfl rfl (o_call call_AUnp rfl rfl ((AUnp_spec b17 (by omega) h1 h2 (fun n t hU hn => by rw [hrd] at hU; obtain ⟨rfl, _⟩ := Prod.mk.inj (Option.some.inj hU); omega))) ?_)
    rintro v19 w19 ⟨x19, h19⟩
    obtain ⟨v20, rfl, b20⟩ := UnpR_any h19
    rw [hres] at b20 ⊢
    obtain ⟨q, hq⟩ : ∃ q : List UInt8 × Int, q = if max < (l.length : Int) then ([], 8) else (l, 0) := ⟨_, rfl⟩
    rw [← hq] at b20 ⊢
    refine o_move rfl rfl (o_extract rfl rfl (r_ext0) (o_extract rfl rfl (r_ext1) (o_assign rfl rfl (o_assign rfl rfl (o_nil (n_then (c_seq (c_seq (c_region (o_move rfl rfl (o_move rfl rfl ?_)))))))))))
    refine o_len rfl rfl (r_lenB (hv.ext ((x7.trans x17).trans x19))) (o_bin rfl rfl rfl (r_lss_i) (o_nil (n_then ?_)))
    refine c_if rfl (fun h25 => ?_) (fun h25 => ?_)
    · rw [if_pos h25] at hq
      subst hq
      refine c_seq (c_region (o_move rfl rfl (o_bin rfl rfl rfl (dec_t rfl r_eql_i) (o_move rfl rfl (g_yes rfl (o_move rfl rfl (g_yes rfl (o_len (r := I 0) rfl rfl ((by exact r_lenB b20)) ?_))))))))
      refine g_yes rfl (o_bin rfl rfl rfl (dec_t rfl r_eql_i) (o_pick_t rfl rfl rfl (o_assign rfl rfl (o_nil (n_then (c_ret (r_then (r_body1 rfl rfl ?_))))))))
      exact ⟨_, rfl, rfl, ((x7.trans x17).trans x19)⟩
    · rw [if_neg h25] at hq
      subst hq
      refine c_skip (n_then (c_seq (c_region (o_move rfl rfl (o_bin rfl rfl rfl (dec_t rfl r_eql_i) (o_move rfl rfl (g_yes rfl (o_move rfl rfl (g_yes rfl (o_conv rfl rfl (r_str b20) (g_yes rfl ?_)))))))))))
      refine o_move rfl rfl (g_yes rfl (o_conv rfl rfl (r_str (hv.ext ((x7.trans x17).trans x19))) (g_yes rfl (o_bin rfl rfl rfl (dec_t rfl r_eql_s) (o_pick_t rfl rfl rfl (o_assign rfl rfl ?_))))))
      refine o_nil (n_then (c_ret (r_body1 rfl rfl ?_)))
      exact ⟨_, rfl, rfl, ((x7.trans x17).trans x19)⟩
theorem CompressUnique_walk {w : World} {l : List UInt8} {v : Value} (hv : Bts l v w) :
    Calls Try.prog 6 #[v] w (Ret fun r w' => r = B true ∧ Ext w w') := by
  refine enter (vs := [v]) Try.func6 rfl rfl rfl ?_
  refine c_seq (c_region (o_assign rfl rfl (o_nil (n_then (c_seq (c_seq (c_region (o_call call_aw10 rfl rfl (aw10_spec _) ?_))))))))
  rintro v5 w5 ⟨rfl, x5⟩
  refine o_not rfl rfl r_not (o_move rfl rfl (g_yes rfl (o_move rfl rfl (g_yes rfl (o_len rfl rfl (r_lenB (hv.ext x5)) (g_yes rfl (o_bin rfl rfl rfl (r_gtr_i) (o_pick_f rfl rfl rfl ?_))))))))
  refine o_nil (n_then ?_)
  refine c_if rfl (fun h11 => ?_) (fun h11 => ?_)
  · refine c_seq (c_region (o_call call_aw10 rfl rfl (aw10_spec _) ?_))
    rintro v12 w12 ⟨rfl, x12⟩
    refine o_assign rfl rfl (o_nil (n_then (c_ret (r_then (r_body1 rfl rfl ?_)))))
    exact ⟨_, rfl, rfl, (x5.trans x12)⟩
  · refine c_skip (n_then (c_seq (c_region (o_move rfl rfl (o_call call_AUnp rfl rfl ((AUnp_spec (hv.ext x5) (by omega) (by omega) (by omega) (fun _ _ _ _ => by omega))) ?_)))))
    rintro v15 w15 ⟨x15, h15⟩
    obtain ⟨v16, rfl, b16⟩ := UnpR_any h15
    have hc := unpRes_cases (l := l) (max := 400) (f := vp l)
    obtain ⟨⟨out, q⟩, hq⟩ : ∃ q : List UInt8 × Int, q = unpRes l 400 (vp l) := ⟨_, rfl⟩
    rw [← hq] at b16 hc ⊢
    simp only [] at b16 hc
    refine o_move rfl rfl (o_extract rfl rfl (r_ext0) (o_extract rfl rfl (r_ext1) (o_assign rfl rfl (o_assign rfl rfl (o_nil (n_then (c_seq (c_seq ?_))))))))
    rcases hc with ⟨rfl, rfl | rfl⟩ | ⟨rfl, n, t, hvp, hn⟩
    · refine c_region (o_move rfl rfl (o_bin rfl rfl rfl (dec_t (by decide) r_neq_i) (o_nil (n_then (c_yes rfl (c_seq (c_region (o_move rfl rfl (o_len (r := I 0) rfl rfl ((by exact r_lenB b16)) ?_)))))))))
      refine o_bin rfl rfl rfl (dec_t rfl r_eql_i) (o_move rfl rfl (g_yes rfl (o_move rfl rfl (g_yes rfl (o_bin rfl rfl rfl (dec_t rfl r_eql_i) (g_yes rfl (o_move rfl rfl (g_no rfl rfl rfl ?_))))))))
      refine g_no rfl rfl rfl (g_yes rfl (o_pick_t rfl rfl rfl (o_pick_t rfl rfl rfl (o_assign rfl rfl (o_nil (n_then (c_ret (r_then (r_body1 rfl rfl ?_)))))))))
      exact ⟨_, rfl, rfl, (x5.trans x15)⟩
    · refine c_region (o_move rfl rfl (o_bin rfl rfl rfl (dec_t (by decide) r_neq_i) (o_nil (n_then (c_yes rfl (c_seq (c_region (o_move rfl rfl (o_len (r := I 0) rfl rfl ((by exact r_lenB b16)) ?_)))))))))
      refine o_bin rfl rfl rfl (dec_t rfl r_eql_i) (o_move rfl rfl (g_yes rfl (o_move rfl rfl (g_yes rfl (o_bin rfl rfl rfl (dec_f (by decide) r_eql_i) (g_yes rfl (o_move rfl rfl ?_)))))))
      refine g_yes rfl (o_move rfl rfl (g_yes rfl (o_bin rfl rfl rfl (dec_t rfl r_eql_i) (g_yes rfl (o_pick_f rfl rfl rfl (o_pick_t rfl rfl rfl (o_assign rfl rfl (o_nil (n_then (c_ret (r_then ?_)))))))))))
      refine r_body1 rfl rfl ?_
      exact ⟨_, rfl, rfl, (x5.trans x15)⟩
    · refine c_region (o_move rfl rfl (o_bin rfl rfl rfl (dec_f (by simp) r_neq_i) (o_nil (n_then (c_no rfl (c_skip (n_then (c_seq ?_))))))))
      have heq : packed out = l ∧ out.length ≤ 400 := by
        unfold vp at hvp
        cases hE : unp n (n + 1) t [] with
        | none => rw [hE] at hvp; cases hvp
        | some o =>
          rw [hE] at hvp
          have hvp : (if packed o = l then some o else none) = some out := hvp
          split at hvp
          · rename_i hp
            obtain rfl := Option.some.inj hvp
            exact ⟨hp, by have := unp_len _ _ _ _ (by simp) hE; omega⟩
          · cases hvp
      refine c_grow 6 [36] (by kernel_rfl) (by kernel_rfl) ?_
      refine f_move rfl rfl (f_call (S := Bts (packed out)) call_APack (Bts.stable _) rfl (fun w hw => by rintro _ rfl; exact Ret.mono (APack_spec (b16.ext hw) (by omega)) fun v w' h => h) ?_)
      refine f_convS rfl (Stable.is _) rfl (fun w v hw hv => ⟨_, w, r_str hv, Ext.refl _, rfl⟩) (f_move rfl rfl (f_conv rfl rfl (fun w hw => r_str ((hv.ext (x5.trans x15)).ext hw)) ?_))
      refine f_bin rfl rfl rfl (fun w _ => dec_t heq.1 r_eql_s) (f_nil ?_)
      intro wg6 xg6
      rintro _ rfl
      refine o_assign rfl rfl (o_nil (n_then (c_ret (r_body1 rfl rfl ?_))))
      exact ⟨_, rfl, rfl, ((x5.trans x15).trans xg6)⟩
theorem CompressSize_walk {w : World} {l : List UInt8} {v : Value} (hv : Bts l v w) :
    Calls Try.prog 7 #[v] w (Ret fun r w' => r = B true ∧ Ext w w') := by
  refine enter (vs := [v]) Try.func7 rfl rfl rfl ?_
  refine c_seq (c_region (o_assign rfl rfl (o_nil (n_then (c_seq (c_seq (c_region (o_call call_aw10 rfl rfl (aw10_spec _) ?_))))))))
  rintro v3 w3 ⟨rfl, x3⟩
  refine o_not rfl rfl r_not (o_move rfl rfl (g_yes rfl (o_move rfl rfl (g_yes rfl (o_len rfl rfl (r_lenB (hv.ext x3)) (g_yes rfl (o_bin rfl rfl rfl (r_gtr_i) (o_pick_f rfl rfl rfl ?_))))))))
  refine o_nil (n_then ?_)
  refine c_if rfl (fun h9 => ?_) (fun h9 => ?_)
  · refine c_seq (c_region (o_call call_aw10 rfl rfl (aw10_spec _) ?_))
    rintro v10 w10 ⟨rfl, x10⟩
    refine o_assign rfl rfl (o_nil (n_then (c_ret (r_then (r_body1 rfl rfl ?_)))))
    exact ⟨_, rfl, rfl, (x3.trans x10)⟩
  · refine c_skip (n_then (c_seq ?_))
    have hpl := packed_len (d := l) (by omega)
    refine c_region (o_move rfl rfl (o_call call_APack rfl rfl (APack_spec (hv.ext x3) (by omega)) ?_))
    rintro v12 w12 ⟨x12, b12⟩
    refine o_len rfl rfl (r_lenB b12) (o_move rfl rfl (o_len rfl rfl (r_lenB (hv.ext (x3.trans x12))) (o_move rfl rfl (o_len rfl rfl (r_lenB (hv.ext (x3.trans x12))) (o_bin (r := I ((l.length / 128 : Nat) : Int)) rfl rfl rfl (by have e : ((l.length / 128 : Nat) : Int) = (l.length : Int) / 128 := (by omega); rw [e]; exact r_quo_i (by omega) (by omega) (by omega)) ?_)))))
    refine o_bin (r := I ((l.length + l.length / 128 : Nat) : Int)) rfl rfl rfl (by have e : ((l.length + l.length / 128 : Nat) : Int) = (l.length : Int) + ((l.length / 128 : Nat) : Int) := (by omega); rw [e]; exact r_add_i (by omega) (by omega)) ?_
    refine o_bin (r := I ((l.length + l.length / 128 + 14 : Nat) : Int)) rfl rfl rfl (by have e : ((l.length + l.length / 128 + 14 : Nat) : Int) = ((l.length + l.length / 128 : Nat) : Int) + 14 := (by omega); rw [e]; exact r_add_i (by omega) (by omega)) ?_
    refine o_bin rfl rfl rfl (dec_t (by omega) r_leq_i) (o_assign rfl rfl (o_nil (n_then (c_ret (r_body1 rfl rfl ?_)))))
    exact ⟨_, rfl, rfl, (x3.trans x12)⟩
theorem CompressRepeats_walk {w : World} {n : Int} {c : UInt8} (h1 : -9223372036854775808 ≤ n) (h2 : n ≤ 9223372036854775807) :
    Calls Try.prog 8 #[I n, U8 c] w (Ret fun r w' => r = B true ∧ Ext w w') := by
  refine enter (vs := [I n, U8 c]) Try.func8 rfl rfl rfl ?_
  refine c_seq (c_region (o_assign rfl rfl (o_nil (n_then (c_seq (c_seq (c_region (o_call call_aw10 rfl rfl (aw10_spec _) ?_))))))))
  rintro v10 w10 ⟨rfl, x10⟩
  refine o_not rfl rfl r_not (o_move rfl rfl (g_yes rfl (o_move rfl rfl (g_yes rfl (o_bin rfl rfl rfl (r_lss_i) (o_pick_f rfl rfl rfl (o_move rfl rfl ?_)))))))
  refine o_dec (fun h16 => ?_) (fun h16 => ?_)
  · refine g_no rfl rfl rfl (g_no rfl rfl rfl (o_pick_t rfl rfl rfl (o_nil (n_then (c_yes rfl (c_seq (c_region (o_call call_aw10 rfl rfl (aw10_spec _) ?_))))))))
    rintro v20 w20 ⟨rfl, x20⟩
    refine o_assign rfl rfl (o_nil (n_then (c_ret (r_then (r_body1 rfl rfl ?_)))))
    exact ⟨_, rfl, rfl, (x10.trans x20)⟩
  · refine g_yes rfl (o_move rfl rfl (g_yes rfl (o_bin rfl rfl rfl (r_gtr_i) (o_pick_f rfl rfl rfl (o_nil (n_then ?_))))))
    refine c_if rfl (fun h19 => ?_) (fun h19 => ?_)
    · refine c_seq (c_region (o_call call_aw10 rfl rfl (aw10_spec _) ?_))
      rintro v20 w20 ⟨rfl, x20⟩
      refine o_assign rfl rfl (o_nil (n_then (c_ret (r_then (r_body1 rfl rfl ?_)))))
      exact ⟨_, rfl, rfl, (x10.trans x20)⟩
    · refine c_skip (n_then (c_seq ?_))
      obtain ⟨k, rfl⟩ : ∃ k : Nat, n = (k : Int) := ⟨n.toNat, by omega⟩
      refine c_region (o_move rfl rfl ?_)
      obtain ⟨v22, w22, hr22, x22, o22, ob22⟩ := r_mkB (w := w10) w10.heap.size (n := k) (by omega) (Nat.le_refl _)
      refine o_makeSlice rfl rfl rfl hr22 (o_assign rfl rfl (o_nil (n_then (c_seq (c_seq (c_region (o_assign rfl rfl (o_nil (n_then (c_block ?_))))))))))
      refine c_loop2 (fun (i : Nat) (l : List UInt8) => [(0, I (k : Int)), (1, U8 c), (5, v22), (6, I (i : Int))]) (fun (i : Nat) (l : List UInt8) w' => Ext w w' ∧ Ext w10 w' ∧ i ≤ k ∧ OwnB w10.heap.size l v22 w' ∧ l.length = k ∧ l.take i = List.replicate i c) (fun (i : Nat) (l : List UInt8) => k - i) (0) (List.replicate k 0) ⟨rfl, rfl, rfl, rfl, trivial⟩ ⟨(x10.trans x22), x22, by omega, o22, by simp, rfl⟩ ?_
      rintro i l w5 ⟨e5, e10, hi, o5, hl, ht⟩
      refine c_seq (c_seq (c_region (o_move rfl rfl (o_move rfl rfl (o_bin rfl rfl rfl (r_lss_i) (o_nil (n_then ?_)))))))
      refine c_if rfl (fun h25 => ?_) (fun h25 => ?_)
      · refine c_skip (n_then (c_seq (c_block (c_region (o_move rfl rfl (o_move rfl rfl (o_move rfl rfl ?_)))))))
        obtain ⟨g31, w31, p31, s31, o31, q31, hb31, c31, ob31⟩ := (o5).setB (i := i) (by omega) (c)
        refine o_indexAddr rfl rfl rfl (p31 _) (o_store rfl rfl s31 ?_)
        have x31 := Ext.of_new (e10) q31 hb31
        refine o_nil (n_block (n_then (c_region (o_move rfl rfl (o_bin (r := I ((i + 1 : Nat) : Int)) rfl rfl rfl (by have e : ((i + 1 : Nat) : Int) = (i : Int) + 1 := (by omega); rw [e]; exact r_add_i (by omega) (by omega)) ?_)))))
        refine o_assign rfl rfl (o_nil ?_)
        refine n_round2 (i + 1) (l.set i c) ⟨rfl, rfl, rfl, rfl, trivial⟩ ⟨(x10.trans x31), x31, by omega, o31, by simp [hl], by
          rw [List.take_succ_eq_append_getElem (by simp; omega), List.take_set_of_le (Nat.le_refl _), ht, List.replicate_succ', List.getElem_set_self]⟩ (by omega)
      · have hik : i = k := by omega
        have hlk : l = List.replicate k c := by rw [← hik, ← ht, List.take_of_length_le (by omega)]
        rw [hlk] at o5
        have hpk := packed_rep (b := c) (n := k) (by omega)
        have hpl : (packed (List.replicate k c)).length ≤ 12 := by
          have u1 := uv_le 1 k (Nat.lt_of_lt_of_le (by omega : k < 16384) (by decide))
          have u2 := uv_le 1 (k - 5) (Nat.lt_of_lt_of_le (by omega : k - 5 < 16384) (by decide))
          rw [hpk, uv_small (n := 1) (by omega), uv_small (n := 0) (by omega)]
          simp only [List.length_append, List.length_cons, List.length_nil]
          omega
        have hrd : rdU (packed (List.replicate k c)) = some (k, pk (List.replicate k c) 0 0) := by have := rdU_uv (n := (List.replicate k c).length) (by simp; omega) (pk (List.replicate k c) 0 0); unfold packed; rw [this, List.length_replicate]
        have hw := (packed_ways hrd (by simp; omega) rfl).1
        have hvp : vp (packed (List.replicate k c)) (pk (List.replicate k c) 0 0) k = some (List.replicate k c) := by rw [vp_of hw, if_pos rfl]
        refine c_exit (x_then (x_then (x_here (n_then (c_seq (c_region (o_move rfl rfl (o_call call_APack rfl rfl (APack_spec o5.bts (by simp; omega)) ?_))))))))
        rintro v33 w33 ⟨x33, b33⟩
        refine o_assign rfl rfl (o_nil (n_then (c_seq (c_region (o_move rfl rfl (o_move rfl rfl (o_call call_AUnp rfl rfl ((AUnp_spec b33 (by omega) (by omega) (by omega) (fun n t hU hn => by rw [hrd] at hU; obtain ⟨rfl, _⟩ := Prod.mk.inj (Option.some.inj hU); omega))) ?_)))))))
        rintro v37 w37 ⟨x37, h37⟩
        obtain ⟨v38, rfl, b38⟩ := UnpR_ok (by omega) hrd (by omega) hvp h37
        refine o_move rfl rfl (o_extract rfl rfl (r_ext0) (o_extract rfl rfl (r_ext1) (o_assign rfl rfl (o_assign rfl rfl (o_nil (n_then (c_seq (c_region (o_move rfl rfl (o_len rfl rfl (r_lenB (b33.ext x37)) ?_))))))))))
        refine o_bin rfl rfl rfl (dec_t (by omega) r_leq_i) (o_move rfl rfl (g_yes rfl (o_move rfl rfl (g_yes rfl (o_bin rfl rfl rfl (dec_t rfl r_eql_i) (o_pick_t rfl rfl rfl (o_move rfl rfl ?_)))))))
        refine g_yes rfl (o_move rfl rfl (g_yes rfl (o_conv rfl rfl (r_str b38) (g_yes rfl (o_move rfl rfl (g_yes rfl (o_conv rfl rfl (r_str (o5.bts.ext (x33.trans x37))) (g_yes rfl (o_bin rfl rfl rfl (dec_t rfl r_eql_s) ?_)))))))))
        refine o_pick_t rfl rfl rfl (o_assign rfl rfl (o_nil (n_then (c_ret (r_body1 rfl rfl ?_)))))
        exact ⟨_, rfl, rfl, ((e5.trans x33).trans x37)⟩
end Go.Rl
/- How the arguments of a statement read. Conditions: the arguments can be read as data. -/
namespace Go.Rl
open Go.ChangeShapes Go.WideShapes Go.ChangeAt Go.RowKit Go.Proofs
open Go.ChangeMaps (open_string shut_string)

section
variable {P : Program} {H : Type} {enc : TypeId × Value → H} {W : World} {base : Nat} {spare : Nat → Bool} {held : Bool} {r : Reach} {b0 : Nat} {v : Value} {d : DataW H} {ps : List MemPlace}

theorem wf_U8 {n : Int} (h : (Lit.int .u8 n).wf = true) : ∃ x : UInt8, n = (x.toNat : Int) := by
  have hb : 0 ≤ n ∧ n ≤ 255 := by simpa [Lit.wf, IntKind.min, IntKind.max, IntKind.signed, IntKind.bits] using h
  exact ⟨UInt8.ofNat n.toNat, by rw [UInt8.toNat_ofNat']; omega⟩
theorem wf_U32 {n : Int} (h : (Lit.int .u32 n).wf = true) : ∃ x : UInt32, n = (x.toNat : Int) := by
  have hb : 0 ≤ n ∧ n ≤ 4294967295 := by simpa [Lit.wf, IntKind.min, IntKind.max, IntKind.signed, IntKind.bits] using h
  exact ⟨UInt32.ofNat n.toNat, by rw [UInt32.toNat_ofNat']; omega⟩
theorem wf_U64 {n : Int} (h : (Lit.int .u64 n).wf = true) : ∃ x : UInt64, n = (x.toNat : Int) := by
  have hb : 0 ≤ n ∧ n ≤ 18446744073709551615 := by simpa [Lit.wf, IntKind.min, IntKind.max, IntKind.signed, IntKind.bits] using h
  exact ⟨UInt64.ofNat n.toNat, by rw [UInt64.toNat_ofNat']; omega⟩
theorem wf_I {n : Int} (h : (Lit.int .i64 n).wf = true) : -9223372036854775808 ≤ n ∧ n ≤ 9223372036854775807 := by
  simpa [Lit.wf, IntKind.min, IntKind.max, IntKind.signed, IntKind.bits] using h

theorem ints_U8 : ∀ (zs : List Int), (∀ n ∈ zs, (Lit.int .u8 n).wf = true) → ∃ l : List UInt8, zs.map (Value.int .u8) = l.map U8
  | [], _ => ⟨[], rfl⟩
  | z :: zs, h => by
    obtain ⟨x, hx⟩ := wf_U8 (h z (by simp))
    obtain ⟨l, hl⟩ := ints_U8 zs fun n hn => h n (by simp [hn])
    exact ⟨x :: l, by rw [List.map_cons, List.map_cons, hl, hx]; rfl⟩
theorem ints_U32 : ∀ (zs : List Int), (∀ n ∈ zs, (Lit.int .u32 n).wf = true) → ∃ l : List UInt32, zs.map (Value.int .u32) = l.map U32
  | [], _ => ⟨[], rfl⟩
  | z :: zs, h => by
    obtain ⟨x, hx⟩ := wf_U32 (h z (by simp))
    obtain ⟨l, hl⟩ := ints_U32 zs fun n hn => h n (by simp [hn])
    exact ⟨x :: l, by rw [List.map_cons, List.map_cons, hl, hx]; rfl⟩

/-- A slice of integers, read. -/
theorem open_slc {t e : TypeId} {k : IntKind} {fuel : Nat} {cs : List Value} {x : DataW H × List MemPlace} (ht : P.underlying t = some (.slice e)) (he : P.underlying e = some (.int k)) (hc : P.cellsOf e = 1) (hf : DataW.trod enc P W base spare held fuel t cs = some x) :
    ∃ v, cs = [v] ∧ v.oneCell' = true ∧ ∃ zs : List Int, Sl 1 (zs.map (Value.int k)) v W ∧ ∀ n ∈ zs, (Lit.int k n).wf = true := by
  rcases open_ints ht he hc hf with ⟨hcs, _⟩ | ⟨x, l, c, zs, hcs, _, hl, hm, hz, _, hcell, hwz⟩
  · exact ⟨_, hcs, rfl, [], Sl.nil 1 W, by simp⟩
  · have hle : l ≤ zs.length := by
      rw [hz]; split <;> omega
    refine ⟨_, hcs, rfl, zs.take l, ⟨some x, l, c, rfl, hl, hm, by simp [hle], fun _ => ⟨x, rfl, fun j u hu => ?_⟩, fun h => by cases h⟩, fun n hn => hwz n (List.mem_of_mem_take hn)⟩
    rw [List.getElem?_map, Option.map_eq_some_iff] at hu
    obtain ⟨z, hz1, rfl⟩ := hu
    rw [List.getElem?_take] at hz1
    split at hz1
    · rename_i hjl
      have hj : j < zs.length := by omega
      have := hcell j hj
      rw [List.getElem?_eq_getElem hj] at hz1
      rw [this]
      simp only [Option.some.injEq] at hz1
      rw [← hz1]
      simp [List.getD, List.getElem?_eq_getElem hj]
    · cases hz1
theorem open_Sl {t e : TypeId} {k : IntKind} (ht : P.underlying t = some (.slice e)) (he : P.underlying e = some (.int k)) (hc : P.cellsOf e = 1) (ho : Value.okWide P W r b0 t v) (h : DataW.Trod enc P W base spare held t v d ps) :
    ∃ zs : List Int, Sl 1 (zs.map (Value.int k)) v W ∧ ∀ n ∈ zs, (Lit.int k n).wf = true := by
  obtain ⟨a, len, cap, rfl⟩ := okWide_slice ht ho
  obtain ⟨fuel, hf⟩ := h
  obtain ⟨v, hv, _, h⟩ := open_slc ht he hc hf
  simp [Value.cells] at hv
  subst hv
  exact h
/-- A rational: a struct of a bool and two rows of limbs. -/
theorem open_Rat {t t0 t1 e : TypeId} {f0 f1 f2 : Field} (ht : P.underlying t = some (.struct #[f0, f1, f2])) (h0 : f0.type = t0 ∧ f0.offset = 0) (h1 : f1.type = t1 ∧ f1.offset = 1) (h2 : f2.type = t1 ∧ f2.offset = 2) (hb : P.underlying t0 = some .bool) (hs : P.underlying t1 = some (.slice e))
    (he : P.underlying e = some (.int .u32)) (hc : P.cellsOf e = 1) (hcb : P.cellsOf t0 = 1) (hcs : P.cellsOf t1 = 1) (hct : P.cellsOf t = 3) (ho : Value.okWide P W r b0 t v) (h : DataW.Trod enc P W base spare held t v d ps) :
    ∃ b x y n m, v = .agg #[B b, x, y] ∧ x.oneCell' = true ∧ y.oneCell' = true ∧ Wds n x W ∧ Wds m y W := by
  obtain ⟨cs, rfl, hsz⟩ := okWide_struct ht ho
  obtain ⟨fuel, hf⟩ := h
  have hcells : (Value.agg cs).cells = cs := rfl
  rw [hcells] at hf
  obtain ⟨xs, n, _, _, hl, hlen, hall⟩ := DataW.trod_struct ht hf
  have hl3 : cs.toList.length = 3 := by rw [hl, hct]
  obtain ⟨c0, c1, c2, hcs3⟩ : ∃ a b c, cs.toList = [a, b, c] := by
    match hq : cs.toList, hl3 with
    | [a, b, c], _ => exact ⟨a, b, c, rfl⟩
  have a0 := hall 0 f0 rfl
  have a1 := hall 1 f1 rfl
  have a2 := hall 2 f2 rfl
  rw [hcs3, h0.1, h0.2, hcb] at a0
  rw [hcs3, h1.1, h1.2, hcs] at a1
  rw [hcs3, h2.1, h2.2, hcs] at a2
  simp only [List.drop_zero, List.drop_succ_cons, List.take_succ_cons, List.take_zero] at a0 a1 a2
  have l3 : xs.length = 3 := by rw [hlen]; rfl
  obtain ⟨y0, hy0⟩ : ∃ y, xs[0]? = some y := ⟨xs[0], List.getElem?_eq_getElem (by omega)⟩
  obtain ⟨y1, hy1⟩ : ∃ y, xs[1]? = some y := ⟨xs[1], List.getElem?_eq_getElem (by omega)⟩
  obtain ⟨y2, hy2⟩ : ∃ y, xs[2]? = some y := ⟨xs[2], List.getElem?_eq_getElem (by omega)⟩
  rw [hy0] at a0
  rw [hy1] at a1
  rw [hy2] at a2
  obtain ⟨b, hb0, _⟩ := DataW.trod_bool hb a0
  obtain ⟨v1, hv1, o1, z1, s1, w1⟩ := open_slc hs he hc a1
  obtain ⟨v2, hv2, o2, z2, s2, w2⟩ := open_slc hs he hc a2
  obtain ⟨l1, hl1⟩ := ints_U32 z1 w1
  obtain ⟨l2, hl2⟩ := ints_U32 z2 w2
  simp only [List.cons.injEq, and_true] at hb0 hv1 hv2
  subst hb0 hv1 hv2
  refine ⟨b, c1, c2, l1, l2, ?_, o1, o2, by unfold Wds; rw [← hl1]; exact s1, by unfold Wds; rw [← hl2]; exact s2⟩
  rw [← Array.toArray_toList (xs := cs), hcs3]
  rfl
/-- A slice of texts, read. -/
theorem open_Txs {t e : TypeId} (ht : P.underlying t = some (.slice e)) (he : P.underlying e = some .string) (hc : P.cellsOf e = 1) (ho : Value.okWide P W r b0 t v) (h : DataW.Trod enc P W base spare held t v d ps) :
    ∃ l : List (List UInt8), Txs l v W ∧ ∀ s ∈ l, s.length ≤ 9223372036854775807 := by
  obtain ⟨a, len, cap, rfl⟩ := okWide_slice ht ho
  obtain ⟨fuel, hf⟩ := h
  rcases Go.ChangeShapes.open_strings ht he hc hf with ⟨hcs, _⟩ | ⟨x, l, c, ss, hcs, _, hl, hm, hz, _, hcell, hwz⟩
  · simp [Value.cells] at hcs
    obtain ⟨rfl, rfl, rfl⟩ := hcs
    exact ⟨[], Sl.nil 1 W, by simp⟩
  · simp [Value.cells] at hcs
    obtain ⟨rfl, rfl, rfl⟩ := hcs
    have hle : len ≤ ss.length := by
      rw [hz]; split <;> omega
    refine ⟨(ss.take len).map fun s => s.data.toList, ⟨some x, len, cap, rfl, hl, hm, by simp [hle], fun _ => ⟨x, rfl, fun j u hu => ?_⟩, fun h => by cases h⟩, fun s hs => ?_⟩
    · rw [List.map_map, List.getElem?_map, Option.map_eq_some_iff] at hu
      obtain ⟨z, hz1, rfl⟩ := hu
      rw [List.getElem?_take] at hz1
      split at hz1
      · have hj : j < ss.length := by omega
        rw [hcell j hj]
        rw [List.getElem?_eq_getElem hj] at hz1
        simp only [Option.some.injEq] at hz1
        rw [← hz1]
        simp [List.getD, List.getElem?_eq_getElem hj, S]
      · cases hz1
    · obtain ⟨b, hb, rfl⟩ := List.mem_map.1 hs
      have := hwz b (List.mem_of_mem_take hb)
      unfold maxLen at this
      have : b.data.toList.length = b.size := rfl
      omega
theorem open_Bts {t e : TypeId} (ht : P.underlying t = some (.slice e)) (he : P.underlying e = some (.int .u8)) (hc : P.cellsOf e = 1) (ho : Value.okWide P W r b0 t v) (h : DataW.Trod enc P W base spare held t v d ps) : ∃ l, Bts l v W := by
  obtain ⟨zs, h1, h2⟩ := open_Sl ht he hc ho h
  obtain ⟨l, hl⟩ := ints_U8 zs h2
  exact ⟨l, by unfold Bts; rw [← hl]; exact h1⟩
theorem open_Wds {t e : TypeId} (ht : P.underlying t = some (.slice e)) (he : P.underlying e = some (.int .u32)) (hc : P.cellsOf e = 1) (ho : Value.okWide P W r b0 t v) (h : DataW.Trod enc P W base spare held t v d ps) : ∃ l, Wds l v W := by
  obtain ⟨zs, h1, h2⟩ := open_Sl ht he hc ho h
  obtain ⟨l, hl⟩ := ints_U32 zs h2
  exact ⟨l, by unfold Wds; rw [← hl]; exact h1⟩
theorem open_U64 {t : TypeId} (ht : P.underlying t = some (.int .u64)) (ho : Value.okWide P W r b0 t v) (h : DataW.Trod enc P W base spare held t v d ps) : ∃ x, v = U64 x := by
  obtain ⟨n, rfl, _, _, hw⟩ := open_int ht ho h
  obtain ⟨x, rfl⟩ := wf_U64 hw
  exact ⟨x, rfl⟩
theorem open_U32 {t : TypeId} (ht : P.underlying t = some (.int .u32)) (ho : Value.okWide P W r b0 t v) (h : DataW.Trod enc P W base spare held t v d ps) : ∃ x, v = U32 x := by
  obtain ⟨n, rfl, _, _, hw⟩ := open_int ht ho h
  obtain ⟨x, rfl⟩ := wf_U32 hw
  exact ⟨x, rfl⟩
theorem open_U8 {t : TypeId} (ht : P.underlying t = some (.int .u8)) (ho : Value.okWide P W r b0 t v) (h : DataW.Trod enc P W base spare held t v d ps) : ∃ x, v = U8 x := by
  obtain ⟨n, rfl, _, _, hw⟩ := open_int ht ho h
  obtain ⟨x, rfl⟩ := wf_U8 hw
  exact ⟨x, rfl⟩
theorem open_I {t : TypeId} (ht : P.underlying t = some (.int .i64)) (ho : Value.okWide P W r b0 t v) (h : DataW.Trod enc P W base spare held t v d ps) : ∃ x, v = I x ∧ -9223372036854775808 ≤ x ∧ x ≤ 9223372036854775807 := by
  obtain ⟨n, rfl, _, _, hw⟩ := open_int ht ho h
  exact ⟨n, rfl, wf_I hw⟩
theorem open_B {t : TypeId} (ht : P.underlying t = some .bool) (ho : Value.okWide P W r b0 t v) (h : DataW.Trod enc P W base spare held t v d ps) : ∃ x, v = B x := by
  obtain ⟨n, rfl, _, _⟩ := open_bool ht ho h
  exact ⟨n, rfl⟩
theorem open_S {t : TypeId} (ht : P.underlying t = some .string) (ho : Value.okWide P W r b0 t v) (h : DataW.Trod enc P W base spare held t v d ps) : ∃ l, v = S l ∧ l.length ≤ 9223372036854775807 := by
  obtain ⟨s, rfl, _, _, hs⟩ := open_string ht ho h
  refine ⟨s.data.toList, rfl, ?_⟩
  unfold maxLen at hs
  have : s.data.toList.length = s.size := rfl
  omega
end
end Go.Rl
/- Rows that are full or owned: appended to, sliced at the front. No condition. -/
namespace Go.Rl
open Go.RowKit Go.Proofs
theorem run_slice_hi {P : Program} {t e : TypeId} {sz : Nat} (ht : P.underlying t = some (.slice e)) (hsz : (P.info? e).map (·.size) = some sz) {A : Option Addr} {n c hi : Nat} (h1 : hi ≤ n) (hnc : n ≤ c) (h0 : A = none → c = 0) (kh : IntKind) (w : World) :
    (Instr.sliceAt t (.slice A n c) none (some (.int kh hi)) none).run P w = .ok (.slice A hi c) w := by
  obtain ⟨i, hi', hs⟩ := Option.map_eq_some_iff.1 hsz
  have hb : ∀ w : World, (Instr.sliceBounds true n c none (some (.int kh hi)) none).run P w = .ok (0, hi, c) w := fun w => by
    have a1 := run_sliceBound (P := P) (w := w) kh (hi : Int) c .sliceAcap (by omega) (by omega)
    simp only [Int.toNat_natCast] at a1
    simp [Instr.sliceBounds, a1]
  have : (Instr.sliceAt t (.slice A n c) none (some (.int kh hi)) none).run P w = .ok (.slice (if c = 0 then A else A.map (·.add (0 * sz))) (hi - 0) (c - 0)) w := by
    simp [Instr.sliceAt, Instr.slice, run_underlying ht, hb, sizeOf, typeInfo, hi', hs]
  rw [this]
  have hA' : (if c = 0 then A else A.map (·.add (0 * sz))) = A := by
    split
    · rfl
    · cases A <;> simp [add_zero]
  rw [hA']
  rfl
section
variable {w0 w : World} {l m : List UInt8} {v x : Value} {ty : TypeId}
/-- Bytes that an append never changes in place: a row of the call's own, or one without room. -/
def GrB (base : Nat) (l : List UInt8) (v : Value) (w : World) : Prop := OwnB base l v w ∨ (Bts l v w ∧ ∃ ad, v = .slice (some ad) l.length l.length)
theorem GrB.ext {base : Nat} {w' : World} (h : GrB base l v w) (hx : Ext w w') : GrB base l v w' := h.imp (·.ext hx) fun h => ⟨h.1.ext hx, h.2⟩
theorem r_litF {w : World} (l : List UInt8) (hl : l.length ≤ 16777216) (h0 : 0 < l.length) : ∃ v w1 w2, (Instr.buildSlice 22 l.length (number 0 (l.map U8)).toArray).run Try.prog w = .ok v w1 ∧ (convert 22 22 v).run Try.prog w1 = .ok v w2 ∧ Ext w w2 ∧ Bts l v w2 ∧ ∃ ad, v = .slice (some ad) l.length l.length := by
  obtain ⟨v, w1, w2, h1, h2, h3, h4⟩ := r_lit (w := w) l hl
  refine ⟨v, w1, w2, h1, h2, h3, h4, ?_⟩
  obtain ⟨r, w', h5, h6, h7, h8⟩ := r_bsB (w := w) 0 l hl (Nat.zero_le _)
  rw [h1] at h5
  obtain ⟨rfl, rfl⟩ := Result.ok.inj h5
  obtain ⟨n, hn, ⟨rfl, rfl⟩ | ⟨g, cap, cur, rfl, hg, hcur, hnc, hcm, hcs, htk⟩⟩ := h7
  · cases h8
  · have hln : n = l.length := by simpa using hn.symm
    subst hln
    have hz : cap = l.length := by
      obtain ⟨i, hi, hz0, hs, _⟩ := info_parts info_u8
      have hf : ∀ Z : Array Value, Z.size = (l.map U8).length → Instr.fill (fun i => some (i * 1, 1)) Z (number 0 (l.map U8)) = some (l.map U8).toArray := fun Z hZ => by
        have := fill_number (l.map U8) [] Z.toList (fun v hv => one_cells (one_U8 l v hv)) (by simpa using hZ)
        simpa using this
      have hle : ¬ (l.length * 1 > 2 ^ 24) := by omega
      have hinfo : (typeInfo 5).run Try.prog w = .ok i w := by simp [typeInfo, hi]
      have hsz : (sizeOf 5).run Try.prog w = .ok 1 w := by simp [sizeOf, hinfo, hs]
      have hzv : (zeroValue 5).run Try.prog w = .ok (.int .u8 0) w := by simp [zeroValue, hinfo, hz0]
      have hrun : (Instr.buildSlice 22 l.length (number 0 (l.map U8)).toArray).run Try.prog w = .ok (.slice (some ⟨w.heap.size, 0, none⟩) l.length l.length) (w.alloc (.cells (l.map U8).toArray 5)) := by
        simp only [Instr.buildSlice, Sem.run_bind, run_underlying Try.underlying22, Result.andThen_ok, hsz, if_neg hle]
        rw [if_neg (by omega)]
        simp only [Sem.run_bind, Sem.run_pure, Result.andThen_ok, hzv]
        rw [hf _ (by simp [Value.cells])]
        simp [newRow]
      rw [h1] at hrun
      have := (Result.ok.inj hrun).1
      injection this
    subst hz
    exact ⟨_, rfl⟩
theorem r_appG (h0 : Ext w0 w) (hv : GrB w0.heap.size l v w) (hx : Bts m x w) (hm : 0 < m.length) (hb : l.length + m.length ≤ 140737488355328) :
    ∃ r w', (Builtin.append_ #[22, 22] ty #[v, x]).run Try.prog w = .ok r w' ∧ OwnB w0.heap.size (l ++ m) r w' ∧ Ext w0 w' := by
  rcases hv with hv | ⟨hv, ad, rfl⟩
  · obtain ⟨r, w', h1, h2, h3⟩ := r_appB (ty := ty) hv hx hb h0.size
    exact ⟨r, w', h1, h2, Ext.of_grew h0 h3 hv.ge⟩
  · obtain ⟨i, hi, hz, hsize, hby⟩ := info_parts info_u8
    obtain ⟨A, n, c, hA, hnc, hcm, hl, hc, _⟩ := hv
    injection hA with hA hn hc'
    subst hA hn hc'
    obtain ⟨A', n', c', rfl, hnc', hcm', hl', hcl', _⟩ := hx
    have hn' : n' = m.length := by simpa using hl'.symm
    obtain ⟨ad', hA', hcl2⟩ := hcl' (by omega)
    subst hA'
    have hold : ∀ j u, (l.map U8)[j]? = some u → w.cell? (ad.add j) = some u := fun j u hu => by
      have hj : j < l.length := by
        have := (List.getElem?_eq_some_iff.1 hu).1
        simpa using this
      obtain ⟨ad2, h2, h3⟩ := hc (by omega)
      cases h2
      exact h3 j u hu
    obtain ⟨r, w', h1, h2, h3⟩ := run_append_arg_grows (P := Try.prog) w 22 ty 5 i (.int .u8 0) 1 1 Try.underlying22 hi hz hsize hby rfl (by omega) ad l.length l.length (l.map U8) (by simp) hold ad' n' c' (m.map U8) hl' hcl2 (by omega) (by unfold maxLen; omega) (by omega)
    refine ⟨r, w', h1, ⟨l.length + n', ?_⟩, h0.of_grown h3 (fun k hk => by cases hk)⟩
    rw [List.map_append]
    exact ownsRow_base h2 (fun k hk => Nat.le_trans h0.size (World.ownsRow.lt h2 k hk).1)
theorem r_appSE (h0 : Ext w0 w) (hv : OwnB w0.heap.size l v w) (hb : l.length + m.length ≤ 140737488355328) :
    ∃ r w', (Builtin.append_ #[22, 9] ty #[v, S m]).run Try.prog w = .ok r w' ∧ OwnB w0.heap.size (l ++ m) r w' ∧ Ext w0 w' := by
  obtain ⟨r, w', h1, h2, h3⟩ := r_appS (ty := ty) (m := m) hv hb h0.size
  exact ⟨r, w', h1, h2, h0.of_grown h3 hv.ge⟩
theorem r_slBO {base : Nat} (h : OwnB base l v w) {hi : Nat} (h2 : hi ≤ l.length) (kh : IntKind) :
    ∃ r, (∀ w' : World, (Instr.sliceAt 22 v none (some (.int kh hi)) none).run Try.prog w' = .ok r w') ∧ OwnB base (l.take hi) r w := by
  obtain ⟨n, hn, ⟨rfl, rfl⟩ | ⟨g, cap, cur, rfl, hg, hcur, hnc, hcm, hcs, htk⟩⟩ := h
  · have hl : l = [] := by simpa using hn
    subst hl
    have : hi = 0 := by simpa using h2
    subst this
    exact ⟨_, fun w' => run_slice_hi Try.underlying22 size_u8 (Nat.le_refl _) (Nat.le_refl _) (fun _ => rfl) kh w', OwnB.nil _ _⟩
  · have hln : n = l.length := by simpa using hn.symm
    refine ⟨_, fun w' => run_slice_hi Try.underlying22 size_u8 (hi := hi) (by omega) hnc (fun h => by cases h) kh w', ⟨hi, by simp; omega, .inr ⟨g, cap, cur, rfl, hg, hcur, by omega, hcm, hcs, ?_⟩⟩⟩
    rw [List.map_take, ← htk, List.take_take]
    congr 1
    omega
end
end Go.Rl
/- The statement CompressFar, walked. No condition. -/
namespace Go.Rl
open Go.RowKit Go.Proofs
theorem CompressFar_walk {w : World} {n : Int} {c : UInt8} (h1 : -9223372036854775808 ≤ n) (h2 : n ≤ 9223372036854775807) :
    Calls Try.prog 9 #[I n, U8 c] w (Ret fun r w' => r = B true ∧ Ext w w') := by
  refine enter (vs := [I n, U8 c]) Try.func9 rfl rfl rfl ?_
  refine c_seq (c_region (o_assign rfl rfl (o_nil (n_then (c_seq (c_seq (c_region (o_call call_aw10 rfl rfl (aw10_spec _) ?_))))))))
  rintro v7 w7 ⟨rfl, x7⟩
  refine o_not rfl rfl r_not (o_move rfl rfl (g_yes rfl (o_move rfl rfl (g_yes rfl (o_bin rfl rfl rfl (r_lss_i) (o_pick_f rfl rfl rfl (o_move rfl rfl ?_)))))))
  refine o_dec (fun h13 => ?_) (fun h13 => ?_)
  · refine g_no rfl rfl rfl (g_no rfl rfl rfl (o_pick_t rfl rfl rfl (o_nil (n_then (c_yes rfl (c_seq (c_region (o_call call_aw10 rfl rfl (aw10_spec _) ?_))))))))
    rintro v17 w17 ⟨rfl, x17⟩
    refine o_assign rfl rfl (o_nil (n_then (c_ret (r_then (r_body1 rfl rfl ?_)))))
    exact ⟨_, rfl, rfl, (x7.trans x17)⟩
  · refine g_yes rfl (o_move rfl rfl (g_yes rfl (o_bin rfl rfl rfl (r_gtr_i) (o_pick_f rfl rfl rfl (o_nil (n_then ?_))))))
    refine c_if rfl (fun h16 => ?_) (fun h16 => ?_)
    · refine c_seq (c_region (o_call call_aw10 rfl rfl (aw10_spec _) ?_))
      rintro v17 w17 ⟨rfl, x17⟩
      refine o_assign rfl rfl (o_nil (n_then (c_ret (r_then (r_body1 rfl rfl ?_)))))
      exact ⟨_, rfl, rfl, (x7.trans x17)⟩
    · refine c_skip (n_then (c_seq ?_))
      obtain ⟨g, rfl⟩ : ∃ g : Nat, n = (g : Int) := ⟨n.toNat, by omega⟩
      refine c_region ?_
      obtain ⟨v18, w180, w18, hr18, hc18, x18, b18, a18⟩ := r_litF (w := w7) [107, 101, 121, 33] (by simp) (by simp)
      refine o_buildSlice (vs := [(0, U8 107), (1, U8 101), (2, U8 121), (3, U8 33)]) rfl rfl hr18 ?_
      refine o_conv rfl rfl hc18 ?_
      refine o_assign rfl rfl (o_nil (n_then (c_seq (c_seq (c_region (o_assign rfl rfl (o_nil (n_then (c_block ?_)))))))))
      refine c_loop3 (fun (i : Nat) (l : List UInt8) (v : Value) => [(0, I (g : Int)), (1, U8 c), (5, v), (6, I (i : Int))]) (fun (i : Nat) (l : List UInt8) (v : Value) w' => Ext w w' ∧ Ext w18 w' ∧ i ≤ g ∧ GrB w18.heap.size l v w' ∧ l.length = 4 + 2 * i ∧ (0 < i → OwnB w18.heap.size l v w')) (fun (i : Nat) (l : List UInt8) (v : Value) => g - i) (0) ([107, 101, 121, 33]) (v18) ⟨rfl, rfl, rfl, rfl, trivial⟩ ⟨(x7.trans x18), Ext.refl _, by omega, .inr ⟨b18, a18⟩, rfl, fun h => absurd h (by omega)⟩ ?_
      rintro i l v w5 ⟨e5, e18, hi, o5, hl, hown⟩
      refine c_seq (c_seq (c_region (o_move rfl rfl (o_move rfl rfl (o_bin rfl rfl rfl (r_lss_i) (o_nil (n_then ?_)))))))
      refine c_if rfl (fun h22 => ?_) (fun h22 => ?_)
      · refine c_skip (n_then (c_seq (c_block (c_region (o_move rfl rfl (o_move rfl rfl (o_bin (r := I ((i / 250 : Nat) : Int)) rfl rfl rfl (by have e : ((i / 250 : Nat) : Int) = (i : Int) / 250 := (by omega); rw [e]; exact r_quo_i (by omega) (by omega) (by omega)) ?_)))))))
        refine o_move rfl rfl (o_bin (v := U8 3) rfl rfl rfl (r_rem_u8 (by decide)) (o_conv rfl rfl (r_u8_i Try.underlying5 Try.underlying3) (o_bin (r := I ((i / 250 + (c % 3).toNat : Nat) : Int)) rfl rfl rfl ((by have := (c % 3).toNat_lt; have e : ((i / 250 + (c % 3).toNat : Nat) : Int) = ((i / 250 : Nat) : Int) + (((c % 3).toNat : Nat) : Int) := (by omega); rw [e]; exact r_add_i (by omega) (by omega))) ?_)))
        refine o_conv rfl rfl (r_n_u8 Try.underlying3 Try.underlying5) (o_move rfl rfl (o_bin (r := I ((i % 250 : Nat) : Int)) rfl rfl rfl (by have e : ((i % 250 : Nat) : Int) = (i : Int) % 250 := (by omega); rw [e]; exact r_rem_i (by omega) (by omega)) ?_))
        refine o_conv rfl rfl (r_n_u8 Try.underlying3 Try.underlying5) ?_
        obtain ⟨v36, w36, hr36, x36, o36, ob36⟩ := r_bsB (w := w5) w5.heap.size [UInt8.ofNat (i / 250 + (c % 3).toNat), UInt8.ofNat (i % 250)] (by simp) (Nat.le_refl _)
        refine o_buildSlice (vs := [(0, U8 (UInt8.ofNat (i / 250 + (c % 3).toNat))), (1, U8 (UInt8.ofNat (i % 250)))]) rfl rfl hr36 ?_
        obtain ⟨v37, w37, hr37, o37, x37⟩ := r_appG (ty := 22) ((e18.trans x36)) (o5.ext x36) o36.bts (by simp) (by simp; omega)
        refine o_append rfl rfl hr37 (o_assign rfl rfl (o_nil (n_block (n_then (c_region (o_move rfl rfl (o_bin (r := I ((i + 1 : Nat) : Int)) rfl rfl rfl (by have e : ((i + 1 : Nat) : Int) = (i : Int) + 1 := (by omega); rw [e]; exact r_add_i (by omega) (by omega)) ?_)))))))
        refine o_assign rfl rfl (o_nil ?_)
        refine n_round3 (i + 1) (l ++ [UInt8.ofNat (i / 250 + (c % 3).toNat), UInt8.ofNat (i % 250)]) (v37) ⟨rfl, rfl, rfl, rfl, trivial⟩ ⟨((x7.trans x18).trans x37), x37, by omega, .inl o37, by simp [hl]; omega, fun _ => o37⟩ (by omega)
      · have hig : i = g := by omega
        have o6 := hown (by omega)
        refine c_exit (x_then (x_then (x_here (n_then (c_seq (c_region (o_move rfl rfl (o_move rfl rfl (o_bin (r := I ((4 + g : Nat) : Int)) rfl rfl rfl (by have e : ((4 + g : Nat) : Int) = 4 + (g : Int) := (by omega); rw [e]; exact r_add_i (by omega) (by omega)) ?_)))))))))
        obtain ⟨v41, p41, o41⟩ := r_slBO o6 (hi := 4 + g) (by omega) .i64
        refine o_slice rfl rfl rfl rfl rfl (p41 _) ?_
        obtain ⟨v42, w42, hr42, o42, x42⟩ := r_appSE (ty := 22) (m := [107, 101, 121, 33]) (e18) o41 (by simp; omega)
        refine o_append rfl rfl hr42 (o_assign rfl rfl (o_nil (n_then (c_seq (c_grow 7 [49] (by kernel_rfl) (by kernel_rfl) ?_)))))
        refine f_move rfl rfl (f_call (S := Bts (packed (l.take (4 + g) ++ [107, 101, 121, 33]))) call_APack (Bts.stable _) rfl (fun w hw => by rintro _ rfl; exact Ret.mono (APack_spec (o42.bts.ext hw) (by simp; omega)) fun v w' h => h) ?_)
        refine f_convS rfl (Stable.is _) rfl (fun w v hw hv => ⟨_, w, r_str hv, Ext.refl _, rfl⟩) (f_move rfl rfl (f_call (S := Bts (packed (l.take (4 + g) ++ [107, 101, 121, 33]))) call_TPack (Bts.stable _) rfl (fun w hw => by rintro _ rfl; exact Ret.mono (TPack_spec (o42.bts.ext hw) (by simp; omega)) fun v w' h => h) ?_))
        refine f_convS rfl (Stable.is _) rfl (fun w v hw hv => ⟨_, w, r_str hv, Ext.refl _, rfl⟩) (f_bin rfl rfl rfl (fun w _ => dec_t rfl r_eql_s) (f_nil ?_))
        intro wg9 xg9
        rintro _ rfl
        refine o_assign rfl rfl (o_nil (n_then (c_ret (r_body1 rfl rfl ?_))))
        exact ⟨_, rfl, rfl, (((x7.trans x18).trans x42).trans xg9)⟩
end Go.Rl

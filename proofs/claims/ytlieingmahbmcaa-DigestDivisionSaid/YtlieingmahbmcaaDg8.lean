/- The hash behind a message: plain facts, copying into its block, slices elsewhere. Conditions: each names its own. -/
import Derived.Test.YtlieingmahbmcaaDg7
namespace Go.Rl
open Go.RowKit Go.Proofs

/-- The hash at block g behind the message m. -/
def HA (g : Nat) (m : List UInt8) (tot : UInt64) (w : World) : Prop := ∃ blk, HC g (sh m) blk ((m.length % 64 : Nat) : Int) tot w ∧ blk.take (m.length % 64) = m.drop (64 * (m.length / 64))
theorem HA.ext {g : Nat} {m : List UInt8} {tot : UInt64} {w w' : World} (h : HA g m tot w) (hx : Ext w w') : HA g m tot w' := by
  obtain ⟨blk, h1, h2⟩ := h
  exact ⟨blk, h1.ext hx, h2⟩
theorem HA.other {g : Nat} {m : List UInt8} {tot : UInt64} {w w' : World} {row : Option Nat} (h : HA g m tot w) (hg : w.grownBy w' row) (hne : some g ≠ row) : HA g m tot w' := by
  obtain ⟨blk, h1, h2⟩ := h
  exact ⟨blk, h1.other hg hne, h2⟩
theorem HA.lt {g : Nat} {m : List UInt8} {tot : UInt64} {w : World} (h : HA g m tot w) : g < w.heap.size := by
  obtain ⟨blk, h1, h2⟩ := h
  exact h1.lt

/-- Bytes y behind m, not filling the block. -/
theorem sh_part (m y : List UInt8) (h : m.length % 64 + y.length < 64) : sh (m ++ y) = sh m := by
  have hm : m = m.take (64 * (m.length / 64)) ++ m.drop (64 * (m.length / 64)) := (List.take_append_drop _ _).symm
  have hl : (m.take (64 * (m.length / 64))).length = 64 * (m.length / 64) := by simp; omega
  have hd : (m.drop (64 * (m.length / 64))).length = m.length % 64 := by simp; omega
  rw [hm, List.append_assoc, sh_tail _ _ (by omega) (by rw [List.length_append, hd]; exact h), sh_tail _ _ (by omega) (by omega)]
/-- .. and filling it. -/
theorem sh_full (m y : List UInt8) (h : m.length % 64 + y.length = 64) : sh (m ++ y) = cmpr (sh m) (m.drop (64 * (m.length / 64)) ++ y) := by
  have hm : m = m.take (64 * (m.length / 64)) ++ m.drop (64 * (m.length / 64)) := (List.take_append_drop _ _).symm
  have hl : (m.take (64 * (m.length / 64))).length = 64 * (m.length / 64) := by simp; omega
  have hd : (m.drop (64 * (m.length / 64))).length = m.length % 64 := by simp; omega
  have e1 : sh (m ++ y) = sh (m.take (64 * (m.length / 64)) ++ (m.drop (64 * (m.length / 64)) ++ y)) := by
    rw [← List.append_assoc, List.take_append_drop]
  have e2 : sh m = sh (m.take (64 * (m.length / 64))) := by
    conv => lhs; rw [hm]
    exact sh_tail _ _ (by omega) (by omega)
  rw [e1, e2, sh_block _ _ (by omega) (by rw [List.length_append, hd]; exact h)]

/-- A slice that lies in another block. -/
def Away (g : Nat) (v : Value) : Prop := ∀ a n c, v = .slice (some a) n c → a.block ≠ g
theorem Bts.away {l : List UInt8} {v : Value} {g : Nat} {w w' : World} (h : Bts l v w) (ha : 0 < l.length → Away g v) (hg : w.grownBy w' (some g)) : Bts l v w' := by
  obtain ⟨A, n, c, rfl, h1, h2, h3, h4, h5⟩ := h
  refine ⟨A, n, c, rfl, h1, h2, h3, fun hn => ?_, h5⟩
  obtain ⟨ad, rfl, hc⟩ := h4 hn
  have hlen : 0 < l.length := by
    have : l.length = n := by simpa using h3
    omega
  refine ⟨ad, rfl, fun j u hu => ?_⟩
  have hb : (ad.add j).block = ad.block := by unfold Addr.add; split <;> rfl
  exact hg.cell (hc j u hu) (by rw [hb]; intro he; exact ha hlen ad n c rfl (Option.some.inj he))
theorem r_slB_away {l : List UInt8} {v : Value} {g : Nat} {w : World} (h : Bts l v w) {lo : Nat} (hlo : lo ≤ l.length) (ha : Away g v) :
    ∃ r, (∀ w' : World, (Instr.sliceAt 22 v (some (I (lo : Int))) none none).run Try.prog w' = .ok r w') ∧ Bts (l.drop lo) r w ∧ Away g r := by
  obtain ⟨r, hr, hb⟩ := r_slB_lo h hlo .i64
  refine ⟨r, hr, hb, ?_⟩
  obtain ⟨A, n, c, rfl, h1, h2, h3, h4, h5⟩ := h
  have hln : lo ≤ n := by
    have : l.length = n := by simpa using h3
    omega
  have hbd : (Instr.sliceBounds true n c (some (.int .i64 (lo : Int))) none none).run Try.prog w = .ok (lo, n, c) w := by
    have a2 := run_sliceBound (P := Try.prog) (w := w) .i64 (lo : Int) n .sliceB (by omega) (by omega)
    simp only [Int.toNat_natCast] at a2
    simp [Instr.sliceBounds, a2]
  have hrun : (Instr.sliceAt 22 (.slice A n c) (some (.int .i64 (lo : Int))) none none).run Try.prog w = .ok (.slice (if c = lo then A else A.map (·.add (lo * 1))) (n - lo) (c - lo)) w := by
    simp [Instr.sliceAt, Instr.slice, run_underlying Try.underlying22, hbd, r_sizeOf size_u8]
  have e := (hr w).symm.trans hrun
  simp only [Result.ok.injEq, and_true] at e
  subst e
  intro a n' c' he
  simp only [Value.slice.injEq] at he
  obtain ⟨he, _, _⟩ := he
  split at he
  · exact ha a n c (by rw [he])
  · obtain ⟨a0, h0, rfl⟩ := Option.map_eq_some_iff.1 he
    have : (a0.add (lo * 1)).block = a0.block := by unfold Addr.add; split <;> rfl
    rw [this]
    exact ha a0 n c (by rw [h0])
/-- copy into the block of a hash -/
theorem r_copyH {g : Nat} {st : List UInt32} {blk x : List UInt8} {u : Int} {tot : UInt64} {w : World} {v : Value} {ty : TypeId} {o : Nat} (h : HC g st blk u tot w) (ho : o < 64) (hx : Bts x v w) (hne : 0 < x.length) :
    ∃ w', (Builtin.copy_ #[22, 22] ty #[.slice (some ⟨g, 8 + o, none⟩) (64 - o) (64 - o), v]).run Try.prog w = .ok (I ((min x.length (64 - o) : Nat) : Int)) w' ∧ w.grownBy w' (some g) ∧
      HC g st (blk.take o ++ x.take (64 - o) ++ blk.drop (o + min x.length (64 - o))) u tot w' := by
  obtain ⟨A, n, c, rfl, h1, h2, h3, h4, h5⟩ := hx
  have hxn : x.length = n := by simpa using h3
  obtain ⟨ad, rfl, hc⟩ := h4 (by omega)
  have hcs : ((x.take (64 - o)).map U8).length = min n (64 - o) := by simp [hxn, Nat.min_comm]
  have hr := run_copy_row (P := Try.prog) w 22 22 ty 5 g (8 + o) (64 - o) (64 - o) ad n c _ 71 ((x.take (64 - o)).map U8) Try.underlying22 size_u8 h.hb hcs
    (fun j u hj => hc j u (by
      rw [List.map_take, List.getElem?_take] at hj
      split at hj
      · exact hj
      · cases hj)) (by rw [hcs, List.size_toArray, hcells_len h.ls h.lb]; omega) (one_ofB _)
  rw [hcs] at hr
  refine ⟨_, by rw [hxn]; exact hr, grownBy_setRow _ _ _, ?_, h.ls, ?_⟩
  · have := h.hb.row (hcells st (blk.take o ++ x.take (64 - o) ++ blk.drop (o + min n (64 - o))) u tot)
    rw [hxn]
    have e : ((hcells st blk u tot).toArray.toList.take (8 + o) ++ (x.take (64 - o)).map U8 ++ (hcells st blk u tot).toArray.toList.drop (8 + o + min n (64 - o))) = hcells st (blk.take o ++ x.take (64 - o) ++ blk.drop (o + min n (64 - o))) u tot := by
      have l8 : (st.map U32).length = 8 := by simp [h.ls]
      have l64 : (blk.map U8).length = 64 := by simp [h.lb]
      unfold hcells
      rw [List.take_append, l8, List.drop_append, l8, show 8 + o - 8 = o by omega, show 8 + o + min n (64 - o) - 8 = o + min n (64 - o) by omega]
      rw [List.take_of_length_le (by omega), List.drop_eq_nil_of_le (by omega), List.nil_append]
      rw [List.take_append, l64, show o - 64 = 0 by omega, List.take_zero, List.append_nil, List.drop_append, l64, show o + min n (64 - o) - 64 = 0 by omega, List.drop_zero]
      simp only [List.map_append, List.map_take, List.map_drop, List.append_assoc]
    rw [e]
    exact this
  · simp only [List.length_append, List.length_take, List.length_drop, h.lb]; omega
end Go.Rl

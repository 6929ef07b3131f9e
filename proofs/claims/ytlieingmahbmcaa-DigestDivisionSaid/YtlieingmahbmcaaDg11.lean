/- Equality of digests, and Sum of bytes. Conditions: the message is short. -/
import Derived.Test.YtlieingmahbmcaaDg10
import Derived.ChangeKeysEq
namespace Go.Rl
open Go.RowKit Go.Proofs

theorem eqItems_refl {P : Program} {w : World} {e : TypeId} {q : IntKind} (he : P.underlying e = some (.int q)) (d : Nat) (l : List UInt8) : ∀ (is : List Nat), (∀ i ∈ is, i < l.length) →
    (Op.eqItems (d + 1) e 1 (l.map U8).toArray (l.map U8).toArray is).run P w = .ok true w
  | [], _ => rfl
  | i :: is, h => by
    have hi : i < l.length := h i (by simp)
    have hagg : (isAgg e).run P w = .ok false w := by simp [isAgg, run_underlying he]
    have hpart : (part e (l.map U8).toArray (i * 1)).run P w = .ok (U8 l[i]) w := by simp [part, hagg, hi]
    have heq : (Op.equalIn (d + 1) e (U8 l[i]) (U8 l[i])).run P w = .ok true w := by simp [Op.equalIn, run_underlying he, U8]
    have ih := eqItems_refl (w := w) he d l is fun j hj => h j (by simp [hj])
    unfold Op.eqItems
    simp only [Sem.run_bind, hpart, Result.andThen_ok, heq]
    simpa using ih
theorem r_eqlA {w : World} {x y : Operand} {l : List UInt8} (hl : l.length = 32) : (bin .eql 35 x y (.agg (l.map U8).toArray) (.agg (l.map U8).toArray)).run Try.prog w = .ok (B true) w := by
  have h : (Op.equal 35 (.agg (l.map U8).toArray) (.agg (l.map U8).toArray)).run Try.prog w = .ok true w := by
    show (Op.equalIn (9998 + 1 + 1) 35 _ _).run Try.prog w = _
    obtain ⟨i, hi, _⟩ := info_parts info_u8
    rw [run_equalIn_array _ _ _ _ Try.underlying35 hi]
    have hc : Try.prog.cellsOf 5 = 1 := by kernel_rfl
    rw [hc]
    exact eqItems_refl Try.underlying5 9998 l _ fun i hi => by rw [hl]; simpa using hi
  show (do pure (Value.bool (← Op.equal 35 (.agg (l.map U8).toArray) (.agg (l.map U8).toArray))) : Sem Value).run Try.prog w = _
  rw [Sem.run_bind, h]; rfl
theorem r_neqA {w : World} {x y : Operand} {l : List UInt8} (hl : l.length = 32) : (bin .neq 35 x y (.agg (l.map U8).toArray) (.agg (l.map U8).toArray)).run Try.prog w = .ok (B false) w := by
  have h : (Op.equal 35 (.agg (l.map U8).toArray) (.agg (l.map U8).toArray)).run Try.prog w = .ok true w := by
    show (Op.equalIn (9998 + 1 + 1) 35 _ _).run Try.prog w = _
    obtain ⟨i, hi, _⟩ := info_parts info_u8
    rw [run_equalIn_array _ _ _ _ Try.underlying35 hi]
    have hc : Try.prog.cellsOf 5 = 1 := by kernel_rfl
    rw [hc]
    exact eqItems_refl Try.underlying5 9998 l _ fun i hi => by rw [hl]; simpa using hi
  show (do pure (Value.bool (!(← Op.equal 35 (.agg (l.map U8).toArray) (.agg (l.map U8).toArray)))) : Sem Value).run Try.prog w = _
  rw [Sem.run_bind, h]; rfl

theorem call_dSum : Callable Try.prog 23 := ⟨_, Try.func23, by kernel_rfl, rfl⟩
theorem Bts.old {l : List UInt8} {v : Value} {w : World} (h : Bts l v w) {g : Nat} (hg : w.heap.size ≤ g) : 0 < l.length → Away g v := fun h0 a n c he => by
  obtain ⟨A, n', c', rfl, h1, h2, h3, h4, h5⟩ := h
  have hn : l.length = n' := by simpa using h3
  obtain ⟨ad, rfl, hc⟩ := h4 (by omega)
  simp only [Value.slice.injEq, Option.some.injEq] at he
  obtain ⟨rfl, _, _⟩ := he
  have h6 := hc 0 (U8 l[0]) (by simp [h0])
  rw [add_zero] at h6
  have : ad.block < w.heap.size := by
    rcases Nat.lt_or_ge ad.block w.heap.size with h7 | h7
    · exact h7
    · simp [World.cell?, Array.getElem?_eq_none h7] at h6
  omega
end Go.Rl

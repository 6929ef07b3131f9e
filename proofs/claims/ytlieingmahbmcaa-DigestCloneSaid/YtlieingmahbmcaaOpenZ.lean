/- How a row of bytes among the arguments of a statement reads, with the bound on its length that the form gives. Conditions: the arguments can be read as data. -/
import Derived.Test.YtlieingmahbmcaaOpen
import Derived.SizedLaws
namespace Go.Rl
open Go.ChangeShapes Go.WideShapes Go.ChangeAt Go.RowKit Go.Proofs
section
variable {P : Program} {H : Type} {enc : TypeId × Value → H} {W : World} {base : Nat} {spare : Nat → Bool} {held : Bool} {r : Reach} {b0 : Nat} {v : Value} {d : DataW H} {ps : List MemPlace} {t e : TypeId}
theorem open_BtsZ {ts : List TypeId} {ds : List (DataW H)} (hsz : (DataW.weightsEach P ts ds).all (· ≤ reachBytes) = true) (j : Nat) (hj : ts[j]? = some t) (hdj : ds[j]? = some d)
    (ht : P.underlying t = some (.slice e)) (he : P.underlying e = some (.int .u8)) (hc : P.cellsOf e = 1) (hb : P.bytesOf e = 1) (ho : Value.okWide P W r b0 t v) (h : DataW.Trod enc P W base spare held t v d ps) :
    ∃ l, Bts l v W ∧ l.length ≤ 140737488351232 := by
  obtain ⟨l, hl⟩ := open_Bts ht he hc ho h
  refine ⟨l, hl, ?_⟩
  obtain ⟨a, len, cap, rfl⟩ := okWide_slice ht ho
  obtain ⟨fuel, hf⟩ := h
  obtain ⟨A, n, c, hv, h1, h2, h3, h4, h5⟩ := hl
  simp only [Value.slice.injEq] at hv
  obtain ⟨rfl, rfl, rfl⟩ := hv
  have hll : l.length = len := by simpa using h3
  rcases open_ints ht he hc hf with ⟨hcs, _⟩ | ⟨x, n, c, zs, hcs, _, hl, hm, hz, hd, hcell, hwz⟩
  · simp [Value.cells] at hcs
    omega
  · simp [Value.cells] at hcs
    obtain ⟨rfl, rfl, rfl⟩ := hcs
    simp only [Prod.mk.injEq] at hd
    obtain ⟨rfl, _⟩ := hd
    have := sized_slice hsz hj hdj ht
    rw [hb] at this
    have hle : len ≤ zs.length := by
      rw [hz]; split <;> omega
    simp only [lits, List.length_map, List.length_take, reachBytes, Nat.mul_one] at this
    omega
end
end Go.Rl

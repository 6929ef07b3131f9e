/- The parameter of WireRoundTrip: a struct of numbers. No condition. -/
import Derived.Test.YtifjnhdnpglbpaaL8
import Derived.Test.YtifjnhdnpglbpaaTy
namespace Go.Rl
open Go.RowKit Go.Proofs
theorem list4 {α : Type} {l : List α} (h : l.length = 4) : ∃ a b c d, l = [a, b, c, d] := by
  match l, h with
  | [a, b, c, d], _ => exact ⟨a, b, c, d, rfl⟩
theorem list3 {α : Type} {l : List α} (h : l.length = 3) : ∃ a b c, l = [a, b, c] := by
  match l, h with
  | [a, b, c], _ => exact ⟨a, b, c, rfl⟩
theorem Ty.inv_rat {d : Dt} (ht : Ty Try.prog 35 d) : ∃ (s : Bool) (n m : List UInt32), d = .st [.bool s, dNat n, dNat m] := by
  obtain ⟨l, rfl, hl, hf⟩ := ht.inv_st Try.underlying35
  obtain ⟨a, b, c, rfl⟩ := list3 (show l.length = 3 from hl)
  obtain ⟨s, rfl⟩ := (hf 0 _ a rfl rfl).inv_bool Try.underlying4
  obtain ⟨n, rfl⟩ := (hf 1 _ b rfl rfl).inv_nat Try.underlying33 Try.underlying79
  obtain ⟨m, rfl⟩ := (hf 2 _ c rfl rfl).inv_nat Try.underlying33 Try.underlying79
  exact ⟨s, n, m, rfl⟩
theorem num_open {W : World} {v : Value} {d : Dt} {cs : List Value} (hv : v = .agg cs.toArray) (hr : Rp W d cs) (ht : Ty Try.prog 37 d) :
    ∃ (a : UInt64) (i : Int) (s : Bool) (n m : List UInt32) (bs : List UInt8) (x y z : Value), v = .agg #[U64 a, I i, B s, x, y, z] ∧ -9223372036854775808 ≤ i ∧ i ≤ 9223372036854775807 ∧ Wds n x W ∧ Wds m y W ∧ Bts bs z W := by
  obtain ⟨l, rfl, hl, hf⟩ := ht.inv_st Try.underlying37
  obtain ⟨d0, d1, d2, d3, rfl⟩ := list4 (show l.length = 4 from hl)
  obtain ⟨a, rfl, ha⟩ := (hf 0 _ d0 rfl rfl).inv_int Try.underlying31
  obtain ⟨a, rfl⟩ := wf_U64 ha
  obtain ⟨i, rfl⟩ := (hf 1 _ d1 rfl rfl).inv_i Try.underlying3
  obtain ⟨s, n, m, rfl⟩ := Ty.inv_rat (hf 2 _ d2 rfl rfl)
  obtain ⟨bs, rfl⟩ := (hf 3 _ d3 rfl rfl).inv_bytes Try.underlying22 Try.underlying5
  simp only [Rp, RpAll] at hr
  obtain ⟨c0, r0, rfl, rfl, c1, r1, rfl, h1, c2, r2, rfl, ⟨e0, f0, rfl, rfl, e1, f1, rfl, k1, e2, f2, rfl, k2, rfl⟩, c3, r3, rfl, h3, rfl⟩ := hr
  obtain ⟨x, rfl, hx, _⟩ := Rp.isSlice k1
  obtain ⟨y, rfl, hy, _⟩ := Rp.isSlice k2
  obtain ⟨z, rfl, hz, _⟩ := Rp.isSlice h3
  simp only [dI, Rp] at h1
  subst h1
  exact ⟨a, i.toInt, s, n, m, bs, x, y, z, hv, i.le_toInt, Int64.toInt_le i, Rp.wds.1 hx, Rp.wds.1 hy, Rp.bts.1 hz⟩
end Go.Rl

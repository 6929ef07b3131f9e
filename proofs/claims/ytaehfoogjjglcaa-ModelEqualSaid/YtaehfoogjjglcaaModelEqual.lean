/- The statement ModelEqual: whatever the input, the law returns true, and its arguments read as they did. No condition. -/
import Derived.Test.YtaehfoogjjglcaaAm5
import Derived.Test.YtaehfoogjjglcaaRows
namespace Go.Proofs.Ytaehfoogjjglcaa.modelEqual
open Go.ChangeShapes Go.WideShapes Go.ChangeAt Go.RowKit Go.Rl
theorem own : ownKnob Try.prog.godebug = none := by kernel_rfl
theorem laidOut : laidOutB Try.prog = true := by kernel_rfl
set_option maxRecDepth 100000 in
theorem lifted (os : Os) (started : os.Started) (H : Type) (enc : TypeId × Value → H) :
    ReturnsInHanded {} Try.checked os 3 .any (Rows.modelEqualSpec.pre6 enc Try.prog Try.f3 Rows.modelEqualRow.domain false) (Rows.modelEqualSpec.post enc Try.prog Try.f3 false true false false) := by
  refine returnsInHanded_of_change (C := Try.checked) own started (by kernel_rfl) Try.func3
    (ChangeSpec.witness6 (enc := enc) (C := Try.checked) false ⟨#[], #[.agg #[.slice none 0 0, .slice none 0 0], .agg #[.slice none 0 0, .slice none 0 0]], []⟩ 8 (by kernel_rfl) (by kernel_rfl) (by kernel_rfl) (by kernel_rfl)) ?_
  intro W base args ds gs before hval0 hW hcnd _
  have hval : ∀ (j : Nat) t v, Try.f3.params[j]? = some t → args[j]? = some v → Value.okWide Try.prog W .any base t v := hval0
  have hW' := hW
  obtain ⟨p, q, hA0, hV, rfl, hfz, hnd⟩ := hW
  have hA : DataW.TrodAll enc Try.prog W 0 (fun _ => true) true Try.f3.params.toList args.toList ds p := hA0
  rw [Try.params3] at hA hval
  obtain ⟨v0, vs0, d0, ds0, p0, q0, hargs, rfl, rfl, h0, r0⟩ := trodAll_cons hA
  obtain ⟨v1, vs1, d1, ds1, p1, q1, rfl, rfl, rfl, h1, r1⟩ := trodAll_cons r0
  obtain ⟨rfl, rfl, rfl⟩ := trodAll_nil r1
  obtain rfl : args = #[v0, v1] := by cases args; simp_all
  obtain ⟨rfl, rfl⟩ := trodVars_none hV
  have lt0 : ∀ x ∈ p0, x.block < W.heap.size := by obtain ⟨m, hm⟩ := h0; exact DataW.trod_lt m _ _ _ hm
  have k0 := hval 0 25 v0 rfl rfl
  have lt1 : ∀ x ∈ p1, x.block < W.heap.size := by obtain ⟨m, hm⟩ := h1; exact DataW.trod_lt m _ _ _ hm
  have k1 := hval 1 25 v1 rfl rfl
  obtain ⟨cs0, ec0, hr0, ht0⟩ := open_DSt (ts := [25, 22, 3, 23, 37, 35, 41, 4, 39, 88]) (by kernel_rfl) (by kernel_rfl) Try.underlying25 k0 h0
  obtain ⟨m0, x0, y0, rfl, ha0, hb0, hw0, hd0⟩ := mod_open ec0 hr0 ht0
  obtain ⟨cs1, ec1, hr1, ht1⟩ := open_DSt (ts := [25, 22, 3, 23, 37, 35, 41, 4, 39, 88]) (by kernel_rfl) (by kernel_rfl) Try.underlying25 k1 h1
  obtain ⟨m1, x1, y1, rfl, ha1, hb1, hw1, hd1⟩ := mod_open ec1 hr1 ht1
  clear hA0 hval0
  refine (ModelEqual_walk (w := W) ha0 hb0 ha1 hb1).mono fun e W' ⟨v, he, hv, bel⟩ => ?_
  subst he
  subst hv
  exact ⟨_, rfl, _, _, _, [], _, [], hW', trodAll_mk1 (shut_bool Try.underlying4 _), (trodAll_cons_mk (Below.trod laidOut (by kernel_rfl) (of_decide_eq_true (by kernel_rfl)) h0 bel lt0) (trodAll_cons_mk (Below.trod laidOut (by kernel_rfl) (of_decide_eq_true (by kernel_rfl)) h1 bel lt1) trodAll_mk0)), rfl, bel.frame _, fun h => by cases h⟩
theorem over : Rows.modelEqualRow.holds Try.pinned (OpenSpec.ofChange Rows.modelEqualSpec) :=
  OpenClaim.holds_of_wide 3 Try.f3 rfl rfl rfl rfl rfl rfl rfl ⟨rfl, rfl, rfl, rfl, rfl⟩ rfl rfl rfl rfl rfl (by kernel_rfl) Try.func3 (by kernel_rfl)
    (of_decide_eq_true (by kernel_rfl)) (by unfold Func.isWrapper; first | (rw [if_pos (by decide +kernel)]; kernel_rfl) | (rw [if_neg (by decide +kernel)]; exact ⟨rfl, rfl⟩))
    (fun os started H enc _ => lifted os started H enc)
/-- THE STATEMENT -/
theorem proved : Rows.ModelEqualSaid := over
#print axioms proved
end Go.Proofs.Ytaehfoogjjglcaa.modelEqual

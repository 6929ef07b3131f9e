/- The statement CertfileDigest: the law returns true, and its arguments read as they did. Condition: the arguments, and the package variables that the reading takes, hold together at most 1048576 values and letters, each counted each time it is reached. -/
import Derived.Test.YtpeidnhjcompmaaGreatDoorJe5
import Derived.Test.YtpeidnhjcompmaaGreatDoorCards
import Derived.Test.YtpeidnhjcompmaaGreatDoorTie
import Derived.Deep.DeepHandedRow
import Derived.Lib.LaidTab
import Derived.Test.YtpeidnhjcompmaaGreatDoorRows
import Derived.JoinedCond
namespace Go.Proofs.YtpeidnhjcompmaaGreatDoor.certfileDigest
open Go.ChangeShapes Go.WideShapes Go.ChangeAt Go.RowKit Go.Rl
theorem own : ownKnob Tryz.prog.godebug = none := by kernel_rfl
theorem laidOut : laidOutB Tryz.prog = true := by kernel_rfl
set_option maxRecDepth 100000 in
theorem contract (H : Type) (enc : TypeId × Value → H) (W : World) (base : Nat) (args : Array Value) (ds gs : List (DataW H)) (before : List MemPlace)
    (hval0 : ∀ (j : Nat) t v, Tryz.f11.params[j]? = some t → args[j]? = some v → Value.okWide Tryz.prog W .any base t v)
    (hW : DataW.Whole enc Tryz.prog Tryz.f11.params.toList Rows.certfileDigestSpec.vars false W args.toList ds gs before) (hk : Rows.uptoSmall H (ds ++ gs) = true) (hL : laidMetH Tryz.prog Rows.certfileDigestRow.laid W) :
    Calls Tryz.prog 11 args W fun e W' => ∃ v, e = .returned v ∧ Rows.certfileDigestSpec.post enc Tryz.prog Tryz.f11 false true false false W args v W' := by
  have hval : ∀ (j : Nat) t v, Tryz.f11.params[j]? = some t → args[j]? = some v → Value.okWide Tryz.prog W .any base t v := hval0
  have hW' := hW
  obtain ⟨p, q, hA0, hV, rfl, hfz, hnd⟩ := hW
  have hA : DataW.TrodAll enc Tryz.prog W 0 (fun _ => true) true Tryz.f11.params.toList args.toList ds p := hA0
  rw [Tryz.params11] at hA hval
  obtain ⟨v0, vs0, d0, ds0, p0, q0, hargs, rfl, rfl, h0, r0⟩ := trodAll_cons hA
  obtain ⟨v1, vs1, d1, ds1, p1, q1, rfl, rfl, rfl, h1, r1⟩ := trodAll_cons r0
  obtain ⟨rfl, rfl, rfl⟩ := trodAll_nil r1
  obtain rfl : args = #[v0, v1] := by cases args; simp_all
  obtain ⟨rfl, rfl⟩ := trodVars_none hV
  have lt0 : ∀ x ∈ p0, x.block < W.heap.size := by obtain ⟨m, hm⟩ := h0; exact DataW.trod_lt m _ _ _ hm
  have k0 := hval 0 82 v0 rfl rfl
  have lt1 : ∀ x ∈ p1, x.block < W.heap.size := by obtain ⟨m, hm⟩ := h1; exact DataW.trod_lt m _ _ _ hm
  have k1 := hval 1 82 v1 rfl rfl
  obtain ⟨cs0, ec0, hr0, ht0⟩ := G2 (ts := [82, 75, 78, 80, 73, 196, 194, 198, 76, 46, 44, 149, 3, 4]) (by kernel_rfl) (by kernel_rfl) Tryz.underlying82 k0 h0
  obtain ⟨u0, ee0, hw0⟩ := ty_qu ht0
  have hq0 : (FO u0).bulk ≤ 1048576 := by have h := GQ hk (d := d0) (by simp); rw [ee0] at h; exact h
  rw [ee0] at hr0
  obtain ⟨vu0, vo0, vl0, vh0, vr0, x0, y0, vc0, rfl, a00, a01, a02, a03, a04, a05, a06, a07⟩ := dQu_inv hr0
  subst ec0
  obtain ⟨cs1, ec1, hr1, ht1⟩ := G2 (ts := [82, 75, 78, 80, 73, 196, 194, 198, 76, 46, 44, 149, 3, 4]) (by kernel_rfl) (by kernel_rfl) Tryz.underlying82 k1 h1
  obtain ⟨u1, ee1, hw1⟩ := ty_qu ht1
  have hq1 : (FO u1).bulk ≤ 1048576 := by have h := GQ hk (d := d1) (by simp); rw [ee1] at h; exact h
  rw [ee1] at hr1
  obtain ⟨vu1, vo1, vl1, vh1, vr1, x1, y1, vc1, rfl, a10, a11, a12, a13, a14, a15, a16, a17⟩ := dQu_inv hr1
  subst ec1
  clear hA0 hval0
  refine (xy (w := W) a00 a01 a02 a03 a04 a05 a06 a07 hw0 hq0 a10 a11 a12 a13 a14 a15 a16 a17 hw1 hq1 (GS.of_laid hL)).mono fun e W' ⟨v, he, hv, bel⟩ => ?_
  subst he
  subst hv
  exact ⟨_, rfl, _, _, _, [], _, [], hW', trodAll_mk1 (shut_bool Tryz.underlying4 _), (trodAll_cons_mk (Below.trod laidOut (by kernel_rfl) (of_decide_eq_true (by kernel_rfl)) h0 bel lt0) (trodAll_cons_mk (Below.trod laidOut (by kernel_rfl) (of_decide_eq_true (by kernel_rfl)) h1 bel lt1) trodAll_mk0)), rfl, bel.frame _, fun h => by cases h⟩
set_option maxRecDepth 100000 in
theorem lifted (os : Os) (started : os.Started) (H : Type) (enc : TypeId × Value → H) (F : Stop.Interp) :
    ReturnsInHanded {} Tryz.checked os 11 .any ((Rows.OpenSpec.upto Rows.certfileDigestSpec).preRow enc Tryz.prog Tryz.f11 Rows.certfileDigestUptoRow.domain false Rows.certfileDigestUptoRow.laid) (((Rows.OpenSpec.upto Rows.certfileDigestSpec).at F).post enc Tryz.prog Tryz.f11 false true false false) := by
  obtain ⟨places, hx⟩ : ∃ places, DataW.whole enc Tryz.prog ((GR os).forCall (fun _ _ => 0) ⟨#[], #[.agg #[.int .i64 0, .slice none 0 0, .slice none 0 0, .slice none 0 0, .slice none 0 0, .slice none 0 0, .int .i64 0, .int .i64 0, .bool false, .slice none 0 0, .slice none 0 0, .slice none 0 0], .agg #[.int .i64 0, .slice none 0 0, .slice none 0 0, .slice none 0 0, .slice none 0 0, .slice none 0 0, .int .i64 0, .int .i64 0, .bool false, .slice none 0 0, .slice none 0 0, .slice none 0 0]], []⟩).memory Tryz.f11.params.toList Rows.certfileDigestSpec.vars false (#[.agg #[.int .i64 0, .slice none 0 0, .slice none 0 0, .slice none 0 0, .slice none 0 0, .slice none 0 0, .int .i64 0, .int .i64 0, .bool false, .slice none 0 0, .slice none 0 0, .slice none 0 0], .agg #[.int .i64 0, .slice none 0 0, .slice none 0 0, .slice none 0 0, .slice none 0 0, .slice none 0 0, .int .i64 0, .int .i64 0, .bool false, .slice none 0 0, .slice none 0 0, .slice none 0 0]] : Array Value).toList 8 = some ([.agg [.agg [.lit (.int .i64 0), .nil, .nil], .agg [.nil, .nil, .nil], .agg [.lit (.int .i64 0), .lit (.int .i64 0), .agg [.lit (.bool false), .nil, .nil], .nil]], .agg [.agg [.lit (.int .i64 0), .nil, .nil], .agg [.nil, .nil, .nil], .agg [.lit (.int .i64 0), .lit (.int .i64 0), .agg [.lit (.bool false), .nil, .nil], .nil]]], [], places) := ⟨[], by kernel_rfl⟩
  refine returnsInHanded_of_row (C := Tryz.checked) (s := (Rows.OpenSpec.upto Rows.certfileDigestSpec)) own started (by kernel_rfl) Tryz.func11
    (witness_row_at (enc := enc) (C := Tryz.checked) false (GR os) #[.agg #[.int .i64 0, .slice none 0 0, .slice none 0 0, .slice none 0 0, .slice none 0 0, .slice none 0 0, .int .i64 0, .int .i64 0, .bool false, .slice none 0 0, .slice none 0 0, .slice none 0 0], .agg #[.int .i64 0, .slice none 0 0, .slice none 0 0, .slice none 0 0, .slice none 0 0, .slice none 0 0, .int .i64 0, .int .i64 0, .bool false, .slice none 0 0, .slice none 0 0, .slice none 0 0]] rfl (by kernel_rfl) (by kernel_rfl) (by kernel_rfl)
      (OpenSpec.preRow_of_cond 8 hx (by kernel_rfl) (fun k hk => by cases hk; kernel_rfl) (by kernel_rfl) (laidMet_of_run' 8 (by kernel_rfl) (by kernel_rfl)))) ?_
  intro W base args ds gs before hval hW _ hcond _ hL _ _
  exact contract H enc W base args ds gs before hval hW (hcond _ rfl) hL
theorem said : Rows.CertfileDigestUptoSaid :=
  OpenClaim.holds_of_cond 11 Tryz.f11 rfl rfl rfl rfl rfl rfl rfl ⟨rfl, rfl, rfl, rfl, rfl⟩ rfl rfl rfl rfl rfl (by kernel_rfl) Tryz.func11 (by kernel_rfl)
    (of_decide_eq_true (by kernel_rfl)) (by unfold Func.isWrapper; first | (rw [if_pos (by decide +kernel)]; kernel_rfl) | (rw [if_neg (by decide +kernel)]; exact ⟨rfl, rfl⟩))
    (fun os started H enc _ F => by rw [OpenClaim.pre_eq_preRow]; exact lifted os started H enc F)
theorem plain (f : FuncId) (fn : Func) (hf : Tryz.pinned.checked.prog.funcNamed "relucert/relucertlaw46.CertfileDigest" = some f) (hfn : Tryz.pinned.checked.prog.funcs[f]? = some fn) :
    true = Tryz.pinned.checked.prog.looks [] ∧ ∀ (j : Nat) t, fn.params[j]? = some t → Tryz.pinned.checked.prog.wantsStandIn t = false := by
  obtain rfl : f = 11 := Option.some.inj ((show Tryz.prog.funcNamed "relucert/relucertlaw46.CertfileDigest" = some 11 by kernel_rfl).symm.trans hf) |>.symm
  obtain rfl : fn = Tryz.f11 := (Option.some.inj (Tryz.func11.symm.trans hfn)).symm
  refine ⟨by kernel_rfl, fun j t ht => ?_⟩
  rw [Tryz.params11] at ht
  have hm := Array.mem_of_getElem? ht
  simp only [List.mem_toArray, List.mem_cons, List.not_mem_nil, or_false] at hm
  rcases hm with rfl | rfl
  · exact (show Tryz.prog.wantsStandIn 82 = false by kernel_rfl)
  · exact (show Tryz.prog.wantsStandIn 82 = false by kernel_rfl)
/-- THE STATEMENT -/
theorem proved : Rows.CertfileDigestUptoCardSaid :=
  Claim7.holds_tied_plain_at .later [] _ _ _ _ said (fun _ h => by cases h) (by kernel_rfl) (fun _ h => by cases h) certfileDigestUpto_row_tie rfl ⟨rfl, rfl⟩ (by kernel_rfl) rfl plain (by kernel_rfl)
#print axioms proved
end Go.Proofs.YtpeidnhjcompmaaGreatDoor.certfileDigest

/- Walks of the small functions of the digest, both sides. No condition. -/
import Derived.Test.YtlieingmahbmcaaSha
import Derived.Test.YtlieingmahbmcaaArr
import Derived.Test.YtlieingmahbmcaaFlow
namespace Go.Rl
open Go.RowKit Go.Proofs

theorem zero64 : (Try.prog.info? 79).map (·.zero) = some (some (.agg (List.replicate 64 (U32 0)).toArray)) := by kernel_rfl
theorem size64 : (Try.prog.info? 79).map (·.size) = some 64 := by kernel_rfl

theorem call_right : Callable Try.prog 49 := ⟨_, Try.func49, by kernel_rfl, rfl⟩
theorem call_constants : Callable Try.prog 50 := ⟨_, Try.func50, by kernel_rfl, rfl⟩
theorem right_spec {w : World} {x : UInt32} (n : Nat) (h0 : 0 < n) (h1 : n < 32) :
    Calls Try.prog 49 #[U32 x, I (n : Int)] w (Ret fun r w' => Ext w w' ∧ r = U32 (rotr x n)) := by
  refine enter (vs := [U32 x, I (n : Int)]) Try.func49 rfl rfl rfl ?_
  refine c_seq (c_region (o_assign rfl rfl (o_nil (n_then (c_seq ?_)))))
  have e : (32 : Int) - (n : Int) = ((32 - n : Nat) : Int) := by omega
  refine c_grow 8 [12] (by kernel_rfl) (by kernel_rfl) ?_
  refine f_move rfl rfl (f_move rfl rfl ?_)
  refine f_bin rfl rfl rfl (fun w _ => r_shr_u32 n h1) ?_
  refine f_move rfl rfl (f_move rfl rfl ?_)
  refine f_bin (r := I ((32 - n : Nat) : Int)) rfl rfl rfl (fun w _ => by rw [← e]; exact r_sub_i (by omega) (by omega)) ?_
  refine f_bin rfl rfl rfl (fun w _ => r_shl_u32 (32 - n) (by omega)) ?_
  refine f_bin rfl rfl rfl (fun w _ => r_or_u32) ?_
  refine f_nil ?_
  intro w' hw
  rintro _ rfl
  refine o_assign rfl rfl (o_nil (n_then (c_ret ?_)))
  refine r_body1 rfl rfl ?_
  exact ⟨_, rfl, hw, rfl⟩
theorem constants_spec (w : World) :
    Calls Try.prog 50 #[] w (Ret fun r w' => Ext w w' ∧ r = .agg (kc.map U32).toArray) := by
  refine enter (vs := []) Try.func50 rfl rfl rfl ?_
  refine c_seq (c_region (o_alloc rfl (r_alloc zero64) (o_nil (n_then (c_seq (c_region ?_))))))
  refine o_build rfl rfl (run_build _ _ _ (kc.map U32).toArray (by kernel_rfl)) ?_
  have hb := Blk.new (w := w) (T := 79) (.agg (List.replicate 64 (U32 0)).toArray) rfl
  refine o_store rfl rfl (r_stA hb rfl size64 (one_of _)) ?_
  refine o_nil (n_then (c_ret ?_))
  refine r_bodyc rfl rfl (hb.row _) Try.underlying79 rfl size64 ?_
  refine ⟨_, rfl, ?_, rfl⟩
  exact (Ext.new w _).of_grown (grownBy_setRow _ _ _) fun k hk => by
    obtain rfl := Option.some.inj hk
    exact Nat.le_refl _
theorem call_rright : Callable Try.prog 48 := ⟨_, Try.func48, by kernel_rfl, rfl⟩
theorem call_rconstants : Callable Try.prog 47 := ⟨_, Try.func47, by kernel_rfl, rfl⟩
theorem rright_spec {w : World} {x : UInt32} (n : Nat) (h0 : 0 < n) (h1 : n < 32) :
    Calls Try.prog 48 #[U32 x, I (n : Int)] w (Ret fun r w' => Ext w w' ∧ r = U32 (rotr x n)) := by
  refine enter (vs := [U32 x, I (n : Int)]) Try.func48 rfl rfl rfl ?_
  refine c_seq (c_region (o_assign rfl rfl (o_nil (n_then (c_seq ?_)))))
  have e : (32 : Int) - (n : Int) = ((32 - n : Nat) : Int) := by omega
  refine c_grow 8 [12] (by kernel_rfl) (by kernel_rfl) ?_
  refine f_move rfl rfl (f_move rfl rfl ?_)
  refine f_bin rfl rfl rfl (fun w _ => r_shr_u32 n h1) ?_
  refine f_move rfl rfl (f_move rfl rfl ?_)
  refine f_bin (r := I ((32 - n : Nat) : Int)) rfl rfl rfl (fun w _ => by rw [← e]; exact r_sub_i (by omega) (by omega)) ?_
  refine f_bin rfl rfl rfl (fun w _ => r_shl_u32 (32 - n) (by omega)) ?_
  refine f_bin rfl rfl rfl (fun w _ => r_or_u32) ?_
  refine f_nil ?_
  intro w' hw
  rintro _ rfl
  refine o_assign rfl rfl (o_nil (n_then (c_ret ?_)))
  refine r_body1 rfl rfl ?_
  exact ⟨_, rfl, hw, rfl⟩
theorem rconstants_spec (w : World) :
    Calls Try.prog 47 #[] w (Ret fun r w' => Ext w w' ∧ r = .agg (kc.map U32).toArray) := by
  refine enter (vs := []) Try.func47 rfl rfl rfl ?_
  refine c_seq (c_region (o_alloc rfl (r_alloc zero64) (o_nil (n_then (c_seq (c_region ?_))))))
  refine o_build rfl rfl (run_build _ _ _ (kc.map U32).toArray (by kernel_rfl)) ?_
  have hb := Blk.new (w := w) (T := 79) (.agg (List.replicate 64 (U32 0)).toArray) rfl
  refine o_store rfl rfl (r_stA hb rfl size64 (one_of _)) ?_
  refine o_nil (n_then (c_ret ?_))
  refine r_bodyc rfl rfl (hb.row _) Try.underlying79 rfl size64 ?_
  refine ⟨_, rfl, ?_, rfl⟩
  exact (Ext.new w _).of_grown (grownBy_setRow _ _ _) fun k hk => by
    obtain rfl := Option.some.inj hk
    exact Nat.le_refl _
end Go.Rl

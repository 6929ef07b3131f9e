/- Runs over arrays of bytes, and plain facts on a digest's bytes. Conditions: each names its own. -/
import Derived.Test.YtlieingmahbmcaaDg3
namespace Go.Rl
open Go.RowKit Go.Proofs

theorem zero32 : (Try.prog.info? 35).map (·.zero) = some (some (.agg (List.replicate 32 (U8 0)).toArray)) := by kernel_rfl
theorem size32 : (Try.prog.info? 35).map (·.size) = some 32 := by kernel_rfl
section
variable {w : World} {g o : Nat} {T : TypeId}
theorem r_ix32 (i : Nat) (hi : i < 32) : (Instr.indexAt 35 (.pointer (some ⟨g, 0, none⟩)) (I (i : Int))).run Try.prog w = .ok (.pointer (some ⟨g, i, none⟩)) w := by
  have := r_ixA (P := Try.prog) (w := w) (g := g) (o := 0) Try.underlying35 size_u8 hi .i64
  rwa [Nat.zero_add] at this
theorem r_stB {m : List UInt8} {x : UInt8} (h : Blk g T (m.map U8) w) (i : Nat) (hi : i < m.length) : (Instr.storeAt 5 (.pointer (some ⟨g, i, none⟩)) (U8 x)).run Try.prog w = .ok () (w.setCell ⟨g, i, none⟩ (U8 x)) :=
  r_store1 size_u8 rfl h (by simpa using hi)
theorem Blk.setB {m : List UInt8} (h : Blk g T (m.map U8) w) (i : Nat) (x : UInt8) : Blk g T ((m.set i x).map U8) (w.setCell ⟨g, i, none⟩ (U8 x)) := by
  have := h.set i (U8 x)
  rwa [← List.map_set] at this
end
theorem one_ofB (m : List UInt8) : ∀ v ∈ m.map U8, v.oneCell' = true := by
  intro u hu
  obtain ⟨b, _, rfl⟩ := List.mem_map.1 hu
  rfl
/-- The first bytes, and zeros behind them. -/
def fillB (d : List UInt8) (n j : Nat) : List UInt8 := d.take j ++ List.replicate (n - j) 0
theorem fillB_len {d : List UInt8} {n j : Nat} (hd : d.length = n) (hj : j ≤ n) : (fillB d n j).length = n := by simp [fillB, hd]; omega
theorem fillB_set {d : List UInt8} {n j : Nat} (hd : d.length = n) (hj : j < n) : (fillB d n j).set j (d.getD j 0) = fillB d n (j + 1) := by
  have h : (d.take j).length = j := by simp [hd]; omega
  have h1 : d.getD j 0 = d[j] := by simp [List.getD, hd, hj]
  unfold fillB
  rw [List.set_append_right _ _ (by omega), h, Nat.sub_self, h1, List.take_succ_eq_append_getElem (by omega : j < d.length)]
  have : n - j = (n - (j + 1)) + 1 := by omega
  rw [this, List.replicate_succ, List.set_cons_zero, List.append_assoc]
  rfl
theorem fillB_all {d : List UInt8} {n : Nat} (hd : d.length = n) : fillB d n n = d := by
  simp [fillB, ← hd]
theorem be4s_len (s : List UInt32) : (s.flatMap be4).length = 4 * s.length := by
  induction s with
  | nil => rfl
  | cons x s ih =>
    have : (x :: s).flatMap be4 = be4 x ++ s.flatMap be4 := by simp
    rw [this, List.length_append, ih]
    simp [be4]; omega
theorem be4s_get : ∀ (s : List UInt32) (i k : Nat), i < s.length → k < 4 → (s.flatMap be4).getD (4 * i + k) 0 = (s.getD i 0 >>> UInt32.ofNat (24 - 8 * k)).toUInt8
  | [], _, _, h, _ => by simp at h
  | x :: s, 0, k, _, hk => by
    have e : (x :: s).flatMap be4 = be4 x ++ s.flatMap be4 := by simp
    rw [e]
    match k, hk with
    | 0, _ => rfl
    | 1, _ => rfl
    | 2, _ => rfl
    | 3, _ =>
      show x.toUInt8 = (x >>> UInt32.ofNat 0).toUInt8
      rw [show UInt32.ofNat 0 = 0 from rfl, UInt32.shiftRight_zero]
  | x :: s, i + 1, k, h, hk => by
    have e : (x :: s).flatMap be4 = be4 x ++ s.flatMap be4 := by simp
    rw [e]
    have h4 : (be4 x).length = 4 := rfl
    have := be4s_get s i k (by simpa using h) hk
    rw [List.getD_eq_getElem?_getD, List.getElem?_append_right (by omega), h4, show 4 * (i + 1) + k - 4 = 4 * i + k by omega, ← List.getD_eq_getElem?_getD, this]
    rfl
theorem dig_len (m : List UInt8) : (dig m).length = 32 := by
  unfold dig
  rw [be4s_len, sh_len]
theorem be8_len (n : UInt64) : (be8 n).length = 8 := by simp [be8]
theorem be8_snoc (n : UInt64) {j : Nat} (hj : j < 8) : (be8 n).take (j + 1) = (be8 n).take j ++ [(n >>> UInt64.ofNat (56 - 8 * j)).toUInt8] := by
  rw [List.take_succ_eq_append_getElem (by rw [be8_len]; exact hj)]
  simp [be8]
theorem shN_take (M : List UInt8) (k : Nat) : shN M (k + 1) = cmpr (shN M k) ((M.take (64 * k + 64)).drop (64 * k)) := by
  rw [shN, List.drop_take, Nat.add_sub_cancel_left]
theorem sh_padded (m : List UInt8) : sh (padded m) = shN (padded m) ((padded m).length / 64) := rfl
end Go.Rl

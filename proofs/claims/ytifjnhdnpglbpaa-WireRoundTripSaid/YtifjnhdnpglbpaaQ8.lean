/- A step of two readers at once. Conditions: the bytes are not more than 2^39. -/
import Derived.Test.YtifjnhdnpglbpaaQ7
namespace Go.Rl
open Go.RowKit Go.Proofs
theorem call_wstep : Callable Try.prog 33 := ⟨_, Try.func33, by kernel_rfl, rfl⟩
theorem rdB_inv {l a t : List UInt8} (h : rdB l = some (a, t)) : l = encB a ++ t := by
  unfold rdB at h
  cases hu : rdU l with
  | none => rw [hu] at h; cases h
  | some p =>
    obtain ⟨n, u⟩ := p
    rw [hu] at h
    have h : (if n ≤ u.length then some (u.take n, u.drop n) else none) = some (a, t) := h
    split at h
    · simp only [Option.some.injEq, Prod.mk.injEq] at h
      have e := (rdU_inv hu).1
      have hl : (u.take n).length = n := by rw [List.length_take]; omega
      rw [e, ← h.1, ← h.2, encB, hl, List.append_assoc, List.take_append_drop]
    · cases h
theorem rdR_inv {l t : List UInt8} {b : Bool} {n m : List UInt32} (h : rdR l = some ((b, n, m), t)) : l = encR b n m ++ t ∧ rv b n m = true ∧ 4 * (n.length + m.length) ≤ l.length := by
  cases l with
  | nil => cases h
  | cons c l =>
    by_cases hc : 1 < c.toNat
    · rw [rdR_big hc] at h; cases h
    · cases hN : rdN l with
      | none => rw [rdR_n0 hN] at h; cases h
      | some p =>
        obtain ⟨n', u⟩ := p
        rw [rdR_n1 hc hN] at h
        cases hM : rdN u with
        | none => rw [hM] at h; cases h
        | some q =>
          obtain ⟨m', u'⟩ := q
          rw [hM] at h
          have h : (if rv (decide (c.toNat = 1)) n' m' = true then some ((decide (c.toNat = 1), n', m'), u') else none) = some ((b, n, m), t) := h
          split at h
          · rename_i hv
            simp only [Option.some.injEq, Prod.mk.injEq] at h
            obtain ⟨⟨rfl, rfl, rfl⟩, rfl⟩ := h
            have hcs : c = sgn (decide (c.toNat = 1)) := by
              by_cases h1 : c.toNat = 1
              · rw [decide_eq_true h1, u8_one.1 h1]; rfl
              · rw [decide_eq_false h1]
                exact UInt8.toNat_inj.1 (show c.toNat = (0 : UInt8).toNat by rw [show (0 : UInt8).toNat = 0 from rfl]; omega)
            have e : c :: l = encR (decide (c.toNat = 1)) n' m' ++ u' := by
              rw [encR, ← hcs, (rdN_inv hN).1, (rdN_inv hM).1]
              simp
            refine ⟨e, hv, ?_⟩
            rw [e]
            simp only [encR, encN, List.length_append, le4s_len]
            omega
          · cases h
theorem rv_can {b : Bool} {n m : List UInt32} (h : rv b n m = true) : lb (val n) = n ∧ lb (val m) = m := by
  obtain ⟨_, h2, h3⟩ := of_decide_eq_true h
  constructor
  · obtain ⟨x, hx⟩ : ∃ x, x = val n / Nat.gcd (val n) (val (ud m)) := ⟨_, rfl⟩
    rw [← hx] at h2
    rw [h2, val_lb]
  · unfold cqD at h3
    split at h3
    · rw [h3]; rfl
    · obtain ⟨x, hx⟩ : ∃ x, x = val (ud m) / Nat.gcd (val n) (val (ud m)) := ⟨_, rfl⟩
      rw [← hx] at h3
      rw [h3, val_lb]
theorem rdR_encR {b : Bool} {n m : List UInt32} (h : rv b n m = true) (hn : n.length < 18446744073709551616) (hm : m.length < 18446744073709551616) (t : List UInt8) : rdR (encR b n m ++ t) = some ((b, n, m), t) := by
  have hs : ¬ 1 < (sgn b).toNat := by cases b <;> decide
  have hd : decide ((sgn b).toNat = 1) = b := by cases b <;> decide
  have e : encR b n m ++ t = sgn b :: (encN n ++ (encN m ++ t)) := by simp [encR]
  rw [e, rdR_n1 hs (rdN_encN hn (rv_can h).1 _), hd, rdN_encN hm (rv_can h).2]
  exact if_pos h
/-- Not too many bytes are left. -/
def Few (st : Option (List UInt8)) : Prop := ∀ l, st = some l → l.length ≤ 549755813888
theorem Few.none : Few none := fun _ h => by cases h
theorem Few.u {st : Option (List UInt8)} {n : Nat} {t : List UInt8} (h : Few st) (hu : st.bind rdU = some (n, t)) : Few (some t) := fun l e => by cases e; exact (rdU_len hu h).1
theorem Few.of {st : Option (List UInt8)} {l t p : List UInt8} (h : Few st) (e : st = some l) (hp : l = p ++ t) : Few (some t) := fun x hx => by
  cases hx
  have := h l e
  rw [hp, List.length_append] at this
  omega
theorem bind_some {α : Type} {st : Option (List UInt8)} {f : List UInt8 → Option α} {y : α} (h : st.bind f = some y) : ∃ l, st = some l ∧ f l = some y := by
  cases st with
  | none => cases h
  | some l => exact ⟨l, rfl, h⟩
theorem Few.n {st : Option (List UInt8)} {m : List UInt32} {t : List UInt8} (h : Few st) (hu : st.bind rdN = some (m, t)) : Few (some t) := by
  obtain ⟨l, e, hl⟩ := bind_some hu
  exact h.of e (rdN_inv hl).1
theorem Few.r {st : Option (List UInt8)} {q : Bool × List UInt32 × List UInt32} {t : List UInt8} (h : Few st) (hu : st.bind rdR = some (q, t)) : Few (some t) := by
  obtain ⟨l, e, hl⟩ := bind_some hu
  obtain ⟨b, n, m⟩ := q
  exact h.of e (rdR_inv hl).1
theorem Few.b {st : Option (List UInt8)} {a t : List UInt8} (h : Few st) (hu : st.bind rdB = some (a, t)) : Few (some t) := by
  obtain ⟨l, e, hl⟩ := bind_some hu
  exact h.of e (rdB_inv hl)
theorem r_build1N {w : World} {p : Value} (hp : ∃ A n c, p = .slice A n c) : (Instr.build 35 #[(1, p)]).run Try.prog w = .ok (.agg #[B false, p, .slice none 0 0]) w := by
  obtain ⟨A, n, d, rfl⟩ := hp
  exact run_build _ _ _ #[B false, .slice A n d, .slice none 0 0] (by kernel_rfl)
theorem SSame_refl {w : World} {a : Bool} {n m : List UInt32} {v u : Value} (hv : RatV a n m v w) (hu : RatV a n m u w) :
    Calls Try.prog 30 #[v, u] w (Ret fun r w' => Ext w w' ∧ r = B true) := by
  have := SSame_spec hv hu
  rw [decide_eq_true ⟨rfl, rfl, rfl⟩] at this
  exact this
/-! What a call on the wire's reader and on the reference's leaves, by cases. -/
section
variable {w : World} {g : Nat} {st : Option (List UInt8)}
theorem WU_no (hr : RdAt g st w) (h : st.bind rdU = none) : Calls Try.prog 26 #[.pointer (some ⟨g, 0, none⟩)] w (Ret fun r w' => w.grownBy w' (some g) ∧ r = .tuple #[U64 0, I 5] ∧ RdAt g none w') := by
  have := Uint_spec hr
  rw [h] at this
  exact this
theorem WU_ok {n : Nat} {t : List UInt8} (hr : RdAt g st w) (h : st.bind rdU = some (n, t)) : Calls Try.prog 26 #[.pointer (some ⟨g, 0, none⟩)] w (Ret fun r w' => w.grownBy w' (some g) ∧ r = .tuple #[U64 (UInt64.ofNat n), I 0] ∧ RdAt g (some t) w') := by
  have := Uint_spec hr
  rw [h] at this
  exact this
theorem WI_no (hr : RdAt g st w) (h : st.bind rdU = none) : Calls Try.prog 27 #[.pointer (some ⟨g, 0, none⟩)] w (Ret fun r w' => w.grownBy w' (some g) ∧ r = .tuple #[I 0, I 5] ∧ RdAt g none w') := by
  have := RInt_spec hr
  rw [h] at this
  exact this
theorem WI_ok {n : Nat} {t : List UInt8} (hr : RdAt g st w) (h : st.bind rdU = some (n, t)) : Calls Try.prog 27 #[.pointer (some ⟨g, 0, none⟩)] w (Ret fun r w' => w.grownBy w' (some g) ∧ r = .tuple #[I (uz n), I 0] ∧ RdAt g (some t) w') := by
  have := RInt_spec hr
  rw [h] at this
  exact this
theorem WN_no (hr : RdAt g st w) (hl : Few st) (h : st.bind rdN = none) : Calls Try.prog 28 #[.pointer (some ⟨g, 0, none⟩)] w (Ret fun r w' => w.grownBy w' (some g) ∧ r = .tuple #[.slice none 0 0, I 5] ∧ RdAt g none w') := by
  have := RNat_spec hr hl
  rw [h] at this
  exact this
theorem WN_ok {m : List UInt32} {t : List UInt8} (hr : RdAt g st w) (hl : Few st) (h : st.bind rdN = some (m, t)) : Calls Try.prog 28 #[.pointer (some ⟨g, 0, none⟩)] w (Ret fun r w' => w.grownBy w' (some g) ∧ ∃ v, r = .tuple #[v, I 0] ∧ Wds m v w' ∧ RdAt g (some t) w') := by
  have := RNat_spec hr hl
  rw [h] at this
  exact this
theorem WR_no (hr : RdAt g st w) (hl : Few st) (h : st.bind rdR = none) : Calls Try.prog 29 #[.pointer (some ⟨g, 0, none⟩)] w (Ret fun r w' => w.grownBy w' (some g) ∧ ∃ v, r = .tuple #[v, I 5] ∧ RatV false [] [] v w' ∧ RdAt g none w') := by
  have := RRat_spec hr hl
  rw [h] at this
  exact this
theorem WR_ok {b : Bool} {n m : List UInt32} {t : List UInt8} (hr : RdAt g st w) (hl : Few st) (h : st.bind rdR = some ((b, n, m), t)) : Calls Try.prog 29 #[.pointer (some ⟨g, 0, none⟩)] w (Ret fun r w' => w.grownBy w' (some g) ∧ ∃ v, r = .tuple #[v, I 0] ∧ RatV b n m v w' ∧ RdAt g (some t) w') := by
  have := RRat_spec hr hl
  rw [h] at this
  exact this
theorem WB_no (hr : RdAt g st w) (hl : Few st) (h : st.bind rdB = none) : Calls Try.prog 61 #[.pointer (some ⟨g, 0, none⟩)] w (Ret fun r w' => w.grownBy w' (some g) ∧ r = .tuple #[.slice none 0 0, I 5] ∧ RdAt g none w') := by
  have := Bytes_spec hr (fun l e => Nat.le_trans (hl l e) (by decide))
  rw [h] at this
  exact this
theorem WB_ok {a t : List UInt8} (hr : RdAt g st w) (hl : Few st) (h : st.bind rdB = some (a, t)) : Calls Try.prog 61 #[.pointer (some ⟨g, 0, none⟩)] w (Ret fun r w' => w.grownBy w' (some g) ∧ ∃ v, r = .tuple #[v, I 0] ∧ Bts a v w' ∧ RdAt g (some t) w') := by
  have := Bytes_spec hr (fun l e => Nat.le_trans (hl l e) (by decide))
  rw [h] at this
  exact this
theorem WT_no (hr : RdAt g st w) (hl : Few st) (h : st.bind rdB = none) : Calls Try.prog 37 #[.pointer (some ⟨g, 0, none⟩)] w (Ret fun r w' => w.grownBy w' (some g) ∧ r = .tuple #[S [], I 5] ∧ RdAt g none w') := by
  have := Text_spec hr (fun l e => Nat.le_trans (hl l e) (by decide))
  rw [h] at this
  exact this
theorem WT_ok {a t : List UInt8} (hr : RdAt g st w) (hl : Few st) (h : st.bind rdB = some (a, t)) : Calls Try.prog 37 #[.pointer (some ⟨g, 0, none⟩)] w (Ret fun r w' => w.grownBy w' (some g) ∧ r = .tuple #[S a, I 0] ∧ RdAt g (some t) w') := by
  have := Text_spec hr (fun l e => Nat.le_trans (hl l e) (by decide))
  rw [h] at this
  exact this
theorem FU_no (hr : RfAt g st w) (h : st.bind rdU = none) : Calls Try.prog 46 #[.pointer (some ⟨g, 0, none⟩)] w (Ret fun r w' => w.grownBy w' (some g) ∧ r = .tuple #[U64 0, I 5] ∧ RfAt g none w') := by
  have := FUint_spec hr
  rw [h] at this
  exact this
theorem FU_ok {n : Nat} {t : List UInt8} (hr : RfAt g st w) (h : st.bind rdU = some (n, t)) : Calls Try.prog 46 #[.pointer (some ⟨g, 0, none⟩)] w (Ret fun r w' => w.grownBy w' (some g) ∧ r = .tuple #[U64 (UInt64.ofNat n), I 0] ∧ RfAt g (some t) w') := by
  have := FUint_spec hr
  rw [h] at this
  exact this
theorem FI_no (hr : RfAt g st w) (h : st.bind rdU = none) : Calls Try.prog 58 #[.pointer (some ⟨g, 0, none⟩)] w (Ret fun r w' => w.grownBy w' (some g) ∧ r = .tuple #[I 0, I 5] ∧ RfAt g none w') := by
  have := FInt_spec hr
  rw [h] at this
  exact this
theorem FI_ok {n : Nat} {t : List UInt8} (hr : RfAt g st w) (h : st.bind rdU = some (n, t)) : Calls Try.prog 58 #[.pointer (some ⟨g, 0, none⟩)] w (Ret fun r w' => w.grownBy w' (some g) ∧ r = .tuple #[I (uz n), I 0] ∧ RfAt g (some t) w') := by
  have := FInt_spec hr
  rw [h] at this
  exact this
theorem FN_no (hr : RfAt g st w) (hl : Few st) (h : st.bind rdN = none) : Calls Try.prog 59 #[.pointer (some ⟨g, 0, none⟩)] w (Ret fun r w' => w.grownBy w' (some g) ∧ r = .tuple #[.slice none 0 0, I 5] ∧ RfAt g none w') := by
  have := FNat_spec hr hl
  rw [h] at this
  exact this
theorem FN_ok {m : List UInt32} {t : List UInt8} (hr : RfAt g st w) (hl : Few st) (h : st.bind rdN = some (m, t)) : Calls Try.prog 59 #[.pointer (some ⟨g, 0, none⟩)] w (Ret fun r w' => w.grownBy w' (some g) ∧ ∃ v, r = .tuple #[v, I 0] ∧ Wds m v w' ∧ RfAt g (some t) w') := by
  have := FNat_spec hr hl
  rw [h] at this
  exact this
theorem FR_no (hr : RfAt g st w) (hl : Few st) (h : st.bind rdR = none) : Calls Try.prog 60 #[.pointer (some ⟨g, 0, none⟩)] w (Ret fun r w' => w.grownBy w' (some g) ∧ ∃ v, r = .tuple #[v, I 5] ∧ RatV false [] [] v w' ∧ RfAt g none w') := by
  have := FRat_spec hr hl
  rw [h] at this
  exact this
theorem FR_ok {b : Bool} {n m : List UInt32} {t : List UInt8} (hr : RfAt g st w) (hl : Few st) (h : st.bind rdR = some ((b, n, m), t)) : Calls Try.prog 60 #[.pointer (some ⟨g, 0, none⟩)] w (Ret fun r w' => w.grownBy w' (some g) ∧ ∃ v, r = .tuple #[v, I 0] ∧ RatV b n m v w' ∧ RfAt g (some t) w') := by
  have := FRat_spec hr hl
  rw [h] at this
  exact this
theorem FB_no (hr : RfAt g st w) (hl : Few st) (h : st.bind rdB = none) : Calls Try.prog 47 #[.pointer (some ⟨g, 0, none⟩)] w (Ret fun r w' => w.grownBy w' (some g) ∧ r = .tuple #[.slice none 0 0, I 5] ∧ RfAt g none w') := by
  have := FBytes_spec hr hl
  rw [h] at this
  exact this
theorem FB_ok {a t : List UInt8} (hr : RfAt g st w) (hl : Few st) (h : st.bind rdB = some (a, t)) : Calls Try.prog 47 #[.pointer (some ⟨g, 0, none⟩)] w (Ret fun r w' => w.grownBy w' (some g) ∧ ∃ v, r = .tuple #[v, I 0] ∧ Bts a v w' ∧ RfAt g (some t) w') := by
  have := FBytes_spec hr hl
  rw [h] at this
  exact this
theorem FT_no (hr : RfAt g st w) (hl : Few st) (h : st.bind rdB = none) : Calls Try.prog 62 #[.pointer (some ⟨g, 0, none⟩)] w (Ret fun r w' => w.grownBy w' (some g) ∧ r = .tuple #[S [], I 5] ∧ RfAt g none w') := by
  have := FText_spec hr hl
  rw [h] at this
  exact this
theorem FT_ok {a t : List UInt8} (hr : RfAt g st w) (hl : Few st) (h : st.bind rdB = some (a, t)) : Calls Try.prog 62 #[.pointer (some ⟨g, 0, none⟩)] w (Ret fun r w' => w.grownBy w' (some g) ∧ r = .tuple #[S a, I 0] ∧ RfAt g (some t) w') := by
  have := FText_spec hr hl
  rw [h] at this
  exact this
end
end Go.Rl


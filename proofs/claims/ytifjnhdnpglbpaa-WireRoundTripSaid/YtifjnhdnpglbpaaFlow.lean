/- Rules for the operations of a region that draws its order, over facts on the slots. Conditions: each rule names its own. -/
import Derived.Test.YtifjnhdnpglbpaaWalk
namespace Go.Rl
open Go.RowKit

def frF (l : Fr) : Facts := fun t => match lk l t with | some v => Is v | none => Any
theorem frF_stable (l : Fr) : ∀ t, Stable (frF l t) := fun t => by
  unfold frF
  split
  · exact Stable.is _
  · exact Stable.any

def look (F : Facts) : Operand → Fact
  | .tmp t => F t
  | .const c => Is c
  | .global g => Is (.pointer (some ⟨g, 0, none⟩))
  | .func f => Is (.func (.func f) #[] #[])
theorem look_stable {F : Facts} (hF : ∀ t, Stable (F t)) (x : Operand) : Stable (look F x) := by
  cases x with
  | tmp t => exact hF t
  | _ => exact Stable.is _

/-- For all values of which the facts hold. -/
def AllH : List Fact → World → (List Value → Prop) → Prop
  | [], _, K => K []
  | S :: Ss, w, K => ∀ v, S v w → AllH Ss w (fun vs => K (v :: vs))
def Fits (w : World) : List Fact → List Value → Prop
  | [], [] => True
  | S :: Ss, v :: vs => S v w ∧ Fits w Ss vs
  | _, _ => False
theorem AllH.use : ∀ {Ss : List Fact} {w : World} {K : List Value → Prop} {vs : List Value}, AllH Ss w K → Fits w Ss vs → K vs
  | [], _, _, [], h, _ => h
  | [], _, _, _ :: _, _, h => h.elim
  | _ :: _, _, _, [], _, h => h.elim
  | _ :: _, _, K, v :: _, h, h1 => AllH.use (K := fun vs => K (v :: vs)) (h _ h1.1) h1.2

/-- The slots that are taken over, opened. -/
def OpenJ (F : Facts) (w : World) : List Nat → (Fr → Prop) → Prop
  | [], K => K []
  | t :: ts, K => ∀ v, F t v w → OpenJ F w ts (fun l => K ((t, v) :: l))
theorem OpenJ.use {F : Facts} {w : World} {N : Nat} {D : List Deferred} {a : Act} (hs : Sat N D F a w) : ∀ {ts : List Nat} {K : Fr → Prop}, OpenJ F w ts K → ∃ l, At N D l a ∧ K l
  | [], _, h => ⟨[], ⟨hs.size, hs.defers, fun t v ht => by simp [lk] at ht⟩, h⟩
  | t :: ts, _, h => by
    obtain ⟨l, hl, hk⟩ := OpenJ.use hs (h _ (hs.at_ t))
    refine ⟨_, ⟨hs.size, hs.defers, fun s v hv => ?_⟩, hk⟩
    by_cases hst : s = t
    · subst hst
      rw [lk_cons_same] at hv
      exact Option.some.inj hv
    · rw [lk_cons_ne _ l hst] at hv
      exact hl.at_ s v hv

section
variable {P : Program} {ops : Array Oper} {w0 : World} {N : Nat} {D : List Deferred} {F : Facts} {K : Facts → Prop} {rest : List Oper} {d : Nat} {op : Op} {ty : TypeId} {pos : String} {aft : Array Edge}

theorem c_grow {Q : Post} {l : Fr} {w : World} {id : Nat} {os : List Oper} (n : Nat) (ts : List Nat) (hm : P.follows .mixedOrders = true) (hB : Region.lexTailB .any os.toArray n = true)
    (h : wpF P os.toArray w N (os.take n) (frF l) (fun F => ∀ w', Ext w w' → OpenJ F w' ts (fun l' => OpsJ P os.toArray Q N D l' w' (os.drop n)))) : CodeJ P Q N D l w (.region id os.toArray true) := fun a ha => by
  refine wp_region_grow (D := D) (F := frF l) n N hm hB (frF_stable l) ⟨ha.size, ha.defers, fun t => ?_⟩ ?_
  · show frF l t (a.tmps.getD t undef) _
    unfold frF
    cases hv : lk l t with
    | some v => exact ha.at_ t v hv
    | none => trivial
  · have mono : ∀ (l : List Oper) (F : Facts) {K K' : Facts → Prop}, (∀ F, K F → K' F) → wpF P os.toArray w N l F K → wpF P os.toArray w N l F K' := by
      intro l
      induction l with
      | nil => intro F K K' hK h; exact hK _ h
      | cons o l ih => intro F K K' hK h hF; obtain ⟨S, h1, h2⟩ := h hF; exact ⟨S, h1, ih _ hK h2⟩
    refine mono _ _ ?_ h
    intro F hK a' w' he hs
    obtain ⟨l', hl', hk⟩ := OpenJ.use hs (hK w' he)
    exact hk a' hl'

theorem f_nil (h : K F) : wpF P ops w0 N [] F K := h

theorem f_core {S : Fact} (hst : (∀ t, Stable (F t)) → Stable S) (hd : Nat.blt d N = true)
    (hrun : ∀ (a : Act) (w : World), Ext w0 w → (∀ x ∈ op.operands.toList, look F x (a.eval x) w) → growUpon P w S ((execOp a.eval ⟨some d, op, ty, pos, aft, none⟩).run P w))
    (k : wpF P ops w0 N rest (upd F (some d) S) K) : wpF P ops w0 N (⟨some d, op, ty, pos, aft, none⟩ :: rest) F K := fun hF => by
  have hlt : d < N := by simpa [Nat.blt_eq] using hd
  refine ⟨S, ⟨hst hF, fun e he => by obtain rfl := Option.some.inj he; exact hlt, fun a w _ he hs _ => hrun a w he fun x hx => ?_, fun a w _ _ _ hw => by simp [Region.wanted] at hw⟩, k⟩
  cases x with
  | tmp t => exact hs t (List.mem_append_left _ (List.mem_filterMap.2 ⟨.tmp t, hx, rfl⟩))
  | _ => rfl

theorem f_yes {j : Nat} {b : Bool} {t : Tmp} (ht : (ops[j]?).bind (·.dst) = some t) (hg : F t = Is (.bool b)) (k : wpF P ops w0 N (⟨some d, op, ty, pos, aft, none⟩ :: rest) F K) :
    wpF P ops w0 N (⟨some d, op, ty, pos, aft, some (j, b)⟩ :: rest) F K := fun hF => by
  obtain ⟨S, hs, hr⟩ := k hF
  have val : ∀ (a : Act) (w : World), satOn ops ⟨some d, op, ty, pos, aft, some (j, b)⟩ F a w → yielded ops a.tmps j = some b := fun a w h => by
    have h1 : F t (a.tmps.getD t undef) w := h t (List.mem_append_right _ (by simp [ht]))
    rw [hg] at h1
    have h1 : a.tmps.getD t undef = .bool b := h1
    unfold yielded
    rw [ht, Option.bind_some]
    cases hx : a.tmps[t]? with
    | none => rw [Array.getD_eq_getD_getElem?, hx] at h1; simp [undef] at h1
    | some u => rw [Array.getD_eq_getD_getElem?, hx] at h1; simp only [Option.getD_some] at h1; rw [h1]
  have sub : ∀ (a : Act) (w : World), satOn ops ⟨some d, op, ty, pos, aft, some (j, b)⟩ F a w → satOn ops ⟨some d, op, ty, pos, aft, none⟩ F a w := fun a w h s hs => h s (by
    simp only [Oper.looksAt, List.append_nil] at hs
    exact List.mem_append_left _ hs)
  exact ⟨S, ⟨hs.stable, hs.dst, fun a w h1 h2 h3 _ => hs.yes a w h1 h2 (sub a w h3) rfl, fun a w _ _ h3 hw => by simp [Region.wanted, val a w h3] at hw⟩, hr⟩

theorem f_skip {j : Nat} {b : Bool} {t : Tmp} {u : Value} (hd : Nat.blt d N = true) (ht : (ops[j]?).bind (·.dst) = some t) (hg : F t = Is u) (hu : u = undef ∨ u = .bool (!b)) (k : wpF P ops w0 N rest (upd F (some d) (Is undef)) K) :
    wpF P ops w0 N (⟨some d, op, ty, pos, aft, some (j, b)⟩ :: rest) F K := fun hF => by
  have hlt : d < N := by simpa [Nat.blt_eq] using hd
  have val : ∀ (a : Act) (w : World), satOn ops ⟨some d, op, ty, pos, aft, some (j, b)⟩ F a w → yielded ops a.tmps j ≠ some b := fun a w h => by
    have h1 : F t (a.tmps.getD t undef) w := h t (List.mem_append_right _ (by simp [ht]))
    rw [hg] at h1
    have h1 : a.tmps.getD t undef = u := h1
    unfold yielded
    rw [ht, Option.bind_some]
    cases hx : a.tmps[t]? with
    | none => simp
    | some z =>
      rw [Array.getD_eq_getD_getElem?, hx] at h1
      simp only [Option.getD_some] at h1
      subst h1
      rcases hu with rfl | rfl
      · simp [undef]
      · simp
  exact ⟨Is undef, ⟨Stable.is _, fun e he => by obtain rfl := Option.some.inj he; exact hlt, fun a w _ _ h3 hw => by
    have := val a w h3
    simp [Region.wanted] at hw
    exact absurd hw this, fun _ _ _ _ _ _ => rfl⟩, k⟩
theorem f_no {j : Nat} {b : Bool} {t : Tmp} (hd : Nat.blt d N = true) (ht : (ops[j]?).bind (·.dst) = some t) (hg : F t = Is (.bool (!b))) (k : wpF P ops w0 N rest (upd F (some d) (Is undef)) K) :
    wpF P ops w0 N (⟨some d, op, ty, pos, aft, some (j, b)⟩ :: rest) F K := f_skip hd ht hg (.inr rfl) k
theorem f_undef {j : Nat} {b : Bool} {t : Tmp} (hd : Nat.blt d N = true) (ht : (ops[j]?).bind (·.dst) = some t) (hg : F t = Is undef) (k : wpF P ops w0 N rest (upd F (some d) (Is undef)) K) :
    wpF P ops w0 N (⟨some d, op, ty, pos, aft, some (j, b)⟩ :: rest) F K := f_skip hd ht hg (.inl rfl) k

theorem f_move {x : Operand} {S : Fact} (hx : look F x = S) (hd : Nat.blt d N = true) (k : wpF P ops w0 N rest (upd F (some d) S) K) : wpF P ops w0 N (⟨some d, .move x, ty, pos, aft, none⟩ :: rest) F K :=
  f_core (fun hF => hx ▸ look_stable hF x) hd (fun a w _ h => by subst hx; exact ⟨Ext.refl _, h x (by simp [Op.operands])⟩) k
theorem f_assign {x : Operand} {S : Fact} (hx : look F x = S) (hd : Nat.blt d N = true) (k : wpF P ops w0 N rest (upd F (some d) S) K) : wpF P ops w0 N (⟨some d, .assign x, ty, pos, aft, none⟩ :: rest) F K :=
  f_core (fun hF => hx ▸ look_stable hF x) hd (fun a w _ h => by subst hx; exact ⟨Ext.refl _, h x (by simp [Op.operands])⟩) k
theorem f_pick_t {c x y : Operand} {S : Fact} (hc : look F c = Is (.bool true)) (hx : look F x = S) (hd : Nat.blt d N = true) (k : wpF P ops w0 N rest (upd F (some d) S) K) : wpF P ops w0 N (⟨some d, .pick c x y, ty, pos, aft, none⟩ :: rest) F K :=
  f_core (fun hF => hx ▸ look_stable hF x) hd (fun a w _ h => by
    subst hx
    have h1 : look F c (a.eval c) w := h c (by simp [Op.operands])
    rw [hc] at h1
    have h1 : a.eval c = .bool true := h1
    have : (execOp a.eval ⟨some d, .pick c x y, ty, pos, aft, none⟩).run P w = .ok (.value (a.eval x)) w := by simp [execOp, h1, asBool]
    rw [this]
    exact ⟨Ext.refl _, h x (by simp [Op.operands])⟩) k
theorem f_pick_f {c x y : Operand} {S : Fact} (hc : look F c = Is (.bool false)) (hy : look F y = S) (hd : Nat.blt d N = true) (k : wpF P ops w0 N rest (upd F (some d) S) K) : wpF P ops w0 N (⟨some d, .pick c x y, ty, pos, aft, none⟩ :: rest) F K :=
  f_core (fun hF => hy ▸ look_stable hF y) hd (fun a w _ h => by
    subst hy
    have h1 : look F c (a.eval c) w := h c (by simp [Op.operands])
    rw [hc] at h1
    have h1 : a.eval c = .bool false := h1
    have : (execOp a.eval ⟨some d, .pick c x y, ty, pos, aft, none⟩).run P w = .ok (.value (a.eval y)) w := by simp [execOp, h1, asBool]
    rw [this]
    exact ⟨Ext.refl _, h y (by simp [Op.operands])⟩) k

/-- An operation on values, in general. -/
theorem f_gen {xs : List Operand} {S : Fact} {f : List Value → Sem Value} (he : ∀ ρ, execOp ρ ⟨some d, op, ty, pos, aft, none⟩ = (do pure (Next.value (← f (xs.map ρ))) : Sem Next)) (hm : ∀ x ∈ xs, x ∈ op.operands.toList)
    (hst : Stable S) (hd : Nat.blt d N = true) (hrun : ∀ w, Ext w0 w → AllH (xs.map (look F)) w (fun vs => ∃ r w', (f vs).run P w = .ok r w' ∧ Ext w w' ∧ S r w'))
    (k : wpF P ops w0 N rest (upd F (some d) S) K) : wpF P ops w0 N (⟨some d, op, ty, pos, aft, none⟩ :: rest) F K :=
  f_core (fun _ => hst) hd (fun a w hw h => by
    have hall : Fits w (xs.map (look F)) (xs.map a.eval) := by
      clear hrun he
      induction xs with
      | nil => trivial
      | cons x xs ih => exact ⟨h x (hm x (by simp)), ih (fun y hy => hm y (by simp [hy]))⟩
    obtain ⟨r, w', h1, h2, h3⟩ := AllH.use (hrun w hw) hall
    rw [he, Sem.run_bind, h1]
    exact ⟨h2, h3⟩) k
/-- Known values, one result, nothing turns. -/
theorem f_pure {xs : List Operand} {vs : List Value} {r : Value} {f : List Value → Sem Value} (he : ∀ ρ, execOp ρ ⟨some d, op, ty, pos, aft, none⟩ = (do pure (Next.value (← f (xs.map ρ))) : Sem Next)) (hm : ∀ x ∈ xs, x ∈ op.operands.toList)
    (hx : xs.map (look F) = vs.map Is) (hd : Nat.blt d N = true) (hrun : ∀ w, Ext w0 w → (f vs).run P w = .ok r w)
    (k : wpF P ops w0 N rest (upd F (some d) (Is r)) K) : wpF P ops w0 N (⟨some d, op, ty, pos, aft, none⟩ :: rest) F K :=
  f_core (fun _ => Stable.is _) hd (fun a w hw h => by
    have hall : xs.map a.eval = vs := by
      clear hrun he
      induction xs generalizing vs with
      | nil => cases vs with
        | nil => rfl
        | cons v vs => simp at hx
      | cons x xs ih => cases vs with
        | nil => simp at hx
        | cons v vs =>
          simp only [List.map_cons, List.cons.injEq] at hx ⊢
          have h1 := h x (hm x (by simp))
          rw [hx.1] at h1
          exact ⟨h1, ih (fun y hy => hm y (by simp [hy])) hx.2⟩
    rw [he, Sem.run_bind, hall, hrun w hw]
    exact ⟨Ext.refl _, rfl⟩) k

theorem f_bin {b : BinOp} {t t2 : TypeId} {x y : Operand} {u v r : Value} (hx : look F x = Is u) (hy : look F y = Is v) (hd : Nat.blt d N = true) (hrun : ∀ w, Ext w0 w → (bin b t x y u v).run P w = .ok r w)
    (k : wpF P ops w0 N rest (upd F (some d) (Is r)) K) : wpF P ops w0 N (⟨some d, .binOp b t x y t2, ty, pos, aft, none⟩ :: rest) F K :=
  f_pure (xs := [x, y]) (vs := [u, v]) (f := fun | [a, c] => bin b t x y a c | _ => stuck "") (fun _ => rfl) (by simp [Op.operands]) (by simp [hx, hy]) hd hrun k
theorem f_not {b : UnOp} {t : TypeId} {x : Operand} {u r : Value} (hx : look F x = Is u) (hd : Nat.blt d N = true) (hrun : ∀ w, Ext w0 w → (Op.unary b u).run P w = .ok r w)
    (k : wpF P ops w0 N rest (upd F (some d) (Is r)) K) : wpF P ops w0 N (⟨some d, .unOp b t x, ty, pos, aft, none⟩ :: rest) F K :=
  f_pure (xs := [x]) (vs := [u]) (f := fun | [a] => Op.unary b a | _ => stuck "") (fun _ => rfl) (by simp [Op.operands]) (by simp [hx]) hd hrun k
theorem f_conv {s t : TypeId} {x : Operand} {u r : Value} (hx : look F x = Is u) (hd : Nat.blt d N = true) (hrun : ∀ w, Ext w0 w → (convert s t u).run P w = .ok r w)
    (k : wpF P ops w0 N rest (upd F (some d) (Is r)) K) : wpF P ops w0 N (⟨some d, .convert s t x, ty, pos, aft, none⟩ :: rest) F K :=
  f_pure (xs := [x]) (vs := [u]) (f := fun | [a] => convert s t a | _ => stuck "") (fun _ => rfl) (by simp [Op.operands]) (by simp [hx]) hd hrun k
/-- A conversion of a value of which a fact is known. -/
theorem f_convS {s t : TypeId} {x : Operand} {S S' : Fact} (hx : look F x = S) (hst : Stable S') (hd : Nat.blt d N = true) (hrun : ∀ w v, Ext w0 w → S v w → ∃ r w', (convert s t v).run P w = .ok r w' ∧ Ext w w' ∧ S' r w')
    (k : wpF P ops w0 N rest (upd F (some d) S') K) : wpF P ops w0 N (⟨some d, .convert s t x, ty, pos, aft, none⟩ :: rest) F K :=
  f_gen (xs := [x]) (f := fun | [a] => convert s t a | _ => stuck "") (fun _ => rfl) (by simp [Op.operands]) hst hd (fun w hw v hv => by subst hx; exact hrun w v hw hv) k
theorem f_load {t : TypeId} {x : Operand} {u r : Value} (hx : look F x = Is u) (hd : Nat.blt d N = true) (hrun : ∀ w, Ext w0 w → (Instr.loadAt t u).run P w = .ok r w)
    (k : wpF P ops w0 N rest (upd F (some d) (Is r)) K) : wpF P ops w0 N (⟨some d, .load t x, ty, pos, aft, none⟩ :: rest) F K :=
  f_pure (xs := [x]) (vs := [u]) (f := fun | [a] => Instr.loadAt t a | _ => stuck "") (fun _ => rfl) (by simp [Op.operands]) (by simp [hx]) hd hrun k
theorem f_fieldAddr {s : TypeId} {n : Nat} {x : Operand} {u r : Value} (hx : look F x = Is u) (hd : Nat.blt d N = true) (hrun : ∀ w, Ext w0 w → (Instr.fieldAt s u n).run P w = .ok r w)
    (k : wpF P ops w0 N rest (upd F (some d) (Is r)) K) : wpF P ops w0 N (⟨some d, .fieldAddr s x n, ty, pos, aft, none⟩ :: rest) F K :=
  f_pure (xs := [x]) (vs := [u]) (f := fun | [a] => Instr.fieldAt s a n | _ => stuck "") (fun _ => rfl) (by simp [Op.operands]) (by simp [hx]) hd hrun k
theorem f_field {s : TypeId} {n : Nat} {x : Operand} {u r : Value} (hx : look F x = Is u) (hd : Nat.blt d N = true) (hrun : ∀ w, Ext w0 w → (Instr.field s u n).run P w = .ok r w)
    (k : wpF P ops w0 N rest (upd F (some d) (Is r)) K) : wpF P ops w0 N (⟨some d, .field s x n, ty, pos, aft, none⟩ :: rest) F K :=
  f_pure (xs := [x]) (vs := [u]) (f := fun | [a] => Instr.field s a n | _ => stuck "") (fun _ => rfl) (by simp [Op.operands]) (by simp [hx]) hd hrun k
theorem f_extract {n : Nat} {x : Operand} {u r : Value} (hx : look F x = Is u) (hd : Nat.blt d N = true) (hrun : ∀ w, Ext w0 w → (Instr.extract u n).run P w = .ok r w)
    (k : wpF P ops w0 N rest (upd F (some d) (Is r)) K) : wpF P ops w0 N (⟨some d, .extract x n, ty, pos, aft, none⟩ :: rest) F K :=
  f_pure (xs := [x]) (vs := [u]) (f := fun | [a] => Instr.extract a n | _ => stuck "") (fun _ => rfl) (by simp [Op.operands]) (by simp [hx]) hd hrun k
theorem f_extractS {n : Nat} {x : Operand} {S S' : Fact} (hx : look F x = S) (hst : Stable S') (hd : Nat.blt d N = true) (hrun : ∀ w v, Ext w0 w → S v w → ∃ r, (Instr.extract v n).run P w = .ok r w ∧ S' r w)
    (k : wpF P ops w0 N rest (upd F (some d) S') K) : wpF P ops w0 N (⟨some d, .extract x n, ty, pos, aft, none⟩ :: rest) F K :=
  f_gen (xs := [x]) (f := fun | [a] => Instr.extract a n | _ => stuck "") (fun _ => rfl) (by simp [Op.operands]) hst hd (fun w hw v hv => by
    subst hx
    obtain ⟨r, h1, h2⟩ := hrun w v hw hv
    exact ⟨r, w, h1, Ext.refl _, h2⟩) k
theorem f_nilCheck {x : Operand} {a : Addr} (hx : look F x = Is (.pointer (some a))) (hd : Nat.blt d N = true) (k : wpF P ops w0 N rest (upd F (some d) (Is (.pointer (some a)))) K) : wpF P ops w0 N (⟨some d, .nilCheck x, ty, pos, aft, none⟩ :: rest) F K :=
  f_core (fun _ => Stable.is _) hd (fun b w _ h => by
    have h1 : look F x (b.eval x) w := h x (by simp [Op.operands])
    rw [hx] at h1
    have h1 : b.eval x = .pointer (some a) := h1
    have : (execOp b.eval ⟨some d, .nilCheck x, ty, pos, aft, none⟩).run P w = .ok (.value (.pointer (some a))) w := by simp [execOp, h1]
    rw [this]
    exact ⟨Ext.refl _, rfl⟩) k
theorem f_indexAddr {t : TypeId} {x y : Operand} {u v r : Value} (hx : look F x = Is u) (hy : look F y = Is v) (hd : Nat.blt d N = true) (hrun : ∀ w, Ext w0 w → (Instr.indexAt t u v).run P w = .ok r w)
    (k : wpF P ops w0 N rest (upd F (some d) (Is r)) K) : wpF P ops w0 N (⟨some d, .indexAddr t x y, ty, pos, aft, none⟩ :: rest) F K :=
  f_pure (xs := [x, y]) (vs := [u, v]) (f := fun | [a, c] => Instr.indexAt t a c | _ => stuck "") (fun _ => rfl) (by simp [Op.operands]) (by simp [hx, hy]) hd hrun k
theorem f_index {t : TypeId} {x y : Operand} {u v r : Value} (hx : look F x = Is u) (hy : look F y = Is v) (hd : Nat.blt d N = true) (hrun : ∀ w, Ext w0 w → (Instr.index t u v).run P w = .ok r w)
    (k : wpF P ops w0 N rest (upd F (some d) (Is r)) K) : wpF P ops w0 N (⟨some d, .index t x y, ty, pos, aft, none⟩ :: rest) F K :=
  f_pure (xs := [x, y]) (vs := [u, v]) (f := fun | [a, c] => Instr.index t a c | _ => stuck "") (fun _ => rfl) (by simp [Op.operands]) (by simp [hx, hy]) hd hrun k
theorem f_alloc {t : TypeId} {S : Fact} (hst : Stable S) (hd : Nat.blt d N = true) (hrun : ∀ w, Ext w0 w → ∃ r w', (Instr.alloc t true (.tuple #[])).run P w = .ok r w' ∧ Ext w w' ∧ S r w')
    (k : wpF P ops w0 N rest (upd F (some d) S) K) : wpF P ops w0 N (⟨some d, .alloc t, ty, pos, aft, none⟩ :: rest) F K :=
  f_gen (xs := []) (f := fun _ => Instr.alloc t true (.tuple #[])) (fun _ => rfl) (by simp) hst hd hrun k

def optL : Option Operand → List Operand
  | none => []
  | some x => [x]
theorem f_slice {t : TypeId} {x : Operand} {lo hi : Option Operand} {u r : Value} {a b : Option Value} (hx : look F x = Is u) (hlo : lo.map (look F) = a.map Is) (hhi : hi.map (look F) = b.map Is) (hd : Nat.blt d N = true)
    (hrun : ∀ w, Ext w0 w → (Instr.sliceAt t u a b none).run P w = .ok r w)
    (k : wpF P ops w0 N rest (upd F (some d) (Is r)) K) : wpF P ops w0 N (⟨some d, .slice t x lo hi none, ty, pos, aft, none⟩ :: rest) F K :=
  f_core (fun _ => Stable.is _) hd (fun s w hw h => by
    have opt : ∀ {o : Option Operand} {c : Option Value}, o.map (look F) = c.map Is → (∀ y, o = some y → y ∈ (Op.slice t x lo hi none).operands.toList) → o.map s.eval = c := fun {o c} ho hm => by
      cases o with
      | none => cases c with
        | none => rfl
        | some c => simp at ho
      | some y => cases c with
        | none => simp at ho
        | some c =>
          simp only [Option.map_some, Option.some.injEq] at ho ⊢
          have h1 := h y (hm y rfl)
          rw [ho] at h1
          exact h1
    have h0 : look F x (s.eval x) w := h x (by simp [Op.operands])
    rw [hx] at h0
    have h0 : s.eval x = u := h0
    have : execOp s.eval ⟨some d, .slice t x lo hi none, ty, pos, aft, none⟩ = (do pure (Next.value (← Instr.sliceAt t (s.eval x) (lo.map s.eval) (hi.map s.eval) none)) : Sem Next) := rfl
    rw [this, h0, opt hlo (fun y hy => by subst hy; simp [Op.operands]), opt hhi (fun y hy => by subst hy; simp [Op.operands]), Sem.run_bind, hrun w hw]
    exact ⟨Ext.refl _, rfl⟩) k

theorem f_parts {ps : List (Nat × Operand)} {S : Fact} {f : Array (Nat × Value) → Sem Value} (he : ∀ ρ, execOp ρ ⟨some d, op, ty, pos, aft, none⟩ = (do pure (Next.value (← f (ps.toArray.map fun (i, x) => (i, ρ x)))) : Sem Next)) (hm : ∀ x ∈ ps, x.2 ∈ op.operands.toList)
    (hst : Stable S) (hd : Nat.blt d N = true) (hrun : ∀ w, Ext w0 w → AllH (ps.map fun p => look F p.2) w (fun vs => ∃ r w', (f ((ps.map (·.1)).zip vs).toArray).run P w = .ok r w' ∧ Ext w w' ∧ S r w'))
    (k : wpF P ops w0 N rest (upd F (some d) S) K) : wpF P ops w0 N (⟨some d, op, ty, pos, aft, none⟩ :: rest) F K :=
  f_gen (xs := ps.map (·.2)) (f := fun vs => f ((ps.map (·.1)).zip vs).toArray) (fun ρ => by
    rw [he]
    have : (ps.toArray.map fun (i, x) => (i, ρ x)) = ((ps.map (·.1)).zip ((ps.map (·.2)).map ρ)).toArray := by
      rw [List.map_toArray]
      congr 1
      clear hm he hrun
      induction ps with
      | nil => rfl
      | cons p ps ih => simp only [List.map_cons, List.zip_cons_cons, ih]
    rw [this]) (fun x hx => by
      obtain ⟨p, hp, rfl⟩ := List.mem_map.1 hx
      exact hm p hp) hst hd (fun w hw => by
      have := hrun w hw
      rwa [List.map_map]) k
theorem f_build {t : TypeId} {ps : List (Nat × Operand)} {S : Fact} (hst : Stable S) (hd : Nat.blt d N = true) (hrun : ∀ w, Ext w0 w → AllH (ps.map fun p => look F p.2) w (fun vs => ∃ r w', (Instr.build t ((ps.map (·.1)).zip vs).toArray).run P w = .ok r w' ∧ Ext w w' ∧ S r w'))
    (k : wpF P ops w0 N rest (upd F (some d) S) K) : wpF P ops w0 N (⟨some d, .build t ps.toArray, ty, pos, aft, none⟩ :: rest) F K :=
  f_parts (ps := ps) (fun _ => rfl) (fun x hx => by simp [Op.operands]; exact ⟨x.1, hx⟩) hst hd hrun k
theorem f_buildSlice {t : TypeId} {n : Nat} {ps : List (Nat × Operand)} {S : Fact} (hst : Stable S) (hd : Nat.blt d N = true) (hrun : ∀ w, Ext w0 w → AllH (ps.map fun p => look F p.2) w (fun vs => ∃ r w', (Instr.buildSlice t n ((ps.map (·.1)).zip vs).toArray).run P w = .ok r w' ∧ Ext w w' ∧ S r w'))
    (k : wpF P ops w0 N rest (upd F (some d) S) K) : wpF P ops w0 N (⟨some d, .buildSlice t n ps.toArray, ty, pos, aft, none⟩ :: rest) F K :=
  f_parts (ps := ps) (fun _ => rfl) (fun x hx => by simp [Op.operands]; exact ⟨x.1, hx⟩) hst hd hrun k

/-- A call of a Go function that leaves what was there. -/
theorem f_call {f : FuncId} {xs : List Operand} {ts : Array TypeId} {S : Fact} (hf : Callable P f) (hst : Stable S) (hd : Nat.blt d N = true)
    (hc : ∀ w, Ext w0 w → AllH (xs.map (look F)) w (fun vs => Calls P f vs.toArray w (Ret fun v w' => Ext w w' ∧ S v w')))
    (k : wpF P ops w0 N rest (upd F (some d) S) K) : wpF P ops w0 N (⟨some d, .call { callee := .value (.func f), args := xs.toArray, argTypes := ts }, ty, pos, aft, none⟩ :: rest) F K :=
  f_core (fun _ => hst) hd (fun a w hw h => by
    have hall : Fits w (xs.map (look F)) (xs.map a.eval) := by
      have hm : ∀ x ∈ xs, look F x (a.eval x) w := fun x hx => h x (by simp [Op.operands, Call.operands, hx])
      clear hc h
      induction xs with
      | nil => trivial
      | cons x xs ih => exact ⟨hm x (by simp), ih (fun y hy => hm y (by simp [hy]))⟩
    have h1 := AllH.use (hc w hw) hall
    have hr : (execOp a.eval ⟨some d, .call { callee := .value (.func f), args := xs.toArray, argTypes := ts }, ty, pos, aft, none⟩).run P w = .ok (.enter f (xs.map a.eval).toArray) w := by
      simp only [execOp, resolve, List.map_toArray, Act.eval, Deferred.ofValue, Sem.run_bind, Sem.run_pure, Result.andThen_ok, invoke, Array.append_empty, run_callFunc hf, Array.empty_append]
    rw [hr]
    refine ⟨Ext.refl _, h1.mono ?_⟩
    rintro e w'' ⟨v, rfl, hv⟩
    exact ⟨v, rfl, hv⟩) k

/-- A builtin on values. -/
theorem f_len {xs : List Operand} {ts : Array TypeId} {vs : List Value} {r : Value} (hx : xs.map (look F) = vs.map Is) (hd : Nat.blt d N = true) (hrun : ∀ w, Ext w0 w → (Builtin.len_ ts ty vs.toArray).run P w = .ok r w)
    (k : wpF P ops w0 N rest (upd F (some d) (Is r)) K) : wpF P ops w0 N (⟨some d, .call { callee := .builtin .len, args := xs.toArray, argTypes := ts }, ty, pos, aft, none⟩ :: rest) F K :=
  f_pure (xs := xs) (vs := vs) (f := fun vs => Builtin.len_ ts ty vs.toArray) (fun ρ => by simp only [execOp, resolve, invoke, builtin, pure_bind, List.map_toArray]) (fun x hx => by simp [Op.operands, Call.operands, hx]) hx hd hrun k
theorem f_lenS {x : Operand} {ts : Array TypeId} {S S' : Fact} (hx : look F x = S) (hst : Stable S') (hd : Nat.blt d N = true) (hrun : ∀ w v, Ext w0 w → S v w → ∃ r, (Builtin.len_ ts ty #[v]).run P w = .ok r w ∧ S' r w)
    (k : wpF P ops w0 N rest (upd F (some d) S') K) : wpF P ops w0 N (⟨some d, .call { callee := .builtin .len, args := #[x], argTypes := ts }, ty, pos, aft, none⟩ :: rest) F K :=
  f_gen (xs := [x]) (f := fun vs => Builtin.len_ ts ty vs.toArray) (fun ρ => by simp only [execOp, resolve, invoke, builtin, pure_bind, List.map_toArray, List.map_cons, List.map_nil]) (fun x hx => by simp [Op.operands, Call.operands]; simpa using hx) hst hd (fun w hw v hv => by
    subst hx
    obtain ⟨r, h1, h2⟩ := hrun w v hw hv
    exact ⟨r, w, h1, Ext.refl _, h2⟩) k
theorem f_min {xs : List Operand} {ts : Array TypeId} {vs : List Value} {r : Value} (hx : xs.map (look F) = vs.map Is) (hd : Nat.blt d N = true) (hrun : ∀ w, Ext w0 w → (Builtin.min_ ts ty vs.toArray).run P w = .ok r w)
    (k : wpF P ops w0 N rest (upd F (some d) (Is r)) K) : wpF P ops w0 N (⟨some d, .call { callee := .builtin .min, args := xs.toArray, argTypes := ts }, ty, pos, aft, none⟩ :: rest) F K :=
  f_pure (xs := xs) (vs := vs) (f := fun vs => Builtin.min_ ts ty vs.toArray) (fun ρ => by simp only [execOp, resolve, invoke, builtin, pure_bind, List.map_toArray]) (fun x hx => by simp [Op.operands, Call.operands, hx]) hx hd hrun k
theorem f_append {xs : List Operand} {ts : Array TypeId} {S : Fact} (hst : Stable S) (hd : Nat.blt d N = true) (hrun : ∀ w, Ext w0 w → AllH (xs.map (look F)) w (fun vs => ∃ r w', (Builtin.append_ ts ty vs.toArray).run P w = .ok r w' ∧ Ext w w' ∧ S r w'))
    (k : wpF P ops w0 N rest (upd F (some d) S) K) : wpF P ops w0 N (⟨some d, .call { callee := .builtin .append, args := xs.toArray, argTypes := ts }, ty, pos, aft, none⟩ :: rest) F K :=
  f_gen (xs := xs) (f := fun vs => Builtin.append_ ts ty vs.toArray) (fun ρ => by simp only [execOp, resolve, invoke, builtin, pure_bind, List.map_toArray]) (fun x hx => by simp [Op.operands, Call.operands, hx]) hst hd hrun k
end
end Go.Rl

/- A walk over known slots: judgments and rules for code, plain regions and regions that draw their order. Conditions: each rule names its own. -/
import Derived.Test.YtifjnhdnpglbpaaGrow
import Derived.Laws.Entries
namespace Go.Rl
open Go.RowKit

/-- The slots that are known. -/
abbrev Fr := List (Nat × Value)
def lk : Fr → Nat → Option Value
  | [], _ => none
  | (t, v) :: l, s => match Nat.beq t s with | true => some v | false => lk l s
def ev (l : Fr) : Operand → Option Value
  | .tmp t => lk l t
  | .const v => some v
  | .global g => some (.pointer (some ⟨g, 0, none⟩))
  | .func f => some (.func (.func f) #[] #[])

structure At (N : Nat) (D : List Deferred) (l : Fr) (a : Act) : Prop where
  size : a.tmps.size = N
  defers : a.defers = D
  at_ : ∀ t v, lk l t = some v → a.tmps.getD t undef = v

theorem At.ev {N : Nat} {D : List Deferred} {l : Fr} {a : Act} (h : At N D l a) {x : Operand} {v : Value} (hx : ev l x = some v) : a.eval x = v := by
  cases x with
  | tmp t => exact h.at_ t v hx
  | const c => exact Option.some.inj hx
  | global g => exact Option.some.inj hx
  | func f => exact Option.some.inj hx

theorem lk_cons_same (d : Nat) (v : Value) (l : Fr) : lk ((d, v) :: l) d = some v := by simp [lk]
theorem lk_cons_ne {d t : Nat} (v : Value) (l : Fr) (h : t ≠ d) : lk ((d, v) :: l) t = lk l t := by
  have : Nat.beq d t = false := by
    cases hb : Nat.beq d t
    · rfl
    · exact absurd (Nat.eq_of_beq_eq_true hb).symm h
  simp [lk, this]

theorem At.put {N : Nat} {D : List Deferred} {l : Fr} {a : Act} (h : At N D l a) {d : Nat} (hd : Nat.blt d N = true) (v : Value) : At N D ((d, v) :: l) (a.put (some d) v) := by
  have hlt : d < N := by simpa [Nat.blt_eq] using hd
  refine ⟨by simp [Act.put, h.size], h.defers, fun t u ht => ?_⟩
  by_cases htd : t = d
  · subst htd
    rw [lk_cons_same] at ht
    obtain rfl := Option.some.inj ht
    simp [Act.put, h.size, hlt]
  · rw [lk_cons_ne v l htd] at ht
    have := h.at_ t u ht
    rw [← this]
    simp [Act.put, Array.getElem?_setIfInBounds_ne (Ne.symm htd)]

/-- All that l' knows l knows. -/
def Sub : Fr → Fr → Prop
  | [], _ => True
  | (t, v) :: l', l => lk l t = some v ∧ Sub l' l

theorem lk_sub : ∀ {l' l : Fr}, Sub l' l → ∀ t v, lk l' t = some v → lk l t = some v
  | [], _, _, t, v, h => by simp [lk] at h
  | (s, u) :: l', l, hs, t, v, h => by
    by_cases hts : t = s
    · subst hts
      rw [lk_cons_same] at h
      obtain rfl := Option.some.inj h
      exact hs.1
    · rw [lk_cons_ne u l' hts] at h
      exact lk_sub hs.2 t v h

theorem At.weak {N : Nat} {D : List Deferred} {l l' : Fr} {a : Act} (h : At N D l a) (hs : Sub l' l) : At N D l' a := ⟨h.size, h.defers, fun t v ht => h.at_ t v (lk_sub hs t v ht)⟩

abbrev Post := Exit → Act → World → Prop

section
variable {P : Program} {ops : Array Oper} {Q : Post} {N : Nat} {D : List Deferred}

def OpsJ (P : Program) (ops : Array Oper) (Q : Post) (N : Nat) (D : List Deferred) (l : Fr) (w : World) (os : List Oper) : Prop := ∀ a, At N D l a → wpList P ops Q os a w
def CodeJ (P : Program) (Q : Post) (N : Nat) (D : List Deferred) (l : Fr) (w : World) (c : Code) : Prop := ∀ a, At N D l a → c.wp P Q a w
def NormJ (Q : Post) (N : Nat) (D : List Deferred) (l : Fr) (w : World) : Prop := ∀ a, At N D l a → Q .normal a w
def ExitJ (Q : Post) (N : Nat) (D : List Deferred) (l : Fr) (w : World) (e : Exit) : Prop := ∀ a, At N D l a → Q e a w

/-! ### Code -/
section code
variable {l l' : Fr} {w : World}

theorem CodeJ.weak {c : Code} (hs : Sub l' l) (h : CodeJ P Q N D l' w c) : CodeJ P Q N D l w c := fun a ha => h a (ha.weak hs)

theorem c_seq {x y : Code} (h : CodeJ P (Exit.then (y.wp P Q) Q) N D l w x) : CodeJ P Q N D l w (.seq x y) := fun a ha => wp_seq (h a ha)
theorem c_skip (h : NormJ Q N D l w) : CodeJ P Q N D l w .skip := fun a ha => wp_skip (h a ha)
theorem n_then {y : Code} {Q' : Post} (h : CodeJ P Q N D l w y) : NormJ (Exit.then (y.wp P Q) Q') N D l w := fun a ha => h a ha
theorem n_block {id : Nat} (h : NormJ Q N D l w) : NormJ (Exit.inBlock id Q) N D l w := fun a ha => h a ha
theorem c_block {id : Nat} {c : Code} (h : CodeJ P (Exit.inBlock id Q) N D l w c) : CodeJ P Q N D l w (.block id c) := fun a ha => wp_block (h a ha)
theorem c_exit {id : Nat} (h : ExitJ Q N D l w (.exit id)) : CodeJ P Q N D l w (.exit id) := fun a ha => wp_exit (h a ha)
theorem x_then {K : Act → World → Prop} {id : Nat} (h : ExitJ Q N D l w (.exit id)) : ExitJ (Exit.then K Q) N D l w (.exit id) := fun a ha => h a ha
theorem x_here {id : Nat} (h : NormJ Q N D l w) : ExitJ (Exit.inBlock id Q) N D l w (.exit id) := fun a ha => by
  show (if id = id then Q .normal a w else Q (.exit id) a w)
  rw [if_pos rfl]
  exact h a ha
theorem x_out {id i : Nat} (hne : Nat.beq i id = false) (h : ExitJ Q N D l w (.exit i)) : ExitJ (Exit.inBlock id Q) N D l w (.exit i) := fun a ha => by
  show (if i = id then Q .normal a w else Q (.exit i) a w)
  rw [if_neg (fun e => by subst e; simp at hne)]
  exact h a ha
theorem c_ret (h : ExitJ Q N D l w .ret) : CodeJ P Q N D l w .ret := fun a ha => wp_ret (h a ha)
theorem r_then {K : Act → World → Prop} (h : ExitJ Q N D l w .ret) : ExitJ (Exit.then K Q) N D l w .ret := fun a ha => h a ha
theorem r_block {id : Nat} (h : ExitJ Q N D l w .ret) : ExitJ (Exit.inBlock id Q) N D l w .ret := fun a ha => h a ha
theorem r_body0 {fn : Func} {R : Ending → World → Prop} (hr : fn.results = #[]) (h : R (.returned (.tuple #[])) w) : ExitJ (bodyPost P fn R) N [] l w .ret := fun a ha =>
  ⟨ha.defers, _, by simp [results, hr], h⟩
theorem r_body1 {fn : Func} {R : Ending → World → Prop} {t : Tmp} {v : Value} (hr : fn.results = #[.tmp t]) (hv : lk l t = some v) (h : R (.returned v) w) : ExitJ (bodyPost P fn R) N [] l w .ret := fun a ha =>
  ⟨ha.defers, v, by simp only [results, hr]; simp [← ha.at_ t v hv], h⟩
theorem r_body2 {fn : Func} {R : Ending → World → Prop} {t s : Tmp} {v u : Value} (hr : fn.results = #[.tmp t, .tmp s]) (hv : lk l t = some v) (hu : lk l s = some u) (h : R (.returned (.tuple #[v, u])) w) : ExitJ (bodyPost P fn R) N [] l w .ret := fun a ha =>
  ⟨ha.defers, .tuple #[v, u], by simp only [results, hr]; simp [← ha.at_ t v hv, ← ha.at_ s u hu], h⟩
theorem r_body3 {fn : Func} {R : Ending → World → Prop} {t s r : Tmp} {v u z : Value} (hr : fn.results = #[.tmp t, .tmp s, .tmp r]) (hv : lk l t = some v) (hu : lk l s = some u) (hz : lk l r = some z) (h : R (.returned (.tuple #[v, u, z])) w) : ExitJ (bodyPost P fn R) N [] l w .ret := fun a ha =>
  ⟨ha.defers, .tuple #[v, u, z], by simp only [results, hr]; simp [← ha.at_ t v hv, ← ha.at_ s u hu, ← ha.at_ r z hz], h⟩
/-- A function without results that runs to its end. -/
theorem n_body0 {fn : Func} {R : Ending → World → Prop} (hr : fn.results = #[]) (h : R (.returned (.tuple #[])) w) : NormJ (bodyPost P fn R) N [] l w := fun a ha =>
  ⟨ha.defers, _, by simp [results, hr], h⟩

theorem c_cond {c : Operand} {x y : Code} {b : Bool} (hc : ev l c = some (.bool b)) (ht : b = true → CodeJ P Q N D l w x) (hf : b = false → CodeJ P Q N D l w y) : CodeJ P Q N D l w (.cond c x y) := fun a ha =>
  wp_cond_split (ha.ev hc) (fun h => ht h a ha) (fun h => hf h a ha)
theorem c_if {c : Operand} {x y : Code} {p : Prop} {dp : Decidable p} (hc : ev l c = some (.bool (@decide p dp))) (ht : p → CodeJ P Q N D l w x) (hf : ¬ p → CodeJ P Q N D l w y) : CodeJ P Q N D l w (.cond c x y) :=
  c_cond hc (fun h => ht (of_decide_eq_true h)) (fun h => hf (of_decide_eq_false h))
theorem c_yes {c : Operand} {x y : Code} (hc : ev l c = some (.bool true)) (ht : CodeJ P Q N D l w x) : CodeJ P Q N D l w (.cond c x y) := c_cond hc (fun _ => ht) (fun h => by cases h)
theorem c_no {c : Operand} {x y : Code} (hc : ev l c = some (.bool false)) (hf : CodeJ P Q N D l w y) : CodeJ P Q N D l w (.cond c x y) := c_cond hc (fun h => by cases h) (fun _ => hf)

/-- Both ways meet: what is known behind them is said once. -/
theorem c_cut {c : Code} {α : Type} (fr : α → Fr) (H : α → World → Prop) (h : CodeJ P (Exit.then (fun a w' => ∃ x, At N D (fr x) a ∧ H x w') Q) N D l w c) (k : ∀ x w', H x w' → NormJ Q N D (fr x) w') : CodeJ P Q N D l w c := fun a ha =>
  wp_mono (h a ha) fun e a' w' hq => by
    cases e with
    | normal =>
      obtain ⟨x, hx, hH⟩ := hq
      exact k x w' hH a' hx
    | _ => exact hq
theorem n_meet {α : Type} {fr : α → Fr} {H : α → World → Prop} (x : α) (hs : Sub (fr x) l) (hH : H x w) : NormJ (Exit.then (fun a w' => ∃ x, At N D (fr x) a ∧ H x w') Q) N D l w := fun _ ha => ⟨x, ha.weak hs, hH⟩

theorem c_loop {c : Code} {α : Type} (fr : α → Fr) (H : α → World → Prop) (mu : α → Nat) (x0 : α) (hs : Sub (fr x0) l) (h0 : H x0 w)
    (round : ∀ x w', H x w' → CodeJ P (Exit.then (fun a w'' => ∃ y, At N D (fr y) a ∧ H y w'' ∧ mu y < mu x) Q) N D (fr x) w' c) : CodeJ P Q N D l w (.loop c) := fun a ha => by
  intro b k cs
  have go : ∀ (n : Nat) (x : α) (a : Act) (w : World), mu x < n → At N D (fr x) a → H x w →
      ∃ e a' w', Q e a' w' ∧ Arrives P (lone (b.at a (.code c :: .inLoop c :: k)) cs w) b k cs e a' w' := by
    intro n
    induction n with
    | zero => intro x a w hlt; omega
    | succ n ih =>
      intro x a w hlt hat hH
      obtain ⟨e, a1, w1, hq, harr⟩ := round x w hH a hat b (.inLoop c :: k) cs
      cases e with
      | normal =>
        obtain ⟨y, hy, hHy, hm⟩ := hq
        obtain ⟨e2, a2, w2, hq2, harr2⟩ := ih y a1 w1 (by omega) hy hHy
        exact ⟨e2, a2, w2, hq2, .of_steps (Steps.trans harr (.one step_inLoop)) harr2⟩
      | exit id => exact ⟨_, a1, w1, hq, .pass (x := .inLoop c) rfl (fun _ _ => .inl (by simp)) harr⟩
      | goto l => exact ⟨_, a1, w1, hq, .pass (x := .inLoop c) rfl (fun _ _ => .inl (by simp)) harr⟩
      | ret => exact ⟨_, a1, w1, hq, .pass (x := .inLoop c) rfl (fun _ _ => .inl (by simp)) harr⟩
      | panic ch => exact ⟨_, a1, w1, hq, .pass (x := .inLoop c) rfl (fun _ _ => .inl (by simp)) harr⟩
      | outgrown => exact ⟨_, a1, w1, hq, .pass (x := .inLoop c) rfl (fun _ _ => .inl (by simp)) harr⟩
  obtain ⟨e, a', w', hq, harr⟩ := go (mu x0 + 1) x0 a w (by omega) (ha.weak hs) h0
  exact ⟨e, a', w', hq, .of_steps (.one step_loop) harr⟩
theorem n_round {α : Type} {fr : α → Fr} {H : α → World → Prop} {mu : α → Nat} {m : Nat} (y : α) (hs : Sub (fr y) l) (hH : H y w) (hm : mu y < m) : NormJ (Exit.then (fun a w'' => ∃ y, At N D (fr y) a ∧ H y w'' ∧ mu y < m) Q) N D l w := fun _ ha => ⟨y, ha.weak hs, hH, hm⟩

theorem c_region {id : Nat} {os : List Oper} (h : OpsJ P os.toArray Q N D l w os) : CodeJ P Q N D l w (.region id os.toArray false) := fun a ha => wp_region_lit (h a ha)
theorem o_nil (h : NormJ Q N D l w) : OpsJ P ops Q N D l w [] := fun a ha => h a ha
end code

/-- Entering a function. -/
def number : Nat → List Value → Fr
  | _, [] => []
  | i, v :: vs => (i, v) :: number (i + 1) vs
theorem lk_number : ∀ (vs : List Value) (i t : Nat) (v : Value), lk (number i vs) t = some v → i ≤ t ∧ vs[t - i]? = some v
  | [], _, _, _, h => by simp [number, lk] at h
  | u :: vs, i, t, v, h => by
    by_cases hti : t = i
    · subst hti
      rw [number, lk_cons_same] at h
      exact ⟨Nat.le_refl _, by simpa using h⟩
    · rw [number, lk_cons_ne u _ hti] at h
      obtain ⟨h1, h2⟩ := lk_number vs (i + 1) t v h
      refine ⟨by omega, ?_⟩
      rw [show t - i = (t - (i + 1)) + 1 by omega]
      simpa using h2

theorem enter {f : FuncId} {fn : Func} {c : Code} {vs : List Value} {w : World} {R : Ending → World → Prop} (hf : P.funcs[f]? = some fn) (hb : fn.body = some c) (hN : fn.ntmps = N) (hle : Nat.ble vs.length N = true)
    (h : CodeJ P (bodyPost P fn R) N [] (number 0 vs) w c) : Calls P f vs.toArray w R := by
  have hle' : vs.length ≤ N := by simpa using hle
  refine calls_of_wp hf hb (h _ ⟨?_, rfl, fun t v ht => ?_⟩)
  · simp [hN]; omega
  · obtain ⟨_, h2⟩ := lk_number vs 0 t v ht
    have h2' : vs[t]? = some v := by simpa using h2
    have hlt : t < vs.length := by
      rcases Nat.lt_or_ge t vs.length with h | h
      · exact h
      · rw [List.getElem?_eq_none h] at h2'; cases h2'
    rw [List.getElem?_eq_getElem hlt] at h2'
    simpa [Array.getElem?_append, hlt] using h2'

/-! ### Operations, plain regions -/
section ops
variable {l : Fr} {w w' : World} {rest : List Oper} {d : Nat} {op : Op} {ty : TypeId} {pos : String} {aft : Array Edge}

def Agree (l : Fr) (ρ : Operand → Value) : Prop := ∀ x v, ev l x = some v → ρ x = v

theorem o_run {v : Value} (hd : Nat.blt d N = true) (hrun : ∀ ρ, Agree l ρ → (execOp ρ ⟨some d, op, ty, pos, aft, none⟩).run P w = .ok (.value v) w') (k : OpsJ P ops Q N D ((d, v) :: l) w' rest) :
    OpsJ P ops Q N D l w (⟨some d, op, ty, pos, aft, none⟩ :: rest) := fun a ha => by
  refine wpList_plain rfl fun K hK => ?_
  unfold Oper.wp
  rw [hrun a.eval fun x v hx => ha.ev hx]
  exact hK _ _ (k _ (ha.put hd v))

/-- An operation that only acts. -/
theorem o_act {op : Op} (hrun : ∀ ρ, Agree l ρ → (execOp ρ ⟨none, op, ty, pos, aft, none⟩).run P w = .ok .skip w') (k : OpsJ P ops Q N D l w' rest) :
    OpsJ P ops Q N D l w (⟨none, op, ty, pos, aft, none⟩ :: rest) := fun a ha => by
  refine wpList_plain rfl fun K hK => ?_
  unfold Oper.wp
  rw [hrun a.eval fun x v hx => ha.ev hx]
  exact hK _ _ (k _ ha)

/-- The guard's value. -/
def gv (ops : Array Oper) (l : Fr) (j : Nat) : Option Value := ((ops[j]?).bind (·.dst)).bind (lk l)

theorem yielded_of {a : Act} (ha : At N D l a) {j : Nat} {b : Bool} (h : gv ops l j = some (.bool b)) : yielded ops a.tmps j = some b := by
  unfold gv at h
  unfold yielded
  cases hd : (ops[j]?).bind (·.dst) with
  | none => simp [hd] at h
  | some t =>
    simp only [hd, Option.bind_some] at h ⊢
    have h1 := ha.at_ t _ h
    have : a.tmps[t]? = some (.bool b) := by
      cases hx : a.tmps[t]? with
      | none =>
        rw [Array.getD_eq_getD_getElem?, hx] at h1
        simp [undef] at h1
      | some u =>
        rw [Array.getD_eq_getD_getElem?, hx] at h1
        simpa using h1
    rw [this]

theorem g_yes {dst : Option Tmp} {j : Nat} {b : Bool} (hg : gv ops l j = some (.bool b)) (k : OpsJ P ops Q N D l w (⟨dst, op, ty, pos, aft, none⟩ :: rest)) : OpsJ P ops Q N D l w (⟨dst, op, ty, pos, aft, some (j, b)⟩ :: rest) := fun a ha => by
  have h := k a ha
  have hw1 : Region.wanted ⟨dst, op, ty, pos, aft, none⟩ (yielded ops a.tmps) = true := rfl
  have hw2 : Region.wanted ⟨dst, op, ty, pos, aft, some (j, b)⟩ (yielded ops a.tmps) = true := by simp [Region.wanted, yielded_of ha hg]
  unfold wpList at h ⊢
  rw [if_pos hw1] at h
  rw [if_pos hw2]
  exact h
theorem g_no {j : Nat} {b b' : Bool} (hd : Nat.blt d N = true) (hg : gv ops l j = some (.bool b')) (hb : b' = !b) (k : OpsJ P ops Q N D ((d, undef) :: l) w rest) : OpsJ P ops Q N D l w (⟨some d, op, ty, pos, aft, some (j, b)⟩ :: rest) := fun a ha => by
  have hw2 : Region.wanted ⟨some d, op, ty, pos, aft, some (j, b)⟩ (yielded ops a.tmps) = false := by
    subst hb; simp [Region.wanted, yielded_of ha hg]
  unfold wpList
  rw [if_neg (by rw [hw2]; simp)]
  exact k _ (ha.put hd undef)
/-- The guard's own operation was passed over. -/
theorem g_undef {j : Nat} {b : Bool} {t : Tmp} (hd : Nat.blt d N = true) (ht : (ops[j]?).bind (·.dst) = some t) (hg : lk l t = some undef) (k : OpsJ P ops Q N D ((d, undef) :: l) w rest) : OpsJ P ops Q N D l w (⟨some d, op, ty, pos, aft, some (j, b)⟩ :: rest) := fun a ha => by
  have h1 := ha.at_ t _ hg
  have hw2 : Region.wanted ⟨some d, op, ty, pos, aft, some (j, b)⟩ (yielded ops a.tmps) = false := by
    have : yielded ops a.tmps j = none := by
      unfold yielded
      rw [ht, Option.bind_some]
      cases hx : a.tmps[t]? with
      | none => rfl
      | some u =>
        rw [Array.getD_eq_getD_getElem?, hx] at h1
        simp only [Option.getD_some] at h1
        subst h1
        rfl
    simp [Region.wanted, this]
  unfold wpList
  rw [if_neg (by rw [hw2]; simp)]
  exact k _ (ha.put hd undef)

theorem o_move {x : Operand} {v : Value} (hx : ev l x = some v) (hd : Nat.blt d N = true) (k : OpsJ P ops Q N D ((d, v) :: l) w rest) : OpsJ P ops Q N D l w (⟨some d, .move x, ty, pos, aft, none⟩ :: rest) :=
  o_run hd (fun ρ hρ => by show Result.ok (Next.value (ρ x)) w = _; rw [hρ x v hx]) k
theorem o_assign {x : Operand} {v : Value} (hx : ev l x = some v) (hd : Nat.blt d N = true) (k : OpsJ P ops Q N D ((d, v) :: l) w rest) : OpsJ P ops Q N D l w (⟨some d, .assign x, ty, pos, aft, none⟩ :: rest) :=
  o_run hd (fun ρ hρ => by show Result.ok (Next.value (ρ x)) w = _; rw [hρ x v hx]) k
theorem o_pick {c x y : Operand} {b : Bool} {u v : Value} (hc : ev l c = some (.bool b)) (hx : b = true → ev l x = some u) (hy : b = false → ev l y = some v) (hd : Nat.blt d N = true)
    (k : OpsJ P ops Q N D ((d, if b then u else v) :: l) w rest) : OpsJ P ops Q N D l w (⟨some d, .pick c x y, ty, pos, aft, none⟩ :: rest) :=
  o_run hd (fun ρ hρ => by
    simp only [execOp, hρ c _ hc]
    cases b with
    | true => simp [asBool, hρ x _ (hx rfl)]
    | false => simp [asBool, hρ y _ (hy rfl)]) k
theorem o_pick_t {c x y : Operand} {u : Value} (hc : ev l c = some (.bool true)) (hx : ev l x = some u) (hd : Nat.blt d N = true)
    (k : OpsJ P ops Q N D ((d, u) :: l) w rest) : OpsJ P ops Q N D l w (⟨some d, .pick c x y, ty, pos, aft, none⟩ :: rest) :=
  o_run hd (fun ρ hρ => by simp [execOp, hρ c _ hc, asBool, hρ x _ hx]) k
theorem o_pick_f {c x y : Operand} {v : Value} (hc : ev l c = some (.bool false)) (hy : ev l y = some v) (hd : Nat.blt d N = true)
    (k : OpsJ P ops Q N D ((d, v) :: l) w rest) : OpsJ P ops Q N D l w (⟨some d, .pick c x y, ty, pos, aft, none⟩ :: rest) :=
  o_run hd (fun ρ hρ => by simp [execOp, hρ c _ hc, asBool, hρ y _ hy]) k

/-- The run of a binary operator on two values. -/
def bin (op : BinOp) (t : TypeId) (x y : Operand) (a b : Value) : Sem Value := do eqGuard op t x y a b; binOp op t a b
theorem o_bin {b : BinOp} {t t2 : TypeId} {x y : Operand} {u v r : Value} (hx : ev l x = some u) (hy : ev l y = some v) (hd : Nat.blt d N = true) (hrun : (bin b t x y u v).run P w = .ok r w)
    (k : OpsJ P ops Q N D ((d, r) :: l) w rest) : OpsJ P ops Q N D l w (⟨some d, .binOp b t x y t2, ty, pos, aft, none⟩ :: rest) :=
  o_run hd (fun ρ hρ => by
    have : execOp ρ ⟨some d, .binOp b t x y t2, ty, pos, aft, none⟩ = (do pure (Next.value (← bin b t x y (ρ x) (ρ y))) : Sem Next) := rfl
    rw [this, hρ x _ hx, hρ y _ hy, Sem.run_bind, hrun]; rfl) k
/-- An operation on one value. -/
theorem o_un {x : Operand} {u r : Value} {f : Value → Sem Value} (he : ∀ ρ, execOp ρ ⟨some d, op, ty, pos, aft, none⟩ = (do pure (Next.value (← f (ρ x))) : Sem Next)) (hx : ev l x = some u) (hd : Nat.blt d N = true) (hrun : (f u).run P w = .ok r w')
    (k : OpsJ P ops Q N D ((d, r) :: l) w' rest) : OpsJ P ops Q N D l w (⟨some d, op, ty, pos, aft, none⟩ :: rest) :=
  o_run hd (fun ρ hρ => by rw [he, hρ x _ hx, Sem.run_bind, hrun]; rfl) k
theorem o_not {t : TypeId} {x : Operand} {u r : Value} {b : UnOp} (hx : ev l x = some u) (hd : Nat.blt d N = true) (hrun : (Op.unary b u).run P w = .ok r w)
    (k : OpsJ P ops Q N D ((d, r) :: l) w rest) : OpsJ P ops Q N D l w (⟨some d, .unOp b t x, ty, pos, aft, none⟩ :: rest) := o_un (f := Op.unary b) (fun _ => rfl) hx hd hrun k
theorem o_conv {s t : TypeId} {x : Operand} {u r : Value} (hx : ev l x = some u) (hd : Nat.blt d N = true) (hrun : (convert s t u).run P w = .ok r w')
    (k : OpsJ P ops Q N D ((d, r) :: l) w' rest) : OpsJ P ops Q N D l w (⟨some d, .convert s t x, ty, pos, aft, none⟩ :: rest) := o_un (f := convert s t) (fun _ => rfl) hx hd hrun k
theorem o_load {t : TypeId} {x : Operand} {u r : Value} (hx : ev l x = some u) (hd : Nat.blt d N = true) (hrun : (Instr.loadAt t u).run P w = .ok r w)
    (k : OpsJ P ops Q N D ((d, r) :: l) w rest) : OpsJ P ops Q N D l w (⟨some d, .load t x, ty, pos, aft, none⟩ :: rest) := o_un (f := Instr.loadAt t) (fun _ => rfl) hx hd hrun k
theorem o_store {t : TypeId} {x y : Operand} {u v : Value} (hx : ev l x = some u) (hy : ev l y = some v) (hrun : (Instr.storeAt t u v).run P w = .ok () w')
    (k : OpsJ P ops Q N D l w' rest) : OpsJ P ops Q N D l w (⟨none, .store t x y, ty, pos, aft, none⟩ :: rest) :=
  o_act (fun ρ hρ => by
    have : execOp ρ ⟨none, .store t x y, ty, pos, aft, none⟩ = (do Instr.storeAt t (ρ x) (ρ y); pure Next.skip : Sem Next) := rfl
    rw [this, hρ x _ hx, hρ y _ hy, Sem.run_bind, hrun]; rfl) k
theorem o_fieldAddr {s : TypeId} {x : Operand} {n : Nat} {u r : Value} (hx : ev l x = some u) (hd : Nat.blt d N = true) (hrun : (Instr.fieldAt s u n).run P w = .ok r w)
    (k : OpsJ P ops Q N D ((d, r) :: l) w rest) : OpsJ P ops Q N D l w (⟨some d, .fieldAddr s x n, ty, pos, aft, none⟩ :: rest) := o_un (f := fun u => Instr.fieldAt s u n) (fun _ => rfl) hx hd hrun k
theorem o_field {s : TypeId} {x : Operand} {n : Nat} {u r : Value} (hx : ev l x = some u) (hd : Nat.blt d N = true) (hrun : (Instr.field s u n).run P w = .ok r w)
    (k : OpsJ P ops Q N D ((d, r) :: l) w rest) : OpsJ P ops Q N D l w (⟨some d, .field s x n, ty, pos, aft, none⟩ :: rest) := o_un (f := fun u => Instr.field s u n) (fun _ => rfl) hx hd hrun k
theorem o_extract {x : Operand} {n : Nat} {u r : Value} (hx : ev l x = some u) (hd : Nat.blt d N = true) (hrun : (Instr.extract u n).run P w = .ok r w)
    (k : OpsJ P ops Q N D ((d, r) :: l) w rest) : OpsJ P ops Q N D l w (⟨some d, .extract x n, ty, pos, aft, none⟩ :: rest) := o_un (f := fun u => Instr.extract u n) (fun _ => rfl) hx hd hrun k
theorem o_box {t : TypeId} {x : Operand} {u r : Value} (hx : ev l x = some u) (hd : Nat.blt d N = true) (hrun : (Instr.box t u).run P w = .ok r w')
    (k : OpsJ P ops Q N D ((d, r) :: l) w' rest) : OpsJ P ops Q N D l w (⟨some d, .box t x, ty, pos, aft, none⟩ :: rest) := o_un (f := Instr.box t) (fun _ => rfl) hx hd hrun k
theorem o_toArray {t : TypeId} {x : Operand} {u r : Value} (hx : ev l x = some u) (hd : Nat.blt d N = true) (hrun : (Instr.arrayAt t u).run P w = .ok r w')
    (k : OpsJ P ops Q N D ((d, r) :: l) w' rest) : OpsJ P ops Q N D l w (⟨some d, .sliceToArrayPointer t x, ty, pos, aft, none⟩ :: rest) := o_un (f := Instr.arrayAt t) (fun _ => rfl) hx hd hrun k
theorem o_alloc {t : TypeId} {r : Value} (hd : Nat.blt d N = true) (hrun : (Instr.alloc t true (.tuple #[])).run P w = .ok r w')
    (k : OpsJ P ops Q N D ((d, r) :: l) w' rest) : OpsJ P ops Q N D l w (⟨some d, .alloc t, ty, pos, aft, none⟩ :: rest) :=
  o_run hd (fun ρ _ => by
    have : execOp ρ ⟨some d, .alloc t, ty, pos, aft, none⟩ = (do pure (Next.value (← Instr.alloc t true (.tuple #[]))) : Sem Next) := rfl
    rw [this, Sem.run_bind, hrun]; rfl) k
theorem o_indexAddr {t : TypeId} {x y : Operand} {u v r : Value} (hx : ev l x = some u) (hy : ev l y = some v) (hd : Nat.blt d N = true) (hrun : (Instr.indexAt t u v).run P w = .ok r w)
    (k : OpsJ P ops Q N D ((d, r) :: l) w rest) : OpsJ P ops Q N D l w (⟨some d, .indexAddr t x y, ty, pos, aft, none⟩ :: rest) :=
  o_run hd (fun ρ hρ => by
    have : execOp ρ ⟨some d, .indexAddr t x y, ty, pos, aft, none⟩ = (do pure (Next.value (← Instr.indexAt t (ρ x) (ρ y))) : Sem Next) := rfl
    rw [this, hρ x _ hx, hρ y _ hy, Sem.run_bind, hrun]; rfl) k
theorem o_index {t : TypeId} {x y : Operand} {u v r : Value} (hx : ev l x = some u) (hy : ev l y = some v) (hd : Nat.blt d N = true) (hrun : (Instr.index t u v).run P w = .ok r w)
    (k : OpsJ P ops Q N D ((d, r) :: l) w rest) : OpsJ P ops Q N D l w (⟨some d, .index t x y, ty, pos, aft, none⟩ :: rest) :=
  o_run hd (fun ρ hρ => by
    have : execOp ρ ⟨some d, .index t x y, ty, pos, aft, none⟩ = (do pure (Next.value (← Instr.index t (ρ x) (ρ y))) : Sem Next) := rfl
    rw [this, hρ x _ hx, hρ y _ hy, Sem.run_bind, hrun]; rfl) k
theorem o_makeSlice {t : TypeId} {x y : Operand} {u v r : Value} (hx : ev l x = some u) (hy : ev l y = some v) (hd : Nat.blt d N = true) (hrun : (Instr.makeSlice t u v).run P w = .ok r w')
    (k : OpsJ P ops Q N D ((d, r) :: l) w' rest) : OpsJ P ops Q N D l w (⟨some d, .makeSlice t x y, ty, pos, aft, none⟩ :: rest) :=
  o_run hd (fun ρ hρ => by
    have : execOp ρ ⟨some d, .makeSlice t x y, ty, pos, aft, none⟩ = (do pure (Next.value (← Instr.makeSlice t (ρ x) (ρ y))) : Sem Next) := rfl
    rw [this, hρ x _ hx, hρ y _ hy, Sem.run_bind, hrun]; rfl) k

/-- The values of an optional operand. -/
def evo (l : Fr) : Option Operand → Option (Option Value)
  | none => some none
  | some x => (ev l x).map some
theorem evo_ok {ρ : Operand → Value} (hρ : Agree l ρ) : ∀ {x : Option Operand} {v : Option Value}, evo l x = some v → x.map ρ = v
  | none, v, h => by simpa [evo] using h
  | some x, v, h => by
    cases he : ev l x with
    | none => simp [evo, he] at h
    | some u =>
      simp only [evo, he, Option.map_some, Option.some.injEq] at h
      subst h
      simp [hρ x u he]
theorem o_slice {t : TypeId} {x : Operand} {lo hi mx : Option Operand} {u r : Value} {a b c : Option Value} (hx : ev l x = some u) (hlo : evo l lo = some a) (hhi : evo l hi = some b) (hmx : evo l mx = some c) (hd : Nat.blt d N = true)
    (hrun : (Instr.sliceAt t u a b c).run P w = .ok r w) (k : OpsJ P ops Q N D ((d, r) :: l) w rest) : OpsJ P ops Q N D l w (⟨some d, .slice t x lo hi mx, ty, pos, aft, none⟩ :: rest) :=
  o_run hd (fun ρ hρ => by
    have : execOp ρ ⟨some d, .slice t x lo hi mx, ty, pos, aft, none⟩ = (do pure (Next.value (← Instr.sliceAt t (ρ x) (lo.map ρ) (hi.map ρ) (mx.map ρ))) : Sem Next) := rfl
    rw [this, hρ x _ hx, evo_ok hρ hlo, evo_ok hρ hhi, evo_ok hρ hmx, Sem.run_bind, hrun]; rfl) k

/-- The values of a list of operands, of a list of parts. -/
def evs (l : Fr) : List Operand → Option (List Value)
  | [] => some []
  | x :: xs => match ev l x, evs l xs with | some v, some vs => some (v :: vs) | _, _ => none
theorem evs_ok {ρ : Operand → Value} (hρ : Agree l ρ) : ∀ {xs : List Operand} {vs : List Value}, evs l xs = some vs → xs.map ρ = vs
  | [], vs, h => by simpa [evs] using h
  | x :: xs, vs, h => by
    cases h1 : ev l x with
    | none => simp [evs, h1] at h
    | some v =>
      cases h2 : evs l xs with
      | none => simp [evs, h1, h2] at h
      | some vs' =>
        simp only [evs, h1, h2, Option.some.injEq] at h
        subst h
        simp [hρ x v h1, evs_ok hρ h2]
def evp (l : Fr) : List (Nat × Operand) → Option (List (Nat × Value))
  | [] => some []
  | (i, x) :: xs => match ev l x, evp l xs with | some v, some vs => some ((i, v) :: vs) | _, _ => none
theorem evp_ok {ρ : Operand → Value} (hρ : Agree l ρ) : ∀ {xs : List (Nat × Operand)} {vs : List (Nat × Value)}, evp l xs = some vs → xs.map (fun (i, x) => (i, ρ x)) = vs
  | [], vs, h => by simpa [evp] using h
  | (i, x) :: xs, vs, h => by
    cases h1 : ev l x with
    | none => simp [evp, h1] at h
    | some v =>
      cases h2 : evp l xs with
      | none => simp [evp, h1, h2] at h
      | some vs' =>
        simp only [evp, h1, h2, Option.some.injEq] at h
        subst h
        simp [hρ x v h1, evp_ok hρ h2]
theorem o_build {t : TypeId} {ps : List (Nat × Operand)} {vs : List (Nat × Value)} {r : Value} (hp : evp l ps = some vs) (hd : Nat.blt d N = true) (hrun : (Instr.build t vs.toArray).run P w = .ok r w)
    (k : OpsJ P ops Q N D ((d, r) :: l) w rest) : OpsJ P ops Q N D l w (⟨some d, .build t ps.toArray, ty, pos, aft, none⟩ :: rest) :=
  o_run hd (fun ρ hρ => by
    have : execOp ρ ⟨some d, .build t ps.toArray, ty, pos, aft, none⟩ = (do pure (Next.value (← Instr.build t (ps.toArray.map fun (i, x) => (i, ρ x)))) : Sem Next) := rfl
    rw [this, List.map_toArray, evp_ok hρ hp, Sem.run_bind, hrun]; rfl) k
theorem o_buildSlice {t : TypeId} {n : Nat} {ps : List (Nat × Operand)} {vs : List (Nat × Value)} {r : Value} (hp : evp l ps = some vs) (hd : Nat.blt d N = true) (hrun : (Instr.buildSlice t n vs.toArray).run P w = .ok r w')
    (k : OpsJ P ops Q N D ((d, r) :: l) w' rest) : OpsJ P ops Q N D l w (⟨some d, .buildSlice t n ps.toArray, ty, pos, aft, none⟩ :: rest) :=
  o_run hd (fun ρ hρ => by
    have : execOp ρ ⟨some d, .buildSlice t n ps.toArray, ty, pos, aft, none⟩ = (do pure (Next.value (← Instr.buildSlice t n (ps.toArray.map fun (i, x) => (i, ρ x)))) : Sem Next) := rfl
    rw [this, List.map_toArray, evp_ok hρ hp, Sem.run_bind, hrun]; rfl) k
theorem o_nilCheck {x : Operand} {a : Addr} (hx : ev l x = some (.pointer (some a))) (hd : Nat.blt d N = true) (k : OpsJ P ops Q N D ((d, .pointer (some a)) :: l) w rest) : OpsJ P ops Q N D l w (⟨some d, .nilCheck x, ty, pos, aft, none⟩ :: rest) :=
  o_run hd (fun ρ hρ => by simp [execOp, hρ x _ hx]) k

/-- A builtin that returns a value. -/
theorem o_append {xs : List Operand} {vs : List Value} {ts : Array TypeId} {r : Value} (hp : evs l xs = some vs) (hd : Nat.blt d N = true) (hrun : (Builtin.append_ ts ty vs.toArray).run P w = .ok r w')
    (k : OpsJ P ops Q N D ((d, r) :: l) w' rest) : OpsJ P ops Q N D l w (⟨some d, .call { callee := .builtin .append, args := xs.toArray, argTypes := ts }, ty, pos, aft, none⟩ :: rest) :=
  o_run hd (fun ρ hρ => by
    simp only [execOp, resolve, invoke, builtin, Sem.run_bind, Sem.run_pure, Result.andThen_ok, List.map_toArray, evs_ok hρ hp, hrun]) k
theorem o_len {xs : List Operand} {vs : List Value} {ts : Array TypeId} {r : Value} (hp : evs l xs = some vs) (hd : Nat.blt d N = true) (hrun : (Builtin.len_ ts ty vs.toArray).run P w = .ok r w)
    (k : OpsJ P ops Q N D ((d, r) :: l) w rest) : OpsJ P ops Q N D l w (⟨some d, .call { callee := .builtin .len, args := xs.toArray, argTypes := ts }, ty, pos, aft, none⟩ :: rest) :=
  o_run hd (fun ρ hρ => by
    simp only [execOp, resolve, invoke, builtin, Sem.run_bind, Sem.run_pure, Result.andThen_ok, List.map_toArray, evs_ok hρ hp, hrun]) k
theorem o_min {xs : List Operand} {vs : List Value} {ts : Array TypeId} {r : Value} (hp : evs l xs = some vs) (hd : Nat.blt d N = true) (hrun : (Builtin.min_ ts ty vs.toArray).run P w = .ok r w)
    (k : OpsJ P ops Q N D ((d, r) :: l) w rest) : OpsJ P ops Q N D l w (⟨some d, .call { callee := .builtin .min, args := xs.toArray, argTypes := ts }, ty, pos, aft, none⟩ :: rest) :=
  o_run hd (fun ρ hρ => by
    simp only [execOp, resolve, invoke, builtin, Sem.run_bind, Sem.run_pure, Result.andThen_ok, List.map_toArray, evs_ok hρ hp, hrun]) k
theorem o_max {xs : List Operand} {vs : List Value} {ts : Array TypeId} {r : Value} (hp : evs l xs = some vs) (hd : Nat.blt d N = true) (hrun : (Builtin.max_ ts ty vs.toArray).run P w = .ok r w)
    (k : OpsJ P ops Q N D ((d, r) :: l) w rest) : OpsJ P ops Q N D l w (⟨some d, .call { callee := .builtin .max, args := xs.toArray, argTypes := ts }, ty, pos, aft, none⟩ :: rest) :=
  o_run hd (fun ρ hρ => by
    simp only [execOp, resolve, invoke, builtin, Sem.run_bind, Sem.run_pure, Result.andThen_ok, List.map_toArray, evs_ok hρ hp, hrun]) k
theorem o_copy {xs : List Operand} {vs : List Value} {ts : Array TypeId} {r : Value} (hp : evs l xs = some vs) (hd : Nat.blt d N = true) (hrun : (Builtin.copy_ ts ty vs.toArray).run P w = .ok r w')
    (k : OpsJ P ops Q N D ((d, r) :: l) w' rest) : OpsJ P ops Q N D l w (⟨some d, .call { callee := .builtin .copy, args := xs.toArray, argTypes := ts }, ty, pos, aft, none⟩ :: rest) :=
  o_run hd (fun ρ hρ => by
    simp only [execOp, resolve, invoke, builtin, Sem.run_bind, Sem.run_pure, Result.andThen_ok, List.map_toArray, evs_ok hρ hp, hrun]) k

/-- A Go function that can be called. -/
def Callable (P : Program) (f : FuncId) : Prop := ∃ fn, P.funcs[f]? = some fn ∧ (fn.name == "runtime.NumGoroutine") = false ∧ fn.body.isNone = false
theorem run_callFunc {f : FuncId} (h : Callable P f) (args : Array Value) (w : World) : (callFunc f args).run P w = .ok (.enter f args) w := by
  obtain ⟨fn, h1, h2, h3⟩ := h
  have h2' : ¬ fn.name = "runtime.NumGoroutine" := by simpa using h2
  have h3' : ¬ fn.body = none := by intro h; simp [h] at h3
  unfold callFunc
  simp [Sem.run_bind, program, Sem.run, h1, h2', h3']

/-- It returns a value of which T holds. -/
def Ret (T : Value → World → Prop) : Ending → World → Prop := fun e w' => ∃ v, e = .returned v ∧ T v w'
theorem Ret.mono {P : Program} {f : FuncId} {args : Array Value} {w : World} {T T' : Value → World → Prop} (h : Calls P f args w (Ret T)) (hT : ∀ v w', T v w' → T' v w') : Calls P f args w (Ret T') :=
  Calls.mono h fun _ _ ⟨v, he, hv⟩ => ⟨v, he, hT _ _ hv⟩

theorem o_call {f : FuncId} {xs : List Operand} {vs : List Value} {ts : Array TypeId} {T : Value → World → Prop} (hf : Callable P f) (hp : evs l xs = some vs) (hd : Nat.blt d N = true) (hc : Calls P f vs.toArray w (Ret T))
    (k : ∀ v w', T v w' → OpsJ P ops Q N D ((d, v) :: l) w' rest) : OpsJ P ops Q N D l w (⟨some d, .call { callee := .value (.func f), args := xs.toArray, argTypes := ts }, ty, pos, aft, none⟩ :: rest) := fun a ha => by
  refine wpList_plain rfl fun K hK => ?_
  unfold Oper.wp
  have hr : (execOp a.eval ⟨some d, .call { callee := .value (.func f), args := xs.toArray, argTypes := ts }, ty, pos, aft, none⟩).run P w = .ok (.enter f vs.toArray) w := by
    have hρ : Agree l a.eval := fun x v hx => ha.ev hx
    simp only [execOp, resolve, List.map_toArray, evs_ok hρ hp, Act.eval, Deferred.ofValue, Sem.run_bind, Sem.run_pure, Result.andThen_ok, invoke, Array.append_empty, run_callFunc hf, Array.empty_append]
  rw [hr]
  refine hc.mono ?_
  rintro e w' ⟨v, rfl, hv⟩
  exact hK _ _ (k v w' hv _ (ha.put hd v))
/-- A call whose result nobody takes. -/
theorem o_callv {f : FuncId} {xs : List Operand} {vs : List Value} {ts : Array TypeId} {T : Value → World → Prop} (hf : Callable P f) (hp : evs l xs = some vs) (hc : Calls P f vs.toArray w (Ret T))
    (k : ∀ v w', T v w' → OpsJ P ops Q N D l w' rest) : OpsJ P ops Q N D l w (⟨none, .call { callee := .value (.func f), args := xs.toArray, argTypes := ts }, ty, pos, aft, none⟩ :: rest) := fun a ha => by
  refine wpList_plain rfl fun K hK => ?_
  unfold Oper.wp
  have hr : (execOp a.eval ⟨none, .call { callee := .value (.func f), args := xs.toArray, argTypes := ts }, ty, pos, aft, none⟩).run P w = .ok (.enter f vs.toArray) w := by
    have hρ : Agree l a.eval := fun x v hx => ha.ev hx
    simp only [execOp, resolve, List.map_toArray, evs_ok hρ hp, Act.eval, Deferred.ofValue, Sem.run_bind, Sem.run_pure, Result.andThen_ok, invoke, Array.append_empty, run_callFunc hf, Array.empty_append]
  rw [hr]
  refine hc.mono ?_
  rintro e w' ⟨v, rfl, hv⟩
  exact hK _ _ (k v w' hv _ ha)
end ops
end
end Go.Rl

/- Regions that draw their order, whose late operations are walked in a given order: quiet ones may be taken early. Conditions: each rule names its own. -/
import Derived.Test.YtaehfoogjjglcaaGreatAm4
import Derived.ChangeKeysEq
import Derived.Laws.StructEq
namespace Go.Rl
open Go.RowKit

section
variable {P : Program} {ops : Array Oper} {Env : World → Prop} {Rl : World → World → Prop} {mo : Bool} {Pn : List PanicEntry → World → Prop} {N : Nat}

def chainG (ops : Array Oper) (n : Nat) : Bool :=
  (List.range ops.size).all fun t => decide (t ≤ n) || (List.range t).any fun j => decide (n ≤ j) && Region.waitsFor .any ops t j
theorem tail_waitsG {n : Nat} {listed : Array Bool} (hs : Region.sinkB .any ops n = true) (hc : chainG ops n = true) (inv : HeadInv .any ops n listed) :
    ∀ (d i : Nat), n - i = d → i < n → listed.getD i true = false → ∀ t, n ≤ t → t ∉ Region.ready .any ops listed := by
  intro d
  induction d using Nat.strongRecOn with
  | _ d ih =>
    intro i hd hi hun t ht hr
    obtain ⟨_, ot, hot, hall⟩ := mem_ready.1 hr
    have htlt : t < ops.size := (Array.getElem?_eq_some_iff.1 hot).1
    by_cases htn : t = n
    · subst htn
      have h1 := List.all_eq_true.1 hs i (List.mem_range.2 hi)
      obtain ⟨j, hj, hj2⟩ := List.any_eq_true.1 h1
      simp only [Bool.and_eq_true, decide_eq_true_eq] at hj2
      obtain ⟨oj, hoj, e, he, hb, hon⟩ := Region.waitsFor_spec hj2.2
      have hjle : j ≤ t := by have := List.mem_range.1 hj; omega
      by_cases hjt : j = t
      · subst hjt
        have : oj = ot := Option.some.inj (hoj.symm.trans hot)
        subst this
        have h2 := hall e he hb
        rw [hon, getD_both hun] at h2
        cases h2
      · cases hl : listed.getD j false with
        | true =>
          have h2 := inv.closed j oj hoj hl e he hb
          rw [hon, getD_both hun] at h2
          cases h2
        | false =>
          have hjs : j < listed.size := by rw [inv.size]; omega
          exact ih (t - j) (by omega) j rfl (by omega) (getD_in hjs hl) t (Nat.le_refl _) hr
    · have h1 := List.all_eq_true.1 hc t (List.mem_range.2 htlt)
      simp only [Bool.or_eq_true, decide_eq_true_eq] at h1
      rcases h1 with h1 | h1
      · omega
      · obtain ⟨j, hj, hj2⟩ := List.any_eq_true.1 h1
        simp only [Bool.and_eq_true, decide_eq_true_eq] at hj2
        have hjt := List.mem_range.1 hj
        obtain ⟨o', ho', e, he, hb, hon⟩ := Region.waitsFor_spec hj2.2
        have : o' = ot := Option.some.inj (ho'.symm.trans hot)
        subst this
        have h2 := hall e he hb
        rw [hon, getD_both (inv.tail j hj2.1 (by omega))] at h2
        cases h2

/-- Operations whose value is theirs alone. -/
def quietB (o : Oper) : Bool := o.guard.isNone && o.dst.isSome && match o.op with | .extract .. | .move _ | .assign _ => true | _ => false
theorem quiet_run {o : Oper} (h : quietB o = true) (ρ : Operand → Value) : (∃ v, ∀ w, (execOp ρ o).run P w = .ok (.value v) w) ∨ ∃ x, (∀ v, x ≠ .panic v) ∧ ∀ w, (execOp ρ o).run P w = .halt x w := by
  obtain ⟨dst, op, ty, pos, aft, g⟩ := o
  unfold quietB at h
  simp only [Bool.and_eq_true] at h
  have h2 := h.2
  cases op <;> simp only [] at h2
  case move x => exact .inl ⟨ρ x, fun w => by simp [execOp]⟩
  case assign x => exact .inl ⟨ρ x, fun w => by simp [execOp]⟩
  case extract x n =>
    have e : execOp ρ ⟨dst, .extract x n, ty, pos, aft, g⟩ = (do pure (Next.value (← Instr.extract (ρ x) n)) : Sem Next) := rfl
    rw [e]
    cases hx : ρ x with
    | tuple vs =>
      cases hv : vs[n]? with
      | some v => exact .inl ⟨v, fun w => by simp [Instr.extract, hv]⟩
      | none => exact .inr ⟨.stuck "Extract: no such component", fun v => by simp, fun w => by simp [Instr.extract, hv, stuck, Sem.run]⟩
    | _ => exact .inr ⟨.stuck "Extract: tuple expected", fun v => by simp, fun w => by simp [Instr.extract, stuck, Sem.run]⟩
  all_goals cases h2

def okPerm (ops : Array Oper) : List Nat → Array Bool → Bool
  | [], listed => (Region.ready .any ops listed).isEmpty
  | i :: rest, listed => (decide (Region.ready .any ops listed = [i]) || ((match ops[i]? with | some o => quietB o | none => false) && Region.free .any ops listed i && (Region.ready .any ops listed).contains i)) && okPerm ops rest (listed.setIfInBounds i true)
theorem wpAny_of_perm {Q : Post} (hsel : Region.noSelect ops = true) : ∀ (perm : List Nat) (os : List Oper) (listed : Array Bool) (a : Act) (w : World), (perm.map fun i => ops[i]?) = os.map some → okPerm ops perm listed = true → wpList P ops (calm Q) os a w → wpAny P .any ops (calm Q) perm.length listed a w
  | [], os, listed, a, w, ho, hB, h => by
    have : os = [] := by cases os with | nil => rfl | cons o os => simp at ho
    subst this
    exact ⟨by simpa [okPerm] using hB, h⟩
  | i :: perm, os, listed, a, w, ho, hB, h => by
    cases os with
    | nil => simp at ho
    | cons o os =>
      simp only [List.map_cons, List.cons.injEq] at ho
      obtain ⟨h0, ho⟩ := ho
      simp only [okPerm, Bool.and_eq_true, Bool.or_eq_true, decide_eq_true_eq] at hB
      obtain ⟨hB1, hB2⟩ := hB
      have nolet : ¬ LetsOut (calm Q) := fun ⟨_, _, hq⟩ => by obtain ⟨hq, _⟩ := hq; cases hq
      rcases hB1 with hr | ⟨⟨hq, hf⟩, hr⟩
      · refine ⟨fun h1 => (by rw [hr] at h1; cases h1), fun k hk => ?_⟩
        rw [hr] at hk
        have hik : k = i := by simpa using hk
        subst hik
        have hw : wpOp P ops (calm Q) k (wpList P ops (calm Q) os) a w := by unfold wpOp; simp only [h0]; exact h
        exact wpOp_mono (fun a' w' h' => wpAny_of_perm hsel perm os _ a' w' ho hB2 h') hw
      · rw [h0] at hq
        have hq : quietB o = true := hq
        have hwant : Region.wanted o (yielded ops a.tmps) = true := by
          unfold quietB at hq
          simp only [Bool.and_eq_true, Option.isNone_iff_eq_none] at hq
          unfold Region.wanted
          rw [hq.1.1]
        unfold wpList at h
        rw [if_pos hwant] at h
        have h := h.resolve_right fun h => nolet h.2
        unfold Oper.wp at h
        rcases quiet_run (P := P) hq a.eval with ⟨v, hv⟩ | ⟨x, hx, hv⟩
        · rw [hv w] at h
          exact wpAny_take h0 hsel hf hr (fun c a w hp => by obtain ⟨hp, _⟩ := hp; cases hp) (.inl ⟨hwant, hv⟩) (wpAny_of_perm hsel perm os _ _ w ho hB2 h)
        · rw [hv w] at h
          cases x <;> first | exact absurd rfl (hx _) | exact h.elim

theorem wpAnyF_firstG {n i : Nat} {oi : Oper} {S : Fact} {L : Array Bool → Facts → Zst → Prop} (hi : ops[i]? = some oi) (hcalls : mo = true → callsB .any ops = true)
    (hs : Region.sinkB .any ops n = true) (hc : chainG ops n = true) (hin : i < n)
    (hdone : ∀ listed F Z, L listed F Z → ∀ j ∈ Region.ready .any ops listed, n ≤ j) :
    ∀ (f : Nat) (listed : Array Bool) (F : Facts) (Z Z' : Zst), HeadInv .any ops n listed →
      (∀ j oj, ops[j]? = some oj → j ≠ i → listed.getD j true = false → (∀ e ∈ oj.after, Region.binds .any e = true → e.on ≠ i) → oi.apart ops oj = true) →
      i ∈ Region.ready .any ops listed → GStep P ops Env Rl mo Pn N F Z oi S Z' →
      wpAnyF P .any ops Env Rl mo Pn N n L f (listed.setIfInBounds i true) (upd F oi.dst S) Z' → wpAnyF P .any ops Env Rl mo Pn N n L (f + 1) listed F Z :=
  wpAnyF_firstT hi hcalls hin (fun _ inv hun t ht => tail_waitsG hs hc inv _ i rfl hin hun t ht) hdone

def permHead (ops : Array Oper) (n : Nat) (perm : List Nat) : Nat → Nat → Array Bool → Bool
  | 0, _, listed => okPerm ops perm listed && (Region.ready .any ops listed).all fun j => decide (n ≤ j)
  | f + 1, k, listed => (Region.ready .any ops listed).contains k && Region.free .any ops listed k && permHead ops n perm f (k + 1) (listed.setIfInBounds k true)
theorem wpAnyF_lexG {n : Nat} {perm : List Nat} {Lq : Facts → Zst → Prop} (hcalls : mo = true → callsB .any ops = true) (hs : Region.sinkB .any ops n = true) (hc : chainG ops n = true) :
    ∀ (l : List Oper) (k : Nat) (listed : Array Bool) (F : Facts) (Z : Zst), (∀ j, j < l.length → l[j]? = ops[k + j]?) → k + l.length = n → HeadInv .any ops n listed →
    permHead ops n perm l.length k listed = true → (∀ t, StableR Rl (F t)) → StableZ Z → wpF P ops Env Rl mo Pn N l F Z Lq →
    wpAnyF P .any ops Env Rl mo Pn N n (fun listed' F' Z' => (okPerm ops perm listed' = true ∧ (Region.ready .any ops listed').all (fun j => decide (n ≤ j)) = true) ∧ Lq F' Z') l.length listed F Z
  | [], k, listed, F, Z, _, hk, _, hB, _, _, h => by
    simp only [List.length_nil, permHead, Bool.and_eq_true] at hB
    exact ⟨hB, h⟩
  | o :: l, k, listed, F, Z, hl, hk, inv, hB, hF, hZ, h => by
    have h0 : ops[k]? = some o := by simpa using (hl 0 (by simp)).symm
    simp only [List.length_cons, permHead, Bool.and_eq_true] at hB
    obtain ⟨⟨hr, hf⟩, hB'⟩ := hB
    have hkn : k < n := by simp only [List.length_cons] at hk; omega
    have hr' : k ∈ Region.ready .any ops listed := by simpa using hr
    obtain ⟨S, Z', hspec, hrest⟩ := h hF hZ
    exact wpAnyF_firstG h0 hcalls hs hc hkn (fun listed' F' Z' hL j hj => by simpa using List.all_eq_true.1 hL.1.2 j hj) l.length listed F Z Z' inv (Region.free_spec h0 hf) hr' hspec
      (wpAnyF_lexG hcalls hs hc l (k + 1) _ _ _ (fun j hj => by have := hl (j + 1) (by simp; omega); simpa [Nat.add_assoc, Nat.add_comm 1 j] using this) (by simp only [List.length_cons] at hk; omega) (inv.set hr' hkn) hB' (stable_upd hF hspec.stable) (hspec.zst hZ) hrest)
/-- n head operations, then perm. -/
def growB (ops : Array Oper) (n : Nat) (perm : List Nat) : Bool :=
  Region.noSelect ops && decide (n < ops.size) && Region.sinkB .any ops n && chainG ops n && decide (n + perm.length = ops.size) && permHead ops n perm n 0 (Array.replicate ops.size false)
def pick (os : List Oper) : List Nat → List Oper
  | [] => []
  | i :: is => match os[i]? with | some o => o :: pick os is | none => pick os is

theorem wp_any_growP {Q : Post} {a : Act} {D : List Deferred} {F : Facts} {Z : Zst} {w : World} {l : List Oper} {n : Nat} {perm : List Nat} (hE : EnvOk Env Rl) (hP : ∀ c w, ¬ Pn c w) (hcalls : mo = true → callsB .any l.toArray = true) (hB : growB l.toArray n perm = true) (hp : (perm.all fun i => decide (i < l.length)) = true)
    (hF : ∀ t, StableR Rl (F t)) (hZ : StableZ Z) (hz : Z w) (he : Env w) (hsat : Sat N D F a { w with drawn := w.drawn + 1 })
    (h : wpF P l.toArray Env Rl mo Pn N (l.take n) F Z (fun F Z => ∀ a' w', Env w' → Sat N D F a' w' → Z w' → wpList P l.toArray (calm Q) (pick l perm) a' w')) : wpAny P .any l.toArray (calm Q) l.toArray.size (Array.replicate l.toArray.size false) a { w with drawn := w.drawn + 1 } := by
  have hdr : Ext w { w with drawn := w.drawn + 1 } := ⟨rfl, rfl, rfl, Nat.le_refl _, fun _ _ => rfl⟩
  simp only [growB, Bool.and_eq_true, decide_eq_true_eq] at hB
  obtain ⟨⟨⟨⟨⟨hsel, hn⟩, hs⟩, hc⟩, hlen⟩, hlex⟩ := hB
  have hn' : n < l.length := by simpa using hn
  have htl : (l.take n).length = n := by simp; omega
  have inv0 : HeadInv .any l.toArray n (Array.replicate l.toArray.size false) :=
    ⟨by simp, fun j oj _ hl => (by rw [getD_replicate_false] at hl; cases hl), fun t _ ht => getD_in (by simpa using ht) (getD_replicate_false _ _)⟩
  have H := wpAnyF_lexG (perm := perm) hcalls hs hc (l.take n) 0 _ _ _ (fun j hj => by
    have hj' : j < n := by rw [htl] at hj; exact hj
    simp [hj']) (by simpa using htl) inv0 (by rw [htl]; exact hlex) hF hZ h
  have hpick : ∀ (perm : List Nat), (perm.all fun i => decide (i < l.length)) = true → (perm.map fun i => l.toArray[i]?) = (pick l perm).map some := by
    intro perm
    induction perm with
    | nil => intro _; rfl
    | cons i is ih =>
      intro hp
      simp only [List.all_cons, Bool.and_eq_true, decide_eq_true_eq] at hp
      have e : l[i]? = some l[i] := List.getElem?_eq_getElem hp.1
      simp only [List.map_cons, pick, e, List.getElem?_toArray]
      rw [← ih hp.2]
      simp
  have := wpAny_of_facts (D := D) (Q' := calm Q) (g := perm.length) hE (fun c _ w _ h => absurd h (hP c w)) (fun listed F Z hL hF hZ a' w' he hsat hz => wpAny_of_perm hsel perm (pick l perm) listed a' w' (hpick perm hp) hL.1.1 (hL.2 a' w' he hsat hz)) _ _ _ _ H hF hZ a { w with drawn := w.drawn + 1 } (hE.keep _ _ he (hE.ext _ _ hdr)) hsat (hZ _ _ hz hdr)
  rw [htl, hlen] at this
  exact this
theorem sat_fr {D : List Deferred} {l : Fr} {a : Act} {w : World} (ha : At N D l a) : Sat N D (frF l) a w := ⟨ha.size, ha.defers, fun t => by
  show frF l t (a.tmps.getD t undef) _
  unfold frF
  cases hv : lk l t with
  | some v => exact ha.at_ t v hv
  | none => trivial⟩
theorem c_growPE {Q : Post} {D : List Deferred} {l : Fr} {w : World} {id : Nat} {os : List Oper} (n : Nat) (perm : List Nat) (ts : List Nat) (Env : World → Prop) (Rl : World → World → Prop) (mo : Bool) (Z : Zst) (hE : EnvOk Env Rl) (he : Env w) (hZ : StableZ Z) (hz : Z w) (hcalls : mo = true → callsB .any os.toArray = true) (hm : P.follows .mixedOrders = true) (hB : growB os.toArray n perm = true) (hp : (perm.all fun i => decide (i < os.length)) = true)
    (h : wpF P os.toArray Env Rl mo NoP N (os.take n) (frF l) Z (fun F Z => ∀ w', Env w' → Z w' → OpenJ F w' ts (fun l' => OpsJ P os.toArray (calm Q) N D l' w' (pick os perm)))) : CodeJ P Q N D l w (.region id os.toArray true) := fun a ha => by
  refine wp_mono (wp_region_any (Q := calm Q) hm (wp_any_growP (D := D) hE (fun _ _ h => h) hcalls hB hp (frF_stable l) hZ hz he (sat_fr ha) (wpF_mono _ _ _ (fun F Z hK a' w' he hs hz => ?_) h))) fun e a w he => by obtain ⟨rfl, h⟩ := he; exact h
  obtain ⟨l', hl', hk⟩ := OpenJ.use hs (hK w' he hz)
  exact hk a' hl'
theorem c_growP {Q : Post} {D : List Deferred} {l : Fr} {w : World} {id : Nat} {os : List Oper} (n : Nat) (perm : List Nat) (ts : List Nat) (hm : P.follows .mixedOrders = true) (hB : growB os.toArray n perm = true) (hp : (perm.all fun i => decide (i < os.length)) = true)
    (h : wpF P os.toArray (Ext w) Ext false NoP N (os.take n) (frF l) (fun _ => True) (fun F _ => ∀ w', Ext w w' → OpenJ F w' ts (fun l' => OpsJ P os.toArray (calm Q) N D l' w' (pick os perm)))) : CodeJ P Q N D l w (.region id os.toArray true) :=
  c_growPE n perm ts (Ext w) Ext false (fun _ => True) (EnvOk.plain w) (Ext.refl w) StableZ.triv trivial (fun h => by cases h) hm hB hp (wpF_mono _ _ _ (fun _ _ h w' he _ => h w' he) h)
theorem n_calm {Q : Post} {D : List Deferred} {l : Fr} {w : World} (h : NormJ Q N D l w) : NormJ (calm Q) N D l w := fun a ha => ⟨rfl, h a ha⟩
theorem noOut_calm {Q : Post} : ¬ LetsOut (calm Q) := fun ⟨_, _, hq⟩ => by
  obtain ⟨hq, _⟩ := hq
  cases hq
theorem I.c_held {Q : Post} {D : List Deferred} {l : Fr} {w : World} {rd : Option Nat} {id : Nat} {os : List Oper} (S : World → Prop) (n : Nat) (hn : os.toArray.size = n) (hm : P.follows .mixedOrders = true) (hd : noDefer os = true)
    (h : HeldJ P os.toArray Q N D S n (Array.replicate n false) l w.drew) : CodeI rd P Q N D l w (.region id os.toArray true) := fun a ha => by
  subst hn
  refine wpIn_mono (wpIn_region_draw (Q := calm Q) fun t => opsIn_of noOut_calm (.inr hd) _ _ _ ?_) fun e a w he => by obtain ⟨rfl, h⟩ := he; exact h
  simp only [Region.schedule, hm, Bool.true_or, if_true]
  exact wpAny_sound os.toArray.size t _ a _ (wpAny_of_held _ _ _ _ (h a ha))
end
end Go.Rl
/- Regions that draw their order and whose first operation, a quiet one, may be late: it is taken early. Conditions: each rule names its own. -/
namespace Go.Rl
open Go.RowKit

section
variable {P : Program} {ops : Array Oper} {Env : World → Prop} {Rl : World → World → Prop} {mo : Bool} {Pn : List PanicEntry → World → Prop} {N : Nat}
def sinkQ (ops : Array Oper) (n : Nat) : Bool :=
  (List.range n).all fun i => decide (i = 0) || (List.range (n + 1)).any fun j => decide (i < j) && Region.waitsFor .any ops j i
theorem tail_waitsQ {n : Nat} {listed : Array Bool} (hs : sinkQ ops n = true) (hc : chainG ops n = true) (inv : HeadInv .any ops n listed) :
    ∀ (d i : Nat), n - i = d → 0 < i → i < n → listed.getD i true = false → ∀ t, n ≤ t → t ∉ Region.ready .any ops listed := by
  intro d
  induction d using Nat.strongRecOn with
  | _ d ih =>
    intro i hd h0 hi hun t ht hr
    obtain ⟨_, ot, hot, hall⟩ := mem_ready.1 hr
    have htlt : t < ops.size := (Array.getElem?_eq_some_iff.1 hot).1
    by_cases htn : t = n
    · subst htn
      have h1 := List.all_eq_true.1 hs i (List.mem_range.2 hi)
      simp only [Bool.or_eq_true, decide_eq_true_eq] at h1
      obtain ⟨j, hj, hj2⟩ := List.any_eq_true.1 (h1.resolve_left (by omega))
      simp only [Bool.and_eq_true, decide_eq_true_eq] at hj2
      obtain ⟨oj, hoj, e, he, hb, hon⟩ := Region.waitsFor_spec hj2.2
      have hjle : j ≤ t := by have := List.mem_range.1 hj; omega
      by_cases hjt : j = t
      · subst hjt
        have : oj = ot := Option.some.inj (hoj.symm.trans hot)
        subst this
        have h2 := hall e he hb
        rw [hon, getD_both hun] at h2
        cases h2
      · cases hl : listed.getD j false with
        | true =>
          have h2 := inv.closed j oj hoj hl e he hb
          rw [hon, getD_both hun] at h2
          cases h2
        | false =>
          have hjs : j < listed.size := by rw [inv.size]; omega
          exact ih (t - j) (by omega) j rfl (by omega) (by omega) (getD_in hjs hl) t (Nat.le_refl _) hr
    · have h1 := List.all_eq_true.1 hc t (List.mem_range.2 htlt)
      simp only [Bool.or_eq_true, decide_eq_true_eq] at h1
      rcases h1 with h1 | h1
      · omega
      · obtain ⟨j, hj, hj2⟩ := List.any_eq_true.1 h1
        simp only [Bool.and_eq_true, decide_eq_true_eq] at hj2
        have hjt := List.mem_range.1 hj
        obtain ⟨o', ho', e, he, hb, hon⟩ := Region.waitsFor_spec hj2.2
        have : o' = ot := Option.some.inj (ho'.symm.trans hot)
        subst this
        have h2 := hall e he hb
        rw [hon, getD_both (inv.tail j hj2.1 (by omega))] at h2
        cases h2
theorem wpAnyF_firstQ {n i : Nat} {oi : Oper} {S : Fact} {L : Array Bool → Facts → Zst → Prop} (hi : ops[i]? = some oi) (hcalls : mo = true → callsB .any ops = true)
    (hs : sinkQ ops n = true) (hc : chainG ops n = true) (hi0 : 0 < i) (hin : i < n)
    (hdone : ∀ listed F Z, L listed F Z → ∀ j ∈ Region.ready .any ops listed, n ≤ j) :
    ∀ (f : Nat) (listed : Array Bool) (F : Facts) (Z Z' : Zst), HeadInv .any ops n listed →
      (∀ j oj, ops[j]? = some oj → j ≠ i → listed.getD j true = false → (∀ e ∈ oj.after, Region.binds .any e = true → e.on ≠ i) → oi.apart ops oj = true) →
      i ∈ Region.ready .any ops listed → GStep P ops Env Rl mo Pn N F Z oi S Z' →
      wpAnyF P .any ops Env Rl mo Pn N n L f (listed.setIfInBounds i true) (upd F oi.dst S) Z' → wpAnyF P .any ops Env Rl mo Pn N n L (f + 1) listed F Z :=
  wpAnyF_firstT hi hcalls hin (fun _ inv hun t ht => tail_waitsQ hs hc inv _ i rfl hi0 hin hun t ht) hdone
theorem wpAnyF_lexQ {n : Nat} {perm : List Nat} {Lq : Facts → Zst → Prop} (hcalls : mo = true → callsB .any ops = true) (hs : sinkQ ops n = true) (hc : chainG ops n = true) :
    ∀ (l : List Oper) (k : Nat) (listed : Array Bool) (F : Facts) (Z : Zst), 0 < k → (∀ j, j < l.length → l[j]? = ops[k + j]?) → k + l.length = n → HeadInv .any ops n listed →
    permHead ops n perm l.length k listed = true → (∀ t, StableR Rl (F t)) → StableZ Z → wpF P ops Env Rl mo Pn N l F Z Lq →
    wpAnyF P .any ops Env Rl mo Pn N n (fun listed' F' Z' => (okPerm ops perm listed' = true ∧ (Region.ready .any ops listed').all (fun j => decide (n ≤ j)) = true) ∧ Lq F' Z') l.length listed F Z
  | [], k, listed, F, Z, _, _, hk, _, hB, _, _, h => by
    simp only [List.length_nil, permHead, Bool.and_eq_true] at hB
    exact ⟨hB, h⟩
  | o :: l, k, listed, F, Z, hk0, hl, hk, inv, hB, hF, hZ, h => by
    have h0 : ops[k]? = some o := by simpa using (hl 0 (by simp)).symm
    simp only [List.length_cons, permHead, Bool.and_eq_true] at hB
    obtain ⟨⟨hr, hf⟩, hB'⟩ := hB
    have hkn : k < n := by simp only [List.length_cons] at hk; omega
    have hr' : k ∈ Region.ready .any ops listed := by simpa using hr
    obtain ⟨S, Z', hspec, hrest⟩ := h hF hZ
    exact wpAnyF_firstQ h0 hcalls hs hc hk0 hkn (fun listed' F' Z' hL j hj => by simpa using List.all_eq_true.1 hL.1.2 j hj) l.length listed F Z Z' inv (Region.free_spec h0 hf) hr' hspec
      (wpAnyF_lexQ hcalls hs hc l (k + 1) _ _ _ (by omega) (fun j hj => by have := hl (j + 1) (by simp; omega); simpa [Nat.add_assoc, Nat.add_comm 1 j] using this) (by simp only [List.length_cons] at hk; omega) (inv.set hr' hkn) hB' (stable_upd hF hspec.stable) (hspec.zst hZ) hrest)
/-- The first operation, then the others of the first n, then perm. -/
def growQ (ops : Array Oper) (n : Nat) (perm : List Nat) : Bool :=
  Region.noSelect ops && decide (0 < n) && decide (n < ops.size) && sinkQ ops n && chainG ops n && decide (n + perm.length = ops.size) && Region.free .any ops (Array.replicate ops.size false) 0 && (Region.ready .any ops (Array.replicate ops.size false)).contains 0 && permHead ops n perm (n - 1) 1 ((Array.replicate ops.size false).setIfInBounds 0 true)
theorem c_growQ {Q : Post} {D : List Deferred} {l : Fr} {w : World} {id d : Nat} {x : Operand} {v : Value} {ty : TypeId} {pos : String} {aft : Array Edge} {os : List Oper} (n : Nat) (perm : List Nat) (ts : List Nat) (hm : P.follows .mixedOrders = true)
    (hB : growQ ((⟨some d, .move x, ty, pos, aft, none⟩ : Oper) :: os).toArray n perm = true) (hp : (perm.all fun i => decide (i < os.length + 1)) = true) (hx : ev l x = some v) (hd : Nat.blt d N = true)
    (h : wpF P ((⟨some d, .move x, ty, pos, aft, none⟩ : Oper) :: os).toArray (Ext w) Ext false NoP N (os.take (n - 1)) (frF ((d, v) :: l)) (fun _ => True) (fun F _ => ∀ w', Ext w w' → OpenJ F w' ts (fun l' => OpsJ P ((⟨some d, .move x, ty, pos, aft, none⟩ : Oper) :: os).toArray (calm Q) N D l' w' (pick ((⟨some d, .move x, ty, pos, aft, none⟩ : Oper) :: os) perm)))) : CodeJ P Q N D l w (.region id ((⟨some d, .move x, ty, pos, aft, none⟩ : Oper) :: os).toArray true) := fun a ha => by
  obtain ⟨o, ho⟩ : ∃ o : Oper, o = ⟨some d, .move x, ty, pos, aft, none⟩ := ⟨_, rfl⟩
  rw [← ho] at hB h ⊢
  have ha' := ha.put hd v
  have hsat : Sat N D (frF ((d, v) :: l)) (a.put (some d) v) { w with drawn := w.drawn + 1 } := ⟨ha'.size, ha'.defers, fun t => by
    show frF ((d, v) :: l) t ((a.put (some d) v).tmps.getD t undef) _
    unfold frF
    cases hv : lk ((d, v) :: l) t with
    | some v => exact ha'.at_ t v hv
    | none => trivial⟩
  simp only [growQ, Bool.and_eq_true, decide_eq_true_eq] at hB
  obtain ⟨⟨⟨⟨⟨⟨⟨⟨hsel, hn0⟩, hn⟩, hs⟩, hc⟩, hlen⟩, hf⟩, hr⟩, hlex⟩ := hB
  have hn' : n < os.length + 1 := by simpa using hn
  have htl : (os.take (n - 1)).length = n - 1 := by simp; omega
  have h00 : (o :: os).toArray[0]? = some o := by simp
  have inv0 : HeadInv .any (o :: os).toArray n (Array.replicate (o :: os).toArray.size false) :=
    ⟨by simp, fun j oj _ hl => (by rw [getD_replicate_false] at hl; cases hl), fun t _ ht => getD_in (by simpa using ht) (getD_replicate_false _ _)⟩
  have hr' : 0 ∈ Region.ready .any (o :: os).toArray (Array.replicate (o :: os).toArray.size false) := by simpa using hr
  have H := wpAnyF_lexQ (perm := perm) (fun h => by cases h) hs hc (os.take (n - 1)) 1 _ _ _ (by omega) (fun j hj => by
    have hj' : j < n - 1 := by rw [htl] at hj; exact hj
    simp [hj', Nat.add_comm 1 j]) (by rw [htl]; omega) (inv0.set hr' (by omega)) (by rw [htl]; exact hlex) (frF_stable _) StableZ.triv (wpF_mono _ _ _ (fun F Z hK a' w' he hs => by
      obtain ⟨l', hl', hk⟩ := OpenJ.use hs (hK w' he)
      exact hk a' hl' : ∀ F (Z : Zst), _ → (∀ a' w', Ext w w' → Sat N D F a' w' → wpList P (o :: os).toArray (calm Q) (pick (o :: os) perm) a' w')) h)
  have hpick : ∀ (perm : List Nat), (perm.all fun i => decide (i < (o :: os).length)) = true → (perm.map fun i => (o :: os).toArray[i]?) = (pick (o :: os) perm).map some := by
    intro perm
    induction perm with
    | nil => intro _; rfl
    | cons i is ih =>
      intro hp
      simp only [List.all_cons, Bool.and_eq_true, decide_eq_true_eq] at hp
      have e : (o :: os)[i]? = some (o :: os)[i] := List.getElem?_eq_getElem hp.1
      simp only [List.map_cons, pick, e, List.getElem?_toArray]
      rw [← ih hp.2]
      simp
  have rest := wpAny_of_facts (D := D) (Q' := calm Q) (g := perm.length) (EnvOk.plain w) (fun _ _ _ _ h => h.elim) (fun listed F Z hL hF hZ a' w' he hsat hz => wpAny_of_perm hsel perm (pick (o :: os) perm) listed a' w' (hpick perm (by simpa using hp)) hL.1.1 (hL.2 a' w' he hsat)) _ _ _ _ H (frF_stable _) StableZ.triv (a.put (some d) v) { w with drawn := w.drawn + 1 } ⟨rfl, rfl, rfl, Nat.le_refl _, fun _ _ => rfl⟩ hsat trivial
  rw [htl] at rest
  refine wp_mono (wp_region_any (Q := calm Q) hm ?_) fun e a w he => by obtain ⟨rfl, h⟩ := he; exact h
  have hsz : (o :: os).toArray.size = (n - 1 + perm.length) + 1 := by rw [← hlen]; omega
  rw [show wpAny P .any (o :: os).toArray (calm Q) (o :: os).toArray.size = wpAny P .any (o :: os).toArray (calm Q) ((n - 1 + perm.length) + 1) by rw [hsz]]
  have hval : (∀ w' : World, (execOp a.eval o).run P w' = .ok (.value v) w') := fun w' => by
    rw [ho]
    have hv : a.eval x = v := ha.ev hx
    simp [execOp, hv]
  have hdst : o.dst = some d := by rw [ho]
  exact wpAny_take h00 hsel hf hr (fun c a w hp => by obtain ⟨hp, _⟩ := hp; cases hp) (.inl ⟨by rw [ho]; rfl, hval⟩) (by rw [hdst]; exact rest)
end
end Go.Rl
/- The model's writer walked: count, ints, rats. Conditions: what is written is short. -/
namespace Go.Rl
open Go.RowKit Go.Proofs
theorem call_WCount : Callable Tryz.prog 21 := ⟨_, Tryz.func21, by kernel_rfl, rfl⟩
theorem call_WInts : Callable Tryz.prog 22 := ⟨_, Tryz.func22, by kernel_rfl, rfl⟩
theorem call_WRats : Callable Tryz.prog 23 := ⟨_, Tryz.func23, by kernel_rfl, rfl⟩
theorem size_writer : (Tryz.prog.info? 47).map (·.size) = some 1 := by kernel_rfl
/-- The writer at block g goes on: its bytes become l. -/
def WrE (base g : Nat) (l : List UInt8) (v : Value) (w : World) (w' : World) : Prop := ∃ v', WrAt 47 base g l v' w' ∧ WrStep g v w v' w'
theorem encI_len {n : Int} (h : i64 n) : 1 ≤ (encI n).length ∧ (encI n).length ≤ 10 := ⟨uv_pos _, uv_len (zig_lt h.1 h.2)⟩
theorem encN_pos (l : List UInt32) : 1 ≤ (encN l).length := by
  have := uv_pos l.length
  simp only [encN, List.length_append]
  omega
theorem encQ_len {q : RatD} (h1 : q.2.1.length ≤ 1073741824) (h2 : q.2.2.length ≤ 1073741824) : 1 ≤ (encQ q).length ∧ (encQ q).length ≤ 21 + 4 * q.2.1.length + 4 * q.2.2.length := by
  have a := encN_len q.2.1 (by omega)
  have b := encN_len q.2.2 (by omega)
  simp only [encQ, encR, List.length_append, List.length_cons, List.length_nil]
  omega
def lenQs : List RatD → Nat
  | [] => 0
  | q :: l => 21 + 4 * q.2.1.length + 4 * q.2.2.length + lenQs l
theorem lenQs_drop {l : List RatD} {i : Nat} (hi : i < l.length) : lenQs (l.drop i) = 21 + 4 * l[i].2.1.length + 4 * l[i].2.2.length + lenQs (l.drop (i + 1)) := by
  rw [List.drop_eq_getElem_cons hi]; rfl
theorem flatMap_snoc {α β : Type} {f : α → List β} {l : List α} {i : Nat} (hi : i < l.length) : (l.take (i + 1)).flatMap f = (l.take i).flatMap f ++ f l[i] := by
  rw [List.take_succ_eq_append_getElem hi, List.flatMap_append, List.flatMap_singleton]
theorem WCount_spec {w : World} {b g : Nat} {l : List UInt8} {n : Nat} {v : Value} (hW : WrAt 47 b g l v w) (h0 : b ≤ w.heap.size) (hl : l.length ≤ 35184372088832) (hn : n ≤ 9223372036854775807) :
    Calls Tryz.prog 21 #[.pointer (some ⟨g, 0, none⟩), I (n : Int)] w (Ret fun _ w' => WrE b g (l ++ uv n) v w w') := by
  refine enter (vs := [.pointer (some ⟨g, 0, none⟩), I (n : Int)]) Tryz.func21 rfl rfl rfl ?_
  have kg := hW.blk
  have hun : (UInt64.ofNat n).toNat = n := by rw [UInt64.toNat_ofNat']; omega
  refine c_growQ 7 [7, 8, 9] [4, 7, 10] (by kernel_rfl) (by kernel_rfl) rfl rfl rfl ?_
  refine f_move rfl rfl (f_nilCheck rfl rfl (f_load rfl rfl (fun w hw => r_load1 Tryz.underlying47 rfl (hw.cell_some kg.k0)) (f_move rfl rfl (f_conv rfl rfl (fun w hw => r_n_u64 Tryz.underlying3 Tryz.underlying64) ?_))))
  refine f_call (S := Bts (uv n)) call_AppendUint (Bts.stable _) rfl (fun w hw => by rintro _ rfl _ rfl; exact Ret.mono (AppendUint_spec (n := UInt64.ofNat n) (Bts.nil _) (by simp)) fun v w' h => ⟨h.1, by have := h.2.bts; rwa [hun, List.nil_append] at this⟩) ?_
  refine f_nil ?_
  intro wg0 xg0
  rintro _ rfl
  rintro _ hq7
  obtain rfl := Eq.symm hq7
  intro vg10 b10
  have hun2 := uv_pos n
  have hun3 := uv_len (n := n) (by omega)
  obtain ⟨v11, w11, w12, hr11, hs11, hW', st12⟩ := WrAt.put (ty := 47) Tryz.underlying47 size_writer Tryz.underlying28 (hW.ext xg0) (Nat.le_trans h0 xg0.size) b10 (by omega) (by omega)
  refine o_append rfl rfl hr11 ?_
  refine o_nilCheck rfl rfl (o_store rfl rfl (hs11) (o_nil (n_calm (n_body0 rfl ?_))))
  exact ⟨_, rfl, v11, hW', (WrStep.of_ext xg0).trans st12⟩
theorem WInts_spec {w : World} {b g : Nat} {l : List UInt8} {ns : List Int} {nv v : Value} (hW : WrAt 47 b g l v w) (h0 : b ≤ w.heap.size) (hv : RpX (WrX g v) w (dInts ns) [nv]) (hi64 : ∀ n ∈ ns, i64 n) (hl : l.length + 10 * ns.length ≤ 35184372088832) :
    Calls Tryz.prog 22 #[.pointer (some ⟨g, 0, none⟩), nv] w (Ret fun _ w' => WrE b g (l ++ ns.flatMap encI) v w w') := by
  refine enter (vs := [.pointer (some ⟨g, 0, none⟩), nv]) Tryz.func22 rfl rfl rfl ?_
  have hd : DsV dIn ns nv w := hv.rp
  have hll := hd.len
  refine c_seq (c_region (o_move rfl rfl (o_len rfl rfl (r_lenDs Tryz.underlying22 hd) (o_move rfl rfl (o_nil (n_then (c_block ?_)))))))
  refine c_loop2 (fun (i : Nat) (u : Value) => [(0, .pointer (some ⟨g, 0, none⟩)), (6, nv), (7, I (ns.length : Int)), (8, I (i : Int))]) (fun (i : Nat) (u : Value) w' => WrAt 47 b g (l ++ (ns.take i).flatMap encI) u w' ∧ WrStep g v w u w' ∧ i ≤ ns.length ∧ ((ns.take i).flatMap encI).length ≤ 10 * i) (fun (i : Nat) (u : Value) => ns.length - i) (0) (v) ⟨rfl, rfl, rfl, rfl, trivial⟩ ⟨by simpa using hW, WrStep.refl, by omega, by simp⟩ ?_
  rintro i u wL ⟨hW1, st1, hi, hle⟩
  refine c_seq (c_region (o_bin rfl rfl rfl (r_lss_i) (o_nil (n_then (c_seq ?_)))))
  refine c_if rfl (fun h9 => ?_) (fun h9 => ?_)
  · have hd1 : DsV dIn ns nv wL := (hv.step st1).rp
    refine c_skip (n_then (c_seq (c_block (c_seq (c_region ?_)))))
    obtain ⟨a10, c10, p10, q10, h10⟩ := r_ixDs (P := Tryz.prog) (sz := 1) Tryz.underlying22 (by kernel_rfl) dIn_size (by omega) hd1 (i := i) (by omega) .i64
    obtain ⟨e10, he10⟩ : ∃ e, e = ns[i]'(by omega) := ⟨_, rfl⟩
    rw [← he10] at h10
    obtain rfl := dIn_inv h10
    refine o_indexAddr rfl rfl rfl (p10 _) ?_
    have hn := hi64 e10 (by rw [he10]; exact List.getElem_mem _)
    have hen := encI_len hn
    refine o_load rfl rfl (r_load1 Tryz.underlying3 rfl q10.cell0) (o_assign rfl rfl (o_nil (n_then ?_)))
    have kg := hW1.blk
    refine c_growQ 6 [6, 7, 8] [0, 6, 7, 8, 12, 15, 17] (by kernel_rfl) (by kernel_rfl) rfl rfl rfl ?_
    refine f_move rfl rfl (f_nilCheck rfl rfl (f_load rfl rfl (fun w hw => r_load1 Tryz.underlying47 rfl (hw.cell_some kg.k0)) (f_move rfl rfl (f_call (S := Bts (encI e10)) call_AppendInt (Bts.stable _) rfl (fun w hw => by rintro _ rfl _ rfl; exact Ret.mono (AppendInt_spec (n := e10) (Bts.nil _) (by simp) hn.1 hn.2) fun v w' h => ⟨h.1, by have := h.2.bts; rwa [List.nil_append] at this⟩) ?_))))
    refine f_nil ?_
    intro wg3 xg3
    rintro _ rfl
    rintro _ hq6
    obtain rfl := Eq.symm hq6
    rintro _ rfl
    rintro _ rfl
    rintro _ rfl
    rintro _ hq15
    obtain rfl := Eq.symm hq15
    intro vg17 b17
    obtain ⟨v18, w18, w19, hr18, hs18, hW2, st19⟩ := WrAt.put (ty := 47) Tryz.underlying47 size_writer Tryz.underlying28 (hW1.ext xg3) (Nat.le_trans h0 (Nat.le_trans st1.mv.size xg3.size)) b17 (by omega) (by simp only [List.length_append]; omega)
    refine o_append rfl rfl hr18 ?_
    refine o_nilCheck rfl rfl (o_store rfl rfl (hs18) (o_nil (n_calm (n_block (n_then (c_region (o_bin (r := I ((i + 1 : Nat) : Int)) rfl rfl rfl (by have e : ((i + 1 : Nat) : Int) = (i : Int) + 1 := (by omega); rw [e]; exact r_add_i (by omega) (by omega)) ?_)))))))
    refine o_move rfl rfl (o_nil ?_)
    refine n_round2 (i + 1) (v18) ⟨rfl, rfl, rfl, rfl, trivial⟩ ⟨by rw [flatMap_snoc (by omega), ← he10, ← List.append_assoc]; exact hW2, (st1.trans (WrStep.of_ext xg3)).trans st19, by omega, by rw [flatMap_snoc (by omega), ← he10, List.length_append]; omega⟩ (by omega)
  · refine c_exit (x_then (x_then (x_here (n_body0 rfl ?_))))
    exact ⟨_, rfl, u, by rw [List.take_of_length_le (by omega)] at hW1; exact hW1, st1⟩
theorem WRats_spec {w : World} {b g : Nat} {l : List UInt8} {qs : List RatD} {qv v : Value} (hW : WrAt 47 b g l v w) (h0 : b ≤ w.heap.size) (hv : RpX (WrX g v) w (dRats qs) [qv]) (hs : small qs) (hl : l.length + lenQs qs ≤ 17592186044416) :
    Calls Tryz.prog 23 #[.pointer (some ⟨g, 0, none⟩), qv] w (Ret fun _ w' => WrE b g (l ++ encQs qs) v w w') := by
  refine enter (vs := [.pointer (some ⟨g, 0, none⟩), qv]) Tryz.func23 rfl rfl rfl ?_
  have hd : DsV dRat qs qv w := hv.rp
  have hll := hd.len
  refine c_seq (c_region (o_move rfl rfl (o_move rfl rfl (o_len rfl rfl (r_lenDs Tryz.underlying44 hd) (o_call call_WCount rfl rfl ((WCount_spec hW h0 (by omega) (by omega))) ?_)))))
  rintro v9 w9 ⟨v9, hW9, st9⟩
  have m9 := st9.mv
  have hd9 : DsV dRat qs qv w9 := (hv.step st9).rp
  refine o_nil (n_then (c_seq (c_region (o_move rfl rfl (o_len rfl rfl (r_lenDs Tryz.underlying44 hd9) (o_move rfl rfl (o_nil (n_then (c_block ?_)))))))))
  refine c_loop2 (fun (i : Nat) (u : Value) => [(0, .pointer (some ⟨g, 0, none⟩)), (10, qv), (11, I (qs.length : Int)), (12, I (i : Int))]) (fun (i : Nat) (u : Value) w' => WrAt 47 b g (l ++ uv qs.length ++ (qs.take i).flatMap encQ) u w' ∧ WrStep g v w u w' ∧ i ≤ qs.length ∧ ((qs.take i).flatMap encQ).length + lenQs (qs.drop i) ≤ lenQs qs) (fun (i : Nat) (u : Value) => qs.length - i) (0) (v9) ⟨rfl, rfl, rfl, rfl, trivial⟩ ⟨by simpa using hW9, st9, by omega, by simp⟩ ?_
  rintro i u wL ⟨hW1, st1, hi, hle⟩
  refine c_seq (c_region (o_bin rfl rfl rfl (r_lss_i) (o_nil (n_then (c_seq ?_)))))
  refine c_if rfl (fun h13 => ?_) (fun h13 => ?_)
  · have hd1 : DsV dRat qs qv wL := (hv.step st1).rp
    refine c_skip (n_then (c_seq (c_block (c_seq (c_region ?_)))))
    obtain ⟨a14, c14, p14, q14, h14⟩ := r_ixDs (P := Tryz.prog) (sz := 3) Tryz.underlying44 (by kernel_rfl) dRat_size (by omega) hd1 (i := i) (by omega) .i64
    obtain ⟨e14, he14⟩ : ∃ e, e = qs[i]'(by omega) := ⟨_, rfl⟩
    rw [← he14] at h14
    obtain ⟨x14_0, x14_1, rfl, f14_0, f14_1⟩ := dRat_inv h14
    refine o_indexAddr rfl rfl rfl (p14 _) ?_
    have hn := hs e14 (by rw [he14]; exact List.getElem_mem _)
    have hen := encQ_len hn.1 hn.2
    have hlq : lenQs (qs.drop i) = 21 + 4 * e14.2.1.length + 4 * e14.2.2.length + lenQs (qs.drop (i + 1)) := by rw [lenQs_drop (by omega), ← he14]
    refine o_load rfl rfl (q14.ld Tryz.underlying42 rfl (by kernel_rfl)) ?_
    obtain ⟨g5, w5, hr5, l5, x5, k5⟩ := r_allocB (P := Tryz.prog) (w := wL) (t := 42) (z := .agg #[B false, .slice none 0 0, .slice none 0 0]) (l := [B false, .slice none 0 0, .slice none 0 0]) (by kernel_rfl) rfl
    refine o_alloc rfl hr5 ?_
    obtain ⟨w3_3, s3_3, q3_3, k3_3⟩ := k5.stS (P := Tryz.prog) (t := 42) (m := [B e14.1, x14_0, x14_1]) rfl (by kernel_rfl) (Ones.cons rfl (Ones.cons f14_0.one (Ones.cons f14_1.one Ones.nil)))
    refine o_store rfl rfl s3_3 ?_
    have x3_3 := Ext.of_new (x5) q3_3 l5
    refine o_nil (n_then ?_)
    have hW1 := hW1.ext (x3_3)
    have st1 := st1.trans (WrStep.of_ext (x3_3))
    have kg := hW1.blk
    refine c_growQ 6 [6, 7, 8] [0, 10, 11, 12, 16, 19, 21] (by kernel_rfl) (by kernel_rfl) rfl rfl rfl ?_
    refine f_move rfl rfl (f_nilCheck rfl rfl (f_load rfl rfl (fun w hw => r_load1 Tryz.underlying47 rfl (hw.cell_some kg.k0)) (f_load rfl rfl (fun w hw => (k3_3.ext hw).ld Tryz.underlying42 rfl (by kernel_rfl)) ?_)))
    refine f_call (S := Bts (encQ e14)) call_AppendRat (Bts.stable _) rfl (fun w hw => by rintro _ rfl _ rfl; exact Ret.mono (AppendRat_spec (Bts.nil _) (RatV.mk ((f14_0.ext x3_3).ext hw) ((f14_1.ext x3_3).ext hw)) (by simp only [List.length_nil]; omega)) fun v w' h => ⟨h.1, by have := h.2.bts; rwa [List.nil_append] at this⟩) ?_
    refine f_nil ?_
    intro wg4 xg4
    rintro _ rfl
    rintro _ hq10
    obtain rfl := Eq.symm hq10
    rintro _ rfl
    rintro _ rfl
    rintro _ rfl
    rintro _ hq19
    obtain rfl := Eq.symm hq19
    intro vg21 b21
    have hun := uv_len (n := qs.length) (by omega)
    obtain ⟨v22, w22, w23, hr22, hs22, hW2, st23⟩ := WrAt.put (ty := 47) Tryz.underlying47 size_writer Tryz.underlying28 (hW1.ext xg4) (Nat.le_trans h0 (Nat.le_trans st1.mv.size xg4.size)) b21 (by omega) (by simp only [List.length_append]; omega)
    refine o_append rfl rfl hr22 ?_
    refine o_nilCheck rfl rfl (o_store rfl rfl (hs22) (o_nil (n_calm (n_block (n_then (c_region (o_bin (r := I ((i + 1 : Nat) : Int)) rfl rfl rfl (by have e : ((i + 1 : Nat) : Int) = (i : Int) + 1 := (by omega); rw [e]; exact r_add_i (by omega) (by omega)) ?_)))))))
    refine o_move rfl rfl (o_nil ?_)
    refine n_round2 (i + 1) (v22) ⟨rfl, rfl, rfl, rfl, trivial⟩ ⟨by rw [flatMap_snoc (by omega), ← he14, ← List.append_assoc]; exact hW2, (st1.trans (WrStep.of_ext xg4)).trans st23, by omega, by rw [flatMap_snoc (by omega), ← he14, List.length_append]; omega⟩ (by omega)
  · refine c_exit (x_then (x_then (x_here (n_body0 rfl ?_))))
    exact ⟨_, rfl, u, by rw [List.take_of_length_le (by omega), List.append_assoc] at hW1; exact hW1, st1⟩
end Go.Rl
/- Walks of the small functions of the digest, both sides. No condition. -/
namespace Go.Rl
open Go.RowKit Go.Proofs

theorem zero64 : (Tryz.prog.info? 95).map (·.zero) = some (some (.agg (List.replicate 64 (U32 0)).toArray)) := by kernel_rfl
theorem size64 : (Tryz.prog.info? 95).map (·.size) = some 64 := by kernel_rfl

theorem call_right : Callable Tryz.prog 96 := ⟨_, Tryz.func96, by kernel_rfl, rfl⟩
theorem call_constants : Callable Tryz.prog 97 := ⟨_, Tryz.func97, by kernel_rfl, rfl⟩
theorem right_spec {w : World} {x : UInt32} (n : Nat) (h0 : 0 < n) (h1 : n < 32) :
    Calls Tryz.prog 96 #[U32 x, I (n : Int)] w (Ret fun r w' => Ext w w' ∧ r = U32 (rotr x n)) := by
  refine enter (vs := [U32 x, I (n : Int)]) Tryz.func96 rfl rfl rfl ?_
  refine c_seq (c_region (o_assign rfl rfl (o_nil (n_then (c_seq ?_)))))
  have e : (32 : Int) - (n : Int) = ((32 - n : Nat) : Int) := by omega
  refine c_grow 8 [12] (by kernel_rfl) (by kernel_rfl) ?_
  refine f_move rfl rfl (f_move rfl rfl ?_)
  refine f_bin rfl rfl rfl (fun w _ => r_shr_u32 n h1) ?_
  refine f_move rfl rfl (f_move rfl rfl ?_)
  refine f_bin (r := I ((32 - n : Nat) : Int)) rfl rfl rfl (fun w _ => by rw [← e]; exact r_sub_i (by omega) (by omega)) ?_
  refine f_bin rfl rfl rfl (fun w _ => r_shl_u32 (32 - n) (by omega)) ?_
  refine f_bin rfl rfl rfl (fun w _ => r_or_u32) ?_
  refine f_nil ?_
  intro w' hw
  rintro _ rfl
  refine o_assign rfl rfl (o_nil (n_then (c_ret ?_)))
  refine r_body1 rfl rfl ?_
  exact ⟨_, rfl, hw, rfl⟩
theorem constants_spec (w : World) :
    Calls Tryz.prog 97 #[] w (Ret fun r w' => Ext w w' ∧ r = .agg (kc.map U32).toArray) := by
  refine enter (vs := []) Tryz.func97 rfl rfl rfl ?_
  refine c_seq (c_region (o_alloc rfl (r_alloc zero64) (o_nil (n_then (c_seq (c_region ?_))))))
  refine o_build rfl rfl (run_build _ _ _ (kc.map U32).toArray (by kernel_rfl)) ?_
  have hb := Blk.new (w := w) (T := 95) (.agg (List.replicate 64 (U32 0)).toArray) rfl
  refine o_store rfl rfl (r_stA hb rfl size64 (one_of _)) ?_
  refine o_nil (n_then (c_ret ?_))
  refine r_bodyc rfl rfl (hb.row _) Tryz.underlying95 rfl size64 ?_
  refine ⟨_, rfl, ?_, rfl⟩
  exact (Ext.new w _).of_grown (grownBy_setRow _ _ _) fun k hk => by
    obtain rfl := Option.some.inj hk
    exact Nat.le_refl _
theorem call_rright : Callable Tryz.prog 61 := ⟨_, Tryz.func61, by kernel_rfl, rfl⟩
theorem call_rconstants : Callable Tryz.prog 60 := ⟨_, Tryz.func60, by kernel_rfl, rfl⟩
theorem rright_spec {w : World} {x : UInt32} (n : Nat) (h0 : 0 < n) (h1 : n < 32) :
    Calls Tryz.prog 61 #[U32 x, I (n : Int)] w (Ret fun r w' => Ext w w' ∧ r = U32 (rotr x n)) := by
  refine enter (vs := [U32 x, I (n : Int)]) Tryz.func61 rfl rfl rfl ?_
  refine c_seq (c_region (o_assign rfl rfl (o_nil (n_then (c_seq ?_)))))
  have e : (32 : Int) - (n : Int) = ((32 - n : Nat) : Int) := by omega
  refine c_grow 8 [12] (by kernel_rfl) (by kernel_rfl) ?_
  refine f_move rfl rfl (f_move rfl rfl ?_)
  refine f_bin rfl rfl rfl (fun w _ => r_shr_u32 n h1) ?_
  refine f_move rfl rfl (f_move rfl rfl ?_)
  refine f_bin (r := I ((32 - n : Nat) : Int)) rfl rfl rfl (fun w _ => by rw [← e]; exact r_sub_i (by omega) (by omega)) ?_
  refine f_bin rfl rfl rfl (fun w _ => r_shl_u32 (32 - n) (by omega)) ?_
  refine f_bin rfl rfl rfl (fun w _ => r_or_u32) ?_
  refine f_nil ?_
  intro w' hw
  rintro _ rfl
  refine o_assign rfl rfl (o_nil (n_then (c_ret ?_)))
  refine r_body1 rfl rfl ?_
  exact ⟨_, rfl, hw, rfl⟩
theorem rconstants_spec (w : World) :
    Calls Tryz.prog 60 #[] w (Ret fun r w' => Ext w w' ∧ r = .agg (kc.map U32).toArray) := by
  refine enter (vs := []) Tryz.func60 rfl rfl rfl ?_
  refine c_seq (c_region (o_alloc rfl (r_alloc zero64) (o_nil (n_then (c_seq (c_region ?_))))))
  refine o_build rfl rfl (run_build _ _ _ (kc.map U32).toArray (by kernel_rfl)) ?_
  have hb := Blk.new (w := w) (T := 95) (.agg (List.replicate 64 (U32 0)).toArray) rfl
  refine o_store rfl rfl (r_stA hb rfl size64 (one_of _)) ?_
  refine o_nil (n_then (c_ret ?_))
  refine r_bodyc rfl rfl (hb.row _) Tryz.underlying95 rfl size64 ?_
  refine ⟨_, rfl, ?_, rfl⟩
  exact (Ext.new w _).of_grown (grownBy_setRow _ _ _) fun k hk => by
    obtain rfl := Option.some.inj hk
    exact Nat.le_refl _
end Go.Rl
/- Runs over the arrays of the digest, and plain facts on them. Conditions: each names its own. -/
namespace Go.Rl
open Go.RowKit Go.Proofs

theorem zero8 : (Tryz.prog.info? 66).map (·.zero) = some (some (.agg (List.replicate 8 (U32 0)).toArray)) := by kernel_rfl
theorem size8 : (Tryz.prog.info? 66).map (·.size) = some 8 := by kernel_rfl
section
variable {w : World} {g o : Nat} {T : TypeId}
theorem r_ix8 (i : Nat) (hi : i < 8) : (Instr.indexAt 66 (.pointer (some ⟨g, 0, none⟩)) (I (i : Int))).run Tryz.prog w = .ok (.pointer (some ⟨g, i, none⟩)) w := by
  have := r_ixA (P := Tryz.prog) (w := w) (g := g) (o := 0) Tryz.underlying66 size_u32 hi .i64
  rwa [Nat.zero_add] at this
theorem r_ix64 (i : Nat) (hi : i < 64) : (Instr.indexAt 95 (.pointer (some ⟨g, 0, none⟩)) (I (i : Int))).run Tryz.prog w = .ok (.pointer (some ⟨g, i, none⟩)) w := by
  have := r_ixA (P := Tryz.prog) (w := w) (g := g) (o := 0) Tryz.underlying95 size_u32 hi .i64
  rwa [Nat.zero_add] at this
theorem r_ldU {m : List UInt32} (h : Blk g T (m.map U32) w) (i : Nat) (hi : i < m.length) : (Instr.loadAt 65 (.pointer (some ⟨g, i, none⟩))).run Tryz.prog w = .ok (U32 (m.getD i 0)) w :=
  r_load1 Tryz.underlying65 rfl (h.cell (by simp [hi]))
theorem r_stU {m : List UInt32} {x : UInt32} (h : Blk g T (m.map U32) w) (i : Nat) (hi : i < m.length) : (Instr.storeAt 65 (.pointer (some ⟨g, i, none⟩)) (U32 x)).run Tryz.prog w = .ok () (w.setCell ⟨g, i, none⟩ (U32 x)) :=
  r_store1 size_u32 rfl h (by simpa using hi)
theorem Blk.setU {m : List UInt32} (h : Blk g T (m.map U32) w) (i : Nat) (x : UInt32) : Blk g T ((m.set i x).map U32) (w.setCell ⟨g, i, none⟩ (U32 x)) := by
  have := h.set i (U32 x)
  rwa [← List.map_set] at this
end
/-- The words so far, and zeros behind them. -/
def filled (l : List UInt32) : List UInt32 := l ++ List.replicate (64 - l.length) 0
theorem filled_len {l : List UInt32} (h : l.length ≤ 64) : (filled l).length = 64 := by simp [filled]; omega
theorem filled_get {l : List UInt32} {i : Nat} (h : i < l.length) : (filled l).getD i 0 = l.getD i 0 := by
  simp [filled, List.getD, List.getElem?_append_left h]
theorem filled_set {l : List UInt32} (x : UInt32) (h : l.length < 64) : (filled l).set l.length x = filled (l ++ [x]) := by
  unfold filled
  rw [List.set_append_right _ _ (Nat.le_refl _), Nat.sub_self]
  have : 64 - l.length = (64 - (l ++ [x]).length) + 1 := by simp; omega
  rw [this, List.replicate_succ, List.set_cons_zero, List.append_assoc]
  rfl
theorem words_snoc (b : List UInt8) (k : Nat) : words b (k + 1) = words b k ++ [word b k] := by simp [words, List.range_succ]
theorem words_len (b : List UInt8) (k : Nat) : (words b k).length = k := by simp [words]
/-- Sums of the first places. -/
def added (s v : List UInt32) (i : Nat) : List UInt32 := List.zipWith (· + ·) (s.take i) (v.take i) ++ s.drop i
theorem added_len {s v : List UInt32} (hs : s.length = 8) (hv : v.length = 8) {i : Nat} (hi : i ≤ 8) : (added s v i).length = 8 := by
  simp [added, hs, hv]; omega
theorem added_get {s v : List UInt32} (hs : s.length = 8) (hv : v.length = 8) {i : Nat} (hi : i < 8) : (added s v i).getD i 0 = s.getD i 0 := by
  have h : (List.zipWith (· + ·) (s.take i) (v.take i)).length = i := by simp [hs, hv]; omega
  simp only [added, List.getD_eq_getElem?_getD]
  rw [List.getElem?_append_right (by omega), h]
  simp
theorem added_set {s v : List UInt32} (hs : s.length = 8) (hv : v.length = 8) {i : Nat} (hi : i < 8) : (added s v i).set i (s.getD i 0 + v.getD i 0) = added s v (i + 1) := by
  have h : (List.zipWith (· + ·) (s.take i) (v.take i)).length = i := by simp [hs, hv]; omega
  have h1 : s.getD i 0 = s[i] := by simp [List.getD, hs, hi]
  have h2 : v.getD i 0 = v[i] := by simp [List.getD, hv, hi]
  unfold added
  rw [List.set_append_right _ _ (by omega), h, Nat.sub_self, h1, h2]
  rw [List.drop_eq_getElem_cons (by omega : i < s.length), List.set_cons_zero, List.take_succ_eq_append_getElem (by omega : i < s.length), List.take_succ_eq_append_getElem (by omega : i < v.length)]
  rw [List.zipWith_append (by simp [hs, hv])]
  simp
theorem added_all {s v : List UInt32} (hs : s.length = 8) (hv : v.length = 8) : added s v 8 = List.zipWith (· + ·) s v := by
  have h1 : s.take 8 = s := List.take_of_length_le (by omega)
  have h2 : v.take 8 = v := List.take_of_length_le (by omega)
  have h3 : s.drop 8 = [] := List.drop_eq_nil_of_le (by omega)
  unfold added
  rw [h1, h2, h3, List.append_nil]
end Go.Rl
/- Walk of the reference's block function. Conditions: the state has 8 words, the block 64 bytes. -/
namespace Go.Rl
open Go.RowKit Go.Proofs

theorem call_rblock : Callable Tryz.prog 34 := ⟨_, Tryz.func34, by kernel_rfl, rfl⟩

theorem r_boxB {P : Program} {w : World} {t : TypeId} {v : Value} {l : List Value} (hv : v.cells = l.toArray) : ∃ g w', (Instr.box t v).run P w = .ok (.pointer (some ⟨g, 0, none⟩)) w' ∧ w.heap.size ≤ g ∧ Ext w w' ∧ Blk g t l w' :=
  ⟨_, _, r_box, Nat.le_refl _, Ext.new w _, Blk.new v hv⟩
/-- Where the bytes lie, and what is read there. -/
theorem Bts.reads {b : List UInt8} {v : Value} {w : World} (h : Bts b v w) : ∃ ad : Nat → Addr, ∀ i, i < b.length →
    (∀ w' : World, (Instr.indexAt 28 v (I (i : Int))).run Tryz.prog w' = .ok (.pointer (some (ad i))) w') ∧ ∀ w', Ext w w' → (Instr.loadAt 5 (.pointer (some (ad i)))).run Tryz.prog w' = .ok (U8 (b.getD i 0)) w' := by
  have hall : ∀ i : Nat, ∃ ad : Addr, i < b.length → (∀ w' : World, (Instr.indexAt 28 v (I (i : Int))).run Tryz.prog w' = .ok (.pointer (some ad)) w') ∧ ∀ w', Ext w w' → (Instr.loadAt 5 (.pointer (some ad))).run Tryz.prog w' = .ok (U8 (b.getD i 0)) w' := fun i => by
    by_cases hi : i < b.length
    · obtain ⟨ad, had, hcell⟩ := r_ixB h hi .i64
      refine ⟨ad, fun _ => ⟨had, fun w' hw' => ?_⟩⟩
      obtain ⟨ad', had', hcell'⟩ := r_ixB (h.ext hw') hi .i64
      have := (had w').symm.trans (had' w')
      simp only [Result.ok.injEq, Value.pointer.injEq, Option.some.injEq, and_true] at this
      subst this
      have e : b.getD i 0 = b[i] := by simp [List.getD, hi]
      rw [e]
      exact r_ldB hcell'
    · exact ⟨⟨0, 0, none⟩, fun h => absurd h hi⟩
  exact ⟨fun i => Classical.choose (hall i), fun i hi => Classical.choose_spec (hall i) hi⟩

theorem rblock_spec {w : World} {s : List UInt32} {b : List UInt8} {v : Value} (hs : s.length = 8) (hbl : b.length = 64) (hv : Bts b v w) :
    Calls Tryz.prog 34 #[.agg (s.map U32).toArray, v] w (Ret fun r w' => Ext w w' ∧ r = .agg ((cmpr s b).map U32).toArray) := by
  refine enter (vs := [.agg (s.map U32).toArray, v]) Tryz.func34 rfl rfl rfl ?_
  obtain ⟨g2, w1, hr, n2, x1, b2⟩ := r_boxB (P := Tryz.prog) (w := w) (t := 66) (v := .agg (s.map U32).toArray) (l := s.map U32) rfl
  refine c_seq (c_region (o_box rfl rfl hr ?_))
  obtain ⟨g4, w2, hr, n4, x2, b4⟩ := r_allocB (P := Tryz.prog) (w := w1) (l := (List.replicate 8 0).map U32) zero8 rfl
  refine o_alloc rfl hr (o_nil (n_then (c_seq (c_region ?_))))
  refine o_call (vs := []) call_rconstants rfl rfl (rconstants_spec w2) ?_
  rintro _ w3 ⟨x3, rfl⟩
  obtain ⟨g5, w4, hr, n5, x4, b5⟩ := r_allocB (P := Tryz.prog) (w := w3) (l := List.replicate 64 (U32 0)) zero64 rfl
  refine o_alloc rfl hr ?_
  refine o_store rfl rfl (r_stA b5 rfl size64 (one_of _)) ?_
  have b5' := b5.row (kc.map U32)
  have q5 := grownBy_setRow w4 g5 (kc.map U32).toArray
  revert b5' q5
  generalize w4.setRow g5 (kc.map U32).toArray = w5
  intro b5' q5
  refine o_nil (n_then (c_seq (c_region ?_)))
  obtain ⟨g6, w6, hr, n6, x6, b6⟩ := r_allocB (P := Tryz.prog) (w := w5) (l := (filled []).map U32) zero64 rfl
  refine o_alloc rfl hr (o_nil (n_then ?_))
  have l24 : g2 < g4 := Nat.lt_of_lt_of_le b2.lt n4
  have l45 : g4 < g5 := Nat.lt_of_lt_of_le b4.lt (Nat.le_trans x3.size n5)
  have l56 : g5 < g6 := Nat.lt_of_lt_of_le b5'.lt n6
  have ne4 : some g4 ≠ some g5 := fun h => by cases h; omega
  have ne2 : some g2 ≠ some g5 := fun h => by cases h; omega
  have B2 : Blk g2 _ _ w6 := ((((b2.ext x2).ext x3).ext x4).other q5 ne2).ext x6
  have B4 : Blk g4 _ _ w6 := (((b4.ext x3).ext x4).other q5 ne4).ext x6
  have B5 : Blk g5 _ _ w6 := b5'.ext x6
  have E6 : Ext w w6 := ((((x1.trans x2).trans x3).trans x4).of_new q5 (by omega)).trans x6
  have hw6 : w.heap.size ≤ g6 := by omega
  obtain ⟨ad, had⟩ := hv.reads
  refine c_seq (c_cut (fun _ : Unit => [(2, .pointer (some ⟨g2, 0, none⟩)), (4, .pointer (some ⟨g4, 0, none⟩)), (5, .pointer (some ⟨g5, 0, none⟩)), (6, .pointer (some ⟨g6, 0, none⟩))]) (fun _ w' => w6.grownBy w' (some g6) ∧ Blk g6 95 ((filled (sched b 0)).map U32) w') ?_ ?_)
  · refine c_seq (c_region (o_assign rfl rfl (o_nil (n_then (c_block ?_)))))
    refine c_loop (α := Nat) (fun k => [(1, v), (2, .pointer (some ⟨g2, 0, none⟩)), (4, .pointer (some ⟨g4, 0, none⟩)), (5, .pointer (some ⟨g5, 0, none⟩)), (6, .pointer (some ⟨g6, 0, none⟩)), (7, I (k : Int))])
      (fun k w' => w6.grownBy w' (some g6) ∧ Blk g6 95 ((filled (words b k)).map U32) w' ∧ k ≤ 16) (fun k => 16 - k) 0 ⟨rfl, rfl, rfl, rfl, rfl, rfl, trivial⟩
      ⟨gb_ext (Ext.refl _), b6, by omega⟩ ?_
    rintro k w7 ⟨q7, b7, hk⟩
    refine c_seq (c_seq (c_region (o_move rfl rfl ?_)))
    refine o_bin rfl rfl rfl (r_lss_i) ?_
    refine o_nil (n_then ?_)
    refine c_if rfl (fun h => ?_) (fun h => ?_)
    · have hk16 : k < 16 := by omega
      have E7 : Ext w w7 := E6.of_new q7 hw6
      refine c_skip (n_then (c_seq (c_block ?_)))
      have e0 : (4 : Int) * (k : Int) = ((4 * k : Nat) : Int) := by omega
      have e1 : ((4 * k : Nat) : Int) + 1 = ((4 * k + 1 : Nat) : Int) := by omega
      have e2 : ((4 * k : Nat) : Int) + 2 = ((4 * k + 2 : Nat) : Int) := by omega
      have e3 : ((4 * k : Nat) : Int) + 3 = ((4 * k + 3 : Nat) : Int) := by omega
      refine c_grow 35 [1, 2, 4, 5, 6, 7, 58, 59] (by kernel_rfl) (by kernel_rfl) ?_
      refine f_move rfl rfl (f_move rfl rfl (f_move rfl rfl ?_))
      refine f_bin (r := I ((4 * k : Nat) : Int)) rfl rfl rfl (fun w _ => by rw [← e0]; exact r_mul_i (by omega) (by omega)) ?_
      refine f_indexAddr rfl rfl rfl (fun w _ => (had (4 * k) (by omega)).1 w) ?_
      refine f_load rfl rfl (fun w' hw => (had (4 * k) (by omega)).2 w' (E7.trans hw)) ?_
      refine f_conv rfl rfl (fun w _ => r_u8_u32 Tryz.underlying5 Tryz.underlying65) ?_
      refine f_bin rfl rfl rfl (fun w _ => r_shl_u32 24 (by omega)) ?_
      refine f_move rfl rfl (f_move rfl rfl ?_)
      refine f_bin (r := I ((4 * k : Nat) : Int)) rfl rfl rfl (fun w _ => by rw [← e0]; exact r_mul_i (by omega) (by omega)) ?_
      refine f_bin (r := I ((4 * k + 1 : Nat) : Int)) rfl rfl rfl (fun w _ => by rw [← e1]; exact r_add_i (by omega) (by omega)) ?_
      refine f_indexAddr rfl rfl rfl (fun w _ => (had (4 * k + 1) (by omega)).1 w) ?_
      refine f_load rfl rfl (fun w' hw => (had (4 * k + 1) (by omega)).2 w' (E7.trans hw)) ?_
      refine f_conv rfl rfl (fun w _ => r_u8_u32 Tryz.underlying5 Tryz.underlying65) ?_
      refine f_bin rfl rfl rfl (fun w _ => r_shl_u32 16 (by omega)) ?_
      refine f_bin rfl rfl rfl (fun w _ => r_or_u32) ?_
      refine f_move rfl rfl (f_move rfl rfl ?_)
      refine f_bin (r := I ((4 * k : Nat) : Int)) rfl rfl rfl (fun w _ => by rw [← e0]; exact r_mul_i (by omega) (by omega)) ?_
      refine f_bin (r := I ((4 * k + 2 : Nat) : Int)) rfl rfl rfl (fun w _ => by rw [← e2]; exact r_add_i (by omega) (by omega)) ?_
      refine f_indexAddr rfl rfl rfl (fun w _ => (had (4 * k + 2) (by omega)).1 w) ?_
      refine f_load rfl rfl (fun w' hw => (had (4 * k + 2) (by omega)).2 w' (E7.trans hw)) ?_
      refine f_conv rfl rfl (fun w _ => r_u8_u32 Tryz.underlying5 Tryz.underlying65) ?_
      refine f_bin rfl rfl rfl (fun w _ => r_shl_u32 8 (by omega)) ?_
      refine f_bin rfl rfl rfl (fun w _ => r_or_u32) ?_
      refine f_move rfl rfl (f_move rfl rfl ?_)
      refine f_bin (r := I ((4 * k : Nat) : Int)) rfl rfl rfl (fun w _ => by rw [← e0]; exact r_mul_i (by omega) (by omega)) ?_
      refine f_bin (r := I ((4 * k + 3 : Nat) : Int)) rfl rfl rfl (fun w _ => by rw [← e3]; exact r_add_i (by omega) (by omega)) ?_
      refine f_indexAddr rfl rfl rfl (fun w _ => (had (4 * k + 3) (by omega)).1 w) ?_
      refine f_load rfl rfl (fun w' hw => (had (4 * k + 3) (by omega)).2 w' (E7.trans hw)) ?_
      refine f_conv rfl rfl (fun w _ => r_u8_u32 Tryz.underlying5 Tryz.underlying65) ?_
      refine f_bin rfl rfl rfl (fun w _ => r_or_u32) ?_
      refine f_indexAddr rfl rfl rfl (fun w _ => r_ix64 k (by omega)) ?_
      refine f_nil ?_
      intro w8 hx8
      rintro _ rfl _ rfl _ rfl _ rfl _ rfl _ rfl _ rfl _ rfl
      have hlen : (filled (words b k)).length = 64 := filled_len (by rw [words_len]; omega)
      refine o_store rfl rfl (r_stU (x := word b k) (b7.ext hx8) k (by omega)) ?_
      have b8 := (b7.ext hx8).setU k (word b k)
      have q8 := (q7.trans (gb_ext hx8)).trans (grownBy_setCell w8 g6 k (U32 (word b k)))
      have hset : (filled (words b k)).set k (word b k) = filled (words b (k + 1)) := by
        have := filled_set (l := words b k) (word b k) (by rw [words_len]; omega)
        rw [words_len] at this
        rw [this, words_snoc]
      rw [hset] at b8
      refine o_nil (n_block (n_then (c_region (o_move rfl rfl ?_))))
      refine o_bin rfl rfl rfl (r_add_i (by omega) (by omega)) ?_
      refine o_assign rfl rfl (o_nil ?_)
      exact n_round (k + 1) ⟨rfl, rfl, rfl, rfl, rfl, rfl, trivial⟩ ⟨q8, b8, by omega⟩ (by omega)
    · have hk' : k = 16 := by omega
      subst hk'
      exact c_exit (x_then (x_then (x_here (n_meet () ⟨rfl, rfl, rfl, rfl, trivial⟩ ⟨q7, b7⟩))))
  rintro _ w7 ⟨q7, b7⟩
  refine n_then ?_
  refine c_seq (c_cut (fun _ : Unit => [(2, .pointer (some ⟨g2, 0, none⟩)), (4, .pointer (some ⟨g4, 0, none⟩)), (5, .pointer (some ⟨g5, 0, none⟩)), (6, .pointer (some ⟨g6, 0, none⟩))]) (fun _ w' => w6.grownBy w' (some g6) ∧ Blk g6 95 ((sched b 48).map U32) w') ?_ ?_)
  · refine c_seq (c_region (o_assign rfl rfl (o_nil (n_then (c_block ?_)))))
    refine c_loop (α := Nat) (fun k => [(2, .pointer (some ⟨g2, 0, none⟩)), (4, .pointer (some ⟨g4, 0, none⟩)), (5, .pointer (some ⟨g5, 0, none⟩)), (6, .pointer (some ⟨g6, 0, none⟩)), (8, I ((16 + k : Nat) : Int))])
      (fun k w' => w6.grownBy w' (some g6) ∧ Blk g6 95 ((filled (sched b k)).map U32) w' ∧ k ≤ 48) (fun k => 48 - k) 0 ⟨rfl, rfl, rfl, rfl, rfl, trivial⟩
      ⟨q7, b7, by omega⟩ ?_
    clear q7 b7
    rintro k w7 ⟨q7, b7, hk⟩
    have hL := sched_len b k
    refine c_seq (c_seq (c_region (o_move rfl rfl ?_)))
    refine o_bin rfl rfl rfl (r_lss_i) ?_
    refine o_nil (n_then ?_)
    refine c_if rfl (fun h => ?_) (fun h => ?_)
    · have hk48 : k < 48 := by omega
      refine c_skip (n_then (c_seq (c_block (c_seq ?_))))
      have e15 : ((16 + k : Nat) : Int) - 15 = (((sched b k).length - 15 : Nat) : Int) := by omega
      have e2 : ((16 + k : Nat) : Int) - 2 = (((sched b k).length - 2 : Nat) : Int) := by omega
      have e16 : ((16 + k : Nat) : Int) - 16 = (((sched b k).length - 16 : Nat) : Int) := by omega
      have e7 : ((16 + k : Nat) : Int) - 7 = (((sched b k).length - 7 : Nat) : Int) := by omega
      have f15 := filled_get (l := sched b k) (i := (sched b k).length - 15) (by omega)
      have f2 := filled_get (l := sched b k) (i := (sched b k).length - 2) (by omega)
      have f16 := filled_get (l := sched b k) (i := (sched b k).length - 16) (by omega)
      have f7 := filled_get (l := sched b k) (i := (sched b k).length - 7) (by omega)
      have hlen : (filled (sched b k)).length = 64 := filled_len (by omega)
      refine c_grow 9 [2, 4, 5, 6, 8, 9, 71] (by kernel_rfl) (by kernel_rfl) ?_
      refine f_move rfl rfl ?_
      refine f_bin (r := I (((sched b k).length - 15 : Nat) : Int)) rfl rfl rfl (fun w _ => by rw [← e15]; exact r_sub_i (by omega) (by omega)) ?_
      refine f_indexAddr rfl rfl rfl (fun w _ => r_ix64 _ (by omega)) ?_
      refine f_load (r := U32 ((sched b k).getD ((sched b k).length - 15) 0)) rfl rfl (fun w' hw => by rw [← f15]; exact r_ldU (b7.ext hw) _ (by omega)) ?_
      refine f_move rfl rfl ?_
      refine f_bin (r := I (((sched b k).length - 2 : Nat) : Int)) rfl rfl rfl (fun w _ => by rw [← e2]; exact r_sub_i (by omega) (by omega)) ?_
      refine f_indexAddr rfl rfl rfl (fun w _ => r_ix64 _ (by omega)) ?_
      refine f_load (r := U32 ((sched b k).getD ((sched b k).length - 2) 0)) rfl rfl (fun w' hw => by rw [← f2]; exact r_ldU (b7.ext hw) _ (by omega)) ?_
      refine f_assign rfl rfl (f_nil ?_)
      intro w8 hx8
      rintro _ rfl _ rfl _ rfl _ rfl _ rfl _ rfl _ rfl
      refine o_assign rfl rfl (o_nil (n_then (c_seq (c_region (o_move rfl rfl ?_)))))
      refine o_call call_rright rfl rfl (rright_spec 7 (by omega) (by omega)) ?_
      rintro _ w9 ⟨hx9, rfl⟩
      refine o_move rfl rfl ?_
      refine o_call call_rright rfl rfl (rright_spec 18 (by omega) (by omega)) ?_
      rintro _ w10 ⟨hx10, rfl⟩
      refine o_bin rfl rfl rfl (r_xor_u32) ?_
      refine o_move rfl rfl ?_
      refine o_bin rfl rfl rfl (r_shr_u32 3 (by omega)) ?_
      refine o_bin rfl rfl rfl (r_xor_u32) ?_
      refine o_assign rfl rfl (o_nil (n_then (c_seq (c_region (o_move rfl rfl ?_)))))
      refine o_call call_rright rfl rfl (rright_spec 17 (by omega) (by omega)) ?_
      rintro _ w11 ⟨hx11, rfl⟩
      refine o_move rfl rfl ?_
      refine o_call call_rright rfl rfl (rright_spec 19 (by omega) (by omega)) ?_
      rintro _ w12 ⟨hx12, rfl⟩
      refine o_bin rfl rfl rfl (r_xor_u32) ?_
      refine o_move rfl rfl ?_
      refine o_bin rfl rfl rfl (r_shr_u32 10 (by omega)) ?_
      refine o_bin rfl rfl rfl (r_xor_u32) ?_
      refine o_assign rfl rfl (o_nil (n_then ?_))
      have x12 := (((hx8.trans hx9).trans hx10).trans hx11).trans hx12
      have b12 := b7.ext x12
      refine c_grow 15 [2, 4, 5, 6, 8, 101, 102] (by kernel_rfl) (by kernel_rfl) ?_
      refine f_move rfl rfl (f_move rfl rfl ?_)
      refine f_bin (r := I (((sched b k).length - 16 : Nat) : Int)) rfl rfl rfl (fun w _ => by rw [← e16]; exact r_sub_i (by omega) (by omega)) ?_
      refine f_indexAddr rfl rfl rfl (fun w _ => r_ix64 _ (by omega)) ?_
      refine f_load (r := U32 ((sched b k).getD ((sched b k).length - 16) 0)) rfl rfl (fun w' hw => by rw [← f16]; exact r_ldU (b12.ext hw) _ (by omega)) ?_
      refine f_move rfl rfl ?_
      refine f_bin rfl rfl rfl (fun w _ => r_add_u32) ?_
      refine f_move rfl rfl ?_
      refine f_bin (r := I (((sched b k).length - 7 : Nat) : Int)) rfl rfl rfl (fun w _ => by rw [← e7]; exact r_sub_i (by omega) (by omega)) ?_
      refine f_indexAddr rfl rfl rfl (fun w _ => r_ix64 _ (by omega)) ?_
      refine f_load (r := U32 ((sched b k).getD ((sched b k).length - 7) 0)) rfl rfl (fun w' hw => by rw [← f7]; exact r_ldU (b12.ext hw) _ (by omega)) ?_
      refine f_bin rfl rfl rfl (fun w _ => r_add_u32) ?_
      refine f_move rfl rfl ?_
      refine f_bin rfl rfl rfl (fun w _ => r_add_u32) ?_
      refine f_indexAddr rfl rfl rfl (fun w _ => r_ix64 (16 + k) (by omega)) ?_
      refine f_nil ?_
      intro w13 hx13
      rintro _ rfl _ rfl _ rfl _ rfl _ rfl _ rfl _ rfl
      refine o_store rfl rfl (r_stU (x := nextW (sched b k)) (b12.ext hx13) (16 + k) (by omega)) ?_
      have b13 := (b12.ext hx13).setU (16 + k) (nextW (sched b k))
      have q13 := ((q7.trans (gb_ext x12)).trans (gb_ext hx13)).trans (grownBy_setCell w13 g6 (16 + k) (U32 (nextW (sched b k))))
      have hset : (filled (sched b k)).set (16 + k) (nextW (sched b k)) = filled (sched b (k + 1)) := by
        have := filled_set (l := sched b k) (nextW (sched b k)) (by omega)
        rw [hL] at this
        exact this
      rw [hset] at b13
      refine o_nil (n_block (n_then (c_region (o_move rfl rfl ?_))))
      refine o_bin rfl rfl rfl (r_add_i (by omega) (by omega)) ?_
      refine o_assign rfl rfl (o_nil ?_)
      exact n_round (k + 1) ⟨rfl, rfl, rfl, rfl, rfl, trivial⟩ ⟨q13, b13, by omega⟩ (by omega)
    · have hk' : k = 48 := by omega
      subst hk'
      have hf : filled (sched b 48) = sched b 48 := by
        unfold filled
        rw [hL]
        exact List.append_nil _
      rw [hf] at b7
      exact c_exit (x_then (x_then (x_here (n_meet () ⟨rfl, rfl, rfl, rfl, trivial⟩ ⟨q7, b7⟩))))
  clear q7 b7
  rintro _ w7 ⟨q7, b7⟩
  refine n_then ?_
  have E7 : Ext w w7 := E6.of_new q7 hw6
  have ne26 : some g2 ≠ some g6 := fun h => by cases h; omega
  have ne46 : some g4 ≠ some g6 := fun h => by cases h; omega
  have ne56 : some g5 ≠ some g6 := fun h => by cases h; omega
  have C2 := B2.other q7 ne26
  have C4 := B4.other q7 ne46
  have C5 := B5.other q7 ne56
  have hlen8 : (Tryz.prog.info? 66).map (·.size) = some (s.map U32).length := by rw [List.length_map, hs]; exact size8
  refine c_seq (c_region ?_)
  refine o_load rfl rfl (r_ldA (m := s.map U32) C2 (fun j v h => by rwa [Nat.zero_add]) Tryz.underlying66 rfl hlen8) ?_
  obtain ⟨g13, w8, hr, n13, x8, b13⟩ := r_allocB (P := Tryz.prog) (w := w7) (l := (List.replicate 8 0).map U32) zero8 rfl
  refine o_alloc rfl hr ?_
  refine o_store rfl rfl (r_stA b13 (by simp [hs]) hlen8 (one_of _)) ?_
  have b13' := b13.row (s.map U32)
  have q13 := grownBy_setRow w8 g13 (s.map U32).toArray
  have l13 : g6 < g13 := Nat.lt_of_lt_of_le b7.lt n13
  have ne213 : some g2 ≠ some g13 := fun h => by cases h; omega
  have ne413 : some g4 ≠ some g13 := fun h => by cases h; omega
  have ne513 : some g5 ≠ some g13 := fun h => by cases h; omega
  have ne613 : some g6 ≠ some g13 := fun h => by cases h; omega
  have D2 := (C2.ext x8).other q13 ne213
  have D4 := (C4.ext x8).other q13 ne413
  have D5 := (C5.ext x8).other q13 ne513
  have D6 := (b7.ext x8).other q13 ne613
  have E8 : Ext w (w8.setRow g13 (s.map U32).toArray) := (E7.trans x8).of_new q13 (by omega)
  revert b13' D2 D4 D5 D6 E8
  generalize w8.setRow g13 (s.map U32).toArray = w9
  intro b13' D2 D4 D5 D6 E9
  refine o_nil (n_then ?_)
  refine c_seq (c_cut (fun _ : Unit => [(2, .pointer (some ⟨g2, 0, none⟩)), (4, .pointer (some ⟨g4, 0, none⟩)), (13, .pointer (some ⟨g13, 0, none⟩))]) (fun _ w' => w9.grownBy w' (some g13) ∧ Blk g13 66 ((rounds b s 64).map U32) w') ?_ ?_)
  · refine c_seq (c_region (o_assign rfl rfl (o_nil (n_then (c_block ?_)))))
    refine c_loop (α := Nat) (fun i => [(2, .pointer (some ⟨g2, 0, none⟩)), (4, .pointer (some ⟨g4, 0, none⟩)), (5, .pointer (some ⟨g5, 0, none⟩)), (6, .pointer (some ⟨g6, 0, none⟩)), (13, .pointer (some ⟨g13, 0, none⟩)), (14, I (i : Int))])
      (fun i w' => w9.grownBy w' (some g13) ∧ Blk g13 66 ((rounds b s i).map U32) w' ∧ i ≤ 64) (fun i => 64 - i) 0 ⟨rfl, rfl, rfl, rfl, rfl, rfl, trivial⟩
      ⟨gb_ext (Ext.refl _), b13', by omega⟩ ?_
    rintro i w10 ⟨q10, b10, hi⟩
    have hv8 := rounds_len b s hs i
    refine c_seq (c_seq (c_region (o_move rfl rfl ?_)))
    refine o_bin rfl rfl rfl (r_lss_i) ?_
    refine o_nil (n_then ?_)
    refine c_if rfl (fun h => ?_) (fun h => ?_)
    · have hi64 : i < 64 := by omega
      refine c_skip (n_then (c_seq (c_block (c_seq ?_))))
      have V := b10
      have K5 := D5.other q10 ne513
      have K6 := D6.other q10 ne613
      have hkc : kc.length = 64 := rfl
      have hsl : (sched b 48).length = 64 := sched_len b 48
      refine c_grow 5 [2, 4, 5, 6, 13, 14, 15, 111] (by kernel_rfl) (by kernel_rfl) ?_
      refine f_indexAddr rfl rfl rfl (fun w _ => r_ix8 0 (by omega)) ?_
      refine f_load rfl rfl (fun w' hw => r_ldU (V.ext hw) 0 (by omega)) ?_
      refine f_indexAddr rfl rfl rfl (fun w _ => r_ix8 4 (by omega)) ?_
      refine f_load rfl rfl (fun w' hw => r_ldU (V.ext hw) 4 (by omega)) ?_
      refine f_assign rfl rfl (f_nil ?_)
      intro w11 hx11
      rintro _ rfl _ rfl _ rfl _ rfl _ rfl _ rfl _ rfl _ rfl
      refine o_assign rfl rfl (o_nil (n_then (c_seq ?_)))
      replace V := V.ext hx11
      replace K5 := K5.ext hx11
      replace K6 := K6.ext hx11
      refine c_grow 30 [2, 4, 5, 6, 13, 14, 15, 16, 141] (by kernel_rfl) (by kernel_rfl) ?_
      refine f_indexAddr rfl rfl rfl (fun w _ => r_ix8 7 (by omega)) ?_
      refine f_load rfl rfl (fun w' hw => r_ldU (V.ext hw) 7 (by omega)) ?_
      refine f_move rfl rfl ?_
      refine f_call (S := Is (U32 (rotr _ 6))) call_rright (Stable.is _) rfl (fun w' _ => by
        rintro _ rfl _ rfl
        exact Ret.mono (rright_spec 6 (by omega) (by omega)) fun v w'' h => ⟨h.1, h.2⟩) ?_
      refine f_move rfl rfl ?_
      refine f_call (S := Is (U32 (rotr _ 11))) call_rright (Stable.is _) rfl (fun w' _ => by
        rintro _ rfl _ rfl
        exact Ret.mono (rright_spec 11 (by omega) (by omega)) fun v w'' h => ⟨h.1, h.2⟩) ?_
      refine f_bin rfl rfl rfl (fun w _ => r_xor_u32) ?_
      refine f_move rfl rfl ?_
      refine f_call (S := Is (U32 (rotr _ 25))) call_rright (Stable.is _) rfl (fun w' _ => by
        rintro _ rfl _ rfl
        exact Ret.mono (rright_spec 25 (by omega) (by omega)) fun v w'' h => ⟨h.1, h.2⟩) ?_
      refine f_bin rfl rfl rfl (fun w _ => r_xor_u32) ?_
      refine f_bin rfl rfl rfl (fun w _ => r_add_u32) ?_
      refine f_move rfl rfl ?_
      refine f_indexAddr rfl rfl rfl (fun w _ => r_ix8 5 (by omega)) ?_
      refine f_load rfl rfl (fun w' hw => r_ldU (V.ext hw) 5 (by omega)) ?_
      refine f_bin rfl rfl rfl (fun w _ => r_and_u32) ?_
      refine f_move rfl rfl ?_
      refine f_not rfl rfl (fun w _ => r_compl_u32) ?_
      refine f_indexAddr rfl rfl rfl (fun w _ => r_ix8 6 (by omega)) ?_
      refine f_load rfl rfl (fun w' hw => r_ldU (V.ext hw) 6 (by omega)) ?_
      refine f_bin rfl rfl rfl (fun w _ => r_and_u32) ?_
      refine f_bin rfl rfl rfl (fun w _ => r_xor_u32) ?_
      refine f_bin rfl rfl rfl (fun w _ => r_add_u32) ?_
      refine f_move rfl rfl ?_
      refine f_indexAddr rfl rfl rfl (fun w _ => r_ix64 i (by omega)) ?_
      refine f_load rfl rfl (fun w' hw => r_ldU (K5.ext hw) i (by omega)) ?_
      refine f_bin rfl rfl rfl (fun w _ => r_add_u32) ?_
      refine f_move rfl rfl ?_
      refine f_indexAddr rfl rfl rfl (fun w _ => r_ix64 i (by omega)) ?_
      refine f_load rfl rfl (fun w' hw => r_ldU (K6.ext hw) i (by omega)) ?_
      refine f_bin rfl rfl rfl (fun w _ => r_add_u32) ?_
      refine f_nil ?_
      intro w12 hx12
      rintro _ rfl _ rfl _ rfl _ rfl _ rfl _ rfl _ rfl _ rfl _ rfl
      refine o_assign rfl rfl (o_nil (n_then (c_seq ?_)))
      replace V := V.ext hx12
      refine c_grow 24 [2, 4, 5, 6, 13, 14, 15, 16, 17, 165] (by kernel_rfl) (by kernel_rfl) ?_
      refine f_move rfl rfl ?_
      refine f_call (S := Is (U32 (rotr _ 2))) call_rright (Stable.is _) rfl (fun w' _ => by
        rintro _ rfl _ rfl
        exact Ret.mono (rright_spec 2 (by omega) (by omega)) fun v w'' h => ⟨h.1, h.2⟩) ?_
      refine f_move rfl rfl ?_
      refine f_call (S := Is (U32 (rotr _ 13))) call_rright (Stable.is _) rfl (fun w' _ => by
        rintro _ rfl _ rfl
        exact Ret.mono (rright_spec 13 (by omega) (by omega)) fun v w'' h => ⟨h.1, h.2⟩) ?_
      refine f_bin rfl rfl rfl (fun w _ => r_xor_u32) ?_
      refine f_move rfl rfl ?_
      refine f_call (S := Is (U32 (rotr _ 22))) call_rright (Stable.is _) rfl (fun w' _ => by
        rintro _ rfl _ rfl
        exact Ret.mono (rright_spec 22 (by omega) (by omega)) fun v w'' h => ⟨h.1, h.2⟩) ?_
      refine f_bin rfl rfl rfl (fun w _ => r_xor_u32) ?_
      refine f_move rfl rfl ?_
      refine f_indexAddr rfl rfl rfl (fun w _ => r_ix8 1 (by omega)) ?_
      refine f_load rfl rfl (fun w' hw => r_ldU (V.ext hw) 1 (by omega)) ?_
      refine f_bin rfl rfl rfl (fun w _ => r_and_u32) ?_
      refine f_move rfl rfl ?_
      refine f_indexAddr rfl rfl rfl (fun w _ => r_ix8 2 (by omega)) ?_
      refine f_load rfl rfl (fun w' hw => r_ldU (V.ext hw) 2 (by omega)) ?_
      refine f_bin rfl rfl rfl (fun w _ => r_and_u32) ?_
      refine f_bin rfl rfl rfl (fun w _ => r_xor_u32) ?_
      refine f_indexAddr rfl rfl rfl (fun w _ => r_ix8 1 (by omega)) ?_
      refine f_load rfl rfl (fun w' hw => r_ldU (V.ext hw) 1 (by omega)) ?_
      refine f_indexAddr rfl rfl rfl (fun w _ => r_ix8 2 (by omega)) ?_
      refine f_load rfl rfl (fun w' hw => r_ldU (V.ext hw) 2 (by omega)) ?_
      refine f_bin rfl rfl rfl (fun w _ => r_and_u32) ?_
      refine f_bin rfl rfl rfl (fun w _ => r_xor_u32) ?_
      refine f_bin rfl rfl rfl (fun w _ => r_add_u32) ?_
      refine f_nil ?_
      intro w13 hx13
      rintro _ rfl _ rfl _ rfl _ rfl _ rfl _ rfl _ rfl _ rfl _ rfl _ rfl
      refine o_assign rfl rfl (o_nil (n_then (c_region (o_move rfl rfl (o_move rfl rfl ?_)))))
      replace V := V.ext hx13
      refine o_bin rfl rfl rfl (r_add_u32) ?_
      refine o_move rfl rfl ?_
      refine o_indexAddr rfl rfl rfl (r_ix8 1 (by omega)) ?_
      refine o_load rfl rfl (r_ldU V 1 (by omega)) ?_
      refine o_indexAddr rfl rfl rfl (r_ix8 2 (by omega)) ?_
      refine o_load rfl rfl (r_ldU V 2 (by omega)) ?_
      refine o_indexAddr rfl rfl rfl (r_ix8 3 (by omega)) ?_
      refine o_load rfl rfl (r_ldU V 3 (by omega)) ?_
      refine o_move rfl rfl ?_
      refine o_bin rfl rfl rfl (r_add_u32) ?_
      refine o_move rfl rfl ?_
      refine o_indexAddr rfl rfl rfl (r_ix8 5 (by omega)) ?_
      refine o_load rfl rfl (r_ldU V 5 (by omega)) ?_
      refine o_indexAddr rfl rfl rfl (r_ix8 6 (by omega)) ?_
      refine o_load rfl rfl (r_ldU V 6 (by omega)) ?_
      refine o_build rfl rfl (run_build _ _ _ ((rounds b s (i + 1)).map U32).toArray (by kernel_rfl)) ?_
      have hn8 := rounds_len b s hs (i + 1)
      refine o_store rfl rfl (r_stA V (by simp [hv8, hn8]) (by rw [List.length_map, hn8]; exact size8) (one_of _)) ?_
      have V' := V.row ((rounds b s (i + 1)).map U32)
      have q14 := (q10.trans (gb_ext ((hx11.trans hx12).trans hx13))).trans (grownBy_setRow w13 g13 ((rounds b s (i + 1)).map U32).toArray)
      refine o_nil (n_block (n_then (c_region (o_move rfl rfl ?_))))
      refine o_bin rfl rfl rfl (r_add_i (by omega) (by omega)) ?_
      refine o_assign rfl rfl (o_nil ?_)
      exact n_round (i + 1) ⟨rfl, rfl, rfl, rfl, rfl, rfl, trivial⟩ ⟨q14, V', by omega⟩ (by omega)
    · have hi' : i = 64 := by omega
      subst hi'
      exact c_exit (x_then (x_then (x_here (n_meet () ⟨rfl, rfl, rfl, trivial⟩ ⟨q10, b10⟩))))
  rintro _ w10 ⟨q10, b10⟩
  refine n_then ?_
  have hv8 := rounds_len b s hs 64
  have F2 := D2.other q10 ne213
  have F4 := D4.other q10 ne413
  have E10 : Ext w w10 := E9.of_new q10 (by omega)
  have ha0 : added s (rounds b s 64) 0 = s := by simp [added]
  refine c_seq (c_cut (fun _ : Unit => [(2, .pointer (some ⟨g2, 0, none⟩)), (4, .pointer (some ⟨g4, 0, none⟩))]) (fun _ w' => w10.grownBy w' (some g2) ∧ Blk g2 66 ((added s (rounds b s 64) 8).map U32) w') ?_ ?_)
  · refine c_seq (c_region (o_assign rfl rfl (o_nil (n_then (c_block ?_)))))
    refine c_loop (α := Nat) (fun i => [(2, .pointer (some ⟨g2, 0, none⟩)), (4, .pointer (some ⟨g4, 0, none⟩)), (13, .pointer (some ⟨g13, 0, none⟩)), (19, I (i : Int))])
      (fun i w' => w10.grownBy w' (some g2) ∧ Blk g2 66 ((added s (rounds b s 64) i).map U32) w' ∧ i ≤ 8) (fun i => 8 - i) 0 ⟨rfl, rfl, rfl, rfl, trivial⟩
      ⟨gb_ext (Ext.refl _), by rw [ha0]; exact F2, by omega⟩ ?_
    rintro i w11 ⟨q11, b11, hi⟩
    refine c_seq (c_seq (c_region (o_move rfl rfl ?_)))
    refine o_bin rfl rfl rfl (r_lss_i) ?_
    refine o_nil (n_then ?_)
    refine c_if rfl (fun h => ?_) (fun h => ?_)
    · have hi8 : i < 8 := by omega
      have hal := added_len hs hv8 hi
      have hag := added_get hs hv8 hi8
      have K13 := b10.other q11 (fun h => by cases h; omega)
      refine c_skip (n_then (c_seq (c_block ?_)))
      refine c_grow 8 [2, 4, 13, 19, 194, 195] (by kernel_rfl) (by kernel_rfl) ?_
      refine f_move rfl rfl ?_
      refine f_indexAddr rfl rfl rfl (fun w _ => r_ix8 i (by omega)) ?_
      refine f_load (r := U32 (s.getD i 0)) rfl rfl (fun w' hw => by rw [← hag]; exact r_ldU (b11.ext hw) i (by omega)) ?_
      refine f_move rfl rfl ?_
      refine f_indexAddr rfl rfl rfl (fun w _ => r_ix8 i (by omega)) ?_
      refine f_load rfl rfl (fun w' hw => r_ldU (K13.ext hw) i (by omega)) ?_
      refine f_bin rfl rfl rfl (fun w _ => r_add_u32) ?_
      refine f_indexAddr rfl rfl rfl (fun w _ => r_ix8 i (by omega)) ?_
      refine f_nil ?_
      intro w12 hx12
      rintro _ rfl _ rfl _ rfl _ rfl _ rfl _ rfl
      refine o_store rfl rfl (r_stU (b11.ext hx12) i (by omega)) ?_
      have b12 := (b11.ext hx12).setU i (s.getD i 0 + (rounds b s 64).getD i 0)
      rw [added_set hs hv8 hi8] at b12
      have q12 := (q11.trans (gb_ext hx12)).trans (grownBy_setCell w12 g2 i (U32 (s.getD i 0 + (rounds b s 64).getD i 0)))
      refine o_nil (n_block (n_then (c_region (o_move rfl rfl ?_))))
      refine o_bin rfl rfl rfl (r_add_i (by omega) (by omega)) ?_
      refine o_assign rfl rfl (o_nil ?_)
      exact n_round (i + 1) ⟨rfl, rfl, rfl, rfl, trivial⟩ ⟨q12, b12, by omega⟩ (by omega)
    · have hi' : i = 8 := by omega
      subst hi'
      exact c_exit (x_then (x_then (x_here (n_meet () ⟨rfl, rfl, trivial⟩ ⟨q11, b11⟩))))
  rintro _ w11 ⟨q11, b11⟩
  rw [added_all hs hv8] at b11
  have hc8 := cmpr_len s b hs
  have hlen8' : (Tryz.prog.info? 66).map (·.size) = some ((cmpr s b).map U32).length := by rw [List.length_map, hc8]; exact size8
  have G4 := F4.other q11 (fun h => by cases h; omega)
  refine n_then (c_seq (c_region ?_))
  refine o_load rfl rfl (r_ldA (m := (cmpr s b).map U32) b11 (fun j v h => by rw [Nat.zero_add]; exact h) Tryz.underlying66 rfl hlen8') ?_
  refine o_store rfl rfl (r_stA G4 (by simp [hc8]) hlen8' (one_of _)) ?_
  refine o_nil (n_then (c_ret ?_))
  refine r_bodyc rfl rfl (G4.row _) Tryz.underlying66 rfl hlen8' ?_
  exact ⟨_, rfl, (E10.of_new q11 (by omega)).of_new (grownBy_setRow _ _ _) (by omega), rfl⟩
end Go.Rl
/- Runs over arrays of bytes, and plain facts on a digest's bytes. Conditions: each names its own. -/
namespace Go.Rl
open Go.RowKit Go.Proofs

theorem zero32 : (Tryz.prog.info? 35).map (·.zero) = some (some (.agg (List.replicate 32 (U8 0)).toArray)) := by kernel_rfl
theorem size32 : (Tryz.prog.info? 35).map (·.size) = some 32 := by kernel_rfl
section
variable {w : World} {g o : Nat} {T : TypeId}
theorem r_ix32 (i : Nat) (hi : i < 32) : (Instr.indexAt 35 (.pointer (some ⟨g, 0, none⟩)) (I (i : Int))).run Tryz.prog w = .ok (.pointer (some ⟨g, i, none⟩)) w := by
  have := r_ixA (P := Tryz.prog) (w := w) (g := g) (o := 0) Tryz.underlying35 size_u8 hi .i64
  rwa [Nat.zero_add] at this
theorem r_stB {m : List UInt8} {x : UInt8} (h : Blk g T (m.map U8) w) (i : Nat) (hi : i < m.length) : (Instr.storeAt 5 (.pointer (some ⟨g, i, none⟩)) (U8 x)).run Tryz.prog w = .ok () (w.setCell ⟨g, i, none⟩ (U8 x)) :=
  r_store1 size_u8 rfl h (by simpa using hi)
theorem Blk.setB {m : List UInt8} (h : Blk g T (m.map U8) w) (i : Nat) (x : UInt8) : Blk g T ((m.set i x).map U8) (w.setCell ⟨g, i, none⟩ (U8 x)) := by
  have := h.set i (U8 x)
  rwa [← List.map_set] at this
end
theorem one_ofB (m : List UInt8) : ∀ v ∈ m.map U8, v.oneCell' = true := by
  intro u hu
  obtain ⟨b, _, rfl⟩ := List.mem_map.1 hu
  rfl
/-- The first bytes, and zeros behind them. -/
def fillB (d : List UInt8) (n j : Nat) : List UInt8 := d.take j ++ List.replicate (n - j) 0
theorem fillB_len {d : List UInt8} {n j : Nat} (hd : d.length = n) (hj : j ≤ n) : (fillB d n j).length = n := by simp [fillB, hd]; omega
theorem fillB_set {d : List UInt8} {n j : Nat} (hd : d.length = n) (hj : j < n) : (fillB d n j).set j (d.getD j 0) = fillB d n (j + 1) := by
  have h : (d.take j).length = j := by simp [hd]; omega
  have h1 : d.getD j 0 = d[j] := by simp [List.getD, hd, hj]
  unfold fillB
  rw [List.set_append_right _ _ (by omega), h, Nat.sub_self, h1, List.take_succ_eq_append_getElem (by omega : j < d.length)]
  have : n - j = (n - (j + 1)) + 1 := by omega
  rw [this, List.replicate_succ, List.set_cons_zero, List.append_assoc]
  rfl
theorem fillB_all {d : List UInt8} {n : Nat} (hd : d.length = n) : fillB d n n = d := by
  simp [fillB, ← hd]
theorem be4s_len (s : List UInt32) : (s.flatMap be4).length = 4 * s.length := by
  induction s with
  | nil => rfl
  | cons x s ih =>
    have : (x :: s).flatMap be4 = be4 x ++ s.flatMap be4 := by simp
    rw [this, List.length_append, ih]
    simp [be4]; omega
theorem be4s_get : ∀ (s : List UInt32) (i k : Nat), i < s.length → k < 4 → (s.flatMap be4).getD (4 * i + k) 0 = (s.getD i 0 >>> UInt32.ofNat (24 - 8 * k)).toUInt8
  | [], _, _, h, _ => by simp at h
  | x :: s, 0, k, _, hk => by
    have e : (x :: s).flatMap be4 = be4 x ++ s.flatMap be4 := by simp
    rw [e]
    match k, hk with
    | 0, _ => rfl
    | 1, _ => rfl
    | 2, _ => rfl
    | 3, _ =>
      show x.toUInt8 = (x >>> UInt32.ofNat 0).toUInt8
      rw [show UInt32.ofNat 0 = 0 from rfl, UInt32.shiftRight_zero]
  | x :: s, i + 1, k, h, hk => by
    have e : (x :: s).flatMap be4 = be4 x ++ s.flatMap be4 := by simp
    rw [e]
    have h4 : (be4 x).length = 4 := rfl
    have := be4s_get s i k (by simpa using h) hk
    rw [List.getD_eq_getElem?_getD, List.getElem?_append_right (by omega), h4, show 4 * (i + 1) + k - 4 = 4 * i + k by omega, ← List.getD_eq_getElem?_getD, this]
    rfl
theorem dig_len (m : List UInt8) : (dig m).length = 32 := by
  unfold dig
  rw [be4s_len, sh_len]
theorem be8_len (n : UInt64) : (be8 n).length = 8 := by simp [be8]
theorem be8_snoc (n : UInt64) {j : Nat} (hj : j < 8) : (be8 n).take (j + 1) = (be8 n).take j ++ [(n >>> UInt64.ofNat (56 - 8 * j)).toUInt8] := by
  rw [List.take_succ_eq_append_getElem (by rw [be8_len]; exact hj)]
  simp [be8]
theorem shN_take (M : List UInt8) (k : Nat) : shN M (k + 1) = cmpr (shN M k) ((M.take (64 * k + 64)).drop (64 * k)) := by
  rw [shN, List.drop_take, Nat.add_sub_cancel_left]
theorem sh_padded (m : List UInt8) : sh (padded m) = shN (padded m) ((padded m).length / 64) := rfl
end Go.Rl
/- Walk of the reference's Sum: it returns the digest. Conditions: the message is short. -/
namespace Go.Rl
open Go.RowKit Go.Proofs

theorem call_rSum : Callable Tryz.prog 15 := ⟨_, Tryz.func15, by kernel_rfl, rfl⟩

theorem rSum_spec {w : World} {l : List UInt8} {v : Value} (hv : Bts l v w) (hl : l.length ≤ 1099511627776) :
    Calls Tryz.prog 15 #[v] w (Ret fun r w' => Ext w w' ∧ r = .agg ((dig l).map U8).toArray) := by
  refine enter (vs := [v]) Tryz.func15 rfl rfl rfl ?_
  obtain ⟨g2, w1, hr, n2, x1, b2⟩ := r_allocB (P := Tryz.prog) (w := w) (l := (List.replicate 32 0).map U8) zero32 rfl
  refine c_seq (c_region (o_alloc rfl hr (o_nil (n_then (c_seq (c_region ?_))))))
  obtain ⟨r3, w3, hr, x3, o3, _⟩ := r_bsB (w := w1) w1.heap.size [] (by simp) (Nat.le_refl _)
  refine o_buildSlice (vs := []) rfl rfl hr ?_
  refine o_move rfl rfl ?_
  have e3 := x1.trans x3
  obtain ⟨r4, w4, hr, o4, g4⟩ := r_appB (ty := 28) o3 (hv.ext e3) (by simp only [List.length_nil]; omega) x3.size
  have x4 := x3.of_grew g4 o3.ge
  refine o_append rfl rfl hr ?_
  obtain ⟨r5, w5, hr, x5, o5, _⟩ := r_bsB (w := w4) w4.heap.size [128] (by simp) (Nat.le_refl _)
  refine o_buildSlice (vs := [(0, U8 128)]) rfl rfl hr ?_
  obtain ⟨r6, w6, hr, o6, g6⟩ := r_appB (ty := 28) (o4.ext x5) o5.bts (by simp only [List.nil_append, List.length_cons, List.length_nil]; omega) (x4.trans x5).size
  have x6 := (x4.trans x5).of_grew g6 o4.ge
  refine o_append rfl rfl hr ?_
  rw [List.nil_append] at o6
  have B2 := b2.ext x6
  refine o_assign rfl rfl (o_nil (n_then ?_))
  -- zeros
  refine c_seq (c_cut (fun m : Value => [(0, v), (2, .pointer (some ⟨g2, 0, none⟩)), (3, m)]) (fun m w' => OwnB w1.heap.size (l ++ [128] ++ List.replicate (padZ l.length) 0) m w' ∧ Ext w1 w') ?_ ?_)
  · refine c_block ?_
    refine c_loop (α := Nat × Value) (fun x => [(0, v), (2, .pointer (some ⟨g2, 0, none⟩)), (3, x.2)])
      (fun x w' => OwnB w1.heap.size (l ++ [128] ++ List.replicate x.1 0) x.2 w' ∧ Ext w1 w' ∧ x.1 ≤ padZ l.length) (fun x => padZ l.length - x.1) (0, r6) ⟨rfl, rfl, rfl, trivial⟩
      ⟨by simpa using o6, x6, by simp⟩ ?_
    rintro ⟨k, m⟩ w7 ⟨o7, x7, hk⟩
    dsimp only at o7 x7 hk
    have hp : padZ l.length < 64 := by unfold padZ; omega
    have hm : (l ++ [128] ++ List.replicate k 0).length = l.length + 1 + k := by simp; omega
    refine c_seq (c_seq (c_region (o_move rfl rfl ?_)))
    refine o_len rfl rfl (r_lenB o7.bts) ?_
    refine o_bin rfl rfl rfl (r_rem_i (by omega) (by omega)) ?_
    refine o_bin rfl rfl rfl (r_neq_i) ?_
    refine o_nil (n_then ?_)
    rw [hm]
    refine c_if rfl (fun h => ?_) (fun h => ?_)
    · have hlt : k < padZ l.length := by
        rcases Nat.lt_or_ge k (padZ l.length) with h1 | h1
        · exact h1
        · have : k = padZ l.length := by omega
          subst this
          exfalso
          unfold padZ at h
          omega
      refine c_skip (n_then (c_block (c_region (o_move rfl rfl ?_))))
      obtain ⟨r8, w8, hr, x8, o8, _⟩ := r_bsB (w := w7) w7.heap.size [0] (by simp) (Nat.le_refl _)
      refine o_buildSlice (vs := [(0, U8 0)]) rfl rfl hr ?_
      obtain ⟨r9, w9, hr, o9, g9⟩ := r_appB (ty := 28) (o7.ext x8) o8.bts (by rw [hm]; simp only [List.length_cons, List.length_nil]; omega) (x7.trans x8).size
      refine o_append rfl rfl hr ?_
      refine o_assign rfl rfl (o_nil (n_block ?_))
      refine n_round (k + 1, r9) ⟨rfl, rfl, rfl, trivial⟩ ⟨?_, (x7.trans x8).of_grew g9 o7.ge, hlt⟩ (by show padZ l.length - (k + 1) < padZ l.length - k; omega)
      show OwnB _ (l ++ [128] ++ List.replicate (k + 1) 0) r9 w9
      rw [List.replicate_succ', ← List.append_assoc]
      exact o9
    · have hk' : k = padZ l.length := by
        unfold padZ at hk hp ⊢
        omega
      subst hk'
      exact c_exit (x_then (x_then (x_here (n_meet m ⟨rfl, rfl, rfl, trivial⟩ ⟨o7, x7⟩))))
  rintro m7 w7 ⟨o7, x7⟩
  refine n_then (c_seq (c_region (o_move rfl rfl ?_)))
  refine o_len rfl rfl (r_lenB (hv.ext (x1.trans x7))) ?_
  refine o_conv rfl rfl (r_n_u64 Tryz.underlying3 Tryz.underlying64) ?_
  refine o_bin (u := U64 8) rfl rfl rfl (r_mul_u64) ?_
  rw [UInt64.mul_comm]
  refine o_assign rfl rfl (o_nil (n_then ?_))
  have hp : padZ l.length < 64 := by unfold padZ; omega
  have hb8 := be8_len (UInt64.ofNat l.length * 8)
  -- the length
  refine c_seq (c_cut (fun m : Value => [(2, .pointer (some ⟨g2, 0, none⟩)), (3, m)]) (fun m w' => OwnB w1.heap.size (padded l) m w' ∧ Ext w1 w') ?_ ?_)
  · refine c_seq (c_region (o_assign rfl rfl (o_nil (n_then (c_block ?_)))))
    refine c_loop (α := Nat × Value) (fun x => [(2, .pointer (some ⟨g2, 0, none⟩)), (3, x.2), (4, U64 (UInt64.ofNat l.length * 8)), (5, I (7 - (x.1 : Int)))])
      (fun x w' => OwnB w1.heap.size (l ++ [128] ++ List.replicate (padZ l.length) 0 ++ (be8 (UInt64.ofNat l.length * 8)).take x.1) x.2 w' ∧ Ext w1 w' ∧ x.1 ≤ 8) (fun x => 8 - x.1) (0, m7) ⟨rfl, rfl, rfl, rfl, trivial⟩
      ⟨by simpa using o7, x7, by simp⟩ ?_
    rintro ⟨j, m⟩ w8 ⟨o8, x8, hj⟩
    dsimp only at o8 x8 hj
    refine c_seq (c_seq (c_region (o_move rfl rfl ?_)))
    refine o_bin rfl rfl rfl (r_geq_i) ?_
    refine o_nil (n_then ?_)
    refine c_if rfl (fun h => ?_) (fun h => ?_)
    · have hj8 : j < 8 := by omega
      refine c_skip (n_then (c_seq (c_block (c_region (o_move rfl rfl (o_move rfl rfl (o_move rfl rfl ?_)))))))
      have e8 : (8 : Int) * (7 - (j : Int)) = ((56 - 8 * j : Nat) : Int) := by omega
      refine o_bin (r := I ((56 - 8 * j : Nat) : Int)) rfl rfl rfl (by rw [← e8]; exact r_mul_i (by omega) (by omega)) ?_
      refine o_bin rfl rfl rfl (r_shr_u64 (56 - 8 * j) (by omega)) ?_
      refine o_conv rfl rfl (r_u64_u8 Tryz.underlying64 Tryz.underlying5) ?_
      obtain ⟨r9, w9, hr, x9, o9, _⟩ := r_bsB (w := w8) w8.heap.size [((UInt64.ofNat l.length * 8) >>> UInt64.ofNat (56 - 8 * j)).toUInt8] (by simp) (Nat.le_refl _)
      refine o_buildSlice (vs := [(0, U8 ((UInt64.ofNat l.length * 8) >>> UInt64.ofNat (56 - 8 * j)).toUInt8)]) rfl rfl hr ?_
      obtain ⟨r10, w10, hr, o10, g10⟩ := r_appB (ty := 28) (o8.ext x9) o9.bts (by simp only [List.length_append, List.length_cons, List.length_nil, List.length_replicate, List.length_take]; omega) (x8.trans x9).size
      refine o_append rfl rfl hr ?_
      refine o_assign rfl rfl (o_nil (n_block (n_then (c_region (o_move rfl rfl ?_)))))
      refine o_bin rfl rfl rfl (r_sub_i (by omega) (by omega)) ?_
      refine o_assign rfl rfl (o_nil ?_)
      have e1 : (7 : Int) - (j : Int) - 1 = 7 - ((j + 1 : Nat) : Int) := by omega
      rw [e1]
      refine n_round (j + 1, r10) ⟨rfl, rfl, rfl, rfl, trivial⟩ ⟨?_, (x8.trans x9).of_grew g10 o8.ge, hj8⟩ (by show 8 - (j + 1) < 8 - j; omega)
      show OwnB _ (l ++ [128] ++ List.replicate (padZ l.length) 0 ++ (be8 (UInt64.ofNat l.length * 8)).take (j + 1)) r10 w10
      rw [be8_snoc _ hj8, ← List.append_assoc]
      exact o10
    · have hj' : j = 8 := by omega
      subst hj'
      rw [List.take_of_length_le (by omega)] at o8
      exact c_exit (x_then (x_then (x_here (n_meet m ⟨rfl, rfl, trivial⟩ ⟨o8, x8⟩))))
  clear o7 x7
  rintro m8 w8 ⟨o8, x8⟩
  have hM := padded_len l
  have hMl : (padded l).length ≤ 1099511627776 + 80 := by
    simp only [padded, List.length_append, List.length_cons, List.length_nil, List.length_replicate]; omega
  generalize hMM : padded l = M at o8 hM hMl
  refine n_then (c_seq (c_region ?_))
  refine o_build rfl rfl (run_build _ _ _ (iv.map U32).toArray (by kernel_rfl)) ?_
  obtain ⟨g6', w9, hr, n9, x9, b9⟩ := r_allocB (P := Tryz.prog) (w := w8) (l := (List.replicate 8 0).map U32) zero8 rfl
  refine o_alloc rfl hr ?_
  refine o_store rfl rfl (r_stA b9 rfl size8 (one_of _)) ?_
  have b9' := b9.row (iv.map U32)
  have q9 := grownBy_setRow w9 g6' (iv.map U32).toArray
  have l26 : g2 < g6' := Nat.lt_of_lt_of_le b2.lt (Nat.le_trans x8.size n9)
  have hw6 : w1.heap.size ≤ g6' := Nat.le_trans x8.size n9
  have E9 : Ext w1 (w9.setRow g6' (iv.map U32).toArray) := (x8.trans x9).of_new q9 hw6
  have ne2 : some g2 ≠ some g6' := fun h => by cases h; omega
  have hm9 : OwnB w1.heap.size M m8 (w9.setRow g6' (iv.map U32).toArray) := by
    obtain ⟨n, h⟩ := o8.ext x9
    exact ⟨n, World.ownsRow.kept h q9 (.inr fun he => by have := o8.lt g6' he; omega)⟩
  have C9 := ((b2.ext x8).ext x9).other q9 ne2
  revert b9' E9 hm9 C9
  generalize w9.setRow g6' (iv.map U32).toArray = w10
  intro b10 E10 o10 C10
  refine o_nil (n_then ?_)
  have l28 : ∀ k, m8.ownBlock = some k → k < w8.heap.size := o8.lt
  -- the blocks
  refine c_seq (c_cut (fun _ : Unit => [(2, .pointer (some ⟨g2, 0, none⟩)), (6, .pointer (some ⟨g6', 0, none⟩))]) (fun _ w' => w10.grownBy w' (some g6') ∧ Blk g6' 66 ((shN M (M.length / 64)).map U32) w') ?_ ?_)
  · refine c_seq (c_region (o_assign rfl rfl (o_nil (n_then (c_block ?_)))))
    refine c_loop (α := Nat) (fun k => [(2, .pointer (some ⟨g2, 0, none⟩)), (3, m8), (6, .pointer (some ⟨g6', 0, none⟩)), (7, I ((64 * k : Nat) : Int))])
      (fun k w' => w10.grownBy w' (some g6') ∧ Blk g6' 66 ((shN M k).map U32) w' ∧ k ≤ M.length / 64) (fun k => M.length / 64 - k) 0 ⟨rfl, rfl, rfl, rfl, trivial⟩
      ⟨gb_ext (Ext.refl _), b10, by omega⟩ ?_
    rintro k w11 ⟨q11, b11, hk⟩
    have o11 : OwnB w1.heap.size M m8 w11 := by
      obtain ⟨n, h⟩ := o10
      exact ⟨n, World.ownsRow.kept h q11 (.inr fun he => by have := l28 g6' he; omega)⟩
    have hs8 := shN_len M k
    refine c_seq (c_seq (c_region (o_move rfl rfl (o_move rfl rfl ?_))))
    refine o_len rfl rfl (r_lenB o11.bts) ?_
    refine o_bin rfl rfl rfl (r_lss_i) ?_
    refine o_nil (n_then ?_)
    refine c_if rfl (fun h => ?_) (fun h => ?_)
    · have hlt : 64 * k + 64 ≤ M.length := by omega
      have e64 : ((64 * k : Nat) : Int) + 64 = ((64 * k + 64 : Nat) : Int) := by omega
      have hbl : ((M.take (64 * k + 64)).drop (64 * k)).length = 64 := by simp; omega
      obtain ⟨r12, hr12, bt12⟩ := r_slB o11.bts (lo := 64 * k) (hi := 64 * k + 64) (by omega) hlt .i64 .i64
      have hszk : (Tryz.prog.info? 66).map (·.size) = some ((shN M k).map U32).length := by rw [List.length_map, hs8]; exact size8
      have hszk' : (Tryz.prog.info? 66).map (·.size) = some ((shN M (k + 1)).map U32).length := by rw [List.length_map, shN_len]; exact size8
      refine c_skip (n_then (c_seq (c_block ?_)))
      refine c_grow 7 [2, 3, 6, 7, 52] (by kernel_rfl) (by kernel_rfl) ?_
      refine f_load rfl rfl (fun w' hw => r_ldA (m := (shN M k).map U32) (b11.ext hw) (fun j v h => by rwa [Nat.zero_add]) Tryz.underlying66 rfl hszk) ?_
      refine f_move rfl rfl (f_move rfl rfl (f_move rfl rfl ?_))
      refine f_bin (r := I ((64 * k + 64 : Nat) : Int)) rfl rfl rfl (fun w _ => by rw [← e64]; exact r_add_i (by omega) (by omega)) ?_
      refine f_slice (a := some (I ((64 * k : Nat) : Int))) (b := some (I ((64 * k + 64 : Nat) : Int))) rfl rfl rfl rfl (fun w _ => hr12 w) ?_
      refine f_call (S := Is (.agg ((shN M (k + 1)).map U32).toArray)) call_rblock (Stable.is _) rfl (fun w' hw => by
        rintro _ rfl _ rfl
        exact Ret.mono (rblock_spec hs8 hbl (bt12.ext hw)) fun v w'' h => ⟨h.1, by rw [shN_take]; exact h.2⟩) ?_
      refine f_nil ?_
      intro w12 hx12
      rintro _ rfl _ rfl _ rfl _ rfl _ rfl
      refine o_store rfl rfl (r_stA (b11.ext hx12) (by simp [shN_len]) hszk' (one_of _)) ?_
      have b12 := (b11.ext hx12).row ((shN M (k + 1)).map U32)
      have q12 := (q11.trans (gb_ext hx12)).trans (grownBy_setRow w12 g6' ((shN M (k + 1)).map U32).toArray)
      refine o_nil (n_block (n_then (c_region (o_move rfl rfl ?_))))
      refine o_bin rfl rfl rfl (r_add_i (by omega) (by omega)) ?_
      refine o_assign rfl rfl (o_nil ?_)
      exact n_round (k + 1) ⟨rfl, rfl, rfl, rfl, trivial⟩ ⟨q12, b12, by omega⟩ (by omega)
    · have hk' : k = M.length / 64 := by omega
      subst hk'
      exact c_exit (x_then (x_then (x_here (n_meet () ⟨rfl, rfl, trivial⟩ ⟨q11, b11⟩))))
  rintro _ w11 ⟨q11, b11⟩
  have C2 := C10.other q11 ne2
  have E11 : Ext w1 w11 := E10.of_new q11 hw6
  have hs8 := shN_len M (M.length / 64)
  generalize hst : shN M (M.length / 64) = st at b11 hs8
  have hD : (st.flatMap be4).length = 32 := by rw [be4s_len, hs8]
  refine n_then (c_seq (c_region ?_))
  obtain ⟨g8, w12, hr, n12, x12, b12⟩ := r_allocB (P := Tryz.prog) (w := w11) (l := (fillB (st.flatMap be4) 32 0).map U8) zero32 rfl
  refine o_alloc rfl hr (o_nil (n_then ?_))
  have l68 : g6' < g8 := Nat.lt_of_lt_of_le b11.lt n12
  have ne68 : some g6' ≠ some g8 := fun h => by cases h; omega
  have ne28 : some g2 ≠ some g8 := fun h => by cases h; omega
  have c11 := b11.ext x12
  have D2 := C2.ext x12
  refine c_seq (c_cut (fun _ : Unit => [(2, .pointer (some ⟨g2, 0, none⟩)), (8, .pointer (some ⟨g8, 0, none⟩))]) (fun _ w' => w12.grownBy w' (some g8) ∧ Blk g8 35 ((st.flatMap be4).map U8) w') ?_ ?_)
  · refine c_seq (c_region (o_assign rfl rfl (o_nil (n_then (c_block ?_)))))
    refine c_loop (α := Nat) (fun i => [(2, .pointer (some ⟨g2, 0, none⟩)), (6, .pointer (some ⟨g6', 0, none⟩)), (8, .pointer (some ⟨g8, 0, none⟩)), (9, I (i : Int))])
      (fun i w' => w12.grownBy w' (some g8) ∧ Blk g8 35 ((fillB (st.flatMap be4) 32 (4 * i)).map U8) w' ∧ i ≤ 8) (fun i => 8 - i) 0 ⟨rfl, rfl, rfl, rfl, trivial⟩
      ⟨gb_ext (Ext.refl _), b12, by omega⟩ ?_
    rintro i w13 ⟨q13, b13, hi⟩
    refine c_seq (c_seq (c_region (o_move rfl rfl ?_)))
    refine o_bin rfl rfl rfl (r_lss_i) ?_
    refine o_nil (n_then ?_)
    refine c_if rfl (fun h => ?_) (fun h => ?_)
    · have hi8 : i < 8 := by omega
      refine c_skip (n_then (c_seq (c_block (c_seq (c_region (o_assign rfl rfl (o_nil (n_then (c_block ?_)))))))))
      refine c_loop (α := Nat) (fun k => [(2, .pointer (some ⟨g2, 0, none⟩)), (6, .pointer (some ⟨g6', 0, none⟩)), (8, .pointer (some ⟨g8, 0, none⟩)), (9, I (i : Int)), (10, I (k : Int))])
        (fun k w' => w12.grownBy w' (some g8) ∧ Blk g8 35 ((fillB (st.flatMap be4) 32 (4 * i + k)).map U8) w' ∧ k ≤ 4) (fun k => 4 - k) 0 ⟨rfl, rfl, rfl, rfl, rfl, trivial⟩
        ⟨q13, b13, by omega⟩ ?_
      rintro k w14 ⟨q14, b14, hk⟩
      refine c_seq (c_seq (c_region (o_move rfl rfl ?_)))
      refine o_bin rfl rfl rfl (r_lss_i) ?_
      refine o_nil (n_then ?_)
      refine c_if rfl (fun h => ?_) (fun h => ?_)
      · have hk4 : k < 4 := by omega
        have c14 := c11.other q14 ne68
        have hfl := fillB_len (j := 4 * i + k) hD (by omega)
        have e4 : (4 : Int) * (i : Int) = ((4 * i : Nat) : Int) := by omega
        have e5 : ((4 * i : Nat) : Int) + (k : Int) = ((4 * i + k : Nat) : Int) := by omega
        have e6 : (24 : Int) - 8 * (k : Int) = ((24 - 8 * k : Nat) : Int) := by omega
        refine c_skip (n_then (c_seq (c_block (c_region (o_move rfl rfl ?_)))))
        refine o_bin (r := I ((4 * i : Nat) : Int)) rfl rfl rfl (by rw [← e4]; exact r_mul_i (by omega) (by omega)) ?_
        refine o_move rfl rfl ?_
        refine o_bin (r := I ((4 * i + k : Nat) : Int)) rfl rfl rfl (by rw [← e5]; exact r_add_i (by omega) (by omega)) ?_
        refine o_move rfl rfl ?_
        refine o_indexAddr rfl rfl rfl (r_ix8 i (by omega)) ?_
        refine o_load rfl rfl (r_ldU c14 i (by omega)) ?_
        refine o_move rfl rfl ?_
        refine o_bin rfl rfl rfl (r_mul_i (by omega) (by omega)) ?_
        refine o_bin (r := I ((24 - 8 * k : Nat) : Int)) rfl rfl rfl (by rw [← e6]; exact r_sub_i (by omega) (by omega)) ?_
        refine o_bin rfl rfl rfl (r_shr_u32 (24 - 8 * k) (by omega)) ?_
        refine o_conv rfl rfl (r_u32_u8 Tryz.underlying65 Tryz.underlying5) ?_
        refine o_indexAddr rfl rfl rfl (r_ix32 (4 * i + k) (by omega)) ?_
        refine o_store rfl rfl (r_stB b14 (4 * i + k) (by omega)) ?_
        have b15 := b14.setB (4 * i + k) (st.getD i 0 >>> UInt32.ofNat (24 - 8 * k)).toUInt8
        have hset : (fillB (st.flatMap be4) 32 (4 * i + k)).set (4 * i + k) (st.getD i 0 >>> UInt32.ofNat (24 - 8 * k)).toUInt8 = fillB (st.flatMap be4) 32 (4 * i + (k + 1)) := by
          rw [← be4s_get st i k (by omega) hk4]
          exact fillB_set hD (by omega)
        rw [hset] at b15
        refine o_nil (n_block (n_then (c_region (o_move rfl rfl ?_))))
        refine o_bin rfl rfl rfl (r_add_i (by omega) (by omega)) ?_
        refine o_assign rfl rfl (o_nil ?_)
        exact n_round (k + 1) ⟨rfl, rfl, rfl, rfl, rfl, trivial⟩ ⟨q14.trans (grownBy_setCell w14 g8 _ _), b15, by omega⟩ (by omega)
      · have hk' : k = 4 := by omega
        subst hk'
        refine c_exit (x_then (x_then (x_here (n_block (n_then (c_region (o_move rfl rfl ?_)))))))
        refine o_bin rfl rfl rfl (r_add_i (by omega) (by omega)) ?_
        refine o_assign rfl rfl (o_nil ?_)
        exact n_round (i + 1) ⟨rfl, rfl, rfl, rfl, trivial⟩ ⟨q14, b14, by omega⟩ (by omega)
    · have hi' : i = 8 := by omega
      subst hi'
      rw [show 4 * 8 = 32 from rfl, fillB_all hD] at b13
      exact c_exit (x_then (x_then (x_here (n_meet () ⟨rfl, rfl, trivial⟩ ⟨q13, b13⟩))))
  rintro _ w13 ⟨q13, b13⟩
  have hdig : st.flatMap be4 = dig l := by
    unfold dig sh
    rw [hMM, hst]
  rw [hdig] at b13
  have hsz : (Tryz.prog.info? 35).map (·.size) = some ((dig l).map U8).length := by rw [List.length_map, dig_len]; exact size32
  have F2 := D2.other q13 ne28
  refine n_then (c_seq (c_region ?_))
  refine o_load rfl rfl (r_ldA (m := (dig l).map U8) b13 (fun j v h => by rwa [Nat.zero_add]) Tryz.underlying35 rfl hsz) ?_
  refine o_store rfl rfl (r_stA F2 (by simp [dig_len]) hsz (one_ofB _)) ?_
  refine o_nil (n_then (c_ret ?_))
  refine r_bodyc rfl rfl (F2.row _) Tryz.underlying35 rfl hsz ?_
  have E13 : Ext w w13 := (x1.trans (E11.trans x12)).of_new q13 (by have := x1.size; omega)
  exact ⟨_, rfl, E13.of_new (grownBy_setRow _ _ _) n2, rfl⟩
end Go.Rl
/- The digest's hash as cells in a block: runs and facts. Conditions: each names its own. -/
namespace Go.Rl
open Go.RowKit Go.Proofs

/-- The cells of a hash. -/
def hcells (st : List UInt32) (blk : List UInt8) (u : Int) (tot : UInt64) : List Value := st.map U32 ++ (blk.map U8 ++ [I u, U64 tot])
/-- The hash at block g. -/
structure HC (g : Nat) (st : List UInt32) (blk : List UInt8) (u : Int) (tot : UInt64) (w : World) : Prop where
  hb : Blk g 108 (hcells st blk u tot) w
  ls : st.length = 8
  lb : blk.length = 64
section
variable {w w' : World} {g : Nat} {st : List UInt32} {blk : List UInt8} {u : Int} {tot : UInt64}
theorem hcells_len (hs : st.length = 8) (hb : blk.length = 64) : (hcells st blk u tot).length = 74 := by simp [hcells, hs, hb]
theorem HC.ext (h : HC g st blk u tot w) (hx : Ext w w') : HC g st blk u tot w' := ⟨h.hb.ext hx, h.ls, h.lb⟩
theorem HC.other {row : Option Nat} (h : HC g st blk u tot w) (hg : w.grownBy w' row) (hne : some g ≠ row) : HC g st blk u tot w' := ⟨h.hb.other hg hne, h.ls, h.lb⟩
theorem HC.lt (h : HC g st blk u tot w) : g < w.heap.size := h.hb.lt
theorem HC.cellS (h : HC g st blk u tot w) {i : Nat} (hi : i < 8) : w.cell? ⟨g, i, none⟩ = some (U32 (st.getD i 0)) :=
  h.hb.cell (by simp [hcells, List.getElem?_append, h.ls, hi])
theorem HC.cellU (h : HC g st blk u tot w) : w.cell? ⟨g, 72, none⟩ = some (I u) :=
  h.hb.cell (by unfold hcells; rw [List.getElem?_append_right (by simp [h.ls]), List.length_map, h.ls, List.getElem?_append_right (by simp [h.lb]), List.length_map, h.lb]; rfl)
theorem HC.cellT (h : HC g st blk u tot w) : w.cell? ⟨g, 73, none⟩ = some (U64 tot) :=
  h.hb.cell (by unfold hcells; rw [List.getElem?_append_right (by simp [h.ls]), List.length_map, h.ls, List.getElem?_append_right (by simp [h.lb]), List.length_map, h.lb]; rfl)
theorem HC.setS (h : HC g st blk u tot w) (i : Nat) (hi : i < 8) (x : UInt32) : HC g (st.set i x) blk u tot (w.setCell ⟨g, i, none⟩ (U32 x)) := by
  refine ⟨?_, by simp [h.ls], h.lb⟩
  have := h.hb.set i (U32 x)
  unfold hcells at this
  rw [List.set_append_left _ _ (by simpa [h.ls] using hi), ← List.map_set] at this
  exact this
theorem HC.setU (h : HC g st blk u tot w) (x : Int) : HC g st blk x tot (w.setCell ⟨g, 72, none⟩ (I x)) := by
  refine ⟨?_, h.ls, h.lb⟩
  have := h.hb.set 72 (I x)
  unfold hcells at this
  rw [List.set_append_right _ _ (by simp [h.ls]), List.length_map, h.ls, List.set_append_right _ _ (by simp [h.lb]), List.length_map, h.lb] at this
  exact this
theorem HC.setT (h : HC g st blk u tot w) (x : UInt64) : HC g st blk u x (w.setCell ⟨g, 73, none⟩ (U64 x)) := by
  refine ⟨?_, h.ls, h.lb⟩
  have := h.hb.set 73 (U64 x)
  unfold hcells at this
  rw [List.set_append_right _ _ (by simp [h.ls]), List.length_map, h.ls, List.set_append_right _ _ (by simp [h.lb]), List.length_map, h.lb] at this
  exact this
theorem size_u64 : (Tryz.prog.info? 64).map (·.size) = some 1 := by kernel_rfl
theorem size_b64 : (Tryz.prog.info? 106).map (·.size) = some 64 := by kernel_rfl
theorem size_Hash : (Tryz.prog.info? 108).map (·.size) = some 74 := by kernel_rfl
theorem zero_Hash : (Tryz.prog.info? 108).map (·.zero) = some (some (.agg (hcells (List.replicate 8 0) (List.replicate 64 0) 0 0).toArray)) := by kernel_rfl
theorem r_fS : (Instr.fieldAt 108 (.pointer (some ⟨g, 0, none⟩)) 0).run Tryz.prog w = .ok (.pointer (some ⟨g, 0, none⟩)) w := by
  have h := r_fieldAt (P := Tryz.prog) (w := w) (n := 0) (a := ⟨g, 0, none⟩) Tryz.underlying108 rfl size8 (Nat.succ_ne_zero 7)
  exact h
theorem r_fB : (Instr.fieldAt 108 (.pointer (some ⟨g, 0, none⟩)) 1).run Tryz.prog w = .ok (.pointer (some ⟨g, 8, none⟩)) w := by
  have h := r_fieldAt (P := Tryz.prog) (w := w) (n := 1) (a := ⟨g, 0, none⟩) Tryz.underlying108 rfl size_b64 (Nat.succ_ne_zero 63)
  exact h
theorem r_fU : (Instr.fieldAt 108 (.pointer (some ⟨g, 0, none⟩)) 2).run Tryz.prog w = .ok (.pointer (some ⟨g, 72, none⟩)) w := by
  have h := r_fieldAt (P := Tryz.prog) (w := w) (n := 2) (a := ⟨g, 0, none⟩) Tryz.underlying108 rfl size_int (Nat.succ_ne_zero 0)
  exact h
theorem r_fT : (Instr.fieldAt 108 (.pointer (some ⟨g, 0, none⟩)) 3).run Tryz.prog w = .ok (.pointer (some ⟨g, 73, none⟩)) w := by
  have h := r_fieldAt (P := Tryz.prog) (w := w) (n := 3) (a := ⟨g, 0, none⟩) Tryz.underlying108 rfl size_u64 (Nat.succ_ne_zero 0)
  exact h
/-- The bytes of the block behind an offset, as a slice. -/
theorem HC.bts (h : HC g st blk u tot w) {lo : Nat} (hlo : lo < 64) : Bts (blk.drop lo) (.slice (some ⟨g, 8 + lo, none⟩) (64 - lo) (64 - lo)) w := by
  refine ⟨_, _, _, rfl, Nat.le_refl _, by unfold maxLen; omega, by simp [h.lb], fun _ => ⟨_, rfl, fun j v hj => ?_⟩, fun h => by cases h⟩
  rw [Addr.add_mid]
  refine h.hb.cell ?_
  unfold hcells
  rw [List.getElem?_append_right (by simp [h.ls]; omega), List.length_map, h.ls, show 8 + lo + j - 8 = lo + j by omega]
  have hjl : lo + j < (blk.map U8).length := by
    have := (List.getElem?_eq_some_iff.1 hj).1
    simp only [List.length_map, List.length_drop] at this ⊢
    omega
  rw [List.getElem?_append_left hjl]
  rw [List.map_drop, List.getElem?_drop] at hj
  exact hj
theorem r_slH {lo : Nat} (hlo : lo < 64) : (Instr.sliceAt 106 (.pointer (some ⟨g, 8, none⟩)) (some (I (lo : Int))) none none).run Tryz.prog w = .ok (.slice (some ⟨g, 8 + lo, none⟩) (64 - lo) (64 - lo)) w :=
  r_slA_lo Tryz.underlying106 size_u8 hlo .i64
theorem HC.ldS (h : HC g st blk u tot w) : (Instr.loadAt 66 (.pointer (some ⟨g, 0, none⟩))).run Tryz.prog w = .ok (.agg (st.map U32).toArray) w :=
  r_ldA (m := st.map U32) h.hb (fun j v hj => by
    rw [Nat.zero_add]
    unfold hcells
    rw [List.getElem?_append_left (List.getElem?_eq_some_iff.1 hj).1]
    exact hj) Tryz.underlying66 rfl (by rw [List.length_map, h.ls]; exact size8)
end
theorem drop_getH (b : List UInt8) (i j : Nat) : (b.drop i).getD j 0 = b.getD (i + j) 0 := by simp [List.getD]
end Go.Rl
/- Walk of the program's block function. Conditions: a hash at the block. -/
namespace Go.Rl
open Go.RowKit Go.Proofs

theorem call_process : Callable Tryz.prog 80 := ⟨_, Tryz.func80, by kernel_rfl, rfl⟩
theorem word_drop (b : List UInt8) (k : Nat) : word b k = ((((b.drop (4 * k)).getD 0 0).toUInt32 <<< UInt32.ofNat 24 ||| ((b.drop (4 * k)).getD 1 0).toUInt32 <<< UInt32.ofNat 16) ||| ((b.drop (4 * k)).getD 2 0).toUInt32 <<< UInt32.ofNat 8) ||| ((b.drop (4 * k)).getD 3 0).toUInt32 := by
  simp only [drop_getH, word, Nat.add_zero]

theorem mapU_get {m : List UInt32} {i : Nat} (h : i < m.length) : (m.map U32)[i]? = some (U32 (m.getD i 0)) := by simp [h]

theorem process_spec {w : World} {g : Nat} {s : List UInt32} {b : List UInt8} {u : Int} {tot : UInt64} (hc : HC g s b u tot w) :
    Calls Tryz.prog 80 #[.pointer (some ⟨g, 0, none⟩)] w (Ret fun _ w' => w.grownBy w' (some g) ∧ HC g (cmpr s b) b 0 tot w') := by
  have hs := hc.ls
  have hbl := hc.lb
  refine enter (vs := [.pointer (some ⟨g, 0, none⟩)]) Tryz.func80 rfl rfl rfl ?_
  obtain ⟨g2, w1, hr, n2, x1, b2⟩ := r_allocB (P := Tryz.prog) (w := w) (l := (filled []).map U32) zero64 rfl
  refine c_seq (c_region (o_alloc rfl hr (o_nil (n_then ?_))))
  have lg := hc.lt
  have hc1 := hc.ext x1
  have neg : some g ≠ some g2 := fun h => by cases h; omega
  refine c_seq (c_cut (fun _ : Unit => [(0, .pointer (some ⟨g, 0, none⟩)), (2, .pointer (some ⟨g2, 0, none⟩))]) (fun _ w' => w1.grownBy w' (some g2) ∧ Blk g2 95 ((filled (sched b 0)).map U32) w') ?_ ?_)
  · refine c_seq (c_region (o_move rfl rfl (o_nil (n_then (c_block ?_)))))
    refine c_loop (α := Nat) (fun k => [(0, .pointer (some ⟨g, 0, none⟩)), (2, .pointer (some ⟨g2, 0, none⟩)), (17, I (k : Int))])
      (fun k w' => w1.grownBy w' (some g2) ∧ Blk g2 95 ((filled (words b k)).map U32) w' ∧ k ≤ 16) (fun k => 16 - k) 0 ⟨rfl, rfl, rfl, trivial⟩
      ⟨gb_ext (Ext.refl _), b2, by omega⟩ ?_
    rintro k w7 ⟨q7, b7, hk⟩
    refine c_seq (c_region ?_)
    refine o_bin rfl rfl rfl (r_lss_i) ?_
    refine o_nil (n_then (c_seq ?_))
    refine c_if rfl (fun h => ?_) (fun h => ?_)
    · have hk16 : k < 16 := by omega
      have e0 : (4 : Int) * (k : Int) = ((4 * k : Nat) : Int) := by omega
      refine c_skip (n_then (c_seq (c_block (c_seq (c_region (o_move rfl rfl (o_assign rfl rfl (o_nil (n_then (c_seq (c_region (o_move rfl rfl ?_))))))))))))
      refine o_nilCheck rfl rfl ?_
      refine o_fieldAddr rfl rfl r_fB ?_
      refine o_move rfl rfl ?_
      refine o_bin (r := I ((4 * k : Nat) : Int)) rfl rfl rfl (by rw [← e0]; exact r_mul_i (by omega) (by omega)) ?_
      refine o_slice (a := some (I ((4 * k : Nat) : Int))) rfl rfl rfl rfl rfl (r_slH (by omega)) ?_
      refine o_assign rfl rfl (o_nil (n_then ?_))
      have hbt := (hc1.other q7 neg).bts (lo := 4 * k) (by omega)
      obtain ⟨ad, had⟩ := hbt.reads
      rw [List.length_drop, hbl] at had
      refine c_grow 24 [0, 2, 17, 48, 49] (by kernel_rfl) (by kernel_rfl) ?_
      refine f_move rfl rfl (f_move rfl rfl ?_)
      refine f_indexAddr rfl rfl rfl (fun w _ => (had 0 (by omega)).1 w) ?_
      refine f_load rfl rfl (fun w' hw => (had 0 (by omega)).2 w' hw) ?_
      refine f_conv rfl rfl (fun w _ => r_u8_u32 Tryz.underlying5 Tryz.underlying65) ?_
      refine f_bin rfl rfl rfl (fun w _ => r_shl_u32 24 (by omega)) ?_
      refine f_move rfl rfl ?_
      refine f_indexAddr rfl rfl rfl (fun w _ => (had 1 (by omega)).1 w) ?_
      refine f_load rfl rfl (fun w' hw => (had 1 (by omega)).2 w' hw) ?_
      refine f_conv rfl rfl (fun w _ => r_u8_u32 Tryz.underlying5 Tryz.underlying65) ?_
      refine f_bin rfl rfl rfl (fun w _ => r_shl_u32 16 (by omega)) ?_
      refine f_bin rfl rfl rfl (fun w _ => r_or_u32) ?_
      refine f_move rfl rfl ?_
      refine f_indexAddr rfl rfl rfl (fun w _ => (had 2 (by omega)).1 w) ?_
      refine f_load rfl rfl (fun w' hw => (had 2 (by omega)).2 w' hw) ?_
      refine f_conv rfl rfl (fun w _ => r_u8_u32 Tryz.underlying5 Tryz.underlying65) ?_
      refine f_bin rfl rfl rfl (fun w _ => r_shl_u32 8 (by omega)) ?_
      refine f_bin rfl rfl rfl (fun w _ => r_or_u32) ?_
      refine f_move rfl rfl ?_
      refine f_indexAddr rfl rfl rfl (fun w _ => (had 3 (by omega)).1 w) ?_
      refine f_load rfl rfl (fun w' hw => (had 3 (by omega)).2 w' hw) ?_
      refine f_conv rfl rfl (fun w _ => r_u8_u32 Tryz.underlying5 Tryz.underlying65) ?_
      refine f_bin rfl rfl rfl (fun w _ => r_or_u32) ?_
      refine f_indexAddr rfl rfl rfl (fun w _ => r_ix64 k (by omega)) ?_
      refine f_nil ?_
      intro w8 hx8
      rintro _ rfl _ rfl _ rfl _ rfl _ rfl
      have hlen : (filled (words b k)).length = 64 := filled_len (by rw [words_len]; omega)
      rw [← word_drop]
      refine o_store rfl rfl (r_stU (x := word b k) (b7.ext hx8) k (by omega)) ?_
      have b8 := (b7.ext hx8).setU k (word b k)
      have q8 := (q7.trans (gb_ext hx8)).trans (grownBy_setCell w8 g2 k (U32 (word b k)))
      have hset : (filled (words b k)).set k (word b k) = filled (words b (k + 1)) := by
        have := filled_set (l := words b k) (word b k) (by rw [words_len]; omega)
        rw [words_len] at this
        rw [this, words_snoc]
      rw [hset] at b8
      refine o_nil (n_block (n_then (c_region ?_)))
      refine o_bin rfl rfl rfl (r_add_i (by omega) (by omega)) ?_
      refine o_move rfl rfl (o_nil ?_)
      exact n_round (k + 1) ⟨rfl, rfl, rfl, trivial⟩ ⟨q8, b8, by omega⟩ (by omega)
    · have hk' : k = 16 := by omega
      subst hk'
      exact c_exit (x_then (x_then (x_here (n_meet () ⟨rfl, rfl, trivial⟩ ⟨q7, b7⟩))))
  rintro _ w7 ⟨q7, b7⟩
  refine n_then ?_
  refine c_seq (c_cut (fun _ : Unit => [(0, .pointer (some ⟨g, 0, none⟩)), (2, .pointer (some ⟨g2, 0, none⟩))]) (fun _ w' => w1.grownBy w' (some g2) ∧ Blk g2 95 ((sched b 48).map U32) w') ?_ ?_)
  · refine c_seq (c_region (o_assign rfl rfl (o_nil (n_then (c_block ?_)))))
    refine c_loop (α := Nat) (fun k => [(0, .pointer (some ⟨g, 0, none⟩)), (2, .pointer (some ⟨g2, 0, none⟩)), (5, I ((16 + k : Nat) : Int))])
      (fun k w' => w1.grownBy w' (some g2) ∧ Blk g2 95 ((filled (sched b k)).map U32) w' ∧ k ≤ 48) (fun k => 48 - k) 0 ⟨rfl, rfl, rfl, trivial⟩
      ⟨q7, b7, by omega⟩ ?_
    clear q7 b7
    rintro k w7 ⟨q7, b7, hk⟩
    have hL := sched_len b k
    refine c_seq (c_seq (c_region (o_move rfl rfl ?_)))
    refine o_bin rfl rfl rfl (r_lss_i) ?_
    refine o_nil (n_then ?_)
    refine c_if rfl (fun h => ?_) (fun h => ?_)
    · have hk48 : k < 48 := by omega
      refine c_skip (n_then (c_seq (c_block (c_seq ?_))))
      have e15 : ((16 + k : Nat) : Int) - 15 = (((sched b k).length - 15 : Nat) : Int) := by omega
      have f15 := filled_get (l := sched b k) (i := (sched b k).length - 15) (by omega)
      have e2 : ((16 + k : Nat) : Int) - 2 = (((sched b k).length - 2 : Nat) : Int) := by omega
      have f2 := filled_get (l := sched b k) (i := (sched b k).length - 2) (by omega)
      have e16 : ((16 + k : Nat) : Int) - 16 = (((sched b k).length - 16 : Nat) : Int) := by omega
      have f16 := filled_get (l := sched b k) (i := (sched b k).length - 16) (by omega)
      have e7 : ((16 + k : Nat) : Int) - 7 = (((sched b k).length - 7 : Nat) : Int) := by omega
      have f7 := filled_get (l := sched b k) (i := (sched b k).length - 7) (by omega)
      have hlen : (filled (sched b k)).length = 64 := filled_len (by omega)
      refine c_grow 9 [0, 2, 5, 6, 62] (by kernel_rfl) (by kernel_rfl) ?_
      refine f_move rfl rfl ?_
      refine f_bin (r := I (((sched b k).length - 15 : Nat) : Int)) rfl rfl rfl (fun w _ => by rw [← e15]; exact r_sub_i (by omega) (by omega)) ?_
      refine f_indexAddr rfl rfl rfl (fun w _ => r_ix64 _ (by omega)) ?_
      refine f_load (r := U32 ((sched b k).getD ((sched b k).length - 15) 0)) rfl rfl (fun w' hw => by rw [← f15]; exact r_ldU (b7.ext hw) _ (by omega)) ?_
      refine f_move rfl rfl ?_
      refine f_bin (r := I (((sched b k).length - 2 : Nat) : Int)) rfl rfl rfl (fun w _ => by rw [← e2]; exact r_sub_i (by omega) (by omega)) ?_
      refine f_indexAddr rfl rfl rfl (fun w _ => r_ix64 _ (by omega)) ?_
      refine f_load (r := U32 ((sched b k).getD ((sched b k).length - 2) 0)) rfl rfl (fun w' hw => by rw [← f2]; exact r_ldU (b7.ext hw) _ (by omega)) ?_
      refine f_assign rfl rfl (f_nil ?_)
      intro w8 hx8
      rintro _ rfl _ rfl _ rfl _ rfl _ rfl
      refine o_assign rfl rfl (o_nil (n_then ?_))
      have b12 := b7.ext hx8
      refine c_grow 29 [0, 2, 5, 90, 91] (by kernel_rfl) (by kernel_rfl) ?_
      refine f_move rfl rfl (f_move rfl rfl ?_)
      refine f_bin (r := I (((sched b k).length - 16 : Nat) : Int)) rfl rfl rfl (fun w _ => by rw [← e16]; exact r_sub_i (by omega) (by omega)) ?_
      refine f_indexAddr rfl rfl rfl (fun w _ => r_ix64 _ (by omega)) ?_
      refine f_load (r := U32 ((sched b k).getD ((sched b k).length - 16) 0)) rfl rfl (fun w' hw => by rw [← f16]; exact r_ldU (b12.ext hw) _ (by omega)) ?_
      refine f_move rfl rfl ?_
      refine f_call (S := Is (U32 (rotr _ 7))) call_right (Stable.is _) rfl (fun w' _ => by
        rintro _ rfl _ rfl
        exact Ret.mono (right_spec 7 (by omega) (by omega)) fun v w'' h => ⟨h.1, h.2⟩) ?_
      refine f_move rfl rfl ?_
      refine f_call (S := Is (U32 (rotr _ 18))) call_right (Stable.is _) rfl (fun w' _ => by
        rintro _ rfl _ rfl
        exact Ret.mono (right_spec 18 (by omega) (by omega)) fun v w'' h => ⟨h.1, h.2⟩) ?_
      refine f_bin rfl rfl rfl (fun w _ => r_xor_u32) ?_
      refine f_move rfl rfl ?_
      refine f_bin rfl rfl rfl (fun w _ => r_shr_u32 3 (by omega)) ?_
      refine f_bin rfl rfl rfl (fun w _ => r_xor_u32) ?_
      refine f_bin rfl rfl rfl (fun w _ => r_add_u32) ?_
      refine f_move rfl rfl ?_
      refine f_bin (r := I (((sched b k).length - 7 : Nat) : Int)) rfl rfl rfl (fun w _ => by rw [← e7]; exact r_sub_i (by omega) (by omega)) ?_
      refine f_indexAddr rfl rfl rfl (fun w _ => r_ix64 _ (by omega)) ?_
      refine f_load (r := U32 ((sched b k).getD ((sched b k).length - 7) 0)) rfl rfl (fun w' hw => by rw [← f7]; exact r_ldU (b12.ext hw) _ (by omega)) ?_
      refine f_bin rfl rfl rfl (fun w _ => r_add_u32) ?_
      refine f_move rfl rfl ?_
      refine f_call (S := Is (U32 (rotr _ 17))) call_right (Stable.is _) rfl (fun w' _ => by
        rintro _ rfl _ rfl
        exact Ret.mono (right_spec 17 (by omega) (by omega)) fun v w'' h => ⟨h.1, h.2⟩) ?_
      refine f_move rfl rfl ?_
      refine f_call (S := Is (U32 (rotr _ 19))) call_right (Stable.is _) rfl (fun w' _ => by
        rintro _ rfl _ rfl
        exact Ret.mono (right_spec 19 (by omega) (by omega)) fun v w'' h => ⟨h.1, h.2⟩) ?_
      refine f_bin rfl rfl rfl (fun w _ => r_xor_u32) ?_
      refine f_move rfl rfl ?_
      refine f_bin rfl rfl rfl (fun w _ => r_shr_u32 10 (by omega)) ?_
      refine f_bin rfl rfl rfl (fun w _ => r_xor_u32) ?_
      refine f_bin rfl rfl rfl (fun w _ => r_add_u32) ?_
      refine f_indexAddr rfl rfl rfl (fun w _ => r_ix64 (16 + k) (by omega)) ?_
      refine f_nil ?_
      intro w13 hx13
      rintro _ rfl _ rfl _ rfl _ rfl _ rfl
      refine o_store rfl rfl (r_stU (x := nextW (sched b k)) (b12.ext hx13) (16 + k) (by omega)) ?_
      have b13 := (b12.ext hx13).setU (16 + k) (nextW (sched b k))
      have q13 := ((q7.trans (gb_ext hx8)).trans (gb_ext hx13)).trans (grownBy_setCell w13 g2 (16 + k) (U32 (nextW (sched b k))))
      have hset : (filled (sched b k)).set (16 + k) (nextW (sched b k)) = filled (sched b (k + 1)) := by
        have := filled_set (l := sched b k) (nextW (sched b k)) (by omega)
        rw [hL] at this
        exact this
      rw [hset] at b13
      refine o_nil (n_block (n_then (c_region (o_move rfl rfl ?_))))
      refine o_bin rfl rfl rfl (r_add_i (by omega) (by omega)) ?_
      refine o_assign rfl rfl (o_nil ?_)
      exact n_round (k + 1) ⟨rfl, rfl, rfl, trivial⟩ ⟨q13, b13, by omega⟩ (by omega)
    · have hk' : k = 48 := by omega
      subst hk'
      have hf : filled (sched b 48) = sched b 48 := by
        unfold filled
        rw [hL]
        exact List.append_nil _
      rw [hf] at b7
      exact c_exit (x_then (x_then (x_here (n_meet () ⟨rfl, rfl, trivial⟩ ⟨q7, b7⟩))))
  clear q7 b7
  rintro _ w7 ⟨q7, b7⟩
  have hc7 := hc1.other q7 neg
  refine n_then (c_seq (c_region (o_move rfl rfl ?_)))
  refine o_nilCheck rfl rfl ?_
  refine o_fieldAddr rfl rfl r_fS ?_
  refine o_load rfl rfl hc7.ldS ?_
  have hlen8 : (Tryz.prog.info? 66).map (·.size) = some (s.map U32).length := by rw [List.length_map, hs]; exact size8
  obtain ⟨g8, w8, hr, n8, x8, b8⟩ := r_allocB (P := Tryz.prog) (w := w7) (l := (List.replicate 8 0).map U32) zero8 rfl
  refine o_alloc rfl hr ?_
  refine o_store rfl rfl (r_stA b8 (by simp [hs]) hlen8 (one_of _)) ?_
  have b8' := b8.row (s.map U32)
  have q8 := grownBy_setRow w8 g8 (s.map U32).toArray
  have l28 : g2 < g8 := Nat.lt_of_lt_of_le b7.lt n8
  have lg7 := hc7.lt
  have ne28 : some g2 ≠ some g8 := fun h => by cases h; omega
  have neg8 : some g ≠ some g8 := fun h => by cases h; omega
  have D2 := (b7.ext x8).other q8 ne28
  have hc8 := (hc7.ext x8).other q8 neg8
  have Q8 : w.grownBy (w8.setRow g8 (s.map U32).toArray) (some g) := by
    have h1 : Ext w w7 := x1.of_new q7 n2
    exact gb_ext ((h1.trans x8).of_new q8 (by have := h1.size; omega))
  revert b8' D2 hc8 Q8
  generalize w8.setRow g8 (s.map U32).toArray = w9
  intro b9 D2 hc9 Q9
  refine o_nil (n_then ?_)
  refine c_seq (c_cut (fun _ : Unit => [(0, .pointer (some ⟨g, 0, none⟩)), (8, .pointer (some ⟨g8, 0, none⟩))]) (fun _ w' => w9.grownBy w' (some g8) ∧ Blk g8 66 ((rounds b s 64).map U32) w') ?_ ?_)
  · refine c_seq (c_region ?_)
    refine o_call (vs := []) call_constants rfl rfl (constants_spec w9) ?_
    rintro _ w10 ⟨x10, rfl⟩
    refine o_move rfl rfl (o_nil (n_then (c_block ?_)))
    refine c_loop (α := Nat) (fun i => [(0, .pointer (some ⟨g, 0, none⟩)), (2, .pointer (some ⟨g2, 0, none⟩)), (8, .pointer (some ⟨g8, 0, none⟩)), (96, .agg (kc.map U32).toArray), (97, I (i : Int))])
      (fun i w' => w9.grownBy w' (some g8) ∧ Blk g8 66 ((rounds b s i).map U32) w' ∧ i ≤ 64) (fun i => 64 - i) 0 ⟨rfl, rfl, rfl, rfl, rfl, trivial⟩
      ⟨gb_ext x10, b9.ext x10, by omega⟩ ?_
    clear x10 w10
    rintro i w10 ⟨q10, b10, hi⟩
    have hv8 := rounds_len b s hs i
    refine c_seq (c_region ?_)
    refine o_bin rfl rfl rfl (r_lss_i) ?_
    refine o_nil (n_then (c_seq ?_))
    refine c_if rfl (fun h => ?_) (fun h => ?_)
    · have hi64 : i < 64 := by omega
      have hkc : kc.length = 64 := rfl
      have hsl : (sched b 48).length = 64 := sched_len b 48
      refine c_skip (n_then (c_seq (c_block (c_seq (c_region (o_move rfl rfl ?_))))))
      refine o_index rfl rfl rfl (r_idx (l := kc.map U32) Tryz.underlying95 size_u32 Tryz.underlying65 hi64 .i64 (mapU_get (by omega))) ?_
      refine o_assign rfl rfl (o_assign rfl rfl (o_nil (n_then (c_seq ?_))))
      have V := b10
      have K6 := D2.other q10 ne28
      refine c_grow 5 [0, 2, 8, 9, 10, 11, 96, 97, 104] (by kernel_rfl) (by kernel_rfl) ?_
      refine f_indexAddr rfl rfl rfl (fun w _ => r_ix8 0 (by omega)) ?_
      refine f_load rfl rfl (fun w' hw => r_ldU (V.ext hw) 0 (by omega)) ?_
      refine f_indexAddr rfl rfl rfl (fun w _ => r_ix8 4 (by omega)) ?_
      refine f_load rfl rfl (fun w' hw => r_ldU (V.ext hw) 4 (by omega)) ?_
      refine f_assign rfl rfl (f_nil ?_)
      intro w11 hx11
      rintro _ rfl _ rfl _ rfl _ rfl _ rfl _ rfl _ rfl _ rfl _ rfl
      refine o_assign rfl rfl (o_nil (n_then (c_seq ?_)))
      replace V := V.ext hx11
      replace K6 := K6.ext hx11
      refine c_grow 28 [0, 2, 8, 11, 96, 97, 132] (by kernel_rfl) (by kernel_rfl) ?_
      refine f_indexAddr rfl rfl rfl (fun w _ => r_ix8 7 (by omega)) ?_
      refine f_load rfl rfl (fun w' hw => r_ldU (V.ext hw) 7 (by omega)) ?_
      refine f_move rfl rfl ?_
      refine f_call (S := Is (U32 (rotr _ 6))) call_right (Stable.is _) rfl (fun w' _ => by
        rintro _ rfl _ rfl
        exact Ret.mono (right_spec 6 (by omega) (by omega)) fun v w'' h => ⟨h.1, h.2⟩) ?_
      refine f_move rfl rfl ?_
      refine f_call (S := Is (U32 (rotr _ 11))) call_right (Stable.is _) rfl (fun w' _ => by
        rintro _ rfl _ rfl
        exact Ret.mono (right_spec 11 (by omega) (by omega)) fun v w'' h => ⟨h.1, h.2⟩) ?_
      refine f_bin rfl rfl rfl (fun w _ => r_xor_u32) ?_
      refine f_move rfl rfl ?_
      refine f_call (S := Is (U32 (rotr _ 25))) call_right (Stable.is _) rfl (fun w' _ => by
        rintro _ rfl _ rfl
        exact Ret.mono (right_spec 25 (by omega) (by omega)) fun v w'' h => ⟨h.1, h.2⟩) ?_
      refine f_bin rfl rfl rfl (fun w _ => r_xor_u32) ?_
      refine f_bin rfl rfl rfl (fun w _ => r_add_u32) ?_
      refine f_move rfl rfl ?_
      refine f_indexAddr rfl rfl rfl (fun w _ => r_ix8 5 (by omega)) ?_
      refine f_load rfl rfl (fun w' hw => r_ldU (V.ext hw) 5 (by omega)) ?_
      refine f_bin rfl rfl rfl (fun w _ => r_and_u32) ?_
      refine f_move rfl rfl ?_
      refine f_not rfl rfl (fun w _ => r_compl_u32) ?_
      refine f_indexAddr rfl rfl rfl (fun w _ => r_ix8 6 (by omega)) ?_
      refine f_load rfl rfl (fun w' hw => r_ldU (V.ext hw) 6 (by omega)) ?_
      refine f_bin rfl rfl rfl (fun w _ => r_and_u32) ?_
      refine f_bin rfl rfl rfl (fun w _ => r_xor_u32) ?_
      refine f_bin rfl rfl rfl (fun w _ => r_add_u32) ?_
      refine f_move rfl rfl ?_
      refine f_bin rfl rfl rfl (fun w _ => r_add_u32) ?_
      refine f_move rfl rfl ?_
      refine f_indexAddr rfl rfl rfl (fun w _ => r_ix64 i (by omega)) ?_
      refine f_load rfl rfl (fun w' hw => r_ldU (K6.ext hw) i (by omega)) ?_
      refine f_bin rfl rfl rfl (fun w _ => r_add_u32) ?_
      refine f_nil ?_
      intro w12 hx12
      rintro _ rfl _ rfl _ rfl _ rfl _ rfl _ rfl _ rfl
      refine o_assign rfl rfl (o_nil (n_then (c_seq ?_)))
      replace V := V.ext hx12
      refine c_grow 24 [0, 2, 8, 13, 96, 97, 156] (by kernel_rfl) (by kernel_rfl) ?_
      refine f_move rfl rfl ?_
      refine f_call (S := Is (U32 (rotr _ 2))) call_right (Stable.is _) rfl (fun w' _ => by
        rintro _ rfl _ rfl
        exact Ret.mono (right_spec 2 (by omega) (by omega)) fun v w'' h => ⟨h.1, h.2⟩) ?_
      refine f_move rfl rfl ?_
      refine f_call (S := Is (U32 (rotr _ 13))) call_right (Stable.is _) rfl (fun w' _ => by
        rintro _ rfl _ rfl
        exact Ret.mono (right_spec 13 (by omega) (by omega)) fun v w'' h => ⟨h.1, h.2⟩) ?_
      refine f_bin rfl rfl rfl (fun w _ => r_xor_u32) ?_
      refine f_move rfl rfl ?_
      refine f_call (S := Is (U32 (rotr _ 22))) call_right (Stable.is _) rfl (fun w' _ => by
        rintro _ rfl _ rfl
        exact Ret.mono (right_spec 22 (by omega) (by omega)) fun v w'' h => ⟨h.1, h.2⟩) ?_
      refine f_bin rfl rfl rfl (fun w _ => r_xor_u32) ?_
      refine f_move rfl rfl ?_
      refine f_indexAddr rfl rfl rfl (fun w _ => r_ix8 1 (by omega)) ?_
      refine f_load rfl rfl (fun w' hw => r_ldU (V.ext hw) 1 (by omega)) ?_
      refine f_bin rfl rfl rfl (fun w _ => r_and_u32) ?_
      refine f_move rfl rfl ?_
      refine f_indexAddr rfl rfl rfl (fun w _ => r_ix8 2 (by omega)) ?_
      refine f_load rfl rfl (fun w' hw => r_ldU (V.ext hw) 2 (by omega)) ?_
      refine f_bin rfl rfl rfl (fun w _ => r_and_u32) ?_
      refine f_bin rfl rfl rfl (fun w _ => r_xor_u32) ?_
      refine f_indexAddr rfl rfl rfl (fun w _ => r_ix8 1 (by omega)) ?_
      refine f_load rfl rfl (fun w' hw => r_ldU (V.ext hw) 1 (by omega)) ?_
      refine f_indexAddr rfl rfl rfl (fun w _ => r_ix8 2 (by omega)) ?_
      refine f_load rfl rfl (fun w' hw => r_ldU (V.ext hw) 2 (by omega)) ?_
      refine f_bin rfl rfl rfl (fun w _ => r_and_u32) ?_
      refine f_bin rfl rfl rfl (fun w _ => r_xor_u32) ?_
      refine f_bin rfl rfl rfl (fun w _ => r_add_u32) ?_
      refine f_nil ?_
      intro w13 hx13
      rintro _ rfl _ rfl _ rfl _ rfl _ rfl _ rfl _ rfl
      refine o_assign rfl rfl (o_nil (n_then (c_region (o_move rfl rfl (o_move rfl rfl ?_)))))
      replace V := V.ext hx13
      refine o_bin rfl rfl rfl (r_add_u32) ?_
      refine o_indexAddr rfl rfl rfl (r_ix8 0 (by omega)) ?_
      refine o_load rfl rfl (r_ldU V 0 (by omega)) ?_
      refine o_indexAddr rfl rfl rfl (r_ix8 1 (by omega)) ?_
      refine o_load rfl rfl (r_ldU V 1 (by omega)) ?_
      refine o_indexAddr rfl rfl rfl (r_ix8 2 (by omega)) ?_
      refine o_load rfl rfl (r_ldU V 2 (by omega)) ?_
      refine o_indexAddr rfl rfl rfl (r_ix8 3 (by omega)) ?_
      refine o_load rfl rfl (r_ldU V 3 (by omega)) ?_
      refine o_move rfl rfl ?_
      refine o_bin rfl rfl rfl (r_add_u32) ?_
      refine o_indexAddr rfl rfl rfl (r_ix8 4 (by omega)) ?_
      refine o_load rfl rfl (r_ldU V 4 (by omega)) ?_
      refine o_indexAddr rfl rfl rfl (r_ix8 5 (by omega)) ?_
      refine o_load rfl rfl (r_ldU V 5 (by omega)) ?_
      refine o_indexAddr rfl rfl rfl (r_ix8 6 (by omega)) ?_
      refine o_load rfl rfl (r_ldU V 6 (by omega)) ?_
      refine o_build rfl rfl (run_build _ _ _ ((rounds b s (i + 1)).map U32).toArray (by kernel_rfl)) ?_
      have hn8 := rounds_len b s hs (i + 1)
      refine o_store rfl rfl (r_stA V (by simp [hv8, hn8]) (by rw [List.length_map, hn8]; exact size8) (one_of _)) ?_
      have V' := V.row ((rounds b s (i + 1)).map U32)
      have q14 := (q10.trans (gb_ext ((hx11.trans hx12).trans hx13))).trans (grownBy_setRow w13 g8 ((rounds b s (i + 1)).map U32).toArray)
      refine o_nil (n_block (n_then (c_region ?_)))
      refine o_bin rfl rfl rfl (r_add_i (by omega) (by omega)) ?_
      refine o_move rfl rfl (o_nil ?_)
      exact n_round (i + 1) ⟨rfl, rfl, rfl, rfl, rfl, trivial⟩ ⟨q14, V', by omega⟩ (by omega)
    · have hi' : i = 64 := by omega
      subst hi'
      exact c_exit (x_then (x_then (x_here (n_meet () ⟨rfl, rfl, trivial⟩ ⟨q10, b10⟩))))
  rintro _ w10 ⟨q10, b10⟩
  refine n_then ?_
  have hv8 := rounds_len b s hs 64
  have hc10 := hc9.other q10 neg8
  have ha0 : added s (rounds b s 64) 0 = s := by simp [added]
  refine c_seq (c_cut (fun _ : Unit => [(0, .pointer (some ⟨g, 0, none⟩))]) (fun _ w' => w10.grownBy w' (some g) ∧ HC g (added s (rounds b s 64) 8) b u tot w') ?_ ?_)
  · refine c_seq (c_region ?_)
    refine o_load rfl rfl (r_ldA (m := (rounds b s 64).map U32) b10 (fun j v h => by rwa [Nat.zero_add]) Tryz.underlying66 rfl (by rw [List.length_map, hv8]; exact size8)) ?_
    refine o_move rfl rfl (o_nil (n_then (c_block ?_)))
    refine c_loop (α := Nat) (fun i => [(0, .pointer (some ⟨g, 0, none⟩)), (178, .agg ((rounds b s 64).map U32).toArray), (179, I (i : Int))])
      (fun i w' => w10.grownBy w' (some g) ∧ HC g (added s (rounds b s 64) i) b u tot w' ∧ i ≤ 8) (fun i => 8 - i) 0 ⟨rfl, rfl, rfl, trivial⟩
      ⟨gb_ext (Ext.refl _), by rw [ha0]; exact hc10, by omega⟩ ?_
    rintro i w11 ⟨q11, c11, hi⟩
    refine c_seq (c_region ?_)
    refine o_bin rfl rfl rfl (r_lss_i) ?_
    refine o_nil (n_then (c_seq ?_))
    refine c_if rfl (fun h => ?_) (fun h => ?_)
    · have hi8 : i < 8 := by omega
      have hag := added_get hs hv8 hi8
      refine c_skip (n_then (c_seq (c_block (c_seq (c_region (o_move rfl rfl ?_))))))
      refine o_index rfl rfl rfl (r_idx (l := (rounds b s 64).map U32) Tryz.underlying66 size_u32 Tryz.underlying65 hi8 .i64 (mapU_get (by omega))) ?_
      refine o_assign rfl rfl (o_assign rfl rfl (o_nil (n_then ?_)))
      refine c_grow 11 [0, 178, 179, 190, 193] (by kernel_rfl) (by kernel_rfl) ?_
      refine f_move rfl rfl (f_move rfl rfl ?_)
      refine f_nilCheck rfl rfl ?_
      refine f_fieldAddr rfl rfl (fun w _ => r_fS) ?_
      refine f_indexAddr rfl rfl rfl (fun w _ => r_ix8 i (by omega)) ?_
      refine f_load (r := U32 (s.getD i 0)) rfl rfl (fun w' hw => by rw [← hag]; exact r_load1 Tryz.underlying65 rfl ((c11.ext hw).cellS hi8)) ?_
      refine f_move rfl rfl ?_
      refine f_bin rfl rfl rfl (fun w _ => r_add_u32) ?_
      refine f_nilCheck rfl rfl ?_
      refine f_fieldAddr rfl rfl (fun w _ => r_fS) ?_
      refine f_indexAddr rfl rfl rfl (fun w _ => r_ix8 i (by omega)) ?_
      refine f_nil ?_
      intro w12 hx12
      rintro _ rfl _ rfl _ rfl _ rfl _ rfl
      have hcl := hcells_len (u := u) (tot := tot) c11.ls c11.lb
      refine o_store rfl rfl (r_store1 size_u32 rfl (c11.ext hx12).hb (by rw [List.size_toArray, hcl]; omega)) ?_
      have c12 := (c11.ext hx12).setS i hi8 (s.getD i 0 + (rounds b s 64).getD i 0)
      rw [added_set hs hv8 hi8] at c12
      have q12 := (q11.trans (gb_ext hx12)).trans (grownBy_setCell w12 g i (U32 (s.getD i 0 + (rounds b s 64).getD i 0)))
      refine o_nil (n_block (n_then (c_region ?_)))
      refine o_bin rfl rfl rfl (r_add_i (by omega) (by omega)) ?_
      refine o_move rfl rfl (o_nil ?_)
      exact n_round (i + 1) ⟨rfl, rfl, rfl, trivial⟩ ⟨q12, c12, by omega⟩ (by omega)
    · have hi' : i = 8 := by omega
      subst hi'
      exact c_exit (x_then (x_then (x_here (n_meet () ⟨rfl, trivial⟩ ⟨q11, c11⟩))))
  rintro _ w11 ⟨q11, c11⟩
  rw [added_all hs hv8] at c11
  have hcl := hcells_len (u := u) (tot := tot) c11.ls c11.lb
  refine n_then (c_region (o_move rfl rfl ?_))
  refine o_nilCheck rfl rfl ?_
  refine o_fieldAddr rfl rfl r_fU ?_
  refine o_store rfl rfl (r_store1 (i := 72) size_int rfl c11.hb (by rw [List.size_toArray, hcl]; omega)) ?_
  have c12 := c11.setU 0
  refine o_nil ?_
  refine n_body0 rfl ?_
  refine ⟨_, rfl, ?_, c12⟩
  have Q10 : w.grownBy w10 (some g) := by
    have h : w.grownBy w9 (some g) := Q9
    refine ⟨q10.os.trans h.os, q10.tape.trans h.tape, q10.output.trans h.output, Nat.le_trans h.size q10.size, fun k hk hne => ?_⟩
    exact (q10.block k (Nat.lt_of_lt_of_le hk h.size) (fun he => by cases he; omega)).trans (h.block k hk hne)
  exact (Q10.trans q11).trans (grownBy_setCell w11 g 72 (I 0))
end Go.Rl
/- The hash behind a message: plain facts, copying into its block, slices elsewhere. Conditions: each names its own. -/
namespace Go.Rl
open Go.RowKit Go.Proofs

/-- The hash at block g behind the message m. -/
def HA (g : Nat) (m : List UInt8) (tot : UInt64) (w : World) : Prop := ∃ blk, HC g (sh m) blk ((m.length % 64 : Nat) : Int) tot w ∧ blk.take (m.length % 64) = m.drop (64 * (m.length / 64))
theorem HA.ext {g : Nat} {m : List UInt8} {tot : UInt64} {w w' : World} (h : HA g m tot w) (hx : Ext w w') : HA g m tot w' := by
  obtain ⟨blk, h1, h2⟩ := h
  exact ⟨blk, h1.ext hx, h2⟩
theorem HA.other {g : Nat} {m : List UInt8} {tot : UInt64} {w w' : World} {row : Option Nat} (h : HA g m tot w) (hg : w.grownBy w' row) (hne : some g ≠ row) : HA g m tot w' := by
  obtain ⟨blk, h1, h2⟩ := h
  exact ⟨blk, h1.other hg hne, h2⟩
theorem HA.lt {g : Nat} {m : List UInt8} {tot : UInt64} {w : World} (h : HA g m tot w) : g < w.heap.size := by
  obtain ⟨blk, h1, h2⟩ := h
  exact h1.lt

/-- Bytes y behind m, not filling the block. -/
theorem sh_part (m y : List UInt8) (h : m.length % 64 + y.length < 64) : sh (m ++ y) = sh m := by
  have hm : m = m.take (64 * (m.length / 64)) ++ m.drop (64 * (m.length / 64)) := (List.take_append_drop _ _).symm
  have hl : (m.take (64 * (m.length / 64))).length = 64 * (m.length / 64) := by simp; omega
  have hd : (m.drop (64 * (m.length / 64))).length = m.length % 64 := by simp; omega
  rw [hm, List.append_assoc, sh_tail _ _ (by omega) (by rw [List.length_append, hd]; exact h), sh_tail _ _ (by omega) (by omega)]
/-- .. and filling it. -/
theorem sh_full (m y : List UInt8) (h : m.length % 64 + y.length = 64) : sh (m ++ y) = cmpr (sh m) (m.drop (64 * (m.length / 64)) ++ y) := by
  have hm : m = m.take (64 * (m.length / 64)) ++ m.drop (64 * (m.length / 64)) := (List.take_append_drop _ _).symm
  have hl : (m.take (64 * (m.length / 64))).length = 64 * (m.length / 64) := by simp; omega
  have hd : (m.drop (64 * (m.length / 64))).length = m.length % 64 := by simp; omega
  have e1 : sh (m ++ y) = sh (m.take (64 * (m.length / 64)) ++ (m.drop (64 * (m.length / 64)) ++ y)) := by
    rw [← List.append_assoc, List.take_append_drop]
  have e2 : sh m = sh (m.take (64 * (m.length / 64))) := by
    conv => lhs; rw [hm]
    exact sh_tail _ _ (by omega) (by omega)
  rw [e1, e2, sh_block _ _ (by omega) (by rw [List.length_append, hd]; exact h)]

/-- A slice that lies in another block. -/
def Away (g : Nat) (v : Value) : Prop := ∀ a n c, v = .slice (some a) n c → a.block ≠ g
theorem Bts.away {l : List UInt8} {v : Value} {g : Nat} {w w' : World} (h : Bts l v w) (ha : 0 < l.length → Away g v) (hg : w.grownBy w' (some g)) : Bts l v w' := by
  obtain ⟨A, n, c, rfl, h1, h2, h3, h4, h5⟩ := h
  refine ⟨A, n, c, rfl, h1, h2, h3, fun hn => ?_, h5⟩
  obtain ⟨ad, rfl, hc⟩ := h4 hn
  have hlen : 0 < l.length := by
    have : l.length = n := by simpa using h3
    omega
  refine ⟨ad, rfl, fun j u hu => ?_⟩
  have hb : (ad.add j).block = ad.block := by unfold Addr.add; split <;> rfl
  exact hg.cell (hc j u hu) (by rw [hb]; intro he; exact ha hlen ad n c rfl (Option.some.inj he))
theorem r_slB_away {l : List UInt8} {v : Value} {g : Nat} {w : World} (h : Bts l v w) {lo : Nat} (hlo : lo ≤ l.length) (ha : Away g v) :
    ∃ r, (∀ w' : World, (Instr.sliceAt 28 v (some (I (lo : Int))) none none).run Tryz.prog w' = .ok r w') ∧ Bts (l.drop lo) r w ∧ Away g r := by
  obtain ⟨r, hr, hb⟩ := r_slB_lo h hlo .i64
  refine ⟨r, hr, hb, ?_⟩
  obtain ⟨A, n, c, rfl, h1, h2, h3, h4, h5⟩ := h
  have hln : lo ≤ n := by
    have : l.length = n := by simpa using h3
    omega
  have hbd : (Instr.sliceBounds true n c (some (.int .i64 (lo : Int))) none none).run Tryz.prog w = .ok (lo, n, c) w := by
    have a2 := run_sliceBound (P := Tryz.prog) (w := w) .i64 (lo : Int) n .sliceB (by omega) (by omega)
    simp only [Int.toNat_natCast] at a2
    simp [Instr.sliceBounds, a2]
  have hrun : (Instr.sliceAt 28 (.slice A n c) (some (.int .i64 (lo : Int))) none none).run Tryz.prog w = .ok (.slice (if c = lo then A else A.map (·.add (lo * 1))) (n - lo) (c - lo)) w := by
    simp [Instr.sliceAt, Instr.slice, run_underlying Tryz.underlying28, hbd, r_sizeOf size_u8]
  have e := (hr w).symm.trans hrun
  simp only [Result.ok.injEq, and_true] at e
  subst e
  intro a n' c' he
  simp only [Value.slice.injEq] at he
  obtain ⟨he, _, _⟩ := he
  split at he
  · exact ha a n c (by rw [he])
  · obtain ⟨a0, h0, rfl⟩ := Option.map_eq_some_iff.1 he
    have : (a0.add (lo * 1)).block = a0.block := by unfold Addr.add; split <;> rfl
    rw [this]
    exact ha a0 n c (by rw [h0])
/-- copy into the block of a hash -/
theorem r_copyH {g : Nat} {st : List UInt32} {blk x : List UInt8} {u : Int} {tot : UInt64} {w : World} {v : Value} {ty : TypeId} {o : Nat} (h : HC g st blk u tot w) (ho : o < 64) (hx : Bts x v w) (hne : 0 < x.length) :
    ∃ w', (Builtin.copy_ #[28, 28] ty #[.slice (some ⟨g, 8 + o, none⟩) (64 - o) (64 - o), v]).run Tryz.prog w = .ok (I ((min x.length (64 - o) : Nat) : Int)) w' ∧ w.grownBy w' (some g) ∧
      HC g st (blk.take o ++ x.take (64 - o) ++ blk.drop (o + min x.length (64 - o))) u tot w' := by
  obtain ⟨A, n, c, rfl, h1, h2, h3, h4, h5⟩ := hx
  have hxn : x.length = n := by simpa using h3
  obtain ⟨ad, rfl, hc⟩ := h4 (by omega)
  have hcs : ((x.take (64 - o)).map U8).length = min n (64 - o) := by simp [hxn, Nat.min_comm]
  have hr := run_copy_row (P := Tryz.prog) w 28 28 ty 5 g (8 + o) (64 - o) (64 - o) ad n c _ 108 ((x.take (64 - o)).map U8) Tryz.underlying28 size_u8 h.hb hcs
    (fun j u hj => hc j u (by
      rw [List.map_take, List.getElem?_take] at hj
      split at hj
      · exact hj
      · cases hj)) (by rw [hcs, List.size_toArray, hcells_len h.ls h.lb]; omega) (one_ofB _)
  rw [hcs] at hr
  refine ⟨_, by rw [hxn]; exact hr, grownBy_setRow _ _ _, ?_, h.ls, ?_⟩
  · have := h.hb.row (hcells st (blk.take o ++ x.take (64 - o) ++ blk.drop (o + min n (64 - o))) u tot)
    rw [hxn]
    have e : ((hcells st blk u tot).toArray.toList.take (8 + o) ++ (x.take (64 - o)).map U8 ++ (hcells st blk u tot).toArray.toList.drop (8 + o + min n (64 - o))) = hcells st (blk.take o ++ x.take (64 - o) ++ blk.drop (o + min n (64 - o))) u tot := by
      have l8 : (st.map U32).length = 8 := by simp [h.ls]
      have l64 : (blk.map U8).length = 64 := by simp [h.lb]
      unfold hcells
      rw [List.take_append, l8, List.drop_append, l8, show 8 + o - 8 = o by omega, show 8 + o + min n (64 - o) - 8 = o + min n (64 - o) by omega]
      rw [List.take_of_length_le (by omega), List.drop_eq_nil_of_le (by omega), List.nil_append]
      rw [List.take_append, l64, show o - 64 = 0 by omega, List.take_zero, List.append_nil, List.drop_append, l64, show o + min n (64 - o) - 64 = 0 by omega, List.drop_zero]
      simp only [List.map_append, List.map_take, List.map_drop, List.append_assoc]
    rw [e]
    exact this
  · simp only [List.length_append, List.length_take, List.length_drop, h.lb]; omega
end Go.Rl
/- Walks of Write, New, Clone of the digest. Conditions: the hash is not nil, the bytes lie elsewhere, all is short. -/
namespace Go.Rl
open Go.RowKit Go.Proofs

theorem call_Write : Callable Tryz.prog 47 := ⟨_, Tryz.func47, by kernel_rfl, rfl⟩
theorem call_HNew : Callable Tryz.prog 46 := ⟨_, Tryz.func46, by kernel_rfl, rfl⟩

theorem Write_spec {w : World} {g : Nat} {m x : List UInt8} {tot : UInt64} {v : Value} (hh : HA g m tot w) (hx : Bts x v w) (ha : 0 < x.length → Away g v) :
    Calls Tryz.prog 47 #[.pointer (some ⟨g, 0, none⟩), v] w (Ret fun _ w' => w.grownBy w' (some g) ∧ HA g (m ++ x) (tot + UInt64.ofNat x.length) w') := by
  refine enter (vs := [.pointer (some ⟨g, 0, none⟩), v]) Tryz.func47 rfl rfl rfl ?_
  refine c_seq (c_seq (c_region (o_move rfl rfl ?_)))
  refine o_bin rfl rfl rfl (r_eqnilp Tryz.underlying80) ?_
  refine o_nil (n_then ?_)
  refine c_no rfl ?_
  refine c_skip (n_then (c_seq (c_region (o_move rfl rfl ?_))))
  obtain ⟨blk0, hc0, ht0⟩ := hh
  refine o_nilCheck rfl rfl ?_
  refine o_fieldAddr rfl rfl r_fT ?_
  refine o_load rfl rfl (r_load1 Tryz.underlying64 rfl hc0.cellT) ?_
  refine o_move rfl rfl ?_
  refine o_len rfl rfl (r_lenB hx) ?_
  refine o_conv rfl rfl (r_n_u64 Tryz.underlying3 Tryz.underlying64) ?_
  refine o_bin rfl rfl rfl (r_add_u64) ?_
  refine o_nilCheck rfl rfl ?_
  refine o_fieldAddr rfl rfl r_fT ?_
  have hcl0 := hcells_len (u := ((m.length % 64 : Nat) : Int)) (tot := tot) hc0.ls hc0.lb
  refine o_store rfl rfl (r_store1 (i := 73) size_u64 rfl hc0.hb (by rw [List.size_toArray, hcl0]; omega)) ?_
  have hc1 := hc0.setT (tot + UInt64.ofNat x.length)
  have q1 := grownBy_setCell w g 73 (U64 (tot + UInt64.ofNat x.length))
  have hx1 := hx.away ha q1
  revert hc1 q1 hx1
  generalize w.setCell ⟨g, 73, none⟩ (U64 (tot + UInt64.ofNat x.length)) = w1
  intro hc1 q1 hx1
  refine o_nil (n_then (c_block ?_))
  refine c_loop (α := Nat × Value) (fun p => [(0, .pointer (some ⟨g, 0, none⟩)), (1, p.2)])
    (fun p w' => HA g (m ++ x.take p.1) (tot + UInt64.ofNat x.length) w' ∧ Bts (x.drop p.1) p.2 w' ∧ (0 < (x.drop p.1).length → Away g p.2) ∧ w.grownBy w' (some g) ∧ p.1 ≤ x.length) (fun p => x.length - p.1) (0, v) ⟨rfl, rfl, trivial⟩
    ⟨by simpa using ⟨blk0, hc1, ht0⟩, by simpa using hx1, by simpa using ha, q1, by simp⟩ ?_
  rintro ⟨k, b⟩ w2 ⟨⟨blk, hc2, ht2⟩, hb2, ha2, q2, hk⟩
  dsimp only at hc2 ht2 hb2 ha2 q2 hk
  have hm' : ∃ m', m' = m ++ x.take k := ⟨_, rfl⟩
  obtain ⟨m', hm'⟩ := hm'
  rw [← hm'] at hc2 ht2
  refine c_seq (c_seq (c_region (o_move rfl rfl ?_)))
  refine o_len rfl rfl (r_lenB hb2) ?_
  refine o_bin rfl rfl rfl (r_gtr_i) ?_
  refine o_nil (n_then ?_)
  refine c_if rfl (fun h => ?_) (fun h => ?_)
  · have hlt : 0 < (x.drop k).length := by omega
    have hu : m'.length % 64 < 64 := Nat.mod_lt _ (by omega)
    refine c_skip (n_then (c_block (c_seq ?_)))
    refine c_grow 9 [0, 1, 27, 28] (by kernel_rfl) (by kernel_rfl) ?_
    refine f_move rfl rfl ?_
    refine f_nilCheck rfl rfl ?_
    refine f_fieldAddr rfl rfl (fun w _ => r_fB) ?_
    refine f_move rfl rfl ?_
    refine f_nilCheck rfl rfl ?_
    refine f_fieldAddr rfl rfl (fun w _ => r_fU) ?_
    refine f_load rfl rfl (fun w' hw => r_load1 Tryz.underlying3 rfl (hc2.ext hw).cellU) ?_
    refine f_slice (a := some (I ((m'.length % 64 : Nat) : Int))) (b := none) rfl rfl rfl rfl (fun w _ => r_slH hu) ?_
    refine f_move rfl rfl (f_nil ?_)
    intro w3 hx3
    rintro _ rfl _ rfl _ rfl _ rfl
    have hc3 := hc2.ext hx3
    obtain ⟨w4, hr, q4, hc4⟩ := r_copyH (ty := 3) hc3 hu (hb2.ext hx3) hlt
    obtain ⟨n, hn⟩ : ∃ n, n = min (x.drop k).length (64 - m'.length % 64) := ⟨_, rfl⟩
    rw [← hn] at hr hc4
    have hxk : (x.drop k).length = x.length - k := List.length_drop
    have hn1 : n ≤ x.length - k := by omega
    have hn2 : m'.length % 64 + n ≤ 64 := by omega
    have hn0 : 0 < n := by omega
    refine o_copy rfl rfl hr ?_
    refine o_assign rfl rfl (o_nil (n_then (c_seq (c_region (o_move rfl rfl ?_)))))
    refine o_nilCheck rfl rfl ?_
    refine o_fieldAddr rfl rfl r_fU ?_
    refine o_load rfl rfl (r_load1 Tryz.underlying3 rfl hc4.cellU) ?_
    refine o_move rfl rfl ?_
    have e1 : ((m'.length % 64 : Nat) : Int) + (n : Int) = ((m'.length % 64 + n : Nat) : Int) := by omega
    refine o_bin (r := I ((m'.length % 64 + n : Nat) : Int)) rfl rfl rfl (by rw [← e1]; exact r_add_i (by omega) (by omega)) ?_
    refine o_nilCheck rfl rfl ?_
    refine o_fieldAddr rfl rfl r_fU ?_
    have hcl4 := hcells_len (u := ((m'.length % 64 : Nat) : Int)) (tot := tot + UInt64.ofNat x.length) hc4.ls hc4.lb
    refine o_store rfl rfl (r_store1 (i := 72) size_int rfl hc4.hb (by rw [List.size_toArray, hcl4]; omega)) ?_
    have hc5 := hc4.setU ((m'.length % 64 + n : Nat) : Int)
    have q5 := q4.trans (grownBy_setCell w4 g 72 (I ((m'.length % 64 + n : Nat) : Int)))
    revert hc5 q5
    generalize w4.setCell ⟨g, 72, none⟩ (I ((m'.length % 64 + n : Nat) : Int)) = w5
    intro hc5 q5
    have hb5 := (hb2.ext hx3).away ha2 q5
    have q25 := (q2.trans (gb_ext hx3)).trans q5
    refine o_nil (n_then (c_seq (c_region (o_move rfl rfl (o_move rfl rfl ?_)))))
    obtain ⟨b6, hr6, hb6, ha6⟩ := r_slB_away hb5 (lo := n) (by omega) (ha2 hlt)
    rw [List.drop_drop] at hb6
    refine o_slice (a := some (I (n : Int))) (b := none) rfl rfl rfl rfl rfl (hr6 _) ?_
    refine o_assign rfl rfl (o_nil (n_then (c_seq (c_region (o_move rfl rfl ?_)))))
    refine o_nilCheck rfl rfl ?_
    refine o_fieldAddr rfl rfl r_fU ?_
    refine o_load rfl rfl (r_load1 Tryz.underlying3 rfl hc5.cellU) ?_
    refine o_bin rfl rfl rfl (r_eql_i) ?_
    refine o_nil (n_then ?_)
    have hyl : ((x.drop k).take (64 - m'.length % 64)).length = n := by rw [List.length_take, hn, Nat.min_comm]
    have hyn : (x.drop k).take (64 - m'.length % 64) = (x.drop k).take n := by
      rw [hn]
      rcases Nat.le_total (x.drop k).length (64 - m'.length % 64) with h1 | h1
      · rw [Nat.min_eq_left h1, List.take_of_length_le h1, List.take_length]
      · rw [Nat.min_eq_right h1]
    have hmy : m ++ x.take (k + n) = m' ++ (x.drop k).take (64 - m'.length % 64) := by
      rw [hyn, hm', List.append_assoc, ← List.take_add]
    obtain ⟨y, hy⟩ : ∃ y, y = (x.drop k).take (64 - m'.length % 64) := ⟨_, rfl⟩
    rw [← hy] at hc5 hyl hmy
    have hmd : (m'.drop (64 * (m'.length / 64))).length = m'.length % 64 := by rw [List.length_drop]; omega
    have hml : (m' ++ y).length = m'.length + n := by rw [List.length_append, hyl]
    refine c_if rfl (fun h => ?_) (fun h => ?_)
    · have hfull : m'.length % 64 + n = 64 := by omega
      refine c_region (o_move rfl rfl ?_)
      refine o_call call_process rfl rfl (process_spec hc5) ?_
      rintro _ w6 ⟨q6, hc6⟩
      refine o_nil (n_block ?_)
      refine n_round (k + n, b6) ⟨rfl, rfl, trivial⟩ ⟨?_, hb6.away (fun _ => ha6) q6, fun _ => ha6, q25.trans q6, by show k + n ≤ x.length; omega⟩ (by show x.length - (k + n) < x.length - k; omega)
      show HA g (m ++ x.take (k + n)) _ w6
      rw [hmy]
      have e0 : (m' ++ y).length % 64 = 0 := by rw [hml]; omega
      have hd0 : blk.drop (m'.length % 64 + n) = [] := List.drop_eq_nil_of_le (by rw [hc2.lb]; omega)
      rw [hd0, List.append_nil] at hc6
      have hdd : (m' ++ y).drop (64 * ((m' ++ y).length / 64)) = [] := List.drop_eq_nil_of_le (by omega)
      refine ⟨blk.take (m'.length % 64) ++ y, ?_, by rw [e0, hdd, List.take_zero]⟩
      rw [e0, sh_full m' y (by omega), ← ht2]
      exact hc6
    · have hpart : m'.length % 64 + n < 64 := by omega
      refine c_skip (n_block ?_)
      refine n_round (k + n, b6) ⟨rfl, rfl, trivial⟩ ⟨?_, hb6, fun _ => ha6, q25, by show k + n ≤ x.length; omega⟩ (by show x.length - (k + n) < x.length - k; omega)
      show HA g (m ++ x.take (k + n)) _ w5
      rw [hmy]
      have e0 : (m' ++ y).length % 64 = m'.length % 64 + n := by rw [hml]; omega
      have e2 : (m' ++ y).length / 64 = m'.length / 64 := by rw [hml]; omega
      refine ⟨_, by rw [e0, sh_part m' y (by omega)]; exact hc5, ?_⟩
      rw [e0, e2, List.drop_append_of_le_length (by omega), ← ht2]
      rw [List.take_append_of_le_length (by rw [List.length_append, List.length_take, hc2.lb, hyl]; omega)]
      exact List.take_of_length_le (by rw [List.length_append, List.length_take, hc2.lb, hyl]; omega)
  · have hk' : k = x.length := by
      have : (x.drop k).length = x.length - k := List.length_drop
      omega
    refine c_exit (x_then (x_then (x_here ?_)))
    refine n_body0 rfl ?_
    refine ⟨_, rfl, q2, ?_⟩
    rw [hk', List.take_length] at hm'
    rw [hm'] at hc2 ht2
    exact ⟨blk, hc2, ht2⟩

theorem New0_spec (w : World) : Calls Tryz.prog 46 #[] w (Ret fun r w' => Ext w w' ∧ ∃ g, w.heap.size ≤ g ∧ r = .pointer (some ⟨g, 0, none⟩) ∧ HA g [] 0 w') := by
  refine enter (vs := []) Tryz.func46 rfl rfl rfl ?_
  refine c_seq (c_region (o_assign rfl rfl (o_nil (n_then (c_seq (c_region ?_))))))
  refine o_build rfl rfl (run_build _ _ _ (iv.map U32).toArray (by kernel_rfl)) ?_
  refine o_build rfl rfl (run_build _ _ _ (hcells iv (List.replicate 64 0) 0 0).toArray (by kernel_rfl)) ?_
  obtain ⟨g, w1, hr, n1, x1, b1⟩ := r_boxB (P := Tryz.prog) (w := w) (t := 108) (v := .agg (hcells iv (List.replicate 64 0) 0 0).toArray) (l := hcells iv (List.replicate 64 0) 0 0) rfl
  refine o_box rfl rfl hr ?_
  refine o_assign rfl rfl (o_nil (n_then (c_ret ?_)))
  refine r_body1 rfl rfl ?_
  exact ⟨_, rfl, x1, g, n1, rfl, List.replicate 64 0, ⟨b1, rfl, by simp⟩, rfl⟩

theorem HC.ldH {g : Nat} {st : List UInt32} {blk : List UInt8} {u : Int} {tot : UInt64} {w : World} (h : HC g st blk u tot w) : (Instr.loadAt 108 (.pointer (some ⟨g, 0, none⟩))).run Tryz.prog w = .ok (.agg (hcells st blk u tot).toArray) w :=
  r_ldA (m := hcells st blk u tot) h.hb (fun j v hj => by rwa [Nat.zero_add]) Tryz.underlying108 rfl (by rw [hcells_len h.ls h.lb]; exact size_Hash)
theorem one_h {st : List UInt32} {blk : List UInt8} {u : Int} {tot : UInt64} : ∀ v ∈ hcells st blk u tot, v.oneCell' = true := by
  intro v hv
  unfold hcells at hv
  rcases List.mem_append.1 hv with h | h
  · exact one_of _ v h
  · rcases List.mem_append.1 h with h | h
    · exact one_ofB _ v h
    · simp only [List.mem_cons, List.not_mem_nil, or_false] at h
      rcases h with rfl | rfl <;> rfl
end Go.Rl
/- Walk of the digest's Sum. Conditions: the hash is not nil, the message is short. -/
namespace Go.Rl
open Go.RowKit Go.Proofs

theorem call_HSum : Callable Tryz.prog 48 := ⟨_, Tryz.func48, by kernel_rfl, rfl⟩
theorem zero8b : (Tryz.prog.info? 109).map (·.zero) = some (some (.agg (List.replicate 8 (U8 0)).toArray)) := by kernel_rfl
theorem away_own {g k : Nat} {v : Value} (h : v.ownBlock = some k) (hne : k ≠ g) : Away g v := by
  rintro a n c rfl
  intro he
  have : some a.block = some k := h
  exact hne (by rw [← Option.some.inj this]; exact he)
theorem be8_get (n : UInt64) {i : Nat} (hi : i < 8) : (be8 n).getD i 0 = (n >>> UInt64.ofNat (56 - 8 * i)).toUInt8 := by
  simp [be8, hi]
section
variable {w : World} {g o : Nat} {T : TypeId}
theorem r_ix8b (i : Nat) (hi : i < 8) : (Instr.indexAt 109 (.pointer (some ⟨g, 0, none⟩)) (I (i : Int))).run Tryz.prog w = .ok (.pointer (some ⟨g, i, none⟩)) w := by
  have := r_ixA (P := Tryz.prog) (w := w) (g := g) (o := 0) Tryz.underlying109 size_u8 hi .i64
  rwa [Nat.zero_add] at this
theorem r_sl8b : (Instr.sliceAt 109 (.pointer (some ⟨g, 0, none⟩)) none none none).run Tryz.prog w = .ok (.slice (some ⟨g, 0, none⟩) 8 8) w := by
  simp [Instr.sliceAt, run_underlying Tryz.underlying109, Instr.sureAddr, Instr.sliceBounds, r_sizeOf size_u8, Addr.add_mid]
theorem Blk.bts {m : List UInt8} (h : Blk g T (m.map U8) w) (hm : m.length ≤ 64) : Bts m (.slice (some ⟨g, 0, none⟩) m.length m.length) w :=
  ⟨_, _, _, rfl, Nat.le_refl _, by unfold maxLen; omega, by simp, fun _ => ⟨_, rfl, fun j v hj => by rw [Addr.add_mid, Nat.zero_add]; exact h.cell hj⟩, fun h => by cases h⟩
end

theorem HSum_spec {w : World} {g : Nat} {m : List UInt8} (hh : HA g m (UInt64.ofNat m.length) w) :
    Calls Tryz.prog 48 #[.pointer (some ⟨g, 0, none⟩)] w (Ret fun r w' => Ext w w' ∧ r = .agg ((dig m).map U8).toArray) := by
  obtain ⟨blk, hc, ht⟩ := hh
  refine enter (vs := [.pointer (some ⟨g, 0, none⟩)]) Tryz.func48 rfl rfl rfl ?_
  obtain ⟨g2, w1, hr, n2, x1, b2⟩ := r_allocB (P := Tryz.prog) (w := w) (l := (List.replicate 32 0).map U8) zero32 rfl
  refine c_seq (c_region (o_alloc rfl hr (o_nil (n_then (c_seq (c_seq (c_region (o_move rfl rfl ?_))))))))
  refine o_bin rfl rfl rfl (r_eqnilp Tryz.underlying80) ?_
  refine o_nil (n_then ?_)
  refine c_no rfl ?_
  refine c_skip (n_then (c_seq (c_region (o_move rfl rfl ?_))))
  refine o_nilCheck rfl rfl ?_
  refine o_load rfl rfl (hc.ext x1).ldH ?_
  obtain ⟨g3, w2, hr, n3, x2, b3⟩ := r_allocB (P := Tryz.prog) (w := w1) (l := hcells (List.replicate 8 0) (List.replicate 64 0) 0 0) zero_Hash rfl
  refine o_alloc rfl hr ?_
  have hl := hcells_len (u := ((m.length % 64 : Nat) : Int)) (tot := UInt64.ofNat m.length) hc.ls hc.lb
  refine o_store rfl rfl (r_stA b3 (by rw [hl]; rfl) (by rw [hl]; exact size_Hash) one_h) ?_
  have hA : HA g3 m (UInt64.ofNat m.length) (w2.setRow g3 (hcells (sh m) blk ((m.length % 64 : Nat) : Int) (UInt64.ofNat m.length)).toArray) := ⟨blk, ⟨b3.row _, hc.ls, hc.lb⟩, ht⟩
  have q3 := grownBy_setRow w2 g3 (hcells (sh m) blk ((m.length % 64 : Nat) : Int) (UInt64.ofNat m.length)).toArray
  have l23 : g2 < g3 := Nat.lt_of_lt_of_le b2.lt n3
  have ne23 : some g2 ≠ some g3 := fun h => by cases h; omega
  have hw3 : w.heap.size ≤ g3 := by omega
  have B2 := (b2.ext x2).other q3 ne23
  have E3 := (x1.trans x2).of_new q3 hw3
  revert hA B2 E3
  generalize w2.setRow g3 (hcells (sh m) blk ((m.length % 64 : Nat) : Int) (UInt64.ofNat m.length)).toArray = w3
  intro hA B2 E3
  refine o_nil (n_then (c_seq (c_region ?_)))
  refine o_fieldAddr rfl rfl r_fT ?_
  obtain ⟨blk', hcA, htA⟩ := id hA
  refine o_load rfl rfl (r_load1 Tryz.underlying64 rfl hcA.cellT) ?_
  refine o_bin (v := U64 8) rfl rfl rfl (r_mul_u64) ?_
  refine o_assign rfl rfl (o_nil (n_then (c_seq (c_region ?_))))
  obtain ⟨r4, w4, hr, x4, o4, ob4⟩ := r_bsB (w := w3) w3.heap.size [128] (by simp) (Nat.le_refl _)
  refine o_buildSlice (vs := [(0, U8 128)]) rfl rfl hr ?_
  refine o_call call_Write rfl rfl (Write_spec (hA.ext x4) o4.bts (fun _ => away_own ob4 (by have := hA.lt; omega))) ?_
  rintro _ w5 ⟨q5, h5⟩
  have B5 := (B2.ext x4).other q5 ne23
  have E5 := (E3.trans x4).of_new q5 hw3
  refine o_nil (n_then ?_)
  have hp : padZ m.length < 64 := by unfold padZ; omega
  refine c_seq (c_cut (fun _ : Unit => [(2, .pointer (some ⟨g2, 0, none⟩)), (3, .pointer (some ⟨g3, 0, none⟩)), (4, U64 (UInt64.ofNat m.length * 8))]) (fun _ w' => Ext w w' ∧ Blk g2 35 ((List.replicate 32 0).map U8) w' ∧ ∃ tot, HA g3 (m ++ [128] ++ List.replicate (padZ m.length) 0) tot w') ?_ ?_)
  · refine c_block ?_
    refine c_loop (α := Nat) (fun _ => [(2, .pointer (some ⟨g2, 0, none⟩)), (3, .pointer (some ⟨g3, 0, none⟩)), (4, U64 (UInt64.ofNat m.length * 8))])
      (fun k w' => Ext w w' ∧ Blk g2 35 ((List.replicate 32 0).map U8) w' ∧ (∃ tot, HA g3 (m ++ [128] ++ List.replicate k 0) tot w') ∧ k ≤ padZ m.length) (fun k => padZ m.length - k) 0 ⟨rfl, rfl, rfl, trivial⟩
      ⟨E5, B5, ⟨_, by simpa using h5⟩, by omega⟩ ?_
    rintro k w6 ⟨E6, B6, ⟨tot, h6⟩, hk⟩
    obtain ⟨blk6, hc6, ht6⟩ := id h6
    have hm : (m ++ [128] ++ List.replicate k 0).length = m.length + 1 + k := by simp; omega
    refine c_seq (c_seq (c_region ?_))
    refine o_fieldAddr rfl rfl r_fU ?_
    refine o_load rfl rfl (r_load1 Tryz.underlying3 rfl hc6.cellU) ?_
    refine o_bin rfl rfl rfl (r_neq_i) ?_
    refine o_nil (n_then ?_)
    rw [hm]
    refine c_if rfl (fun h => ?_) (fun h => ?_)
    · have hlt : k < padZ m.length := by
        rcases Nat.lt_or_ge k (padZ m.length) with h1 | h1
        · exact h1
        · have : k = padZ m.length := by omega
          subst this
          exfalso
          unfold padZ at h
          omega
      refine c_skip (n_then (c_block (c_region ?_)))
      obtain ⟨r7, w7, hr, x7, o7, ob7⟩ := r_bsB (w := w6) w6.heap.size [0] (by simp) (Nat.le_refl _)
      refine o_buildSlice (vs := [(0, U8 0)]) rfl rfl hr ?_
      refine o_call call_Write rfl rfl (Write_spec (h6.ext x7) o7.bts (fun _ => away_own ob7 (by have := h6.lt; omega))) ?_
      rintro _ w8 ⟨q8, h8⟩
      refine o_nil (n_block ?_)
      rw [List.append_assoc _ (List.replicate k 0) [0], ← List.replicate_succ'] at h8
      exact n_round (k + 1) ⟨rfl, rfl, rfl, trivial⟩ ⟨(E6.trans x7).of_new q8 hw3, (B6.ext x7).other q8 ne23, ⟨_, h8⟩, hlt⟩ (by omega)
    · have hk' : k = padZ m.length := by
        unfold padZ at hk hp ⊢
        omega
      subst hk'
      exact c_exit (x_then (x_then (x_here (n_meet () ⟨rfl, rfl, rfl, trivial⟩ ⟨E6, B6, tot, h6⟩))))
  rintro _ w6 ⟨E6, B6, tot6, h6⟩
  refine n_then (c_seq (c_region ?_))
  obtain ⟨bits, hbits⟩ : ∃ b, b = UInt64.ofNat m.length * 8 := ⟨_, rfl⟩
  rw [← hbits]
  have hb8 := be8_len bits
  obtain ⟨g5, w7, hr, n5, x7, b7⟩ := r_allocB (P := Tryz.prog) (w := w6) (l := (fillB (be8 bits) 8 0).map U8) zero8b rfl
  refine o_alloc rfl hr (o_nil (n_then ?_))
  have l35 : g3 < g5 := Nat.lt_of_lt_of_le h6.lt n5
  have ne25 : some g2 ≠ some g5 := fun h => by cases h; omega
  have ne35 : some g3 ≠ some g5 := fun h => by cases h; omega
  refine c_seq (c_cut (fun _ : Unit => [(2, .pointer (some ⟨g2, 0, none⟩)), (3, .pointer (some ⟨g3, 0, none⟩)), (5, .pointer (some ⟨g5, 0, none⟩))]) (fun _ w' => w7.grownBy w' (some g5) ∧ Blk g5 109 ((be8 bits).map U8) w') ?_ ?_)
  · refine c_seq (c_region (o_move rfl rfl (o_nil (n_then (c_block ?_)))))
    refine c_loop (α := Nat) (fun i => [(2, .pointer (some ⟨g2, 0, none⟩)), (3, .pointer (some ⟨g3, 0, none⟩)), (4, U64 bits), (5, .pointer (some ⟨g5, 0, none⟩)), (27, I (i : Int))])
      (fun i w' => w7.grownBy w' (some g5) ∧ Blk g5 109 ((fillB (be8 bits) 8 i).map U8) w' ∧ i ≤ 8) (fun i => 8 - i) 0 ⟨rfl, rfl, rfl, rfl, rfl, trivial⟩
      ⟨gb_ext (Ext.refl _), b7, by omega⟩ ?_
    rintro i w8 ⟨q8, b8, hi⟩
    refine c_seq (c_region ?_)
    refine o_bin rfl rfl rfl (r_lss_i) ?_
    refine o_nil (n_then (c_seq ?_))
    refine c_if rfl (fun h => ?_) (fun h => ?_)
    · have hi8 : i < 8 := by omega
      have hfl := fillB_len (j := i) hb8 (by omega)
      have e6 : (56 : Int) - 8 * (i : Int) = ((56 - 8 * i : Nat) : Int) := by omega
      refine c_skip (n_then (c_seq (c_block (c_seq (c_region (o_move rfl rfl (o_assign rfl rfl (o_nil (n_then (c_region (o_move rfl rfl (o_move rfl rfl (o_move rfl rfl ?_)))))))))))))
      refine o_bin rfl rfl rfl (r_mul_i (by omega) (by omega)) ?_
      refine o_bin (r := I ((56 - 8 * i : Nat) : Int)) rfl rfl rfl (by rw [← e6]; exact r_sub_i (by omega) (by omega)) ?_
      refine o_bin rfl rfl rfl (r_shr_u64 (56 - 8 * i) (by omega)) ?_
      refine o_conv rfl rfl (r_u64_u8 Tryz.underlying64 Tryz.underlying5) ?_
      refine o_indexAddr rfl rfl rfl (r_ix8b i hi8) ?_
      refine o_store rfl rfl (r_stB b8 i (by omega)) ?_
      have b9 := b8.setB i (bits >>> UInt64.ofNat (56 - 8 * i)).toUInt8
      have hset : (fillB (be8 bits) 8 i).set i (bits >>> UInt64.ofNat (56 - 8 * i)).toUInt8 = fillB (be8 bits) 8 (i + 1) := by
        rw [← be8_get bits hi8]
        exact fillB_set hb8 hi8
      rw [hset] at b9
      refine o_nil (n_block (n_then (c_region ?_)))
      refine o_bin rfl rfl rfl (r_add_i (by omega) (by omega)) ?_
      refine o_move rfl rfl (o_nil ?_)
      exact n_round (i + 1) ⟨rfl, rfl, rfl, rfl, rfl, trivial⟩ ⟨q8.trans (grownBy_setCell w8 g5 i _), b9, by omega⟩ (by omega)
    · have hi' : i = 8 := by omega
      subst hi'
      rw [fillB_all hb8] at b8
      exact c_exit (x_then (x_then (x_here (n_meet () ⟨rfl, rfl, rfl, trivial⟩ ⟨q8, b8⟩))))
  rintro _ w8 ⟨q8, b8⟩
  have E8 : Ext w w8 := (E6.trans x7).of_new q8 (by omega)
  have B8 := (B6.ext x7).other q8 ne25
  have h8 := (h6.ext x7).other q8 ne35
  refine n_then (c_seq (c_region ?_))
  refine o_slice (a := none) (b := none) rfl rfl rfl rfl rfl r_sl8b ?_
  have bt8 := b8.bts (by omega)
  rw [hb8] at bt8
  refine o_call call_Write rfl rfl (Write_spec h8 bt8 (by rintro _ a n c he; cases he; show g5 ≠ g3; omega)) ?_
  rintro _ w9 ⟨q9, h9⟩
  have hpad : m ++ [128] ++ List.replicate (padZ m.length) 0 ++ be8 bits = padded m := by rw [hbits]; rfl
  rw [hpad] at h9
  have E9 := E8.of_new q9 hw3
  have B9 := B8.other q9 ne23
  refine o_nil (n_then (c_seq (c_region ?_)))
  obtain ⟨g7, w10, hr, n7, x10, b10⟩ := r_allocB (P := Tryz.prog) (w := w9) (l := (fillB (dig m) 32 0).map U8) zero32 rfl
  refine o_alloc rfl hr (o_nil (n_then ?_))
  obtain ⟨blk9, hc9, _⟩ := h9.ext x10
  have l37 : g3 < g7 := Nat.lt_of_lt_of_le h9.lt n7
  have ne27 : some g2 ≠ some g7 := fun h => by cases h; omega
  have hs8 := sh_len (padded m)
  have hdl := dig_len m
  refine c_seq (c_cut (fun _ : Unit => [(2, .pointer (some ⟨g2, 0, none⟩)), (7, .pointer (some ⟨g7, 0, none⟩))]) (fun _ w' => w10.grownBy w' (some g7) ∧ Blk g7 35 ((dig m).map U8) w') ?_ ?_)
  · refine c_seq (c_region ?_)
    refine o_fieldAddr rfl rfl r_fS ?_
    refine o_load rfl rfl hc9.ldS ?_
    refine o_move rfl rfl (o_nil (n_then (c_block ?_)))
    refine c_loop (α := Nat) (fun i => [(2, .pointer (some ⟨g2, 0, none⟩)), (7, .pointer (some ⟨g7, 0, none⟩)), (42, .agg ((sh (padded m)).map U32).toArray), (43, I (i : Int))])
      (fun i w' => w10.grownBy w' (some g7) ∧ Blk g7 35 ((fillB (dig m) 32 (4 * i)).map U8) w' ∧ i ≤ 8) (fun i => 8 - i) 0 ⟨rfl, rfl, rfl, rfl, trivial⟩
      ⟨gb_ext (Ext.refl _), b10, by omega⟩ ?_
    rintro i w11 ⟨q11, b11, hi⟩
    refine c_seq (c_region ?_)
    refine o_bin rfl rfl rfl (r_lss_i) ?_
    refine o_nil (n_then (c_seq ?_))
    refine c_if rfl (fun h => ?_) (fun h => ?_)
    · have hi8 : i < 8 := by omega
      have e0 : (4 : Int) * (i : Int) = ((4 * i : Nat) : Int) := by omega
      have e1 : ((4 * i : Nat) : Int) + 1 = ((4 * i + 1 : Nat) : Int) := by omega
      have e2 : ((4 * i : Nat) : Int) + 2 = ((4 * i + 2 : Nat) : Int) := by omega
      have e3 : ((4 * i : Nat) : Int) + 3 = ((4 * i + 3 : Nat) : Int) := by omega
      have s0 := fillB_len (j := 4 * i) hdl (by omega)
      have s1 := fillB_len (j := 4 * i + 1) hdl (by omega)
      have s2 := fillB_len (j := 4 * i + 2) hdl (by omega)
      have s3 := fillB_len (j := 4 * i + 3) hdl (by omega)
      refine c_skip (n_then (c_seq (c_block (c_seq (c_region (o_move rfl rfl ?_))))))
      refine o_index rfl rfl rfl (r_idx (l := (sh (padded m)).map U32) Tryz.underlying66 size_u32 Tryz.underlying65 hi8 .i64 (mapU_get (by omega))) ?_
      refine o_assign rfl rfl (o_assign rfl rfl (o_nil (n_then (c_region (o_move rfl rfl ?_)))))
      refine o_bin (r := I ((4 * i : Nat) : Int)) rfl rfl rfl (by rw [← e0]; exact r_mul_i (by omega) (by omega)) ?_
      refine o_move rfl rfl ?_
      refine o_bin (r := I ((4 * i : Nat) : Int)) rfl rfl rfl (by rw [← e0]; exact r_mul_i (by omega) (by omega)) ?_
      refine o_bin (r := I ((4 * i + 1 : Nat) : Int)) rfl rfl rfl (by rw [← e1]; exact r_add_i (by omega) (by omega)) ?_
      refine o_move rfl rfl ?_
      refine o_bin (r := I ((4 * i : Nat) : Int)) rfl rfl rfl (by rw [← e0]; exact r_mul_i (by omega) (by omega)) ?_
      refine o_bin (r := I ((4 * i + 2 : Nat) : Int)) rfl rfl rfl (by rw [← e2]; exact r_add_i (by omega) (by omega)) ?_
      refine o_move rfl rfl ?_
      refine o_bin (r := I ((4 * i : Nat) : Int)) rfl rfl rfl (by rw [← e0]; exact r_mul_i (by omega) (by omega)) ?_
      refine o_bin (r := I ((4 * i + 3 : Nat) : Int)) rfl rfl rfl (by rw [← e3]; exact r_add_i (by omega) (by omega)) ?_
      refine o_move rfl rfl ?_
      refine o_bin rfl rfl rfl (r_shr_u32 24 (by omega)) ?_
      refine o_conv rfl rfl (r_u32_u8 Tryz.underlying65 Tryz.underlying5) ?_
      refine o_move rfl rfl ?_
      refine o_bin rfl rfl rfl (r_shr_u32 16 (by omega)) ?_
      refine o_conv rfl rfl (r_u32_u8 Tryz.underlying65 Tryz.underlying5) ?_
      refine o_move rfl rfl ?_
      refine o_bin rfl rfl rfl (r_shr_u32 8 (by omega)) ?_
      refine o_conv rfl rfl (r_u32_u8 Tryz.underlying65 Tryz.underlying5) ?_
      refine o_move rfl rfl ?_
      refine o_conv rfl rfl (r_u32_u8 Tryz.underlying65 Tryz.underlying5) ?_
      have d0 : (dig m).getD (4 * i) 0 = ((sh (padded m)).getD i 0 >>> UInt32.ofNat 24).toUInt8 := be4s_get (sh (padded m)) i 0 (by omega) (by omega)
      have d1 : (dig m).getD (4 * i + 1) 0 = ((sh (padded m)).getD i 0 >>> UInt32.ofNat 16).toUInt8 := be4s_get (sh (padded m)) i 1 (by omega) (by omega)
      have d2 : (dig m).getD (4 * i + 2) 0 = ((sh (padded m)).getD i 0 >>> UInt32.ofNat 8).toUInt8 := be4s_get (sh (padded m)) i 2 (by omega) (by omega)
      have d3 : (dig m).getD (4 * i + 3) 0 = ((sh (padded m)).getD i 0).toUInt8 := by
        have := be4s_get (sh (padded m)) i 3 (by omega) (by omega)
        rw [show UInt32.ofNat (24 - 8 * 3) = 0 from rfl, UInt32.shiftRight_zero] at this
        exact this
      have f0 : (fillB (dig m) 32 (4 * i)).set (4 * i) ((dig m).getD (4 * i) 0) = fillB (dig m) 32 (4 * i + 1) := fillB_set hdl (by omega)
      have f1 : (fillB (dig m) 32 (4 * i + 1)).set (4 * i + 1) ((dig m).getD (4 * i + 1) 0) = fillB (dig m) 32 (4 * i + 2) := fillB_set hdl (by omega)
      have f2 : (fillB (dig m) 32 (4 * i + 2)).set (4 * i + 2) ((dig m).getD (4 * i + 2) 0) = fillB (dig m) 32 (4 * i + 3) := fillB_set hdl (by omega)
      have f3 : (fillB (dig m) 32 (4 * i + 3)).set (4 * i + 3) ((dig m).getD (4 * i + 3) 0) = fillB (dig m) 32 (4 * (i + 1)) := fillB_set hdl (by omega)
      rw [d0] at f0
      rw [d1] at f1
      rw [d2] at f2
      rw [d3] at f3
      refine o_indexAddr rfl rfl rfl (r_ix32 (4 * i) (by omega)) ?_
      refine o_store rfl rfl (r_stB b11 (4 * i) (by omega)) ?_
      have b12 := b11.setB (4 * i) ((sh (padded m)).getD i 0 >>> UInt32.ofNat 24).toUInt8
      rw [f0] at b12
      refine o_indexAddr rfl rfl rfl (r_ix32 (4 * i + 1) (by omega)) ?_
      refine o_store rfl rfl (r_stB b12 (4 * i + 1) (by omega)) ?_
      have b13 := b12.setB (4 * i + 1) ((sh (padded m)).getD i 0 >>> UInt32.ofNat 16).toUInt8
      rw [f1] at b13
      refine o_indexAddr rfl rfl rfl (r_ix32 (4 * i + 2) (by omega)) ?_
      refine o_store rfl rfl (r_stB b13 (4 * i + 2) (by omega)) ?_
      have b14 := b13.setB (4 * i + 2) ((sh (padded m)).getD i 0 >>> UInt32.ofNat 8).toUInt8
      rw [f2] at b14
      refine o_indexAddr rfl rfl rfl (r_ix32 (4 * i + 3) (by omega)) ?_
      refine o_store rfl rfl (r_stB b14 (4 * i + 3) (by omega)) ?_
      have b15 := b14.setB (4 * i + 3) ((sh (padded m)).getD i 0).toUInt8
      rw [f3] at b15
      refine o_nil (n_block (n_then (c_region ?_)))
      refine o_bin rfl rfl rfl (r_add_i (by omega) (by omega)) ?_
      refine o_move rfl rfl (o_nil ?_)
      exact n_round (i + 1) ⟨rfl, rfl, rfl, rfl, trivial⟩ ⟨(((q11.trans (grownBy_setCell _ g7 (4 * i) _)).trans (grownBy_setCell _ g7 (4 * i + 1) _)).trans (grownBy_setCell _ g7 (4 * i + 2) _)).trans (grownBy_setCell _ g7 (4 * i + 3) _), b15, by omega⟩ (by omega)
    · have hi' : i = 8 := by omega
      subst hi'
      rw [show 4 * 8 = 32 from rfl, fillB_all hdl] at b11
      exact c_exit (x_then (x_then (x_here (n_meet () ⟨rfl, rfl, trivial⟩ ⟨q11, b11⟩))))
  rintro _ w11 ⟨q11, b11⟩
  have hsz : (Tryz.prog.info? 35).map (·.size) = some ((dig m).map U8).length := by rw [List.length_map, dig_len]; exact size32
  have F2 := (B9.ext x10).other q11 ne27
  have E11 : Ext w w11 := (E9.trans x10).of_new q11 (by omega)
  refine n_then (c_seq (c_region ?_))
  refine o_load rfl rfl (r_ldA (m := (dig m).map U8) b11 (fun j v h => by rwa [Nat.zero_add]) Tryz.underlying35 rfl hsz) ?_
  refine o_store rfl rfl (r_stA F2 (by simp [dig_len]) hsz (one_ofB _)) ?_
  refine o_nil (n_then (c_ret ?_))
  refine r_bodyc rfl rfl (F2.row _) Tryz.underlying35 rfl hsz ?_
  exact ⟨_, rfl, E11.of_new (grownBy_setRow _ _ _) n2, rfl⟩
end Go.Rl
/- Equality of digests, and Sum of bytes. Conditions: the message is short. -/
namespace Go.Rl
open Go.RowKit Go.Proofs

/-- Arrays of bytes, compared. -/
theorem eqItems_u8 {P : Program} {w : World} {e : TypeId} (he : P.underlying e = some (.int .u8)) (d : Nat) (l m : List UInt8) : ∀ (is : List Nat), (∀ i ∈ is, i < l.length ∧ i < m.length) →
    (Op.eqItems (d + 1) e 1 (l.map U8).toArray (m.map U8).toArray is).run P w = .ok (is.all fun i => decide (l.getD i 0 = m.getD i 0)) w
  | [], _ => rfl
  | i :: is, h => by
    obtain ⟨hi, hj⟩ := h i (by simp)
    have hagg : (isAgg e).run P w = .ok false w := by simp [isAgg, run_underlying he]
    have hpart : (part e (l.map U8).toArray (i * 1)).run P w = .ok (U8 l[i]) w := by simp [part, hagg, hi]
    have hpart' : (part e (m.map U8).toArray (i * 1)).run P w = .ok (U8 m[i]) w := by simp [part, hagg, hj]
    have heq : (Op.equalIn (d + 1) e (U8 l[i]) (U8 m[i])).run P w = .ok (decide (l[i] = m[i])) w := by
      have : (decide ((l[i].toNat : Int) = (m[i].toNat : Int))) = decide (l[i] = m[i]) := by
        rw [decide_eq_decide]
        constructor
        · intro h; exact UInt8.toNat_inj.1 (by omega)
        · intro h; rw [h]
      rw [← this]
      simp [Op.equalIn, run_underlying he, U8]
      rfl
    have ih := eqItems_u8 (w := w) he d l m is fun j hj => h j (by simp [hj])
    unfold Op.eqItems
    simp only [Sem.run_bind, hpart, hpart', Result.andThen_ok, heq]
    have e1 : l.getD i 0 = l[i] := by simp [List.getD, hi]
    have e2 : m.getD i 0 = m[i] := by simp [List.getD, hj]
    by_cases hq : l[i] = m[i]
    · simp only [List.all_cons, e1, e2, hq, decide_true, Bool.true_and]
      simpa using ih
    · simp only [List.all_cons, e1, e2, hq, decide_false, Bool.false_and]
      rfl
theorem all_range {l m : List UInt8} {n : Nat} (hl : l.length = n) (hm : m.length = n) : ((List.range n).all fun i => decide (l.getD i 0 = m.getD i 0)) = decide (l = m) := by
  rw [Bool.eq_iff_iff]
  simp only [List.all_eq_true, List.mem_range, decide_eq_true_eq]
  constructor
  · intro h
    refine List.ext_getElem (by omega) fun i h1 h2 => ?_
    have := h i (by omega)
    simpa [List.getD, h1, h2] using this
  · rintro rfl i _; rfl
theorem bin_eql_agg {P : Program} {w : World} {t : TypeId} {x y : Operand} {a b : Array Value} (hg : P.eqGuardType P.depth t = false) : (bin .eql t x y (.agg a) (.agg b)).run P w = (do pure (Value.bool (← Op.equal t (.agg a) (.agg b))) : Sem Value).run P w := by
  show (do eqGuard .eql t x y (.agg a) (.agg b); binOp .eql t (.agg a) (.agg b) : Sem Value).run P w = _
  rw [Sem.run_bind, run_eqGuard_agg (hm := hg)]
  rfl
theorem bin_neq_agg {P : Program} {w : World} {t : TypeId} {x y : Operand} {a b : Array Value} (hg : P.eqGuardType P.depth t = false) : (bin .neq t x y (.agg a) (.agg b)).run P w = (do pure (Value.bool (!(← Op.equal t (.agg a) (.agg b)))) : Sem Value).run P w := by
  show (do eqGuard .neq t x y (.agg a) (.agg b); binOp .neq t (.agg a) (.agg b) : Sem Value).run P w = _
  rw [Sem.run_bind, run_eqGuard_agg (hm := hg)]
  rfl
theorem guard32 : Tryz.prog.eqGuardType Tryz.prog.depth 35 = false := by kernel_rfl
theorem run_eqA {w : World} {l m : List UInt8} (hl : l.length = 32) (hm : m.length = 32) : (Op.equal 35 (.agg (l.map U8).toArray) (.agg (m.map U8).toArray)).run Tryz.prog w = .ok (decide (l = m)) w := by
  show (Op.equalIn (9998 + 1 + 1) 35 _ _).run Tryz.prog w = _
  obtain ⟨i, hi, _⟩ := info_parts info_u8
  rw [run_equalIn_array _ _ _ _ Tryz.underlying35 hi]
  have hc : Tryz.prog.cellsOf 5 = 1 := by kernel_rfl
  rw [hc, eqItems_u8 Tryz.underlying5 9998 l m _ fun i hi => by rw [hl, hm]; simpa using hi]
  rw [all_range hl hm]
theorem r_eqA {w : World} {x y : Operand} {l m : List UInt8} (hl : l.length = 32) (hm : m.length = 32) : (bin .eql 35 x y (.agg (l.map U8).toArray) (.agg (m.map U8).toArray)).run Tryz.prog w = .ok (B (decide (l = m))) w := by
  rw [bin_eql_agg guard32, Sem.run_bind, run_eqA hl hm]; rfl
theorem r_neA {w : World} {x y : Operand} {l m : List UInt8} (hl : l.length = 32) (hm : m.length = 32) : (bin .neq 35 x y (.agg (l.map U8).toArray) (.agg (m.map U8).toArray)).run Tryz.prog w = .ok (B (decide (l ≠ m))) w := by
  rw [bin_neq_agg guard32, Sem.run_bind, run_eqA hl hm]
  show Result.ok (B (!decide (l = m))) w = _
  rw [decide_not]
theorem r_eqlA {w : World} {x y : Operand} {l : List UInt8} (hl : l.length = 32) : (bin .eql 35 x y (.agg (l.map U8).toArray) (.agg (l.map U8).toArray)).run Tryz.prog w = .ok (B true) w := by
  rw [r_eqA hl hl]; simp
theorem r_neqA {w : World} {x y : Operand} {l : List UInt8} (hl : l.length = 32) : (bin .neq 35 x y (.agg (l.map U8).toArray) (.agg (l.map U8).toArray)).run Tryz.prog w = .ok (B false) w := by
  rw [r_neA hl hl, decide_eq_false (fun h => h rfl)]

theorem call_dSum : Callable Tryz.prog 24 := ⟨_, Tryz.func24, by kernel_rfl, rfl⟩
theorem Bts.old {l : List UInt8} {v : Value} {w : World} (h : Bts l v w) {g : Nat} (hg : w.heap.size ≤ g) : 0 < l.length → Away g v := fun h0 a n c he => by
  obtain ⟨A, n', c', rfl, h1, h2, h3, h4, h5⟩ := h
  have hn : l.length = n' := by simpa using h3
  obtain ⟨ad, rfl, hc⟩ := h4 (by omega)
  simp only [Value.slice.injEq, Option.some.injEq] at he
  obtain ⟨rfl, _, _⟩ := he
  have h6 := hc 0 (U8 l[0]) (by simp [h0])
  rw [add_zero] at h6
  have : ad.block < w.heap.size := by
    rcases Nat.lt_or_ge ad.block w.heap.size with h7 | h7
    · exact h7
    · simp [World.cell?, Array.getElem?_eq_none h7] at h6
  omega
end Go.Rl
/- Walk of digest.Sum: it returns the digest. No condition but that the bytes can be read. -/
namespace Go.Rl
open Go.RowKit Go.Proofs

theorem dSum_spec {w : World} {l : List UInt8} {v : Value} (hv : Bts l v w) :
    Calls Tryz.prog 24 #[v] w (Ret fun r w' => Ext w w' ∧ r = .agg ((dig l).map U8).toArray) := by
  refine enter (vs := [v]) Tryz.func24 rfl rfl rfl ?_
  obtain ⟨g2, w1, hr, n2, x1, b2⟩ := r_allocB (P := Tryz.prog) (w := w) (l := (List.replicate 32 0).map U8) zero32 rfl
  refine c_seq (c_region (o_alloc rfl hr (o_nil (n_then (c_seq (c_region ?_))))))
  refine o_call (vs := []) call_HNew rfl rfl (New0_spec w1) ?_
  rintro _ w2 ⟨x2, g, hg, rfl, hA⟩
  refine o_assign rfl rfl (o_nil (n_then (c_seq (c_region (o_move rfl rfl (o_move rfl rfl ?_))))))
  have e2 := x1.trans x2
  refine o_call call_Write rfl rfl (Write_spec hA (hv.ext e2) (hv.old (Nat.le_trans x1.size hg))) ?_
  rintro _ w3 ⟨q3, h3⟩
  rw [List.nil_append, UInt64.zero_add] at h3
  have l2 : g2 < g := Nat.lt_of_lt_of_le b2.lt hg
  have hwg : w.heap.size ≤ g := by omega
  have e3 := e2.of_new q3 hwg
  have B3 := (b2.ext x2).other q3 (fun h => by cases h; omega)
  refine o_nil (n_then (c_seq (c_region (o_move rfl rfl ?_))))
  refine o_call call_HSum rfl rfl (HSum_spec h3) ?_
  rintro _ w4 ⟨x4, rfl⟩
  have hsz : (Tryz.prog.info? 35).map (·.size) = some ((dig l).map U8).length := by rw [List.length_map, dig_len]; exact size32
  have B4 := B3.ext x4
  refine o_store rfl rfl (r_stA B4 (by simp [dig_len]) hsz (one_ofB _)) ?_
  refine o_nil (n_then (c_ret ?_))
  refine r_bodyc rfl rfl (B4.row _) Tryz.underlying35 rfl hsz ?_
  exact ⟨_, rfl, (e3.trans x4).of_new (grownBy_setRow _ _ _) n2, rfl⟩
end Go.Rl
/- model.Encode walked. Conditions: the model is small. -/
namespace Go.Rl
open Go.RowKit Go.Proofs
theorem call_AEncode : Callable Tryz.prog 10 := ⟨_, Tryz.func10, by kernel_rfl, rfl⟩
/-- What Encode returns: bytes and a number. -/
def encRes (m : ModD) : List UInt8 × Int := if validM m = true then (if (fileM m).length ≤ 1048576 then (fileM m, 0) else ([], 8)) else ([], 1)
def EncR (base : Nat) (m : ModD) (r : Value) (w : World) : Prop := ∃ v, r = .tuple #[v, I (encRes m).2] ∧ OwnB base (encRes m).1 v w
/-- A bound of a model's bytes. -/
def lenLs : List LayD → Nat
  | [] => 0
  | l :: t => 90 + lenQs l.ws + lenQs l.bs + lenLs t
theorem lenLs_drop {l : List LayD} {i : Nat} (hi : i < l.length) : lenLs (l.drop i) = 90 + lenQs l[i].ws + lenQs l[i].bs + lenLs (l.drop (i + 1)) := by
  rw [List.drop_eq_getElem_cons hi]; rfl
def lenM (m : ModD) : Nat := 100 + 10 * m.inp.length + lenLs m.lays
theorem encQs_len {l : List RatD} (hs : small l) (hl : l.length ≤ 9223372036854775807) : (encQs l).length ≤ 10 + lenQs l := by
  have hu := uv_len (n := l.length) (by omega)
  have key : ∀ l : List RatD, small l → (l.flatMap encQ).length ≤ lenQs l := by
    intro l
    induction l with
    | nil => intro _; simp
    | cons q l ih =>
      intro hs
      have h1 := hs q (by simp)
      have h2 := encQ_len h1.1 h1.2
      have h3 := ih fun x hx => hs x (by simp [hx])
      simp only [List.flatMap_cons, List.length_append, lenQs]
      omega
  have := key l hs
  simp only [encQs, List.length_append]
  omega
theorem encL_len {l : LayD} (hs : small l.ws ∧ small l.bs) (hw : l.wf) (h1 : l.ws.length ≤ 9223372036854775807) (h2 : l.bs.length ≤ 9223372036854775807) : (encL l).length ≤ 90 + lenQs l.ws + lenQs l.bs := by
  have a := encQs_len hs.1 h1
  have b := encQs_len hs.2 h2
  simp only [LayD.wf, LayD.ints, List.mem_cons, List.not_mem_nil, or_false, forall_eq_or_imp, forall_eq] at hw
  obtain ⟨k1, k2, k3, k4, k5, k6, k7⟩ := hw
  have := encI_len k1
  have := encI_len k2
  have := encI_len k3
  have := encI_len k4
  have := encI_len k5
  have := encI_len k6
  have := encI_len k7
  simp only [encL, LayD.ints, List.flatMap_cons, List.flatMap_nil, List.append_nil, List.length_append]
  omega
theorem ints_len {l : List Int} (h : ∀ n ∈ l, i64 n) : (l.flatMap encI).length ≤ 10 * l.length := by
  induction l with
  | nil => simp
  | cons n l ih =>
    have h1 := encI_len (h n (by simp))
    have h2 := ih fun x hx => h x (by simp [hx])
    simp only [List.flatMap_cons, List.length_append, List.length_cons]
    omega
theorem r_sl32 {w : World} {g : Nat} : (Instr.sliceAt 35 (.pointer (some ⟨g, 0, none⟩)) none none none).run Tryz.prog w = .ok (.slice (some ⟨g, 0, none⟩) 32 32) w := by
  simp [Instr.sliceAt, run_underlying Tryz.underlying35, Instr.sureAddr, Instr.sliceBounds, r_sizeOf size_u8, Addr.add_mid]
theorem r_lenWr {w : World} {t ty : TypeId} {l : List UInt8} {v : Value} (ht : Tryz.prog.underlying t = some (.slice 5)) (h : Bts l v w) : (Builtin.len_ #[t] ty #[v]).run Tryz.prog w = .ok (I l.length) w := by
  obtain ⟨n, hl, _, hr⟩ := r_len (P := Tryz.prog) (ty := ty) ht h
  have : l.length = n := by simpa using hl
  rw [hr, this]
theorem rpx_ints {X : Nat → Prop} {w : World} : ∀ (l : List Int), RpXAll X w (l.map dIn) (l.map I)
  | [] => RpXAll.nil
  | n :: l => RpXAll.cons (a := [I n]) (by simp only [dIn, RpX, I]) (rpx_ints l)
theorem OwnI.rpx {X : Nat → Prop} {w : World} {base : Nat} {l : List Int} {v : Value} (h : OwnI base l v w) (hX : ∀ k, v.ownBlock = some k → ¬ X k) : RpX X w (dInts l) [v] := by
  obtain ⟨n, h⟩ := h
  exact RpX.ofOwn h (rpx_ints l) (by simp [dIn_size]) (by omega) hX
theorem AEncode_spec {w : World} {m : ModD} {x y : Value} (ha : DsV dIn m.inp x w) (hb : DsV dLay m.lays y w) (hs : smallM m) (hw : m.wf) (hl : lenM m ≤ 17592186044416) :
    Calls Tryz.prog 10 #[.agg #[x, y]] w (Ret fun r w' => Ext w w' ∧ EncR w.heap.size m r w') := by
  refine enter (vs := [.agg #[x, y]]) Tryz.func10 rfl rfl rfl ?_
  have hll := hb.len
  have hil := ha.len
  refine c_seq (c_region ?_)
  obtain ⟨g1, w1, hr1, l1, x1, k1⟩ := r_boxS (P := Tryz.prog) (w := w) (T := 25) (cs := [x, y])
  refine o_box rfl rfl hr1 (o_assign rfl rfl (o_assign rfl rfl (o_nil (n_then (c_seq (c_seq ?_))))))
  rcases hc : validM m
  · refine c_region (o_load rfl rfl (k1.ld Tryz.underlying25 rfl (by kernel_rfl)) (o_call call_AValid rfl rfl ((by have := AValid_spec (ha.ext x1) (hb.ext x1) hs (fun l hl => hw.2 l hl l.kd (by simp [LayD.ints])); rw [hc] at this; exact this)) ?_))
    rintro v9 w9 ⟨x9, rfl⟩
    refine o_not rfl rfl r_not (o_nil (n_then (c_yes rfl (c_seq (c_region (o_assign rfl rfl (o_assign rfl rfl (o_nil (n_then (c_ret (r_then (r_body2 rfl rfl rfl ?_))))))))))))
    exact ⟨_, rfl, (x1.trans x9), _, by unfold encRes; rw [hc]; rfl, by unfold encRes; rw [hc]; exact OwnB.nil _ _⟩
  · refine c_region (o_load rfl rfl (k1.ld Tryz.underlying25 rfl (by kernel_rfl)) (o_call call_AValid rfl rfl ((by have := AValid_spec (ha.ext x1) (hb.ext x1) hs (fun l hl => hw.2 l hl l.kd (by simp [LayD.ints])); rw [hc] at this; exact this)) ?_))
    rintro v9 w9 ⟨x9, rfl⟩
    refine o_not rfl rfl r_not (o_nil (n_then (c_no rfl (c_skip (n_then (c_seq ?_))))))
    have ha1 : Rp w1 (dInts m.inp) [x] := ha.ext x1
    have hb1 : DsV dLay m.lays y w1 := hb.ext x1
    have hul := uv_len (n := m.inp.length) (by unfold lenM at hl; omega)
    have hvl := uv_len (n := m.lays.length) (by omega)
    have hin := ints_len hw.1
    have hlm : 100 + 10 * m.inp.length + lenLs m.lays ≤ 17592186044416 := hl
    refine c_region ?_
    obtain ⟨v11, w110, w11, hr11, hc11, x11, b11, ad, hv11, had, hlt⟩ := r_litT (w := w9) (t := 47) Tryz.underlying47 [82, 76, 85, 77] (by simp) (by simp)
    obtain ⟨g, wa, wb, hr4, hs4, x4, hW⟩ := r_newW (T := 47) (t := 47) (z := .slice none 0 0) (w0 := w1) (by kernel_rfl) rfl size_writer (x9.trans x11) b11 hv11 (Nat.le_trans x9.size had) hlt
    refine o_buildSlice (vs := [(0, U8 82), (1, U8 76), (2, U8 85), (3, U8 77)]) rfl rfl hr11 ?_
    refine o_conv rfl rfl hc11 ?_
    refine o_alloc rfl hr4 ?_
    refine o_store rfl rfl hs4 ?_
    refine o_nil (n_then (c_seq (c_region (o_fieldAddr rfl rfl (r_fAt (o := 0) Tryz.underlying25 rfl (by kernel_rfl) rfl) (o_load rfl rfl (r_load1 Tryz.underlying22 rfl (x4.cell_some (k1.cell (i := 0) rfl))) ?_)))))
    refine o_len rfl rfl (r_lenDs Tryz.underlying22 (ha.ext (x1.trans x4))) (o_call call_WCount rfl rfl ((WCount_spec hW x4.size (by simp) (by omega))) ?_)
    rintro v16 w16 ⟨v16, hW16, st16⟩
    have x16 := st16.ext (x4) hW.ge hW.new
    refine o_nil (n_then (c_seq (c_region (o_fieldAddr rfl rfl (r_fAt (o := 0) Tryz.underlying25 rfl (by kernel_rfl) rfl) (o_load rfl rfl (r_load1 Tryz.underlying22 rfl (x16.cell_some (k1.cell (i := 0) rfl))) ?_)))))
    refine o_call call_WInts rfl rfl ((WInts_spec hW16 (x16).size (ha1.wrX (x16) hW16.ge hW16.new) hw.1 (by simp only [List.length_append, List.length_cons, List.length_nil]; omega))) ?_
    rintro v19 w19 ⟨v19, hW19, st19⟩
    have x19 := st19.ext (x16) hW16.ge hW16.new
    refine o_nil (n_then (c_seq (c_region (o_fieldAddr rfl rfl (r_fAt (o := 1) Tryz.underlying25 rfl (by kernel_rfl) rfl) (o_load rfl rfl (r_load1 Tryz.underlying23 rfl (x19.cell_some (k1.cell (i := 1) rfl))) ?_)))))
    refine o_len rfl rfl (r_lenDs Tryz.underlying23 (hb.ext (x1.trans x19))) (o_call call_WCount rfl rfl ((WCount_spec hW19 (x19).size (by simp only [List.length_append, List.length_cons, List.length_nil]; omega) (by omega))) ?_)
    rintro v23 w23 ⟨v23, hW23, st23⟩
    have x23 := st23.ext (x19) hW19.ge hW19.new
    obtain ⟨pre, hpre⟩ : ∃ pre, pre = [82, 76, 85, 77] ++ uv m.inp.length ++ m.inp.flatMap encI ++ uv m.lays.length := ⟨_, rfl⟩
    rw [← hpre] at hW23
    have hpl : pre.length ≤ 24 + 10 * m.inp.length := by rw [hpre]; simp only [List.length_append, List.length_cons, List.length_nil]; omega
    refine o_nil (n_then (c_seq (c_seq (c_region (o_fieldAddr rfl rfl (r_fAt (o := 1) Tryz.underlying25 rfl (by kernel_rfl) rfl) (o_load rfl rfl (r_load1 Tryz.underlying23 rfl (x23.cell_some (k1.cell (i := 1) rfl))) ?_))))))
    refine o_len rfl rfl (r_lenDs Tryz.underlying23 (hb.ext (x1.trans x23))) (o_move rfl rfl (o_nil (n_then (c_block ?_))))
    refine c_loop2 (fun (i : Nat) (u : Value) => [(4, .pointer (some ⟨g, 0, none⟩)), (25, y), (26, I (m.lays.length : Int)), (27, I (i : Int))]) (fun (i : Nat) (u : Value) w' => WrAt 47 w1.heap.size g (pre ++ (m.lays.take i).flatMap encL) u w' ∧ Ext w1 w' ∧ i ≤ m.lays.length ∧ ((m.lays.take i).flatMap encL).length + lenLs (m.lays.drop i) ≤ lenLs m.lays) (fun (i : Nat) (u : Value) => m.lays.length - i) (0) (v23) ⟨rfl, rfl, rfl, rfl, trivial⟩ ⟨by simpa using hW23, x23, by omega, by simp⟩ ?_
    rintro i u wL ⟨hW1, e1, hi, hle⟩
    refine c_seq (c_region (o_bin rfl rfl rfl (r_lss_i) (o_nil (n_then (c_seq ?_)))))
    refine c_if rfl (fun h28 => ?_) (fun h28 => ?_)
    · refine c_skip (n_then (c_seq (c_block (c_seq (c_region ?_)))))
      obtain ⟨a29, c29, p29, q29, h29⟩ := r_ixDs (P := Tryz.prog) (sz := 9) Tryz.underlying23 (by kernel_rfl) dLay_size (by omega) hb1 (i := i) (by omega) .i64
      obtain ⟨e29, he29⟩ : ∃ e, e = m.lays[i]'(by omega) := ⟨_, rfl⟩
      rw [← he29] at h29
      obtain ⟨x29_0, x29_1, rfl, f29_0, f29_1⟩ := dLay_inv h29
      refine o_indexAddr rfl rfl rfl (p29 _) ?_
      have hmem : e29 ∈ m.lays := by rw [he29]; exact List.getElem_mem _
      have hq := hs e29 hmem
      have hwl := hw.2 e29 hmem
      have hlq : lenLs (m.lays.drop i) = 90 + lenQs e29.ws + lenQs e29.bs + lenLs (m.lays.drop (i + 1)) := by rw [lenLs_drop (by omega), ← he29]
      have hLn := encL_len hq hwl f29_0.len f29_1.len
      have hq1 := encQs_len hq.1 f29_0.len
      have hq2 := encQs_len hq.2 f29_1.len
      refine o_load rfl rfl ((q29.ext e1).ld Tryz.underlying46 rfl (by kernel_rfl)) ?_
      obtain ⟨g6, w6, hr6, l6, x6, k6⟩ := r_allocB (P := Tryz.prog) (w := wL) (t := 46) (z := .agg #[I 0, I 0, I 0, I 0, I 0, I 0, I 0, .slice none 0 0, .slice none 0 0]) (l := [I 0, I 0, I 0, I 0, I 0, I 0, I 0, .slice none 0 0, .slice none 0 0]) (by kernel_rfl) rfl
      refine o_alloc rfl hr6 ?_
      obtain ⟨w9_3, s9_3, q9_3, k9_3⟩ := k6.stS (P := Tryz.prog) (t := 46) (m := [I e29.kd, I e29.fr, I e29.ou, I e29.kh, I e29.kw, I e29.sr, I e29.pd, x29_0, x29_1]) rfl (by kernel_rfl) (Ones.cons rfl (Ones.cons rfl (Ones.cons rfl (Ones.cons rfl (Ones.cons rfl (Ones.cons rfl (Ones.cons rfl (Ones.cons f29_0.one (Ones.cons f29_1.one Ones.nil)))))))))
      refine o_store rfl rfl s9_3 ?_
      have x9_3 := Ext.of_new (x6) q9_3 l6
      refine o_nil (n_then (c_seq (c_region (o_fieldAddr rfl rfl (r_fAt (o := 0) Tryz.underlying46 rfl (by kernel_rfl) rfl) (o_load rfl rfl (r_load1 Tryz.underlying3 rfl (k9_3.cell (i := 0) rfl)) ?_)))))
      refine o_fieldAddr rfl rfl (r_fAt (o := 1) Tryz.underlying46 rfl (by kernel_rfl) rfl) (o_load rfl rfl (r_load1 Tryz.underlying3 rfl (k9_3.cell (i := 1) rfl)) ?_)
      refine o_fieldAddr rfl rfl (r_fAt (o := 2) Tryz.underlying46 rfl (by kernel_rfl) rfl) (o_load rfl rfl (r_load1 Tryz.underlying3 rfl (k9_3.cell (i := 2) rfl)) ?_)
      refine o_fieldAddr rfl rfl (r_fAt (o := 3) Tryz.underlying46 rfl (by kernel_rfl) rfl) (o_load rfl rfl (r_load1 Tryz.underlying3 rfl (k9_3.cell (i := 3) rfl)) ?_)
      refine o_fieldAddr rfl rfl (r_fAt (o := 4) Tryz.underlying46 rfl (by kernel_rfl) rfl) (o_load rfl rfl (r_load1 Tryz.underlying3 rfl (k9_3.cell (i := 4) rfl)) ?_)
      refine o_fieldAddr rfl rfl (r_fAt (o := 5) Tryz.underlying46 rfl (by kernel_rfl) rfl) (o_load rfl rfl (r_load1 Tryz.underlying3 rfl (k9_3.cell (i := 5) rfl)) ?_)
      refine o_fieldAddr rfl rfl (r_fAt (o := 6) Tryz.underlying46 rfl (by kernel_rfl) rfl) (o_load rfl rfl (r_load1 Tryz.underlying3 rfl (k9_3.cell (i := 6) rfl)) ?_)
      obtain ⟨v45, w45, hr45, x45, o45, ob45⟩ := r_bsI (w := w9_3) (w9_3).heap.size [e29.kd, e29.fr, e29.ou, e29.kh, e29.kw, e29.sr, e29.pd] (by simp) (Nat.le_refl _)
      refine o_buildSlice (vs := [(0, I e29.kd), (1, I e29.fr), (2, I e29.ou), (3, I e29.kh), (4, I e29.kw), (5, I e29.sr), (6, I e29.pd)]) rfl rfl hr45 ?_
      have hWb := (hW1.ext (x9_3))
      have hWc := hWb.ext x45
      have hi7 := ints_len (l := e29.ints) hwl
      refine o_call call_WInts rfl rfl ((WInts_spec (ns := e29.ints) hWc (((e1.trans x9_3).trans x45)).size (o45.rpx (fun k hk => hWb.off_new (o45.lt k hk).1)) hwl (by simp only [List.length_append, LayD.ints, List.length_cons, List.length_nil]; omega))) ?_
      rintro v46 w46 ⟨v46, hW46, st46⟩
      have x46 := st46.ext (((e1.trans x9_3).trans x45)) hWc.ge hWc.new
      have k6a := st46.mv.blk (k9_3.ext x45) (hW1.off_new l6)
      have n6a := st46.off (hW1.off_new l6) (k9_3.ext x45).lt
      have fA := f29_0.ext (x46)
      have fB := f29_1.ext (x46)
      refine o_nil (n_then (c_seq (c_region (o_fieldAddr rfl rfl (r_fAt (o := 7) Tryz.underlying46 rfl (by kernel_rfl) rfl) (o_load rfl rfl (r_load1 Tryz.underlying44 rfl (k6a.cell (i := 7) rfl)) ?_)))))
      refine o_call call_WRats rfl rfl ((WRats_spec hW46 (x46).size ((show Rp w1 (dRats e29.ws) [x29_0] from f29_0).wrX (x46) hW46.ge hW46.new) hq.1 (by simp only [List.length_append, LayD.ints, List.length_cons, List.length_nil] at *; omega))) ?_
      rintro v49 w49 ⟨v49, hW49, st49⟩
      have x49 := st49.ext (x46) hW46.ge hW46.new
      have k6b := st49.mv.blk k6a n6a
      have fC := f29_0.ext (x49)
      have fD := f29_1.ext (x49)
      refine o_nil (n_then (c_region (o_fieldAddr rfl rfl (r_fAt (o := 8) Tryz.underlying46 rfl (by kernel_rfl) rfl) (o_load rfl rfl (r_load1 Tryz.underlying44 rfl (k6b.cell (i := 8) rfl)) ?_))))
      refine o_call call_WRats rfl rfl ((WRats_spec hW49 (x49).size ((show Rp w1 (dRats e29.bs) [x29_1] from f29_1).wrX (x49) hW49.ge hW49.new) hq.2 (by simp only [List.length_append, LayD.ints, List.length_cons, List.length_nil] at *; omega))) ?_
      rintro v52 w52 ⟨v52, hW52, st52⟩
      have x52 := st52.ext (x49) hW49.ge hW49.new
      refine o_nil (n_block (n_then (c_region (o_bin (r := I ((i + 1 : Nat) : Int)) rfl rfl rfl (by have e : ((i + 1 : Nat) : Int) = (i : Int) + 1 := (by omega); rw [e]; exact r_add_i (by omega) (by omega)) ?_))))
      refine o_move rfl rfl (o_nil ?_)
      refine n_round2 (i + 1) (v52) ⟨rfl, rfl, rfl, rfl, trivial⟩ ⟨by rw [flatMap_snoc (by omega), ← he29, encL, ← List.append_assoc, ← List.append_assoc, ← List.append_assoc]; exact hW52, x52, by omega, by rw [flatMap_snoc (by omega), ← he29, List.length_append]; omega⟩ (by omega)
    · refine c_exit (x_then (x_then (x_here (n_then (c_seq ?_)))))
      have hbody : pre ++ m.lays.flatMap encL = rlum ++ encM m := by rw [hpre]; simp [rlum, encM, List.append_assoc]
      rw [List.take_of_length_le (by omega), hbody] at hW1
      have hbl : (rlum ++ encM m).length ≤ 17592186044416 := by
        rw [← hbody, List.length_append]
        rw [List.take_of_length_le (by omega)] at hle
        omega
      have kg := hW1.blk
      have hWb1 := hW1.row.bts
      refine c_region (o_load rfl rfl (r_load1 Tryz.underlying47 rfl kg.k0) (o_call call_dSum rfl rfl ((dSum_spec hWb1)) ?_))
      rintro v55 w55 ⟨x55, rfl⟩
      obtain ⟨g7, w7, hr7, l7, x7, k7⟩ := r_allocB (P := Tryz.prog) (w := w55) (t := 35) (l := (List.replicate 32 0).map U8) zero32 rfl
      refine o_alloc rfl hr7 ?_
      obtain ⟨w8, s8, q8, k8⟩ := k7.stS (P := Tryz.prog) (t := 35) (m := (dig (rlum ++ encM m)).map U8) (by simp [dig_len]) (by rw [List.length_map, dig_len]; exact size32) (one_U8 _)
      refine o_store rfl rfl s8 ?_
      have x8 := x7.of_new q8 l7
      have b32 : Bts (dig (rlum ++ encM m)) (.slice (some ⟨g7, 0, none⟩) 32 32) w8 := by
        have := k8.bts (by rw [dig_len]; omega)
        rwa [dig_len] at this
      refine o_nil (n_then (c_seq (c_seq ?_)))
      have hfl : (fileM m).length = (rlum ++ encM m).length + 32 := by unfold fileM; rw [List.length_append, dig_len]
      refine c_region (o_load rfl rfl (r_load1 Tryz.underlying47 rfl ((x55.trans x8).cell_some kg.k0)) (o_len (r := I ((rlum ++ encM m).length : Int)) rfl rfl ((by exact r_lenWr Tryz.underlying47 (hWb1.ext (x55.trans x8)))) ?_))
      refine o_bin (r := I (((rlum ++ encM m).length + 32 : Nat) : Int)) rfl rfl rfl (by have e : (((rlum ++ encM m).length + 32 : Nat) : Int) = ((rlum ++ encM m).length : Int) + 32 := (by omega); rw [e]; exact r_add_i (by omega) (by omega)) ?_
      refine o_bin rfl rfl rfl (r_gtr_i) (o_nil (n_then ?_))
      refine c_if rfl (fun h59 => ?_) (fun h59 => ?_)
      · refine c_seq (c_region (o_assign rfl rfl (o_assign rfl rfl (o_nil (n_then (c_ret (r_then (r_body2 rfl rfl rfl ?_))))))))
        exact ⟨_, rfl, (((x1.trans e1).trans x55).trans x8), _, by unfold encRes; rw [if_pos hc, if_neg (by omega)]; rfl, by unfold encRes; rw [if_pos hc, if_neg (by omega)]; exact OwnB.nil _ _⟩
      · refine c_skip (n_then (c_seq (c_grow 2 [60, 61] (by kernel_rfl) (by kernel_rfl) ?_)))
        refine f_load rfl rfl (fun w hw => r_load1 Tryz.underlying47 rfl (hw.cell_some ((x55.trans x8).cell_some kg.k0))) (f_slice rfl rfl rfl rfl (fun w hw => r_sl32) ?_)
        refine f_nil ?_
        intro wg17 xg17
        rintro _ hq60
        obtain rfl := Eq.symm hq60
        rintro _ rfl
        obtain ⟨v62, w62, hr62, o62, st62⟩ := WrAt.app (ty := 47) Tryz.underlying47 Tryz.underlying28 (hW1.ext (((x55.trans x8).trans xg17))) ((((e1.trans x55).trans x8).trans xg17)).size (b32.ext (xg17)) (by rw [dig_len]; omega) (by rw [dig_len]; omega)
        refine o_append rfl rfl hr62 ?_
        have x62 := st62.ext ((((e1.trans x55).trans x8).trans xg17)) hW1.ge hW1.new
        refine o_assign rfl rfl (o_assign rfl rfl (o_nil (n_then (c_ret (r_body2 rfl rfl rfl ?_)))))
        exact ⟨_, rfl, (x1.trans x62), _, by unfold encRes; rw [if_pos hc, if_pos (by omega)]; rfl, by unfold encRes; rw [if_pos hc, if_pos (by omega)]; exact o62.low x1.size⟩
end Go.Rl
/- relucertref12.rats, Body, Seal, Encode walked. Conditions: the model is small. -/
namespace Go.Rl
open Go.RowKit Go.Proofs
theorem call_Trats : Callable Tryz.prog 51 := ⟨_, Tryz.func51, by kernel_rfl, rfl⟩
theorem call_TBody : Callable Tryz.prog 26 := ⟨_, Tryz.func26, by kernel_rfl, rfl⟩
theorem call_TSeal : Callable Tryz.prog 25 := ⟨_, Tryz.func25, by kernel_rfl, rfl⟩
theorem call_TEncode : Callable Tryz.prog 11 := ⟨_, Tryz.func11, by kernel_rfl, rfl⟩
theorem Trats_spec {w : World} {l : List UInt8} {qs : List RatD} {v qv : Value} (hv : Bts l v w) (hq : DsV dRat qs qv w) (hs : small qs) (hl : l.length + lenQs qs ≤ 4398046511104) :
    Calls Tryz.prog 51 #[v, qv] w (Ret fun r w' => Ext w w' ∧ OwnB w.heap.size (l ++ encQs qs) r w') := by
  refine enter (vs := [v, qv]) Tryz.func51 rfl rfl rfl ?_
  have hll := hq.len
  have hun : (UInt64.ofNat qs.length).toNat = qs.length := by rw [UInt64.toNat_ofNat']; omega
  refine c_seq (c_region (o_assign rfl rfl (o_nil (n_then (c_seq (c_region (o_move rfl rfl (o_move rfl rfl (o_len rfl rfl (r_lenDs Tryz.underlying44 hq) (o_conv rfl rfl (r_n_u64 Tryz.underlying3 Tryz.underlying64) ?_))))))))))
  refine o_call call_rAppendUint rfl rfl ((rAppendUint_spec (n := UInt64.ofNat qs.length) hv (by omega))) ?_
  rintro v10 w10 ⟨x10, o10⟩
  rw [hun] at o10
  refine o_assign rfl rfl (o_nil (n_then (c_seq (c_seq (c_region (o_assign rfl rfl (o_nil (n_then (c_block ?_)))))))))
  refine c_loop2 (fun (i : Nat) (u : Value) => [(0, u), (1, qv), (5, I (i : Int))]) (fun (i : Nat) (u : Value) w' => Ext w w' ∧ OwnB w.heap.size (l ++ uv qs.length ++ (qs.take i).flatMap encQ) u w' ∧ i ≤ qs.length ∧ ((qs.take i).flatMap encQ).length + lenQs (qs.drop i) ≤ lenQs qs) (fun (i : Nat) (u : Value) => qs.length - i) (0) (v10) ⟨rfl, rfl, rfl, trivial⟩ ⟨x10, by simpa using o10, by omega, by simp⟩ ?_
  rintro i u wL ⟨e1, o1, hi, hle⟩
  refine c_seq (c_seq (c_region (o_move rfl rfl (o_move rfl rfl (o_len rfl rfl (r_lenDs Tryz.underlying44 (hq.ext e1)) (o_bin rfl rfl rfl (r_lss_i) (o_nil (n_then ?_))))))))
  refine c_if rfl (fun h14 => ?_) (fun h14 => ?_)
  · refine c_skip (n_then (c_seq (c_block (c_region (o_move rfl rfl (o_move rfl rfl (o_move rfl rfl ?_)))))))
    obtain ⟨a20, c20, p20, q20, h20⟩ := r_ixDs (P := Tryz.prog) (sz := 3) Tryz.underlying44 (by kernel_rfl) dRat_size (by omega) (hq.ext e1) (i := i) (by omega) .i64
    obtain ⟨e20, he20⟩ : ∃ e, e = qs[i]'(by omega) := ⟨_, rfl⟩
    rw [← he20] at h20
    obtain ⟨x20_0, x20_1, rfl, f20_0, f20_1⟩ := dRat_inv h20
    refine o_indexAddr rfl rfl rfl (p20 _) ?_
    have hn := hs e20 (by rw [he20]; exact List.getElem_mem _)
    have hen := encQ_len hn.1 hn.2
    have hun2 := uv_len (n := qs.length) (by omega)
    have hlq : lenQs (qs.drop i) = 21 + 4 * e20.2.1.length + 4 * e20.2.2.length + lenQs (qs.drop (i + 1)) := by rw [lenQs_drop (by omega), ← he20]
    refine o_load rfl rfl (q20.ld Tryz.underlying42 rfl (by kernel_rfl)) (o_call call_rAppendRat rfl rfl ((rAppendRat_spec o1.bts (RatV.mk f20_0 f20_1) (by simp only [List.length_append]; omega))) ?_)
    rintro v22 w22 ⟨x22, o22⟩
    have o22 := o22.low e1.size
    refine o_assign rfl rfl (o_nil (n_block (n_then (c_region (o_move rfl rfl (o_bin (r := I ((i + 1 : Nat) : Int)) rfl rfl rfl (by have e : ((i + 1 : Nat) : Int) = (i : Int) + 1 := (by omega); rw [e]; exact r_add_i (by omega) (by omega)) ?_))))))
    refine o_assign rfl rfl (o_nil ?_)
    refine n_round2 (i + 1) (v22) ⟨rfl, rfl, rfl, trivial⟩ ⟨(e1.trans x22), by rw [flatMap_snoc (by omega), ← he20, ← List.append_assoc]; exact o22, by omega, by rw [flatMap_snoc (by omega), ← he20, List.length_append]; omega⟩ (by omega)
  · refine c_exit (x_then (x_then (x_here (n_then (c_seq (c_region (o_move rfl rfl (o_assign rfl rfl (o_nil (n_then (c_ret (r_body1 rfl rfl ?_))))))))))))
    exact ⟨_, rfl, e1, by rw [List.take_of_length_le (by omega), List.append_assoc] at o1; exact o1⟩
theorem TBody_spec {w : World} {m : ModD} {x y : Value} (ha : DsV dIn m.inp x w) (hb : DsV dLay m.lays y w) (hs : smallM m) (hw : m.wf) (hl : lenM m ≤ 2199023255552) :
    Calls Tryz.prog 26 #[.agg #[x, y]] w (Ret fun r w' => Ext w w' ∧ OwnB w.heap.size (encM m) r w') := by
  refine enter (vs := [.agg #[x, y]]) Tryz.func26 rfl rfl rfl ?_
  have hll := hb.len
  have hil := ha.len
  have hlm : 100 + 10 * m.inp.length + lenLs m.lays ≤ 2199023255552 := hl
  have hui : (UInt64.ofNat m.inp.length).toNat = m.inp.length := by rw [UInt64.toNat_ofNat']; omega
  have hul : (UInt64.ofNat m.lays.length).toNat = m.lays.length := by rw [UInt64.toNat_ofNat']; omega
  have hu1 := uv_len (n := m.inp.length) (by omega)
  have hu2 := uv_len (n := m.lays.length) (by omega)
  have hin := ints_len hw.1
  refine c_seq (c_region ?_)
  obtain ⟨g1, w1, hr1, l1, x1, k1⟩ := r_boxS (P := Tryz.prog) (w := w) (T := 25) (cs := [x, y])
  refine o_box rfl rfl hr1 (o_assign rfl rfl (o_nil (n_then (c_seq (c_region (o_fieldAddr rfl rfl (r_fAt (o := 0) Tryz.underlying25 rfl (by kernel_rfl) rfl) ?_))))))
  refine o_load rfl rfl (r_load1 Tryz.underlying22 rfl (k1.cell (i := 0) rfl)) (o_len rfl rfl (r_lenDs Tryz.underlying22 (ha.ext x1)) (o_conv rfl rfl (r_n_u64 Tryz.underlying3 Tryz.underlying64) ?_))
  refine o_call call_rAppendUint rfl rfl ((rAppendUint_spec (n := UInt64.ofNat m.inp.length) (Bts.nil _) (by simp))) ?_
  rintro v13 w13 ⟨x13, o13⟩
  rw [hui, List.nil_append] at o13
  have o13 := o13.low x1.size
  refine o_assign rfl rfl (o_nil (n_then (c_seq (c_seq (c_region (o_assign rfl rfl (o_nil (n_then (c_block ?_)))))))))
  refine c_loop2 (fun (i : Nat) (u : Value) => [(1, .pointer (some ⟨g1, 0, none⟩)), (3, u), (4, I (i : Int))]) (fun (i : Nat) (u : Value) w' => Ext w w' ∧ Ext w1 w' ∧ OwnB w.heap.size (uv m.inp.length ++ (m.inp.take i).flatMap encI) u w' ∧ i ≤ m.inp.length) (fun (i : Nat) (u : Value) => m.inp.length - i) (0) (v13) ⟨rfl, rfl, rfl, trivial⟩ ⟨(x1.trans x13), x13, by simpa using o13, by omega⟩ ?_
  rintro i u wL ⟨e0, e1, o1, hi⟩
  refine c_seq (c_seq (c_region (o_move rfl rfl (o_fieldAddr rfl rfl (r_fAt (o := 0) Tryz.underlying25 rfl (by kernel_rfl) rfl) (o_load rfl rfl (r_load1 Tryz.underlying22 rfl (e1.cell_some (k1.cell (i := 0) rfl))) ?_)))))
  refine o_len rfl rfl (r_lenDs Tryz.underlying22 (ha.ext e0)) (o_bin rfl rfl rfl (r_lss_i) (o_nil (n_then ?_)))
  refine c_if rfl (fun h18 => ?_) (fun h18 => ?_)
  · refine c_skip (n_then (c_seq (c_block (c_region (o_move rfl rfl (o_fieldAddr rfl rfl (r_fAt (o := 0) Tryz.underlying25 rfl (by kernel_rfl) rfl) (o_load rfl rfl (r_load1 Tryz.underlying22 rfl (e1.cell_some (k1.cell (i := 0) rfl))) ?_)))))))
    refine o_move rfl rfl ?_
    obtain ⟨a25, c25, p25, q25, h25⟩ := r_ixDs (P := Tryz.prog) (sz := 1) Tryz.underlying22 (by kernel_rfl) dIn_size (by omega) (ha.ext e0) (i := i) (by omega) .i64
    obtain ⟨e25, he25⟩ : ∃ e, e = m.inp[i]'(by omega) := ⟨_, rfl⟩
    rw [← he25] at h25
    obtain rfl := dIn_inv h25
    refine o_indexAddr rfl rfl rfl (p25 _) ?_
    have hn := hw.1 e25 (by rw [he25]; exact List.getElem_mem _)
    have htl := ints_len (l := m.inp.take i) (fun n hn => hw.1 n (List.mem_of_mem_take hn))
    have htk : (m.inp.take i).length ≤ i := by rw [List.length_take]; omega
    refine o_load rfl rfl (r_load1 Tryz.underlying3 rfl q25.cell0) (o_call call_rAppendInt rfl rfl ((rAppendInt_spec o1.bts (by simp only [List.length_append]; omega) hn.1 hn.2)) ?_)
    rintro v27 w27 ⟨x27, o27⟩
    have o27 := o27.low e0.size
    refine o_assign rfl rfl (o_nil (n_block (n_then (c_region (o_move rfl rfl (o_bin (r := I ((i + 1 : Nat) : Int)) rfl rfl rfl (by have e : ((i + 1 : Nat) : Int) = (i : Int) + 1 := (by omega); rw [e]; exact r_add_i (by omega) (by omega)) ?_))))))
    refine o_assign rfl rfl (o_nil ?_)
    refine n_round2 (i + 1) (v27) ⟨rfl, rfl, rfl, trivial⟩ ⟨(e0.trans x27), (e1.trans x27), by rw [flatMap_snoc (by omega), ← he25, ← List.append_assoc]; exact o27, by omega⟩ (by omega)
  · refine c_exit (x_then (x_then (x_here (n_then (c_seq ?_)))))
    rw [List.take_of_length_le (by omega)] at o1
    refine c_region (o_move rfl rfl (o_fieldAddr rfl rfl (r_fAt (o := 1) Tryz.underlying25 rfl (by kernel_rfl) rfl) (o_load rfl rfl (r_load1 Tryz.underlying23 rfl (e1.cell_some (k1.cell (i := 1) rfl))) ?_)))
    refine o_len rfl rfl (r_lenDs Tryz.underlying23 (hb.ext e0)) (o_conv rfl rfl (r_n_u64 Tryz.underlying3 Tryz.underlying64) (o_call call_rAppendUint rfl rfl ((rAppendUint_spec (n := UInt64.ofNat m.lays.length) o1.bts (by simp only [List.length_append]; omega))) ?_))
    rintro v33 w33 ⟨x33, o33⟩
    rw [hul] at o33
    have o33 := o33.low e0.size
    obtain ⟨pre, hpre⟩ : ∃ pre, pre = uv m.inp.length ++ m.inp.flatMap encI ++ uv m.lays.length := ⟨_, rfl⟩
    rw [← hpre] at o33
    have hpl : pre.length ≤ 20 + 10 * m.inp.length := by rw [hpre]; simp only [List.length_append]; omega
    refine o_assign rfl rfl (o_nil (n_then (c_seq (c_seq (c_region (o_assign rfl rfl (o_nil (n_then (c_block ?_)))))))))
    refine c_loop2 (fun (i : Nat) (u : Value) => [(1, .pointer (some ⟨g1, 0, none⟩)), (3, u), (5, I (i : Int))]) (fun (i : Nat) (u : Value) w' => Ext w w' ∧ Ext w1 w' ∧ OwnB w.heap.size (pre ++ (m.lays.take i).flatMap encL) u w' ∧ i ≤ m.lays.length ∧ ((m.lays.take i).flatMap encL).length + lenLs (m.lays.drop i) ≤ lenLs m.lays) (fun (i : Nat) (u : Value) => m.lays.length - i) (0) (v33) ⟨rfl, rfl, rfl, trivial⟩ ⟨(e0.trans x33), (e1.trans x33), by simpa using o33, by omega, by simp⟩ ?_
    rintro i u wM ⟨e0, e1, o1, hi, hle⟩
    refine c_seq (c_seq (c_region (o_move rfl rfl (o_fieldAddr rfl rfl (r_fAt (o := 1) Tryz.underlying25 rfl (by kernel_rfl) rfl) (o_load rfl rfl (r_load1 Tryz.underlying23 rfl (e1.cell_some (k1.cell (i := 1) rfl))) ?_)))))
    refine o_len rfl rfl (r_lenDs Tryz.underlying23 (hb.ext e0)) (o_bin rfl rfl rfl (r_lss_i) (o_nil (n_then ?_)))
    refine c_if rfl (fun h38 => ?_) (fun h38 => ?_)
    · refine c_skip (n_then (c_seq (c_block (c_seq (c_region (o_fieldAddr rfl rfl (r_fAt (o := 1) Tryz.underlying25 rfl (by kernel_rfl) rfl) (o_load rfl rfl (r_load1 Tryz.underlying23 rfl (e1.cell_some (k1.cell (i := 1) rfl))) ?_)))))))
      refine o_move rfl rfl ?_
      obtain ⟨a44, c44, p44, q44, h44⟩ := r_ixDs (P := Tryz.prog) (sz := 9) Tryz.underlying23 (by kernel_rfl) dLay_size (by omega) (hb.ext e0) (i := i) (by omega) .i64
      obtain ⟨e44, he44⟩ : ∃ e, e = m.lays[i]'(by omega) := ⟨_, rfl⟩
      rw [← he44] at h44
      obtain ⟨x44_0, x44_1, rfl, f44_0, f44_1⟩ := dLay_inv h44
      refine o_indexAddr rfl rfl rfl (p44 _) ?_
      have hmem : e44 ∈ m.lays := by rw [he44]; exact List.getElem_mem _
      have hq := hs e44 hmem
      have hwl := hw.2 e44 hmem
      have hlq : lenLs (m.lays.drop i) = 90 + lenQs e44.ws + lenQs e44.bs + lenLs (m.lays.drop (i + 1)) := by rw [lenLs_drop (by omega), ← he44]
      have hLn := encL_len hq hwl f44_0.len f44_1.len
      have hq1 := encQs_len hq.1 f44_0.len
      have hq2 := encQs_len hq.2 f44_1.len
      refine o_load rfl rfl (q44.ld Tryz.underlying46 rfl (by kernel_rfl)) ?_
      obtain ⟨g6, w6, hr6, l6, x6, k6⟩ := r_allocB (P := Tryz.prog) (w := wM) (t := 46) (z := .agg #[I 0, I 0, I 0, I 0, I 0, I 0, I 0, .slice none 0 0, .slice none 0 0]) (l := [I 0, I 0, I 0, I 0, I 0, I 0, I 0, .slice none 0 0, .slice none 0 0]) (by kernel_rfl) rfl
      refine o_alloc rfl hr6 ?_
      obtain ⟨w10_6, s10_6, q10_6, k10_6⟩ := k6.stS (P := Tryz.prog) (t := 46) (m := [I e44.kd, I e44.fr, I e44.ou, I e44.kh, I e44.kw, I e44.sr, I e44.pd, x44_0, x44_1]) rfl (by kernel_rfl) (Ones.cons rfl (Ones.cons rfl (Ones.cons rfl (Ones.cons rfl (Ones.cons rfl (Ones.cons rfl (Ones.cons rfl (Ones.cons f44_0.one (Ones.cons f44_1.one Ones.nil)))))))))
      refine o_store rfl rfl s10_6 ?_
      have x10_6 := Ext.of_new (x6) q10_6 l6
      refine o_nil (n_then (c_seq (c_region (o_fieldAddr rfl rfl (r_fAt (o := 0) Tryz.underlying46 rfl (by kernel_rfl) rfl) (o_load rfl rfl (r_load1 Tryz.underlying3 rfl (k10_6.cell (i := 0) rfl)) ?_)))))
      refine o_fieldAddr rfl rfl (r_fAt (o := 1) Tryz.underlying46 rfl (by kernel_rfl) rfl) (o_load rfl rfl (r_load1 Tryz.underlying3 rfl (k10_6.cell (i := 1) rfl)) ?_)
      refine o_fieldAddr rfl rfl (r_fAt (o := 2) Tryz.underlying46 rfl (by kernel_rfl) rfl) (o_load rfl rfl (r_load1 Tryz.underlying3 rfl (k10_6.cell (i := 2) rfl)) ?_)
      refine o_fieldAddr rfl rfl (r_fAt (o := 3) Tryz.underlying46 rfl (by kernel_rfl) rfl) (o_load rfl rfl (r_load1 Tryz.underlying3 rfl (k10_6.cell (i := 3) rfl)) ?_)
      refine o_fieldAddr rfl rfl (r_fAt (o := 4) Tryz.underlying46 rfl (by kernel_rfl) rfl) (o_load rfl rfl (r_load1 Tryz.underlying3 rfl (k10_6.cell (i := 4) rfl)) ?_)
      refine o_fieldAddr rfl rfl (r_fAt (o := 5) Tryz.underlying46 rfl (by kernel_rfl) rfl) (o_load rfl rfl (r_load1 Tryz.underlying3 rfl (k10_6.cell (i := 5) rfl)) ?_)
      refine o_fieldAddr rfl rfl (r_fAt (o := 6) Tryz.underlying46 rfl (by kernel_rfl) rfl) (o_load rfl rfl (r_load1 Tryz.underlying3 rfl (k10_6.cell (i := 6) rfl)) ?_)
      refine o_build (vs := [(0, I e44.kd), (1, I e44.fr), (2, I e44.ou), (3, I e44.kh), (4, I e44.kw), (5, I e44.sr), (6, I e44.pd)]) (r := .agg #[I e44.kd, I e44.fr, I e44.ou, I e44.kh, I e44.kw, I e44.sr, I e44.pd]) rfl rfl (run_build _ _ _ _ (by kernel_rfl)) ?_
      obtain ⟨g7, w7, hr7, l7, x7, k7⟩ := r_allocB (P := Tryz.prog) (w := w10_6) (t := 84) (z := .agg #[I 0, I 0, I 0, I 0, I 0, I 0, I 0]) (l := [I 0, I 0, I 0, I 0, I 0, I 0, I 0]) (by kernel_rfl) rfl
      refine o_alloc rfl hr7 ?_
      obtain ⟨w7b, s7, q7, k7'⟩ := k7.stS (P := Tryz.prog) (t := 84) (m := e44.ints.map I) rfl (by kernel_rfl) (one_I _)
      refine o_store rfl rfl s7 ?_
      have x7b := x7.of_new q7 l7
      refine o_nil (n_then (c_seq (c_seq (c_region (o_assign rfl rfl (o_nil (n_then (c_block ?_))))))))
      refine c_loop2 (fun (k : Nat) (z : Value) => [(1, .pointer (some ⟨g1, 0, none⟩)), (3, z), (5, I (i : Int)), (6, .pointer (some ⟨g6, 0, none⟩)), (7, .pointer (some ⟨g7, 0, none⟩)), (8, I (k : Int))]) (fun (k : Nat) (z : Value) w' => Ext w w' ∧ Ext w1 w' ∧ Ext wM w' ∧ Ext w7b w' ∧ OwnB w.heap.size (pre ++ (m.lays.take i).flatMap encL ++ (e44.ints.take k).flatMap encI) z w' ∧ k ≤ 7) (fun (k : Nat) (z : Value) => 7 - k) (0) (u) ⟨rfl, rfl, rfl, rfl, rfl, rfl, trivial⟩ ⟨((e0.trans x10_6).trans x7b), ((e1.trans x10_6).trans x7b), (x10_6.trans x7b), Ext.refl _, by simpa using o1.ext ((x10_6.trans x7b)), by omega⟩ ?_
      rintro k z wN ⟨e0', e1', eM, e7, oN, hk⟩
      refine c_seq (c_seq (c_region (o_move rfl rfl (o_bin rfl rfl rfl (r_lss_i) (o_nil (n_then ?_))))))
      refine c_if rfl (fun h62 => ?_) (fun h62 => ?_)
      · refine c_skip (n_then (c_seq (c_block ?_)))
        have hk7 : k < e44.ints.length := by simp only [LayD.ints, List.length_cons, List.length_nil]; omega
        have c67 : wN.cell? ⟨g7, 0 + k, none⟩ = some (I e44.ints[k]) := by rw [Nat.zero_add]; exact (k7'.ext e7).cell (by simp [hk7])
        have hnk := hwl _ (List.getElem_mem hk7)
        have htl := ints_len (l := e44.ints.take k) (fun n hn => hwl n (List.mem_of_mem_take hn))
        have htk : (e44.ints.take k).length ≤ k := by rw [List.length_take]; omega
        refine c_region (o_move rfl rfl (o_move rfl rfl ?_))
        refine o_indexAddr rfl rfl rfl (r_ixA Tryz.underlying84 size_int (by omega) .i64) ?_
        refine o_load rfl rfl (r_load1 Tryz.underlying3 rfl c67) (o_call call_rAppendInt rfl rfl ((rAppendInt_spec oN.bts (by simp only [List.length_append]; omega) hnk.1 hnk.2)) ?_)
        rintro v69 w69 ⟨x69, o69⟩
        have o69 := o69.low e0'.size
        refine o_assign rfl rfl (o_nil (n_block (n_then (c_region (o_move rfl rfl (o_bin (r := I ((k + 1 : Nat) : Int)) rfl rfl rfl (by have e : ((k + 1 : Nat) : Int) = (k : Int) + 1 := (by omega); rw [e]; exact r_add_i (by omega) (by omega)) ?_))))))
        refine o_assign rfl rfl (o_nil ?_)
        refine n_round2 (k + 1) (v69) ⟨rfl, rfl, rfl, rfl, rfl, rfl, trivial⟩ ⟨(e0'.trans x69), (e1'.trans x69), (eM.trans x69), (e7.trans x69), by rw [flatMap_snoc hk7, ← List.append_assoc]; exact o69, by omega⟩ (by omega)
      · refine c_exit (x_then (x_then (x_here (n_then ?_))))
        have h7 : e44.ints.take k = e44.ints := List.take_of_length_le (by simp only [LayD.ints, List.length_cons, List.length_nil]; omega)
        rw [h7] at oN
        have hi7 := ints_len (l := e44.ints) hwl
        have hi7' : e44.ints.length = 7 := rfl
        refine c_grow 7 [1, 5, 76] (by kernel_rfl) (by kernel_rfl) ?_
        refine f_move rfl rfl (f_fieldAddr rfl rfl (fun w hw => r_fAt (o := 7) Tryz.underlying46 rfl (by kernel_rfl) rfl) (f_load rfl rfl (fun w hw => r_load1 Tryz.underlying44 rfl (hw.cell_some ((x7b.trans e7).cell_some (k10_6.cell (i := 7) rfl)))) ?_))
        refine f_call (S := OwnB w.heap.size (pre ++ (m.lays.take i).flatMap encL ++ e44.ints.flatMap encI ++ encQs e44.ws)) call_Trats (OwnB.stable _ _) rfl (fun w hw => by rintro _ rfl _ rfl; exact Ret.mono (Trats_spec (oN.bts.ext hw) ((f44_0.ext eM).ext hw) hq.1 (by simp only [List.length_append]; omega)) fun v w' h => ⟨h.1, h.2.low (Nat.le_trans e0'.size hw.size)⟩) ?_
        refine f_fieldAddr rfl rfl (fun w hw => r_fAt (o := 8) Tryz.underlying46 rfl (by kernel_rfl) rfl) (f_load rfl rfl (fun w hw => r_load1 Tryz.underlying44 rfl (hw.cell_some ((x7b.trans e7).cell_some (k10_6.cell (i := 8) rfl)))) ?_)
        refine f_call (S := OwnB w.heap.size (pre ++ (m.lays.take i).flatMap encL ++ e44.ints.flatMap encI ++ encQs e44.ws ++ encQs e44.bs)) call_Trats (OwnB.stable _ _) rfl (fun w hw => by rintro _ h73 _ rfl; exact Ret.mono (Trats_spec h73.bts ((f44_1.ext eM).ext hw) hq.2 (by simp only [List.length_append]; omega)) fun v w' h => ⟨h.1, h.2.low (Nat.le_trans e0'.size hw.size)⟩) ?_
        refine f_nil ?_
        intro wg16 xg16
        rintro _ rfl
        rintro _ rfl
        intro vg76 o76
        refine o_assign rfl rfl (o_nil (n_block (n_then (c_region (o_move rfl rfl (o_bin (r := I ((i + 1 : Nat) : Int)) rfl rfl rfl (by have e : ((i + 1 : Nat) : Int) = (i : Int) + 1 := (by omega); rw [e]; exact r_add_i (by omega) (by omega)) ?_))))))
        refine o_assign rfl rfl (o_nil ?_)
        refine n_round2 (i + 1) (vg76) ⟨rfl, rfl, rfl, trivial⟩ ⟨(e0'.trans xg16), (e1'.trans xg16), by rw [flatMap_snoc (by omega), ← he44, encL, ← List.append_assoc, ← List.append_assoc, ← List.append_assoc]; exact o76, by omega, by rw [flatMap_snoc (by omega), ← he44, List.length_append]; omega⟩ (by omega)
    · refine c_exit (x_then (x_then (x_here (n_then (c_seq (c_region (o_move rfl rfl (o_assign rfl rfl (o_nil (n_then (c_ret (r_body1 rfl rfl ?_))))))))))))
      exact ⟨_, rfl, e0, by
        rw [List.take_of_length_le (by omega), hpre] at o1
        exact o1⟩
theorem TSeal_spec {w : World} {l : List UInt8} {v : Value} (hv : Bts l v w) (h0 : 0 < l.length) (hl : l.length ≤ 1099511627700) :
    Calls Tryz.prog 25 #[v] w (Ret fun r w' => Ext w w' ∧ OwnB w.heap.size (rlum ++ l ++ dig (rlum ++ l)) r w') := by
  refine enter (vs := [v]) Tryz.func25 rfl rfl rfl ?_
  refine c_seq (c_region (o_assign rfl rfl (o_nil (n_then (c_seq (c_region ?_))))))
  obtain ⟨v5, w50, w5, hr5, hc5, x5, b5, a5⟩ := r_litF (w := w) [82, 76, 85, 77] (by simp) (by simp)
  refine o_buildSlice (vs := [(0, U8 82), (1, U8 76), (2, U8 85), (3, U8 77)]) rfl rfl hr5 ?_
  refine o_conv rfl rfl hc5 ?_
  obtain ⟨v8, w8, hr8, o8, x8⟩ := r_appG (ty := 28) x5 (.inr ⟨b5, a5⟩) (hv.ext x5) h0 (by simp only [List.length_cons, List.length_nil]; omega)
  have o8 : OwnB w.heap.size (rlum ++ l) v8 w8 := o8
  refine o_move rfl rfl ?_
  refine o_append rfl rfl hr8 ?_
  refine o_assign rfl rfl (o_nil (n_then (c_seq (c_region (o_move rfl rfl (o_call call_rSum rfl rfl ((rSum_spec o8.bts (by simp only [rlum, List.length_append, List.length_cons, List.length_nil]; omega))) ?_))))))
  rintro v10 w10 ⟨x10, rfl⟩
  obtain ⟨g4, w4, hr4, l4, x4, k4⟩ := r_allocB (P := Tryz.prog) (w := w10) (t := 35) (l := (List.replicate 32 0).map U8) zero32 rfl
  refine o_alloc rfl hr4 ?_
  obtain ⟨wS, sS, qS, kS⟩ := k4.stS (P := Tryz.prog) (t := 35) (m := (dig (rlum ++ l)).map U8) (by simp [dig_len]) (by rw [List.length_map, dig_len]; exact size32) (one_U8 _)
  refine o_store rfl rfl sS ?_
  have xS := x4.of_new qS l4
  have b32 : Bts (dig (rlum ++ l)) (.slice (some ⟨g4, 0, none⟩) 32 32) wS := by
    have := kS.bts (by rw [dig_len]; omega)
    rwa [dig_len] at this
  refine o_nil (n_then (c_seq (c_region (o_move rfl rfl (o_slice rfl rfl rfl rfl rfl (r_sl32) ?_)))))
  obtain ⟨v13, w13, hr13, o13, g13⟩ := r_appB (ty := 28) (o8.ext (x10.trans xS)) b32 (by rw [dig_len]; simp only [rlum, List.length_append, List.length_cons, List.length_nil]; omega) (((x8.trans x10).trans xS)).size
  have x13 := Ext.of_grew (((x8.trans x10).trans xS)) g13 (o8.ext (x10.trans xS)).ge
  refine o_append rfl rfl hr13 (o_assign rfl rfl (o_nil (n_then (c_ret (r_body1 rfl rfl ?_)))))
  exact ⟨_, rfl, x13, o13⟩
theorem TEncode_spec {w : World} {m : ModD} {x y : Value} (ha : DsV dIn m.inp x w) (hb : DsV dLay m.lays y w) (hs : smallM m) (hw : m.wf) (hl : lenM m ≤ 549755813888) (hlen : (encM m).length ≤ 1099511627700) :
    Calls Tryz.prog 11 #[.agg #[x, y]] w (Ret fun r w' => Ext w w' ∧ EncR w.heap.size m r w') := by
  refine enter (vs := [.agg #[x, y]]) Tryz.func11 rfl rfl rfl ?_
  refine c_seq (c_region ?_)
  obtain ⟨g1, w1, hr1, l1, x1, k1⟩ := r_boxS (P := Tryz.prog) (w := w) (T := 25) (cs := [x, y])
  refine o_box rfl rfl hr1 (o_assign rfl rfl (o_assign rfl rfl (o_nil (n_then (c_seq (c_seq ?_))))))
  rcases hc : validM m
  · refine c_region (o_load rfl rfl (k1.ld Tryz.underlying25 rfl (by kernel_rfl)) (o_call call_TValid rfl rfl ((by have := TValid_spec (ha.ext x1) (hb.ext x1) hs; rw [hc] at this; exact this)) ?_))
    rintro v6 w6 ⟨x6, rfl⟩
    refine o_not rfl rfl r_not (o_nil (n_then (c_yes rfl (c_seq (c_region (o_assign rfl rfl (o_assign rfl rfl (o_nil (n_then (c_ret (r_then (r_body2 rfl rfl rfl ?_))))))))))))
    exact ⟨_, rfl, (x1.trans x6), _, by unfold encRes; rw [hc]; rfl, by unfold encRes; rw [hc]; exact OwnB.nil _ _⟩
  · refine c_region (o_load rfl rfl (k1.ld Tryz.underlying25 rfl (by kernel_rfl)) (o_call call_TValid rfl rfl ((by have := TValid_spec (ha.ext x1) (hb.ext x1) hs; rw [hc] at this; exact this)) ?_))
    rintro v6 w6 ⟨x6, rfl⟩
    refine o_not rfl rfl r_not (o_nil (n_then (c_no rfl (c_skip (n_then (c_seq (c_region (o_load rfl rfl ((k1.ext x6).ld Tryz.underlying25 rfl (by kernel_rfl)) ?_))))))))
    refine o_call call_TBody rfl rfl ((TBody_spec (ha.ext (x1.trans x6)) (hb.ext (x1.trans x6)) hs hw (by omega))) ?_
    rintro v9 w9 ⟨x9, o9⟩
    refine o_call call_TSeal rfl rfl ((TSeal_spec o9.bts (by have := uv_pos m.inp.length; simp only [encM, List.length_append]; omega) hlen)) ?_
    rintro v10 w10 ⟨x10, o10⟩
    have o10 : OwnB w9.heap.size (fileM m) v10 w10 := o10
    refine o_assign rfl rfl (o_nil (n_then (c_seq (c_seq (c_region (o_move rfl rfl (o_len (r := I ((fileM m).length : Int)) rfl rfl ((by exact r_lenB o10.bts)) (o_bin rfl rfl rfl (r_gtr_i) ?_))))))))
    refine o_nil (n_then ?_)
    refine c_if rfl (fun h13 => ?_) (fun h13 => ?_)
    · refine c_seq (c_region (o_assign rfl rfl (o_assign rfl rfl (o_nil (n_then (c_ret (r_then (r_body2 rfl rfl rfl ?_))))))))
      exact ⟨_, rfl, (((x1.trans x6).trans x9).trans x10), _, by unfold encRes; rw [if_pos hc, if_neg (by omega)]; rfl, by unfold encRes; rw [if_pos hc, if_neg (by omega)]; exact OwnB.nil _ _⟩
    · refine c_skip (n_then (c_seq (c_region (o_move rfl rfl (o_assign rfl rfl (o_assign rfl rfl (o_nil (n_then (c_ret (r_body2 rfl rfl rfl ?_))))))))))
      exact ⟨_, rfl, (((x1.trans x6).trans x9).trans x10), _, by unfold encRes; rw [if_pos hc, if_pos (by omega)]; rfl, by unfold encRes; rw [if_pos hc, if_pos (by omega)]; exact o10.low (Ext.size ((x1.trans x6).trans x9))⟩
end Go.Rl
/- Params of both sides, and fair, walked. Conditions: the counts are small. -/
namespace Go.Rl
open Go.RowKit Go.Proofs
theorem call_Fair : Callable Tryz.prog 9 := ⟨_, Tryz.func9, by kernel_rfl, rfl⟩
def parL : List LayD → Nat
  | [] => 0
  | l :: t => l.ws.length + l.bs.length + parL t
theorem parL_drop {l : List LayD} {i : Nat} (hi : i < l.length) : parL (l.drop i) = l[i].ws.length + l[i].bs.length + parL (l.drop (i + 1)) := by
  rw [List.drop_eq_getElem_cons hi]; rfl
theorem AParams_spec {w : World} {m : ModD} {x y : Value} (hb : DsV dLay m.lays y w) (hl : parL m.lays ≤ 4611686018427387904) :
    Calls Tryz.prog 18 #[.agg #[x, y]] w (Ret fun r w' => Ext w w' ∧ r = I (parL m.lays : Int)) := by
  refine enter (vs := [.agg #[x, y]]) Tryz.func18 rfl rfl rfl ?_
  have hll := hb.len
  refine c_seq (c_region ?_)
  obtain ⟨g1, w1, hr1, l1, x1, k1⟩ := r_boxS (P := Tryz.prog) (w := w) (T := 25) (cs := [x, y])
  refine o_box rfl rfl hr1 (o_assign rfl rfl (o_nil (n_then (c_seq (c_region (o_assign rfl rfl (o_nil (n_then (c_seq (c_seq (c_region (o_fieldAddr rfl rfl (r_fAt (o := 1) Tryz.underlying25 rfl (by kernel_rfl) rfl) ?_))))))))))))
  refine o_load rfl rfl (r_load1 Tryz.underlying23 rfl (k1.cell (i := 1) rfl)) (o_len rfl rfl (r_lenDs Tryz.underlying23 (hb.ext x1)) (o_move rfl rfl ?_))
  refine o_nil (n_then (c_block ?_))
  refine c_loop2 (fun (i : Nat) (n : Nat) => [(3, I (n : Int)), (7, y), (8, I (m.lays.length : Int)), (9, I (i : Int))]) (fun (i : Nat) (n : Nat) w' => Ext w w' ∧ i ≤ m.lays.length ∧ n + parL (m.lays.drop i) = parL m.lays) (fun (i : Nat) (n : Nat) => m.lays.length - i) (0) (0) ⟨rfl, rfl, rfl, rfl, trivial⟩ ⟨x1, by omega, by simp⟩ ?_
  rintro i n wL ⟨e0, hi, hn⟩
  refine c_seq (c_region (o_bin rfl rfl rfl (r_lss_i) (o_nil (n_then (c_seq ?_)))))
  refine c_if rfl (fun h10 => ?_) (fun h10 => ?_)
  · refine c_skip (n_then (c_seq (c_block (c_seq (c_region ?_)))))
    obtain ⟨a11, c11, p11, q11, h11⟩ := r_ixDs (P := Tryz.prog) (sz := 9) Tryz.underlying23 (by kernel_rfl) dLay_size (by omega) (hb.ext e0) (i := i) (by omega) .i64
    obtain ⟨e11, he11⟩ : ∃ e, e = m.lays[i]'(by omega) := ⟨_, rfl⟩
    rw [← he11] at h11
    obtain ⟨x11_0, x11_1, rfl, f11_0, f11_1⟩ := dLay_inv h11
    refine o_indexAddr rfl rfl rfl (p11 _) ?_
    have hlq : parL (m.lays.drop i) = e11.ws.length + e11.bs.length + parL (m.lays.drop (i + 1)) := by rw [parL_drop (by omega), ← he11]
    refine o_load rfl rfl (q11.ld Tryz.underlying46 rfl (by kernel_rfl)) ?_
    obtain ⟨g5, w5, hr5, l5, x5, k5⟩ := r_allocB (P := Tryz.prog) (w := wL) (t := 46) (z := .agg #[I 0, I 0, I 0, I 0, I 0, I 0, I 0, .slice none 0 0, .slice none 0 0]) (l := [I 0, I 0, I 0, I 0, I 0, I 0, I 0, .slice none 0 0, .slice none 0 0]) (by kernel_rfl) rfl
    refine o_alloc rfl hr5 ?_
    obtain ⟨w4_3, s4_3, q4_3, k4_3⟩ := k5.stS (P := Tryz.prog) (t := 46) (m := [I e11.kd, I e11.fr, I e11.ou, I e11.kh, I e11.kw, I e11.sr, I e11.pd, x11_0, x11_1]) rfl (by kernel_rfl) (Ones.cons rfl (Ones.cons rfl (Ones.cons rfl (Ones.cons rfl (Ones.cons rfl (Ones.cons rfl (Ones.cons rfl (Ones.cons f11_0.one (Ones.cons f11_1.one Ones.nil)))))))))
    refine o_store rfl rfl s4_3 ?_
    have x4_3 := Ext.of_new (x5) q4_3 l5
    refine o_nil (n_then (c_region (o_move rfl rfl (o_fieldAddr rfl rfl (r_fAt (o := 7) Tryz.underlying46 rfl (by kernel_rfl) rfl) (o_load rfl rfl (r_load1 Tryz.underlying44 rfl (k4_3.cell (i := 7) rfl)) ?_)))))
    refine o_len rfl rfl (r_lenDs Tryz.underlying44 (f11_0.ext x4_3)) (o_fieldAddr rfl rfl (r_fAt (o := 8) Tryz.underlying46 rfl (by kernel_rfl) rfl) ?_)
    refine o_load rfl rfl (r_load1 Tryz.underlying44 rfl (k4_3.cell (i := 8) rfl)) (o_len rfl rfl (r_lenDs Tryz.underlying44 (f11_1.ext x4_3)) ?_)
    refine o_bin (r := I ((e11.ws.length + e11.bs.length : Nat) : Int)) rfl rfl rfl (by have e : ((e11.ws.length + e11.bs.length : Nat) : Int) = (e11.ws.length : Int) + (e11.bs.length : Int) := (by omega); rw [e]; exact r_add_i (by omega) (by omega)) ?_
    refine o_bin (r := I ((n + (e11.ws.length + e11.bs.length) : Nat) : Int)) rfl rfl rfl (by have e : ((n + (e11.ws.length + e11.bs.length) : Nat) : Int) = (n : Int) + ((e11.ws.length + e11.bs.length : Nat) : Int) := (by omega); rw [e]; exact r_add_i (by omega) (by omega)) ?_
    refine o_assign rfl rfl (o_nil (n_block (n_then (c_region (o_bin (r := I ((i + 1 : Nat) : Int)) rfl rfl rfl (by have e : ((i + 1 : Nat) : Int) = (i : Int) + 1 := (by omega); rw [e]; exact r_add_i (by omega) (by omega)) ?_)))))
    refine o_move rfl rfl (o_nil ?_)
    refine n_round2 (i + 1) (n + (e11.ws.length + e11.bs.length)) ⟨rfl, rfl, rfl, rfl, trivial⟩ ⟨(e0.trans x4_3), by omega, by omega⟩ (by omega)
  · refine c_exit (x_then (x_then (x_here (n_then (c_seq (c_region (o_move rfl rfl (o_assign rfl rfl (o_nil (n_then (c_ret (r_body1 rfl rfl ?_))))))))))))
    exact ⟨_, rfl, e0, by rw [List.drop_of_length_le (by omega)] at hn; exact congrArg (fun k : Nat => I (k : Int)) hn⟩
theorem TParams_spec {w : World} {m : ModD} {x y : Value} (hb : DsV dLay m.lays y w) (hl : parL m.lays ≤ 4611686018427387904) :
    Calls Tryz.prog 19 #[.agg #[x, y]] w (Ret fun r w' => Ext w w' ∧ r = I (parL m.lays : Int)) := by
  refine enter (vs := [.agg #[x, y]]) Tryz.func19 rfl rfl rfl ?_
  have hll := hb.len
  refine c_seq (c_region ?_)
  obtain ⟨g1, w1, hr1, l1, x1, k1⟩ := r_boxS (P := Tryz.prog) (w := w) (T := 25) (cs := [x, y])
  refine o_box rfl rfl hr1 (o_assign rfl rfl (o_nil (n_then (c_seq (c_region (o_assign rfl rfl (o_nil (n_then (c_seq (c_seq (c_region (o_assign rfl rfl (o_nil (n_then (c_block ?_)))))))))))))))
  refine c_loop2 (fun (i : Nat) (n : Nat) => [(1, .pointer (some ⟨g1, 0, none⟩)), (3, I (n : Int)), (4, I (i : Int))]) (fun (i : Nat) (n : Nat) w' => Ext w w' ∧ Ext w1 w' ∧ i ≤ m.lays.length ∧ n + parL (m.lays.drop i) = parL m.lays) (fun (i : Nat) (n : Nat) => m.lays.length - i) (0) (0) ⟨rfl, rfl, rfl, trivial⟩ ⟨x1, Ext.refl _, by omega, by simp⟩ ?_
  rintro i n wL ⟨e0, e1, hi, hn⟩
  refine c_seq (c_seq (c_region (o_move rfl rfl (o_fieldAddr rfl rfl (r_fAt (o := 1) Tryz.underlying25 rfl (by kernel_rfl) rfl) (o_load rfl rfl (r_load1 Tryz.underlying23 rfl (e1.cell_some (k1.cell (i := 1) rfl))) ?_)))))
  refine o_len rfl rfl (r_lenDs Tryz.underlying23 (hb.ext e0)) (o_bin rfl rfl rfl (r_lss_i) (o_nil (n_then ?_)))
  refine c_if rfl (fun h9 => ?_) (fun h9 => ?_)
  · refine c_skip (n_then (c_seq (c_block ?_)))
    have hlq : parL (m.lays.drop i) = (m.lays[i]'(by omega)).ws.length + (m.lays[i]'(by omega)).bs.length + parL (m.lays.drop (i + 1)) := parL_drop (by omega)
    refine c_grow 17 [1, 4, 28] (by kernel_rfl) (by kernel_rfl) ?_
    refine f_move rfl rfl (f_fieldAddr rfl rfl (fun w hw => r_fAt (o := 1) Tryz.underlying25 rfl (by kernel_rfl) rfl) (f_load rfl rfl (fun w hw => r_load1 Tryz.underlying23 rfl (hw.cell_some (e1.cell_some (k1.cell (i := 1) rfl)))) ?_))
    refine f_move rfl rfl ?_
    obtain ⟨a16, c16, p16, q16, h16⟩ := r_ixDs (P := Tryz.prog) (sz := 9) Tryz.underlying23 (by kernel_rfl) dLay_size (by omega) (hb.ext e0) (i := i) (by omega) .i64
    obtain ⟨e16, he16⟩ : ∃ e, e = m.lays[i]'(by omega) := ⟨_, rfl⟩
    rw [← he16] at h16
    obtain ⟨x16_0, x16_1, rfl, f16_0, f16_1⟩ := dLay_inv h16
    refine f_indexAddr rfl rfl rfl (fun w _ => p16 w) (f_fieldAddr rfl rfl (fun w hw => r_fC (o := 7) Tryz.underlying46 rfl (by kernel_rfl) rfl) ?_)
    refine f_load rfl rfl (fun w hw => r_load1 Tryz.underlying44 rfl (hw.cell_some (q16.at (j := 7) rfl))) (f_len (vs := [x16_0]) rfl rfl (fun w hw => r_lenDs Tryz.underlying44 (f16_0.ext hw)) ?_)
    refine f_fieldAddr rfl rfl (fun w hw => r_fAt (o := 1) Tryz.underlying25 rfl (by kernel_rfl) rfl) (f_load rfl rfl (fun w hw => r_load1 Tryz.underlying23 rfl (hw.cell_some (e1.cell_some (k1.cell (i := 1) rfl)))) ?_)
    refine f_move rfl rfl ?_
    obtain ⟨a23, c23, p23, q23, h23⟩ := r_ixDs (P := Tryz.prog) (sz := 9) Tryz.underlying23 (by kernel_rfl) dLay_size (by omega) (hb.ext e0) (i := i) (by omega) .i64
    rw [← he16] at h23
    obtain ⟨x23_0, x23_1, rfl, f23_0, f23_1⟩ := dLay_inv h23
    refine f_indexAddr rfl rfl rfl (fun w _ => p23 w) (f_fieldAddr rfl rfl (fun w hw => r_fC (o := 8) Tryz.underlying46 rfl (by kernel_rfl) rfl) ?_)
    refine f_load rfl rfl (fun w hw => r_load1 Tryz.underlying44 rfl (hw.cell_some (q23.at (j := 8) rfl))) (f_len (vs := [x23_1]) rfl rfl (fun w hw => r_lenDs Tryz.underlying44 (f23_1.ext hw)) ?_)
    rw [← he16] at hlq
    refine f_bin (r := I ((e16.ws.length + e16.bs.length : Nat) : Int)) rfl rfl rfl (fun w _ => by have e : ((e16.ws.length + e16.bs.length : Nat) : Int) = (e16.ws.length : Int) + (e16.bs.length : Int) := (by omega); rw [e]; exact r_add_i (by omega) (by omega)) ?_
    refine f_bin (r := I ((n + (e16.ws.length + e16.bs.length) : Nat) : Int)) rfl rfl rfl (fun w _ => by have e : ((n + (e16.ws.length + e16.bs.length) : Nat) : Int) = (n : Int) + ((e16.ws.length + e16.bs.length : Nat) : Int) := (by omega); rw [e]; exact r_add_i (by omega) (by omega)) ?_
    refine f_nil ?_
    intro wg5 xg5
    rintro _ rfl
    rintro _ rfl
    rintro _ rfl
    refine o_assign rfl rfl (o_nil (n_block (n_then (c_region (o_move rfl rfl (o_bin (r := I ((i + 1 : Nat) : Int)) rfl rfl rfl (by have e : ((i + 1 : Nat) : Int) = (i : Int) + 1 := (by omega); rw [e]; exact r_add_i (by omega) (by omega)) ?_))))))
    refine o_assign rfl rfl (o_nil ?_)
    refine n_round2 (i + 1) (n + (e16.ws.length + e16.bs.length)) ⟨rfl, rfl, rfl, trivial⟩ ⟨(e0.trans xg5), (e1.trans xg5), by omega, by omega⟩ (by omega)
  · refine c_exit (x_then (x_then (x_here (n_then (c_seq (c_region (o_move rfl rfl (o_assign rfl rfl (o_nil (n_then (c_ret (r_body1 rfl rfl ?_))))))))))))
    exact ⟨_, rfl, e0, by rw [List.drop_of_length_le (by omega)] at hn; exact congrArg (fun k : Nat => I (k : Int)) hn⟩
def cntQ : List RatD → Nat
  | [] => 0
  | q :: l => q.2.1.length + q.2.2.length + cntQ l
def cntL (l : LayD) : Nat := l.ws.length + l.bs.length + cntQ l.ws + cntQ l.bs
def cntLs : List LayD → Nat
  | [] => 0
  | l :: t => cntL l + cntLs t
theorem cntQ_drop {l : List RatD} {i : Nat} (hi : i < l.length) : cntQ (l.drop i) = l[i].2.1.length + l[i].2.2.length + cntQ (l.drop (i + 1)) := by
  rw [List.drop_eq_getElem_cons hi]; rfl
theorem cntLs_drop {l : List LayD} {i : Nat} (hi : i < l.length) : cntLs (l.drop i) = cntL l[i] + cntLs (l.drop (i + 1)) := by
  rw [List.drop_eq_getElem_cons hi]; rfl
theorem Fair_spec {w : World} {m : ModD} {x y : Value} (ha : DsV dIn m.inp x w) (hb : DsV dLay m.lays y w) (hl : cntLs m.lays ≤ 4611686018427387904) :
    Calls Tryz.prog 9 #[.agg #[x, y]] w (Ret fun r w' => Ext w w' ∧ r = B (decide (m.inp.length ≤ 8 ∧ m.lays.length ≤ 70 ∧ cntLs m.lays ≤ 600))) := by
  refine enter (vs := [.agg #[x, y]]) Tryz.func9 rfl rfl rfl ?_
  refine c_seq (c_region ?_)
  obtain ⟨g1, w1, hr1, l1, x1, k1⟩ := r_boxS (P := Tryz.prog) (w := w) (T := 25) (cs := [x, y])
  refine o_box rfl rfl hr1 (o_assign rfl rfl (o_nil (n_then (c_seq (c_seq (c_region (o_fieldAddr rfl rfl (r_fAt (o := 0) Tryz.underlying25 rfl (by kernel_rfl) rfl) ?_)))))))
  refine o_load rfl rfl (r_load1 Tryz.underlying22 rfl (k1.cell (i := 0) rfl)) (o_len rfl rfl (r_lenDs Tryz.underlying22 (ha.ext x1)) (o_bin rfl rfl rfl (r_gtr_i) ?_))
  refine o_move rfl rfl ?_
  refine o_dec (fun h11 => ?_) (fun h11 => ?_)
  · refine g_no rfl rfl rfl (g_no rfl rfl rfl (g_no rfl rfl rfl (g_no rfl rfl rfl (o_pick_t rfl rfl rfl (o_nil (n_then (c_yes rfl (c_seq (c_region (o_assign rfl rfl (o_nil (n_then (c_ret (r_then ?_))))))))))))))
    refine r_body1 rfl rfl ?_
    exact ⟨_, rfl, x1, congrArg B (decide_eq_false (by omega)).symm⟩
  · refine g_yes rfl (o_fieldAddr rfl rfl (r_fAt (o := 1) Tryz.underlying25 rfl (by kernel_rfl) rfl) (g_yes rfl (o_load rfl rfl (r_load1 Tryz.underlying23 rfl (k1.cell (i := 1) rfl)) ?_)))
    refine g_yes rfl (o_len rfl rfl (r_lenDs Tryz.underlying23 (hb.ext x1)) (g_yes rfl (o_bin rfl rfl rfl (r_gtr_i) (o_pick_f rfl rfl rfl (o_nil (n_then ?_))))))
    refine c_if rfl (fun h16 => ?_) (fun h16 => ?_)
    · refine c_seq (c_region (o_assign rfl rfl (o_nil (n_then (c_ret (r_then (r_body1 rfl rfl ?_)))))))
      exact ⟨_, rfl, x1, congrArg B (decide_eq_false (by omega)).symm⟩
    · refine c_skip (n_then (c_seq (c_region (o_assign rfl rfl (o_nil (n_then (c_seq (c_seq (c_region (o_assign rfl rfl (o_nil (n_then (c_block ?_)))))))))))))
      refine c_loop2 (fun (i : Nat) (n : Nat) => [(1, .pointer (some ⟨g1, 0, none⟩)), (3, I (n : Int)), (4, I (i : Int))]) (fun (i : Nat) (n : Nat) w' => Ext w w' ∧ Ext w1 w' ∧ i ≤ m.lays.length ∧ n + cntLs (m.lays.drop i) = cntLs m.lays ∧ n ≤ 600) (fun (i : Nat) (n : Nat) => m.lays.length - i) (0) (0) ⟨rfl, rfl, rfl, trivial⟩ ⟨x1, Ext.refl _, by omega, by simp, by omega⟩ ?_
      rintro i n wL ⟨e0, e1, hi, hn, hn6⟩
      refine c_seq (c_seq (c_region (o_move rfl rfl (o_fieldAddr rfl rfl (r_fAt (o := 1) Tryz.underlying25 rfl (by kernel_rfl) rfl) (o_load rfl rfl (r_load1 Tryz.underlying23 rfl (e1.cell_some (k1.cell (i := 1) rfl))) ?_)))))
      refine o_len rfl rfl (r_lenDs Tryz.underlying23 (hb.ext e0)) (o_bin rfl rfl rfl (r_lss_i) (o_nil (n_then ?_)))
      refine c_if rfl (fun h21 => ?_) (fun h21 => ?_)
      · refine c_skip (n_then (c_seq (c_block (c_seq ?_))))
        have hlq := cntLs_drop (l := m.lays) (i := i) (by omega)
        refine c_grow 17 [1, 4, 40] (by kernel_rfl) (by kernel_rfl) ?_
        refine f_move rfl rfl (f_fieldAddr rfl rfl (fun w hw => r_fAt (o := 1) Tryz.underlying25 rfl (by kernel_rfl) rfl) (f_load rfl rfl (fun w hw => r_load1 Tryz.underlying23 rfl (hw.cell_some (e1.cell_some (k1.cell (i := 1) rfl)))) ?_))
        refine f_move rfl rfl ?_
        obtain ⟨a28, c28, p28, q28, h28⟩ := r_ixDs (P := Tryz.prog) (sz := 9) Tryz.underlying23 (by kernel_rfl) dLay_size (by omega) (hb.ext e0) (i := i) (by omega) .i64
        obtain ⟨e28, he28⟩ : ∃ e, e = m.lays[i]'(by omega) := ⟨_, rfl⟩
        rw [← he28] at h28
        obtain ⟨x28_0, x28_1, rfl, f28_0, f28_1⟩ := dLay_inv h28
        refine f_indexAddr rfl rfl rfl (fun w _ => p28 w) (f_fieldAddr rfl rfl (fun w hw => r_fC (o := 7) Tryz.underlying46 rfl (by kernel_rfl) rfl) ?_)
        refine f_load rfl rfl (fun w hw => r_load1 Tryz.underlying44 rfl (hw.cell_some (q28.at (j := 7) rfl))) (f_len (vs := [x28_0]) rfl rfl (fun w hw => r_lenDs Tryz.underlying44 (f28_0.ext hw)) ?_)
        refine f_fieldAddr rfl rfl (fun w hw => r_fAt (o := 1) Tryz.underlying25 rfl (by kernel_rfl) rfl) (f_load rfl rfl (fun w hw => r_load1 Tryz.underlying23 rfl (hw.cell_some (e1.cell_some (k1.cell (i := 1) rfl)))) ?_)
        refine f_move rfl rfl ?_
        obtain ⟨a35, c35, p35, q35, h35⟩ := r_ixDs (P := Tryz.prog) (sz := 9) Tryz.underlying23 (by kernel_rfl) dLay_size (by omega) (hb.ext e0) (i := i) (by omega) .i64
        rw [← he28] at h35
        obtain ⟨x35_0, x35_1, rfl, f35_0, f35_1⟩ := dLay_inv h35
        refine f_indexAddr rfl rfl rfl (fun w _ => p35 w) (f_fieldAddr rfl rfl (fun w hw => r_fC (o := 8) Tryz.underlying46 rfl (by kernel_rfl) rfl) ?_)
        refine f_load rfl rfl (fun w hw => r_load1 Tryz.underlying44 rfl (hw.cell_some (q35.at (j := 8) rfl))) (f_len (vs := [x35_1]) rfl rfl (fun w hw => r_lenDs Tryz.underlying44 (f35_1.ext hw)) ?_)
        rw [← he28] at hlq
        unfold cntL at hlq
        refine f_bin (r := I ((e28.ws.length + e28.bs.length : Nat) : Int)) rfl rfl rfl (fun w _ => by have e : ((e28.ws.length + e28.bs.length : Nat) : Int) = (e28.ws.length : Int) + (e28.bs.length : Int) := (by omega); rw [e]; exact r_add_i (by omega) (by omega)) ?_
        refine f_bin (r := I ((n + (e28.ws.length + e28.bs.length) : Nat) : Int)) rfl rfl rfl (fun w _ => by have e : ((n + (e28.ws.length + e28.bs.length) : Nat) : Int) = (n : Int) + ((e28.ws.length + e28.bs.length : Nat) : Int) := (by omega); rw [e]; exact r_add_i (by omega) (by omega)) ?_
        refine f_nil ?_
        intro wg7 xg7
        rintro _ rfl
        rintro _ rfl
        rintro _ rfl
        refine o_assign rfl rfl (o_nil (n_then (c_seq (c_seq (c_region (o_assign rfl rfl (o_nil (n_then (c_block ?_)))))))))
        refine c_loop2 (fun (k : Nat) (n2 : Nat) => [(1, .pointer (some ⟨g1, 0, none⟩)), (3, I (n2 : Int)), (4, I (i : Int)), (5, I (k : Int))]) (fun (k : Nat) (n2 : Nat) w' => Ext w w' ∧ Ext w1 w' ∧ k ≤ e28.ws.length ∧ n2 + cntQ (e28.ws.drop k) = n + (e28.ws.length + e28.bs.length) + cntQ e28.ws) (fun (k : Nat) (n2 : Nat) => e28.ws.length - k) (0) (n + (e28.ws.length + e28.bs.length)) ⟨rfl, rfl, rfl, rfl, trivial⟩ ⟨(e0.trans xg7), (e1.trans xg7), by omega, by simp⟩ ?_
        rintro k n2 wM ⟨e0, e1, hk, hn2⟩
        refine c_seq (c_seq (c_region (o_move rfl rfl (o_fieldAddr rfl rfl (r_fAt (o := 1) Tryz.underlying25 rfl (by kernel_rfl) rfl) (o_load rfl rfl (r_load1 Tryz.underlying23 rfl (e1.cell_some (k1.cell (i := 1) rfl))) ?_)))))
        refine o_move rfl rfl ?_
        obtain ⟨a45, c45, p45, q45, h45⟩ := r_ixDs (P := Tryz.prog) (sz := 9) Tryz.underlying23 (by kernel_rfl) dLay_size (by omega) (hb.ext e0) (i := i) (by omega) .i64
        rw [← he28] at h45
        obtain ⟨x45_0, x45_1, rfl, f45_0, f45_1⟩ := dLay_inv h45
        refine o_indexAddr rfl rfl rfl (p45 _) (o_fieldAddr rfl rfl (r_fC (o := 7) Tryz.underlying46 rfl (by kernel_rfl) rfl) (o_load rfl rfl (r_load1 Tryz.underlying44 rfl (q45.at (j := 7) rfl)) ?_))
        refine o_len rfl rfl (r_lenDs Tryz.underlying44 f45_0) (o_bin rfl rfl rfl (r_lss_i) (o_nil (n_then ?_)))
        refine c_if rfl (fun h49 => ?_) (fun h49 => ?_)
        · refine c_skip (n_then (c_seq (c_block ?_)))
          have hcq := cntQ_drop (l := e28.ws) (i := k) (by omega)
          refine c_grow 25 [1, 4, 5, 76] (by kernel_rfl) (by kernel_rfl) ?_
          refine f_move rfl rfl (f_fieldAddr rfl rfl (fun w hw => r_fAt (o := 1) Tryz.underlying25 rfl (by kernel_rfl) rfl) (f_load rfl rfl (fun w hw => r_load1 Tryz.underlying23 rfl (hw.cell_some (e1.cell_some (k1.cell (i := 1) rfl)))) ?_))
          refine f_move rfl rfl ?_
          obtain ⟨a56, c56, p56, q56, h56⟩ := r_ixDs (P := Tryz.prog) (sz := 9) Tryz.underlying23 (by kernel_rfl) dLay_size (by omega) (hb.ext e0) (i := i) (by omega) .i64
          rw [← he28] at h56
          obtain ⟨x56_0, x56_1, rfl, f56_0, f56_1⟩ := dLay_inv h56
          refine f_indexAddr rfl rfl rfl (fun w _ => p56 w) (f_fieldAddr rfl rfl (fun w hw => r_fC (o := 7) Tryz.underlying46 rfl (by kernel_rfl) rfl) ?_)
          refine f_load rfl rfl (fun w hw => r_load1 Tryz.underlying44 rfl (hw.cell_some (q56.at (j := 7) rfl))) (f_move rfl rfl ?_)
          obtain ⟨a60, c60, p60, q60, h60⟩ := r_ixDs (P := Tryz.prog) (sz := 3) Tryz.underlying44 (by kernel_rfl) dRat_size (by omega) f56_0 (i := k) (by omega) .i64
          obtain ⟨e60, he60⟩ : ∃ e, e = e28.ws[k]'(by omega) := ⟨_, rfl⟩
          rw [← he60] at h60
          obtain ⟨x60_0, x60_1, rfl, f60_0, f60_1⟩ := dRat_inv h60
          refine f_indexAddr rfl rfl rfl (fun w _ => p60 w) (f_fieldAddr rfl rfl (fun w hw => r_fC (o := 1) Tryz.underlying42 rfl (by kernel_rfl) rfl) (f_load rfl rfl (fun w hw => r_load1 Tryz.underlying40 rfl (hw.cell_some (q60.at (j := 1) rfl))) ?_))
          refine f_len (vs := [x60_0]) rfl rfl (fun w hw => r_lenW Tryz.underlying40 (f60_0.ext hw)) (f_fieldAddr rfl rfl (fun w hw => r_fAt (o := 1) Tryz.underlying25 rfl (by kernel_rfl) rfl) ?_)
          refine f_load rfl rfl (fun w hw => r_load1 Tryz.underlying23 rfl (hw.cell_some (e1.cell_some (k1.cell (i := 1) rfl)))) (f_move rfl rfl ?_)
          obtain ⟨a67, c67, p67, q67, h67⟩ := r_ixDs (P := Tryz.prog) (sz := 9) Tryz.underlying23 (by kernel_rfl) dLay_size (by omega) (hb.ext e0) (i := i) (by omega) .i64
          rw [← he28] at h67
          obtain ⟨x67_0, x67_1, rfl, f67_0, f67_1⟩ := dLay_inv h67
          refine f_indexAddr rfl rfl rfl (fun w _ => p67 w) (f_fieldAddr rfl rfl (fun w hw => r_fC (o := 7) Tryz.underlying46 rfl (by kernel_rfl) rfl) ?_)
          refine f_load rfl rfl (fun w hw => r_load1 Tryz.underlying44 rfl (hw.cell_some (q67.at (j := 7) rfl))) (f_move rfl rfl ?_)
          obtain ⟨a71, c71, p71, q71, h71⟩ := r_ixDs (P := Tryz.prog) (sz := 3) Tryz.underlying44 (by kernel_rfl) dRat_size (by omega) f67_0 (i := k) (by omega) .i64
          rw [← he60] at h71
          obtain ⟨x71_0, x71_1, rfl, f71_0, f71_1⟩ := dRat_inv h71
          refine f_indexAddr rfl rfl rfl (fun w _ => p71 w) (f_fieldAddr rfl rfl (fun w hw => r_fC (o := 2) Tryz.underlying42 rfl (by kernel_rfl) rfl) (f_load rfl rfl (fun w hw => r_load1 Tryz.underlying40 rfl (hw.cell_some (q71.at (j := 2) rfl))) ?_))
          refine f_len (vs := [x71_1]) rfl rfl (fun w hw => r_lenW Tryz.underlying40 (f71_1.ext hw)) ?_
          rw [← he60] at hcq
          refine f_bin (r := I ((e60.2.1.length + e60.2.2.length : Nat) : Int)) rfl rfl rfl (fun w _ => by have e : ((e60.2.1.length + e60.2.2.length : Nat) : Int) = (e60.2.1.length : Int) + (e60.2.2.length : Int) := (by omega); rw [e]; exact r_add_i (by omega) (by omega)) ?_
          refine f_bin (r := I ((n2 + (e60.2.1.length + e60.2.2.length) : Nat) : Int)) rfl rfl rfl (fun w _ => by have e : ((n2 + (e60.2.1.length + e60.2.2.length) : Nat) : Int) = (n2 : Int) + ((e60.2.1.length + e60.2.2.length : Nat) : Int) := (by omega); rw [e]; exact r_add_i (by omega) (by omega)) ?_
          refine f_nil ?_
          intro wg11 xg11
          rintro _ rfl
          rintro _ rfl
          rintro _ rfl
          rintro _ rfl
          refine o_assign rfl rfl (o_nil (n_block (n_then (c_region (o_move rfl rfl (o_bin (r := I ((k + 1 : Nat) : Int)) rfl rfl rfl (by have e : ((k + 1 : Nat) : Int) = (k : Int) + 1 := (by omega); rw [e]; exact r_add_i (by omega) (by omega)) ?_))))))
          refine o_assign rfl rfl (o_nil ?_)
          refine n_round2 (k + 1) (n2 + (e60.2.1.length + e60.2.2.length)) ⟨rfl, rfl, rfl, rfl, trivial⟩ ⟨(e0.trans xg11), (e1.trans xg11), by omega, by omega⟩ (by omega)
        · refine c_exit (x_then (x_then (x_here (n_then (c_seq (c_seq ?_))))))
          rw [List.drop_of_length_le (by omega)] at hn2
          have hn2 : n2 = n + (e28.ws.length + e28.bs.length) + cntQ e28.ws := hn2
          refine c_region (o_assign rfl rfl (o_nil (n_then (c_block ?_))))
          refine c_loop2 (fun (j : Nat) (n3 : Nat) => [(1, .pointer (some ⟨g1, 0, none⟩)), (3, I (n3 : Int)), (4, I (i : Int)), (6, I (j : Int))]) (fun (j : Nat) (n3 : Nat) w' => Ext w w' ∧ Ext w1 w' ∧ j ≤ e28.bs.length ∧ n3 + cntQ (e28.bs.drop j) = n2 + cntQ e28.bs) (fun (j : Nat) (n3 : Nat) => e28.bs.length - j) (0) (n2) ⟨rfl, rfl, rfl, rfl, trivial⟩ ⟨e0, e1, by omega, by simp⟩ ?_
          rintro j n3 wN ⟨e0, e1, hj, hn3⟩
          refine c_seq (c_seq (c_region (o_move rfl rfl (o_fieldAddr rfl rfl (r_fAt (o := 1) Tryz.underlying25 rfl (by kernel_rfl) rfl) (o_load rfl rfl (r_load1 Tryz.underlying23 rfl (e1.cell_some (k1.cell (i := 1) rfl))) ?_)))))
          refine o_move rfl rfl ?_
          obtain ⟨a81, c81, p81, q81, h81⟩ := r_ixDs (P := Tryz.prog) (sz := 9) Tryz.underlying23 (by kernel_rfl) dLay_size (by omega) (hb.ext e0) (i := i) (by omega) .i64
          rw [← he28] at h81
          obtain ⟨x81_0, x81_1, rfl, f81_0, f81_1⟩ := dLay_inv h81
          refine o_indexAddr rfl rfl rfl (p81 _) (o_fieldAddr rfl rfl (r_fC (o := 8) Tryz.underlying46 rfl (by kernel_rfl) rfl) (o_load rfl rfl (r_load1 Tryz.underlying44 rfl (q81.at (j := 8) rfl)) ?_))
          refine o_len rfl rfl (r_lenDs Tryz.underlying44 f81_1) (o_bin rfl rfl rfl (r_lss_i) (o_nil (n_then ?_)))
          refine c_if rfl (fun h85 => ?_) (fun h85 => ?_)
          · refine c_skip (n_then (c_seq (c_block ?_)))
            have hcq := cntQ_drop (l := e28.bs) (i := j) (by omega)
            refine c_grow 25 [1, 4, 6, 112] (by kernel_rfl) (by kernel_rfl) ?_
            refine f_move rfl rfl (f_fieldAddr rfl rfl (fun w hw => r_fAt (o := 1) Tryz.underlying25 rfl (by kernel_rfl) rfl) (f_load rfl rfl (fun w hw => r_load1 Tryz.underlying23 rfl (hw.cell_some (e1.cell_some (k1.cell (i := 1) rfl)))) ?_))
            refine f_move rfl rfl ?_
            obtain ⟨a92, c92, p92, q92, h92⟩ := r_ixDs (P := Tryz.prog) (sz := 9) Tryz.underlying23 (by kernel_rfl) dLay_size (by omega) (hb.ext e0) (i := i) (by omega) .i64
            rw [← he28] at h92
            obtain ⟨x92_0, x92_1, rfl, f92_0, f92_1⟩ := dLay_inv h92
            refine f_indexAddr rfl rfl rfl (fun w _ => p92 w) (f_fieldAddr rfl rfl (fun w hw => r_fC (o := 8) Tryz.underlying46 rfl (by kernel_rfl) rfl) ?_)
            refine f_load rfl rfl (fun w hw => r_load1 Tryz.underlying44 rfl (hw.cell_some (q92.at (j := 8) rfl))) (f_move rfl rfl ?_)
            obtain ⟨a96, c96, p96, q96, h96⟩ := r_ixDs (P := Tryz.prog) (sz := 3) Tryz.underlying44 (by kernel_rfl) dRat_size (by omega) f92_1 (i := j) (by omega) .i64
            obtain ⟨e96, he96⟩ : ∃ e, e = e28.bs[j]'(by omega) := ⟨_, rfl⟩
            rw [← he96] at h96
            obtain ⟨x96_0, x96_1, rfl, f96_0, f96_1⟩ := dRat_inv h96
            refine f_indexAddr rfl rfl rfl (fun w _ => p96 w) (f_fieldAddr rfl rfl (fun w hw => r_fC (o := 1) Tryz.underlying42 rfl (by kernel_rfl) rfl) (f_load rfl rfl (fun w hw => r_load1 Tryz.underlying40 rfl (hw.cell_some (q96.at (j := 1) rfl))) ?_))
            refine f_len (vs := [x96_0]) rfl rfl (fun w hw => r_lenW Tryz.underlying40 (f96_0.ext hw)) (f_fieldAddr rfl rfl (fun w hw => r_fAt (o := 1) Tryz.underlying25 rfl (by kernel_rfl) rfl) ?_)
            refine f_load rfl rfl (fun w hw => r_load1 Tryz.underlying23 rfl (hw.cell_some (e1.cell_some (k1.cell (i := 1) rfl)))) (f_move rfl rfl ?_)
            obtain ⟨a103, c103, p103, q103, h103⟩ := r_ixDs (P := Tryz.prog) (sz := 9) Tryz.underlying23 (by kernel_rfl) dLay_size (by omega) (hb.ext e0) (i := i) (by omega) .i64
            rw [← he28] at h103
            obtain ⟨x103_0, x103_1, rfl, f103_0, f103_1⟩ := dLay_inv h103
            refine f_indexAddr rfl rfl rfl (fun w _ => p103 w) (f_fieldAddr rfl rfl (fun w hw => r_fC (o := 8) Tryz.underlying46 rfl (by kernel_rfl) rfl) ?_)
            refine f_load rfl rfl (fun w hw => r_load1 Tryz.underlying44 rfl (hw.cell_some (q103.at (j := 8) rfl))) (f_move rfl rfl ?_)
            obtain ⟨a107, c107, p107, q107, h107⟩ := r_ixDs (P := Tryz.prog) (sz := 3) Tryz.underlying44 (by kernel_rfl) dRat_size (by omega) f103_1 (i := j) (by omega) .i64
            rw [← he96] at h107
            obtain ⟨x107_0, x107_1, rfl, f107_0, f107_1⟩ := dRat_inv h107
            refine f_indexAddr rfl rfl rfl (fun w _ => p107 w) (f_fieldAddr rfl rfl (fun w hw => r_fC (o := 2) Tryz.underlying42 rfl (by kernel_rfl) rfl) (f_load rfl rfl (fun w hw => r_load1 Tryz.underlying40 rfl (hw.cell_some (q107.at (j := 2) rfl))) ?_))
            refine f_len (vs := [x107_1]) rfl rfl (fun w hw => r_lenW Tryz.underlying40 (f107_1.ext hw)) ?_
            rw [← he96] at hcq
            refine f_bin (r := I ((e96.2.1.length + e96.2.2.length : Nat) : Int)) rfl rfl rfl (fun w _ => by have e : ((e96.2.1.length + e96.2.2.length : Nat) : Int) = (e96.2.1.length : Int) + (e96.2.2.length : Int) := (by omega); rw [e]; exact r_add_i (by omega) (by omega)) ?_
            refine f_bin (r := I ((n3 + (e96.2.1.length + e96.2.2.length) : Nat) : Int)) rfl rfl rfl (fun w _ => by have e : ((n3 + (e96.2.1.length + e96.2.2.length) : Nat) : Int) = (n3 : Int) + ((e96.2.1.length + e96.2.2.length : Nat) : Int) := (by omega); rw [e]; exact r_add_i (by omega) (by omega)) ?_
            refine f_nil ?_
            intro wg15 xg15
            rintro _ rfl
            rintro _ rfl
            rintro _ rfl
            rintro _ rfl
            refine o_assign rfl rfl (o_nil (n_block (n_then (c_region (o_move rfl rfl (o_bin (r := I ((j + 1 : Nat) : Int)) rfl rfl rfl (by have e : ((j + 1 : Nat) : Int) = (j : Int) + 1 := (by omega); rw [e]; exact r_add_i (by omega) (by omega)) ?_))))))
            refine o_assign rfl rfl (o_nil ?_)
            refine n_round2 (j + 1) (n3 + (e96.2.1.length + e96.2.2.length)) ⟨rfl, rfl, rfl, rfl, trivial⟩ ⟨(e0.trans xg15), (e1.trans xg15), by omega, by omega⟩ (by omega)
          · refine c_exit (x_then (x_then (x_here (n_then (c_seq ?_)))))
            rw [List.drop_of_length_le (by omega)] at hn3
            have hn3 : n3 = n2 + cntQ e28.bs := hn3
            refine c_region (o_move rfl rfl (o_bin rfl rfl rfl (r_gtr_i) (o_nil (n_then ?_))))
            refine c_if rfl (fun h114 => ?_) (fun h114 => ?_)
            · refine c_seq (c_region (o_assign rfl rfl (o_nil (n_then (c_ret (r_block (r_then (r_then (r_block (r_then (r_body1 rfl rfl ?_)))))))))))
              exact ⟨_, rfl, e0, congrArg B (decide_eq_false (by omega)).symm⟩
            · refine c_skip (n_block (n_then (c_region (o_move rfl rfl (o_bin (r := I ((i + 1 : Nat) : Int)) rfl rfl rfl (by have e : ((i + 1 : Nat) : Int) = (i : Int) + 1 := (by omega); rw [e]; exact r_add_i (by omega) (by omega)) ?_)))))
              refine o_assign rfl rfl (o_nil ?_)
              refine n_round2 (i + 1) (n3) ⟨rfl, rfl, rfl, trivial⟩ ⟨e0, e1, by omega, by omega, by omega⟩ (by omega)
      · refine c_exit (x_then (x_then (x_here (n_then (c_seq (c_region (o_assign rfl rfl (o_nil (n_then (c_ret (r_body1 rfl rfl ?_)))))))))))
        exact ⟨_, rfl, e0, by
          rw [List.drop_of_length_le (by omega)] at hn
          have hn : n = cntLs m.lays := hn
          exact congrArg B (decide_eq_true (by omega)).symm⟩
end Go.Rl
/- The model's reader: its block and the wire reader's. Conditions: each lemma names its own. -/
namespace Go.Rl
open Go.RowKit Go.Proofs
section
variable {w w' : World} {g h : Nat} {T : TypeId} {st : Option (List UInt8)} {p : Option Addr} {b : Bool}
theorem ptr_noByte (p : Option Addr) (b : Bool) (l : List UInt8) : ∀ (j : Nat) (u : Value), u ∈ l.map U8 → (#[.pointer p, .bool b] : Array Value)[j]? ≠ some u := by
  intro j u hu
  obtain ⟨x, _, rfl⟩ := List.mem_map.1 hu
  match j with
  | 0 => simp [U8]
  | 1 => simp [U8]
  | j + 2 => simp
theorem ptr_noWord (p : Option Addr) (b : Bool) (l : List UInt32) : ∀ (j : Nat) (u : Value), u ∈ l.map U32 → (#[.pointer p, .bool b] : Array Value)[j]? ≠ some u := by
  intro j u hu
  obtain ⟨x, _, rfl⟩ := List.mem_map.1 hu
  match j with
  | 0 => simp [U32]
  | 1 => simp [U32]
  | j + 2 => simp
theorem Blk.kpP (hb : Blk h T [.pointer p, B b] w) (hw : w.grownBy w' (some h)) : Kp w w' := ⟨hw.size, fun x => Sl.keep x hb (ptr_noByte p b _) hw, fun x => Sl.keep x hb (ptr_noWord p b _) hw⟩
/-- The reader of a model: the block h points to the wire reader at g; ok as long as that has not failed. -/
structure MrAt (T : TypeId) (h g : Nat) (st : Option (List UInt8)) (w : World) : Prop where
  blk : Blk h T [.pointer (some ⟨g, 0, none⟩), B st.isSome] w
  rd : RdAt g st w
  ne : h ≠ g
/-- Only blocks that are younger than the reader's change. -/
theorem RdT.mv {X : Nat → Prop} (h : RdT T g st w) (hm : Mv X w w') (hX : ∀ k, X k → g < k) : RdT T g st w' := by
  obtain ⟨A, n, c, h1, h2, h3⟩ := h
  refine ⟨A, n, c, hm.blk h1 fun hx => Nat.lt_irrefl _ (hX g hx), ?_, h3⟩
  obtain ⟨A', n', c', he, h4, h5, h6, h7, h8⟩ := h2
  cases he
  refine ⟨_, _, _, rfl, h4, h5, h6, fun hn => ?_, h8⟩
  obtain ⟨ad, rfl, hc⟩ := h7 hn
  refine ⟨ad, rfl, hm.cells hc fun _ hx => ?_⟩
  have := hX _ hx
  have := h3 ad rfl
  omega
theorem MrAt.mv {X : Nat → Prop} (hm : MrAt T h g st w) (hv : Mv X w w') (hX : ∀ k, X k → g < k ∧ h < k) : MrAt T h g st w' :=
  ⟨hv.blk hm.blk fun hx => Nat.lt_irrefl _ (hX h hx).2, (hm.rd.rdT.mv hv fun k hk => (hX k hk).1).rdAt, hm.ne⟩
/-- The two blocks of a reader. -/
def MrX (h g : Nat) : Nat → Prop := fun k => k = h ∨ k = g
theorem MrAt.ext (hm : MrAt T h g st w) (hx : Ext w w') : MrAt T h g st w' := ⟨hm.blk.ext hx, hm.rd.ext hx, hm.ne⟩
/-- the reader went on: its flag is set -/
theorem MrAt.flag {w1 : World} {st1 : Option (List UInt8)} (hb : Blk h T [.pointer (some ⟨g, 0, none⟩), B b] w) (hne : h ≠ g) (hg : w.grownBy w1 (some g)) (hr : RdAt g st1 w1) {t : TypeId} (hs : (Tryz.prog.info? t).map (·.size) = some 1) :
    ∃ w2, (Instr.storeAt t (.pointer (some ⟨h, 1, none⟩)) (B st1.isSome)).run Tryz.prog w1 = .ok () w2 ∧ Mv (MrX h g) w w2 ∧ MrAt T h g st1 w2 ∧ w1.grownBy w2 (some h) := by
  have hb1 := hb.other hg (fun e => hne (Option.some.inj e))
  obtain ⟨w2, h1, h2, h3⟩ := hb1.stC (P := Tryz.prog) (t := t) (i := 1) (v := B st1.isSome) hs rfl (by simp)
  have m1 : Mv (MrX h g) w w1 := Mv.of_grown hg fun k hk _ => .inr (Option.some.inj hk).symm
  have m2 : Mv (MrX h g) w1 w2 := Mv.of_grown h2 fun k hk _ => .inl (Option.some.inj hk).symm
  exact ⟨w2, h1, m1.trans m2 fun _ hn _ => hn, ⟨h3, (hr.rdT.off (hb1.kpP h2) h2 (Ne.symm hne)).rdAt, hne⟩, h2⟩
end
end Go.Rl
/- Literal slices of structs. Conditions: each lemma names its own. -/
namespace Go.Rl
open Go.RowKit Go.Proofs
theorem fold_cells (off : Nat) : ∀ (cs : List Value) (k : Nat) (p q r : List Value), p.length = off + k → q.length = cs.length →
    (cs.zipIdx k).foldl (fun (a : Array Value) (x : Value × Nat) => a.setIfInBounds (off + x.2) x.1) (p ++ q ++ r).toArray = (p ++ cs ++ r).toArray
  | [], k, p, q, r, _, hq => by
    have : q = [] := List.eq_nil_of_length_eq_zero (by simpa using hq)
    subst this
    rfl
  | c :: cs, k, p, q, r, hp, hq => by
    cases q with
    | nil => simp at hq
    | cons q0 q =>
      simp only [List.zipIdx_cons, List.foldl_cons]
      have e : ((p ++ q0 :: q ++ r).toArray).setIfInBounds (off + k) c = ((p ++ [c]) ++ q ++ r).toArray := by
        simp [← hp]
      rw [e, fold_cells off cs (k + 1) (p ++ [c]) q r (by simp; omega) (by simpa using hq)]
      simp
theorem fill_structs {sz : Nat} : ∀ (vs : List (List Value)) (k : Nat) (a b : List Value), (∀ v ∈ vs, v.length = sz) → a.length = k * sz → b.length = vs.length * sz →
    Instr.fill (fun i => some (i * sz, sz)) (a ++ b).toArray (number k (vs.map fun v => Value.agg v.toArray)) = some (a ++ vs.flatten).toArray
  | [], k, a, b, _, _, hb => by
    have : b = [] := List.eq_nil_of_length_eq_zero (by simpa using hb)
    subst this
    rfl
  | v :: vs, k, a, b, hv, ha, hb => by
    have hvl := hv v (by simp)
    have hbl : b.length = sz + vs.length * sz := by rw [hb, List.length_cons, Nat.add_mul]; omega
    have hc : ((Value.agg v.toArray).cells.size ≠ sz || decide (k * sz + (Value.agg v.toArray).cells.size > (a ++ b).toArray.size)) = false := by
      simp [Value.cells, hvl, ha, hbl]
    have hz : (Value.agg v.toArray).cells.zipIdx.foldl (fun (cs : Array Value) (x : Value × Nat) => cs.setIfInBounds (k * sz + x.2) x.1) (a ++ b).toArray = ((a ++ v) ++ b.drop sz).toArray := by
      have h := fold_cells (k * sz) v 0 a (b.take sz) (b.drop sz) (by omega) (by rw [List.length_take]; omega)
      rw [List.append_assoc, List.take_append_drop] at h
      rw [← h]
      simp [Value.cells]
    simp only [List.map_cons, number, Instr.fill]
    rw [hc]
    have ih := fill_structs vs (k + 1) (a ++ v) (b.drop sz) (fun u hu => hv u (by simp [hu])) (by rw [List.length_append, ha, hvl, Nat.add_mul]; omega) (by rw [List.length_drop, hbl]; omega)
    simp only [Bool.false_eq_true, if_false]
    rw [hz, ih]
    simp
/-- A literal slice of structs. -/
theorem r_bsS {P : Program} {w : World} {t e : TypeId} {z : Value} {sz : Nat} (ht : P.underlying t = some (.slice e)) (hi : (P.info? e).map (fun i => (i.zero, i.size)) = some (some z, sz)) (hz : z.cells.size = sz) (h0 : 0 < sz)
    (vs : List (List Value)) (hv : ∀ v ∈ vs, v.length = sz) (hn : 0 < vs.length) (hl : vs.length * sz ≤ 16777216) :
    ∃ r w', (Instr.buildSlice t vs.length (number 0 (vs.map fun v => Value.agg v.toArray)).toArray).run P w = .ok r w' ∧ Ext w w' ∧ Sl sz vs.flatten r w' ∧ r.ownBlock = some w.heap.size := by
  obtain ⟨i, hi', h2⟩ := Option.map_eq_some_iff.1 hi
  simp only [Prod.mk.injEq] at h2
  obtain ⟨hz0, hs⟩ := h2
  have hfl : vs.flatten.length = vs.length * sz := by
    rw [List.length_flatten]
    have : ∀ l : List (List Value), (∀ v ∈ l, v.length = sz) → (l.map List.length).sum = l.length * sz := by
      intro l
      induction l with
      | nil => intro _; simp
      | cons a l ih => intro h; simp only [List.map_cons, List.sum_cons, List.length_cons, h a (by simp), ih fun v hv => h v (by simp [hv]), Nat.add_mul]; omega
    exact this vs hv
  have hf : ∀ Z : Array Value, Z.size = vs.length * sz → Instr.fill (fun i => some (i * sz, sz)) Z (number 0 (vs.map fun v => Value.agg v.toArray)) = some vs.flatten.toArray := fun Z hZ => by
    have := fill_structs vs 0 [] Z.toList hv (by simp) (by simpa using hZ)
    simpa using this
  have hle : ¬ (vs.length * sz > 2 ^ 24) := by omega
  have hinfo : (typeInfo e).run P w = .ok i w := by simp [typeInfo, hi']
  have hsz : (sizeOf e).run P w = .ok sz w := by simp [sizeOf, hinfo, hs]
  have hzv : (zeroValue e).run P w = .ok z w := by simp [zeroValue, hinfo, hz0]
  have hpos : 0 < vs.length * sz := Nat.mul_pos hn h0
  refine ⟨.slice (some ⟨w.heap.size, 0, none⟩) vs.length vs.length, w.alloc (.cells vs.flatten.toArray e), ?_, Ext.new w _, ?_, rfl⟩
  · simp only [Instr.buildSlice, Sem.run_bind, run_underlying ht, Result.andThen_ok, hsz, if_neg hle]
    rw [if_neg (by omega)]
    simp only [Sem.run_bind, Sem.run_pure, Result.andThen_ok, hzv]
    rw [hf _ (by simp [hz, Nat.mul_comm])]
    simp [newRow]
  · have hg := heap_alloc_new w (.cells vs.flatten.toArray e)
    refine ⟨_, _, _, rfl, Nat.le_refl _, by unfold maxLen; have : vs.length ≤ vs.length * sz := Nat.le_mul_of_pos_right _ h0; omega, hfl, fun _ => ⟨_, rfl, fun j u hu => ?_⟩, fun h => by cases h⟩
    rw [Addr.add_mid, Nat.zero_add, cell_of_row _ _ j _ _ _ hg]
    simpa using hu
end Go.Rl
/- Rows of structs of the call's own, whose data is new: appending, readers that go on. Conditions: each lemma names its own. -/
namespace Go.Rl
open Go.RowKit Go.Proofs
section
variable {α : Type} {f : α → Dt} {l : List α} {v x : Value} {w w' : World} {e t ty : TypeId} {sz base : Nat}
/-- A row of one's own, behind base, whose elements read as f of the list's; all that they reach is new and apart from the row. -/
def OwnD (e : TypeId) (sz base : Nat) (f : α → Dt) (l : List α) (v : Value) (w : World) : Prop := ∃ n xs, w.ownsRow base e sz v n xs ∧ RpXAll (fun k => k < base ∨ v.ownBlock = some k) w (l.map f) xs
theorem OwnD.nil (w : World) : OwnD e sz base f ([] : List α) (.slice none 0 0) w := ⟨0, [], World.ownsRow_nil _ _ _ _, RpXAll.nil⟩
theorem OwnD.lt (h : OwnD e sz base f l v w) : ∀ k, v.ownBlock = some k → base ≤ k ∧ k < w.heap.size := fun k hk => by
  obtain ⟨n, xs, h, _⟩ := h
  exact World.ownsRow.lt h k hk
theorem OwnD.isS (h : OwnD e sz base f l v w) : ∃ A n c, v = .slice A n c := by
  obtain ⟨n, xs, ⟨_, h | ⟨g, cap, cur, rfl, _⟩⟩, _⟩ := h
  · exact ⟨_, _, _, h.1⟩
  · exact ⟨_, _, _, rfl⟩
theorem OwnD.rpx (h : OwnD e sz base f l v w) (hs : ∀ a, (f a).size = sz) (h0 : 0 < sz) : RpX (fun k => k < base) w (.sl (l.map f)) [v] := by
  obtain ⟨n, xs, h1, h2⟩ := h
  exact RpX.ofOwn h1 (h2.weak fun k hk => .inl (.inl hk)) (by simp [hs]) h0 fun k hk => Nat.not_lt.2 (World.ownsRow.lt h1 k hk).1
/-- Only blocks below base, or others than the row, may have changed. -/
theorem OwnD.mv {X : Nat → Prop} (h : OwnD e sz base f l v w) (hm : Mv X w w') (hX : ∀ k, X k → k < base) : OwnD e sz base f l v w' := by
  obtain ⟨n, xs, h1, h2⟩ := h
  refine ⟨n, xs, ⟨h1.1, ?_⟩, RpXAll.mv (hm.weak fun k hk _ => .inl (hX k hk)) (fun k hk => .inl hk) h2⟩
  rcases h1.2 with h3 | ⟨g, cap, cur, rfl, h3, h4, h5⟩
  · exact .inl h3
  · refine .inr ⟨g, cap, cur, rfl, h3, ?_, h5⟩
    rw [hm.keep g (Array.getElem?_eq_some_iff.1 h4).1 fun hx => by have := hX g hx; omega]
    exact h4
theorem OwnD.app {P : Program} {z : Value} {bytes : Nat} (ht : P.underlying t = some (.slice e)) (hi : (P.info? e).map (fun i => (i.zero, i.size, i.bytes)) = some (some z, sz, bytes)) (hzs : z.cells.size = sz) (hsz : 0 < sz) (hb0 : 0 < bytes)
    (h : OwnD e sz base f l v w) {a : α} {cs : List Value} (hx : Sl sz cs x w) (h1 : Ones cs) (ha : RpX (fun k => k < base ∨ v.ownBlock = some k) w (f a) cs) (hs : ∀ a, (f a).size = sz) (hb : (l.length + 1) * bytes ≤ 140737488355328) (hbase : base ≤ w.heap.size) :
    ∃ r w1, (Builtin.append_ #[t, t] ty #[v, x]).run P w = .ok r w1 ∧ OwnD e sz base f (l ++ [a]) r w1 ∧ Grew w w1 v r := by
  obtain ⟨n, xs, h2, h3⟩ := h
  have hxl : xs.length = l.length * sz := by rw [h3.len, sizeAll_uniform (sz := sz) (by simp [hs]), List.length_map]
  have hcl : cs.length = sz := by rw [ha.len, hs]
  obtain ⟨r, w1, n', h4, h5, h6⟩ := r_append (P := P) (ty := ty) ht hi hzs hsz h2 hx h1 (by
    rw [hxl, hcl, show l.length * sz + sz = (l.length + 1) * sz by rw [Nat.add_mul, Nat.one_mul], Nat.mul_right_comm]
    exact Nat.mul_le_mul_right _ hb) hb0 hbase
  refine ⟨r, w1, h4, ⟨n', _, h5, ?_⟩, h6⟩
  have hm : Mv (fun k => k < base ∨ v.ownBlock = some k) w w1 := Mv.of_grown h6.grown fun k hk _ => .inr hk
  have hY : ∀ k, (k < base ∨ r.ownBlock = some k) → (k < base ∨ v.ownBlock = some k) ∨ w.heap.size ≤ k := fun k hk => by
    rcases hk with hk | hk
    · exact .inl (.inl hk)
    · rcases h6.own with h7 | h7
      · rw [h7] at hk; exact .inl (.inr hk)
      · exact .inr (h7 k hk)
  rw [List.map_append]
  exact RpXAll.append (RpXAll.mv hm hY h3) (by simpa using RpXAll.cons (RpX.mv hm hY ha) RpXAll.nil)
/-- append of one struct: a literal row of one, then append. -/
theorem OwnD.push {P : Program} {z : Value} {bytes : Nat} (ht : P.underlying t = some (.slice e)) (hi : (P.info? e).map (fun i => (i.zero, i.size, i.bytes)) = some (some z, sz, bytes)) (hzs : z.cells.size = sz) (hsz : 0 < sz) (hsb : sz ≤ 16777216) (hb0 : 0 < bytes)
    (h : OwnD e sz base f l v w) {a : α} {cs : List Value} (h1 : Ones cs) (ha : RpX (fun k => k < base ∨ v.ownBlock = some k) w (f a) cs) (hs : ∀ a, (f a).size = sz) (hb : (l.length + 1) * bytes ≤ 140737488355328) (hbase : base ≤ w.heap.size) :
    ∃ x w0 r w1, (Instr.buildSlice t 1 (number 0 [Value.agg cs.toArray]).toArray).run P w = .ok x w0 ∧ (Builtin.append_ #[t, t] ty #[v, x]).run P w0 = .ok r w1 ∧ OwnD e sz base f (l ++ [a]) r w1 ∧ Mv (fun k => v.ownBlock = some k) w w1 ∧ ∀ k, r.ownBlock = some k → v.ownBlock = some k ∨ w.heap.size ≤ k := by
  have hcl : cs.length = sz := by rw [ha.len, hs]
  have hi2 : (P.info? e).map (fun i => (i.zero, i.size)) = some (some z, sz) := by
    obtain ⟨i, hi', h2⟩ := Option.map_eq_some_iff.1 hi
    simp only [Prod.mk.injEq] at h2
    rw [hi']
    simp [h2.1, h2.2.1]
  obtain ⟨x, w0, h3, h4, h5, _⟩ := r_bsS (w := w) ht hi2 hzs hsz [cs] (by simp [hcl]) (by simp) (by simpa using hsb)
  have h' : OwnD e sz base f l v w0 := by
    obtain ⟨n, xs, h6, h7⟩ := h
    exact ⟨n, xs, ownsRow_ext h6 h4, h7.ext h4⟩
  obtain ⟨r, w1, h6, h7, h8⟩ := h'.app (ty := ty) ht hi hzs hsz hb0 (by simpa using h5) h1 (ha.ext h4) hs hb (Nat.le_trans hbase h4.size)
  refine ⟨x, w0, r, w1, by simpa using h3, h6, h7, (Mv.of_ext h4).trans (Mv.of_grown h8.grown fun k hk _ => hk) fun _ hn _ => hn, fun k hk => ?_⟩
  rcases h8.own with h9 | h9
  · rw [h9] at hk; exact .inl hk
  · exact .inr (Nat.le_trans h4.size (h9 k hk))
end
end Go.Rl

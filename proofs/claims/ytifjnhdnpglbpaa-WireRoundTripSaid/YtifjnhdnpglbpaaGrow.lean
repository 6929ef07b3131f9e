/- Regions that draw their order: one walk in the order of the text, over facts on the slots. Conditions: every operation of the head only reads or makes new memory; the tail is carried out in the order of the text. -/
import Derived.StillTail
import Derived.Below
namespace Go.Rl
open Go.RowKit

/-- What was there is as it was; there may be more. -/
def Ext (w w' : World) : Prop := Below w.heap.size w w'

theorem Ext.refl (w : World) : Ext w w := Below.refl _ _
theorem Ext.trans {a b c : World} (h : Ext a b) (k : Ext b c) : Ext a c := Below.trans h (Below.mono k h.size)
theorem Ext.alloc {a w : World} (h : Ext a w) (o : Obj) : Ext a (w.alloc o) := Below.alloc h h.size o
theorem Ext.drew {a w : World} (h : Ext a w) : Ext a w.drew := Below.drew h
theorem Ext.of_drew {a w : World} (h : Ext a.drew w) : Ext a w := ⟨h.os, h.tape, h.output, h.size, h.block⟩

abbrev Fact := Value → World → Prop
abbrev Facts := Tmp → Fact

/-- The value is known. -/
def Is (c : Value) : Fact := fun v _ => v = c
/-- Nothing is known. -/
def Any : Fact := fun _ _ => True

def Stable (S : Fact) : Prop := ∀ v w w', S v w → Ext w w' → S v w'
theorem Stable.is (c : Value) : Stable (Is c) := fun _ _ _ h _ => h
theorem Stable.any : Stable Any := fun _ _ _ h _ => h

def upd (F : Facts) (d : Option Tmp) (S : Fact) : Facts :=
  match d with
  | none => F
  | some d => fun t => match Nat.beq t d with | true => S | false => F t

theorem upd_same (F : Facts) (d : Tmp) (S : Fact) : upd F (some d) S d = S := by simp [upd]
theorem upd_ne (F : Facts) {d t : Tmp} (S : Fact) (h : t ≠ d) : upd F (some d) S t = F t := by
  have : Nat.beq t d = false := by
    cases hb : Nat.beq t d
    · rfl
    · exact absurd (Nat.eq_of_beq_eq_true hb) h
  simp [upd, this]
theorem upd_ne' (F : Facts) {d : Option Tmp} {t : Tmp} (S : Fact) (h : ∀ e, d = some e → e ≠ t) : upd F d S t = F t := by
  cases d with
  | none => rfl
  | some d => exact upd_ne F S (fun e => h d rfl e.symm)
theorem upd_comm (F : Facts) {x y : Option Tmp} (S R : Fact) (h : ∀ d, x = some d → y ≠ some d) : upd (upd F x S) y R = upd (upd F y R) x S := by
  cases x with
  | none => rfl
  | some d =>
    cases y with
    | none => rfl
    | some e =>
      have hne : d ≠ e := fun he => h d rfl (he ▸ rfl)
      funext t
      by_cases h1 : t = e
      · subst h1
        rw [upd_same, upd_ne _ _ (Ne.symm hne), upd_same]
      · rw [upd_ne _ _ h1]
        by_cases h2 : t = d
        · subst h2
          rw [upd_same, upd_same]
        · rw [upd_ne _ _ h2, upd_ne _ _ h2, upd_ne _ _ h1]

section
variable {P : Program} {ops : Array Oper} {md : Region.Mode} {w0 : World} {N : Nat}

def satOn (ops : Array Oper) (o : Oper) (F : Facts) (a : Act) (w : World) : Prop := ∀ t ∈ o.looksAt ops, F t (a.tmps.getD t undef) w

structure Sat (N : Nat) (D : List Deferred) (F : Facts) (a : Act) (w : World) : Prop where
  size : a.tmps.size = N
  defers : a.defers = D
  at_ : ∀ t, F t (a.tmps.getD t undef) w

/-- What one operation may come to. -/
def growUpon (P : Program) (w : World) (S : Fact) : Result Next → Prop
  | .ok (.value v) w' => Ext w w' ∧ S v w'
  | .ok .skip w' => Ext w w' ∧ S undef w'
  | .ok (.enter f args) w' => Ext w w' ∧ Calls P f args w' (fun e w'' => ∃ v, e = .returned v ∧ Ext w w'' ∧ S v w'')
  | _ => False

structure OpSpec (P : Program) (ops : Array Oper) (w0 : World) (N : Nat) (F : Facts) (o : Oper) (S : Fact) : Prop where
  stable : Stable S
  dst : ∀ d, o.dst = some d → d < N
  yes : ∀ a w, a.tmps.size = N → Ext w0 w → satOn ops o F a w → Region.wanted o (yielded ops a.tmps) = true → growUpon P w S ((execOp a.eval o).run P w)
  no : ∀ a w, a.tmps.size = N → Ext w0 w → satOn ops o F a w → Region.wanted o (yielded ops a.tmps) = false → S undef w

/-- The walk in the order of the text. -/
def wpF (P : Program) (ops : Array Oper) (w0 : World) (N : Nat) : List Oper → Facts → (Facts → Prop) → Prop
  | [], F, K => K F
  | o :: rest, F, K => (∀ t, Stable (F t)) → ∃ S, OpSpec P ops w0 N F o S ∧ wpF P ops w0 N rest (upd F o.dst S) K

theorem satOn_upd {o : Oper} {F : Facts} {d : Option Tmp} {S : Fact} (h : ∀ e, d = some e → e ∉ o.looksAt ops) (a : Act) (w : World) : satOn ops o (upd F d S) a w ↔ satOn ops o F a w := by
  unfold satOn
  constructor
  · intro hs t ht
    have := hs t ht
    rwa [upd_ne' F S (fun e he => by rintro rfl; exact h _ he ht)] at this
  · intro hs t ht
    rw [upd_ne' F S (fun e he => by rintro rfl; exact h _ he ht)]
    exact hs t ht

theorem OpSpec.of_upd {o : Oper} {F : Facts} {d : Option Tmp} {S R : Fact} (h : ∀ e, d = some e → e ∉ o.looksAt ops) (hs : OpSpec P ops w0 N (upd F d S) o R) : OpSpec P ops w0 N F o R :=
  ⟨hs.stable, hs.dst, fun a w h1 h2 h3 => hs.yes a w h1 h2 ((satOn_upd h a w).2 h3), fun a w h1 h2 h3 => hs.no a w h1 h2 ((satOn_upd h a w).2 h3)⟩
theorem OpSpec.to_upd {o : Oper} {F : Facts} {d : Option Tmp} {S R : Fact} (h : ∀ e, d = some e → e ∉ o.looksAt ops) (hs : OpSpec P ops w0 N F o R) : OpSpec P ops w0 N (upd F d S) o R :=
  ⟨hs.stable, hs.dst, fun a w h1 h2 h3 => hs.yes a w h1 h2 ((satOn_upd h a w).1 h3), fun a w h1 h2 h3 => hs.no a w h1 h2 ((satOn_upd h a w).1 h3)⟩

/-- Whatever order is picked, over facts. -/
def wpAnyF (P : Program) (md : Region.Mode) (ops : Array Oper) (w0 : World) (N n : Nat) (L : Array Bool → Facts → Prop) : Nat → Array Bool → Facts → Prop
  | 0, listed, F => L listed F
  | f + 1, listed, F =>
    Region.ready md ops listed ≠ [] ∧ ∀ i ∈ Region.ready md ops listed, i < n ∧ ∃ o S, ops[i]? = some o ∧ OpSpec P ops w0 N F o S ∧ wpAnyF P md ops w0 N n L f (listed.setIfInBounds i true) (upd F o.dst S)

theorem Sat.put {D : List Deferred} {F : Facts} {a : Act} {w w' : World} (hs : Sat N D F a w) (hst : ∀ t, Stable (F t)) (he : Ext w w') {dst : Option Tmp} (hd : ∀ d, dst = some d → d < N) {S : Fact} {v : Value} (hv : S v w') :
    Sat N D (upd F dst S) (a.put dst v) w' := by
  cases dst with
  | none => exact ⟨hs.size, hs.defers, fun t => hst t _ _ _ (hs.at_ t) he⟩
  | some d =>
    refine ⟨by simp [Act.put, hs.size], hs.defers, fun t => ?_⟩
    have hlt := hd d rfl
    by_cases htd : t = d
    · subst htd
      rw [upd_same]
      have : (a.put (some t) v).tmps.getD t undef = v := by
        simp [Act.put, hs.size, hlt]
      rw [this]
      exact hv
    · rw [upd_ne F S htd]
      have : (a.put (some d) v).tmps.getD t undef = a.tmps.getD t undef := by
        simp [Act.put, Array.getElem?_setIfInBounds_ne (Ne.symm htd)]
      rw [this]
      exact hst t _ _ _ (hs.at_ t) he

theorem stable_upd {F : Facts} (hst : ∀ t, Stable (F t)) {d : Option Tmp} {S : Fact} (hS : Stable S) : ∀ t, Stable (upd F d S t) := by
  intro t
  cases d with
  | none => exact hst t
  | some d =>
    by_cases h : t = d
    · subst h; rw [upd_same]; exact hS
    · rw [upd_ne F S h]; exact hst t

theorem wpOp_of_spec {D : List Deferred} {i : Nat} {o : Oper} {F : Facts} {S : Fact} {a : Act} {w : World} {K : Act → World → Prop} {Q : Exit → Act → World → Prop} (hi : ops[i]? = some o) (hs : OpSpec P ops w0 N F o S)
    (hF : ∀ t, Stable (F t)) (he : Ext w0 w) (hsat : Sat N D F a w) (h : ∀ a' w', Ext w0 w' → Sat N D (upd F o.dst S) a' w' → K a' w') : wpOp P ops Q i K a w := by
  unfold wpOp
  simp only [hi]
  have hon : satOn ops o F a w := fun t _ => hsat.at_ t
  split
  · rename_i hw
    refine .inl ?_
    have h1 := hs.yes a w hsat.size he hon hw
    unfold Oper.wp
    generalize (execOp a.eval o).run P w = r at h1
    cases r with
    | ok n w' =>
      cases n <;> simp only [growUpon] at h1 <;> simp only [Oper.upon]
      case value v => exact h _ _ (he.trans h1.1) (hsat.put hF h1.1 hs.dst h1.2)
      case skip => exact h _ _ (he.trans h1.1) (hsat.put hF h1.1 hs.dst h1.2)
      case enter f args =>
        refine h1.2.mono ?_
        rintro e w'' ⟨v, rfl, hx, hv⟩
        exact h _ _ (he.trans hx) (hsat.put hF hx hs.dst hv)
    | halt x w' => simp only [growUpon] at h1
  · rename_i hw
    have h1 := hs.no a w hsat.size he hon (by simpa using hw)
    exact h _ _ he (hsat.put hF (Ext.refl _) hs.dst h1)

theorem wpAny_of_facts {D : List Deferred} {n g : Nat} {L : Array Bool → Facts → Prop} {Q' : Exit → Act → World → Prop} (hL : ∀ listed F, L listed F → (∀ t, Stable (F t)) → ∀ a w, Ext w0 w → Sat N D F a w → wpAny P md ops Q' g listed a w) :
    ∀ (f : Nat) (listed : Array Bool) (F : Facts), wpAnyF P md ops w0 N n L f listed F → (∀ t, Stable (F t)) → ∀ a w, Ext w0 w → Sat N D F a w → wpAny P md ops Q' (f + g) listed a w
  | 0, listed, F, h, hF, a, w, he, hs => by rw [Nat.zero_add]; exact hL _ _ h hF a w he hs
  | f + 1, listed, F, h, hF, a, w, he, hs => by
    rw [show f + 1 + g = (f + g) + 1 by omega]
    refine ⟨fun h0 => absurd h0 h.1, fun i hi => ?_⟩
    obtain ⟨_, o, S, ho, hspec, hrest⟩ := h.2 i hi
    exact wpOp_of_spec ho hspec hF he hs (fun a' w' he' hs' => wpAny_of_facts hL f _ _ hrest (stable_upd hF hspec.stable) a' w' he' hs')

theorem wpAnyF_first {n i : Nat} {oi : Oper} {S : Fact} {L : Array Bool → Facts → Prop} (hi : ops[i]? = some oi)
    (hs : Region.sinkB md ops n = true) (hc : Region.chainB md ops n = true) (hn : n < ops.size) (hin : i < n)
    (hdone : ∀ listed F, L listed F → ∀ j ∈ Region.ready md ops listed, n ≤ j) :
    ∀ (f : Nat) (listed : Array Bool) (F : Facts), HeadInv md ops n listed →
      (∀ j oj, ops[j]? = some oj → j ≠ i → listed.getD j true = false → (∀ e ∈ oj.after, Region.binds md e = true → e.on ≠ i) → oi.apart ops oj = true) →
      i ∈ Region.ready md ops listed → OpSpec P ops w0 N F oi S →
      wpAnyF P md ops w0 N n L f (listed.setIfInBounds i true) (upd F oi.dst S) → wpAnyF P md ops w0 N n L (f + 1) listed F := by
  intro f
  induction f with
  | zero =>
    intro listed F inv _ hr hy H
    have hun := (mem_ready.1 hr).1
    refine ⟨fun h => (by rw [h] at hr; cases hr), fun j hj => ?_⟩
    have hjn : j < n := by
      rcases Nat.lt_or_ge j n with h | h
      · exact h
      · exact absurd hj (tail_waits hs hc hn inv _ i rfl hin hun j h)
    refine ⟨hjn, ?_⟩
    by_cases hji : j = i
    · subst hji; exact ⟨oi, S, hi, hy, H⟩
    · have := hdone _ _ H j (ready_mono hj hji)
      omega
  | succ f ih =>
    intro listed F inv hfree hr hy H
    have hun := (mem_ready.1 hr).1
    refine ⟨fun h => (by rw [h] at hr; cases hr), fun j hj => ?_⟩
    have hjn : j < n := by
      rcases Nat.lt_or_ge j n with h | h
      · exact h
      · exact absurd hj (tail_waits hs hc hn inv _ i rfl hin hun j h)
    refine ⟨hjn, ?_⟩
    by_cases hji : j = i
    · subst hji; exact ⟨oi, S, hi, hy, H⟩
    · obtain ⟨_, oj, R, hoj, hspec, hrest⟩ := H.2 j (ready_mono hj hji)
      obtain ⟨hjun, oj', hoj', hall⟩ := mem_ready.1 hj
      obtain rfl : oj = oj' := Option.some.inj (hoj.symm.trans hoj')
      have hnot : ∀ e ∈ oj.after, Region.binds md e = true → e.on ≠ i := fun e he hb heq => by
        have h1 := hall e he hb
        rw [heq, getD_both hun] at h1
        cases h1
      obtain ⟨h1, h2, h3⟩ := Oper.apart_spec (hfree j oj hoj hji hjun hnot)
      have hfree' : ∀ k ok, ops[k]? = some ok → k ≠ i → (listed.setIfInBounds j true).getD k true = false →
          (∀ e ∈ ok.after, Region.binds md e = true → e.on ≠ i) → oi.apart ops ok = true := fun k ok hk hki hun hno => by
        refine hfree k ok hk hki ?_ hno
        by_cases hjk : j = k
        · subst hjk; exact hjun
        · rw [getD_set_ne true hjk] at hun; exact hun
      refine ⟨oj, R, hoj, OpSpec.of_upd h1 hspec, ih (listed.setIfInBounds j true) _ (inv.set hj hjn) hfree' (ready_mono hr (Ne.symm hji)) (OpSpec.to_upd h3 hy) ?_⟩
      rw [Array.setIfInBounds_comm _ _ hji, ← upd_comm F S R h2]
      exact hrest

theorem wpAnyF_lex {n g : Nat} {Lq : Facts → Prop} (hs : Region.sinkB md ops n = true) (hc : Region.chainB md ops n = true) (hn : n < ops.size) :
    ∀ (l : List Oper) (k : Nat) (listed : Array Bool) (F : Facts), (∀ j, j < l.length → l[j]? = ops[k + j]?) → k + l.length = n → HeadInv md ops n listed →
    Region.lexHead md ops g l.length k listed = true → (∀ t, Stable (F t)) → wpF P ops w0 N l F Lq →
    wpAnyF P md ops w0 N n (fun listed' F' => Region.seqB md ops g n listed' = true ∧ Lq F') l.length listed F
  | [], k, listed, F, _, hk, _, hB, _, h => by
    have : k = n := by simpa using hk
    subst this
    exact ⟨by simpa [Region.lexHead] using hB, h⟩
  | o :: l, k, listed, F, hl, hk, inv, hB, hF, h => by
    have h0 : ops[k]? = some o := by simpa using (hl 0 (by simp)).symm
    simp only [List.length_cons, Region.lexHead, Bool.and_eq_true] at hB
    obtain ⟨⟨hr, hf⟩, hB'⟩ := hB
    have hkn : k < n := by simp only [List.length_cons] at hk; omega
    have hr' : k ∈ Region.ready md ops listed := by simpa using hr
    obtain ⟨S, hspec, hrest⟩ := h hF
    exact wpAnyF_first h0 hs hc hn hkn (fun listed' F' hL => seqB_ready hL.1) l.length listed F inv (Region.free_spec h0 hf) hr' hspec
      (wpAnyF_lex hs hc hn l (k + 1) _ _ (fun j hj => by have := hl (j + 1) (by simp; omega); simpa [Nat.add_assoc, Nat.add_comm 1 j] using this) (by simp only [List.length_cons] at hk; omega) (inv.set hr' hkn) hB' (stable_upd hF hspec.stable) hrest)

/-- **The rule**: the first n operations in whatever order, over facts; the rest in the order of the text. -/
theorem wp_region_grow {id : Nat} {Q : Exit → Act → World → Prop} {a : Act} {D : List Deferred} {F : Facts} {w : World} {l : List Oper} (n N : Nat) (hm : P.follows .mixedOrders = true) (hB : Region.lexTailB .any l.toArray n = true)
    (hF : ∀ t, Stable (F t)) (hsat : Sat N D F a { w with drawn := w.drawn + 1 })
    (h : wpF P l.toArray w N (l.take n) F (fun F => ∀ a' w', Ext w w' → Sat N D F a' w' → wpList P l.toArray Q (l.drop n) a' w')) : (Code.region id l.toArray true).wp P Q a w := by
  simp only [Region.lexTailB, Bool.and_eq_true, decide_eq_true_eq] at hB
  obtain ⟨⟨⟨⟨_, hn⟩, hs⟩, hc⟩, hlex⟩ := hB
  have hn' : n < l.length := by simpa using hn
  have htl : (l.take n).length = n := by simp; omega
  have hdl : (l.drop n).length = l.toArray.size - n := by simp
  have inv0 : HeadInv .any l.toArray n (Array.replicate l.toArray.size false) :=
    ⟨by simp, fun j oj _ hl => (by rw [getD_replicate_false] at hl; cases hl), fun t _ ht => getD_in (by simpa using ht) (getD_replicate_false _ _)⟩
  have H := wpAnyF_lex (md := .any) (g := l.toArray.size - n) hs hc hn (l.take n) 0 _ _ (fun j hj => by
    have hj' : j < n := by rw [htl] at hj; exact hj
    simp [hj']) (by simpa using htl) inv0 (by rw [htl]; exact hlex) hF h
  refine wp_region_any hm ?_
  have := wpAny_of_facts (D := D) (Q' := Q) (g := l.toArray.size - n) (fun listed F hL hF a' w' he hsat => by
    have := wpAny_of_seq (md := .any) (Q' := Q) (l.drop n) n listed a' w' (fun j => by simp [List.getElem?_drop]) (by rw [hdl]; exact hL.1) (hL.2 a' w' he hsat)
    rwa [hdl] at this) _ _ _ H hF a { w with drawn := w.drawn + 1 } ⟨rfl, rfl, rfl, Nat.le_refl _, fun _ _ => rfl⟩ hsat
  rw [htl, show n + (l.toArray.size - n) = l.toArray.size by omega] at this
  exact this

end
end Go.Rl

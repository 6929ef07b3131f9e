/- Regions that draw their order: one walk in the order of the text, over facts on the slots. Conditions: every operation of the head only reads or makes new memory; the tail is carried out in the order of the text. -/
import Derived.StillTail
import Derived.Below
import Derived.Laws.Entries
import Derived.Maps.AppendAt
import Derived.Laws.BytesString
import Derived.Laws.Slices
import Derived.Laws.MakeOwn
import Derived.Laws.Rows
import Derived.OwnWalk
import Derived.Laws.BitsAllLaws
import Derived.Laws.Strings
import Derived.Test.YtaehfoogjjglcaaProg
import Derived.KernelRfl
import Derived.Laws.OwnMore
import Derived.ProofKit
import Derived.OpenShut
import Derived.ChangeArms
import Derived.Deep.MidRow
import Derived.RangeFuncWrites
import Derived.RangeFuncLeaves
import Derived.TacticsIn
import Derived.OwnWalkIn
import Derived.Laws.CopyRow
import Derived.Maps.Keyed
import Derived.DeepKeys5
namespace Go.Rl
open Go.RowKit

/-- What was there is as it was; there may be more. -/
def Ext (w w' : World) : Prop := Below w.heap.size w w'

theorem Ext.refl (w : World) : Ext w w := Below.refl _ _
theorem Ext.trans {a b c : World} (h : Ext a b) (k : Ext b c) : Ext a c := Below.trans h (Below.mono k h.size)
theorem Ext.alloc {a w : World} (h : Ext a w) (o : Obj) : Ext a (w.alloc o) := Below.alloc h h.size o
theorem Ext.drew {a w : World} (h : Ext a w) : Ext a w.drew := Below.drew h
theorem Ext.of_drew {a w : World} (h : Ext a.drew w) : Ext a w := ⟨h.os, h.tape, h.output, h.size, h.block⟩

abbrev Fact := Value → World → Prop
abbrev Facts := Tmp → Fact

/-- The value is known. -/
def Is (c : Value) : Fact := fun v _ => v = c
/-- Nothing is known. -/
def Any : Fact := fun _ _ => True

def StableR (Rl : World → World → Prop) (S : Fact) : Prop := ∀ v w w', S v w → Rl w w' → S v w'
abbrev Stable (S : Fact) : Prop := StableR Ext S
theorem Stable.is {Rl : World → World → Prop} (c : Value) : StableR Rl (Is c) := fun _ _ _ h _ => h
theorem Stable.any {Rl : World → World → Prop} : StableR Rl Any := fun _ _ _ h _ => h
/-- A state of the world. -/
abbrev Zst := World → Prop
def StableZ (Z : Zst) : Prop := ∀ w w', Z w → Ext w w' → Z w'
theorem StableZ.triv : StableZ (fun _ => True) := fun _ _ _ _ => trivial

def upd (F : Facts) (d : Option Tmp) (S : Fact) : Facts :=
  match d with
  | none => F
  | some d => fun t => match Nat.beq t d with | true => S | false => F t

theorem upd_same (F : Facts) (d : Tmp) (S : Fact) : upd F (some d) S d = S := by simp [upd]
theorem upd_ne (F : Facts) {d t : Tmp} (S : Fact) (h : t ≠ d) : upd F (some d) S t = F t := by
  have : Nat.beq t d = false := by
    cases hb : Nat.beq t d
    · rfl
    · exact absurd (Nat.eq_of_beq_eq_true hb) h
  simp [upd, this]
theorem upd_ne' (F : Facts) {d : Option Tmp} {t : Tmp} (S : Fact) (h : ∀ e, d = some e → e ≠ t) : upd F d S t = F t := by
  cases d with
  | none => rfl
  | some d => exact upd_ne F S (fun e => h d rfl e.symm)
theorem upd_comm (F : Facts) {x y : Option Tmp} (S R : Fact) (h : ∀ d, x = some d → y ≠ some d) : upd (upd F x S) y R = upd (upd F y R) x S := by
  cases x with
  | none => rfl
  | some d =>
    cases y with
    | none => rfl
    | some e =>
      have hne : d ≠ e := fun he => h d rfl (he ▸ rfl)
      funext t
      by_cases h1 : t = e
      · subst h1
        rw [upd_same, upd_ne _ _ (Ne.symm hne), upd_same]
      · rw [upd_ne _ _ h1]
        by_cases h2 : t = d
        · subst h2
          rw [upd_same, upd_same]
        · rw [upd_ne _ _ h2, upd_ne _ _ h2, upd_ne _ _ h1]

section
variable {P : Program} {ops : Array Oper} {md : Region.Mode} {Env : World → Prop} {Rl : World → World → Prop} {mo : Bool} {Pn : List PanicEntry → World → Prop} {N : Nat}

/-- What is known of the worlds in a region: what comes behind others is known too. -/
structure EnvOk (Env : World → Prop) (Rl : World → World → Prop) : Prop where
  ext : ∀ w w', Ext w w' → Rl w w'
  keep : ∀ w w', Env w → Rl w w' → Env w'
theorem EnvOk.plain (w : World) : EnvOk (Ext w) Ext := ⟨fun _ _ h => h, fun _ _ h k => h.trans k⟩
theorem StableR.ext {S : Fact} (h : StableR Rl S) (hE : EnvOk Env Rl) : Stable S := fun v w w' hs hx => h v w w' hs (hE.ext w w' hx)

def satOn (ops : Array Oper) (o : Oper) (F : Facts) (a : Act) (w : World) : Prop := ∀ t ∈ o.looksAt ops, F t (a.tmps.getD t undef) w

structure Sat (N : Nat) (D : List Deferred) (F : Facts) (a : Act) (w : World) : Prop where
  size : a.tmps.size = N
  defers : a.defers = D
  at_ : ∀ t, F t (a.tmps.getD t undef) w

/-- What one operation may come to. -/
def growUpon (P : Program) (w : World) (S : Fact) : Result Next → Prop
  | .ok (.value v) w' => Ext w w' ∧ S v w'
  | .ok .skip w' => Ext w w' ∧ S undef w'
  | .ok (.enter f args) w' => Ext w w' ∧ Calls P f args w' (fun e w'' => ∃ v, e = .returned v ∧ Ext w w'' ∧ S v w'')
  | _ => False
/-- What a call that turns the world may come to. -/
def growMut (P : Program) (Rl : World → World → Prop) (Pn : List PanicEntry → World → Prop) (w : World) (S : Fact) (Z : Zst) : Result Next → Prop
  | .ok (.enter f args) w' => Calls P f args w' (fun e w'' => (∃ v, e = .returned v ∧ Rl w w'' ∧ S v w'' ∧ Z w'') ∨ ∃ c, e = .panicked c ∧ Pn c w'')
  | _ => False
def isCallB (o : Oper) : Bool := match o.op with | .call c => (match c.callee with | .builtin _ => false | _ => true) | _ => false

structure OpSpec (P : Program) (ops : Array Oper) (Env : World → Prop) (Rl : World → World → Prop) (N : Nat) (F : Facts) (o : Oper) (S : Fact) : Prop where
  stable : StableR Rl S
  dst : ∀ d, o.dst = some d → d < N
  yes : ∀ a w, a.tmps.size = N → Env w → satOn ops o F a w → Region.wanted o (yielded ops a.tmps) = true → growUpon P w S ((execOp a.eval o).run P w)
  no : ∀ a w, a.tmps.size = N → Env w → satOn ops o F a w → Region.wanted o (yielded ops a.tmps) = false → S undef w
structure OpMut (P : Program) (ops : Array Oper) (Env : World → Prop) (Rl : World → World → Prop) (Pn : List PanicEntry → World → Prop) (N : Nat) (F : Facts) (Z : Zst) (o : Oper) (S : Fact) (Z' : Zst) : Prop where
  call : isCallB o = true
  stable : StableR Rl S
  zst : StableZ Z'
  dst : ∀ d, o.dst = some d → d < N
  yes : ∀ a w, a.tmps.size = N → Env w → satOn ops o F a w → Z w → Region.wanted o (yielded ops a.tmps) = true → growMut P Rl Pn w S Z' ((execOp a.eval o).run P w)
  no : ∀ a w, a.tmps.size = N → Env w → satOn ops o F a w → Z w → Region.wanted o (yielded ops a.tmps) = false → S undef w ∧ Z' w
def GStep (P : Program) (ops : Array Oper) (Env : World → Prop) (Rl : World → World → Prop) (mo : Bool) (Pn : List PanicEntry → World → Prop) (N : Nat) (F : Facts) (Z : Zst) (o : Oper) (S : Fact) (Z' : Zst) : Prop :=
  (OpSpec P ops Env Rl N F o S ∧ Z' = Z) ∨ (mo = true ∧ OpMut P ops Env Rl Pn N F Z o S Z')

/-- The walk in the order of the text. -/
def wpF (P : Program) (ops : Array Oper) (Env : World → Prop) (Rl : World → World → Prop) (mo : Bool) (Pn : List PanicEntry → World → Prop) (N : Nat) : List Oper → Facts → Zst → (Facts → Zst → Prop) → Prop
  | [], F, Z, K => K F Z
  | o :: rest, F, Z, K => (∀ t, StableR Rl (F t)) → StableZ Z → ∃ S Z', GStep P ops Env Rl mo Pn N F Z o S Z' ∧ wpF P ops Env Rl mo Pn N rest (upd F o.dst S) Z' K
theorem wpF_mono : ∀ (l : List Oper) (F : Facts) (Z : Zst) {K K' : Facts → Zst → Prop}, (∀ F Z, K F Z → K' F Z) → wpF P ops Env Rl mo Pn N l F Z K → wpF P ops Env Rl mo Pn N l F Z K'
  | [], F, Z, _, _, hK, h => hK _ _ h
  | o :: l, F, Z, _, _, hK, h => fun hF hZ => by
    obtain ⟨S, Z', h1, h2⟩ := h hF hZ
    exact ⟨S, Z', h1, wpF_mono l _ _ hK h2⟩

theorem satOn_upd {o : Oper} {F : Facts} {d : Option Tmp} {S : Fact} (h : ∀ e, d = some e → e ∉ o.looksAt ops) (a : Act) (w : World) : satOn ops o (upd F d S) a w ↔ satOn ops o F a w := by
  unfold satOn
  constructor
  · intro hs t ht
    have := hs t ht
    rwa [upd_ne' F S (fun e he => by rintro rfl; exact h _ he ht)] at this
  · intro hs t ht
    rw [upd_ne' F S (fun e he => by rintro rfl; exact h _ he ht)]
    exact hs t ht

theorem GStep.of_upd {o : Oper} {F : Facts} {Z Z' : Zst} {d : Option Tmp} {S R : Fact} (h : ∀ e, d = some e → e ∉ o.looksAt ops) (hs : GStep P ops Env Rl mo Pn N (upd F d S) Z o R Z') : GStep P ops Env Rl mo Pn N F Z o R Z' := by
  rcases hs with ⟨hs, hz⟩ | ⟨hm, hs⟩
  · exact .inl ⟨⟨hs.stable, hs.dst, fun a w h1 h2 h3 => hs.yes a w h1 h2 ((satOn_upd h a w).2 h3), fun a w h1 h2 h3 => hs.no a w h1 h2 ((satOn_upd h a w).2 h3)⟩, hz⟩
  · exact .inr ⟨hm, ⟨hs.call, hs.stable, hs.zst, hs.dst, fun a w h1 h2 h3 => hs.yes a w h1 h2 ((satOn_upd h a w).2 h3), fun a w h1 h2 h3 => hs.no a w h1 h2 ((satOn_upd h a w).2 h3)⟩⟩
theorem GStep.to_upd {o : Oper} {F : Facts} {Z Z' : Zst} {d : Option Tmp} {S R : Fact} (h : ∀ e, d = some e → e ∉ o.looksAt ops) (hs : GStep P ops Env Rl mo Pn N F Z o R Z') : GStep P ops Env Rl mo Pn N (upd F d S) Z o R Z' := by
  rcases hs with ⟨hs, hz⟩ | ⟨hm, hs⟩
  · exact .inl ⟨⟨hs.stable, hs.dst, fun a w h1 h2 h3 => hs.yes a w h1 h2 ((satOn_upd h a w).1 h3), fun a w h1 h2 h3 => hs.no a w h1 h2 ((satOn_upd h a w).1 h3)⟩, hz⟩
  · exact .inr ⟨hm, ⟨hs.call, hs.stable, hs.zst, hs.dst, fun a w h1 h2 h3 => hs.yes a w h1 h2 ((satOn_upd h a w).1 h3), fun a w h1 h2 h3 => hs.no a w h1 h2 ((satOn_upd h a w).1 h3)⟩⟩
theorem GStep.stable {o : Oper} {F : Facts} {Z Z' : Zst} {S : Fact} (h : GStep P ops Env Rl mo Pn N F Z o S Z') : StableR Rl S := h.elim (·.1.stable) (·.2.stable)
theorem GStep.zst {o : Oper} {F : Facts} {Z Z' : Zst} {S : Fact} (h : GStep P ops Env Rl mo Pn N F Z o S Z') (hZ : StableZ Z) : StableZ Z' := h.elim (fun h => h.2 ▸ hZ) (·.2.zst)
theorem GStep.dst {o : Oper} {F : Facts} {Z Z' : Zst} {S : Fact} (h : GStep P ops Env Rl mo Pn N F Z o S Z') : ∀ d, o.dst = some d → d < N := h.elim (·.1.dst) (·.2.dst)
/-- Two steps, one of which does not turn the world, in the other order. -/
theorem GStep.swap {oi oj : Oper} {F : Facts} {Z Z' Z'' : Zst} {S R : Fact} (hi : GStep P ops Env Rl mo Pn N F Z oi S Z') (hj : GStep P ops Env Rl mo Pn N (upd F oi.dst S) Z' oj R Z'')
    (h1 : ∀ e, oi.dst = some e → e ∉ oj.looksAt ops) (h3 : ∀ e, oj.dst = some e → e ∉ oi.looksAt ops) (hx : ¬ (mo = true ∧ isCallB oi = true ∧ isCallB oj = true)) :
    ∃ Z1, GStep P ops Env Rl mo Pn N F Z oj R Z1 ∧ GStep P ops Env Rl mo Pn N (upd F oj.dst R) Z1 oi S Z'' := by
  have hj := hj.of_upd h1
  have hi' := hi
  rcases hi' with ⟨hq, rfl⟩ | ⟨hm, hq⟩
  · refine ⟨Z'', hj, GStep.to_upd h3 (.inl ⟨hq, rfl⟩)⟩
  · rcases hj with ⟨hr, rfl⟩ | ⟨_, hr⟩
    · exact ⟨Z, .inl ⟨hr, rfl⟩, GStep.to_upd h3 hi⟩
    · exact absurd ⟨hm, hq.call, hr.call⟩ hx

/-- Whatever order is picked, over facts. -/
def wpAnyF (P : Program) (md : Region.Mode) (ops : Array Oper) (Env : World → Prop) (Rl : World → World → Prop) (mo : Bool) (Pn : List PanicEntry → World → Prop) (N n : Nat) (L : Array Bool → Facts → Zst → Prop) : Nat → Array Bool → Facts → Zst → Prop
  | 0, listed, F, Z => L listed F Z
  | f + 1, listed, F, Z =>
    Region.ready md ops listed ≠ [] ∧ ∀ i ∈ Region.ready md ops listed, i < n ∧ ∃ o S Z', ops[i]? = some o ∧ GStep P ops Env Rl mo Pn N F Z o S Z' ∧ wpAnyF P md ops Env Rl mo Pn N n L f (listed.setIfInBounds i true) (upd F o.dst S) Z'

theorem Sat.put {D : List Deferred} {F : Facts} {a : Act} {w w' : World} (hs : Sat N D F a w) (hst : ∀ t, StableR Rl (F t)) (he : Rl w w') {dst : Option Tmp} (hd : ∀ d, dst = some d → d < N) {S : Fact} {v : Value} (hv : S v w') :
    Sat N D (upd F dst S) (a.put dst v) w' := by
  cases dst with
  | none => exact ⟨hs.size, hs.defers, fun t => hst t _ _ _ (hs.at_ t) he⟩
  | some d =>
    refine ⟨by simp [Act.put, hs.size], hs.defers, fun t => ?_⟩
    have hlt := hd d rfl
    by_cases htd : t = d
    · subst htd
      rw [upd_same]
      have : (a.put (some t) v).tmps.getD t undef = v := by
        simp [Act.put, hs.size, hlt]
      rw [this]
      exact hv
    · rw [upd_ne F S htd]
      have : (a.put (some d) v).tmps.getD t undef = a.tmps.getD t undef := by
        simp [Act.put, Array.getElem?_setIfInBounds_ne (Ne.symm htd)]
      rw [this]
      exact hst t _ _ _ (hs.at_ t) he

theorem stable_upd {F : Facts} (hst : ∀ t, StableR Rl (F t)) {d : Option Tmp} {S : Fact} (hS : StableR Rl S) : ∀ t, StableR Rl (upd F d S t) := by
  intro t
  cases d with
  | none => exact hst t
  | some d =>
    by_cases h : t = d
    · subst h; rw [upd_same]; exact hS
    · rw [upd_ne F S h]; exact hst t

theorem wpOp_of_spec {D : List Deferred} {i : Nat} {o : Oper} {F : Facts} {Z Z' : Zst} {S : Fact} {a : Act} {w : World} {K : Act → World → Prop} {Q : Exit → Act → World → Prop} (hE : EnvOk Env Rl) (hP : ∀ c a w, a.defers = D → Pn c w → Q (.panic c) a w) (hi : ops[i]? = some o) (hs : GStep P ops Env Rl mo Pn N F Z o S Z')
    (hF : ∀ t, StableR Rl (F t)) (hZ : StableZ Z) (he : Env w) (hsat : Sat N D F a w) (hz : Z w) (h : ∀ a' w', Env w' → Sat N D (upd F o.dst S) a' w' → Z' w' → K a' w') : wpOp P ops Q i K a w := by
  have rr : ∀ w, Rl w w := fun w => hE.ext w w (Ext.refl w)
  unfold wpOp
  simp only [hi]
  have hon : satOn ops o F a w := fun t _ => hsat.at_ t
  split
  · rename_i hw
    refine .inl ?_
    rcases hs with ⟨hs, rfl⟩ | ⟨_, hs⟩
    · have h1 := hs.yes a w hsat.size he hon hw
      unfold Oper.wp
      generalize (execOp a.eval o).run P w = r at h1
      cases r with
      | ok n w' =>
        cases n <;> simp only [growUpon] at h1 <;> simp only [Oper.upon]
        case value v => exact h _ _ (hE.keep _ _ he (hE.ext _ _ h1.1)) (hsat.put hF (hE.ext _ _ h1.1) hs.dst h1.2) (hZ _ _ hz h1.1)
        case skip => exact h _ _ (hE.keep _ _ he (hE.ext _ _ h1.1)) (hsat.put hF (hE.ext _ _ h1.1) hs.dst h1.2) (hZ _ _ hz h1.1)
        case enter f args =>
          refine h1.2.mono ?_
          rintro e w'' ⟨v, rfl, hx, hv⟩
          exact h _ _ (hE.keep _ _ he (hE.ext _ _ hx)) (hsat.put hF (hE.ext _ _ hx) hs.dst hv) (hZ _ _ hz hx)
      | halt x w' => simp only [growUpon] at h1
    · have h1 := hs.yes a w hsat.size he hon hz hw
      unfold Oper.wp
      generalize (execOp a.eval o).run P w = r at h1
      cases r with
      | ok n w' =>
        cases n <;> simp only [growMut] at h1 <;> simp only [Oper.upon]
        case enter f args =>
          refine h1.mono ?_
          rintro e w'' (⟨v, rfl, hx, hv, hz'⟩ | ⟨c, rfl, hp⟩)
          · exact h _ _ (hE.keep _ _ he hx) (hsat.put hF hx hs.dst hv) hz'
          · exact hP _ _ _ hsat.defers hp
      | halt x w' => simp only [growMut] at h1
  · rename_i hw
    have hw : Region.wanted o (yielded ops a.tmps) = false := by simpa using hw
    rcases hs with ⟨hs, rfl⟩ | ⟨_, hs⟩
    · exact h _ _ he (hsat.put hF (rr _) hs.dst (hs.no a w hsat.size he hon hw)) hz
    · have h1 := hs.no a w hsat.size he hon hz hw
      exact h _ _ he (hsat.put hF (rr _) hs.dst h1.1) h1.2

theorem wpAny_of_facts {D : List Deferred} {n g : Nat} {L : Array Bool → Facts → Zst → Prop} {Q' : Exit → Act → World → Prop} (hE : EnvOk Env Rl) (hP : ∀ c a w, a.defers = D → Pn c w → Q' (.panic c) a w)
    (hL : ∀ listed F Z, L listed F Z → (∀ t, StableR Rl (F t)) → StableZ Z → ∀ a w, Env w → Sat N D F a w → Z w → wpAny P md ops Q' g listed a w) :
    ∀ (f : Nat) (listed : Array Bool) (F : Facts) (Z : Zst), wpAnyF P md ops Env Rl mo Pn N n L f listed F Z → (∀ t, StableR Rl (F t)) → StableZ Z → ∀ a w, Env w → Sat N D F a w → Z w → wpAny P md ops Q' (f + g) listed a w
  | 0, listed, F, Z, h, hF, hZ, a, w, he, hs, hz => by rw [Nat.zero_add]; exact hL _ _ _ h hF hZ a w he hs hz
  | f + 1, listed, F, Z, h, hF, hZ, a, w, he, hs, hz => by
    rw [show f + 1 + g = (f + g) + 1 by omega]
    refine ⟨fun h0 => absurd h0 h.1, fun i hi => ?_⟩
    obtain ⟨_, o, S, Z', ho, hspec, hrest⟩ := h.2 i hi
    exact wpOp_of_spec hE hP ho hspec hF hZ he hs hz (fun a' w' he' hs' hz' => wpAny_of_facts hE hP hL f _ _ _ hrest (stable_upd hF hspec.stable) (hspec.zst hZ) a' w' he' hs' hz')

/-- Waiting for others that wait. -/
def reachB (md : Region.Mode) (ops : Array Oper) : Nat → Nat → Nat → Bool
  | 0, _, _ => false
  | f + 1, j, i => Region.waitsFor md ops j i || (List.range ops.size).any fun k => Region.waitsFor md ops j k && reachB md ops f k i
def callAt (ops : Array Oper) (i : Nat) : Bool := match ops[i]? with | some o => isCallB o | none => false
/-- The calls are chained. -/
def callsB (md : Region.Mode) (ops : Array Oper) : Bool := (List.range ops.size).all fun j => !callAt ops j || (List.range j).all fun i => !callAt ops i || reachB md ops ops.size j i
theorem reach_listed {n : Nat} {listed : Array Bool} (inv : HeadInv md ops n listed) {i : Nat} : ∀ (f j : Nat), reachB md ops f j i = true → (∀ oj, ops[j]? = some oj → ∀ e ∈ oj.after, Region.binds md e = true → listed.getD e.on false = true) → listed.getD i false = true
  | 0, _, h, _ => by simp [reachB] at h
  | f + 1, j, h, hj => by
    simp only [reachB, Bool.or_eq_true, List.any_eq_true, Bool.and_eq_true] at h
    rcases h with h | ⟨k, _, h1, h2⟩
    · obtain ⟨oj, ho, e, he, hb, hon⟩ := Region.waitsFor_spec h
      rw [← hon]
      exact hj oj ho e he hb
    · obtain ⟨oj, ho, e, he, hb, hon⟩ := Region.waitsFor_spec h1
      have hk := hj oj ho e he hb
      rw [hon] at hk
      exact reach_listed inv f k h2 fun ok hok e he hb => inv.closed k ok hok hk e he hb
theorem calls_one {n : Nat} {listed : Array Bool} (hc : callsB md ops = true) (inv : HeadInv md ops n listed) {i j : Nat} {oi oj : Oper} (hi : i ∈ Region.ready md ops listed) (hj : j ∈ Region.ready md ops listed) (hoi : ops[i]? = some oi) (hoj : ops[j]? = some oj) (hne : j ≠ i) : ¬ (isCallB oi = true ∧ isCallB oj = true) := by
  rintro ⟨h1, h2⟩
  have key : ∀ {i j : Nat} {oi oj : Oper}, i ∈ Region.ready md ops listed → j ∈ Region.ready md ops listed → ops[i]? = some oi → ops[j]? = some oj → isCallB oi = true → isCallB oj = true → i < j → False := by
    intro i j oi oj hi hj hoi hoj h1 h2 hlt
    obtain ⟨hun, _⟩ := mem_ready.1 hi
    obtain ⟨_, oj', hoj', hall⟩ := mem_ready.1 hj
    have hjs : j < ops.size := (Array.getElem?_eq_some_iff.1 hoj).1
    have h3 := List.all_eq_true.1 hc j (List.mem_range.2 hjs)
    simp only [callAt, hoj, h2, Bool.not_true, Bool.false_or, List.all_eq_true, List.mem_range, Bool.or_eq_true, Bool.not_eq_true'] at h3
    have h4 := h3 i hlt
    simp only [hoi, h1] at h4
    have h4 := h4.resolve_left (by simp)
    have h5 := reach_listed inv _ _ h4 fun o ho e he hb => by
      have : o = oj' := Option.some.inj (ho.symm.trans hoj')
      subst this
      exact hall e he hb
    rw [getD_both hun] at h5
    cases h5
  rcases Nat.lt_or_ge i j with h | h
  · exact key hi hj hoi hoj h1 h2 h
  · exact key hj hi hoj hoi h2 h1 (by omega)

/-- An operation that is taken first, ahead of others that are ready: in general. T: those that are not ready while some of the first n are missing. -/
theorem wpAnyF_firstT {n i : Nat} {oi : Oper} {S : Fact} {L : Array Bool → Facts → Zst → Prop} (hi : ops[i]? = some oi) (hcalls : mo = true → callsB md ops = true) (hin : i < n)
    (htail : ∀ listed, HeadInv md ops n listed → listed.getD i true = false → ∀ t, n ≤ t → t ∉ Region.ready md ops listed)
    (hdone : ∀ listed F Z, L listed F Z → ∀ j ∈ Region.ready md ops listed, n ≤ j) :
    ∀ (f : Nat) (listed : Array Bool) (F : Facts) (Z Z' : Zst), HeadInv md ops n listed →
      (∀ j oj, ops[j]? = some oj → j ≠ i → listed.getD j true = false → (∀ e ∈ oj.after, Region.binds md e = true → e.on ≠ i) → oi.apart ops oj = true) →
      i ∈ Region.ready md ops listed → GStep P ops Env Rl mo Pn N F Z oi S Z' →
      wpAnyF P md ops Env Rl mo Pn N n L f (listed.setIfInBounds i true) (upd F oi.dst S) Z' → wpAnyF P md ops Env Rl mo Pn N n L (f + 1) listed F Z := by
  intro f
  induction f with
  | zero =>
    intro listed F Z Z' inv _ hr hy H
    have hun := (mem_ready.1 hr).1
    refine ⟨fun h => (by rw [h] at hr; cases hr), fun j hj => ?_⟩
    have hjn : j < n := by
      rcases Nat.lt_or_ge j n with h | h
      · exact h
      · exact absurd hj (htail listed inv hun j h)
    refine ⟨hjn, ?_⟩
    by_cases hji : j = i
    · subst hji; exact ⟨oi, S, Z', hi, hy, H⟩
    · have := hdone _ _ _ H j (ready_mono hj hji)
      omega
  | succ f ih =>
    intro listed F Z Z' inv hfree hr hy H
    have hun := (mem_ready.1 hr).1
    refine ⟨fun h => (by rw [h] at hr; cases hr), fun j hj => ?_⟩
    have hjn : j < n := by
      rcases Nat.lt_or_ge j n with h | h
      · exact h
      · exact absurd hj (htail listed inv hun j h)
    refine ⟨hjn, ?_⟩
    by_cases hji : j = i
    · subst hji; exact ⟨oi, S, Z', hi, hy, H⟩
    · obtain ⟨_, oj, R, Z'', hoj, hspec, hrest⟩ := H.2 j (ready_mono hj hji)
      obtain ⟨hjun, oj', hoj', hall⟩ := mem_ready.1 hj
      obtain rfl : oj = oj' := Option.some.inj (hoj.symm.trans hoj')
      have hnot : ∀ e ∈ oj.after, Region.binds md e = true → e.on ≠ i := fun e he hb heq => by
        have h1 := hall e he hb
        rw [heq, getD_both hun] at h1
        cases h1
      obtain ⟨h1, h2, h3⟩ := Oper.apart_spec (hfree j oj hoj hji hjun hnot)
      have hfree' : ∀ k ok, ops[k]? = some ok → k ≠ i → (listed.setIfInBounds j true).getD k true = false →
          (∀ e ∈ ok.after, Region.binds md e = true → e.on ≠ i) → oi.apart ops ok = true := fun k ok hk hki hun hno => by
        refine hfree k ok hk hki ?_ hno
        by_cases hjk : j = k
        · subst hjk; exact hjun
        · rw [getD_set_ne true hjk] at hun; exact hun
      obtain ⟨Z1, hsj, hsi⟩ := GStep.swap hy hspec h1 h3 fun ⟨hm, hc⟩ => calls_one (hcalls hm) inv hr hj hi hoj hji hc
      refine ⟨oj, R, Z1, hoj, hsj, ih (listed.setIfInBounds j true) _ _ _ (inv.set hj hjn) hfree' (ready_mono hr (Ne.symm hji)) hsi ?_⟩
      rw [Array.setIfInBounds_comm _ _ hji, ← upd_comm F S R h2]
      exact hrest
theorem wpAnyF_first {n i : Nat} {oi : Oper} {S : Fact} {L : Array Bool → Facts → Zst → Prop} (hi : ops[i]? = some oi) (hcalls : mo = true → callsB md ops = true)
    (hs : Region.sinkB md ops n = true) (hc : Region.chainB md ops n = true) (hn : n < ops.size) (hin : i < n)
    (hdone : ∀ listed F Z, L listed F Z → ∀ j ∈ Region.ready md ops listed, n ≤ j) :
    ∀ (f : Nat) (listed : Array Bool) (F : Facts) (Z Z' : Zst), HeadInv md ops n listed →
      (∀ j oj, ops[j]? = some oj → j ≠ i → listed.getD j true = false → (∀ e ∈ oj.after, Region.binds md e = true → e.on ≠ i) → oi.apart ops oj = true) →
      i ∈ Region.ready md ops listed → GStep P ops Env Rl mo Pn N F Z oi S Z' →
      wpAnyF P md ops Env Rl mo Pn N n L f (listed.setIfInBounds i true) (upd F oi.dst S) Z' → wpAnyF P md ops Env Rl mo Pn N n L (f + 1) listed F Z :=
  wpAnyF_firstT hi hcalls hin (fun _ inv hun t ht => tail_waits hs hc hn inv _ i rfl hin hun t ht) hdone

theorem wpAnyF_lex {n g : Nat} {Lq : Facts → Zst → Prop} (hcalls : mo = true → callsB md ops = true) (hs : Region.sinkB md ops n = true) (hc : Region.chainB md ops n = true) (hn : n < ops.size) :
    ∀ (l : List Oper) (k : Nat) (listed : Array Bool) (F : Facts) (Z : Zst), (∀ j, j < l.length → l[j]? = ops[k + j]?) → k + l.length = n → HeadInv md ops n listed →
    Region.lexHead md ops g l.length k listed = true → (∀ t, StableR Rl (F t)) → StableZ Z → wpF P ops Env Rl mo Pn N l F Z Lq →
    wpAnyF P md ops Env Rl mo Pn N n (fun listed' F' Z' => Region.seqB md ops g n listed' = true ∧ Lq F' Z') l.length listed F Z
  | [], k, listed, F, Z, _, hk, _, hB, _, _, h => by
    have : k = n := by simpa using hk
    subst this
    exact ⟨by simpa [Region.lexHead] using hB, h⟩
  | o :: l, k, listed, F, Z, hl, hk, inv, hB, hF, hZ, h => by
    have h0 : ops[k]? = some o := by simpa using (hl 0 (by simp)).symm
    simp only [List.length_cons, Region.lexHead, Bool.and_eq_true] at hB
    obtain ⟨⟨hr, hf⟩, hB'⟩ := hB
    have hkn : k < n := by simp only [List.length_cons] at hk; omega
    have hr' : k ∈ Region.ready md ops listed := by simpa using hr
    obtain ⟨S, Z', hspec, hrest⟩ := h hF hZ
    exact wpAnyF_first h0 hcalls hs hc hn hkn (fun listed' F' Z' hL => seqB_ready hL.1) l.length listed F Z Z' inv (Region.free_spec h0 hf) hr' hspec
      (wpAnyF_lex hcalls hs hc hn l (k + 1) _ _ _ (fun j hj => by have := hl (j + 1) (by simp; omega); simpa [Nat.add_assoc, Nat.add_comm 1 j] using this) (by simp only [List.length_cons] at hk; omega) (inv.set hr' hkn) hB' (stable_upd hF hspec.stable) (hspec.zst hZ) hrest)

/-- **The rule**: the first n operations in whatever order, over facts; the rest in the order of the text. -/
theorem wp_region_growE {id : Nat} {Q : Exit → Act → World → Prop} {a : Act} {D : List Deferred} {F : Facts} {Z : Zst} {w : World} {l : List Oper} (n N : Nat) (hE : EnvOk Env Rl) (hP : ∀ c a w, a.defers = D → Pn c w → Q (.panic c) a w) (hcalls : mo = true → callsB .any l.toArray = true) (hm : P.follows .mixedOrders = true) (hB : Region.lexTailB .any l.toArray n = true)
    (hF : ∀ t, StableR Rl (F t)) (hZ : StableZ Z) (hz : Z w) (he : Env w) (hsat : Sat N D F a { w with drawn := w.drawn + 1 })
    (h : wpF P l.toArray Env Rl mo Pn N (l.take n) F Z (fun F Z => ∀ a' w', Env w' → Sat N D F a' w' → Z w' → wpList P l.toArray Q (l.drop n) a' w')) : (Code.region id l.toArray true).wp P Q a w := by
  have hdr : Ext w { w with drawn := w.drawn + 1 } := ⟨rfl, rfl, rfl, Nat.le_refl _, fun _ _ => rfl⟩
  simp only [Region.lexTailB, Bool.and_eq_true, decide_eq_true_eq] at hB
  obtain ⟨⟨⟨⟨_, hn⟩, hs⟩, hc⟩, hlex⟩ := hB
  have hn' : n < l.length := by simpa using hn
  have htl : (l.take n).length = n := by simp; omega
  have hdl : (l.drop n).length = l.toArray.size - n := by simp
  have inv0 : HeadInv .any l.toArray n (Array.replicate l.toArray.size false) :=
    ⟨by simp, fun j oj _ hl => (by rw [getD_replicate_false] at hl; cases hl), fun t _ ht => getD_in (by simpa using ht) (getD_replicate_false _ _)⟩
  have H := wpAnyF_lex (md := .any) (g := l.toArray.size - n) hcalls hs hc hn (l.take n) 0 _ _ _ (fun j hj => by
    have hj' : j < n := by rw [htl] at hj; exact hj
    simp [hj']) (by simpa using htl) inv0 (by rw [htl]; exact hlex) hF hZ h
  refine wp_region_any hm ?_
  have := wpAny_of_facts (D := D) (Q' := Q) (g := l.toArray.size - n) hE hP (fun listed F Z hL hF hZ a' w' he hsat hz => by
    have := wpAny_of_seq (md := .any) (Q' := Q) (l.drop n) n listed a' w' (fun j => by simp [List.getElem?_drop]) (by rw [hdl]; exact hL.1) (hL.2 a' w' he hsat hz)
    rwa [hdl] at this) _ _ _ _ H hF hZ a { w with drawn := w.drawn + 1 } (hE.keep _ _ he (hE.ext _ _ hdr)) hsat (hZ _ _ hz hdr)
  rw [htl, show n + (l.toArray.size - n) = l.toArray.size by omega] at this
  exact this
abbrev NoP : List PanicEntry → World → Prop := fun _ _ => False
end
end Go.Rl
/- A walk over known slots: judgments and rules for code, plain regions and regions that draw their order. Conditions: each rule names its own. -/
namespace Go.Rl
open Go.RowKit

/-- The slots that are known. -/
abbrev Fr := List (Nat × Value)
def lk : Fr → Nat → Option Value
  | [], _ => none
  | (t, v) :: l, s => match Nat.beq t s with | true => some v | false => lk l s
def ev (l : Fr) : Operand → Option Value
  | .tmp t => lk l t
  | .const v => some v
  | .global g => some (.pointer (some ⟨g, 0, none⟩))
  | .func f => some (.func (.func f) #[] #[])

structure At (N : Nat) (D : List Deferred) (l : Fr) (a : Act) : Prop where
  size : a.tmps.size = N
  defers : a.defers = D
  at_ : ∀ t v, lk l t = some v → a.tmps.getD t undef = v

theorem At.ev {N : Nat} {D : List Deferred} {l : Fr} {a : Act} (h : At N D l a) {x : Operand} {v : Value} (hx : ev l x = some v) : a.eval x = v := by
  cases x with
  | tmp t => exact h.at_ t v hx
  | const c => exact Option.some.inj hx
  | global g => exact Option.some.inj hx
  | func f => exact Option.some.inj hx

theorem lk_cons_same (d : Nat) (v : Value) (l : Fr) : lk ((d, v) :: l) d = some v := by simp [lk]
theorem lk_cons_ne {d t : Nat} (v : Value) (l : Fr) (h : t ≠ d) : lk ((d, v) :: l) t = lk l t := by
  have : Nat.beq d t = false := by
    cases hb : Nat.beq d t
    · rfl
    · exact absurd (Nat.eq_of_beq_eq_true hb).symm h
  simp [lk, this]

theorem At.put {N : Nat} {D : List Deferred} {l : Fr} {a : Act} (h : At N D l a) {d : Nat} (hd : Nat.blt d N = true) (v : Value) : At N D ((d, v) :: l) (a.put (some d) v) := by
  have hlt : d < N := by simpa [Nat.blt_eq] using hd
  refine ⟨by simp [Act.put, h.size], h.defers, fun t u ht => ?_⟩
  by_cases htd : t = d
  · subst htd
    rw [lk_cons_same] at ht
    obtain rfl := Option.some.inj ht
    simp [Act.put, h.size, hlt]
  · rw [lk_cons_ne v l htd] at ht
    have := h.at_ t u ht
    rw [← this]
    simp [Act.put, Array.getElem?_setIfInBounds_ne (Ne.symm htd)]

/-- All that l' knows l knows. -/
def Sub : Fr → Fr → Prop
  | [], _ => True
  | (t, v) :: l', l => lk l t = some v ∧ Sub l' l

theorem lk_sub : ∀ {l' l : Fr}, Sub l' l → ∀ t v, lk l' t = some v → lk l t = some v
  | [], _, _, t, v, h => by simp [lk] at h
  | (s, u) :: l', l, hs, t, v, h => by
    by_cases hts : t = s
    · subst hts
      rw [lk_cons_same] at h
      obtain rfl := Option.some.inj h
      exact hs.1
    · rw [lk_cons_ne u l' hts] at h
      exact lk_sub hs.2 t v h

theorem At.weak {N : Nat} {D : List Deferred} {l l' : Fr} {a : Act} (h : At N D l a) (hs : Sub l' l) : At N D l' a := ⟨h.size, h.defers, fun t v ht => h.at_ t v (lk_sub hs t v ht)⟩

abbrev Post := Exit → Act → World → Prop

section
variable {P : Program} {ops : Array Oper} {Q : Post} {N : Nat} {D : List Deferred}

def OpsJ (P : Program) (ops : Array Oper) (Q : Post) (N : Nat) (D : List Deferred) (l : Fr) (w : World) (os : List Oper) : Prop := ∀ a, At N D l a → wpList P ops Q os a w
def CodeJ (P : Program) (Q : Post) (N : Nat) (D : List Deferred) (l : Fr) (w : World) (c : Code) : Prop := ∀ a, At N D l a → c.wp P Q a w
def NormJ (Q : Post) (N : Nat) (D : List Deferred) (l : Fr) (w : World) : Prop := ∀ a, At N D l a → Q .normal a w
def ExitJ (Q : Post) (N : Nat) (D : List Deferred) (l : Fr) (w : World) (e : Exit) : Prop := ∀ a, At N D l a → Q e a w

/-! ### Code -/
section code
variable {l l' : Fr} {w : World}

theorem CodeJ.weak {c : Code} (hs : Sub l' l) (h : CodeJ P Q N D l' w c) : CodeJ P Q N D l w c := fun a ha => h a (ha.weak hs)

theorem c_seq {x y : Code} (h : CodeJ P (Exit.then (y.wp P Q) Q) N D l w x) : CodeJ P Q N D l w (.seq x y) := fun a ha => wp_seq (h a ha)
theorem c_skip (h : NormJ Q N D l w) : CodeJ P Q N D l w .skip := fun a ha => wp_skip (h a ha)
theorem n_then {y : Code} {Q' : Post} (h : CodeJ P Q N D l w y) : NormJ (Exit.then (y.wp P Q) Q') N D l w := fun a ha => h a ha
theorem n_block {id : Nat} (h : NormJ Q N D l w) : NormJ (Exit.inBlock id Q) N D l w := fun a ha => h a ha
theorem c_block {id : Nat} {c : Code} (h : CodeJ P (Exit.inBlock id Q) N D l w c) : CodeJ P Q N D l w (.block id c) := fun a ha => wp_block (h a ha)
theorem c_exit {id : Nat} (h : ExitJ Q N D l w (.exit id)) : CodeJ P Q N D l w (.exit id) := fun a ha => wp_exit (h a ha)
theorem x_then {K : Act → World → Prop} {id : Nat} (h : ExitJ Q N D l w (.exit id)) : ExitJ (Exit.then K Q) N D l w (.exit id) := fun a ha => h a ha
theorem x_here {id : Nat} (h : NormJ Q N D l w) : ExitJ (Exit.inBlock id Q) N D l w (.exit id) := fun a ha => by
  show (if id = id then Q .normal a w else Q (.exit id) a w)
  rw [if_pos rfl]
  exact h a ha
theorem x_out {id i : Nat} (hne : Nat.beq i id = false) (h : ExitJ Q N D l w (.exit i)) : ExitJ (Exit.inBlock id Q) N D l w (.exit i) := fun a ha => by
  show (if i = id then Q .normal a w else Q (.exit i) a w)
  rw [if_neg (fun e => by subst e; simp at hne)]
  exact h a ha
theorem c_ret (h : ExitJ Q N D l w .ret) : CodeJ P Q N D l w .ret := fun a ha => wp_ret (h a ha)
theorem r_then {K : Act → World → Prop} (h : ExitJ Q N D l w .ret) : ExitJ (Exit.then K Q) N D l w .ret := fun a ha => h a ha
theorem r_block {id : Nat} (h : ExitJ Q N D l w .ret) : ExitJ (Exit.inBlock id Q) N D l w .ret := fun a ha => h a ha
theorem r_body0 {fn : Func} {R : Ending → World → Prop} (hr : fn.results = #[]) (h : R (.returned (.tuple #[])) w) : ExitJ (bodyPost P fn R) N [] l w .ret := fun a ha =>
  ⟨ha.defers, _, by simp [results, hr], h⟩
theorem r_body1 {fn : Func} {R : Ending → World → Prop} {t : Tmp} {v : Value} (hr : fn.results = #[.tmp t]) (hv : lk l t = some v) (h : R (.returned v) w) : ExitJ (bodyPost P fn R) N [] l w .ret := fun a ha =>
  ⟨ha.defers, v, by simp only [results, hr]; simp [← ha.at_ t v hv], h⟩
theorem r_body2 {fn : Func} {R : Ending → World → Prop} {t s : Tmp} {v u : Value} (hr : fn.results = #[.tmp t, .tmp s]) (hv : lk l t = some v) (hu : lk l s = some u) (h : R (.returned (.tuple #[v, u])) w) : ExitJ (bodyPost P fn R) N [] l w .ret := fun a ha =>
  ⟨ha.defers, .tuple #[v, u], by simp only [results, hr]; simp [← ha.at_ t v hv, ← ha.at_ s u hu], h⟩
theorem r_body3 {fn : Func} {R : Ending → World → Prop} {t s r : Tmp} {v u z : Value} (hr : fn.results = #[.tmp t, .tmp s, .tmp r]) (hv : lk l t = some v) (hu : lk l s = some u) (hz : lk l r = some z) (h : R (.returned (.tuple #[v, u, z])) w) : ExitJ (bodyPost P fn R) N [] l w .ret := fun a ha =>
  ⟨ha.defers, .tuple #[v, u, z], by simp only [results, hr]; simp [← ha.at_ t v hv, ← ha.at_ s u hu, ← ha.at_ r z hz], h⟩
/-- A function without results that runs to its end. -/
theorem n_body0 {fn : Func} {R : Ending → World → Prop} (hr : fn.results = #[]) (h : R (.returned (.tuple #[])) w) : NormJ (bodyPost P fn R) N [] l w := fun a ha =>
  ⟨ha.defers, _, by simp [results, hr], h⟩

theorem c_cond {c : Operand} {x y : Code} {b : Bool} (hc : ev l c = some (.bool b)) (ht : b = true → CodeJ P Q N D l w x) (hf : b = false → CodeJ P Q N D l w y) : CodeJ P Q N D l w (.cond c x y) := fun a ha =>
  wp_cond_split (ha.ev hc) (fun h => ht h a ha) (fun h => hf h a ha)
theorem c_if {c : Operand} {x y : Code} {p : Prop} {dp : Decidable p} (hc : ev l c = some (.bool (@decide p dp))) (ht : p → CodeJ P Q N D l w x) (hf : ¬ p → CodeJ P Q N D l w y) : CodeJ P Q N D l w (.cond c x y) :=
  c_cond hc (fun h => ht (of_decide_eq_true h)) (fun h => hf (of_decide_eq_false h))
theorem c_yes {c : Operand} {x y : Code} (hc : ev l c = some (.bool true)) (ht : CodeJ P Q N D l w x) : CodeJ P Q N D l w (.cond c x y) := c_cond hc (fun _ => ht) (fun h => by cases h)
theorem c_no {c : Operand} {x y : Code} (hc : ev l c = some (.bool false)) (hf : CodeJ P Q N D l w y) : CodeJ P Q N D l w (.cond c x y) := c_cond hc (fun h => by cases h) (fun _ => hf)

/-- Both ways meet: what is known behind them is said once. -/
theorem c_cut {c : Code} {α : Type} (fr : α → Fr) (H : α → World → Prop) (h : CodeJ P (Exit.then (fun a w' => ∃ x, At N D (fr x) a ∧ H x w') Q) N D l w c) (k : ∀ x w', H x w' → NormJ Q N D (fr x) w') : CodeJ P Q N D l w c := fun a ha =>
  wp_mono (h a ha) fun e a' w' hq => by
    cases e with
    | normal =>
      obtain ⟨x, hx, hH⟩ := hq
      exact k x w' hH a' hx
    | _ => exact hq
theorem n_meet {α : Type} {fr : α → Fr} {H : α → World → Prop} (x : α) (hs : Sub (fr x) l) (hH : H x w) : NormJ (Exit.then (fun a w' => ∃ x, At N D (fr x) a ∧ H x w') Q) N D l w := fun _ ha => ⟨x, ha.weak hs, hH⟩

theorem c_loop {c : Code} {α : Type} (fr : α → Fr) (H : α → World → Prop) (mu : α → Nat) (x0 : α) (hs : Sub (fr x0) l) (h0 : H x0 w)
    (round : ∀ x w', H x w' → CodeJ P (Exit.then (fun a w'' => ∃ y, At N D (fr y) a ∧ H y w'' ∧ mu y < mu x) Q) N D (fr x) w' c) : CodeJ P Q N D l w (.loop c) := fun a ha => by
  intro b k cs
  have go : ∀ (n : Nat) (x : α) (a : Act) (w : World), mu x < n → At N D (fr x) a → H x w →
      ∃ e a' w', Q e a' w' ∧ Arrives P (lone (b.at a (.code c :: .inLoop c :: k)) cs w) b k cs e a' w' := by
    intro n
    induction n with
    | zero => intro x a w hlt; omega
    | succ n ih =>
      intro x a w hlt hat hH
      obtain ⟨e, a1, w1, hq, harr⟩ := round x w hH a hat b (.inLoop c :: k) cs
      cases e with
      | normal =>
        obtain ⟨y, hy, hHy, hm⟩ := hq
        obtain ⟨e2, a2, w2, hq2, harr2⟩ := ih y a1 w1 (by omega) hy hHy
        exact ⟨e2, a2, w2, hq2, .of_steps (Steps.trans harr (.one step_inLoop)) harr2⟩
      | exit id => exact ⟨_, a1, w1, hq, .pass (x := .inLoop c) rfl (fun _ _ => .inl (by simp)) harr⟩
      | goto l => exact ⟨_, a1, w1, hq, .pass (x := .inLoop c) rfl (fun _ _ => .inl (by simp)) harr⟩
      | ret => exact ⟨_, a1, w1, hq, .pass (x := .inLoop c) rfl (fun _ _ => .inl (by simp)) harr⟩
      | panic ch => exact ⟨_, a1, w1, hq, .pass (x := .inLoop c) rfl (fun _ _ => .inl (by simp)) harr⟩
      | outgrown => exact ⟨_, a1, w1, hq, .pass (x := .inLoop c) rfl (fun _ _ => .inl (by simp)) harr⟩
  obtain ⟨e, a', w', hq, harr⟩ := go (mu x0 + 1) x0 a w (by omega) (ha.weak hs) h0
  exact ⟨e, a', w', hq, .of_steps (.one step_loop) harr⟩
theorem n_round {α : Type} {fr : α → Fr} {H : α → World → Prop} {mu : α → Nat} {m : Nat} (y : α) (hs : Sub (fr y) l) (hH : H y w) (hm : mu y < m) : NormJ (Exit.then (fun a w'' => ∃ y, At N D (fr y) a ∧ H y w'' ∧ mu y < m) Q) N D l w := fun _ ha => ⟨y, ha.weak hs, hH, hm⟩

theorem c_region {id : Nat} {os : List Oper} (h : OpsJ P os.toArray Q N D l w os) : CodeJ P Q N D l w (.region id os.toArray false) := fun a ha => wp_region_lit (h a ha)
theorem o_nil (h : NormJ Q N D l w) : OpsJ P ops Q N D l w [] := fun a ha => h a ha
end code

/-- Entering a function. -/
def number : Nat → List Value → Fr
  | _, [] => []
  | i, v :: vs => (i, v) :: number (i + 1) vs
theorem lk_number : ∀ (vs : List Value) (i t : Nat) (v : Value), lk (number i vs) t = some v → i ≤ t ∧ vs[t - i]? = some v
  | [], _, _, _, h => by simp [number, lk] at h
  | u :: vs, i, t, v, h => by
    by_cases hti : t = i
    · subst hti
      rw [number, lk_cons_same] at h
      exact ⟨Nat.le_refl _, by simpa using h⟩
    · rw [number, lk_cons_ne u _ hti] at h
      obtain ⟨h1, h2⟩ := lk_number vs (i + 1) t v h
      refine ⟨by omega, ?_⟩
      rw [show t - i = (t - (i + 1)) + 1 by omega]
      simpa using h2

theorem enter {f : FuncId} {fn : Func} {c : Code} {vs : List Value} {w : World} {R : Ending → World → Prop} (hf : P.funcs[f]? = some fn) (hb : fn.body = some c) (hN : fn.ntmps = N) (hle : Nat.ble vs.length N = true)
    (h : CodeJ P (bodyPost P fn R) N [] (number 0 vs) w c) : Calls P f vs.toArray w R := by
  have hle' : vs.length ≤ N := by simpa using hle
  refine calls_of_wp hf hb (h _ ⟨?_, rfl, fun t v ht => ?_⟩)
  · simp [hN]; omega
  · obtain ⟨_, h2⟩ := lk_number vs 0 t v ht
    have h2' : vs[t]? = some v := by simpa using h2
    have hlt : t < vs.length := by
      rcases Nat.lt_or_ge t vs.length with h | h
      · exact h
      · rw [List.getElem?_eq_none h] at h2'; cases h2'
    rw [List.getElem?_eq_getElem hlt] at h2'
    simpa [Array.getElem?_append, hlt] using h2'

/-! ### Operations, plain regions -/
section ops
variable {l : Fr} {w w' : World} {rest : List Oper} {d : Nat} {op : Op} {ty : TypeId} {pos : String} {aft : Array Edge}

def Agree (l : Fr) (ρ : Operand → Value) : Prop := ∀ x v, ev l x = some v → ρ x = v

theorem o_run {v : Value} (hd : Nat.blt d N = true) (hrun : ∀ ρ, Agree l ρ → (execOp ρ ⟨some d, op, ty, pos, aft, none⟩).run P w = .ok (.value v) w') (k : OpsJ P ops Q N D ((d, v) :: l) w' rest) :
    OpsJ P ops Q N D l w (⟨some d, op, ty, pos, aft, none⟩ :: rest) := fun a ha => by
  refine wpList_plain rfl fun K hK => ?_
  unfold Oper.wp
  rw [hrun a.eval fun x v hx => ha.ev hx]
  exact hK _ _ (k _ (ha.put hd v))

/-- An operation that only acts. -/
theorem o_act {op : Op} (hrun : ∀ ρ, Agree l ρ → (execOp ρ ⟨none, op, ty, pos, aft, none⟩).run P w = .ok .skip w') (k : OpsJ P ops Q N D l w' rest) :
    OpsJ P ops Q N D l w (⟨none, op, ty, pos, aft, none⟩ :: rest) := fun a ha => by
  refine wpList_plain rfl fun K hK => ?_
  unfold Oper.wp
  rw [hrun a.eval fun x v hx => ha.ev hx]
  exact hK _ _ (k _ ha)

/-- The guard's value. -/
def gv (ops : Array Oper) (l : Fr) (j : Nat) : Option Value := ((ops[j]?).bind (·.dst)).bind (lk l)

theorem yielded_of {a : Act} (ha : At N D l a) {j : Nat} {b : Bool} (h : gv ops l j = some (.bool b)) : yielded ops a.tmps j = some b := by
  unfold gv at h
  unfold yielded
  cases hd : (ops[j]?).bind (·.dst) with
  | none => simp [hd] at h
  | some t =>
    simp only [hd, Option.bind_some] at h ⊢
    have h1 := ha.at_ t _ h
    have : a.tmps[t]? = some (.bool b) := by
      cases hx : a.tmps[t]? with
      | none =>
        rw [Array.getD_eq_getD_getElem?, hx] at h1
        simp [undef] at h1
      | some u =>
        rw [Array.getD_eq_getD_getElem?, hx] at h1
        simpa using h1
    rw [this]

theorem g_yes {dst : Option Tmp} {j : Nat} {b : Bool} (hg : gv ops l j = some (.bool b)) (k : OpsJ P ops Q N D l w (⟨dst, op, ty, pos, aft, none⟩ :: rest)) : OpsJ P ops Q N D l w (⟨dst, op, ty, pos, aft, some (j, b)⟩ :: rest) := fun a ha => by
  have h := k a ha
  have hw1 : Region.wanted ⟨dst, op, ty, pos, aft, none⟩ (yielded ops a.tmps) = true := rfl
  have hw2 : Region.wanted ⟨dst, op, ty, pos, aft, some (j, b)⟩ (yielded ops a.tmps) = true := by simp [Region.wanted, yielded_of ha hg]
  unfold wpList at h ⊢
  rw [if_pos hw1] at h
  rw [if_pos hw2]
  exact h
theorem g_no {j : Nat} {b b' : Bool} (hd : Nat.blt d N = true) (hg : gv ops l j = some (.bool b')) (hb : b' = !b) (k : OpsJ P ops Q N D ((d, undef) :: l) w rest) : OpsJ P ops Q N D l w (⟨some d, op, ty, pos, aft, some (j, b)⟩ :: rest) := fun a ha => by
  have hw2 : Region.wanted ⟨some d, op, ty, pos, aft, some (j, b)⟩ (yielded ops a.tmps) = false := by
    subst hb; simp [Region.wanted, yielded_of ha hg]
  unfold wpList
  rw [if_neg (by rw [hw2]; simp)]
  exact k _ (ha.put hd undef)
/-- The guard's own operation was passed over. -/
theorem g_undef {j : Nat} {b : Bool} {t : Tmp} (hd : Nat.blt d N = true) (ht : (ops[j]?).bind (·.dst) = some t) (hg : lk l t = some undef) (k : OpsJ P ops Q N D ((d, undef) :: l) w rest) : OpsJ P ops Q N D l w (⟨some d, op, ty, pos, aft, some (j, b)⟩ :: rest) := fun a ha => by
  have h1 := ha.at_ t _ hg
  have hw2 : Region.wanted ⟨some d, op, ty, pos, aft, some (j, b)⟩ (yielded ops a.tmps) = false := by
    have : yielded ops a.tmps j = none := by
      unfold yielded
      rw [ht, Option.bind_some]
      cases hx : a.tmps[t]? with
      | none => rfl
      | some u =>
        rw [Array.getD_eq_getD_getElem?, hx] at h1
        simp only [Option.getD_some] at h1
        subst h1
        rfl
    simp [Region.wanted, this]
  unfold wpList
  rw [if_neg (by rw [hw2]; simp)]
  exact k _ (ha.put hd undef)

theorem o_move {x : Operand} {v : Value} (hx : ev l x = some v) (hd : Nat.blt d N = true) (k : OpsJ P ops Q N D ((d, v) :: l) w rest) : OpsJ P ops Q N D l w (⟨some d, .move x, ty, pos, aft, none⟩ :: rest) :=
  o_run hd (fun ρ hρ => by show Result.ok (Next.value (ρ x)) w = _; rw [hρ x v hx]) k
theorem o_assign {x : Operand} {v : Value} (hx : ev l x = some v) (hd : Nat.blt d N = true) (k : OpsJ P ops Q N D ((d, v) :: l) w rest) : OpsJ P ops Q N D l w (⟨some d, .assign x, ty, pos, aft, none⟩ :: rest) :=
  o_run hd (fun ρ hρ => by show Result.ok (Next.value (ρ x)) w = _; rw [hρ x v hx]) k
theorem o_pick {c x y : Operand} {b : Bool} {u v : Value} (hc : ev l c = some (.bool b)) (hx : b = true → ev l x = some u) (hy : b = false → ev l y = some v) (hd : Nat.blt d N = true)
    (k : OpsJ P ops Q N D ((d, if b then u else v) :: l) w rest) : OpsJ P ops Q N D l w (⟨some d, .pick c x y, ty, pos, aft, none⟩ :: rest) :=
  o_run hd (fun ρ hρ => by
    simp only [execOp, hρ c _ hc]
    cases b with
    | true => simp [asBool, hρ x _ (hx rfl)]
    | false => simp [asBool, hρ y _ (hy rfl)]) k
theorem o_pick_t {c x y : Operand} {u : Value} (hc : ev l c = some (.bool true)) (hx : ev l x = some u) (hd : Nat.blt d N = true)
    (k : OpsJ P ops Q N D ((d, u) :: l) w rest) : OpsJ P ops Q N D l w (⟨some d, .pick c x y, ty, pos, aft, none⟩ :: rest) :=
  o_run hd (fun ρ hρ => by simp [execOp, hρ c _ hc, asBool, hρ x _ hx]) k
theorem o_pick_f {c x y : Operand} {v : Value} (hc : ev l c = some (.bool false)) (hy : ev l y = some v) (hd : Nat.blt d N = true)
    (k : OpsJ P ops Q N D ((d, v) :: l) w rest) : OpsJ P ops Q N D l w (⟨some d, .pick c x y, ty, pos, aft, none⟩ :: rest) :=
  o_run hd (fun ρ hρ => by simp [execOp, hρ c _ hc, asBool, hρ y _ hy]) k

/-- The run of a binary operator on two values. -/
def bin (op : BinOp) (t : TypeId) (x y : Operand) (a b : Value) : Sem Value := do eqGuard op t x y a b; binOp op t a b
theorem o_bin {b : BinOp} {t t2 : TypeId} {x y : Operand} {u v r : Value} (hx : ev l x = some u) (hy : ev l y = some v) (hd : Nat.blt d N = true) (hrun : (bin b t x y u v).run P w = .ok r w)
    (k : OpsJ P ops Q N D ((d, r) :: l) w rest) : OpsJ P ops Q N D l w (⟨some d, .binOp b t x y t2, ty, pos, aft, none⟩ :: rest) :=
  o_run hd (fun ρ hρ => by
    have : execOp ρ ⟨some d, .binOp b t x y t2, ty, pos, aft, none⟩ = (do pure (Next.value (← bin b t x y (ρ x) (ρ y))) : Sem Next) := rfl
    rw [this, hρ x _ hx, hρ y _ hy, Sem.run_bind, hrun]; rfl) k
/-- An operation on one value. -/
theorem o_un {x : Operand} {u r : Value} {f : Value → Sem Value} (he : ∀ ρ, execOp ρ ⟨some d, op, ty, pos, aft, none⟩ = (do pure (Next.value (← f (ρ x))) : Sem Next)) (hx : ev l x = some u) (hd : Nat.blt d N = true) (hrun : (f u).run P w = .ok r w')
    (k : OpsJ P ops Q N D ((d, r) :: l) w' rest) : OpsJ P ops Q N D l w (⟨some d, op, ty, pos, aft, none⟩ :: rest) :=
  o_run hd (fun ρ hρ => by rw [he, hρ x _ hx, Sem.run_bind, hrun]; rfl) k
theorem o_not {t : TypeId} {x : Operand} {u r : Value} {b : UnOp} (hx : ev l x = some u) (hd : Nat.blt d N = true) (hrun : (Op.unary b u).run P w = .ok r w)
    (k : OpsJ P ops Q N D ((d, r) :: l) w rest) : OpsJ P ops Q N D l w (⟨some d, .unOp b t x, ty, pos, aft, none⟩ :: rest) := o_un (f := Op.unary b) (fun _ => rfl) hx hd hrun k
theorem o_conv {s t : TypeId} {x : Operand} {u r : Value} (hx : ev l x = some u) (hd : Nat.blt d N = true) (hrun : (convert s t u).run P w = .ok r w')
    (k : OpsJ P ops Q N D ((d, r) :: l) w' rest) : OpsJ P ops Q N D l w (⟨some d, .convert s t x, ty, pos, aft, none⟩ :: rest) := o_un (f := convert s t) (fun _ => rfl) hx hd hrun k
theorem o_load {t : TypeId} {x : Operand} {u r : Value} (hx : ev l x = some u) (hd : Nat.blt d N = true) (hrun : (Instr.loadAt t u).run P w = .ok r w)
    (k : OpsJ P ops Q N D ((d, r) :: l) w rest) : OpsJ P ops Q N D l w (⟨some d, .load t x, ty, pos, aft, none⟩ :: rest) := o_un (f := Instr.loadAt t) (fun _ => rfl) hx hd hrun k
theorem o_store {t : TypeId} {x y : Operand} {u v : Value} (hx : ev l x = some u) (hy : ev l y = some v) (hrun : (Instr.storeAt t u v).run P w = .ok () w')
    (k : OpsJ P ops Q N D l w' rest) : OpsJ P ops Q N D l w (⟨none, .store t x y, ty, pos, aft, none⟩ :: rest) :=
  o_act (fun ρ hρ => by
    have : execOp ρ ⟨none, .store t x y, ty, pos, aft, none⟩ = (do Instr.storeAt t (ρ x) (ρ y); pure Next.skip : Sem Next) := rfl
    rw [this, hρ x _ hx, hρ y _ hy, Sem.run_bind, hrun]; rfl) k
theorem o_fieldAddr {s : TypeId} {x : Operand} {n : Nat} {u r : Value} (hx : ev l x = some u) (hd : Nat.blt d N = true) (hrun : (Instr.fieldAt s u n).run P w = .ok r w)
    (k : OpsJ P ops Q N D ((d, r) :: l) w rest) : OpsJ P ops Q N D l w (⟨some d, .fieldAddr s x n, ty, pos, aft, none⟩ :: rest) := o_un (f := fun u => Instr.fieldAt s u n) (fun _ => rfl) hx hd hrun k
theorem o_field {s : TypeId} {x : Operand} {n : Nat} {u r : Value} (hx : ev l x = some u) (hd : Nat.blt d N = true) (hrun : (Instr.field s u n).run P w = .ok r w)
    (k : OpsJ P ops Q N D ((d, r) :: l) w rest) : OpsJ P ops Q N D l w (⟨some d, .field s x n, ty, pos, aft, none⟩ :: rest) := o_un (f := fun u => Instr.field s u n) (fun _ => rfl) hx hd hrun k
theorem o_extract {x : Operand} {n : Nat} {u r : Value} (hx : ev l x = some u) (hd : Nat.blt d N = true) (hrun : (Instr.extract u n).run P w = .ok r w)
    (k : OpsJ P ops Q N D ((d, r) :: l) w rest) : OpsJ P ops Q N D l w (⟨some d, .extract x n, ty, pos, aft, none⟩ :: rest) := o_un (f := fun u => Instr.extract u n) (fun _ => rfl) hx hd hrun k
theorem o_box {t : TypeId} {x : Operand} {u r : Value} (hx : ev l x = some u) (hd : Nat.blt d N = true) (hrun : (Instr.box t u).run P w = .ok r w')
    (k : OpsJ P ops Q N D ((d, r) :: l) w' rest) : OpsJ P ops Q N D l w (⟨some d, .box t x, ty, pos, aft, none⟩ :: rest) := o_un (f := Instr.box t) (fun _ => rfl) hx hd hrun k
theorem o_toArray {t : TypeId} {x : Operand} {u r : Value} (hx : ev l x = some u) (hd : Nat.blt d N = true) (hrun : (Instr.arrayAt t u).run P w = .ok r w')
    (k : OpsJ P ops Q N D ((d, r) :: l) w' rest) : OpsJ P ops Q N D l w (⟨some d, .sliceToArrayPointer t x, ty, pos, aft, none⟩ :: rest) := o_un (f := Instr.arrayAt t) (fun _ => rfl) hx hd hrun k
theorem o_alloc {t : TypeId} {r : Value} (hd : Nat.blt d N = true) (hrun : (Instr.alloc t true (.tuple #[])).run P w = .ok r w')
    (k : OpsJ P ops Q N D ((d, r) :: l) w' rest) : OpsJ P ops Q N D l w (⟨some d, .alloc t, ty, pos, aft, none⟩ :: rest) :=
  o_run hd (fun ρ _ => by
    have : execOp ρ ⟨some d, .alloc t, ty, pos, aft, none⟩ = (do pure (Next.value (← Instr.alloc t true (.tuple #[]))) : Sem Next) := rfl
    rw [this, Sem.run_bind, hrun]; rfl) k
theorem o_indexAddr {t : TypeId} {x y : Operand} {u v r : Value} (hx : ev l x = some u) (hy : ev l y = some v) (hd : Nat.blt d N = true) (hrun : (Instr.indexAt t u v).run P w = .ok r w)
    (k : OpsJ P ops Q N D ((d, r) :: l) w rest) : OpsJ P ops Q N D l w (⟨some d, .indexAddr t x y, ty, pos, aft, none⟩ :: rest) :=
  o_run hd (fun ρ hρ => by
    have : execOp ρ ⟨some d, .indexAddr t x y, ty, pos, aft, none⟩ = (do pure (Next.value (← Instr.indexAt t (ρ x) (ρ y))) : Sem Next) := rfl
    rw [this, hρ x _ hx, hρ y _ hy, Sem.run_bind, hrun]; rfl) k
theorem o_index {t : TypeId} {x y : Operand} {u v r : Value} (hx : ev l x = some u) (hy : ev l y = some v) (hd : Nat.blt d N = true) (hrun : (Instr.index t u v).run P w = .ok r w)
    (k : OpsJ P ops Q N D ((d, r) :: l) w rest) : OpsJ P ops Q N D l w (⟨some d, .index t x y, ty, pos, aft, none⟩ :: rest) :=
  o_run hd (fun ρ hρ => by
    have : execOp ρ ⟨some d, .index t x y, ty, pos, aft, none⟩ = (do pure (Next.value (← Instr.index t (ρ x) (ρ y))) : Sem Next) := rfl
    rw [this, hρ x _ hx, hρ y _ hy, Sem.run_bind, hrun]; rfl) k
theorem o_makeSlice {t : TypeId} {x y : Operand} {u v r : Value} (hx : ev l x = some u) (hy : ev l y = some v) (hd : Nat.blt d N = true) (hrun : (Instr.makeSlice t u v).run P w = .ok r w')
    (k : OpsJ P ops Q N D ((d, r) :: l) w' rest) : OpsJ P ops Q N D l w (⟨some d, .makeSlice t x y, ty, pos, aft, none⟩ :: rest) :=
  o_run hd (fun ρ hρ => by
    have : execOp ρ ⟨some d, .makeSlice t x y, ty, pos, aft, none⟩ = (do pure (Next.value (← Instr.makeSlice t (ρ x) (ρ y))) : Sem Next) := rfl
    rw [this, hρ x _ hx, hρ y _ hy, Sem.run_bind, hrun]; rfl) k

/-- The values of an optional operand. -/
def evo (l : Fr) : Option Operand → Option (Option Value)
  | none => some none
  | some x => (ev l x).map some
theorem evo_ok {ρ : Operand → Value} (hρ : Agree l ρ) : ∀ {x : Option Operand} {v : Option Value}, evo l x = some v → x.map ρ = v
  | none, v, h => by simpa [evo] using h
  | some x, v, h => by
    cases he : ev l x with
    | none => simp [evo, he] at h
    | some u =>
      simp only [evo, he, Option.map_some, Option.some.injEq] at h
      subst h
      simp [hρ x u he]
theorem o_slice {t : TypeId} {x : Operand} {lo hi mx : Option Operand} {u r : Value} {a b c : Option Value} (hx : ev l x = some u) (hlo : evo l lo = some a) (hhi : evo l hi = some b) (hmx : evo l mx = some c) (hd : Nat.blt d N = true)
    (hrun : (Instr.sliceAt t u a b c).run P w = .ok r w) (k : OpsJ P ops Q N D ((d, r) :: l) w rest) : OpsJ P ops Q N D l w (⟨some d, .slice t x lo hi mx, ty, pos, aft, none⟩ :: rest) :=
  o_run hd (fun ρ hρ => by
    have : execOp ρ ⟨some d, .slice t x lo hi mx, ty, pos, aft, none⟩ = (do pure (Next.value (← Instr.sliceAt t (ρ x) (lo.map ρ) (hi.map ρ) (mx.map ρ))) : Sem Next) := rfl
    rw [this, hρ x _ hx, evo_ok hρ hlo, evo_ok hρ hhi, evo_ok hρ hmx, Sem.run_bind, hrun]; rfl) k

/-- The values of a list of operands, of a list of parts. -/
def evs (l : Fr) : List Operand → Option (List Value)
  | [] => some []
  | x :: xs => match ev l x, evs l xs with | some v, some vs => some (v :: vs) | _, _ => none
theorem evs_ok {ρ : Operand → Value} (hρ : Agree l ρ) : ∀ {xs : List Operand} {vs : List Value}, evs l xs = some vs → xs.map ρ = vs
  | [], vs, h => by simpa [evs] using h
  | x :: xs, vs, h => by
    cases h1 : ev l x with
    | none => simp [evs, h1] at h
    | some v =>
      cases h2 : evs l xs with
      | none => simp [evs, h1, h2] at h
      | some vs' =>
        simp only [evs, h1, h2, Option.some.injEq] at h
        subst h
        simp [hρ x v h1, evs_ok hρ h2]
def evp (l : Fr) : List (Nat × Operand) → Option (List (Nat × Value))
  | [] => some []
  | (i, x) :: xs => match ev l x, evp l xs with | some v, some vs => some ((i, v) :: vs) | _, _ => none
theorem evp_ok {ρ : Operand → Value} (hρ : Agree l ρ) : ∀ {xs : List (Nat × Operand)} {vs : List (Nat × Value)}, evp l xs = some vs → xs.map (fun (i, x) => (i, ρ x)) = vs
  | [], vs, h => by simpa [evp] using h
  | (i, x) :: xs, vs, h => by
    cases h1 : ev l x with
    | none => simp [evp, h1] at h
    | some v =>
      cases h2 : evp l xs with
      | none => simp [evp, h1, h2] at h
      | some vs' =>
        simp only [evp, h1, h2, Option.some.injEq] at h
        subst h
        simp [hρ x v h1, evp_ok hρ h2]
theorem o_build {t : TypeId} {ps : List (Nat × Operand)} {vs : List (Nat × Value)} {r : Value} (hp : evp l ps = some vs) (hd : Nat.blt d N = true) (hrun : (Instr.build t vs.toArray).run P w = .ok r w)
    (k : OpsJ P ops Q N D ((d, r) :: l) w rest) : OpsJ P ops Q N D l w (⟨some d, .build t ps.toArray, ty, pos, aft, none⟩ :: rest) :=
  o_run hd (fun ρ hρ => by
    have : execOp ρ ⟨some d, .build t ps.toArray, ty, pos, aft, none⟩ = (do pure (Next.value (← Instr.build t (ps.toArray.map fun (i, x) => (i, ρ x)))) : Sem Next) := rfl
    rw [this, List.map_toArray, evp_ok hρ hp, Sem.run_bind, hrun]; rfl) k
theorem o_buildSlice {t : TypeId} {n : Nat} {ps : List (Nat × Operand)} {vs : List (Nat × Value)} {r : Value} (hp : evp l ps = some vs) (hd : Nat.blt d N = true) (hrun : (Instr.buildSlice t n vs.toArray).run P w = .ok r w')
    (k : OpsJ P ops Q N D ((d, r) :: l) w' rest) : OpsJ P ops Q N D l w (⟨some d, .buildSlice t n ps.toArray, ty, pos, aft, none⟩ :: rest) :=
  o_run hd (fun ρ hρ => by
    have : execOp ρ ⟨some d, .buildSlice t n ps.toArray, ty, pos, aft, none⟩ = (do pure (Next.value (← Instr.buildSlice t n (ps.toArray.map fun (i, x) => (i, ρ x)))) : Sem Next) := rfl
    rw [this, List.map_toArray, evp_ok hρ hp, Sem.run_bind, hrun]; rfl) k
theorem o_nilCheck {x : Operand} {a : Addr} (hx : ev l x = some (.pointer (some a))) (hd : Nat.blt d N = true) (k : OpsJ P ops Q N D ((d, .pointer (some a)) :: l) w rest) : OpsJ P ops Q N D l w (⟨some d, .nilCheck x, ty, pos, aft, none⟩ :: rest) :=
  o_run hd (fun ρ hρ => by simp [execOp, hρ x _ hx]) k

/-- A builtin that returns a value. -/
theorem o_append {xs : List Operand} {vs : List Value} {ts : Array TypeId} {r : Value} (hp : evs l xs = some vs) (hd : Nat.blt d N = true) (hrun : (Builtin.append_ ts ty vs.toArray).run P w = .ok r w')
    (k : OpsJ P ops Q N D ((d, r) :: l) w' rest) : OpsJ P ops Q N D l w (⟨some d, .call { callee := .builtin .append, args := xs.toArray, argTypes := ts }, ty, pos, aft, none⟩ :: rest) :=
  o_run hd (fun ρ hρ => by
    simp only [execOp, resolve, invoke, builtin, Sem.run_bind, Sem.run_pure, Result.andThen_ok, List.map_toArray, evs_ok hρ hp, hrun]) k
theorem o_len {xs : List Operand} {vs : List Value} {ts : Array TypeId} {r : Value} (hp : evs l xs = some vs) (hd : Nat.blt d N = true) (hrun : (Builtin.len_ ts ty vs.toArray).run P w = .ok r w)
    (k : OpsJ P ops Q N D ((d, r) :: l) w rest) : OpsJ P ops Q N D l w (⟨some d, .call { callee := .builtin .len, args := xs.toArray, argTypes := ts }, ty, pos, aft, none⟩ :: rest) :=
  o_run hd (fun ρ hρ => by
    simp only [execOp, resolve, invoke, builtin, Sem.run_bind, Sem.run_pure, Result.andThen_ok, List.map_toArray, evs_ok hρ hp, hrun]) k
theorem o_min {xs : List Operand} {vs : List Value} {ts : Array TypeId} {r : Value} (hp : evs l xs = some vs) (hd : Nat.blt d N = true) (hrun : (Builtin.min_ ts ty vs.toArray).run P w = .ok r w)
    (k : OpsJ P ops Q N D ((d, r) :: l) w rest) : OpsJ P ops Q N D l w (⟨some d, .call { callee := .builtin .min, args := xs.toArray, argTypes := ts }, ty, pos, aft, none⟩ :: rest) :=
  o_run hd (fun ρ hρ => by
    simp only [execOp, resolve, invoke, builtin, Sem.run_bind, Sem.run_pure, Result.andThen_ok, List.map_toArray, evs_ok hρ hp, hrun]) k
theorem o_max {xs : List Operand} {vs : List Value} {ts : Array TypeId} {r : Value} (hp : evs l xs = some vs) (hd : Nat.blt d N = true) (hrun : (Builtin.max_ ts ty vs.toArray).run P w = .ok r w)
    (k : OpsJ P ops Q N D ((d, r) :: l) w rest) : OpsJ P ops Q N D l w (⟨some d, .call { callee := .builtin .max, args := xs.toArray, argTypes := ts }, ty, pos, aft, none⟩ :: rest) :=
  o_run hd (fun ρ hρ => by
    simp only [execOp, resolve, invoke, builtin, Sem.run_bind, Sem.run_pure, Result.andThen_ok, List.map_toArray, evs_ok hρ hp, hrun]) k
theorem o_copy {xs : List Operand} {vs : List Value} {ts : Array TypeId} {r : Value} (hp : evs l xs = some vs) (hd : Nat.blt d N = true) (hrun : (Builtin.copy_ ts ty vs.toArray).run P w = .ok r w')
    (k : OpsJ P ops Q N D ((d, r) :: l) w' rest) : OpsJ P ops Q N D l w (⟨some d, .call { callee := .builtin .copy, args := xs.toArray, argTypes := ts }, ty, pos, aft, none⟩ :: rest) :=
  o_run hd (fun ρ hρ => by
    simp only [execOp, resolve, invoke, builtin, Sem.run_bind, Sem.run_pure, Result.andThen_ok, List.map_toArray, evs_ok hρ hp, hrun]) k

/-- A Go function that can be called. -/
def Callable (P : Program) (f : FuncId) : Prop := ∃ fn, P.funcs[f]? = some fn ∧ (fn.name == "runtime.NumGoroutine") = false ∧ fn.body.isNone = false
theorem run_callFunc {f : FuncId} (h : Callable P f) (args : Array Value) (w : World) : (callFunc f args).run P w = .ok (.enter f args) w := by
  obtain ⟨fn, h1, h2, h3⟩ := h
  have h2' : ¬ fn.name = "runtime.NumGoroutine" := by simpa using h2
  have h3' : ¬ fn.body = none := by intro h; simp [h] at h3
  unfold callFunc
  simp [Sem.run_bind, program, Sem.run, h1, h2', h3']

/-- It returns a value of which T holds. -/
def Ret (T : Value → World → Prop) : Ending → World → Prop := fun e w' => ∃ v, e = .returned v ∧ T v w'
theorem Ret.mono {P : Program} {f : FuncId} {args : Array Value} {w : World} {T T' : Value → World → Prop} (h : Calls P f args w (Ret T)) (hT : ∀ v w', T v w' → T' v w') : Calls P f args w (Ret T') :=
  Calls.mono h fun _ _ ⟨v, he, hv⟩ => ⟨v, he, hT _ _ hv⟩

theorem o_call {f : FuncId} {xs : List Operand} {vs : List Value} {ts : Array TypeId} {T : Value → World → Prop} (hf : Callable P f) (hp : evs l xs = some vs) (hd : Nat.blt d N = true) (hc : Calls P f vs.toArray w (Ret T))
    (k : ∀ v w', T v w' → OpsJ P ops Q N D ((d, v) :: l) w' rest) : OpsJ P ops Q N D l w (⟨some d, .call { callee := .value (.func f), args := xs.toArray, argTypes := ts }, ty, pos, aft, none⟩ :: rest) := fun a ha => by
  refine wpList_plain rfl fun K hK => ?_
  unfold Oper.wp
  have hr : (execOp a.eval ⟨some d, .call { callee := .value (.func f), args := xs.toArray, argTypes := ts }, ty, pos, aft, none⟩).run P w = .ok (.enter f vs.toArray) w := by
    have hρ : Agree l a.eval := fun x v hx => ha.ev hx
    simp only [execOp, resolve, List.map_toArray, evs_ok hρ hp, Act.eval, Deferred.ofValue, Sem.run_bind, Sem.run_pure, Result.andThen_ok, invoke, Array.append_empty, run_callFunc hf, Array.empty_append]
  rw [hr]
  refine hc.mono ?_
  rintro e w' ⟨v, rfl, hv⟩
  exact hK _ _ (k v w' hv _ (ha.put hd v))
/-- A call whose result nobody takes. -/
theorem o_callv {f : FuncId} {xs : List Operand} {vs : List Value} {ts : Array TypeId} {T : Value → World → Prop} (hf : Callable P f) (hp : evs l xs = some vs) (hc : Calls P f vs.toArray w (Ret T))
    (k : ∀ v w', T v w' → OpsJ P ops Q N D l w' rest) : OpsJ P ops Q N D l w (⟨none, .call { callee := .value (.func f), args := xs.toArray, argTypes := ts }, ty, pos, aft, none⟩ :: rest) := fun a ha => by
  refine wpList_plain rfl fun K hK => ?_
  unfold Oper.wp
  have hr : (execOp a.eval ⟨none, .call { callee := .value (.func f), args := xs.toArray, argTypes := ts }, ty, pos, aft, none⟩).run P w = .ok (.enter f vs.toArray) w := by
    have hρ : Agree l a.eval := fun x v hx => ha.ev hx
    simp only [execOp, resolve, List.map_toArray, evs_ok hρ hp, Act.eval, Deferred.ofValue, Sem.run_bind, Sem.run_pure, Result.andThen_ok, invoke, Array.append_empty, run_callFunc hf, Array.empty_append]
  rw [hr]
  refine hc.mono ?_
  rintro e w' ⟨v, rfl, hv⟩
  exact hK _ _ (k v w' hv _ ha)
end ops
end
end Go.Rl
/- Rules for the operations of a region that draws its order, over facts on the slots. Conditions: each rule names its own. -/
namespace Go.Rl
open Go.RowKit

def frF (l : Fr) : Facts := fun t => match lk l t with | some v => Is v | none => Any
theorem frF_stable {Rl : World → World → Prop} (l : Fr) : ∀ t, StableR Rl (frF l t) := fun t => by
  unfold frF
  split
  · exact Stable.is _
  · exact Stable.any

def look (F : Facts) : Operand → Fact
  | .tmp t => F t
  | .const c => Is c
  | .global g => Is (.pointer (some ⟨g, 0, none⟩))
  | .func f => Is (.func (.func f) #[] #[])
theorem look_stable {Rl : World → World → Prop} {F : Facts} (hF : ∀ t, StableR Rl (F t)) (x : Operand) : StableR Rl (look F x) := by
  cases x with
  | tmp t => exact hF t
  | _ => exact Stable.is _

/-- For all values of which the facts hold. -/
def AllH : List Fact → World → (List Value → Prop) → Prop
  | [], _, K => K []
  | S :: Ss, w, K => ∀ v, S v w → AllH Ss w (fun vs => K (v :: vs))
def Fits (w : World) : List Fact → List Value → Prop
  | [], [] => True
  | S :: Ss, v :: vs => S v w ∧ Fits w Ss vs
  | _, _ => False
theorem AllH.use : ∀ {Ss : List Fact} {w : World} {K : List Value → Prop} {vs : List Value}, AllH Ss w K → Fits w Ss vs → K vs
  | [], _, _, [], h, _ => h
  | [], _, _, _ :: _, _, h => h.elim
  | _ :: _, _, _, [], _, h => h.elim
  | _ :: _, _, K, v :: _, h, h1 => AllH.use (K := fun vs => K (v :: vs)) (h _ h1.1) h1.2

/-- The slots that are taken over, opened. -/
def OpenJ (F : Facts) (w : World) : List Nat → (Fr → Prop) → Prop
  | [], K => K []
  | t :: ts, K => ∀ v, F t v w → OpenJ F w ts (fun l => K ((t, v) :: l))
theorem OpenJ.use {F : Facts} {w : World} {N : Nat} {D : List Deferred} {a : Act} (hs : Sat N D F a w) : ∀ {ts : List Nat} {K : Fr → Prop}, OpenJ F w ts K → ∃ l, At N D l a ∧ K l
  | [], _, h => ⟨[], ⟨hs.size, hs.defers, fun t v ht => by simp [lk] at ht⟩, h⟩
  | t :: ts, _, h => by
    obtain ⟨l, hl, hk⟩ := OpenJ.use hs (h _ (hs.at_ t))
    refine ⟨_, ⟨hs.size, hs.defers, fun s v hv => ?_⟩, hk⟩
    by_cases hst : s = t
    · subst hst
      rw [lk_cons_same] at hv
      exact Option.some.inj hv
    · rw [lk_cons_ne _ l hst] at hv
      exact hl.at_ s v hv

section
variable {P : Program} {ops : Array Oper} {Env : World → Prop} {Rl : World → World → Prop} {mo : Bool} {Pn : List PanicEntry → World → Prop} {Z : Zst} {N : Nat} {D : List Deferred} {F : Facts} {K : Facts → Zst → Prop} {rest : List Oper} {d : Nat} {op : Op} {ty : TypeId} {pos : String} {aft : Array Edge}

theorem c_growE {Q : Post} {l : Fr} {w : World} {id : Nat} {os : List Oper} (n : Nat) (ts : List Nat) (Env : World → Prop) (Rl : World → World → Prop) (mo : Bool) (Pn : List PanicEntry → World → Prop) (Z : Zst) (hE : EnvOk Env Rl) (he : Env w) (hZ : StableZ Z) (hz : Z w) (hP : ∀ c a w, a.defers = D → Pn c w → Q (.panic c) a w) (hcalls : mo = true → callsB .any os.toArray = true) (hm : P.follows .mixedOrders = true) (hB : Region.lexTailB .any os.toArray n = true)
    (h : wpF P os.toArray Env Rl mo Pn N (os.take n) (frF l) Z (fun F Z => ∀ w', Env w' → Z w' → OpenJ F w' ts (fun l' => OpsJ P os.toArray Q N D l' w' (os.drop n)))) : CodeJ P Q N D l w (.region id os.toArray true) := fun a ha => by
  refine wp_region_growE (D := D) (F := frF l) (Z := Z) n N hE hP hcalls hm hB (frF_stable l) hZ hz he ⟨ha.size, ha.defers, fun t => ?_⟩ (wpF_mono _ _ _ (fun F Z hK a' w' he hs hz => ?_) h)
  · show frF l t (a.tmps.getD t undef) _
    unfold frF
    cases hv : lk l t with
    | some v => exact ha.at_ t v hv
    | none => trivial
  · obtain ⟨l', hl', hk⟩ := OpenJ.use hs (hK w' he hz)
    exact hk a' hl'
theorem c_grow {Q : Post} {l : Fr} {w : World} {id : Nat} {os : List Oper} (n : Nat) (ts : List Nat) (hm : P.follows .mixedOrders = true) (hB : Region.lexTailB .any os.toArray n = true)
    (h : wpF P os.toArray (Ext w) Ext false NoP N (os.take n) (frF l) (fun _ => True) (fun F _ => ∀ w', Ext w w' → OpenJ F w' ts (fun l' => OpsJ P os.toArray Q N D l' w' (os.drop n)))) : CodeJ P Q N D l w (.region id os.toArray true) :=
  c_growE n ts (Ext w) Ext false NoP (fun _ => True) (EnvOk.plain w) (Ext.refl w) StableZ.triv trivial (fun _ _ _ _ h => h.elim) (fun h => by cases h) hm hB (wpF_mono _ _ _ (fun _ _ h w' he _ => h w' he) h)

theorem f_nil (h : K F Z) : wpF P ops Env Rl mo Pn N [] F Z K := h

theorem f_core {S : Fact} (hst : (∀ t, StableR Rl (F t)) → StableR Rl S) (hd : Nat.blt d N = true)
    (hrun : ∀ (a : Act) (w : World), Env w → (∀ x ∈ op.operands.toList, look F x (a.eval x) w) → growUpon P w S ((execOp a.eval ⟨some d, op, ty, pos, aft, none⟩).run P w))
    (k : wpF P ops Env Rl mo Pn N rest (upd F (some d) S) Z K) : wpF P ops Env Rl mo Pn N (⟨some d, op, ty, pos, aft, none⟩ :: rest) F Z K := fun hF _ => by
  have hlt : d < N := by simpa [Nat.blt_eq] using hd
  refine ⟨S, Z, .inl ⟨⟨hst hF, fun e he => by obtain rfl := Option.some.inj he; exact hlt, fun a w _ he hs _ => hrun a w he fun x hx => ?_, fun a w _ _ _ hw => by simp [Region.wanted] at hw⟩, rfl⟩, k⟩
  cases x with
  | tmp t => exact hs t (List.mem_append_left _ (List.mem_filterMap.2 ⟨.tmp t, hx, rfl⟩))
  | _ => rfl

theorem f_yes {j : Nat} {b : Bool} {t : Tmp} (ht : (ops[j]?).bind (·.dst) = some t) (hg : F t = Is (.bool b)) (k : wpF P ops Env Rl mo Pn N (⟨some d, op, ty, pos, aft, none⟩ :: rest) F Z K) :
    wpF P ops Env Rl mo Pn N (⟨some d, op, ty, pos, aft, some (j, b)⟩ :: rest) F Z K := fun hF hZ => by
  obtain ⟨S, Z', hs, hr⟩ := k hF hZ
  have val : ∀ (a : Act) (w : World), satOn ops ⟨some d, op, ty, pos, aft, some (j, b)⟩ F a w → yielded ops a.tmps j = some b := fun a w h => by
    have h1 : F t (a.tmps.getD t undef) w := h t (List.mem_append_right _ (by simp [ht]))
    rw [hg] at h1
    have h1 : a.tmps.getD t undef = .bool b := h1
    unfold yielded
    rw [ht, Option.bind_some]
    cases hx : a.tmps[t]? with
    | none => rw [Array.getD_eq_getD_getElem?, hx] at h1; simp [undef] at h1
    | some u => rw [Array.getD_eq_getD_getElem?, hx] at h1; simp only [Option.getD_some] at h1; rw [h1]
  have sub : ∀ (a : Act) (w : World), satOn ops ⟨some d, op, ty, pos, aft, some (j, b)⟩ F a w → satOn ops ⟨some d, op, ty, pos, aft, none⟩ F a w := fun a w h s hs => h s (by
    simp only [Oper.looksAt, List.append_nil] at hs
    exact List.mem_append_left _ hs)
  rcases hs with ⟨hs, hz⟩ | ⟨hm, hs⟩
  · exact ⟨S, Z', .inl ⟨⟨hs.stable, hs.dst, fun a w h1 h2 h3 _ => hs.yes a w h1 h2 (sub a w h3) rfl, fun a w _ _ h3 hw => by simp [Region.wanted, val a w h3] at hw⟩, hz⟩, hr⟩
  · exact ⟨S, Z', .inr ⟨hm, ⟨hs.call, hs.stable, hs.zst, hs.dst, fun a w h1 h2 h3 h4 _ => hs.yes a w h1 h2 (sub a w h3) h4 rfl, fun a w _ _ h3 _ hw => by simp [Region.wanted, val a w h3] at hw⟩⟩, hr⟩

theorem f_skip {j : Nat} {b : Bool} {t : Tmp} {u : Value} (hd : Nat.blt d N = true) (ht : (ops[j]?).bind (·.dst) = some t) (hg : F t = Is u) (hu : u = undef ∨ u = .bool (!b)) (k : wpF P ops Env Rl mo Pn N rest (upd F (some d) (Is undef)) Z K) :
    wpF P ops Env Rl mo Pn N (⟨some d, op, ty, pos, aft, some (j, b)⟩ :: rest) F Z K := fun _ _ => by
  have hlt : d < N := by simpa [Nat.blt_eq] using hd
  have val : ∀ (a : Act) (w : World), satOn ops ⟨some d, op, ty, pos, aft, some (j, b)⟩ F a w → yielded ops a.tmps j ≠ some b := fun a w h => by
    have h1 : F t (a.tmps.getD t undef) w := h t (List.mem_append_right _ (by simp [ht]))
    rw [hg] at h1
    have h1 : a.tmps.getD t undef = u := h1
    unfold yielded
    rw [ht, Option.bind_some]
    cases hx : a.tmps[t]? with
    | none => simp
    | some z =>
      rw [Array.getD_eq_getD_getElem?, hx] at h1
      simp only [Option.getD_some] at h1
      subst h1
      rcases hu with rfl | rfl
      · simp [undef]
      · simp
  exact ⟨Is undef, Z, .inl ⟨⟨Stable.is _, fun e he => by obtain rfl := Option.some.inj he; exact hlt, fun a w _ _ h3 hw => by
    have := val a w h3
    simp [Region.wanted] at hw
    exact absurd hw this, fun _ _ _ _ _ _ => rfl⟩, rfl⟩, k⟩
theorem f_no {j : Nat} {b : Bool} {t : Tmp} (hd : Nat.blt d N = true) (ht : (ops[j]?).bind (·.dst) = some t) (hg : F t = Is (.bool (!b))) (k : wpF P ops Env Rl mo Pn N rest (upd F (some d) (Is undef)) Z K) :
    wpF P ops Env Rl mo Pn N (⟨some d, op, ty, pos, aft, some (j, b)⟩ :: rest) F Z K := f_skip hd ht hg (.inr rfl) k
theorem f_undef {j : Nat} {b : Bool} {t : Tmp} (hd : Nat.blt d N = true) (ht : (ops[j]?).bind (·.dst) = some t) (hg : F t = Is undef) (k : wpF P ops Env Rl mo Pn N rest (upd F (some d) (Is undef)) Z K) :
    wpF P ops Env Rl mo Pn N (⟨some d, op, ty, pos, aft, some (j, b)⟩ :: rest) F Z K := f_skip hd ht hg (.inl rfl) k

theorem f_move {x : Operand} {S : Fact} (hx : look F x = S) (hd : Nat.blt d N = true) (k : wpF P ops Env Rl mo Pn N rest (upd F (some d) S) Z K) : wpF P ops Env Rl mo Pn N (⟨some d, .move x, ty, pos, aft, none⟩ :: rest) F Z K :=
  f_core (fun hF => hx ▸ look_stable hF x) hd (fun a w _ h => by subst hx; exact ⟨Ext.refl _, h x (by simp [Op.operands])⟩) k
theorem f_assign {x : Operand} {S : Fact} (hx : look F x = S) (hd : Nat.blt d N = true) (k : wpF P ops Env Rl mo Pn N rest (upd F (some d) S) Z K) : wpF P ops Env Rl mo Pn N (⟨some d, .assign x, ty, pos, aft, none⟩ :: rest) F Z K :=
  f_core (fun hF => hx ▸ look_stable hF x) hd (fun a w _ h => by subst hx; exact ⟨Ext.refl _, h x (by simp [Op.operands])⟩) k
theorem f_pick_t {c x y : Operand} {S : Fact} (hc : look F c = Is (.bool true)) (hx : look F x = S) (hd : Nat.blt d N = true) (k : wpF P ops Env Rl mo Pn N rest (upd F (some d) S) Z K) : wpF P ops Env Rl mo Pn N (⟨some d, .pick c x y, ty, pos, aft, none⟩ :: rest) F Z K :=
  f_core (fun hF => hx ▸ look_stable hF x) hd (fun a w _ h => by
    subst hx
    have h1 : look F c (a.eval c) w := h c (by simp [Op.operands])
    rw [hc] at h1
    have h1 : a.eval c = .bool true := h1
    have : (execOp a.eval ⟨some d, .pick c x y, ty, pos, aft, none⟩).run P w = .ok (.value (a.eval x)) w := by simp [execOp, h1, asBool]
    rw [this]
    exact ⟨Ext.refl _, h x (by simp [Op.operands])⟩) k
theorem f_pick_f {c x y : Operand} {S : Fact} (hc : look F c = Is (.bool false)) (hy : look F y = S) (hd : Nat.blt d N = true) (k : wpF P ops Env Rl mo Pn N rest (upd F (some d) S) Z K) : wpF P ops Env Rl mo Pn N (⟨some d, .pick c x y, ty, pos, aft, none⟩ :: rest) F Z K :=
  f_core (fun hF => hy ▸ look_stable hF y) hd (fun a w _ h => by
    subst hy
    have h1 : look F c (a.eval c) w := h c (by simp [Op.operands])
    rw [hc] at h1
    have h1 : a.eval c = .bool false := h1
    have : (execOp a.eval ⟨some d, .pick c x y, ty, pos, aft, none⟩).run P w = .ok (.value (a.eval y)) w := by simp [execOp, h1, asBool]
    rw [this]
    exact ⟨Ext.refl _, h y (by simp [Op.operands])⟩) k

/-- An operation on values, in general. -/
theorem f_gen {xs : List Operand} {S : Fact} {f : List Value → Sem Value} (he : ∀ ρ, execOp ρ ⟨some d, op, ty, pos, aft, none⟩ = (do pure (Next.value (← f (xs.map ρ))) : Sem Next)) (hm : ∀ x ∈ xs, x ∈ op.operands.toList)
    (hst : StableR Rl S) (hd : Nat.blt d N = true) (hrun : ∀ w, Env w → AllH (xs.map (look F)) w (fun vs => ∃ r w', (f vs).run P w = .ok r w' ∧ Ext w w' ∧ S r w'))
    (k : wpF P ops Env Rl mo Pn N rest (upd F (some d) S) Z K) : wpF P ops Env Rl mo Pn N (⟨some d, op, ty, pos, aft, none⟩ :: rest) F Z K :=
  f_core (fun _ => hst) hd (fun a w hw h => by
    have hall : Fits w (xs.map (look F)) (xs.map a.eval) := by
      clear hrun he
      induction xs with
      | nil => trivial
      | cons x xs ih => exact ⟨h x (hm x (by simp)), ih (fun y hy => hm y (by simp [hy]))⟩
    obtain ⟨r, w', h1, h2, h3⟩ := AllH.use (hrun w hw) hall
    rw [he, Sem.run_bind, h1]
    exact ⟨h2, h3⟩) k
/-- Known values, one result, nothing turns. -/
theorem f_pure {xs : List Operand} {vs : List Value} {r : Value} {f : List Value → Sem Value} (he : ∀ ρ, execOp ρ ⟨some d, op, ty, pos, aft, none⟩ = (do pure (Next.value (← f (xs.map ρ))) : Sem Next)) (hm : ∀ x ∈ xs, x ∈ op.operands.toList)
    (hx : xs.map (look F) = vs.map Is) (hd : Nat.blt d N = true) (hrun : ∀ w, Env w → (f vs).run P w = .ok r w)
    (k : wpF P ops Env Rl mo Pn N rest (upd F (some d) (Is r)) Z K) : wpF P ops Env Rl mo Pn N (⟨some d, op, ty, pos, aft, none⟩ :: rest) F Z K :=
  f_core (fun _ => Stable.is _) hd (fun a w hw h => by
    have hall : xs.map a.eval = vs := by
      clear hrun he
      induction xs generalizing vs with
      | nil => cases vs with
        | nil => rfl
        | cons v vs => simp at hx
      | cons x xs ih => cases vs with
        | nil => simp at hx
        | cons v vs =>
          simp only [List.map_cons, List.cons.injEq] at hx ⊢
          have h1 := h x (hm x (by simp))
          rw [hx.1] at h1
          exact ⟨h1, ih (fun y hy => hm y (by simp [hy])) hx.2⟩
    rw [he, Sem.run_bind, hall, hrun w hw]
    exact ⟨Ext.refl _, rfl⟩) k

theorem f_bin {b : BinOp} {t t2 : TypeId} {x y : Operand} {u v r : Value} (hx : look F x = Is u) (hy : look F y = Is v) (hd : Nat.blt d N = true) (hrun : ∀ w, Env w → (bin b t x y u v).run P w = .ok r w)
    (k : wpF P ops Env Rl mo Pn N rest (upd F (some d) (Is r)) Z K) : wpF P ops Env Rl mo Pn N (⟨some d, .binOp b t x y t2, ty, pos, aft, none⟩ :: rest) F Z K :=
  f_pure (xs := [x, y]) (vs := [u, v]) (f := fun | [a, c] => bin b t x y a c | _ => stuck "") (fun _ => rfl) (by simp [Op.operands]) (by simp [hx, hy]) hd hrun k
theorem f_not {b : UnOp} {t : TypeId} {x : Operand} {u r : Value} (hx : look F x = Is u) (hd : Nat.blt d N = true) (hrun : ∀ w, Env w → (Op.unary b u).run P w = .ok r w)
    (k : wpF P ops Env Rl mo Pn N rest (upd F (some d) (Is r)) Z K) : wpF P ops Env Rl mo Pn N (⟨some d, .unOp b t x, ty, pos, aft, none⟩ :: rest) F Z K :=
  f_pure (xs := [x]) (vs := [u]) (f := fun | [a] => Op.unary b a | _ => stuck "") (fun _ => rfl) (by simp [Op.operands]) (by simp [hx]) hd hrun k
theorem f_conv {s t : TypeId} {x : Operand} {u r : Value} (hx : look F x = Is u) (hd : Nat.blt d N = true) (hrun : ∀ w, Env w → (convert s t u).run P w = .ok r w)
    (k : wpF P ops Env Rl mo Pn N rest (upd F (some d) (Is r)) Z K) : wpF P ops Env Rl mo Pn N (⟨some d, .convert s t x, ty, pos, aft, none⟩ :: rest) F Z K :=
  f_pure (xs := [x]) (vs := [u]) (f := fun | [a] => convert s t a | _ => stuck "") (fun _ => rfl) (by simp [Op.operands]) (by simp [hx]) hd hrun k
/-- A conversion of a value of which a fact is known. -/
theorem f_convS {s t : TypeId} {x : Operand} {S S' : Fact} (hx : look F x = S) (hst : StableR Rl S') (hd : Nat.blt d N = true) (hrun : ∀ w v, Env w → S v w → ∃ r w', (convert s t v).run P w = .ok r w' ∧ Ext w w' ∧ S' r w')
    (k : wpF P ops Env Rl mo Pn N rest (upd F (some d) S') Z K) : wpF P ops Env Rl mo Pn N (⟨some d, .convert s t x, ty, pos, aft, none⟩ :: rest) F Z K :=
  f_gen (xs := [x]) (f := fun | [a] => convert s t a | _ => stuck "") (fun _ => rfl) (by simp [Op.operands]) hst hd (fun w hw v hv => by subst hx; exact hrun w v hw hv) k
theorem f_load {t : TypeId} {x : Operand} {u r : Value} (hx : look F x = Is u) (hd : Nat.blt d N = true) (hrun : ∀ w, Env w → (Instr.loadAt t u).run P w = .ok r w)
    (k : wpF P ops Env Rl mo Pn N rest (upd F (some d) (Is r)) Z K) : wpF P ops Env Rl mo Pn N (⟨some d, .load t x, ty, pos, aft, none⟩ :: rest) F Z K :=
  f_pure (xs := [x]) (vs := [u]) (f := fun | [a] => Instr.loadAt t a | _ => stuck "") (fun _ => rfl) (by simp [Op.operands]) (by simp [hx]) hd hrun k
theorem f_fieldAddr {s : TypeId} {n : Nat} {x : Operand} {u r : Value} (hx : look F x = Is u) (hd : Nat.blt d N = true) (hrun : ∀ w, Env w → (Instr.fieldAt s u n).run P w = .ok r w)
    (k : wpF P ops Env Rl mo Pn N rest (upd F (some d) (Is r)) Z K) : wpF P ops Env Rl mo Pn N (⟨some d, .fieldAddr s x n, ty, pos, aft, none⟩ :: rest) F Z K :=
  f_pure (xs := [x]) (vs := [u]) (f := fun | [a] => Instr.fieldAt s a n | _ => stuck "") (fun _ => rfl) (by simp [Op.operands]) (by simp [hx]) hd hrun k
theorem f_field {s : TypeId} {n : Nat} {x : Operand} {u r : Value} (hx : look F x = Is u) (hd : Nat.blt d N = true) (hrun : ∀ w, Env w → (Instr.field s u n).run P w = .ok r w)
    (k : wpF P ops Env Rl mo Pn N rest (upd F (some d) (Is r)) Z K) : wpF P ops Env Rl mo Pn N (⟨some d, .field s x n, ty, pos, aft, none⟩ :: rest) F Z K :=
  f_pure (xs := [x]) (vs := [u]) (f := fun | [a] => Instr.field s a n | _ => stuck "") (fun _ => rfl) (by simp [Op.operands]) (by simp [hx]) hd hrun k
theorem f_extract {n : Nat} {x : Operand} {u r : Value} (hx : look F x = Is u) (hd : Nat.blt d N = true) (hrun : ∀ w, Env w → (Instr.extract u n).run P w = .ok r w)
    (k : wpF P ops Env Rl mo Pn N rest (upd F (some d) (Is r)) Z K) : wpF P ops Env Rl mo Pn N (⟨some d, .extract x n, ty, pos, aft, none⟩ :: rest) F Z K :=
  f_pure (xs := [x]) (vs := [u]) (f := fun | [a] => Instr.extract a n | _ => stuck "") (fun _ => rfl) (by simp [Op.operands]) (by simp [hx]) hd hrun k
theorem f_extractS {n : Nat} {x : Operand} {S S' : Fact} (hx : look F x = S) (hst : StableR Rl S') (hd : Nat.blt d N = true) (hrun : ∀ w v, Env w → S v w → ∃ r, (Instr.extract v n).run P w = .ok r w ∧ S' r w)
    (k : wpF P ops Env Rl mo Pn N rest (upd F (some d) S') Z K) : wpF P ops Env Rl mo Pn N (⟨some d, .extract x n, ty, pos, aft, none⟩ :: rest) F Z K :=
  f_gen (xs := [x]) (f := fun | [a] => Instr.extract a n | _ => stuck "") (fun _ => rfl) (by simp [Op.operands]) hst hd (fun w hw v hv => by
    subst hx
    obtain ⟨r, h1, h2⟩ := hrun w v hw hv
    exact ⟨r, w, h1, Ext.refl _, h2⟩) k
theorem f_nilCheck {x : Operand} {a : Addr} (hx : look F x = Is (.pointer (some a))) (hd : Nat.blt d N = true) (k : wpF P ops Env Rl mo Pn N rest (upd F (some d) (Is (.pointer (some a)))) Z K) : wpF P ops Env Rl mo Pn N (⟨some d, .nilCheck x, ty, pos, aft, none⟩ :: rest) F Z K :=
  f_core (fun _ => Stable.is _) hd (fun b w _ h => by
    have h1 : look F x (b.eval x) w := h x (by simp [Op.operands])
    rw [hx] at h1
    have h1 : b.eval x = .pointer (some a) := h1
    have : (execOp b.eval ⟨some d, .nilCheck x, ty, pos, aft, none⟩).run P w = .ok (.value (.pointer (some a))) w := by simp [execOp, h1]
    rw [this]
    exact ⟨Ext.refl _, rfl⟩) k
theorem f_indexAddr {t : TypeId} {x y : Operand} {u v r : Value} (hx : look F x = Is u) (hy : look F y = Is v) (hd : Nat.blt d N = true) (hrun : ∀ w, Env w → (Instr.indexAt t u v).run P w = .ok r w)
    (k : wpF P ops Env Rl mo Pn N rest (upd F (some d) (Is r)) Z K) : wpF P ops Env Rl mo Pn N (⟨some d, .indexAddr t x y, ty, pos, aft, none⟩ :: rest) F Z K :=
  f_pure (xs := [x, y]) (vs := [u, v]) (f := fun | [a, c] => Instr.indexAt t a c | _ => stuck "") (fun _ => rfl) (by simp [Op.operands]) (by simp [hx, hy]) hd hrun k
theorem f_index {t : TypeId} {x y : Operand} {u v r : Value} (hx : look F x = Is u) (hy : look F y = Is v) (hd : Nat.blt d N = true) (hrun : ∀ w, Env w → (Instr.index t u v).run P w = .ok r w)
    (k : wpF P ops Env Rl mo Pn N rest (upd F (some d) (Is r)) Z K) : wpF P ops Env Rl mo Pn N (⟨some d, .index t x y, ty, pos, aft, none⟩ :: rest) F Z K :=
  f_pure (xs := [x, y]) (vs := [u, v]) (f := fun | [a, c] => Instr.index t a c | _ => stuck "") (fun _ => rfl) (by simp [Op.operands]) (by simp [hx, hy]) hd hrun k
theorem f_alloc {t : TypeId} {S : Fact} (hst : StableR Rl S) (hd : Nat.blt d N = true) (hrun : ∀ w, Env w → ∃ r w', (Instr.alloc t true (.tuple #[])).run P w = .ok r w' ∧ Ext w w' ∧ S r w')
    (k : wpF P ops Env Rl mo Pn N rest (upd F (some d) S) Z K) : wpF P ops Env Rl mo Pn N (⟨some d, .alloc t, ty, pos, aft, none⟩ :: rest) F Z K :=
  f_gen (xs := []) (f := fun _ => Instr.alloc t true (.tuple #[])) (fun _ => rfl) (by simp) hst hd hrun k

def optL : Option Operand → List Operand
  | none => []
  | some x => [x]
theorem f_slice {t : TypeId} {x : Operand} {lo hi : Option Operand} {u r : Value} {a b : Option Value} (hx : look F x = Is u) (hlo : lo.map (look F) = a.map Is) (hhi : hi.map (look F) = b.map Is) (hd : Nat.blt d N = true)
    (hrun : ∀ w, Env w → (Instr.sliceAt t u a b none).run P w = .ok r w)
    (k : wpF P ops Env Rl mo Pn N rest (upd F (some d) (Is r)) Z K) : wpF P ops Env Rl mo Pn N (⟨some d, .slice t x lo hi none, ty, pos, aft, none⟩ :: rest) F Z K :=
  f_core (fun _ => Stable.is _) hd (fun s w hw h => by
    have opt : ∀ {o : Option Operand} {c : Option Value}, o.map (look F) = c.map Is → (∀ y, o = some y → y ∈ (Op.slice t x lo hi none).operands.toList) → o.map s.eval = c := fun {o c} ho hm => by
      cases o with
      | none => cases c with
        | none => rfl
        | some c => simp at ho
      | some y => cases c with
        | none => simp at ho
        | some c =>
          simp only [Option.map_some, Option.some.injEq] at ho ⊢
          have h1 := h y (hm y rfl)
          rw [ho] at h1
          exact h1
    have h0 : look F x (s.eval x) w := h x (by simp [Op.operands])
    rw [hx] at h0
    have h0 : s.eval x = u := h0
    have : execOp s.eval ⟨some d, .slice t x lo hi none, ty, pos, aft, none⟩ = (do pure (Next.value (← Instr.sliceAt t (s.eval x) (lo.map s.eval) (hi.map s.eval) none)) : Sem Next) := rfl
    rw [this, h0, opt hlo (fun y hy => by subst hy; simp [Op.operands]), opt hhi (fun y hy => by subst hy; simp [Op.operands]), Sem.run_bind, hrun w hw]
    exact ⟨Ext.refl _, rfl⟩) k

theorem f_parts {ps : List (Nat × Operand)} {S : Fact} {f : Array (Nat × Value) → Sem Value} (he : ∀ ρ, execOp ρ ⟨some d, op, ty, pos, aft, none⟩ = (do pure (Next.value (← f (ps.toArray.map fun (i, x) => (i, ρ x)))) : Sem Next)) (hm : ∀ x ∈ ps, x.2 ∈ op.operands.toList)
    (hst : StableR Rl S) (hd : Nat.blt d N = true) (hrun : ∀ w, Env w → AllH (ps.map fun p => look F p.2) w (fun vs => ∃ r w', (f ((ps.map (·.1)).zip vs).toArray).run P w = .ok r w' ∧ Ext w w' ∧ S r w'))
    (k : wpF P ops Env Rl mo Pn N rest (upd F (some d) S) Z K) : wpF P ops Env Rl mo Pn N (⟨some d, op, ty, pos, aft, none⟩ :: rest) F Z K :=
  f_gen (xs := ps.map (·.2)) (f := fun vs => f ((ps.map (·.1)).zip vs).toArray) (fun ρ => by
    rw [he]
    have : (ps.toArray.map fun (i, x) => (i, ρ x)) = ((ps.map (·.1)).zip ((ps.map (·.2)).map ρ)).toArray := by
      rw [List.map_toArray]
      congr 1
      clear hm he hrun
      induction ps with
      | nil => rfl
      | cons p ps ih => simp only [List.map_cons, List.zip_cons_cons, ih]
    rw [this]) (fun x hx => by
      obtain ⟨p, hp, rfl⟩ := List.mem_map.1 hx
      exact hm p hp) hst hd (fun w hw => by
      have := hrun w hw
      rwa [List.map_map]) k
theorem f_build {t : TypeId} {ps : List (Nat × Operand)} {S : Fact} (hst : StableR Rl S) (hd : Nat.blt d N = true) (hrun : ∀ w, Env w → AllH (ps.map fun p => look F p.2) w (fun vs => ∃ r w', (Instr.build t ((ps.map (·.1)).zip vs).toArray).run P w = .ok r w' ∧ Ext w w' ∧ S r w'))
    (k : wpF P ops Env Rl mo Pn N rest (upd F (some d) S) Z K) : wpF P ops Env Rl mo Pn N (⟨some d, .build t ps.toArray, ty, pos, aft, none⟩ :: rest) F Z K :=
  f_parts (ps := ps) (fun _ => rfl) (fun x hx => by simp [Op.operands]; exact ⟨x.1, hx⟩) hst hd hrun k
theorem f_buildSlice {t : TypeId} {n : Nat} {ps : List (Nat × Operand)} {S : Fact} (hst : StableR Rl S) (hd : Nat.blt d N = true) (hrun : ∀ w, Env w → AllH (ps.map fun p => look F p.2) w (fun vs => ∃ r w', (Instr.buildSlice t n ((ps.map (·.1)).zip vs).toArray).run P w = .ok r w' ∧ Ext w w' ∧ S r w'))
    (k : wpF P ops Env Rl mo Pn N rest (upd F (some d) S) Z K) : wpF P ops Env Rl mo Pn N (⟨some d, .buildSlice t n ps.toArray, ty, pos, aft, none⟩ :: rest) F Z K :=
  f_parts (ps := ps) (fun _ => rfl) (fun x hx => by simp [Op.operands]; exact ⟨x.1, hx⟩) hst hd hrun k

/-- A call of a Go function that leaves what was there. -/
theorem f_call {f : FuncId} {xs : List Operand} {ts : Array TypeId} {S : Fact} (hf : Callable P f) (hst : StableR Rl S) (hd : Nat.blt d N = true)
    (hc : ∀ w, Env w → AllH (xs.map (look F)) w (fun vs => Calls P f vs.toArray w (Ret fun v w' => Ext w w' ∧ S v w')))
    (k : wpF P ops Env Rl mo Pn N rest (upd F (some d) S) Z K) : wpF P ops Env Rl mo Pn N (⟨some d, .call { callee := .value (.func f), args := xs.toArray, argTypes := ts }, ty, pos, aft, none⟩ :: rest) F Z K :=
  f_core (fun _ => hst) hd (fun a w hw h => by
    have hall : Fits w (xs.map (look F)) (xs.map a.eval) := by
      have hm : ∀ x ∈ xs, look F x (a.eval x) w := fun x hx => h x (by simp [Op.operands, Call.operands, hx])
      clear hc h
      induction xs with
      | nil => trivial
      | cons x xs ih => exact ⟨hm x (by simp), ih (fun y hy => hm y (by simp [hy]))⟩
    have h1 := AllH.use (hc w hw) hall
    have hr : (execOp a.eval ⟨some d, .call { callee := .value (.func f), args := xs.toArray, argTypes := ts }, ty, pos, aft, none⟩).run P w = .ok (.enter f (xs.map a.eval).toArray) w := by
      simp only [execOp, resolve, List.map_toArray, Act.eval, Deferred.ofValue, Sem.run_bind, Sem.run_pure, Result.andThen_ok, invoke, Array.append_empty, run_callFunc hf, Array.empty_append]
    rw [hr]
    refine ⟨Ext.refl _, h1.mono ?_⟩
    rintro e w'' ⟨v, rfl, hv⟩
    exact ⟨v, rfl, hv⟩) k

/-- A call that turns the world, and may panic. -/
theorem f_callM {f : FuncId} {xs : List Operand} {ts : Array TypeId} {S : Fact} {Z' : Zst} (hf : Callable P f) (hm : mo = true) (hst : StableR Rl S) (hz : StableZ Z') (hd : Nat.blt d N = true)
    (hc : ∀ w, Env w → Z w → AllH (xs.map (look F)) w (fun vs => Calls P f vs.toArray w (fun e w' => (∃ v, e = .returned v ∧ Rl w w' ∧ S v w' ∧ Z' w') ∨ ∃ c, e = .panicked c ∧ Pn c w')))
    (k : wpF P ops Env Rl mo Pn N rest (upd F (some d) S) Z' K) : wpF P ops Env Rl mo Pn N (⟨some d, .call { callee := .value (.func f), args := xs.toArray, argTypes := ts }, ty, pos, aft, none⟩ :: rest) F Z K := fun _ _ => by
  have hlt : d < N := by simpa [Nat.blt_eq] using hd
  refine ⟨S, Z', .inr ⟨hm, ⟨rfl, hst, hz, fun e he => by obtain rfl := Option.some.inj he; exact hlt, fun a w _ hw hs hz hwant => ?_, fun a w _ _ _ _ hw => by simp [Region.wanted] at hw⟩⟩, k⟩
  have hall : Fits w (xs.map (look F)) (xs.map a.eval) := by
    have hm : ∀ x ∈ xs, look F x (a.eval x) w := fun x hx => by
      cases x with
      | tmp t => exact hs t (List.mem_append_left _ (List.mem_filterMap.2 ⟨.tmp t, by simp [Op.operands, Call.operands, hx], rfl⟩))
      | _ => rfl
    clear hc hs hwant
    induction xs with
    | nil => trivial
    | cons x xs ih => exact ⟨hm x (by simp), ih (fun y hy => hm y (by simp [hy]))⟩
  have h1 := AllH.use (hc w hw hz) hall
  have hr : (execOp a.eval ⟨some d, .call { callee := .value (.func f), args := xs.toArray, argTypes := ts }, ty, pos, aft, none⟩).run P w = .ok (.enter f (xs.map a.eval).toArray) w := by
    simp only [execOp, resolve, List.map_toArray, Act.eval, Deferred.ofValue, Sem.run_bind, Sem.run_pure, Result.andThen_ok, invoke, Array.append_empty, run_callFunc hf, Array.empty_append]
  rw [hr]
  exact h1

/-- A builtin on values. -/
theorem f_len {xs : List Operand} {ts : Array TypeId} {vs : List Value} {r : Value} (hx : xs.map (look F) = vs.map Is) (hd : Nat.blt d N = true) (hrun : ∀ w, Env w → (Builtin.len_ ts ty vs.toArray).run P w = .ok r w)
    (k : wpF P ops Env Rl mo Pn N rest (upd F (some d) (Is r)) Z K) : wpF P ops Env Rl mo Pn N (⟨some d, .call { callee := .builtin .len, args := xs.toArray, argTypes := ts }, ty, pos, aft, none⟩ :: rest) F Z K :=
  f_pure (xs := xs) (vs := vs) (f := fun vs => Builtin.len_ ts ty vs.toArray) (fun ρ => by simp only [execOp, resolve, invoke, builtin, pure_bind, List.map_toArray]) (fun x hx => by simp [Op.operands, Call.operands, hx]) hx hd hrun k
theorem f_lenS {x : Operand} {ts : Array TypeId} {S S' : Fact} (hx : look F x = S) (hst : StableR Rl S') (hd : Nat.blt d N = true) (hrun : ∀ w v, Env w → S v w → ∃ r, (Builtin.len_ ts ty #[v]).run P w = .ok r w ∧ S' r w)
    (k : wpF P ops Env Rl mo Pn N rest (upd F (some d) S') Z K) : wpF P ops Env Rl mo Pn N (⟨some d, .call { callee := .builtin .len, args := #[x], argTypes := ts }, ty, pos, aft, none⟩ :: rest) F Z K :=
  f_gen (xs := [x]) (f := fun vs => Builtin.len_ ts ty vs.toArray) (fun ρ => by simp only [execOp, resolve, invoke, builtin, pure_bind, List.map_toArray, List.map_cons, List.map_nil]) (fun x hx => by simp [Op.operands, Call.operands]; simpa using hx) hst hd (fun w hw v hv => by
    subst hx
    obtain ⟨r, h1, h2⟩ := hrun w v hw hv
    exact ⟨r, w, h1, Ext.refl _, h2⟩) k
theorem f_min {xs : List Operand} {ts : Array TypeId} {vs : List Value} {r : Value} (hx : xs.map (look F) = vs.map Is) (hd : Nat.blt d N = true) (hrun : ∀ w, Env w → (Builtin.min_ ts ty vs.toArray).run P w = .ok r w)
    (k : wpF P ops Env Rl mo Pn N rest (upd F (some d) (Is r)) Z K) : wpF P ops Env Rl mo Pn N (⟨some d, .call { callee := .builtin .min, args := xs.toArray, argTypes := ts }, ty, pos, aft, none⟩ :: rest) F Z K :=
  f_pure (xs := xs) (vs := vs) (f := fun vs => Builtin.min_ ts ty vs.toArray) (fun ρ => by simp only [execOp, resolve, invoke, builtin, pure_bind, List.map_toArray]) (fun x hx => by simp [Op.operands, Call.operands, hx]) hx hd hrun k
theorem f_append {xs : List Operand} {ts : Array TypeId} {S : Fact} (hst : StableR Rl S) (hd : Nat.blt d N = true) (hrun : ∀ w, Env w → AllH (xs.map (look F)) w (fun vs => ∃ r w', (Builtin.append_ ts ty vs.toArray).run P w = .ok r w' ∧ Ext w w' ∧ S r w'))
    (k : wpF P ops Env Rl mo Pn N rest (upd F (some d) S) Z K) : wpF P ops Env Rl mo Pn N (⟨some d, .call { callee := .builtin .append, args := xs.toArray, argTypes := ts }, ty, pos, aft, none⟩ :: rest) F Z K :=
  f_gen (xs := xs) (f := fun vs => Builtin.append_ ts ty vs.toArray) (fun ρ => by simp only [execOp, resolve, invoke, builtin, pure_bind, List.map_toArray]) (fun x hx => by simp [Op.operands, Call.operands, hx]) hst hd hrun k
end
end Go.Rl
/- Words for memory: slices that read as lists, rows of the call's own, a list of what the call owns. Conditions: each lemma names its own. -/
namespace Go.Rl
open Go.RowKit

/-! ### Numbers as values -/
def U8 (b : UInt8) : Value := .int .u8 (b.toNat : Int)
def U32 (x : UInt32) : Value := .int .u32 (x.toNat : Int)
def U64 (x : UInt64) : Value := .int .u64 (x.toNat : Int)
def I (n : Int) : Value := .int .i64 n
def B (b : Bool) : Value := .bool b

/-! ### Ext -/
theorem Ext.cell {w w' : World} (h : Ext w w') {a : Addr} (ha : a.block < w.heap.size) : w'.cell? a = w.cell? a := Below.cell h ha
theorem Ext.cell_some {w w' : World} (h : Ext w w') {a : Addr} {v : Value} (hv : w.cell? a = some v) : w'.cell? a = some v := (h.cell (World.block_lt_of_cell? w a hv)).trans hv
theorem Ext.heap {w w' : World} (h : Ext w w') {g : Nat} (hg : g < w.heap.size) : w'.heap[g]? = w.heap[g]? := h.block g hg
theorem Ext.heap_some {w w' : World} (h : Ext w w') {g : Nat} {o : Obj} (hv : w.heap[g]? = some o) : w'.heap[g]? = some o :=
  (h.heap (Array.getElem?_eq_some_iff.1 hv).1).trans hv
theorem Ext.size {w w' : World} (h : Ext w w') : w.heap.size ≤ w'.heap.size := Below.size h
theorem Ext.new (w : World) (o : Obj) : Ext w (w.alloc o) := (Ext.refl w).alloc o
theorem Ext.of_grown {w0 w w' : World} (h : Ext w0 w) {row : Option Nat} (hg : w.grownBy w' row) (hr : ∀ k, row = some k → w0.heap.size ≤ k) : Ext w0 w' :=
  Below.grown h hg h.size hr

/-! ### Slices that read as a list -/
def Cells (w : World) (a : Addr) (xs : List Value) : Prop := ∀ j u, xs[j]? = some u → w.cell? (a.add j) = some u

theorem add_block (a : Addr) (n : Nat) : (a.add n).block = a.block := by unfold Addr.add; split <;> rfl
theorem add_add (a : Addr) (i j : Nat) : (a.add i).add j = a.add (i + j) := by
  unfold Addr.add
  by_cases hi : i = 0 <;> by_cases hj : j = 0 <;> simp [hi, hj, Nat.add_assoc]
theorem add_zero (a : Addr) : a.add 0 = a := by simp [Addr.add]
theorem add_mk (b o n : Nat) : (⟨b, o, none⟩ : Addr).add n = ⟨b, o + n, none⟩ := by
  unfold Addr.add
  split
  · rename_i h; subst h; rfl
  · rfl

theorem Cells.ext {w w' : World} {a : Addr} {xs : List Value} (h : Cells w a xs) (hx : Ext w w') : Cells w' a xs := fun j u hu => hx.cell_some (h j u hu)
theorem Cells.drop {w : World} {a : Addr} {xs : List Value} (h : Cells w a xs) (k : Nat) : Cells w (a.add k) (xs.drop k) := fun j u hu => by
  rw [add_add]
  exact h (k + j) u (by rw [← hu, List.getElem?_drop])
theorem Cells.take {w : World} {a : Addr} {xs : List Value} (h : Cells w a xs) (k : Nat) : Cells w a (xs.take k) := fun j u hu => by
  rw [List.getElem?_take] at hu
  split at hu
  · exact h j u hu
  · cases hu

/-- The slice value reads as the list (sz cells an element). -/
def Sl (sz : Nat) (xs : List Value) : Fact := fun v w => ∃ A n c, v = .slice A n c ∧ n ≤ c ∧ c ≤ maxLen ∧ xs.length = n * sz ∧ (0 < n → ∃ ad, A = some ad ∧ Cells w ad xs) ∧ (A = none → c = 0)

theorem Sl.stable (sz : Nat) (xs : List Value) : Stable (Sl sz xs) := fun v w w' h hx => by
  obtain ⟨A, n, c, h1, h2, h3, h4, h5, h6⟩ := h
  exact ⟨A, n, c, h1, h2, h3, h4, fun hn => (h5 hn).imp fun ad h => ⟨h.1, h.2.ext hx⟩, h6⟩
theorem Sl.ext {sz : Nat} {xs : List Value} {v : Value} {w w' : World} (h : Sl sz xs v w) (hx : Ext w w') : Sl sz xs v w' := Sl.stable sz xs v w w' h hx
theorem Sl.nil (sz : Nat) (w : World) : Sl sz [] (.slice none 0 0) w := ⟨none, 0, 0, rfl, Nat.le_refl _, Nat.zero_le _, by simp, fun h => absurd h (by omega), fun _ => rfl⟩
theorem Sl.of_own {base : Nat} {e : TypeId} {sz n : Nat} {v : Value} {xs : List Value} {w : World} (h : w.ownsRow base e sz v n xs) : Sl sz xs v w := by
  rcases h.2 with ⟨rfl, rfl⟩ | ⟨g, cap, cur, rfl, hb, hg, hn, hm, hs, ht⟩
  · have : xs = [] := List.eq_nil_of_length_eq_zero (by simpa using h.1)
    subst this
    exact Sl.nil sz w
  · exact ⟨some ⟨g, 0, none⟩, n, cap, rfl, hn, hm, h.1, fun _ => ⟨_, rfl, h.cells (g := g) rfl⟩, fun h => by cases h⟩

/-! ### Rows -/
theorem ownsRow_ext {w w' : World} {base : Nat} {e : TypeId} {sz n : Nat} {v : Value} {xs : List Value} (h : w.ownsRow base e sz v n xs) (hx : Ext w w') : w'.ownsRow base e sz v n xs := by
  refine ⟨h.1, ?_⟩
  rcases h.2 with h | ⟨g, cap, cur, rfl, hb, hg, rest⟩
  · exact .inl h
  · exact .inr ⟨g, cap, cur, rfl, hb, hx.heap_some hg, rest⟩
theorem ownsRow_base {w : World} {base base' : Nat} {e : TypeId} {sz n : Nat} {v : Value} {xs : List Value} (h : w.ownsRow base e sz v n xs) (hb : ∀ k, v.ownBlock = some k → base' ≤ k) : w.ownsRow base' e sz v n xs := by
  refine ⟨h.1, ?_⟩
  rcases h.2 with h | ⟨g, cap, cur, rfl, _, hg, rest⟩
  · exact .inl h
  · exact .inr ⟨g, cap, cur, rfl, hb g rfl, hg, rest⟩
theorem ownsRow_len {w : World} {base : Nat} {e : TypeId} {n : Nat} {v : Value} {xs : List Value} (h : w.ownsRow base e 1 v n xs) : xs.length = n := by simpa using h.1

/-- What an operation that may only write the row of v leaves; v' is the row behind it. -/
structure Grew (w w' : World) (v v' : Value) : Prop where
  grown : w.grownBy w' v.ownBlock
  own : v'.ownBlock = v.ownBlock ∨ ∀ k, v'.ownBlock = some k → w.heap.size ≤ k
theorem Grew.trans {a b c : World} {v u z : Value} (h : Grew a b v u) (k : Grew b c u z) : Grew a c v z := by
  refine ⟨⟨k.grown.os.trans h.grown.os, k.grown.tape.trans h.grown.tape, k.grown.output.trans h.grown.output, Nat.le_trans h.grown.size k.grown.size, fun i hi hne => ?_⟩, ?_⟩
  · refine (k.grown.block i (Nat.lt_of_lt_of_le hi h.grown.size) ?_).trans (h.grown.block i hi hne)
    rcases h.own with h1 | h1
    · rw [h1]; exact hne
    · intro hu
      have := h1 i hu.symm
      omega
  · rcases k.own with k1 | k1
    · rw [k1]; exact h.own
    · exact .inr fun j hj => Nat.le_trans h.grown.size (k1 j hj)
theorem Grew.ext {a b c : World} {v u : Value} (h : Grew a b v u) (k : Ext b c) : Grew a c v u :=
  ⟨⟨Eq.trans k.os h.grown.os, Eq.trans k.tape h.grown.tape, Eq.trans k.output h.grown.output, Nat.le_trans h.grown.size k.size, fun i hi hne => (k.heap (Nat.lt_of_lt_of_le hi h.grown.size)).trans (h.grown.block i hi hne)⟩, h.own⟩
theorem Grew.of_ext {a b : World} {v u : Value} (h : Ext a b) (hu : u.ownBlock = v.ownBlock ∨ ∀ k, u.ownBlock = some k → a.heap.size ≤ k) : Grew a b v u :=
  ⟨⟨h.os, h.tape, h.output, h.size, fun _ hi _ => h.heap hi⟩, hu⟩
theorem Grew.before {a b c : World} {v u : Value} (h : Ext a b) (k : Grew b c v u) : Grew a c v u :=
  ⟨⟨k.grown.os.trans h.os, k.grown.tape.trans h.tape, k.grown.output.trans h.output, Nat.le_trans h.size k.grown.size, fun i hi hne => (k.grown.block i (Nat.lt_of_lt_of_le hi h.size) hne).trans (h.heap hi)⟩, k.own.imp_right fun h1 j hj => Nat.le_trans h.size (h1 j hj)⟩

/-! ### What the call owns -/
inductive Item where
  | blk (g : Nat) (T : TypeId) (cs : Array Value)
  | row (v : Value) (e : TypeId) (sz n : Nat) (xs : List Value)
def Item.foot : Item → Option Nat
  | .blk g _ _ => some g
  | .row v _ _ _ _ => v.ownBlock
def Item.holds (base : Nat) (w : World) : Item → Prop
  | .blk g T cs => base ≤ g ∧ w.heap[g]? = some (.cells cs T (0, 0))
  | .row v e sz n xs => w.ownsRow base e sz v n xs
def Item.off (a b : Item) : Prop := a.foot = none ∨ a.foot ≠ b.foot

theorem Item.foot_ge {base : Nat} {w : World} {it : Item} (h : it.holds base w) {k : Nat} (hk : it.foot = some k) : base ≤ k ∧ k < w.heap.size := by
  cases it with
  | blk g T cs =>
    obtain rfl : g = k := by simpa [Item.foot] using hk
    exact ⟨h.1, (Array.getElem?_eq_some_iff.1 h.2).1⟩
  | row v e sz n xs => exact World.ownsRow.lt h k hk
theorem Item.holds_grown {base : Nat} {w w' : World} {it : Item} (h : it.holds base w) {row : Option Nat} (hg : w.grownBy w' row) (hne : it.foot = none ∨ it.foot ≠ row) : it.holds base w' := by
  cases it with
  | blk g T cs =>
    refine ⟨h.1, (hg.block g (Array.getElem?_eq_some_iff.1 h.2).1 ?_).trans h.2⟩
    rcases hne with h1 | h1
    · simp [Item.foot] at h1
    · exact h1
  | row v e sz n xs => exact World.ownsRow.kept h hg hne
theorem Item.holds_ext {base : Nat} {w w' : World} {it : Item} (h : it.holds base w) (hx : Ext w w') : it.holds base w' := by
  cases it with
  | blk g T cs => exact ⟨h.1, hx.heap_some h.2⟩
  | row v e sz n xs => exact ownsRow_ext h hx

/-- Since w0 nothing that was there has turned; the items hold; their places differ. -/
structure Hp (w0 w : World) (its : List Item) : Prop where
  ext : Ext w0 w
  holds : ∀ it ∈ its, it.holds w0.heap.size w
  apart : its.Pairwise Item.off

section
variable {w0 w w' : World} {its : List Item} {a b c d : Item}
theorem Hp.nil (w : World) : Hp w w [] := ⟨Ext.refl w, by simp, List.Pairwise.nil⟩
theorem Hp.grow (h : Hp w0 w its) (hx : Ext w w') : Hp w0 w' its := ⟨h.ext.trans hx, fun it hi => Item.holds_ext (h.holds it hi) hx, h.apart⟩
theorem Hp.drop (h : Hp w0 w (a :: its)) : Hp w0 w its := ⟨h.ext, fun it hi => h.holds it (by simp [hi]), (List.pairwise_cons.1 h.apart).2⟩
theorem Item.off_symm (h : Item.off a b) : Item.off b a := by
  unfold Item.off at *
  rcases h with h | h
  · cases hb : b.foot with
    | none => exact .inl rfl
    | some k => exact .inr (by rw [h]; simp)
  · exact .inr (Ne.symm h)
theorem Hp.perm {its' : List Item} (h : Hp w0 w its) (hp : its.Perm its') : Hp w0 w its' :=
  ⟨h.ext, fun it hi => h.holds it (hp.mem_iff.2 hi), (hp.pairwise_iff (fun h => Item.off_symm h)).1 h.apart⟩
theorem Hp.at1 (h : Hp w0 w (a :: b :: its)) : Hp w0 w (b :: a :: its) := h.perm (List.Perm.swap _ _ _)
theorem Hp.at2 (h : Hp w0 w (a :: b :: c :: its)) : Hp w0 w (c :: a :: b :: its) := h.perm (((List.Perm.swap c b its).cons a).trans (List.Perm.swap c a (b :: its)))
theorem Hp.at3 (h : Hp w0 w (a :: b :: c :: d :: its)) : Hp w0 w (d :: a :: b :: c :: its) := h.perm (((((List.Perm.swap d c its).cons b).trans (List.Perm.swap d b (c :: its))).cons a).trans (List.Perm.swap d a (b :: c :: its)))
theorem Hp.one (h : Hp w0 w (a :: its)) : a.holds w0.heap.size w := h.holds a (by simp)

/-- A new item, its place new too. -/
theorem Hp.add (h : Hp w0 w its) (hx : Ext w w') (hit : a.holds w0.heap.size w') (hn : ∀ k, a.foot = some k → w.heap.size ≤ k) : Hp w0 w' (a :: its) := by
  have h' := h.grow hx
  refine ⟨h'.ext, fun it hi => ?_, List.pairwise_cons.2 ⟨fun it hi => ?_, h'.apart⟩⟩
  · rcases List.mem_cons.1 hi with rfl | hi
    · exact hit
    · exact h'.holds it hi
  · unfold Item.off
    cases hf : a.foot with
    | none => exact .inl rfl
    | some k =>
      refine .inr fun he => ?_
      have h1 := (Item.foot_ge (h.holds it hi) he.symm).2
      have h2 := hn k hf
      omega
theorem Hp.newBlk (h : Hp w0 w its) (cs : Array Value) (T : TypeId) : Hp w0 (w.alloc (.cells cs T)) (.blk w.heap.size T cs :: its) :=
  h.add (Ext.new w _) ⟨h.ext.size, heap_alloc_new w _⟩ fun k hk => by
    obtain rfl : w.heap.size = k := by simpa [Item.foot] using hk
    exact Nat.le_refl _
theorem Hp.nilRow (h : Hp w0 w its) (e : TypeId) (sz : Nat) : Hp w0 w (.row (.slice none 0 0) e sz 0 [] :: its) :=
  h.add (Ext.refl w) (World.ownsRow_nil _ _ _ _) fun k hk => by simp [Item.foot, Value.ownBlock] at hk
/-- The head item is written; nothing else. -/
theorem Hp.write {a' : Item} (h : Hp w0 w (a :: its)) (hg : w.grownBy w' a.foot) (hit : a'.holds w0.heap.size w') (hf : a'.foot = a.foot ∨ ∀ k, a'.foot = some k → w.heap.size ≤ k) : Hp w0 w' (a' :: its) := by
  have hap := (List.pairwise_cons.1 h.apart).1
  refine ⟨h.ext.of_grown hg fun k hk => (Item.foot_ge h.one hk).1, fun it hi => ?_, List.pairwise_cons.2 ⟨fun it hi => ?_, (List.pairwise_cons.1 h.apart).2⟩⟩
  · rcases List.mem_cons.1 hi with rfl | hi
    · exact hit
    · exact Item.holds_grown (h.holds it (by simp [hi])) hg (Item.off_symm (hap it hi))
  · unfold Item.off
    rcases hf with hf | hf
    · rw [hf]; exact hap it hi
    · cases hk : a'.foot with
      | none => exact .inl rfl
      | some k =>
        refine .inr fun he => ?_
        have h1 := (Item.foot_ge (h.holds it (by simp [hi])) he.symm).2
        have h2 := hf k hk
        omega
theorem Hp.grew {v v' : Value} {e : TypeId} {sz n n' : Nat} {xs xs' : List Value} (h : Hp w0 w (.row v e sz n xs :: its)) (hg : Grew w w' v v') (ho : w'.ownsRow w0.heap.size e sz v' n' xs') : Hp w0 w' (.row v' e sz n' xs' :: its) :=
  h.write hg.grown ho hg.own
theorem Hp.blkTo {g : Nat} {T : TypeId} {cs cs' : Array Value} (h : Hp w0 w (.blk g T cs :: its)) (hg : w.grownBy w' (some g)) (hh : w'.heap[g]? = some (.cells cs' T (0, 0))) : Hp w0 w' (.blk g T cs' :: its) :=
  h.write hg ⟨h.one.1, hh⟩ (.inl rfl)

theorem grownBy_setCell (w : World) (g i : Nat) (u : Value) : w.grownBy (w.setCell ⟨g, i, none⟩ u) (some g) :=
  ⟨rfl, rfl, rfl, by simp [World.setCell], fun k _ hne => Below.heap_setCell w ⟨g, i, none⟩ u k (fun e => hne (by rw [e]))⟩
theorem heap_set {g : Nat} {T : TypeId} {cs : Array Value} (h : w.heap[g]? = some (.cells cs T (0, 0))) (i : Nat) (u : Value) : (w.setCell ⟨g, i, none⟩ u).heap[g]? = some (.cells (cs.setIfInBounds i u) T (0, 0)) := by
  simp [World.setCell, Array.getElem?_modify, h]
theorem Hp.set {g : Nat} {T : TypeId} {cs : Array Value} (h : Hp w0 w (.blk g T cs :: its)) (i : Nat) (u : Value) : Hp w0 (w.setCell ⟨g, i, none⟩ u) (.blk g T (cs.setIfInBounds i u) :: its) :=
  h.blkTo (grownBy_setCell w g i u) (heap_set h.one.2 i u)
theorem Hp.cell {g : Nat} {T : TypeId} {cs : Array Value} (h : Hp w0 w (.blk g T cs :: its)) (i : Nat) : w.cell? ⟨g, i, none⟩ = cs[i]? := cell_of_row w g i cs T (0, 0) h.one.2
theorem Hp.rowSl {v : Value} {e : TypeId} {sz n : Nat} {xs : List Value} (h : Hp w0 w (.row v e sz n xs :: its)) : Sl sz xs v w := Sl.of_own h.one
end

/-! ### Runs -/
section
variable {P : Program} {w : World}

theorem r_load1 {t : TypeId} {d : TypeDesc} {a : Addr} {v : Value} (ht : P.underlying t = some d) (hd : (match d with | .struct _ | .array _ _ => true | _ => false) = false) (hc : w.cell? a = some v) :
    (Instr.loadAt t (.pointer (some a))).run P w = .ok v w := by
  have hagg : (isAgg t).run P w = .ok false w := by
    unfold isAgg
    simp only [Sem.run_bind, run_underlying ht, Result.andThen_ok]
    cases d <;> simp_all
  simp only [Instr.loadAt, Instr.sureAddr, loadVar, Sem.run_bind, Sem.run_pure, Result.andThen_ok, hagg, Bool.false_eq_true, if_false]
  simp [hc]

theorem r_store1 {t : TypeId} {g i : Nat} {cs : Array Value} {T : TypeId} {v : Value} (hs : (P.info? t).map (·.size) = some 1) (hv : v.oneCell' = true) (hc : w.heap[g]? = some (.cells cs T (0, 0))) (hi : i < cs.size) :
    (Instr.storeAt t (.pointer (some ⟨g, i, none⟩)) v).run P w = .ok () (w.setCell ⟨g, i, none⟩ v) := by
  obtain ⟨ti, hti, hsz⟩ := Option.map_eq_some_iff.1 hs
  have hcells : v.cells = #[v] := by cases v <;> first | rfl | cases hv
  have hcell : w.cell? ⟨g, i, none⟩ = some cs[i] := by rw [cell_of_row w g i cs T (0, 0) hc]; simp [hi]
  have hfr : w.frozen? ⟨g, i, none⟩ = false := frozen_of_row w g i cs T hc
  have hst := run_store P w ⟨g, i, none⟩ v .plain hv
  have hsd : stored P w ⟨g, i, none⟩ v .plain = .ok () (w.setCell ⟨g, i, none⟩ v) := by simp [stored, hcell, hfr]
  simp only [Instr.storeAt, Instr.sureAddr, storeVar, Sem.run_bind, Sem.run_pure, Result.andThen_ok, sizeOf, typeInfo, hti, program, Sem.run, hcells, storeCells]
  have hst2 : (store ⟨g, i, none⟩ v).run P w = .ok () (w.setCell ⟨g, i, none⟩ v) := hst.trans hsd
  simp [hsz, add_zero, hst2]

/-- append onto a row of the call's own. -/
theorem r_append {base : Nat} {t ty e : TypeId} {z : Value} {size bytes : Nat} (ht : P.underlying t = some (.slice e)) (hi : (P.info? e).map (fun i => (i.zero, i.size, i.bytes)) = some (some z, size, bytes)) (hzs : z.cells.size = size) (hsz : 0 < size)
    {v : Value} {n : Nat} {xs : List Value} (hown : w.ownsRow base e size v n xs) {x : Value} {news : List Value} (hx : Sl size news x w) (h1 : ∀ u ∈ news, u.oneCell' = true)
    (hb : (xs.length + news.length) * bytes ≤ 140737488355328 * size) (hb0 : 0 < bytes) (hbase : base ≤ w.heap.size) :
    ∃ v' w' n', (Builtin.append_ #[t, t] ty #[v, x]).run P w = .ok v' w' ∧ w'.ownsRow base e size v' n' (xs ++ news) ∧ Grew w w' v v' := by
  obtain ⟨i, hi, hz, hsize, hby⟩ := info_parts hi
  obtain ⟨A, m, c, rfl, hmc, hcm, hl, hcells, hnone⟩ := hx
  have hbytes : (n + m) * bytes ≤ 140737488355328 := by
    have e1 : xs.length + news.length = (n + m) * size := by rw [hown.1, hl, Nat.add_mul]
    rw [e1] at hb
    have : (n + m) * bytes * size ≤ 140737488355328 * size := by rw [Nat.mul_right_comm]; exact hb
    exact Nat.le_of_mul_le_mul_right this hsz
  have h63 : n + m ≤ maxLen := by
    have : n + m ≤ (n + m) * bytes := Nat.le_mul_of_pos_right _ hb0
    unfold maxLen; omega
  rcases Nat.eq_zero_or_pos m with rfl | hm
  · have hn : news = [] := List.eq_nil_of_length_eq_zero (by simpa using hl)
    subst hn
    cases A with
    | none =>
      have hrun : (Builtin.append_ #[t, t] ty #[v, .slice none 0 c]).run P w = .ok v w := by
        rcases hown.2 with ⟨rfl, rfl⟩ | ⟨g, cap, cur, rfl, _, _, hnc, _⟩
        · simp [Builtin.append_, run_underlying ht, sizeOf, typeInfo, hi, Builtin.lenOf, Builtin.firstCells]
        · simp [Builtin.append_, run_underlying ht, sizeOf, typeInfo, hi, Builtin.lenOf, Builtin.firstCells, hnc, storeCells]
      exact ⟨v, w, n, hrun, by simpa using hown, Grew.of_ext (Ext.refl w) (.inl rfl)⟩
    | some ad =>
      obtain ⟨v', w', h2, h3, h4, _, h5⟩ := run_append_own_at (P := P) w base t ty e i z size bytes ht hi hz hsize hby hzs hsz v n xs hown ad 0 c [] (by simp) (by simp) (by simp) h63 hbytes hbase
      exact ⟨v', w', _, h2, h3, h4, h5.imp_right fun h k hk => by rw [h] at hk; exact Nat.le_of_eq (Option.some.inj hk)⟩
  · obtain ⟨ad, rfl, hc⟩ := hcells hm
    obtain ⟨v', w', h2, h3, h4, _, h5⟩ := run_append_own_at (P := P) w base t ty e i z size bytes ht hi hz hsize hby hzs hsz v n xs hown ad m c news hl hc h1 h63 hbytes hbase
    exact ⟨v', w', _, h2, h3, h4, h5.imp_right fun h k hk => by rw [h] at hk; exact Nat.le_of_eq (Option.some.inj hk)⟩

theorem r_len {t ty : TypeId} {e : TypeId} {sz : Nat} (ht : P.underlying t = some (.slice e)) {xs : List Value} {v : Value} (h : Sl sz xs v w) : ∃ n, xs.length = n * sz ∧ n ≤ maxLen ∧ (Builtin.len_ #[t] ty #[v]).run P w = .ok (I n) w := by
  obtain ⟨A, n, c, rfl, hnc, hcm, hl, _, _⟩ := h
  refine ⟨n, hl, Nat.le_trans hnc hcm, ?_⟩
  simp [Builtin.len_, run_underlying ht, goInt, I]

/-- s[lo:hi] -/
theorem r_slice {t e : TypeId} {sz : Nat} (ht : P.underlying t = some (.slice e)) (hsz : (P.info? e).map (·.size) = some sz) {xs : List Value} {v : Value} (h : Sl sz xs v w) {lo hi : Nat} (h1 : lo ≤ hi) (h2 : hi * sz ≤ xs.length) (h0 : 0 < sz) (kl kh : IntKind) :
    ∃ r, (∀ w' : World, (Instr.sliceAt t v (some (.int kl lo)) (some (.int kh hi)) none).run P w' = .ok r w') ∧ Sl sz ((xs.take (hi * sz)).drop (lo * sz)) r w := by
  obtain ⟨A, n, c, rfl, hnc, hcm, hl, hc, hnone⟩ := h
  obtain ⟨i, hi', hs⟩ := Option.map_eq_some_iff.1 hsz
  have hhn : hi ≤ n := by
    rw [hl] at h2
    exact Nat.le_of_mul_le_mul_right h2 h0
  have hb : ∀ w : World, (Instr.sliceBounds true n c (some (.int kl lo)) (some (.int kh hi)) none).run P w = .ok (lo, hi, c) w := fun w => by
    have a1 := run_sliceBound (P := P) (w := w) kh (hi : Int) c .sliceAcap (by omega) (by omega)
    have a2 := run_sliceBound (P := P) (w := w) kl (lo : Int) hi .sliceB (by omega) (by omega)
    simp only [Int.toNat_natCast] at a1 a2
    simp [Instr.sliceBounds, a1, a2]
  refine ⟨.slice (if c = lo then A else A.map (·.add (lo * sz))) (hi - lo) (c - lo), ?_, ?_⟩
  · intro w'; simp [Instr.sliceAt, Instr.slice, run_underlying ht, hb, sizeOf, typeInfo, hi', hs]
  · refine ⟨_, _, _, rfl, by omega, by omega, ?_, fun hn => ?_, fun hA => ?_⟩
    · rw [List.length_drop, List.length_take, Nat.min_eq_left h2, ← Nat.sub_mul]
    · obtain ⟨ad, rfl, hcl⟩ := hc (by omega)
      rw [if_neg (by omega)]
      exact ⟨_, rfl, (hcl.take _).drop _⟩
    · split at hA
      · have := hnone hA; omega
      · cases A with
        | none => have := hnone rfl; omega
        | some ad => cases hA
theorem r_slice_lo {t e : TypeId} {sz : Nat} (ht : P.underlying t = some (.slice e)) (hsz : (P.info? e).map (·.size) = some sz) {xs : List Value} {v : Value} (h : Sl sz xs v w) {lo : Nat} (h2 : lo * sz ≤ xs.length) (h0 : 0 < sz) (kl : IntKind) :
    ∃ r, (∀ w' : World, (Instr.sliceAt t v (some (.int kl lo)) none none).run P w' = .ok r w') ∧ Sl sz (xs.drop (lo * sz)) r w := by
  obtain ⟨A, n, c, rfl, hnc, hcm, hl, hc, hnone⟩ := h
  obtain ⟨i, hi', hs⟩ := Option.map_eq_some_iff.1 hsz
  have hln : lo ≤ n := by
    rw [hl] at h2
    exact Nat.le_of_mul_le_mul_right h2 h0
  have hb : ∀ w : World, (Instr.sliceBounds true n c (some (.int kl lo)) none none).run P w = .ok (lo, n, c) w := fun w => by
    have a2 := run_sliceBound (P := P) (w := w) kl (lo : Int) n .sliceB (by omega) (by omega)
    simp only [Int.toNat_natCast] at a2
    simp [Instr.sliceBounds, a2]
  refine ⟨.slice (if c = lo then A else A.map (·.add (lo * sz))) (n - lo) (c - lo), ?_, ?_⟩
  · intro w'; simp [Instr.sliceAt, Instr.slice, run_underlying ht, hb, sizeOf, typeInfo, hi', hs]
  · refine ⟨_, _, _, rfl, by omega, by omega, ?_, fun hn => ?_, fun hA => ?_⟩
    · rw [List.length_drop, hl, ← Nat.sub_mul]
    · obtain ⟨ad, rfl, hcl⟩ := hc (by omega)
      rw [if_neg (by omega)]
      exact ⟨_, rfl, hcl.drop _⟩
    · split at hA
      · have := hnone hA; omega
      · cases A with
        | none => have := hnone rfl; omega
        | some ad => cases hA
theorem r_slice_hi {t e : TypeId} {sz : Nat} (ht : P.underlying t = some (.slice e)) (hsz : (P.info? e).map (·.size) = some sz) {xs : List Value} {v : Value} (h : Sl sz xs v w) {hi : Nat} (h2 : hi * sz ≤ xs.length) (h0 : 0 < sz) (kh : IntKind) :
    ∃ r, (∀ w' : World, (Instr.sliceAt t v none (some (.int kh hi)) none).run P w' = .ok r w') ∧ Sl sz (xs.take (hi * sz)) r w := by
  obtain ⟨A, n, c, rfl, hnc, hcm, hl, hc, hnone⟩ := h
  obtain ⟨i, hi', hs⟩ := Option.map_eq_some_iff.1 hsz
  have hhn : hi ≤ n := by
    rw [hl] at h2
    exact Nat.le_of_mul_le_mul_right h2 h0
  have hb : ∀ w : World, (Instr.sliceBounds true n c none (some (.int kh hi)) none).run P w = .ok (0, hi, c) w := fun w => by
    have a1 := run_sliceBound (P := P) (w := w) kh (hi : Int) c .sliceAcap (by omega) (by omega)
    simp only [Int.toNat_natCast] at a1
    simp [Instr.sliceBounds, a1]
  refine ⟨.slice (if c = 0 then A else A.map (·.add (0 * sz))) (hi - 0) (c - 0), ?_, ?_⟩
  · intro w'; simp [Instr.sliceAt, Instr.slice, run_underlying ht, hb, sizeOf, typeInfo, hi', hs]
  · have hA' : (if c = 0 then A else A.map (·.add (0 * sz))) = A := by
      split
      · rfl
      · cases A <;> simp [add_zero]
    rw [hA']
    refine ⟨_, _, _, rfl, by omega, by omega, ?_, fun hn => ?_, fun hA => by have := hnone hA; omega⟩
    · rw [List.length_take, Nat.min_eq_left h2]; simp
    · obtain ⟨ad, rfl, hcl⟩ := hc (by omega)
      exact ⟨_, rfl, hcl.take _⟩

/-- &s[i] -/
theorem r_index {t e : TypeId} {sz : Nat} (ht : P.underlying t = some (.slice e)) (hsz : (P.info? e).map (·.size) = some sz) {xs : List Value} {v : Value} (h : Sl sz xs v w) {i : Nat} (h2 : (i + 1) * sz ≤ xs.length) (h0 : 0 < sz) (k : IntKind) :
    ∃ ad, (∀ w' : World, (Instr.indexAt t v (.int k i)).run P w' = .ok (.pointer (some ad)) w') ∧ Cells w ad ((xs.drop (i * sz)).take sz) := by
  obtain ⟨A, n, c, rfl, hnc, hcm, hl, hc, hnone⟩ := h
  obtain ⟨ti, hi', hs⟩ := Option.map_eq_some_iff.1 hsz
  have hin : i < n := by
    rw [hl] at h2
    exact Nat.le_of_mul_le_mul_right h2 h0
  obtain ⟨ad, rfl, hcl⟩ := hc (by omega)
  refine ⟨ad.add (i * sz), ?_, (hcl.drop _).take _⟩
  intro w'
  simp [Instr.indexAt, asIntOf, run_underlying ht, hin, sizeOf, typeInfo, hi', hs]
end

end Go.Rl
/- Runs of the operations on integers, bools and strings, over typed values. Conditions: each names its own. -/
namespace Go.Rl
section
variable {P : Program} {w : World} {t : TypeId} {x y : Operand}

theorem bin_int {op : BinOp} {k k' : IntKind} {a b : Int} : (bin op t x y (.int k a) (.int k' b)).run P w = (binOp op t (.int k a) (.int k' b)).run P w := by
  unfold bin eqGuard
  cases op <;> rfl

/-! ### int -/
theorem wrap_i {n : Int} (h1 : -9223372036854775808 ≤ n) (h2 : n ≤ 9223372036854775807) : IntKind.i64.wrap n = n := by rw [IntKind.wrap_i64]; omega
theorem r_add_i {a b : Int} (h1 : -9223372036854775808 ≤ a + b) (h2 : a + b ≤ 9223372036854775807) : (bin .add t x y (I a) (I b)).run P w = .ok (I (a + b)) w := by
  unfold I; rw [bin_int]; simp [binOp, Op.intArith, wrap_i h1 h2]
theorem r_sub_i {a b : Int} (h1 : -9223372036854775808 ≤ a - b) (h2 : a - b ≤ 9223372036854775807) : (bin .sub t x y (I a) (I b)).run P w = .ok (I (a - b)) w := by
  unfold I; rw [bin_int]; simp [binOp, Op.intArith, wrap_i h1 h2]
theorem r_mul_i {a b : Int} (h1 : -9223372036854775808 ≤ a * b) (h2 : a * b ≤ 9223372036854775807) : (bin .mul t x y (I a) (I b)).run P w = .ok (I (a * b)) w := by
  unfold I; rw [bin_int]; simp [binOp, Op.intArith, wrap_i h1 h2]
theorem r_quo_i {a b : Int} (h1 : 0 ≤ a) (h2 : 0 < b) (h3 : a ≤ 9223372036854775807) : (bin .quo t x y (I a) (I b)).run P w = .ok (I (a / b)) w := by
  unfold I; rw [bin_int]
  have e : a.tdiv b = a / b := Int.tdiv_eq_ediv_of_nonneg h1
  have h4 : 0 ≤ a / b := Int.ediv_nonneg h1 (by omega)
  have h5 : a / b ≤ a := Int.ediv_le_self b h1
  have h6 : IntKind.i64.wrap (a / b) = a / b := wrap_i (by omega) (by omega)
  have h7 : b ≠ 0 := by omega
  simp [binOp, Op.intDiv, h7, e, h6]
theorem r_rem_i {a b : Int} (h1 : 0 ≤ a) (h2 : 0 < b) : (bin .rem t x y (I a) (I b)).run P w = .ok (I (a % b)) w := by
  unfold I; rw [bin_int]
  have e : a.tmod b = a % b := Int.tmod_eq_emod_of_nonneg h1
  have h7 : b ≠ 0 := by omega
  simp [binOp, Op.intDiv, h7, e]
theorem r_lss_i {a b : Int} : (bin .lss t x y (I a) (I b)).run P w = .ok (B (decide (a < b))) w := by unfold I; rw [bin_int]; rfl
theorem r_leq_i {a b : Int} : (bin .leq t x y (I a) (I b)).run P w = .ok (B (decide (a ≤ b))) w := by unfold I; rw [bin_int]; rfl
theorem r_gtr_i {a b : Int} : (bin .gtr t x y (I a) (I b)).run P w = .ok (B (decide (a > b))) w := by unfold I; rw [bin_int]; rfl
theorem r_geq_i {a b : Int} : (bin .geq t x y (I a) (I b)).run P w = .ok (B (decide (a ≥ b))) w := by unfold I; rw [bin_int]; rfl
theorem beq_dec {a b : Int} : (a == b) = decide (a = b) := rfl
theorem bne_dec {a b : Int} : (a != b) = decide (a ≠ b) := by
  by_cases h : a = b <;> simp [h]
theorem r_eql_i {a b : Int} : (bin .eql t x y (I a) (I b)).run P w = .ok (B (decide (a = b))) w := by unfold I; rw [bin_int]; rfl
theorem r_neq_i {a b : Int} : (bin .neq t x y (I a) (I b)).run P w = .ok (B (decide (a ≠ b))) w := by
  unfold I; rw [bin_int, ← bne_dec]; rfl
theorem r_shr_i {a : Int} {k : IntKind} (s : Nat) (hs : s < 64) : (bin .shr t x y (I a) (.int k (s : Int))).run P w = .ok (I (a / 2 ^ s)) w := by
  unfold I; rw [bin_int]
  have h1 : ¬ ((s : Int) < 0) := by omega
  have h2 : min s 64 = s := by omega
  have e : a.fdiv (2 ^ s) = a / 2 ^ s := Int.fdiv_eq_ediv_of_nonneg _ (by exact Int.le_of_lt (Int.pow_pos (by omega)))
  simp only [binOp, Op.shift, if_neg h1, Int.toNat_natCast, IntKind.bits, h2, e]
  rfl
theorem r_neg_i {a : Int} (h1 : -9223372036854775808 ≤ -a) (h2 : -a ≤ 9223372036854775807) : (Op.unary .neg (I a)).run P w = .ok (I (-a)) w := by
  have : IntKind.i64.wrap (0 - a) = -a := by rw [Int.zero_sub]; exact wrap_i h1 h2
  simp only [I, Op.unary, Op.intArith, this]; rfl
/-- the bits of an int -/
theorem r_xor_i {a b : Int64} : (bin .xor t x y (I a.toInt) (I b.toInt)).run P w = .ok (I (a ^^^ b).toInt) w := by
  unfold I; rw [bin_int]
  have e : IntKind.i64.wrap ((BitVec.ofInt 64 a.toInt ^^^ BitVec.ofInt 64 b.toInt).toNat : Int) = (a ^^^ b).toInt := by
    have ea : BitVec.ofInt 64 a.toInt = a.toBitVec := BitVec.ofInt_toInt
    have eb : BitVec.ofInt 64 b.toInt = b.toBitVec := BitVec.ofInt_toInt
    rw [ea, eb, IntKind.wrap_i64]
    show _ = (a.toBitVec ^^^ b.toBitVec).toInt
    rw [BitVec.toInt_eq_toNat_cond]
    have := (a.toBitVec ^^^ b.toBitVec).isLt
    split <;> omega
  show Result.ok (Value.int .i64 (IntKind.i64.wrap ((BitVec.ofInt 64 a.toInt ^^^ BitVec.ofInt 64 b.toInt).toNat : Int))) w = _
  rw [e]

/-! ### bools -/
theorem dec_t {p : Prop} {dp : Decidable p} {s : Sem Value} {w' : World} (h : p) (hr : s.run P w = .ok (B (@decide p dp)) w') : s.run P w = .ok (B true) w' := by rw [hr, decide_eq_true h]
theorem dec_f {p : Prop} {dp : Decidable p} {s : Sem Value} {w' : World} (h : ¬ p) (hr : s.run P w = .ok (B (@decide p dp)) w') : s.run P w = .ok (B false) w' := by rw [hr, decide_eq_false h]
theorem r_not {b : Bool} : (Op.unary .not (B b)).run P w = .ok (B (!b)) w := rfl
theorem r_not_d {p : Prop} {dp : Decidable p} : (Op.unary .not (B (@decide p dp))).run P w = .ok (B (decide (¬ p))) w := by
  show Result.ok (Value.bool (!decide p)) w = _
  rw [← decide_not]; rfl

/-! ### UInt8 -/
theorem wrap_u8 (n : Nat) : IntKind.u8.wrap (n : Int) = ((n % 256 : Nat) : Int) := by rw [IntKind.wrap_u8]; omega
theorem lt_u8 (a : UInt8) : a.toNat < 256 := a.toNat_lt
theorem ofInt_u8 (a : UInt8) : BitVec.ofInt 8 (a.toNat : Int) = a.toBitVec := by
  rw [BitVec.ofInt_natCast]; exact BitVec.eq_of_toNat_eq (by simp)
theorem ext_u8 {a b : UInt8} (h : a.toNat = b.toNat) : a = b := UInt8.toNat_inj.1 h
theorem r_add_u8 {a b : UInt8} : (bin .add t x y (U8 a) (U8 b)).run P w = .ok (U8 (a + b)) w := by
  unfold U8; rw [bin_int]
  show Result.ok (Value.int .u8 (IntKind.u8.wrap (((a.toNat : Int)) + (b.toNat : Int)))) w = _
  rw [← Int.natCast_add, wrap_u8, UInt8.toNat_add]
theorem r_sub_u8 {a b : UInt8} : (bin .sub t x y (U8 a) (U8 b)).run P w = .ok (U8 (a - b)) w := by
  unfold U8; rw [bin_int]
  show Result.ok (Value.int .u8 (IntKind.u8.wrap (((a.toNat : Int)) - (b.toNat : Int)))) w = _
  rw [IntKind.wrap_u8, UInt8.toNat_sub]
  have := lt_u8 a; have := lt_u8 b
  have e : ((a.toNat : Int) - (b.toNat : Int)) % 256 = (((256 - b.toNat + a.toNat) % 256 : Nat) : Int) := by omega
  rw [e]
theorem r_mul_u8 {a b : UInt8} : (bin .mul t x y (U8 a) (U8 b)).run P w = .ok (U8 (a * b)) w := by
  unfold U8; rw [bin_int]
  show Result.ok (Value.int .u8 (IntKind.u8.wrap (((a.toNat : Int)) * (b.toNat : Int)))) w = _
  rw [← Int.natCast_mul, wrap_u8, UInt8.toNat_mul]
theorem r_quo_u8 {a b : UInt8} (hb : b ≠ 0) : (bin .quo t x y (U8 a) (U8 b)).run P w = .ok (U8 (a / b)) w := by
  unfold U8; rw [bin_int]
  have h0 : b.toNat ≠ 0 := fun h => hb (ext_u8 (by simpa using h))
  have h1 : (b.toNat : Int) ≠ 0 := by omega
  have e : ((a.toNat : Int)).tdiv (b.toNat : Int) = ((a.toNat / b.toNat : Nat) : Int) := rfl
  have hlt : a.toNat / b.toNat < 256 := Nat.lt_of_le_of_lt (Nat.div_le_self _ _) (lt_u8 a)
  simp only [binOp, Op.intDiv, ne_eq, not_true_eq_false, if_false, if_neg h1, e, wrap_u8, Nat.mod_eq_of_lt hlt, UInt8.toNat_div]
  rfl
theorem r_rem_u8 {a b : UInt8} (hb : b ≠ 0) : (bin .rem t x y (U8 a) (U8 b)).run P w = .ok (U8 (a % b)) w := by
  unfold U8; rw [bin_int]
  have h0 : b.toNat ≠ 0 := fun h => hb (ext_u8 (by simpa using h))
  have h1 : (b.toNat : Int) ≠ 0 := by omega
  have e : ((a.toNat : Int)).tmod (b.toNat : Int) = ((a.toNat % b.toNat : Nat) : Int) := rfl
  simp only [binOp, Op.intDiv, ne_eq, not_true_eq_false, if_false, if_neg h1, e, UInt8.toNat_mod]
  rfl
theorem r_lss_u8 {a b : UInt8} : (bin .lss t x y (U8 a) (U8 b)).run P w = .ok (B (decide (a < b))) w := by
  unfold U8; rw [bin_int]
  have : decide (((a.toNat : Int)) < (b.toNat : Int)) = decide (a < b) := decide_eq_decide.2 (by rw [UInt8.lt_iff_toNat_lt]; omega)
  show Result.ok (Value.bool (decide (((a.toNat : Int)) < (b.toNat : Int)))) w = _
  rw [this]; rfl
theorem r_leq_u8 {a b : UInt8} : (bin .leq t x y (U8 a) (U8 b)).run P w = .ok (B (decide (a ≤ b))) w := by
  unfold U8; rw [bin_int]
  have : decide (((a.toNat : Int)) ≤ (b.toNat : Int)) = decide (a ≤ b) := decide_eq_decide.2 (by rw [UInt8.le_iff_toNat_le]; omega)
  show Result.ok (Value.bool (decide (((a.toNat : Int)) ≤ (b.toNat : Int)))) w = _
  rw [this]; rfl
theorem r_gtr_u8 {a b : UInt8} : (bin .gtr t x y (U8 a) (U8 b)).run P w = .ok (B (decide (a > b))) w := by
  unfold U8; rw [bin_int]
  have : decide (((a.toNat : Int)) > (b.toNat : Int)) = decide (a > b) := decide_eq_decide.2 (by show _ ↔ b < a; rw [UInt8.lt_iff_toNat_lt]; omega)
  show Result.ok (Value.bool (decide (((a.toNat : Int)) > (b.toNat : Int)))) w = _
  rw [this]; rfl
theorem r_geq_u8 {a b : UInt8} : (bin .geq t x y (U8 a) (U8 b)).run P w = .ok (B (decide (a ≥ b))) w := by
  unfold U8; rw [bin_int]
  have : decide (((a.toNat : Int)) ≥ (b.toNat : Int)) = decide (a ≥ b) := decide_eq_decide.2 (by show _ ↔ b ≤ a; rw [UInt8.le_iff_toNat_le]; omega)
  show Result.ok (Value.bool (decide (((a.toNat : Int)) ≥ (b.toNat : Int)))) w = _
  rw [this]; rfl
theorem r_eql_u8 {a b : UInt8} : (bin .eql t x y (U8 a) (U8 b)).run P w = .ok (B (decide (a = b))) w := by
  unfold U8; rw [bin_int]
  have : (((a.toNat : Int)) == (b.toNat : Int)) = decide (a = b) := by
    rw [beq_dec]; exact decide_eq_decide.2 ⟨fun h => ext_u8 (by omega), fun h => by rw [h]⟩
  show Result.ok (Value.bool (((a.toNat : Int)) == (b.toNat : Int))) w = _
  rw [this]; rfl
theorem r_neq_u8 {a b : UInt8} : (bin .neq t x y (U8 a) (U8 b)).run P w = .ok (B (decide (a ≠ b))) w := by
  unfold U8; rw [bin_int]
  have : (((a.toNat : Int)) != (b.toNat : Int)) = decide (a ≠ b) := by
    rw [bne_dec]; exact decide_eq_decide.2 ⟨fun h he => h (by rw [he]), fun h he => h (ext_u8 (by omega))⟩
  show Result.ok (Value.bool (((a.toNat : Int)) != (b.toNat : Int))) w = _
  rw [this]; rfl

theorem r_and_u8 {a b : UInt8} : (bin .and t x y (U8 a) (U8 b)).run P w = .ok (U8 (a &&& b)) w := by
  unfold U8; rw [bin_int]
  show Result.ok (Value.int .u8 (IntKind.u8.wrap ((BitVec.ofInt 8 (a.toNat : Int) &&& BitVec.ofInt 8 (b.toNat : Int)).toNat : Int))) w = _
  rw [ofInt_u8, ofInt_u8, wrap_u8, Nat.mod_eq_of_lt (by have := (a.toBitVec &&& b.toBitVec).isLt; simpa using this)]
  rfl

theorem r_or_u8 {a b : UInt8} : (bin .or t x y (U8 a) (U8 b)).run P w = .ok (U8 (a ||| b)) w := by
  unfold U8; rw [bin_int]
  show Result.ok (Value.int .u8 (IntKind.u8.wrap ((BitVec.ofInt 8 (a.toNat : Int) ||| BitVec.ofInt 8 (b.toNat : Int)).toNat : Int))) w = _
  rw [ofInt_u8, ofInt_u8, wrap_u8, Nat.mod_eq_of_lt (by have := (a.toBitVec ||| b.toBitVec).isLt; simpa using this)]
  rfl

theorem r_xor_u8 {a b : UInt8} : (bin .xor t x y (U8 a) (U8 b)).run P w = .ok (U8 (a ^^^ b)) w := by
  unfold U8; rw [bin_int]
  show Result.ok (Value.int .u8 (IntKind.u8.wrap ((BitVec.ofInt 8 (a.toNat : Int) ^^^ BitVec.ofInt 8 (b.toNat : Int)).toNat : Int))) w = _
  rw [ofInt_u8, ofInt_u8, wrap_u8, Nat.mod_eq_of_lt (by have := (a.toBitVec ^^^ b.toBitVec).isLt; simpa using this)]
  rfl

theorem r_compl_u8 {a : UInt8} : (Op.unary .xor (U8 a)).run P w = .ok (U8 (~~~a)) w := by
  show Result.ok (Value.int .u8 (IntKind.u8.wrap ((BitVec.ofInt 8 (255 : Int) ^^^ BitVec.ofInt 8 (a.toNat : Int)).toNat : Int))) w = _
  have e : BitVec.ofInt 8 (255 : Int) = BitVec.allOnes 8 := by decide
  rw [ofInt_u8, e, BitVec.allOnes_xor, wrap_u8, Nat.mod_eq_of_lt (by have := (~~~a.toBitVec).isLt; simpa using this)]
  rfl
theorem r_shr_u8 {a : UInt8} {k : IntKind} (s : Nat) (hs : s < 8) : (bin .shr t x y (U8 a) (.int k (s : Int))).run P w = .ok (U8 (a >>> UInt8.ofNat s)) w := by
  unfold U8; rw [bin_int]
  have h1 : ¬ ((s : Int) < 0) := by omega
  have h2 : min s 8 = s := by omega
  have e : ((a.toNat : Int)).fdiv (2 ^ s) = ((a.toNat / 2 ^ s : Nat) : Int) := by
    rw [Int.fdiv_eq_ediv_of_nonneg _ (by exact Int.le_of_lt (Int.pow_pos (by omega)))]
    simp
  have e2 : (a >>> UInt8.ofNat s).toNat = a.toNat / 2 ^ s := by
    rw [UInt8.toNat_shiftRight, Nat.shiftRight_eq_div_pow]
    have : (UInt8.ofNat s).toNat % 8 = s := by rw [UInt8.toNat_ofNat']; omega
    rw [this]
  simp only [binOp, Op.shift, if_neg h1, Int.toNat_natCast, IntKind.bits, h2, e, ← e2]
  rfl
theorem r_shl_u8 {a : UInt8} {k : IntKind} (s : Nat) (hs : s < 8) : (bin .shl t x y (U8 a) (.int k (s : Int))).run P w = .ok (U8 (a <<< UInt8.ofNat s)) w := by
  unfold U8; rw [bin_int]
  have h1 : ¬ ((s : Int) < 0) := by omega
  have h2 : min s 8 = s := by omega
  have e2 : (a <<< UInt8.ofNat s).toNat = a.toNat * 2 ^ s % 256 := by
    rw [UInt8.toNat_shiftLeft, Nat.shiftLeft_eq]
    have : (UInt8.ofNat s).toNat % 8 = s := by rw [UInt8.toNat_ofNat']; omega
    rw [this]
  have e : ((a.toNat : Int)) * 2 ^ s = ((a.toNat * 2 ^ s : Nat) : Int) := by simp
  simp only [binOp, Op.shift, if_neg h1, Int.toNat_natCast, IntKind.bits, h2, e, wrap_u8, ← e2]
  rfl

/-! ### UInt32 -/
theorem wrap_u32 (n : Nat) : IntKind.u32.wrap (n : Int) = ((n % 4294967296 : Nat) : Int) := by rw [IntKind.wrap_u32]; omega
theorem lt_u32 (a : UInt32) : a.toNat < 4294967296 := a.toNat_lt
theorem ofInt_u32 (a : UInt32) : BitVec.ofInt 32 (a.toNat : Int) = a.toBitVec := by
  rw [BitVec.ofInt_natCast]; exact BitVec.eq_of_toNat_eq (by simp)
theorem ext_u32 {a b : UInt32} (h : a.toNat = b.toNat) : a = b := UInt32.toNat_inj.1 h
theorem r_add_u32 {a b : UInt32} : (bin .add t x y (U32 a) (U32 b)).run P w = .ok (U32 (a + b)) w := by
  unfold U32; rw [bin_int]
  show Result.ok (Value.int .u32 (IntKind.u32.wrap (((a.toNat : Int)) + (b.toNat : Int)))) w = _
  rw [← Int.natCast_add, wrap_u32, UInt32.toNat_add]
theorem r_sub_u32 {a b : UInt32} : (bin .sub t x y (U32 a) (U32 b)).run P w = .ok (U32 (a - b)) w := by
  unfold U32; rw [bin_int]
  show Result.ok (Value.int .u32 (IntKind.u32.wrap (((a.toNat : Int)) - (b.toNat : Int)))) w = _
  rw [IntKind.wrap_u32, UInt32.toNat_sub]
  have := lt_u32 a; have := lt_u32 b
  have e : ((a.toNat : Int) - (b.toNat : Int)) % 4294967296 = (((4294967296 - b.toNat + a.toNat) % 4294967296 : Nat) : Int) := by omega
  rw [e]
theorem r_mul_u32 {a b : UInt32} : (bin .mul t x y (U32 a) (U32 b)).run P w = .ok (U32 (a * b)) w := by
  unfold U32; rw [bin_int]
  show Result.ok (Value.int .u32 (IntKind.u32.wrap (((a.toNat : Int)) * (b.toNat : Int)))) w = _
  rw [← Int.natCast_mul, wrap_u32, UInt32.toNat_mul]
theorem r_quo_u32 {a b : UInt32} (hb : b ≠ 0) : (bin .quo t x y (U32 a) (U32 b)).run P w = .ok (U32 (a / b)) w := by
  unfold U32; rw [bin_int]
  have h0 : b.toNat ≠ 0 := fun h => hb (ext_u32 (by simpa using h))
  have h1 : (b.toNat : Int) ≠ 0 := by omega
  have e : ((a.toNat : Int)).tdiv (b.toNat : Int) = ((a.toNat / b.toNat : Nat) : Int) := rfl
  have hlt : a.toNat / b.toNat < 4294967296 := Nat.lt_of_le_of_lt (Nat.div_le_self _ _) (lt_u32 a)
  simp only [binOp, Op.intDiv, ne_eq, not_true_eq_false, if_false, if_neg h1, e, wrap_u32, Nat.mod_eq_of_lt hlt, UInt32.toNat_div]
  rfl
theorem r_rem_u32 {a b : UInt32} (hb : b ≠ 0) : (bin .rem t x y (U32 a) (U32 b)).run P w = .ok (U32 (a % b)) w := by
  unfold U32; rw [bin_int]
  have h0 : b.toNat ≠ 0 := fun h => hb (ext_u32 (by simpa using h))
  have h1 : (b.toNat : Int) ≠ 0 := by omega
  have e : ((a.toNat : Int)).tmod (b.toNat : Int) = ((a.toNat % b.toNat : Nat) : Int) := rfl
  simp only [binOp, Op.intDiv, ne_eq, not_true_eq_false, if_false, if_neg h1, e, UInt32.toNat_mod]
  rfl
theorem r_lss_u32 {a b : UInt32} : (bin .lss t x y (U32 a) (U32 b)).run P w = .ok (B (decide (a < b))) w := by
  unfold U32; rw [bin_int]
  have : decide (((a.toNat : Int)) < (b.toNat : Int)) = decide (a < b) := decide_eq_decide.2 (by rw [UInt32.lt_iff_toNat_lt]; omega)
  show Result.ok (Value.bool (decide (((a.toNat : Int)) < (b.toNat : Int)))) w = _
  rw [this]; rfl
theorem r_leq_u32 {a b : UInt32} : (bin .leq t x y (U32 a) (U32 b)).run P w = .ok (B (decide (a ≤ b))) w := by
  unfold U32; rw [bin_int]
  have : decide (((a.toNat : Int)) ≤ (b.toNat : Int)) = decide (a ≤ b) := decide_eq_decide.2 (by rw [UInt32.le_iff_toNat_le]; omega)
  show Result.ok (Value.bool (decide (((a.toNat : Int)) ≤ (b.toNat : Int)))) w = _
  rw [this]; rfl
theorem r_gtr_u32 {a b : UInt32} : (bin .gtr t x y (U32 a) (U32 b)).run P w = .ok (B (decide (a > b))) w := by
  unfold U32; rw [bin_int]
  have : decide (((a.toNat : Int)) > (b.toNat : Int)) = decide (a > b) := decide_eq_decide.2 (by show _ ↔ b < a; rw [UInt32.lt_iff_toNat_lt]; omega)
  show Result.ok (Value.bool (decide (((a.toNat : Int)) > (b.toNat : Int)))) w = _
  rw [this]; rfl
theorem r_geq_u32 {a b : UInt32} : (bin .geq t x y (U32 a) (U32 b)).run P w = .ok (B (decide (a ≥ b))) w := by
  unfold U32; rw [bin_int]
  have : decide (((a.toNat : Int)) ≥ (b.toNat : Int)) = decide (a ≥ b) := decide_eq_decide.2 (by show _ ↔ b ≤ a; rw [UInt32.le_iff_toNat_le]; omega)
  show Result.ok (Value.bool (decide (((a.toNat : Int)) ≥ (b.toNat : Int)))) w = _
  rw [this]; rfl
theorem r_eql_u32 {a b : UInt32} : (bin .eql t x y (U32 a) (U32 b)).run P w = .ok (B (decide (a = b))) w := by
  unfold U32; rw [bin_int]
  have : (((a.toNat : Int)) == (b.toNat : Int)) = decide (a = b) := by
    rw [beq_dec]; exact decide_eq_decide.2 ⟨fun h => ext_u32 (by omega), fun h => by rw [h]⟩
  show Result.ok (Value.bool (((a.toNat : Int)) == (b.toNat : Int))) w = _
  rw [this]; rfl
theorem r_neq_u32 {a b : UInt32} : (bin .neq t x y (U32 a) (U32 b)).run P w = .ok (B (decide (a ≠ b))) w := by
  unfold U32; rw [bin_int]
  have : (((a.toNat : Int)) != (b.toNat : Int)) = decide (a ≠ b) := by
    rw [bne_dec]; exact decide_eq_decide.2 ⟨fun h he => h (by rw [he]), fun h he => h (ext_u32 (by omega))⟩
  show Result.ok (Value.bool (((a.toNat : Int)) != (b.toNat : Int))) w = _
  rw [this]; rfl

theorem r_and_u32 {a b : UInt32} : (bin .and t x y (U32 a) (U32 b)).run P w = .ok (U32 (a &&& b)) w := by
  unfold U32; rw [bin_int]
  show Result.ok (Value.int .u32 (IntKind.u32.wrap ((BitVec.ofInt 32 (a.toNat : Int) &&& BitVec.ofInt 32 (b.toNat : Int)).toNat : Int))) w = _
  rw [ofInt_u32, ofInt_u32, wrap_u32, Nat.mod_eq_of_lt (by have := (a.toBitVec &&& b.toBitVec).isLt; simpa using this)]
  rfl

theorem r_or_u32 {a b : UInt32} : (bin .or t x y (U32 a) (U32 b)).run P w = .ok (U32 (a ||| b)) w := by
  unfold U32; rw [bin_int]
  show Result.ok (Value.int .u32 (IntKind.u32.wrap ((BitVec.ofInt 32 (a.toNat : Int) ||| BitVec.ofInt 32 (b.toNat : Int)).toNat : Int))) w = _
  rw [ofInt_u32, ofInt_u32, wrap_u32, Nat.mod_eq_of_lt (by have := (a.toBitVec ||| b.toBitVec).isLt; simpa using this)]
  rfl

theorem r_xor_u32 {a b : UInt32} : (bin .xor t x y (U32 a) (U32 b)).run P w = .ok (U32 (a ^^^ b)) w := by
  unfold U32; rw [bin_int]
  show Result.ok (Value.int .u32 (IntKind.u32.wrap ((BitVec.ofInt 32 (a.toNat : Int) ^^^ BitVec.ofInt 32 (b.toNat : Int)).toNat : Int))) w = _
  rw [ofInt_u32, ofInt_u32, wrap_u32, Nat.mod_eq_of_lt (by have := (a.toBitVec ^^^ b.toBitVec).isLt; simpa using this)]
  rfl

theorem r_compl_u32 {a : UInt32} : (Op.unary .xor (U32 a)).run P w = .ok (U32 (~~~a)) w := by
  show Result.ok (Value.int .u32 (IntKind.u32.wrap ((BitVec.ofInt 32 (4294967295 : Int) ^^^ BitVec.ofInt 32 (a.toNat : Int)).toNat : Int))) w = _
  have e : BitVec.ofInt 32 (4294967295 : Int) = BitVec.allOnes 32 := by decide
  rw [ofInt_u32, e, BitVec.allOnes_xor, wrap_u32, Nat.mod_eq_of_lt (by have := (~~~a.toBitVec).isLt; simpa using this)]
  rfl
theorem r_shr_u32 {a : UInt32} {k : IntKind} (s : Nat) (hs : s < 32) : (bin .shr t x y (U32 a) (.int k (s : Int))).run P w = .ok (U32 (a >>> UInt32.ofNat s)) w := by
  unfold U32; rw [bin_int]
  have h1 : ¬ ((s : Int) < 0) := by omega
  have h2 : min s 32 = s := by omega
  have e : ((a.toNat : Int)).fdiv (2 ^ s) = ((a.toNat / 2 ^ s : Nat) : Int) := by
    rw [Int.fdiv_eq_ediv_of_nonneg _ (by exact Int.le_of_lt (Int.pow_pos (by omega)))]
    simp
  have e2 : (a >>> UInt32.ofNat s).toNat = a.toNat / 2 ^ s := by
    rw [UInt32.toNat_shiftRight, Nat.shiftRight_eq_div_pow]
    have : (UInt32.ofNat s).toNat % 32 = s := by rw [UInt32.toNat_ofNat']; omega
    rw [this]
  simp only [binOp, Op.shift, if_neg h1, Int.toNat_natCast, IntKind.bits, h2, e, ← e2]
  rfl
theorem r_shl_u32 {a : UInt32} {k : IntKind} (s : Nat) (hs : s < 32) : (bin .shl t x y (U32 a) (.int k (s : Int))).run P w = .ok (U32 (a <<< UInt32.ofNat s)) w := by
  unfold U32; rw [bin_int]
  have h1 : ¬ ((s : Int) < 0) := by omega
  have h2 : min s 32 = s := by omega
  have e2 : (a <<< UInt32.ofNat s).toNat = a.toNat * 2 ^ s % 4294967296 := by
    rw [UInt32.toNat_shiftLeft, Nat.shiftLeft_eq]
    have : (UInt32.ofNat s).toNat % 32 = s := by rw [UInt32.toNat_ofNat']; omega
    rw [this]
  have e : ((a.toNat : Int)) * 2 ^ s = ((a.toNat * 2 ^ s : Nat) : Int) := by simp
  simp only [binOp, Op.shift, if_neg h1, Int.toNat_natCast, IntKind.bits, h2, e, wrap_u32, ← e2]
  rfl

/-! ### UInt64 -/
theorem wrap_u64 (n : Nat) : IntKind.u64.wrap (n : Int) = ((n % 18446744073709551616 : Nat) : Int) := by rw [IntKind.wrap_u64]; omega
theorem lt_u64 (a : UInt64) : a.toNat < 18446744073709551616 := a.toNat_lt
theorem ofInt_u64 (a : UInt64) : BitVec.ofInt 64 (a.toNat : Int) = a.toBitVec := by
  rw [BitVec.ofInt_natCast]; exact BitVec.eq_of_toNat_eq (by simp)
theorem ext_u64 {a b : UInt64} (h : a.toNat = b.toNat) : a = b := UInt64.toNat_inj.1 h
theorem r_add_u64 {a b : UInt64} : (bin .add t x y (U64 a) (U64 b)).run P w = .ok (U64 (a + b)) w := by
  unfold U64; rw [bin_int]
  show Result.ok (Value.int .u64 (IntKind.u64.wrap (((a.toNat : Int)) + (b.toNat : Int)))) w = _
  rw [← Int.natCast_add, wrap_u64, UInt64.toNat_add]
theorem r_sub_u64 {a b : UInt64} : (bin .sub t x y (U64 a) (U64 b)).run P w = .ok (U64 (a - b)) w := by
  unfold U64; rw [bin_int]
  show Result.ok (Value.int .u64 (IntKind.u64.wrap (((a.toNat : Int)) - (b.toNat : Int)))) w = _
  rw [IntKind.wrap_u64, UInt64.toNat_sub]
  have := lt_u64 a; have := lt_u64 b
  have e : ((a.toNat : Int) - (b.toNat : Int)) % 18446744073709551616 = (((18446744073709551616 - b.toNat + a.toNat) % 18446744073709551616 : Nat) : Int) := by omega
  rw [e]
theorem r_mul_u64 {a b : UInt64} : (bin .mul t x y (U64 a) (U64 b)).run P w = .ok (U64 (a * b)) w := by
  unfold U64; rw [bin_int]
  show Result.ok (Value.int .u64 (IntKind.u64.wrap (((a.toNat : Int)) * (b.toNat : Int)))) w = _
  rw [← Int.natCast_mul, wrap_u64, UInt64.toNat_mul]
theorem r_quo_u64 {a b : UInt64} (hb : b ≠ 0) : (bin .quo t x y (U64 a) (U64 b)).run P w = .ok (U64 (a / b)) w := by
  unfold U64; rw [bin_int]
  have h0 : b.toNat ≠ 0 := fun h => hb (ext_u64 (by simpa using h))
  have h1 : (b.toNat : Int) ≠ 0 := by omega
  have e : ((a.toNat : Int)).tdiv (b.toNat : Int) = ((a.toNat / b.toNat : Nat) : Int) := rfl
  have hlt : a.toNat / b.toNat < 18446744073709551616 := Nat.lt_of_le_of_lt (Nat.div_le_self _ _) (lt_u64 a)
  simp only [binOp, Op.intDiv, ne_eq, not_true_eq_false, if_false, if_neg h1, e, wrap_u64, Nat.mod_eq_of_lt hlt, UInt64.toNat_div]
  rfl
theorem r_rem_u64 {a b : UInt64} (hb : b ≠ 0) : (bin .rem t x y (U64 a) (U64 b)).run P w = .ok (U64 (a % b)) w := by
  unfold U64; rw [bin_int]
  have h0 : b.toNat ≠ 0 := fun h => hb (ext_u64 (by simpa using h))
  have h1 : (b.toNat : Int) ≠ 0 := by omega
  have e : ((a.toNat : Int)).tmod (b.toNat : Int) = ((a.toNat % b.toNat : Nat) : Int) := rfl
  simp only [binOp, Op.intDiv, ne_eq, not_true_eq_false, if_false, if_neg h1, e, UInt64.toNat_mod]
  rfl
theorem r_lss_u64 {a b : UInt64} : (bin .lss t x y (U64 a) (U64 b)).run P w = .ok (B (decide (a < b))) w := by
  unfold U64; rw [bin_int]
  have : decide (((a.toNat : Int)) < (b.toNat : Int)) = decide (a < b) := decide_eq_decide.2 (by rw [UInt64.lt_iff_toNat_lt]; omega)
  show Result.ok (Value.bool (decide (((a.toNat : Int)) < (b.toNat : Int)))) w = _
  rw [this]; rfl
theorem r_leq_u64 {a b : UInt64} : (bin .leq t x y (U64 a) (U64 b)).run P w = .ok (B (decide (a ≤ b))) w := by
  unfold U64; rw [bin_int]
  have : decide (((a.toNat : Int)) ≤ (b.toNat : Int)) = decide (a ≤ b) := decide_eq_decide.2 (by rw [UInt64.le_iff_toNat_le]; omega)
  show Result.ok (Value.bool (decide (((a.toNat : Int)) ≤ (b.toNat : Int)))) w = _
  rw [this]; rfl
theorem r_gtr_u64 {a b : UInt64} : (bin .gtr t x y (U64 a) (U64 b)).run P w = .ok (B (decide (a > b))) w := by
  unfold U64; rw [bin_int]
  have : decide (((a.toNat : Int)) > (b.toNat : Int)) = decide (a > b) := decide_eq_decide.2 (by show _ ↔ b < a; rw [UInt64.lt_iff_toNat_lt]; omega)
  show Result.ok (Value.bool (decide (((a.toNat : Int)) > (b.toNat : Int)))) w = _
  rw [this]; rfl
theorem r_geq_u64 {a b : UInt64} : (bin .geq t x y (U64 a) (U64 b)).run P w = .ok (B (decide (a ≥ b))) w := by
  unfold U64; rw [bin_int]
  have : decide (((a.toNat : Int)) ≥ (b.toNat : Int)) = decide (a ≥ b) := decide_eq_decide.2 (by show _ ↔ b ≤ a; rw [UInt64.le_iff_toNat_le]; omega)
  show Result.ok (Value.bool (decide (((a.toNat : Int)) ≥ (b.toNat : Int)))) w = _
  rw [this]; rfl
theorem r_eql_u64 {a b : UInt64} : (bin .eql t x y (U64 a) (U64 b)).run P w = .ok (B (decide (a = b))) w := by
  unfold U64; rw [bin_int]
  have : (((a.toNat : Int)) == (b.toNat : Int)) = decide (a = b) := by
    rw [beq_dec]; exact decide_eq_decide.2 ⟨fun h => ext_u64 (by omega), fun h => by rw [h]⟩
  show Result.ok (Value.bool (((a.toNat : Int)) == (b.toNat : Int))) w = _
  rw [this]; rfl
theorem r_neq_u64 {a b : UInt64} : (bin .neq t x y (U64 a) (U64 b)).run P w = .ok (B (decide (a ≠ b))) w := by
  unfold U64; rw [bin_int]
  have : (((a.toNat : Int)) != (b.toNat : Int)) = decide (a ≠ b) := by
    rw [bne_dec]; exact decide_eq_decide.2 ⟨fun h he => h (by rw [he]), fun h he => h (ext_u64 (by omega))⟩
  show Result.ok (Value.bool (((a.toNat : Int)) != (b.toNat : Int))) w = _
  rw [this]; rfl

theorem r_and_u64 {a b : UInt64} : (bin .and t x y (U64 a) (U64 b)).run P w = .ok (U64 (a &&& b)) w := by
  unfold U64; rw [bin_int]
  show Result.ok (Value.int .u64 (IntKind.u64.wrap ((BitVec.ofInt 64 (a.toNat : Int) &&& BitVec.ofInt 64 (b.toNat : Int)).toNat : Int))) w = _
  rw [ofInt_u64, ofInt_u64, wrap_u64, Nat.mod_eq_of_lt (by have := (a.toBitVec &&& b.toBitVec).isLt; simpa using this)]
  rfl

theorem r_or_u64 {a b : UInt64} : (bin .or t x y (U64 a) (U64 b)).run P w = .ok (U64 (a ||| b)) w := by
  unfold U64; rw [bin_int]
  show Result.ok (Value.int .u64 (IntKind.u64.wrap ((BitVec.ofInt 64 (a.toNat : Int) ||| BitVec.ofInt 64 (b.toNat : Int)).toNat : Int))) w = _
  rw [ofInt_u64, ofInt_u64, wrap_u64, Nat.mod_eq_of_lt (by have := (a.toBitVec ||| b.toBitVec).isLt; simpa using this)]
  rfl

theorem r_xor_u64 {a b : UInt64} : (bin .xor t x y (U64 a) (U64 b)).run P w = .ok (U64 (a ^^^ b)) w := by
  unfold U64; rw [bin_int]
  show Result.ok (Value.int .u64 (IntKind.u64.wrap ((BitVec.ofInt 64 (a.toNat : Int) ^^^ BitVec.ofInt 64 (b.toNat : Int)).toNat : Int))) w = _
  rw [ofInt_u64, ofInt_u64, wrap_u64, Nat.mod_eq_of_lt (by have := (a.toBitVec ^^^ b.toBitVec).isLt; simpa using this)]
  rfl

theorem r_compl_u64 {a : UInt64} : (Op.unary .xor (U64 a)).run P w = .ok (U64 (~~~a)) w := by
  show Result.ok (Value.int .u64 (IntKind.u64.wrap ((BitVec.ofInt 64 (18446744073709551615 : Int) ^^^ BitVec.ofInt 64 (a.toNat : Int)).toNat : Int))) w = _
  have e : BitVec.ofInt 64 (18446744073709551615 : Int) = BitVec.allOnes 64 := by decide
  rw [ofInt_u64, e, BitVec.allOnes_xor, wrap_u64, Nat.mod_eq_of_lt (by have := (~~~a.toBitVec).isLt; simpa using this)]
  rfl
theorem r_shr_u64 {a : UInt64} {k : IntKind} (s : Nat) (hs : s < 64) : (bin .shr t x y (U64 a) (.int k (s : Int))).run P w = .ok (U64 (a >>> UInt64.ofNat s)) w := by
  unfold U64; rw [bin_int]
  have h1 : ¬ ((s : Int) < 0) := by omega
  have h2 : min s 64 = s := by omega
  have e : ((a.toNat : Int)).fdiv (2 ^ s) = ((a.toNat / 2 ^ s : Nat) : Int) := by
    rw [Int.fdiv_eq_ediv_of_nonneg _ (by exact Int.le_of_lt (Int.pow_pos (by omega)))]
    simp
  have e2 : (a >>> UInt64.ofNat s).toNat = a.toNat / 2 ^ s := by
    rw [UInt64.toNat_shiftRight, Nat.shiftRight_eq_div_pow]
    have : (UInt64.ofNat s).toNat % 64 = s := by rw [UInt64.toNat_ofNat']; omega
    rw [this]
  simp only [binOp, Op.shift, if_neg h1, Int.toNat_natCast, IntKind.bits, h2, e, ← e2]
  rfl
theorem r_shl_u64 {a : UInt64} {k : IntKind} (s : Nat) (hs : s < 64) : (bin .shl t x y (U64 a) (.int k (s : Int))).run P w = .ok (U64 (a <<< UInt64.ofNat s)) w := by
  unfold U64; rw [bin_int]
  have h1 : ¬ ((s : Int) < 0) := by omega
  have h2 : min s 64 = s := by omega
  have e2 : (a <<< UInt64.ofNat s).toNat = a.toNat * 2 ^ s % 18446744073709551616 := by
    rw [UInt64.toNat_shiftLeft, Nat.shiftLeft_eq]
    have : (UInt64.ofNat s).toNat % 64 = s := by rw [UInt64.toNat_ofNat']; omega
    rw [this]
  have e : ((a.toNat : Int)) * 2 ^ s = ((a.toNat * 2 ^ s : Nat) : Int) := by simp
  simp only [binOp, Op.shift, if_neg h1, Int.toNat_natCast, IntKind.bits, h2, e, wrap_u64, ← e2]
  rfl

/-! ### conversions between numbers -/
theorem r_conv {s d : TypeId} {ds : TypeDesc} {j k : IntKind} {n : Int} (hs : P.underlying s = some ds) (hd : P.underlying d = some (.int k)) : (convert s d (.int j n)).run P w = .ok (.int k (k.wrap n)) w := by
  simp only [convert, Sem.run_bind, run_underlying hs, run_underlying hd, Result.andThen_ok]
  rfl
section
variable {s d : TypeId} {ds : TypeDesc} (hs : P.underlying s = some ds)
include hs

theorem r_u8_u8 {a : UInt8} (hd : P.underlying d = some (.int .u8)) : (convert s d (U8 a)).run P w = .ok (U8 a) w := by
  unfold U8; rw [r_conv hs hd, wrap_u8, Nat.mod_eq_of_lt (lt_u8 a)]
theorem r_u8_u32 {a : UInt8} (hd : P.underlying d = some (.int .u32)) : (convert s d (U8 a)).run P w = .ok (U32 a.toUInt32) w := by
  unfold U8 U32; rw [r_conv hs hd, wrap_u32]
  have := lt_u8 a
  have e : a.toUInt32.toNat = a.toNat % 4294967296 := by simp
  rw [e]
theorem r_u8_u64 {a : UInt8} (hd : P.underlying d = some (.int .u64)) : (convert s d (U8 a)).run P w = .ok (U64 a.toUInt64) w := by
  unfold U8 U64; rw [r_conv hs hd, wrap_u64]
  have := lt_u8 a
  have e : a.toUInt64.toNat = a.toNat % 18446744073709551616 := by simp
  rw [e]
theorem r_i_u8 {a : Int} (hd : P.underlying d = some (.int .u8)) : (convert s d (I a)).run P w = .ok (U8 (UInt8.ofInt a)) w := by
  unfold I U8; rw [r_conv hs hd, IntKind.wrap_u8]
  have e : ((UInt8.ofInt a).toNat : Int) = a % 256 := by
    have h2 : (2 : Int) ^ 8 = 256 := by decide
    rw [UInt8.ofInt, h2, UInt8.toNat_ofNat']; omega
  rw [e]
theorem r_n_u8 {a : Nat} (hd : P.underlying d = some (.int .u8)) : (convert s d (I (a : Int))).run P w = .ok (U8 (UInt8.ofNat a)) w := by
  unfold I U8; rw [r_conv hs hd, wrap_u8, UInt8.toNat_ofNat']
theorem r_u8_i {a : UInt8} (hd : P.underlying d = some (.int .i64)) : (convert s d (U8 a)).run P w = .ok (I (a.toNat : Int)) w := by
  unfold U8 I; have := lt_u8 a; rw [r_conv hs hd, wrap_i (by omega) (by omega)]
theorem r_u32_u8 {a : UInt32} (hd : P.underlying d = some (.int .u8)) : (convert s d (U32 a)).run P w = .ok (U8 a.toUInt8) w := by
  unfold U32 U8; rw [r_conv hs hd, wrap_u8]
  have := lt_u32 a
  have e : a.toUInt8.toNat = a.toNat % 256 := by simp
  rw [e]
theorem r_u32_u32 {a : UInt32} (hd : P.underlying d = some (.int .u32)) : (convert s d (U32 a)).run P w = .ok (U32 a) w := by
  unfold U32; rw [r_conv hs hd, wrap_u32, Nat.mod_eq_of_lt (lt_u32 a)]
theorem r_u32_u64 {a : UInt32} (hd : P.underlying d = some (.int .u64)) : (convert s d (U32 a)).run P w = .ok (U64 a.toUInt64) w := by
  unfold U32 U64; rw [r_conv hs hd, wrap_u64]
  have := lt_u32 a
  have e : a.toUInt64.toNat = a.toNat % 18446744073709551616 := by simp
  rw [e]
theorem r_i_u32 {a : Int} (hd : P.underlying d = some (.int .u32)) : (convert s d (I a)).run P w = .ok (U32 (UInt32.ofInt a)) w := by
  unfold I U32; rw [r_conv hs hd, IntKind.wrap_u32]
  have e : ((UInt32.ofInt a).toNat : Int) = a % 4294967296 := by
    have h2 : (2 : Int) ^ 32 = 4294967296 := by decide
    rw [UInt32.ofInt, h2, UInt32.toNat_ofNat']; omega
  rw [e]
theorem r_n_u32 {a : Nat} (hd : P.underlying d = some (.int .u32)) : (convert s d (I (a : Int))).run P w = .ok (U32 (UInt32.ofNat a)) w := by
  unfold I U32; rw [r_conv hs hd, wrap_u32, UInt32.toNat_ofNat']
theorem r_u32_i {a : UInt32} (hd : P.underlying d = some (.int .i64)) : (convert s d (U32 a)).run P w = .ok (I (a.toNat : Int)) w := by
  unfold U32 I; have := lt_u32 a; rw [r_conv hs hd, wrap_i (by omega) (by omega)]
theorem r_u64_u8 {a : UInt64} (hd : P.underlying d = some (.int .u8)) : (convert s d (U64 a)).run P w = .ok (U8 a.toUInt8) w := by
  unfold U64 U8; rw [r_conv hs hd, wrap_u8]
  have := lt_u64 a
  have e : a.toUInt8.toNat = a.toNat % 256 := by simp
  rw [e]
theorem r_u64_u32 {a : UInt64} (hd : P.underlying d = some (.int .u32)) : (convert s d (U64 a)).run P w = .ok (U32 a.toUInt32) w := by
  unfold U64 U32; rw [r_conv hs hd, wrap_u32]
  have := lt_u64 a
  have e : a.toUInt32.toNat = a.toNat % 4294967296 := by simp
  rw [e]
theorem r_u64_u64 {a : UInt64} (hd : P.underlying d = some (.int .u64)) : (convert s d (U64 a)).run P w = .ok (U64 a) w := by
  unfold U64; rw [r_conv hs hd, wrap_u64, Nat.mod_eq_of_lt (lt_u64 a)]
theorem r_i_u64 {a : Int} (hd : P.underlying d = some (.int .u64)) : (convert s d (I a)).run P w = .ok (U64 (UInt64.ofInt a)) w := by
  unfold I U64; rw [r_conv hs hd, IntKind.wrap_u64]
  have e : ((UInt64.ofInt a).toNat : Int) = a % 18446744073709551616 := by
    have h2 : (2 : Int) ^ 64 = 18446744073709551616 := by decide
    rw [UInt64.ofInt, h2, UInt64.toNat_ofNat']; omega
  rw [e]
theorem r_n_u64 {a : Nat} (hd : P.underlying d = some (.int .u64)) : (convert s d (I (a : Int))).run P w = .ok (U64 (UInt64.ofNat a)) w := by
  unfold I U64; rw [r_conv hs hd, wrap_u64, UInt64.toNat_ofNat']
theorem r_u64_i {a : UInt64} (hd : P.underlying d = some (.int .i64)) (h : a.toNat < 9223372036854775808) : (convert s d (U64 a)).run P w = .ok (I (a.toNat : Int)) w := by
  unfold U64 I; rw [r_conv hs hd, wrap_i (by omega) (by omega)]
theorem r_u64_i' {a : UInt64} (hd : P.underlying d = some (.int .i64)) : (convert s d (U64 a)).run P w = .ok (I a.toInt64.toInt) w := by
  unfold U64 I; rw [r_conv hs hd, IntKind.wrap_i64]
  have := lt_u64 a
  have e : a.toInt64.toInt = if 2 * a.toNat < 18446744073709551616 then (a.toNat : Int) else (a.toNat : Int) - 18446744073709551616 := by
    show a.toBitVec.toInt = _
    rw [BitVec.toInt_eq_toNat_cond]
    rfl
  have e2 : ((a.toNat : Int) + 9223372036854775808) % 18446744073709551616 - 9223372036854775808 = if 2 * a.toNat < 18446744073709551616 then (a.toNat : Int) else (a.toNat : Int) - 18446744073709551616 := by
    split <;> omega
  rw [e, e2]
end

/-! ### strings -/
def S (l : List UInt8) : Value := .string ⟨l.toArray⟩
theorem S_of (s : ByteArray) : Value.string s = S s.data.toList := rfl
theorem r_eql_s {a b : List UInt8} : (bin .eql t x y (S a) (S b)).run P w = .ok (B (decide (a = b))) w := by
  show Result.ok (Value.bool ((⟨a.toArray⟩ : ByteArray).toList == (⟨b.toArray⟩ : ByteArray).toList)) w = _
  rw [ByteArray.toList_mk, ByteArray.toList_mk]
  have e : (a == b) = decide (a = b) := by by_cases h : a = b <;> simp [h]
  rw [e]; rfl
theorem r_neq_s {a b : List UInt8} : (bin .neq t x y (S a) (S b)).run P w = .ok (B (decide (a ≠ b))) w := by
  show Result.ok (Value.bool (!((⟨a.toArray⟩ : ByteArray).toList == (⟨b.toArray⟩ : ByteArray).toList))) w = _
  rw [ByteArray.toList_mk, ByteArray.toList_mk]
  have e : (!(a == b)) = decide (a ≠ b) := by by_cases h : a = b <;> simp [h]
  rw [e]; rfl
theorem append_mk (a b : List UInt8) : (⟨a.toArray⟩ : ByteArray) ++ ⟨b.toArray⟩ = ⟨(a ++ b).toArray⟩ := by
  apply ByteArray.ext
  simp
theorem r_add_s {a b : List UInt8} (h : a.length + b.length ≤ 9223372036854775807) : (bin .add t x y (S a) (S b)).run P w = .ok (S (a ++ b)) w := by
  have e : IntKind.i64.max = 9223372036854775807 := by decide
  have : ¬ (((((⟨a.toArray⟩ : ByteArray).size + (⟨b.toArray⟩ : ByteArray).size : Nat)) : Int) > IntKind.i64.max) := by
    have e1 : (⟨a.toArray⟩ : ByteArray).size = a.length := by simp [ByteArray.size]
    have e2 : (⟨b.toArray⟩ : ByteArray).size = b.length := by simp [ByteArray.size]
    rw [e, e1, e2]; omega
  show (Op.stringOp .add ⟨a.toArray⟩ ⟨b.toArray⟩).run P w = _
  simp only [Op.stringOp, if_neg this, append_mk]; rfl
end
end Go.Rl
/- Runs over this program's own types: bytes, texts, rows of bytes. Conditions: each names its own. -/
namespace Go.Rl
open Go.RowKit Go.Proofs

/-! ### buildSlice, for elements of one cell -/
theorem fill_number (vs : List Value) : ∀ (a b : List Value), (∀ v ∈ vs, v.cells = #[v]) → b.length = vs.length →
    Instr.fill (fun i => some (i * 1, 1)) (a ++ b).toArray (number a.length vs) = some (a ++ vs).toArray := by
  induction vs with
  | nil =>
    intro a b _ hb
    have : b = [] := List.eq_nil_of_length_eq_zero (by simpa using hb)
    subst this
    rfl
  | cons v vs ih =>
    intro a b h1 hb
    cases b with
    | nil => simp at hb
    | cons b0 b =>
      have hv : v.cells = #[v] := h1 v (by simp)
      have hz : v.cells.zipIdx.foldl (fun (cs : Array Value) (c, j) => cs.setIfInBounds (a.length * 1 + j) c) (a ++ b0 :: b).toArray = ((a ++ [v]) ++ b).toArray := by
        rw [hv]; simp
      have hc : (v.cells.size ≠ 1 || decide (a.length * 1 + v.cells.size > (a ++ b0 :: b).toArray.size)) = false := by rw [hv]; simp
      have := ih (a ++ [v]) b (fun u hu => h1 u (by simp [hu])) (by simpa using hb)
      simp only [number, Instr.fill]
      rw [hc, hz]
      simp only [List.length_append, List.length_cons, List.length_nil, Nat.zero_add] at this
      simpa using this

theorem one_cells {v : Value} (h : v.oneCell' = true) : v.cells = #[v] := by cases v <;> first | rfl | cases h

section
variable {P : Program} {w : World}
theorem r_buildSlice {base : Nat} {t e : TypeId} {z : Value} {bytes : Nat} (ht : P.underlying t = some (.slice e)) (hi : (P.info? e).map (fun i => (i.zero, i.size, i.bytes)) = some (some z, 1, bytes))
    (vs : List Value) (h1 : ∀ v ∈ vs, v.oneCell' = true) (hl : vs.length ≤ 16777216) (hb : base ≤ w.heap.size) :
    ∃ r w', (Instr.buildSlice t vs.length (number 0 vs).toArray).run P w = .ok r w' ∧ Ext w w' ∧ w'.ownsRow base e 1 r vs.length vs ∧ r.ownBlock = some w.heap.size := by
  obtain ⟨i, hi, hz0, hs, _⟩ := info_parts hi
  refine ⟨.slice (some ⟨w.heap.size, 0, none⟩) vs.length vs.length, w.alloc (.cells vs.toArray e), ?_, Ext.new w _, ?_, rfl⟩
  · have hf : ∀ Z : Array Value, Z.size = vs.length → Instr.fill (fun i => some (i * 1, 1)) Z (number 0 vs) = some vs.toArray := fun Z hZ => by
      have := fill_number vs [] Z.toList (fun v hv => one_cells (h1 v hv)) (by simpa using hZ)
      simpa using this
    have hle : ¬ (vs.length * 1 > 2 ^ 24) := by omega
    have hinfo : (typeInfo e).run P w = .ok i w := by simp [typeInfo, hi]
    have hsz : (sizeOf e).run P w = .ok 1 w := by simp [sizeOf, hinfo, hs]
    have hzv : (zeroValue e).run P w = .ok z w := by simp [zeroValue, hinfo, hz0]
    simp only [Instr.buildSlice, Sem.run_bind, run_underlying ht, Result.andThen_ok, hsz, if_neg hle]
    by_cases h0 : vs.length * 1 = 0
    · rw [if_pos h0]
      simp only [Sem.run_bind, Sem.run_pure, Result.andThen_ok]
      rw [hf _ (by simp)]
      simp [newRow]
    · rw [if_neg h0]
      simp only [Sem.run_bind, Sem.run_pure, Result.andThen_ok, hzv]
      rw [hf _ (by simp)]
      simp [newRow]
  · exact World.ownsRow_lit w vs.toArray vs.length hb (by unfold maxLen; omega) (by simp)

theorem r_ext0 {u v : Value} : (Instr.extract (.tuple #[u, v]) 0).run P w = .ok u w := rfl
theorem r_ext1 {u v : Value} : (Instr.extract (.tuple #[u, v]) 1).run P w = .ok v w := rfl
theorem r_ext3_0 {u v z : Value} : (Instr.extract (.tuple #[u, v, z]) 0).run P w = .ok u w := rfl
theorem r_ext3_1 {u v z : Value} : (Instr.extract (.tuple #[u, v, z]) 1).run P w = .ok v w := rfl
theorem r_ext3_2 {u v z : Value} : (Instr.extract (.tuple #[u, v, z]) 2).run P w = .ok z w := rfl

/-- s == nil, s != nil -/
theorem r_eqnil {t e : TypeId} (ht : P.underlying t = some (.slice e)) {x y : Operand} {A : Option Addr} {n c : Nat} : (bin .eql t x y (.slice A n c) (.slice none 0 0)).run P w = .ok (B A.isNone) w := by
  have h : (Op.equal t (.slice A n c) (.slice none 0 0)).run P w = .ok A.isNone w := by
    show (Op.equalIn (9999 + 1) t (.slice A n c) (.slice none 0 0)).run P w = _
    unfold Op.equalIn
    cases A <;> simp [run_underlying ht]
  show (do pure (Value.bool (← Op.equal t (.slice A n c) (.slice none 0 0))) : Sem Value).run P w = _
  rw [Sem.run_bind, h]; rfl
/-- pointers against nil -/
theorem r_eqnilp {t e : TypeId} (ht : P.underlying t = some (.pointer e)) {x y : Operand} {a : Option Addr} : (bin .eql t x y (.pointer a) (.pointer none)).run P w = .ok (B a.isNone) w := by
  have h : (Op.equal t (.pointer a) (.pointer none)).run P w = .ok a.isNone w := by
    show (Op.equalIn (9999 + 1) t (.pointer a) (.pointer none)).run P w = _
    unfold Op.equalIn
    cases a <;> simp [run_underlying ht]
  show (do pure (Value.bool (← Op.equal t (.pointer a) (.pointer none))) : Sem Value).run P w = _
  rw [Sem.run_bind, h]; rfl
theorem r_nenilp {t e : TypeId} (ht : P.underlying t = some (.pointer e)) {x y : Operand} {a : Option Addr} : (bin .neq t x y (.pointer a) (.pointer none)).run P w = .ok (B a.isSome) w := by
  have h : (Op.equal t (.pointer a) (.pointer none)).run P w = .ok a.isNone w := by
    show (Op.equalIn (9999 + 1) t (.pointer a) (.pointer none)).run P w = _
    unfold Op.equalIn
    cases a <;> simp [run_underlying ht]
  show (do pure (Value.bool (!(← Op.equal t (.pointer a) (.pointer none)))) : Sem Value).run P w = _
  rw [Sem.run_bind, h]
  cases a <;> rfl
end

/-! ### bytes and texts of this program -/
section
variable {w : World}
/-- The slice of bytes reads as the list. -/
def Bts (l : List UInt8) : Fact := Sl 1 (l.map U8)
/-- .. and lies in a row of its own, from base on. -/
def OwnB (base : Nat) (l : List UInt8) : Fact := fun v w => ∃ n, w.ownsRow base 5 1 v n (l.map U8)
theorem Bts.stable (l : List UInt8) : Stable (Bts l) := Sl.stable _ _
theorem Bts.ext {l : List UInt8} {v : Value} {w w' : World} (h : Bts l v w) (hx : Ext w w') : Bts l v w' := Sl.ext h hx
theorem OwnB.bts {base : Nat} {l : List UInt8} {v : Value} (h : OwnB base l v w) : Bts l v w := h.elim fun _ h => Sl.of_own h
theorem OwnB.stable (base : Nat) (l : List UInt8) : Stable (OwnB base l) := fun _ _ _ h hx => h.elim fun n h => ⟨n, ownsRow_ext h hx⟩
theorem OwnB.ext {base : Nat} {l : List UInt8} {v : Value} {w w' : World} (h : OwnB base l v w) (hx : Ext w w') : OwnB base l v w' := OwnB.stable _ _ _ _ _ h hx
theorem one_U8 (l : List UInt8) : ∀ u ∈ l.map U8, u.oneCell' = true := by
  intro u hu
  obtain ⟨b, _, rfl⟩ := List.mem_map.1 hu
  rfl
theorem info_u8 : (Try.prog.info? 5).map (fun i => (i.zero, i.size, i.bytes)) = some (some (.int .u8 0), 1, 1) := by kernel_rfl
theorem size_u8 : (Try.prog.info? 5).map (·.size) = some 1 := by kernel_rfl

theorem push_all (l : List UInt8) : ∀ (s : ByteArray), (l.map (fun b => (b.toNat : Int))).foldl (fun r n => r.push (UInt8.ofNat n.toNat)) s = ⟨(s.data.toList ++ l).toArray⟩ := by
  induction l with
  | nil => intro s; simp
  | cons b l ih =>
    intro s
    rw [List.map_cons, List.foldl_cons, ih]
    simp [ByteArray.push]

theorem r_str {l : List UInt8} {v : Value} (h : Bts l v w) : (convert 29 9 v).run Try.prog w = .ok (S l) w := by
  obtain ⟨A, n, c, rfl, hnc, hcm, hl, hc, hnone⟩ := h
  have hl' : l.length = n := by simpa using hl
  rw [run_convert_bytes_string w _ _ _ A n c Try.underlying29 Try.underlying5 Try.underlying9]
  have hn0 : n = 0 → l = [] := fun h => List.eq_nil_of_length_eq_zero (by omega)
  cases A with
  | none =>
    have := hnone rfl
    rw [hn0 (by omega)]
    rfl
  | some a =>
    have hcells : Cells w a (l.map U8) := by
      rcases Nat.eq_zero_or_pos n with h0 | h0
      · rw [hn0 h0]; intro j u hu; simp at hu
      · obtain ⟨ad, he, hc⟩ := hc h0
        obtain rfl := Option.some.inj he
        exact hc
    have hload := run_loadCells_list (P := Try.prog) (w := w) a (l.map U8) hcells
    have hmap : (l.map U8) = (l.map (fun b => (b.toNat : Int))).map (Value.int .u8) := by rw [List.map_map]; rfl
    rw [hmap] at hload
    simp only [List.length_map] at hload
    rw [hl'] at hload
    rw [run_bytesToString w a n c _ hload, push_all]
    rfl
theorem r_lenB {l : List UInt8} {v : Value} {ty : TypeId} (h : Bts l v w) : (Builtin.len_ #[29] ty #[v]).run Try.prog w = .ok (I l.length) w := by
  obtain ⟨n, hl, _, hr⟩ := r_len (P := Try.prog) (ty := ty) Try.underlying29 h
  have : l.length = n := by simpa using hl
  rw [hr, this]
theorem r_lenS {l : List UInt8} {ty : TypeId} : (Builtin.len_ #[9] ty #[S l]).run Try.prog w = .ok (I l.length) w := by
  have e : (⟨l.toArray⟩ : ByteArray).size = l.length := by simp [ByteArray.size]
  simp [Builtin.len_, run_underlying Try.underlying9, goInt, I, S, e]
theorem Bts.len {l : List UInt8} {v : Value} (h : Bts l v w) : l.length ≤ 9223372036854775807 := by
  obtain ⟨A, n, c, rfl, hnc, hcm, hl, _⟩ := h
  have : l.length = n := by simpa using hl
  unfold maxLen at hcm; omega

/-- append of bytes onto a row of its own -/
theorem r_appB {base : Nat} {l m : List UInt8} {v x : Value} {ty : TypeId} (hv : OwnB base l v w) (hx : Bts m x w) (hb : l.length + m.length ≤ 140737488355328) (hbase : base ≤ w.heap.size) :
    ∃ r w', (Builtin.append_ #[29, 29] ty #[v, x]).run Try.prog w = .ok r w' ∧ OwnB base (l ++ m) r w' ∧ Grew w w' v r := by
  obtain ⟨n, hv⟩ := hv
  obtain ⟨r, w', n', h1, h2, h3⟩ := r_append (P := Try.prog) (ty := ty) Try.underlying29 info_u8 rfl (by omega) hv hx (one_U8 m) (by simpa using hb) (by omega) hbase
  exact ⟨r, w', h1, ⟨n', by rw [List.map_append]; exact h2⟩, h3⟩
theorem r_bsB (base : Nat) (l : List UInt8) (hl : l.length ≤ 16777216) (hb : base ≤ w.heap.size) :
    ∃ r w', (Instr.buildSlice 29 l.length (number 0 (l.map U8)).toArray).run Try.prog w = .ok r w' ∧ Ext w w' ∧ OwnB base l r w' ∧ r.ownBlock = some w.heap.size := by
  have := r_buildSlice (P := Try.prog) (w := w) Try.underlying29 info_u8 (l.map U8) (one_U8 l) (by simpa using hl) hb
  simp only [List.length_map] at this
  obtain ⟨r, w', h1, h2, h3, h4⟩ := this
  exact ⟨r, w', h1, h2, ⟨_, h3⟩, h4⟩
theorem r_slB {l : List UInt8} {v : Value} (h : Bts l v w) {lo hi : Nat} (h1 : lo ≤ hi) (h2 : hi ≤ l.length) (kl kh : IntKind) :
    ∃ r, (∀ w' : World, (Instr.sliceAt 29 v (some (.int kl lo)) (some (.int kh hi)) none).run Try.prog w' = .ok r w') ∧ Bts ((l.take hi).drop lo) r w := by
  obtain ⟨r, h3, h4⟩ := r_slice (P := Try.prog) Try.underlying29 size_u8 h h1 (by simpa using h2) (by omega) kl kh
  exact ⟨r, h3, by simpa [Bts, List.map_drop, List.map_take] using h4⟩
theorem r_slB_lo {l : List UInt8} {v : Value} (h : Bts l v w) {lo : Nat} (h2 : lo ≤ l.length) (kl : IntKind) :
    ∃ r, (∀ w' : World, (Instr.sliceAt 29 v (some (.int kl lo)) none none).run Try.prog w' = .ok r w') ∧ Bts (l.drop lo) r w := by
  obtain ⟨r, h3, h4⟩ := r_slice_lo (P := Try.prog) Try.underlying29 size_u8 h (lo := lo) (by simpa using h2) (by omega) kl
  exact ⟨r, h3, by simpa [Bts, List.map_drop] using h4⟩
theorem r_slB_hi {l : List UInt8} {v : Value} (h : Bts l v w) {hi : Nat} (h2 : hi ≤ l.length) (kh : IntKind) :
    ∃ r, (∀ w' : World, (Instr.sliceAt 29 v none (some (.int kh hi)) none).run Try.prog w' = .ok r w') ∧ Bts (l.take hi) r w := by
  obtain ⟨r, h3, h4⟩ := r_slice_hi (P := Try.prog) Try.underlying29 size_u8 h (hi := hi) (by simpa using h2) (by omega) kh
  exact ⟨r, h3, by simpa [Bts, List.map_take] using h4⟩
/-- the address of a byte, and the byte there -/
theorem r_ixB {l : List UInt8} {v : Value} (h : Bts l v w) {i : Nat} (hi : i < l.length) (k : IntKind) :
    ∃ ad, (∀ w' : World, (Instr.indexAt 29 v (.int k i)).run Try.prog w' = .ok (.pointer (some ad)) w') ∧ w.cell? ad = some (U8 l[i]) := by
  obtain ⟨ad, h3, h4⟩ := r_index (P := Try.prog) Try.underlying29 size_u8 h (i := i) (by simp; omega) (by omega) k
  refine ⟨ad, h3, ?_⟩
  have := h4 0 (U8 l[i]) (by simp [hi])
  rwa [add_zero] at this
theorem r_ldB {ad : Addr} {b : UInt8} (h : w.cell? ad = some (U8 b)) : (Instr.loadAt 5 (.pointer (some ad))).run Try.prog w = .ok (U8 b) w := r_load1 Try.underlying5 rfl h

/-! ### rows of texts -/
def Txs (l : List (List UInt8)) : Fact := Sl 1 (l.map S)
theorem Txs.ext {l : List (List UInt8)} {v : Value} {w w' : World} (h : Txs l v w) (hx : Ext w w') : Txs l v w' := Sl.ext h hx
theorem size_string : (Try.prog.info? 9).map (·.size) = some 1 := by kernel_rfl
theorem Txs.len {l : List (List UInt8)} {v : Value} (h : Txs l v w) : l.length ≤ 9223372036854775807 := by
  obtain ⟨A, n, c, rfl, hnc, hcm, hl, _⟩ := h
  have : l.length = n := by simpa using hl
  unfold maxLen at hcm; omega
theorem r_lenT {t : TypeId} (ht : Try.prog.underlying t = some (.slice 9)) {l : List (List UInt8)} {v : Value} {ty : TypeId} (h : Txs l v w) : (Builtin.len_ #[t] ty #[v]).run Try.prog w = .ok (I l.length) w := by
  obtain ⟨n, hl, _, hr⟩ := r_len (P := Try.prog) (ty := ty) ht h
  have : l.length = n := by simpa using hl
  rw [hr, this]
theorem r_ixT {t : TypeId} (ht : Try.prog.underlying t = some (.slice 9)) {l : List (List UInt8)} {v : Value} (h : Txs l v w) {i : Nat} (hi : i < l.length) (k : IntKind) :
    ∃ ad, (∀ w' : World, (Instr.indexAt t v (.int k i)).run Try.prog w' = .ok (.pointer (some ad)) w') ∧ w.cell? ad = some (S l[i]) := by
  obtain ⟨ad, h3, h4⟩ := r_index (P := Try.prog) ht size_string h (i := i) (by simp; omega) (by omega) k
  refine ⟨ad, h3, ?_⟩
  have := h4 0 (S l[i]) (by simp [hi])
  rwa [add_zero] at this

/-! ### limbs -/
def Wds (l : List UInt32) : Fact := Sl 1 (l.map U32)
def OwnW (base : Nat) (l : List UInt32) : Fact := fun v w => ∃ n, w.ownsRow base 88 1 v n (l.map U32)
theorem Wds.stable (l : List UInt32) : Stable (Wds l) := Sl.stable _ _
theorem Wds.ext {l : List UInt32} {v : Value} {w w' : World} (h : Wds l v w) (hx : Ext w w') : Wds l v w' := Sl.ext h hx
theorem OwnW.wds {base : Nat} {l : List UInt32} {v : Value} (h : OwnW base l v w) : Wds l v w := h.elim fun _ h => Sl.of_own h
theorem OwnW.stable (base : Nat) (l : List UInt32) : Stable (OwnW base l) := fun _ _ _ h hx => h.elim fun n h => ⟨n, ownsRow_ext h hx⟩
theorem OwnW.ext {base : Nat} {l : List UInt32} {v : Value} {w w' : World} (h : OwnW base l v w) (hx : Ext w w') : OwnW base l v w' := OwnW.stable _ _ _ _ _ h hx
theorem OwnW.nil (base : Nat) (w : World) : OwnW base [] (.slice none 0 0) w := ⟨0, World.ownsRow_nil _ _ _ _⟩
theorem OwnB.nil (base : Nat) (w : World) : OwnB base [] (.slice none 0 0) w := ⟨0, World.ownsRow_nil _ _ _ _⟩
theorem Bts.nil (w : World) : Bts [] (.slice none 0 0) w := Sl.nil _ _
theorem Wds.nil (w : World) : Wds [] (.slice none 0 0) w := Sl.nil _ _
theorem one_U32 (l : List UInt32) : ∀ u ∈ l.map U32, u.oneCell' = true := by
  intro u hu
  obtain ⟨b, _, rfl⟩ := List.mem_map.1 hu
  rfl
theorem info_u32 : (Try.prog.info? 88).map (fun i => (i.zero, i.size, i.bytes)) = some (some (.int .u32 0), 1, 4) := by kernel_rfl
theorem size_u32 : (Try.prog.info? 88).map (·.size) = some 1 := by kernel_rfl
theorem r_lenW {t : TypeId} (ht : Try.prog.underlying t = some (.slice 88)) {l : List UInt32} {v : Value} {ty : TypeId} (h : Wds l v w) : (Builtin.len_ #[t] ty #[v]).run Try.prog w = .ok (I l.length) w := by
  obtain ⟨n, hl, _, hr⟩ := r_len (P := Try.prog) (ty := ty) ht h
  have : l.length = n := by simpa using hl
  rw [hr, this]
theorem Wds.len {l : List UInt32} {v : Value} (h : Wds l v w) : l.length ≤ 9223372036854775807 := by
  obtain ⟨A, n, c, rfl, hnc, hcm, hl, _⟩ := h
  have : l.length = n := by simpa using hl
  unfold maxLen at hcm; omega
theorem r_ixW {t : TypeId} (ht : Try.prog.underlying t = some (.slice 88)) {l : List UInt32} {v : Value} (h : Wds l v w) {i : Nat} (hi : i < l.length) (k : IntKind) :
    ∃ ad, (∀ w' : World, (Instr.indexAt t v (.int k i)).run Try.prog w' = .ok (.pointer (some ad)) w') ∧ w.cell? ad = some (U32 l[i]) := by
  obtain ⟨ad, h3, h4⟩ := r_index (P := Try.prog) ht size_u32 h (i := i) (by simp; omega) (by omega) k
  refine ⟨ad, h3, ?_⟩
  have := h4 0 (U32 l[i]) (by simp [hi])
  rwa [add_zero] at this
theorem r_ldW {ad : Addr} {b : UInt32} (h : w.cell? ad = some (U32 b)) : (Instr.loadAt 88 (.pointer (some ad))).run Try.prog w = .ok (U32 b) w := r_load1 Try.underlying88 rfl h
theorem r_appW {base : Nat} {t : TypeId} (ht : Try.prog.underlying t = some (.slice 88)) {l m : List UInt32} {v x : Value} {ty : TypeId} (hv : OwnW base l v w) (hx : Wds m x w) (hb : l.length + m.length ≤ 35184372088832) (hbase : base ≤ w.heap.size) :
    ∃ r w', (Builtin.append_ #[t, t] ty #[v, x]).run Try.prog w = .ok r w' ∧ OwnW base (l ++ m) r w' ∧ Grew w w' v r := by
  obtain ⟨n, hv⟩ := hv
  obtain ⟨r, w', n', h1, h2, h3⟩ := r_append (P := Try.prog) (ty := ty) ht info_u32 rfl (by omega) hv hx (one_U32 m) (by simp; omega) (by omega) hbase
  exact ⟨r, w', h1, ⟨n', by rw [List.map_append]; exact h2⟩, h3⟩
theorem r_bsW {t : TypeId} (ht : Try.prog.underlying t = some (.slice 88)) (base : Nat) (l : List UInt32) (hl : l.length ≤ 16777216) (hb : base ≤ w.heap.size) :
    ∃ r w', (Instr.buildSlice t l.length (number 0 (l.map U32)).toArray).run Try.prog w = .ok r w' ∧ Ext w w' ∧ OwnW base l r w' ∧ r.ownBlock = some w.heap.size := by
  have := r_buildSlice (P := Try.prog) (w := w) ht info_u32 (l.map U32) (one_U32 l) (by simpa using hl) hb
  simp only [List.length_map] at this
  obtain ⟨r, w', h1, h2, h3, h4⟩ := this
  exact ⟨r, w', h1, h2, ⟨_, h3⟩, h4⟩
end
end Go.Rl
/- Blocks, fields and structs: runs. Conditions: each names its own. -/
namespace Go.Rl
open Go.RowKit Go.Proofs

section
variable {P : Program} {w w' : World}

theorem r_sizeOf {t : TypeId} {n : Nat} (h : (P.info? t).map (·.size) = some n) : (sizeOf t).run P w = .ok n w := by
  obtain ⟨i, hi, rfl⟩ := Option.map_eq_some_iff.1 h
  simp [sizeOf, typeInfo, hi]
theorem r_zero {t : TypeId} {z : Value} (h : (P.info? t).map (·.zero) = some (some z)) : (zeroValue t).run P w = .ok z w := by
  obtain ⟨i, hi, h⟩ := Option.map_eq_some_iff.1 h
  simp [zeroValue, typeInfo, hi, h]

theorem r_box {t : TypeId} {v : Value} : (Instr.box t v).run P w = .ok (.pointer (some ⟨w.heap.size, 0, none⟩)) (w.alloc (.cells v.cells t)) := by
  simp [Instr.box, newVar, newRow]
theorem r_alloc {t : TypeId} {z : Value} (h : (P.info? t).map (·.zero) = some (some z)) : (Instr.alloc t true (.tuple #[])).run P w = .ok (.pointer (some ⟨w.heap.size, 0, none⟩)) (w.alloc (.cells z.cells t)) := by
  simp [Instr.alloc, r_zero h, newVar, newRow]
theorem r_fieldAt {s : TypeId} {fs : Array Field} {f : Field} {n k : Nat} {a : Addr} (hs : P.underlying s = some (.struct fs)) (hf : fs[n]? = some f) (hsz : (P.info? f.type).map (·.size) = some k) (hk : k ≠ 0) :
    (Instr.fieldAt s (.pointer (some a)) n).run P w = .ok (.pointer (some (a.add f.offset))) w := by
  simp [Instr.fieldAt, run_underlying hs, hf, Instr.sureAddr, fieldPlace, r_sizeOf hsz, hk]

/-- A cell of a block that is known whole. -/
theorem cellAt {g i : Nat} {cs : Array Value} {T : TypeId} {fr : Nat × Nat} {v : Value} (h : w.heap[g]? = some (.cells cs T fr)) (hi : cs[i]? = some v) : w.cell? ⟨g, i, none⟩ = some v := (cell_of_row w g i cs T fr h).trans hi

/-- What stands in a slice of bytes stands there still when a block without bytes is written. -/
theorem Sl.keep {sz : Nat} {xs : List Value} {v : Value} {g : Nat} {cs : Array Value} {T : TypeId} {fr : Nat × Nat} (h : Sl sz xs v w) (hg : w.heap[g]? = some (.cells cs T fr)) (hcs : ∀ (j : Nat) (u : Value), u ∈ xs → cs[j]? ≠ some u) (hw : w.grownBy w' (some g)) : Sl sz xs v w' := by
  obtain ⟨A, n, c, rfl, h1, h2, h3, h4, h5⟩ := h
  refine ⟨A, n, c, rfl, h1, h2, h3, fun hn => ?_, h5⟩
  obtain ⟨ad, rfl, hc⟩ := h4 hn
  refine ⟨ad, rfl, fun j u hu => ?_⟩
  have hcell := hc j u hu
  have hne : (ad.add j).block ≠ g := fun he => by
    have hmem : u ∈ xs := List.mem_of_getElem? hu
    have : w.cell? (ad.add j) = cs[(ad.add j).off]? := by
      have hs : (ad.add j).spot = none := World.cell?_spot hcell
      have e : ad.add j = ⟨g, (ad.add j).off, none⟩ := by
        cases hx : ad.add j with
        | mk b o s =>
          rw [hx] at hs he
          simp only at hs he
          rw [hs, he]
      rw [e]
      exact cell_of_row w g _ cs T fr hg
    rw [hcell] at this
    exact hcs _ u hmem this.symm
  have hlt := World.block_lt_of_cell? w (ad.add j) hcell
  exact (World.cell?_of_block (hw.block _ hlt (fun e => hne (Option.some.inj e)))).trans hcell
end

section
variable {w : World}
/-- make([]byte, 0, n) and make([]byte, n) -/
theorem r_mkB0 (base : Nat) {n : Nat} (hn : n ≤ 281474976710656) (hb : base ≤ w.heap.size) :
    ∃ r w', (Instr.makeSlice 29 (I 0) (I (n : Int))).run Try.prog w = .ok r w' ∧ Ext w w' ∧ OwnB base [] r w' ∧ r.ownBlock = some w.heap.size := by
  obtain ⟨i, hi, hz, hs, hby⟩ := info_parts info_u8
  have hrun := run_make (P := Try.prog) w 29 5 i _ Try.underlying29 hi hz .i64 .i64 0 (n : Int) (by omega) (by omega) (by rw [hby]; omega) (by omega)
  refine ⟨_, _, hrun, Ext.new _ _, ⟨0, ?_⟩, rfl⟩
  have := World.ownsRow_made (base := base) (e := 5) (size := 1) w (madeCells (Value.int .u8 0).cells ((n : Int).toNat * i.size)) n hb (by unfold maxLen; omega) (by rw [hs]; simp [madeCells])
  simpa using this
theorem r_mkB (base : Nat) {n : Nat} (hn : n ≤ 281474976710656) (hb : base ≤ w.heap.size) :
    ∃ r w', (Instr.makeSlice 29 (I (n : Int)) (I (n : Int))).run Try.prog w = .ok r w' ∧ Ext w w' ∧ OwnB base (List.replicate n 0) r w' ∧ r.ownBlock = some w.heap.size := by
  obtain ⟨i, hi, hz, hs, hby⟩ := info_parts info_u8
  have hrun := run_make (P := Try.prog) w 29 5 i _ Try.underlying29 hi hz .i64 .i64 (n : Int) (n : Int) (by omega) (by omega) (by rw [hby]; omega) (by omega)
  refine ⟨_, _, hrun, Ext.new _ _, ⟨n, ?_⟩, rfl⟩
  have := World.ownsRow_lit (base := base) (e := 5) (size := 1) w (madeCells (Value.int .u8 0).cells ((n : Int).toNat * i.size)) n hb (by unfold maxLen; omega) (by rw [hs]; simp [madeCells])
  have e : (madeCells (Value.int .u8 0).cells ((n : Int).toNat * i.size)).toList = (List.replicate n (0 : UInt8)).map U8 := by
    rw [hs]
    have h2 := toList_madeCells_one (.int .u8 0) n
    simp only [Value.cells, Int.toNat_natCast, Nat.mul_one, List.map_replicate] at h2 ⊢
    rw [h2]; rfl
  rw [e] at this
  simpa using this
end
end Go.Rl
/- Deep data: a value and what it reaches, read as a tree; how arguments read so. Conditions: each lemma names its own. -/
namespace Go.Rl
open Go.RowKit

inductive Dt where
  | int (k : IntKind) (n : Int)
  | bool (b : Bool)
  | str (l : List UInt8)
  | sl (l : List Dt)
  | st (l : List Dt)

mutual
def Dt.size : Dt → Nat
  | .int _ _ => 1
  | .bool _ => 1
  | .str _ => 1
  | .sl _ => 1
  | .st l => Dt.sizeAll l
def Dt.sizeAll : List Dt → Nat
  | [] => 0
  | d :: l => d.size + Dt.sizeAll l
end
mutual
def Rp (w : World) : Dt → List Value → Prop
  | .int k n, cs => cs = [.int k n]
  | .bool b, cs => cs = [.bool b]
  | .str l, cs => cs = [S l]
  | .sl l, cs => ∃ A n c, cs = [.slice A n c] ∧ l.length = n ∧ n ≤ c ∧ c ≤ maxLen ∧ (A = none → c = 0) ∧ (0 < n → ∃ ad xs, A = some ad ∧ Cells w ad xs ∧ RpAll w l xs)
  | .st l, cs => RpAll w l cs
def RpAll (w : World) : List Dt → List Value → Prop
  | [], cs => cs = []
  | d :: ds, cs => ∃ c1 c2, cs = c1 ++ c2 ∧ Rp w d c1 ∧ RpAll w ds c2
end

mutual
theorem Rp.len {w : World} : ∀ {d : Dt} {cs : List Value}, Rp w d cs → cs.length = d.size
  | .int k n, cs, h => by simp only [Rp] at h; subst h; rfl
  | .bool b, cs, h => by simp only [Rp] at h; subst h; rfl
  | .str l, cs, h => by simp only [Rp] at h; subst h; rfl
  | .sl l, cs, h => by simp only [Rp] at h; obtain ⟨A, n, c, rfl, _⟩ := h; rfl
  | .st l, cs, h => by simp only [Rp] at h; simpa [Dt.size] using RpAll.len h
theorem RpAll.len {w : World} : ∀ {l : List Dt} {cs : List Value}, RpAll w l cs → cs.length = Dt.sizeAll l
  | [], cs, h => by simp only [RpAll] at h; subst h; rfl
  | d :: l, cs, h => by
    simp only [RpAll] at h
    obtain ⟨c1, c2, rfl, h1, h2⟩ := h
    simp [Dt.sizeAll, Rp.len h1, RpAll.len h2]
end
mutual
theorem Rp.ext {w w' : World} (hx : Ext w w') : ∀ {d : Dt} {cs : List Value}, Rp w d cs → Rp w' d cs
  | .int k n, cs, h => by simpa only [Rp] using h
  | .bool b, cs, h => by simpa only [Rp] using h
  | .str l, cs, h => by simpa only [Rp] using h
  | .sl l, cs, h => by
    simp only [Rp] at h ⊢
    obtain ⟨A, n, c, h1, h2, h3, h4, h5, h6⟩ := h
    refine ⟨A, n, c, h1, h2, h3, h4, h5, fun hn => ?_⟩
    obtain ⟨ad, xs, h7, h8, h9⟩ := h6 hn
    exact ⟨ad, xs, h7, h8.ext hx, RpAll.ext hx h9⟩
  | .st l, cs, h => by simp only [Rp] at h ⊢; exact RpAll.ext hx h
theorem RpAll.ext {w w' : World} (hx : Ext w w') : ∀ {l : List Dt} {cs : List Value}, RpAll w l cs → RpAll w' l cs
  | [], cs, h => by simpa only [RpAll] using h
  | d :: l, cs, h => by
    simp only [RpAll] at h ⊢
    obtain ⟨c1, c2, h0, h1, h2⟩ := h
    exact ⟨c1, c2, h0, Rp.ext hx h1, RpAll.ext hx h2⟩
end

section
variable {w : World}
theorem RpAll.nil : RpAll w [] [] := by simp only [RpAll]
theorem RpAll.cons {d : Dt} {l : List Dt} {a b : List Value} (h : Rp w d a) (h' : RpAll w l b) : RpAll w (d :: l) (a ++ b) := by simp only [RpAll]; exact ⟨a, b, rfl, h, h'⟩
theorem RpAll.append {l m : List Dt} : ∀ {a b : List Value}, RpAll w l a → RpAll w m b → RpAll w (l ++ m) (a ++ b) := by
  induction l with
  | nil => intro a b h h'; simp only [RpAll] at h; subst h; exact h'
  | cons d l ih =>
    intro a b h h'
    simp only [RpAll] at h
    obtain ⟨c1, c2, rfl, h1, h2⟩ := h
    rw [List.append_assoc]
    exact RpAll.cons h1 (ih h2 h')
theorem sizeAll_uniform {sz : Nat} : ∀ {l : List Dt}, (∀ d ∈ l, d.size = sz) → Dt.sizeAll l = l.length * sz
  | [], _ => by simp [Dt.sizeAll]
  | d :: l, h => by
    rw [Dt.sizeAll, h d (by simp), sizeAll_uniform fun e he => h e (by simp [he]), List.length_cons, Nat.add_mul]
    omega
theorem RpAll.split {sz : Nat} : ∀ {l : List Dt} {xs : List Value} (k : Nat), RpAll w l xs → (∀ d ∈ l, d.size = sz) → k ≤ l.length → RpAll w (l.take k) (xs.take (k * sz)) ∧ RpAll w (l.drop k) (xs.drop (k * sz))
  | l, xs, 0, h, _, _ => by simp [RpAll.nil, h]
  | [], xs, k + 1, h, _, hk => by simp at hk
  | d :: l, xs, k + 1, h, hs, hk => by
    simp only [RpAll] at h
    obtain ⟨c1, c2, rfl, h1, h2⟩ := h
    have hc : c1.length = sz := by rw [h1.len]; exact hs d (by simp)
    obtain ⟨h3, h4⟩ := RpAll.split k h2 (fun e he => hs e (by simp [he])) (by simpa using hk)
    have e : (k + 1) * sz = c1.length + k * sz := by rw [hc, Nat.add_mul]; omega
    rw [e, List.take_length_add_append, List.drop_length_add_append]
    exact ⟨RpAll.cons h1 h3, h4⟩
theorem RpAll.at {sz : Nat} {l : List Dt} {xs : List Value} {i : Nat} (h : RpAll w l xs) (hs : ∀ d ∈ l, d.size = sz) (hi : i < l.length) : Rp w l[i] ((xs.drop (i * sz)).take sz) := by
  obtain ⟨_, h2⟩ := RpAll.split i h hs (by omega)
  rw [List.drop_eq_getElem_cons hi] at h2
  simp only [RpAll] at h2
  obtain ⟨c1, c2, he, h1, _⟩ := h2
  have hc : c1.length = sz := by rw [h1.len]; exact hs _ (List.getElem_mem hi)
  rw [he, ← hc, List.take_left']
  · exact h1
  · rfl

/-- A slice of deep data as a slice of cells, and back. -/
theorem Rp.toSl {sz : Nat} {l : List Dt} {v : Value} (h : Rp w (.sl l) [v]) (hs : ∀ d ∈ l, d.size = sz) : ∃ xs, Sl sz xs v w ∧ RpAll w l xs := by
  simp only [Rp] at h
  obtain ⟨A, n, c, hv, h2, h3, h4, h5, h6⟩ := h
  obtain rfl : v = .slice A n c := by simpa using hv
  rcases Nat.eq_zero_or_pos n with h0 | h0
  · have : l = [] := List.eq_nil_of_length_eq_zero (by omega)
    subst this
    exact ⟨[], ⟨A, n, c, rfl, h3, h4, by subst h0; simp, fun h => by omega, h5⟩, RpAll.nil⟩
  · obtain ⟨ad, xs, rfl, h8, h9⟩ := h6 h0
    exact ⟨xs, ⟨_, n, c, rfl, h3, h4, by rw [h9.len, sizeAll_uniform hs, h2], fun _ => ⟨ad, rfl, h8⟩, h5⟩, h9⟩
theorem Rp.ofSl {sz : Nat} {l : List Dt} {v : Value} {xs : List Value} (h : Sl sz xs v w) (ha : RpAll w l xs) (hs : ∀ d ∈ l, d.size = sz) (h0 : 0 < sz) : Rp w (.sl l) [v] := by
  obtain ⟨A, n, c, rfl, h3, h4, h5, h6, h7⟩ := h
  simp only [Rp]
  refine ⟨A, n, c, rfl, ?_, h3, h4, h7, fun hn => ?_⟩
  · have := ha.len
    rw [sizeAll_uniform hs, h5] at this
    exact (Nat.eq_of_mul_eq_mul_right h0 this).symm
  · obtain ⟨ad, rfl, hc⟩ := h6 hn
    exact ⟨ad, xs, rfl, hc, ha⟩
theorem Rp.isSlice {l : List Dt} {cs : List Value} (h : Rp w (.sl l) cs) : ∃ v, cs = [v] ∧ Rp w (.sl l) [v] ∧ v.oneCell' = true := by
  have h' := h
  simp only [Rp] at h
  obtain ⟨A, n, c, rfl, _⟩ := h
  exact ⟨_, rfl, h', rfl⟩
theorem Rp.nilSl : Rp w (.sl []) [.slice none 0 0] := by
  simp only [Rp]
  exact ⟨none, 0, 0, rfl, rfl, Nat.le_refl _, Nat.zero_le _, fun _ => rfl, fun h => by omega⟩
theorem Rp.slLen {l : List Dt} {v : Value} (h : Rp w (.sl l) [v]) : l.length ≤ 9223372036854775807 := by
  simp only [Rp] at h
  obtain ⟨A, n, c, _, h2, h3, h4, _⟩ := h
  unfold maxLen at h4
  omega
theorem RpAll.map_cell {α : Type} {f : α → Dt} {g : α → Value} (hf : ∀ x cs, Rp w (f x) cs ↔ cs = [g x]) : ∀ {l : List α} {xs : List Value}, RpAll w (l.map f) xs ↔ xs = l.map g
  | [], xs => by simp only [List.map_nil, RpAll]
  | x :: l, xs => by
    simp only [List.map_cons, RpAll, hf]
    constructor
    · rintro ⟨c1, c2, rfl, rfl, h⟩
      rw [(RpAll.map_cell hf).1 h]; rfl
    · rintro rfl
      exact ⟨[g x], l.map g, rfl, rfl, (RpAll.map_cell hf).2 rfl⟩
/-- Rows of one-cell things. -/
theorem Rp.sl_cells {α : Type} {f : α → Dt} {g : α → Value} (hf : ∀ x cs, Rp w (f x) cs ↔ cs = [g x]) (h1 : ∀ x, (f x).size = 1) {l : List α} {v : Value} : Rp w (.sl (l.map f)) [v] ↔ Sl 1 (l.map g) v w := by
  have hs : ∀ d ∈ l.map f, d.size = 1 := by
    intro d hd
    obtain ⟨x, _, rfl⟩ := List.mem_map.1 hd
    exact h1 x
  constructor
  · intro h
    obtain ⟨xs, h2, h3⟩ := h.toSl hs
    rw [(RpAll.map_cell hf).1 h3] at h2
    exact h2
  · intro h
    exact Rp.ofSl h ((RpAll.map_cell hf).2 rfl) hs (by omega)
def dU8 (x : UInt8) : Dt := .int .u8 (x.toNat : Int)
def dU32 (x : UInt32) : Dt := .int .u32 (x.toNat : Int)
def dI (x : Int64) : Dt := .int .i64 x.toInt
theorem Rp.bytes {l : List UInt8} {v : Value} : Rp w (.sl (l.map dU8)) [v] ↔ Sl 1 (l.map U8) v w := Rp.sl_cells (fun x cs => by simp only [dU8, Rp, U8]) fun _ => rfl
theorem Rp.words {l : List UInt32} {v : Value} : Rp w (.sl (l.map dU32)) [v] ↔ Sl 1 (l.map U32) v w := Rp.sl_cells (fun x cs => by simp only [dU32, Rp, U32]) fun _ => rfl
theorem Rp.ints {l : List Int64} {v : Value} : Rp w (.sl (l.map dI)) [v] ↔ Sl 1 (l.map fun x => I x.toInt) v w := Rp.sl_cells (fun x cs => by simp only [dI, Rp, I]) fun _ => rfl
theorem Rp.texts {l : List (List UInt8)} {v : Value} : Rp w (.sl (l.map Dt.str)) [v] ↔ Sl 1 (l.map S) v w := Rp.sl_cells (fun x cs => by simp only [Rp]) fun _ => rfl
end

/-! ### Runs -/
section
variable {P : Program} {w : World} {t e : TypeId}
theorem r_lenD {l : List Dt} {v : Value} {ty : TypeId} (ht : P.underlying t = some (.slice e)) (h : Rp w (.sl l) [v]) : (Builtin.len_ #[t] ty #[v]).run P w = .ok (I l.length) w := by
  simp only [Rp] at h
  obtain ⟨A, n, c, hv, h2, _⟩ := h
  obtain rfl : v = .slice A n c := by simpa using hv
  simp [Builtin.len_, run_underlying ht, goInt, I, h2]
theorem r_ixD {sz : Nat} {l : List Dt} {v : Value} (ht : P.underlying t = some (.slice e)) (hz : (P.info? e).map (·.size) = some sz) (h : Rp w (.sl l) [v]) (hs : ∀ d ∈ l, d.size = sz) (h0 : 0 < sz) {i : Nat} (hi : i < l.length) (k : IntKind) :
    ∃ ad cs, (∀ w' : World, (Instr.indexAt t v (.int k i)).run P w' = .ok (.pointer (some ad)) w') ∧ Cells w ad cs ∧ Rp w l[i] cs := by
  obtain ⟨xs, h1, h2⟩ := h.toSl hs
  have hlen : (i + 1) * sz ≤ xs.length := by
    rw [h2.len, sizeAll_uniform hs]
    exact Nat.mul_le_mul_right _ hi
  obtain ⟨ad, h3, h4⟩ := r_index ht hz h1 hlen h0 k
  exact ⟨ad, _, h3, h4, h2.at hs hi⟩
theorem Cells.cell0 {ad : Addr} {v : Value} (h : Cells w ad [v]) : w.cell? ad = some v := by
  have := h 0 v rfl
  rwa [add_zero] at this
theorem Cells.cell {ad : Addr} {xs : List Value} (h : Cells w ad xs) (j : Nat) {v : Value} (hj : xs[j]? = some v) : w.cell? (ad.add j) = some v := h j v hj
theorem r_ldR {d : TypeDesc} {ad : Addr} {cs : List Value} (h : Cells w ad cs) (ht : P.underlying t = some d) (hd : d.isRow = true) (hz : (P.info? t).map (·.size) = some cs.length) : (Instr.loadAt t (.pointer (some ad))).run P w = .ok (.agg cs.toArray) w := by
  have hagg : (isAgg t).run P w = .ok true w := by
    unfold isAgg
    simp only [Sem.run_bind, run_underlying ht, Result.andThen_ok]
    cases d <;> simp_all [TypeDesc.isRow]
  have hl := run_loadCells_list (P := P) (w := w) ad cs h
  simp [Instr.loadAt, Instr.sureAddr, loadVar, Sem.run_bind, hagg, r_sizeOf hz, hl]
end

/-! ### How an argument reads -/
section
variable {P : Program} {H : Type} {enc : TypeId × Value → H} {W : World} {base : Nat} {spare : Nat → Bool} {held : Bool}
def seqB (P : Program) (ts : List TypeId) : List Field → Nat → Nat → Bool
  | [], o, n => o == n
  | f :: fs, o, n => f.offset == o && ts.contains f.type && seqB P ts fs (o + P.cellsOf f.type) n
def closedB (P : Program) (ts : List TypeId) : Bool := ts.all fun t =>
  match P.underlying t with
  | some (.int _) => P.cellsOf t == 1
  | some .bool => P.cellsOf t == 1
  | some .string => P.cellsOf t == 1
  | some (.slice e) => P.cellsOf t == 1 && ts.contains e
  | some (.struct fs) => seqB P ts fs.toList 0 (P.cellsOf t)
  | some (.array n e) => P.cellsOf t == n * P.cellsOf e && ts.contains e
  | _ => false
mutual
def dtOf : DataW H → Dt
  | .lit (.int k n) => .int k n
  | .lit (.bool b) => .bool b
  | .lit (.string l) => .str l
  | .slice elems _ => .sl (dtAll elems)
  | .agg parts => .st (dtAll parts)
  | _ => .sl []
def dtAll : List (DataW H) → List Dt
  | [] => []
  | d :: l => dtOf d :: dtAll l
end
theorem dtAll_map : ∀ (l : List (DataW H)), dtAll l = l.map dtOf
  | [] => by simp [dtAll]
  | d :: l => by simp [dtAll, dtAll_map l]

inductive Ty (P : Program) : TypeId → Dt → Prop
  | int {t k n} : P.underlying t = some (.int k) → (Lit.int k n).wf = true → Ty P t (.int k n)
  | bool {t b} : P.underlying t = some .bool → Ty P t (.bool b)
  | str {t l} : P.underlying t = some .string → l.length ≤ maxLen → Ty P t (.str l)
  | sl {t e l} : P.underlying t = some (.slice e) → (∀ d ∈ l, Ty P e d) → Ty P t (.sl l)
  | st {t fs l} : P.underlying t = some (.struct fs) → l.length = fs.size → (∀ (i : Nat) (f : Field) (d : Dt), fs[i]? = some f → l[i]? = some d → Ty P f.type d) → Ty P t (.st l)
  | arr {t e n l} : P.underlying t = some (.array n e) → l.length = n → (∀ d ∈ l, Ty P e d) → Ty P t (.st l)

theorem rows_of {sz : Nat} {a : Addr} : ∀ (ds : List Dt) (k : Nat), (∀ (i : Nat) (d : Dt), ds[i]? = some d → ∃ c : List Value, c.length = sz ∧ (∀ j u, c[j]? = some u → W.cell? (a.add ((k + i) * sz + j)) = some u) ∧ Rp W d c) →
    ∃ xs, RpAll W ds xs ∧ ∀ j u, xs[j]? = some u → W.cell? (a.add (k * sz + j)) = some u
  | [], k, _ => ⟨[], RpAll.nil, by simp⟩
  | d :: ds, k, h => by
    obtain ⟨c, hc, h1, h2⟩ := h 0 d rfl
    obtain ⟨xs, h3, h4⟩ := rows_of ds (k + 1) fun i e he => by
      obtain ⟨c, hc, h1, h2⟩ := h (i + 1) e he
      exact ⟨c, hc, fun j u hu => by rw [← h1 j u hu]; congr 2; congr 2; omega, h2⟩
    refine ⟨c ++ xs, RpAll.cons h2 h3, fun j u hu => ?_⟩
    rw [List.getElem?_append] at hu
    split at hu
    · have := h1 j u hu
      rwa [Nat.add_zero] at this
    · rename_i hj
      have := h4 _ u hu
      rw [← this]
      congr 2
      rw [hc] at hj ⊢
      rw [Nat.add_mul]
      omega

theorem fields_of {ts : List TypeId} {n : Nat} {cs : List Value} (hcl : ∀ (t : TypeId) (cs : List Value) (x : DataW H × List MemPlace), t ∈ ts → DataW.trod enc P W base spare held n t cs = some x → Rp W (dtOf x.1) cs ∧ Ty P t (dtOf x.1)) :
    ∀ (fs : List Field) (o : Nat) (xs : List (DataW H × List MemPlace)), xs.length = fs.length → seqB P ts fs o cs.length = true → o ≤ cs.length →
      (∀ (i : Nat) (f : Field), fs[i]? = some f → DataW.trod enc P W base spare held n f.type ((cs.drop f.offset).take (P.cellsOf f.type)) = xs[i]?) →
      RpAll W (xs.map fun x => dtOf x.1) (cs.drop o) ∧ ∀ (i : Nat) (f : Field) (d : Dt), fs[i]? = some f → (xs.map fun x => dtOf x.1)[i]? = some d → Ty P f.type d
  | [], o, xs, hl, hs, ho, _ => by
    have : xs = [] := List.eq_nil_of_length_eq_zero (by simpa using hl)
    subst this
    have : o = cs.length := by simpa [seqB] using hs
    subst this
    simp [RpAll.nil]
  | f :: fs, o, xs, hl, hs, ho, h => by
    cases xs with
    | nil => simp at hl
    | cons x xs =>
      simp only [seqB, Bool.and_eq_true, beq_iff_eq] at hs
      obtain ⟨⟨h1, h2⟩, h3⟩ := hs
      have h0 := h 0 f rfl
      simp only [List.getElem?_cons_zero] at h0
      obtain ⟨h4, h5⟩ := hcl f.type _ x (by simpa using h2) h0
      have hlen : ∀ (fs : List Field) (o : Nat), seqB P ts fs o cs.length = true → o ≤ cs.length := by
        intro fs
        induction fs with
        | nil => intro o h; have : o = cs.length := by simpa [seqB] using h
                 omega
        | cons g fs ih => intro o h; simp only [seqB, Bool.and_eq_true] at h; have := ih _ h.2; omega
      obtain ⟨h6, h7⟩ := fields_of hcl fs (o + P.cellsOf f.type) xs (by simpa using hl) h3 (hlen _ _ h3) fun i g hg => by simpa using h (i + 1) g (by simpa using hg)
      refine ⟨?_, fun i g d hg hd => ?_⟩
      · rw [h1] at h4
        have e : cs.drop o = (cs.drop o).take (P.cellsOf f.type) ++ cs.drop (o + P.cellsOf f.type) := by
          rw [← List.drop_drop, List.take_append_drop]
        rw [e]
        exact RpAll.cons h4 h6
      · cases i with
        | zero =>
          simp only [List.getElem?_cons_zero, Option.some.injEq] at hg
          subst hg
          simp only [List.map_cons, List.getElem?_cons_zero, Option.some.injEq] at hd
          subst hd
          exact h5
        | succ i => exact h7 i g d (by simpa using hg) (by simpa using hd)

theorem open_deep {ts : List TypeId} (hc : closedB P ts = true) : ∀ (fuel : Nat) (t : TypeId) (cs : List Value) (x : DataW H × List MemPlace), t ∈ ts → DataW.trod enc P W base spare held fuel t cs = some x → Rp W (dtOf x.1) cs ∧ Ty P t (dtOf x.1)
  | 0, t, cs, x, _, h => by simp [DataW.trod] at h
  | fuel + 1, t, cs, x, ht, h => by
    have ih := open_deep hc fuel
    have hct := List.all_eq_true.1 hc t ht
    split at hct
    · rename_i k hu
      obtain ⟨n, rfl, rfl, hw⟩ := DataW.trod_int hu h
      exact ⟨by simp only [dtOf, Rp], Ty.int hu hw⟩
    · rename_i hu
      obtain ⟨b, rfl, rfl⟩ := DataW.trod_bool hu h
      exact ⟨by simp only [dtOf, Rp], Ty.bool hu⟩
    · rename_i hu
      obtain ⟨s, rfl, rfl, hs⟩ := DataW.trod_string hu h
      exact ⟨by simp only [dtOf, Rp, S, Array.toArray_toList], Ty.str hu (by simpa using hs)⟩
    · rename_i e hu
      simp only [Bool.and_eq_true, beq_iff_eq] at hct
      have he : e ∈ ts := by simpa using hct.2
      rcases DataW.trod_slice hu h with ⟨rfl, rfl⟩ | ⟨a, len, cap, elems, rest, n, hf, rfl, rfl, hb, hl, hm, hlen, hel, _, _⟩
      · exact ⟨by simp only [dtOf]; exact Rp.nilSl, by simp only [dtOf]; exact Ty.sl hu (by simp)⟩
      · obtain rfl : fuel = n := by omega
        have each : ∀ (i : Nat) (y : DataW H × List MemPlace), elems[i]? = some y → ∃ c : List Value, c.length = P.cellsOf e ∧ (∀ j u, c[j]? = some u → W.cell? (a.add (i * P.cellsOf e + j)) = some u) ∧ Rp W (dtOf y.1) c ∧ Ty P e (dtOf y.1) := by
          intro i y hy
          have hi : i < len := by
            have := (List.getElem?_eq_some_iff.1 hy).1
            omega
          have h1 := hel i hi
          rw [hy, Option.bind_eq_some_iff] at h1
          obtain ⟨c, h2, h3⟩ := h1
          obtain ⟨_, h5, h6⟩ := World.cells?_some h2
          obtain ⟨h7, h8⟩ := ih e c y he h3
          refine ⟨c, h5, fun j u hu => ?_, h7, h8⟩
          have hj : j < P.cellsOf e := by rw [← h5]; exact (List.getElem?_eq_some_iff.1 hu).1
          have := h6 j hj
          rw [add_add, hu] at this
          exact this
        obtain ⟨xs, h1, h2⟩ := rows_of (W := W) (sz := P.cellsOf e) (a := a) (elems.map fun y => dtOf y.1) 0 fun i d hd => by
          rw [List.getElem?_map, Option.map_eq_some_iff] at hd
          obtain ⟨y, hy, rfl⟩ := hd
          obtain ⟨c, h1, h2, h3, _⟩ := each i y hy
          exact ⟨c, h1, by rw [Nat.zero_add]; exact h2, h3⟩
        have em : dtAll (elems.map (·.1)) = elems.map fun y => dtOf y.1 := by rw [dtAll_map, List.map_map]; rfl
        refine ⟨?_, ?_⟩
        · simp only [dtOf, Rp]
          rw [em]
          exact ⟨some a, len, cap, rfl, by simpa using hlen, hl, hm, (fun h => by cases h), fun _ => ⟨a, xs, rfl, fun j u hu => by have := h2 j u hu; rwa [Nat.zero_mul, Nat.zero_add] at this, h1⟩⟩
        · simp only [dtOf]
          rw [em]
          refine Ty.sl hu fun d hd => ?_
          obtain ⟨y, hy, rfl⟩ := List.mem_map.1 hd
          obtain ⟨i, hi, rfl⟩ := List.getElem_of_mem hy
          obtain ⟨_, _, _, _, h4⟩ := each i _ (List.getElem?_eq_getElem hi)
          exact h4
    · rename_i fs hu
      obtain ⟨xs, n, hf, rfl, hl, hlen, hall⟩ := DataW.trod_struct hu h
      obtain rfl : fuel = n := by omega
      obtain ⟨h1, h2⟩ := fields_of (cs := cs) (fun t cs x ht h => ih t cs x ht h) fs.toList 0 xs (by simpa using hlen) (by rw [hl]; exact hct) (Nat.zero_le _) fun i f hf => hall i f (by simpa using hf)
      have em : dtAll (xs.map (·.1)) = xs.map fun y => dtOf y.1 := by rw [dtAll_map, List.map_map]; rfl
      refine ⟨?_, ?_⟩
      · simp only [dtOf, Rp]
        rw [em]
        simpa using h1
      · simp only [dtOf]
        rw [em]
        exact Ty.st hu (by simpa using hlen) fun i f d hf hd => h2 i f d (by simpa using hf) hd
    · rename_i m e hu
      simp only [Bool.and_eq_true, beq_iff_eq] at hct
      have he : e ∈ ts := by simpa using hct.2
      obtain ⟨xs, n, hf, rfl, hl, hlen, hall⟩ := DataW.trod_array hu h
      obtain rfl : fuel = n := by omega
      have em : dtAll (xs.map (·.1)) = xs.map fun y => dtOf y.1 := by rw [dtAll_map, List.map_map]; rfl
      have each : ∀ (i : Nat) (y : DataW H × List MemPlace), xs[i]? = some y → Rp W (dtOf y.1) ((cs.drop (i * P.cellsOf e)).take (P.cellsOf e)) ∧ Ty P e (dtOf y.1) := fun i y hy => by
        have hi : i < m := by
          have := (List.getElem?_eq_some_iff.1 hy).1
          omega
        have h1 := hall i hi
        rw [hy] at h1
        exact ih e _ y he h1
      have all : ∀ (k : Nat), k ≤ m → RpAll W ((xs.map fun y => dtOf y.1).drop k) (cs.drop (k * P.cellsOf e)) := by
        intro k hk
        induction hq : m - k generalizing k with
        | zero =>
          have : k = m := by omega
          subst this
          rw [List.drop_of_length_le (by simp; omega), List.drop_of_length_le (by rw [hl, hct.1]; exact Nat.le_refl _)]
          exact RpAll.nil
        | succ q ihq =>
          have hk' : k < (xs.map fun y => dtOf y.1).length := by simp; omega
          have h1 := ihq (k + 1) (by omega) (by omega)
          have hkx : k < xs.length := by omega
          obtain ⟨h2, _⟩ := each k _ (List.getElem?_eq_getElem hkx)
          rw [List.drop_eq_getElem_cons hk']
          have e : cs.drop (k * P.cellsOf e) = (cs.drop (k * P.cellsOf e)).take (P.cellsOf e) ++ cs.drop ((k + 1) * P.cellsOf e) := by
            rw [Nat.add_mul, Nat.one_mul, ← List.drop_drop, List.take_append_drop]
          rw [e]
          refine RpAll.cons ?_ h1
          simpa using h2
      refine ⟨?_, ?_⟩
      · simp only [dtOf, Rp]
        rw [em]
        simpa using all 0 (Nat.zero_le _)
      · simp only [dtOf]
        rw [em]
        refine Ty.arr hu (by simpa using hlen) fun d hd => ?_
        obtain ⟨y, hy, rfl⟩ := List.mem_map.1 hd
        obtain ⟨i, hi, rfl⟩ := List.getElem_of_mem hy
        exact (each i _ (List.getElem?_eq_getElem hi)).2
    · cases hct
end
end Go.Rl
/- A split on a decided bool, and stores into a row of bytes of the call's own. Conditions: each names its own. -/
namespace Go.Rl
open Go.RowKit Go.Proofs

section
variable {P : Program} {ops : Array Oper} {Q : Post} {N : Nat} {D : List Deferred} {l : Fr} {w : World} {rest : List Oper} {d : Nat}
theorem o_dec {p : Prop} {dp : Decidable p} (ht : p → OpsJ P ops Q N D ((d, B true) :: l) w rest) (hf : ¬ p → OpsJ P ops Q N D ((d, B false) :: l) w rest) : OpsJ P ops Q N D ((d, B (@decide p dp)) :: l) w rest := by
  by_cases h : p
  · rw [decide_eq_true h]; exact ht h
  · rw [decide_eq_false h]; exact hf h
end

theorem Ext.of_grew {w0 w w' : World} {v r : Value} (h : Ext w0 w) (hg : Grew w w' v r) (hv : ∀ k, v.ownBlock = some k → w0.heap.size ≤ k) : Ext w0 w' := h.of_grown hg.grown hv
theorem OwnB.ge {base : Nat} {l : List UInt8} {v : Value} {w : World} (h : OwnB base l v w) : ∀ k, v.ownBlock = some k → base ≤ k := fun k hk => h.elim fun _ h => (World.ownsRow.lt h k hk).1
theorem Ext.of_new {w w1 w2 : World} {g : Nat} (hx : Ext w w1) (hg : w1.grownBy w2 (some g)) (h : w.heap.size ≤ g) : Ext w w2 :=
  hx.of_grown hg fun k hk => by
    obtain rfl := Option.some.inj hk
    exact h
theorem gb_ext {w w' : World} {row : Option Nat} (h : Ext w w') : w.grownBy w' row := ⟨h.os, h.tape, h.output, h.size, fun _ hi _ => h.heap hi⟩
section
variable {w : World}
theorem OwnB.setB {base : Nat} {l : List UInt8} {v : Value} (h : OwnB base l v w) {i : Nat} (hi : i < l.length) (x : UInt8) :
    ∃ g w', (∀ u : World, (Instr.indexAt 29 v (I (i : Int))).run Try.prog u = .ok (.pointer (some ⟨g, i, none⟩)) u) ∧ (Instr.storeAt 5 (.pointer (some ⟨g, i, none⟩)) (U8 x)).run Try.prog w = .ok () w' ∧
      OwnB base (l.set i x) v w' ∧ w.grownBy w' (some g) ∧ base ≤ g ∧ w.cell? ⟨g, i, none⟩ = some (U8 l[i]) ∧ v.ownBlock = some g := by
  obtain ⟨n, hn⟩ := id h
  have hnl : l.length = n := by simpa using hn.1
  obtain ⟨ad, hix, hcell⟩ := r_ixB h.bts hi .i64
  rcases hn.2 with ⟨_, h0⟩ | ⟨g, cap, cur, rfl, hb, hg, hnc, hcm, hcs, htk⟩
  · omega
  · have hlt : i < cur.size := by omega
    have had : ad = ⟨g, i, none⟩ := by
      have h1 := hix w
      obtain ⟨ti, hi', hs⟩ := Option.map_eq_some_iff.1 size_u8
      have hin : i < n := by omega
      have h2 : (Instr.indexAt 29 (.slice (some ⟨g, 0, none⟩) n cap) (.int .i64 i)).run Try.prog w = .ok (.pointer (some ⟨g, i, none⟩)) w := by
        simp [Instr.indexAt, asIntOf, run_underlying Try.underlying29, hin, sizeOf, typeInfo, hi', hs, add_mk]
      rw [h2] at h1
      simp at h1
      exact h1.symm
    subst had
    refine ⟨g, w.setCell ⟨g, i, none⟩ (U8 x), hix, r_store1 size_u8 rfl hg hlt, ⟨n, ?_, .inr ⟨g, cap, cur.setIfInBounds i (U8 x), rfl, hb, heap_set hg i (U8 x), hnc, hcm, by simpa using hcs, ?_⟩⟩, grownBy_setCell w g i _, hb, hcell, rfl⟩
    · simpa using hnl
    · rw [List.map_set, ← htk, Array.toList_setIfInBounds, List.take_set]
theorem OwnB.kept {base : Nat} {l : List UInt8} {v : Value} {w' : World} (h : OwnB base l v w) {row : Option Nat} (hg : w.grownBy w' row) (hne : v.ownBlock = none ∨ v.ownBlock ≠ row) : OwnB base l v w' :=
  h.elim fun n h => ⟨n, World.ownsRow.kept h hg hne⟩
theorem OwnB.off {base : Nat} {l : List UInt8} {v : Value} (h : OwnB base l v w) {g : Nat} (hg : g < base) : v.ownBlock ≠ some g := fun he => by
  obtain ⟨n, h⟩ := h
  have := (World.ownsRow.lt h g he).1
  omega
end
end Go.Rl
/- Loops over several values. Conditions: each rule names its own. -/
namespace Go.Rl
open Go.RowKit
section
variable {P : Program} {Q : Post} {N : Nat} {D : List Deferred} {l : Fr} {w : World}
theorem c_loop2 {c : Code} {α β : Type} (fr : α → β → Fr) (H : α → β → World → Prop) (mu : α → β → Nat) (x0 : α) (y0 : β) (hs : Sub (fr x0 y0) l) (h0 : H x0 y0 w)
    (round : ∀ x y w', H x y w' → CodeJ P (Exit.then (fun a w'' => ∃ x' y', At N D (fr x' y') a ∧ H x' y' w'' ∧ mu x' y' < mu x y) Q) N D (fr x y) w' c) : CodeJ P Q N D l w (.loop c) :=
  c_loop (α := α × β) (fun p => fr p.1 p.2) (fun p => H p.1 p.2) (fun p => mu p.1 p.2) (x0, y0) hs h0 fun p w' h a ha =>
    wp_mono (round p.1 p.2 w' h a ha) fun e a' w'' hq => by
      cases e with
      | normal =>
        obtain ⟨x', y', h1, h2, h3⟩ := hq
        exact ⟨(x', y'), h1, h2, h3⟩
      | _ => exact hq
theorem n_round2 {α β : Type} {fr : α → β → Fr} {H : α → β → World → Prop} {mu : α → β → Nat} {m : Nat} (x : α) (y : β) (hs : Sub (fr x y) l) (hH : H x y w) (hm : mu x y < m) : NormJ (Exit.then (fun a w'' => ∃ x' y', At N D (fr x' y') a ∧ H x' y' w'' ∧ mu x' y' < m) Q) N D l w :=
  fun _ ha => ⟨x, y, ha.weak hs, hH, hm⟩
theorem c_loop3 {c : Code} {α β γ : Type} (fr : α → β → γ → Fr) (H : α → β → γ → World → Prop) (mu : α → β → γ → Nat) (x0 : α) (y0 : β) (z0 : γ) (hs : Sub (fr x0 y0 z0) l) (h0 : H x0 y0 z0 w)
    (round : ∀ x y z w', H x y z w' → CodeJ P (Exit.then (fun a w'' => ∃ x' y' z', At N D (fr x' y' z') a ∧ H x' y' z' w'' ∧ mu x' y' z' < mu x y z) Q) N D (fr x y z) w' c) : CodeJ P Q N D l w (.loop c) :=
  c_loop (α := α × β × γ) (fun p => fr p.1 p.2.1 p.2.2) (fun p => H p.1 p.2.1 p.2.2) (fun p => mu p.1 p.2.1 p.2.2) (x0, y0, z0) hs h0 fun p w' h a ha =>
    wp_mono (round p.1 p.2.1 p.2.2 w' h a ha) fun e a' w'' hq => by
      cases e with
      | normal =>
        obtain ⟨x', y', z', h1, h2, h3⟩ := hq
        exact ⟨(x', y', z'), h1, h2, h3⟩
      | _ => exact hq
theorem n_round3 {α β γ : Type} {fr : α → β → γ → Fr} {H : α → β → γ → World → Prop} {mu : α → β → γ → Nat} {m : Nat} (x : α) (y : β) (z : γ) (hs : Sub (fr x y z) l) (hH : H x y z w) (hm : mu x y z < m) : NormJ (Exit.then (fun a w'' => ∃ x' y' z', At N D (fr x' y' z') a ∧ H x' y' z' w'' ∧ mu x' y' z' < m) Q) N D l w :=
  fun _ ha => ⟨x, y, z, ha.weak hs, hH, hm⟩
theorem c_loop4 {c : Code} {α β γ δ : Type} (fr : α → β → γ → δ → Fr) (H : α → β → γ → δ → World → Prop) (mu : α → β → γ → δ → Nat) (x0 : α) (y0 : β) (z0 : γ) (u0 : δ) (hs : Sub (fr x0 y0 z0 u0) l) (h0 : H x0 y0 z0 u0 w)
    (round : ∀ x y z u w', H x y z u w' → CodeJ P (Exit.then (fun a w'' => ∃ x' y' z' u', At N D (fr x' y' z' u') a ∧ H x' y' z' u' w'' ∧ mu x' y' z' u' < mu x y z u) Q) N D (fr x y z u) w' c) : CodeJ P Q N D l w (.loop c) :=
  c_loop (α := α × β × γ × δ) (fun p => fr p.1 p.2.1 p.2.2.1 p.2.2.2) (fun p => H p.1 p.2.1 p.2.2.1 p.2.2.2) (fun p => mu p.1 p.2.1 p.2.2.1 p.2.2.2) (x0, y0, z0, u0) hs h0 fun p w' h a ha =>
    wp_mono (round p.1 p.2.1 p.2.2.1 p.2.2.2 w' h a ha) fun e a' w'' hq => by
      cases e with
      | normal =>
        obtain ⟨x', y', z', u', h1, h2, h3⟩ := hq
        exact ⟨(x', y', z', u'), h1, h2, h3⟩
      | _ => exact hq
theorem n_round4 {α β γ δ : Type} {fr : α → β → γ → δ → Fr} {H : α → β → γ → δ → World → Prop} {mu : α → β → γ → δ → Nat} {m : Nat} (x : α) (y : β) (z : γ) (u : δ) (hs : Sub (fr x y z u) l) (hH : H x y z u w) (hm : mu x y z u < m) : NormJ (Exit.then (fun a w'' => ∃ x' y' z' u', At N D (fr x' y' z' u') a ∧ H x' y' z' u' w'' ∧ mu x' y' z' u' < m) Q) N D l w :=
  fun _ ha => ⟨x, y, z, u, ha.weak hs, hH, hm⟩
theorem c_loop5 {c : Code} {α β γ δ ε : Type} (fr : α → β → γ → δ → ε → Fr) (H : α → β → γ → δ → ε → World → Prop) (mu : α → β → γ → δ → ε → Nat) (x0 : α) (y0 : β) (z0 : γ) (u0 : δ) (v0 : ε) (hs : Sub (fr x0 y0 z0 u0 v0) l) (h0 : H x0 y0 z0 u0 v0 w)
    (round : ∀ x y z u v w', H x y z u v w' → CodeJ P (Exit.then (fun a w'' => ∃ x' y' z' u' v', At N D (fr x' y' z' u' v') a ∧ H x' y' z' u' v' w'' ∧ mu x' y' z' u' v' < mu x y z u v) Q) N D (fr x y z u v) w' c) : CodeJ P Q N D l w (.loop c) :=
  c_loop (α := α × β × γ × δ × ε) (fun p => fr p.1 p.2.1 p.2.2.1 p.2.2.2.1 p.2.2.2.2) (fun p => H p.1 p.2.1 p.2.2.1 p.2.2.2.1 p.2.2.2.2) (fun p => mu p.1 p.2.1 p.2.2.1 p.2.2.2.1 p.2.2.2.2) (x0, y0, z0, u0, v0) hs h0 fun p w' h a ha =>
    wp_mono (round p.1 p.2.1 p.2.2.1 p.2.2.2.1 p.2.2.2.2 w' h a ha) fun e a' w'' hq => by
      cases e with
      | normal =>
        obtain ⟨x', y', z', u', v', h1, h2, h3⟩ := hq
        exact ⟨(x', y', z', u', v'), h1, h2, h3⟩
      | _ => exact hq
theorem n_round5 {α β γ δ ε : Type} {fr : α → β → γ → δ → ε → Fr} {H : α → β → γ → δ → ε → World → Prop} {mu : α → β → γ → δ → ε → Nat} {m : Nat} (x : α) (y : β) (z : γ) (u : δ) (v : ε) (hs : Sub (fr x y z u v) l) (hH : H x y z u v w) (hm : mu x y z u v < m) : NormJ (Exit.then (fun a w'' => ∃ x' y' z' u' v', At N D (fr x' y' z' u' v') a ∧ H x' y' z' u' v' w'' ∧ mu x' y' z' u' v' < m) Q) N D l w :=
  fun _ ha => ⟨x, y, z, u, v, ha.weak hs, hH, hm⟩
end
end Go.Rl
/- Walks within a round of a range over a function, the statement itself, and a function that calls yield. Conditions: each rule names its own. -/
namespace Go.Rl
open Go.RowKit

/-! ### Out of the plain judgments -/
/-- The widest fence, within a round or not. -/
def FR (rd : Option Nat) : Fence := { Fence.wide with round := rd }
theorem FR_depth (rd : Option Nat) : ¬ (FR rd).depth.isSome = true := by simp [FR, Fence.wide]
theorem callsIn_FR {rd : Option Nat} {n : Nat} {P : Program} {f : FuncId} {args : Array Value} {w : World} {R : Ending → World → Prop} (h : Calls P f args w R) : CallsIn (FR rd) n P f args w R :=
  (callsIn_wide (n := n)).2 h
theorem rowsIn_FR {rd : Option Nat} {n : Nat} {P : Program} {row : String} {args : Array Value} {w : World} {R : Value → World → Prop} (h : Rows P row args w R) : RowsIn (FR rd) n P row args w R :=
  fun c cs _ => let ⟨v, w', r, s⟩ := h c cs; ⟨v, w', r, stepsIn_wide.2 s⟩
theorem uponIn_of {P : Program} {rd : Option Nat} {n : Nat} {o : Oper} {a : Act} {K K' : Act → World → Prop} {Q : Exit → Act → World → Prop} {r : Result Next} (hk : ∀ a w, K a w → K' a w) (h : o.upon P a K Q r) : o.uponIn (FR rd) n P a K' Q r := by
  cases r with
  | ok x w' =>
    cases x with
    | value v => exact hk _ _ h
    | skip => exact hk _ _ h
    | defer d => exact hk _ _ h
    | enter f args =>
      refine ⟨fun hd => absurd hd (FR_depth rd), callsIn_FR (Calls.mono h ?_)⟩
      intro e w'' he
      cases e with
      | returned v => exact hk _ _ he
      | panicked c => exact he
      | outgrown => exact he
    | row s args =>
      refine ⟨fun hd => absurd hd (FR_depth rd), rowsIn_FR (Rows.mono h ?_)⟩
      intro v w'' he
      exact hk _ _ he
    | _ => exact h.elim
  | halt x w' =>
    cases x with
    | panic v => exact h
    | _ => exact h.elim
theorem noOut_then {K : Act → World → Prop} {Q : Exit → Act → World → Prop} (h : ¬ LetsOut Q) : ¬ LetsOut (Exit.then K Q) := fun ⟨a, w, hq⟩ => h ⟨a, w, hq⟩
theorem noOut_block {id : Nat} {Q : Exit → Act → World → Prop} (h : ¬ LetsOut Q) : ¬ LetsOut (Exit.inBlock id Q) := fun ⟨a, w, hq⟩ => h ⟨a, w, hq⟩
theorem noOut_own {α : Type} {B : Nat} {Kp : World → World → Prop} {I : List α → World → Prop} {Ix : Code → List α → World → Prop} {xs : List α} {W : World} : ¬ LetsOut (ownPostG B Kp I Ix xs W) := fun ⟨_, _, hq⟩ => hq
theorem noOut_body {P : Program} {fn : Func} {T : Value → World → Prop} : ¬ LetsOut (bodyPost P fn (Ret T)) := fun ⟨_, _, hq⟩ => by
  obtain ⟨v, he, _⟩ := hq
  cases he
theorem noOut_bodyM {P : Program} {fn : Func} {T : Value → World → Prop} : ¬ LetsOut (bodyPostM Fence.wide 0 P fn (Ret T)) := fun ⟨_, _, hq⟩ => by
  obtain ⟨v, he, _⟩ := hq
  cases he
def noDefer (os : List Oper) : Bool := os.all fun o => match o.op with | .defer _ => false | _ => true
theorem noDefer_at {os : List Oper} (h : noDefer os = true) {i : Nat} {o : Oper} (ho : os[i]? = some o) : ∀ c, o.op ≠ .defer c := fun c hc => by
  have := List.all_eq_true.1 h o (List.mem_of_getElem? ho)
  rw [hc] at this
  cases this
theorem semAt_of {rd : Option Nat} {o : Oper} (h : rd = none ∨ ∀ c, o.op ≠ .defer c) (ρ : Operand → Value) : o.semAt (FR rd).round ρ = execOp ρ o := by
  rcases h with rfl | h
  · exact Oper.semAt_none ρ o
  · exact Oper.semAt_eq _ ρ o h
theorem operIn_of {P : Program} {rd : Option Nat} {n : Nat} {o : Oper} {a : Act} {w : World} {K K' : Act → World → Prop} {Q : Exit → Act → World → Prop} (hd : rd = none ∨ ∀ c, o.op ≠ .defer c) (hk : ∀ a w, K a w → K' a w) (h : o.wp P a w K Q) : o.wpIn (FR rd) n P a w K' Q :=
  ⟨fun _ _ => trivial, by rw [semAt_of hd]; exact uponIn_of hk h⟩
theorem opsIn_of {P : Program} {rd : Option Nat} {n : Nat} {os : List Oper} {Q : Exit → Act → World → Prop} (hQ : ¬ LetsOut Q) (hd : rd = none ∨ noDefer os = true) : ∀ (l : List Nat) (a : Act) (w : World), wpOps P os.toArray Q l a w → wpOpsIn (FR rd) n P os.toArray Q l a w := by
  intro l
  induction l with
  | nil => intro a w h; exact h
  | cons i l ih =>
    intro a w h
    unfold wpOps at h
    unfold wpOpsIn
    cases ho : os.toArray[i]? with
    | none =>
      simp only [ho] at h ⊢
      exact ih a w h
    | some o =>
      simp only [ho] at h ⊢
      split
      · rename_i hw
        rw [if_pos hw] at h
        exact operIn_of (hd.imp_right fun hd => noDefer_at hd (by simpa using ho)) ih (h.resolve_right fun h => hQ h.2)
      · rename_i hw
        rw [if_neg hw] at h
        exact ⟨fun _ _ => trivial, ih _ _ h⟩

section
variable {P : Program} {ops : Array Oper} {Q : Post} {N : Nat} {D : List Deferred} {rd : Option Nat}
/-- Code within round l (none: of no round). -/
def CodeI (rd : Option Nat) (P : Program) (Q : Post) (N : Nat) (D : List Deferred) (l : Fr) (w : World) (c : Code) : Prop := ∀ a, At N D l a → c.wpIn (FR rd) 0 P Q a w
theorem CodeI.of {l : Fr} {w : World} {c : Code} (h : CodeJ P Q N D l w c) : CodeI none P Q N D l w c := fun a ha => wpIn_wide.2 (h a ha)
theorem CodeI.to {l : Fr} {w : World} {c : Code} (h : CodeI none P Q N D l w c) : CodeJ P Q N D l w c := fun a ha => wpIn_wide.1 (h a ha)
namespace I
section code
variable {l l' : Fr} {w : World}
theorem c_seq {x y : Code} (h : CodeI rd P (Exit.then (y.wpIn (FR rd) 0 P Q) Q) N D l w x) : CodeI rd P Q N D l w (.seq x y) := fun a ha => wpIn_seq (h a ha)
theorem c_skip (h : NormJ Q N D l w) : CodeI rd P Q N D l w .skip := fun a ha => wpIn_skip (h a ha)
theorem n_then {y : Code} {Q' : Post} (h : CodeI rd P Q N D l w y) : NormJ (Exit.then (y.wpIn (FR rd) 0 P Q) Q') N D l w := fun a ha => h a ha
theorem c_block {id : Nat} {c : Code} (h : CodeI rd P (Exit.inBlock id Q) N D l w c) : CodeI rd P Q N D l w (.block id c) := fun a ha => wpIn_block (h a ha)
theorem c_exit {id : Nat} (h : ExitJ Q N D l w (.exit id)) : CodeI rd P Q N D l w (.exit id) := fun a ha => wpIn_exit (h a ha)
theorem c_ret (h : ExitJ Q N D l w .ret) : CodeI rd P Q N D l w .ret := fun a ha => wpIn_ret (h a ha)
theorem c_cond {c : Operand} {x y : Code} {b : Bool} (hc : ev l c = some (.bool b)) (ht : b = true → CodeI rd P Q N D l w x) (hf : b = false → CodeI rd P Q N D l w y) : CodeI rd P Q N D l w (.cond c x y) := fun a ha =>
  wpIn_cond_split (ha.ev hc) (fun h => ht h a ha) (fun h => hf h a ha)
theorem c_if {c : Operand} {x y : Code} {p : Prop} {dp : Decidable p} (hc : ev l c = some (.bool (@decide p dp))) (ht : p → CodeI rd P Q N D l w x) (hf : ¬ p → CodeI rd P Q N D l w y) : CodeI rd P Q N D l w (.cond c x y) :=
  I.c_cond hc (fun h => ht (of_decide_eq_true h)) (fun h => hf (of_decide_eq_false h))
theorem c_yes {c : Operand} {x y : Code} (hc : ev l c = some (.bool true)) (ht : CodeI rd P Q N D l w x) : CodeI rd P Q N D l w (.cond c x y) := I.c_cond hc (fun _ => ht) (fun h => by cases h)
theorem c_no {c : Operand} {x y : Code} (hc : ev l c = some (.bool false)) (hf : CodeI rd P Q N D l w y) : CodeI rd P Q N D l w (.cond c x y) := I.c_cond hc (fun h => by cases h) (fun _ => hf)
theorem c_cut {c : Code} {α : Type} (fr : α → Fr) (H : α → World → Prop) (h : CodeI rd P (Exit.then (fun a w' => ∃ x, At N D (fr x) a ∧ H x w') Q) N D l w c) (k : ∀ x w', H x w' → NormJ Q N D (fr x) w') : CodeI rd P Q N D l w c := fun a ha =>
  wpIn_mono (h a ha) fun e a' w' hq => by
    cases e with
    | normal =>
      obtain ⟨x, hx, hH⟩ := hq
      exact k x w' hH a' hx
    | _ => exact hq
theorem c_loop {c : Code} {α : Type} (fr : α → Fr) (H : α → World → Prop) (mu : α → Nat) (x0 : α) (hs : Sub (fr x0) l) (h0 : H x0 w)
    (round : ∀ x w', H x w' → CodeI rd P (Exit.then (fun a w'' => ∃ y, At N D (fr y) a ∧ H y w'' ∧ mu y < mu x) Q) N D (fr x) w' c) : CodeI rd P Q N D l w (.loop c) := fun a ha => by
  intro b k cs hro hb hr
  have go : ∀ (n : Nat) (x : α) (a : Act) (w : World), mu x < n → At N D (fr x) a → H x w →
      ∃ e a' w', Q e a' w' ∧ ArrivesIn (Machine.fenced P (FR rd)) P (lone (b.atR a (.code c :: .inLoop c :: k)) cs w) b k cs e a' w' := by
    intro n
    induction n with
    | zero => intro x a w hlt; omega
    | succ n ih =>
      intro x a w hlt hat hH
      obtain ⟨e, a1, w1, hq, harr⟩ := round x w hH a hat b (.inLoop c :: k) cs hro hb hr
      cases e with
      | normal =>
        obtain ⟨y, hy, hHy, hm⟩ := hq
        obtain ⟨e2, a2, w2, hq2, harr2⟩ := ih y a1 w1 (by omega) hy hHy
        exact ⟨e2, a2, w2, hq2, .of_steps (StepsIn.trans harr (.one (fenced_calm hb hr rfl) stepR_inLoop)) harr2⟩
      | exit id => exact ⟨_, a1, w1, hq, .pass (x := .inLoop c) rfl (fun _ _ => .inl (by simp)) harr⟩
      | goto l => exact ⟨_, a1, w1, hq, .pass (x := .inLoop c) rfl (fun _ _ => .inl (by simp)) harr⟩
      | ret => exact ⟨_, a1, w1, hq, .pass (x := .inLoop c) rfl (fun _ _ => .inl (by simp)) harr⟩
      | panic ch => exact ⟨_, a1, w1, hq, .pass (x := .inLoop c) rfl (fun _ _ => .inl (by simp)) harr⟩
      | outgrown => exact ⟨_, a1, w1, hq, .pass (x := .inLoop c) rfl (fun _ _ => .inl (by simp)) harr⟩
  obtain ⟨e, a', w', hq, harr⟩ := go (mu x0 + 1) x0 a w (by omega) (ha.weak hs) h0
  exact ⟨e, a', w', hq, .of_steps (.one (fenced_calm hb hr rfl) stepR_loop) harr⟩
theorem c_region {id : Nat} {os : List Oper} (hd : noDefer os = true) (h : OpsJ P os.toArray Q N D l w os)
    (hQ : ¬ LetsOut Q := by repeat with_reducible first | exact noOut_own | exact noOut_body | exact noOut_bodyM | apply noOut_then | apply noOut_block) : CodeI rd P Q N D l w (.region id os.toArray false) := fun a ha => by
  refine wpIn_region (opsIn_of hQ (.inr hd) _ _ _ ?_)
  have := wpOps_eq_wpList (P := P) (Q := Q) (ops := os.toArray) os 0 (by simp)
  rw [List.range_eq_range']
  simp only [List.size_toArray]
  rw [this]
  exact h a ha
/-- A region that draws its order (as c_growE). -/
theorem c_growE {id : Nat} {os : List Oper} (n : Nat) (ts : List Nat) (Env : World → Prop) (Rl : World → World → Prop) (mo : Bool) (Pn : List PanicEntry → World → Prop) (Z : Zst) (hE : EnvOk Env Rl) (he : Env w) (hZ : StableZ Z) (hz : Z w) (hP : ∀ c a w, a.defers = D → Pn c w → Q (.panic c) a w) (hcalls : mo = true → callsB .any os.toArray = true) (hm : P.follows .mixedOrders = true) (hB : Region.lexTailB .any os.toArray n = true) (hd : noDefer os = true)
    (h : wpF P os.toArray Env Rl mo Pn N (os.take n) (frF l) Z (fun F Z => ∀ w', Env w' → Z w' → OpenJ F w' ts (fun l' => OpsJ P os.toArray Q N D l' w' (os.drop n))))
    (hQ : ¬ LetsOut Q := by repeat with_reducible first | exact noOut_own | exact noOut_body | exact noOut_bodyM | apply noOut_then | apply noOut_block) : CodeI rd P Q N D l w (.region id os.toArray true) := fun a ha => by
  refine wpIn_region_draw fun t => opsIn_of hQ (.inr hd) _ _ _ ?_
  have hdr : Ext w { w with drawn := w.drawn + 1 } := ⟨rfl, rfl, rfl, Nat.le_refl _, fun _ _ => rfl⟩
  have key : wpAny P .any os.toArray Q os.toArray.size (Array.replicate os.toArray.size false) a { w with drawn := w.drawn + 1 } := by
    simp only [Region.lexTailB, Bool.and_eq_true, decide_eq_true_eq] at hB
    obtain ⟨⟨⟨⟨_, hn⟩, hs⟩, hc⟩, hlex⟩ := hB
    have hn' : n < os.length := by simpa using hn
    have htl : (os.take n).length = n := by simp; omega
    have hdl : (os.drop n).length = os.toArray.size - n := by simp
    have inv0 : HeadInv .any os.toArray n (Array.replicate os.toArray.size false) :=
      ⟨by simp, fun j oj _ hl => (by rw [getD_replicate_false] at hl; cases hl), fun t _ ht => getD_in (by simpa using ht) (getD_replicate_false _ _)⟩
    have h2 : wpF P os.toArray Env Rl mo Pn N (os.take n) (frF l) Z (fun F Z => ∀ a' w', Env w' → Sat N D F a' w' → Z w' → wpList P os.toArray Q (os.drop n) a' w') := wpF_mono _ _ _ (fun F Z hK a' w' he hs hz => by
      obtain ⟨l', hl', hk⟩ := OpenJ.use hs (hK w' he hz)
      exact hk a' hl') h
    have H := wpAnyF_lex (md := .any) (g := os.toArray.size - n) hcalls hs hc hn (os.take n) 0 _ _ _ (fun j hj => by
      have hj' : j < n := by rw [htl] at hj; exact hj
      simp [hj']) (by simpa using htl) inv0 (by rw [htl]; exact hlex) (frF_stable l) hZ h2
    have hsat : Sat N D (frF l) a { w with drawn := w.drawn + 1 } := ⟨ha.size, ha.defers, fun t => by
      show frF l t (a.tmps.getD t undef) _
      unfold frF
      cases hv : lk l t with
      | some v => exact ha.at_ t v hv
      | none => trivial⟩
    have := wpAny_of_facts (D := D) (Q' := Q) (g := os.toArray.size - n) hE hP (fun listed F Z hL hF hZ a' w' he hsat hz => by
      have := wpAny_of_seq (md := .any) (Q' := Q) (os.drop n) n listed a' w' (fun j => by simp [List.getElem?_drop]) (by rw [hdl]; exact hL.1) (hL.2 a' w' he hsat hz)
      rwa [hdl] at this) _ _ _ _ H (frF_stable l) hZ a { w with drawn := w.drawn + 1 } (hE.keep _ _ he (hE.ext _ _ hdr)) hsat (hZ _ _ hz hdr)
    rw [htl, show n + (os.toArray.size - n) = os.toArray.size by omega] at this
    exact this
  simp only [Region.schedule, hm, Bool.true_or, if_true]
  exact wpAny_sound os.toArray.size t _ a _ key
/-- A region that draws its order (as c_grow). -/
theorem c_grow {id : Nat} {os : List Oper} (n : Nat) (ts : List Nat) (hm : P.follows .mixedOrders = true) (hB : Region.lexTailB .any os.toArray n = true) (hd : noDefer os = true)
    (h : wpF P os.toArray (Ext w) Ext false NoP N (os.take n) (frF l) (fun _ => True) (fun F _ => ∀ w', Ext w w' → OpenJ F w' ts (fun l' => OpsJ P os.toArray Q N D l' w' (os.drop n))))
    (hQ : ¬ LetsOut Q := by repeat with_reducible first | exact noOut_own | exact noOut_body | exact noOut_bodyM | apply noOut_then | apply noOut_block) : CodeI rd P Q N D l w (.region id os.toArray true) :=
  c_growE n ts (Ext w) Ext false NoP (fun _ => True) (EnvOk.plain w) (Ext.refl w) StableZ.triv trivial (fun _ _ _ _ h => h.elim) (fun h => by cases h) hm hB hd (wpF_mono _ _ _ (fun _ _ h w' he _ => h w' he) h) hQ
end code
end I

/-! ### The statement -/
/-- The loop's left sides get their values. -/
def asT : List Oper → Array Value → Array Value
  | ⟨some d, .assign (.tmp s), _, _, _, none⟩ :: os, t => asT os (t.setIfInBounds d (t.getD s undef))
  | _, t => t
def asF : List Oper → Fr → Option Fr
  | [], l => some l
  | ⟨some d, .assign (.tmp s), _, _, _, none⟩ :: os, l => match lk l s with | some v => asF os ((d, v) :: l) | none => none
  | _, _ => none
theorem asT_wp : ∀ {os : List Oper} {l l' : Fr} {t : Array Value} {w : World} {ops : Array Oper} {Q : Post}, asF os l = some l' → Q .normal ⟨asT os t, []⟩ w → wpList P ops Q os ⟨t, []⟩ w
  | [], _, _, _, _, _, _, _, h => h
  | ⟨none, _, _, _, _, _⟩ :: _, _, _, _, _, _, _, hf, _ => by simp [asF] at hf
  | ⟨some d, op, ty, pos, aft, some g⟩ :: _, _, _, _, _, _, _, hf, _ => by unfold asF at hf; split at hf <;> simp_all
  | ⟨some d, op, ty, pos, aft, none⟩ :: os, l, l', t, w, ops, Q, hf, h => by
    unfold asF at hf
    split at hf
    · simp_all
    · rename_i d' s ty' pos' aft' os' heq
      obtain ⟨he, rfl⟩ := List.cons.inj heq
      injection he with e1 e2 e3 e4 e5 e6
      obtain rfl := Option.some.inj e1
      subst e2
      split at hf
      · refine wpList_plain rfl fun K hK => ?_
        have hr : (execOp (Act.eval ⟨t, []⟩) ⟨some d, .assign (.tmp s), ty, pos, aft, none⟩).run P w = .ok (.value (t.getD s undef)) w := by simp [execOp, Act.eval]
        unfold Oper.wp
        rw [hr]
        exact hK _ _ (asT_wp hf h)
      · cases hf
    · cases hf
theorem asT_at : ∀ {os : List Oper} {l l' : Fr} {t : Array Value} {N : Nat}, asF os l = some l' → (os.all fun o => match o.dst with | some d => Nat.blt d N | none => false) = true → At N [] l ⟨t, []⟩ → At N [] l' ⟨asT os t, []⟩
  | [], _, _, _, _, hf, _, h => by
    obtain rfl := Option.some.inj hf
    exact h
  | ⟨none, _, _, _, _, _⟩ :: _, _, _, _, _, hf, _, _ => by simp [asF] at hf
  | ⟨some d, op, ty, pos, aft, some g⟩ :: _, _, _, _, _, hf, _, _ => by unfold asF at hf; split at hf <;> simp_all
  | ⟨some d, op, ty, pos, aft, none⟩ :: os, l, l', t, N, hf, hd, h => by
    unfold asF at hf
    split at hf
    · simp_all
    · rename_i d' s ty' pos' aft' os' heq
      obtain ⟨he, rfl⟩ := List.cons.inj heq
      injection he with e1 e2 e3 e4 e5 e6
      obtain rfl := Option.some.inj e1
      subst e2
      simp only [List.all_cons, Bool.and_eq_true] at hd
      split at hf
      · rename_i v hv
        have h1 := h.put hd.1 v
        have hs : t.getD s undef = v := h.at_ s v hv
        have e : (⟨t, []⟩ : Act).put (some d) v = ⟨t.setIfInBounds d (t.getD s undef), []⟩ := by rw [hs]; rfl
        rw [e] at h1
        exact asT_at (os := os) hf hd.2 h1
      · cases hf
    · cases hf
def psF : List (Tmp × Value) → Fr → Fr
  | [], l => l
  | (p, v) :: ps, l => psF ps ((p, v) :: l)
theorem psF_at {N : Nat} : ∀ {ps : List (Tmp × Value)} {l : Fr} {t : Array Value}, (ps.all fun p => Nat.blt p.1 N) = true → At N [] l ⟨t, []⟩ → At N [] (psF ps l) ⟨ps.foldl (fun t (p, v) => t.setIfInBounds p v) t, []⟩
  | [], _, _, _, h => h
  | (p, v) :: ps, l, t, hp, h => by
    simp only [List.all_cons, Bool.and_eq_true] at hp
    exact psF_at (ps := ps) hp.2 (h.put hp.1 v)

/-- What is said of blocks that hold cells. -/
theorem c_rangeFunc {α : Type} {g : Operand} {ps : List Tmp} {id : Nat} {os : List Oper} {body : Code} {l : Fr} {w : World} {gf : Nat} {lb : Array Value} (hg : ev l g = some (.func (.func gf) #[] lb)) (hc : Callable P gf)
    {encs : α → List Value} {Kp : World → World → Prop} {S Sp : List α → Prop} {M : Nat} {w0 : World} (hseq : SeqStopsK Fence.wide 1 P gf lb (fun x => (encs x).toArray) Kp S Sp M w0)
    (hKt : ∀ {A B C : World}, Kp A B → Kp B C → Kp A C) (hKb : ∀ (W : World) (l : Nat) (o o' : Obj), w.heap.size ≤ l → W.heap[l]? = some o → o.isCells = false → o.isWalk = false → Kp W (W.putObj l o')) (hb0 : Below w0.heap.size w0 w) (hps : ∀ x, (encs x).length = ps.length)
    (I : List α → World → Prop) (Ix : Code → List α → World → Prop) (hI : OwnFrom w.heap.size I) (hIx : ∀ c, OwnFrom w.heap.size (Ix c)) (h0 : I [] w)
    (frb : α → Fr) (hfr : ∀ x, asF os (psF (ps.zip (encs x)) l) = some (frb x)) (hpN : (ps.all fun p => Nat.blt p N) = true) (hoN : (os.all fun o => match o.dst with | some d => Nat.blt d N | none => false) = true) (hoD : noDefer os = true)
    (hbody : ∀ (lp : Nat) (pre : List α) (x : α) (W : World), I pre W → pre.length < M → CodeI (some lp) P (ownPostG w.heap.size Kp I Ix (pre ++ [x]) W) N [] (frb x) W body)
    (hdone : ∀ (D0 : Nat) (xs : List α) (W : World), w.heap.size ≤ D0 → S xs → I xs W → W.heap[D0]? = some (.deferred (some [])) → NormJ Q N (⟨.collected D0, #[]⟩ :: D) l W)
    (hstop : ∀ (D0 : Nat) (c : Code) (pre : List α) (W : World), w.heap.size ≤ D0 → Sp pre → Ix c pre W → W.heap[D0]? = some (.deferred (some [])) → CodeJ P Q N (⟨.collected D0, #[]⟩ :: D) l W c) :
    CodeJ P Q N D l w (.rangeFunc g ps.toArray (.region id os.toArray false) body) := fun a ha => by
  refine (wpIn_wide (n := 2)).1 (wpIn_rangeFunc_ownG (F := Fence.wide) (n := 2) (encs := fun x => (encs x).toArray) rfl (by omega) (ha.ev hg) trivial (fun args w => run_callFunc hc args w) hseq (fun h k => hKt h k) hKb hb0 (fun x => by simp [hps x]) I Ix hI hIx h0
    (fun x => ⟨asT os ((ps.zip (encs x)).foldl (fun t (p, v) => t.setIfInBounds p v) a.tmps), []⟩) ?_ ?_ ?_ ?_)
  · intro lp x W K hK
    have e : (ps.toArray.zip (encs x).toArray).foldl (fun t (p, v) => t.setIfInBounds p v) a.tmps = (ps.zip (encs x)).foldl (fun t (p, v) => t.setIfInBounds p v) a.tmps := by simp
    rw [e]
    refine wpIn_region (opsIn_of (rd := some lp) (fun ⟨_, _, hq⟩ => hq) (.inr hoD) _ _ _ ?_)
    have := wpOps_eq_wpList (P := P) (Q := Exit.then K (fun _ _ _ => False)) (ops := os.toArray) os 0 (by simp)
    rw [List.range_eq_range']
    simp only [List.size_toArray]
    rw [this]
    exact asT_wp (hfr x) hK
  · intro lp pre x W hi hlen
    refine hbody lp pre x W hi hlen _ (asT_at (hfr x) hoN (psF_at (N := N) ?_ ⟨ha.size, rfl, ha.at_⟩))
    simp only [List.all_eq_true] at hpN ⊢
    rintro ⟨p, v⟩ hp
    exact hpN p (List.of_mem_zip hp).1
  · intro D0 xs W h1 h2 h3 h4
    exact hdone D0 xs W h1 h2 h3 h4 _ ⟨ha.size, by simp [ha.defers], ha.at_⟩
  · intro D0 c pre W h1 h2 h3 h4
    exact wpIn_wide.2 (hstop D0 c pre W h1 h2 h3 h4 _ ⟨ha.size, by simp [ha.defers], ha.at_⟩)

/-! ### A function that holds such a statement -/
theorem enterM {f : FuncId} {fn : Func} {c : Code} {vs : List Value} {w : World} {R : Ending → World → Prop} (hf : P.funcs[f]? = some fn) (hb : fn.body = some c) (hN : fn.ntmps = N) (hle : Nat.ble vs.length N = true)
    (h : CodeJ P (bodyPostM Fence.wide 0 P fn R) N [] (number 0 vs) w c) : Calls P f vs.toArray w R := by
  have hle' : vs.length ≤ N := by simpa using hle
  refine callsIn_wide.1 (callsIn_of_wp_marks (F := Fence.wide) (n := 0) hf hb trivial (wpIn_wide.2 (h _ ⟨?_, rfl, fun t v ht => ?_⟩)) rfl)
  · simp [hN]; omega
  · obtain ⟨_, h2⟩ := lk_number vs 0 t v ht
    have h2' : vs[t]? = some v := by simpa using h2
    have hlt : t < vs.length := by
      rcases Nat.lt_or_ge t vs.length with h | h
      · exact h
      · rw [List.getElem?_eq_none h] at h2'; cases h2'
    rw [List.getElem?_eq_getElem hlt] at h2'
    simpa [Array.getElem?_append, hlt] using h2'
section
variable {l : Fr} {w : World} {fn : Func} {R : Ending → World → Prop}
theorem m_body1 {t : Tmp} {v : Value} (hr : fn.results = #[.tmp t]) (hv : lk l t = some v) (h : R (.returned v) w) : ExitJ (bodyPostM Fence.wide 0 P fn R) N [] l w .ret := fun a ha => by
  show LeavesInM Fence.wide 0 P fn a.tmps R a.defers .returning w
  rw [ha.defers]
  exact ⟨v, by simp only [results, hr]; simp [← ha.at_ t v hv], h⟩
theorem m_body2 {t s : Tmp} {v u : Value} (hr : fn.results = #[.tmp t, .tmp s]) (hv : lk l t = some v) (hu : lk l s = some u) (h : R (.returned (.tuple #[v, u])) w) : ExitJ (bodyPostM Fence.wide 0 P fn R) N [] l w .ret := fun a ha => by
  show LeavesInM Fence.wide 0 P fn a.tmps R a.defers .returning w
  rw [ha.defers]
  exact ⟨.tuple #[v, u], by simp only [results, hr]; simp [← ha.at_ t v hv, ← ha.at_ s u hu], h⟩
/-- The block for the rounds' deferred calls is shut. -/
theorem k_body1 {D0 : Nat} {t : Tmp} {v : Value} (hr : fn.results = #[.tmp t]) (hv : lk l t = some v) (hD : w.heap[D0]? = some (.deferred (some []))) (h : ∀ w', w.grownBy w' (some D0) → R (.returned v) w') : ExitJ (bodyPostM Fence.wide 0 P fn R) N [⟨.collected D0, #[]⟩] l w .ret := fun a ha => by
  show LeavesInM Fence.wide 0 P fn a.tmps R a.defers .returning w
  rw [ha.defers]
  exact ⟨by simp, .inl ⟨D0, _, rfl, run_takeDeferred hD, v, by simp only [results, hr]; simp [← ha.at_ t v hv], h _ (grownBy_putObj' w D0 _)⟩⟩
theorem k_body2 {D0 : Nat} {t s : Tmp} {v u : Value} (hr : fn.results = #[.tmp t, .tmp s]) (hv : lk l t = some v) (hu : lk l s = some u) (hD : w.heap[D0]? = some (.deferred (some []))) (h : ∀ w', w.grownBy w' (some D0) → R (.returned (.tuple #[v, u])) w') : ExitJ (bodyPostM Fence.wide 0 P fn R) N [⟨.collected D0, #[]⟩] l w .ret := fun a ha => by
  show LeavesInM Fence.wide 0 P fn a.tmps R a.defers .returning w
  rw [ha.defers]
  exact ⟨by simp, .inl ⟨D0, _, rfl, run_takeDeferred hD, .tuple #[v, u], by simp only [results, hr]; simp [← ha.at_ t v hv, ← ha.at_ s u hu], h _ (grownBy_putObj' w D0 _)⟩⟩
end

/-! ### A function that calls yield -/
/-- Operations, some of which may call yield. -/
def OpsY (P : Program) (ops : Array Oper) (Q : Post) (N : Nat) (D : List Deferred) (l : Fr) (w : World) (os : List Oper) : Prop := ∀ a, At N D l a → wpListIn Fence.wide 0 P ops Q os a w
theorem y_region {id : Nat} {os : List Oper} {l : Fr} {w : World} (h : OpsY P os.toArray Q N D l w os) : CodeJ P Q N D l w (.region id os.toArray false) := fun a ha => wpIn_wide.1 (wpIn_region_lit (h a ha))
theorem listIn_of (hQ : ¬ LetsOut Q) : ∀ {xs ys : List Oper} {a : Act} {w : World}, wpList P ops (Exit.then (fun a w => wpListIn Fence.wide 0 P ops Q ys a w) Q) xs a w → wpListIn Fence.wide 0 P ops Q (xs ++ ys) a w
  | [], _, _, _, h => h
  | o :: xs, ys, a, w, h => by
    unfold wpList at h
    rw [List.cons_append]
    unfold wpListIn
    split
    · rename_i hw
      rw [if_pos hw] at h
      have h2 := operIn_of (P := P) (rd := none) (n := 0) (o := o) (.inl rfl) (fun a w h => listIn_of hQ (xs := xs) (ys := ys) h) (h.resolve_right fun h => hQ (Classical.byContradiction fun hn => noOut_then hn h.2))
      refine ⟨h2.1, ?_⟩
      have h3 : o.uponIn Fence.wide 0 P a (fun a w => wpListIn Fence.wide 0 P ops Q (xs ++ ys) a w) (Exit.then (fun a w => wpListIn Fence.wide 0 P ops Q ys a w) Q) ((o.semAt Fence.wide.round a.eval).run P w) := h2.2
      generalize (o.semAt Fence.wide.round a.eval).run P w = r at h3 ⊢
      cases r with
      | ok x w' =>
        cases x with
        | value v => exact h3
        | skip => exact h3
        | defer d => exact h3
        | enter f args =>
          refine ⟨h3.1, CallsIn.mono h3.2 ?_⟩
          intro e w'' he
          cases e with
          | returned v => exact he
          | panicked c => exact he
          | outgrown => exact he
        | row s args => exact h3
        | round _ _ _ _ _ =>
          refine ⟨h3.1, RoundIn.mono h3.2 ?_⟩
          intro e w'' he
          cases e with
          | returned v => exact he
          | panicked c => exact he
          | outgrown => exact he
        | _ => exact h3
      | halt x w' =>
        cases x with
        | panic v => exact h3
        | _ => exact h3
    · rename_i hw
      rw [if_neg hw] at h
      exact ⟨fun _ _ => trivial, listIn_of hQ h⟩
/-- The first k operations are walked plainly. -/
theorem y_split (k : Nat) {os : List Oper} {l : Fr} {w : World} (h : OpsJ P ops (Exit.then (fun a w => wpListIn Fence.wide 0 P ops Q (os.drop k) a w) Q) N D l w (os.take k))
    (hQ : ¬ LetsOut Q := by repeat with_reducible first | exact noOut_own | exact noOut_body | exact noOut_bodyM | apply noOut_then | apply noOut_block) : OpsY P ops Q N D l w os := fun a ha => by
  have := listIn_of hQ (h a ha)
  rwa [List.take_append_drop] at this
theorem n_y {os : List Oper} {l : Fr} {w : World} {Q' : Post} (h : OpsY P ops Q N D l w os) : NormJ (Exit.then (fun a w => wpListIn Fence.wide 0 P ops Q os a w) Q') N D l w := fun a ha => h a ha
theorem y_tail {os : List Oper} {l : Fr} {w : World} (h : OpsJ P ops Q N D l w os)
    (hQ : ¬ LetsOut Q := by repeat with_reducible first | exact noOut_own | exact noOut_body | exact noOut_bodyM | apply noOut_then | apply noOut_block) : OpsY P ops Q N D l w os := fun a ha => by
  have := listIn_of hQ (ys := []) (P := P) (ops := ops) (Q := Q) (xs := os) (a := a) (w := w) ?_
  · rwa [List.append_nil] at this
  · have hmono : ∀ (os : List Oper) (a : Act) (w : World), wpList P ops Q os a w → wpList P ops (Exit.then (fun a w => wpListIn Fence.wide 0 P ops Q [] a w) Q) os a w := by
      intro os a w h
      have e : (Exit.then (fun a w => wpListIn Fence.wide 0 P ops Q [] a w) Q) = Q := by
        funext e a w
        cases e <;> rfl
      rw [e]; exact h
    exact hmono _ _ _ (h a ha)
theorem y_yield {x : Operand} {xs : List Operand} {vs : List Value} {ts : Array TypeId} {lp d : Nat} {ty : TypeId} {pos : String} {aft : Array Edge} {rest : List Oper} {l : Fr} {w : World} {R : Ending → World → Prop} (hx : ev l x = some (.func (.yield lp) #[] #[])) (hp : evs l xs = some vs) (hd : Nat.blt d N = true)
    (hY : YieldAt Fence.wide 0 P lp vs.toArray w R) (k : ∀ e w', R e w' → ∃ v, e = .returned v ∧ OpsY P ops Q N D ((d, v) :: l) w' rest) : OpsY P ops Q N D l w (⟨some d, .call { callee := .value x, args := xs.toArray, argTypes := ts }, ty, pos, aft, none⟩ :: rest) := fun a ha => by
  obtain ⟨fn, tmps, assign, body, hy, hR⟩ := hY
  unfold wpListIn
  rw [if_pos (by rfl)]
  refine ⟨fun _ _ => trivial, ?_⟩
  have hr : (Oper.semAt Fence.wide.round a.eval ⟨some d, .call { callee := .value x, args := xs.toArray, argTypes := ts }, ty, pos, aft, none⟩).run P w = .ok (.round lp fn tmps assign body) w := by
    rw [Oper.semAt_eq _ _ _ (by intro c hc; cases hc)]
    have hρ : Agree l a.eval := fun x v hx => ha.ev hx
    simp only [execOp, resolve, List.map_toArray, evs_ok hρ hp, hρ x _ hx, Deferred.ofValue, Sem.run_bind, Sem.run_pure, Result.andThen_ok, invoke, Array.empty_append, hy]
  rw [hr]
  refine ⟨fun hd => absurd hd (FR_depth none), RoundIn.mono hR ?_⟩
  intro e w' he
  obtain ⟨v, rfl, hk⟩ := k e w' he
  exact hk _ (ha.put hd v)
end
end Go.Rl
/- Arrays that lie in a block: runs. Conditions: each names its own. -/
namespace Go.Rl
open Go.RowKit Go.Proofs

section
variable {P : Program} {w w' : World} {t e T : TypeId} {n g o : Nat} {l : List Value}

/-- Block g holds these cells. -/
def Blk (g : Nat) (T : TypeId) (l : List Value) (w : World) : Prop := w.heap[g]? = some (.cells l.toArray T (0, 0))
theorem Blk.ext (h : Blk g T l w) (hx : Ext w w') : Blk g T l w' := hx.heap_some h
theorem Blk.lt (h : Blk g T l w) : g < w.heap.size := (Array.getElem?_eq_some_iff.1 h).1
theorem Blk.other {row : Option Nat} (h : Blk g T l w) (hg : w.grownBy w' row) (hne : some g ≠ row) : Blk g T l w' := (hg.block g h.lt hne).trans h
theorem Blk.cell (h : Blk g T l w) {i : Nat} {v : Value} (hi : l[i]? = some v) : w.cell? ⟨g, i, none⟩ = some v := cellAt h (by simpa using hi)
theorem Blk.set (h : Blk g T l w) (i : Nat) (u : Value) : Blk g T (l.set i u) (w.setCell ⟨g, i, none⟩ u) := by
  have := heap_set h i u
  simpa [Blk] using this
theorem Blk.new (v : Value) (hv : v.cells = l.toArray) : Blk w.heap.size T l (w.alloc (.cells v.cells T)) := by
  have := heap_alloc_new w (.cells v.cells T)
  rw [hv] at this ⊢
  exact this
theorem Blk.range (h : Blk g T l w) {m : List Value} (hm : ∀ j v, m[j]? = some v → l[o + j]? = some v) : w.rangeAt g o m := fun j v hj => h.cell (hm j v hj)

theorem r_ixA (ht : P.underlying t = some (.array n e)) (hs : (P.info? e).map (·.size) = some 1) {i : Nat} (hi : i < n) (k : IntKind) :
    (Instr.indexAt t (.pointer (some ⟨g, o, none⟩)) (.int k i)).run P w = .ok (.pointer (some ⟨g, o + i, none⟩)) w := by
  simp [Instr.indexAt, asIntOf, run_underlying ht, Instr.sureAddr, r_sizeOf hs, hi, Addr.add_mid]
theorem r_idx (ht : P.underlying t = some (.array n e)) (hs : (P.info? e).map (·.size) = some 1) {q : IntKind} (he : P.underlying e = some (.int q)) {i : Nat} (hi : i < n) (k : IntKind) {v : Value} (hv : l[i]? = some v) :
    (Instr.index t (.agg l.toArray) (.int k i)).run P w = .ok v w := by
  have hagg : (isAgg e).run P w = .ok false w := by simp [isAgg, run_underlying he]
  have hpart : (part e l.toArray i).run P w = .ok v w := by simp [part, hagg, hv]
  simp [Instr.index, asIntOf, run_underlying ht, hi, r_sizeOf hs, hpart]
theorem r_ldA {d : TypeDesc} {m : List Value} (h : Blk g T l w) (hm : ∀ j v, m[j]? = some v → l[o + j]? = some v) (hu : P.underlying t = some d) (hd : d.isRow = true) (hi : (P.info? t).map (·.size) = some m.length) :
    (Instr.loadAt t (.pointer (some ⟨g, o, none⟩))).run P w = .ok (.agg m.toArray) w := run_loadAt_mid w g o t m d (h.range hm) hu hd hi
/-- the whole block written anew -/
theorem r_stA {m : List Value} (h : Blk g T l w) (hl : l.length = m.length) (hi : (P.info? t).map (·.size) = some m.length) (h1 : ∀ v ∈ m, v.oneCell' = true) :
    (Instr.storeAt t (.pointer (some ⟨g, 0, none⟩)) (.agg m.toArray)).run P w = .ok () (w.setRow g m.toArray) := by
  have := run_storeVar_row (P := P) w g T t l.toArray m.toArray h (by simpa using hi) (by simpa using hl) (by simpa using h1)
  simp only [Instr.storeAt, Instr.sureAddr, Sem.run_bind, Sem.run_pure, Result.andThen_ok, this]
theorem Blk.row (h : Blk g T l w) (m : List Value) : Blk g T m (w.setRow g m.toArray) := setRow_heap w g _ _ T (0, 0) h
theorem grownBy_setRow (w : World) (g : Nat) (cs : Array Value) : w.grownBy (w.setRow g cs) (some g) :=
  ⟨rfl, rfl, rfl, by simp [World.setRow], fun k _ hne => setRow_other w g k cs fun e => hne (by rw [e])⟩
/-- a slice of an array that lies in a block -/
theorem r_slA_lo (ht : P.underlying t = some (.array n e)) (hs : (P.info? e).map (·.size) = some 1) {lo : Nat} (hi : lo < n) (k : IntKind) :
    (Instr.sliceAt t (.pointer (some ⟨g, o, none⟩)) (some (.int k lo)) none none).run P w = .ok (.slice (some ⟨g, o + lo, none⟩) (n - lo) (n - lo)) w := by
  have hb : (Instr.sliceBounds false n n (some (.int k lo)) none none).run P w = .ok (lo, n, n) w := by
    have a2 := run_sliceBound (P := P) (w := w) k (lo : Int) n .sliceB (by omega) (by omega)
    simp only [Int.toNat_natCast] at a2
    simp [Instr.sliceBounds, a2]
  have hne : ¬ n = lo := by omega
  simp [Instr.sliceAt, run_underlying ht, Instr.sureAddr, hb, r_sizeOf hs, hne, Addr.add_mid]
/-- A result that lies in a cell. -/
theorem r_bodyc {fn : Func} {R : Ending → World → Prop} {N : Nat} {fr : Fr} {p : Tmp} {d : TypeDesc} (hr : fn.results = #[.cell p t]) (hv : lk fr p = some (.pointer (some ⟨g, 0, none⟩))) (hb : Blk g T l w) (hu : P.underlying t = some d) (hd : d.isRow = true) (hi : (P.info? t).map (·.size) = some l.length)
    (h : R (.returned (.agg l.toArray)) w) : ExitJ (bodyPost P fn R) N [] fr w .ret := fun a ha =>
  ⟨ha.defers, .agg l.toArray, results_cell_row hr a.tmps w g T l.toArray (0, 0) d (ha.at_ p _ hv) hb hu (by cases d <;> first | rfl | exact hd) (by simpa using hi), h⟩
theorem one_of (m : List UInt32) : ∀ v ∈ m.map U32, v.oneCell' = true := by
  intro u hu
  obtain ⟨b, _, rfl⟩ := List.mem_map.1 hu
  rfl
end
theorem r_allocB {P : Program} {w : World} {t : TypeId} {z : Value} {l : List Value} (h : (P.info? t).map (·.zero) = some (some z)) (hv : z.cells = l.toArray) : ∃ g w', (Instr.alloc t true (.tuple #[])).run P w = .ok (.pointer (some ⟨g, 0, none⟩)) w' ∧ w.heap.size ≤ g ∧ Ext w w' ∧ Blk g t l w' :=
  ⟨_, _, r_alloc h, Nat.le_refl _, Ext.new w _, Blk.new z hv⟩
end Go.Rl
/- Function values, maps, rows of integers: rules and runs. Conditions: each names its own. -/
namespace Go.Rl
open Go.RowKit Go.Proofs

/-! ### Function values -/
section ops
variable {P : Program} {ops : Array Oper} {Q : Post} {N : Nat} {D : List Deferred} {l : Fr} {w w' : World} {rest : List Oper} {d : Nat} {ty : TypeId} {pos : String} {aft : Array Edge}
theorem o_makeFunc {fn : Fn} {fs cs : List Operand} {us vs : List Value} (hf : evs l fs = some us) (hc : evs l cs = some vs) (hd : Nat.blt d N = true) (k : OpsJ P ops Q N D ((d, .func fn us.toArray vs.toArray) :: l) w rest) : OpsJ P ops Q N D l w (⟨some d, .makeFunc fn fs.toArray cs.toArray, ty, pos, aft, none⟩ :: rest) :=
  o_run hd (fun ρ hρ => by
    have : execOp ρ ⟨some d, .makeFunc fn fs.toArray cs.toArray, ty, pos, aft, none⟩ = (do pure (Next.value (← Instr.makeFunc fn (fs.toArray.map ρ) (cs.toArray.map ρ))) : Sem Next) := rfl
    rw [this, List.map_toArray, List.map_toArray, evs_ok hρ hf, evs_ok hρ hc]; rfl) k
/-- A call of a function value. -/
theorem o_callfn {f : FuncId} {x : Operand} {fs lb : Array Value} {xs : List Operand} {vs : List Value} {ts : Array TypeId} {T : Value → World → Prop} (hx : ev l x = some (.func (.func f) fs lb)) (hf : Callable P f) (hp : evs l xs = some vs) (hd : Nat.blt d N = true) (hc : Calls P f (fs ++ vs.toArray ++ lb) w (Ret T))
    (k : ∀ v w', T v w' → OpsJ P ops Q N D ((d, v) :: l) w' rest) : OpsJ P ops Q N D l w (⟨some d, .call { callee := .value x, args := xs.toArray, argTypes := ts }, ty, pos, aft, none⟩ :: rest) := fun a ha => by
  refine wpList_plain rfl fun K hK => ?_
  unfold Oper.wp
  have hr : (execOp a.eval ⟨some d, .call { callee := .value x, args := xs.toArray, argTypes := ts }, ty, pos, aft, none⟩).run P w = .ok (.enter f (fs ++ vs.toArray ++ lb)) w := by
    have hρ : Agree l a.eval := fun x v hx => ha.ev hx
    simp only [execOp, resolve, List.map_toArray, evs_ok hρ hp, hρ x _ hx, Deferred.ofValue, Sem.run_bind, Sem.run_pure, Result.andThen_ok, invoke, run_callFunc hf]
  rw [hr]
  refine hc.mono ?_
  rintro e w' ⟨v, rfl, hv⟩
  exact hK _ _ (k v w' hv _ (ha.put hd v))
theorem o_makeMap {t : TypeId} (hd : Nat.blt d N = true) (k : OpsJ P ops Q N D ((d, .map (some w.heap.size)) :: l) (w.alloc (.map #[] 0)) rest) : OpsJ P ops Q N D l w (⟨some d, .makeMap t none, ty, pos, aft, none⟩ :: rest) :=
  o_run hd (fun ρ _ => by
    have : execOp ρ ⟨some d, .makeMap t none, ty, pos, aft, none⟩ = (do pure (Next.value (← Instr.makeMap t none)) : Sem Next) := rfl
    rw [this]
    rfl) k
theorem o_lookup {t : TypeId} {x y : Operand} {u v r : Value} {ok : Bool} (hx : ev l x = some u) (hy : ev l y = some v) (hd : Nat.blt d N = true) (hrun : (Instr.lookup t u v ok).run P w = .ok r w) (k : OpsJ P ops Q N D ((d, r) :: l) w rest) : OpsJ P ops Q N D l w (⟨some d, .lookup t x y ok, ty, pos, aft, none⟩ :: rest) :=
  o_run hd (fun ρ hρ => by
    have : execOp ρ ⟨some d, .lookup t x y ok, ty, pos, aft, none⟩ = (do pure (Next.value (← Instr.lookup t (ρ x) (ρ y) ok)) : Sem Next) := rfl
    rw [this, hρ x _ hx, hρ y _ hy, Sem.run_bind, hrun]; rfl) k
theorem o_mapEntry {t : TypeId} {x y : Operand} {u v r : Value} (hx : ev l x = some u) (hy : ev l y = some v) (hd : Nat.blt d N = true) (hrun : (Instr.mapEntry t u v).run P w = .ok r w') (k : OpsJ P ops Q N D ((d, r) :: l) w' rest) : OpsJ P ops Q N D l w (⟨some d, .mapEntry t x y, ty, pos, aft, none⟩ :: rest) :=
  o_run hd (fun ρ hρ => by
    have : execOp ρ ⟨some d, .mapEntry t x y, ty, pos, aft, none⟩ = (do pure (Next.value (← Instr.mapEntry t (ρ x) (ρ y))) : Sem Next) := rfl
    rw [this, hρ x _ hx, hρ y _ hy, Sem.run_bind, hrun]; rfl) k
theorem o_entryStore {t : TypeId} {x y z : Operand} {u v r : Value} (hx : ev l x = some u) (hy : ev l y = some v) (hz : ev l z = some r) (hrun : (Instr.entryStore t u v r).run P w = .ok () w') (k : OpsJ P ops Q N D l w' rest) : OpsJ P ops Q N D l w (⟨none, .entryStore t x y z, ty, pos, aft, none⟩ :: rest) :=
  o_act (fun ρ hρ => by
    have : execOp ρ ⟨none, .entryStore t x y z, ty, pos, aft, none⟩ = (do Instr.entryStore t (ρ x) (ρ y) (ρ z); pure Next.skip : Sem Next) := rfl
    rw [this, hρ x _ hx, hρ y _ hy, hρ z _ hz, Sem.run_bind, hrun]; rfl) k
theorem o_mapUpdate {t : TypeId} {x y z : Operand} {u v r : Value} (hx : ev l x = some u) (hy : ev l y = some v) (hz : ev l z = some r) (hrun : (Instr.mapUpdate t u v r).run P w = .ok () w') (k : OpsJ P ops Q N D l w' rest) : OpsJ P ops Q N D l w (⟨none, .mapUpdate t x y z, ty, pos, aft, none⟩ :: rest) :=
  o_act (fun ρ hρ => by
    have : execOp ρ ⟨none, .mapUpdate t x y z, ty, pos, aft, none⟩ = (do Instr.mapUpdate t (ρ x) (ρ y) (ρ z); pure Next.skip : Sem Next) := rfl
    rw [this, hρ x _ hx, hρ y _ hy, hρ z _ hz, Sem.run_bind, hrun]; rfl) k
end ops
section fops
variable {P : Program} {ops : Array Oper} {Env : World → Prop} {Rl : World → World → Prop} {mo : Bool} {Pn : List PanicEntry → World → Prop} {Z : Zst} {N : Nat} {F : Facts} {K : Facts → Zst → Prop} {rest : List Oper} {d : Nat} {ty : TypeId} {pos : String} {aft : Array Edge}
theorem f_lookupS {t : TypeId} {x y : Operand} {S R S' : Fact} {ok : Bool} (hx : look F x = S) (hy : look F y = R) (hst : StableR Rl S') (hd : Nat.blt d N = true) (hrun : ∀ w u v, Env w → S u w → R v w → ∃ r, (Instr.lookup t u v ok).run P w = .ok r w ∧ S' r w)
    (k : wpF P ops Env Rl mo Pn N rest (upd F (some d) S') Z K) : wpF P ops Env Rl mo Pn N (⟨some d, .lookup t x y ok, ty, pos, aft, none⟩ :: rest) F Z K :=
  f_gen (xs := [x, y]) (f := fun | [a, b] => Instr.lookup t a b ok | _ => stuck "") (fun _ => rfl) (by simp [Op.operands]) hst hd (fun w hw u hu v hv => by
    subst hx; subst hy
    obtain ⟨r, h1, h2⟩ := hrun w u v hw hu hv
    exact ⟨r, w, h1, Ext.refl _, h2⟩) k
end fops

/-! ### Rows of integers -/
theorem info_int : (Try.prog.info? 3).map (fun i => (i.zero, i.size, i.bytes)) = some (some (.int .i64 0), 1, 8) := by kernel_rfl
theorem size_int : (Try.prog.info? 3).map (·.size) = some 1 := by kernel_rfl
section
variable {w w' : World} {base : Nat}
/-- The slice of integers reads as the list. -/
def Its (l : List Int) : Fact := Sl 1 (l.map I)
/-- .. and lies in a row of its own. -/
def OwnI (base : Nat) (l : List Int) : Fact := fun v w => ∃ n, w.ownsRow base 3 1 v n (l.map I)
theorem OwnI.its {l : List Int} {v : Value} (h : OwnI base l v w) : Its l v w := h.elim fun _ h => Sl.of_own h
theorem OwnI.ext {l : List Int} {v : Value} (h : OwnI base l v w) (hx : Ext w w') : OwnI base l v w' := h.elim fun n h => ⟨n, ownsRow_ext h hx⟩
theorem OwnI.stable (base : Nat) (l : List Int) : Stable (OwnI base l) := fun _ _ _ h hx => h.ext hx
theorem Its.stable (l : List Int) : Stable (Its l) := Sl.stable _ _
theorem OwnI.nil (base : Nat) (w : World) : OwnI base [] (.slice none 0 0) w := ⟨0, World.ownsRow_nil _ _ _ _⟩
theorem OwnI.lt {l : List Int} {v : Value} (h : OwnI base l v w) : ∀ k, v.ownBlock = some k → base ≤ k ∧ k < w.heap.size := fun k hk => h.elim fun _ h => World.ownsRow.lt h k hk
theorem OwnI.kept {l : List Int} {v : Value} (h : OwnI base l v w) {row : Option Nat} (hg : w.grownBy w' row) (hne : v.ownBlock = none ∨ v.ownBlock ≠ row) : OwnI base l v w' :=
  h.elim fun n h => ⟨n, World.ownsRow.kept h hg hne⟩
/-- Only its own block counts. -/
theorem OwnI.same {l : List Int} {v : Value} (h : OwnI base l v w) (hb : ∀ k, v.ownBlock = some k → w'.heap[k]? = w.heap[k]?) : OwnI base l v w' := by
  obtain ⟨n, h1, h2⟩ := h
  refine ⟨n, h1, ?_⟩
  rcases h2 with h2 | ⟨g, cap, cur, rfl, h3, h4, h5⟩
  · exact .inl h2
  · exact .inr ⟨g, cap, cur, rfl, h3, (hb g rfl).trans h4, h5⟩
theorem OwnI.isSlice {l : List Int} {v : Value} (h : OwnI base l v w) : ∃ A n c, v = .slice A n c := by
  obtain ⟨n, h1, h2⟩ := h
  rcases h2 with ⟨rfl, _⟩ | ⟨g, cap, cur, rfl, _⟩
  · exact ⟨_, _, _, rfl⟩
  · exact ⟨_, _, _, rfl⟩
theorem one_I (l : List Int) : ∀ u ∈ l.map I, u.oneCell' = true := by
  intro u hu
  obtain ⟨b, _, rfl⟩ := List.mem_map.1 hu
  rfl
theorem r_appI {l m : List Int} {v x : Value} {ty : TypeId} (hv : OwnI base l v w) (hx : Its m x w) (hb : l.length + m.length ≤ 17592186044416) (hbase : base ≤ w.heap.size) :
    ∃ r w', (Builtin.append_ #[22, 22] ty #[v, x]).run Try.prog w = .ok r w' ∧ OwnI base (l ++ m) r w' ∧ Grew w w' v r := by
  obtain ⟨n, hv⟩ := hv
  obtain ⟨r, w', n', h1, h2, h3⟩ := r_append (P := Try.prog) (ty := ty) Try.underlying22 info_int rfl (by omega) hv hx (one_I m) (by simp; omega) (by omega) hbase
  exact ⟨r, w', h1, ⟨n', by rw [List.map_append]; exact h2⟩, h3⟩
theorem r_bsI (base : Nat) (l : List Int) (hl : l.length ≤ 16777216) (hb : base ≤ w.heap.size) :
    ∃ r w', (Instr.buildSlice 22 l.length (number 0 (l.map I)).toArray).run Try.prog w = .ok r w' ∧ Ext w w' ∧ OwnI base l r w' ∧ r.ownBlock = some w.heap.size := by
  have := r_buildSlice (P := Try.prog) (w := w) Try.underlying22 info_int (l.map I) (one_I l) (by simpa using hl) hb
  simp only [List.length_map] at this
  obtain ⟨r, w', h1, h2, h3, h4⟩ := this
  exact ⟨r, w', h1, h2, ⟨_, h3⟩, h4⟩
theorem r_lenI {l : List Int} {v : Value} {ty : TypeId} (h : Its l v w) : (Builtin.len_ #[22] ty #[v]).run Try.prog w = .ok (I l.length) w := by
  obtain ⟨n, hl, _, hr⟩ := r_len (P := Try.prog) (ty := ty) Try.underlying22 h
  have : l.length = n := by simpa using hl
  rw [hr, this]
theorem r_ixI {l : List Int} {v : Value} (h : Its l v w) {i : Nat} (hi : i < l.length) (k : IntKind) :
    ∃ ad, (∀ w' : World, (Instr.indexAt 22 v (.int k i)).run Try.prog w' = .ok (.pointer (some ad)) w') ∧ w.cell? ad = some (I l[i]) := by
  obtain ⟨ad, h3, h4⟩ := r_index (P := Try.prog) Try.underlying22 size_int h (i := i) (by simp; omega) (by omega) k
  refine ⟨ad, h3, ?_⟩
  have := h4 0 (I l[i]) (by simp [hi])
  rwa [add_zero] at this
end

/-! ### What may move -/
/-- Only blocks of X, and new ones, may differ. -/
structure Mv (X : Nat → Prop) (w w' : World) : Prop where
  os : w'.os = w.os
  tape : w'.tape = w.tape
  output : w'.output = w.output
  size : w.heap.size ≤ w'.heap.size
  keep : ∀ k, k < w.heap.size → ¬ X k → w'.heap[k]? = w.heap[k]?
section
variable {X Y : Nat → Prop} {w w1 w2 : World}
theorem Mv.refl (X : Nat → Prop) (w : World) : Mv X w w := ⟨rfl, rfl, rfl, Nat.le_refl _, fun _ _ _ => rfl⟩
theorem Mv.trans (h : Mv X w w1) (k : Mv Y w1 w2) (hY : ∀ n, Y n → n < w.heap.size → X n) : Mv X w w2 :=
  ⟨k.os.trans h.os, k.tape.trans h.tape, k.output.trans h.output, Nat.le_trans h.size k.size, fun n hn hx => (k.keep n (Nat.lt_of_lt_of_le hn h.size) (fun hy => hx (hY n hy hn))).trans (h.keep n hn hx)⟩
theorem Mv.of_ext (h : Ext w w1) : Mv X w w1 := ⟨h.os, h.tape, h.output, h.size, fun _ hn _ => h.heap hn⟩
theorem Mv.of_grown {row : Option Nat} (h : w.grownBy w1 row) (hr : ∀ k, row = some k → k < w.heap.size → X k) : Mv X w w1 :=
  ⟨h.os, h.tape, h.output, h.size, fun n hn hx => h.block n hn (fun e => hx (hr n e.symm hn))⟩
theorem Mv.ext (h : Mv X w w1) (hX : ∀ k, X k → w.heap.size ≤ k) : Ext w w1 := ⟨h.os, h.tape, h.output, h.size, fun n hn => h.keep n hn fun hx => by have := hX n hx; omega⟩
theorem Mv.ext_from {w0 : World} (h : Mv X w w1) (h0 : Ext w0 w) (hX : ∀ k, X k → w0.heap.size ≤ k) : Ext w0 w1 :=
  ⟨Eq.trans h.os h0.os, Eq.trans h.tape h0.tape, Eq.trans h.output h0.output, Nat.le_trans h0.size h.size, fun n hn => (h.keep n (Nat.lt_of_lt_of_le hn h0.size) fun hx => by have := hX n hx; omega).trans (h0.heap hn)⟩
theorem Mv.weak (h : Mv X w w1) (hXY : ∀ k, X k → k < w.heap.size → Y k) : Mv Y w w1 := ⟨h.os, h.tape, h.output, h.size, fun n hn hy => h.keep n hn fun hx => hy (hXY n hx hn)⟩
theorem Mv.blk {g : Nat} {T : TypeId} {l : List Value} (h : Mv X w w1) (hb : Blk g T l w) (hx : ¬ X g) : Blk g T l w1 := (h.keep g hb.lt hx).trans hb
theorem Mv.ownB {base : Nat} {l : List UInt8} {v : Value} (h : Mv X w w1) (ho : OwnB base l v w) (hx : ∀ k, v.ownBlock = some k → ¬ X k) : OwnB base l v w1 := by
  obtain ⟨n, h1, h2⟩ := ho
  refine ⟨n, h1, ?_⟩
  rcases h2 with h2 | ⟨g, cap, cur, rfl, h3, h4, h5⟩
  · exact .inl h2
  · exact .inr ⟨g, cap, cur, rfl, h3, (h.keep g (Array.getElem?_eq_some_iff.1 h4).1 (hx g rfl)).trans h4, h5⟩
theorem Mv.ownI {base : Nat} {l : List Int} {v : Value} (h : Mv X w w1) (ho : OwnI base l v w) (hx : ∀ k, v.ownBlock = some k → ¬ X k) : OwnI base l v w1 :=
  ho.same fun k hk => h.keep k (ho.lt k hk).2 (hx k hk)
end

/-! ### Maps -/
section
variable {P : Program} {w : World} {t k e : TypeId} {m : Nat} {es : List MapEntry} {clock : Nat} {x : Value}
open Go.Maps (Keyed)
/-- The keys of a map are keys. -/
def KeysOk (P : Program) (k : TypeId) (es : List MapEntry) : Prop := ∀ e ∈ es, ∃ l, keyOf P k e.key = some l
theorem r_lookup (K : Keyed P k) (ht : P.underlying t = some (.map k e)) {z : Value} (hz : (P.info? e).map (·.zero) = some (some z)) (hm : w.heap[m]? = some (.map es.toArray clock)) (hk : KeysOk P k es) {lx : Lit} (hx : keyOf P k x = some lx) :
    ((Instr.lookup t (.map (some m)) x false).run P w = .ok z w ∧ (Instr.lookup t (.map (some m)) x true).run P w = .ok (.tuple #[z, .bool false]) w ∧ ∀ e ∈ es, e.key ≠ x) ∨
    ∃ (j : Nat) (e : MapEntry), (Instr.lookup t (.map (some m)) x false).run P w = .ok e.val w ∧ (Instr.lookup t (.map (some m)) x true).run P w = .ok (.tuple #[e.val, .bool true]) w ∧ es[j]? = some e ∧ e.key = x := by
  have hc := fun em => K.check w em hx
  rcases K.find w hx es hk with ⟨h1, h2⟩ | ⟨j, e0, h1, h2, h3⟩
  · refine .inl ⟨?_, ?_, h2⟩ <;> simp [Instr.lookup, run_underlying ht, MapKept.run_getObj_map hm, hc, h1, r_zero hz, Result.andThen]
  · refine .inr ⟨j, e0, ?_, ?_, h2, h3⟩ <;> simp [Instr.lookup, run_underlying ht, MapKept.run_getObj_map hm, hc, h1, Result.andThen]
theorem putObj_at {w : World} {m : Nat} {o o' : Obj} (h : w.heap[m]? = some o) : (w.putObj m o').heap[m]? = some o' := World.putObj_heap_same (Array.getElem?_eq_some_iff.1 h).1
theorem run_setObj_map {o' : Obj} (hm : w.heap[m]? = some (.map es.toArray clock)) : (setObj m o').run P w = .ok () (w.putObj m o') := by
  simp [setObj, Sem.run, hm, World.putObj]
theorem r_mapEntry (K : Keyed P k) (ht : P.underlying t = some (.map k e)) {z : Value} (hz : (P.info? e).map (·.zero) = some (some z)) (hm : w.heap[m]? = some (.map es.toArray clock)) (hk : KeysOk P k es) {lx : Lit} (hx : keyOf P k x = some lx) :
    ∃ w', w.grownBy w' (some m) ∧ ((∃ (j : Nat) (e : MapEntry), es[j]? = some e ∧ e.key = x ∧ (Instr.mapEntry t (.map (some m)) x).run P w = .ok (.tuple #[e.val, I (e.born : Int)]) w' ∧ w'.heap[m]? = some (.map es.toArray clock)) ∨
      ((∀ e ∈ es, e.key ≠ x) ∧ (Instr.mapEntry t (.map (some m)) x).run P w = .ok (.tuple #[z, I (clock : Int)]) w' ∧ w'.heap[m]? = some (.map (es ++ [({ key := x, val := z, born := clock } : MapEntry)]).toArray (clock + 1)))) := by
  rcases K.find w hx es hk with ⟨h1, h2⟩ | ⟨j, e0, h1, h2, h3⟩
  · refine ⟨_, grownBy_putObj' w m (.map (es ++ [({ key := x, val := z, born := clock } : MapEntry)]).toArray (clock + 1)), .inr ⟨h2, ?_, putObj_at hm⟩⟩
    have hs := run_setObj_map (P := P) (o' := .map (es ++ [({ key := x, val := z, born := clock } : MapEntry)]).toArray (clock + 1)) hm
    simp [Instr.mapEntry, run_underlying ht, MapKept.run_getObj_map hm, K.check w false hx, h1, r_zero hz, Result.andThen, goInt, I] at hs ⊢
    simp [hs]
  · have hmod : (es.toArray.modify j fun e => { e with key := x }) = es.toArray := by
      apply Array.ext
      · simp
      · intro i h4 h5
        rw [Array.getElem_modify]
        split
        · rename_i he
          subst he
          have : es.toArray[j] = e0 := by
            have := h2
            rw [List.getElem?_eq_getElem (by simpa using h5)] at this
            simpa using Option.some.inj this
          rw [this, ← h3]
        · rfl
    refine ⟨_, grownBy_putObj' w m (.map es.toArray clock), .inl ⟨j, e0, h2, h3, ?_, putObj_at hm⟩⟩
    have hs := run_setObj_map (P := P) (o' := .map es.toArray clock) hm
    have hst := K.stays w hx
    have hj : es.toArray[j]? = some e0 := by simpa using h2
    simp [Instr.mapEntry, run_underlying ht, MapKept.run_getObj_map hm, K.check w false hx, h1, Result.andThen, goInt, I, h2, h3, hst] at hs ⊢
    have hmod2 : (es.modify j fun e => { e with key := x }) = es := by
      have := congrArg Array.toList hmod
      simpa using this
    rw [hmod2]
    simp [hs]
theorem r_entryStore {j : Nat} {e0 : MapEntry} {v : Value} (hm : w.heap[m]? = some (.map es.toArray clock)) (hj : es[j]? = some e0) (hu : ∀ i e, es[i]? = some e → e.born = e0.born → i = j) :
    ∃ w', (Instr.entryStore t (.map (some m)) (I (e0.born : Int)) v).run P w = .ok () w' ∧ w.grownBy w' (some m) ∧ w'.heap[m]? = some (.map (es.set j { e0 with val := v }).toArray clock) := by
  have hjl : j < es.length := by
    rcases Nat.lt_or_ge j es.length with h | h
    · exact h
    · rw [List.getElem?_eq_none h] at hj; cases hj
  have hje : es[j] = e0 := by
    rw [List.getElem?_eq_getElem hjl] at hj
    exact Option.some.inj hj
  have hfind : es.toArray.findIdx? (fun e => (e.born : Int) == (e0.born : Int)) = some j := by
    rw [List.findIdx?_toArray, List.findIdx?_eq_some_iff_getElem]
    refine ⟨hjl, by simp [hje], fun i hi => ?_⟩
    have hil : i < es.length := by omega
    have := hu i es[i] (List.getElem?_eq_getElem hil)
    simp only [beq_iff_eq]
    intro h
    have h' : es[i].born = e0.born := by exact_mod_cast h
    have := this h'
    omega
  have hmod : (es.toArray.modify j fun e => { e with val := v }) = (es.set j { e0 with val := v }).toArray := by
    apply Array.ext
    · simp
    · intro i h4 h5
      rw [Array.getElem_modify]
      simp only [List.getElem_toArray, List.getElem_set]
      split
      · rename_i he
        subst he
        rw [hje]
      · rfl
  refine ⟨_, ?_, grownBy_putObj' w m (.map (es.set j { e0 with val := v }).toArray clock), putObj_at hm⟩
  have hs := run_setObj_map (P := P) (o' := .map (es.set j { e0 with val := v }).toArray clock) hm
  simp only [Instr.entryStore, Sem.run_bind, MapKept.run_getObj_map hm, Result.andThen_ok, I, asInt, asIntOf, Sem.run_pure, hfind, hmod]
  exact hs
end
end Go.Rl
/- Deep data that avoids some blocks: what stays where only those blocks change. Conditions: each lemma names its own. -/
namespace Go.Rl
open Go.RowKit

mutual
def RpX (X : Nat → Prop) (w : World) : Dt → List Value → Prop
  | .int k n, cs => cs = [.int k n]
  | .bool b, cs => cs = [.bool b]
  | .str l, cs => cs = [S l]
  | .sl l, cs => ∃ A n c, cs = [.slice A n c] ∧ l.length = n ∧ n ≤ c ∧ c ≤ maxLen ∧ (A = none → c = 0) ∧ (0 < n → ∃ ad xs, A = some ad ∧ (xs ≠ [] → ¬ X ad.block) ∧ Cells w ad xs ∧ RpXAll X w l xs)
  | .st l, cs => RpXAll X w l cs
def RpXAll (X : Nat → Prop) (w : World) : List Dt → List Value → Prop
  | [], cs => cs = []
  | d :: ds, cs => ∃ c1 c2, cs = c1 ++ c2 ∧ RpX X w d c1 ∧ RpXAll X w ds c2
end
theorem Cells.block_lt {w : World} {ad : Addr} {xs : List Value} (h : Cells w ad xs) (h0 : xs ≠ []) : ad.block < w.heap.size := by
  cases xs with
  | nil => exact absurd rfl h0
  | cons x xs =>
    have := World.block_lt_of_cell? w _ (h 0 x rfl)
    rwa [add_block] at this
theorem Mv.cells {X : Nat → Prop} {w w' : World} (hm : Mv X w w') {ad : Addr} {xs : List Value} (h : Cells w ad xs) (hx : xs ≠ [] → ¬ X ad.block) : Cells w' ad xs := fun j u hu => by
  have hn : xs ≠ [] := by rintro rfl; simp at hu
  have hc := h j u hu
  rw [World.cell?_of_block (hm.keep _ (World.block_lt_of_cell? w _ hc) (by rw [add_block]; exact hx hn))]
  exact hc
section
variable {X Y : Nat → Prop} {w w' : World}
mutual
theorem RpX.rp : ∀ {d : Dt} {cs : List Value}, RpX X w d cs → Rp w d cs
  | .int k n, cs, h => by simpa only [RpX, Rp] using h
  | .bool b, cs, h => by simpa only [RpX, Rp] using h
  | .str l, cs, h => by simpa only [RpX, Rp] using h
  | .sl l, cs, h => by
    simp only [RpX, Rp] at h ⊢
    obtain ⟨A, n, c, h1, h2, h3, h4, h5, h6⟩ := h
    refine ⟨A, n, c, h1, h2, h3, h4, h5, fun hn => ?_⟩
    obtain ⟨ad, xs, h7, _, h8, h9⟩ := h6 hn
    exact ⟨ad, xs, h7, h8, RpXAll.rp h9⟩
  | .st l, cs, h => by simp only [RpX, Rp] at h ⊢; exact RpXAll.rp h
theorem RpXAll.rp : ∀ {l : List Dt} {cs : List Value}, RpXAll X w l cs → RpAll w l cs
  | [], cs, h => by simpa only [RpXAll, RpAll] using h
  | d :: l, cs, h => by
    simp only [RpXAll, RpAll] at h ⊢
    obtain ⟨c1, c2, h0, h1, h2⟩ := h
    exact ⟨c1, c2, h0, RpX.rp h1, RpXAll.rp h2⟩
end
mutual
/-- Whatever was there before avoids what is new. -/
theorem Rp.x : ∀ {d : Dt} {cs : List Value}, Rp w d cs → RpX (fun k => w.heap.size ≤ k) w d cs
  | .int k n, cs, h => by simpa only [RpX, Rp] using h
  | .bool b, cs, h => by simpa only [RpX, Rp] using h
  | .str l, cs, h => by simpa only [RpX, Rp] using h
  | .sl l, cs, h => by
    simp only [RpX, Rp] at h ⊢
    obtain ⟨A, n, c, h1, h2, h3, h4, h5, h6⟩ := h
    refine ⟨A, n, c, h1, h2, h3, h4, h5, fun hn => ?_⟩
    obtain ⟨ad, xs, h7, h8, h9⟩ := h6 hn
    exact ⟨ad, xs, h7, fun h0 => Nat.not_le.2 (h8.block_lt h0), h8, RpAll.x h9⟩
  | .st l, cs, h => by simp only [RpX, Rp] at h ⊢; exact RpAll.x h
theorem RpAll.x : ∀ {l : List Dt} {cs : List Value}, RpAll w l cs → RpXAll (fun k => w.heap.size ≤ k) w l cs
  | [], cs, h => by simpa only [RpXAll, RpAll] using h
  | d :: l, cs, h => by
    simp only [RpXAll, RpAll] at h ⊢
    obtain ⟨c1, c2, h0, h1, h2⟩ := h
    exact ⟨c1, c2, h0, Rp.x h1, RpAll.x h2⟩
end
mutual
/-- Only blocks of X change: it reads so still, and avoids what is new. -/
theorem RpX.mv (hm : Mv X w w') (hY : ∀ k, Y k → X k ∨ w.heap.size ≤ k) : ∀ {d : Dt} {cs : List Value}, RpX X w d cs → RpX Y w' d cs
  | .int k n, cs, h => by simpa only [RpX] using h
  | .bool b, cs, h => by simpa only [RpX] using h
  | .str l, cs, h => by simpa only [RpX] using h
  | .sl l, cs, h => by
    simp only [RpX] at h ⊢
    obtain ⟨A, n, c, h1, h2, h3, h4, h5, h6⟩ := h
    refine ⟨A, n, c, h1, h2, h3, h4, h5, fun hn => ?_⟩
    obtain ⟨ad, xs, h7, h8, h9, h10⟩ := h6 hn
    refine ⟨ad, xs, h7, fun h0 hy => ?_, hm.cells h9 h8, RpXAll.mv hm hY h10⟩
    rcases hY _ hy with hx | hx
    · exact h8 h0 hx
    · have := h9.block_lt h0; omega
  | .st l, cs, h => by simp only [RpX] at h ⊢; exact RpXAll.mv hm hY h
theorem RpXAll.mv (hm : Mv X w w') (hY : ∀ k, Y k → X k ∨ w.heap.size ≤ k) : ∀ {l : List Dt} {cs : List Value}, RpXAll X w l cs → RpXAll Y w' l cs
  | [], cs, h => by simpa only [RpXAll] using h
  | d :: l, cs, h => by
    simp only [RpXAll] at h ⊢
    obtain ⟨c1, c2, h0, h1, h2⟩ := h
    exact ⟨c1, c2, h0, RpX.mv hm hY h1, RpXAll.mv hm hY h2⟩
end
theorem RpX.weak {d : Dt} {cs : List Value} (h : RpX X w d cs) (hY : ∀ k, Y k → X k ∨ w.heap.size ≤ k) : RpX Y w d cs := h.mv (Mv.refl X w) hY
theorem RpXAll.weak {d : List Dt} {cs : List Value} (h : RpXAll X w d cs) (hY : ∀ k, Y k → X k ∨ w.heap.size ≤ k) : RpXAll Y w d cs := h.mv (Mv.refl X w) hY
theorem RpX.ext {d : Dt} {cs : List Value} (h : RpX X w d cs) (hx : Ext w w') : RpX X w' d cs := RpX.mv (Mv.of_ext hx) (fun _ h => .inl h) h
theorem RpXAll.ext {d : List Dt} {cs : List Value} (h : RpXAll X w d cs) (hx : Ext w w') : RpXAll X w' d cs := RpXAll.mv (Mv.of_ext hx) (fun _ h => .inl h) h
theorem RpX.len {d : Dt} {cs : List Value} (h : RpX X w d cs) : cs.length = d.size := h.rp.len
theorem RpXAll.len {l : List Dt} {cs : List Value} (h : RpXAll X w l cs) : cs.length = Dt.sizeAll l := h.rp.len
theorem RpXAll.nil : RpXAll X w [] [] := by simp only [RpXAll]
theorem RpXAll.cons {d : Dt} {l : List Dt} {a b : List Value} (h : RpX X w d a) (h' : RpXAll X w l b) : RpXAll X w (d :: l) (a ++ b) := by simp only [RpXAll]; exact ⟨a, b, rfl, h, h'⟩
theorem RpXAll.append {l m : List Dt} : ∀ {a b : List Value}, RpXAll X w l a → RpXAll X w m b → RpXAll X w (l ++ m) (a ++ b) := by
  induction l with
  | nil => intro a b h h'; simp only [RpXAll] at h; subst h; exact h'
  | cons d l ih =>
    intro a b h h'
    simp only [RpXAll] at h
    obtain ⟨c1, c2, rfl, h1, h2⟩ := h
    rw [List.append_assoc]
    exact RpXAll.cons h1 (ih h2 h')
theorem RpXAll.snoc {d : Dt} {l : List Dt} {a b : List Value} (h : RpXAll X w l a) (h' : RpX X w d b) : RpXAll X w (l ++ [d]) (a ++ b) := h.append (by simpa using RpXAll.cons h' RpXAll.nil)
theorem RpX.nilSl : RpX X w (.sl []) [.slice none 0 0] := by
  simp only [RpX]
  exact ⟨none, 0, 0, rfl, rfl, Nat.le_refl _, Nat.zero_le _, fun _ => rfl, fun h => by omega⟩
/-- A row of one's own whose elements avoid it. -/
theorem RpX.ofOwn {base sz n : Nat} {e : TypeId} {l : List Dt} {v : Value} {xs : List Value} (h : w.ownsRow base e sz v n xs) (ha : RpXAll X w l xs) (hs : ∀ d ∈ l, d.size = sz) (h0 : 0 < sz) (hX : ∀ k, v.ownBlock = some k → ¬ X k) : RpX X w (.sl l) [v] := by
  have hl := ha.len
  rw [sizeAll_uniform hs, h.1] at hl
  have hn := Nat.eq_of_mul_eq_mul_right h0 hl
  obtain ⟨A, n', c, rfl, h3, h4, h5, h6, h7⟩ := Sl.of_own h
  simp only [RpX]
  have hn' : n' = n := Nat.eq_of_mul_eq_mul_right h0 (h5.symm.trans h.1)
  subst hn'
  refine ⟨A, n', c, rfl, hn.symm, h3, h4, h7, fun hp => ?_⟩
  obtain ⟨ad, rfl, hc⟩ := h6 hp
  exact ⟨ad, xs, rfl, fun _ => hX _ rfl, hc, ha⟩
end
end Go.Rl

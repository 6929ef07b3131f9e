/- Part 1 of a proof: plain facts and walks of functions, merged by a program. Conditions: each lemma names its own. -/
import Derived.StillTail
import Derived.Below
import Derived.Laws.Entries
import Derived.Maps.AppendAt
import Derived.Laws.BytesString
import Derived.Laws.Slices
import Derived.Laws.MakeOwn
import Derived.Laws.Rows
import Derived.OwnWalk
import Derived.Laws.BitsAllLaws
import Derived.Laws.Strings
import Derived.Test.YtddonikjkohphaaGreatDoorProg
import Derived.KernelRfl
import Derived.Laws.OwnMore
import Derived.Deep.MidRow
import Derived.Laws.CopyRow
import Derived.RowKit
import Derived.OrdersHeld
import Derived.Lib.AppendStr
import Derived.Laws.IdiomStrings
import Derived.Lib.SlBytesConst
import Derived.ArgAppend
import Derived.ProofKit
import Derived.OpenShut
import Derived.ChangeArms
import Derived.RangeFuncWrites
import Derived.RangeFuncLeaves
import Derived.TacticsIn
import Derived.OwnWalkIn
import Derived.Maps.Keyed
import Derived.DeepKeys5
import Derived.ShutString
import Derived.SliceStrings
import Derived.ChangeOld
import Derived.Test.YtddonikjkohphaaGreatDoorCards
import Derived.Test.YtddonikjkohphaaGreatDoorTie
import Derived.Lib.LaidTab
namespace Go.Rl
theorem J.{u} {α:Sort u} {a:α}:a=a:=rfl
abbrev MC:=@Go.Proofs.Tryz.underlying49
abbrev MD:=@Go.Proofs.Tryz.underlying47
abbrev ME:=@Go.Proofs.Tryz.underlying3
abbrev MF:=@Go.Proofs.Tryz.underlying253
abbrev MG:=@Go.Proofs.Tryz.underlying51
abbrev MH:=@Go.Proofs.Tryz.underlying4
abbrev MI:=@Go.Proofs.Tryz.underlying34
abbrev MJ:=@Go.Proofs.Tryz.underlying175
abbrev MK:=@Go.Proofs.Tryz.underlying42
abbrev ML:=@Go.Proofs.Tryz.underlying45
abbrev MM:=@Go.Proofs.Tryz.underlying57
abbrev MN:=@Go.Proofs.Tryz.underlying55
abbrev MO:=@Go.Proofs.Tryz.underlying54
abbrev MR:=@Go.Proofs.Tryz.underlying155
abbrev MS:=@Go.Proofs.Tryz.underlying362
abbrev MT:=@Go.Proofs.Tryz.underlying46
abbrev MU:=@Go.Proofs.Tryz.underlying53
abbrev MV:=@Go.Proofs.Tryz.underlying124
abbrev MW:=@Go.Proofs.Tryz.underlying133
abbrev MX:=@Go.Proofs.Tryz.underlying36
abbrev MY:=@Go.Proofs.Tryz.underlying189
abbrev MZ:=@Go.Proofs.Tryz.underlying5
abbrev M0:=@Go.Proofs.Tryz.underlying237
abbrev M1:=@Go.Proofs.Tryz.underlying44
abbrev M2:=@Go.Proofs.Tryz.underlying364
abbrev M3:=@Go.Proofs.Tryz.underlying285
abbrev M4:=@Go.Proofs.Tryz.underlying126
abbrev M5:=@Go.Proofs.Tryz.underlying28
abbrev M6:=@Go.Proofs.Tryz.underlying419
abbrev M7:=@Go.Proofs.Tryz.underlying137
abbrev M8:=@Go.Proofs.Tryz.underlying282
abbrev M9:=@Go.Proofs.Tryz.underlying211
abbrev Na:=@Go.Proofs.Tryz.underlying209
abbrev Nb:=@Nat.le_trans
abbrev Nc.{u}:=@Option.some.inj.{u}
abbrev Nd:=@World.grownBy.trans
abbrev Nf:=@World.grownBy.refl
abbrev Ng:=@Nat.le_refl
abbrev Nh.{u}:=@List.getElem_mem.{u}
abbrev Ni:=@Nat.mul_le_mul_right
abbrev Nj:=@Nat.pow_le_pow_right
abbrev Nk:=@Nat.lt_of_lt_of_le
abbrev Nl:=@Nat.le_of_ble_eq_true
abbrev Nm.{u}:=@List.eq_nil_of_length_eq_zero.{u}
abbrev Np:=@Nat.eq_zero_or_pos
abbrev Nq:=@Nat.mod_eq_of_lt
abbrev Nr:=@Nat.mul_le_mul_left
abbrev Ns:=@Nat.mul_le_mul
end Go.Rl
namespace Go.Rl
open Go.RowKit
def aH (w w':World):Prop:=Below w.heap.size w w'
theorem aH.refl (w:World):aH w w:=Below.refl _ _
theorem aH.trans {a b c:World} (h:aH a b) (k:aH b c):aH a c:=Below.trans h (Below.mono k h.size)
theorem aH.alloc {a w:World} (h:aH a w) (o:Obj):aH a (w.alloc o):=Below.alloc h h.size o
theorem aH.drew {a w:World} (h:aH a w):aH a w.drew:=Below.drew h
abbrev dn:=Value→World→Prop
abbrev dI:=Tmp→dn
def Is (c:Value):dn:=fun v _=>v=c
def Any:dn:=fun _ _=>True
def cI (Rl:World→World→Prop) (S:dn):Prop:=∀v w w',S v w→Rl w w'→S v w'
abbrev bi (S:dn):Prop:=cI aH S
theorem bi.is {Rl:World→World→Prop} (c:Value):cI Rl (Is c):=fun _ _ _ h _=>h
theorem bi.any {Rl:World→World→Prop}:cI Rl Any:=fun _ _ _ h _=>h
abbrev kX:=World→Prop
def el (Z:kX):Prop:=∀w w',Z w→aH w w'→Z w'
theorem el.triv:el (fun _=>True):=fun _ _ _ _=>trivial
def jB (F:dI) (d:Option Tmp) (S:dn):dI:=
 match d with
 |none=>F
 |some d=>fun t=>match Nat.beq t d with|true=>S|false=>F t
theorem nx (F:dI) (d:Tmp) (S:dn):jB F (some d) S d=S:=by simp[jB]
theorem pu (F:dI) {d t:Tmp} (S:dn) (h:t≠d):jB F (some d) S t=F t:=by
 have:Nat.beq t d=false:=by
  cases hb:Nat.beq t d
  ·rfl
  ·exact absurd (Nat.eq_of_beq_eq_true hb) h
 simp[jB,this]
theorem D4 (F:dI) {d:Option Tmp} {t:Tmp} (S:dn) (h:∀e,d=some e→e≠t):jB F d S t=F t:=by
 cases d with
 |none=>rfl
 |some d=>exact pu F S (fun e=>h d rfl e.symm)
theorem G4 (F:dI) {x y:Option Tmp} (S R:dn) (h:∀d,x=some d→y≠some d):jB (jB F x S) y R=jB (jB F y R) x S:=by
 cases x with
 |none=>rfl
 |some d=>
  cases y with
  |none=>rfl
  |some e=>
   have hne:d≠e:=fun he=>h d rfl (he▸rfl)
   funext t
   by_cases h1:t=e
   ·subst h1
    rw[nx,pu _ _ (Ne.symm hne),nx]
   ·rw[pu _ _ h1]
    by_cases h2:t=d
    ·subst h2
     rw[nx,nx]
    ·rw[pu _ _ h2,pu _ _ h2,pu _ _ h1]
section
variable {P:Program} {ops:Array Oper} {md:Region.Mode} {Env:World→Prop} {Rl:World→World→Prop} {mo:Bool} {Pn:List PanicEntry→World→Prop} {N:Nat}
structure lW (Env:World→Prop) (Rl:World→World→Prop):Prop where
 ext:∀w w',aH w w'→Rl w w'
 keep:∀w w',Env w→Rl w w'→Env w'
theorem lW.plain (w:World):lW (aH w) aH:=⟨fun _ _ h=>h,fun _ _ h k=>h.trans k⟩
theorem cI.ext {S:dn} (h:cI Rl S) (hE:lW Env Rl):bi S:=fun v w w' hs hx=>h v w w' hs (hE.ext w w' hx)
def o6 (ops:Array Oper) (o:Oper) (F:dI) (a:Act) (w:World):Prop:=∀t∈o.looksAt ops,F t (a.tmps.getD t undef) w
structure Cj (N:Nat) (D:List Deferred) (F:dI) (a:Act) (w:World):Prop where
 size:a.tmps.size=N
 defers:a.defers=D
 at_:∀t,F t (a.tmps.getD t undef) w
def sA (P:Program) (w:World) (S:dn):Result Next→Prop
 |.ok (.value v) w'=>aH w w'∧S v w'
 |.ok .skip w'=>aH w w'∧S undef w'
 |.ok (.enter f args) w'=>aH w w'∧Calls P f args w' (fun e w''=>∃v,e=.returned v∧aH w w''∧S v w'')
 |_=>False
def yZ (P:Program) (Rl:World→World→Prop) (Pn:List PanicEntry→World→Prop) (w:World) (S:dn) (Z:kX):Result Next→Prop
 |.ok (.enter f args) w'=>Calls P f args w' (fun e w''=>(∃v,e=.returned v∧Rl w w''∧S v w''∧Z w'')∨∃c,e=.panicked c∧Pn c w'')
 |.ok .skip w'=>Rl w w'∧S undef w'∧Z w'
 |.ok (.value v) w'=>Rl w w'∧S v w'∧Z w'
 |_=>False
def mS (o:Oper):Bool:=match o.op with|.call c=>(match c.callee with|.builtin .append=>true|.builtin _=>false|_=>true)|.store .. =>true|_=>false
structure KP (P:Program) (ops:Array Oper) (Env:World→Prop) (Rl:World→World→Prop) (N:Nat) (F:dI) (o:Oper) (S:dn):Prop where
 stable:cI Rl S
 dst:∀d,o.dst=some d→d<N
 yes:∀a w,a.tmps.size=N→Env w→o6 ops o F a w→Region.wanted o (yielded ops a.tmps)=true→sA P w S ((execOp a.eval o).run P w)
 no:∀a w,a.tmps.size=N→Env w→o6 ops o F a w→Region.wanted o (yielded ops a.tmps)=false→S undef w
structure LX (P:Program) (ops:Array Oper) (Env:World→Prop) (Rl:World→World→Prop) (Pn:List PanicEntry→World→Prop) (N:Nat) (F:dI) (Z:kX) (o:Oper) (S:dn) (Z':kX):Prop where
 call:mS o=true
 stable:cI Rl S
 zst:el Z'
 dst:∀d,o.dst=some d→d<N
 yes:∀a w,a.tmps.size=N→Env w→o6 ops o F a w→Z w→Region.wanted o (yielded ops a.tmps)=true→yZ P Rl Pn w S Z' ((execOp a.eval o).run P w)
 no:∀a w,a.tmps.size=N→Env w→o6 ops o F a w→Z w→Region.wanted o (yielded ops a.tmps)=false→S undef w∧Z' w
def ij (P:Program) (ops:Array Oper) (Env:World→Prop) (Rl:World→World→Prop) (mo:Bool) (Pn:List PanicEntry→World→Prop) (N:Nat) (F:dI) (Z:kX) (o:Oper) (S:dn) (Z':kX):Prop:=
 (KP P ops Env Rl N F o S∧Z'=Z)∨(mo=true∧LX P ops Env Rl Pn N F Z o S Z')
def gf (P:Program) (ops:Array Oper) (Env:World→Prop) (Rl:World→World→Prop) (mo:Bool) (Pn:List PanicEntry→World→Prop) (N:Nat):List Oper→dI→kX→(dI→kX→Prop)→Prop
 |[],F,Z,K=>K F Z
 |o::rest,F,Z,K=>(∀t,cI Rl (F t))→el Z→∃S Z',ij P ops Env Rl mo Pn N F Z o S Z'∧gf P ops Env Rl mo Pn N rest (jB F o.dst S) Z' K
theorem lX:∀(l:List Oper) (F:dI) (Z:kX) {K K':dI→kX→Prop},(∀F Z,K F Z→K' F Z)→gf P ops Env Rl mo Pn N l F Z K→gf P ops Env Rl mo Pn N l F Z K'
 |[],F,Z,_,_,hK,h=>hK _ _ h
 |o::l,F,Z,_,_,hK,h=>fun hF hZ=>by
  obtain⟨S,Z',h1,h2⟩:=h hF hZ
  exact⟨S,Z',h1,lX l _ _ hK h2⟩
theorem jo {o:Oper} {F:dI} {d:Option Tmp} {S:dn} (h:∀e,d=some e→e∉o.looksAt ops) (a:Act) (w:World):o6 ops o (jB F d S) a w↔o6 ops o F a w:=by
 unfold o6
 constructor
 ·intro hs t ht
  have:=hs t ht
  rwa [D4 F S (fun e he=>by rintro rfl;exact h _ he ht)] at this
 ·intro hs t ht
  rw[D4 F S (fun e he=>by rintro rfl;exact h _ he ht)]
  exact hs t ht
theorem ij.of_upd {o:Oper} {F:dI} {Z Z':kX} {d:Option Tmp} {S R:dn} (h:∀e,d=some e→e∉o.looksAt ops) (hs:ij P ops Env Rl mo Pn N (jB F d S) Z o R Z'):ij P ops Env Rl mo Pn N F Z o R Z':=by
 rcases hs with⟨hs,hz⟩|⟨hm,hs⟩
 ·exact .inl ⟨⟨hs.stable,hs.dst,fun a w h1 h2 h3=>hs.yes a w h1 h2 ((jo h a w).2 h3),fun a w h1 h2 h3=>hs.no a w h1 h2 ((jo h a w).2 h3)⟩,hz⟩
 ·exact .inr ⟨hm,⟨hs.call,hs.stable,hs.zst,hs.dst,fun a w h1 h2 h3=>hs.yes a w h1 h2 ((jo h a w).2 h3),fun a w h1 h2 h3=>hs.no a w h1 h2 ((jo h a w).2 h3)⟩⟩
theorem ij.to_upd {o:Oper} {F:dI} {Z Z':kX} {d:Option Tmp} {S R:dn} (h:∀e,d=some e→e∉o.looksAt ops) (hs:ij P ops Env Rl mo Pn N F Z o R Z'):ij P ops Env Rl mo Pn N (jB F d S) Z o R Z':=by
 rcases hs with⟨hs,hz⟩|⟨hm,hs⟩
 ·exact .inl ⟨⟨hs.stable,hs.dst,fun a w h1 h2 h3=>hs.yes a w h1 h2 ((jo h a w).1 h3),fun a w h1 h2 h3=>hs.no a w h1 h2 ((jo h a w).1 h3)⟩,hz⟩
 ·exact .inr ⟨hm,⟨hs.call,hs.stable,hs.zst,hs.dst,fun a w h1 h2 h3=>hs.yes a w h1 h2 ((jo h a w).1 h3),fun a w h1 h2 h3=>hs.no a w h1 h2 ((jo h a w).1 h3)⟩⟩
theorem ij.stable {o:Oper} {F:dI} {Z Z':kX} {S:dn} (h:ij P ops Env Rl mo Pn N F Z o S Z'):cI Rl S:=h.elim (·.1.stable) (·.2.stable)
theorem ij.zst {o:Oper} {F:dI} {Z Z':kX} {S:dn} (h:ij P ops Env Rl mo Pn N F Z o S Z') (hZ:el Z):el Z':=h.elim (fun h=>h.2▸hZ) (·.2.zst)
theorem ij.swap {oi oj:Oper} {F:dI} {Z Z' Z'':kX} {S R:dn} (hi:ij P ops Env Rl mo Pn N F Z oi S Z') (hj:ij P ops Env Rl mo Pn N (jB F oi.dst S) Z' oj R Z'')
 (h1:∀e,oi.dst=some e→e∉oj.looksAt ops) (h3:∀e,oj.dst=some e→e∉oi.looksAt ops) (hx:¬(mo=true∧mS oi=true∧mS oj=true)):
 ∃Z1,ij P ops Env Rl mo Pn N F Z oj R Z1∧ij P ops Env Rl mo Pn N (jB F oj.dst R) Z1 oi S Z'':=by
 have hj:=hj.of_upd h1
 have hi':=hi
 rcases hi' with⟨hq,rfl⟩|⟨hm,hq⟩
 ·refine⟨Z'',hj,ij.to_upd h3 (.inl ⟨hq,J⟩)⟩
 ·rcases hj with⟨hr,rfl⟩|⟨_,hr⟩
  ·exact⟨Z,.inl ⟨hr,J⟩,ij.to_upd h3 hi⟩
  ·exact absurd ⟨hm,hq.call,hr.call⟩ hx
def ng (P:Program) (md:Region.Mode) (ops:Array Oper) (Env:World→Prop) (Rl:World→World→Prop) (mo:Bool) (Pn:List PanicEntry→World→Prop) (N n:Nat) (L:Array Bool→dI→kX→Prop):Nat→Array Bool→dI→kX→Prop
 |0,listed,F,Z=>L listed F Z
 |f+1,listed,F,Z=>
  Region.ready md ops listed≠[]∧∀i∈Region.ready md ops listed,i<n∧∃o S Z',ops[i]? =some o∧ij P ops Env Rl mo Pn N F Z o S Z'∧ng P md ops Env Rl mo Pn N n L f (listed.setIfInBounds i true) (jB F o.dst S) Z'
theorem Cj.put {D:List Deferred} {F:dI} {a:Act} {w w':World} (hs:Cj N D F a w) (hst:∀t,cI Rl (F t)) (he:Rl w w') {dst:Option Tmp} (hd:∀d,dst=some d→d<N) {S:dn} {v:Value} (hv:S v w'):
 Cj N D (jB F dst S) (a.put dst v) w':=by
 cases dst with
 |none=>exact⟨hs.size,hs.defers,fun t=>hst t _ _ _ (hs.at_ t) he⟩
 |some d=>
  refine⟨by simp[Act.put,hs.size],hs.defers,fun t=>?_⟩
  have hlt:=hd d rfl
  by_cases htd:t=d
  ·subst htd
   rw[nx]
   have:(a.put (some t) v).tmps.getD t undef=v:=by
    simp[Act.put,hs.size,hlt]
   rw[this]
   exact hv
  ·rw[pu F S htd]
   have:(a.put (some d) v).tmps.getD t undef=a.tmps.getD t undef:=by
    simp[Act.put,Array.getElem?_setIfInBounds_ne (Ne.symm htd)]
   rw[this]
   exact hst t _ _ _ (hs.at_ t) he
theorem rL {F:dI} (hst:∀t,cI Rl (F t)) {d:Option Tmp} {S:dn} (hS:cI Rl S):∀t,cI Rl (jB F d S t):=by
 intro t
 cases d with
 |none=>exact hst t
 |some d=>
  by_cases h:t=d
  ·subst h;rw[nx];exact hS
  ·rw[pu F S h];exact hst t
def lY (l0:List (Nat×Value)) (a:Act):Prop:=∀p∈l0,a.tmps.getD p.1 undef=p.2
theorem lY.put {l0:List (Nat×Value)} {a:Act} (h:lY l0 a) {dst:Option Tmp} (hd:∀d,dst=some d→∀p∈l0,p.1≠d) (v:Value):lY l0 (a.put dst v):=fun p hp=>by
 cases dst with
 |none=>exact h p hp
 |some d=>
  have:(a.put (some d) v).tmps.getD p.1 undef=a.tmps.getD p.1 undef:=by
   simp[Act.put,Array.getElem?_setIfInBounds_ne (Ne.symm (hd d rfl p hp))]
  rw[this]
  exact h p hp
theorem y4 {l0:List (Nat×Value)} {D:List Deferred} {i:Nat} {o:Oper} {F:dI} {Z Z':kX} {S:dn} {a:Act} {w:World} {K:Act→World→Prop} {Q:Exit→Act→World→Prop} (hE:lW Env Rl) (hP:∀c a w,a.tmps.size=N→a.defers=D→lY l0 a→Pn c w→Q (.panic c) a w) (hi:ops[i]? =some o) (hs:ij P ops Env Rl mo Pn N F Z o S Z')
 (hF:∀t,cI Rl (F t)) (hZ:el Z) (he:Env w) (hsat:Cj N D F a w) (hk:lY l0 a) (hd0:∀d,o.dst=some d→∀p∈l0,p.1≠d) (hz:Z w) (h:∀a' w',Env w'→Cj N D (jB F o.dst S) a' w'→lY l0 a'→Z' w'→K a' w'):wpOp P ops Q i K a w:=by
 have rr:∀w,Rl w w:=fun w=>hE.ext w w (aH.refl w)
 unfold wpOp
 simp only[hi]
 have hon:o6 ops o F a w:=fun t _=>hsat.at_ t
 split
 ·rename_i hw
  refine .inl ?_
  rcases hs with⟨hs,rfl⟩|⟨_,hs⟩
  ·have h1:=hs.yes a w hsat.size he hon hw
   unfold Oper.wp
   generalize (execOp a.eval o).run P w=r at h1
   cases r with
   |ok n w'=>
    cases n<;>simp only[sA] at h1<;>simp only[Oper.upon]
    case value v=>exact h _ _ (hE.keep _ _ he (hE.ext _ _ h1.1)) (hsat.put hF (hE.ext _ _ h1.1) hs.dst h1.2) (hk.put hd0 _) (hZ _ _ hz h1.1)
    case skip=>exact h _ _ (hE.keep _ _ he (hE.ext _ _ h1.1)) (hsat.put hF (hE.ext _ _ h1.1) hs.dst h1.2) (hk.put hd0 _) (hZ _ _ hz h1.1)
    case enter f args=>
     refine h1.2.mono ?_
     rintro e w'' ⟨v,rfl,hx,hv⟩
     exact h _ _ (hE.keep _ _ he (hE.ext _ _ hx)) (hsat.put hF (hE.ext _ _ hx) hs.dst hv) (hk.put hd0 _) (hZ _ _ hz hx)
   |halt x w'=>simp only[sA] at h1
  ·have h1:=hs.yes a w hsat.size he hon hz hw
   unfold Oper.wp
   generalize (execOp a.eval o).run P w=r at h1
   cases r with
   |ok n w'=>
    cases n<;>simp only[yZ] at h1<;>simp only[Oper.upon]
    case enter f args=>
     refine h1.mono ?_
     rintro e w'' (⟨v,rfl,hx,hv,hz'⟩|⟨c,rfl,hp⟩)
     ·exact h _ _ (hE.keep _ _ he hx) (hsat.put hF hx hs.dst hv) (hk.put hd0 _) hz'
     ·exact hP _ _ _ hsat.size hsat.defers hk hp
    case skip=>exact h _ _ (hE.keep _ _ he h1.1) (hsat.put hF h1.1 hs.dst h1.2.1) (hk.put hd0 _) h1.2.2
    case value v=>exact h _ _ (hE.keep _ _ he h1.1) (hsat.put hF h1.1 hs.dst h1.2.1) (hk.put hd0 _) h1.2.2
   |halt x w'=>simp only[yZ] at h1
 ·rename_i hw
  have hw:Region.wanted o (yielded ops a.tmps)=false:=by simpa using hw
  rcases hs with⟨hs,rfl⟩|⟨_,hs⟩
  ·exact h _ _ he (hsat.put hF (rr _) hs.dst (hs.no a w hsat.size he hon hw)) (hk.put hd0 _) hz
  ·have h1:=hs.no a w hsat.size he hon hz hw
   exact h _ _ he (hsat.put hF (rr _) hs.dst h1.1) (hk.put hd0 _) h1.2
theorem jC {l0:List (Nat×Value)} {D:List Deferred} {n g:Nat} {L:Array Bool→dI→kX→Prop} {Q':Exit→Act→World→Prop} (hE:lW Env Rl) (hP:∀c a w,a.tmps.size=N→a.defers=D→lY l0 a→Pn c w→Q' (.panic c) a w)
 (hd0:∀i o,i<n→ops[i]? =some o→∀d,o.dst=some d→∀p∈l0,p.1≠d)
 (hL:∀listed F Z,L listed F Z→(∀t,cI Rl (F t))→el Z→∀a w,Env w→Cj N D F a w→Z w→wpAny P md ops Q' g listed a w):
 ∀(f:Nat) (listed:Array Bool) (F:dI) (Z:kX),ng P md ops Env Rl mo Pn N n L f listed F Z→(∀t,cI Rl (F t))→el Z→∀a w,Env w→Cj N D F a w→lY l0 a→Z w→wpAny P md ops Q' (f+g) listed a w
 |0,listed,F,Z,h,hF,hZ,a,w,he,hs,_,hz=>by rw[Nat.zero_add];exact hL _ _ _ h hF hZ a w he hs hz
 |f+1,listed,F,Z,h,hF,hZ,a,w,he,hs,hk,hz=>by
  rw[show f+1+g=(f+g)+1 by omega]
  refine⟨fun h0=>absurd h0 h.1,fun i hi=>?_⟩
  obtain⟨hin,o,S,Z',ho,hspec,hrest⟩:=h.2 i hi
  exact y4 hE hP ho hspec hF hZ he hs hk (hd0 i o hin ho) hz (fun a' w' he' hs' hk' hz'=>jC hE hP hd0 hL f _ _ _ hrest (rL hF hspec.stable) (hspec.zst hZ) a' w' he' hs' hk' hz')
def rM (md:Region.Mode) (ops:Array Oper):Nat→Nat→Nat→Bool
 |0,_,_=>false
 |f+1,j,i=>Region.waitsFor md ops j i||(List.range ops.size).any fun k=>Region.waitsFor md ops j k&&rM md ops f k i
def Cm (ops:Array Oper) (i:Nat):Bool:=match ops[i]? with|some o=>mS o|none=>false
def kY (md:Region.Mode) (ops:Array Oper):Bool:=(List.range ops.size).all fun j=> !Cm ops j||(List.range j).all fun i=> !Cm ops i||rM md ops ops.size j i
theorem lA {n:Nat} {listed:Array Bool} (inv:HeadInv md ops n listed) {i:Nat}:∀(f j:Nat),rM md ops f j i=true→(∀oj,ops[j]? =some oj→∀e∈oj.after,Region.binds md e=true→listed.getD e.on false=true)→listed.getD i false=true
 |0,_,h,_=>by simp[rM] at h
 |f+1,j,h,hj=>by
  simp only[rM,Bool.or_eq_true,List.any_eq_true,Bool.and_eq_true] at h
  rcases h with h|⟨k,_,h1,h2⟩
  ·obtain⟨oj,ho,e,he,hb,hon⟩:=Region.waitsFor_spec h
   rw[←hon]
   exact hj oj ho e he hb
  ·obtain⟨oj,ho,e,he,hb,hon⟩:=Region.waitsFor_spec h1
   have hk:=hj oj ho e he hb
   rw[hon] at hk
   exact lA inv f k h2 fun ok hok e he hb=>inv.closed k ok hok hk e he hb
theorem Fd {n:Nat} {listed:Array Bool} (hc:kY md ops=true) (inv:HeadInv md ops n listed) {i j:Nat} {oi oj:Oper} (hi:i∈Region.ready md ops listed) (hj:j∈Region.ready md ops listed) (hoi:ops[i]? =some oi) (hoj:ops[j]? =some oj) (hne:j≠i):¬(mS oi=true∧mS oj=true):=by
 rintro⟨h1,h2⟩
 have key:∀{i j:Nat} {oi oj:Oper},i∈Region.ready md ops listed→j∈Region.ready md ops listed→ops[i]? =some oi→ops[j]? =some oj→mS oi=true→mS oj=true→i<j→False:=by
  intro i j oi oj hi hj hoi hoj h1 h2 hlt
  obtain⟨hun,_⟩:=mem_ready.1 hi
  obtain⟨_,oj',hoj',hall⟩:=mem_ready.1 hj
  have hjs:j<ops.size:=(Array.getElem?_eq_some_iff.1 hoj).1
  have h3:=List.all_eq_true.1 hc j (List.mem_range.2 hjs)
  simp only[Cm,hoj,h2,Bool.not_true,Bool.false_or,List.all_eq_true,List.mem_range,Bool.or_eq_true,Bool.not_eq_true'] at h3
  have h4:=h3 i hlt
  simp only[hoi,h1] at h4
  have h4:=h4.resolve_left (by simp)
  have h5:=lA inv _ _ h4 fun o ho e he hb=>by
   have:o=oj':=Nc (ho.symm.trans hoj')
   subst this
   exact hall e he hb
  rw[getD_both hun] at h5
  cases h5
 rcases Nat.lt_or_ge i j with h|h
 ·exact key hi hj hoi hoj h1 h2 h
 ·exact key hj hi hoj hoi h2 h1 (by omega)
theorem rB {n i:Nat} {oi:Oper} {S:dn} {L:Array Bool→dI→kX→Prop} (hi:ops[i]? =some oi) (hcalls:mo=true→kY md ops=true) (hin:i<n)
 (htail:∀listed,HeadInv md ops n listed→listed.getD i true=false→∀t,n≤t→t∉Region.ready md ops listed)
 (hdone:∀listed F Z,L listed F Z→∀j∈Region.ready md ops listed,n≤j):
 ∀(f:Nat) (listed:Array Bool) (F:dI) (Z Z':kX),HeadInv md ops n listed→
  (∀j oj,ops[j]? =some oj→j≠i→listed.getD j true=false→(∀e∈oj.after,Region.binds md e=true→e.on≠i)→oi.apart ops oj=true)→
  i∈Region.ready md ops listed→ij P ops Env Rl mo Pn N F Z oi S Z'→
  ng P md ops Env Rl mo Pn N n L f (listed.setIfInBounds i true) (jB F oi.dst S) Z'→ng P md ops Env Rl mo Pn N n L (f+1) listed F Z:=by
 intro f
 induction f with
 |zero=>
  intro listed F Z Z' inv _ hr hy H
  have hun:=(mem_ready.1 hr).1
  refine⟨fun h=>(by rw[h] at hr;cases hr),fun j hj=>?_⟩
  have hjn:j<n:=by
   rcases Nat.lt_or_ge j n with h|h
   ·exact h
   ·exact absurd hj (htail listed inv hun j h)
  refine⟨hjn,?_⟩
  by_cases hji:j=i
  ·subst hji;exact⟨oi,S,Z',hi,hy,H⟩
  ·have:=hdone _ _ _ H j (ready_mono hj hji)
   omega
 |succ f ih=>
  intro listed F Z Z' inv hfree hr hy H
  have hun:=(mem_ready.1 hr).1
  refine⟨fun h=>(by rw[h] at hr;cases hr),fun j hj=>?_⟩
  have hjn:j<n:=by
   rcases Nat.lt_or_ge j n with h|h
   ·exact h
   ·exact absurd hj (htail listed inv hun j h)
  refine⟨hjn,?_⟩
  by_cases hji:j=i
  ·subst hji;exact⟨oi,S,Z',hi,hy,H⟩
  ·obtain⟨_,oj,R,Z'',hoj,hspec,hrest⟩:=H.2 j (ready_mono hj hji)
   obtain⟨hjun,oj',hoj',hall⟩:=mem_ready.1 hj
   obtain rfl:oj=oj':=Nc (hoj.symm.trans hoj')
   have hnot:∀e∈oj.after,Region.binds md e=true→e.on≠i:=fun e he hb heq=>by
    have h1:=hall e he hb
    rw[heq,getD_both hun] at h1
    cases h1
   obtain⟨h1,h2,h3⟩:=Oper.apart_spec (hfree j oj hoj hji hjun hnot)
   have hfree':∀k ok,ops[k]? =some ok→k≠i→(listed.setIfInBounds j true).getD k true=false→
    (∀e∈ok.after,Region.binds md e=true→e.on≠i)→oi.apart ops ok=true:=fun k ok hk hki hun hno=>by
    refine hfree k ok hk hki ?_ hno
    by_cases hjk:j=k
    ·subst hjk;exact hjun
    ·rw[getD_set_ne true hjk] at hun;exact hun
   obtain⟨Z1,hsj,hsi⟩:=ij.swap hy hspec h1 h3 fun⟨hm,hc⟩=>Fd (hcalls hm) inv hr hj hi hoj hji hc
   refine⟨oj,R,Z1,hoj,hsj,ih (listed.setIfInBounds j true) _ _ _ (inv.set hj hjn) hfree' (ready_mono hr (Ne.symm hji)) hsi ?_⟩
   rw[Array.setIfInBounds_comm _ _ hji,←G4 F S R h2]
   exact hrest
theorem y5 {n i:Nat} {oi:Oper} {S:dn} {L:Array Bool→dI→kX→Prop} (hi:ops[i]? =some oi) (hcalls:mo=true→kY md ops=true)
 (hs:Region.sinkB md ops n=true) (hc:Region.chainB md ops n=true) (hn:n<ops.size) (hin:i<n)
 (hdone:∀listed F Z,L listed F Z→∀j∈Region.ready md ops listed,n≤j):
 ∀(f:Nat) (listed:Array Bool) (F:dI) (Z Z':kX),HeadInv md ops n listed→
  (∀j oj,ops[j]? =some oj→j≠i→listed.getD j true=false→(∀e∈oj.after,Region.binds md e=true→e.on≠i)→oi.apart ops oj=true)→
  i∈Region.ready md ops listed→ij P ops Env Rl mo Pn N F Z oi S Z'→
  ng P md ops Env Rl mo Pn N n L f (listed.setIfInBounds i true) (jB F oi.dst S) Z'→ng P md ops Env Rl mo Pn N n L (f+1) listed F Z:=
 rB hi hcalls hin (fun _ inv hun t ht=>tail_waits hs hc hn inv _ i rfl hin hun t ht) hdone
theorem rN {n g:Nat} {Lq:dI→kX→Prop} (hcalls:mo=true→kY md ops=true) (hs:Region.sinkB md ops n=true) (hc:Region.chainB md ops n=true) (hn:n<ops.size):
 ∀(l:List Oper) (k:Nat) (listed:Array Bool) (F:dI) (Z:kX),(∀j,j<l.length→l[j]? =ops[k+j]?)→k+l.length=n→HeadInv md ops n listed→
 Region.lexHead md ops g l.length k listed=true→(∀t,cI Rl (F t))→el Z→gf P ops Env Rl mo Pn N l F Z Lq→
 ng P md ops Env Rl mo Pn N n (fun listed' F' Z'=>Region.seqB md ops g n listed'=true∧Lq F' Z') l.length listed F Z
 |[],k,listed,F,Z,_,hk,_,hB,_,_,h=>by
  have:k=n:=by simpa using hk
  subst this
  exact⟨by simpa [Region.lexHead] using hB,h⟩
 |o::l,k,listed,F,Z,hl,hk,inv,hB,hF,hZ,h=>by
  have h0:ops[k]? =some o:=by simpa using(hl 0 (by simp)).symm
  simp only[List.length_cons,Region.lexHead,Bool.and_eq_true] at hB
  obtain⟨⟨hr,hf⟩,hB'⟩:=hB
  have hkn:k<n:=by simp only[List.length_cons] at hk;omega
  have hr':k∈Region.ready md ops listed:=by simpa using hr
  obtain⟨S,Z',hspec,hrest⟩:=h hF hZ
  exact y5 h0 hcalls hs hc hn hkn (fun listed' F' Z' hL=>seqB_ready hL.1) l.length listed F Z Z' inv (Region.free_spec h0 hf) hr' hspec
   (rN hcalls hs hc hn l (k+1) _ _ _ (fun j hj=>by have:=hl (j+1) (by simp;omega);simpa [Nat.add_assoc,Nat.add_comm 1 j] using this) (by simp only[List.length_cons] at hk;omega) (inv.set hr' hkn) hB' (rL hF hspec.stable) (hspec.zst hZ) hrest)
theorem uX {l0:List (Nat×Value)} {id:Nat} {Q:Exit→Act→World→Prop} {a:Act} {D:List Deferred} {F:dI} {Z:kX} {w:World} {l:List Oper} (n N:Nat) (hE:lW Env Rl) (hk:lY l0 a) (hd0:∀o∈l.take n,∀d,o.dst=some d→∀p∈l0,p.1≠d) (hP:∀c a w,a.tmps.size=N→a.defers=D→lY l0 a→Pn c w→Q (.panic c) a w) (hcalls:mo=true→kY .any l.toArray=true) (hm:P.follows .mixedOrders=true) (hB:Region.lexTailB .any l.toArray n=true)
 (hF:∀t,cI Rl (F t)) (hZ:el Z) (hz:Z w) (he:Env w) (hsat:Cj N D F a {w with drawn:=w.drawn+1})
 (h:gf P l.toArray Env Rl mo Pn N (l.take n) F Z (fun F Z=>∀a' w',Env w'→Cj N D F a' w'→Z w'→wpList P l.toArray Q (l.drop n) a' w')):(Code.region id l.toArray true).wp P Q a w:=by
 have hdr:aH w {w with drawn:=w.drawn+1}:=⟨rfl,rfl,rfl,Ng _,fun _ _=>rfl⟩
 simp only[Region.lexTailB,Bool.and_eq_true,decide_eq_true_eq] at hB
 obtain⟨⟨⟨⟨_,hn⟩,hs⟩,hc⟩,hlex⟩:=hB
 have hn':n<l.length:=by simpa using hn
 have htl:(l.take n).length=n:=by simp;omega
 have hdl:(l.drop n).length=l.toArray.size-n:=by simp
 have inv0:HeadInv .any l.toArray n (Array.replicate l.toArray.size false):=
  ⟨by simp,fun j oj _ hl=>(by rw[getD_replicate_false] at hl;cases hl),fun t _ ht=>getD_in (by simpa using ht) (getD_replicate_false _ _)⟩
 have H:=rN (md:=.any) (g:=l.toArray.size-n) hcalls hs hc hn (l.take n) 0 _ _ _ (fun j hj=>by
  have hj':j<n:=by rw[htl] at hj;exact hj
  simp[hj']) (by simpa using htl) inv0 (by rw[htl];exact hlex) hF hZ h
 refine wp_region_any hm ?_
 have:=jC (D:=D) (Q':=Q) (g:=l.toArray.size-n) hE hP (fun i o hin ho=>hd0 o (List.mem_of_getElem? (i:=i) (by rw[List.getElem?_take_of_lt hin];simpa using ho))) (fun listed F Z hL hF hZ a' w' he hsat hz=>by
  have:=wpAny_of_seq (md:=.any) (Q':=Q) (l.drop n) n listed a' w' (fun j=>by simp[List.getElem?_drop]) (by rw[hdl];exact hL.1) (hL.2 a' w' he hsat hz)
  rwa [hdl] at this) _ _ _ _ H hF hZ a {w with drawn:=w.drawn+1} (hE.keep _ _ he (hE.ext _ _ hdr)) hsat hk (hZ _ _ hz hdr)
 rw[htl,show n+(l.toArray.size-n)=l.toArray.size by omega] at this
 exact this
abbrev AD:List PanicEntry→World→Prop:=fun _ _=>False
end
end Go.Rl
namespace Go.Rl
open Go.RowKit
abbrev Fr:=List (Nat×Value)
def lk:Fr→Nat→Option Value
 |[],_=>none
 |(t,v)::l,s=>match Nat.beq t s with|true=>some v|false=>lk l s
def ev (l:Fr):Operand→Option Value
 |.tmp t=>lk l t
 |.const v=>some v
 |.global g=>some (.pointer (some ⟨g,0,none⟩))
 |.func f=>some (.func (.func f) #[] #[])
structure At (N:Nat) (D:List Deferred) (l:Fr) (a:Act):Prop where
 size:a.tmps.size=N
 defers:a.defers=D
 at_:∀t v,lk l t=some v→a.tmps.getD t undef=v
theorem At.ev {N:Nat} {D:List Deferred} {l:Fr} {a:Act} (h:At N D l a) {x:Operand} {v:Value} (hx:ev l x=some v):a.eval x=v:=by
 cases x with
 |tmp t=>exact h.at_ t v hx
 |const c=>exact Option.some.inj hx
 |global g=>exact Option.some.inj hx
 |func f=>exact Option.some.inj hx
theorem lB (d:Nat) (v:Value) (l:Fr):lk ((d,v)::l) d=some v:=by simp[lk]
theorem oa {d t:Nat} (v:Value) (l:Fr) (h:t≠d):lk ((d,v)::l) t=lk l t:=by
 have:Nat.beq d t=false:=by
  cases hb:Nat.beq d t
  ·rfl
  ·exact absurd (Nat.eq_of_beq_eq_true hb).symm h
 simp[lk,this]
theorem At.put {N:Nat} {D:List Deferred} {l:Fr} {a:Act} (h:At N D l a) {d:Nat} (hd:Nat.blt d N=true) (v:Value):At N D ((d,v)::l) (a.put (some d) v):=by
 have hlt:d<N:=by simpa [Nat.blt_eq] using hd
 refine⟨by simp[Act.put,h.size],h.defers,fun t u ht=>?_⟩
 by_cases htd:t=d
 ·subst htd
  rw[lB] at ht
  obtain rfl:=Nc ht
  simp[Act.put,h.size,hlt]
 ·rw[oa v l htd] at ht
  have:=h.at_ t u ht
  rw[←this]
  simp[Act.put,Array.getElem?_setIfInBounds_ne (Ne.symm htd)]
def xp:Fr→Fr→Prop
 |[],_=>True
 |(t,v)::l',l=>lk l t=some v∧xp l' l
theorem G5:∀{l' l:Fr},xp l' l→∀t v,lk l' t=some v→lk l t=some v
 |[],_,_,t,v,h=>by simp[lk] at h
 |(s,u)::l',l,hs,t,v,h=>by
  by_cases hts:t=s
  ·subst hts
   rw[lB] at h
   obtain rfl:=Nc h
   exact hs.1
  ·rw[oa u l' hts] at h
   exact G5 hs.2 t v h
theorem At.weak {N:Nat} {D:List Deferred} {l l':Fr} {a:Act} (h:At N D l a) (hs:xp l' l):At N D l' a:=⟨h.size,h.defers,fun t v ht=>h.at_ t v (G5 hs t v ht)⟩
abbrev ie:=Exit→Act→World→Prop
section
variable {P:Program} {ops:Array Oper} {Q:ie} {N:Nat} {D:List Deferred}
def di (P:Program) (ops:Array Oper) (Q:ie) (N:Nat) (D:List Deferred) (l:Fr) (w:World) (os:List Oper):Prop:=∀a,At N D l a→wpList P ops Q os a w
def d5 (P:Program) (Q:ie) (N:Nat) (D:List Deferred) (l:Fr) (w:World) (c:Code):Prop:=∀a,At N D l a→c.wp P Q a w
def iE (Q:ie) (N:Nat) (D:List Deferred) (l:Fr) (w:World):Prop:=∀a,At N D l a→Q .normal a w
def j0 (Q:ie) (N:Nat) (D:List Deferred) (l:Fr) (w:World) (e:Exit):Prop:=∀a,At N D l a→Q e a w
section code
variable {l l':Fr} {w:World}
theorem d5.weak {c:Code} (hs:xp l' l) (h:d5 P Q N D l' w c):d5 P Q N D l w c:=fun a ha=>h a (ha.weak hs)
theorem aj {x y:Code} (h:d5 P (Exit.then (y.wp P Q) Q) N D l w x):d5 P Q N D l w (.seq x y):=fun a ha=>wp_seq (h a ha)
theorem aA (h:iE Q N D l w):d5 P Q N D l w .skip:=fun a ha=>wp_skip (h a ha)
theorem ah {y:Code} {Q':ie} (h:d5 P Q N D l w y):iE (Exit.then (y.wp P Q) Q') N D l w:=fun a ha=>h a ha
theorem aW {id:Nat} (h:iE Q N D l w):iE (Exit.inBlock id Q) N D l w:=fun a ha=>h a ha
theorem aJ {id:Nat} {c:Code} (h:d5 P (Exit.inBlock id Q) N D l w c):d5 P Q N D l w (.block id c):=fun a ha=>wp_block (h a ha)
theorem bJ {id:Nat} (h:j0 Q N D l w (.exit id)):d5 P Q N D l w (.exit id):=fun a ha=>wp_exit (h a ha)
theorem aV {K:Act→World→Prop} {id:Nat} (h:j0 Q N D l w (.exit id)):j0 (Exit.then K Q) N D l w (.exit id):=fun a ha=>h a ha
theorem bP {id:Nat} (h:iE Q N D l w):j0 (Exit.inBlock id Q) N D l w (.exit id):=fun a ha=>by
 show(if id=id then Q .normal a w else Q (.exit id) a w)
 rw[if_pos rfl]
 exact h a ha
theorem Ki {id i:Nat} (hne:Nat.beq i id=false) (h:j0 Q N D l w (.exit i)):j0 (Exit.inBlock id Q) N D l w (.exit i):=fun a ha=>by
 show(if i=id then Q .normal a w else Q (.exit i) a w)
 rw[if_neg (fun e=>by subst e;simp at hne)]
 exact h a ha
theorem aD (h:j0 Q N D l w .ret):d5 P Q N D l w .ret:=fun a ha=>wp_ret (h a ha)
theorem a0 {K:Act→World→Prop} (h:j0 Q N D l w .ret):j0 (Exit.then K Q) N D l w .ret:=fun a ha=>h a ha
theorem bK {id:Nat} (h:j0 Q N D l w .ret):j0 (Exit.inBlock id Q) N D l w .ret:=fun a ha=>h a ha
theorem aF {fn:Func} {R:Ending→World→Prop} {t:Tmp} {v:Value} (hr:fn.results= #[.tmp t]) (hv:lk l t=some v) (h:R (.returned v) w):j0 (bodyPost P fn R) N [] l w .ret:=fun a ha=>
 ⟨ha.defers,v,by simp only[results,hr];simp[←ha.at_ t v hv],h⟩
theorem dW {fn:Func} {R:Ending→World→Prop} {t s:Tmp} {v u:Value} (hr:fn.results= #[.tmp t,.tmp s]) (hv:lk l t=some v) (hu:lk l s=some u) (h:R (.returned (.tuple #[v,u])) w):j0 (bodyPost P fn R) N [] l w .ret:=fun a ha=>
 ⟨ha.defers,.tuple #[v,u],by simp only[results,hr];simp[←ha.at_ t v hv,←ha.at_ s u hu],h⟩
theorem sB {fn:Func} {R:Ending→World→Prop} {t s r:Tmp} {v u z:Value} (hr:fn.results= #[.tmp t,.tmp s,.tmp r]) (hv:lk l t=some v) (hu:lk l s=some u) (hz:lk l r=some z) (h:R (.returned (.tuple #[v,u,z])) w):j0 (bodyPost P fn R) N [] l w .ret:=fun a ha=>
 ⟨ha.defers,.tuple #[v,u,z],by simp only[results,hr];simp[←ha.at_ t v hv,←ha.at_ s u hu,←ha.at_ r z hz],h⟩
theorem u9 {fn:Func} {R:Ending→World→Prop} (hr:fn.results= #[]) (h:R (.returned (.tuple #[])) w):iE (bodyPost P fn R) N [] l w:=fun a ha=>
 ⟨ha.defers,_,by simp[results,hr],h⟩
theorem j2 {c:Operand} {x y:Code} {b:Bool} (hc:ev l c=some (.bool b)) (ht:b=true→d5 P Q N D l w x) (hf:b=false→d5 P Q N D l w y):d5 P Q N D l w (.cond c x y):=fun a ha=>
 wp_cond_split (ha.ev hc) (fun h=>ht h a ha) (fun h=>hf h a ha)
theorem ci {c:Operand} {x y:Code} {p:Prop} {dp:Decidable p} (hc:ev l c=some (.bool (@decide p dp))) (ht:p→d5 P Q N D l w x) (hf:¬p→d5 P Q N D l w y):d5 P Q N D l w (.cond c x y):=
 j2 hc (fun h=>ht (of_decide_eq_true h)) (fun h=>hf (of_decide_eq_false h))
theorem cg {c:Operand} {x y:Code} (hc:ev l c=some (.bool true)) (ht:d5 P Q N D l w x):d5 P Q N D l w (.cond c x y):=j2 hc (fun _=>ht) (fun h=>by cases h)
theorem bU {c:Operand} {x y:Code} (hc:ev l c=some (.bool false)) (hf:d5 P Q N D l w y):d5 P Q N D l w (.cond c x y):=j2 hc (fun h=>by cases h) (fun _=>hf)
theorem i3 {c:Code} {α:Type} (fr:α→Fr) (H:α→World→Prop) (h:d5 P (Exit.then (fun a w'=>∃x,At N D (fr x) a∧H x w') Q) N D l w c) (k:∀x w',H x w'→iE Q N D (fr x) w'):d5 P Q N D l w c:=fun a ha=>
 wp_mono (h a ha) fun e a' w' hq=>by
  cases e with
  |normal=>
   obtain⟨x,hx,hH⟩:=hq
   exact k x w' hH a' hx
  |_=>exact hq
theorem cW {α:Type} {fr:α→Fr} {H:α→World→Prop} (x:α) (hs:xp (fr x) l) (hH:H x w):iE (Exit.then (fun a w'=>∃x,At N D (fr x) a∧H x w') Q) N D l w:=fun _ ha=>⟨x,ha.weak hs,hH⟩
theorem dS {c:Code} {α:Type} (fr:α→Fr) (H:α→World→Prop) (mu:α→Nat) (x0:α) (hs:xp (fr x0) l) (h0:H x0 w)
 (round:∀x w',H x w'→d5 P (Exit.then (fun a w''=>∃y,At N D (fr y) a∧H y w''∧mu y<mu x) Q) N D (fr x) w' c):d5 P Q N D l w (.loop c):=fun a ha=>by
 intro b k cs
 have go:∀(n:Nat) (x:α) (a:Act) (w:World),mu x<n→At N D (fr x) a→H x w→
  ∃e a' w',Q e a' w'∧Arrives P (lone (b.at a (.code c::.inLoop c::k)) cs w) b k cs e a' w':=by
  intro n
  induction n with
  |zero=>intro x a w hlt;omega
  |succ n ih=>
   intro x a w hlt hat hH
   obtain⟨e,a1,w1,hq,harr⟩:=round x w hH a hat b (.inLoop c::k) cs
   cases e with
   |normal=>
    obtain⟨y,hy,hHy,hm⟩:=hq
    obtain⟨e2,a2,w2,hq2,harr2⟩:=ih y a1 w1 (by omega) hy hHy
    exact⟨e2,a2,w2,hq2,.of_steps (Steps.trans harr (.one step_inLoop)) harr2⟩
   |exit id=>exact⟨_,a1,w1,hq,.pass (x:=.inLoop c) rfl (fun _ _=>.inl (by simp)) harr⟩
   |goto l=>exact⟨_,a1,w1,hq,.pass (x:=.inLoop c) rfl (fun _ _=>.inl (by simp)) harr⟩
   |ret=>exact⟨_,a1,w1,hq,.pass (x:=.inLoop c) rfl (fun _ _=>.inl (by simp)) harr⟩
   |panic ch=>exact⟨_,a1,w1,hq,.pass (x:=.inLoop c) rfl (fun _ _=>.inl (by simp)) harr⟩
   |outgrown=>exact⟨_,a1,w1,hq,.pass (x:=.inLoop c) rfl (fun _ _=>.inl (by simp)) harr⟩
 obtain⟨e,a',w',hq,harr⟩:=go (mu x0+1) x0 a w (by omega) (ha.weak hs) h0
 exact⟨e,a',w',hq,.of_steps (.one step_loop) harr⟩
theorem dC {α:Type} {fr:α→Fr} {H:α→World→Prop} {mu:α→Nat} {m:Nat} (y:α) (hs:xp (fr y) l) (hH:H y w) (hm:mu y<m):iE (Exit.then (fun a w''=>∃y,At N D (fr y) a∧H y w''∧mu y<m) Q) N D l w:=fun _ ha=>⟨y,ha.weak hs,hH,hm⟩
theorem ae {id:Nat} {os:List Oper} (h:di P os.toArray Q N D l w os):d5 P Q N D l w (.region id os.toArray false):=fun a ha=>wp_region_lit (h a ha)
theorem ar (h:iE Q N D l w):di P ops Q N D l w []:=fun a ha=>h a ha
end code
def fF:Nat→List Value→Fr
 |_,[]=>[]
 |i,v::vs=>(i,v)::fF (i+1) vs
theorem xD:∀(vs:List Value) (i t:Nat) (v:Value),lk (fF i vs) t=some v→i≤t∧vs[t-i]? =some v
 |[],_,_,_,h=>by simp[fF,lk] at h
 |u::vs,i,t,v,h=>by
  by_cases hti:t=i
  ·subst hti
   rw[fF,lB] at h
   exact⟨Ng _,by simpa using h⟩
  ·rw[fF,oa u _ hti] at h
   obtain⟨h1,h2⟩:=xD vs (i+1) t v h
   refine⟨by omega,?_⟩
   rw[show t-i=(t-(i+1))+1 by omega]
   simpa using h2
theorem enter {f:FuncId} {fn:Func} {c:Code} {vs:List Value} {w:World} {R:Ending→World→Prop} (hf:P.funcs[f]? =some fn) (hb:fn.body=some c) (hN:fn.ntmps=N) (hle:Nat.ble vs.length N=true)
 (h:d5 P (bodyPost P fn R) N [] (fF 0 vs) w c):Calls P f vs.toArray w R:=by
 have hle':vs.length≤N:=by simpa using hle
 refine calls_of_wp hf hb (h _ ⟨?_,J,fun t v ht=>?_⟩)
 ·simp[hN];omega
 ·obtain⟨_,h2⟩:=xD vs 0 t v ht
  have h2':vs[t]? =some v:=by simpa using h2
  have hlt:t<vs.length:=by
   rcases Nat.lt_or_ge t vs.length with h|h
   ·exact h
   ·rw[List.getElem?_eq_none h] at h2';cases h2'
  rw[List.getElem?_eq_getElem hlt] at h2'
  simpa [Array.getElem?_append,hlt] using h2'
section ops
variable {l:Fr} {w w':World} {rest:List Oper} {d:Nat} {op:Op} {ty:TypeId} {pos:String} {aft:Array Edge}
def rC (l:Fr) (ρ:Operand→Value):Prop:=∀x v,ev l x=some v→ρ x=v
theorem jD {v:Value} (hd:Nat.blt d N=true) (hrun:∀ρ,rC l ρ→(execOp ρ ⟨some d,op,ty,pos,aft,none⟩).run P w=.ok (.value v) w') (k:di P ops Q N D ((d,v)::l) w' rest):
 di P ops Q N D l w (⟨some d,op,ty,pos,aft,none⟩::rest):=fun a ha=>by
 refine wpList_plain J fun K hK=>?_
 unfold Oper.wp
 rw[hrun a.eval fun x v hx=>ha.ev hx]
 exact hK _ _ (k _ (ha.put hd v))
theorem LY {op:Op} (hrun:∀ρ,rC l ρ→(execOp ρ ⟨none,op,ty,pos,aft,none⟩).run P w=.ok .skip w') (k:di P ops Q N D l w' rest):
 di P ops Q N D l w (⟨none,op,ty,pos,aft,none⟩::rest):=fun a ha=>by
 refine wpList_plain J fun K hK=>?_
 unfold Oper.wp
 rw[hrun a.eval fun x v hx=>ha.ev hx]
 exact hK _ _ (k _ ha)
def gv (ops:Array Oper) (l:Fr) (j:Nat):Option Value:=((ops[j]?).bind (·.dst)).bind (lk l)
theorem vw {a:Act} (ha:At N D l a) {j:Nat} {b:Bool} (h:gv ops l j=some (.bool b)):yielded ops a.tmps j=some b:=by
 unfold gv at h
 unfold yielded
 cases hd:(ops[j]?).bind (·.dst) with
 |none=>simp[hd] at h
 |some t=>
  simp only[hd,Option.bind_some] at h⊢
  have h1:=ha.at_ t _ h
  have:a.tmps[t]? =some (.bool b):=by
   cases hx:a.tmps[t]? with
   |none=>
    rw[Array.getD_eq_getD_getElem?,hx] at h1
    simp[undef] at h1
   |some u=>
    rw[Array.getD_eq_getD_getElem?,hx] at h1
    simpa using h1
  rw[this]
theorem an {dst:Option Tmp} {j:Nat} {b:Bool} (hg:gv ops l j=some (.bool b)) (k:di P ops Q N D l w (⟨dst,op,ty,pos,aft,none⟩::rest)):di P ops Q N D l w (⟨dst,op,ty,pos,aft,some (j,b)⟩::rest):=fun a ha=>by
 have h:=k a ha
 have hw1:Region.wanted ⟨dst,op,ty,pos,aft,none⟩ (yielded ops a.tmps)=true:=rfl
 have hw2:Region.wanted ⟨dst,op,ty,pos,aft,some (j,b)⟩ (yielded ops a.tmps)=true:=by simp[Region.wanted,vw ha hg]
 unfold wpList at h⊢
 rw[if_pos hw1] at h
 rw[if_pos hw2]
 exact h
theorem bf {j:Nat} {b b':Bool} (hd:Nat.blt d N=true) (hg:gv ops l j=some (.bool b')) (hb:b'= !b) (k:di P ops Q N D ((d,undef)::l) w rest):di P ops Q N D l w (⟨some d,op,ty,pos,aft,some (j,b)⟩::rest):=fun a ha=>by
 have hw2:Region.wanted ⟨some d,op,ty,pos,aft,some (j,b)⟩ (yielded ops a.tmps)=false:=by
  subst hb;simp[Region.wanted,vw ha hg]
 unfold wpList
 rw[if_neg (by rw[hw2];simp)]
 exact k _ (ha.put hd undef)
theorem dh {j:Nat} {b:Bool} {t:Tmp} (hd:Nat.blt d N=true) (ht:(ops[j]?).bind (·.dst)=some t) (hg:lk l t=some undef) (k:di P ops Q N D ((d,undef)::l) w rest):di P ops Q N D l w (⟨some d,op,ty,pos,aft,some (j,b)⟩::rest):=fun a ha=>by
 have h1:=ha.at_ t _ hg
 have hw2:Region.wanted ⟨some d,op,ty,pos,aft,some (j,b)⟩ (yielded ops a.tmps)=false:=by
  have:yielded ops a.tmps j=none:=by
   unfold yielded
   rw[ht,Option.bind_some]
   cases hx:a.tmps[t]? with
   |none=>rfl
   |some u=>
    rw[Array.getD_eq_getD_getElem?,hx] at h1
    simp only[Option.getD_some] at h1
    subst h1
    rfl
  simp[Region.wanted,this]
 unfold wpList
 rw[if_neg (by rw[hw2];simp)]
 exact k _ (ha.put hd undef)
theorem ab {x:Operand} {v:Value} (hx:ev l x=some v) (hd:Nat.blt d N=true) (k:di P ops Q N D ((d,v)::l) w rest):di P ops Q N D l w (⟨some d,.move x,ty,pos,aft,none⟩::rest):=
 jD hd (fun ρ hρ=>by show Result.ok (Next.value (ρ x)) w=_;rw[hρ x v hx]) k
theorem aa {x:Operand} {v:Value} (hx:ev l x=some v) (hd:Nat.blt d N=true) (k:di P ops Q N D ((d,v)::l) w rest):di P ops Q N D l w (⟨some d,.assign x,ty,pos,aft,none⟩::rest):=
 jD hd (fun ρ hρ=>by show Result.ok (Next.value (ρ x)) w=_;rw[hρ x v hx]) k
theorem aR {c x y:Operand} {u:Value} (hc:ev l c=some (.bool true)) (hx:ev l x=some u) (hd:Nat.blt d N=true)
 (k:di P ops Q N D ((d,u)::l) w rest):di P ops Q N D l w (⟨some d,.pick c x y,ty,pos,aft,none⟩::rest):=
 jD hd (fun ρ hρ=>by simp[execOp,hρ c _ hc,asBool,hρ x _ hx]) k
theorem aG {c x y:Operand} {v:Value} (hc:ev l c=some (.bool false)) (hy:ev l y=some v) (hd:Nat.blt d N=true)
 (k:di P ops Q N D ((d,v)::l) w rest):di P ops Q N D l w (⟨some d,.pick c x y,ty,pos,aft,none⟩::rest):=
 jD hd (fun ρ hρ=>by simp[execOp,hρ c _ hc,asBool,hρ y _ hy]) k
def bin (op:BinOp) (t:TypeId) (x y:Operand) (a b:Value):Sem Value:=do eqGuard op t x y a b;binOp op t a b
theorem ao {b:BinOp} {t t2:TypeId} {x y:Operand} {u v r:Value} (hx:ev l x=some u) (hy:ev l y=some v) (hd:Nat.blt d N=true) (hrun:(bin b t x y u v).run P w=.ok r w)
 (k:di P ops Q N D ((d,r)::l) w rest):di P ops Q N D l w (⟨some d,.binOp b t x y t2,ty,pos,aft,none⟩::rest):=
 jD hd (fun ρ hρ=>by
  have:execOp ρ ⟨some d,.binOp b t x y t2,ty,pos,aft,none⟩=(do pure (Next.value (←bin b t x y (ρ x) (ρ y))):Sem Next):=rfl
  rw[this,hρ x _ hx,hρ y _ hy,Sem.run_bind,hrun];rfl) k
theorem Cn {x:Operand} {u r:Value} {f:Value→Sem Value} (he:∀ρ,execOp ρ ⟨some d,op,ty,pos,aft,none⟩=(do pure (Next.value (←f (ρ x))):Sem Next)) (hx:ev l x=some u) (hd:Nat.blt d N=true) (hrun:(f u).run P w=.ok r w')
 (k:di P ops Q N D ((d,r)::l) w' rest):di P ops Q N D l w (⟨some d,op,ty,pos,aft,none⟩::rest):=
 jD hd (fun ρ hρ=>by rw[he,hρ x _ hx,Sem.run_bind,hrun];rfl) k
theorem cC {t:TypeId} {x:Operand} {u r:Value} {b:UnOp} (hx:ev l x=some u) (hd:Nat.blt d N=true) (hrun:(Op.unary b u).run P w=.ok r w)
 (k:di P ops Q N D ((d,r)::l) w rest):di P ops Q N D l w (⟨some d,.unOp b t x,ty,pos,aft,none⟩::rest):=Cn (f:=Op.unary b) (fun _=>rfl) hx hd hrun k
theorem cm {s t:TypeId} {x:Operand} {u r:Value} (hx:ev l x=some u) (hd:Nat.blt d N=true) (hrun:(convert s t u).run P w=.ok r w')
 (k:di P ops Q N D ((d,r)::l) w' rest):di P ops Q N D l w (⟨some d,.convert s t x,ty,pos,aft,none⟩::rest):=Cn (f:=convert s t) (fun _=>rfl) hx hd hrun k
theorem ak {t:TypeId} {x:Operand} {u r:Value} (hx:ev l x=some u) (hd:Nat.blt d N=true) (hrun:(Instr.loadAt t u).run P w=.ok r w)
 (k:di P ops Q N D ((d,r)::l) w rest):di P ops Q N D l w (⟨some d,.load t x,ty,pos,aft,none⟩::rest):=Cn (f:=Instr.loadAt t) (fun _=>rfl) hx hd hrun k
theorem dH {t:TypeId} {x y:Operand} {u v:Value} (hx:ev l x=some u) (hy:ev l y=some v) (hrun:(Instr.storeAt t u v).run P w=.ok () w')
 (k:di P ops Q N D l w' rest):di P ops Q N D l w (⟨none,.store t x y,ty,pos,aft,none⟩::rest):=
 LY (fun ρ hρ=>by
  have:execOp ρ ⟨none,.store t x y,ty,pos,aft,none⟩=(do Instr.storeAt t (ρ x) (ρ y);pure Next.skip:Sem Next):=rfl
  rw[this,hρ x _ hx,hρ y _ hy,Sem.run_bind,hrun];rfl) k
theorem af {s:TypeId} {x:Operand} {n:Nat} {u r:Value} (hx:ev l x=some u) (hd:Nat.blt d N=true) (hrun:(Instr.fieldAt s u n).run P w=.ok r w)
 (k:di P ops Q N D ((d,r)::l) w rest):di P ops Q N D l w (⟨some d,.fieldAddr s x n,ty,pos,aft,none⟩::rest):=Cn (f:=fun u=>Instr.fieldAt s u n) (fun _=>rfl) hx hd hrun k
theorem aB {x:Operand} {n:Nat} {u r:Value} (hx:ev l x=some u) (hd:Nat.blt d N=true) (hrun:(Instr.extract u n).run P w=.ok r w)
 (k:di P ops Q N D ((d,r)::l) w rest):di P ops Q N D l w (⟨some d,.extract x n,ty,pos,aft,none⟩::rest):=Cn (f:=fun u=>Instr.extract u n) (fun _=>rfl) hx hd hrun k
theorem mT {t:TypeId} {x:Operand} {u r:Value} (hx:ev l x=some u) (hd:Nat.blt d N=true) (hrun:(Instr.box t u).run P w=.ok r w')
 (k:di P ops Q N D ((d,r)::l) w' rest):di P ops Q N D l w (⟨some d,.box t x,ty,pos,aft,none⟩::rest):=Cn (f:=Instr.box t) (fun _=>rfl) hx hd hrun k
theorem mU {t:TypeId} {r:Value} (hd:Nat.blt d N=true) (hrun:(Instr.alloc t true (.tuple #[])).run P w=.ok r w')
 (k:di P ops Q N D ((d,r)::l) w' rest):di P ops Q N D l w (⟨some d,.alloc t,ty,pos,aft,none⟩::rest):=
 jD hd (fun ρ _=>by
  have:execOp ρ ⟨some d,.alloc t,ty,pos,aft,none⟩=(do pure (Next.value (←Instr.alloc t true (.tuple #[]))):Sem Next):=rfl
  rw[this,Sem.run_bind,hrun];rfl) k
theorem aE {t:TypeId} {x y:Operand} {u v r:Value} (hx:ev l x=some u) (hy:ev l y=some v) (hd:Nat.blt d N=true) (hrun:(Instr.indexAt t u v).run P w=.ok r w)
 (k:di P ops Q N D ((d,r)::l) w rest):di P ops Q N D l w (⟨some d,.indexAddr t x y,ty,pos,aft,none⟩::rest):=
 jD hd (fun ρ hρ=>by
  have:execOp ρ ⟨some d,.indexAddr t x y,ty,pos,aft,none⟩=(do pure (Next.value (←Instr.indexAt t (ρ x) (ρ y))):Sem Next):=rfl
  rw[this,hρ x _ hx,hρ y _ hy,Sem.run_bind,hrun];rfl) k
theorem sC {t:TypeId} {x y:Operand} {u v r:Value} (hx:ev l x=some u) (hy:ev l y=some v) (hd:Nat.blt d N=true) (hrun:(Instr.index t u v).run P w=.ok r w)
 (k:di P ops Q N D ((d,r)::l) w rest):di P ops Q N D l w (⟨some d,.index t x y,ty,pos,aft,none⟩::rest):=
 jD hd (fun ρ hρ=>by
  have:execOp ρ ⟨some d,.index t x y,ty,pos,aft,none⟩=(do pure (Next.value (←Instr.index t (ρ x) (ρ y))):Sem Next):=rfl
  rw[this,hρ x _ hx,hρ y _ hy,Sem.run_bind,hrun];rfl) k
theorem fL {t:TypeId} {x y:Operand} {u v r:Value} (hx:ev l x=some u) (hy:ev l y=some v) (hd:Nat.blt d N=true) (hrun:(Instr.makeSlice t u v).run P w=.ok r w')
 (k:di P ops Q N D ((d,r)::l) w' rest):di P ops Q N D l w (⟨some d,.makeSlice t x y,ty,pos,aft,none⟩::rest):=
 jD hd (fun ρ hρ=>by
  have:execOp ρ ⟨some d,.makeSlice t x y,ty,pos,aft,none⟩=(do pure (Next.value (←Instr.makeSlice t (ρ x) (ρ y))):Sem Next):=rfl
  rw[this,hρ x _ hx,hρ y _ hy,Sem.run_bind,hrun];rfl) k
def KQ (l:Fr):Option Operand→Option (Option Value)
 |none=>some none
 |some x=>(ev l x).map some
theorem Co {ρ:Operand→Value} (hρ:rC l ρ):∀{x:Option Operand} {v:Option Value},KQ l x=some v→x.map ρ=v
 |none,v,h=>by simpa [KQ] using h
 |some x,v,h=>by
  cases he:ev l x with
  |none=>simp[KQ,he] at h
  |some u=>
   simp only[KQ,he,Option.map_some,Option.some.injEq] at h
   subst h
   simp[hρ x u he]
theorem ky {t:TypeId} {x:Operand} {lo hi mx:Option Operand} {u r:Value} {a b c:Option Value} (hx:ev l x=some u) (hlo:KQ l lo=some a) (hhi:KQ l hi=some b) (hmx:KQ l mx=some c) (hd:Nat.blt d N=true)
 (hrun:(Instr.sliceAt t u a b c).run P w=.ok r w) (k:di P ops Q N D ((d,r)::l) w rest):di P ops Q N D l w (⟨some d,.slice t x lo hi mx,ty,pos,aft,none⟩::rest):=
 jD hd (fun ρ hρ=>by
  have:execOp ρ ⟨some d,.slice t x lo hi mx,ty,pos,aft,none⟩=(do pure (Next.value (←Instr.sliceAt t (ρ x) (lo.map ρ) (hi.map ρ) (mx.map ρ))):Sem Next):=rfl
  rw[this,hρ x _ hx,Co hρ hlo,Co hρ hhi,Co hρ hmx,Sem.run_bind,hrun];rfl) k
def xq (l:Fr):List Operand→Option (List Value)
 |[]=>some []
 |x::xs=>match ev l x,xq l xs with|some v,some vs=>some (v::vs)|_,_=>none
theorem lZ {ρ:Operand→Value} (hρ:rC l ρ):∀{xs:List Operand} {vs:List Value},xq l xs=some vs→xs.map ρ=vs
 |[],vs,h=>by simpa [xq] using h
 |x::xs,vs,h=>by
  cases h1:ev l x with
  |none=>simp[xq,h1] at h
  |some v=>
   cases h2:xq l xs with
   |none=>simp[xq,h1,h2] at h
   |some vs'=>
    simp only[xq,h1,h2,Option.some.injEq] at h
    subst h
    simp[hρ x v h1,lZ hρ h2]
def Jm (l:Fr):List (Nat×Operand)→Option (List (Nat×Value))
 |[]=>some []
 |(i,x)::xs=>match ev l x,Jm l xs with|some v,some vs=>some ((i,v)::vs)|_,_=>none
theorem Cp {ρ:Operand→Value} (hρ:rC l ρ):∀{xs:List (Nat×Operand)} {vs:List (Nat×Value)},Jm l xs=some vs→xs.map (fun(i,x)=>(i,ρ x))=vs
 |[],vs,h=>by simpa [Jm] using h
 |(i,x)::xs,vs,h=>by
  cases h1:ev l x with
  |none=>simp[Jm,h1] at h
  |some v=>
   cases h2:Jm l xs with
   |none=>simp[Jm,h1,h2] at h
   |some vs'=>
    simp only[Jm,h1,h2,Option.some.injEq] at h
    subst h
    simp[hρ x v h1,Cp hρ h2]
theorem bV {t:TypeId} {ps:List (Nat×Operand)} {vs:List (Nat×Value)} {r:Value} (hp:Jm l ps=some vs) (hd:Nat.blt d N=true) (hrun:(Instr.build t vs.toArray).run P w=.ok r w)
 (k:di P ops Q N D ((d,r)::l) w rest):di P ops Q N D l w (⟨some d,.build t ps.toArray,ty,pos,aft,none⟩::rest):=
 jD hd (fun ρ hρ=>by
  have:execOp ρ ⟨some d,.build t ps.toArray,ty,pos,aft,none⟩=(do pure (Next.value (←Instr.build t (ps.toArray.map fun(i,x)=>(i,ρ x)))):Sem Next):=rfl
  rw[this,List.map_toArray,Cp hρ hp,Sem.run_bind,hrun];rfl) k
theorem bN {t:TypeId} {n:Nat} {ps:List (Nat×Operand)} {vs:List (Nat×Value)} {r:Value} (hp:Jm l ps=some vs) (hd:Nat.blt d N=true) (hrun:(Instr.buildSlice t n vs.toArray).run P w=.ok r w')
 (k:di P ops Q N D ((d,r)::l) w' rest):di P ops Q N D l w (⟨some d,.buildSlice t n ps.toArray,ty,pos,aft,none⟩::rest):=
 jD hd (fun ρ hρ=>by
  have:execOp ρ ⟨some d,.buildSlice t n ps.toArray,ty,pos,aft,none⟩=(do pure (Next.value (←Instr.buildSlice t n (ps.toArray.map fun(i,x)=>(i,ρ x)))):Sem Next):=rfl
  rw[this,List.map_toArray,Cp hρ hp,Sem.run_bind,hrun];rfl) k
theorem dY {x:Operand} {a:Addr} (hx:ev l x=some (.pointer (some a))) (hd:Nat.blt d N=true) (k:di P ops Q N D ((d,.pointer (some a))::l) w rest):di P ops Q N D l w (⟨some d,.nilCheck x,ty,pos,aft,none⟩::rest):=
 jD hd (fun ρ hρ=>by simp[execOp,hρ x _ hx]) k
theorem df {xs:List Operand} {vs:List Value} {ts:Array TypeId} {r:Value} (hp:xq l xs=some vs) (hd:Nat.blt d N=true) (hrun:(Builtin.append_ ts ty vs.toArray).run P w=.ok r w')
 (k:di P ops Q N D ((d,r)::l) w' rest):di P ops Q N D l w (⟨some d,.call {callee:=.builtin .append,args:=xs.toArray,argTypes:=ts},ty,pos,aft,none⟩::rest):=
 jD hd (fun ρ hρ=>by
  simp only[execOp,resolve,invoke,builtin,Sem.run_bind,Sem.run_pure,Result.andThen_ok,List.map_toArray,lZ hρ hp,hrun]) k
theorem bn {xs:List Operand} {vs:List Value} {ts:Array TypeId} {r:Value} (hp:xq l xs=some vs) (hd:Nat.blt d N=true) (hrun:(Builtin.len_ ts ty vs.toArray).run P w=.ok r w)
 (k:di P ops Q N D ((d,r)::l) w rest):di P ops Q N D l w (⟨some d,.call {callee:=.builtin .len,args:=xs.toArray,argTypes:=ts},ty,pos,aft,none⟩::rest):=
 jD hd (fun ρ hρ=>by
  simp only[execOp,resolve,invoke,builtin,Sem.run_bind,Sem.run_pure,Result.andThen_ok,List.map_toArray,lZ hρ hp,hrun]) k
theorem Kj {xs:List Operand} {vs:List Value} {ts:Array TypeId} {r:Value} (hp:xq l xs=some vs) (hd:Nat.blt d N=true) (hrun:(Builtin.min_ ts ty vs.toArray).run P w=.ok r w)
 (k:di P ops Q N D ((d,r)::l) w rest):di P ops Q N D l w (⟨some d,.call {callee:=.builtin .min,args:=xs.toArray,argTypes:=ts},ty,pos,aft,none⟩::rest):=
 jD hd (fun ρ hρ=>by
  simp only[execOp,resolve,invoke,builtin,Sem.run_bind,Sem.run_pure,Result.andThen_ok,List.map_toArray,lZ hρ hp,hrun]) k
theorem LZ {xs:List Operand} {vs:List Value} {ts:Array TypeId} {r:Value} (hp:xq l xs=some vs) (hd:Nat.blt d N=true) (hrun:(Builtin.max_ ts ty vs.toArray).run P w=.ok r w)
 (k:di P ops Q N D ((d,r)::l) w rest):di P ops Q N D l w (⟨some d,.call {callee:=.builtin .max,args:=xs.toArray,argTypes:=ts},ty,pos,aft,none⟩::rest):=
 jD hd (fun ρ hρ=>by
  simp only[execOp,resolve,invoke,builtin,Sem.run_bind,Sem.run_pure,Result.andThen_ok,List.map_toArray,lZ hρ hp,hrun]) k
def az (P:Program) (f:FuncId):Prop:=∃fn,P.funcs[f]? =some fn∧(fn.name== "runtime.NumGoroutine")=false∧fn.body.isNone=false
theorem jE {f:FuncId} (h:az P f) (args:Array Value) (w:World):(callFunc f args).run P w=.ok (.enter f args) w:=by
 obtain⟨fn,h1,h2,h3⟩:=h
 have h2':¬fn.name= "runtime.NumGoroutine" :=by simpa using h2
 have h3':¬fn.body=none:=by intro h;simp[h] at h3
 unfold callFunc
 simp[Sem.run_bind,program,Sem.run,h1,h2',h3']
def cA (T:Value→World→Prop):Ending→World→Prop:=fun e w'=>∃v,e=.returned v∧T v w'
theorem cA.mono {P:Program} {f:FuncId} {args:Array Value} {w:World} {T T':Value→World→Prop} (h:Calls P f args w (cA T)) (hT:∀v w',T v w'→T' v w'):Calls P f args w (cA T'):=
 Calls.mono h fun _ _ ⟨v,he,hv⟩=>⟨v,he,hT _ _ hv⟩
theorem aq {f:FuncId} {xs:List Operand} {vs:List Value} {ts:Array TypeId} {T:Value→World→Prop} (hf:az P f) (hp:xq l xs=some vs) (hd:Nat.blt d N=true) (hc:Calls P f vs.toArray w (cA T))
 (k:∀v w',T v w'→di P ops Q N D ((d,v)::l) w' rest):di P ops Q N D l w (⟨some d,.call {callee:=.value (.func f),args:=xs.toArray,argTypes:=ts},ty,pos,aft,none⟩::rest):=fun a ha=>by
 refine wpList_plain J fun K hK=>?_
 unfold Oper.wp
 have hr:(execOp a.eval ⟨some d,.call {callee:=.value (.func f),args:=xs.toArray,argTypes:=ts},ty,pos,aft,none⟩).run P w=.ok (.enter f vs.toArray) w:=by
  have hρ:rC l a.eval:=fun x v hx=>ha.ev hx
  simp only[execOp,resolve,List.map_toArray,lZ hρ hp,Act.eval,Deferred.ofValue,Sem.run_bind,Sem.run_pure,Result.andThen_ok,invoke,Array.append_empty,jE hf,Array.empty_append]
 rw[hr]
 refine hc.mono ?_
 rintro e w' ⟨v,rfl,hv⟩
 exact hK _ _ (k v w' hv _ (ha.put hd v))
end ops
end
end Go.Rl
namespace Go.Rl
open Go.RowKit
def y6 (l:Fr):dI:=fun t=>match lk l t with|some v=>Is v|none=>Any
theorem ob {Rl:World→World→Prop} (l:Fr):∀t,cI Rl (y6 l t):=fun t=>by
 unfold y6
 split
 ·exact bi.is _
 ·exact bi.any
def eu (F:dI):Operand→dn
 |.tmp t=>F t
 |.const c=>Is c
 |.global g=>Is (.pointer (some ⟨g,0,none⟩))
 |.func f=>Is (.func (.func f) #[] #[])
theorem mV {Rl:World→World→Prop} {F:dI} (hF:∀t,cI Rl (F t)) (x:Operand):cI Rl (eu F x):=by
 cases x with
 |tmp t=>exact hF t
 |_=>exact bi.is _
def rn:List dn→World→(List Value→Prop)→Prop
 |[],_,K=>K []
 |S::Ss,w,K=>∀v,S v w→rn Ss w (fun vs=>K (v::vs))
def Fe (w:World):List dn→List Value→Prop
 |[],[]=>True
 |S::Ss,v::vs=>S v w∧Fe w Ss vs
 |_,_=>False
theorem rn.use:∀{Ss:List dn} {w:World} {K:List Value→Prop} {vs:List Value},rn Ss w K→Fe w Ss vs→K vs
 |[],_,_,[],h,_=>h
 |[],_,_,_::_,_,h=>h.elim
 |_::_,_,_,[],_,h=>h.elim
 |_::_,_,K,v::_,h,h1=>rn.use (K:=fun vs=>K (v::vs)) (h _ h1.1) h1.2
def mW (F:dI) (w:World):List Nat→(Fr→Prop)→Prop
 |[],K=>K []
 |t::ts,K=>∀v,F t v w→mW F w ts (fun l=>K ((t,v)::l))
theorem mW.use {F:dI} {w:World} {N:Nat} {D:List Deferred} {a:Act} (hs:Cj N D F a w):∀{ts:List Nat} {K:Fr→Prop},mW F w ts K→∃l,At N D l a∧K l
 |[],_,h=>⟨[],⟨hs.size,hs.defers,fun t v ht=>by simp[lk] at ht⟩,h⟩
 |t::ts,_,h=>by
  obtain⟨l,hl,hk⟩:=mW.use hs (h _ (hs.at_ t))
  refine⟨_,⟨hs.size,hs.defers,fun s v hv=>?_⟩,hk⟩
  by_cases hst:s=t
  ·subst hst
   rw[lB] at hv
   exact Nc hv
  ·rw[oa _ l hst] at hv
   exact hl.at_ s v hv
section
variable {P:Program} {ops:Array Oper} {Env:World→Prop} {Rl:World→World→Prop} {mo:Bool} {Pn:List PanicEntry→World→Prop} {Z:kX} {N:Nat} {D:List Deferred} {F:dI} {K:dI→kX→Prop} {rest:List Oper} {d:Nat} {op:Op} {ty:TypeId} {pos:String} {aft:Array Edge}
def G6 (os:List Oper) (l0:List (Nat×Value)):Bool:=os.all fun o=>match o.dst with|some d=>l0.all fun p=> !(Nat.beq p.1 d)|none=>true
theorem Ff (os:List Oper):G6 os []=true:=List.all_eq_true.2 fun o _=>by cases o.dst<;>rfl
theorem Cq {os:List Oper} {l0:List (Nat×Value)} (h:G6 os l0=true):∀o∈os,∀d,o.dst=some d→∀p∈l0,p.1≠d:=fun o ho d hd p hp he=>by
 have h1:=List.all_eq_true.1 h o ho
 simp only[hd] at h1
 have h2:=List.all_eq_true.1 h1 p hp
 rw[he] at h2
 simp at h2
def KR:List (Nat×Value)→Fr→Prop
 |[],_=>True
 |p::l0,l=>lk l p.1=some p.2∧KR l0 l
theorem lY.of:∀{l0:List (Nat×Value)} {l:Fr} {a:Act},KR l0 l→At N D l a→lY l0 a
 |[],_,_,_,_=>fun _ h=>by cases h
 |q::l0,_,_,h,ha=>fun p hp=>by
  rcases List.mem_cons.1 hp with rfl|hp
  ·exact ha.at_ _ _ h.1
  ·exact lY.of h.2 ha p hp
theorem Jn {Q:ie} {l:Fr} {w:World} {id:Nat} {os:List Oper} (n:Nat) (ts:List Nat) (l0:List (Nat×Value)) (Env:World→Prop) (Rl:World→World→Prop) (mo:Bool) (Pn:List PanicEntry→World→Prop) (Z:kX) (hE:lW Env Rl) (he:Env w) (hZ:el Z) (hz:Z w) (hsub:KR l0 l) (hkb:G6 (os.take n) l0=true) (hP:∀c a w,a.tmps.size=N→a.defers=D→lY l0 a→Pn c w→Q (.panic c) a w) (hcalls:mo=true→kY .any os.toArray=true) (hm:P.follows .mixedOrders=true) (hB:Region.lexTailB .any os.toArray n=true)
 (h:gf P os.toArray Env Rl mo Pn N (os.take n) (y6 l) Z (fun F Z=>∀w',Env w'→Z w'→mW F w' ts (fun l'=>di P os.toArray Q N D l' w' (os.drop n)))):d5 P Q N D l w (.region id os.toArray true):=fun a ha=>by
 refine uX (D:=D) (F:=y6 l) (Z:=Z) (l0:=l0) n N hE (lY.of hsub ha) (Cq hkb) hP hcalls hm hB (ob l) hZ hz he ⟨ha.size,ha.defers,fun t=>?_⟩ (lX _ _ _ (fun F Z hK a' w' he hs hz=>?_) h)
 ·show y6 l t (a.tmps.getD t undef) _
  unfold y6
  cases hv:lk l t with
  |some v=>exact ha.at_ t v hv
  |none=>trivial
 ·obtain⟨l',hl',hk⟩:=mW.use hs (hK w' he hz)
  exact hk a' hl'
theorem ik {Q:ie} {l:Fr} {w:World} {id:Nat} {os:List Oper} (n:Nat) (ts:List Nat) (Env:World→Prop) (Rl:World→World→Prop) (mo:Bool) (Pn:List PanicEntry→World→Prop) (Z:kX) (hE:lW Env Rl) (he:Env w) (hZ:el Z) (hz:Z w) (hP:∀c a w,a.defers=D→Pn c w→Q (.panic c) a w) (hcalls:mo=true→kY .any os.toArray=true) (hm:P.follows .mixedOrders=true) (hB:Region.lexTailB .any os.toArray n=true)
 (h:gf P os.toArray Env Rl mo Pn N (os.take n) (y6 l) Z (fun F Z=>∀w',Env w'→Z w'→mW F w' ts (fun l'=>di P os.toArray Q N D l' w' (os.drop n)))):d5 P Q N D l w (.region id os.toArray true):=
 Jn n ts [] Env Rl mo Pn Z hE he hZ hz trivial (Ff _) (fun c a w _ hd _ hp=>hP c a w hd hp) hcalls hm hB h
theorem bj {Q:ie} {l:Fr} {w:World} {id:Nat} {os:List Oper} (n:Nat) (ts:List Nat) (hm:P.follows .mixedOrders=true) (hB:Region.lexTailB .any os.toArray n=true)
 (h:gf P os.toArray (aH w) aH false AD N (os.take n) (y6 l) (fun _=>True) (fun F _=>∀w',aH w w'→mW F w' ts (fun l'=>di P os.toArray Q N D l' w' (os.drop n)))):d5 P Q N D l w (.region id os.toArray true):=
 ik n ts (aH w) aH false AD (fun _=>True) (lW.plain w) (aH.refl w) el.triv trivial (fun _ _ _ _ h=>h.elim) (fun h=>by cases h) hm hB (lX _ _ _ (fun _ _ h w' he _=>h w' he) h)
theorem bA (h:K F Z):gf P ops Env Rl mo Pn N [] F Z K:=h
theorem nh {S:dn} (hst:(∀t,cI Rl (F t))→cI Rl S) (hd:Nat.blt d N=true)
 (hrun:∀(a:Act) (w:World),Env w→(∀x∈op.operands.toList,eu F x (a.eval x) w)→sA P w S ((execOp a.eval ⟨some d,op,ty,pos,aft,none⟩).run P w))
 (k:gf P ops Env Rl mo Pn N rest (jB F (some d) S) Z K):gf P ops Env Rl mo Pn N (⟨some d,op,ty,pos,aft,none⟩::rest) F Z K:=fun hF _=>by
 have hlt:d<N:=by simpa [Nat.blt_eq] using hd
 refine⟨S,Z,.inl ⟨⟨hst hF,fun e he=>by obtain rfl:=Nc he;exact hlt,fun a w _ he hs _=>hrun a w he fun x hx=>?_,fun a w _ _ _ hw=>by simp[Region.wanted] at hw⟩,J⟩,k⟩
 cases x with
 |tmp t=>exact hs t (List.mem_append_left _ (List.mem_filterMap.2 ⟨.tmp t,hx,rfl⟩))
 |_=>rfl
theorem au {j:Nat} {b:Bool} {t:Tmp} (ht:(ops[j]?).bind (·.dst)=some t) (hg:F t=Is (.bool b)) (k:gf P ops Env Rl mo Pn N (⟨some d,op,ty,pos,aft,none⟩::rest) F Z K):
 gf P ops Env Rl mo Pn N (⟨some d,op,ty,pos,aft,some (j,b)⟩::rest) F Z K:=fun hF hZ=>by
 obtain⟨S,Z',hs,hr⟩:=k hF hZ
 have val:∀(a:Act) (w:World),o6 ops ⟨some d,op,ty,pos,aft,some (j,b)⟩ F a w→yielded ops a.tmps j=some b:=fun a w h=>by
  have h1:F t (a.tmps.getD t undef) w:=h t (List.mem_append_right _ (by simp[ht]))
  rw[hg] at h1
  have h1:a.tmps.getD t undef=.bool b:=h1
  unfold yielded
  rw[ht,Option.bind_some]
  cases hx:a.tmps[t]? with
  |none=>rw[Array.getD_eq_getD_getElem?,hx] at h1;simp[undef] at h1
  |some u=>rw[Array.getD_eq_getD_getElem?,hx] at h1;simp only[Option.getD_some] at h1;rw[h1]
 have sub:∀(a:Act) (w:World),o6 ops ⟨some d,op,ty,pos,aft,some (j,b)⟩ F a w→o6 ops ⟨some d,op,ty,pos,aft,none⟩ F a w:=fun a w h s hs=>h s (by
  simp only[Oper.looksAt,List.append_nil] at hs
  exact List.mem_append_left _ hs)
 rcases hs with⟨hs,hz⟩|⟨hm,hs⟩
 ·exact⟨S,Z',.inl ⟨⟨hs.stable,hs.dst,fun a w h1 h2 h3 _=>hs.yes a w h1 h2 (sub a w h3) J,fun a w _ _ h3 hw=>by simp[Region.wanted,val a w h3] at hw⟩,hz⟩,hr⟩
 ·exact⟨S,Z',.inr ⟨hm,⟨hs.call,hs.stable,hs.zst,hs.dst,fun a w h1 h2 h3 h4 _=>hs.yes a w h1 h2 (sub a w h3) h4 J,fun a w _ _ h3 _ hw=>by simp[Region.wanted,val a w h3] at hw⟩⟩,hr⟩
theorem G7 {j:Nat} {b:Bool} {t:Tmp} {u:Value} (hd:Nat.blt d N=true) (ht:(ops[j]?).bind (·.dst)=some t) (hg:F t=Is u) (hu:u=undef∨u=.bool (!b)) (k:gf P ops Env Rl mo Pn N rest (jB F (some d) (Is undef)) Z K):
 gf P ops Env Rl mo Pn N (⟨some d,op,ty,pos,aft,some (j,b)⟩::rest) F Z K:=fun _ _=>by
 have hlt:d<N:=by simpa [Nat.blt_eq] using hd
 have val:∀(a:Act) (w:World),o6 ops ⟨some d,op,ty,pos,aft,some (j,b)⟩ F a w→yielded ops a.tmps j≠some b:=fun a w h=>by
  have h1:F t (a.tmps.getD t undef) w:=h t (List.mem_append_right _ (by simp[ht]))
  rw[hg] at h1
  have h1:a.tmps.getD t undef=u:=h1
  unfold yielded
  rw[ht,Option.bind_some]
  cases hx:a.tmps[t]? with
  |none=>simp
  |some z=>
   rw[Array.getD_eq_getD_getElem?,hx] at h1
   simp only[Option.getD_some] at h1
   subst h1
   rcases hu with rfl|rfl
   ·simp[undef]
   ·simp
 exact⟨Is undef,Z,.inl ⟨⟨bi.is _,fun e he=>by obtain rfl:=Nc he;exact hlt,fun a w _ _ h3 hw=>by
  have:=val a w h3
  simp[Region.wanted] at hw
  exact absurd hw this,fun _ _ _ _ _ _=>rfl⟩,J⟩,k⟩
theorem bu {j:Nat} {b:Bool} {t:Tmp} (hd:Nat.blt d N=true) (ht:(ops[j]?).bind (·.dst)=some t) (hg:F t=Is (.bool (!b))) (k:gf P ops Env Rl mo Pn N rest (jB F (some d) (Is undef)) Z K):
 gf P ops Env Rl mo Pn N (⟨some d,op,ty,pos,aft,some (j,b)⟩::rest) F Z K:=G7 hd ht hg (.inr rfl) k
theorem bw {j:Nat} {b:Bool} {t:Tmp} (hd:Nat.blt d N=true) (ht:(ops[j]?).bind (·.dst)=some t) (hg:F t=Is undef) (k:gf P ops Env Rl mo Pn N rest (jB F (some d) (Is undef)) Z K):
 gf P ops Env Rl mo Pn N (⟨some d,op,ty,pos,aft,some (j,b)⟩::rest) F Z K:=G7 hd ht hg (.inl rfl) k
theorem ax {x:Operand} {S:dn} (hx:eu F x=S) (hd:Nat.blt d N=true) (k:gf P ops Env Rl mo Pn N rest (jB F (some d) S) Z K):gf P ops Env Rl mo Pn N (⟨some d,.move x,ty,pos,aft,none⟩::rest) F Z K:=
 nh (fun hF=>hx▸mV hF x) hd (fun a w _ h=>by subst hx;exact⟨aH.refl _,h x (by simp[Op.operands])⟩) k
theorem gA {x:Operand} {S:dn} (hx:eu F x=S) (hd:Nat.blt d N=true) (k:gf P ops Env Rl mo Pn N rest (jB F (some d) S) Z K):gf P ops Env Rl mo Pn N (⟨some d,.assign x,ty,pos,aft,none⟩::rest) F Z K:=
 nh (fun hF=>hx▸mV hF x) hd (fun a w _ h=>by subst hx;exact⟨aH.refl _,h x (by simp[Op.operands])⟩) k
theorem dT {c x y:Operand} {S:dn} (hc:eu F c=Is (.bool true)) (hx:eu F x=S) (hd:Nat.blt d N=true) (k:gf P ops Env Rl mo Pn N rest (jB F (some d) S) Z K):gf P ops Env Rl mo Pn N (⟨some d,.pick c x y,ty,pos,aft,none⟩::rest) F Z K:=
 nh (fun hF=>hx▸mV hF x) hd (fun a w _ h=>by
  subst hx
  have h1:eu F c (a.eval c) w:=h c (by simp[Op.operands])
  rw[hc] at h1
  have h1:a.eval c=.bool true:=h1
  have:(execOp a.eval ⟨some d,.pick c x y,ty,pos,aft,none⟩).run P w=.ok (.value (a.eval x)) w:=by simp[execOp,h1,asBool]
  rw[this]
  exact⟨aH.refl _,h x (by simp[Op.operands])⟩) k
theorem cQ {c x y:Operand} {S:dn} (hc:eu F c=Is (.bool false)) (hy:eu F y=S) (hd:Nat.blt d N=true) (k:gf P ops Env Rl mo Pn N rest (jB F (some d) S) Z K):gf P ops Env Rl mo Pn N (⟨some d,.pick c x y,ty,pos,aft,none⟩::rest) F Z K:=
 nh (fun hF=>hy▸mV hF y) hd (fun a w _ h=>by
  subst hy
  have h1:eu F c (a.eval c) w:=h c (by simp[Op.operands])
  rw[hc] at h1
  have h1:a.eval c=.bool false:=h1
  have:(execOp a.eval ⟨some d,.pick c x y,ty,pos,aft,none⟩).run P w=.ok (.value (a.eval y)) w:=by simp[execOp,h1,asBool]
  rw[this]
  exact⟨aH.refl _,h y (by simp[Op.operands])⟩) k
theorem AG {xs:List Operand} {S:dn} {f:List Value→Sem Value} (he:∀ρ,execOp ρ ⟨some d,op,ty,pos,aft,none⟩=(do pure (Next.value (←f (xs.map ρ))):Sem Next)) (hm:∀x∈xs,x∈op.operands.toList)
 (hst:cI Rl S) (hd:Nat.blt d N=true) (hrun:∀w,Env w→rn (xs.map (eu F)) w (fun vs=>∃r w',(f vs).run P w=.ok r w'∧aH w w'∧S r w'))
 (k:gf P ops Env Rl mo Pn N rest (jB F (some d) S) Z K):gf P ops Env Rl mo Pn N (⟨some d,op,ty,pos,aft,none⟩::rest) F Z K:=
 nh (fun _=>hst) hd (fun a w hw h=>by
  have hall:Fe w (xs.map (eu F)) (xs.map a.eval):=by
   clear hrun he
   induction xs with
   |nil=>trivial
   |cons x xs ih=>exact⟨h x (hm x (by simp)),ih (fun y hy=>hm y (by simp[hy]))⟩
  obtain⟨r,w',h1,h2,h3⟩:=rn.use (hrun w hw) hall
  rw[he,Sem.run_bind,h1]
  exact⟨h2,h3⟩) k
theorem rO {xs:List Operand} {vs:List Value} {r:Value} {f:List Value→Sem Value} (he:∀ρ,execOp ρ ⟨some d,op,ty,pos,aft,none⟩=(do pure (Next.value (←f (xs.map ρ))):Sem Next)) (hm:∀x∈xs,x∈op.operands.toList)
 (hx:xs.map (eu F)=vs.map Is) (hd:Nat.blt d N=true) (hrun:∀w,Env w→(f vs).run P w=.ok r w)
 (k:gf P ops Env Rl mo Pn N rest (jB F (some d) (Is r)) Z K):gf P ops Env Rl mo Pn N (⟨some d,op,ty,pos,aft,none⟩::rest) F Z K:=
 nh (fun _=>bi.is _) hd (fun a w hw h=>by
  have hall:xs.map a.eval=vs:=by
   clear hrun he
   induction xs generalizing vs with
   |nil=>cases vs with
    |nil=>rfl
    |cons v vs=>simp at hx
   |cons x xs ih=>cases vs with
    |nil=>simp at hx
    |cons v vs=>
     simp only[List.map_cons,List.cons.injEq] at hx⊢
     have h1:=h x (hm x (by simp))
     rw[hx.1] at h1
     exact⟨h1,ih (fun y hy=>hm y (by simp[hy])) hx.2⟩
  rw[he,Sem.run_bind,hall,hrun w hw]
  exact⟨aH.refl _,J⟩) k
theorem bC {b:BinOp} {t t2:TypeId} {x y:Operand} {u v r:Value} (hx:eu F x=Is u) (hy:eu F y=Is v) (hd:Nat.blt d N=true) (hrun:∀w,Env w→(bin b t x y u v).run P w=.ok r w)
 (k:gf P ops Env Rl mo Pn N rest (jB F (some d) (Is r)) Z K):gf P ops Env Rl mo Pn N (⟨some d,.binOp b t x y t2,ty,pos,aft,none⟩::rest) F Z K:=
 rO (xs:=[x,y]) (vs:=[u,v]) (f:=fun|[a,c]=>bin b t x y a c|_=>stuck "") (fun _=>rfl) (by simp[Op.operands]) (by simp[hx,hy]) hd hrun k
theorem jF {b:UnOp} {t:TypeId} {x:Operand} {u r:Value} (hx:eu F x=Is u) (hd:Nat.blt d N=true) (hrun:∀w,Env w→(Op.unary b u).run P w=.ok r w)
 (k:gf P ops Env Rl mo Pn N rest (jB F (some d) (Is r)) Z K):gf P ops Env Rl mo Pn N (⟨some d,.unOp b t x,ty,pos,aft,none⟩::rest) F Z K:=
 rO (xs:=[x]) (vs:=[u]) (f:=fun|[a]=>Op.unary b a|_=>stuck "") (fun _=>rfl) (by simp[Op.operands]) (by simp[hx]) hd hrun k
theorem kZ {s t:TypeId} {x:Operand} {u r:Value} (hx:eu F x=Is u) (hd:Nat.blt d N=true) (hrun:∀w,Env w→(convert s t u).run P w=.ok r w)
 (k:gf P ops Env Rl mo Pn N rest (jB F (some d) (Is r)) Z K):gf P ops Env Rl mo Pn N (⟨some d,.convert s t x,ty,pos,aft,none⟩::rest) F Z K:=
 rO (xs:=[x]) (vs:=[u]) (f:=fun|[a]=>convert s t a|_=>stuck "") (fun _=>rfl) (by simp[Op.operands]) (by simp[hx]) hd hrun k
theorem ap {t:TypeId} {x:Operand} {u r:Value} (hx:eu F x=Is u) (hd:Nat.blt d N=true) (hrun:∀w,Env w→(Instr.loadAt t u).run P w=.ok r w)
 (k:gf P ops Env Rl mo Pn N rest (jB F (some d) (Is r)) Z K):gf P ops Env Rl mo Pn N (⟨some d,.load t x,ty,pos,aft,none⟩::rest) F Z K:=
 rO (xs:=[x]) (vs:=[u]) (f:=fun|[a]=>Instr.loadAt t a|_=>stuck "") (fun _=>rfl) (by simp[Op.operands]) (by simp[hx]) hd hrun k
theorem al {s:TypeId} {n:Nat} {x:Operand} {u r:Value} (hx:eu F x=Is u) (hd:Nat.blt d N=true) (hrun:∀w,Env w→(Instr.fieldAt s u n).run P w=.ok r w)
 (k:gf P ops Env Rl mo Pn N rest (jB F (some d) (Is r)) Z K):gf P ops Env Rl mo Pn N (⟨some d,.fieldAddr s x n,ty,pos,aft,none⟩::rest) F Z K:=
 rO (xs:=[x]) (vs:=[u]) (f:=fun|[a]=>Instr.fieldAt s a n|_=>stuck "") (fun _=>rfl) (by simp[Op.operands]) (by simp[hx]) hd hrun k
theorem me {n:Nat} {x:Operand} {S S':dn} (hx:eu F x=S) (hst:cI Rl S') (hd:Nat.blt d N=true) (hrun:∀w v,Env w→S v w→∃r,(Instr.extract v n).run P w=.ok r w∧S' r w)
 (k:gf P ops Env Rl mo Pn N rest (jB F (some d) S') Z K):gf P ops Env Rl mo Pn N (⟨some d,.extract x n,ty,pos,aft,none⟩::rest) F Z K:=
 AG (xs:=[x]) (f:=fun|[a]=>Instr.extract a n|_=>stuck "") (fun _=>rfl) (by simp[Op.operands]) hst hd (fun w hw v hv=>by
  subst hx
  obtain⟨r,h1,h2⟩:=hrun w v hw hv
  exact⟨r,w,h1,aH.refl _,h2⟩) k
theorem mf {x:Operand} {a:Addr} (hx:eu F x=Is (.pointer (some a))) (hd:Nat.blt d N=true) (k:gf P ops Env Rl mo Pn N rest (jB F (some d) (Is (.pointer (some a)))) Z K):gf P ops Env Rl mo Pn N (⟨some d,.nilCheck x,ty,pos,aft,none⟩::rest) F Z K:=
 nh (fun _=>bi.is _) hd (fun b w _ h=>by
  have h1:eu F x (b.eval x) w:=h x (by simp[Op.operands])
  rw[hx] at h1
  have h1:b.eval x=.pointer (some a):=h1
  have:(execOp b.eval ⟨some d,.nilCheck x,ty,pos,aft,none⟩).run P w=.ok (.value (.pointer (some a))) w:=by simp[execOp,h1]
  rw[this]
  exact⟨aH.refl _,J⟩) k
theorem aK {t:TypeId} {x y:Operand} {u v r:Value} (hx:eu F x=Is u) (hy:eu F y=Is v) (hd:Nat.blt d N=true) (hrun:∀w,Env w→(Instr.indexAt t u v).run P w=.ok r w)
 (k:gf P ops Env Rl mo Pn N rest (jB F (some d) (Is r)) Z K):gf P ops Env Rl mo Pn N (⟨some d,.indexAddr t x y,ty,pos,aft,none⟩::rest) F Z K:=
 rO (xs:=[x,y]) (vs:=[u,v]) (f:=fun|[a,c]=>Instr.indexAt t a c|_=>stuck "") (fun _=>rfl) (by simp[Op.operands]) (by simp[hx,hy]) hd hrun k
theorem Jo {t:TypeId} {S:dn} (hst:cI Rl S) (hd:Nat.blt d N=true) (hrun:∀w,Env w→∃r w',(Instr.alloc t true (.tuple #[])).run P w=.ok r w'∧aH w w'∧S r w')
 (k:gf P ops Env Rl mo Pn N rest (jB F (some d) S) Z K):gf P ops Env Rl mo Pn N (⟨some d,.alloc t,ty,pos,aft,none⟩::rest) F Z K:=
 AG (xs:=[]) (f:=fun _=>Instr.alloc t true (.tuple #[])) (fun _=>rfl) (by simp) hst hd hrun k
theorem AH {t:TypeId} {x y:Operand} {u v:Value} {S:dn} (hx:eu F x=Is u) (hy:eu F y=Is v) (hst:cI Rl S) (hd:Nat.blt d N=true) (hrun:∀w,Env w→∃r w',(Instr.makeSlice t u v).run P w=.ok r w'∧aH w w'∧S r w')
 (k:gf P ops Env Rl mo Pn N rest (jB F (some d) S) Z K):gf P ops Env Rl mo Pn N (⟨some d,.makeSlice t x y,ty,pos,aft,none⟩::rest) F Z K:=
 AG (xs:=[x,y]) (f:=fun|[a,c]=>Instr.makeSlice t a c|_=>stuck "") (fun _=>rfl) (by simp[Op.operands]) hst hd (fun w hw=>by
  rw[List.map_cons,List.map_cons,List.map_nil,hx,hy]
  rintro _ rfl _ rfl
  exact hrun w hw) k
theorem y7 {t:TypeId} {x:Operand} {lo hi:Option Operand} {u r:Value} {a b:Option Value} (hx:eu F x=Is u) (hlo:lo.map (eu F)=a.map Is) (hhi:hi.map (eu F)=b.map Is) (hd:Nat.blt d N=true)
 (hrun:∀w,Env w→(Instr.sliceAt t u a b none).run P w=.ok r w)
 (k:gf P ops Env Rl mo Pn N rest (jB F (some d) (Is r)) Z K):gf P ops Env Rl mo Pn N (⟨some d,.slice t x lo hi none,ty,pos,aft,none⟩::rest) F Z K:=
 nh (fun _=>bi.is _) hd (fun s w hw h=>by
  have opt:∀{o:Option Operand} {c:Option Value},o.map (eu F)=c.map Is→(∀y,o=some y→y∈(Op.slice t x lo hi none).operands.toList)→o.map s.eval=c:=fun {o c} ho hm=>by
   cases o with
   |none=>cases c with
    |none=>rfl
    |some c=>simp at ho
   |some y=>cases c with
    |none=>simp at ho
    |some c=>
     simp only[Option.map_some,Option.some.injEq] at ho⊢
     have h1:=h y (hm y rfl)
     rw[ho] at h1
     exact h1
  have h0:eu F x (s.eval x) w:=h x (by simp[Op.operands])
  rw[hx] at h0
  have h0:s.eval x=u:=h0
  have:execOp s.eval ⟨some d,.slice t x lo hi none,ty,pos,aft,none⟩=(do pure (Next.value (←Instr.sliceAt t (s.eval x) (lo.map s.eval) (hi.map s.eval) none)):Sem Next):=rfl
  rw[this,h0,opt hlo (fun y hy=>by subst hy;simp[Op.operands]),opt hhi (fun y hy=>by subst hy;simp[Op.operands]),Sem.run_bind,hrun w hw]
  exact⟨aH.refl _,J⟩) k
theorem D5 {ps:List (Nat×Operand)} {S:dn} {f:Array (Nat×Value)→Sem Value} (he:∀ρ,execOp ρ ⟨some d,op,ty,pos,aft,none⟩=(do pure (Next.value (←f (ps.toArray.map fun(i,x)=>(i,ρ x)))):Sem Next)) (hm:∀x∈ps,x.2∈op.operands.toList)
 (hst:cI Rl S) (hd:Nat.blt d N=true) (hrun:∀w,Env w→rn (ps.map fun p=>eu F p.2) w (fun vs=>∃r w',(f ((ps.map (·.1)).zip vs).toArray).run P w=.ok r w'∧aH w w'∧S r w'))
 (k:gf P ops Env Rl mo Pn N rest (jB F (some d) S) Z K):gf P ops Env Rl mo Pn N (⟨some d,op,ty,pos,aft,none⟩::rest) F Z K:=
 AG (xs:=ps.map (·.2)) (f:=fun vs=>f ((ps.map (·.1)).zip vs).toArray) (fun ρ=>by
  rw[he]
  have:(ps.toArray.map fun(i,x)=>(i,ρ x))=((ps.map (·.1)).zip ((ps.map (·.2)).map ρ)).toArray:=by
   rw[List.map_toArray]
   congr 1
   clear hm he hrun
   induction ps with
   |nil=>rfl
   |cons p ps ih=>simp only[List.map_cons,List.zip_cons_cons,ih]
  rw[this]) (fun x hx=>by
   obtain⟨p,hp,rfl⟩:=List.mem_map.1 hx
   exact hm p hp) hst hd (fun w hw=>by
   have:=hrun w hw
   rwa [List.map_map]) k
theorem et {t:TypeId} {ps:List (Nat×Operand)} {S:dn} (hst:cI Rl S) (hd:Nat.blt d N=true) (hrun:∀w,Env w→rn (ps.map fun p=>eu F p.2) w (fun vs=>∃r w',(Instr.build t ((ps.map (·.1)).zip vs).toArray).run P w=.ok r w'∧aH w w'∧S r w'))
 (k:gf P ops Env Rl mo Pn N rest (jB F (some d) S) Z K):gf P ops Env Rl mo Pn N (⟨some d,.build t ps.toArray,ty,pos,aft,none⟩::rest) F Z K:=
 D5 (ps:=ps) (fun _=>rfl) (fun x hx=>by simp[Op.operands];exact⟨x.1,hx⟩) hst hd hrun k
theorem dv {t:TypeId} {n:Nat} {ps:List (Nat×Operand)} {S:dn} (hst:cI Rl S) (hd:Nat.blt d N=true) (hrun:∀w,Env w→rn (ps.map fun p=>eu F p.2) w (fun vs=>∃r w',(Instr.buildSlice t n ((ps.map (·.1)).zip vs).toArray).run P w=.ok r w'∧aH w w'∧S r w'))
 (k:gf P ops Env Rl mo Pn N rest (jB F (some d) S) Z K):gf P ops Env Rl mo Pn N (⟨some d,.buildSlice t n ps.toArray,ty,pos,aft,none⟩::rest) F Z K:=
 D5 (ps:=ps) (fun _=>rfl) (fun x hx=>by simp[Op.operands];exact⟨x.1,hx⟩) hst hd hrun k
theorem bZ {f:FuncId} {xs:List Operand} {ts:Array TypeId} {S:dn} (hf:az P f) (hst:cI Rl S) (hd:Nat.blt d N=true)
 (hc:∀w,Env w→rn (xs.map (eu F)) w (fun vs=>Calls P f vs.toArray w (cA fun v w'=>aH w w'∧S v w')))
 (k:gf P ops Env Rl mo Pn N rest (jB F (some d) S) Z K):gf P ops Env Rl mo Pn N (⟨some d,.call {callee:=.value (.func f),args:=xs.toArray,argTypes:=ts},ty,pos,aft,none⟩::rest) F Z K:=
 nh (fun _=>hst) hd (fun a w hw h=>by
  have hall:Fe w (xs.map (eu F)) (xs.map a.eval):=by
   have hm:∀x∈xs,eu F x (a.eval x) w:=fun x hx=>h x (by simp[Op.operands,Call.operands,hx])
   clear hc h
   induction xs with
   |nil=>trivial
   |cons x xs ih=>exact⟨hm x (by simp),ih (fun y hy=>hm y (by simp[hy]))⟩
  have h1:=rn.use (hc w hw) hall
  have hr:(execOp a.eval ⟨some d,.call {callee:=.value (.func f),args:=xs.toArray,argTypes:=ts},ty,pos,aft,none⟩).run P w=.ok (.enter f (xs.map a.eval).toArray) w:=by
   simp only[execOp,resolve,List.map_toArray,Act.eval,Deferred.ofValue,Sem.run_bind,Sem.run_pure,Result.andThen_ok,invoke,Array.append_empty,jE hf,Array.empty_append]
  rw[hr]
  refine⟨aH.refl _,h1.mono ?_⟩
  rintro e w'' ⟨v,rfl,hv⟩
  exact⟨v,J,hv⟩) k
theorem sD {f:FuncId} {xs:List Operand} {ts:Array TypeId} {S:dn} {Z':kX} (hf:az P f) (hm:mo=true) (hst:cI Rl S) (hz:el Z') (hd:Nat.blt d N=true)
 (hc:∀w,Env w→Z w→rn (xs.map (eu F)) w (fun vs=>Calls P f vs.toArray w (fun e w'=>(∃v,e=.returned v∧Rl w w'∧S v w'∧Z' w')∨∃c,e=.panicked c∧Pn c w')))
 (k:gf P ops Env Rl mo Pn N rest (jB F (some d) S) Z' K):gf P ops Env Rl mo Pn N (⟨some d,.call {callee:=.value (.func f),args:=xs.toArray,argTypes:=ts},ty,pos,aft,none⟩::rest) F Z K:=fun _ _=>by
 have hlt:d<N:=by simpa [Nat.blt_eq] using hd
 refine⟨S,Z',.inr ⟨hm,⟨J,hst,hz,fun e he=>by obtain rfl:=Nc he;exact hlt,fun a w _ hw hs hz hwant=>?_,fun a w _ _ _ _ hw=>by simp[Region.wanted] at hw⟩⟩,k⟩
 have hall:Fe w (xs.map (eu F)) (xs.map a.eval):=by
  have hm:∀x∈xs,eu F x (a.eval x) w:=fun x hx=>by
   cases x with
   |tmp t=>exact hs t (List.mem_append_left _ (List.mem_filterMap.2 ⟨.tmp t,by simp[Op.operands,Call.operands,hx],rfl⟩))
   |_=>rfl
  clear hc hs hwant
  induction xs with
  |nil=>trivial
  |cons x xs ih=>exact⟨hm x (by simp),ih (fun y hy=>hm y (by simp[hy]))⟩
 have h1:=rn.use (hc w hw hz) hall
 have hr:(execOp a.eval ⟨some d,.call {callee:=.value (.func f),args:=xs.toArray,argTypes:=ts},ty,pos,aft,none⟩).run P w=.ok (.enter f (xs.map a.eval).toArray) w:=by
  simp only[execOp,resolve,List.map_toArray,Act.eval,Deferred.ofValue,Sem.run_bind,Sem.run_pure,Result.andThen_ok,invoke,Array.append_empty,jE hf,Array.empty_append]
 rw[hr]
 exact h1
theorem mg {xs:List Operand} {ts:Array TypeId} {vs:List Value} {r:Value} (hx:xs.map (eu F)=vs.map Is) (hd:Nat.blt d N=true) (hrun:∀w,Env w→(Builtin.len_ ts ty vs.toArray).run P w=.ok r w)
 (k:gf P ops Env Rl mo Pn N rest (jB F (some d) (Is r)) Z K):gf P ops Env Rl mo Pn N (⟨some d,.call {callee:=.builtin .len,args:=xs.toArray,argTypes:=ts},ty,pos,aft,none⟩::rest) F Z K:=
 rO (xs:=xs) (vs:=vs) (f:=fun vs=>Builtin.len_ ts ty vs.toArray) (fun ρ=>by simp only[execOp,resolve,invoke,builtin,pure_bind,List.map_toArray]) (fun x hx=>by simp[Op.operands,Call.operands,hx]) hx hd hrun k
theorem G8 {xs:List Operand} {ts:Array TypeId} {S:dn} (hst:cI Rl S) (hd:Nat.blt d N=true) (hrun:∀w,Env w→rn (xs.map (eu F)) w (fun vs=>∃r w',(Builtin.append_ ts ty vs.toArray).run P w=.ok r w'∧aH w w'∧S r w'))
 (k:gf P ops Env Rl mo Pn N rest (jB F (some d) S) Z K):gf P ops Env Rl mo Pn N (⟨some d,.call {callee:=.builtin .append,args:=xs.toArray,argTypes:=ts},ty,pos,aft,none⟩::rest) F Z K:=
 AG (xs:=xs) (f:=fun vs=>Builtin.append_ ts ty vs.toArray) (fun ρ=>by simp only[execOp,resolve,invoke,builtin,pure_bind,List.map_toArray]) (fun x hx=>by simp[Op.operands,Call.operands,hx]) hst hd hrun k
end
end Go.Rl
namespace Go.Rl
open Go.RowKit
def U8 (b:UInt8):Value:=.int .u8 (b.toNat:Int)
def ep (x:UInt32):Value:=.int .u32 (x.toNat:Int)
def fB (x:UInt64):Value:=.int .u64 (x.toNat:Int)
def I (n:Int):Value:=.int .i64 n
def B (b:Bool):Value:=.bool b
theorem aH.cell {w w':World} (h:aH w w') {a:Addr} (ha:a.block<w.heap.size):w'.cell? a=w.cell? a:=Below.cell h ha
theorem aH.cell_some {w w':World} (h:aH w w') {a:Addr} {v:Value} (hv:w.cell? a=some v):w'.cell? a=some v:=(h.cell (World.block_lt_of_cell? w a hv)).trans hv
theorem aH.heap {w w':World} (h:aH w w') {g:Nat} (hg:g<w.heap.size):w'.heap[g]? =w.heap[g]? :=h.block g hg
theorem aH.heap_some {w w':World} (h:aH w w') {g:Nat} {o:Obj} (hv:w.heap[g]? =some o):w'.heap[g]? =some o:=
 (h.heap (Array.getElem?_eq_some_iff.1 hv).1).trans hv
theorem aH.size {w w':World} (h:aH w w'):w.heap.size≤w'.heap.size:=Below.size h
theorem aH.new (w:World) (o:Obj):aH w (w.alloc o):=(aH.refl w).alloc o
theorem aH.of_grown {w0 w w':World} (h:aH w0 w) {row:Option Nat} (hg:w.grownBy w' row) (hr:∀k,row=some k→w0.heap.size≤k):aH w0 w':=
 Below.grown h hg h.size hr
def d8 (w:World) (a:Addr) (xs:List Value):Prop:=∀j u,xs[j]? =some u→w.cell? (a.add j)=some u
theorem gj (a:Addr) (n:Nat):(a.add n).block=a.block:=by unfold Addr.add;split<;>rfl
theorem D6 (a:Addr) (i j:Nat):(a.add i).add j=a.add (i+j):=by
 unfold Addr.add
 by_cases hi:i=0<;>by_cases hj:j=0<;>simp[hi,hj,Nat.add_assoc]
theorem pv (a:Addr):a.add 0=a:=by simp[Addr.add]
theorem rP (b o n:Nat):(⟨b,o,none⟩:Addr).add n=⟨b,o+n,none⟩:=by
 unfold Addr.add
 split
 ·rename_i h;subst h;rfl
 ·rfl
theorem d8.ext {w w':World} {a:Addr} {xs:List Value} (h:d8 w a xs) (hx:aH w w'):d8 w' a xs:=fun j u hu=>hx.cell_some (h j u hu)
theorem d8.drop {w:World} {a:Addr} {xs:List Value} (h:d8 w a xs) (k:Nat):d8 w (a.add k) (xs.drop k):=fun j u hu=>by
 rw[D6]
 exact h (k+j) u (by rw[←hu,List.getElem?_drop])
theorem d8.take {w:World} {a:Addr} {xs:List Value} (h:d8 w a xs) (k:Nat):d8 w a (xs.take k):=fun j u hu=>by
 rw[List.getElem?_take] at hu
 split at hu
 ·exact h j u hu
 ·cases hu
def Sl (sz:Nat) (xs:List Value):dn:=fun v w=>∃A n c,v=.slice A n c∧n≤c∧c≤maxLen∧xs.length=n*sz∧(0<n→∃ad,A=some ad∧d8 w ad xs)∧(A=none→c=0)
theorem Sl.stable (sz:Nat) (xs:List Value):bi (Sl sz xs):=fun v w w' h hx=>by
 obtain⟨A,n,c,h1,h2,h3,h4,h5,h6⟩:=h
 exact⟨A,n,c,h1,h2,h3,h4,fun hn=>(h5 hn).imp fun ad h=>⟨h.1,h.2.ext hx⟩,h6⟩
theorem Sl.ext {sz:Nat} {xs:List Value} {v:Value} {w w':World} (h:Sl sz xs v w) (hx:aH w w'):Sl sz xs v w':=Sl.stable sz xs v w w' h hx
theorem Sl.nil (sz:Nat) (w:World):Sl sz [] (.slice none 0 0) w:=⟨none,0,0,rfl,Ng _,Nat.zero_le _,by simp,fun h=>absurd h (by omega),fun _=>rfl⟩
theorem Sl.of_own {base:Nat} {e:TypeId} {sz n:Nat} {v:Value} {xs:List Value} {w:World} (h:w.ownsRow base e sz v n xs):Sl sz xs v w:=by
 rcases h.2 with⟨rfl,rfl⟩|⟨g,cap,cur,rfl,hb,hg,hn,hm,hs,ht⟩
 ·have:xs=[]:=Nm (by simpa using h.1)
  subst this
  exact Sl.nil sz w
 ·exact⟨some ⟨g,0,none⟩,n,cap,J,hn,hm,h.1,fun _=>⟨_,J,h.cells (g:=g) J⟩,fun h=>by cases h⟩
theorem jp {w w':World} {base:Nat} {e:TypeId} {sz n:Nat} {v:Value} {xs:List Value} (h:w.ownsRow base e sz v n xs) (hx:aH w w'):w'.ownsRow base e sz v n xs:=by
 refine⟨h.1,?_⟩
 rcases h.2 with h|⟨g,cap,cur,rfl,hb,hg,rest⟩
 ·exact .inl h
 ·exact .inr ⟨g,cap,cur,J,hb,hx.heap_some hg,rest⟩
theorem sE {w:World} {base base':Nat} {e:TypeId} {sz n:Nat} {v:Value} {xs:List Value} (h:w.ownsRow base e sz v n xs) (hb:∀k,v.ownBlock=some k→base'≤k):w.ownsRow base' e sz v n xs:=by
 refine⟨h.1,?_⟩
 rcases h.2 with h|⟨g,cap,cur,rfl,_,hg,rest⟩
 ·exact .inl h
 ·exact .inr ⟨g,cap,cur,J,hb g J,hg,rest⟩
structure gi (w w':World) (v v':Value):Prop where
 grown:w.grownBy w' v.ownBlock
 own:v'.ownBlock=v.ownBlock∨∀k,v'.ownBlock=some k→w.heap.size≤k
theorem gi.trans {a b c:World} {v u z:Value} (h:gi a b v u) (k:gi b c u z):gi a c v z:=by
 refine⟨⟨k.grown.os.trans h.grown.os,k.grown.tape.trans h.grown.tape,k.grown.output.trans h.grown.output,Nb h.grown.size k.grown.size,fun i hi hne=>?_⟩,?_⟩
 ·refine(k.grown.block i (Nk hi h.grown.size) ?_).trans (h.grown.block i hi hne)
  rcases h.own with h1|h1
  ·rw[h1];exact hne
  ·intro hu
   have:=h1 i hu.symm
   omega
 ·rcases k.own with k1|k1
  ·rw[k1];exact h.own
  ·exact .inr fun j hj=>Nb h.grown.size (k1 j hj)
theorem gi.ext {a b c:World} {v u:Value} (h:gi a b v u) (k:aH b c):gi a c v u:=
 ⟨⟨Eq.trans k.os h.grown.os,Eq.trans k.tape h.grown.tape,Eq.trans k.output h.grown.output,Nat.le_trans h.grown.size k.size,fun i hi hne=>(k.heap (Nat.lt_of_lt_of_le hi h.grown.size)).trans (h.grown.block i hi hne)⟩,h.own⟩
theorem gi.of_ext {a b:World} {v u:Value} (h:aH a b) (hu:u.ownBlock=v.ownBlock∨∀k,u.ownBlock=some k→a.heap.size≤k):gi a b v u:=
 ⟨⟨h.os,h.tape,h.output,h.size,fun _ hi _=>h.heap hi⟩,hu⟩
theorem gi.before {a b c:World} {v u:Value} (h:aH a b) (k:gi b c v u):gi a c v u:=
 ⟨⟨k.grown.os.trans h.os,k.grown.tape.trans h.tape,k.grown.output.trans h.output,Nat.le_trans h.size k.grown.size,fun i hi hne=>(k.grown.block i (Nat.lt_of_lt_of_le hi h.size) hne).trans (h.heap hi)⟩,k.own.imp_right fun h1 j hj=>Nat.le_trans h.size (h1 j hj)⟩
inductive pm where
 |blk (g:Nat) (T:TypeId) (cs:Array Value)
 |row (v:Value) (e:TypeId) (sz n:Nat) (xs:List Value)
def pm.foot:pm→Option Nat
 |.blk g _ _=>some g
 |.row v _ _ _ _=>v.ownBlock
def pm.holds (base:Nat) (w:World):pm→Prop
 |.blk g T cs=>base≤g∧w.heap[g]? =some (.cells cs T (0,0))
 |.row v e sz n xs=>w.ownsRow base e sz v n xs
def pm.off (a b:pm):Prop:=a.foot=none∨a.foot≠b.foot
theorem pm.foot_ge {base:Nat} {w:World} {it:pm} (h:it.holds base w) {k:Nat} (hk:it.foot=some k):base≤k∧k<w.heap.size:=by
 cases it with
 |blk g T cs=>
  obtain rfl:g=k:=by simpa [pm.foot] using hk
  exact⟨h.1,(Array.getElem?_eq_some_iff.1 h.2).1⟩
 |row v e sz n xs=>exact World.ownsRow.lt h k hk
theorem pm.holds_ext {base:Nat} {w w':World} {it:pm} (h:it.holds base w) (hx:aH w w'):it.holds base w':=by
 cases it with
 |blk g T cs=>exact⟨h.1,hx.heap_some h.2⟩
 |row v e sz n xs=>exact jp h hx
structure Hp (w0 w:World) (its:List pm):Prop where
 ext:aH w0 w
 holds:∀it∈its,it.holds w0.heap.size w
 apart:its.Pairwise pm.off
section
variable {w0 w w':World} {its:List pm} {a b c d:pm}
theorem Hp.grow (h:Hp w0 w its) (hx:aH w w'):Hp w0 w' its:=⟨h.ext.trans hx,fun it hi=>pm.holds_ext (h.holds it hi) hx,h.apart⟩
theorem Hp.drop (h:Hp w0 w (a::its)):Hp w0 w its:=⟨h.ext,fun it hi=>h.holds it (by simp[hi]),(List.pairwise_cons.1 h.apart).2⟩
theorem Hp.one (h:Hp w0 w (a::its)):a.holds w0.heap.size w:=h.holds a (by simp)
theorem Hp.add (h:Hp w0 w its) (hx:aH w w') (hit:a.holds w0.heap.size w') (hn:∀k,a.foot=some k→w.heap.size≤k):Hp w0 w' (a::its):=by
 have h':=h.grow hx
 refine⟨h'.ext,fun it hi=>?_,List.pairwise_cons.2 ⟨fun it hi=>?_,h'.apart⟩⟩
 ·rcases List.mem_cons.1 hi with rfl|hi
  ·exact hit
  ·exact h'.holds it hi
 ·unfold pm.off
  cases hf:a.foot with
  |none=>exact .inl rfl
  |some k=>
   refine .inr fun he=>?_
   have h1:=(pm.foot_ge (h.holds it hi) he.symm).2
   have h2:=hn k hf
   omega
theorem jf (w:World) (g i:Nat) (u:Value):w.grownBy (w.setCell ⟨g,i,none⟩ u) (some g):=
 ⟨rfl,rfl,rfl,by simp[World.setCell],fun k _ hne=>Below.heap_setCell w ⟨g,i,none⟩ u k (fun e=>hne (by rw[e]))⟩
theorem vx {g:Nat} {T:TypeId} {cs:Array Value} (h:w.heap[g]? =some (.cells cs T (0,0))) (i:Nat) (u:Value):(w.setCell ⟨g,i,none⟩ u).heap[g]? =some (.cells (cs.setIfInBounds i u) T (0,0)):=by
 simp[World.setCell,Array.getElem?_modify,h]
theorem Hp.cell {g:Nat} {T:TypeId} {cs:Array Value} (h:Hp w0 w (.blk g T cs::its)) (i:Nat):w.cell? ⟨g,i,none⟩=cs[i]? :=cell_of_row w g i cs T (0,0) h.one.2
end
section
variable {P:Program} {w:World}
theorem ai {t:TypeId} {d:TypeDesc} {a:Addr} {v:Value} (ht:P.underlying t=some d) (hd:(match d with|.struct _|.array _ _=>true|_=>false)=false) (hc:w.cell? a=some v):
 (Instr.loadAt t (.pointer (some a))).run P w=.ok v w:=by
 have hagg:(isAgg t).run P w=.ok false w:=by
  unfold isAgg
  simp only[Sem.run_bind,run_underlying ht,Result.andThen_ok]
  cases d<;>simp_all
 simp only[Instr.loadAt,Instr.sureAddr,loadVar,Sem.run_bind,Sem.run_pure,Result.andThen_ok,hagg,Bool.false_eq_true,if_false]
 simp[hc]
theorem sF {t:TypeId} {g i:Nat} {cs:Array Value} {T:TypeId} {v:Value} (hs:(P.info? t).map (·.size)=some 1) (hv:v.oneCell'=true) (hc:w.heap[g]? =some (.cells cs T (0,0))) (hi:i<cs.size):
 (Instr.storeAt t (.pointer (some ⟨g,i,none⟩)) v).run P w=.ok () (w.setCell ⟨g,i,none⟩ v):=by
 obtain⟨ti,hti,hsz⟩:=Option.map_eq_some_iff.1 hs
 have hcells:v.cells= #[v]:=by cases v<;>first|rfl|cases hv
 have hcell:w.cell? ⟨g,i,none⟩=some cs[i]:=by rw[cell_of_row w g i cs T (0,0) hc];simp[hi]
 have hfr:w.frozen? ⟨g,i,none⟩=false:=frozen_of_row w g i cs T hc
 have hst:=run_store P w ⟨g,i,none⟩ v .plain hv
 have hsd:stored P w ⟨g,i,none⟩ v .plain=.ok () (w.setCell ⟨g,i,none⟩ v):=by simp[stored,hcell,hfr]
 simp only[Instr.storeAt,Instr.sureAddr,storeVar,Sem.run_bind,Sem.run_pure,Result.andThen_ok,sizeOf,typeInfo,hti,program,Sem.run,hcells,storeCells]
 have hst2:(store ⟨g,i,none⟩ v).run P w=.ok () (w.setCell ⟨g,i,none⟩ v):=hst.trans hsd
 simp[hsz,pv,hst2]
theorem vy {base:Nat} {t ty e:TypeId} {z:Value} {size bytes:Nat} (ht:P.underlying t=some (.slice e)) (hi:(P.info? e).map (fun i=>(i.zero,i.size,i.bytes))=some (some z,size,bytes)) (hzs:z.cells.size=size) (hsz:0<size)
 {v:Value} {n:Nat} {xs:List Value} (hown:w.ownsRow base e size v n xs) {x:Value} {news:List Value} (hx:Sl size news x w) (h1:∀u∈news,u.oneCell'=true)
 (hb:(xs.length+news.length)*bytes≤140737488355328*size) (hb0:0<bytes) (hbase:base≤w.heap.size):
 ∃v' w' n',(Builtin.append_ #[t,t] ty #[v,x]).run P w=.ok v' w'∧w'.ownsRow base e size v' n' (xs++news)∧gi w w' v v':=by
 obtain⟨i,hi,hz,hsize,hby⟩:=info_parts hi
 obtain⟨A,m,c,rfl,hmc,hcm,hl,hcells,hnone⟩:=hx
 have hbytes:(n+m)*bytes≤140737488355328:=by
  have e1:xs.length+news.length=(n+m)*size:=by rw[hown.1,hl,Nat.add_mul]
  rw[e1] at hb
  have:(n+m)*bytes*size≤140737488355328*size:=by rw[Nat.mul_right_comm];exact hb
  exact Nat.le_of_mul_le_mul_right this hsz
 have h63:n+m≤maxLen:=by
  have:n+m≤(n+m)*bytes:=Nat.le_mul_of_pos_right _ hb0
  unfold maxLen;omega
 rcases Np m with rfl|hm
 ·have hn:news=[]:=Nm (by simpa using hl)
  subst hn
  cases A with
  |none=>
   have hrun:(Builtin.append_ #[t,t] ty #[v,.slice none 0 c]).run P w=.ok v w:=by
    rcases hown.2 with⟨rfl,rfl⟩|⟨g,cap,cur,rfl,_,_,hnc,_⟩
    ·simp[Builtin.append_,run_underlying ht,sizeOf,typeInfo,hi,Builtin.lenOf,Builtin.firstCells]
    ·simp[Builtin.append_,run_underlying ht,sizeOf,typeInfo,hi,Builtin.lenOf,Builtin.firstCells,hnc,storeCells]
   exact⟨v,w,n,hrun,by simpa using hown,gi.of_ext (aH.refl w) (.inl J)⟩
  |some ad=>
   obtain⟨v',w',h2,h3,h4,_,h5⟩:=run_append_own_at (P:=P) w base t ty e i z size bytes ht hi hz hsize hby hzs hsz v n xs hown ad 0 c [] (by simp) (by simp) (by simp) h63 hbytes hbase
   exact⟨v',w',_,h2,h3,h4,h5.imp_right fun h k hk=>by rw[h] at hk;exact Nat.le_of_eq (Nc hk)⟩
 ·obtain⟨ad,rfl,hc⟩:=hcells hm
  obtain⟨v',w',h2,h3,h4,_,h5⟩:=run_append_own_at (P:=P) w base t ty e i z size bytes ht hi hz hsize hby hzs hsz v n xs hown ad m c news hl hc h1 h63 hbytes hbase
  exact⟨v',w',_,h2,h3,h4,h5.imp_right fun h k hk=>by rw[h] at hk;exact Nat.le_of_eq (Nc hk)⟩
theorem Kk {t ty:TypeId} {e:TypeId} {sz:Nat} (ht:P.underlying t=some (.slice e)) {xs:List Value} {v:Value} (h:Sl sz xs v w):∃n,xs.length=n*sz∧n≤maxLen∧(Builtin.len_ #[t] ty #[v]).run P w=.ok (I n) w:=by
 obtain⟨A,n,c,rfl,hnc,hcm,hl,_,_⟩:=h
 refine⟨n,hl,Nb hnc hcm,?_⟩
 simp[Builtin.len_,run_underlying ht,goInt,I]
theorem rQ {t e:TypeId} {sz:Nat} (ht:P.underlying t=some (.slice e)) (hsz:(P.info? e).map (·.size)=some sz) {xs:List Value} {v:Value} (h:Sl sz xs v w) {lo:Nat} (h2:lo*sz≤xs.length) (h0:0<sz) (kl:IntKind):
 ∃r,(∀w':World,(Instr.sliceAt t v (some (.int kl lo)) none none).run P w'=.ok r w')∧Sl sz (xs.drop (lo*sz)) r w:=by
 obtain⟨A,n,c,rfl,hnc,hcm,hl,hc,hnone⟩:=h
 obtain⟨i,hi',hs⟩:=Option.map_eq_some_iff.1 hsz
 have hln:lo≤n:=by
  rw[hl] at h2
  exact Nat.le_of_mul_le_mul_right h2 h0
 have hb:∀w:World,(Instr.sliceBounds true n c (some (.int kl lo)) none none).run P w=.ok (lo,n,c) w:=fun w=>by
  have a2:=run_sliceBound (P:=P) (w:=w) kl (lo:Int) n .sliceB (by omega) (by omega)
  simp only[Int.toNat_natCast] at a2
  simp[Instr.sliceBounds,a2]
 refine⟨.slice (if c=lo then A else A.map (·.add (lo*sz))) (n-lo) (c-lo),?_,?_⟩
 ·intro w';simp[Instr.sliceAt,Instr.slice,run_underlying ht,hb,sizeOf,typeInfo,hi',hs]
 ·refine⟨_,_,_,J,by omega,by omega,?_,fun hn=>?_,fun hA=>?_⟩
  ·rw[List.length_drop,hl,←Nat.sub_mul]
  ·obtain⟨ad,rfl,hcl⟩:=hc (by omega)
   rw[if_neg (by omega)]
   exact⟨_,J,hcl.drop _⟩
  ·split at hA
   ·have:=hnone hA;omega
   ·cases A with
    |none=>have:=hnone rfl;omega
    |some ad=>cases hA
theorem vz {t e:TypeId} {sz:Nat} (ht:P.underlying t=some (.slice e)) (hsz:(P.info? e).map (·.size)=some sz) {xs:List Value} {v:Value} (h:Sl sz xs v w) {hi:Nat} (h2:hi*sz≤xs.length) (h0:0<sz) (kh:IntKind):
 ∃r,(∀w':World,(Instr.sliceAt t v none (some (.int kh hi)) none).run P w'=.ok r w')∧Sl sz (xs.take (hi*sz)) r w:=by
 obtain⟨A,n,c,rfl,hnc,hcm,hl,hc,hnone⟩:=h
 obtain⟨i,hi',hs⟩:=Option.map_eq_some_iff.1 hsz
 have hhn:hi≤n:=by
  rw[hl] at h2
  exact Nat.le_of_mul_le_mul_right h2 h0
 have hb:∀w:World,(Instr.sliceBounds true n c none (some (.int kh hi)) none).run P w=.ok (0,hi,c) w:=fun w=>by
  have a1:=run_sliceBound (P:=P) (w:=w) kh (hi:Int) c .sliceAcap (by omega) (by omega)
  simp only[Int.toNat_natCast] at a1
  simp[Instr.sliceBounds,a1]
 refine⟨.slice (if c=0 then A else A.map (·.add (0*sz))) (hi-0) (c-0),?_,?_⟩
 ·intro w';simp[Instr.sliceAt,Instr.slice,run_underlying ht,hb,sizeOf,typeInfo,hi',hs]
 ·have hA':(if c=0 then A else A.map (·.add (0*sz)))=A:=by
   split
   ·rfl
   ·cases A<;>simp[pv]
  rw[hA']
  refine⟨_,_,_,J,by omega,by omega,?_,fun hn=>?_,fun hA=>by have:=hnone hA;omega⟩
  ·rw[List.length_take,Nat.min_eq_left h2];simp
  ·obtain⟨ad,rfl,hcl⟩:=hc (by omega)
   exact⟨_,J,hcl.take _⟩
theorem y8 {t e:TypeId} {sz:Nat} (ht:P.underlying t=some (.slice e)) (hsz:(P.info? e).map (·.size)=some sz) {xs:List Value} {v:Value} (h:Sl sz xs v w) {i:Nat} (h2:(i+1)*sz≤xs.length) (h0:0<sz) (k:IntKind):
 ∃ad,(∀w':World,(Instr.indexAt t v (.int k i)).run P w'=.ok (.pointer (some ad)) w')∧d8 w ad ((xs.drop (i*sz)).take sz):=by
 obtain⟨A,n,c,rfl,hnc,hcm,hl,hc,hnone⟩:=h
 obtain⟨ti,hi',hs⟩:=Option.map_eq_some_iff.1 hsz
 have hin:i<n:=by
  rw[hl] at h2
  exact Nat.le_of_mul_le_mul_right h2 h0
 obtain⟨ad,rfl,hcl⟩:=hc (by omega)
 refine⟨ad.add (i*sz),?_,(hcl.drop _).take _⟩
 intro w'
 simp[Instr.indexAt,asIntOf,run_underlying ht,hin,sizeOf,typeInfo,hi',hs]
end
end Go.Rl
namespace Go.Rl
section
variable {P:Program} {w:World} {t:TypeId} {x y:Operand}
theorem dw {op:BinOp} {k k':IntKind} {a b:Int}:(bin op t x y (.int k a) (.int k' b)).run P w=(binOp op t (.int k a) (.int k' b)).run P w:=by
 unfold bin eqGuard
 cases op<;>rfl
theorem te {n:Int} (h1: -9223372036854775808≤n) (h2:n≤9223372036854775807):IntKind.i64.wrap n=n:=by rw[IntKind.wrap_i64];omega
theorem aY {a b:Int} (h1: -9223372036854775808≤a+b:=by omega) (h2:a+b≤9223372036854775807:=by omega):(bin .add t x y (I a) (I b)).run P w=.ok (I (a+b)) w:=by
 unfold I;rw[dw];simp[binOp,Op.intArith,te h1 h2]
theorem bT {a b:Int} (h1: -9223372036854775808≤a-b:=by omega) (h2:a-b≤9223372036854775807:=by omega):(bin .sub t x y (I a) (I b)).run P w=.ok (I (a-b)) w:=by
 unfold I;rw[dw];simp[binOp,Op.intArith,te h1 h2]
theorem vc {a b:Int} (h1: -9223372036854775808≤a*b) (h2:a*b≤9223372036854775807):(bin .mul t x y (I a) (I b)).run P w=.ok (I (a*b)) w:=by
 unfold I;rw[dw];simp[binOp,Op.intArith,te h1 h2]
theorem qE {a b:Int} (h1:0≤a) (h2:0<b) (h3:a≤9223372036854775807):(bin .quo t x y (I a) (I b)).run P w=.ok (I (a/b)) w:=by
 unfold I;rw[dw]
 have e:a.tdiv b=a/b:=Int.tdiv_eq_ediv_of_nonneg h1
 have h4:0≤a/b:=Int.ediv_nonneg h1 (by omega)
 have h5:a/b≤a:=Int.ediv_le_self b h1
 have h6:IntKind.i64.wrap (a/b)=a/b:=te (by omega) (by omega)
 have h7:b≠0:=by omega
 simp[binOp,Op.intDiv,h7,e,h6]
theorem oc {a b:Int} (h1:0≤a) (h2:0<b):(bin .rem t x y (I a) (I b)).run P w=.ok (I (a%b)) w:=by
 unfold I;rw[dw]
 have e:a.tmod b=a%b:=Int.tmod_eq_emod_of_nonneg h1
 have h7:b≠0:=by omega
 simp[binOp,Op.intDiv,h7,e]
theorem aX {a b:Int}:(bin .lss t x y (I a) (I b)).run P w=.ok (B (decide (a<b))) w:=by unfold I;rw[dw];rfl
theorem iw {a b:Int}:(bin .leq t x y (I a) (I b)).run P w=.ok (B (decide (a≤b))) w:=by unfold I;rw[dw];rfl
theorem bo {a b:Int}:(bin .gtr t x y (I a) (I b)).run P w=.ok (B (decide (a>b))) w:=by unfold I;rw[dw];rfl
theorem cz {a b:Int}:(bin .geq t x y (I a) (I b)).run P w=.ok (B (decide (a≥b))) w:=by unfold I;rw[dw];rfl
theorem D7 {a b:Int}:(a==b)=decide (a=b):=rfl
theorem D8 {a b:Int}:(a !=b)=decide (a≠b):=by
 by_cases h:a=b<;>simp[h]
theorem aO {a b:Int}:(bin .eql t x y (I a) (I b)).run P w=.ok (B (decide (a=b))) w:=by unfold I;rw[dw];rfl
theorem fg {a b:Int}:(bin .neq t x y (I a) (I b)).run P w=.ok (B (decide (a≠b))) w:=by
 unfold I;rw[dw,←D8];rfl
theorem r_shr_i {a:Int} {k:IntKind} (s:Nat) (hs:s<64):(bin .shr t x y (I a) (.int k (s:Int))).run P w=.ok (I (a/2^s)) w:=by
 unfold I;rw[dw]
 have h1:¬((s:Int)<0):=by omega
 have h2:min s 64=s:=by omega
 have e:a.fdiv (2^s)=a/2^s:=Int.fdiv_eq_ediv_of_nonneg _ (by exact Int.le_of_lt (Int.pow_pos (by omega)))
 simp only[binOp,Op.shift,if_neg h1,Int.toNat_natCast,IntKind.bits,h2,e]
 rfl
theorem y9 {a:Int} (h1: -9223372036854775808≤ -a) (h2: -a≤9223372036854775807):(Op.unary .neg (I a)).run P w=.ok (I (-a)) w:=by
 have:IntKind.i64.wrap (0-a)= -a:=by rw[Int.zero_sub];exact te h1 h2
 simp only[I,Op.unary,Op.intArith,this];rfl
theorem bF {p:Prop} {dp:Decidable p} {s:Sem Value} {w':World} (h:p) (hr:s.run P w=.ok (B (@decide p dp)) w'):s.run P w=.ok (B true) w':=by rw[hr,decide_eq_true h]
theorem be {p:Prop} {dp:Decidable p} {s:Sem Value} {w':World} (h:¬p) (hr:s.run P w=.ok (B (@decide p dp)) w'):s.run P w=.ok (B false) w':=by rw[hr,decide_eq_false h]
theorem cn {b:Bool}:(Op.unary .not (B b)).run P w=.ok (B (!b)) w:=rfl
theorem Jp {p:Prop} {dp:Decidable p}:(Op.unary .not (B (@decide p dp))).run P w=.ok (B (decide (¬p))) w:=by
 show Result.ok (Value.bool (!decide p)) w=_
 rw[←decide_not];rfl
theorem D9 (n:Nat):IntKind.u8.wrap (n:Int)=((n%256:Nat):Int):=by rw[IntKind.wrap_u8];omega
theorem Kl (a:UInt8):a.toNat<256:=a.toNat_lt
theorem G9 {a b:UInt8} (h:a.toNat=b.toNat):a=b:=UInt8.toNat_inj.1 h
theorem Ha {a b:UInt8} (hb:b≠0):(bin .quo t x y (U8 a) (U8 b)).run P w=.ok (U8 (a/b)) w:=by
 unfold U8;rw[dw]
 have h0:b.toNat≠0:=fun h=>hb (G9 (by simpa using h))
 have h1:(b.toNat:Int)≠0:=by omega
 have e:((a.toNat:Int)).tdiv (b.toNat:Int)=((a.toNat/b.toNat:Nat):Int):=rfl
 have hlt:a.toNat/b.toNat<256:=Nat.lt_of_le_of_lt (Nat.div_le_self _ _) (Kl a)
 simp only[binOp,Op.intDiv,ne_eq,not_true_eq_false,if_false,if_neg h1,e,D9,Nat.mod_eq_of_lt hlt,UInt8.toNat_div]
 rfl
theorem vA {a b:UInt8} (hb:b≠0):(bin .rem t x y (U8 a) (U8 b)).run P w=.ok (U8 (a%b)) w:=by
 unfold U8;rw[dw]
 have h0:b.toNat≠0:=fun h=>hb (G9 (by simpa using h))
 have h1:(b.toNat:Int)≠0:=by omega
 have e:((a.toNat:Int)).tmod (b.toNat:Int)=((a.toNat%b.toNat:Nat):Int):=rfl
 simp only[binOp,Op.intDiv,ne_eq,not_true_eq_false,if_false,if_neg h1,e,UInt8.toNat_mod]
 rfl
theorem ny (n:Nat):IntKind.u32.wrap (n:Int)=((n%4294967296:Nat):Int):=by rw[IntKind.wrap_u32];omega
theorem Hb (a:UInt32):a.toNat<4294967296:=a.toNat_lt
theorem qF (a:UInt32):BitVec.ofInt 32 (a.toNat:Int)=a.toBitVec:=by
 rw[BitVec.ofInt_natCast];exact BitVec.eq_of_toNat_eq (by simp)
theorem Ea {a b:UInt32} (h:a.toNat=b.toNat):a=b:=UInt32.toNat_inj.1 h
theorem Fg {a b:UInt32}:(bin .add t x y (ep a) (ep b)).run P w=.ok (ep (a+b)) w:=by
 unfold ep;rw[dw]
 show Result.ok (Value.int .u32 (IntKind.u32.wrap (((a.toNat:Int))+(b.toNat:Int)))) w=_
 rw[←Int.natCast_add,ny,UInt32.toNat_add]
theorem Fh {a b:UInt32}:(bin .mul t x y (ep a) (ep b)).run P w=.ok (ep (a*b)) w:=by
 unfold ep;rw[dw]
 show Result.ok (Value.int .u32 (IntKind.u32.wrap (((a.toNat:Int))*(b.toNat:Int)))) w=_
 rw[←Int.natCast_mul,ny,UInt32.toNat_mul]
theorem xE {a b:UInt32}:(bin .lss t x y (ep a) (ep b)).run P w=.ok (B (decide (a<b))) w:=by
 unfold ep;rw[dw]
 have:decide (((a.toNat:Int))<(b.toNat:Int))=decide (a<b):=decide_eq_decide.2 (by rw[UInt32.lt_iff_toNat_lt];omega)
 show Result.ok (Value.bool (decide (((a.toNat:Int))<(b.toNat:Int)))) w=_
 rw[this];rfl
theorem xF {a b:UInt32}:(bin .gtr t x y (ep a) (ep b)).run P w=.ok (B (decide (a>b))) w:=by
 unfold ep;rw[dw]
 have:decide (((a.toNat:Int))>(b.toNat:Int))=decide (a>b):=decide_eq_decide.2 (by show _↔b<a;rw[UInt32.lt_iff_toNat_lt];omega)
 show Result.ok (Value.bool (decide (((a.toNat:Int))>(b.toNat:Int)))) w=_
 rw[this];rfl
theorem tf {a b:UInt32}:(bin .geq t x y (ep a) (ep b)).run P w=.ok (B (decide (a≥b))) w:=by
 unfold ep;rw[dw]
 have:decide (((a.toNat:Int))≥(b.toNat:Int))=decide (a≥b):=decide_eq_decide.2 (by show _↔b≤a;rw[UInt32.le_iff_toNat_le];omega)
 show Result.ok (Value.bool (decide (((a.toNat:Int))≥(b.toNat:Int)))) w=_
 rw[this];rfl
theorem lM {a b:UInt32}:(bin .eql t x y (ep a) (ep b)).run P w=.ok (B (decide (a=b))) w:=by
 unfold ep;rw[dw]
 have:(((a.toNat:Int))==(b.toNat:Int))=decide (a=b):=by
  rw[D7];exact decide_eq_decide.2 ⟨fun h=>Ea (by omega),fun h=>by rw[h]⟩
 show Result.ok (Value.bool (((a.toNat:Int))==(b.toNat:Int))) w=_
 rw[this];rfl
theorem tj {a b:UInt32}:(bin .neq t x y (ep a) (ep b)).run P w=.ok (B (decide (a≠b))) w:=by
 unfold ep;rw[dw]
 have:(((a.toNat:Int)) !=(b.toNat:Int))=decide (a≠b):=by
  rw[D8];exact decide_eq_decide.2 ⟨fun h he=>h (by rw[he]),fun h he=>h (Ea (by omega))⟩
 show Result.ok (Value.bool (((a.toNat:Int)) !=(b.toNat:Int))) w=_
 rw[this];rfl
theorem xG {a b:UInt32}:(bin .and t x y (ep a) (ep b)).run P w=.ok (ep (a&&&b)) w:=by
 unfold ep;rw[dw]
 show Result.ok (Value.int .u32 (IntKind.u32.wrap ((BitVec.ofInt 32 (a.toNat:Int)&&&BitVec.ofInt 32 (b.toNat:Int)).toNat:Int))) w=_
 rw[qF,qF,ny,Nat.mod_eq_of_lt (by have:=(a.toBitVec&&&b.toBitVec).isLt;simpa using this)]
 rfl
theorem AI {a b:UInt32}:(bin .or t x y (ep a) (ep b)).run P w=.ok (ep (a|||b)) w:=by
 unfold ep;rw[dw]
 show Result.ok (Value.int .u32 (IntKind.u32.wrap ((BitVec.ofInt 32 (a.toNat:Int)|||BitVec.ofInt 32 (b.toNat:Int)).toNat:Int))) w=_
 rw[qF,qF,ny,Nat.mod_eq_of_lt (by have:=(a.toBitVec|||b.toBitVec).isLt;simpa using this)]
 rfl
theorem lN {a:UInt32} {k:IntKind} (s:Nat) (hs:s<32):(bin .shr t x y (ep a) (.int k (s:Int))).run P w=.ok (ep (a>>>UInt32.ofNat s)) w:=by
 unfold ep;rw[dw]
 have h1:¬((s:Int)<0):=by omega
 have h2:min s 32=s:=by omega
 have e:((a.toNat:Int)).fdiv (2^s)=((a.toNat/2^s:Nat):Int):=by
  rw[Int.fdiv_eq_ediv_of_nonneg _ (by exact Int.le_of_lt (Int.pow_pos (by omega)))]
  simp
 have e2:(a>>>UInt32.ofNat s).toNat=a.toNat/2^s:=by
  rw[UInt32.toNat_shiftRight,Nat.shiftRight_eq_div_pow]
  have:(UInt32.ofNat s).toNat%32=s:=by rw[UInt32.toNat_ofNat'];omega
  rw[this]
 simp only[binOp,Op.shift,if_neg h1,Int.toNat_natCast,IntKind.bits,h2,e,←e2]
 rfl
theorem Fi {a:UInt32} {k:IntKind} (s:Nat) (hs:s<32):(bin .shl t x y (ep a) (.int k (s:Int))).run P w=.ok (ep (a<<<UInt32.ofNat s)) w:=by
 unfold ep;rw[dw]
 have h1:¬((s:Int)<0):=by omega
 have h2:min s 32=s:=by omega
 have e2:(a<<<UInt32.ofNat s).toNat=a.toNat*2^s%4294967296:=by
  rw[UInt32.toNat_shiftLeft,Nat.shiftLeft_eq]
  have:(UInt32.ofNat s).toNat%32=s:=by rw[UInt32.toNat_ofNat'];omega
  rw[this]
 have e:((a.toNat:Int))*2^s=((a.toNat*2^s:Nat):Int):=by simp
 simp only[binOp,Op.shift,if_neg h1,Int.toNat_natCast,IntKind.bits,h2,e,ny,←e2]
 rfl
theorem nz (n:Nat):IntKind.u64.wrap (n:Int)=((n%18446744073709551616:Nat):Int):=by rw[IntKind.wrap_u64];omega
theorem za (a:UInt64):a.toNat<18446744073709551616:=a.toNat_lt
theorem xH (a:UInt64):BitVec.ofInt 64 (a.toNat:Int)=a.toBitVec:=by
 rw[BitVec.ofInt_natCast];exact BitVec.eq_of_toNat_eq (by simp)
theorem zb {a b:UInt64} (h:a.toNat=b.toNat):a=b:=UInt64.toNat_inj.1 h
theorem eq {a b:UInt64}:(bin .add t x y (fB a) (fB b)).run P w=.ok (fB (a+b)) w:=by
 unfold fB;rw[dw]
 show Result.ok (Value.int .u64 (IntKind.u64.wrap (((a.toNat:Int))+(b.toNat:Int)))) w=_
 rw[←Int.natCast_add,nz,UInt64.toNat_add]
theorem gC {a b:UInt64}:(bin .sub t x y (fB a) (fB b)).run P w=.ok (fB (a-b)) w:=by
 unfold fB;rw[dw]
 show Result.ok (Value.int .u64 (IntKind.u64.wrap (((a.toNat:Int))-(b.toNat:Int)))) w=_
 rw[IntKind.wrap_u64,UInt64.toNat_sub]
 have:=za a;have:=za b
 have e:((a.toNat:Int)-(b.toNat:Int))%18446744073709551616=(((18446744073709551616-b.toNat+a.toNat)%18446744073709551616:Nat):Int):=by omega
 rw[e]
theorem qG {a b:UInt64}:(bin .mul t x y (fB a) (fB b)).run P w=.ok (fB (a*b)) w:=by
 unfold fB;rw[dw]
 show Result.ok (Value.int .u64 (IntKind.u64.wrap (((a.toNat:Int))*(b.toNat:Int)))) w=_
 rw[←Int.natCast_mul,nz,UInt64.toNat_mul]
theorem tk {a b:UInt64} (hb:b≠0):(bin .quo t x y (fB a) (fB b)).run P w=.ok (fB (a/b)) w:=by
 unfold fB;rw[dw]
 have h0:b.toNat≠0:=fun h=>hb (zb (by simpa using h))
 have h1:(b.toNat:Int)≠0:=by omega
 have e:((a.toNat:Int)).tdiv (b.toNat:Int)=((a.toNat/b.toNat:Nat):Int):=rfl
 have hlt:a.toNat/b.toNat<18446744073709551616:=Nat.lt_of_le_of_lt (Nat.div_le_self _ _) (za a)
 simp only[binOp,Op.intDiv,ne_eq,not_true_eq_false,if_false,if_neg h1,e,nz,Nat.mod_eq_of_lt hlt,UInt64.toNat_div]
 rfl
theorem qH {a b:UInt64} (hb:b≠0):(bin .rem t x y (fB a) (fB b)).run P w=.ok (fB (a%b)) w:=by
 unfold fB;rw[dw]
 have h0:b.toNat≠0:=fun h=>hb (zb (by simpa using h))
 have h1:(b.toNat:Int)≠0:=by omega
 have e:((a.toNat:Int)).tmod (b.toNat:Int)=((a.toNat%b.toNat:Nat):Int):=rfl
 simp only[binOp,Op.intDiv,ne_eq,not_true_eq_false,if_false,if_neg h1,e,UInt64.toNat_mod]
 rfl
theorem Fj {a b:UInt64}:(bin .lss t x y (fB a) (fB b)).run P w=.ok (B (decide (a<b))) w:=by
 unfold fB;rw[dw]
 have:decide (((a.toNat:Int))<(b.toNat:Int))=decide (a<b):=decide_eq_decide.2 (by rw[UInt64.lt_iff_toNat_lt];omega)
 show Result.ok (Value.bool (decide (((a.toNat:Int))<(b.toNat:Int)))) w=_
 rw[this];rfl
theorem xI {a b:UInt64}:(bin .gtr t x y (fB a) (fB b)).run P w=.ok (B (decide (a>b))) w:=by
 unfold fB;rw[dw]
 have:decide (((a.toNat:Int))>(b.toNat:Int))=decide (a>b):=decide_eq_decide.2 (by show _↔b<a;rw[UInt64.lt_iff_toNat_lt];omega)
 show Result.ok (Value.bool (decide (((a.toNat:Int))>(b.toNat:Int)))) w=_
 rw[this];rfl
theorem qI {a b:UInt64}:(bin .geq t x y (fB a) (fB b)).run P w=.ok (B (decide (a≥b))) w:=by
 unfold fB;rw[dw]
 have:decide (((a.toNat:Int))≥(b.toNat:Int))=decide (a≥b):=decide_eq_decide.2 (by show _↔b≤a;rw[UInt64.le_iff_toNat_le];omega)
 show Result.ok (Value.bool (decide (((a.toNat:Int))≥(b.toNat:Int)))) w=_
 rw[this];rfl
theorem xJ {a b:UInt64}:(bin .eql t x y (fB a) (fB b)).run P w=.ok (B (decide (a=b))) w:=by
 unfold fB;rw[dw]
 have:(((a.toNat:Int))==(b.toNat:Int))=decide (a=b):=by
  rw[D7];exact decide_eq_decide.2 ⟨fun h=>zb (by omega),fun h=>by rw[h]⟩
 show Result.ok (Value.bool (((a.toNat:Int))==(b.toNat:Int))) w=_
 rw[this];rfl
theorem mi {a b:UInt64}:(bin .or t x y (fB a) (fB b)).run P w=.ok (fB (a|||b)) w:=by
 unfold fB;rw[dw]
 show Result.ok (Value.int .u64 (IntKind.u64.wrap ((BitVec.ofInt 64 (a.toNat:Int)|||BitVec.ofInt 64 (b.toNat:Int)).toNat:Int))) w=_
 rw[xH,xH,nz,Nat.mod_eq_of_lt (by have:=(a.toBitVec|||b.toBitVec).isLt;simpa using this)]
 rfl
theorem ei {a:UInt64} {k:IntKind} (s:Nat) (hs:s<64):(bin .shr t x y (fB a) (.int k (s:Int))).run P w=.ok (fB (a>>>UInt64.ofNat s)) w:=by
 unfold fB;rw[dw]
 have h1:¬((s:Int)<0):=by omega
 have h2:min s 64=s:=by omega
 have e:((a.toNat:Int)).fdiv (2^s)=((a.toNat/2^s:Nat):Int):=by
  rw[Int.fdiv_eq_ediv_of_nonneg _ (by exact Int.le_of_lt (Int.pow_pos (by omega)))]
  simp
 have e2:(a>>>UInt64.ofNat s).toNat=a.toNat/2^s:=by
  rw[UInt64.toNat_shiftRight,Nat.shiftRight_eq_div_pow]
  have:(UInt64.ofNat s).toNat%64=s:=by rw[UInt64.toNat_ofNat'];omega
  rw[this]
 simp only[binOp,Op.shift,if_neg h1,Int.toNat_natCast,IntKind.bits,h2,e,←e2]
 rfl
theorem jq {a:UInt64} {k:IntKind} (s:Nat) (hs:s<64):(bin .shl t x y (fB a) (.int k (s:Int))).run P w=.ok (fB (a<<<UInt64.ofNat s)) w:=by
 unfold fB;rw[dw]
 have h1:¬((s:Int)<0):=by omega
 have h2:min s 64=s:=by omega
 have e2:(a<<<UInt64.ofNat s).toNat=a.toNat*2^s%18446744073709551616:=by
  rw[UInt64.toNat_shiftLeft,Nat.shiftLeft_eq]
  have:(UInt64.ofNat s).toNat%64=s:=by rw[UInt64.toNat_ofNat'];omega
  rw[this]
 have e:((a.toNat:Int))*2^s=((a.toNat*2^s:Nat):Int):=by simp
 simp only[binOp,Op.shift,if_neg h1,Int.toNat_natCast,IntKind.bits,h2,e,nz,←e2]
 rfl
theorem vB {s d:TypeId} {ds:TypeDesc} {j k:IntKind} {n:Int} (hs:P.underlying s=some ds) (hd:P.underlying d=some (.int k)):(convert s d (.int j n)).run P w=.ok (.int k (k.wrap n)) w:=by
 simp only[convert,Sem.run_bind,run_underlying hs,run_underlying hd,Result.andThen_ok]
 rfl
section
variable {s d:TypeId} {ds:TypeDesc} (hs:P.underlying s=some ds)
include hs
theorem od {a:UInt8} (hd:P.underlying d=some (.int .i64)):(convert s d (U8 a)).run P w=.ok (I (a.toNat:Int)) w:=by
 unfold U8 I;have:=Kl a;rw[vB hs hd,te (by omega) (by omega)]
theorem sG {a:UInt32} (hd:P.underlying d=some (.int .u8)):(convert s d (ep a)).run P w=.ok (U8 a.toUInt8) w:=by
 unfold ep U8;rw[vB hs hd,D9]
 have:=Hb a
 have e:a.toUInt8.toNat=a.toNat%256:=by simp
 rw[e]
theorem cr {a:UInt32} (hd:P.underlying d=some (.int .u64)):(convert s d (ep a)).run P w=.ok (fB a.toUInt64) w:=by
 unfold ep fB;rw[vB hs hd,nz]
 have:=Hb a
 have e:a.toUInt64.toNat=a.toNat%18446744073709551616:=by simp
 rw[e]
theorem c7 {a:UInt64} (hd:P.underlying d=some (.int .u32)):(convert s d (fB a)).run P w=.ok (ep a.toUInt32) w:=by
 unfold fB ep;rw[vB hs hd,ny]
 have:=za a
 have e:a.toUInt32.toNat=a.toNat%4294967296:=by simp
 rw[e]
theorem vd {a:Int} (hd:P.underlying d=some (.int .u64)):(convert s d (I a)).run P w=.ok (fB (UInt64.ofInt a)) w:=by
 unfold I fB;rw[vB hs hd,IntKind.wrap_u64]
 have e:((UInt64.ofInt a).toNat:Int)=a%18446744073709551616:=by
  have h2:(2:Int)^64=18446744073709551616:=by decide
  rw[UInt64.ofInt,h2,UInt64.toNat_ofNat'];omega
 rw[e]
end
def S (l:List UInt8):Value:=.string ⟨l.toArray⟩
end
end Go.Rl
namespace Go.Rl
def val:List UInt32→Nat
 |[]=>0
 |x::l=>x.toNat+4294967296*val l
def tr:List UInt32→List UInt32
 |[]=>[]
 |x::l=>match tr l with
  |[]=>if x=0 then[] else[x]
  |y::m=>x::y::m
def Jq:Nat→Nat→List UInt32
 |0,_=>[]
 |f+1,n=>if n=0 then[] else UInt32.ofNat (n%4294967296)::Jq f (n/4294967296)
def lb (n:Nat):List UInt32:=Jq n n
theorem Hc:∀(f g n:Nat),n≤f→n≤g→Jq f n=Jq g n
 |0,0,n,_,_=>rfl
 |0,g+1,n,h,_=>by simp[Jq,show n=0 by omega]
 |f+1,0,n,_,h=>by simp[Jq,show n=0 by omega]
 |f+1,g+1,n,h1,h2=>by
  simp only[Jq]
  split
  ·rfl
  ·rw[Hc f g (n/4294967296) (by omega) (by omega)]
theorem fG:lb 0=[]:=rfl
theorem px {n:Nat} (h:0<n):lb n=UInt32.ofNat (n%4294967296)::lb (n/4294967296):=by
 obtain⟨m,rfl⟩:∃m,n=m+1:=⟨n-1,by omega⟩
 show Jq (m+1) (m+1)=_
 simp only[Jq]
 rw[if_neg (by omega),Hc m ((m+1)/4294967296) _ (by omega) (Nat.le_refl _)]
 rfl
theorem dk (x:UInt32):x.toNat<4294967296:=x.toNat_lt
theorem tw {n:Nat} (h:n<4294967296):(UInt32.ofNat n).toNat=n:=by rw[UInt32.toNat_ofNat'];omega
theorem qJ {x y:UInt32} (h:x.toNat=y.toNat):x=y:=UInt32.toNat_inj.1 h
theorem KS {x:UInt32} (h:x≠0):0<x.toNat:=by
 rcases Np x.toNat with h0|h0
 ·exact absurd (qJ (y:=0) h0) h
 ·exact h0
theorem bk (n:Nat):val (lb n)=n:=by
 induction n using Nat.strongRecOn with
 |ind n ih=>
  rcases Np n with rfl|h
  ·rfl
  ·rw[px h,val,ih _ (by omega),tw (by omega)]
   omega
theorem fw:∀(l m:List UInt32),val (l++m)=val l+4294967296^l.length*val m
 |[],m=>by simp[val]
 |x::l,m=>by
  rw[List.cons_append,val,fw l m,val,List.length_cons,Nat.pow_succ,Nat.mul_add,←Nat.mul_assoc,Nat.mul_comm (4294967296^l.length),Nat.add_assoc]
theorem c9:∀(l:List UInt32),val l<4294967296^l.length
 |[]=>by simp[val]
 |x::l=>by
  have:=c9 l
  have hx:=dk x
  rw[val,List.length_cons,Nat.pow_succ]
  have:4294967296*(val l+1)≤4294967296*4294967296^l.length:=Nr _ this
  rw[Nat.mul_comm (4294967296^l.length)]
  omega
theorem lO (n:Nat):val (List.replicate n 0)=0:=by
 induction n with
 |zero=>rfl
 |succ n ih=>rw[List.replicate_succ,val,ih];rfl
theorem oe (x:UInt32):val [x]=x.toNat:=by simp[val]
theorem cL {l:List UInt32} {i:Nat} (h:i<l.length):val (l.take (i+1))=val (l.take i)+4294967296^i*l[i].toNat:=by
 rw[List.take_succ_eq_append_getElem h,fw,oe,List.length_take,Nat.min_eq_left (by omega)]
theorem fV {l:List UInt32} {i:Nat} (h:i<l.length):val (l.drop i)=l[i].toNat+4294967296*val (l.drop (i+1)):=by
 rw[List.drop_eq_getElem_cons h,val]
theorem fe (l:List UInt32) (i:Nat) (h:i≤l.length):val l=val (l.take i)+4294967296^i*val (l.drop i):=by
 conv=>lhs;rw[←List.take_append_drop i l]
 rw[fw,List.length_take,Nat.min_eq_left h]
theorem Hd:∀(l:List UInt32),val (tr l)=val l
 |[]=>rfl
 |x::l=>by
  have ih:=Hd l
  rw[tr]
  split
  ·rename_i h
   rw[h] at ih
   split
   ·rename_i hx;subst hx;simp[val,←ih]
   ·simp[val,←ih]
  ·rename_i y m h
   rw[h] at ih
   rw[val,ih,val]
theorem Km:∀(l:List UInt32),tr l=lb (val l)
 |[]=>rfl
 |x::l=>by
  have ih:=Km l
  have hx:=dk x
  rw[tr,val]
  rcases Np (val l) with h|h
  ·rw[h,fG] at ih
   rw[ih,h,Nat.mul_zero,Nat.add_zero]
   by_cases h0:x=0
   ·subst h0;simp[fG]
   ·have:=KS h0
    have e:UInt32.ofNat x.toNat=x:=qJ (by rw[tw hx])
    simp only[if_neg h0]
    rw[px this,Nat.mod_eq_of_lt hx,Nat.div_eq_of_lt hx,fG,e]
  ·rw[px (n:=x.toNat+4294967296*val l) (by omega),Nat.add_mul_mod_self_left,Nat.add_mul_div_left _ _ (by omega),Nat.div_eq_of_lt hx,Nat.zero_add,Nat.mod_eq_of_lt hx,←ih]
   have hne:tr l≠[]:=fun h0=>by
    have:=Hd l
    rw[h0,val] at this
    omega
   split
   ·rename_i h0;exact absurd h0 hne
   ·rename_i y m h0
    rw[h0]
    congr 1
    exact qJ (by rw[tw hx])
theorem Eb {x:UInt32} (h:x≠0):∀(l:List UInt32),tr (l++[x])=l++[x]
 |[]=>by simp[tr,h]
 |y::l=>by
  rw[List.cons_append,tr,Eb h l]
  cases l<;>rfl
theorem fM {n k:Nat} (h:n<4294967296^k):(lb n).length≤k:=by
 induction k generalizing n with
 |zero=>have:n=0:=by simpa using h
        subst this;simp[fG]
 |succ k ih=>
  rcases Np n with rfl|h0
  ·simp[fG]
  ·rw[px h0,List.length_cons]
   have:n/4294967296<4294967296^k:=by
    rw[Nat.div_lt_iff_lt_mul (by omega),←Nat.pow_succ];exact h
   have:=ih this
   omega
theorem Ec {n:Nat} (h:0<n):4294967296^((lb n).length-1)≤n:=by
 induction n using Nat.strongRecOn with
 |ind n ih=>
  rw[px h,List.length_cons,Nat.add_sub_cancel]
  rcases Np (n/4294967296) with h0|h0
  ·rw[h0,fG];exact h
  ·have h1:=ih (n/4294967296) (by omega) h0
   have h2:0<(lb (n/4294967296)).length:=by rw[px h0];simp
   obtain⟨k,hk⟩:∃k,(lb (n/4294967296)).length=k+1:=⟨_,(Nat.sub_add_cancel h2).symm⟩
   rw[hk,Nat.add_sub_cancel] at h1
   rw[hk,Nat.pow_succ]
   omega
theorem gl {n:Nat}:(lb n).length=0↔n=0:=by
 constructor
 ·intro h
  rcases Np n with h0|h0
  ·exact h0
  ·rw[px h0] at h;simp at h
 ·rintro rfl;rfl
theorem He {n m:Nat} (h:lb n=lb m):n=m:=by rw[←bk n,←bk m,h]
theorem zc {n m:Nat} (h:(lb n).length<(lb m).length):n<m:=by
 have h1:=c9 (lb n)
 rw[bk] at h1
 have hm:0<m:=by
  rcases Np m with rfl|h0
  ·simp[fG] at h
  ·exact h0
 have h2:=Ec hm
 exact Nk h1 (Nb (Nj (by omega) (by omega)) h2)
theorem zd {n i:Nat} (h:i+1=(lb n).length):0<((lb n)[i]'(by omega)).toNat:=by
 have hn:0<n:=by
  rcases Np n with h0|h0
  ·subst h0;simp[fG] at h
  ·exact h0
 have h1:=Ec hn
 have h2:val (lb n)=val ((lb n).take i)+4294967296^i*((lb n)[i]'(by omega)).toNat:=by
  rw[←cL (by omega),h,List.take_length]
 rw[bk] at h2
 have h3:=c9 ((lb n).take i)
 rw[List.length_take,Nat.min_eq_left (by omega)] at h3
 rw[←h,Nat.add_sub_cancel] at h1
 rcases Np ((lb n)[i]'(by omega)).toNat with h0|h0
 ·rw[h0] at h2;omega
 ·exact h0
def pn (x y:Nat):Int:=if x<y then-1 else if y<x then 1 else 0
theorem Ed {l m:List UInt32} {i:Nat} (hl:i<l.length) (hm:i<m.length) (hd:l.drop (i+1)=m.drop (i+1)) (h:l[i].toNat<m[i].toNat):val l<val m:=by
 rw[fe l (i+1) (by omega),fe m (i+1) (by omega),hd,cL hl,cL hm]
 have h1:=c9 (l.take i)
 rw[List.length_take,Nat.min_eq_left (by omega)] at h1
 have h2:4294967296^i*(l[i].toNat+1)≤4294967296^i*m[i].toNat:=Nr _ h
 rw[Nat.mul_add,Nat.mul_one] at h2
 omega
theorem Fk (i:Nat):0<4294967296^i:=Nat.pow_pos (by omega)
theorem Hf {n:Nat} (h0:0<n) (h:n<4294967296):lb n=[UInt32.ofNat n]:=by rw[px h0,Nat.mod_eq_of_lt h,Nat.div_eq_of_lt h,fG]
end Go.Rl
namespace Go.Rl
open Go.RowKit Go.Proofs
theorem AJ (vs:List Value):∀(a b:List Value),(∀v∈vs,v.cells= #[v])→b.length=vs.length→
 Instr.fill (fun i=>some (i*1,1)) (a++b).toArray (fF a.length vs)=some (a++vs).toArray:=by
 induction vs with
 |nil=>
  intro a b _ hb
  have:b=[]:=Nm (by simpa using hb)
  subst this
  rfl
 |cons v vs ih=>
  intro a b h1 hb
  cases b with
  |nil=>simp at hb
  |cons b0 b=>
   have hv:v.cells= #[v]:=h1 v (by simp)
   have hz:v.cells.zipIdx.foldl (fun(cs:Array Value) (c,j)=>cs.setIfInBounds (a.length*1+j) c) (a++b0::b).toArray=((a++[v])++b).toArray:=by
    rw[hv];simp
   have hc:(v.cells.size≠1||decide (a.length*1+v.cells.size>(a++b0::b).toArray.size))=false:=by rw[hv];simp
   have:=ih (a++[v]) b (fun u hu=>h1 u (by simp[hu])) (by simpa using hb)
   simp only[fF,Instr.fill]
   rw[hc,hz]
   simp only[List.length_append,List.length_cons,List.length_nil,Nat.zero_add] at this
   simpa using this
theorem Fl {v:Value} (h:v.oneCell'=true):v.cells= #[v]:=by cases v<;>first|rfl|cases h
section
variable {P:Program} {w:World}
theorem lC {base:Nat} {t e:TypeId} {z:Value} {bytes:Nat} (ht:P.underlying t=some (.slice e)) (hi:(P.info? e).map (fun i=>(i.zero,i.size,i.bytes))=some (some z,1,bytes))
 (vs:List Value) (h1:∀v∈vs,v.oneCell'=true) (hl:vs.length≤16777216) (hb:base≤w.heap.size):
 ∃r w',(Instr.buildSlice t vs.length (fF 0 vs).toArray).run P w=.ok r w'∧aH w w'∧w'.ownsRow base e 1 r vs.length vs∧r.ownBlock=some w.heap.size:=by
 obtain⟨i,hi,hz0,hs,_⟩:=info_parts hi
 refine⟨.slice (some ⟨w.heap.size,0,none⟩) vs.length vs.length,w.alloc (.cells vs.toArray e),?_,aH.new w _,?_,J⟩
 ·have hf:∀Z:Array Value,Z.size=vs.length→Instr.fill (fun i=>some (i*1,1)) Z (fF 0 vs)=some vs.toArray:=fun Z hZ=>by
   have:=AJ vs [] Z.toList (fun v hv=>Fl (h1 v hv)) (by simpa using hZ)
   simpa using this
  have hle:¬(vs.length*1>2^24):=by omega
  have hinfo:(typeInfo e).run P w=.ok i w:=by simp[typeInfo,hi]
  have hsz:(sizeOf e).run P w=.ok 1 w:=by simp[sizeOf,hinfo,hs]
  have hzv:(zeroValue e).run P w=.ok z w:=by simp[zeroValue,hinfo,hz0]
  simp only[Instr.buildSlice,Sem.run_bind,run_underlying ht,Result.andThen_ok,hsz,if_neg hle]
  by_cases h0:vs.length*1=0
  ·rw[if_pos h0]
   simp only[Sem.run_bind,Sem.run_pure,Result.andThen_ok]
   rw[hf _ (by simp)]
   simp[newRow]
  ·rw[if_neg h0]
   simp only[Sem.run_bind,Sem.run_pure,Result.andThen_ok,hzv]
   rw[hf _ (by simp)]
   simp[newRow]
 ·exact World.ownsRow_lit w vs.toArray vs.length hb (by unfold maxLen;omega) (by simp)
theorem cY {u v:Value}:(Instr.extract (.tuple #[u,v]) 0).run P w=.ok u w:=rfl
theorem cZ {u v:Value}:(Instr.extract (.tuple #[u,v]) 1).run P w=.ok v w:=rfl
theorem ey {u v z:Value}:(Instr.extract (.tuple #[u,v,z]) 0).run P w=.ok u w:=rfl
theorem ez {u v z:Value}:(Instr.extract (.tuple #[u,v,z]) 1).run P w=.ok v w:=rfl
theorem eF {u v z:Value}:(Instr.extract (.tuple #[u,v,z]) 2).run P w=.ok z w:=rfl
theorem ve {t e:TypeId} (ht:P.underlying t=some (.slice e)) {x y:Operand} {A:Option Addr} {n c:Nat}:(bin .eql t x y (.slice A n c) (.slice none 0 0)).run P w=.ok (B A.isNone) w:=by
 have h:(Op.equal t (.slice A n c) (.slice none 0 0)).run P w=.ok A.isNone w:=by
  show(Op.equalIn (9999+1) t (.slice A n c) (.slice none 0 0)).run P w=_
  unfold Op.equalIn
  cases A<;>simp[run_underlying ht]
 show(do pure (Value.bool (←Op.equal t (.slice A n c) (.slice none 0 0))):Sem Value).run P w=_
 rw[Sem.run_bind,h];rfl
end
section
variable {w:World}
def lP (l:List UInt8):dn:=Sl 1 (l.map U8)
def lD (base:Nat) (l:List UInt8):dn:=fun v w=>∃n,w.ownsRow base 5 1 v n (l.map U8)
theorem lP.stable (l:List UInt8):bi (lP l):=Sl.stable _ _
theorem lP.ext {l:List UInt8} {v:Value} {w w':World} (h:lP l v w) (hx:aH w w'):lP l v w':=Sl.ext h hx
theorem lD.bts {base:Nat} {l:List UInt8} {v:Value} (h:lD base l v w):lP l v w:=h.elim fun _ h=>Sl.of_own h
theorem lD.stable (base:Nat) (l:List UInt8):bi (lD base l):=fun _ _ _ h hx=>h.elim fun n h=>⟨n,jp h hx⟩
theorem lD.ext {base:Nat} {l:List UInt8} {v:Value} {w w':World} (h:lD base l v w) (hx:aH w w'):lD base l v w':=lD.stable _ _ _ _ _ h hx
theorem Hg (l:List UInt8):∀u∈l.map U8,u.oneCell'=true:=by
 intro u hu
 obtain⟨b,_,rfl⟩:=List.mem_map.1 hu
 rfl
theorem Ee:(Tryz.prog.info? 5).map (fun i=>(i.zero,i.size,i.bytes))=some (some (.int .u8 0),1,1):=by kernel_rfl
theorem Ef:(Tryz.prog.info? 5).map (·.size)=some 1:=by kernel_rfl
theorem og {l:List UInt8} {v:Value} {ty:TypeId} (h:lP l v w):(Builtin.len_ #[28] ty #[v]).run Tryz.prog w=.ok (I l.length) w:=by
 obtain⟨n,hl,_,hr⟩:=Kk (P:=Tryz.prog) (ty:=ty) M5 h
 have:l.length=n:=by simpa using hl
 rw[hr,this]
theorem lP.len {l:List UInt8} {v:Value} (h:lP l v w):l.length≤9223372036854775807:=by
 obtain⟨A,n,c,rfl,hnc,hcm,hl,_⟩:=h
 have:l.length=n:=by simpa using hl
 unfold maxLen at hcm;omega
theorem KT {base:Nat} {l m:List UInt8} {v x:Value} {ty:TypeId} (hv:lD base l v w) (hx:lP m x w) (hb:l.length+m.length≤140737488355328) (hbase:base≤w.heap.size):
 ∃r w',(Builtin.append_ #[28,28] ty #[v,x]).run Tryz.prog w=.ok r w'∧lD base (l++m) r w'∧gi w w' v r:=by
 obtain⟨n,hv⟩:=hv
 obtain⟨r,w',n',h1,h2,h3⟩:=vy (P:=Tryz.prog) (ty:=ty) Tryz.underlying28 Ee rfl (by omega) hv hx (Hg m) (by simpa using hb) (by omega) hbase
 exact⟨r,w',h1,⟨n',by rw[List.map_append];exact h2⟩,h3⟩
theorem L0 (base:Nat) (l:List UInt8) (hl:l.length≤16777216) (hb:base≤w.heap.size):
 ∃r w',(Instr.buildSlice 28 l.length (fF 0 (l.map U8)).toArray).run Tryz.prog w=.ok r w'∧aH w w'∧lD base l r w'∧r.ownBlock=some w.heap.size:=by
 have:=lC (P:=Tryz.prog) (w:=w) Tryz.underlying28 Ee (l.map U8) (Hg l) (by simpa using hl) hb
 simp only[List.length_map] at this
 obtain⟨r,w',h1,h2,h3,h4⟩:=this
 exact⟨r,w',h1,h2,⟨_,h3⟩,h4⟩
theorem L1 {l:List UInt8} {v:Value} (h:lP l v w) {lo:Nat} (h2:lo≤l.length) (kl:IntKind):
 ∃r,(∀w':World,(Instr.sliceAt 28 v (some (.int kl lo)) none none).run Tryz.prog w'=.ok r w')∧lP (l.drop lo) r w:=by
 obtain⟨r,h3,h4⟩:=rQ (P:=Tryz.prog) Tryz.underlying28 Ef h (lo:=lo) (by simpa using h2) (by omega) kl
 exact⟨r,h3,by simpa [lP,List.map_drop] using h4⟩
theorem Ko {l:List UInt8} {v:Value} (h:lP l v w) {i:Nat} (hi:i<l.length) (k:IntKind):
 ∃ad,(∀w':World,(Instr.indexAt 28 v (.int k i)).run Tryz.prog w'=.ok (.pointer (some ad)) w')∧w.cell? ad=some (U8 l[i]):=by
 obtain⟨ad,h3,h4⟩:=y8 (P:=Tryz.prog) Tryz.underlying28 Ef h (i:=i) (by simp;omega) (by omega) k
 refine⟨ad,h3,?_⟩
 have:=h4 0 (U8 l[i]) (by simp[hi])
 rwa [pv] at this
def Txs (l:List (List UInt8)):dn:=Sl 1 (l.map S)
theorem Txs.ext {l:List (List UInt8)} {v:Value} {w w':World} (h:Txs l v w) (hx:aH w w'):Txs l v w':=Sl.ext h hx
def bH (l:List UInt32):dn:=Sl 1 (l.map ep)
def eY (base:Nat) (l:List UInt32):dn:=fun v w=>∃n,w.ownsRow base 253 1 v n (l.map ep)
theorem bH.stable (l:List UInt32):bi (bH l):=Sl.stable _ _
theorem bH.ext {l:List UInt32} {v:Value} {w w':World} (h:bH l v w) (hx:aH w w'):bH l v w':=Sl.ext h hx
theorem eY.wds {base:Nat} {l:List UInt32} {v:Value} (h:eY base l v w):bH l v w:=h.elim fun _ h=>Sl.of_own h
theorem eY.stable (base:Nat) (l:List UInt32):bi (eY base l):=fun _ _ _ h hx=>h.elim fun n h=>⟨n,jp h hx⟩
theorem eY.ext {base:Nat} {l:List UInt32} {v:Value} {w w':World} (h:eY base l v w) (hx:aH w w'):eY base l v w':=eY.stable _ _ _ _ _ h hx
theorem eY.nil (base:Nat) (w:World):eY base [] (.slice none 0 0) w:=⟨0,World.ownsRow_nil _ _ _ _⟩
theorem bH.nil (w:World):bH [] (.slice none 0 0) w:=Sl.nil _ _
theorem Eg (l:List UInt32):∀u∈l.map ep,u.oneCell'=true:=by
 intro u hu
 obtain⟨b,_,rfl⟩:=List.mem_map.1 hu
 rfl
theorem vC:(Tryz.prog.info? 253).map (fun i=>(i.zero,i.size,i.bytes))=some (some (.int .u32 0),1,4):=by kernel_rfl
theorem jG:(Tryz.prog.info? 253).map (·.size)=some 1:=by kernel_rfl
theorem bR {t:TypeId} (ht:Tryz.prog.underlying t=some (.slice 253)) {l:List UInt32} {v:Value} {ty:TypeId} (h:bH l v w):(Builtin.len_ #[t] ty #[v]).run Tryz.prog w=.ok (I l.length) w:=by
 obtain⟨n,hl,_,hr⟩:=Kk (P:=Tryz.prog) (ty:=ty) ht h
 have:l.length=n:=by simpa using hl
 rw[hr,this]
theorem bH.len {l:List UInt32} {v:Value} (h:bH l v w):l.length≤9223372036854775807:=by
 obtain⟨A,n,c,rfl,hnc,hcm,hl,_⟩:=h
 have:l.length=n:=by simpa using hl
 unfold maxLen at hcm;omega
theorem dN {t:TypeId} (ht:Tryz.prog.underlying t=some (.slice 253)) {l:List UInt32} {v:Value} (h:bH l v w) {i:Nat} (hi:i<l.length) (k:IntKind):
 ∃ad,(∀w':World,(Instr.indexAt t v (.int k i)).run Tryz.prog w'=.ok (.pointer (some ad)) w')∧w.cell? ad=some (ep l[i]):=by
 obtain⟨ad,h3,h4⟩:=y8 (P:=Tryz.prog) ht jG h (i:=i) (by simp;omega) (by omega) k
 refine⟨ad,h3,?_⟩
 have:=h4 0 (ep l[i]) (by simp[hi])
 rwa [pv] at this
theorem ni {base:Nat} {t:TypeId} (ht:Tryz.prog.underlying t=some (.slice 253)) {l m:List UInt32} {v x:Value} {ty:TypeId} (hv:eY base l v w) (hx:bH m x w) (hb:l.length+m.length≤35184372088832) (hbase:base≤w.heap.size):
 ∃r w',(Builtin.append_ #[t,t] ty #[v,x]).run Tryz.prog w=.ok r w'∧eY base (l++m) r w'∧gi w w' v r:=by
 obtain⟨n,hv⟩:=hv
 obtain⟨r,w',n',h1,h2,h3⟩:=vy (P:=Tryz.prog) (ty:=ty) ht vC rfl (by omega) hv hx (Eg m) (by simp;omega) (by omega) hbase
 exact⟨r,w',h1,⟨n',by rw[List.map_append];exact h2⟩,h3⟩
theorem lw {t:TypeId} (ht:Tryz.prog.underlying t=some (.slice 253)) (base:Nat) (l:List UInt32) (hl:l.length≤16777216) (hb:base≤w.heap.size):
 ∃r w',(Instr.buildSlice t l.length (fF 0 (l.map ep)).toArray).run Tryz.prog w=.ok r w'∧aH w w'∧eY base l r w'∧r.ownBlock=some w.heap.size:=by
 have:=lC (P:=Tryz.prog) (w:=w) ht vC (l.map ep) (Eg l) (by simpa using hl) hb
 simp only[List.length_map] at this
 obtain⟨r,w',h1,h2,h3,h4⟩:=this
 exact⟨r,w',h1,h2,⟨_,h3⟩,h4⟩
end
end Go.Rl
namespace Go.Rl
open Go.RowKit Go.Proofs
section
variable {P:Program} {w w':World}
theorem nA {t:TypeId} {n:Nat} (h:(P.info? t).map (·.size)=some n):(sizeOf t).run P w=.ok n w:=by
 obtain⟨i,hi,rfl⟩:=Option.map_eq_some_iff.1 h
 simp[sizeOf,typeInfo,hi]
theorem KU {t:TypeId} {z:Value} (h:(P.info? t).map (·.zero)=some (some z)):(zeroValue t).run P w=.ok z w:=by
 obtain⟨i,hi,h⟩:=Option.map_eq_some_iff.1 h
 simp[zeroValue,typeInfo,hi,h]
theorem Hh {t:TypeId} {v:Value}:(Instr.box t v).run P w=.ok (.pointer (some ⟨w.heap.size,0,none⟩)) (w.alloc (.cells v.cells t)):=by
 simp[Instr.box,newVar,newRow]
theorem Jr {t:TypeId} {z:Value} (h:(P.info? t).map (·.zero)=some (some z)):(Instr.alloc t true (.tuple #[])).run P w=.ok (.pointer (some ⟨w.heap.size,0,none⟩)) (w.alloc (.cells z.cells t)):=by
 simp[Instr.alloc,KU h,newVar,newRow]
theorem tx {s:TypeId} {fs:Array Field} {f:Field} {n k:Nat} {a:Addr} (hs:P.underlying s=some (.struct fs)) (hf:fs[n]? =some f) (hsz:(P.info? f.type).map (·.size)=some k) (hk:k≠0):
 (Instr.fieldAt s (.pointer (some a)) n).run P w=.ok (.pointer (some (a.add f.offset))) w:=by
 simp[Instr.fieldAt,run_underlying hs,hf,Instr.sureAddr,fieldPlace,nA hsz,hk]
theorem KV {g i:Nat} {cs:Array Value} {T:TypeId} {fr:Nat×Nat} {v:Value} (h:w.heap[g]? =some (.cells cs T fr)) (hi:cs[i]? =some v):w.cell? ⟨g,i,none⟩=some v:=(cell_of_row w g i cs T fr h).trans hi
theorem Sl.keep {sz:Nat} {xs:List Value} {v:Value} {g:Nat} {cs:Array Value} {T:TypeId} {fr:Nat×Nat} (h:Sl sz xs v w) (hg:w.heap[g]? =some (.cells cs T fr)) (hcs:∀(j:Nat) (u:Value),u∈xs→cs[j]? ≠some u) (hw:w.grownBy w' (some g)):Sl sz xs v w':=by
 obtain⟨A,n,c,rfl,h1,h2,h3,h4,h5⟩:=h
 refine⟨A,n,c,J,h1,h2,h3,fun hn=>?_,h5⟩
 obtain⟨ad,rfl,hc⟩:=h4 hn
 refine⟨ad,J,fun j u hu=>?_⟩
 have hcell:=hc j u hu
 have hne:(ad.add j).block≠g:=fun he=>by
  have hmem:u∈xs:=List.mem_of_getElem? hu
  have:w.cell? (ad.add j)=cs[(ad.add j).off]? :=by
   have hs:(ad.add j).spot=none:=World.cell?_spot hcell
   have e:ad.add j=⟨g,(ad.add j).off,none⟩:=by
    cases hx:ad.add j with
    |mk b o s=>
     rw[hx] at hs he
     simp only at hs he
     rw[hs,he]
   rw[e]
   exact cell_of_row w g _ cs T fr hg
  rw[hcell] at this
  exact hcs _ u hmem this.symm
 have hlt:=World.block_lt_of_cell? w (ad.add j) hcell
 exact(World.cell?_of_block (hw.block _ hlt (fun e=>hne (Nc e)))).trans hcell
end
end Go.Rl
namespace Go.Rl
open Go.RowKit Go.Proofs
section
variable {P:Program} {ops:Array Oper} {Q:ie} {N:Nat} {D:List Deferred} {l:Fr} {w:World} {rest:List Oper} {d:Nat}
theorem lx {p:Prop} {dp:Decidable p} (ht:p→di P ops Q N D ((d,B true)::l) w rest) (hf:¬p→di P ops Q N D ((d,B false)::l) w rest):di P ops Q N D ((d,B (@decide p dp))::l) w rest:=by
 by_cases h:p
 ·rw[decide_eq_true h];exact ht h
 ·rw[decide_eq_false h];exact hf h
end
theorem aH.of_grew {w0 w w':World} {v r:Value} (h:aH w0 w) (hg:gi w w' v r) (hv:∀k,v.ownBlock=some k→w0.heap.size≤k):aH w0 w':=h.of_grown hg.grown hv
theorem lD.ge {base:Nat} {l:List UInt8} {v:Value} {w:World} (h:lD base l v w):∀k,v.ownBlock=some k→base≤k:=fun k hk=>h.elim fun _ h=>(World.ownsRow.lt h k hk).1
theorem aH.of_new {w w1 w2:World} {g:Nat} (hx:aH w w1) (hg:w1.grownBy w2 (some g)) (h:w.heap.size≤g):aH w w2:=
 hx.of_grown hg fun k hk=>by
  obtain rfl:=Nc hk
  exact h
theorem KW {w w':World} {row:Option Nat} (h:aH w w'):w.grownBy w' row:=⟨h.os,h.tape,h.output,h.size,fun _ hi _=>h.heap hi⟩
section
variable {w:World}
theorem lD.kept {base:Nat} {l:List UInt8} {v:Value} {w':World} (h:lD base l v w) {row:Option Nat} (hg:w.grownBy w' row) (hne:v.ownBlock=none∨v.ownBlock≠row):lD base l v w':=
 h.elim fun n h=>⟨n,World.ownsRow.kept h hg hne⟩
theorem lD.off {base:Nat} {l:List UInt8} {v:Value} (h:lD base l v w) {g:Nat} (hg:g<base):v.ownBlock≠some g:=fun he=>by
 obtain⟨n,h⟩:=h
 have:=(World.ownsRow.lt h g he).1
 omega
end
end Go.Rl
namespace Go.Rl
open Go.RowKit
section
variable {P:Program} {Q:ie} {N:Nat} {D:List Deferred} {l:Fr} {w:World}
theorem iy {c:Code} {α β:Type} (fr:α→β→Fr) (H:α→β→World→Prop) (mu:α→β→Nat) (x0:α) (y0:β) (hs:xp (fr x0 y0) l) (h0:H x0 y0 w)
 (round:∀x y w',H x y w'→d5 P (Exit.then (fun a w''=>∃x' y',At N D (fr x' y') a∧H x' y' w''∧mu x' y'<mu x y) Q) N D (fr x y) w' c):d5 P Q N D l w (.loop c):=
 dS (α:=α×β) (fun p=>fr p.1 p.2) (fun p=>H p.1 p.2) (fun p=>mu p.1 p.2) (x0,y0) hs h0 fun p w' h a ha=>
  wp_mono (round p.1 p.2 w' h a ha) fun e a' w'' hq=>by
   cases e with
   |normal=>
    obtain⟨x',y',h1,h2,h3⟩:=hq
    exact⟨(x',y'),h1,h2,h3⟩
   |_=>exact hq
theorem fk {α β:Type} {fr:α→β→Fr} {H:α→β→World→Prop} {mu:α→β→Nat} {m:Nat} (x:α) (y:β) (hs:xp (fr x y) l) (hH:H x y w) (hm:mu x y<m):iE (Exit.then (fun a w''=>∃x' y',At N D (fr x' y') a∧H x' y' w''∧mu x' y'<m) Q) N D l w:=
 fun _ ha=>⟨x,y,ha.weak hs,hH,hm⟩
theorem fi {c:Code} {α β γ:Type} (fr:α→β→γ→Fr) (H:α→β→γ→World→Prop) (mu:α→β→γ→Nat) (x0:α) (y0:β) (z0:γ) (hs:xp (fr x0 y0 z0) l) (h0:H x0 y0 z0 w)
 (round:∀x y z w',H x y z w'→d5 P (Exit.then (fun a w''=>∃x' y' z',At N D (fr x' y' z') a∧H x' y' z' w''∧mu x' y' z'<mu x y z) Q) N D (fr x y z) w' c):d5 P Q N D l w (.loop c):=
 dS (α:=α×β×γ) (fun p=>fr p.1 p.2.1 p.2.2) (fun p=>H p.1 p.2.1 p.2.2) (fun p=>mu p.1 p.2.1 p.2.2) (x0,y0,z0) hs h0 fun p w' h a ha=>
  wp_mono (round p.1 p.2.1 p.2.2 w' h a ha) fun e a' w'' hq=>by
   cases e with
   |normal=>
    obtain⟨x',y',z',h1,h2,h3⟩:=hq
    exact⟨(x',y',z'),h1,h2,h3⟩
   |_=>exact hq
theorem cK {α β γ:Type} {fr:α→β→γ→Fr} {H:α→β→γ→World→Prop} {mu:α→β→γ→Nat} {m:Nat} (x:α) (y:β) (z:γ) (hs:xp (fr x y z) l) (hH:H x y z w) (hm:mu x y z<m):iE (Exit.then (fun a w''=>∃x' y' z',At N D (fr x' y' z') a∧H x' y' z' w''∧mu x' y' z'<m) Q) N D l w:=
 fun _ ha=>⟨x,y,z,ha.weak hs,hH,hm⟩
theorem lE {c:Code} {α β γ δ:Type} (fr:α→β→γ→δ→Fr) (H:α→β→γ→δ→World→Prop) (mu:α→β→γ→δ→Nat) (x0:α) (y0:β) (z0:γ) (u0:δ) (hs:xp (fr x0 y0 z0 u0) l) (h0:H x0 y0 z0 u0 w)
 (round:∀x y z u w',H x y z u w'→d5 P (Exit.then (fun a w''=>∃x' y' z' u',At N D (fr x' y' z' u') a∧H x' y' z' u' w''∧mu x' y' z' u'<mu x y z u) Q) N D (fr x y z u) w' c):d5 P Q N D l w (.loop c):=
 dS (α:=α×β×γ×δ) (fun p=>fr p.1 p.2.1 p.2.2.1 p.2.2.2) (fun p=>H p.1 p.2.1 p.2.2.1 p.2.2.2) (fun p=>mu p.1 p.2.1 p.2.2.1 p.2.2.2) (x0,y0,z0,u0) hs h0 fun p w' h a ha=>
  wp_mono (round p.1 p.2.1 p.2.2.1 p.2.2.2 w' h a ha) fun e a' w'' hq=>by
   cases e with
   |normal=>
    obtain⟨x',y',z',u',h1,h2,h3⟩:=hq
    exact⟨(x',y',z',u'),h1,h2,h3⟩
   |_=>exact hq
theorem fW {α β γ δ:Type} {fr:α→β→γ→δ→Fr} {H:α→β→γ→δ→World→Prop} {mu:α→β→γ→δ→Nat} {m:Nat} (x:α) (y:β) (z:γ) (u:δ) (hs:xp (fr x y z u) l) (hH:H x y z u w) (hm:mu x y z u<m):iE (Exit.then (fun a w''=>∃x' y' z' u',At N D (fr x' y' z' u') a∧H x' y' z' u' w''∧mu x' y' z' u'<m) Q) N D l w:=
 fun _ ha=>⟨x,y,z,u,ha.weak hs,hH,hm⟩
theorem sH {c:Code} {α β γ δ ε:Type} (fr:α→β→γ→δ→ε→Fr) (H:α→β→γ→δ→ε→World→Prop) (mu:α→β→γ→δ→ε→Nat) (x0:α) (y0:β) (z0:γ) (u0:δ) (v0:ε) (hs:xp (fr x0 y0 z0 u0 v0) l) (h0:H x0 y0 z0 u0 v0 w)
 (round:∀x y z u v w',H x y z u v w'→d5 P (Exit.then (fun a w''=>∃x' y' z' u' v',At N D (fr x' y' z' u' v') a∧H x' y' z' u' v' w''∧mu x' y' z' u' v'<mu x y z u v) Q) N D (fr x y z u v) w' c):d5 P Q N D l w (.loop c):=
 dS (α:=α×β×γ×δ×ε) (fun p=>fr p.1 p.2.1 p.2.2.1 p.2.2.2.1 p.2.2.2.2) (fun p=>H p.1 p.2.1 p.2.2.1 p.2.2.2.1 p.2.2.2.2) (fun p=>mu p.1 p.2.1 p.2.2.1 p.2.2.2.1 p.2.2.2.2) (x0,y0,z0,u0,v0) hs h0 fun p w' h a ha=>
  wp_mono (round p.1 p.2.1 p.2.2.1 p.2.2.2.1 p.2.2.2.2 w' h a ha) fun e a' w'' hq=>by
   cases e with
   |normal=>
    obtain⟨x',y',z',u',v',h1,h2,h3⟩:=hq
    exact⟨(x',y',z',u',v'),h1,h2,h3⟩
   |_=>exact hq
theorem jH {α β γ δ ε:Type} {fr:α→β→γ→δ→ε→Fr} {H:α→β→γ→δ→ε→World→Prop} {mu:α→β→γ→δ→ε→Nat} {m:Nat} (x:α) (y:β) (z:γ) (u:δ) (v:ε) (hs:xp (fr x y z u v) l) (hH:H x y z u v w) (hm:mu x y z u v<m):iE (Exit.then (fun a w''=>∃x' y' z' u' v',At N D (fr x' y' z' u' v') a∧H x' y' z' u' v' w''∧mu x' y' z' u' v'<m) Q) N D l w:=
 fun _ ha=>⟨x,y,z,u,v,ha.weak hs,hH,hm⟩
end
end Go.Rl
namespace Go.Rl
open Go.RowKit Go.Proofs
section
variable {w:World} {t:TypeId}
theorem Hi (ht:Tryz.prog.underlying t=some (.slice 253)) {l:List UInt32} {v:Value} (h:bH l v w) {lo:Nat} (h2:lo≤l.length) (kl:IntKind):
 ∃r,(∀w':World,(Instr.sliceAt t v (some (.int kl lo)) none none).run Tryz.prog w'=.ok r w')∧bH (l.drop lo) r w:=by
 obtain⟨r,h3,h4⟩:=rQ (P:=Tryz.prog) ht jG h (lo:=lo) (by simpa using h2) (by omega) kl
 exact⟨r,h3,by simpa [bH,List.map_drop] using h4⟩
theorem vD (ht:Tryz.prog.underlying t=some (.slice 253)) {l:List UInt32} {v:Value} (h:bH l v w) {hi:Nat} (h2:hi≤l.length) (kh:IntKind):
 ∃r,(∀w':World,(Instr.sliceAt t v none (some (.int kh hi)) none).run Tryz.prog w'=.ok r w')∧bH (l.take hi) r w:=by
 obtain⟨r,h3,h4⟩:=vz (P:=Tryz.prog) ht jG h (hi:=hi) (by simpa using h2) (by omega) kh
 exact⟨r,h3,by simpa [bH,List.map_take] using h4⟩
theorem py (ht:Tryz.prog.underlying t=some (.slice 253)) (base:Nat) {n:Nat} (hn:n≤70368744177664) (hb:base≤w.heap.size):
 ∃r w',(Instr.makeSlice t (I (n:Int)) (I (n:Int))).run Tryz.prog w=.ok r w'∧aH w w'∧eY base (List.replicate n 0) r w'∧r.ownBlock=some w.heap.size:=by
 obtain⟨i,hi,hz,hs,hby⟩:=info_parts vC
 have hrun:=run_make (P:=Tryz.prog) w t 253 i _ ht hi hz .i64 .i64 (n:Int) (n:Int) (by omega) (by omega) (by rw[hby];omega) (by omega)
 refine⟨_,_,hrun,aH.new _ _,⟨n,?_⟩,J⟩
 have:=World.ownsRow_lit (base:=base) (e:=253) (size:=1) w (madeCells (Value.int .u32 0).cells ((n:Int).toNat*i.size)) n hb (by unfold maxLen;omega) (by rw[hs];simp[madeCells])
 have e:(madeCells (Value.int .u32 0).cells ((n:Int).toNat*i.size)).toList=(List.replicate n (0:UInt32)).map ep:=by
  rw[hs]
  have h2:=toList_madeCells_one (.int .u32 0) n
  simp only[Value.cells,Int.toNat_natCast,Nat.mul_one,List.map_replicate] at h2⊢
  rw[h2];rfl
 rw[e] at this
 simpa using this
theorem eY.setW (ht:Tryz.prog.underlying t=some (.slice 253)) {base:Nat} {l:List UInt32} {v:Value} (h:eY base l v w) {i:Nat} (hi:i<l.length) (x:UInt32):
 ∃g w',(∀u:World,(Instr.indexAt t v (I (i:Int))).run Tryz.prog u=.ok (.pointer (some ⟨g,i,none⟩)) u)∧(Instr.storeAt 253 (.pointer (some ⟨g,i,none⟩)) (ep x)).run Tryz.prog w=.ok () w'∧
  eY base (l.set i x) v w'∧w.grownBy w' (some g)∧base≤g∧w.cell? ⟨g,i,none⟩=some (ep l[i])∧v.ownBlock=some g:=by
 obtain⟨n,hn⟩:=id h
 have hnl:l.length=n:=by simpa using hn.1
 obtain⟨ad,hix,hcell⟩:=dN ht h.wds hi .i64
 rcases hn.2 with⟨_,h0⟩|⟨g,cap,cur,rfl,hb,hg,hnc,hcm,hcs,htk⟩
 ·omega
 ·have hlt:i<cur.size:=by omega
  have had:ad=⟨g,i,none⟩:=by
   have h1:=hix w
   obtain⟨ti,hi',hs⟩:=Option.map_eq_some_iff.1 jG
   have hin:i<n:=by omega
   have h2:(Instr.indexAt t (.slice (some ⟨g,0,none⟩) n cap) (.int .i64 i)).run Tryz.prog w=.ok (.pointer (some ⟨g,i,none⟩)) w:=by
    simp[Instr.indexAt,asIntOf,run_underlying ht,hin,sizeOf,typeInfo,hi',hs,rP]
   rw[h2] at h1
   simp at h1
   exact h1.symm
  subst had
  refine⟨g,w.setCell ⟨g,i,none⟩ (ep x),hix,sF jG J hg hlt,⟨n,?_,.inr ⟨g,cap,cur.setIfInBounds i (ep x),J,hb,vx hg i (ep x),hnc,hcm,by simpa using hcs,?_⟩⟩,jf w g i _,hb,hcell,J⟩
  ·simpa using hnl
  ·rw[List.map_set,←htk,Array.toList_setIfInBounds,List.take_set]
theorem eY.kept {base:Nat} {l:List UInt32} {v:Value} {w':World} (h:eY base l v w) {row:Option Nat} (hg:w.grownBy w' row) (hne:v.ownBlock=none∨v.ownBlock≠row):eY base l v w':=
 h.elim fun n h=>⟨n,World.ownsRow.kept h hg hne⟩
theorem eY.ge {base:Nat} {l:List UInt32} {v:Value} (h:eY base l v w):∀k,v.ownBlock=some k→base≤k:=fun k hk=>h.elim fun _ h=>(World.ownsRow.lt h k hk).1
theorem eY.lt {base:Nat} {l:List UInt32} {v:Value} (h:eY base l v w):∀k,v.ownBlock=some k→k<w.heap.size:=fun k hk=>h.elim fun _ h=>(World.ownsRow.lt h k hk).2
theorem Fm {P:Program} {w:World} {t t2 e e2 ty:TypeId} (ht:P.underlying t=some (.slice e)) (ht2:P.underlying t2=some (.slice e2)) (a b:Value):(Builtin.append_ #[t,t2] ty #[a,b]).run P w=(Builtin.append_ #[t,t] ty #[a,b]).run P w:=by
 unfold Builtin.append_
 cases a<;>simp[Sem.run_bind,run_underlying ht,run_underlying ht2]
theorem Eh {base:Nat} {t2:TypeId} (ht:Tryz.prog.underlying t=some (.slice 253)) (ht2:Tryz.prog.underlying t2=some (.slice 253)) {l m:List UInt32} {v x:Value} {ty:TypeId} (hv:eY base l v w) (hx:bH m x w) (hb:l.length+m.length≤35184372088832) (hbase:base≤w.heap.size):
 ∃r w',(Builtin.append_ #[t,t2] ty #[v,x]).run Tryz.prog w=.ok r w'∧eY base (l++m) r w'∧gi w w' v r:=by
 obtain⟨r,w',h1,h2⟩:=ni (ty:=ty) ht hv hx hb hbase
 exact⟨r,w',(Fm ht ht2 v x).trans h1,h2⟩
theorem Js {P:Program} {t ty:TypeId} {a b:Nat}:(Builtin.max_ #[t,t] ty #[I (a:Int),I (b:Int)]).run P w=.ok (I ((max a b:Nat):Int)) w:=by
 have:(Builtin.max_ #[t,t] ty #[I (a:Int),I (b:Int)])=pure (.int .i64 (if (b:Int)>(a:Int) then(b:Int) else(a:Int))):=rfl
 rw[this,Sem.run_pure]
 congr 2
 split<;>omega
structure PW (g:Nat) (pre:List Value) (L:List UInt32) (post:List Value) (v:Value) (w:World):Prop where
 isv:∃c,v=.slice (some ⟨g,pre.length,none⟩) L.length c∧L.length≤c∧c≤maxLen
 row:w.heap[g]? =some (.cells (pre++(L.map ep++post)).toArray 253 (0,0))
theorem PW.cell {g:Nat} {pre:List Value} {L:List UInt32} {post:List Value} {v:Value} (h:PW g pre L post v w) {i:Nat} (hi:i<L.length):w.cell? ⟨g,pre.length+i,none⟩=some (ep L[i]):=by
 rw[cell_of_row w g _ _ _ _ h.row,List.getElem?_toArray,List.getElem?_append_right (by omega),Nat.add_sub_cancel_left,List.getElem?_append_left (by simpa using hi),List.getElem?_map,List.getElem?_eq_getElem hi]
 rfl
theorem PW.wds {g:Nat} {pre:List Value} {L:List UInt32} {post:List Value} {v:Value} (h:PW g pre L post v w):bH L v w:=by
 obtain⟨c,rfl,h1,h2⟩:=h.isv
 refine⟨_,_,_,J,h1,h2,by simp,fun _=>⟨_,rfl,fun j u hu=>?_⟩,fun h=>by cases h⟩
 rw[List.getElem?_map,Option.map_eq_some_iff] at hu
 obtain⟨x,hx,rfl⟩:=hu
 obtain⟨hj,rfl⟩:=List.getElem?_eq_some_iff.1 hx
 rw[rP]
 exact h.cell hj
theorem PW.setP (ht:Tryz.prog.underlying t=some (.slice 253)) {g:Nat} {pre:List Value} {L:List UInt32} {post:List Value} {v:Value} (h:PW g pre L post v w) {i:Nat} (hi:i<L.length) (x:UInt32):
 ∃w',(∀u:World,(Instr.indexAt t v (I (i:Int))).run Tryz.prog u=.ok (.pointer (some ⟨g,pre.length+i,none⟩)) u)∧(Instr.storeAt 253 (.pointer (some ⟨g,pre.length+i,none⟩)) (ep x)).run Tryz.prog w=.ok () w'∧
  PW g pre (L.set i x) post v w'∧w.grownBy w' (some g)∧w.cell? ⟨g,pre.length+i,none⟩=some (ep L[i]):=by
 obtain⟨c,rfl,h1,h2⟩:=h.isv
 obtain⟨ti,hti,hs⟩:=Option.map_eq_some_iff.1 jG
 refine⟨w.setCell ⟨g,pre.length+i,none⟩ (ep x),fun u=>?_,sF jG J h.row (by simp;omega),⟨⟨c,by simp,by simpa using h1,h2⟩,?_⟩,jf w g _ _,h.cell hi⟩
 ·show(Instr.indexAt t (.slice (some ⟨g,pre.length,none⟩) L.length c) (.int .i64 (i:Int))).run Tryz.prog u=_
  simp[Instr.indexAt,asIntOf,run_underlying ht,hi,sizeOf,typeInfo,hti,hs,rP]
 ·have:=vx h.row (pre.length+i) (ep x)
  rw[this,List.setIfInBounds_toArray,List.set_append_right _ _ (by omega),Nat.add_sub_cancel_left,List.set_append_left _ _ (by simpa using hi),List.map_set]
theorem bH.away {l:List UInt32} {v:Value} {g:Nat} {w':World} (h:bH l v w) (ha:v.ownBlock=none∨v.ownBlock≠some g) (hg:w.grownBy w' (some g)):bH l v w':=by
 obtain⟨A,n,c,rfl,h1,h2,h3,h4,h5⟩:=h
 refine⟨A,n,c,J,h1,h2,h3,fun hn=>?_,h5⟩
 obtain⟨ad,rfl,hc⟩:=h4 hn
 refine⟨ad,J,fun j u hu=>?_⟩
 have hcell:=hc j u hu
 have hb:ad.block≠g:=by
  rcases ha with ha|ha
  ·simp[Value.ownBlock] at ha
  ·intro e;exact ha (by simp[Value.ownBlock,e])
 have hlt:=World.block_lt_of_cell? w (ad.add j) hcell
 refine(World.cell?_of_block (hg.block _ hlt fun e=>hb ?_)).trans hcell
 rw[gj] at e
 exact Nc e
theorem xK (ht:Tryz.prog.underlying t=some (.slice 253)) {l:List UInt32} {v:Value} (h:bH l v w) {hi:Nat} (h2:hi≤l.length) (kh:IntKind):
 ∃r,(∀w':World,(Instr.sliceAt t v none (some (.int kh hi)) none).run Tryz.prog w'=.ok r w')∧bH (l.take hi) r w∧r.ownBlock=v.ownBlock:=by
 obtain⟨r,h3,h4⟩:=vD ht h h2 kh
 refine⟨r,h3,h4,?_⟩
 obtain⟨A,n,c,rfl,hnc,_,hl,_,_⟩:=h
 have h5:=h3 w
 obtain⟨ti,hti,hs⟩:=Option.map_eq_some_iff.1 jG
 have hhi:hi≤n:=by simp at hl;omega
 have hb:(Instr.sliceBounds true n c none (some (.int kh hi)) none).run Tryz.prog w=.ok (0,hi,c) w:=by
  have a1:=run_sliceBound (P:=Tryz.prog) (w:=w) kh (hi:Int) c .sliceAcap (by omega) (by omega)
  simp only[Int.toNat_natCast] at a1
  simp[Instr.sliceBounds,a1]
 simp[Instr.sliceAt,Instr.slice,run_underlying ht,hb,sizeOf,typeInfo,hti,hs] at h5
 subst h5
 cases A with
 |none=>split<;>rfl
 |some a=>split<;>simp[Value.ownBlock,gj]
theorem eY.off {base:Nat} {l:List UInt32} {v:Value} (h:eY base l v w) {g:Nat} (hg:g<base):v.ownBlock≠some g:=fun he=>by
 have:=h.ge g he
 omega
theorem eY.low {base base':Nat} {l:List UInt32} {v:Value} (h:eY base l v w) (hb:base'≤base):eY base' l v w:=h.elim fun n h=>⟨n,sE h fun k hk=>Nb hb (World.ownsRow.lt h k hk).1⟩
theorem eY.pw {base:Nat} {L:List UInt32} {v:Value} (h:eY base L v w) (h0:0<L.length):∃g sp,base≤g∧v.ownBlock=some g∧PW g [] L sp v w:=by
 obtain⟨n,h⟩:=h
 have hnl:L.length=n:=by simpa using h.1
 rcases h.2 with⟨_,h1⟩|⟨g,cap,cur,rfl,hb,hg,hnc,hcm,hcs,htk⟩
 ·omega
 ·refine⟨g,cur.toList.drop (n*1),hb,J,⟨cap,by rw[hnl];rfl,by omega,hcm⟩,?_⟩
  rw[List.nil_append,←htk,List.take_append_drop]
  exact hg
theorem PW.ext {g:Nat} {pre:List Value} {L:List UInt32} {post:List Value} {v:Value} {w':World} (h:PW g pre L post v w) (hx:aH w w'):PW g pre L post v w':=⟨h.isv,hx.heap_some h.row⟩
theorem PW.lt {g:Nat} {pre:List Value} {L:List UInt32} {post:List Value} {v:Value} (h:PW g pre L post v w):g<w.heap.size:=(Array.getElem?_eq_some_iff.1 h.row).1
theorem PW.kept {g:Nat} {pre:List Value} {L:List UInt32} {post:List Value} {v:Value} {w':World} (h:PW g pre L post v w) {row:Option Nat} (hg:w.grownBy w' row) (hne:some g≠row):PW g pre L post v w':=⟨h.isv,(hg.block g h.lt hne).trans h.row⟩
theorem KX (ht:Tryz.prog.underlying t=some (.slice 253)) {g:Nat} {L:List UInt32} {sp:List Value} {v:Value} (h:PW g [] L sp v w) {lo hi:Nat} (h1:lo<hi) (h2:hi≤L.length) (kl kh:IntKind):
 ∃r,(∀w':World,(Instr.sliceAt t v (some (.int kl lo)) (some (.int kh hi)) none).run Tryz.prog w'=.ok r w')∧PW g ((L.take lo).map ep) ((L.take hi).drop lo) ((L.drop hi).map ep++sp) r w:=by
 obtain⟨c,rfl,h3,h4⟩:=h.isv
 obtain⟨i,hi',hs⟩:=Option.map_eq_some_iff.1 jG
 have hb:∀w:World,(Instr.sliceBounds true L.length c (some (.int kl lo)) (some (.int kh hi)) none).run Tryz.prog w=.ok (lo,hi,c) w:=fun w=>by
  have a1:=run_sliceBound (P:=Tryz.prog) (w:=w) kh (hi:Int) c .sliceAcap (by omega) (by omega)
  have a2:=run_sliceBound (P:=Tryz.prog) (w:=w) kl (lo:Int) hi .sliceB (by omega) (by omega)
  simp only[Int.toNat_natCast] at a1 a2
  simp[Instr.sliceBounds,a1,a2]
 have hne:¬c=lo:=by omega
 refine⟨.slice (some ⟨g,lo,none⟩) (hi-lo) (c-lo),fun w'=>?_,⟨c-lo,?_,?_,by omega⟩,?_⟩
 ·simp[Instr.sliceAt,Instr.slice,run_underlying ht,hb,sizeOf,typeInfo,hi',hs,hne,rP]
 ·simp only[List.length_map,List.length_take,List.length_drop,Nat.min_eq_left h2,Nat.min_eq_left (show lo≤L.length by omega)]
 ·simp only[List.length_take,List.length_drop,Nat.min_eq_left h2];omega
 ·have e:L.take lo++(L.take hi).drop lo=L.take hi:=by
   have:=List.take_append_drop lo (L.take hi)
   rwa [List.take_take,Nat.min_eq_left (by omega)] at this
  have e2:([]:List Value)++(L.map ep++sp)=(L.take lo).map ep++(((L.take hi).drop lo).map ep++((L.drop hi).map ep++sp)):=by
   rw[List.nil_append,←List.append_assoc,←List.append_assoc,←List.map_append,←List.map_append,e,List.take_append_drop]
  rw[h.row,e2]
theorem PW.join {g:Nat} {L F:List UInt32} {sp:List Value} {v r:Value} {lo hi:Nat} {w0:World} (h:PW g [] L sp v w0) (h1:lo≤hi) (h2:hi≤L.length) (hF:F.length=hi-lo) (h3:PW g ((L.take lo).map ep) F ((L.drop hi).map ep++sp) r w):PW g [] (L.take lo++F++L.drop hi) sp v w:=by
 obtain⟨c,rfl,h4,h5⟩:=h.isv
 have e:(L.take lo++F++L.drop hi).length=L.length:=by simp[hF];omega
 refine⟨⟨c,by rw[e],by omega,h5⟩,?_⟩
 rw[h3.row]
 simp only[List.nil_append,List.map_append,List.append_assoc]
end
end Go.Rl
namespace Go.Rl
open Go.RowKit Go.Proofs
theorem dz:az Tryz.prog 261:=⟨_,Tryz.func261,by kernel_rfl,rfl⟩
theorem AK:az Tryz.prog 339:=⟨_,Tryz.func339,by kernel_rfl,rfl⟩
theorem gM:az Tryz.prog 305:=⟨_,Tryz.func305,by kernel_rfl,rfl⟩
theorem uh:az Tryz.prog 186:=⟨_,Tryz.func186,by kernel_rfl,rfl⟩
theorem nB:az Tryz.prog 274:=⟨_,Tryz.func274,by kernel_rfl,rfl⟩
theorem vE:az Tryz.prog 285:=⟨_,Tryz.func285,by kernel_rfl,rfl⟩
theorem jr:az Tryz.prog 187:=⟨_,Tryz.func187,by kernel_rfl,rfl⟩
theorem tA {l:List UInt32} {n:Nat} (h0:0<n) (hn:n≤l.length) (h:l[n-1]'(by omega)=0):val (l.take (n-1))=val (l.take n):=by
 obtain⟨m,rfl⟩:∃m,n=m+1:=⟨n-1,by omega⟩
 simp only[Nat.add_sub_cancel] at h⊢
 rw[cL (by omega),h];simp
theorem nC {l:List UInt32} {n:Nat} (h0:0<n) (hn:n≤l.length) (h:¬l[n-1]'(by omega)=0):lb (val (l.take n))=l.take n:=by
 obtain⟨m,rfl⟩:∃m,n=m+1:=⟨n-1,by omega⟩
 simp only[Nat.add_sub_cancel] at h
 rw[←Km,List.take_succ_eq_append_getElem (by omega),Eb h]
theorem Ei {l:List UInt32} (h0:0<l.length):l[l.length-1]'(by omega)≠0↔lb (val l)=l:=by
 constructor
 ·intro h
  have:=nC (n:=l.length) h0 (Ng _) h
  rwa [List.take_length] at this
 ·intro h h1
  have h2:=tA (n:=l.length) h0 (Ng _) h1
  rw[List.take_length] at h2
  have h3:(lb (val l)).length≤l.length-1:=by
   refine fM ?_
   rw[←h2]
   have:=c9 (l.take (l.length-1))
   rwa [List.length_take,Nat.min_eq_left (by omega)] at this
  rw[h] at h3
  omega
theorem xL (x:UInt64):(x>>>UInt64.ofNat 32).toNat=x.toNat/4294967296:=by
 rw[UInt64.toNat_shiftRight]
 show x.toNat>>>32=_
 rw[Nat.shiftRight_eq_div_pow]
theorem vF {w:World} {l:List UInt32} {v:Value} (hv:bH l v w):
 Calls Tryz.prog 261 #[v] w (cA fun r w'=>w=w'∧bH (lb (val l)) r w∧(r.ownBlock=none∨r.ownBlock=v.ownBlock)):=by
 refine enter Tryz.func261 J J J ?_
 have hl:=hv.len
 refine aj (ae (aa J J (ar (ah (aj (ae (ab J J (bn J J (bR MD hv) (aa J J (ar (ah (aj (aJ (dS (α:=Nat) (fun n=>[(0,v),(3,I (n:Int))]) (fun n w'=>w=w'∧n≤l.length∧val (l.take n)=val l) (fun n=>n) (l.length) ⟨J,J,trivial⟩ ⟨J,Ng _,by rw[List.take_length]⟩ ?_))))))))))))))
 rintro n _ ⟨rfl,hn,hval⟩
 refine aj (aj (ae (ab J J (ao J J J (bo) (ab J J (lx (fun h8=>?_) (fun h8=>?_)))))))
 ·refine an J (ab J J (an J (ab J J (an J (ao (r:=I ((n-1:Nat):Int)) J J J (by have e:((n-1:Nat):Int)=(n:Int)-1:=(by omega);rw[e];exact bT (by omega) (by omega)) ?_)))))
  refine an J ?_
  obtain⟨a12,p12,q12⟩:=dN MD hv (i:=(n-1:Nat)) (by omega) .i64
  refine aE J J J (p12 _) (an J (ak J J (ai MF J q12) (an J (ao (v:=ep 0) J J J (lM) (aR J J J (ar (ah (ci J (fun h15=>?_) (fun h15=>?_)))))))))
  ·refine aA (ah (aJ (ae (ab J J (ao (r:=I ((n-1:Nat):Int)) J J J (by have e:((n-1:Nat):Int)=(n:Int)-1:=(by omega);rw[e];exact bT (by omega) (by omega)) ?_)))))
   refine aa J J (ar (aW (dC (n-1) ⟨J,J,trivial⟩ ⟨J,by omega,by rw[tA (by omega) hn h15];exact hval⟩ (by omega))))
  ·refine bJ (aV (aV (bP (ah (aj (aj (ae (ab J J (ao J J J (aO) (ar (ah ?_)))))))))))
   refine ci J (fun h19=>?_) (fun h19=>?_)
   ·refine aj (ae (aa J J (ar (ah (aD (a0 (aF J J ?_)))))))
    exact⟨_,J,J,by
     obtain rfl:n=0:=by omega
     rw[←hval];exact bH.nil _,.inl rfl⟩
   ·refine aA (ah (aj (ae (ab J J (ab J J ?_)))))
    obtain⟨v22,p22,b22,ob22⟩:=xK MD hv (hi:=n) hn .i64
    refine ky J J J J J (p22 _) (aa J J (ar (ah (aD (aF J J ?_)))))
    exact⟨_,J,J,by
     first
     |(exfalso;omega)
     |(rw[←hval,nC (by omega) hn h15];exact b22),.inr ob22⟩
 ·refine bf J J J (bf J J J (bf J J J (bf J J J (bf J J J (bf J J J (aG J J J (ar (ah (bU J (bJ (aV (aV ?_))))))))))))
  refine bP (ah (aj (aj (ae (ab J J (ao J J J (aO) (ar (ah (ci J (fun h19=>?_) (fun h19=>?_))))))))))
  ·refine aj (ae (aa J J (ar (ah (aD (a0 (aF J J ?_)))))))
   exact⟨_,J,J,by
    obtain rfl:n=0:=by omega
    rw[←hval];exact bH.nil _,.inl rfl⟩
  ·refine aA (ah (aj (ae (ab J J (ab J J ?_)))))
   obtain⟨v22,p22,b22,ob22⟩:=xK MD hv (hi:=n) hn .i64
   refine ky J J J J J (p22 _) (aa J J (ar (ah (aD (aF J J ?_)))))
   exact⟨_,J,J,by
    first
    |(exfalso;omega)
    |(rw[←hval,nC (by omega) hn h15];exact b22),.inr ob22⟩
theorem dB {w:World} {l:List UInt32} {v:Value} (hv:bH l v w):
 Calls Tryz.prog 261 #[v] w (cA fun r w'=>w=w'∧bH (lb (val l)) r w):=
 (vF hv).mono fun _ _ ⟨r,he,h1,h2,_⟩=>⟨r,he,h1,h2⟩
theorem AL {w:World} {l:List UInt32} {v:Value} (hv:bH l v w) (hl:l.length≤17592186044416):
 Calls Tryz.prog 339 #[v] w (cA fun r w'=>aH w w'∧eY w.heap.size l r w'):=by
 obtain⟨A,n,c,rfl,hnc,hcm,hll,hc,hnone⟩:=id hv
 refine enter Tryz.func339 J J J (aj (ae (aa J J (ar (ah (aj (aj (ae (ab J J (ao J J J (ve MD) (ar (ah (j2 J (fun h4=>?_) (fun h4=>?_))))))))))))))
 ·refine aj (ae (aa J J (ar (ah (aD (a0 (aF J J ?_)))))))
  have hA:A=none:=by simpa using h4
  have:=hnone hA
  have hnil:l=[]:=Nm (by simp at hll;omega)
  subst hnil
  exact⟨_,J,aH.refl _,eY.nil _ _⟩
 ·refine aA (ah (aj (ae ?_)))
  obtain⟨v5,w5,hr5,x5,o5,ob5⟩:=lw Tryz.underlying47 (w:=w) w.heap.size [] (by simp) (Ng _)
  refine bN (vs:=[]) J J hr5 (ab J J ?_)
  obtain⟨v7,w7,hr7,o7,g7⟩:=ni Tryz.underlying47 (ty:=47) o5 (hv.ext x5) (by simp;omega) (x5).size
  have x7:=aH.of_grew (x5) g7 o5.ge
  refine df J J hr7 (aa J J (ar (ah (aD (aF J J ?_)))))
  exact⟨_,J,x7,by simpa using o7⟩
theorem gO {w:World} {l:List UInt32} {v:Value} (hv:bH l v w) (hl:l.length≤17592186044416):
 Calls Tryz.prog 305 #[v] w (cA fun r w'=>aH w w'∧bH (lb (val l)) r w'):=by
 refine enter Tryz.func305 J J J ?_
 have hll:=fM (c9 l)
 refine aj (ae (aa J J (ar (ah (aj (ae (ab J J (aq dz J J (dB hv) ?_))))))))
 rintro v4 _ ⟨rfl,b4⟩
 refine aq AK J J (AL b4 (by omega)) ?_
 rintro v5 w5 ⟨x5,o5⟩
 refine aa J J (ar (ah (aD (aF J J ?_))))
 exact⟨_,J,x5,o5.wds⟩
theorem ui {w:World} {l:List UInt32} {v:Value} (hv:bH l v w):
 Calls Tryz.prog 186 #[v] w (cA fun r w'=>w=w'∧r=B (decide (lb (val l)=l))):=by
 refine enter Tryz.func186 J J J ?_
 have hl:=hv.len
 refine aj (ae (aa J J (ar (ah (aj (ae (ab J J (bn J J (bR MD hv) (ao J J J (aO) (ab J J (lx (fun h6=>?_) (fun h6=>?_))))))))))))
 ·refine bf J J J (bf J J J (bf J J J (bf J J J (bf J J J (bf J J J (bf J J J (aR J J J (aa J J (ar ?_)))))))))
  refine ah (aD (aF J J ?_))
  exact⟨_,J,J,by
   first
   |(have h0:l=[]:=Nm (by omega)
     subst h0;rfl)
   |exact congrArg B (decide_eq_decide.2 (Ei (by omega)))⟩
 ·refine an J (ab J J (an J (ab J J (an J (bn J J (bR MD hv) (an J (ao (r:=I ((l.length-1:Nat):Int)) J J J (by have e:((l.length-1:Nat):Int)=(l.length:Int)-1:=(by omega);rw[e];exact bT (by omega) (by omega)) ?_)))))))
  refine an J ?_
  obtain⟨a11,p11,q11⟩:=dN MD hv (i:=(l.length-1:Nat)) (by omega) .i64
  refine aE J J J (p11 _) (an J (ak J J (ai MF J q11) (an J (ao (v:=ep 0) J J J (tj) (aG J J J (aa J J (ar (ah (aD (aF J J ?_))))))))))
  exact⟨_,J,J,by
   first
   |(have h0:l=[]:=Nm (by omega)
     subst h0;rfl)
   |exact congrArg B (decide_eq_decide.2 (Ei (by omega)))⟩
theorem nD {w:World} {x:UInt64}:
 Calls Tryz.prog 274 #[fB x] w (cA fun r w'=>aH w w'∧bH (lb x.toNat) r w'):=by
 refine enter Tryz.func274 J J J (aj (ae (aa J J (ar (ah (aj (ae (ab J J (cm J J (c7 MJ MF) (ab J J (ao J J J (ei 32 (by omega)) (cm J J (c7 MJ MF) ?_))))))))))))
 obtain⟨v8,w8,hr8,x8,o8,ob8⟩:=lw Tryz.underlying47 (w:=w) w.heap.size [x.toUInt32,(x>>>UInt64.ofNat 32).toUInt32] (by simp) (Ng _)
 refine bN (vs:=[(0,ep (x.toUInt32)),(1,ep ((x>>>UInt64.ofNat 32).toUInt32))]) J J hr8 (aq dz J J (dB o8.wds) ?_)
 rintro v9 _ ⟨rfl,b9⟩
 refine aa J J (ar (ah (aD (aF J J ?_))))
 exact⟨_,J,x8,by
  have e:val [x.toUInt32,(x>>>UInt64.ofNat 32).toUInt32]=x.toNat:=by
   have h1:(x.toUInt32).toNat=x.toNat%4294967296:=UInt64.toNat_toUInt32 x
   have h2:((x>>>UInt64.ofNat 32).toUInt32).toNat=x.toNat/4294967296:=by
    have:=x.toNat_lt
    rw[UInt64.toNat_toUInt32,xL]
    omega
   simp only[val,h1,h2];omega
  rw[e] at b9;exact b9⟩
end Go.Rl
namespace Go.Rl
theorem vG (x:UInt64):x.toNat<18446744073709551616:=x.toNat_lt
theorem AM (x:UInt64) {s:Nat} (hs:s<64):(x<<<UInt64.ofNat s).toNat=x.toNat*2^s%18446744073709551616:=by
 rw[UInt64.toNat_shiftLeft,UInt64.toNat_ofNat',Nat.mod_eq_of_lt (Nat.lt_trans hs (by decide)),Nat.mod_eq_of_lt hs,Nat.shiftLeft_eq]
theorem pz (x:UInt64) {s:Nat} (hs:s<64):(x>>>UInt64.ofNat s).toNat=x.toNat/2^s:=by
 rw[UInt64.toNat_shiftRight,UInt64.toNat_ofNat',Nat.mod_eq_of_lt (Nat.lt_trans hs (by decide)),Nat.mod_eq_of_lt hs,Nat.shiftRight_eq_div_pow]
theorem Jt (x:UInt32) {s:Nat} (hs:s<32):(x<<<UInt32.ofNat s).toNat=x.toNat*2^s%4294967296:=by
 rw[UInt32.toNat_shiftLeft,UInt32.toNat_ofNat',Nat.mod_eq_of_lt (Nat.lt_trans hs (by decide)),Nat.mod_eq_of_lt hs,Nat.shiftLeft_eq]
theorem sI (x:UInt32) {s:Nat} (hs:s<32):(x>>>UInt32.ofNat s).toNat=x.toNat/2^s:=by
 rw[UInt32.toNat_shiftRight,UInt32.toNat_ofNat',Nat.mod_eq_of_lt (Nat.lt_trans hs (by decide)),Nat.mod_eq_of_lt hs,Nat.shiftRight_eq_div_pow]
theorem fX (x:UInt32):x.toUInt64.toNat=x.toNat:=UInt32.toNat_toUInt64 x
theorem lc (x:UInt64):x.toUInt32.toNat=x.toNat%4294967296:=UInt64.toNat_toUInt32 x
theorem mj (x y:UInt64):(x+y).toNat=(x.toNat+y.toNat)%18446744073709551616:=UInt64.toNat_add x y
theorem vH (x y:UInt64):(x*y).toNat=x.toNat*y.toNat%18446744073709551616:=UInt64.toNat_mul x y
theorem pe (x y:UInt64):(x-y).toNat=(18446744073709551616-y.toNat+x.toNat)%18446744073709551616:=UInt64.toNat_sub x y
theorem LS (a b i:Nat) (h:a<2^i):a|||2^i*b=a+2^i*b:=by
 rw[Nat.or_comm,←Nat.two_pow_add_eq_or_of_lt h,Nat.add_comm]
theorem Ju (x y:UInt64):(x|||y).toNat=x.toNat|||y.toNat:=UInt64.toNat_or x y
theorem Hj (x y:UInt32):(x|||y).toNat=x.toNat|||y.toNat:=UInt32.toNat_or x y
theorem vI (r:UInt64) (d:UInt32) (hr:r.toNat<4294967296):(r<<<UInt64.ofNat 32|||d.toUInt64).toNat=r.toNat*4294967296+d.toNat:=by
 have hd:=dk d
 rw[Ju,AM r (by omega),fX,Nat.mod_eq_of_lt (by omega),Nat.or_comm]
 have:=LS d.toNat r.toNat 32 hd
 simp only[Nat.reducePow] at this⊢
 rw[Nat.mul_comm r.toNat,this];omega
theorem fH {l:List UInt32} {i:Nat} (h:i<l.length) (x:UInt32):val ((l.set i x).take (i+1))=val (l.take i)+4294967296^i*x.toNat:=by
 rw[cL (by simpa using h),List.take_set_of_le (Nat.le_refl _)]
 simp
theorem oh {l:List UInt32} {i:Nat} (h:i<l.length) (x:UInt32):val ((l.set i x).drop i)=x.toNat+4294967296*val (l.drop (i+1)):=by
 rw[fV (by simpa using h),List.drop_set_of_lt (by omega)]
 simp
theorem Fo {l L:List UInt32} {i k:Nat} {d:UInt32} (hk:k<32) (hi:i<l.length) (hd:d=l[i]) (hL:L.length=l.length+1) (hv:val (L.take (i+1))=val (l.take i)*2^k) (hc:(L[i]'(by omega)).toNat<2^k):
 val (((L.set i (L[i]'(by omega)|||(d.toUInt64<<<UInt64.ofNat k).toUInt32)).set (i+1) ((d.toUInt64<<<UInt64.ofNat k)>>>UInt64.ofNat 32).toUInt32).take (i+1+1))=val (l.take (i+1))*2^k∧
  ((d.toUInt64<<<UInt64.ofNat k)>>>UInt64.ofNat 32).toUInt32.toNat<2^k:=by
 have hdl:=dk d
 have hp:2^k*2^(32-k)=4294967296:=by rw[←Nat.pow_add,show k+(32-k)=32 by omega]
 have hpos:0<2^k:=Nat.pow_pos (by omega)
 have hx:(d.toUInt64<<<UInt64.ofNat k).toNat=d.toNat*2^k:=by
  rw[AM _ (by omega),fX,Nat.mod_eq_of_lt]
  have h1:d.toNat*2^k≤4294967296*2^k:=Ni _ (by omega)
  have h2:2^k≤2^31:=Nj (by omega) (by omega)
  omega
 have hlo:(d.toUInt64<<<UInt64.ofNat k).toUInt32.toNat=2^k*(d.toNat%2^(32-k)):=by
  rw[lc,hx,←hp,Nat.mul_comm d.toNat,Nat.mul_mod_mul_left]
 have hhi:((d.toUInt64<<<UInt64.ofNat k)>>>UInt64.ofNat 32).toUInt32.toNat=d.toNat*2^k/4294967296:=by
  rw[lc,pz _ (by omega),hx,Nat.mod_eq_of_lt]
  have h1:d.toNat*2^k<4294967296*2^k:=Nat.mul_lt_mul_of_pos_right hdl hpos
  have h2:2^k≤2^31:=Nj (by omega) (by omega)
  simp only[Nat.reducePow] at h2⊢
  omega
 have hor:(L[i]'(by omega)|||(d.toUInt64<<<UInt64.ofNat k).toUInt32).toNat=(L[i]'(by omega)).toNat+2^k*(d.toNat%2^(32-k)):=by
  rw[Hj,hlo,LS _ _ _ hc]
 have hdm:2^k*(d.toNat%2^(32-k))+4294967296*(d.toNat*2^k/4294967296)=d.toNat*2^k:=by
  have h1:=Nat.mod_add_div (d.toNat*2^k) 4294967296
  rw[lc,hx] at hlo
  omega
 refine⟨?_,?_⟩
 ·generalize d.toNat*2^k/4294967296=q at hhi hdm
  rw[fH (by simp;omega),hhi,fH (by omega),hor,cL hi,←hd]
  rw[cL (by omega)] at hv
  rw[Nat.add_mul,←hv,Nat.mul_assoc,←hdm,Nat.pow_succ]
  rw[Nat.mul_add (4294967296^i),Nat.mul_add (4294967296^i),Nat.mul_assoc (4294967296^i),Nat.add_assoc,Nat.add_assoc,Nat.add_assoc]
 ·rw[hhi,Nat.div_lt_iff_lt_mul (by omega),Nat.mul_comm]
  exact Nat.mul_lt_mul_of_pos_left hdl hpos
theorem Cr {l L:List UInt32} {j:Nat} {d:UInt32} {r:UInt64} (hd:0<d.toNat) (hj:j<l.length) (hL:L.length=l.length) (hv:val (L.drop (j+1))*d.toNat+r.toNat=val (l.drop (j+1))) (hr:r.toNat<d.toNat):
 val ((L.set j ((r<<<UInt64.ofNat 32|||l[j].toUInt64)/d.toUInt64).toUInt32).drop j)*d.toNat+((r<<<UInt64.ofNat 32|||l[j].toUInt64)%d.toUInt64).toNat=val (l.drop j)∧
  ((r<<<UInt64.ofNat 32|||l[j].toUInt64)%d.toUInt64).toNat<d.toNat:=by
 have hdl:=dk d
 have hx:=vI r l[j] (by omega)
 have hq:((r<<<UInt64.ofNat 32|||l[j].toUInt64)/d.toUInt64).toNat=(r.toNat*4294967296+l[j].toNat)/d.toNat:=by rw[UInt64.toNat_div,hx,fX]
 have hm:((r<<<UInt64.ofNat 32|||l[j].toUInt64)%d.toUInt64).toNat=(r.toNat*4294967296+l[j].toNat)%d.toNat:=by rw[UInt64.toNat_mod,hx,fX]
 have hlt:(r.toNat*4294967296+l[j].toNat)/d.toNat<4294967296:=by
  rw[Nat.div_lt_iff_lt_mul hd]
  have:=dk l[j]
  have h2:(r.toNat+1)*4294967296≤d.toNat*4294967296:=Ni _ hr
  omega
 refine⟨?_,by rw[hm];exact Nat.mod_lt _ hd⟩
 rw[oh (by omega),lc,hq,hm,Nat.mod_eq_of_lt hlt,fV hj,←hv]
 have:=Nat.div_add_mod (r.toNat*4294967296+l[j].toNat) d.toNat
 rw[Nat.add_mul,Nat.mul_assoc,Nat.mul_comm ((r.toNat*4294967296+l[j].toNat)/d.toNat)]
 omega
theorem Hk {x:UInt64} {d R s:Nat} (hs:s<32) (hx:x.toNat=d+4294967296*(R%4294967296)):
 ((x>>>UInt64.ofNat s).toUInt32).toNat+4294967296*(R/2^s)=(d+4294967296*R)/2^s∨4294967296≤d:=by
 by_cases hd:4294967296≤d
 ·exact .inr hd
 left
 have hp:2^s*2^(32-s)=4294967296:=by rw[←Nat.pow_add,show s+(32-s)=32 by omega]
 have hpos:0<2^s:=Nat.pow_pos (by omega)
 have e1:d+4294967296*R=x.toNat+2^s*(2^(32-s)*(4294967296*(R/4294967296))):=by
  rw[←Nat.mul_assoc,hp,hx];omega
 have e2:(d+4294967296*R)/2^s=x.toNat/2^s+4294967296*(2^(32-s)*(R/4294967296)):=by
  rw[e1,Nat.add_mul_div_left _ _ hpos,Nat.mul_left_comm]
 have e3:(d+4294967296*R)/2^s/4294967296=R/2^s:=by
  rw[Nat.div_div_eq_div_mul,Nat.mul_comm (2^s),←Nat.div_div_eq_div_mul]
  congr 1
  omega
 have e4:=Nat.mod_add_div ((d+4294967296*R)/2^s) 4294967296
 rw[e3] at e4
 rw[lc,pz _ (by omega)]
 rw[←e4]
 congr 1
 rw[e2,Nat.add_mul_mod_self_left]
theorem Kr {x:UInt64} {a:Nat} {e:UInt32} (hx:x.toNat=a) (ha:a<4294967296):(x|||e.toUInt64<<<UInt64.ofNat 32).toNat=a+4294967296*e.toNat:=by
 have he:=dk e
 rw[Ju,AM _ (by omega),fX,Nat.mod_eq_of_lt (by omega),hx]
 have:=LS a e.toNat 32 ha
 simp only[Nat.reducePow] at this⊢
 rw[Nat.mul_comm e.toNat,this]
def bl (n:Nat):Nat:=if n=0 then 0 else Nat.log2 n+1
theorem Ej:bl 0=0:=rfl
theorem mX {n:Nat} (h:0<n):2^(bl n-1)≤n∧n<2^bl n:=by
 unfold bl
 rw[if_neg (by omega),Nat.add_sub_cancel]
 exact⟨Nat.log2_self_le (by omega),Nat.lt_log2_self⟩
theorem ol {n:Nat} (h:0<n):0<bl n:=by unfold bl;rw[if_neg (by omega)];omega
theorem Fp {n k:Nat} (h1:2^k≤n) (h2:n<2^(k+1)):bl n=k+1:=by
 have hn:0<n:=Nk (Nat.pow_pos (by omega)) h1
 obtain⟨h3,h4⟩:=mX hn
 have hp:=ol hn
 have a:k<bl n:=(Nat.pow_lt_pow_iff_right (a:=2) (by omega)).1 (Nat.lt_of_le_of_lt h1 h4)
 have b:bl n-1<k+1:=(Nat.pow_lt_pow_iff_right (a:=2) (by omega)).1 (Nat.lt_of_le_of_lt h3 h2)
 omega
theorem pA {n s:Nat} (h:2^s≤n):bl n=s+bl (n/2^s):=by
 have hps:0<2^s:=Nat.pow_pos (by omega)
 have hq:0<n/2^s:=Nat.div_pos h hps
 obtain⟨h1,h2⟩:=mX hq
 have hp:=ol hq
 obtain⟨k,hk⟩:∃k,bl (n/2^s)=k+1:=⟨_,(Nat.sub_add_cancel hp).symm⟩
 rw[hk,Nat.add_sub_cancel] at h1
 rw[hk] at h2⊢
 refine(Fp (k:=s+k) ?_ ?_)
 ·rw[Nat.pow_add,Nat.mul_comm]
  exact Nb (Ni _ h1) (Nat.div_mul_le_self _ _)
 ·rw[show s+k+1=s+(k+1) by omega,Nat.pow_add,Nat.mul_comm]
  exact(Nat.div_lt_iff_lt_mul hps).1 h2
theorem rD {n k:Nat} (h:n<2^k):bl n≤k:=by
 rcases Np n with rfl|h0
 ·simp[Ej]
 ·have h1:=(mX h0).1
  have h2:=ol h0
  have:=(Nat.pow_lt_pow_iff_right (a:=2) (by omega)).1 (Nat.lt_of_le_of_lt h1 h)
  omega
theorem Ks {n i:Nat} (h:i+1=(lb n).length):bl n=32*i+bl ((lb n)[i]'(by omega)).toNat:=by
 have hl:=zd h
 have h2:n=val ((lb n).take i)+4294967296^i*((lb n)[i]'(by omega)).toNat:=by
  rw[←cL (by omega),h,List.take_length,bk]
 have h3:=c9 ((lb n).take i)
 rw[List.length_take,Nat.min_eq_left (by omega)] at h3
 have hp:(4294967296:Nat)^i=2^(32*i):=by rw[Nat.pow_mul]
 rw[hp] at h2 h3
 have hge:2^(32*i)≤n:=by
  rw[h2]
  have:2^(32*i)*1≤2^(32*i)*((lb n)[i]'(by omega)).toNat:=Nr _ hl
  omega
 rw[pA hge]
 congr 2
 have:n/2^(32*i)=(val ((lb n).take i)+2^(32*i)*((lb n)[i]'(by omega)).toNat)/2^(32*i):=by rw[←h2]
 rw[this,Nat.add_mul_div_left _ _ (Nat.pow_pos (by omega)),Nat.div_eq_of_lt h3,Nat.zero_add]
end Go.Rl
namespace Go.Rl
open Go.RowKit Go.Proofs
theorem rR:az Tryz.prog 323:=⟨_,Tryz.func323,by kernel_rfl,rfl⟩
theorem AN:az Tryz.prog 321:=⟨_,Tryz.func321,by kernel_rfl,rfl⟩
theorem xM:az Tryz.prog 326:=⟨_,Tryz.func326,by kernel_rfl,rfl⟩
theorem oo:az Tryz.prog 299:=⟨_,Tryz.func299,by kernel_rfl,rfl⟩
theorem vJ:az Tryz.prog 338:=⟨_,Tryz.func338,by kernel_rfl,rfl⟩
theorem Fq:az Tryz.prog 322:=⟨_,Tryz.func322,by kernel_rfl,rfl⟩
theorem Fs {t:List UInt32} {i:Nat} {x:UInt64} (h2:t.length≤2) (hi:i<t.length) (hx:x.toNat=val (t.take i)):(x|||t[i].toUInt64<<<UInt64.ofNat (32*i)).toNat=val (t.take (i+1)):=by
 have hl:=c9 (t.take i)
 rw[List.length_take,Nat.min_eq_left (by omega)] at hl
 have hd:=dk t[i]
 rw[cL hi,←hx,Ju,AM _ (by omega),fX]
 have hp:(4294967296:Nat)^i=2^(32*i):=by rw[Nat.pow_mul]
 rw[hp,←hx] at hl
 have hb:2^(32*i)≤2^32:=Nj (by omega) (by omega)
 rw[Nat.mod_eq_of_lt,Nat.mul_comm,LS _ _ _ hl,hp]
 have:t[i].toNat*2^(32*i)≤4294967295*2^32:=Ns (by omega) hb
 omega
theorem ze {x y:Nat} (h:x<y):pn x y= -1:=by unfold pn;rw[if_pos h]
theorem zf {x y:Nat} (h:y<x):pn x y=1:=by unfold pn;rw[if_neg (by omega),if_pos h]
theorem Ek {x:Nat}:pn x x=0:=by unfold pn;rw[if_neg (by omega),if_neg (by omega)]
theorem AO {a b:UInt32}:a<b↔a.toNat<b.toNat:=UInt32.lt_iff_toNat_lt
theorem xN {x y j:Nat} (h1:j<(lb x).length) (h2:j<(lb y).length) (hd:(lb x).drop (j+1)=(lb y).drop (j+1)) (h:(lb x)[j]<(lb y)[j]):x<y:=by
 have:=Ed h1 h2 hd (AO.1 h)
 rwa [bk,bk] at this
theorem vK {w:World} {l:List UInt32} {v:Value} (hv:bH l v w):
 Calls Tryz.prog 285 #[v] w (cA fun r w'=>w=w'∧((18446744073709551616≤val l∧r=.tuple #[fB 0,B false])∨∃x:UInt64,x.toNat=val l∧r=.tuple #[fB x,B true])):=by
 refine enter Tryz.func285 J J J (aj (ae (aa J J (aa J J (ar (ah (aj (ae (ab J J (aq dz J J (dB hv) ?_))))))))))
 rintro v8 _ ⟨rfl,b8⟩
 refine aa J J (ar (ah (aj (aj (ae (ab J J (bn J J (bR MD b8) (ao J J J (bo) (ar (ah (ci J (fun h11=>?_) (fun h11=>?_))))))))))))
 ·refine aj (ae (aa J J (aa J J (ar (ah (aD (a0 (dW J J J ?_))))))))
  exact⟨_,J,J,.inl ⟨by
   rcases Nat.lt_or_ge (val l) 18446744073709551616 with h|h
   ·have:=fM (n:=val l) (k:=2) h
    omega
   ·exact h,J⟩⟩
 ·obtain⟨t,ht⟩:∃t,t=lb (val l):=⟨_,rfl⟩
  have hval:val t=val l:=by rw[ht,bk]
  rw[←ht] at b8 h11⊢
  have h2:t.length≤2:=by omega
  refine aA (ah (aj (ae (aa J J (ar (ah (aj (aj (ae (ab J J (bn (r:=I (t.length:Int)) J J (bR Tryz.underlying47 b8) (ab J J (ar (ah (aJ (iy (fun(i:Nat) (x:UInt64)=>[(4,fB x),(12,v8),(13,I (t.length:Int)),(14,I (i:Int))]) (fun(i:Nat) (x:UInt64) w'=>w=w'∧i≤t.length∧x.toNat=val (t.take i)) (fun(i:Nat) (x:UInt64)=>t.length-i) (0) (0) ⟨J,J,J,J,trivial⟩ ⟨J,by simp,rfl⟩ ?_))))))))))))))))
  rintro i x _ ⟨rfl,hi,hx⟩
  refine aj (ae (ao J J J (aX) (ar (ah (aj (ci J (fun h15=>?_) (fun h15=>?_)))))))
  ·refine aA (ah (aj (aJ (aj (ae (ab J J ?_))))))
   obtain⟨a17,p17,q17⟩:=dN MD b8 (i:=i) (by omega) .i64
   refine aE J J J (p17 _) (ak J J (ai MF J q17) (aa J J (aa J J (ar (ah (ae (ab J J (ab J J (cm J J (cr MF MJ) (ab J J (ao (r:=I ((32*i:Nat):Int)) J J J (by have e:((32*i:Nat):Int)=32*(i:Int):=(by omega);rw[e];exact vc (by omega) (by omega)) (ao J J J (jq ((32*i:Nat)) (by omega)) (ao J J J (mi) (aa J J (ar (aW (ah (ae (ao (r:=I ((i+1:Nat):Int)) J J J (by have e:((i+1:Nat):Int)=(i:Int)+1:=(by omega);rw[e];exact aY (by omega) (by omega)) (ab J J (ar (fk (i+1) (x|||t[i].toUInt64<<<UInt64.ofNat (32*i)) ⟨J,J,J,J,trivial⟩ ⟨J,by show i+1≤_;omega,Fs h2 (by omega) hx⟩ (by show t.length-(i+1)<t.length-i;omega)))))))))))))))))))))))
  ·refine bJ (aV (aV (bP (ah (aj (ae (ab J J (aa J J (aa J J (ar (ah (aD (dW J J J ?_)))))))))))))
   exact⟨_,J,J,.inr ⟨x,by rw[hx,List.take_of_length_le (by omega),hval],rfl⟩⟩
theorem js {w:World} {l m:List UInt32} {v u:Value} (hv:bH l v w) (hu:bH m u w):
 Calls Tryz.prog 187 #[v,u] w (cA fun r w'=>aH w w'∧r=I (pn (val l) (val m))):=by
 refine enter Tryz.func187 J J J (aj (ae (aa J J (ar (ah (aj (ae (ab J J (aq dz J J (dB hv) ?_)))))))))
 rintro v7 _ ⟨rfl,b7⟩
 refine ab J J (aq dz J J (dB hu) ?_)
 rintro v9 _ ⟨rfl,b9⟩
 have hx:=b7.len
 have hy:=b9.len
 refine aa J J (aa J J (ar (ah (aj (aj (ae (ab J J (bn J J (bR MD b7) (ab J J (bn J J (bR MD b9) (ao J J J (fg) (ar (ah (ci J (fun h14=>?_) (fun h14=>?_)))))))))))))))
 ·refine aj (aj (ae (ab J J (bn J J (bR MD b7) (ab J J (bn J J (bR MD b9) ?_))))))
  refine ao J J J (aX) (ar (ah (ci J (fun h19=>?_) (fun h19=>?_))))
  ·refine aj (ae (aa J J (ar (ah (aD (a0 (a0 (aF J J ?_))))))))
   exact⟨_,J,aH.refl _,congrArg I (ze (zc (by omega))).symm⟩
  ·refine aA (ah (aj (ae (aa J J (ar (ah (aD (a0 (aF J J ?_)))))))))
   exact⟨_,J,aH.refl _,congrArg I (zf (zc (by omega))).symm⟩
 ·refine aA (ah (aj (aj (ae ?_))))
  have hlen:(lb (val l)).length=(lb (val m)).length:=by omega
  refine ab J J (bn J J (bR MD b7) (ao J J J (bT (by omega) (by omega)) (aa J J (ar (ah (aJ (dS (α:=Nat) (fun k=>[(0,v7),(1,v9),(5,I ((k:Int)-1))]) (fun k w'=>aH w w'∧k≤(lb (val l)).length∧(lb (val l)).drop k=(lb (val m)).drop k) (fun k=>k) ((lb (val l)).length) ⟨J,J,J,trivial⟩ ⟨aH.refl _,Ng _,by rw[List.drop_of_length_le (Nat.le_refl _),List.drop_of_length_le (by omega)]⟩ ?_)))))))
  rintro k w7 ⟨x7,hk,hd⟩
  refine aj (aj (ae (ab J J (ao J J J (cz) (ar (ah (ci J (fun h24=>?_) (fun h24=>?_))))))))
  ·obtain⟨j,rfl⟩:∃j,k=j+1:=⟨k-1,by omega⟩
   have e:((j+1:Nat):Int)-1=(j:Int):=by omega
   rw[e]
   refine aA (ah (aj (aJ (aj (bj 8 [0,1,5,30,34] (by kernel_rfl) (by kernel_rfl) (ax J J (ax J J ?_)))))))
   obtain⟨a29,p29,q29⟩:=dN MD (b7.ext x7) (i:=j) (by omega) .i64
   refine aK J J J (fun w _=>p29 w) (ap J J (fun w hw=>ai MF J (hw.cell_some q29)) (ax J J (ax J J ?_)))
   obtain⟨a33,p33,q33⟩:=dN MD (b9.ext x7) (i:=j) (by omega) .i64
   refine aK J J J (fun w _=>p33 w) (ap J J (fun w hw=>ai MF J (hw.cell_some q33)) (bA ?_))
   rintro wg9 xg9 _ hq0
   obtain rfl:=Eq.symm hq0
   rintro _ hq1
   obtain rfl:=Eq.symm hq1
   rintro _ rfl _ rfl _ rfl
   refine ao J J J (tj) (ar (ah (ci J (fun h35=>?_) (fun h35=>?_))))
   ·refine aj (aj (bj 8 [39,43] (by kernel_rfl) (by kernel_rfl) ?_))
    refine ax J J (ax J J ?_)
    obtain⟨a38,p38,q38⟩:=dN MD (b7.ext (x7.trans xg9)) (i:=j) (by omega) .i64
    refine aK J J J (fun w _=>p38 w) (ap J J (fun w hw=>ai MF J (hw.cell_some q38)) (ax J J (ax J J ?_)))
    obtain⟨a42,p42,q42⟩:=dN MD (b9.ext (x7.trans xg9)) (i:=j) (by omega) .i64
    refine aK J J J (fun w _=>p42 w) (ap J J (fun w hw=>ai MF J (hw.cell_some q42)) (bA ?_))
    rintro wg10 xg10 _ rfl _ rfl
    refine ao J J J (xE) (ar (ah (ci J (fun h44=>?_) (fun h44=>?_))))
    ·refine aj (ae (aa J J (ar (ah (aD (a0 (bK (a0 (a0 (bK (a0 (aF J J ?_))))))))))))
     exact⟨_,J,((x7.trans xg9).trans xg10),congrArg I (ze (xN (by omega) (by omega) hd h44)).symm⟩
    ·refine aA (ah (aj (ae (aa J J (ar (ah (aD (bK (a0 (a0 (bK (a0 (aF J J ?_)))))))))))))
     exact⟨_,J,((x7.trans xg9).trans xg10),by
      refine congrArg I (zf (xN (by omega) (by omega) hd.symm ?_)).symm
      rw[AO] at h44⊢
      have:(lb (val l))[j].toNat≠(lb (val m))[j].toNat:=fun he=>h35 (qJ he)
      omega⟩
   ·refine aA (aW (ah (ae (ab J J (ao J J J (bT (by omega) (by omega)) (aa J J (ar ?_)))))))
    refine dC j ⟨J,J,J,trivial⟩ ⟨(x7.trans xg9),by omega,by rw[List.drop_eq_getElem_cons (show j<(lb (val l)).length by omega),List.drop_eq_getElem_cons (show j<(lb (val m)).length by omega),hd,show(lb (val l))[j]=(lb (val m))[j] from Classical.byContradiction fun h=>h35 h]⟩ (by omega)
  ·refine bJ (aV (aV (bP (ah (aj (ae (aa J J (ar (ah (aD (aF J J ?_)))))))))))
   exact⟨_,J,x7,by
    obtain rfl:k=0:=by omega
    rw[List.drop_zero,List.drop_zero] at hd
    rw[He hd,Ek];rfl⟩
theorem rS {w:World} {l:List UInt32} {v:Value} {k:Nat} (hv:bH l v w) (hl:l.length≤1099511627776) (hk:k<32):
 Calls Tryz.prog 323 #[v,I (k:Int)] w (cA fun r w'=>aH w w'∧∃L,eY w.heap.size L r w'∧L.length=l.length+1∧val L=val l*2^k):=by
 refine enter Tryz.func323 J J J (aj (ae (aa J J (ar (ah (aj (ae (ab J J (bn J J (bR MD hv) (ao (r:=I (((l.length)+1:Nat):Int)) J J J (by have e:(((l.length)+1:Nat):Int)=(l.length:Int)+1:=(by omega);rw[e];exact aY (by omega) (by omega)) ?_))))))))))
 obtain⟨v12,w12,hr12,x12,o12,ob12⟩:=py MD (w:=w) w.heap.size (n:=l.length+1) (by omega) (Ng _)
 refine fL J J J hr12 (aa J J (ar (ah (aj (aj (ae (ab J J (bn J J (bR Tryz.underlying47 (hv.ext x12)) (ab J J (ar (ah (aJ (iy (fun(i:Nat) (L:List UInt32)=>[(1,I (k:Int)),(5,v12),(13,v),(14,I (l.length:Int)),(15,I (i:Int))]) (fun(i:Nat) (L:List UInt32) w'=>eY w.heap.size L v12 w'∧aH w w'∧i≤l.length∧L.length=l.length+1∧val (L.take (i+1))=val (l.take i)*2^k∧∀h:i<L.length,L[i].toNat<2^k) (fun(i:Nat) (L:List UInt32)=>l.length-i) (0) (List.replicate (l.length+1) 0) ⟨J,J,J,J,J,trivial⟩ ⟨o12,x12,by simp,by simp,by simp[val],fun _=>by simp;exact Nat.pow_pos (by omega)⟩ ?_)))))))))))))
 rintro i L w3 ⟨oL,e3,hi,hL,hval,hc⟩
 refine aj (ae (ao J J J (aX) (ar (ah (aj (ci J (fun h16=>?_) (fun h16=>?_)))))))
 ·refine aA (ah (aj (aJ (aj (ae (ab J J ?_))))))
  obtain⟨a18,p18,q18⟩:=dN MD (hv.ext e3) (i:=i) (by omega) .i64
  refine aE J J J (p18 _) (ak J J (ai MF J q18) (aa J J (aa J J (ar (ah (aj (ae (ab J J (cm J J (cr MF MJ) (ab J J (ao J J J (jq (k) (by omega)) (aa J J (ar (ah (aj (ae (ab J J (ab J J ?_))))))))))))))))))
  obtain⟨a26,p26,q26⟩:=dN MD oL.wds (i:=i) (by omega) .i64
  refine aE J J J (p26 _) (ak J J (ai MF J q26) (ab J J (cm J J (c7 MJ MF) (ao J J J (AI) ?_))))
  obtain⟨g31,w31,p31,s31,o31,q31,hb31,c31,ob31⟩:=(oL).setW MD (i:=i) (by omega) (L[i]'(by omega)|||(l[i].toUInt64<<<UInt64.ofNat k).toUInt32)
  refine aE J J J (p31 _) (dH J J s31 ?_)
  have x31:=aH.of_new (e3) q31 hb31
  refine ar (ah (ae (ab J J (ab J J (ao (r:=I ((i+1:Nat):Int)) J J J (by have e:((i+1:Nat):Int)=(i:Int)+1:=(by omega);rw[e];exact aY (by omega) (by omega)) (ab J J (ao J J J (ei 32 (by omega)) (cm J J (c7 MJ MF) ?_))))))))
  obtain⟨g38,w38,p38,s38,o38,q38,hb38,c38,ob38⟩:=(o31).setW Tryz.underlying47 (i:=(i+1)) (by simp;omega) ((l[i].toUInt64<<<UInt64.ofNat k>>>UInt64.ofNat 32).toUInt32)
  refine aE J J J (p38 _) (dH J J s38 ?_)
  have x38:=aH.of_new (x31) q38 hb38
  refine ar (aW (ah (ae (ao (r:=I ((i+1:Nat):Int)) J J J (by have e:((i+1:Nat):Int)=(i:Int)+1:=(by omega);rw[e];exact aY (by omega) (by omega)) (ab J J (ar ?_))))))
  have st:=Fo hk (show i<l.length by omega) rfl hL hval (hc (by omega))
  refine fk (i+1) (_) ⟨J,J,J,J,J,trivial⟩ ⟨o38,x38,by show i+1≤_;omega,by simpa using hL,st.1,fun _=>by simpa using st.2⟩ (by show l.length-(i+1)<l.length-i;omega)
 ·refine bJ (aV (aV (bP (ah (aj (ae (ab J J (aa J J (ar (ah (aD (aF J J ?_))))))))))))
  exact⟨_,J,e3,L,oL,hL,by
   obtain rfl:i=l.length:=by omega
   rw[List.take_of_length_le (by omega),List.take_length] at hval
   exact hval⟩
theorem AP {w:World} {l:List UInt32} {v:Value} {d:UInt32} (hv:bH l v w) (hl:l.length≤1099511627776) (hd:0<d.toNat):
 Calls Tryz.prog 321 #[v,ep d] w (cA fun r w'=>aH w w'∧∃q s,r=.tuple #[q,s]∧bH (lb (val l/d.toNat)) q w'∧bH (lb (val l%d.toNat)) s w'):=by
 refine enter Tryz.func321 J J J ?_
 have hd0:d.toUInt64≠0:=fun h=>by
  have:=congrArg UInt64.toNat h
  rw[fX] at this
  simp at this
  omega
 refine aj (ae (aa J J (aa J J (ar (ah (aj (ae (ab J J (bn J J (bR MD hv) ?_)))))))))
 obtain⟨v11,w11,hr11,x11,o11,ob11⟩:=py MD (w:=w) w.heap.size (n:=l.length) (by omega) (Ng _)
 refine fL J J J hr11 (aa J J (ar (ah (aj (ae (aa J J (ar (ah (aj (aj (ae (ab J J (bn J J (bR Tryz.underlying47 (hv.ext x11)) (ao J J J (bT (by omega) (by omega)) (aa J J (ar (ah (aJ (fi (fun(k:Nat) (L:List UInt32) (r:UInt64)=>[(0,v),(1,ep d),(6,v11),(7,fB r),(8,I ((k:Int)-1))]) (fun(k:Nat) (L:List UInt32) (r:UInt64) w'=>eY w.heap.size L v11 w'∧aH w w'∧k≤l.length∧L.length=l.length∧val (L.drop k)*d.toNat+r.toNat=val (l.drop k)∧r.toNat<d.toNat) (fun(k:Nat) (L:List UInt32) (r:UInt64)=>k) (l.length) (List.replicate l.length 0) (0) ⟨J,J,J,J,J,trivial⟩ ⟨o11,x11,Ng _,by simp,by simp[List.drop_of_length_le,val],hd⟩ ?_)))))))))))))))))))
 rintro k L r w4 ⟨oL,e4,hk,hL,hval,hr⟩
 refine aj (aj (ae (ab J J (ao J J J (cz) (ar (ah (ci J (fun h16=>?_) (fun h16=>?_))))))))
 ·obtain⟨j,rfl⟩:∃j,k=j+1:=⟨k-1,by omega⟩
  have e:((j+1:Nat):Int)-1=(j:Int):=by omega
  rw[e]
  have st:=Cr hd (show j<l.length by omega) hL hval hr
  refine aA (ah (aj (aJ (aj (ae (ab J J (ao J J J (jq 32 (by omega)) (ab J J (ab J J ?_)))))))))
  obtain⟨a23,p23,q23⟩:=dN MD (hv.ext e4) (i:=j) (by omega) .i64
  refine aE J J J (p23 _) (ak J J (ai MF J q23) (cm J J (cr MF MJ) (ao J J J (mi) (aa J J (ar (ah (aj (ae (ab J J (ab J J (ab J J (ab J J (cm J J (cr MF MJ) (ao J J J (tk hd0) (cm J J (c7 MJ MF) ?_)))))))))))))))
  obtain⟨g34,w34,p34,s34,o34,q34,hb34,c34,ob34⟩:=(oL).setW MD (i:=j) (by omega) (((r<<<UInt64.ofNat 32|||l[j].toUInt64)/d.toUInt64).toUInt32)
  refine aE J J J (p34 _) (dH J J s34 ?_)
  have x34:=aH.of_new (e4) q34 hb34
  refine ar (ah (ae (ab J J (ab J J (cm J J (cr Tryz.underlying253 Tryz.underlying175) (ao J J J (qH hd0) (aa J J (ar (aW (ah (ae (ab J J (ao J J J (bT (by omega) (by omega)) (aa J J (ar (cK (j) (_) ((r<<<UInt64.ofNat 32|||l[j].toUInt64)%d.toUInt64) ⟨J,J,J,J,J,trivial⟩ ⟨o34,x34,by show j≤_;omega,by simpa using hL,st.1,st.2⟩ (by show j<j+1;omega)))))))))))))))))
 ·refine bJ (aV (aV (bP (ah (aj (ae ?_))))))
  obtain rfl:k=0:=by omega
  rw[List.drop_zero,List.drop_zero] at hval
  have hq:val l/d.toNat=val L:=by rw[←hval,Nat.mul_comm,Nat.mul_add_div hd,Nat.div_eq_of_lt hr,Nat.add_zero]
  have hm:val l%d.toNat=r.toNat:=by rw[←hval,Nat.mul_comm,Nat.mul_add_mod,Nat.mod_eq_of_lt hr]
  refine ab J J (aq dz J J (dB oL.wds) ?_)
  rintro v40 _ ⟨rfl,b40⟩
  refine ab J J (aq nB J J (nD) ?_)
  rintro v42 w42 ⟨x42,b42⟩
  refine aa J J (aa J J (ar (ah (aD (dW J J J ?_)))))
  exact⟨_,J,(e4.trans x42),_,_,J,by rw[hq];exact b40.ext x42,by rw[hm];exact b42⟩
end Go.Rl
namespace Go.Rl
open Go.RowKit Go.Proofs
def vL:List UInt8:=(List.range 256).map fun n=>UInt8.ofNat (bl n)
theorem bl8 (y:UInt8):(UInt8.ofNat (bl y.toNat)).toNat=bl y.toNat∧bl y.toNat≤8:=by
 have:=rD (n:=y.toNat) (k:=8) y.toNat_lt
 exact⟨by rw[UInt8.toNat_ofNat'];omega,this⟩
theorem El {w:World} (y:UInt8):(Instr.index 9 (S vL) (U8 y)).run Tryz.prog w=.ok (U8 (UInt8.ofNat (bl y.toNat))) w:=by
 have hy:=y.toNat_lt
 have hs:(⟨vL.toArray⟩:ByteArray).size=256:=by simp[ByteArray.size,vL]
 rw[S,U8,run_index_string _ _ _ _ _ Tryz.underlying9,dif_pos (by rw[hs];omega)]
 have e:(⟨vL.toArray⟩:ByteArray)[((y.toNat:Int)).toNat]'(by rw[hs];omega)=UInt8.ofNat (bl y.toNat):=by
  show vL.toArray[((y.toNat:Int)).toNat]'(by simp[vL];omega)=_
  simp[vL]
 rw[e];rfl
theorem Em (x:UInt32) (h:x.toNat<256):bl x.toUInt8.toNat=bl x.toNat:=by
 have:x.toUInt8.toNat=x.toNat%256:=UInt32.toNat_toUInt8 x
 rw[this,Nat.mod_eq_of_lt h]
theorem Ft {a b:UInt32}:a≥b↔b.toNat≤a.toNat:=UInt32.le_iff_toNat_le
theorem vM {w:World} {x:UInt32}:
 Calls Tryz.prog 338 #[ep x] w (cA fun r w'=>w=w'∧r=I ((bl x.toNat:Nat):Int)):=by
 refine enter Tryz.func338 J J J ?_
 have hx:=dk x
 refine aj (ae (aa J J (ar (ah (aj (aj (ae (ab J J (ao (v:=ep 65536) J J J (tf) (ar (ah (ci J (fun h4=>?_) (fun h4=>?_)))))))))))))
 ·have h4':65536≤x.toNat:=Ft.1 h4
  have hb1:=pA (n:=x.toNat) (s:=16) (by omega)
  have hz:=sI x (s:=16) (by omega)
  refine aj (ae (ab J J (ao J J J (lN 16 (by omega)) (aa J J (ar (ah (ae (aa J J (ar (ah (aj (aj (ae (ab J J (ao (v:=ep 256) J J J (tf) (ar (ah (ci J (fun h8=>?_) (fun h8=>?_)))))))))))))))))))
  ·have h8':256≤((((x)>>>UInt32.ofNat 16))).toNat:=Ft.1 h8
   have hb2:=pA (n:=((((x)>>>UInt32.ofNat 16))).toNat) (s:=8) (by omega)
   have hz2:=sI (((x)>>>UInt32.ofNat 16)) (s:=8) (by omega)
   refine aj (ae (ab J J (ao J J J (lN 8 (by omega)) (aa J J (ar (ah (ae (ab J J (ao J J J (aY (by omega) (by omega)) (aa J J (ar (ah (aj (ae (ab J J ?_)))))))))))))))
   have hu:=Em (((((x)>>>UInt32.ofNat 16))>>>UInt32.ofNat 8)) (by first|omega|(rw[hz2];omega))
   refine ab J J (cm J J (sG MF MZ) ?_)
   have hy:=bl8 ((((((x)>>>UInt32.ofNat 16))>>>UInt32.ofNat 8))).toUInt8
   refine sC (u:=S vL) (v:=U8 ((((((x)>>>UInt32.ofNat 16))>>>UInt32.ofNat 8))).toUInt8) (by kernel_rfl) J J (El _) (cm J J (od MZ ME) (ao J J J (aY (by omega) (by omega)) (aa J J (ar (ah (aD (aF J J ?_)))))))
   exact⟨_,J,J,congrArg I (by
    try simp only[Nat.reducePow] at*
    first
    |(rw[hz2] at hu;rw[hz] at hb2 hu;rw[hb1,hb2];omega)
    |(rw[hz2] at hu;rw[hb2];omega)
    |(rw[hz] at hu;rw[hb1];omega)
    |omega)⟩
  ·have h8':((((x)>>>UInt32.ofNat 16))).toNat<256:=Nat.lt_of_not_le fun h=>h8 (Ft.2 h)
   refine aA (ah (aj (ae (ab J J ?_))))
   have hu:=Em (((x)>>>UInt32.ofNat 16)) (by first|omega|(rw[hz2];omega))
   refine ab J J (cm J J (sG MF MZ) ?_)
   have hy:=bl8 ((((x)>>>UInt32.ofNat 16))).toUInt8
   refine sC (u:=S vL) (v:=U8 ((((x)>>>UInt32.ofNat 16))).toUInt8) (by kernel_rfl) J J (El _) (cm J J (od MZ ME) (ao J J J (aY (by omega) (by omega)) (aa J J (ar (ah (aD (aF J J ?_)))))))
   exact⟨_,J,J,congrArg I (by
    try simp only[Nat.reducePow] at*
    first
    |(rw[hz2] at hu;rw[hz] at hb2 hu;rw[hb1,hb2];omega)
    |(rw[hz2] at hu;rw[hb2];omega)
    |(rw[hz] at hu;rw[hb1];omega)
    |omega)⟩
 ·have h4':x.toNat<65536:=Nat.lt_of_not_le fun h=>h4 (Ft.2 h)
  refine aA (ah (aj (aj (ae (ab J J (ao (v:=ep 256) J J J (tf) (ar (ah (ci J (fun h8=>?_) (fun h8=>?_))))))))))
  ·have h8':256≤((x)).toNat:=Ft.1 h8
   have hb2:=pA (n:=((x)).toNat) (s:=8) (by omega)
   have hz2:=sI (x) (s:=8) (by omega)
   refine aj (ae (ab J J (ao J J J (lN 8 (by omega)) (aa J J (ar (ah (ae (ab J J (ao J J J (aY (by omega) (by omega)) (aa J J (ar (ah (aj (ae (ab J J ?_)))))))))))))))
   have hu:=Em (((x)>>>UInt32.ofNat 8)) (by first|omega|(rw[hz2];omega))
   refine ab J J (cm J J (sG MF MZ) ?_)
   have hy:=bl8 ((((x)>>>UInt32.ofNat 8))).toUInt8
   refine sC (u:=S vL) (v:=U8 ((((x)>>>UInt32.ofNat 8))).toUInt8) (by kernel_rfl) J J (El _) (cm J J (od MZ ME) (ao J J J (aY (by omega) (by omega)) (aa J J (ar (ah (aD (aF J J ?_)))))))
   exact⟨_,J,J,congrArg I (by
    try simp only[Nat.reducePow] at*
    first
    |(rw[hz2] at hu;rw[hz] at hb2 hu;rw[hb1,hb2];omega)
    |(rw[hz2] at hu;rw[hb2];omega)
    |(rw[hz] at hu;rw[hb1];omega)
    |omega)⟩
  ·have h8':((x)).toNat<256:=Nat.lt_of_not_le fun h=>h8 (Ft.2 h)
   refine aA (ah (aj (ae (ab J J ?_))))
   have hu:=Em (x) (by first|omega|(rw[hz2];omega))
   refine ab J J (cm J J (sG MF MZ) ?_)
   have hy:=bl8 ((x)).toUInt8
   refine sC (u:=S vL) (v:=U8 ((x)).toUInt8) (by kernel_rfl) J J (El _) (cm J J (od MZ ME) (ao J J J (aY (by omega) (by omega)) (aa J J (ar (ah (aD (aF J J ?_)))))))
   exact⟨_,J,J,congrArg I (by
    try simp only[Nat.reducePow] at*
    first
    |(rw[hz2] at hu;rw[hz] at hb2 hu;rw[hb1,hb2];omega)
    |(rw[hz2] at hu;rw[hb2];omega)
    |(rw[hz] at hu;rw[hb1];omega)
    |omega)⟩
theorem Fu {w:World} {x:UInt32}:
 Calls Tryz.prog 322 #[ep x] w (cA fun r w'=>w=w'∧r=I ((32-bl x.toNat:Nat):Int)):=by
 refine enter Tryz.func322 J J J ?_
 have hx:=rD (n:=x.toNat) (k:=32) x.toNat_lt
 refine aj (ae (aa J J (ar (ah (aj (ae (ab J J (aq vJ J J (vM) ?_))))))))
 rintro v4 _ ⟨rfl,rfl⟩
 refine ao (r:=I ((32-bl x.toNat:Nat):Int)) J J J (by have e:((32-bl x.toNat:Nat):Int)=32-((bl x.toNat:Nat):Int):=(by omega);rw[e];exact bT (by omega) (by omega)) (aa J J (ar (ah (aD (aF J J ?_)))))
 exact⟨_,J,J,J⟩
theorem ov {w:World} {l:List UInt32} {v:Value} (hv:bH l v w) (hl:l.length≤1099511627776):
 Calls Tryz.prog 299 #[v] w (cA fun r w'=>w=w'∧r=I ((bl (val l):Nat):Int)):=by
 refine enter Tryz.func299 J J J ?_
 have hll:=fM (c9 l)
 refine aj (ae (aa J J (ar (ah (aj (ae (ab J J (aq dz J J (dB hv) ?_))))))))
 rintro v4 _ ⟨rfl,b4⟩
 refine aa J J (ar (ah (aj (aj (ae (ab J J (bn (r:=I ((lb (val l)).length:Int)) J J (bR MD b4) (ao J J J (aO) (ar (ah (ci J (fun h7=>?_) (fun h7=>?_))))))))))))
 ·refine aj (ae (aa J J (ar (ah (aD (a0 (aF J J ?_)))))))
  exact⟨_,J,J,by
   have:val l=0:=gl.1 (by omega)
   rw[this];rfl⟩
 ·refine aA (ah (aj (ae (ab J J (bn (r:=I ((lb (val l)).length:Int)) J J (bR MD b4) (ao (r:=I (((lb (val l)).length-1:Nat):Int)) J J J (by have e:(((lb (val l)).length-1:Nat):Int)=((lb (val l)).length:Int)-1:=(by omega);rw[e];exact bT (by omega) (by omega)) ?_))))))
  refine ao (r:=I ((32*((lb (val l)).length-1:Nat):Nat):Int)) J J J (by have e:((32*((lb (val l)).length-1:Nat):Nat):Int)=32*(((lb (val l)).length-1:Nat):Int):=(by omega);rw[e];exact vc (by omega) (by omega)) (ab J J (ab J J (bn (r:=I ((lb (val l)).length:Int)) J J (bR MD b4) (ao (r:=I (((lb (val l)).length-1:Nat):Int)) J J J (by have e:(((lb (val l)).length-1:Nat):Int)=((lb (val l)).length:Int)-1:=(by omega);rw[e];exact bT (by omega) (by omega)) ?_))))
  obtain⟨a16,p16,q16⟩:=dN MD b4 (i:=((lb (val l)).length-1:Nat)) (by omega) .i64
  refine aE J J J (p16 _) (ak J J (ai MF J q16) (aq vJ J J (vM) ?_))
  rintro v18 _ ⟨rfl,rfl⟩
  have hb:=Ks (n:=val l) (i:=(lb (val l)).length-1) (by omega)
  have hb32:=rD (n:=((lb (val l))[(lb (val l)).length-1]'(by omega)).toNat) (k:=32) (dk _)
  refine ao (r:=I ((((32*((lb (val l)).length-1:Nat):Nat))+(bl ((lb (val l))[(lb (val l)).length-1]'(by omega)).toNat:Nat):Nat):Int)) J J J (by have e:((((32*((lb (val l)).length-1:Nat):Nat))+(bl ((lb (val l))[(lb (val l)).length-1]'(by omega)).toNat:Nat):Nat):Int)=((32*((lb (val l)).length-1:Nat):Nat):Int)+((bl ((lb (val l))[(lb (val l)).length-1]'(by omega)).toNat:Nat):Int):=(by omega);rw[e];exact aY (by omega) (by omega)) (aa J J (ar (ah (aD (aF J J ?_)))))
  exact⟨_,J,J,by rw[hb]⟩
theorem En {a L:List UInt32} {i s V:Nat} {o:UInt32} (hi:i<a.length) (hL:L.length=a.length) (hv:val (L.take i)+4294967296^i*(val (a.drop i)/2^s)=V)
 (st:o.toNat+4294967296*(val (a.drop (i+1))/2^s)=(a[i].toNat+4294967296*val (a.drop (i+1)))/2^s):val ((L.set i o).take (i+1))+4294967296^(i+1)*(val (a.drop (i+1))/2^s)=V:=by
 rw[fH (by omega),Nat.add_assoc,Nat.pow_succ,Nat.mul_assoc,←Nat.mul_add,st,←fV hi,hv]
theorem AQ {a:List UInt32} {i:Nat} {x:UInt64} (hi:i<a.length) (hx:(∃h:i+1<a.length,x=a[i].toUInt64|||a[i+1].toUInt64<<<UInt64.ofNat 32)∨(a.length≤i+1∧x=a[i].toUInt64)) {s:Nat} (hs:s<32):
 ((x>>>UInt64.ofNat s).toUInt32).toNat+4294967296*(val (a.drop (i+1))/2^s)=(a[i].toNat+4294967296*val (a.drop (i+1)))/2^s:=by
 refine(Hk hs ?_).resolve_right (by have:=dk a[i];omega)
 rcases hx with⟨h,rfl⟩|⟨h,rfl⟩
 ·rw[Kr (fX _) (dk _),fV h]
  have:=dk a[i+1]
  rw[Nat.add_mul_mod_self_left,Nat.mod_eq_of_lt this]
 ·rw[fX,List.drop_of_length_le h];simp[val]
theorem xO {w:World} {l:List UInt32} {v:Value} {k:Nat} (hv:bH l v w) (hl:l.length≤1099511627776) (hk:k≤1048576):
 Calls Tryz.prog 326 #[v,I (k:Int)] w (cA fun r w'=>aH w w'∧∃q,r=.tuple #[q,I 0]∧bH (lb (val l/2^k)) q w'):=by
 refine enter Tryz.func326 J J J ?_
 have hll:=fM (c9 l)
 refine aj (ae (aa J J (aa J J (ar (ah (aj (aj (ae (ab J J (ao J J J (be (by omega) aX) (ab J J (an J (ab J J (an J (ao J J J (be (by omega) bo) (aG J J J (ar (ah (bU J (aA (ah (aj (ae (ab J J (aq dz J J (dB hv) ?_)))))))))))))))))))))))))
 rintro v17 _ ⟨rfl,b17⟩
 refine aa J J (ar (ah (aj (aj (ae (ab J J (ao (r:=I ((k/32:Nat):Int)) J J J (by have e:((k/32:Nat):Int)=(k:Int)/32:=(by omega);rw[e];exact qE (by omega) (by omega) (by omega)) (ab J J (bn J J (bR MD b17) (ao J J J (cz) (ar (ah (ci J (fun h22=>?_) (fun h22=>?_))))))))))))))
 ·refine aj (ae (aa J J (aa J J (ar (ah (aD (a0 (dW J J J ?_))))))))
  exact⟨_,J,aH.refl _,_,J,by
   have h1:=c9 (lb (val l))
   rw[bk] at h1
   have h2:(4294967296:Nat)^(lb (val l)).length=2^(32*(lb (val l)).length):=by rw[Nat.pow_mul]
   have h3:2^(32*(lb (val l)).length)≤2^k:=Nj (by omega) (by omega)
   rw[Nat.div_eq_of_lt (by omega)]
   exact bH.nil _⟩
 ·refine aA (ah (aj (ae (ab J J (ab J J (ao (r:=I ((k/32:Nat):Int)) J J J (by have e:((k/32:Nat):Int)=(k:Int)/32:=(by omega);rw[e];exact qE (by omega) (by omega) (by omega)) ?_))))))
  obtain⟨v26,p26,b26⟩:=Hi MD b17 (lo:=k/32) (by omega) .i64
  refine ky J J J J J (p26 _) (aa J J (ar (ah (aj ?_))))
  obtain⟨a,ha⟩:∃a,a=(lb (val l)).drop (k/32):=⟨_,rfl⟩
  have hva:val a=val l/2^(32*(k/32)):=by
   have h1:=fe (lb (val l)) (k/32) (by omega)
   have h2:=c9 ((lb (val l)).take (k/32))
   rw[List.length_take,Nat.min_eq_left (by omega)] at h2
   rw[bk] at h1
   have h3:(4294967296:Nat)^(k/32)=2^(32*(k/32)):=by rw[Nat.pow_mul]
   rw[h3] at h1 h2
   rw[ha]
   conv=>rhs;rw[h1]
   rw[Nat.add_mul_div_left _ _ (Nat.pow_pos (by omega)),Nat.div_eq_of_lt h2,Nat.zero_add]
  have hal:a.length≤1099511627776:=by rw[ha,List.length_drop];omega
  rw[←ha] at b26
  refine ae (ab J J (bn (r:=I (a.length:Int)) J J (bR MD b26) ?_))
  obtain⟨v29,w29,hr29,x29,o29,ob29⟩:=py MD (w:=w) w.heap.size (n:=a.length) (by omega) (Ng _)
  refine fL J J J hr29 (aa J J (ar (ah (aj (aj (ae (ab J J (bn (r:=I (a.length:Int)) J J (bR Tryz.underlying47 (b26.ext x29)) (ab J J (ar (ah (aJ (iy (fun(i:Nat) (L:List UInt32)=>[(0,v26),(1,I (k:Int)),(6,v29),(30,v26),(31,I (a.length:Int)),(32,I (i:Int))]) (fun(i:Nat) (L:List UInt32) w'=>eY w.heap.size L v29 w'∧aH w w'∧i≤a.length∧L.length=a.length∧val (L.take i)+4294967296^i*(val (a.drop i)/2^(k%32))=val a/2^(k%32)) (fun(i:Nat) (L:List UInt32)=>a.length-i) (0) (List.replicate a.length 0) ⟨J,J,J,J,J,J,trivial⟩ ⟨o29,x29,by simp,by simp,by simp[val]⟩ ?_)))))))))))))
  rintro i L w9 ⟨oL,e9,hi,hL,hval⟩
  refine aj (ae (ao J J J (aX) (ar (ah (aj (ci J (fun h33=>?_) (fun h33=>?_)))))))
  ·have hia:i<a.length:=by omega
   refine aA (ah (aj (aJ (aj (ae (ab J J ?_))))))
   obtain⟨a35,p35,q35⟩:=dN MD (b26.ext e9) (i:=i) (by omega) .i64
   refine aE J J J (p35 _) (ak J J (ai MF J q35) (aa J J (aa J J (ar (ah (aj (ae (ab J J (cm J J (cr MF MJ) (aa J J (ar (ah (aj (aj (ae (ab J J (ao (r:=I ((i+1:Nat):Int)) J J J (by have e:((i+1:Nat):Int)=(i:Int)+1:=(by omega);rw[e];exact aY (by omega) (by omega)) (ab J J (bn (r:=I (a.length:Int)) J J (bR MD (b26.ext e9)) (ao J J J (aX) (ar (ah (ci J (fun h43=>?_) (fun h43=>?_))))))))))))))))))))))))
   ·refine ae (ab J J (ab J J (ab J J (ao (r:=I ((i+1:Nat):Int)) J J J (by have e:((i+1:Nat):Int)=(i:Int)+1:=(by omega);rw[e];exact aY (by omega) (by omega)) ?_))))
    obtain⟨a48,p48,q48⟩:=dN MD (b26.ext e9) (i:=(i+1:Nat)) (by omega) .i64
    refine aE J J J (p48 _) (ak J J (ai MF J q48) (cm J J (cr MF MJ) (ao J J J (jq 32 (by omega)) (ao J J J (mi) (aa J J (ar (ah (ae (ab J J (ab J J (ab J J (ab J J (ao (r:=I ((k%32:Nat):Int)) J J J (by have e:((k%32:Nat):Int)=(k:Int)%32:=(by omega);rw[e];exact oc (by omega) (by omega)) (ao J J J (ei ((k%32:Nat)) (by omega)) (cm J J (c7 MJ MF) ?_)))))))))))))))
    have st:=AQ (x:=(((((a[i])).toUInt64)|||(((((a[(i+1:Nat)])).toUInt64)<<<UInt64.ofNat 32))))) hia (by first|exact .inl ⟨by omega,rfl⟩|exact .inr ⟨by omega,rfl⟩) (Nat.mod_lt k (show 0<32 by omega))
    obtain⟨g60,w60,p60,s60,o60,q60,hb60,c60,ob60⟩:=(oL).setW MD (i:=i) (by omega) (((((((a[i])).toUInt64)|||(((((a[(i+1:Nat)])).toUInt64)<<<UInt64.ofNat 32))))>>>UInt64.ofNat (k%32)).toUInt32)
    refine aE J J J (p60 _) (dH J J s60 ?_)
    have x60:=aH.of_new (e9) q60 hb60
    refine ar (aW (ah (ae (ao (r:=I ((i+1:Nat):Int)) J J J (by have e:((i+1:Nat):Int)=(i:Int)+1:=(by omega);rw[e];exact aY (by omega) (by omega)) (ab J J (ar (fk (i+1) (_) ⟨J,J,J,J,J,J,trivial⟩ ⟨o60,x60,hia,by simpa using hL,En hia hL hval st⟩ (by show a.length-(i+1)<a.length-i;omega))))))))
   ·refine aA (ah (ae (ab J J (ab J J (ab J J (ab J J (ao (r:=I ((k%32:Nat):Int)) J J J (by have e:((k%32:Nat):Int)=(k:Int)%32:=(by omega);rw[e];exact oc (by omega) (by omega)) ?_)))))))
    refine ao J J J (ei ((k%32:Nat)) (by omega)) (cm J J (c7 MJ MF) ?_)
    have st:=AQ (x:=(((a[i])).toUInt64)) hia (by first|exact .inl ⟨by omega,rfl⟩|exact .inr ⟨by omega,rfl⟩) (Nat.mod_lt k (show 0<32 by omega))
    obtain⟨g60,w60,p60,s60,o60,q60,hb60,c60,ob60⟩:=(oL).setW MD (i:=i) (by omega) (((((a[i])).toUInt64)>>>UInt64.ofNat (k%32)).toUInt32)
    refine aE J J J (p60 _) (dH J J s60 ?_)
    have x60:=aH.of_new (e9) q60 hb60
    refine ar (aW (ah (ae (ao (r:=I ((i+1:Nat):Int)) J J J (by have e:((i+1:Nat):Int)=(i:Int)+1:=(by omega);rw[e];exact aY (by omega) (by omega)) (ab J J (ar (fk (i+1) (_) ⟨J,J,J,J,J,J,trivial⟩ ⟨o60,x60,hia,by simpa using hL,En hia hL hval st⟩ (by show a.length-(i+1)<a.length-i;omega))))))))
  ·refine bJ (aV (aV (bP (ah (aj (ae ?_))))))
   have hla:val L=val l/2^k:=by
    rw[List.take_of_length_le (by omega),List.drop_of_length_le (by omega)] at hval
    simp only[val,Nat.zero_div,Nat.mul_zero,Nat.add_zero] at hval
    rw[hval,hva,Nat.div_div_eq_div_mul,←Nat.pow_add,Nat.div_add_mod]
   refine ab J J (aq dz J J (dB oL.wds) ?_)
   rintro v63 _ ⟨rfl,b63⟩
   refine aa J J (aa J J (ar (ah (aD (dW J J J ?_)))))
   exact⟨_,J,e9,_,J,by rw[←hla];exact b63⟩
end Go.Rl
namespace Go.Rl
theorem AR {V U v1 v2 u01 u2 P Vl Ul q r:Nat} (hV:V=(v1*4294967296+v2)*P+Vl) (hU:U=(u01*4294967296+u2)*P+Ul) (hUl:Ul<P) (hqr:q*v1+r=u01)
 (h:r*4294967296+u2<q*v2):U<q*V:=by
 have h1:u01*4294967296+u2+1≤q*(v1*4294967296+v2):=by
  rw[←hqr,Nat.mul_add,←Nat.mul_assoc,Nat.add_mul];omega
 have h2:(u01*4294967296+u2+1)*P≤q*(v1*4294967296+v2)*P:=Ni _ h1
 have h3:q*(v1*4294967296+v2)*P≤q*V:=by
  rw[hV,Nat.mul_assoc];exact Nat.mul_le_mul_left _ (Nat.le_add_right _ _)
 rw[Nat.add_mul _ 1] at h2
 omega
theorem Hl {V U v1 v2 u01 u2 P Vl Ul q:Nat} (hV:V=(v1*4294967296+v2)*P+Vl) (hU:U=(u01*4294967296+u2)*P+Ul) (hVl:Vl<P) (h1:0<v1) (hq:0<q) (hqB:q≤4294967296)
 (h:q*(v1*4294967296+v2)≤u01*4294967296+u2):(q-1)*V≤U:=by
 obtain⟨m,rfl⟩:∃m,q=m+1:=⟨q-1,by omega⟩
 rw[Nat.add_sub_cancel]
 have h2:(m+1)*(v1*4294967296+v2)*P≤(u01*4294967296+u2)*P:=Ni _ h
 have h3:m*Vl≤(v1*4294967296+v2)*P:=by
  have a:m*Vl≤4294967296*P:=Ns (by omega) (by omega)
  have b:4294967296*P≤(v1*4294967296+v2)*P:=Ni _ (by omega)
  omega
 rw[hV,Nat.mul_add,←Nat.mul_assoc]
 rw[Nat.add_mul m 1,Nat.one_mul,Nat.add_mul] at h2
 omega
theorem qK {V U v1 v2 u01 u2 P Vl Ul q r:Nat} (hV:V=(v1*4294967296+v2)*P+Vl) (hU:U=(u01*4294967296+u2)*P+Ul) (hVl:Vl<P) (h1:0<v1) (hv2:v2<4294967296) (hqB:q<4294967296) (hqr:q*v1+r=u01)
 (h:4294967296≤r∨q*v2≤r*4294967296+u2):(q-1)*V≤U:=by
 rcases Np q with rfl|hq
 ·simp
 ·refine Hl hV hU hVl h1 hq (by omega) ?_
  rw[Nat.mul_add,←Nat.mul_assoc]
  have hp:q*v2≤4294967295*4294967295:=Ns (by omega) (by omega)
  omega
theorem Hm {v1 u0 u1 q r:Nat} (hu0:u0≤v1) (hu1:u1<4294967296) (hqr:q*v1+r=u0*4294967296+u1) (hr:4294967296≤r):q<4294967296:=by
 rcases Nat.lt_or_ge q 4294967296 with h|h
 ·exact h
 ·have:=Ni v1 h
  omega
theorem KY {V U v1 u01 P Q:Nat} (hV:v1*P≤V) (hU:U<(u01+1)*P) (h1:0<v1) (h:Q*V≤U):Q≤u01/v1:=by
 rw[Nat.le_div_iff_mul_le h1]
 have h2:Q*v1*P≤Q*V:=by rw[Nat.mul_assoc];exact Nr _ hV
 have h3:Q*v1*P<(u01+1)*P:=by omega
 have:=Nat.lt_of_mul_lt_mul_right h3
 omega
theorem L2 {u lo b:Nat} (hu:u<4294967296) (hlo:lo<4294967296) (hb:b≤1) {x:UInt64} (hx:x.toNat=(18446744073709551616-b+(18446744073709551616-lo+u)%18446744073709551616)%18446744073709551616):
 x.toNat%4294967296+lo+b=u+4294967296*(x.toNat/9223372036854775808)∧x.toNat/9223372036854775808≤1:=by
 omega
theorem Hn {L v:List UInt32} {M:List UInt32} {i:Nat} {q c b x:UInt64} (hi:i<v.length) (hL:v.length<L.length) (hM:M.length=L.length) (hq:q.toNat<4294967296) (hc:c.toNat<4294967296) (hb:b.toNat≤1)
 (hMi:M.drop i=L.drop i) (hinv:val (L.take i)+4294967296^i*(c.toNat+b.toNat)=val (M.take i)+q.toNat*val (v.take i))
 (hx:x=(M[i]'(by omega)).toUInt64-((c+q*v[i].toUInt64).toUInt32).toUInt64-b):
 (M.set i x.toUInt32).drop (i+1)=L.drop (i+1)∧((c+q*v[i].toUInt64)>>>UInt64.ofNat 32).toNat<4294967296∧(x>>>UInt64.ofNat 63).toNat≤1∧
   val (L.take (i+1))+4294967296^(i+1)*(((c+q*v[i].toUInt64)>>>UInt64.ofNat 32).toNat+(x>>>UInt64.ofNat 63).toNat)=val ((M.set i x.toUInt32).take (i+1))+q.toNat*val (v.take (i+1)):=by
 have hd:=dk v[i]
 have hMl:M[i]'(by omega)=L[i]'(by omega):=by
  have h1:=List.getElem?_drop (xs:=M) (i:=i) (j:=0)
  have h2:=List.getElem?_drop (xs:=L) (i:=i) (j:=0)
  rw[hMi] at h1
  rw[h1,Nat.add_zero,List.getElem?_eq_getElem (by omega),List.getElem?_eq_getElem (by omega)] at h2
  exact Nc h2
 have hu:=dk (M[i]'(by omega))
 have hprod:q.toNat*v[i].toNat≤4294967295*4294967295:=Ns (by omega) (by omega)
 have hC:(c+q*v[i].toUInt64).toNat=c.toNat+q.toNat*v[i].toNat:=by
  rw[mj,vH,fX];omega
 have hhi:((c+q*v[i].toUInt64)>>>UInt64.ofNat 32).toNat=(c.toNat+q.toNat*v[i].toNat)/4294967296:=by rw[pz _ (by omega),hC]
 have hb1:(x>>>UInt64.ofNat 63).toNat=x.toNat/9223372036854775808:=by rw[pz _ (by omega)]
 have hxn:x.toNat=(18446744073709551616-b.toNat+(18446744073709551616-(c.toNat+q.toNat*v[i].toNat)%4294967296+(M[i]'(by omega)).toNat)%18446744073709551616)%18446744073709551616:=by
  rw[hx,pe,pe,fX,fX,lc,hC]
 obtain⟨hs1,hs2⟩:=L2 hu (Nat.mod_lt _ (by omega)) hb hxn
 refine⟨?_,by rw[hhi];omega,by rw[hb1];exact hs2,?_⟩
 ·rw[List.drop_set_of_lt (by omega)]
  have:=congrArg (List.drop 1) hMi
  rwa [List.drop_drop,List.drop_drop] at this
 ·rw[fH (by omega),cL (by omega),cL hi,hhi,hb1,lc,←hMl,Nat.pow_succ,Nat.mul_add q.toNat,Nat.mul_left_comm q.toNat]
  have hdm:=Nat.div_add_mod (c.toNat+q.toNat*v[i].toNat) 4294967296
  have key:(M[i]'(by omega)).toNat+4294967296*((c.toNat+q.toNat*v[i].toNat)/4294967296+x.toNat/9223372036854775808)=x.toNat%4294967296+q.toNat*v[i].toNat+(c.toNat+b.toNat):=by omega
  have k2:=congrArg (4294967296^i* ·) key
  simp only[Nat.mul_add] at k2 hinv⊢
  simp only[Nat.mul_assoc] at k2⊢
  omega
theorem Ho {M v L:List UInt32} {i:Nat} {c:UInt64} (hi:i<v.length) (hL:v.length<L.length) (hM:M.length=L.length) (hc:c.toNat≤1)
 (hMi:M.drop i=L.drop i) (hinv:val (M.take i)+4294967296^i*c.toNat=val (L.take i)+val (v.take i)):
 (M.set i (c+((M[i]'(by omega)).toUInt64+v[i].toUInt64)).toUInt32).drop (i+1)=L.drop (i+1)∧((c+((M[i]'(by omega)).toUInt64+v[i].toUInt64))>>>UInt64.ofNat 32).toNat≤1∧
   val ((M.set i (c+((M[i]'(by omega)).toUInt64+v[i].toUInt64)).toUInt32).take (i+1))+4294967296^(i+1)*((c+((M[i]'(by omega)).toUInt64+v[i].toUInt64))>>>UInt64.ofNat 32).toNat=val (L.take (i+1))+val (v.take (i+1)):=by
 have hd:=dk v[i]
 have hMl:M[i]'(by omega)=L[i]'(by omega):=by
  have h1:=List.getElem?_drop (xs:=M) (i:=i) (j:=0)
  have h2:=List.getElem?_drop (xs:=L) (i:=i) (j:=0)
  rw[hMi] at h1
  rw[h1,Nat.add_zero,List.getElem?_eq_getElem (by omega),List.getElem?_eq_getElem (by omega)] at h2
  exact Nc h2
 have hu:=dk (M[i]'(by omega))
 have hC:(c+((M[i]'(by omega)).toUInt64+v[i].toUInt64)).toNat=c.toNat+((M[i]'(by omega)).toNat+v[i].toNat):=by
  rw[mj,mj,fX,fX];omega
 have hhi:((c+((M[i]'(by omega)).toUInt64+v[i].toUInt64))>>>UInt64.ofNat 32).toNat=(c.toNat+((M[i]'(by omega)).toNat+v[i].toNat))/4294967296:=by rw[pz _ (by omega),hC]
 refine⟨?_,by rw[hhi];omega,?_⟩
 ·rw[List.drop_set_of_lt (by omega)]
  have:=congrArg (List.drop 1) hMi
  rwa [List.drop_drop,List.drop_drop] at this
 ·rw[fH (by omega),cL (by omega),cL hi,hhi,lc,hC,←hMl,Nat.pow_succ]
  have key:(c.toNat+((M[i]'(by omega)).toNat+v[i].toNat))%4294967296+4294967296*((c.toNat+((M[i]'(by omega)).toNat+v[i].toNat))/4294967296)=(M[i]'(by omega)).toNat+v[i].toNat+c.toNat:=by omega
  have k2:=congrArg (4294967296^i* ·) key
  simp only[Nat.mul_add] at k2 hinv⊢
  simp only[Nat.mul_assoc] at k2⊢
  omega
theorem Fv {n j:Nat} (h1:4294967296^j≤n) (h2:n<4294967296^(j+1)):(lb n).length=j+1:=by
 have a:=fM h2
 have b:=c9 (lb n)
 rw[bk] at b
 have c:=(Nat.pow_lt_pow_iff_right (a:=4294967296) (by omega)).1 (Nat.lt_of_le_of_lt h1 b)
 omega
theorem jI {x y:Nat}:pn x y<0↔x<y:=by
 unfold pn
 split
 ·simp;assumption
 ·split
  ·simp;omega
  ·simp;omega
theorem Hq {n k:Nat} (h:(lb n).length=k+2):
 32-bl ((lb n)[k+1]'(by omega)).toNat<32∧(lb (n*2^(32-bl ((lb n)[k+1]'(by omega)).toNat))).length=k+2:=by
 have hn:0<n:=by
  rcases Np n with h0|h0
  ·subst h0;simp[fG] at h
  ·exact h0
 have ht:=zd (n:=n) (i:=k+1) (by omega)
 have h1:=Ec hn
 rw[h] at h1
 have hb:=(mX ht).2
 have hp:=ol ht
 have h32:=rD (n:=((lb n)[k+1]'(by omega)).toNat) (k:=32) (dk _)
 have hv:n<(((lb n)[k+1]'(by omega)).toNat+1)*4294967296^(k+1):=by
  have e:=cL (l:=lb n) (i:=k+1) (by omega)
  rw[List.take_of_length_le (by omega),bk] at e
  have:=c9 ((lb n).take (k+1))
  rw[List.length_take,Nat.min_eq_left (by omega)] at this
  rw[Nat.mul_comm,Nat.mul_add]
  omega
 generalize ((lb n)[k+1]'(by omega)).toNat=t at*
 refine⟨by omega,Fv (j:=k+1) ?_ ?_⟩
 ·exact Nb h1 (Nat.le_mul_of_pos_right _ (Nat.pow_pos (by omega)))
 ·have hs:0<2^(32-bl t):=Nat.pow_pos (by omega)
  have a:n*2^(32-bl t)<(t+1)*4294967296^(k+1)*2^(32-bl t):=Nat.mul_lt_mul_of_pos_right hv hs
  have b:(t+1)*4294967296^(k+1)*2^(32-bl t)≤2^bl t*4294967296^(k+1)*2^(32-bl t):=Ni _ (Ni _ hb)
  have c:2^bl t*4294967296^(k+1)*2^(32-bl t)=4294967296^(k+1+1):=by
   rw[Nat.mul_right_comm,←Nat.pow_add,show bl t+(32-bl t)=32 by omega,Nat.pow_succ 4294967296 (k+1),Nat.mul_comm]
  omega
theorem Hr {x:UInt64} (h:x.toNat=0):x=0:=UInt64.toNat_inj.1 h
theorem vN {M:List UInt32} {n:Nat} (h:M.length=n+1) (x:UInt32):val (M.set n x)=val (M.take n)+4294967296^n*x.toNat:=by
 have:=fH (l:=M) (i:=n) (by omega) x
 rwa [List.take_of_length_le (by simp;omega)] at this
theorem AS {M:List UInt32} {n:Nat} (h:M.length=n+1):val M=val (M.take n)+4294967296^n*(M[n]'(by omega)).toNat:=by
 rw[←cL (by omega),List.take_of_length_le (by omega)]
theorem vO {M L:List UInt32} {i:Nat} (h:M.drop i=L.drop i) (h1:i<M.length) (h2:i<L.length):M[i]=L[i]:=by
 have e1:=List.getElem?_drop (xs:=M) (i:=i) (j:=0)
 have e2:=List.getElem?_drop (xs:=L) (i:=i) (j:=0)
 rw[h] at e1
 rw[e1,Nat.add_zero,List.getElem?_eq_getElem h1,List.getElem?_eq_getElem h2] at e2
 exact Nc e2
theorem Jv {L v M:List UInt32} {q c b x:UInt64} (hL:L.length=v.length+1) (hM:M.length=L.length) (hc:c.toNat<4294967296) (hb:b.toNat≤1)
 (hMi:M.drop v.length=L.drop v.length) (hinv:val (L.take v.length)+4294967296^v.length*(c.toNat+b.toNat)=val (M.take v.length)+q.toNat*val (v.take v.length))
 (hx:x=(M[v.length]'(by omega)).toUInt64-c-b):
 val L+4294967296^(v.length+1)*(x.toNat/9223372036854775808)=val (M.set v.length x.toUInt32)+q.toNat*val v∧x.toNat/9223372036854775808≤1:=by
 have hu:=dk (M[v.length]'(by omega))
 have hxn:x.toNat=(18446744073709551616-b.toNat+(18446744073709551616-c.toNat+(M[v.length]'(by omega)).toNat)%18446744073709551616)%18446744073709551616:=by
  rw[hx,pe,pe,fX]
 obtain⟨hs1,hs2⟩:=L2 hu hc hb hxn
 refine⟨?_,hs2⟩
 rw[vN (by omega),lc,AS hL,←vO hMi (by omega) (by omega),Nat.pow_succ]
 rw[List.take_length (l:=v)] at hinv
 have k2:=congrArg (4294967296^v.length* ·) hs1
 simp only[Nat.mul_add] at k2 hinv⊢
 simp only[Nat.mul_assoc] at k2⊢
 omega
theorem Hs {L v N M:List UInt32} {q:Nat} {c:UInt64} (hL:L.length=v.length+1) (hN:N.length=L.length) (hM:M.length=L.length) (hc:c.toNat≤1) (hMi:M.drop v.length=N.drop v.length)
 (hinv:val (M.take v.length)+4294967296^v.length*c.toNat=val (N.take v.length)+val (v.take v.length)) (ht:val L+4294967296^(v.length+1)=val N+q*val v) (h1:(q-1)*val v≤val L):
 0<q∧val L=(q-1)*val v+val (M.set v.length ((M[v.length]'(by omega))+c.toUInt32))∧val (M.set v.length ((M[v.length]'(by omega))+c.toUInt32))<val v:=by
 have hu:=dk (M[v.length]'(by omega))
 have hNl:=c9 N
 rw[hN,hL] at hNl
 have hq:0<q:=by
  rcases Np q with h|h
  ·subst h;omega
  ·exact h
 obtain⟨p,rfl⟩:∃p,q=p+1:=⟨q-1,by omega⟩
 rw[Nat.add_sub_cancel] at h1⊢
 rw[Nat.add_mul,Nat.one_mul] at ht
 have hlast:((M[v.length]'(by omega))+c.toUInt32).toNat=((M[v.length]'(by omega)).toNat+c.toNat)%4294967296:=by
  rw[UInt32.toNat_add,lc];omega
 have hF:=vN (show M.length=v.length+1 by omega) ((M[v.length]'(by omega))+c.toUInt32)
 have hFl:=c9 (M.set v.length ((M[v.length]'(by omega))+c.toUInt32))
 have hFe:(M.set v.length ((M[v.length]'(by omega))+c.toUInt32)).length=v.length+1:=by simp;omega
 rw[hFe] at hFl
 have hNe:=AS (show N.length=v.length+1 by omega)
 rw[←vO hMi (by omega) (by omega)] at hNe
 rw[List.take_length (l:=v)] at hinv
 have hdm:=Nat.div_add_mod ((M[v.length]'(by omega)).toNat+c.toNat) 4294967296
 have hs:((M[v.length]'(by omega)).toNat+c.toNat)/4294967296≤1:=by omega
 have key:val (M.set v.length ((M[v.length]'(by omega))+c.toUInt32))+4294967296^(v.length+1)*(((M[v.length]'(by omega)).toNat+c.toNat)/4294967296)=val N+val v:=by
  rw[hF,hlast,hNe,Nat.pow_succ]
  have k2:=congrArg (4294967296^v.length* ·) hdm
  simp only[Nat.mul_add] at k2⊢
  simp only[Nat.mul_assoc] at k2⊢
  omega
 generalize val (M.set v.length ((M[v.length]'(by omega))+c.toUInt32))=F at*
 generalize ((M[v.length]'(by omega)).toNat+c.toNat)/4294967296=s at*
 rcases(show s=0∨s=1 by omega) with rfl|rfl
 ·omega
 ·refine⟨by omega,by omega,by omega⟩
theorem Fw {A Q V X lo part q part' P:Nat} (hX:X=lo+P*part) (hlo:lo<P) (hA:A=Q*(P*4294967296)*V+X) (hp:part=q*V+part') (hr:part'<V):
 A=(q+4294967296*Q)*P*V+(lo+P*part')∧lo+P*part'<P*V:=by
 constructor
 ·rw[hA,hX,hp,Nat.mul_add P,Nat.add_mul q,Nat.add_mul]
  have e1:4294967296*Q*P*V=Q*(P*4294967296)*V:=by
   rw[Nat.mul_comm 4294967296 Q,Nat.mul_assoc Q,Nat.mul_comm 4294967296 P]
  have e2:q*P*V=P*(q*V):=by rw[Nat.mul_comm q P,Nat.mul_assoc]
  rw[e1,e2];omega
 ·have:P*(part'+1)≤P*V:=Nr _ hr
  rw[Nat.mul_add] at this
  omega
end Go.Rl
namespace Go.Rl
theorem fj (l:List UInt32) (i:Nat):val (l.take (i+1))=val (l.take i)+4294967296^i*(l.getD i 0).toNat:=by
 rcases Nat.lt_or_ge i l.length with h|h
 ·rw[cL h];simp[List.getD,List.getElem?_eq_getElem h]
 ·rw[List.take_of_length_le h,List.take_of_length_le (by omega)];simp[List.getD,List.getElem?_eq_none h]
theorem fI (l:List UInt32) {i:Nat} (h:l.length≤i):val (l.take i)=val l:=by rw[List.take_of_length_le h]
def zg (l:List UInt32) (n:Nat):List UInt32:=l++List.replicate (n-l.length) 0
theorem qN {l:List UInt32} {n:Nat} (h:l.length≤n):(zg l n).length=n:=by simp[zg];omega
theorem vf (l:List UInt32) (n:Nat):val (zg l n)=val l:=by simp[zg,fw,lO]
theorem vg {l:List UInt32} {n i:Nat} (h:i<(zg l n).length):(zg l n)[i]=l.getD i 0:=by
 unfold zg at h⊢
 rcases Nat.lt_or_ge i l.length with h1|h1
 ·rw[List.getElem_append_left h1];simp[List.getD,List.getElem?_eq_getElem h1]
 ·rw[List.getElem_append_right h1];simp[List.getD,List.getElem?_eq_none h1]
theorem Ht {l m:List UInt32} {n j:Nat} (hl:l.length≤n) (hm:m.length≤n) (hj:j<n) (hd:(zg l n).drop (j+1)=(zg m n).drop (j+1)) (h:(l.getD j 0).toNat<(m.getD j 0).toNat):val l<val m:=by
 rw[←vf l n,←vf m n]
 exact Ed (by rw[qN hl];exact hj) (by rw[qN hm];exact hj) hd (by rw[vg,vg];exact h)
theorem Hu {l m:List UInt32} {n j:Nat} (hl:l.length≤n) (hm:m.length≤n) (hj:j<n) (hd:(zg l n).drop (j+1)=(zg m n).drop (j+1)) (h:(l.getD j 0).toNat=(m.getD j 0).toNat):(zg l n).drop j=(zg m n).drop j:=by
 have h1:=List.drop_eq_getElem_cons (l:=zg l n) (i:=j) (by rw[qN hl];exact hj)
 have h2:=List.drop_eq_getElem_cons (l:=zg m n) (i:=j) (by rw[qN hm];exact hj)
 rw[h1,h2,hd,vg,vg,qJ h]
theorem Jw {l m:List UInt32} {n:Nat} (h:zg l n=zg m n):val l=val m:=by rw[←vf l n,←vf m n,h]
theorem xP {a b O:List UInt32} {i:Nat} {c:UInt64} (hO:O.length=i) (hc:c.toNat≤1) (hinv:val O+4294967296^i*c.toNat=val (a.take i)+val (b.take i)):
 val (O++[(c+((a.getD i 0).toUInt64+(b.getD i 0).toUInt64)).toUInt32])+4294967296^(i+1)*((c+((a.getD i 0).toUInt64+(b.getD i 0).toUInt64))>>>UInt64.ofNat 32).toNat=val (a.take (i+1))+val (b.take (i+1))∧
  ((c+((a.getD i 0).toUInt64+(b.getD i 0).toUInt64))>>>UInt64.ofNat 32).toNat≤1:=by
 have ha:=dk (a.getD i 0)
 have hb:=dk (b.getD i 0)
 have hC:(c+((a.getD i 0).toUInt64+(b.getD i 0).toUInt64)).toNat=c.toNat+((a.getD i 0).toNat+(b.getD i 0).toNat):=by rw[mj,mj,fX,fX];omega
 have hhi:((c+((a.getD i 0).toUInt64+(b.getD i 0).toUInt64))>>>UInt64.ofNat 32).toNat=(c.toNat+((a.getD i 0).toNat+(b.getD i 0).toNat))/4294967296:=by rw[pz _ (by omega),hC]
 refine⟨?_,by rw[hhi];omega⟩
 rw[fw,oe,hO,lc,hhi,hC,fj,fj,Nat.pow_succ]
 have key:=Nat.div_add_mod (c.toNat+((a.getD i 0).toNat+(b.getD i 0).toNat)) 4294967296
 have k2:=congrArg (4294967296^i* ·) key
 simp only[Nat.mul_add] at k2 hinv⊢
 simp only[Nat.mul_assoc] at k2⊢
 omega
theorem Hv {O:List UInt32} {i:Nat} {c:UInt64} (hO:O.length=i) (hc:c.toNat≤1):val (O++[c.toUInt32])=val O+4294967296^i*c.toNat:=by
 rw[fw,oe,hO,lc,Nat.mod_eq_of_lt (by omega)]
theorem xQ {a b O:List UInt32} {i:Nat} {d:UInt64} (hO:O.length=i) (hd:d.toNat≤1) (hinv:val (a.take i)+4294967296^i*d.toNat=val O+val (b.take i)) {x y:UInt64}
 (h:(x=(a.getD i 0).toUInt64+4294967296∧(a.getD i 0).toNat<(b.getD i 0).toNat+d.toNat∧y=1)∨(x=(a.getD i 0).toUInt64∧(b.getD i 0).toNat+d.toNat≤(a.getD i 0).toNat∧y=0)):
 val (a.take (i+1))+4294967296^(i+1)*y.toNat=val (O++[(x-((b.getD i 0).toUInt64+d)).toUInt32])+val (b.take (i+1))∧y.toNat≤1:=by
 have ha:=dk (a.getD i 0)
 have hb:=dk (b.getD i 0)
 have hy:((b.getD i 0).toUInt64+d).toNat=(b.getD i 0).toNat+d.toNat:=by rw[mj,fX];omega
 have e1:(1:UInt64).toNat=1:=rfl
 have e0:(0:UInt64).toNat=0:=rfl
 have key:(a.getD i 0).toNat+4294967296*y.toNat=(x-((b.getD i 0).toUInt64+d)).toUInt32.toNat+((b.getD i 0).toNat+d.toNat)∧y.toNat≤1:=by
  rcases h with⟨rfl,h,rfl⟩|⟨rfl,h,rfl⟩
  ·have hx:((a.getD i 0).toUInt64+4294967296).toNat=(a.getD i 0).toNat+4294967296:=by
    rw[mj,fX]
    show((a.getD i 0).toNat+4294967296)%18446744073709551616=_
    omega
   rw[lc,pe,hy,hx,e1]
   omega
  ·rw[lc,pe,hy,fX,e0]
   omega
 refine⟨?_,key.2⟩
 rw[fw,oe,hO,fj,fj,Nat.pow_succ]
 have k2:=congrArg (4294967296^i* ·) key.1
 simp only[Nat.mul_add] at k2 hinv⊢
 simp only[Nat.mul_assoc] at k2⊢
 omega
theorem Fx {a O:List UInt32} {i q s:Nat} {c:UInt64} (hs:s<32) (hi:i<a.length) (hO:O.length=q+i) (hc:c.toNat<2^s) (hinv:val O+4294967296^(q+i)*c.toNat=val (a.take i)*(4294967296^q*2^s)):
 val (O++[(c|||a[i].toUInt64<<<UInt64.ofNat s).toUInt32])+4294967296^(q+(i+1))*((c|||a[i].toUInt64<<<UInt64.ofNat s)>>>UInt64.ofNat 32).toNat=val (a.take (i+1))*(4294967296^q*2^s)∧
  ((c|||a[i].toUInt64<<<UInt64.ofNat s)>>>UInt64.ofNat 32).toNat<2^s:=by
 have ha:=dk a[i]
 have hps:2^s≤2^31:=Nj (by omega) (by omega)
 have hsh:(a[i].toUInt64<<<UInt64.ofNat s).toNat=2^s*a[i].toNat:=by
  rw[AM _ (by omega),fX,Nat.mod_eq_of_lt,Nat.mul_comm]
  have:a[i].toNat*2^s≤4294967295*2^31:=Ns (by omega) hps
  omega
 have hC:(c|||a[i].toUInt64<<<UInt64.ofNat s).toNat=c.toNat+2^s*a[i].toNat:=by rw[Ju,hsh,LS _ _ _ hc]
 have hhi:((c|||a[i].toUInt64<<<UInt64.ofNat s)>>>UInt64.ofNat 32).toNat=(c.toNat+2^s*a[i].toNat)/4294967296:=by rw[pz _ (by omega),hC]
 refine⟨?_,?_⟩
 ·rw[fw,oe,hO,lc,hhi,hC,cL hi,Nat.add_mul,←hinv,←Nat.add_assoc q i 1,Nat.pow_succ,Nat.pow_add]
  have key:=Nat.div_add_mod (c.toNat+2^s*a[i].toNat) 4294967296
  have k2:=congrArg (4294967296^q*4294967296^i* ·) key
  have e:4294967296^i*a[i].toNat*(4294967296^q*2^s)=4294967296^q*4294967296^i*(2^s*a[i].toNat):=by
   simp only[Nat.mul_comm,Nat.mul_left_comm,Nat.mul_assoc]
  rw[e]
  simp only[Nat.mul_add] at k2⊢
  simp only[Nat.mul_assoc] at k2⊢
  omega
 ·rw[hhi,Nat.div_lt_iff_lt_mul (by omega)]
  have h1:2^s*(a[i].toNat+1)≤2^s*4294967296:=Nr _ ha
  rw[Nat.mul_add] at h1
  omega
theorem KZ {a:List UInt32} {i:Nat} (hi:i/32<a.length):((a[i/32]>>>UInt32.ofNat (i%32))&&&1).toNat=val a/2^i%2:=by
 have hs:i%32<32:=Nat.mod_lt _ (by omega)
 have e1:((a[i/32]>>>UInt32.ofNat (i%32))&&&1).toNat=a[i/32].toNat/2^(i%32)%2:=by
  rw[UInt32.toNat_and,sI _ hs]
  show _&&&1=_
  rw[Nat.and_one_is_mod]
 have h1:=fe a (i/32) (by omega)
 have h2:=c9 (a.take (i/32))
 rw[List.length_take,Nat.min_eq_left (by omega)] at h2
 have h3:(4294967296:Nat)^(i/32)=2^(32*(i/32)):=by rw[Nat.pow_mul]
 rw[h3] at h1 h2
 have h4:val a/2^(32*(i/32))=val (a.drop (i/32)):=by
  rw[h1,Nat.add_mul_div_left _ _ (Nat.pow_pos (by omega)),Nat.div_eq_of_lt h2,Nat.zero_add]
 have h5:val a/2^i=val (a.drop (i/32))/2^(i%32):=by
  rw[←h4,Nat.div_div_eq_div_mul,←Nat.pow_add,Nat.div_add_mod]
 rw[e1,h5,fV hi]
 have hp:2^(i%32)*2^(32-i%32)=4294967296:=by rw[←Nat.pow_add,show i%32+(32-i%32)=32 by omega]
 obtain⟨k,hk⟩:∃k,32-i%32=k+1:=⟨31-i%32,by omega⟩
 rw[←hp,Nat.mul_assoc,Nat.add_mul_div_left _ _ (Nat.pow_pos (by omega)),hk,Nat.pow_succ,Nat.mul_comm (2^k) 2,Nat.mul_assoc,Nat.add_mul_mod_self_left]
theorem K0 {a:List UInt32} {i t:Nat} (hi:i/32<a.length) (hv:val a=2^(i+1)*t):val (a.set (i/32) (a[i/32]|||(1:UInt32)<<<UInt32.ofNat (i%32)))=val a+2^i:=by
 have hs:i%32<32:=Nat.mod_lt _ (by omega)
 have h1:=fe a (i/32) (by omega)
 have h2:=c9 (a.take (i/32))
 rw[List.length_take,Nat.min_eq_left (by omega)] at h2
 have h3:(4294967296:Nat)^(i/32)=2^(32*(i/32)):=by rw[Nat.pow_mul]
 have h4:val (a.drop (i/32))=2^(i%32+1)*t:=by
  have e:val a/2^(32*(i/32))=val (a.drop (i/32)):=by
   rw[h3] at h1 h2
   rw[h1,Nat.add_mul_div_left _ _ (Nat.pow_pos (by omega)),Nat.div_eq_of_lt h2,Nat.zero_add]
  rw[←e,hv,show i+1=32*(i/32)+(i%32+1) by omega,Nat.pow_add,Nat.mul_assoc,Nat.mul_div_cancel_left _ (Nat.pow_pos (by omega))]
 have h5:a[i/32].toNat=2^(i%32+1)*(t%2^(31-i%32)):=by
  have e:=fV hi
  rw[h4] at e
  have e2:a[i/32].toNat=2^(i%32+1)*t%4294967296:=by
   rw[e,Nat.add_mul_mod_self_left,Nat.mod_eq_of_lt (dk _)]
  have hp:2^(i%32+1)*2^(31-i%32)=4294967296:=by rw[←Nat.pow_add,show i%32+1+(31-i%32)=32 by omega]
  rw[e2,←hp,Nat.mul_mod_mul_left]
 have h6:((1:UInt32)<<<UInt32.ofNat (i%32)).toNat=2^(i%32):=by
  rw[Jt _ hs]
  show 1*2^(i%32)%4294967296=_
  have:2^(i%32)≤2^31:=Nj (by omega) (by omega)
  rw[Nat.one_mul,Nat.mod_eq_of_lt (by omega)]
 have h7:(a[i/32]|||(1:UInt32)<<<UInt32.ofNat (i%32)).toNat=a[i/32].toNat+2^(i%32):=by
  rw[Hj,h6,h5,Nat.or_comm,LS _ _ _ (Nat.pow_lt_pow_right (by omega) (by omega)),Nat.add_comm]
 have h8:=fH hi (a[i/32]|||(1:UInt32)<<<UInt32.ofNat (i%32))
 have h9:=fe (a.set (i/32) (a[i/32]|||(1:UInt32)<<<UInt32.ofNat (i%32))) (i/32+1) (by simp;omega)
 rw[h8,List.drop_set_of_lt (by omega),h7] at h9
 have h10:=fe a (i/32+1) (by omega)
 rw[cL hi] at h10
 rw[h9,h10,Nat.mul_add]
 have e:4294967296^(i/32)*2^(i%32)=2^i:=by rw[h3,←Nat.pow_add,Nat.div_add_mod]
 rw[e];omega
theorem Cs {N V i:Nat} (hV:0<V):
 N/2^i=2*(N/2^(i+1))+N/2^i%2∧(V≤2*(N/2^(i+1)%V)+N/2^i%2→N/2^i%V=2*(N/2^(i+1)%V)+N/2^i%2-V∧N/2^i/V=2*(N/2^(i+1)/V)+1)∧
  (2*(N/2^(i+1)%V)+N/2^i%2<V→N/2^i%V=2*(N/2^(i+1)%V)+N/2^i%2∧N/2^i/V=2*(N/2^(i+1)/V)):=by
 have e:N/2^(i+1)=N/2^i/2:=by rw[Nat.pow_succ,Nat.div_div_eq_div_mul]
 rw[e]
 generalize N/2^i=M
 have h1:M=2*(M/2)+M%2:=by omega
 have h2:=Nat.div_add_mod (M/2) V
 have h3:=Nat.mod_lt (M/2) hV
 refine⟨h1,fun h=>?_,fun h=>?_⟩
 ·have key:M=V*(2*(M/2/V)+1)+(2*(M/2%V)+M%2-V):=by
   rw[Nat.mul_add,Nat.mul_left_comm];omega
  have hlt:2*(M/2%V)+M%2-V<V:=by omega
  constructor
  ·conv=>lhs;rw[key]
   rw[Nat.mul_add_mod,Nat.mod_eq_of_lt hlt]
  ·conv=>lhs;rw[key]
   rw[Nat.mul_add_div hV,Nat.div_eq_of_lt hlt,Nat.add_zero]
 ·have key:M=V*(2*(M/2/V))+(2*(M/2%V)+M%2):=by
   rw[Nat.mul_left_comm];omega
  constructor
  ·conv=>lhs;rw[key]
   rw[Nat.mul_add_mod,Nat.mod_eq_of_lt h]
  ·conv=>lhs;rw[key]
   rw[Nat.mul_add_div hV,Nat.div_eq_of_lt h,Nat.add_zero]
theorem Jx {n:Nat} (h:0<n):bl n=bl (n/2)+1:=by
 rcases(show n=1∨2≤n by omega) with rfl|h1
 ·rfl
 ·have:=pA (n:=n) (s:=1) (by omega)
  rw[Nat.pow_one] at this
  omega
end Go.Rl
namespace Go.Rl
open Go.RowKit Go.Proofs
theorem fz:az Tryz.prog 222:=⟨_,Tryz.func222,by kernel_rfl,rfl⟩
theorem sJ:az Tryz.prog 162:=⟨_,Tryz.func162,by kernel_rfl,rfl⟩
theorem vP:az Tryz.prog 296:=⟨_,Tryz.func296,by kernel_rfl,rfl⟩
theorem fY:az Tryz.prog 221:=⟨_,Tryz.func221,by kernel_rfl,rfl⟩
theorem tB:az Tryz.prog 295:=⟨_,Tryz.func295,by kernel_rfl,rfl⟩
theorem vQ:az Tryz.prog 126:=⟨_,Tryz.func126,by kernel_rfl,rfl⟩
theorem xR:az Tryz.prog 223:=⟨_,Tryz.func223,by kernel_rfl,rfl⟩
theorem qO:az Tryz.prog 224:=⟨_,Tryz.func224,by kernel_rfl,rfl⟩
theorem Fy:az Tryz.prog 298:=⟨_,Tryz.func298,by kernel_rfl,rfl⟩
theorem Ct:az Tryz.prog 297:=⟨_,Tryz.func297,by kernel_rfl,rfl⟩
theorem xS {w:World} {l:List UInt32} {v:Value} (hv:bH l v w) (hl:l.length≤8796093022208):
 Calls Tryz.prog 222 #[v] w (cA fun r w'=>aH w w'∧eY w.heap.size (lb (val l)) r w'):=by
 refine enter Tryz.func222 J J J (aj (ae (aa J J (ar (ah (aj (ae (ab J J (bn J J (bR MT hv) (aa J J (ar (ah (aj (aJ (dS (α:=Nat) (fun n=>[(0,v),(3,I (n:Int))]) (fun n w'=>w=w'∧n≤l.length∧val (l.take n)=val l) (fun n=>n) (l.length) ⟨J,J,trivial⟩ ⟨J,Ng _,by rw[List.take_length]⟩ ?_)))))))))))))))
 rintro n _ ⟨rfl,hn,hval⟩
 refine aj (aj (ae (ab J J (ao J J J (bo) (ab J J (lx (fun h8=>?_) (fun h8=>?_)))))))
 ·refine an J (ab J J (an J (ab J J (an J (ao (r:=I ((n-1:Nat):Int)) J J J (by have e:((n-1:Nat):Int)=(n:Int)-1:=(by omega);rw[e];exact bT (by omega) (by omega)) ?_)))))
  refine an J ?_
  obtain⟨a12,p12,q12⟩:=dN MT hv (i:=(n-1:Nat)) (by omega) .i64
  refine aE J J J (p12 _) (an J (ak J J (ai MF J q12) (an J (ao (v:=ep 0) J J J (lM) (aR J J J (ar (ah (ci J (fun h15=>?_) (fun h15=>?_)))))))))
  ·refine aA (ah (aJ (ae (ab J J (ao (r:=I ((n-1:Nat):Int)) J J J (by have e:((n-1:Nat):Int)=(n:Int)-1:=(by omega);rw[e];exact bT (by omega) (by omega)) ?_)))))
   refine aa J J (ar (aW (dC (n-1) ⟨J,J,trivial⟩ ⟨J,by omega,by rw[tA (by omega) hn h15];exact hval⟩ (by omega))))
  ·refine bJ (aV (aV (bP (ah (aj (ae ?_))))))
   obtain⟨v18,w18,hr18,x18,o18,ob18⟩:=lw Tryz.underlying47 (w:=w) w.heap.size [] (by simp) (Ng _)
   refine bN (vs:=[]) J J hr18 (ab J J (ab J J ?_))
   obtain⟨v21,p21,b21⟩:=vD MT (hv.ext x18) (hi:=n) hn .i64
   refine ky J J J J J (p21 _) ?_
   obtain⟨v22,w22,hr22,o22,g22⟩:=Eh Tryz.underlying47 Tryz.underlying46 (ty:=47) o18 b21 (by simp;omega) (x18).size
   have x22:=aH.of_grew (x18) g22 o18.ge
   refine df J J hr22 (aa J J (ar (ah (aD (aF J J ?_)))))
   exact⟨_,J,x22,by
    have e:lb (val l)=l.take n:=by
     first
     |rw[←hval,nC (by omega) hn h15]
     |(have h0:n=0:=by omega
       subst h0
       rw[←hval];rfl)
    rw[e];simpa using o22⟩
 ·refine bf J J J (bf J J J (bf J J J (bf J J J (bf J J J (bf J J J (aG J J J (ar (ah (bU J (bJ (aV (aV ?_))))))))))))
  refine bP (ah (aj (ae ?_)))
  obtain⟨v18,w18,hr18,x18,o18,ob18⟩:=lw Tryz.underlying47 (w:=w) w.heap.size [] (by simp) (Ng _)
  refine bN (vs:=[]) J J hr18 (ab J J (ab J J ?_))
  obtain⟨v21,p21,b21⟩:=vD MT (hv.ext x18) (hi:=n) hn .i64
  refine ky J J J J J (p21 _) ?_
  obtain⟨v22,w22,hr22,o22,g22⟩:=Eh Tryz.underlying47 Tryz.underlying46 (ty:=47) o18 b21 (by simp;omega) (x18).size
  have x22:=aH.of_grew (x18) g22 o18.ge
  refine df J J hr22 (aa J J (ar (ah (aD (aF J J ?_)))))
  exact⟨_,J,x22,by
   have e:lb (val l)=l.take n:=by
    first
    |rw[←hval,nC (by omega) hn h15]
    |(have h0:n=0:=by omega
      subst h0
      rw[←hval];rfl)
   rw[e];simpa using o22⟩
theorem fZ {w:World} {l:List UInt32} {v:Value} (hv:bH l v w) (hl:l.length≤8796093022208):
 Calls Tryz.prog 222 #[v] w (cA fun r w'=>aH w w'∧bH (lb (val l)) r w'):=
 (xS hv hl).mono fun _ _ ⟨r,he,h1,h2⟩=>⟨r,he,h1,h2.wds⟩
theorem sK {w:World} {x:UInt64}:
 Calls Tryz.prog 162 #[fB x] w (cA fun r w'=>aH w w'∧bH (lb x.toNat) r w'):=by
 refine enter Tryz.func162 J J J (aj (ae (aa J J (ar (ah (aj (ae (ab J J (cm J J (c7 MJ MF) (ab J J (ao J J J (ei 32 (by omega)) (cm J J (c7 MJ MF) ?_))))))))))))
 obtain⟨v8,w8,hr8,x8,o8,ob8⟩:=lw Tryz.underlying46 (w:=w) w.heap.size [x.toUInt32,(x>>>UInt64.ofNat 32).toUInt32] (by simp) (Ng _)
 refine bN (vs:=[(0,ep (x.toUInt32)),(1,ep ((x>>>UInt64.ofNat 32).toUInt32))]) J J hr8 (aq fz J J (fZ o8.wds (by simp)) ?_)
 rintro v9 w9 ⟨x9,b9⟩
 refine aa J J (ar (ah (aD (aF J J ?_))))
 exact⟨_,J,(x8.trans x9),by
  have e:val [x.toUInt32,(x>>>UInt64.ofNat 32).toUInt32]=x.toNat:=by
   have h1:=lc x
   have h2:((x>>>UInt64.ofNat 32).toUInt32).toNat=x.toNat/4294967296:=by
    have:=vG x
    rw[lc,xL]
    omega
   simp only[val,h1,h2];omega
  rw[e] at b9;exact b9⟩
theorem f0 {w:World} {l:List UInt32} {v:Value} {i:Nat} (hv:bH l v w):
 Calls Tryz.prog 221 #[v,I (i:Int)] w (cA fun r w'=>w=w'∧r=ep (l.getD i 0)):=by
 refine enter Tryz.func221 J J J (aj (ae (aa J J (ar (ah (aj (aj (ae (ab J J (ab J J (bn J J (bR MD hv) (ao J J J (aX) (ar (ah (ci J (fun h8=>?_) (fun h8=>?_))))))))))))))))
 ·refine aj (ae (ab J J (ab J J ?_)))
  obtain⟨a11,p11,q11⟩:=dN MD hv (i:=i) (by omega) .i64
  refine aE J J J (p11 _) (ak J J (ai MF J q11) (aa J J (ar (ah (aD (a0 (aF J J ?_)))))))
  exact⟨_,J,J,by simp[List.getD,List.getElem?_eq_getElem (show i<l.length by omega)]⟩
 ·refine aA (ah (aj (ae (aa J J (ar (ah (aD (aF J J ?_))))))))
  exact⟨_,J,J,by simp[List.getD,List.getElem?_eq_none (show l.length≤i by omega)];rfl⟩
theorem tC {w:World} {l m:List UInt32} {v u:Value} (hv:bH l v w) (hu:bH m u w):
 Calls Tryz.prog 295 #[v,u] w (cA fun r w'=>w=w'∧r=I (pn (val l) (val m))):=by
 refine enter Tryz.func295 J J J ?_
 have hll:=hv.len
 have hml:=hu.len
 obtain⟨n,hn⟩:∃n,n=max l.length m.length:=⟨_,rfl⟩
 have hln:l.length≤n:=by omega
 have hmn:m.length≤n:=by omega
 refine aj (ae (aa J J (ar (ah (aj (aj (ae (ab J J (bn J J (bR MD hv) (ab J J (bn J J (bR MD hu) (LZ (r:=I ((n:Nat):Int)) (vs:=[I (l.length:Int),I (m.length:Int)]) J J (by rw[hn];exact Js) (ao J J J (bT (by omega) (by omega)) (aa J J (ar (ah (aJ (dS (α:=Nat) (fun k=>[(0,v),(1,u),(5,I ((k:Int)-1))]) (fun k w'=>w=w'∧k≤n∧(zg l n).drop k=(zg m n).drop k) (fun k=>k) (n) ⟨J,J,J,trivial⟩ ⟨J,Ng _,by rw[List.drop_of_length_le (by rw[qN hln];exact Nat.le_refl _),List.drop_of_length_le (by rw[qN hmn];exact Nat.le_refl _)]⟩ ?_))))))))))))))))))
 rintro k _ ⟨rfl,hk,hd⟩
 refine aj (aj (ae (ab J J (ao J J J (cz) (ar (ah (ci J (fun h13=>?_) (fun h13=>?_))))))))
 ·obtain⟨j,rfl⟩:∃j,k=j+1:=⟨k-1,by omega⟩
  have e:((j+1:Nat):Int)-1=(j:Int):=by omega
  rw[e]
  refine aA (ah (aj (aJ (aj (aj (ae (ab J J (ab J J (aq fY J J (f0 hv) ?_)))))))))
  rintro v18 _ ⟨rfl,rfl⟩
  refine ab J J (ab J J (aq fY J J (f0 hu) ?_))
  rintro v21 _ ⟨rfl,rfl⟩
  refine ao J J J (xE) (ar (ah (ci J (fun h22=>?_) (fun h22=>?_))))
  ·refine aj (ae (aa J J (ar (ah (aD (a0 (bK (a0 (a0 (bK (a0 (aF J J ?_))))))))))))
   exact⟨_,J,J,congrArg I (ze (Ht hln hmn (by omega) hd (AO.1 h22))).symm⟩
  ·refine aA (ah (aj (ae (ab J J (ab J J (aq fY J J (f0 hv) ?_))))))
   rintro v25 _ ⟨rfl,rfl⟩
   refine ab J J (ab J J (aq fY J J (f0 hu) ?_))
   rintro v28 _ ⟨rfl,rfl⟩
   refine ao J J J (xF) (ar (ah (ci J (fun h29=>?_) (fun h29=>?_))))
   ·refine aj (ae (aa J J (ar (ah (aD (bK (a0 (a0 (bK (a0 (aF J J ?_)))))))))))
    exact⟨_,J,J,congrArg I (zf (Ht hmn hln (by omega) hd.symm (AO.1 h29))).symm⟩
   ·refine aA (aW (ah (ae (ab J J (ao J J J (bT (by omega) (by omega)) (aa J J (ar ?_)))))))
    refine dC j ⟨J,J,J,trivial⟩ ⟨J,by omega,Hu hln hmn (by omega) hd (by
     have a:=mt AO.2 h22
     have b:=mt (AO (a:=m.getD j 0) (b:=l.getD j 0)).2 h29
     omega)⟩ (by omega)
 ·refine bJ (aV (aV (bP (ah (aj (ae (aa J J (ar (ah (aD (aF J J ?_)))))))))))
  exact⟨_,J,J,by
   obtain rfl:k=0:=by omega
   rw[List.drop_zero,List.drop_zero] at hd
   rw[Jw hd,Ek];rfl⟩
theorem vR {w:World} {l m:List UInt32} {v u:Value} (hv:bH l v w) (hu:bH m u w):
 Calls Tryz.prog 126 #[v,u] w (cA fun r w'=>aH w w'∧r=B (decide (l=m))):=by
 refine enter Tryz.func126 J J J ?_
 have hll:=hv.len
 refine aj (ae (aa J J (ar (ah (aj (aj (ae (ab J J (bn J J (bR MD hv) (ab J J (bn J J (bR MD hu) (ao J J J (fg) (ar (ah (ci J (fun h10=>?_) (fun h10=>?_))))))))))))))))
 ·refine aj (ae (aa J J (ar (ah (aD (a0 (aF J J ?_)))))))
  exact⟨_,J,aH.refl _,congrArg B (decide_eq_false fun h=>by subst h;exact h10 J).symm⟩
 ·have hlen:l.length=m.length:=by omega
  refine aA (ah (aj (aj (ae (aa J J (ar (ah (aJ (dS (α:=Nat) (fun i=>[(0,v),(1,u),(5,I (i:Int))]) (fun i w'=>aH w w'∧i≤l.length∧l.take i=m.take i) (fun i=>l.length-i) (0) ⟨J,J,J,trivial⟩ ⟨aH.refl _,by omega,J⟩ ?_)))))))))
  rintro i w4 ⟨e4,hi,ht⟩
  refine aj (aj (ae (ab J J (ab J J (bn J J (bR MD (hv.ext e4)) (ao J J J (aX) (ar (ah (ci J (fun h14=>?_) (fun h14=>?_))))))))))
  ·refine aA (ah (aj (aJ (aj (bj 8 [0,1,5,20,24] (by kernel_rfl) (by kernel_rfl) ?_)))))
   refine ax J J (ax J J ?_)
   obtain⟨a19,p19,q19⟩:=dN MD (hv.ext e4) (i:=i) (by omega) .i64
   refine aK J J J (fun w _=>p19 w) (ap J J (fun w hw=>ai MF J (hw.cell_some q19)) (ax J J (ax J J ?_)))
   obtain⟨a23,p23,q23⟩:=dN MD (hu.ext e4) (i:=i) (by omega) .i64
   refine aK J J J (fun w _=>p23 w) (ap J J (fun w hw=>ai MF J (hw.cell_some q23)) (bA ?_))
   rintro wg6 xg6 _ hq0
   obtain rfl:=Eq.symm hq0
   rintro _ hq1
   obtain rfl:=Eq.symm hq1
   rintro _ rfl _ rfl _ rfl
   refine ao J J J (tj) (ar (ah (ci J (fun h25=>?_) (fun h25=>?_))))
   ·have hne:l≠m:=fun h=>by subst h;exact h25 rfl
    refine aj (ae (aa J J (ar (ah (aD (bK (a0 (a0 (bK (a0 (aF J J ?_)))))))))))
    exact⟨_,J,(e4.trans xg6),congrArg B (decide_eq_false hne).symm⟩
   ·refine aA (aW (ah (ae (ab J J (ao (r:=I ((i+1:Nat):Int)) J J J (by have e:((i+1:Nat):Int)=(i:Int)+1:=(by omega);rw[e];exact aY (by omega) (by omega)) ?_)))))
    refine aa J J (ar (dC (i+1) ⟨J,J,J,trivial⟩ ⟨(e4.trans xg6),by omega,by rw[List.take_succ_eq_append_getElem (show i<l.length by omega),List.take_succ_eq_append_getElem (show i<m.length by omega),ht,show l[i]=m[i] from Classical.byContradiction fun h=>h25 h]⟩ (by omega)))
  ·refine bJ (aV (aV (bP (ah (aj (ae (aa J J (ar (ah (aD (aF J J ?_)))))))))))
   exact⟨_,J,e4,congrArg B (decide_eq_true (by
    rw[List.take_of_length_le (by omega),List.take_of_length_le (by omega)] at ht
    exact ht)).symm⟩
theorem vS {w:World} {l:List UInt32} {v:Value} (hv:bH l v w) (hl:l.length≤8796093022208):
 Calls Tryz.prog 296 #[v] w (cA fun r w'=>aH w w'∧((18446744073709551616≤val l∧r=.tuple #[fB 0,B false])∨∃x:UInt64,x.toNat=val l∧r=.tuple #[fB x,B true])):=by
 refine enter Tryz.func296 J J J (aj (ae (aa J J (aa J J (ar (ah (aj (ae (ab J J (aq fz J J (fZ hv hl) ?_))))))))))
 rintro v5 w5 ⟨x5,b5⟩
 refine aa J J (ar (ah (aj (aj ?_))))
 obtain⟨t,ht⟩:∃t,t=lb (val l):=⟨_,rfl⟩
 have hval:val t=val l:=by rw[ht,bk]
 have h64:t.length≤2∨18446744073709551616≤val l:=by
  rcases Nat.lt_or_ge (val l) 18446744073709551616 with h|h
  ·exact .inl (by rw[ht];exact fM (n:=val l) (k:=2) h)
  ·exact .inr h
 rw[←ht] at b5
 refine ae (ab J J (bn J J (bR MD b5) (ar (ah (aJ (aj (ae (ao J J J (aO) (aa J J (ar (ah (ci J (fun h8=>?_) (fun h8=>?_)))))))))))))
 ·refine aj (ae (aa J J (aa J J (ar (ah (aD (bK (a0 (dW J J J ?_)))))))))
  exact⟨_,J,x5,.inr ⟨0,by
   have:t=[]:=Nm (by omega)
   rw[←hval,this];rfl,rfl⟩⟩
 ·refine aj (ae (ao J J J (aO) (aa J J (ar (ah ?_)))))
  refine ci J (fun h10=>?_) (fun h10=>?_)
  ·refine aj (ae (ab J J ?_))
   obtain⟨a13,p13,q13⟩:=dN MD b5 (i:=0) (by omega) .i64
   refine aE J J J (p13 _) (ak J J (ai MF J q13) (cm J J (cr MF MJ) (aa J J (aa J J (ar (ah (aD (bK (a0 (dW J J J ?_))))))))))
   exact⟨_,J,x5,.inr ⟨_,by
    obtain⟨x,rfl⟩:=List.length_eq_one_iff.1 (show t.length=1 by omega)
    rw[fX,←hval];simp[val],rfl⟩⟩
  ·refine aj (ae (ao J J J (aO) (aa J J (ar (ah ?_)))))
   refine ci J (fun h16=>?_) (fun h16=>?_)
   ·refine aj (bj 11 [2] (by kernel_rfl) (by kernel_rfl) ?_)
    refine ax J J ?_
    obtain⟨a19,p19,q19⟩:=dN MD b5 (i:=0) (by omega) .i64
    refine aK J J J (fun w _=>p19 w) (ap J J (fun w hw=>ai MF J (hw.cell_some q19)) (kZ J J (fun w _=>cr MF MJ) (ax J J ?_)))
    obtain⟨a23,p23,q23⟩:=dN MD b5 (i:=1) (by omega) .i64
    refine aK J J J (fun w _=>p23 w) (ap J J (fun w hw=>ai MF J (hw.cell_some q23)) (kZ J J (fun w _=>cr MF MJ) (bC (v:=fB 32) J J J (fun w _=>jq 32 (by omega)) (bC J J J (fun w _=>mi) (gA J J (bA ?_))))))
    rintro wg8 xg8 _ rfl
    refine aa J J (ar (ah (aD (bK (a0 (dW J J J ?_))))))
    exact⟨_,J,(x5.trans xg8),.inr ⟨_,by
     have e1:=fV (l:=t) (i:=0) (by omega)
     have e2:=fV (l:=t) (i:=1) (by omega)
     simp only[Nat.zero_add,Nat.reduceAdd,List.drop_zero] at e1 e2
     rw[List.drop_of_length_le (show t.length≤2 by omega)] at e2
     rw[Kr (fX _) (dk _),←hval,e1,e2]
     simp[val],rfl⟩⟩
   ·refine aA (aW (ah (aj (ae (aa J J (aa J J (ar (ah (aD (dW J J J ?_))))))))))
    exact⟨_,J,x5,.inl ⟨by omega,J⟩⟩
theorem xT {w:World} {l m:List UInt32} {v u:Value} (hv:bH l v w) (hu:bH m u w) (hl:l.length≤1099511627776) (hm:m.length≤1099511627776):
 Calls Tryz.prog 223 #[v,u] w (cA fun r w'=>aH w w'∧bH (lb (val l+val m)) r w'):=by
 refine enter Tryz.func223 J J J (aj (ae (aa J J (ar (ah (aj (ae (aa J J (ar (ah (aj (ae (aa J J (ar (ah (aj (aj (ae (aa J J (ar (ah (aJ (lE (fun(i:Nat) (vo:Value) (O:List UInt32) (c:UInt64)=>[(0,v),(1,u),(5,vo),(6,fB c),(7,I (i:Int))]) (fun(i:Nat) (vo:Value) (O:List UInt32) (c:UInt64) w'=>aH w w'∧eY w.heap.size O vo w'∧O.length=i∧i≤max l.length m.length∧c.toNat≤1∧val O+4294967296^i*c.toNat=val (l.take i)+val (m.take i)) (fun(i:Nat) (vo:Value) (O:List UInt32) (c:UInt64)=>max l.length m.length-i) (0) (.slice none 0 0) ([]) (0) ⟨J,J,J,J,J,trivial⟩ ⟨aH.refl _,eY.nil _ _,J,by simp,by simp,by simp[val]⟩ ?_)))))))))))))))))))))))
 rintro i vo O c w4 ⟨e4,oO,hO,hi,hc,hinv⟩
 refine aj (aj (ae (ab J J (ab J J (bn J J (bR MD (hv.ext e4)) (ao J J J (aX) (ab J J (lx (fun h12=>?_) (fun h12=>?_)))))))))
 ·refine bf J J J (bf J J J (bf J J J (bf J J J (aR J J J (ar (ah (cg J (aA (ah (aj (aJ (aj ?_))))))))))))
  have hlt:i<max l.length m.length:=by
   first
   |(have:=h12;omega)
   |(have:=h17;omega)
  have st:=xP (a:=l) (b:=m) hO hc hinv
  refine ae (ab J J (ab J J (ab J J (aq fY J J (f0 (hv.ext e4)) ?_))))
  rintro v23 _ ⟨rfl,rfl⟩
  refine cm J J (cr MF MJ) (ab J J (ab J J (aq fY J J (f0 (hu.ext e4)) ?_)))
  rintro v27 _ ⟨rfl,rfl⟩
  refine cm J J (cr MF MJ) (ao J J J (eq) (ao J J J (eq) (aa J J (ar (ah (aj (ae (ab J J (ab J J (cm J J (c7 MJ MF) ?_))))))))))
  obtain⟨v34,w34,hr34,x34,o34,ob34⟩:=lw Tryz.underlying46 (w:=w4) w4.heap.size [((((c)+(((((l.getD i 0)).toUInt64)+(((m.getD i 0)).toUInt64))))).toUInt32)] (by simp) (Ng _)
  refine bN (vs:=[(0,ep (((((c)+(((((l.getD i 0)).toUInt64)+(((m.getD i 0)).toUInt64))))).toUInt32)))]) J J hr34 ?_
  obtain⟨v35,w35,hr35,o35,g35⟩:=ni Tryz.underlying46 (ty:=46) (oO.ext x34) o34.wds (by simp;omega) ((e4.trans x34)).size
  have x35:=aH.of_grew ((e4.trans x34)) g35 (oO.ext x34).ge
  refine df J J hr35 (aa J J (ar (ah (ae (ab J J (ao J J J (ei 32 (by omega)) (aa J J (ar (aW (ah (ae (ab J J (ao (r:=I ((i+1:Nat):Int)) J J J (by have e:((i+1:Nat):Int)=(i:Int)+1:=(by omega);rw[e];exact aY (by omega) (by omega)) (aa J J (ar (fW (i+1) (_) (_) (_) ⟨J,J,J,J,J,trivial⟩ ⟨x35,o35,by simp[hO],by omega,st.2,st.1⟩ (by omega)))))))))))))))))
 ·refine an J (ab J J (an J (ab J J (an J (bn J J (bR MD (hu.ext e4)) (an J (ao J J J (aX) ?_)))))))
  refine aG J J J (ar (ah (ci J (fun h17=>?_) (fun h17=>?_))))
  ·refine aA (ah (aj (aJ (aj ?_))))
   have hlt:i<max l.length m.length:=by
    first
    |(have:=h12;omega)
    |(have:=h17;omega)
   have st:=xP (a:=l) (b:=m) hO hc hinv
   refine ae (ab J J (ab J J (ab J J (aq fY J J (f0 (hv.ext e4)) ?_))))
   rintro v23 _ ⟨rfl,rfl⟩
   refine cm J J (cr MF MJ) (ab J J (ab J J (aq fY J J (f0 (hu.ext e4)) ?_)))
   rintro v27 _ ⟨rfl,rfl⟩
   refine cm J J (cr MF MJ) (ao J J J (eq) (ao J J J (eq) (aa J J (ar (ah (aj (ae (ab J J (ab J J (cm J J (c7 MJ MF) ?_))))))))))
   obtain⟨v34,w34,hr34,x34,o34,ob34⟩:=lw Tryz.underlying46 (w:=w4) w4.heap.size [((((c)+(((((l.getD i 0)).toUInt64)+(((m.getD i 0)).toUInt64))))).toUInt32)] (by simp) (Ng _)
   refine bN (vs:=[(0,ep (((((c)+(((((l.getD i 0)).toUInt64)+(((m.getD i 0)).toUInt64))))).toUInt32)))]) J J hr34 ?_
   obtain⟨v35,w35,hr35,o35,g35⟩:=ni Tryz.underlying46 (ty:=46) (oO.ext x34) o34.wds (by simp;omega) ((e4.trans x34)).size
   have x35:=aH.of_grew ((e4.trans x34)) g35 (oO.ext x34).ge
   refine df J J hr35 (aa J J (ar (ah (ae (ab J J (ao J J J (ei 32 (by omega)) (aa J J (ar (aW (ah (ae (ab J J (ao (r:=I ((i+1:Nat):Int)) J J J (by have e:((i+1:Nat):Int)=(i:Int)+1:=(by omega);rw[e];exact aY (by omega) (by omega)) (aa J J (ar (fW (i+1) (_) (_) (_) ⟨J,J,J,J,J,trivial⟩ ⟨x35,o35,by simp[hO],by omega,st.2,st.1⟩ (by omega)))))))))))))))))
  ·refine bJ (aV (aV (bP (ah (aj ?_)))))
   have hge:max l.length m.length≤i:=by
    first
    |(have:=h17;omega)
   rw[fI _ (by omega),fI _ (by omega)] at hinv
   refine ae (ab J J (ab J J (cm J J (c7 MJ MF) ?_)))
   obtain⟨v41,w41,hr41,x41,o41,ob41⟩:=lw Tryz.underlying46 (w:=w4) w4.heap.size [((c).toUInt32)] (by simp) (Ng _)
   refine bN (vs:=[(0,ep (((c).toUInt32)))]) J J hr41 ?_
   obtain⟨v42,w42,hr42,o42,g42⟩:=ni Tryz.underlying46 (ty:=46) (oO.ext x41) o41.wds (by simp;omega) ((e4.trans x41)).size
   have x42:=aH.of_grew ((e4.trans x41)) g42 (oO.ext x41).ge
   refine df J J hr42 (aq fz J J (fZ o42.wds (by simp;omega)) ?_)
   rintro v43 w43 ⟨x43,b43⟩
   refine aa J J (ar (ah (aD (aF J J ?_))))
   exact⟨_,J,(x42.trans x43),by rw[←hinv,←Hv hO hc];exact b43⟩
theorem xU {w:World} {l m:List UInt32} {v u:Value} (hv:bH l v w) (hu:bH m u w) (hl:l.length≤1099511627776) (hle:val m≤val l):
 Calls Tryz.prog 224 #[v,u] w (cA fun r w'=>aH w w'∧∃d,r=.tuple #[d,I 0]∧eY w.heap.size (lb (val l-val m)) d w'):=by
 refine enter Tryz.func224 J J J (aj (ae (aa J J (aa J J (ar (ah (aj (aj (ae (ab J J (ab J J (aq tB J J (tC hv hu) ?_))))))))))))
 rintro v13 _ ⟨rfl,rfl⟩
 refine ao J J J (be (fun h=>by have:=jI.1 h;omega) aX) (ar (ah (bU J (aA (ah (aj (ae (aa J J (ar (ah (aj (ae (aa J J (ar (ah (aj (aj (ae (aa J J (ar (ah (aJ (lE (fun(i:Nat) (vo:Value) (O:List UInt32) (d:UInt64)=>[(0,v),(1,u),(6,vo),(7,fB d),(8,I (i:Int))]) (fun(i:Nat) (vo:Value) (O:List UInt32) (d:UInt64) w'=>aH w w'∧eY w.heap.size O vo w'∧O.length=i∧i≤l.length∧d.toNat≤1∧val (l.take i)+4294967296^i*d.toNat=val O+val (m.take i)) (fun(i:Nat) (vo:Value) (O:List UInt32) (d:UInt64)=>l.length-i) (0) (.slice none 0 0) ([]) (0) ⟨J,J,J,J,J,trivial⟩ ⟨aH.refl _,eY.nil _ _,J,by simp,by simp,by simp[val]⟩ ?_)))))))))))))))))))))))
 rintro i vo O d w6 ⟨e6,oO,hO,hi,hd,hinv⟩
 refine aj (aj (ae (ab J J (ab J J (bn J J (bR MD (hv.ext e6)) (ao J J J (aX) (ar (ah (ci J (fun h18=>?_) (fun h18=>?_))))))))))
 ·refine aA (ah (aj (aJ (aj ?_))))
  have hlt:i<l.length:=by omega
  have hxa:=fX (l.getD i 0)
  have hyb:((m.getD i 0).toUInt64+d).toNat=(m.getD i 0).toNat+d.toNat:=by
   have:=dk (m.getD i 0)
   rw[mj,fX];omega
  refine ae (ab J J (ab J J (aq fY J J (f0 (hv.ext e6)) ?_)))
  rintro v23 _ ⟨rfl,rfl⟩
  refine cm J J (cr MF MJ) (ab J J (ab J J (aq fY J J (f0 (hu.ext e6)) ?_)))
  rintro v27 _ ⟨rfl,rfl⟩
  refine cm J J (cr MF MJ) (ab J J (ao J J J (eq) (aa J J (aa J J (ar (ah (aj (ae (aa J J (ar (ah (aj (aj (ae (ab J J (ab J J (ao J J J (Fj) (ar (ah (ci J (fun h33=>?_) (fun h33=>?_)))))))))))))))))))))
  ·have hlt2:(l.getD i 0).toNat<(m.getD i 0).toNat+d.toNat:=by
    have:=UInt64.lt_iff_toNat_lt.1 h33
    rwa [hxa,hyb] at this
   have st:=xQ (a:=l) (b:=m) hO hd hinv (.inl ⟨rfl,hlt2,rfl⟩)
   refine aj (ae (ab J J (ao (v:=fB 4294967296) J J J (eq) (aa J J (ar (ah (ae (aa J J (ar (ah (ae (ab J J (ab J J (ab J J (ao J J J (gC) (cm J J (c7 MJ MF) ?_))))))))))))))))
   obtain⟨v41,w41,hr41,x41,o41,ob41⟩:=lw Tryz.underlying46 (w:=w6) w6.heap.size [((((((((l.getD i 0)).toUInt64)+(4294967296)))-(((((m.getD i 0)).toUInt64)+(d))))).toUInt32)] (by simp) (Ng _)
   refine bN (vs:=[(0,ep (((((((((l.getD i 0)).toUInt64)+(4294967296)))-(((((m.getD i 0)).toUInt64)+(d))))).toUInt32)))]) J J hr41 ?_
   obtain⟨v42,w42,hr42,o42,g42⟩:=ni Tryz.underlying46 (ty:=46) (oO.ext x41) o41.wds (by simp;omega) ((e6.trans x41)).size
   have x42:=aH.of_grew ((e6.trans x41)) g42 (oO.ext x41).ge
   refine df J J hr42 (aa J J (ar (aW (ah (ae (ab J J (ao (r:=I ((i+1:Nat):Int)) J J J (by have e:((i+1:Nat):Int)=(i:Int)+1:=(by omega);rw[e];exact aY (by omega) (by omega)) (aa J J (ar (fW (i+1) (_) (_) (_) ⟨J,J,J,J,J,trivial⟩ ⟨x42,o42,by simp[hO],by omega,st.2,st.1⟩ (by omega)))))))))))
  ·have hge2:(m.getD i 0).toNat+d.toNat≤(l.getD i 0).toNat:=by
    have:=mt UInt64.lt_iff_toNat_lt.2 h33
    rw[hxa,hyb] at this
    omega
   have st:=xQ (a:=l) (b:=m) hO hd hinv (.inr ⟨rfl,hge2,rfl⟩)
   refine aA (ah (ae (ab J J (ab J J (ab J J (ao J J J (gC) (cm J J (c7 MJ MF) ?_)))))))
   obtain⟨v41,w41,hr41,x41,o41,ob41⟩:=lw Tryz.underlying46 (w:=w6) w6.heap.size [((((((l.getD i 0)).toUInt64)-(((((m.getD i 0)).toUInt64)+(d))))).toUInt32)] (by simp) (Ng _)
   refine bN (vs:=[(0,ep (((((((l.getD i 0)).toUInt64)-(((((m.getD i 0)).toUInt64)+(d))))).toUInt32)))]) J J hr41 ?_
   obtain⟨v42,w42,hr42,o42,g42⟩:=ni Tryz.underlying46 (ty:=46) (oO.ext x41) o41.wds (by simp;omega) ((e6.trans x41)).size
   have x42:=aH.of_grew ((e6.trans x41)) g42 (oO.ext x41).ge
   refine df J J hr42 (aa J J (ar (aW (ah (ae (ab J J (ao (r:=I ((i+1:Nat):Int)) J J J (by have e:((i+1:Nat):Int)=(i:Int)+1:=(by omega);rw[e];exact aY (by omega) (by omega)) (aa J J (ar (fW (i+1) (_) (_) (_) ⟨J,J,J,J,J,trivial⟩ ⟨x42,o42,by simp[hO],by omega,st.2,st.1⟩ (by omega)))))))))))
 ·refine bJ (aV (aV (bP (ah (aj ?_)))))
  have hil:i=l.length:=by omega
  have hOl:=c9 O
  rw[hO,hil] at hOl
  have hml:val (m.take i)=val m∧d.toNat=0:=by
   have h1:=fe m (min i m.length) (by omega)
   have h2:m.take (min i m.length)=m.take i:=by
    rcases Nat.le_total i m.length with h|h
    ·rw[Nat.min_eq_left h]
    ·rw[Nat.min_eq_right h,List.take_of_length_le (Nat.le_refl _),List.take_of_length_le h]
   rw[h2] at h1
   have hll:=c9 l
   rw[hil,List.take_length] at hinv
   have hz:val (m.drop (min i m.length))=0:=by
    rcases Nat.le_total i m.length with h|h
    ·rw[Nat.min_eq_left h] at h1⊢
     rcases Np (val (m.drop i)) with h0|h0
     ·exact h0
     ·have:4294967296^i*1≤4294967296^i*val (m.drop i):=Nr _ h0
      rw[hil] at this h1
      omega
    ·rw[Nat.min_eq_right h,List.drop_of_length_le (Nat.le_refl _)];rfl
   rw[hz,Nat.mul_zero,Nat.add_zero] at h1
   refine⟨h1.symm,?_⟩
   rcases(show d.toNat=0∨d.toNat=1 by omega) with h|h
   ·exact h
   ·rw[hil] at h1
    rw[h,Nat.mul_one,←h1] at hinv
    omega
  have hres:val l-val m=val O:=by
   rw[hml.1,hml.2,hil,List.take_length] at hinv
   omega
  refine ae (ab J J (aq fz J J (xS oO.wds (by omega)) ?_))
  rintro v44 w44 ⟨x44,b44⟩
  refine aa J J (aa J J (ar (ah (aD (dW J J J ?_)))))
  exact⟨_,J,(e6.trans x44),_,J,by rw[hres];exact b44.low e6.size⟩
theorem Fz {w:World} {l:List UInt32} {v:Value} {k:Nat} (hv:bH l v w) (hl:l.length≤1099511627776) (hk:k≤1099511627776):
 Calls Tryz.prog 298 #[v,I (k:Int)] w (cA fun r w'=>aH w w'∧bH (lb (val l*2^k)) r w'):=by
 refine enter Tryz.func298 J J J (aj (ae (aa J J (ar (ah (aj (ae (ab J J (ao (r:=I ((k/32:Nat):Int)) J J J (by have e:((k/32:Nat):Int)=(k:Int)/32:=(by omega);rw[e];exact qE (by omega) (by omega) (by omega)) ?_)))))))))
 obtain⟨v10,w10,hr10,x10,o10,ob10⟩:=py MT (w:=w) w.heap.size (n:=k/32) (by omega) (Ng _)
 refine fL J J J hr10 (aa J J (ar (ah (aj (ae (aa J J (ar (ah (aj (aj (ae (aa J J (ar (ah (aJ (lE (fun(i:Nat) (vo:Value) (O:List UInt32) (c:UInt64)=>[(0,v),(1,I (k:Int)),(5,vo),(6,fB c),(7,I (i:Int))]) (fun(i:Nat) (vo:Value) (O:List UInt32) (c:UInt64) w'=>aH w w'∧eY w.heap.size O vo w'∧O.length=k/32+i∧i≤l.length∧c.toNat<2^(k%32)∧val O+4294967296^(k/32+i)*c.toNat=val (l.take i)*(4294967296^(k/32)*2^(k%32))) (fun(i:Nat) (vo:Value) (O:List UInt32) (c:UInt64)=>l.length-i) (0) (v10) (List.replicate (k/32) 0) (0) ⟨J,J,J,J,J,trivial⟩ ⟨x10,o10,by simp,by simp,by simp;exact Nat.pow_pos (by omega),by simp[val,lO]⟩ ?_))))))))))))))))
 rintro i vo O c w4 ⟨e4,oO,hO,hi,hc,hinv⟩
 refine aj (aj (ae (ab J J (ab J J (bn J J (bR MD (hv.ext e4)) (ao J J J (aX) (ar (ah (ci J (fun h14=>?_) (fun h14=>?_))))))))))
 ·refine aA (ah (aj (aJ (aj ?_))))
  have hlt:i<l.length:=by omega
  have st:=Fx (Nat.mod_lt k (show 0<32 by omega)) hlt hO hc hinv
  refine ae (ab J J (ab J J (ab J J ?_)))
  obtain⟨a20,p20,q20⟩:=dN MD (hv.ext e4) (i:=i) (by omega) .i64
  refine aE J J J (p20 _) (ak J J (ai MF J q20) (cm J J (cr MF MJ) (ab J J (ao (r:=I ((k%32:Nat):Int)) J J J (by have e:((k%32:Nat):Int)=(k:Int)%32:=(by omega);rw[e];exact oc (by omega) (by omega)) (ao J J J (jq ((k%32:Nat)) (by omega)) (ao J J J (mi) (aa J J (ar (ah (aj (ae (ab J J (ab J J (cm J J (c7 MJ MF) ?_))))))))))))))
  obtain⟨v30,w30,hr30,x30,o30,ob30⟩:=lw Tryz.underlying46 (w:=w4) w4.heap.size [((((c)|||(((((l[i])).toUInt64)<<<UInt64.ofNat ((k%32:Nat)))))).toUInt32)] (by simp) (Ng _)
  refine bN (vs:=[(0,ep (((((c)|||(((((l[i])).toUInt64)<<<UInt64.ofNat ((k%32:Nat)))))).toUInt32)))]) J J hr30 ?_
  obtain⟨v31,w31,hr31,o31,g31⟩:=ni Tryz.underlying46 (ty:=46) (oO.ext x30) o30.wds (by simp;omega) ((e4.trans x30)).size
  have x31:=aH.of_grew ((e4.trans x30)) g31 (oO.ext x30).ge
  refine df J J hr31 (aa J J (ar (ah (ae (ab J J (ao J J J (ei 32 (by omega)) (aa J J (ar (aW (ah (ae (ab J J (ao (r:=I ((i+1:Nat):Int)) J J J (by have e:((i+1:Nat):Int)=(i:Int)+1:=(by omega);rw[e];exact aY (by omega) (by omega)) (aa J J (ar (fW (i+1) (_) (_) (_) ⟨J,J,J,J,J,trivial⟩ ⟨x31,o31,by simp[hO];omega,by omega,st.2,st.1⟩ (by omega)))))))))))))))))
 ·refine bJ (aV (aV (bP (ah (aj ?_)))))
  rw[fI _ (by omega)] at hinv
  have e32:4294967296^(k/32)*2^(k%32)=2^k:=by
   have h3:(4294967296:Nat)^(k/32)=2^(32*(k/32)):=by rw[Nat.pow_mul]
   rw[h3,←Nat.pow_add,Nat.div_add_mod]
  have hc1:c.toNat<4294967296:=Nk hc (Nj (show 0<2 by omega) (show k%32≤32 by omega))
  have hend:val (O++[c.toUInt32])=val l*2^k:=by
   rw[fw,oe,hO,lc,Nat.mod_eq_of_lt hc1,hinv,e32]
  refine ae (ab J J (ab J J (cm J J (c7 MJ MF) ?_)))
  obtain⟨v37,w37,hr37,x37,o37,ob37⟩:=lw Tryz.underlying46 (w:=w4) w4.heap.size [((c).toUInt32)] (by simp) (Ng _)
  refine bN (vs:=[(0,ep (((c).toUInt32)))]) J J hr37 ?_
  obtain⟨v38,w38,hr38,o38,g38⟩:=ni Tryz.underlying46 (ty:=46) (oO.ext x37) o37.wds (by simp;omega) ((e4.trans x37)).size
  have x38:=aH.of_grew ((e4.trans x37)) g38 (oO.ext x37).ge
  refine df J J hr38 (aq fz J J (fZ o38.wds (by simp;omega)) ?_)
  rintro v39 w39 ⟨x39,b39⟩
  refine aa J J (ar (ah (aD (aF J J ?_))))
  exact⟨_,J,(x38.trans x39),by rw[←hend];exact b39⟩
theorem Cu {w:World} {l:List UInt32} {v:Value} (hv:bH l v w) (hl:l.length≤1099511627776):
 Calls Tryz.prog 297 #[v] w (cA fun r w'=>aH w w'∧r=I ((bl (val l):Nat):Int)):=by
 refine enter Tryz.func297 J J J ?_
 have hll:=fM (c9 l)
 refine aj (ae (aa J J (ar (ah (aj (ae (ab J J (aq fz J J (fZ hv (by omega)) ?_))))))))
 rintro v6 w6 ⟨x6,b6⟩
 refine aa J J (ar (ah (aj (aj (ae (ab J J (bn (r:=I ((lb (val l)).length:Int)) J J (bR MD b6) (ao J J J (aO) (ar (ah (ci J (fun h9=>?_) (fun h9=>?_))))))))))))
 ·refine aj (ae (aa J J (ar (ah (aD (a0 (aF J J ?_)))))))
  exact⟨_,J,x6,by
   have:val l=0:=gl.1 (by omega)
   rw[this];rfl⟩
 ·refine aA (ah (aj (ae (ab J J (bn (r:=I ((lb (val l)).length:Int)) J J (bR MD b6) (ao (r:=I (((lb (val l)).length-1:Nat):Int)) J J J (by have e:(((lb (val l)).length-1:Nat):Int)=((lb (val l)).length:Int)-1:=(by omega);rw[e];exact bT (by omega) (by omega)) ?_))))))
  refine ao (r:=I ((32*((lb (val l)).length-1:Nat):Nat):Int)) J J J (by have e:((32*((lb (val l)).length-1:Nat):Nat):Int)=32*(((lb (val l)).length-1:Nat):Int):=(by omega);rw[e];exact vc (by omega) (by omega)) (aa J J (ar (ah (aj (aj (ae (ab J J (ab J J (bn (r:=I ((lb (val l)).length:Int)) J J (bR MD b6) (ao (r:=I (((lb (val l)).length-1:Nat):Int)) J J J (by have e:(((lb (val l)).length-1:Nat):Int)=((lb (val l)).length:Int)-1:=(by omega);rw[e];exact bT (by omega) (by omega)) ?_))))))))))
  obtain⟨a18,p18,q18⟩:=dN MD b6 (i:=((lb (val l)).length-1:Nat)) (by omega) .i64
  refine aE J J J (p18 _) (ak J J (ai MF J q18) (aa J J (ar (ah (aJ (iy (fun(k:Nat) (x:UInt32)=>[(3,I (k:Int)),(4,ep x)]) (fun(k:Nat) (x:UInt32) w'=>w6=w'∧k+bl x.toNat=bl (val l)) (fun(k:Nat) (x:UInt32)=>x.toNat) (32*((lb (val l)).length-1)) ((lb (val l))[(lb (val l)).length-1]'(by omega)) ⟨J,J,trivial⟩ ⟨J,(Ks (by omega)).symm⟩ ?_))))))
  rintro k x _ ⟨rfl,hinv⟩
  refine aj (aj (ae (ab J J (ao (v:=ep 0) J J J (xF) (ar (ah (ci J (fun h21=>?_) (fun h21=>?_))))))))
  ·have hx:0<x.toNat:=AO.1 h21
   have hb:=Jx hx
   have hs:(x>>>UInt32.ofNat 1).toNat=x.toNat/2:=sI x (s:=1) (by omega)
   have hbl:=rD (n:=val l) (k:=32*l.length) (by have:=c9 l;rwa [show(4294967296:Nat)^l.length=2^(32*l.length) by rw[Nat.pow_mul]] at this)
   refine aA (ah (aj (aJ (ae (ab J J (ao (r:=I ((k+1:Nat):Int)) J J J (by have e:((k+1:Nat):Int)=(k:Int)+1:=(by omega);rw[e];exact aY (by omega) (by omega)) (aa J J (ar (aW (ah (ae (ab J J (ao J J J (lN 1 (by omega)) (aa J J (ar (fk (k+1) (_) ⟨J,J,trivial⟩ ⟨J,by rw[hs];omega⟩ (by omega)))))))))))))))))
  ·refine bJ (aV (aV (bP (ah (aj (ae (ab J J (aa J J (ar (ah (aD (aF J J ?_))))))))))))
   exact⟨_,J,x6,by
    have hx:x.toNat=0:=by
     have:=mt (AO (a:=0) (b:=x)).2 h21
     have e:(0:UInt32).toNat=0:=rfl
     omega
    rw[hx,Ej,Nat.add_zero] at hinv
    rw[hinv]⟩
end Go.Rl
namespace Go.Rl
open Go.RowKit Go.Proofs
theorem FA:az Tryz.prog 325:=⟨_,Tryz.func325,by kernel_rfl,rfl⟩
theorem FB:az Tryz.prog 324:=⟨_,Tryz.func324,by kernel_rfl,rfl⟩
theorem top2 {m:List UInt32} {k:Nat} (h:m.length=k+2):val m=((m[k+1]'(by omega)).toNat*4294967296+(m[k]'(by omega)).toNat)*4294967296^k+val (m.take k):=by
 rw[fe m k (by omega),fV (show k<m.length by omega),fV (show k+1<m.length by omega),List.drop_of_length_le (show m.length≤k+1+1 by omega),Nat.mul_comm (4294967296^k),Nat.add_comm]
 congr 2
 simp only[val]
 omega
theorem top3 {m:List UInt32} {k:Nat} (h:m.length=k+3):val m=(((m[k+2]'(by omega)).toNat*4294967296+(m[k+1]'(by omega)).toNat)*4294967296+(m[k]'(by omega)).toNat)*4294967296^k+val (m.take k):=by
 rw[fe m k (by omega),fV (show k<m.length by omega),fV (show k+1<m.length by omega),fV (show k+1+1<m.length by omega),List.drop_of_length_le (show m.length≤k+1+1+1 by omega),Nat.mul_comm (4294967296^k),Nat.add_comm]
 congr 2
 simp only[val,Nat.add_assoc,Nat.reduceAdd]
 omega
theorem vT {a b:UInt64}:a≥b↔b.toNat≤a.toNat:=UInt64.le_iff_toNat_le
theorem Cv {a b:UInt64}:a>b↔b.toNat<a.toNat:=UInt64.lt_iff_toNat_lt
theorem FC {w:World} {L m:List UInt32} {u v:Value} {k:Nat} (hu:bH L u w) (hv:bH m v w) (hm:m.length=k+2) (hL:L.length=k+3) (hk:k≤1099511627776) (h1:0<(m[k+1]'(by omega)).toNat) (hUV:val L<4294967296*val m):
 Calls Tryz.prog 325 #[u,v] w (cA fun r w'=>aH w w'∧∃q:UInt64,r=fB q∧q.toNat<4294967296∧(q.toNat-1)*val m≤val L∧val L<(q.toNat+1)*val m):=by
 refine enter Tryz.func325 J J J ?_
 have tV:=top2 hm
 have tU:=top3 hL
 have hPk:=Fk k
 have hVl:=c9 (m.take k)
 have hUl:=c9 (L.take k)
 rw[List.length_take,Nat.min_eq_left (by omega)] at hVl hUl
 have b0:=dk (L[k]'(by omega))
 have b1:=dk (L[k+1]'(by omega))
 have b2:=dk (L[k+2]'(by omega))
 have c1:=dk (m[k+1]'(by omega))
 have c0:=dk (m[k]'(by omega))
 have hV0:0<val m:=by
  rw[tV]
  have:=Ni (4294967296^k) (show 1≤(m[k+1]'(by omega)).toNat*4294967296+(m[k]'(by omega)).toNat by omega)
  omega
 have hu0:(L[k+2]'(by omega)).toNat≤(m[k+1]'(by omega)).toNat:=by
  rcases Nat.lt_or_ge (m[k+1]'(by omega)).toNat (L[k+2]'(by omega)).toNat with h|h
  ·have e1:((m[k+1]'(by omega)).toNat*4294967296+(m[k]'(by omega)).toNat+1)*4294967296^k*4294967296≤(((L[k+2]'(by omega)).toNat*4294967296+(L[k+1]'(by omega)).toNat)*4294967296+(L[k]'(by omega)).toNat)*4294967296^k:=by
    rw[Nat.mul_assoc,Nat.mul_comm (4294967296^k),←Nat.mul_assoc]
    exact Ni _ (by omega)
   rw[Nat.add_mul _ 1] at e1
   omega
  ·exact h
 have hd0:(m[k+1]'(by omega)).toUInt64≠0:=fun h=>by
  have:=congrArg UInt64.toNat h
  rw[fX] at this
  simp at this
  omega
 have n01:=vI (L[k+2]'(by omega)).toUInt64 (L[k+1]'(by omega)) (by rw[fX];exact b2)
 rw[fX] at n01
 refine aj (ae (aa J J (ar (ah (aj (ae (ab J J (bn (r:=I ((k+2:Nat):Int)) J J ((by rw[←hm];exact bR MD hv)) (aa J J (ar (ah (aj (bj 13 [0,1,5,23] (by kernel_rfl) (by kernel_rfl) (ax J J (ax J J ?_)))))))))))))))
 obtain⟨a13,p13,q13⟩:=dN MD hu (i:=(k+2:Nat)) (by omega) .i64
 refine aK J J J (fun w _=>p13 w) (ap J J (fun w hw=>ai MF J (hw.cell_some q13)) (kZ J J (fun w _=>cr MF MJ) (bC (v:=fB 32) J J J (fun w _=>jq 32 (by omega)) (ax J J (ax J J (bC (r:=I ((k+1:Nat):Int)) J J J (fun w _=>by have e:((k+1:Nat):Int)=((k+2:Nat):Int)-1:=(by omega);rw[e];exact bT (by omega) (by omega)) ?_))))))
 obtain⟨a20,p20,q20⟩:=dN MD hu (i:=(k+1:Nat)) (by omega) .i64
 refine aK J J J (fun w _=>p20 w) (ap J J (fun w hw=>ai MF J (hw.cell_some q20)) (kZ J J (fun w _=>cr MF MJ) (bC J J J (fun w _=>mi) (bA ?_))))
 rintro wg2 xg2 _ hq0
 obtain rfl:=Eq.symm hq0
 rintro _ hq1
 obtain rfl:=Eq.symm hq1
 rintro _ rfl _ rfl
 refine aa J J (ar (ah (aj (bj 17 [0,1,5,7,39] (by kernel_rfl) (by kernel_rfl) (ax J J (ax J J (ax J J (bC (r:=I ((k+1:Nat):Int)) J J J (fun w _=>by have e:((k+1:Nat):Int)=((k+2:Nat):Int)-1:=(by omega);rw[e];exact bT (by omega) (by omega)) ?_))))))))
 obtain⟨a28,p28,q28⟩:=dN MD (hv.ext xg2) (i:=(k+1:Nat)) (by omega) .i64
 refine aK J J J (fun w _=>p28 w) (ap J J (fun w hw=>ai MF J (hw.cell_some q28)) (kZ J J (fun w _=>cr MF MJ) (bC J J J (fun w _=>tk hd0) (ax J J (ax J J (ax J J (bC (r:=I ((k+1:Nat):Int)) J J J (fun w _=>by have e:((k+1:Nat):Int)=((k+2:Nat):Int)-1:=(by omega);rw[e];exact bT (by omega) (by omega)) ?_)))))))
 obtain⟨a36,p36,q36⟩:=dN MD (hv.ext xg2) (i:=(k+1:Nat)) (by omega) .i64
 refine aK J J J (fun w _=>p36 w) (ap J J (fun w hw=>ai MF J (hw.cell_some q36)) (kZ J J (fun w _=>cr MF MJ) (bC J J J (fun w _=>qH hd0) (gA J J (bA ?_)))))
 rintro wg3 xg3 _ hq0
 obtain rfl:=Eq.symm hq0
 rintro _ hq1
 obtain rfl:=Eq.symm hq1
 rintro _ rfl _ rfl _ rfl
 refine aa J J (ar (ah (aj (aJ ?_))))
 refine iy (fun(q:UInt64) (r:UInt64)=>[(0,u),(1,v),(5,I ((k+2:Nat):Int)),(7,fB q),(8,fB r)]) (fun(q:UInt64) (r:UInt64) w'=>aH w w'∧q.toNat*(m[k+1]'(by omega)).toNat+r.toNat=(L[k+2]'(by omega)).toNat*4294967296+(L[k+1]'(by omega)).toNat∧r.toNat<4294967296∧∀Q,Q*val m≤val L→Q≤q.toNat) (fun(q:UInt64) (r:UInt64)=>q.toNat) (_) (_) ⟨J,J,J,J,J,trivial⟩ ⟨(xg2.trans xg3),by rw[UInt64.toNat_div,UInt64.toNat_mod,n01,fX,Nat.mul_comm];exact Nat.div_add_mod _ _,by rw[UInt64.toNat_mod,n01,fX];have:=Nat.mod_lt ((L[k+2]'(by omega)).toNat*4294967296+(L[k+1]'(by omega)).toNat) h1;omega,fun Q hQ=>by
  rw[UInt64.toNat_div,n01,fX]
  refine KY (V:=val m) (U:=val L) (P:=4294967296^k*4294967296) ?_ ?_ h1 hQ
  ·rw[tV,Nat.mul_comm (4294967296^k),←Nat.mul_assoc]
   have:=Ni (4294967296^k) (Nat.le_add_right ((m[k+1]'(by omega)).toNat*4294967296) (m[k]'(by omega)).toNat)
   omega
  ·rw[tU,Nat.mul_comm (4294967296^k),←Nat.mul_assoc]
   have:=Ni (4294967296^k) (show((L[k+2]'(by omega)).toNat*4294967296+(L[k+1]'(by omega)).toNat)*4294967296+(L[k]'(by omega)).toNat+1≤((L[k+2]'(by omega)).toNat*4294967296+(L[k+1]'(by omega)).toNat+1)*4294967296 by omega)
   rw[Nat.add_mul _ 1] at this
   omega⟩ ?_
 rintro q r w4 ⟨e4,hqr,hr,hup⟩
 refine aj (aj ?_)
 by_cases h41:q≥4294967296
 ·refine bj 21 [0,1,5,7,8,42,60] (by kernel_rfl) (by kernel_rfl) ?_
  refine ax J J (bC (v:=fB 4294967296) J J J (fun w _=>bF h41 qI) (ax J J (bu J J J (bu J J J (bu J J J (bu J J J (bu J J J (bu J J J (bu J J J (bu J J J (bu J J J (bu J J J (bu J J J (bu J J J (bu J J J (bu J J J (bu J J J (bu J J J (bu J J J (bu J J J (bA ?_)))))))))))))))))))))
  rintro wg4 xg4 _ hq0
  obtain rfl:=Eq.symm hq0
  rintro _ hq1
  obtain rfl:=Eq.symm hq1
  rintro _ rfl _ rfl _ rfl _ rfl _ rfl
  refine aR J J J (ar (ah (cg J (aA (ah (aJ (aj (ae ?_))))))))
  have hlo:∀Q,Q*val m≤val L→Q+1≤q.toNat:=by
   intro Q hQ
   first
   |(have h41':4294967296≤q.toNat:=vT.1 h41
     have h2:Q*val m<4294967296*val m:=by omega
     have:=Nat.lt_of_mul_lt_mul_right h2
     omega)
   |(have h41':q.toNat<4294967296:=Nat.lt_of_not_le fun h=>h41 (vT.2 h)
     have h61':=Cv.1 h61
     have hp:q.toNat*(m[k]'(by omega)).toNat≤4294967295*4294967295:=Ns (by omega) (by omega)
     rw[vI r _ hr,vH,fX,Nat.mod_eq_of_lt (by omega)] at h61'
     have h2:=AR tV tU hUl hqr h61'
     have h3:Q*val m<q.toNat*val m:=by omega
     exact Nat.lt_of_mul_lt_mul_right h3)
  have hq0:=hlo 0 (by simp)
  have hq1:(q-1).toNat=q.toNat-1:=by
   have:=vG q
   rw[pe]
   show(18446744073709551616-1+q.toNat)%18446744073709551616=_
   omega
  have hr1:(r+(m[k+1]'(by omega)).toUInt64).toNat=r.toNat+(m[k+1]'(by omega)).toNat:=by rw[mj,fX];omega
  have hqr1:(q-1).toNat*(m[k+1]'(by omega)).toNat+(r+(m[k+1]'(by omega)).toUInt64).toNat=(L[k+2]'(by omega)).toNat*4294967296+(L[k+1]'(by omega)).toNat:=by
   rw[hq1,hr1,←hqr]
   obtain⟨p,hp⟩:∃p,q.toNat=p+1:=⟨q.toNat-1,by omega⟩
   rw[hp,Nat.add_sub_cancel,Nat.add_mul];omega
  have hup1:∀Q,Q*val m≤val L→Q≤(q-1).toNat:=fun Q hQ=>by
   have:=hlo Q hQ
   omega
  refine ab J J (ao (v:=fB 1) J J J (gC) (aa J J (ar (ah (aj (ae (ab J J (ab J J (ab J J (ao (r:=I ((k+1:Nat):Int)) J J J (by have e:((k+1:Nat):Int)=((k+2:Nat):Int)-1:=(by omega);rw[e];exact bT (by omega) (by omega)) ?_))))))))))
  obtain⟨a68,p68,q68⟩:=dN MD (hv.ext (e4.trans xg4)) (i:=(k+1:Nat)) (by omega) .i64
  refine aE J J J (p68 _) (ak J J (ai MF J q68) (cm J J (cr MF MJ) (ao J J J (eq) (aa J J (ar (ah (aj (ae (ab J J (ao (v:=fB 4294967296) J J J (qI) (ar (ah (ci J (fun h73=>?_) (fun h73=>?_))))))))))))))
  ·have h73':4294967296≤(r+(m[k+1]'(by omega)).toUInt64).toNat:=vT.1 h73
   have hB:=Hm hu0 b1 hqr1 h73'
   refine bJ (Ki J (aV (bP (ah (aj (ae (ab J J (aa J J (ar (ah (aD (aF J J ?_))))))))))))
   first
   |exact⟨_,rfl,(e4.trans xg4),_,rfl,hB,qK tV tU hVl h1 c0 hB hqr1 (.inl h73'),Nat.lt_of_not_le fun h=>absurd (hup1 _ h) (by omega)⟩
   |(have h41':q.toNat<4294967296:=Nat.lt_of_not_le fun h=>h41 (vT.2 h)
     have h61':(q*(m[k]'(by omega)).toUInt64).toNat≤(r<<<UInt64.ofNat 32|||(L[k]'(by omega)).toUInt64).toNat:=Nat.le_of_not_lt fun h=>h61 (Cv.2 h)
     have hp:q.toNat*(m[k]'(by omega)).toNat≤4294967295*4294967295:=Ns (by omega) (by omega)
     rw[vI r _ hr,vH,fX,Nat.mod_eq_of_lt (by omega)] at h61'
     exact⟨_,J,(e4.trans xg4),_,J,h41',qK tV tU hVl h1 c0 h41' hqr (.inr h61'),Nat.lt_of_not_le fun h=>absurd (hup _ h) (by omega)⟩)
  ·have h73':(r+(m[k+1]'(by omega)).toUInt64).toNat<4294967296:=Nat.lt_of_not_le fun h=>h73 (vT.2 h)
   refine aA (aW (fk (q-1) (r+(m[k+1]'(by omega)).toUInt64) ⟨J,J,J,J,J,trivial⟩ ⟨(e4.trans xg4),hqr1,h73',hup1⟩ (by show(q-1).toNat<q.toNat;omega)))
 ·refine bj 21 [0,1,5,7,8,42,60] (by kernel_rfl) (by kernel_rfl) ?_
  refine ax J J (bC (v:=fB 4294967296) J J J (fun w _=>be h41 qI) (ax J J (au J J (ax J J (au J J (ax J J (au J J (ax J J (au J J (bC (r:=I ((k:Nat):Int)) J J J (fun w _=>by have e:((k:Nat):Int)=((k+2:Nat):Int)-2:=(by omega);rw[e];exact bT (by omega) (by omega)) (au J J ?_)))))))))))
  obtain⟨a47,p47,q47⟩:=dN MD (hv.ext e4) (i:=(k:Nat)) (by omega) .i64
  refine aK J J J (fun w _=>p47 w) (au J J (ap J J (fun w hw=>ai MF J (hw.cell_some q47)) (au J J (kZ J J (fun w _=>cr MF MJ) (au J J (bC J J J (fun w _=>qG) (au J J (ax J J (au J J (bC (v:=fB 32) J J J (fun w _=>jq 32 (by omega)) (au J J (ax J J (au J J (ax J J (au J J (bC (r:=I ((k:Nat):Int)) J J J (fun w _=>by have e:((k:Nat):Int)=((k+2:Nat):Int)-2:=(by omega);rw[e];exact bT (by omega) (by omega)) (au J J ?_)))))))))))))))))
  obtain⟨a56,p56,q56⟩:=dN MD (hu.ext e4) (i:=(k:Nat)) (by omega) .i64
  refine aK J J J (fun w _=>p56 w) (au J J (ap J J (fun w hw=>ai MF J (hw.cell_some q56)) (au J J (kZ J J (fun w _=>cr MF MJ) (au J J (bC J J J (fun w _=>mi) (au J J (bC J J J (fun w _=>xI) (bA ?_)))))))))
  rintro wg4 xg4 _ hq0
  obtain rfl:=Eq.symm hq0
  rintro _ hq1
  obtain rfl:=Eq.symm hq1
  rintro _ rfl _ rfl _ rfl _ rfl _ rfl
  refine aG J J J (ar (ah (ci J (fun h61=>?_) (fun h61=>?_))))
  ·refine aA (ah (aJ (aj (ae ?_))))
   have hlo:∀Q,Q*val m≤val L→Q+1≤q.toNat:=by
    intro Q hQ
    first
    |(have h41':4294967296≤q.toNat:=vT.1 h41
      have h2:Q*val m<4294967296*val m:=by omega
      have:=Nat.lt_of_mul_lt_mul_right h2
      omega)
    |(have h41':q.toNat<4294967296:=Nat.lt_of_not_le fun h=>h41 (vT.2 h)
      have h61':=Cv.1 h61
      have hp:q.toNat*(m[k]'(by omega)).toNat≤4294967295*4294967295:=Ns (by omega) (by omega)
      rw[vI r _ hr,vH,fX,Nat.mod_eq_of_lt (by omega)] at h61'
      have h2:=AR tV tU hUl hqr h61'
      have h3:Q*val m<q.toNat*val m:=by omega
      exact Nat.lt_of_mul_lt_mul_right h3)
   have hq0:=hlo 0 (by simp)
   have hq1:(q-1).toNat=q.toNat-1:=by
    have:=vG q
    rw[pe]
    show(18446744073709551616-1+q.toNat)%18446744073709551616=_
    omega
   have hr1:(r+(m[k+1]'(by omega)).toUInt64).toNat=r.toNat+(m[k+1]'(by omega)).toNat:=by rw[mj,fX];omega
   have hqr1:(q-1).toNat*(m[k+1]'(by omega)).toNat+(r+(m[k+1]'(by omega)).toUInt64).toNat=(L[k+2]'(by omega)).toNat*4294967296+(L[k+1]'(by omega)).toNat:=by
    rw[hq1,hr1,←hqr]
    obtain⟨p,hp⟩:∃p,q.toNat=p+1:=⟨q.toNat-1,by omega⟩
    rw[hp,Nat.add_sub_cancel,Nat.add_mul];omega
   have hup1:∀Q,Q*val m≤val L→Q≤(q-1).toNat:=fun Q hQ=>by
    have:=hlo Q hQ
    omega
   refine ab J J (ao (v:=fB 1) J J J (gC) (aa J J (ar (ah (aj (ae (ab J J (ab J J (ab J J (ao (r:=I ((k+1:Nat):Int)) J J J (by have e:((k+1:Nat):Int)=((k+2:Nat):Int)-1:=(by omega);rw[e];exact bT (by omega) (by omega)) ?_))))))))))
   obtain⟨a68,p68,q68⟩:=dN MD (hv.ext (e4.trans xg4)) (i:=(k+1:Nat)) (by omega) .i64
   refine aE J J J (p68 _) (ak J J (ai MF J q68) (cm J J (cr MF MJ) (ao J J J (eq) (aa J J (ar (ah (aj (ae (ab J J (ao (v:=fB 4294967296) J J J (qI) (ar (ah (ci J (fun h73=>?_) (fun h73=>?_))))))))))))))
   ·have h73':4294967296≤(r+(m[k+1]'(by omega)).toUInt64).toNat:=vT.1 h73
    have hB:=Hm hu0 b1 hqr1 h73'
    refine bJ (Ki J (aV (bP (ah (aj (ae (ab J J (aa J J (ar (ah (aD (aF J J ?_))))))))))))
    first
    |exact⟨_,rfl,(e4.trans xg4),_,rfl,hB,qK tV tU hVl h1 c0 hB hqr1 (.inl h73'),Nat.lt_of_not_le fun h=>absurd (hup1 _ h) (by omega)⟩
    |(have h41':q.toNat<4294967296:=Nat.lt_of_not_le fun h=>h41 (vT.2 h)
      have h61':(q*(m[k]'(by omega)).toUInt64).toNat≤(r<<<UInt64.ofNat 32|||(L[k]'(by omega)).toUInt64).toNat:=Nat.le_of_not_lt fun h=>h61 (Cv.2 h)
      have hp:q.toNat*(m[k]'(by omega)).toNat≤4294967295*4294967295:=Ns (by omega) (by omega)
      rw[vI r _ hr,vH,fX,Nat.mod_eq_of_lt (by omega)] at h61'
      exact⟨_,J,(e4.trans xg4),_,J,h41',qK tV tU hVl h1 c0 h41' hqr (.inr h61'),Nat.lt_of_not_le fun h=>absurd (hup _ h) (by omega)⟩)
   ·have h73':(r+(m[k+1]'(by omega)).toUInt64).toNat<4294967296:=Nat.lt_of_not_le fun h=>h73 (vT.2 h)
    refine aA (aW (fk (q-1) (r+(m[k+1]'(by omega)).toUInt64) ⟨J,J,J,J,J,trivial⟩ ⟨(e4.trans xg4),hqr1,h73',hup1⟩ (by show(q-1).toNat<q.toNat;omega)))
  ·refine bJ (aV (aV (bP (ah (aj (ae (ab J J (aa J J (ar (ah (aD (aF J J ?_))))))))))))
   first
   |exact⟨_,rfl,(e4.trans xg4),_,rfl,hB,qK tV tU hVl h1 c0 hB hqr1 (.inl h73'),Nat.lt_of_not_le fun h=>absurd (hup1 _ h) (by omega)⟩
   |(have h41':q.toNat<4294967296:=Nat.lt_of_not_le fun h=>h41 (vT.2 h)
     have h61':(q*(m[k]'(by omega)).toUInt64).toNat≤(r<<<UInt64.ofNat 32|||(L[k]'(by omega)).toUInt64).toNat:=Nat.le_of_not_lt fun h=>h61 (Cv.2 h)
     have hp:q.toNat*(m[k]'(by omega)).toNat≤4294967295*4294967295:=Ns (by omega) (by omega)
     rw[vI r _ hr,vH,fX,Nat.mod_eq_of_lt (by omega)] at h61'
     exact⟨_,J,(e4.trans xg4),_,J,h41',qK tV tU hVl h1 c0 h41' hqr (.inr h61'),Nat.lt_of_not_le fun h=>absurd (hup _ h) (by omega)⟩)
end Go.Rl
namespace Go.Rl
open Go.RowKit Go.Proofs
theorem FD {w:World} {g:Nat} {pre post:List Value} {L m:List UInt32} {u v:Value} {q:UInt64} (hu:PW g pre L post u w) (hv:bH m v w) (ha:v.ownBlock=none∨v.ownBlock≠some g) (hL:L.length=m.length+1) (hm:m.length≤1099511627776)
 (hq:q.toNat<4294967296) (h1:(q.toNat-1)*val m≤val L) (h2:val L<(q.toNat+1)*val m):
 Calls Tryz.prog 324 #[u,v,fB q] w (cA fun r w'=>∃x F,r=ep x∧w.grownBy w' (some g)∧PW g pre F post u w'∧F.length=L.length∧val L=x.toNat*val m+val F∧val F<val m):=by
 refine enter Tryz.func324 J J J (aj (ae (aa J J (ar (ah (aj (ae (aa J J (aa J J (ar (ah (aj (aj (ae (ab J J (bn J J (bR Tryz.underlying47 hv) (ab J J (ar (ah (aJ (lE (fun(i:Nat) (M:List UInt32) (c:UInt64) (b:UInt64)=>[(0,u),(1,v),(2,fB q),(7,fB c),(8,fB b),(15,v),(16,I (m.length:Int)),(17,I (i:Int))]) (fun(i:Nat) (M:List UInt32) (c:UInt64) (b:UInt64) w'=>w.grownBy w' (some g)∧PW g pre M post u w'∧M.length=L.length∧i≤m.length∧M.drop i=L.drop i∧c.toNat<4294967296∧b.toNat≤1∧val (L.take i)+4294967296^i*(c.toNat+b.toNat)=val (M.take i)+q.toNat*val (m.take i)) (fun(i:Nat) (M:List UInt32) (c:UInt64) (b:UInt64)=>m.length-i) (0) (L) (0) (0) ⟨J,J,J,J,J,J,J,J,trivial⟩ ⟨KW (aH.refl _),hu,J,by simp,rfl,by simp,by simp,by simp[val]⟩ ?_)))))))))))))))))))))
 rintro i M c b w3 ⟨q3,pM,hM,hi,hMi,hc,hb,hinv⟩
 refine aj ?_
 have v3:=hv.away ha q3
 refine ae (ao J J J (aX) (ar (ah (aj (ci J (fun h18=>?_) (fun h18=>?_))))))
 ·refine aA (ah (aj (aJ (aj (ae (ab J J ?_))))))
  obtain⟨a20,p20,q20⟩:=dN MD v3 (i:=i) (by omega) .i64
  refine aE J J J (p20 _) (ak J J (ai MF J q20) (aa J J (aa J J (ar (ah (aj (ae (ab J J (ab J J (ab J J (cm J J (cr MF MJ) (ao J J J (qG) (ao J J J (eq) (aa J J (ar (ah (aj (ae (ab J J (ab J J ?_))))))))))))))))))))
  obtain⟨a30,p30,q30⟩:=dN MD pM.wds (i:=i) (by omega) .i64
  refine aE J J J (p30 _) (ak J J (ai MF J q30) (cm J J (cr MF MJ) (ab J J (cm J J (c7 MJ MF) (cm J J (cr MF MJ) (ao J J J (gC) (ab J J (ao J J J (gC) (aa J J (ar (ah (aj (ae (ab J J (ab J J (ab J J (cm J J (c7 MJ MF) ?_)))))))))))))))))
  obtain⟨w43,p43,s43,pN,q43,c43⟩:=pM.setP MD (i:=i) (by omega) ((((((((M[i])).toUInt64)-(((((c)+(((q)*(((m[i])).toUInt64))))).toUInt32).toUInt64)))-(b)))).toUInt32
  refine aE J J J (p43 _) (dH J J (s43) (ar (ah (aj (ae (ab J J (ao J J J (ei 63 (by omega)) (aa J J (ar (ah (ae (ab J J (ao J J J (ei 32 (by omega)) (aa J J (ar (aW (ah (ae (ao (r:=I ((i+1:Nat):Int)) J J J (by have e:((i+1:Nat):Int)=(i:Int)+1:=(by omega);rw[e];exact aY (by omega) (by omega)) (ab J J (ar ?_)))))))))))))))))))))
  have st:=Hn (L:=L) (v:=m) (M:=M) (i:=i) (q:=q) (c:=c) (b:=b) (by omega) (by omega) hM hq hc hb hMi hinv rfl
  refine fW (i+1) (_) (_) (_) ⟨J,J,J,J,J,J,J,J,trivial⟩ ⟨q3.trans q43,pN,by simpa using hM,by omega,st.1,st.2.1,st.2.2.1,st.2.2.2⟩ (by omega)
 ·refine bJ (aV (aV (bP (ah (aj ?_)))))
  obtain rfl:i=m.length:=by omega
  refine ae (ab J J (ab J J (bn J J (bR MD v3) ?_)))
  obtain⟨a52,p52,q52⟩:=dN MD pM.wds (i:=m.length) (by omega) .i64
  refine aE J J J (p52 _) (ak J J (ai MF J q52) (cm J J (cr MF MJ) (ab J J (ao J J J (gC) (ab J J (ao J J J (gC) (aa J J (ar (ah (aj (ae (ab J J (ab J J (bn J J (bR MD v3) (ab J J (cm J J (c7 MJ MF) ?_))))))))))))))))
  obtain⟨w64,p64,s64,pN,q64,c64⟩:=pM.setP MD (i:=m.length) (by omega) ((((((((M[m.length])).toUInt64)-(c)))-(b)))).toUInt32
  refine aE J J J (p64 _) (dH J J (s64) ?_)
  have v64:=v3.away ha q64
  have tp:=Jv (q:=q) hL hM hc hb hMi hinv rfl
  have h63:=pz ((((((((M[m.length])).toUInt64)-(c)))-(b)))) (s:=63) (by omega)
  simp only[Nat.reducePow] at h63
  have hNl:(M.set m.length ((((((((M[m.length])).toUInt64)-(c)))-(b)))).toUInt32).length=L.length:=by simpa using hM
  have hFl:=c9 (M.set m.length ((((((((M[m.length])).toUInt64)-(c)))-(b)))).toUInt32)
  generalize M.set m.length ((((((((M[m.length])).toUInt64)-(c)))-(b)))).toUInt32=N at pN tp hNl hFl
  generalize hX:(((((((M[m.length])).toUInt64)-(c)))-(b)))=X at tp h63
  refine ar (ah (aj (aj (ae (ab J J (ao J J J (ei 63 (by omega)) (ao (v:=fB 0) J J J (xJ) (ar (ah (ci J (fun h67=>?_) (fun h67=>?_)))))))))))
  ·rw[h67] at h63
   rw[←h63] at tp
   refine aj (ae (ab J J (cm J J (c7 MJ MF) (aa J J (ar (ah (aD (a0 (aF J J ?_)))))))))
   exact⟨_,J,q.toUInt32,N,J,q3.trans q64,pN,hNl,by
    have e:q.toUInt32.toNat=q.toNat:=by rw[lc];omega
    have:=tp.1
    rw[e]
    simp at this
    omega,by
    have:=tp.1
    rw[Nat.add_mul,Nat.one_mul] at h2
    simp at this
    omega⟩
  ·have hs:X.toNat/9223372036854775808=1:=by
    rcases Np (X.toNat/9223372036854775808) with h|h
    ·exact absurd (Hr (h63.trans h)) h67
    ·have:=tp.2
     omega
   rw[hs,Nat.mul_one] at tp
   refine aA (ah (aj (ae (aa J J (ar (ah (aj (aj (ae (ab J J (bn J J (bR Tryz.underlying47 v64) (ab J J (ar (ah (aJ (fi (fun(i:Nat) (K:List UInt32) (d:UInt64)=>[(0,u),(1,v),(2,fB q),(7,fB d),(70,v),(71,I (m.length:Int)),(72,I (i:Int))]) (fun(i:Nat) (K:List UInt32) (d:UInt64) w'=>w.grownBy w' (some g)∧PW g pre K post u w'∧K.length=L.length∧i≤m.length∧K.drop i=N.drop i∧d.toNat≤1∧val (K.take i)+4294967296^i*d.toNat=val (N.take i)+val (m.take i)) (fun(i:Nat) (K:List UInt32) (d:UInt64)=>m.length-i) (0) (N) (0) ⟨J,J,J,J,J,J,J,trivial⟩ ⟨q3.trans q64,pN,hNl,by simp,rfl,by simp,by simp[val]⟩ ?_))))))))))))))))
   rintro i K d w17 ⟨q17,pK,hK,hi,hKi,hd,hinv2⟩
   refine aj ?_
   have v17:=hv.away ha q17
   refine ae (ao J J J (aX) (ar (ah (aj (ci J (fun h73=>?_) (fun h73=>?_))))))
   ·refine aA (ah (aj (aJ (aj (ae (ab J J ?_))))))
    obtain⟨a75,p75,q75⟩:=dN MD v17 (i:=i) (by omega) .i64
    refine aE J J J (p75 _) (ak J J (ai MF J q75) (aa J J (aa J J (ar (ah (aj (ae (ab J J (ab J J (ab J J ?_))))))))))
    obtain⟨a80,p80,q80⟩:=dN MD pK.wds (i:=i) (by omega) .i64
    refine aE J J J (p80 _) (ak J J (ai MF J q80) (cm J J (cr MF MJ) (ab J J (cm J J (cr MF MJ) (ao J J J (eq) (ao J J J (eq) (aa J J (ar (ah (aj (ae (ab J J (ab J J (ab J J (cm J J (c7 MJ MF) ?_)))))))))))))))
    obtain⟨w91,p91,s91,pK',q91,c91⟩:=pK.setP MD (i:=i) (by omega) ((((d)+(((((K[i])).toUInt64)+(((m[i])).toUInt64)))))).toUInt32
    refine aE J J J (p91 _) (dH J J (s91) (ar (ah (ae (ab J J (ao J J J (ei 32 (by omega)) (aa J J (ar (aW (ah (ae (ao (r:=I ((i+1:Nat):Int)) J J J (by have e:((i+1:Nat):Int)=(i:Int)+1:=(by omega);rw[e];exact aY (by omega) (by omega)) (ab J J (ar ?_))))))))))))))
    have st:=Ho (L:=N) (v:=m) (M:=K) (i:=i) (c:=d) (by omega) (by omega) (by omega) hd hKi hinv2
    refine cK (i+1) (_) (_) ⟨J,J,J,J,J,J,J,trivial⟩ ⟨q17.trans q91,pK',by simpa using hK,by omega,st.1,st.2.1,st.2.2⟩ (by omega)
   ·refine bJ (aV (aV (bP (ah (aj ?_)))))
    obtain rfl:i=m.length:=by omega
    refine ae (ab J J (ab J J (bn J J (bR MD v17) ?_)))
    obtain⟨a98,p98,q98⟩:=dN MD pK.wds (i:=m.length) (by omega) .i64
    refine aE J J J (p98 _) (ak J J (ai MF J q98) (ab J J (cm J J (c7 MJ MF) (ao J J J (Fg) ?_))))
    obtain⟨w103,p103,s103,pK',q103,c103⟩:=pK.setP MD (i:=m.length) (by omega) (K[m.length]'(by omega)+d.toUInt32)
    refine aE J J J (p103 _) (dH J J (s103) (ar (ah (aj (ae (ab J J (ao (v:=fB 1) J J J (gC) (cm J J (c7 MJ MF) (aa J J (ar (ah (aD (aF J J ?_)))))))))))))
    have rb:=Hs (q:=q.toNat) hL hNl hK hd hKi hinv2 tp.1 h1
    exact⟨_,J,(q-1).toUInt32,_,J,q17.trans q103,pK',by simpa using hK,by
     have e:(q-1).toUInt32.toNat=q.toNat-1:=by
      have h0:=rb.1
      rw[lc,pe]
      show(18446744073709551616-1+q.toNat)%18446744073709551616%_=_
      omega
     rw[e];exact rb.2.1,rb.2.2⟩
end Go.Rl
namespace Go.Rl
open Go.RowKit Go.Proofs
theorem jJ:az Tryz.prog 284:=⟨_,Tryz.func284,by kernel_rfl,rfl⟩
theorem FE {U:List UInt32} {i j V:Nat} (h:val U<4294967296^(i+1)*V) (hV:V<4294967296^j) (hi:i+j+1≤U.length):val (U.drop (i+j+1))=0:=by
 rw[fe U (i+j+1) hi] at h
 rcases Np (val (U.drop (i+j+1))) with h0|h0
 ·exact h0
 ·have a:4294967296^(i+1)*V≤4294967296^(i+1)*4294967296^j:=Nr _ (Nat.le_of_lt hV)
  rw[←Nat.pow_add,show i+1+j=i+j+1 by omega] at a
  have b:4294967296^(i+j+1)*1≤4294967296^(i+j+1)*val (U.drop (i+j+1)):=Nr _ h0
  omega
theorem Hw {U:List UInt32} {i n:Nat} (h:i+n≤U.length) (h0:val (U.drop (i+n))=0):val U=val (U.take i)+4294967296^i*val ((U.take (i+n)).drop i):=by
 have h1:=fe U (i+n) h
 rw[h0,Nat.mul_zero,Nat.add_zero] at h1
 have h2:=fe (U.take (i+n)) i (by simp;omega)
 rw[List.take_take,Nat.min_eq_left (by omega)] at h2
 rw[h1,h2]
theorem Cw {U F:List UInt32} {i n:Nat} (h:i+n≤U.length) (h0:val (U.drop (i+n))=0):val (U.take i++F++U.drop (i+n))=val (U.take i)+4294967296^i*val F:=by
 rw[fw,fw,h0,List.length_take,Nat.min_eq_left (by omega)];simp
theorem jK {w:World} {l m:List UInt32} {v u:Value} (hv:bH l v w) (hu:bH m u w) (hl:l.length≤549755813888) (hml:m.length≤549755813888) (hm:0<val m):
 Calls Tryz.prog 284 #[v,u] w (cA fun r w'=>aH w w'∧∃q s,r=.tuple #[q,s,I 0]∧bH (lb (val l/val m)) q w'∧bH (lb (val l%val m)) s w'):=by
 refine enter Tryz.func284 J J J ?_
 have hll:=fM (c9 l)
 have hmm:=fM (c9 m)
 have hM0:0<(lb (val m)).length:=by
  rcases Np (lb (val m)).length with h|h
  ·have:=gl.1 h
   omega
  ·exact h
 refine aj (ae (aa J J (aa J J (aa J J (ar (ah (aj (ae (ab J J (aq dz J J (dB hv) ?_))))))))))
 rintro v18 _ ⟨rfl,b18⟩
 refine ab J J (aq dz J J (dB hu) ?_)
 rintro v20 _ ⟨rfl,b20⟩
 refine aa J J (aa J J (ar (ah (aj (aJ (aj (ae (ab J J (bn (r:=I ((lb (val m)).length:Int)) J J (bR MD b20) (ao J J J (be (by omega) aO) (aa J J (ar (ah (bU J (aj (ae (ab J J (ab J J (aq jr J J ((by have:=js b18 b20;rw[bk,bk] at this;exact this)) ?_)))))))))))))))))))
 rintro v28 w28 ⟨x28,rfl⟩
 refine ao J J J (aX) (aa J J (ar (ah (ci J (fun h25=>?_) (fun h25=>?_)))))
 ·have hlt:=jI.1 h25
  refine aj (ae (ab J J (aq gM J J ((by have:=gO (b18.ext x28) (by omega);rw[bk] at this;exact this)) ?_)))
  rintro v31 w31 ⟨x31,b31⟩
  refine aa J J (aa J J (aa J J (ar (ah (aD (bK (a0 (sB J J J J ?_))))))))
  exact⟨_,J,(x28.trans x31),_,_,J,by rw[Nat.div_eq_of_lt hlt];exact bH.nil _,by rw[Nat.mod_eq_of_lt hlt];exact b31⟩
 ·have hge:val m≤val l:=Nat.le_of_not_lt fun h=>h25 (jI.2 h)
  have hlen:(lb (val m)).length≤(lb (val l)).length:=Nat.le_of_not_lt fun h=>by have:=zc h;omega
  refine aj (ae (ab J J (bn (r:=I ((lb (val m)).length:Int)) J J (bR MD (b20.ext x28)) (ao J J J (aO) (aa J J (ar (ah (ci J (fun h32=>?_) (fun h32=>?_)))))))))
  ·refine aj (ae (ab J J (ab J J ?_)))
   have hM1:val m=((lb (val m))[0]'(by omega)).toNat:=by
    have e:=fV (l:=lb (val m)) (i:=0) (by omega)
    rw[List.drop_zero,bk,List.drop_of_length_le (by omega)] at e
    simpa [val] using e
   obtain⟨a39,p39,q39⟩:=dN MD (b20.ext x28) (i:=0) (by omega) .i64
   refine aE J J J (p39 _) (ak J J (ai MF J q39) (aq AN J J ((AP (b18.ext x28) (by omega) (by rw[←hM1];exact hm))) ?_))
   rintro v41 w41 ⟨x41,q,s,rfl,bq,bs⟩
   refine ab J J (aB J J cY (aB J J cZ (aa J J (aa J J (ar (ah (aj (ae (ab J J (ab J J (aa J J (aa J J (aa J J (ar (ah (aD (bK (a0 (sB J J J J ?_)))))))))))))))))))
   rw[bk,←hM1] at bq bs
   exact⟨_,J,(x28.trans x41),_,_,J,bq,bs⟩
  ·refine aA (aW (ah (aj ?_)))
   obtain⟨k,hk⟩:∃k,(lb (val m)).length=k+2:=⟨(lb (val m)).length-2,by omega⟩
   obtain⟨hs32,hVlen⟩:=Hq hk
   have htop:(lb (val m))[(lb (val m)).length-1]'(by omega)=(lb (val m))[k+1]'(by omega):=by congr 1;omega
   refine ae (ab J J (ab J J (bn (r:=I ((lb (val m)).length:Int)) J J (bR MD (b20.ext x28)) (ao (r:=I (((lb (val m)).length-1:Nat):Int)) J J J (by have e:(((lb (val m)).length-1:Nat):Int)=((lb (val m)).length:Int)-1:=(by omega);rw[e];exact bT (by omega) (by omega)) ?_))))
   obtain⟨a50,p50,q50⟩:=dN MD (b20.ext x28) (i:=((lb (val m)).length-1:Nat)) (by omega) .i64
   refine aE J J J (p50 _) (ak J J (ai MF J q50) (aq Fq J J (Fu) ?_))
   rintro v52 _ ⟨rfl,rfl⟩
   rw[htop]
   obtain⟨s,hs⟩:∃s,s=32-bl ((lb (val m))[k+1]'(by omega)).toNat:=⟨_,rfl⟩
   rw[←hs] at hs32 hVlen⊢
   refine aa J J (ar (ah (aj (ae (ab J J (ab J J (aq rR J J (rS (b18.ext x28) (by omega) hs32) ?_)))))))
   rintro v55 w55 ⟨x55,U,oU,hUl,hUv⟩
   refine ab J J (ab J J (aq rR J J (rS (b20.ext (x28.trans x55)) (by omega) hs32) ?_))
   rintro v58 w58 ⟨x58,V,oV,hVl,hVv⟩
   refine aq dz J J (vF oV.wds) ?_
   rintro v59 _ ⟨rfl,b59,ob59⟩
   rw[bk] at hUv hVv
   rw[hVv] at b59
   obtain⟨g,sp,hgb,hgo,pU⟩:=oU.pw (by omega)
   have hV0:0<val m*2^s:=Nat.mul_pos hm (Nat.pow_pos (by omega))
   have hgV:g<w55.heap.size:=pU.lt
   have off1:v59.ownBlock=none∨v59.ownBlock≠some g:=by
    rcases ob59 with h|h
    ·exact .inl h
    ·exact .inr (by rw[h];exact oV.off hgV)
   have e2:=(x28.trans x55).trans x58
   refine aa J J (aa J J (ar (ah (aj (ae (ab J J (bn (r:=I ((lb (val l)).length:Int)) J J (bR MD (b18.ext e2)) (ab J J (bn (r:=I ((lb (val m)).length:Int)) J J (bR MD (b20.ext e2)) (ao (r:=I (((lb (val l)).length-(lb (val m)).length:Nat):Int)) J J J (by have e:(((lb (val l)).length-(lb (val m)).length:Nat):Int)=((lb (val l)).length:Int)-((lb (val m)).length:Int):=(by omega);rw[e];exact bT (by omega) (by omega)) (ao (r:=I (((((lb (val l)).length-(lb (val m)).length:Nat))+1:Nat):Int)) J J J (by have e:(((((lb (val l)).length-(lb (val m)).length:Nat))+1:Nat):Int)=(((lb (val l)).length-(lb (val m)).length:Nat):Int)+1:=(by omega);rw[e];exact aY (by omega) (by omega)) ?_)))))))))))
   obtain⟨v66,w66,hr66,x66,o66,ob66⟩:=py MD (w:=w58) w58.heap.size (n:=(lb (val l)).length-(lb (val m)).length+1) (by omega) (Ng _)
   refine fL J J J hr66 (aa J J (ar (ah (aj (aj (ae (ab J J (bn (r:=I (((lb (val l)).length-(lb (val m)).length+1:Nat):Int)) J J ((by simpa using bR Tryz.underlying47 o66.wds)) (ao J J J (bT (by omega) (by omega)) (aa J J (ar (ah (aJ ?_)))))))))))))
   refine fi (fun(j:Nat) (X:List UInt32) (O:List UInt32)=>[(9,I (s:Int)),(10,v55),(11,v59),(12,v66),(13,I ((j:Int)-1))]) (fun(j:Nat) (X:List UInt32) (O:List UInt32) w'=>aH w w'∧PW g [] X sp v55 w'∧eY w58.heap.size O v66 w'∧bH (lb (val m*2^s)) v59 w'∧X.length=(lb (val l)).length+1∧O.length=(lb (val l)).length-(lb (val m)).length+1∧j≤O.length∧val l*2^s=val (O.drop j)*4294967296^j*(val m*2^s)+val X∧val X<4294967296^j*(val m*2^s)) (fun(j:Nat) (X:List UInt32) (O:List UInt32)=>j) ((lb (val l)).length-(lb (val m)).length+1) (U) (List.replicate ((lb (val l)).length-(lb (val m)).length+1) 0) ⟨J,J,J,J,J,trivial⟩ ⟨(e2.trans x66),(pU.ext x58).ext x66,o66,b59.ext x66,hUl,by simp,by simp,by rw[List.drop_of_length_le (by simp)];simp[val,hUv],by
    have h1:=c9 (lb (val l))
    have h2:=Ec hm
    rw[bk] at h1
    rw[hUv,←Nat.mul_assoc]
    refine Nat.mul_lt_mul_of_pos_right ?_ (Nat.pow_pos (by omega))
    have h3:4294967296^(lb (val l)).length=4294967296^((lb (val l)).length-(lb (val m)).length+1)*4294967296^((lb (val m)).length-1):=by
     rw[←Nat.pow_add,show(lb (val l)).length-(lb (val m)).length+1+((lb (val m)).length-1)=(lb (val l)).length by omega]
    rw[h3] at h1
    exact Nk h1 (Nr _ h2)⟩ ?_
   rintro j X O w13 ⟨e13,pX,oO,f13,hXl,hOl,hj,hA,hX⟩
   refine aj (aj (ae (ab J J (ao J J J (cz) (ar (ah (ci J (fun h71=>?_) (fun h71=>?_))))))))
   ·obtain⟨i,rfl⟩:∃i,j=i+1:=⟨j-1,by omega⟩
    have e:((i+1:Nat):Int)-1=(i:Int):=by omega
    rw[e]
    have hz:=FE hX (by have:=c9 (lb (val m*2^s));rwa [bk,hVlen] at this) (j:=k+2) (by omega)
    have hXp:=Hw (U:=X) (i:=i) (n:=k+3) (by omega) hz
    refine aA (ah (aj (aJ (aj (ae (ab J J (ab J J (ab J J (ab J J (bn (r:=I ((k+2:Nat):Int)) J J ((by rw[←hVlen];exact bR MD f13)) (ao (r:=I ((i+(k+2:Nat):Nat):Int)) J J J (by have e:((i+(k+2:Nat):Nat):Int)=(i:Int)+((k+2:Nat):Int):=(by omega);rw[e];exact aY (by omega) (by omega)) (ao (r:=I ((((i+(k+2:Nat):Nat))+1:Nat):Int)) J J J (by have e:((((i+(k+2:Nat):Nat))+1:Nat):Int)=((i+(k+2:Nat):Nat):Int)+1:=(by omega);rw[e];exact aY (by omega) (by omega)) ?_))))))))))))
    obtain⟨v81,p81,pP⟩:=KX MD pX (lo:=i) (hi:=i+(k+2)+1) (by omega) (by omega) .i64 .i64
    refine ky J J J J J (p81 _) ?_
    have hPl:((X.take (i+(k+2)+1)).drop i).length=k+3:=by simp;omega
    refine aa J J (ar (ah (ae (ab J J (ab J J (ab J J (ab J J (ab J J (ab J J (aq FA J J (FC pP.wds f13 hVlen hPl (by omega) (zd (by omega)) (by
 rw[bk]
 have h1:4294967296^i*val ((X.take (i+(k+3))).drop i)≤val X:=by rw[hXp];omega
 rw[Nat.pow_succ,Nat.mul_assoc] at hX
 exact Nat.lt_of_mul_lt_mul_left (Nat.lt_of_le_of_lt h1 hX))) ?_))))))))))
    rintro v88 w88 ⟨x88,q,rfl,hqB,hq1,hq2⟩
    refine aq FB J J (FD (pP.ext x88) (f13.ext x88) off1 (by rw[hPl,hVlen]) (by omega) hqB hq1 hq2) ?_
    rintro v89 w89 ⟨x,F,rfl,q89,pF,hFl,hFv,hFr⟩
    have x89:=(e13.trans x88).of_new q89 (by have:=x28.size;omega)
    have o89:=(oO.ext x88).kept q89 (.inr (oO.off (by have:=x58.size;omega)))
    have p89:=pX.join (by omega) (by omega) (by rw[hFl,hPl];omega) pF
    have f89:=(f13.ext x88).away off1 q89
    obtain⟨g90,w90,p90,s90,o90,q90,hb90,c90,ob90⟩:=o89.setW MD (i:=i) (by omega) x
    refine aE J J J (p90 _) (dH J J (s90) ?_)
    have x90:=x89.of_new q90 (by have:=x28.size;have:=x55.size;have:=x58.size;omega)
    have p90':=p89.kept q90 (fun h=>by have:=Nc h;have:=x58.size;omega)
    have f90:=f89.away (by
     rcases ob59 with h|h
     ·exact .inl h
     ·refine .inr fun he=>?_
      rw[h] at he
      have:=oV.lt g90 he
      omega) q90
    have hj':=Cw (U:=X) (F:=F) (i:=i) (n:=k+3) (by omega) hz
    rw[bk] at hFv hFr
    have dr:=Fw (A:=val l*2^s) (P:=4294967296^i) (Q:=val (O.drop (i+1))) (V:=val m*2^s) hXp (by have:=c9 (X.take i);rwa [List.length_take,Nat.min_eq_left (by omega)] at this) (by rw[←Nat.pow_succ];exact hA) hFv hFr
    rw[←hj',←oh (by omega)] at dr
    refine ar (aW (ah (ae (ab J J (ao J J J (bT (by omega) (by omega)) (aa J J (ar (cK (i) (_) (_) ⟨J,J,J,J,J,trivial⟩ ⟨x90,p90',o90,f90,by simp[hFl,hPl,hXl];omega,by simpa using hOl,by simp;omega,dr.1,dr.2⟩ (by omega)))))))))
   ·refine bJ (aV (aV (bP (ah (aj ?_)))))
    obtain rfl:j=0:=by omega
    rw[Nat.pow_zero,Nat.mul_one,List.drop_zero] at hA
    rw[Nat.pow_zero,Nat.one_mul] at hX
    have hs0:0<2^s:=Nat.pow_pos (by omega)
    have hQ:val l/val m=val O:=by
     rw[←Nat.mul_div_mul_right _ _ hs0,hA,Nat.mul_comm (val O),Nat.mul_add_div hV0,Nat.div_eq_of_lt hX,Nat.add_zero]
    have hR:val X/2^s=val l%val m:=by
     have e1:val X=val l*2^s%(val m*2^s):=by rw[hA,Nat.mul_comm (val O),Nat.mul_add_mod,Nat.mod_eq_of_lt hX]
     rw[e1,Nat.mul_mod_mul_right,Nat.mul_div_cancel _ hs0]
    refine ae (ab J J (ab J J (aq xM J J (xO pX.wds (by omega) (by omega)) ?_)))
    rintro v94 w94 ⟨x94,r94,rfl,b94⟩
    refine ab J J (aB J J cY (aB J J cZ (aa J J (aa J J (ar (ah (aj (ae (ab J J (aq dz J J (dB ((oO.ext x94).wds)) ?_))))))))))
    rintro v98 _ ⟨rfl,b98⟩
    refine ab J J (aa J J (aa J J (aa J J (ar (ah (aD (sB J J J J ?_)))))))
    exact⟨_,J,(e13.trans x94),_,_,J,by rw[hQ];exact b98,by rw[←hR];exact b94⟩
end Go.Rl

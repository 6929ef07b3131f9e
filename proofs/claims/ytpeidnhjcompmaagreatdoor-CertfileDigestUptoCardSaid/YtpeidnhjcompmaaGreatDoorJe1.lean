/- Part 1 of a proof: plain facts and walks of functions, merged by a program. Conditions: each lemma names its own. -/
import Derived.StillTail
import Derived.Below
import Derived.Laws.Entries
import Derived.Maps.AppendAt
import Derived.Laws.BytesString
import Derived.Laws.Slices
import Derived.Laws.MakeOwn
import Derived.Laws.Rows
import Derived.OwnWalk
import Derived.Laws.BitsAllLaws
import Derived.Laws.Strings
import Derived.Test.YtpeidnhjcompmaaGreatDoorProg
import Derived.KernelRfl
import Derived.Laws.OwnMore
import Derived.ProofKit
import Derived.OpenShut
import Derived.ChangeArms
import Derived.Deep.MidRow
import Derived.RangeFuncWrites
import Derived.RangeFuncLeaves
import Derived.TacticsIn
import Derived.OwnWalkIn
import Derived.Laws.CopyRow
import Derived.Maps.Keyed
import Derived.DeepKeys5
import Derived.ShutString
import Derived.SliceStrings
import Derived.ChangeOld
import Derived.RowKit
import Derived.OrdersHeld
import Derived.Lib.AppendStr
import Derived.Laws.IdiomStrings
import Derived.Lib.SlBytesConst
import Derived.ArgAppend
import Derived.Recover
import Derived.Tactics
import Derived.Tactics2
import Derived.ChangeKeysEq
import Derived.Laws.StructEq
import Derived.Test.YtpeidnhjcompmaaGreatDoorRows
import Derived.Test.YtpeidnhjcompmaaGreatDoorCards
import Derived.Test.YtpeidnhjcompmaaGreatDoorTie
import Derived.Lib.LaidTab
import Derived.OrdersIn
namespace Go.Rl
theorem Ig.{u} {α:Sort u} {a:α}:a=a:=rfl
abbrev Hz:=@Go.Proofs.Tryz.underlying44
abbrev HB:=@Go.Proofs.Tryz.underlying149
abbrev HD:=@Go.Proofs.Tryz.underlying107
abbrev HE:=@Go.Proofs.Tryz.underlying3
abbrev HF:=@Go.Proofs.Tryz.underlying22
abbrev HG:=@Go.Proofs.Tryz.underlying46
abbrev HH:=@Go.Proofs.Tryz.underlying5
abbrev HI:=@Go.Proofs.Tryz.underlying52
abbrev HJ:=@Go.Proofs.Tryz.underlying49
abbrev HK:=@Go.Proofs.Tryz.underlying73
abbrev HL:=@Go.Proofs.Tryz.underlying43
abbrev HM:=@Go.Proofs.Tryz.underlying246
abbrev HN:=@Go.Proofs.Tryz.underlying82
abbrev HO:=@Go.Proofs.Tryz.underlying4
abbrev HP:=@Go.Proofs.Tryz.underlying157
abbrev HQ:=@Go.Proofs.Tryz.underlying235
abbrev HR:=@Go.Proofs.Tryz.underlying232
abbrev HS:=@Go.Proofs.Tryz.underlying24
abbrev HT:=@Go.Proofs.Tryz.underlying48
abbrev HU:=@Go.Proofs.Tryz.underlying204
abbrev HV:=@Go.Proofs.Tryz.underlying76
abbrev HW:=@Go.Proofs.Tryz.underlying194
abbrev HX:=@Go.Proofs.Tryz.underlying78
abbrev HY:=@Go.Proofs.Tryz.underlying80
abbrev HZ:=@Go.Proofs.Tryz.underlying75
abbrev H0:=@Go.Proofs.Tryz.underlying50
abbrev H1:=@Go.Proofs.Tryz.underlying133
abbrev H2:=@Go.Proofs.Tryz.underlying196
abbrev H3:=@Go.Proofs.Tryz.underlying173
abbrev H4:=@Go.Proofs.Tryz.underlying150
abbrev H5:=@Go.Proofs.Tryz.underlying32
abbrev H6:=@Go.Proofs.Tryz.underlying260
abbrev H7:=@Go.Proofs.Tryz.underlying42
abbrev H8:=@Go.Proofs.Tryz.underlying187
abbrev H9:=@Go.Proofs.Tryz.underlying198
abbrev Ia:=@Go.Proofs.Tryz.underlying243
abbrev Ib:=@Go.Proofs.Tryz.underlying185
abbrev Ic:=@Go.Proofs.Tryz.underlying154
abbrev Ie:=@Go.Proofs.Tryz.underlying233
abbrev If:=@Go.Proofs.Tryz.underlying200
end Go.Rl
namespace Go.Rl
open Go.RowKit
def aE (w w':World):Prop:=Below w.heap.size w w'
theorem aE.refl (w:World):aE w w:=Below.refl _ _
theorem aE.trans {a b c:World} (h:aE a b) (k:aE b c):aE a c:=Below.trans h (Below.mono k h.size)
theorem aE.alloc {a w:World} (h:aE a w) (o:Obj):aE a (w.alloc o):=Below.alloc h h.size o
theorem aE.drew {a w:World} (h:aE a w):aE a w.drew:=Below.drew h
abbrev cH:=Value→World→Prop
abbrev bR:=Tmp→cH
def Is (c:Value):cH:=fun v _=>v=c
def Any:cH:=fun _ _=>True
def bD (Rl:World→World→Prop) (S:cH):Prop:=∀v w w',S v w→Rl w w'→S v w'
abbrev be (S:cH):Prop:=bD aE S
theorem be.is {Rl:World→World→Prop} (c:Value):bD Rl (Is c):=fun _ _ _ h _=>h
theorem be.any {Rl:World→World→Prop}:bD Rl Any:=fun _ _ _ h _=>h
abbrev ik:=World→Prop
def cm (Z:ik):Prop:=∀w w',Z w→aE w w'→Z w'
theorem cm.triv:cm (fun _=>True):=fun _ _ _ _=>trivial
def im (F:bR) (d:Option Tmp) (S:cH):bR:=
 match d with
 |none=>F
 |some d=>fun t=>match Nat.beq t d with|true=>S|false=>F t
theorem jB (F:bR) (d:Tmp) (S:cH):im F (some d) S d=S:=by simp[im]
theorem kV (F:bR) {d t:Tmp} (S:cH) (h:t≠d):im F (some d) S t=F t:=by
 have:Nat.beq t d=false:=by
  cases hb:Nat.beq t d
  ·rfl
  ·exact absurd (Nat.eq_of_beq_eq_true hb) h
 simp[im,this]
theorem yU (F:bR) {d:Option Tmp} {t:Tmp} (S:cH) (h:∀e,d=some e→e≠t):im F d S t=F t:=by
 cases d with
 |none=>rfl
 |some d=>exact kV F S (fun e=>h d rfl e.symm)
theorem BD (F:bR) {x y:Option Tmp} (S R:cH) (h:∀d,x=some d→y≠some d):im (im F x S) y R=im (im F y R) x S:=by
 cases x with
 |none=>rfl
 |some d=>
  cases y with
  |none=>rfl
  |some e=>
   have hne:d≠e:=fun he=>h d rfl (he▸rfl)
   funext t
   by_cases h1:t=e
   ·subst h1
    rw[jB,kV _ _ (Ne.symm hne),jB]
   ·rw[kV _ _ h1]
    by_cases h2:t=d
    ·subst h2
     rw[jB,jB]
    ·rw[kV _ _ h2,kV _ _ h2,kV _ _ h1]
section
variable {P:Program} {ops:Array Oper} {md:Region.Mode} {Env:World→Prop} {Rl:World→World→Prop} {mo:Bool} {Pn:List PanicEntry→World→Prop} {N:Nat}
structure fb (Env:World→Prop) (Rl:World→World→Prop):Prop where
 ext:∀w w',aE w w'→Rl w w'
 keep:∀w w',Env w→Rl w w'→Env w'
theorem fb.plain (w:World):fb (aE w) aE:=⟨fun _ _ h=>h,fun _ _ h k=>h.trans k⟩
theorem bD.ext {S:cH} (h:bD Rl S) (hE:fb Env Rl):be S:=fun v w w' hs hx=>h v w w' hs (hE.ext w w' hx)
def kK (ops:Array Oper) (o:Oper) (F:bR) (a:Act) (w:World):Prop:=∀t∈o.looksAt ops,F t (a.tmps.getD t undef) w
structure u5 (N:Nat) (D:List Deferred) (F:bR) (a:Act) (w:World):Prop where
 size:a.tmps.size=N
 defers:a.defers=D
 at_:∀t,F t (a.tmps.getD t undef) w
def mV (P:Program) (w:World) (S:cH):Result Next→Prop
 |.ok (.value v) w'=>aE w w'∧S v w'
 |.ok .skip w'=>aE w w'∧S undef w'
 |.ok (.enter f args) w'=>aE w w'∧Calls P f args w' (fun e w''=>∃v,e=.returned v∧aE w w''∧S v w'')
 |_=>False
def tB (P:Program) (Rl:World→World→Prop) (Pn:List PanicEntry→World→Prop) (w:World) (S:cH) (Z:ik):Result Next→Prop
 |.ok (.enter f args) w'=>Calls P f args w' (fun e w''=>(∃v,e=.returned v∧Rl w w''∧S v w''∧Z w'')∨∃c,e=.panicked c∧Pn c w'')
 |_=>False
def jg (o:Oper):Bool:=match o.op with|.call c=>(match c.callee with|.builtin _=>false|_=>true)|_=>false
structure FQ (P:Program) (ops:Array Oper) (Env:World→Prop) (Rl:World→World→Prop) (N:Nat) (F:bR) (o:Oper) (S:cH):Prop where
 stable:bD Rl S
 dst:∀d,o.dst=some d→d<N
 yes:∀a w,a.tmps.size=N→Env w→kK ops o F a w→Region.wanted o (yielded ops a.tmps)=true→mV P w S ((execOp a.eval o).run P w)
 no:∀a w,a.tmps.size=N→Env w→kK ops o F a w→Region.wanted o (yielded ops a.tmps)=false→S undef w
structure GU (P:Program) (ops:Array Oper) (Env:World→Prop) (Rl:World→World→Prop) (Pn:List PanicEntry→World→Prop) (N:Nat) (F:bR) (Z:ik) (o:Oper) (S:cH) (Z':ik):Prop where
 call:jg o=true
 stable:bD Rl S
 zst:cm Z'
 dst:∀d,o.dst=some d→d<N
 yes:∀a w,a.tmps.size=N→Env w→kK ops o F a w→Z w→Region.wanted o (yielded ops a.tmps)=true→tB P Rl Pn w S Z' ((execOp a.eval o).run P w)
 no:∀a w,a.tmps.size=N→Env w→kK ops o F a w→Z w→Region.wanted o (yielded ops a.tmps)=false→S undef w∧Z' w
def eQ (P:Program) (ops:Array Oper) (Env:World→Prop) (Rl:World→World→Prop) (mo:Bool) (Pn:List PanicEntry→World→Prop) (N:Nat) (F:bR) (Z:ik) (o:Oper) (S:cH) (Z':ik):Prop:=
 (FQ P ops Env Rl N F o S∧Z'=Z)∨(mo=true∧GU P ops Env Rl Pn N F Z o S Z')
def eC (P:Program) (ops:Array Oper) (Env:World→Prop) (Rl:World→World→Prop) (mo:Bool) (Pn:List PanicEntry→World→Prop) (N:Nat):List Oper→bR→ik→(bR→ik→Prop)→Prop
 |[],F,Z,K=>K F Z
 |o::rest,F,Z,K=>(∀t,bD Rl (F t))→cm Z→∃S Z',eQ P ops Env Rl mo Pn N F Z o S Z'∧eC P ops Env Rl mo Pn N rest (im F o.dst S) Z' K
theorem gV:∀(l:List Oper) (F:bR) (Z:ik) {K K':bR→ik→Prop},(∀F Z,K F Z→K' F Z)→eC P ops Env Rl mo Pn N l F Z K→eC P ops Env Rl mo Pn N l F Z K'
 |[],F,Z,_,_,hK,h=>hK _ _ h
 |o::l,F,Z,_,_,hK,h=>fun hF hZ=>by
  obtain⟨S,Z',h1,h2⟩:=h hF hZ
  exact⟨S,Z',h1,gV l _ _ hK h2⟩
theorem fU {o:Oper} {F:bR} {d:Option Tmp} {S:cH} (h:∀e,d=some e→e∉o.looksAt ops) (a:Act) (w:World):kK ops o (im F d S) a w↔kK ops o F a w:=by
 unfold kK
 constructor
 ·intro hs t ht
  have:=hs t ht
  rwa [yU F S (fun e he=>by rintro rfl;exact h _ he ht)] at this
 ·intro hs t ht
  rw[yU F S (fun e he=>by rintro rfl;exact h _ he ht)]
  exact hs t ht
theorem eQ.of_upd {o:Oper} {F:bR} {Z Z':ik} {d:Option Tmp} {S R:cH} (h:∀e,d=some e→e∉o.looksAt ops) (hs:eQ P ops Env Rl mo Pn N (im F d S) Z o R Z'):eQ P ops Env Rl mo Pn N F Z o R Z':=by
 rcases hs with⟨hs,hz⟩|⟨hm,hs⟩
 ·exact .inl ⟨⟨hs.stable,hs.dst,fun a w h1 h2 h3=>hs.yes a w h1 h2 ((fU h a w).2 h3),fun a w h1 h2 h3=>hs.no a w h1 h2 ((fU h a w).2 h3)⟩,hz⟩
 ·exact .inr ⟨hm,⟨hs.call,hs.stable,hs.zst,hs.dst,fun a w h1 h2 h3=>hs.yes a w h1 h2 ((fU h a w).2 h3),fun a w h1 h2 h3=>hs.no a w h1 h2 ((fU h a w).2 h3)⟩⟩
theorem eQ.to_upd {o:Oper} {F:bR} {Z Z':ik} {d:Option Tmp} {S R:cH} (h:∀e,d=some e→e∉o.looksAt ops) (hs:eQ P ops Env Rl mo Pn N F Z o R Z'):eQ P ops Env Rl mo Pn N (im F d S) Z o R Z':=by
 rcases hs with⟨hs,hz⟩|⟨hm,hs⟩
 ·exact .inl ⟨⟨hs.stable,hs.dst,fun a w h1 h2 h3=>hs.yes a w h1 h2 ((fU h a w).1 h3),fun a w h1 h2 h3=>hs.no a w h1 h2 ((fU h a w).1 h3)⟩,hz⟩
 ·exact .inr ⟨hm,⟨hs.call,hs.stable,hs.zst,hs.dst,fun a w h1 h2 h3=>hs.yes a w h1 h2 ((fU h a w).1 h3),fun a w h1 h2 h3=>hs.no a w h1 h2 ((fU h a w).1 h3)⟩⟩
theorem eQ.stable {o:Oper} {F:bR} {Z Z':ik} {S:cH} (h:eQ P ops Env Rl mo Pn N F Z o S Z'):bD Rl S:=h.elim (·.1.stable) (·.2.stable)
theorem eQ.zst {o:Oper} {F:bR} {Z Z':ik} {S:cH} (h:eQ P ops Env Rl mo Pn N F Z o S Z') (hZ:cm Z):cm Z':=h.elim (fun h=>h.2▸hZ) (·.2.zst)
theorem eQ.swap {oi oj:Oper} {F:bR} {Z Z' Z'':ik} {S R:cH} (hi:eQ P ops Env Rl mo Pn N F Z oi S Z') (hj:eQ P ops Env Rl mo Pn N (im F oi.dst S) Z' oj R Z'')
 (h1:∀e,oi.dst=some e→e∉oj.looksAt ops) (h3:∀e,oj.dst=some e→e∉oi.looksAt ops) (hx:¬(mo=true∧jg oi=true∧jg oj=true)):
 ∃Z1,eQ P ops Env Rl mo Pn N F Z oj R Z1∧eQ P ops Env Rl mo Pn N (im F oj.dst R) Z1 oi S Z'':=by
 have hj:=hj.of_upd h1
 have hi':=hi
 rcases hi' with⟨hq,rfl⟩|⟨hm,hq⟩
 ·refine⟨Z'',hj,eQ.to_upd h3 (.inl ⟨hq,rfl⟩)⟩
 ·rcases hj with⟨hr,rfl⟩|⟨_,hr⟩
  ·exact⟨Z,.inl ⟨hr,rfl⟩,eQ.to_upd h3 hi⟩
  ·exact absurd ⟨hm,hq.call,hr.call⟩ hx
def gi (P:Program) (md:Region.Mode) (ops:Array Oper) (Env:World→Prop) (Rl:World→World→Prop) (mo:Bool) (Pn:List PanicEntry→World→Prop) (N n:Nat) (L:Array Bool→bR→ik→Prop):Nat→Array Bool→bR→ik→Prop
 |0,listed,F,Z=>L listed F Z
 |f+1,listed,F,Z=>
  Region.ready md ops listed≠[]∧∀i∈Region.ready md ops listed,i<n∧∃o S Z',ops[i]? =some o∧eQ P ops Env Rl mo Pn N F Z o S Z'∧gi P md ops Env Rl mo Pn N n L f (listed.setIfInBounds i true) (im F o.dst S) Z'
theorem u5.put {D:List Deferred} {F:bR} {a:Act} {w w':World} (hs:u5 N D F a w) (hst:∀t,bD Rl (F t)) (he:Rl w w') {dst:Option Tmp} (hd:∀d,dst=some d→d<N) {S:cH} {v:Value} (hv:S v w'):
 u5 N D (im F dst S) (a.put dst v) w':=by
 cases dst with
 |none=>exact⟨hs.size,hs.defers,fun t=>hst t _ _ _ (hs.at_ t) he⟩
 |some d=>
  refine⟨by simp[Act.put,hs.size],hs.defers,fun t=>?_⟩
  have hlt:=hd d rfl
  by_cases htd:t=d
  ·subst htd
   rw[jB]
   have:(a.put (some t) v).tmps.getD t undef=v:=by
    simp[Act.put,hs.size,hlt]
   rw[this]
   exact hv
  ·rw[kV F S htd]
   have:(a.put (some d) v).tmps.getD t undef=a.tmps.getD t undef:=by
    simp[Act.put,Array.getElem?_setIfInBounds_ne (Ne.symm htd)]
   rw[this]
   exact hst t _ _ _ (hs.at_ t) he
theorem iV {F:bR} (hst:∀t,bD Rl (F t)) {d:Option Tmp} {S:cH} (hS:bD Rl S):∀t,bD Rl (im F d S t):=by
 intro t
 cases d with
 |none=>exact hst t
 |some d=>
  by_cases h:t=d
  ·subst h;rw[jB];exact hS
  ·rw[kV F S h];exact hst t
def gW (l0:List (Nat×Value)) (a:Act):Prop:=∀p∈l0,a.tmps.getD p.1 undef=p.2
theorem gW.put {l0:List (Nat×Value)} {a:Act} (h:gW l0 a) {dst:Option Tmp} (hd:∀d,dst=some d→∀p∈l0,p.1≠d) (v:Value):gW l0 (a.put dst v):=fun p hp=>by
 cases dst with
 |none=>exact h p hp
 |some d=>
  have:(a.put (some d) v).tmps.getD p.1 undef=a.tmps.getD p.1 undef:=by
   simp[Act.put,Array.getElem?_setIfInBounds_ne (Ne.symm (hd d rfl p hp))]
  rw[this]
  exact h p hp
theorem tC {l0:List (Nat×Value)} {D:List Deferred} {i:Nat} {o:Oper} {F:bR} {Z Z':ik} {S:cH} {a:Act} {w:World} {K:Act→World→Prop} {Q:Exit→Act→World→Prop} (hE:fb Env Rl) (hP:∀c a w,a.tmps.size=N→a.defers=D→gW l0 a→Pn c w→Q (.panic c) a w) (hi:ops[i]? =some o) (hs:eQ P ops Env Rl mo Pn N F Z o S Z')
 (hF:∀t,bD Rl (F t)) (hZ:cm Z) (he:Env w) (hsat:u5 N D F a w) (hk:gW l0 a) (hd0:∀d,o.dst=some d→∀p∈l0,p.1≠d) (hz:Z w) (h:∀a' w',Env w'→u5 N D (im F o.dst S) a' w'→gW l0 a'→Z' w'→K a' w'):wpOp P ops Q i K a w:=by
 have rr:∀w,Rl w w:=fun w=>hE.ext w w (aE.refl w)
 unfold wpOp
 simp only[hi]
 have hon:kK ops o F a w:=fun t _=>hsat.at_ t
 split
 ·rename_i hw
  refine .inl ?_
  rcases hs with⟨hs,rfl⟩|⟨_,hs⟩
  ·have h1:=hs.yes a w hsat.size he hon hw
   unfold Oper.wp
   generalize (execOp a.eval o).run P w=r at h1
   cases r with
   |ok n w'=>
    cases n<;>simp only[mV] at h1<;>simp only[Oper.upon]
    case value v=>exact h _ _ (hE.keep _ _ he (hE.ext _ _ h1.1)) (hsat.put hF (hE.ext _ _ h1.1) hs.dst h1.2) (hk.put hd0 _) (hZ _ _ hz h1.1)
    case skip=>exact h _ _ (hE.keep _ _ he (hE.ext _ _ h1.1)) (hsat.put hF (hE.ext _ _ h1.1) hs.dst h1.2) (hk.put hd0 _) (hZ _ _ hz h1.1)
    case enter f args=>
     refine h1.2.mono ?_
     rintro e w'' ⟨v,rfl,hx,hv⟩
     exact h _ _ (hE.keep _ _ he (hE.ext _ _ hx)) (hsat.put hF (hE.ext _ _ hx) hs.dst hv) (hk.put hd0 _) (hZ _ _ hz hx)
   |halt x w'=>simp only[mV] at h1
  ·have h1:=hs.yes a w hsat.size he hon hz hw
   unfold Oper.wp
   generalize (execOp a.eval o).run P w=r at h1
   cases r with
   |ok n w'=>
    cases n<;>simp only[tB] at h1<;>simp only[Oper.upon]
    case enter f args=>
     refine h1.mono ?_
     rintro e w'' (⟨v,rfl,hx,hv,hz'⟩|⟨c,rfl,hp⟩)
     ·exact h _ _ (hE.keep _ _ he hx) (hsat.put hF hx hs.dst hv) (hk.put hd0 _) hz'
     ·exact hP _ _ _ hsat.size hsat.defers hk hp
   |halt x w'=>simp only[tB] at h1
 ·rename_i hw
  have hw:Region.wanted o (yielded ops a.tmps)=false:=by simpa using hw
  rcases hs with⟨hs,rfl⟩|⟨_,hs⟩
  ·exact h _ _ he (hsat.put hF (rr _) hs.dst (hs.no a w hsat.size he hon hw)) (hk.put hd0 _) hz
  ·have h1:=hs.no a w hsat.size he hon hz hw
   exact h _ _ he (hsat.put hF (rr _) hs.dst h1.1) (hk.put hd0 _) h1.2
theorem ep {l0:List (Nat×Value)} {D:List Deferred} {n g:Nat} {L:Array Bool→bR→ik→Prop} {Q':Exit→Act→World→Prop} (hE:fb Env Rl) (hP:∀c a w,a.tmps.size=N→a.defers=D→gW l0 a→Pn c w→Q' (.panic c) a w)
 (hd0:∀i o,i<n→ops[i]? =some o→∀d,o.dst=some d→∀p∈l0,p.1≠d)
 (hL:∀listed F Z,L listed F Z→(∀t,bD Rl (F t))→cm Z→∀a w,Env w→u5 N D F a w→Z w→wpAny P md ops Q' g listed a w):
 ∀(f:Nat) (listed:Array Bool) (F:bR) (Z:ik),gi P md ops Env Rl mo Pn N n L f listed F Z→(∀t,bD Rl (F t))→cm Z→∀a w,Env w→u5 N D F a w→gW l0 a→Z w→wpAny P md ops Q' (f+g) listed a w
 |0,listed,F,Z,h,hF,hZ,a,w,he,hs,_,hz=>by rw[Nat.zero_add];exact hL _ _ _ h hF hZ a w he hs hz
 |f+1,listed,F,Z,h,hF,hZ,a,w,he,hs,hk,hz=>by
  rw[show f+1+g=(f+g)+1 by omega]
  refine⟨fun h0=>absurd h0 h.1,fun i hi=>?_⟩
  obtain⟨hin,o,S,Z',ho,hspec,hrest⟩:=h.2 i hi
  exact tC hE hP ho hspec hF hZ he hs hk (hd0 i o hin ho) hz (fun a' w' he' hs' hk' hz'=>ep hE hP hd0 hL f _ _ _ hrest (iV hF hspec.stable) (hspec.zst hZ) a' w' he' hs' hk' hz')
def pT (md:Region.Mode) (ops:Array Oper):Nat→Nat→Nat→Bool
 |0,_,_=>false
 |f+1,j,i=>Region.waitsFor md ops j i||(List.range ops.size).any fun k=>Region.waitsFor md ops j k&&pT md ops f k i
def xz (ops:Array Oper) (i:Nat):Bool:=match ops[i]? with|some o=>jg o|none=>false
def fC (md:Region.Mode) (ops:Array Oper):Bool:=(List.range ops.size).all fun j=> !xz ops j||(List.range j).all fun i=> !xz ops i||pT md ops ops.size j i
theorem mX {n:Nat} {listed:Array Bool} (inv:HeadInv md ops n listed) {i:Nat}:∀(f j:Nat),pT md ops f j i=true→(∀oj,ops[j]? =some oj→∀e∈oj.after,Region.binds md e=true→listed.getD e.on false=true)→listed.getD i false=true
 |0,_,h,_=>by simp[pT] at h
 |f+1,j,h,hj=>by
  simp only[pT,Bool.or_eq_true,List.any_eq_true,Bool.and_eq_true] at h
  rcases h with h|⟨k,_,h1,h2⟩
  ·obtain⟨oj,ho,e,he,hb,hon⟩:=Region.waitsFor_spec h
   rw[←hon]
   exact hj oj ho e he hb
  ·obtain⟨oj,ho,e,he,hb,hon⟩:=Region.waitsFor_spec h1
   have hk:=hj oj ho e he hb
   rw[hon] at hk
   exact mX inv f k h2 fun ok hok e he hb=>inv.closed k ok hok hk e he hb
theorem zZ {n:Nat} {listed:Array Bool} (hc:fC md ops=true) (inv:HeadInv md ops n listed) {i j:Nat} {oi oj:Oper} (hi:i∈Region.ready md ops listed) (hj:j∈Region.ready md ops listed) (hoi:ops[i]? =some oi) (hoj:ops[j]? =some oj) (hne:j≠i):¬(jg oi=true∧jg oj=true):=by
 rintro⟨h1,h2⟩
 have key:∀{i j:Nat} {oi oj:Oper},i∈Region.ready md ops listed→j∈Region.ready md ops listed→ops[i]? =some oi→ops[j]? =some oj→jg oi=true→jg oj=true→i<j→False:=by
  intro i j oi oj hi hj hoi hoj h1 h2 hlt
  obtain⟨hun,_⟩:=mem_ready.1 hi
  obtain⟨_,oj',hoj',hall⟩:=mem_ready.1 hj
  have hjs:j<ops.size:=(Array.getElem?_eq_some_iff.1 hoj).1
  have h3:=List.all_eq_true.1 hc j (List.mem_range.2 hjs)
  simp only[xz,hoj,h2,Bool.not_true,Bool.false_or,List.all_eq_true,List.mem_range,Bool.or_eq_true,Bool.not_eq_true'] at h3
  have h4:=h3 i hlt
  simp only[hoi,h1] at h4
  have h4:=h4.resolve_left (by simp)
  have h5:=mX inv _ _ h4 fun o ho e he hb=>by
   have:o=oj':=Option.some.inj (ho.symm.trans hoj')
   subst this
   exact hall e he hb
  rw[getD_both hun] at h5
  cases h5
 rcases Nat.lt_or_ge i j with h|h
 ·exact key hi hj hoi hoj h1 h2 h
 ·exact key hj hi hoj hoi h2 h1 (by omega)
theorem jr {n i:Nat} {oi:Oper} {S:cH} {L:Array Bool→bR→ik→Prop} (hi:ops[i]? =some oi) (hcalls:mo=true→fC md ops=true) (hin:i<n)
 (htail:∀listed,HeadInv md ops n listed→listed.getD i true=false→∀t,n≤t→t∉Region.ready md ops listed)
 (hdone:∀listed F Z,L listed F Z→∀j∈Region.ready md ops listed,n≤j):
 ∀(f:Nat) (listed:Array Bool) (F:bR) (Z Z':ik),HeadInv md ops n listed→
  (∀j oj,ops[j]? =some oj→j≠i→listed.getD j true=false→(∀e∈oj.after,Region.binds md e=true→e.on≠i)→oi.apart ops oj=true)→
  i∈Region.ready md ops listed→eQ P ops Env Rl mo Pn N F Z oi S Z'→
  gi P md ops Env Rl mo Pn N n L f (listed.setIfInBounds i true) (im F oi.dst S) Z'→gi P md ops Env Rl mo Pn N n L (f+1) listed F Z:=by
 intro f
 induction f with
 |zero=>
  intro listed F Z Z' inv _ hr hy H
  have hun:=(mem_ready.1 hr).1
  refine⟨fun h=>(by rw[h] at hr;cases hr),fun j hj=>?_⟩
  have hjn:j<n:=by
   rcases Nat.lt_or_ge j n with h|h
   ·exact h
   ·exact absurd hj (htail listed inv hun j h)
  refine⟨hjn,?_⟩
  by_cases hji:j=i
  ·subst hji;exact⟨oi,S,Z',hi,hy,H⟩
  ·have:=hdone _ _ _ H j (ready_mono hj hji)
   omega
 |succ f ih=>
  intro listed F Z Z' inv hfree hr hy H
  have hun:=(mem_ready.1 hr).1
  refine⟨fun h=>(by rw[h] at hr;cases hr),fun j hj=>?_⟩
  have hjn:j<n:=by
   rcases Nat.lt_or_ge j n with h|h
   ·exact h
   ·exact absurd hj (htail listed inv hun j h)
  refine⟨hjn,?_⟩
  by_cases hji:j=i
  ·subst hji;exact⟨oi,S,Z',hi,hy,H⟩
  ·obtain⟨_,oj,R,Z'',hoj,hspec,hrest⟩:=H.2 j (ready_mono hj hji)
   obtain⟨hjun,oj',hoj',hall⟩:=mem_ready.1 hj
   obtain rfl:oj=oj':=Option.some.inj (hoj.symm.trans hoj')
   have hnot:∀e∈oj.after,Region.binds md e=true→e.on≠i:=fun e he hb heq=>by
    have h1:=hall e he hb
    rw[heq,getD_both hun] at h1
    cases h1
   obtain⟨h1,h2,h3⟩:=Oper.apart_spec (hfree j oj hoj hji hjun hnot)
   have hfree':∀k ok,ops[k]? =some ok→k≠i→(listed.setIfInBounds j true).getD k true=false→
    (∀e∈ok.after,Region.binds md e=true→e.on≠i)→oi.apart ops ok=true:=fun k ok hk hki hun hno=>by
    refine hfree k ok hk hki ?_ hno
    by_cases hjk:j=k
    ·subst hjk;exact hjun
    ·rw[getD_set_ne true hjk] at hun;exact hun
   obtain⟨Z1,hsj,hsi⟩:=eQ.swap hy hspec h1 h3 fun⟨hm,hc⟩=>zZ (hcalls hm) inv hr hj hi hoj hji hc
   refine⟨oj,R,Z1,hoj,hsj,ih (listed.setIfInBounds j true) _ _ _ (inv.set hj hjn) hfree' (ready_mono hr (Ne.symm hji)) hsi ?_⟩
   rw[Array.setIfInBounds_comm _ _ hji,←BD F S R h2]
   exact hrest
theorem tD {n i:Nat} {oi:Oper} {S:cH} {L:Array Bool→bR→ik→Prop} (hi:ops[i]? =some oi) (hcalls:mo=true→fC md ops=true)
 (hs:Region.sinkB md ops n=true) (hc:Region.chainB md ops n=true) (hn:n<ops.size) (hin:i<n)
 (hdone:∀listed F Z,L listed F Z→∀j∈Region.ready md ops listed,n≤j):
 ∀(f:Nat) (listed:Array Bool) (F:bR) (Z Z':ik),HeadInv md ops n listed→
  (∀j oj,ops[j]? =some oj→j≠i→listed.getD j true=false→(∀e∈oj.after,Region.binds md e=true→e.on≠i)→oi.apart ops oj=true)→
  i∈Region.ready md ops listed→eQ P ops Env Rl mo Pn N F Z oi S Z'→
  gi P md ops Env Rl mo Pn N n L f (listed.setIfInBounds i true) (im F oi.dst S) Z'→gi P md ops Env Rl mo Pn N n L (f+1) listed F Z:=
 jr hi hcalls hin (fun _ inv hun t ht=>tail_waits hs hc hn inv _ i rfl hin hun t ht) hdone
theorem mn {n g:Nat} {Lq:bR→ik→Prop} (hcalls:mo=true→fC md ops=true) (hs:Region.sinkB md ops n=true) (hc:Region.chainB md ops n=true) (hn:n<ops.size):
 ∀(l:List Oper) (k:Nat) (listed:Array Bool) (F:bR) (Z:ik),(∀j,j<l.length→l[j]? =ops[k+j]?)→k+l.length=n→HeadInv md ops n listed→
 Region.lexHead md ops g l.length k listed=true→(∀t,bD Rl (F t))→cm Z→eC P ops Env Rl mo Pn N l F Z Lq→
 gi P md ops Env Rl mo Pn N n (fun listed' F' Z'=>Region.seqB md ops g n listed'=true∧Lq F' Z') l.length listed F Z
 |[],k,listed,F,Z,_,hk,_,hB,_,_,h=>by
  have:k=n:=by simpa using hk
  subst this
  exact⟨by simpa [Region.lexHead] using hB,h⟩
 |o::l,k,listed,F,Z,hl,hk,inv,hB,hF,hZ,h=>by
  have h0:ops[k]? =some o:=by simpa using(hl 0 (by simp)).symm
  simp only[List.length_cons,Region.lexHead,Bool.and_eq_true] at hB
  obtain⟨⟨hr,hf⟩,hB'⟩:=hB
  have hkn:k<n:=by simp only[List.length_cons] at hk;omega
  have hr':k∈Region.ready md ops listed:=by simpa using hr
  obtain⟨S,Z',hspec,hrest⟩:=h hF hZ
  exact tD h0 hcalls hs hc hn hkn (fun listed' F' Z' hL=>seqB_ready hL.1) l.length listed F Z Z' inv (Region.free_spec h0 hf) hr' hspec
   (mn hcalls hs hc hn l (k+1) _ _ _ (fun j hj=>by have:=hl (j+1) (by simp;omega);simpa [Nat.add_assoc,Nat.add_comm 1 j] using this) (by simp only[List.length_cons] at hk;omega) (inv.set hr' hkn) hB' (iV hF hspec.stable) (hspec.zst hZ) hrest)
theorem po {l0:List (Nat×Value)} {id:Nat} {Q:Exit→Act→World→Prop} {a:Act} {D:List Deferred} {F:bR} {Z:ik} {w:World} {l:List Oper} (n N:Nat) (hE:fb Env Rl) (hk:gW l0 a) (hd0:∀o∈l.take n,∀d,o.dst=some d→∀p∈l0,p.1≠d) (hP:∀c a w,a.tmps.size=N→a.defers=D→gW l0 a→Pn c w→Q (.panic c) a w) (hcalls:mo=true→fC .any l.toArray=true) (hm:P.follows .mixedOrders=true) (hB:Region.lexTailB .any l.toArray n=true)
 (hF:∀t,bD Rl (F t)) (hZ:cm Z) (hz:Z w) (he:Env w) (hsat:u5 N D F a {w with drawn:=w.drawn+1})
 (h:eC P l.toArray Env Rl mo Pn N (l.take n) F Z (fun F Z=>∀a' w',Env w'→u5 N D F a' w'→Z w'→wpList P l.toArray Q (l.drop n) a' w')):(Code.region id l.toArray true).wp P Q a w:=by
 have hdr:aE w {w with drawn:=w.drawn+1}:=⟨rfl,rfl,rfl,Nat.le_refl _,fun _ _=>rfl⟩
 simp only[Region.lexTailB,Bool.and_eq_true,decide_eq_true_eq] at hB
 obtain⟨⟨⟨⟨_,hn⟩,hs⟩,hc⟩,hlex⟩:=hB
 have hn':n<l.length:=by simpa using hn
 have htl:(l.take n).length=n:=by simp;omega
 have hdl:(l.drop n).length=l.toArray.size-n:=by simp
 have inv0:HeadInv .any l.toArray n (Array.replicate l.toArray.size false):=
  ⟨by simp,fun j oj _ hl=>(by rw[getD_replicate_false] at hl;cases hl),fun t _ ht=>getD_in (by simpa using ht) (getD_replicate_false _ _)⟩
 have H:=mn (md:=.any) (g:=l.toArray.size-n) hcalls hs hc hn (l.take n) 0 _ _ _ (fun j hj=>by
  have hj':j<n:=by rw[htl] at hj;exact hj
  simp[hj']) (by simpa using htl) inv0 (by rw[htl];exact hlex) hF hZ h
 refine wp_region_any hm ?_
 have:=ep (D:=D) (Q':=Q) (g:=l.toArray.size-n) hE hP (fun i o hin ho=>hd0 o (List.mem_of_getElem? (i:=i) (by rw[List.getElem?_take_of_lt hin];simpa using ho))) (fun listed F Z hL hF hZ a' w' he hsat hz=>by
  have:=wpAny_of_seq (md:=.any) (Q':=Q) (l.drop n) n listed a' w' (fun j=>by simp[List.getElem?_drop]) (by rw[hdl];exact hL.1) (hL.2 a' w' he hsat hz)
  rwa [hdl] at this) _ _ _ _ H hF hZ a {w with drawn:=w.drawn+1} (hE.keep _ _ he (hE.ext _ _ hdr)) hsat hk (hZ _ _ hz hdr)
 rw[htl,show n+(l.toArray.size-n)=l.toArray.size by omega] at this
 exact this
abbrev Fsz:List PanicEntry→World→Prop:=fun _ _=>False
end
end Go.Rl
namespace Go.Rl
open Go.RowKit
abbrev Fr:=List (Nat×Value)
def lk:Fr→Nat→Option Value
 |[],_=>none
 |(t,v)::l,s=>match Nat.beq t s with|true=>some v|false=>lk l s
def ev (l:Fr):Operand→Option Value
 |.tmp t=>lk l t
 |.const v=>some v
 |.global g=>some (.pointer (some ⟨g,0,none⟩))
 |.func f=>some (.func (.func f) #[] #[])
structure At (N:Nat) (D:List Deferred) (l:Fr) (a:Act):Prop where
 size:a.tmps.size=N
 defers:a.defers=D
 at_:∀t v,lk l t=some v→a.tmps.getD t undef=v
theorem At.ev {N:Nat} {D:List Deferred} {l:Fr} {a:Act} (h:At N D l a) {x:Operand} {v:Value} (hx:ev l x=some v):a.eval x=v:=by
 cases x with
 |tmp t=>exact h.at_ t v hx
 |const c=>exact Option.some.inj hx
 |global g=>exact Option.some.inj hx
 |func f=>exact Option.some.inj hx
theorem iB (d:Nat) (v:Value) (l:Fr):lk ((d,v)::l) d=some v:=by simp[lk]
theorem jW {d t:Nat} (v:Value) (l:Fr) (h:t≠d):lk ((d,v)::l) t=lk l t:=by
 have:Nat.beq d t=false:=by
  cases hb:Nat.beq d t
  ·rfl
  ·exact absurd (Nat.eq_of_beq_eq_true hb).symm h
 simp[lk,this]
theorem At.put {N:Nat} {D:List Deferred} {l:Fr} {a:Act} (h:At N D l a) {d:Nat} (hd:Nat.blt d N=true) (v:Value):At N D ((d,v)::l) (a.put (some d) v):=by
 have hlt:d<N:=by simpa [Nat.blt_eq] using hd
 refine⟨by simp[Act.put,h.size],h.defers,fun t u ht=>?_⟩
 by_cases htd:t=d
 ·subst htd
  rw[iB] at ht
  obtain rfl:=Option.some.inj ht
  simp[Act.put,h.size,hlt]
 ·rw[jW v l htd] at ht
  have:=h.at_ t u ht
  rw[←this]
  simp[Act.put,Array.getElem?_setIfInBounds_ne (Ne.symm htd)]
def u6:Fr→Fr→Prop
 |[],_=>True
 |(t,v)::l',l=>lk l t=some v∧u6 l' l
theorem BE:∀{l' l:Fr},u6 l' l→∀t v,lk l' t=some v→lk l t=some v
 |[],_,_,t,v,h=>by simp[lk] at h
 |(s,u)::l',l,hs,t,v,h=>by
  by_cases hts:t=s
  ·subst hts
   rw[iB] at h
   obtain rfl:=Option.some.inj h
   exact hs.1
  ·rw[jW u l' hts] at h
   exact BE hs.2 t v h
theorem At.weak {N:Nat} {D:List Deferred} {l l':Fr} {a:Act} (h:At N D l a) (hs:u6 l' l):At N D l' a:=⟨h.size,h.defers,fun t v ht=>h.at_ t v (BE hs t v ht)⟩
abbrev eR:=Exit→Act→World→Prop
section
variable {P:Program} {ops:Array Oper} {Q:eR} {N:Nat} {D:List Deferred}
def bB (P:Program) (ops:Array Oper) (Q:eR) (N:Nat) (D:List Deferred) (l:Fr) (w:World) (os:List Oper):Prop:=∀a,At N D l a→wpList P ops Q os a w
def cn (P:Program) (Q:eR) (N:Nat) (D:List Deferred) (l:Fr) (w:World) (c:Code):Prop:=∀a,At N D l a→c.wp P Q a w
def fz (Q:eR) (N:Nat) (D:List Deferred) (l:Fr) (w:World):Prop:=∀a,At N D l a→Q .normal a w
def fD (Q:eR) (N:Nat) (D:List Deferred) (l:Fr) (w:World) (e:Exit):Prop:=∀a,At N D l a→Q e a w
section code
variable {l l':Fr} {w:World}
theorem cn.weak {c:Code} (hs:u6 l' l) (h:cn P Q N D l' w c):cn P Q N D l w c:=fun a ha=>h a (ha.weak hs)
theorem af {x y:Code} (h:cn P (Exit.then (y.wp P Q) Q) N D l w x):cn P Q N D l w (.seq x y):=fun a ha=>wp_seq (h a ha)
theorem ax (h:fz Q N D l w):cn P Q N D l w .skip:=fun a ha=>wp_skip (h a ha)
theorem ab {y:Code} {Q':eR} (h:cn P Q N D l w y):fz (Exit.then (y.wp P Q) Q') N D l w:=fun a ha=>h a ha
theorem aM {id:Nat} (h:fz Q N D l w):fz (Exit.inBlock id Q) N D l w:=fun a ha=>h a ha
theorem au {id:Nat} {c:Code} (h:cn P (Exit.inBlock id Q) N D l w c):cn P Q N D l w (.block id c):=fun a ha=>wp_block (h a ha)
theorem ba {id:Nat} (h:fD Q N D l w (.exit id)):cn P Q N D l w (.exit id):=fun a ha=>wp_exit (h a ha)
theorem aC {K:Act→World→Prop} {id:Nat} (h:fD Q N D l w (.exit id)):fD (Exit.then K Q) N D l w (.exit id):=fun a ha=>h a ha
theorem aY {id:Nat} (h:fz Q N D l w):fD (Exit.inBlock id Q) N D l w (.exit id):=fun a ha=>by
 show(if id=id then Q .normal a w else Q (.exit id) a w)
 rw[if_pos rfl]
 exact h a ha
theorem oM {id i:Nat} (hne:Nat.beq i id=false) (h:fD Q N D l w (.exit i)):fD (Exit.inBlock id Q) N D l w (.exit i):=fun a ha=>by
 show(if i=id then Q .normal a w else Q (.exit i) a w)
 rw[if_neg (fun e=>by subst e;simp at hne)]
 exact h a ha
theorem ay (h:fD Q N D l w .ret):cn P Q N D l w .ret:=fun a ha=>wp_ret (h a ha)
theorem aB {K:Act→World→Prop} (h:fD Q N D l w .ret):fD (Exit.then K Q) N D l w .ret:=fun a ha=>h a ha
theorem bh {id:Nat} (h:fD Q N D l w .ret):fD (Exit.inBlock id Q) N D l w .ret:=fun a ha=>h a ha
theorem tE {fn:Func} {R:Ending→World→Prop} (hr:fn.results= #[]) (h:R (.returned (.tuple #[])) w):fD (bodyPost P fn R) N [] l w .ret:=fun a ha=>
 ⟨ha.defers,_,by simp[results,hr],h⟩
theorem aD {fn:Func} {R:Ending→World→Prop} {t:Tmp} {v:Value} (hr:fn.results= #[.tmp t]) (hv:lk l t=some v) (h:R (.returned v) w):fD (bodyPost P fn R) N [] l w .ret:=fun a ha=>
 ⟨ha.defers,v,by simp only[results,hr];simp[←ha.at_ t v hv],h⟩
theorem aW {fn:Func} {R:Ending→World→Prop} {t s:Tmp} {v u:Value} (hr:fn.results= #[.tmp t,.tmp s]) (hv:lk l t=some v) (hu:lk l s=some u) (h:R (.returned (.tuple #[v,u])) w):fD (bodyPost P fn R) N [] l w .ret:=fun a ha=>
 ⟨ha.defers,.tuple #[v,u],by simp only[results,hr];simp[←ha.at_ t v hv,←ha.at_ s u hu],h⟩
theorem jX {fn:Func} {R:Ending→World→Prop} {t s r:Tmp} {v u z:Value} (hr:fn.results= #[.tmp t,.tmp s,.tmp r]) (hv:lk l t=some v) (hu:lk l s=some u) (hz:lk l r=some z) (h:R (.returned (.tuple #[v,u,z])) w):fD (bodyPost P fn R) N [] l w .ret:=fun a ha=>
 ⟨ha.defers,.tuple #[v,u,z],by simp only[results,hr];simp[←ha.at_ t v hv,←ha.at_ s u hu,←ha.at_ r z hz],h⟩
theorem fq {fn:Func} {R:Ending→World→Prop} (hr:fn.results= #[]) (h:R (.returned (.tuple #[])) w):fz (bodyPost P fn R) N [] l w:=fun a ha=>
 ⟨ha.defers,_,by simp[results,hr],h⟩
theorem iW {c:Operand} {x y:Code} {b:Bool} (hc:ev l c=some (.bool b)) (ht:b=true→cn P Q N D l w x) (hf:b=false→cn P Q N D l w y):cn P Q N D l w (.cond c x y):=fun a ha=>
 wp_cond_split (ha.ev hc) (fun h=>ht h a ha) (fun h=>hf h a ha)
theorem bi {c:Operand} {x y:Code} {p:Prop} {dp:Decidable p} (hc:ev l c=some (.bool (@decide p dp))) (ht:p→cn P Q N D l w x) (hf:¬p→cn P Q N D l w y):cn P Q N D l w (.cond c x y):=
 iW hc (fun h=>ht (of_decide_eq_true h)) (fun h=>hf (of_decide_eq_false h))
theorem ce {c:Operand} {x y:Code} (hc:ev l c=some (.bool true)) (ht:cn P Q N D l w x):cn P Q N D l w (.cond c x y):=iW hc (fun _=>ht) (fun h=>by cases h)
theorem eS {c:Operand} {x y:Code} (hc:ev l c=some (.bool false)) (hf:cn P Q N D l w y):cn P Q N D l w (.cond c x y):=iW hc (fun h=>by cases h) (fun _=>hf)
theorem ff {c:Code} {α:Type} (fr:α→Fr) (H:α→World→Prop) (h:cn P (Exit.then (fun a w'=>∃x,At N D (fr x) a∧H x w') Q) N D l w c) (k:∀x w',H x w'→fz Q N D (fr x) w'):cn P Q N D l w c:=fun a ha=>
 wp_mono (h a ha) fun e a' w' hq=>by
  cases e with
  |normal=>
   obtain⟨x,hx,hH⟩:=hq
   exact k x w' hH a' hx
  |_=>exact hq
theorem cA {α:Type} {fr:α→Fr} {H:α→World→Prop} (x:α) (hs:u6 (fr x) l) (hH:H x w):fz (Exit.then (fun a w'=>∃x,At N D (fr x) a∧H x w') Q) N D l w:=fun _ ha=>⟨x,ha.weak hs,hH⟩
theorem ci {c:Code} {α:Type} (fr:α→Fr) (H:α→World→Prop) (mu:α→Nat) (x0:α) (hs:u6 (fr x0) l) (h0:H x0 w)
 (round:∀x w',H x w'→cn P (Exit.then (fun a w''=>∃y,At N D (fr y) a∧H y w''∧mu y<mu x) Q) N D (fr x) w' c):cn P Q N D l w (.loop c):=fun a ha=>by
 intro b k cs
 have go:∀(n:Nat) (x:α) (a:Act) (w:World),mu x<n→At N D (fr x) a→H x w→
  ∃e a' w',Q e a' w'∧Arrives P (lone (b.at a (.code c::.inLoop c::k)) cs w) b k cs e a' w':=by
  intro n
  induction n with
  |zero=>intro x a w hlt;omega
  |succ n ih=>
   intro x a w hlt hat hH
   obtain⟨e,a1,w1,hq,harr⟩:=round x w hH a hat b (.inLoop c::k) cs
   cases e with
   |normal=>
    obtain⟨y,hy,hHy,hm⟩:=hq
    obtain⟨e2,a2,w2,hq2,harr2⟩:=ih y a1 w1 (by omega) hy hHy
    exact⟨e2,a2,w2,hq2,.of_steps (Steps.trans harr (.one step_inLoop)) harr2⟩
   |exit id=>exact⟨_,a1,w1,hq,.pass (x:=.inLoop c) rfl (fun _ _=>.inl (by simp)) harr⟩
   |goto l=>exact⟨_,a1,w1,hq,.pass (x:=.inLoop c) rfl (fun _ _=>.inl (by simp)) harr⟩
   |ret=>exact⟨_,a1,w1,hq,.pass (x:=.inLoop c) rfl (fun _ _=>.inl (by simp)) harr⟩
   |panic ch=>exact⟨_,a1,w1,hq,.pass (x:=.inLoop c) rfl (fun _ _=>.inl (by simp)) harr⟩
   |outgrown=>exact⟨_,a1,w1,hq,.pass (x:=.inLoop c) rfl (fun _ _=>.inl (by simp)) harr⟩
 obtain⟨e,a',w',hq,harr⟩:=go (mu x0+1) x0 a w (by omega) (ha.weak hs) h0
 exact⟨e,a',w',hq,.of_steps (.one step_loop) harr⟩
theorem bP {α:Type} {fr:α→Fr} {H:α→World→Prop} {mu:α→Nat} {m:Nat} (y:α) (hs:u6 (fr y) l) (hH:H y w) (hm:mu y<m):fz (Exit.then (fun a w''=>∃y,At N D (fr y) a∧H y w''∧mu y<m) Q) N D l w:=fun _ ha=>⟨y,ha.weak hs,hH,hm⟩
theorem aa {id:Nat} {os:List Oper} (h:bB P os.toArray Q N D l w os):cn P Q N D l w (.region id os.toArray false):=fun a ha=>wp_region_lit (h a ha)
theorem ag (h:fz Q N D l w):bB P ops Q N D l w []:=fun a ha=>h a ha
end code
def da:Nat→List Value→Fr
 |_,[]=>[]
 |i,v::vs=>(i,v)::da (i+1) vs
theorem lF:∀(vs:List Value) (i t:Nat) (v:Value),lk (da i vs) t=some v→i≤t∧vs[t-i]? =some v
 |[],_,_,_,h=>by simp[da,lk] at h
 |u::vs,i,t,v,h=>by
  by_cases hti:t=i
  ·subst hti
   rw[da,iB] at h
   exact⟨Nat.le_refl _,by simpa using h⟩
  ·rw[da,jW u _ hti] at h
   obtain⟨h1,h2⟩:=lF vs (i+1) t v h
   refine⟨by omega,?_⟩
   rw[show t-i=(t-(i+1))+1 by omega]
   simpa using h2
theorem enter {f:FuncId} {fn:Func} {c:Code} {vs:List Value} {w:World} {R:Ending→World→Prop} (hf:P.funcs[f]? =some fn) (hb:fn.body=some c) (hN:fn.ntmps=N) (hle:Nat.ble vs.length N=true)
 (h:cn P (bodyPost P fn R) N [] (da 0 vs) w c):Calls P f vs.toArray w R:=by
 have hle':vs.length≤N:=by simpa using hle
 refine calls_of_wp hf hb (h _ ⟨?_,rfl,fun t v ht=>?_⟩)
 ·simp[hN];omega
 ·obtain⟨_,h2⟩:=lF vs 0 t v ht
  have h2':vs[t]? =some v:=by simpa using h2
  have hlt:t<vs.length:=by
   rcases Nat.lt_or_ge t vs.length with h|h
   ·exact h
   ·rw[List.getElem?_eq_none h] at h2';cases h2'
  rw[List.getElem?_eq_getElem hlt] at h2'
  simpa [Array.getElem?_append,hlt] using h2'
section ops
variable {l:Fr} {w w':World} {rest:List Oper} {d:Nat} {op:Op} {ty:TypeId} {pos:String} {aft:Array Edge}
def mb (l:Fr) (ρ:Operand→Value):Prop:=∀x v,ev l x=some v→ρ x=v
theorem fA {v:Value} (hd:Nat.blt d N=true) (hrun:∀ρ,mb l ρ→(execOp ρ ⟨some d,op,ty,pos,aft,none⟩).run P w=.ok (.value v) w') (k:bB P ops Q N D ((d,v)::l) w' rest):
 bB P ops Q N D l w (⟨some d,op,ty,pos,aft,none⟩::rest):=fun a ha=>by
 refine wpList_plain Ig fun K hK=>?_
 unfold Oper.wp
 rw[hrun a.eval fun x v hx=>ha.ev hx]
 exact hK _ _ (k _ (ha.put hd v))
theorem Fl {op:Op} (hrun:∀ρ,mb l ρ→(execOp ρ ⟨none,op,ty,pos,aft,none⟩).run P w=.ok .skip w') (k:bB P ops Q N D l w' rest):
 bB P ops Q N D l w (⟨none,op,ty,pos,aft,none⟩::rest):=fun a ha=>by
 refine wpList_plain Ig fun K hK=>?_
 unfold Oper.wp
 rw[hrun a.eval fun x v hx=>ha.ev hx]
 exact hK _ _ (k _ ha)
def gv (ops:Array Oper) (l:Fr) (j:Nat):Option Value:=((ops[j]?).bind (·.dst)).bind (lk l)
theorem pV {a:Act} (ha:At N D l a) {j:Nat} {b:Bool} (h:gv ops l j=some (.bool b)):yielded ops a.tmps j=some b:=by
 unfold gv at h
 unfold yielded
 cases hd:(ops[j]?).bind (·.dst) with
 |none=>simp[hd] at h
 |some t=>
  simp only[hd,Option.bind_some] at h⊢
  have h1:=ha.at_ t _ h
  have:a.tmps[t]? =some (.bool b):=by
   cases hx:a.tmps[t]? with
   |none=>
    rw[Array.getD_eq_getD_getElem?,hx] at h1
    simp[undef] at h1
   |some u=>
    rw[Array.getD_eq_getD_getElem?,hx] at h1
    simpa using h1
  rw[this]
theorem ao {dst:Option Tmp} {j:Nat} {b:Bool} (hg:gv ops l j=some (.bool b)) (k:bB P ops Q N D l w (⟨dst,op,ty,pos,aft,none⟩::rest)):bB P ops Q N D l w (⟨dst,op,ty,pos,aft,some (j,b)⟩::rest):=fun a ha=>by
 have h:=k a ha
 have hw1:Region.wanted ⟨dst,op,ty,pos,aft,none⟩ (yielded ops a.tmps)=true:=rfl
 have hw2:Region.wanted ⟨dst,op,ty,pos,aft,some (j,b)⟩ (yielded ops a.tmps)=true:=by simp[Region.wanted,pV ha hg]
 unfold wpList at h⊢
 rw[if_pos hw1] at h
 rw[if_pos hw2]
 exact h
theorem ap {j:Nat} {b b':Bool} (hd:Nat.blt d N=true) (hg:gv ops l j=some (.bool b')) (hb:b'= !b) (k:bB P ops Q N D ((d,undef)::l) w rest):bB P ops Q N D l w (⟨some d,op,ty,pos,aft,some (j,b)⟩::rest):=fun a ha=>by
 have hw2:Region.wanted ⟨some d,op,ty,pos,aft,some (j,b)⟩ (yielded ops a.tmps)=false:=by
  subst hb;simp[Region.wanted,pV ha hg]
 unfold wpList
 rw[if_neg (by rw[hw2];simp)]
 exact k _ (ha.put hd undef)
theorem gO {j:Nat} {b:Bool} {t:Tmp} (hd:Nat.blt d N=true) (ht:(ops[j]?).bind (·.dst)=some t) (hg:lk l t=some undef) (k:bB P ops Q N D ((d,undef)::l) w rest):bB P ops Q N D l w (⟨some d,op,ty,pos,aft,some (j,b)⟩::rest):=fun a ha=>by
 have h1:=ha.at_ t _ hg
 have hw2:Region.wanted ⟨some d,op,ty,pos,aft,some (j,b)⟩ (yielded ops a.tmps)=false:=by
  have:yielded ops a.tmps j=none:=by
   unfold yielded
   rw[ht,Option.bind_some]
   cases hx:a.tmps[t]? with
   |none=>rfl
   |some u=>
    rw[Array.getD_eq_getD_getElem?,hx] at h1
    simp only[Option.getD_some] at h1
    subst h1
    rfl
  simp[Region.wanted,this]
 unfold wpList
 rw[if_neg (by rw[hw2];simp)]
 exact k _ (ha.put hd undef)
theorem ae {x:Operand} {v:Value} (hx:ev l x=some v) (hd:Nat.blt d N=true) (k:bB P ops Q N D ((d,v)::l) w rest):bB P ops Q N D l w (⟨some d,.move x,ty,pos,aft,none⟩::rest):=
 fA hd (fun ρ hρ=>by show Result.ok (Next.value (ρ x)) w=_;rw[hρ x v hx]) k
theorem ac {x:Operand} {v:Value} (hx:ev l x=some v) (hd:Nat.blt d N=true) (k:bB P ops Q N D ((d,v)::l) w rest):bB P ops Q N D l w (⟨some d,.assign x,ty,pos,aft,none⟩::rest):=
 fA hd (fun ρ hρ=>by show Result.ok (Next.value (ρ x)) w=_;rw[hρ x v hx]) k
theorem aG {c x y:Operand} {u:Value} (hc:ev l c=some (.bool true)) (hx:ev l x=some u) (hd:Nat.blt d N=true)
 (k:bB P ops Q N D ((d,u)::l) w rest):bB P ops Q N D l w (⟨some d,.pick c x y,ty,pos,aft,none⟩::rest):=
 fA hd (fun ρ hρ=>by simp[execOp,hρ c _ hc,asBool,hρ x _ hx]) k
theorem aJ {c x y:Operand} {v:Value} (hc:ev l c=some (.bool false)) (hy:ev l y=some v) (hd:Nat.blt d N=true)
 (k:bB P ops Q N D ((d,v)::l) w rest):bB P ops Q N D l w (⟨some d,.pick c x y,ty,pos,aft,none⟩::rest):=
 fA hd (fun ρ hρ=>by simp[execOp,hρ c _ hc,asBool,hρ y _ hy]) k
def bin (op:BinOp) (t:TypeId) (x y:Operand) (a b:Value):Sem Value:=do eqGuard op t x y a b;binOp op t a b
theorem ai {b:BinOp} {t t2:TypeId} {x y:Operand} {u v r:Value} (hx:ev l x=some u) (hy:ev l y=some v) (hd:Nat.blt d N=true) (hrun:(bin b t x y u v).run P w=.ok r w)
 (k:bB P ops Q N D ((d,r)::l) w rest):bB P ops Q N D l w (⟨some d,.binOp b t x y t2,ty,pos,aft,none⟩::rest):=
 fA hd (fun ρ hρ=>by
  have:execOp ρ ⟨some d,.binOp b t x y t2,ty,pos,aft,none⟩=(do pure (Next.value (←bin b t x y (ρ x) (ρ y))):Sem Next):=rfl
  rw[this,hρ x _ hx,hρ y _ hy,Sem.run_bind,hrun];rfl) k
theorem tF {x:Operand} {u r:Value} {f:Value→Sem Value} (he:∀ρ,execOp ρ ⟨some d,op,ty,pos,aft,none⟩=(do pure (Next.value (←f (ρ x))):Sem Next)) (hx:ev l x=some u) (hd:Nat.blt d N=true) (hrun:(f u).run P w=.ok r w')
 (k:bB P ops Q N D ((d,r)::l) w' rest):bB P ops Q N D l w (⟨some d,op,ty,pos,aft,none⟩::rest):=
 fA hd (fun ρ hρ=>by rw[he,hρ x _ hx,Sem.run_bind,hrun];rfl) k
theorem cx {t:TypeId} {x:Operand} {u r:Value} {b:UnOp} (hx:ev l x=some u) (hd:Nat.blt d N=true) (hrun:(Op.unary b u).run P w=.ok r w)
 (k:bB P ops Q N D ((d,r)::l) w rest):bB P ops Q N D l w (⟨some d,.unOp b t x,ty,pos,aft,none⟩::rest):=tF (f:=Op.unary b) (fun _=>rfl) hx hd hrun k
theorem aN {s t:TypeId} {x:Operand} {u r:Value} (hx:ev l x=some u) (hd:Nat.blt d N=true) (hrun:(convert s t u).run P w=.ok r w')
 (k:bB P ops Q N D ((d,r)::l) w' rest):bB P ops Q N D l w (⟨some d,.convert s t x,ty,pos,aft,none⟩::rest):=tF (f:=convert s t) (fun _=>rfl) hx hd hrun k
theorem am {t:TypeId} {x:Operand} {u r:Value} (hx:ev l x=some u) (hd:Nat.blt d N=true) (hrun:(Instr.loadAt t u).run P w=.ok r w)
 (k:bB P ops Q N D ((d,r)::l) w rest):bB P ops Q N D l w (⟨some d,.load t x,ty,pos,aft,none⟩::rest):=tF (f:=Instr.loadAt t) (fun _=>rfl) hx hd hrun k
theorem az {t:TypeId} {x y:Operand} {u v:Value} (hx:ev l x=some u) (hy:ev l y=some v) (hrun:(Instr.storeAt t u v).run P w=.ok () w')
 (k:bB P ops Q N D l w' rest):bB P ops Q N D l w (⟨none,.store t x y,ty,pos,aft,none⟩::rest):=
 Fl (fun ρ hρ=>by
  have:execOp ρ ⟨none,.store t x y,ty,pos,aft,none⟩=(do Instr.storeAt t (ρ x) (ρ y);pure Next.skip:Sem Next):=rfl
  rw[this,hρ x _ hx,hρ y _ hy,Sem.run_bind,hrun];rfl) k
theorem ah {s:TypeId} {x:Operand} {n:Nat} {u r:Value} (hx:ev l x=some u) (hd:Nat.blt d N=true) (hrun:(Instr.fieldAt s u n).run P w=.ok r w)
 (k:bB P ops Q N D ((d,r)::l) w rest):bB P ops Q N D l w (⟨some d,.fieldAddr s x n,ty,pos,aft,none⟩::rest):=tF (f:=fun u=>Instr.fieldAt s u n) (fun _=>rfl) hx hd hrun k
theorem al {x:Operand} {n:Nat} {u r:Value} (hx:ev l x=some u) (hd:Nat.blt d N=true) (hrun:(Instr.extract u n).run P w=.ok r w)
 (k:bB P ops Q N D ((d,r)::l) w rest):bB P ops Q N D l w (⟨some d,.extract x n,ty,pos,aft,none⟩::rest):=tF (f:=fun u=>Instr.extract u n) (fun _=>rfl) hx hd hrun k
theorem cI {t:TypeId} {x:Operand} {u r:Value} (hx:ev l x=some u) (hd:Nat.blt d N=true) (hrun:(Instr.box t u).run P w=.ok r w')
 (k:bB P ops Q N D ((d,r)::l) w' rest):bB P ops Q N D l w (⟨some d,.box t x,ty,pos,aft,none⟩::rest):=tF (f:=Instr.box t) (fun _=>rfl) hx hd hrun k
theorem sk {t:TypeId} {x:Operand} {u r:Value} (hx:ev l x=some u) (hd:Nat.blt d N=true) (hrun:(Instr.arrayAt t u).run P w=.ok r w')
 (k:bB P ops Q N D ((d,r)::l) w' rest):bB P ops Q N D l w (⟨some d,.sliceToArrayPointer t x,ty,pos,aft,none⟩::rest):=tF (f:=Instr.arrayAt t) (fun _=>rfl) hx hd hrun k
theorem aU {t:TypeId} {r:Value} (hd:Nat.blt d N=true) (hrun:(Instr.alloc t true (.tuple #[])).run P w=.ok r w')
 (k:bB P ops Q N D ((d,r)::l) w' rest):bB P ops Q N D l w (⟨some d,.alloc t,ty,pos,aft,none⟩::rest):=
 fA hd (fun ρ _=>by
  have:execOp ρ ⟨some d,.alloc t,ty,pos,aft,none⟩=(do pure (Next.value (←Instr.alloc t true (.tuple #[]))):Sem Next):=rfl
  rw[this,Sem.run_bind,hrun];rfl) k
theorem aq {t:TypeId} {x y:Operand} {u v r:Value} (hx:ev l x=some u) (hy:ev l y=some v) (hd:Nat.blt d N=true) (hrun:(Instr.indexAt t u v).run P w=.ok r w)
 (k:bB P ops Q N D ((d,r)::l) w rest):bB P ops Q N D l w (⟨some d,.indexAddr t x y,ty,pos,aft,none⟩::rest):=
 fA hd (fun ρ hρ=>by
  have:execOp ρ ⟨some d,.indexAddr t x y,ty,pos,aft,none⟩=(do pure (Next.value (←Instr.indexAt t (ρ x) (ρ y))):Sem Next):=rfl
  rw[this,hρ x _ hx,hρ y _ hy,Sem.run_bind,hrun];rfl) k
theorem jY {t:TypeId} {x y:Operand} {u v r:Value} (hx:ev l x=some u) (hy:ev l y=some v) (hd:Nat.blt d N=true) (hrun:(Instr.index t u v).run P w=.ok r w)
 (k:bB P ops Q N D ((d,r)::l) w rest):bB P ops Q N D l w (⟨some d,.index t x y,ty,pos,aft,none⟩::rest):=
 fA hd (fun ρ hρ=>by
  have:execOp ρ ⟨some d,.index t x y,ty,pos,aft,none⟩=(do pure (Next.value (←Instr.index t (ρ x) (ρ y))):Sem Next):=rfl
  rw[this,hρ x _ hx,hρ y _ hy,Sem.run_bind,hrun];rfl) k
theorem fV {t:TypeId} {x y:Operand} {u v r:Value} (hx:ev l x=some u) (hy:ev l y=some v) (hd:Nat.blt d N=true) (hrun:(Instr.makeSlice t u v).run P w=.ok r w')
 (k:bB P ops Q N D ((d,r)::l) w' rest):bB P ops Q N D l w (⟨some d,.makeSlice t x y,ty,pos,aft,none⟩::rest):=
 fA hd (fun ρ hρ=>by
  have:execOp ρ ⟨some d,.makeSlice t x y,ty,pos,aft,none⟩=(do pure (Next.value (←Instr.makeSlice t (ρ x) (ρ y))):Sem Next):=rfl
  rw[this,hρ x _ hx,hρ y _ hy,Sem.run_bind,hrun];rfl) k
def FT (l:Fr):Option Operand→Option (Option Value)
 |none=>some none
 |some x=>(ev l x).map some
theorem xA {ρ:Operand→Value} (hρ:mb l ρ):∀{x:Option Operand} {v:Option Value},FT l x=some v→x.map ρ=v
 |none,v,h=>by simpa [FT] using h
 |some x,v,h=>by
  cases he:ev l x with
  |none=>simp[FT,he] at h
  |some u=>
   simp only[FT,he,Option.map_some,Option.some.injEq] at h
   subst h
   simp[hρ x u he]
theorem db {t:TypeId} {x:Operand} {lo hi mx:Option Operand} {u r:Value} {a b c:Option Value} (hx:ev l x=some u) (hlo:FT l lo=some a) (hhi:FT l hi=some b) (hmx:FT l mx=some c) (hd:Nat.blt d N=true)
 (hrun:(Instr.sliceAt t u a b c).run P w=.ok r w) (k:bB P ops Q N D ((d,r)::l) w rest):bB P ops Q N D l w (⟨some d,.slice t x lo hi mx,ty,pos,aft,none⟩::rest):=
 fA hd (fun ρ hρ=>by
  have:execOp ρ ⟨some d,.slice t x lo hi mx,ty,pos,aft,none⟩=(do pure (Next.value (←Instr.sliceAt t (ρ x) (lo.map ρ) (hi.map ρ) (mx.map ρ))):Sem Next):=rfl
  rw[this,hρ x _ hx,xA hρ hlo,xA hρ hhi,xA hρ hmx,Sem.run_bind,hrun];rfl) k
def pW (l:Fr):List Operand→Option (List Value)
 |[]=>some []
 |x::xs=>match ev l x,pW l xs with|some v,some vs=>some (v::vs)|_,_=>none
theorem gz {ρ:Operand→Value} (hρ:mb l ρ):∀{xs:List Operand} {vs:List Value},pW l xs=some vs→xs.map ρ=vs
 |[],vs,h=>by simpa [pW] using h
 |x::xs,vs,h=>by
  cases h1:ev l x with
  |none=>simp[pW,h1] at h
  |some v=>
   cases h2:pW l xs with
   |none=>simp[pW,h1,h2] at h
   |some vs'=>
    simp only[pW,h1,h2,Option.some.injEq] at h
    subst h
    simp[hρ x v h1,gz hρ h2]
def Eg (l:Fr):List (Nat×Operand)→Option (List (Nat×Value))
 |[]=>some []
 |(i,x)::xs=>match ev l x,Eg l xs with|some v,some vs=>some ((i,v)::vs)|_,_=>none
theorem xB {ρ:Operand→Value} (hρ:mb l ρ):∀{xs:List (Nat×Operand)} {vs:List (Nat×Value)},Eg l xs=some vs→xs.map (fun(i,x)=>(i,ρ x))=vs
 |[],vs,h=>by simpa [Eg] using h
 |(i,x)::xs,vs,h=>by
  cases h1:ev l x with
  |none=>simp[Eg,h1] at h
  |some v=>
   cases h2:Eg l xs with
   |none=>simp[Eg,h1,h2] at h
   |some vs'=>
    simp only[Eg,h1,h2,Option.some.injEq] at h
    subst h
    simp[hρ x v h1,xB hρ h2]
theorem bA {t:TypeId} {ps:List (Nat×Operand)} {vs:List (Nat×Value)} {r:Value} (hp:Eg l ps=some vs) (hd:Nat.blt d N=true) (hrun:(Instr.build t vs.toArray).run P w=.ok r w)
 (k:bB P ops Q N D ((d,r)::l) w rest):bB P ops Q N D l w (⟨some d,.build t ps.toArray,ty,pos,aft,none⟩::rest):=
 fA hd (fun ρ hρ=>by
  have:execOp ρ ⟨some d,.build t ps.toArray,ty,pos,aft,none⟩=(do pure (Next.value (←Instr.build t (ps.toArray.map fun(i,x)=>(i,ρ x)))):Sem Next):=rfl
  rw[this,List.map_toArray,xB hρ hp,Sem.run_bind,hrun];rfl) k
theorem aH {t:TypeId} {n:Nat} {ps:List (Nat×Operand)} {vs:List (Nat×Value)} {r:Value} (hp:Eg l ps=some vs) (hd:Nat.blt d N=true) (hrun:(Instr.buildSlice t n vs.toArray).run P w=.ok r w')
 (k:bB P ops Q N D ((d,r)::l) w' rest):bB P ops Q N D l w (⟨some d,.buildSlice t n ps.toArray,ty,pos,aft,none⟩::rest):=
 fA hd (fun ρ hρ=>by
  have:execOp ρ ⟨some d,.buildSlice t n ps.toArray,ty,pos,aft,none⟩=(do pure (Next.value (←Instr.buildSlice t n (ps.toArray.map fun(i,x)=>(i,ρ x)))):Sem Next):=rfl
  rw[this,List.map_toArray,xB hρ hp,Sem.run_bind,hrun];rfl) k
theorem aQ {x:Operand} {a:Addr} (hx:ev l x=some (.pointer (some a))) (hd:Nat.blt d N=true) (k:bB P ops Q N D ((d,.pointer (some a))::l) w rest):bB P ops Q N D l w (⟨some d,.nilCheck x,ty,pos,aft,none⟩::rest):=
 fA hd (fun ρ hρ=>by simp[execOp,hρ x _ hx]) k
theorem aZ {xs:List Operand} {vs:List Value} {ts:Array TypeId} {r:Value} (hp:pW l xs=some vs) (hd:Nat.blt d N=true) (hrun:(Builtin.append_ ts ty vs.toArray).run P w=.ok r w')
 (k:bB P ops Q N D ((d,r)::l) w' rest):bB P ops Q N D l w (⟨some d,.call {callee:=.builtin .append,args:=xs.toArray,argTypes:=ts},ty,pos,aft,none⟩::rest):=
 fA hd (fun ρ hρ=>by
  simp only[execOp,resolve,invoke,builtin,Sem.run_bind,Sem.run_pure,Result.andThen_ok,List.map_toArray,gz hρ hp,hrun]) k
theorem aO {xs:List Operand} {vs:List Value} {ts:Array TypeId} {r:Value} (hp:pW l xs=some vs) (hd:Nat.blt d N=true) (hrun:(Builtin.len_ ts ty vs.toArray).run P w=.ok r w)
 (k:bB P ops Q N D ((d,r)::l) w rest):bB P ops Q N D l w (⟨some d,.call {callee:=.builtin .len,args:=xs.toArray,argTypes:=ts},ty,pos,aft,none⟩::rest):=
 fA hd (fun ρ hρ=>by
  simp only[execOp,resolve,invoke,builtin,Sem.run_bind,Sem.run_pure,Result.andThen_ok,List.map_toArray,gz hρ hp,hrun]) k
theorem GV {xs:List Operand} {vs:List Value} {ts:Array TypeId} {r:Value} (hp:pW l xs=some vs) (hd:Nat.blt d N=true) (hrun:(Builtin.min_ ts ty vs.toArray).run P w=.ok r w)
 (k:bB P ops Q N D ((d,r)::l) w rest):bB P ops Q N D l w (⟨some d,.call {callee:=.builtin .min,args:=xs.toArray,argTypes:=ts},ty,pos,aft,none⟩::rest):=
 fA hd (fun ρ hρ=>by
  simp only[execOp,resolve,invoke,builtin,Sem.run_bind,Sem.run_pure,Result.andThen_ok,List.map_toArray,gz hρ hp,hrun]) k
theorem GW {xs:List Operand} {vs:List Value} {ts:Array TypeId} {r:Value} (hp:pW l xs=some vs) (hd:Nat.blt d N=true) (hrun:(Builtin.max_ ts ty vs.toArray).run P w=.ok r w)
 (k:bB P ops Q N D ((d,r)::l) w rest):bB P ops Q N D l w (⟨some d,.call {callee:=.builtin .max,args:=xs.toArray,argTypes:=ts},ty,pos,aft,none⟩::rest):=
 fA hd (fun ρ hρ=>by
  simp only[execOp,resolve,invoke,builtin,Sem.run_bind,Sem.run_pure,Result.andThen_ok,List.map_toArray,gz hρ hp,hrun]) k
theorem FU {xs:List Operand} {vs:List Value} {ts:Array TypeId} {r:Value} (hp:pW l xs=some vs) (hd:Nat.blt d N=true) (hrun:(Builtin.copy_ ts ty vs.toArray).run P w=.ok r w')
 (k:bB P ops Q N D ((d,r)::l) w' rest):bB P ops Q N D l w (⟨some d,.call {callee:=.builtin .copy,args:=xs.toArray,argTypes:=ts},ty,pos,aft,none⟩::rest):=
 fA hd (fun ρ hρ=>by
  simp only[execOp,resolve,invoke,builtin,Sem.run_bind,Sem.run_pure,Result.andThen_ok,List.map_toArray,gz hρ hp,hrun]) k
def aw (P:Program) (f:FuncId):Prop:=∃fn,P.funcs[f]? =some fn∧(fn.name== "runtime.NumGoroutine")=false∧fn.body.isNone=false
theorem eK {f:FuncId} (h:aw P f) (args:Array Value) (w:World):(callFunc f args).run P w=.ok (.enter f args) w:=by
 obtain⟨fn,h1,h2,h3⟩:=h
 have h2':¬fn.name= "runtime.NumGoroutine" :=by simpa using h2
 have h3':¬fn.body=none:=by intro h;simp[h] at h3
 unfold callFunc
 simp[Sem.run_bind,program,Sem.run,h1,h2',h3']
def bL (T:Value→World→Prop):Ending→World→Prop:=fun e w'=>∃v,e=.returned v∧T v w'
theorem bL.mono {P:Program} {f:FuncId} {args:Array Value} {w:World} {T T':Value→World→Prop} (h:Calls P f args w (bL T)) (hT:∀v w',T v w'→T' v w'):Calls P f args w (bL T'):=
 Calls.mono h fun _ _ ⟨v,he,hv⟩=>⟨v,he,hT _ _ hv⟩
theorem ak {f:FuncId} {xs:List Operand} {vs:List Value} {ts:Array TypeId} {T:Value→World→Prop} (hf:aw P f) (hp:pW l xs=some vs) (hd:Nat.blt d N=true) (hc:Calls P f vs.toArray w (bL T))
 (k:∀v w',T v w'→bB P ops Q N D ((d,v)::l) w' rest):bB P ops Q N D l w (⟨some d,.call {callee:=.value (.func f),args:=xs.toArray,argTypes:=ts},ty,pos,aft,none⟩::rest):=fun a ha=>by
 refine wpList_plain Ig fun K hK=>?_
 unfold Oper.wp
 have hr:(execOp a.eval ⟨some d,.call {callee:=.value (.func f),args:=xs.toArray,argTypes:=ts},ty,pos,aft,none⟩).run P w=.ok (.enter f vs.toArray) w:=by
  have hρ:mb l a.eval:=fun x v hx=>ha.ev hx
  simp only[execOp,resolve,List.map_toArray,gz hρ hp,Act.eval,Deferred.ofValue,Sem.run_bind,Sem.run_pure,Result.andThen_ok,invoke,Array.append_empty,eK hf,Array.empty_append]
 rw[hr]
 refine hc.mono ?_
 rintro e w' ⟨v,rfl,hv⟩
 exact hK _ _ (k v w' hv _ (ha.put hd v))
end ops
end
end Go.Rl
namespace Go.Rl
open Go.RowKit
def px (l:Fr):bR:=fun t=>match lk l t with|some v=>Is v|none=>Any
theorem fg {Rl:World→World→Prop} (l:Fr):∀t,bD Rl (px l t):=fun t=>by
 unfold px
 split
 ·exact be.is _
 ·exact be.any
def dZ (F:bR):Operand→cH
 |.tmp t=>F t
 |.const c=>Is c
 |.global g=>Is (.pointer (some ⟨g,0,none⟩))
 |.func f=>Is (.func (.func f) #[] #[])
theorem jh {Rl:World→World→Prop} {F:bR} (hF:∀t,bD Rl (F t)) (x:Operand):bD Rl (dZ F x):=by
 cases x with
 |tmp t=>exact hF t
 |_=>exact be.is _
def nP:List cH→World→(List Value→Prop)→Prop
 |[],_,K=>K []
 |S::Ss,w,K=>∀v,S v w→nP Ss w (fun vs=>K (v::vs))
def BF (w:World):List cH→List Value→Prop
 |[],[]=>True
 |S::Ss,v::vs=>S v w∧BF w Ss vs
 |_,_=>False
theorem nP.use:∀{Ss:List cH} {w:World} {K:List Value→Prop} {vs:List Value},nP Ss w K→BF w Ss vs→K vs
 |[],_,_,[],h,_=>h
 |[],_,_,_::_,_,h=>h.elim
 |_::_,_,_,[],_,h=>h.elim
 |_::_,_,K,v::_,h,h1=>nP.use (K:=fun vs=>K (v::vs)) (h _ h1.1) h1.2
def gu (F:bR) (w:World):List Nat→(Fr→Prop)→Prop
 |[],K=>K []
 |t::ts,K=>∀v,F t v w→gu F w ts (fun l=>K ((t,v)::l))
theorem gu.use {F:bR} {w:World} {N:Nat} {D:List Deferred} {a:Act} (hs:u5 N D F a w):∀{ts:List Nat} {K:Fr→Prop},gu F w ts K→∃l,At N D l a∧K l
 |[],_,h=>⟨[],⟨hs.size,hs.defers,fun t v ht=>by simp[lk] at ht⟩,h⟩
 |t::ts,_,h=>by
  obtain⟨l,hl,hk⟩:=gu.use hs (h _ (hs.at_ t))
  refine⟨_,⟨hs.size,hs.defers,fun s v hv=>?_⟩,hk⟩
  by_cases hst:s=t
  ·subst hst
   rw[iB] at hv
   exact Option.some.inj hv
  ·rw[jW _ l hst] at hv
   exact hl.at_ s v hv
section
variable {P:Program} {ops:Array Oper} {Env:World→Prop} {Rl:World→World→Prop} {mo:Bool} {Pn:List PanicEntry→World→Prop} {Z:ik} {N:Nat} {D:List Deferred} {F:bR} {K:bR→ik→Prop} {rest:List Oper} {d:Nat} {op:Op} {ty:TypeId} {pos:String} {aft:Array Edge}
def yV (os:List Oper) (l0:List (Nat×Value)):Bool:=os.all fun o=>match o.dst with|some d=>l0.all fun p=> !(Nat.beq p.1 d)|none=>true
theorem z2 (os:List Oper):yV os []=true:=List.all_eq_true.2 fun o _=>by cases o.dst<;>rfl
theorem pY {os:List Oper} {l0:List (Nat×Value)} (h:yV os l0=true):∀o∈os,∀d,o.dst=some d→∀p∈l0,p.1≠d:=fun o ho d hd p hp he=>by
 have h1:=List.all_eq_true.1 h o ho
 simp only[hd] at h1
 have h2:=List.all_eq_true.1 h1 p hp
 rw[he] at h2
 simp at h2
def Eh:List (Nat×Value)→Fr→Prop
 |[],_=>True
 |p::l0,l=>lk l p.1=some p.2∧Eh l0 l
theorem gW.of:∀{l0:List (Nat×Value)} {l:Fr} {a:Act},Eh l0 l→At N D l a→gW l0 a
 |[],_,_,_,_=>fun _ h=>by cases h
 |q::l0,_,_,h,ha=>fun p hp=>by
  rcases List.mem_cons.1 hp with rfl|hp
  ·exact ha.at_ _ _ h.1
  ·exact gW.of h.2 ha p hp
theorem Ei {Q:eR} {l:Fr} {w:World} {id:Nat} {os:List Oper} (n:Nat) (ts:List Nat) (l0:List (Nat×Value)) (Env:World→Prop) (Rl:World→World→Prop) (mo:Bool) (Pn:List PanicEntry→World→Prop) (Z:ik) (hE:fb Env Rl) (he:Env w) (hZ:cm Z) (hz:Z w) (hsub:Eh l0 l) (hkb:yV (os.take n) l0=true) (hP:∀c a w,a.tmps.size=N→a.defers=D→gW l0 a→Pn c w→Q (.panic c) a w) (hcalls:mo=true→fC .any os.toArray=true) (hm:P.follows .mixedOrders=true) (hB:Region.lexTailB .any os.toArray n=true)
 (h:eC P os.toArray Env Rl mo Pn N (os.take n) (px l) Z (fun F Z=>∀w',Env w'→Z w'→gu F w' ts (fun l'=>bB P os.toArray Q N D l' w' (os.drop n)))):cn P Q N D l w (.region id os.toArray true):=fun a ha=>by
 refine po (D:=D) (F:=px l) (Z:=Z) (l0:=l0) n N hE (gW.of hsub ha) (pY hkb) hP hcalls hm hB (fg l) hZ hz he ⟨ha.size,ha.defers,fun t=>?_⟩ (gV _ _ _ (fun F Z hK a' w' he hs hz=>?_) h)
 ·show px l t (a.tmps.getD t undef) _
  unfold px
  cases hv:lk l t with
  |some v=>exact ha.at_ t v hv
  |none=>trivial
 ·obtain⟨l',hl',hk⟩:=gu.use hs (hK w' he hz)
  exact hk a' hl'
theorem ji {Q:eR} {l:Fr} {w:World} {id:Nat} {os:List Oper} (n:Nat) (ts:List Nat) (Env:World→Prop) (Rl:World→World→Prop) (mo:Bool) (Pn:List PanicEntry→World→Prop) (Z:ik) (hE:fb Env Rl) (he:Env w) (hZ:cm Z) (hz:Z w) (hP:∀c a w,a.defers=D→Pn c w→Q (.panic c) a w) (hcalls:mo=true→fC .any os.toArray=true) (hm:P.follows .mixedOrders=true) (hB:Region.lexTailB .any os.toArray n=true)
 (h:eC P os.toArray Env Rl mo Pn N (os.take n) (px l) Z (fun F Z=>∀w',Env w'→Z w'→gu F w' ts (fun l'=>bB P os.toArray Q N D l' w' (os.drop n)))):cn P Q N D l w (.region id os.toArray true):=
 Ei n ts [] Env Rl mo Pn Z hE he hZ hz trivial (z2 _) (fun c a w _ hd _ hp=>hP c a w hd hp) hcalls hm hB h
theorem bk {Q:eR} {l:Fr} {w:World} {id:Nat} {os:List Oper} (n:Nat) (ts:List Nat) (hm:P.follows .mixedOrders=true) (hB:Region.lexTailB .any os.toArray n=true)
 (h:eC P os.toArray (aE w) aE false Fsz N (os.take n) (px l) (fun _=>True) (fun F _=>∀w',aE w w'→gu F w' ts (fun l'=>bB P os.toArray Q N D l' w' (os.drop n)))):cn P Q N D l w (.region id os.toArray true):=
 ji n ts (aE w) aE false Fsz (fun _=>True) (fb.plain w) (aE.refl w) cm.triv trivial (fun _ _ _ _ h=>h.elim) (fun h=>by cases h) hm hB (gV _ _ _ (fun _ _ h w' he _=>h w' he) h)
theorem bn (h:K F Z):eC P ops Env Rl mo Pn N [] F Z K:=h
theorem jZ {S:cH} (hst:(∀t,bD Rl (F t))→bD Rl S) (hd:Nat.blt d N=true)
 (hrun:∀(a:Act) (w:World),Env w→(∀x∈op.operands.toList,dZ F x (a.eval x) w)→mV P w S ((execOp a.eval ⟨some d,op,ty,pos,aft,none⟩).run P w))
 (k:eC P ops Env Rl mo Pn N rest (im F (some d) S) Z K):eC P ops Env Rl mo Pn N (⟨some d,op,ty,pos,aft,none⟩::rest) F Z K:=fun hF _=>by
 have hlt:d<N:=by simpa [Nat.blt_eq] using hd
 refine⟨S,Z,.inl ⟨⟨hst hF,fun e he=>by obtain rfl:=Option.some.inj he;exact hlt,fun a w _ he hs _=>hrun a w he fun x hx=>?_,fun a w _ _ _ hw=>by simp[Region.wanted] at hw⟩,rfl⟩,k⟩
 cases x with
 |tmp t=>exact hs t (List.mem_append_left _ (List.mem_filterMap.2 ⟨.tmp t,hx,rfl⟩))
 |_=>rfl
theorem bG {j:Nat} {b:Bool} {t:Tmp} (ht:(ops[j]?).bind (·.dst)=some t) (hg:F t=Is (.bool b)) (k:eC P ops Env Rl mo Pn N (⟨some d,op,ty,pos,aft,none⟩::rest) F Z K):
 eC P ops Env Rl mo Pn N (⟨some d,op,ty,pos,aft,some (j,b)⟩::rest) F Z K:=fun hF hZ=>by
 obtain⟨S,Z',hs,hr⟩:=k hF hZ
 have val:∀(a:Act) (w:World),kK ops ⟨some d,op,ty,pos,aft,some (j,b)⟩ F a w→yielded ops a.tmps j=some b:=fun a w h=>by
  have h1:F t (a.tmps.getD t undef) w:=h t (List.mem_append_right _ (by simp[ht]))
  rw[hg] at h1
  have h1:a.tmps.getD t undef=.bool b:=h1
  unfold yielded
  rw[ht,Option.bind_some]
  cases hx:a.tmps[t]? with
  |none=>rw[Array.getD_eq_getD_getElem?,hx] at h1;simp[undef] at h1
  |some u=>rw[Array.getD_eq_getD_getElem?,hx] at h1;simp only[Option.getD_some] at h1;rw[h1]
 have sub:∀(a:Act) (w:World),kK ops ⟨some d,op,ty,pos,aft,some (j,b)⟩ F a w→kK ops ⟨some d,op,ty,pos,aft,none⟩ F a w:=fun a w h s hs=>h s (by
  simp only[Oper.looksAt,List.append_nil] at hs
  exact List.mem_append_left _ hs)
 rcases hs with⟨hs,hz⟩|⟨hm,hs⟩
 ·exact⟨S,Z',.inl ⟨⟨hs.stable,hs.dst,fun a w h1 h2 h3 _=>hs.yes a w h1 h2 (sub a w h3) rfl,fun a w _ _ h3 hw=>by simp[Region.wanted,val a w h3] at hw⟩,hz⟩,hr⟩
 ·exact⟨S,Z',.inr ⟨hm,⟨hs.call,hs.stable,hs.zst,hs.dst,fun a w h1 h2 h3 h4 _=>hs.yes a w h1 h2 (sub a w h3) h4 rfl,fun a w _ _ h3 _ hw=>by simp[Region.wanted,val a w h3] at hw⟩⟩,hr⟩
theorem FV {j:Nat} {b:Bool} {t:Tmp} {u:Value} (hd:Nat.blt d N=true) (ht:(ops[j]?).bind (·.dst)=some t) (hg:F t=Is u) (hu:u=undef∨u=.bool (!b)) (k:eC P ops Env Rl mo Pn N rest (im F (some d) (Is undef)) Z K):
 eC P ops Env Rl mo Pn N (⟨some d,op,ty,pos,aft,some (j,b)⟩::rest) F Z K:=fun _ _=>by
 have hlt:d<N:=by simpa [Nat.blt_eq] using hd
 have val:∀(a:Act) (w:World),kK ops ⟨some d,op,ty,pos,aft,some (j,b)⟩ F a w→yielded ops a.tmps j≠some b:=fun a w h=>by
  have h1:F t (a.tmps.getD t undef) w:=h t (List.mem_append_right _ (by simp[ht]))
  rw[hg] at h1
  have h1:a.tmps.getD t undef=u:=h1
  unfold yielded
  rw[ht,Option.bind_some]
  cases hx:a.tmps[t]? with
  |none=>simp
  |some z=>
   rw[Array.getD_eq_getD_getElem?,hx] at h1
   simp only[Option.getD_some] at h1
   subst h1
   rcases hu with rfl|rfl
   ·simp[undef]
   ·simp
 exact⟨Is undef,Z,.inl ⟨⟨be.is _,fun e he=>by obtain rfl:=Option.some.inj he;exact hlt,fun a w _ _ h3 hw=>by
  have:=val a w h3
  simp[Region.wanted] at hw
  exact absurd hw this,fun _ _ _ _ _ _=>rfl⟩,rfl⟩,k⟩
theorem dU {j:Nat} {b:Bool} {t:Tmp} (hd:Nat.blt d N=true) (ht:(ops[j]?).bind (·.dst)=some t) (hg:F t=Is (.bool (!b))) (k:eC P ops Env Rl mo Pn N rest (im F (some d) (Is undef)) Z K):
 eC P ops Env Rl mo Pn N (⟨some d,op,ty,pos,aft,some (j,b)⟩::rest) F Z K:=FV hd ht hg (.inr rfl) k
theorem an {x:Operand} {S:cH} (hx:dZ F x=S) (hd:Nat.blt d N=true) (k:eC P ops Env Rl mo Pn N rest (im F (some d) S) Z K):eC P ops Env Rl mo Pn N (⟨some d,.move x,ty,pos,aft,none⟩::rest) F Z K:=
 jZ (fun hF=>hx▸jh hF x) hd (fun a w _ h=>by subst hx;exact⟨aE.refl _,h x (by simp[Op.operands])⟩) k
theorem du {x:Operand} {S:cH} (hx:dZ F x=S) (hd:Nat.blt d N=true) (k:eC P ops Env Rl mo Pn N rest (im F (some d) S) Z K):eC P ops Env Rl mo Pn N (⟨some d,.assign x,ty,pos,aft,none⟩::rest) F Z K:=
 jZ (fun hF=>hx▸jh hF x) hd (fun a w _ h=>by subst hx;exact⟨aE.refl _,h x (by simp[Op.operands])⟩) k
theorem jC {c x y:Operand} {S:cH} (hc:dZ F c=Is (.bool true)) (hx:dZ F x=S) (hd:Nat.blt d N=true) (k:eC P ops Env Rl mo Pn N rest (im F (some d) S) Z K):eC P ops Env Rl mo Pn N (⟨some d,.pick c x y,ty,pos,aft,none⟩::rest) F Z K:=
 jZ (fun hF=>hx▸jh hF x) hd (fun a w _ h=>by
  subst hx
  have h1:dZ F c (a.eval c) w:=h c (by simp[Op.operands])
  rw[hc] at h1
  have h1:a.eval c=.bool true:=h1
  have:(execOp a.eval ⟨some d,.pick c x y,ty,pos,aft,none⟩).run P w=.ok (.value (a.eval x)) w:=by simp[execOp,h1,asBool]
  rw[this]
  exact⟨aE.refl _,h x (by simp[Op.operands])⟩) k
theorem u7 {c x y:Operand} {S:cH} (hc:dZ F c=Is (.bool false)) (hy:dZ F y=S) (hd:Nat.blt d N=true) (k:eC P ops Env Rl mo Pn N rest (im F (some d) S) Z K):eC P ops Env Rl mo Pn N (⟨some d,.pick c x y,ty,pos,aft,none⟩::rest) F Z K:=
 jZ (fun hF=>hy▸jh hF y) hd (fun a w _ h=>by
  subst hy
  have h1:dZ F c (a.eval c) w:=h c (by simp[Op.operands])
  rw[hc] at h1
  have h1:a.eval c=.bool false:=h1
  have:(execOp a.eval ⟨some d,.pick c x y,ty,pos,aft,none⟩).run P w=.ok (.value (a.eval y)) w:=by simp[execOp,h1,asBool]
  rw[this]
  exact⟨aE.refl _,h y (by simp[Op.operands])⟩) k
theorem yW {xs:List Operand} {S:cH} {f:List Value→Sem Value} (he:∀ρ,execOp ρ ⟨some d,op,ty,pos,aft,none⟩=(do pure (Next.value (←f (xs.map ρ))):Sem Next)) (hm:∀x∈xs,x∈op.operands.toList)
 (hst:bD Rl S) (hd:Nat.blt d N=true) (hrun:∀w,Env w→nP (xs.map (dZ F)) w (fun vs=>∃r w',(f vs).run P w=.ok r w'∧aE w w'∧S r w'))
 (k:eC P ops Env Rl mo Pn N rest (im F (some d) S) Z K):eC P ops Env Rl mo Pn N (⟨some d,op,ty,pos,aft,none⟩::rest) F Z K:=
 jZ (fun _=>hst) hd (fun a w hw h=>by
  have hall:BF w (xs.map (dZ F)) (xs.map a.eval):=by
   clear hrun he
   induction xs with
   |nil=>trivial
   |cons x xs ih=>exact⟨h x (hm x (by simp)),ih (fun y hy=>hm y (by simp[hy]))⟩
  obtain⟨r,w',h1,h2,h3⟩:=nP.use (hrun w hw) hall
  rw[he,Sem.run_bind,h1]
  exact⟨h2,h3⟩) k
theorem js {xs:List Operand} {vs:List Value} {r:Value} {f:List Value→Sem Value} (he:∀ρ,execOp ρ ⟨some d,op,ty,pos,aft,none⟩=(do pure (Next.value (←f (xs.map ρ))):Sem Next)) (hm:∀x∈xs,x∈op.operands.toList)
 (hx:xs.map (dZ F)=vs.map Is) (hd:Nat.blt d N=true) (hrun:∀w,Env w→(f vs).run P w=.ok r w)
 (k:eC P ops Env Rl mo Pn N rest (im F (some d) (Is r)) Z K):eC P ops Env Rl mo Pn N (⟨some d,op,ty,pos,aft,none⟩::rest) F Z K:=
 jZ (fun _=>be.is _) hd (fun a w hw h=>by
  have hall:xs.map a.eval=vs:=by
   clear hrun he
   induction xs generalizing vs with
   |nil=>cases vs with
    |nil=>rfl
    |cons v vs=>simp at hx
   |cons x xs ih=>cases vs with
    |nil=>simp at hx
    |cons v vs=>
     simp only[List.map_cons,List.cons.injEq] at hx⊢
     have h1:=h x (hm x (by simp))
     rw[hx.1] at h1
     exact⟨h1,ih (fun y hy=>hm y (by simp[hy])) hx.2⟩
  rw[he,Sem.run_bind,hall,hrun w hw]
  exact⟨aE.refl _,rfl⟩) k
theorem aL {b:BinOp} {t t2:TypeId} {x y:Operand} {u v r:Value} (hx:dZ F x=Is u) (hy:dZ F y=Is v) (hd:Nat.blt d N=true) (hrun:∀w,Env w→(bin b t x y u v).run P w=.ok r w)
 (k:eC P ops Env Rl mo Pn N rest (im F (some d) (Is r)) Z K):eC P ops Env Rl mo Pn N (⟨some d,.binOp b t x y t2,ty,pos,aft,none⟩::rest) F Z K:=
 js (xs:=[x,y]) (vs:=[u,v]) (f:=fun|[a,c]=>bin b t x y a c|_=>stuck "") (fun _=>rfl) (by simp[Op.operands]) (by simp[hx,hy]) hd hrun k
theorem Fm {b:UnOp} {t:TypeId} {x:Operand} {u r:Value} (hx:dZ F x=Is u) (hd:Nat.blt d N=true) (hrun:∀w,Env w→(Op.unary b u).run P w=.ok r w)
 (k:eC P ops Env Rl mo Pn N rest (im F (some d) (Is r)) Z K):eC P ops Env Rl mo Pn N (⟨some d,.unOp b t x,ty,pos,aft,none⟩::rest) F Z K:=
 js (xs:=[x]) (vs:=[u]) (f:=fun|[a]=>Op.unary b a|_=>stuck "") (fun _=>rfl) (by simp[Op.operands]) (by simp[hx]) hd hrun k
theorem cP {s t:TypeId} {x:Operand} {u r:Value} (hx:dZ F x=Is u) (hd:Nat.blt d N=true) (hrun:∀w,Env w→(convert s t u).run P w=.ok r w)
 (k:eC P ops Env Rl mo Pn N rest (im F (some d) (Is r)) Z K):eC P ops Env Rl mo Pn N (⟨some d,.convert s t x,ty,pos,aft,none⟩::rest) F Z K:=
 js (xs:=[x]) (vs:=[u]) (f:=fun|[a]=>convert s t a|_=>stuck "") (fun _=>rfl) (by simp[Op.operands]) (by simp[hx]) hd hrun k
theorem av {t:TypeId} {x:Operand} {u r:Value} (hx:dZ F x=Is u) (hd:Nat.blt d N=true) (hrun:∀w,Env w→(Instr.loadAt t u).run P w=.ok r w)
 (k:eC P ops Env Rl mo Pn N rest (im F (some d) (Is r)) Z K):eC P ops Env Rl mo Pn N (⟨some d,.load t x,ty,pos,aft,none⟩::rest) F Z K:=
 js (xs:=[x]) (vs:=[u]) (f:=fun|[a]=>Instr.loadAt t a|_=>stuck "") (fun _=>rfl) (by simp[Op.operands]) (by simp[hx]) hd hrun k
theorem aA {s:TypeId} {n:Nat} {x:Operand} {u r:Value} (hx:dZ F x=Is u) (hd:Nat.blt d N=true) (hrun:∀w,Env w→(Instr.fieldAt s u n).run P w=.ok r w)
 (k:eC P ops Env Rl mo Pn N rest (im F (some d) (Is r)) Z K):eC P ops Env Rl mo Pn N (⟨some d,.fieldAddr s x n,ty,pos,aft,none⟩::rest) F Z K:=
 js (xs:=[x]) (vs:=[u]) (f:=fun|[a]=>Instr.fieldAt s a n|_=>stuck "") (fun _=>rfl) (by simp[Op.operands]) (by simp[hx]) hd hrun k
theorem dl {n:Nat} {x:Operand} {u r:Value} (hx:dZ F x=Is u) (hd:Nat.blt d N=true) (hrun:∀w,Env w→(Instr.extract u n).run P w=.ok r w)
 (k:eC P ops Env Rl mo Pn N rest (im F (some d) (Is r)) Z K):eC P ops Env Rl mo Pn N (⟨some d,.extract x n,ty,pos,aft,none⟩::rest) F Z K:=
 js (xs:=[x]) (vs:=[u]) (f:=fun|[a]=>Instr.extract a n|_=>stuck "") (fun _=>rfl) (by simp[Op.operands]) (by simp[hx]) hd hrun k
theorem gA {n:Nat} {x:Operand} {S S':cH} (hx:dZ F x=S) (hst:bD Rl S') (hd:Nat.blt d N=true) (hrun:∀w v,Env w→S v w→∃r,(Instr.extract v n).run P w=.ok r w∧S' r w)
 (k:eC P ops Env Rl mo Pn N rest (im F (some d) S') Z K):eC P ops Env Rl mo Pn N (⟨some d,.extract x n,ty,pos,aft,none⟩::rest) F Z K:=
 yW (xs:=[x]) (f:=fun|[a]=>Instr.extract a n|_=>stuck "") (fun _=>rfl) (by simp[Op.operands]) hst hd (fun w hw v hv=>by
  subst hx
  obtain⟨r,h1,h2⟩:=hrun w v hw hv
  exact⟨r,w,h1,aE.refl _,h2⟩) k
theorem bm {x:Operand} {a:Addr} (hx:dZ F x=Is (.pointer (some a))) (hd:Nat.blt d N=true) (k:eC P ops Env Rl mo Pn N rest (im F (some d) (Is (.pointer (some a)))) Z K):eC P ops Env Rl mo Pn N (⟨some d,.nilCheck x,ty,pos,aft,none⟩::rest) F Z K:=
 jZ (fun _=>be.is _) hd (fun b w _ h=>by
  have h1:dZ F x (b.eval x) w:=h x (by simp[Op.operands])
  rw[hx] at h1
  have h1:b.eval x=.pointer (some a):=h1
  have:(execOp b.eval ⟨some d,.nilCheck x,ty,pos,aft,none⟩).run P w=.ok (.value (.pointer (some a))) w:=by simp[execOp,h1]
  rw[this]
  exact⟨aE.refl _,rfl⟩) k
theorem ar {t:TypeId} {x y:Operand} {u v r:Value} (hx:dZ F x=Is u) (hy:dZ F y=Is v) (hd:Nat.blt d N=true) (hrun:∀w,Env w→(Instr.indexAt t u v).run P w=.ok r w)
 (k:eC P ops Env Rl mo Pn N rest (im F (some d) (Is r)) Z K):eC P ops Env Rl mo Pn N (⟨some d,.indexAddr t x y,ty,pos,aft,none⟩::rest) F Z K:=
 js (xs:=[x,y]) (vs:=[u,v]) (f:=fun|[a,c]=>Instr.indexAt t a c|_=>stuck "") (fun _=>rfl) (by simp[Op.operands]) (by simp[hx,hy]) hd hrun k
theorem tG {t:TypeId} {S:cH} (hst:bD Rl S) (hd:Nat.blt d N=true) (hrun:∀w,Env w→∃r w',(Instr.alloc t true (.tuple #[])).run P w=.ok r w'∧aE w w'∧S r w')
 (k:eC P ops Env Rl mo Pn N rest (im F (some d) S) Z K):eC P ops Env Rl mo Pn N (⟨some d,.alloc t,ty,pos,aft,none⟩::rest) F Z K:=
 yW (xs:=[]) (f:=fun _=>Instr.alloc t true (.tuple #[])) (fun _=>rfl) (by simp) hst hd hrun k
theorem j0 {t:TypeId} {x:Operand} {lo hi:Option Operand} {u r:Value} {a b:Option Value} (hx:dZ F x=Is u) (hlo:lo.map (dZ F)=a.map Is) (hhi:hi.map (dZ F)=b.map Is) (hd:Nat.blt d N=true)
 (hrun:∀w,Env w→(Instr.sliceAt t u a b none).run P w=.ok r w)
 (k:eC P ops Env Rl mo Pn N rest (im F (some d) (Is r)) Z K):eC P ops Env Rl mo Pn N (⟨some d,.slice t x lo hi none,ty,pos,aft,none⟩::rest) F Z K:=
 jZ (fun _=>be.is _) hd (fun s w hw h=>by
  have opt:∀{o:Option Operand} {c:Option Value},o.map (dZ F)=c.map Is→(∀y,o=some y→y∈(Op.slice t x lo hi none).operands.toList)→o.map s.eval=c:=fun {o c} ho hm=>by
   cases o with
   |none=>cases c with
    |none=>rfl
    |some c=>simp at ho
   |some y=>cases c with
    |none=>simp at ho
    |some c=>
     simp only[Option.map_some,Option.some.injEq] at ho⊢
     have h1:=h y (hm y rfl)
     rw[ho] at h1
     exact h1
  have h0:dZ F x (s.eval x) w:=h x (by simp[Op.operands])
  rw[hx] at h0
  have h0:s.eval x=u:=h0
  have:execOp s.eval ⟨some d,.slice t x lo hi none,ty,pos,aft,none⟩=(do pure (Next.value (←Instr.sliceAt t (s.eval x) (lo.map s.eval) (hi.map s.eval) none)):Sem Next):=rfl
  rw[this,h0,opt hlo (fun y hy=>by subst hy;simp[Op.operands]),opt hhi (fun y hy=>by subst hy;simp[Op.operands]),Sem.run_bind,hrun w hw]
  exact⟨aE.refl _,rfl⟩) k
theorem yX {ps:List (Nat×Operand)} {S:cH} {f:Array (Nat×Value)→Sem Value} (he:∀ρ,execOp ρ ⟨some d,op,ty,pos,aft,none⟩=(do pure (Next.value (←f (ps.toArray.map fun(i,x)=>(i,ρ x)))):Sem Next)) (hm:∀x∈ps,x.2∈op.operands.toList)
 (hst:bD Rl S) (hd:Nat.blt d N=true) (hrun:∀w,Env w→nP (ps.map fun p=>dZ F p.2) w (fun vs=>∃r w',(f ((ps.map (·.1)).zip vs).toArray).run P w=.ok r w'∧aE w w'∧S r w'))
 (k:eC P ops Env Rl mo Pn N rest (im F (some d) S) Z K):eC P ops Env Rl mo Pn N (⟨some d,op,ty,pos,aft,none⟩::rest) F Z K:=
 yW (xs:=ps.map (·.2)) (f:=fun vs=>f ((ps.map (·.1)).zip vs).toArray) (fun ρ=>by
  rw[he]
  have:(ps.toArray.map fun(i,x)=>(i,ρ x))=((ps.map (·.1)).zip ((ps.map (·.2)).map ρ)).toArray:=by
   rw[List.map_toArray]
   congr 1
   clear hm he hrun
   induction ps with
   |nil=>rfl
   |cons p ps ih=>simp only[List.map_cons,List.zip_cons_cons,ih]
  rw[this]) (fun x hx=>by
   obtain⟨p,hp,rfl⟩:=List.mem_map.1 hx
   exact hm p hp) hst hd (fun w hw=>by
   have:=hrun w hw
   rwa [List.map_map]) k
theorem py {t:TypeId} {ps:List (Nat×Operand)} {S:cH} (hst:bD Rl S) (hd:Nat.blt d N=true) (hrun:∀w,Env w→nP (ps.map fun p=>dZ F p.2) w (fun vs=>∃r w',(Instr.build t ((ps.map (·.1)).zip vs).toArray).run P w=.ok r w'∧aE w w'∧S r w'))
 (k:eC P ops Env Rl mo Pn N rest (im F (some d) S) Z K):eC P ops Env Rl mo Pn N (⟨some d,.build t ps.toArray,ty,pos,aft,none⟩::rest) F Z K:=
 yX (ps:=ps) (fun _=>rfl) (fun x hx=>by simp[Op.operands];exact⟨x.1,hx⟩) hst hd hrun k
theorem dz {t:TypeId} {n:Nat} {ps:List (Nat×Operand)} {S:cH} (hst:bD Rl S) (hd:Nat.blt d N=true) (hrun:∀w,Env w→nP (ps.map fun p=>dZ F p.2) w (fun vs=>∃r w',(Instr.buildSlice t n ((ps.map (·.1)).zip vs).toArray).run P w=.ok r w'∧aE w w'∧S r w'))
 (k:eC P ops Env Rl mo Pn N rest (im F (some d) S) Z K):eC P ops Env Rl mo Pn N (⟨some d,.buildSlice t n ps.toArray,ty,pos,aft,none⟩::rest) F Z K:=
 yX (ps:=ps) (fun _=>rfl) (fun x hx=>by simp[Op.operands];exact⟨x.1,hx⟩) hst hd hrun k
theorem bM {f:FuncId} {xs:List Operand} {ts:Array TypeId} {S:cH} (hf:aw P f) (hst:bD Rl S) (hd:Nat.blt d N=true)
 (hc:∀w,Env w→nP (xs.map (dZ F)) w (fun vs=>Calls P f vs.toArray w (bL fun v w'=>aE w w'∧S v w')))
 (k:eC P ops Env Rl mo Pn N rest (im F (some d) S) Z K):eC P ops Env Rl mo Pn N (⟨some d,.call {callee:=.value (.func f),args:=xs.toArray,argTypes:=ts},ty,pos,aft,none⟩::rest) F Z K:=
 jZ (fun _=>hst) hd (fun a w hw h=>by
  have hall:BF w (xs.map (dZ F)) (xs.map a.eval):=by
   have hm:∀x∈xs,dZ F x (a.eval x) w:=fun x hx=>h x (by simp[Op.operands,Call.operands,hx])
   clear hc h
   induction xs with
   |nil=>trivial
   |cons x xs ih=>exact⟨hm x (by simp),ih (fun y hy=>hm y (by simp[hy]))⟩
  have h1:=nP.use (hc w hw) hall
  have hr:(execOp a.eval ⟨some d,.call {callee:=.value (.func f),args:=xs.toArray,argTypes:=ts},ty,pos,aft,none⟩).run P w=.ok (.enter f (xs.map a.eval).toArray) w:=by
   simp only[execOp,resolve,List.map_toArray,Act.eval,Deferred.ofValue,Sem.run_bind,Sem.run_pure,Result.andThen_ok,invoke,Array.append_empty,eK hf,Array.empty_append]
  rw[hr]
  refine⟨aE.refl _,h1.mono ?_⟩
  rintro e w'' ⟨v,rfl,hv⟩
  exact⟨v,rfl,hv⟩) k
theorem cO {f:FuncId} {xs:List Operand} {ts:Array TypeId} {S:cH} {Z':ik} (hf:aw P f) (hm:mo=true) (hst:bD Rl S) (hz:cm Z') (hd:Nat.blt d N=true)
 (hc:∀w,Env w→Z w→nP (xs.map (dZ F)) w (fun vs=>Calls P f vs.toArray w (fun e w'=>(∃v,e=.returned v∧Rl w w'∧S v w'∧Z' w')∨∃c,e=.panicked c∧Pn c w')))
 (k:eC P ops Env Rl mo Pn N rest (im F (some d) S) Z' K):eC P ops Env Rl mo Pn N (⟨some d,.call {callee:=.value (.func f),args:=xs.toArray,argTypes:=ts},ty,pos,aft,none⟩::rest) F Z K:=fun _ _=>by
 have hlt:d<N:=by simpa [Nat.blt_eq] using hd
 refine⟨S,Z',.inr ⟨hm,⟨rfl,hst,hz,fun e he=>by obtain rfl:=Option.some.inj he;exact hlt,fun a w _ hw hs hz hwant=>?_,fun a w _ _ _ _ hw=>by simp[Region.wanted] at hw⟩⟩,k⟩
 have hall:BF w (xs.map (dZ F)) (xs.map a.eval):=by
  have hm:∀x∈xs,dZ F x (a.eval x) w:=fun x hx=>by
   cases x with
   |tmp t=>exact hs t (List.mem_append_left _ (List.mem_filterMap.2 ⟨.tmp t,by simp[Op.operands,Call.operands,hx],rfl⟩))
   |_=>rfl
  clear hc hs hwant
  induction xs with
  |nil=>trivial
  |cons x xs ih=>exact⟨hm x (by simp),ih (fun y hy=>hm y (by simp[hy]))⟩
 have h1:=nP.use (hc w hw hz) hall
 have hr:(execOp a.eval ⟨some d,.call {callee:=.value (.func f),args:=xs.toArray,argTypes:=ts},ty,pos,aft,none⟩).run P w=.ok (.enter f (xs.map a.eval).toArray) w:=by
  simp only[execOp,resolve,List.map_toArray,Act.eval,Deferred.ofValue,Sem.run_bind,Sem.run_pure,Result.andThen_ok,invoke,Array.append_empty,eK hf,Array.empty_append]
 rw[hr]
 exact h1
theorem kW {xs:List Operand} {ts:Array TypeId} {vs:List Value} {r:Value} (hx:xs.map (dZ F)=vs.map Is) (hd:Nat.blt d N=true) (hrun:∀w,Env w→(Builtin.len_ ts ty vs.toArray).run P w=.ok r w)
 (k:eC P ops Env Rl mo Pn N rest (im F (some d) (Is r)) Z K):eC P ops Env Rl mo Pn N (⟨some d,.call {callee:=.builtin .len,args:=xs.toArray,argTypes:=ts},ty,pos,aft,none⟩::rest) F Z K:=
 js (xs:=xs) (vs:=vs) (f:=fun vs=>Builtin.len_ ts ty vs.toArray) (fun ρ=>by simp only[execOp,resolve,invoke,builtin,pure_bind,List.map_toArray]) (fun x hx=>by simp[Op.operands,Call.operands,hx]) hx hd hrun k
theorem GX {xs:List Operand} {ts:Array TypeId} {vs:List Value} {r:Value} (hx:xs.map (dZ F)=vs.map Is) (hd:Nat.blt d N=true) (hrun:∀w,Env w→(Builtin.min_ ts ty vs.toArray).run P w=.ok r w)
 (k:eC P ops Env Rl mo Pn N rest (im F (some d) (Is r)) Z K):eC P ops Env Rl mo Pn N (⟨some d,.call {callee:=.builtin .min,args:=xs.toArray,argTypes:=ts},ty,pos,aft,none⟩::rest) F Z K:=
 js (xs:=xs) (vs:=vs) (f:=fun vs=>Builtin.min_ ts ty vs.toArray) (fun ρ=>by simp only[execOp,resolve,invoke,builtin,pure_bind,List.map_toArray]) (fun x hx=>by simp[Op.operands,Call.operands,hx]) hx hd hrun k
end
end Go.Rl
namespace Go.Rl
open Go.RowKit
def U8 (b:UInt8):Value:=.int .u8 (b.toNat:Int)
def bg (x:UInt32):Value:=.int .u32 (x.toNat:Int)
def bo (x:UInt64):Value:=.int .u64 (x.toNat:Int)
def I (n:Int):Value:=.int .i64 n
def B (b:Bool):Value:=.bool b
theorem aE.cell {w w':World} (h:aE w w') {a:Addr} (ha:a.block<w.heap.size):w'.cell? a=w.cell? a:=Below.cell h ha
theorem aE.cell_some {w w':World} (h:aE w w') {a:Addr} {v:Value} (hv:w.cell? a=some v):w'.cell? a=some v:=(h.cell (World.block_lt_of_cell? w a hv)).trans hv
theorem aE.heap {w w':World} (h:aE w w') {g:Nat} (hg:g<w.heap.size):w'.heap[g]? =w.heap[g]? :=h.block g hg
theorem aE.heap_some {w w':World} (h:aE w w') {g:Nat} {o:Obj} (hv:w.heap[g]? =some o):w'.heap[g]? =some o:=
 (h.heap (Array.getElem?_eq_some_iff.1 hv).1).trans hv
theorem aE.size {w w':World} (h:aE w w'):w.heap.size≤w'.heap.size:=Below.size h
theorem aE.new (w:World) (o:Obj):aE w (w.alloc o):=(aE.refl w).alloc o
theorem aE.of_grown {w0 w w':World} (h:aE w0 w) {row:Option Nat} (hg:w.grownBy w' row) (hr:∀k,row=some k→w0.heap.size≤k):aE w0 w':=
 Below.grown h hg h.size hr
def cS (w:World) (a:Addr) (xs:List Value):Prop:=∀j u,xs[j]? =some u→w.cell? (a.add j)=some u
theorem iL (a:Addr) (n:Nat):(a.add n).block=a.block:=by unfold Addr.add;split<;>rfl
theorem tH (a:Addr) (i j:Nat):(a.add i).add j=a.add (i+j):=by
 unfold Addr.add
 by_cases hi:i=0<;>by_cases hj:j=0<;>simp[hi,hj,Nat.add_assoc]
theorem iX (a:Addr):a.add 0=a:=by simp[Addr.add]
theorem nQ (b o n:Nat):(⟨b,o,none⟩:Addr).add n=⟨b,o+n,none⟩:=by
 unfold Addr.add
 split
 ·rename_i h;subst h;rfl
 ·rfl
theorem cS.ext {w w':World} {a:Addr} {xs:List Value} (h:cS w a xs) (hx:aE w w'):cS w' a xs:=fun j u hu=>hx.cell_some (h j u hu)
theorem cS.drop {w:World} {a:Addr} {xs:List Value} (h:cS w a xs) (k:Nat):cS w (a.add k) (xs.drop k):=fun j u hu=>by
 rw[tH]
 exact h (k+j) u (by rw[←hu,List.getElem?_drop])
theorem cS.take {w:World} {a:Addr} {xs:List Value} (h:cS w a xs) (k:Nat):cS w a (xs.take k):=fun j u hu=>by
 rw[List.getElem?_take] at hu
 split at hu
 ·exact h j u hu
 ·cases hu
def Sl (sz:Nat) (xs:List Value):cH:=fun v w=>∃A n c,v=.slice A n c∧n≤c∧c≤maxLen∧xs.length=n*sz∧(0<n→∃ad,A=some ad∧cS w ad xs)∧(A=none→c=0)
theorem Sl.stable (sz:Nat) (xs:List Value):be (Sl sz xs):=fun v w w' h hx=>by
 obtain⟨A,n,c,h1,h2,h3,h4,h5,h6⟩:=h
 exact⟨A,n,c,h1,h2,h3,h4,fun hn=>(h5 hn).imp fun ad h=>⟨h.1,h.2.ext hx⟩,h6⟩
theorem Sl.ext {sz:Nat} {xs:List Value} {v:Value} {w w':World} (h:Sl sz xs v w) (hx:aE w w'):Sl sz xs v w':=Sl.stable sz xs v w w' h hx
theorem Sl.nil (sz:Nat) (w:World):Sl sz [] (.slice none 0 0) w:=⟨none,0,0,rfl,Nat.le_refl _,Nat.zero_le _,by simp,fun h=>absurd h (by omega),fun _=>rfl⟩
theorem Sl.of_own {base:Nat} {e:TypeId} {sz n:Nat} {v:Value} {xs:List Value} {w:World} (h:w.ownsRow base e sz v n xs):Sl sz xs v w:=by
 rcases h.2 with⟨rfl,rfl⟩|⟨g,cap,cur,rfl,hb,hg,hn,hm,hs,ht⟩
 ·have:xs=[]:=List.eq_nil_of_length_eq_zero (by simpa using h.1)
  subst this
  exact Sl.nil sz w
 ·exact⟨some ⟨g,0,none⟩,n,cap,rfl,hn,hm,h.1,fun _=>⟨_,rfl,h.cells (g:=g) rfl⟩,fun h=>by cases h⟩
theorem eE {w w':World} {base:Nat} {e:TypeId} {sz n:Nat} {v:Value} {xs:List Value} (h:w.ownsRow base e sz v n xs) (hx:aE w w'):w'.ownsRow base e sz v n xs:=by
 refine⟨h.1,?_⟩
 rcases h.2 with h|⟨g,cap,cur,rfl,hb,hg,rest⟩
 ·exact .inl h
 ·exact .inr ⟨g,cap,cur,rfl,hb,hx.heap_some hg,rest⟩
theorem ft {w:World} {base base':Nat} {e:TypeId} {sz n:Nat} {v:Value} {xs:List Value} (h:w.ownsRow base e sz v n xs) (hb:∀k,v.ownBlock=some k→base'≤k):w.ownsRow base' e sz v n xs:=by
 refine⟨h.1,?_⟩
 rcases h.2 with h|⟨g,cap,cur,rfl,_,hg,rest⟩
 ·exact .inl h
 ·exact .inr ⟨g,cap,cur,rfl,hb g rfl,hg,rest⟩
structure fh (w w':World) (v v':Value):Prop where
 grown:w.grownBy w' v.ownBlock
 own:v'.ownBlock=v.ownBlock∨∀k,v'.ownBlock=some k→w.heap.size≤k
theorem fh.trans {a b c:World} {v u z:Value} (h:fh a b v u) (k:fh b c u z):fh a c v z:=by
 refine⟨⟨k.grown.os.trans h.grown.os,k.grown.tape.trans h.grown.tape,k.grown.output.trans h.grown.output,Nat.le_trans h.grown.size k.grown.size,fun i hi hne=>?_⟩,?_⟩
 ·refine(k.grown.block i (Nat.lt_of_lt_of_le hi h.grown.size) ?_).trans (h.grown.block i hi hne)
  rcases h.own with h1|h1
  ·rw[h1];exact hne
  ·intro hu
   have:=h1 i hu.symm
   omega
 ·rcases k.own with k1|k1
  ·rw[k1];exact h.own
  ·exact .inr fun j hj=>Nat.le_trans h.grown.size (k1 j hj)
theorem fh.ext {a b c:World} {v u:Value} (h:fh a b v u) (k:aE b c):fh a c v u:=
 ⟨⟨Eq.trans k.os h.grown.os,Eq.trans k.tape h.grown.tape,Eq.trans k.output h.grown.output,Nat.le_trans h.grown.size k.size,fun i hi hne=>(k.heap (Nat.lt_of_lt_of_le hi h.grown.size)).trans (h.grown.block i hi hne)⟩,h.own⟩
theorem fh.of_ext {a b:World} {v u:Value} (h:aE a b) (hu:u.ownBlock=v.ownBlock∨∀k,u.ownBlock=some k→a.heap.size≤k):fh a b v u:=
 ⟨⟨h.os,h.tape,h.output,h.size,fun _ hi _=>h.heap hi⟩,hu⟩
theorem fh.before {a b c:World} {v u:Value} (h:aE a b) (k:fh b c v u):fh a c v u:=
 ⟨⟨k.grown.os.trans h.os,k.grown.tape.trans h.tape,k.grown.output.trans h.output,Nat.le_trans h.size k.grown.size,fun i hi hne=>(k.grown.block i (Nat.lt_of_lt_of_le hi h.size) hne).trans (h.heap hi)⟩,k.own.imp_right fun h1 j hj=>Nat.le_trans h.size (h1 j hj)⟩
inductive fM where
 |blk (g:Nat) (T:TypeId) (cs:Array Value)
 |row (v:Value) (e:TypeId) (sz n:Nat) (xs:List Value)
def fM.foot:fM→Option Nat
 |.blk g _ _=>some g
 |.row v _ _ _ _=>v.ownBlock
def fM.holds (base:Nat) (w:World):fM→Prop
 |.blk g T cs=>base≤g∧w.heap[g]? =some (.cells cs T (0,0))
 |.row v e sz n xs=>w.ownsRow base e sz v n xs
def fM.off (a b:fM):Prop:=a.foot=none∨a.foot≠b.foot
theorem fM.foot_ge {base:Nat} {w:World} {it:fM} (h:it.holds base w) {k:Nat} (hk:it.foot=some k):base≤k∧k<w.heap.size:=by
 cases it with
 |blk g T cs=>
  obtain rfl:g=k:=by simpa [fM.foot] using hk
  exact⟨h.1,(Array.getElem?_eq_some_iff.1 h.2).1⟩
 |row v e sz n xs=>exact World.ownsRow.lt h k hk
theorem fM.holds_grown {base:Nat} {w w':World} {it:fM} (h:it.holds base w) {row:Option Nat} (hg:w.grownBy w' row) (hne:it.foot=none∨it.foot≠row):it.holds base w':=by
 cases it with
 |blk g T cs=>
  refine⟨h.1,(hg.block g (Array.getElem?_eq_some_iff.1 h.2).1 ?_).trans h.2⟩
  rcases hne with h1|h1
  ·simp[fM.foot] at h1
  ·exact h1
 |row v e sz n xs=>exact World.ownsRow.kept h hg hne
theorem fM.holds_ext {base:Nat} {w w':World} {it:fM} (h:it.holds base w) (hx:aE w w'):it.holds base w':=by
 cases it with
 |blk g T cs=>exact⟨h.1,hx.heap_some h.2⟩
 |row v e sz n xs=>exact eE h hx
structure Hp (w0 w:World) (its:List fM):Prop where
 ext:aE w0 w
 holds:∀it∈its,it.holds w0.heap.size w
 apart:its.Pairwise fM.off
section
variable {w0 w w':World} {its:List fM} {a b c d:fM}
theorem Hp.nil (w:World):Hp w w []:=⟨aE.refl w,by simp,List.Pairwise.nil⟩
theorem Hp.grow (h:Hp w0 w its) (hx:aE w w'):Hp w0 w' its:=⟨h.ext.trans hx,fun it hi=>fM.holds_ext (h.holds it hi) hx,h.apart⟩
theorem Hp.drop (h:Hp w0 w (a::its)):Hp w0 w its:=⟨h.ext,fun it hi=>h.holds it (by simp[hi]),(List.pairwise_cons.1 h.apart).2⟩
theorem fM.off_symm (h:fM.off a b):fM.off b a:=by
 unfold fM.off at*
 rcases h with h|h
 ·cases hb:b.foot with
  |none=>exact .inl rfl
  |some k=>exact .inr (by rw[h];simp)
 ·exact .inr (Ne.symm h)
theorem Hp.one (h:Hp w0 w (a::its)):a.holds w0.heap.size w:=h.holds a (by simp)
theorem Hp.add (h:Hp w0 w its) (hx:aE w w') (hit:a.holds w0.heap.size w') (hn:∀k,a.foot=some k→w.heap.size≤k):Hp w0 w' (a::its):=by
 have h':=h.grow hx
 refine⟨h'.ext,fun it hi=>?_,List.pairwise_cons.2 ⟨fun it hi=>?_,h'.apart⟩⟩
 ·rcases List.mem_cons.1 hi with rfl|hi
  ·exact hit
  ·exact h'.holds it hi
 ·unfold fM.off
  cases hf:a.foot with
  |none=>exact .inl rfl
  |some k=>
   refine .inr fun he=>?_
   have h1:=(fM.foot_ge (h.holds it hi) he.symm).2
   have h2:=hn k hf
   omega
theorem Hp.write {a':fM} (h:Hp w0 w (a::its)) (hg:w.grownBy w' a.foot) (hit:a'.holds w0.heap.size w') (hf:a'.foot=a.foot∨∀k,a'.foot=some k→w.heap.size≤k):Hp w0 w' (a'::its):=by
 have hap:=(List.pairwise_cons.1 h.apart).1
 refine⟨h.ext.of_grown hg fun k hk=>(fM.foot_ge h.one hk).1,fun it hi=>?_,List.pairwise_cons.2 ⟨fun it hi=>?_,(List.pairwise_cons.1 h.apart).2⟩⟩
 ·rcases List.mem_cons.1 hi with rfl|hi
  ·exact hit
  ·exact fM.holds_grown (h.holds it (by simp[hi])) hg (fM.off_symm (hap it hi))
 ·unfold fM.off
  rcases hf with hf|hf
  ·rw[hf];exact hap it hi
  ·cases hk:a'.foot with
   |none=>exact .inl rfl
   |some k=>
    refine .inr fun he=>?_
    have h1:=(fM.foot_ge (h.holds it (by simp[hi])) he.symm).2
    have h2:=hf k hk
    omega
theorem Hp.blkTo {g:Nat} {T:TypeId} {cs cs':Array Value} (h:Hp w0 w (.blk g T cs::its)) (hg:w.grownBy w' (some g)) (hh:w'.heap[g]? =some (.cells cs' T (0,0))):Hp w0 w' (.blk g T cs'::its):=
 h.write hg ⟨h.one.1,hh⟩ (.inl rfl)
theorem aS (w:World) (g i:Nat) (u:Value):w.grownBy (w.setCell ⟨g,i,none⟩ u) (some g):=
 ⟨rfl,rfl,rfl,by simp[World.setCell],fun k _ hne=>Below.heap_setCell w ⟨g,i,none⟩ u k (fun e=>hne (by rw[e]))⟩
theorem iY {g:Nat} {T:TypeId} {cs:Array Value} (h:w.heap[g]? =some (.cells cs T (0,0))) (i:Nat) (u:Value):(w.setCell ⟨g,i,none⟩ u).heap[g]? =some (.cells (cs.setIfInBounds i u) T (0,0)):=by
 simp[World.setCell,Array.getElem?_modify,h]
theorem Hp.set {g:Nat} {T:TypeId} {cs:Array Value} (h:Hp w0 w (.blk g T cs::its)) (i:Nat) (u:Value):Hp w0 (w.setCell ⟨g,i,none⟩ u) (.blk g T (cs.setIfInBounds i u)::its):=
 h.blkTo (aS w g i u) (iY h.one.2 i u)
theorem Hp.cell {g:Nat} {T:TypeId} {cs:Array Value} (h:Hp w0 w (.blk g T cs::its)) (i:Nat):w.cell? ⟨g,i,none⟩=cs[i]? :=cell_of_row w g i cs T (0,0) h.one.2
end
section
variable {P:Program} {w:World}
theorem aj {t:TypeId} {d:TypeDesc} {a:Addr} {v:Value} (ht:P.underlying t=some d) (hd:(match d with|.struct _|.array _ _=>true|_=>false)=false) (hc:w.cell? a=some v):
 (Instr.loadAt t (.pointer (some a))).run P w=.ok v w:=by
 have hagg:(isAgg t).run P w=.ok false w:=by
  unfold isAgg
  simp only[Sem.run_bind,run_underlying ht,Result.andThen_ok]
  cases d<;>simp_all
 simp only[Instr.loadAt,Instr.sureAddr,loadVar,Sem.run_bind,Sem.run_pure,Result.andThen_ok,hagg,Bool.false_eq_true,if_false]
 simp[hc]
theorem dv {t:TypeId} {g i:Nat} {cs:Array Value} {T:TypeId} {v:Value} (hs:(P.info? t).map (·.size)=some 1) (hv:v.oneCell'=true) (hc:w.heap[g]? =some (.cells cs T (0,0))) (hi:i<cs.size):
 (Instr.storeAt t (.pointer (some ⟨g,i,none⟩)) v).run P w=.ok () (w.setCell ⟨g,i,none⟩ v):=by
 obtain⟨ti,hti,hsz⟩:=Option.map_eq_some_iff.1 hs
 have cu:v.cells= #[v]:=by cases v<;>first|rfl|cases hv
 have hcell:w.cell? ⟨g,i,none⟩=some cs[i]:=by rw[cell_of_row w g i cs T (0,0) hc];simp[hi]
 have hfr:w.frozen? ⟨g,i,none⟩=false:=frozen_of_row w g i cs T hc
 have hst:=run_store P w ⟨g,i,none⟩ v .plain hv
 have hsd:stored P w ⟨g,i,none⟩ v .plain=.ok () (w.setCell ⟨g,i,none⟩ v):=by simp[stored,hcell,hfr]
 simp only[Instr.storeAt,Instr.sureAddr,storeVar,Sem.run_bind,Sem.run_pure,Result.andThen_ok,sizeOf,typeInfo,hti,program,Sem.run,cu,storeCells]
 have hst2:(store ⟨g,i,none⟩ v).run P w=.ok () (w.setCell ⟨g,i,none⟩ v):=hst.trans hsd
 simp[hsz,iX,hst2]
theorem mY {base:Nat} {t ty e:TypeId} {z:Value} {size bytes:Nat} (ht:P.underlying t=some (.slice e)) (hi:(P.info? e).map (fun i=>(i.zero,i.size,i.bytes))=some (some z,size,bytes)) (hzs:z.cells.size=size) (hsz:0<size)
 {v:Value} {n:Nat} {xs:List Value} (hown:w.ownsRow base e size v n xs) {x:Value} {news:List Value} (hx:Sl size news x w) (h1:∀u∈news,u.oneCell'=true)
 (hb:(xs.length+news.length)*bytes≤140737488355328*size) (hb0:0<bytes) (hbase:base≤w.heap.size):
 ∃v' w' n',(Builtin.append_ #[t,t] ty #[v,x]).run P w=.ok v' w'∧w'.ownsRow base e size v' n' (xs++news)∧fh w w' v v':=by
 obtain⟨i,hi,hz,hsize,hby⟩:=info_parts hi
 obtain⟨A,m,c,rfl,hmc,hcm,hl,cu,hnone⟩:=hx
 have hbytes:(n+m)*bytes≤140737488355328:=by
  have e1:xs.length+news.length=(n+m)*size:=by rw[hown.1,hl,Nat.add_mul]
  rw[e1] at hb
  have:(n+m)*bytes*size≤140737488355328*size:=by rw[Nat.mul_right_comm];exact hb
  exact Nat.le_of_mul_le_mul_right this hsz
 have h63:n+m≤maxLen:=by
  have:n+m≤(n+m)*bytes:=Nat.le_mul_of_pos_right _ hb0
  unfold maxLen;omega
 rcases Nat.eq_zero_or_pos m with rfl|hm
 ·have hn:news=[]:=List.eq_nil_of_length_eq_zero (by simpa using hl)
  subst hn
  cases A with
  |none=>
   have hrun:(Builtin.append_ #[t,t] ty #[v,.slice none 0 c]).run P w=.ok v w:=by
    rcases hown.2 with⟨rfl,rfl⟩|⟨g,cap,cur,rfl,_,_,hnc,_⟩
    ·simp[Builtin.append_,run_underlying ht,sizeOf,typeInfo,hi,Builtin.lenOf,Builtin.firstCells]
    ·simp[Builtin.append_,run_underlying ht,sizeOf,typeInfo,hi,Builtin.lenOf,Builtin.firstCells,hnc,storeCells]
   exact⟨v,w,n,hrun,by simpa using hown,fh.of_ext (aE.refl w) (.inl rfl)⟩
  |some ad=>
   obtain⟨v',w',h2,h3,h4,_,h5⟩:=run_append_own_at (P:=P) w base t ty e i z size bytes ht hi hz hsize hby hzs hsz v n xs hown ad 0 c [] (by simp) (by simp) (by simp) h63 hbytes hbase
   exact⟨v',w',_,h2,h3,h4,h5.imp_right fun h k hk=>by rw[h] at hk;exact Nat.le_of_eq (Option.some.inj hk)⟩
 ·obtain⟨ad,rfl,hc⟩:=cu hm
  obtain⟨v',w',h2,h3,h4,_,h5⟩:=run_append_own_at (P:=P) w base t ty e i z size bytes ht hi hz hsize hby hzs hsz v n xs hown ad m c news hl hc h1 h63 hbytes hbase
  exact⟨v',w',_,h2,h3,h4,h5.imp_right fun h k hk=>by rw[h] at hk;exact Nat.le_of_eq (Option.some.inj hk)⟩
theorem BG {t ty:TypeId} {e:TypeId} {sz:Nat} (ht:P.underlying t=some (.slice e)) {xs:List Value} {v:Value} (h:Sl sz xs v w):∃n,xs.length=n*sz∧n≤maxLen∧(Builtin.len_ #[t] ty #[v]).run P w=.ok (I n) w:=by
 obtain⟨A,n,c,rfl,hnc,hcm,hl,_,_⟩:=h
 refine⟨n,hl,Nat.le_trans hnc hcm,?_⟩
 simp[Builtin.len_,run_underlying ht,goInt,I]
theorem Ej {t e:TypeId} {sz:Nat} (ht:P.underlying t=some (.slice e)) (hsz:(P.info? e).map (·.size)=some sz) {xs:List Value} {v:Value} (h:Sl sz xs v w) {lo hi:Nat} (h1:lo≤hi) (h2:hi*sz≤xs.length) (h0:0<sz) (kl kh:IntKind):
 ∃r,(∀w':World,(Instr.sliceAt t v (some (.int kl lo)) (some (.int kh hi)) none).run P w'=.ok r w')∧Sl sz ((xs.take (hi*sz)).drop (lo*sz)) r w:=by
 obtain⟨A,n,c,rfl,hnc,hcm,hl,hc,hnone⟩:=h
 obtain⟨i,hi',hs⟩:=Option.map_eq_some_iff.1 hsz
 have hhn:hi≤n:=by
  rw[hl] at h2
  exact Nat.le_of_mul_le_mul_right h2 h0
 have hb:∀w:World,(Instr.sliceBounds true n c (some (.int kl lo)) (some (.int kh hi)) none).run P w=.ok (lo,hi,c) w:=fun w=>by
  have a1:=run_sliceBound (P:=P) (w:=w) kh (hi:Int) c .sliceAcap (by omega) (by omega)
  have a2:=run_sliceBound (P:=P) (w:=w) kl (lo:Int) hi .sliceB (by omega) (by omega)
  simp only[Int.toNat_natCast] at a1 a2
  simp[Instr.sliceBounds,a1,a2]
 refine⟨.slice (if c=lo then A else A.map (·.add (lo*sz))) (hi-lo) (c-lo),?_,?_⟩
 ·intro w';simp[Instr.sliceAt,Instr.slice,run_underlying ht,hb,sizeOf,typeInfo,hi',hs]
 ·refine⟨_,_,_,rfl,by omega,by omega,?_,fun hn=>?_,fun hA=>?_⟩
  ·rw[List.length_drop,List.length_take,Nat.min_eq_left h2,←Nat.sub_mul]
  ·obtain⟨ad,rfl,hcl⟩:=hc (by omega)
   rw[if_neg (by omega)]
   exact⟨_,rfl,(hcl.take _).drop _⟩
  ·split at hA
   ·have:=hnone hA;omega
   ·cases A with
    |none=>have:=hnone rfl;omega
    |some ad=>cases hA
theorem pZ {t e:TypeId} {sz:Nat} (ht:P.underlying t=some (.slice e)) (hsz:(P.info? e).map (·.size)=some sz) {xs:List Value} {v:Value} (h:Sl sz xs v w) {lo:Nat} (h2:lo*sz≤xs.length) (h0:0<sz) (kl:IntKind):
 ∃r,(∀w':World,(Instr.sliceAt t v (some (.int kl lo)) none none).run P w'=.ok r w')∧Sl sz (xs.drop (lo*sz)) r w:=by
 obtain⟨A,n,c,rfl,hnc,hcm,hl,hc,hnone⟩:=h
 obtain⟨i,hi',hs⟩:=Option.map_eq_some_iff.1 hsz
 have hln:lo≤n:=by
  rw[hl] at h2
  exact Nat.le_of_mul_le_mul_right h2 h0
 have hb:∀w:World,(Instr.sliceBounds true n c (some (.int kl lo)) none none).run P w=.ok (lo,n,c) w:=fun w=>by
  have a2:=run_sliceBound (P:=P) (w:=w) kl (lo:Int) n .sliceB (by omega) (by omega)
  simp only[Int.toNat_natCast] at a2
  simp[Instr.sliceBounds,a2]
 refine⟨.slice (if c=lo then A else A.map (·.add (lo*sz))) (n-lo) (c-lo),?_,?_⟩
 ·intro w';simp[Instr.sliceAt,Instr.slice,run_underlying ht,hb,sizeOf,typeInfo,hi',hs]
 ·refine⟨_,_,_,rfl,by omega,by omega,?_,fun hn=>?_,fun hA=>?_⟩
  ·rw[List.length_drop,hl,←Nat.sub_mul]
  ·obtain⟨ad,rfl,hcl⟩:=hc (by omega)
   rw[if_neg (by omega)]
   exact⟨_,rfl,hcl.drop _⟩
  ·split at hA
   ·have:=hnone hA;omega
   ·cases A with
    |none=>have:=hnone rfl;omega
    |some ad=>cases hA
theorem p9 {t e:TypeId} {sz:Nat} (ht:P.underlying t=some (.slice e)) (hsz:(P.info? e).map (·.size)=some sz) {xs:List Value} {v:Value} (h:Sl sz xs v w) {hi:Nat} (h2:hi*sz≤xs.length) (h0:0<sz) (kh:IntKind):
 ∃r,(∀w':World,(Instr.sliceAt t v none (some (.int kh hi)) none).run P w'=.ok r w')∧Sl sz (xs.take (hi*sz)) r w:=by
 obtain⟨A,n,c,rfl,hnc,hcm,hl,hc,hnone⟩:=h
 obtain⟨i,hi',hs⟩:=Option.map_eq_some_iff.1 hsz
 have hhn:hi≤n:=by
  rw[hl] at h2
  exact Nat.le_of_mul_le_mul_right h2 h0
 have hb:∀w:World,(Instr.sliceBounds true n c none (some (.int kh hi)) none).run P w=.ok (0,hi,c) w:=fun w=>by
  have a1:=run_sliceBound (P:=P) (w:=w) kh (hi:Int) c .sliceAcap (by omega) (by omega)
  simp only[Int.toNat_natCast] at a1
  simp[Instr.sliceBounds,a1]
 refine⟨.slice (if c=0 then A else A.map (·.add (0*sz))) (hi-0) (c-0),?_,?_⟩
 ·intro w';simp[Instr.sliceAt,Instr.slice,run_underlying ht,hb,sizeOf,typeInfo,hi',hs]
 ·have hA':(if c=0 then A else A.map (·.add (0*sz)))=A:=by
   split
   ·rfl
   ·cases A<;>simp[iX]
  rw[hA']
  refine⟨_,_,_,rfl,by omega,by omega,?_,fun hn=>?_,fun hA=>by have:=hnone hA;omega⟩
  ·rw[List.length_take,Nat.min_eq_left h2];simp
  ·obtain⟨ad,rfl,hcl⟩:=hc (by omega)
   exact⟨_,rfl,hcl.take _⟩
theorem pz {t e:TypeId} {sz:Nat} (ht:P.underlying t=some (.slice e)) (hsz:(P.info? e).map (·.size)=some sz) {xs:List Value} {v:Value} (h:Sl sz xs v w) {i:Nat} (h2:(i+1)*sz≤xs.length) (h0:0<sz) (k:IntKind):
 ∃ad,(∀w':World,(Instr.indexAt t v (.int k i)).run P w'=.ok (.pointer (some ad)) w')∧cS w ad ((xs.drop (i*sz)).take sz):=by
 obtain⟨A,n,c,rfl,hnc,hcm,hl,hc,hnone⟩:=h
 obtain⟨ti,hi',hs⟩:=Option.map_eq_some_iff.1 hsz
 have hin:i<n:=by
  rw[hl] at h2
  exact Nat.le_of_mul_le_mul_right h2 h0
 obtain⟨ad,rfl,hcl⟩:=hc (by omega)
 refine⟨ad.add (i*sz),?_,(hcl.drop _).take _⟩
 intro w'
 simp[Instr.indexAt,asIntOf,run_underlying ht,hin,sizeOf,typeInfo,hi',hs]
end
end Go.Rl
namespace Go.Rl
section
variable {P:Program} {w:World} {t:TypeId} {x y:Operand}
theorem bp {op:BinOp} {k k':IntKind} {a b:Int}:(bin op t x y (.int k a) (.int k' b)).run P w=(binOp op t (.int k a) (.int k' b)).run P w:=by
 unfold bin eqGuard
 cases op<;>rfl
theorem mp {n:Int} (h1: -9223372036854775808≤n) (h2:n≤9223372036854775807):IntKind.i64.wrap n=n:=by rw[IntKind.wrap_i64];omega
theorem aK {a b:Int} (h1: -9223372036854775808≤a+b) (h2:a+b≤9223372036854775807):(bin .add t x y (I a) (I b)).run P w=.ok (I (a+b)) w:=by
 unfold I;rw[bp];simp[binOp,Op.intArith,mp h1 h2]
theorem aV {a b:Int} (h1: -9223372036854775808≤a-b) (h2:a-b≤9223372036854775807):(bin .sub t x y (I a) (I b)).run P w=.ok (I (a-b)) w:=by
 unfold I;rw[bp];simp[binOp,Op.intArith,mp h1 h2]
theorem en {a b:Int} (h1: -9223372036854775808≤a*b) (h2:a*b≤9223372036854775807):(bin .mul t x y (I a) (I b)).run P w=.ok (I (a*b)) w:=by
 unfold I;rw[bp];simp[binOp,Op.intArith,mp h1 h2]
theorem mZ {a b:Int} (h1:0≤a) (h2:0<b) (h3:a≤9223372036854775807):(bin .quo t x y (I a) (I b)).run P w=.ok (I (a/b)) w:=by
 unfold I;rw[bp]
 have e:a.tdiv b=a/b:=Int.tdiv_eq_ediv_of_nonneg h1
 have h4:0≤a/b:=Int.ediv_nonneg h1 (by omega)
 have h5:a/b≤a:=Int.ediv_le_self b h1
 have h6:IntKind.i64.wrap (a/b)=a/b:=mp (by omega) (by omega)
 have h7:b≠0:=by omega
 simp[binOp,Op.intDiv,h7,e,h6]
theorem lG {a b:Int} (h1:0≤a) (h2:0<b):(bin .rem t x y (I a) (I b)).run P w=.ok (I (a%b)) w:=by
 unfold I;rw[bp]
 have e:a.tmod b=a%b:=Int.tmod_eq_emod_of_nonneg h1
 have h7:b≠0:=by omega
 simp[binOp,Op.intDiv,h7,e]
theorem bb {a b:Int}:(bin .lss t x y (I a) (I b)).run P w=.ok (B (decide (a<b))) w:=by unfold I;rw[bp];rfl
theorem lH {a b:Int}:(bin .leq t x y (I a) (I b)).run P w=.ok (B (decide (a≤b))) w:=by unfold I;rw[bp];rfl
theorem cB {a b:Int}:(bin .gtr t x y (I a) (I b)).run P w=.ok (B (decide (a>b))) w:=by unfold I;rw[bp];rfl
theorem gP {a b:Int}:(bin .geq t x y (I a) (I b)).run P w=.ok (B (decide (a≥b))) w:=by unfold I;rw[bp];rfl
theorem tI {a b:Int}:(a==b)=decide (a=b):=rfl
theorem tJ {a b:Int}:(a !=b)=decide (a≠b):=by
 by_cases h:a=b<;>simp[h]
theorem bJ {a b:Int}:(bin .eql t x y (I a) (I b)).run P w=.ok (B (decide (a=b))) w:=by unfold I;rw[bp];rfl
theorem dA {a b:Int}:(bin .neq t x y (I a) (I b)).run P w=.ok (B (decide (a≠b))) w:=by
 unfold I;rw[bp,←tJ];rfl
theorem Ek {a:Int} {k:IntKind} (s:Nat) (hs:s<64):(bin .shr t x y (I a) (.int k (s:Int))).run P w=.ok (I (a/2^s)) w:=by
 unfold I;rw[bp]
 have h1:¬((s:Int)<0):=by omega
 have h2:min s 64=s:=by omega
 have e:a.fdiv (2^s)=a/2^s:=Int.fdiv_eq_ediv_of_nonneg _ (by exact Int.le_of_lt (Int.pow_pos (by omega)))
 simp only[binOp,Op.shift,if_neg h1,Int.toNat_natCast,IntKind.bits,h2,e]
 rfl
theorem tK {a:Int} (h1: -9223372036854775808≤ -a) (h2: -a≤9223372036854775807):(Op.unary .neg (I a)).run P w=.ok (I (-a)) w:=by
 have:IntKind.i64.wrap (0-a)= -a:=by rw[Int.zero_sub];exact mp h1 h2
 simp only[I,Op.unary,Op.intArith,this];rfl
theorem yY {a b:Int64}:(bin .xor t x y (I a.toInt) (I b.toInt)).run P w=.ok (I (a^^^b).toInt) w:=by
 unfold I;rw[bp]
 have e:IntKind.i64.wrap ((BitVec.ofInt 64 a.toInt^^^BitVec.ofInt 64 b.toInt).toNat:Int)=(a^^^b).toInt:=by
  have ea:BitVec.ofInt 64 a.toInt=a.toBitVec:=BitVec.ofInt_toInt
  have eb:BitVec.ofInt 64 b.toInt=b.toBitVec:=BitVec.ofInt_toInt
  rw[ea,eb,IntKind.wrap_i64]
  show _=(a.toBitVec^^^b.toBitVec).toInt
  rw[BitVec.toInt_eq_toNat_cond]
  have:=(a.toBitVec^^^b.toBitVec).isLt
  split<;>omega
 show Result.ok (Value.int .i64 (IntKind.i64.wrap ((BitVec.ofInt 64 a.toInt^^^BitVec.ofInt 64 b.toInt).toNat:Int))) w=_
 rw[e]
theorem dW {p:Prop} {dp:Decidable p} {s:Sem Value} {w':World} (h:p) (hr:s.run P w=.ok (B (@decide p dp)) w'):s.run P w=.ok (B true) w':=by rw[hr,decide_eq_true h]
theorem eU {p:Prop} {dp:Decidable p} {s:Sem Value} {w':World} (h:¬p) (hr:s.run P w=.ok (B (@decide p dp)) w'):s.run P w=.ok (B false) w':=by rw[hr,decide_eq_false h]
theorem cZ {b:Bool}:(Op.unary .not (B b)).run P w=.ok (B (!b)) w:=rfl
theorem tL {p:Prop} {dp:Decidable p}:(Op.unary .not (B (@decide p dp))).run P w=.ok (B (decide (¬p))) w:=by
 show Result.ok (Value.bool (!decide p)) w=_
 rw[←decide_not];rfl
theorem pA (n:Nat):IntKind.u8.wrap (n:Int)=((n%256:Nat):Int):=by rw[IntKind.wrap_u8];omega
theorem BH (a:UInt8):a.toNat<256:=a.toNat_lt
theorem m0 (a:UInt8):BitVec.ofInt 8 (a.toNat:Int)=a.toBitVec:=by
 rw[BitVec.ofInt_natCast];exact BitVec.eq_of_toNat_eq (by simp)
theorem BI {a b:UInt8} (h:a.toNat=b.toNat):a=b:=UInt8.toNat_inj.1 h
theorem m2 {a b:UInt8}:(bin .lss t x y (U8 a) (U8 b)).run P w=.ok (B (decide (a<b))) w:=by
 unfold U8;rw[bp]
 have:decide (((a.toNat:Int))<(b.toNat:Int))=decide (a<b):=decide_eq_decide.2 (by rw[UInt8.lt_iff_toNat_lt];omega)
 show Result.ok (Value.bool (decide (((a.toNat:Int))<(b.toNat:Int)))) w=_
 rw[this];rfl
theorem qc {a b:UInt8}:(bin .gtr t x y (U8 a) (U8 b)).run P w=.ok (B (decide (a>b))) w:=by
 unfold U8;rw[bp]
 have:decide (((a.toNat:Int))>(b.toNat:Int))=decide (a>b):=decide_eq_decide.2 (by show _↔b<a;rw[UInt8.lt_iff_toNat_lt];omega)
 show Result.ok (Value.bool (decide (((a.toNat:Int))>(b.toNat:Int)))) w=_
 rw[this];rfl
theorem jD {a b:UInt8}:(bin .eql t x y (U8 a) (U8 b)).run P w=.ok (B (decide (a=b))) w:=by
 unfold U8;rw[bp]
 have:(((a.toNat:Int))==(b.toNat:Int))=decide (a=b):=by
  rw[tI];exact decide_eq_decide.2 ⟨fun h=>BI (by omega),fun h=>by rw[h]⟩
 show Result.ok (Value.bool (((a.toNat:Int))==(b.toNat:Int))) w=_
 rw[this];rfl
theorem BJ {a b:UInt8}:(bin .neq t x y (U8 a) (U8 b)).run P w=.ok (B (decide (a≠b))) w:=by
 unfold U8;rw[bp]
 have:(((a.toNat:Int)) !=(b.toNat:Int))=decide (a≠b):=by
  rw[tJ];exact decide_eq_decide.2 ⟨fun h he=>h (by rw[he]),fun h he=>h (BI (by omega))⟩
 show Result.ok (Value.bool (((a.toNat:Int)) !=(b.toNat:Int))) w=_
 rw[this];rfl
theorem BK {a b:UInt8}:(bin .and t x y (U8 a) (U8 b)).run P w=.ok (U8 (a&&&b)) w:=by
 unfold U8;rw[bp]
 show Result.ok (Value.int .u8 (IntKind.u8.wrap ((BitVec.ofInt 8 (a.toNat:Int)&&&BitVec.ofInt 8 (b.toNat:Int)).toNat:Int))) w=_
 rw[m0,m0,pA,Nat.mod_eq_of_lt (by have:=(a.toBitVec&&&b.toBitVec).isLt;simpa using this)]
 rfl
theorem El {a b:UInt8}:(bin .or t x y (U8 a) (U8 b)).run P w=.ok (U8 (a|||b)) w:=by
 unfold U8;rw[bp]
 show Result.ok (Value.int .u8 (IntKind.u8.wrap ((BitVec.ofInt 8 (a.toNat:Int)|||BitVec.ofInt 8 (b.toNat:Int)).toNat:Int))) w=_
 rw[m0,m0,pA,Nat.mod_eq_of_lt (by have:=(a.toBitVec|||b.toBitVec).isLt;simpa using this)]
 rfl
theorem gX (n:Nat):IntKind.u32.wrap (n:Int)=((n%4294967296:Nat):Int):=by rw[IntKind.wrap_u32];omega
theorem BL (a:UInt32):a.toNat<4294967296:=a.toNat_lt
theorem gC (a:UInt32):BitVec.ofInt 32 (a.toNat:Int)=a.toBitVec:=by
 rw[BitVec.ofInt_natCast];exact BitVec.eq_of_toNat_eq (by simp)
theorem yZ {a b:UInt32} (h:a.toNat=b.toNat):a=b:=UInt32.toNat_inj.1 h
theorem bT {a b:UInt32}:(bin .add t x y (bg a) (bg b)).run P w=.ok (bg (a+b)) w:=by
 unfold bg;rw[bp]
 show Result.ok (Value.int .u32 (IntKind.u32.wrap (((a.toNat:Int))+(b.toNat:Int)))) w=_
 rw[←Int.natCast_add,gX,UInt32.toNat_add]
theorem sm {a b:UInt32}:(bin .lss t x y (bg a) (bg b)).run P w=.ok (B (decide (a<b))) w:=by
 unfold bg;rw[bp]
 have:decide (((a.toNat:Int))<(b.toNat:Int))=decide (a<b):=decide_eq_decide.2 (by rw[UInt32.lt_iff_toNat_lt];omega)
 show Result.ok (Value.bool (decide (((a.toNat:Int))<(b.toNat:Int)))) w=_
 rw[this];rfl
theorem sn {a b:UInt32}:(bin .gtr t x y (bg a) (bg b)).run P w=.ok (B (decide (a>b))) w:=by
 unfold bg;rw[bp]
 have:decide (((a.toNat:Int))>(b.toNat:Int))=decide (a>b):=decide_eq_decide.2 (by show _↔b<a;rw[UInt32.lt_iff_toNat_lt];omega)
 show Result.ok (Value.bool (decide (((a.toNat:Int))>(b.toNat:Int)))) w=_
 rw[this];rfl
theorem nR {a b:UInt32}:(bin .geq t x y (bg a) (bg b)).run P w=.ok (B (decide (a≥b))) w:=by
 unfold bg;rw[bp]
 have:decide (((a.toNat:Int))≥(b.toNat:Int))=decide (a≥b):=decide_eq_decide.2 (by show _↔b≤a;rw[UInt32.le_iff_toNat_le];omega)
 show Result.ok (Value.bool (decide (((a.toNat:Int))≥(b.toNat:Int)))) w=_
 rw[this];rfl
theorem nS {a b:UInt32}:(bin .eql t x y (bg a) (bg b)).run P w=.ok (B (decide (a=b))) w:=by
 unfold bg;rw[bp]
 have:(((a.toNat:Int))==(b.toNat:Int))=decide (a=b):=by
  rw[tI];exact decide_eq_decide.2 ⟨fun h=>yZ (by omega),fun h=>by rw[h]⟩
 show Result.ok (Value.bool (((a.toNat:Int))==(b.toNat:Int))) w=_
 rw[this];rfl
theorem lI {a b:UInt32}:(bin .neq t x y (bg a) (bg b)).run P w=.ok (B (decide (a≠b))) w:=by
 unfold bg;rw[bp]
 have:(((a.toNat:Int)) !=(b.toNat:Int))=decide (a≠b):=by
  rw[tJ];exact decide_eq_decide.2 ⟨fun h he=>h (by rw[he]),fun h he=>h (yZ (by omega))⟩
 show Result.ok (Value.bool (((a.toNat:Int)) !=(b.toNat:Int))) w=_
 rw[this];rfl
theorem eq {a b:UInt32}:(bin .and t x y (bg a) (bg b)).run P w=.ok (bg (a&&&b)) w:=by
 unfold bg;rw[bp]
 show Result.ok (Value.int .u32 (IntKind.u32.wrap ((BitVec.ofInt 32 (a.toNat:Int)&&&BitVec.ofInt 32 (b.toNat:Int)).toNat:Int))) w=_
 rw[gC,gC,gX,Nat.mod_eq_of_lt (by have:=(a.toBitVec&&&b.toBitVec).isLt;simpa using this)]
 rfl
theorem er {a b:UInt32}:(bin .or t x y (bg a) (bg b)).run P w=.ok (bg (a|||b)) w:=by
 unfold bg;rw[bp]
 show Result.ok (Value.int .u32 (IntKind.u32.wrap ((BitVec.ofInt 32 (a.toNat:Int)|||BitVec.ofInt 32 (b.toNat:Int)).toNat:Int))) w=_
 rw[gC,gC,gX,Nat.mod_eq_of_lt (by have:=(a.toBitVec|||b.toBitVec).isLt;simpa using this)]
 rfl
theorem cf {a b:UInt32}:(bin .xor t x y (bg a) (bg b)).run P w=.ok (bg (a^^^b)) w:=by
 unfold bg;rw[bp]
 show Result.ok (Value.int .u32 (IntKind.u32.wrap ((BitVec.ofInt 32 (a.toNat:Int)^^^BitVec.ofInt 32 (b.toNat:Int)).toNat:Int))) w=_
 rw[gC,gC,gX,Nat.mod_eq_of_lt (by have:=(a.toBitVec^^^b.toBitVec).isLt;simpa using this)]
 rfl
theorem oN {a:UInt32}:(Op.unary .xor (bg a)).run P w=.ok (bg (~~~a)) w:=by
 show Result.ok (Value.int .u32 (IntKind.u32.wrap ((BitVec.ofInt 32 (4294967295:Int)^^^BitVec.ofInt 32 (a.toNat:Int)).toNat:Int))) w=_
 have e:BitVec.ofInt 32 (4294967295:Int)=BitVec.allOnes 32:=by decide
 rw[gC,e,BitVec.allOnes_xor,gX,Nat.mod_eq_of_lt (by have:=(~~~a.toBitVec).isLt;simpa using this)]
 rfl
theorem ck {a:UInt32} {k:IntKind} (s:Nat) (hs:s<32):(bin .shr t x y (bg a) (.int k (s:Int))).run P w=.ok (bg (a>>>UInt32.ofNat s)) w:=by
 unfold bg;rw[bp]
 have h1:¬((s:Int)<0):=by omega
 have h2:min s 32=s:=by omega
 have e:((a.toNat:Int)).fdiv (2^s)=((a.toNat/2^s:Nat):Int):=by
  rw[Int.fdiv_eq_ediv_of_nonneg _ (by exact Int.le_of_lt (Int.pow_pos (by omega)))]
  simp
 have e2:(a>>>UInt32.ofNat s).toNat=a.toNat/2^s:=by
  rw[UInt32.toNat_shiftRight,Nat.shiftRight_eq_div_pow]
  have:(UInt32.ofNat s).toNat%32=s:=by rw[UInt32.toNat_ofNat'];omega
  rw[this]
 simp only[binOp,Op.shift,if_neg h1,Int.toNat_natCast,IntKind.bits,h2,e,←e2]
 rfl
theorem dY {a:UInt32} {k:IntKind} (s:Nat) (hs:s<32):(bin .shl t x y (bg a) (.int k (s:Int))).run P w=.ok (bg (a<<<UInt32.ofNat s)) w:=by
 unfold bg;rw[bp]
 have h1:¬((s:Int)<0):=by omega
 have h2:min s 32=s:=by omega
 have e2:(a<<<UInt32.ofNat s).toNat=a.toNat*2^s%4294967296:=by
  rw[UInt32.toNat_shiftLeft,Nat.shiftLeft_eq]
  have:(UInt32.ofNat s).toNat%32=s:=by rw[UInt32.toNat_ofNat'];omega
  rw[this]
 have e:((a.toNat:Int))*2^s=((a.toNat*2^s:Nat):Int):=by simp
 simp only[binOp,Op.shift,if_neg h1,Int.toNat_natCast,IntKind.bits,h2,e,gX,←e2]
 rfl
theorem fE (n:Nat):IntKind.u64.wrap (n:Int)=((n%18446744073709551616:Nat):Int):=by rw[IntKind.wrap_u64];omega
theorem qg (a:UInt64):a.toNat<18446744073709551616:=a.toNat_lt
theorem iM (a:UInt64):BitVec.ofInt 64 (a.toNat:Int)=a.toBitVec:=by
 rw[BitVec.ofInt_natCast];exact BitVec.eq_of_toNat_eq (by simp)
theorem tM {a b:UInt64} (h:a.toNat=b.toNat):a=b:=UInt64.toNat_inj.1 h
theorem dm {a b:UInt64}:(bin .add t x y (bo a) (bo b)).run P w=.ok (bo (a+b)) w:=by
 unfold bo;rw[bp]
 show Result.ok (Value.int .u64 (IntKind.u64.wrap (((a.toNat:Int))+(b.toNat:Int)))) w=_
 rw[←Int.natCast_add,fE,UInt64.toNat_add]
theorem cW {a b:UInt64}:(bin .sub t x y (bo a) (bo b)).run P w=.ok (bo (a-b)) w:=by
 unfold bo;rw[bp]
 show Result.ok (Value.int .u64 (IntKind.u64.wrap (((a.toNat:Int))-(b.toNat:Int)))) w=_
 rw[IntKind.wrap_u64,UInt64.toNat_sub]
 have:=qg a;have:=qg b
 have e:((a.toNat:Int)-(b.toNat:Int))%18446744073709551616=(((18446744073709551616-b.toNat+a.toNat)%18446744073709551616:Nat):Int):=by omega
 rw[e]
theorem gD {a b:UInt64}:(bin .mul t x y (bo a) (bo b)).run P w=.ok (bo (a*b)) w:=by
 unfold bo;rw[bp]
 show Result.ok (Value.int .u64 (IntKind.u64.wrap (((a.toNat:Int))*(b.toNat:Int)))) w=_
 rw[←Int.natCast_mul,fE,UInt64.toNat_mul]
theorem jE {a b:UInt64} (hb:b≠0):(bin .quo t x y (bo a) (bo b)).run P w=.ok (bo (a/b)) w:=by
 unfold bo;rw[bp]
 have h0:b.toNat≠0:=fun h=>hb (tM (by simpa using h))
 have h1:(b.toNat:Int)≠0:=by omega
 have e:((a.toNat:Int)).tdiv (b.toNat:Int)=((a.toNat/b.toNat:Nat):Int):=rfl
 have hlt:a.toNat/b.toNat<18446744073709551616:=Nat.lt_of_le_of_lt (Nat.div_le_self _ _) (qg a)
 simp only[binOp,Op.intDiv,ne_eq,not_true_eq_false,if_false,if_neg h1,e,fE,Nat.mod_eq_of_lt hlt,UInt64.toNat_div]
 rfl
theorem jF {a b:UInt64} (hb:b≠0):(bin .rem t x y (bo a) (bo b)).run P w=.ok (bo (a%b)) w:=by
 unfold bo;rw[bp]
 have h0:b.toNat≠0:=fun h=>hb (tM (by simpa using h))
 have h1:(b.toNat:Int)≠0:=by omega
 have e:((a.toNat:Int)).tmod (b.toNat:Int)=((a.toNat%b.toNat:Nat):Int):=rfl
 simp only[binOp,Op.intDiv,ne_eq,not_true_eq_false,if_false,if_neg h1,e,UInt64.toNat_mod]
 rfl
theorem jG {a b:UInt64}:(bin .lss t x y (bo a) (bo b)).run P w=.ok (B (decide (a<b))) w:=by
 unfold bo;rw[bp]
 have:decide (((a.toNat:Int))<(b.toNat:Int))=decide (a<b):=decide_eq_decide.2 (by rw[UInt64.lt_iff_toNat_lt];omega)
 show Result.ok (Value.bool (decide (((a.toNat:Int))<(b.toNat:Int)))) w=_
 rw[this];rfl
theorem cJ {a b:UInt64}:(bin .gtr t x y (bo a) (bo b)).run P w=.ok (B (decide (a>b))) w:=by
 unfold bo;rw[bp]
 have:decide (((a.toNat:Int))>(b.toNat:Int))=decide (a>b):=decide_eq_decide.2 (by show _↔b<a;rw[UInt64.lt_iff_toNat_lt];omega)
 show Result.ok (Value.bool (decide (((a.toNat:Int))>(b.toNat:Int)))) w=_
 rw[this];rfl
theorem fW {a b:UInt64}:(bin .geq t x y (bo a) (bo b)).run P w=.ok (B (decide (a≥b))) w:=by
 unfold bo;rw[bp]
 have:decide (((a.toNat:Int))≥(b.toNat:Int))=decide (a≥b):=decide_eq_decide.2 (by show _↔b≤a;rw[UInt64.le_iff_toNat_le];omega)
 show Result.ok (Value.bool (decide (((a.toNat:Int))≥(b.toNat:Int)))) w=_
 rw[this];rfl
theorem iN {a b:UInt64}:(bin .eql t x y (bo a) (bo b)).run P w=.ok (B (decide (a=b))) w:=by
 unfold bo;rw[bp]
 have:(((a.toNat:Int))==(b.toNat:Int))=decide (a=b):=by
  rw[tI];exact decide_eq_decide.2 ⟨fun h=>tM (by omega),fun h=>by rw[h]⟩
 show Result.ok (Value.bool (((a.toNat:Int))==(b.toNat:Int))) w=_
 rw[this];rfl
theorem sq {a b:UInt64}:(bin .and t x y (bo a) (bo b)).run P w=.ok (bo (a&&&b)) w:=by
 unfold bo;rw[bp]
 show Result.ok (Value.int .u64 (IntKind.u64.wrap ((BitVec.ofInt 64 (a.toNat:Int)&&&BitVec.ofInt 64 (b.toNat:Int)).toNat:Int))) w=_
 rw[iM,iM,fE,Nat.mod_eq_of_lt (by have:=(a.toBitVec&&&b.toBitVec).isLt;simpa using this)]
 rfl
theorem gY {a b:UInt64}:(bin .or t x y (bo a) (bo b)).run P w=.ok (bo (a|||b)) w:=by
 unfold bo;rw[bp]
 show Result.ok (Value.int .u64 (IntKind.u64.wrap ((BitVec.ofInt 64 (a.toNat:Int)|||BitVec.ofInt 64 (b.toNat:Int)).toNat:Int))) w=_
 rw[iM,iM,fE,Nat.mod_eq_of_lt (by have:=(a.toBitVec|||b.toBitVec).isLt;simpa using this)]
 rfl
theorem z3 {a b:UInt64}:(bin .xor t x y (bo a) (bo b)).run P w=.ok (bo (a^^^b)) w:=by
 unfold bo;rw[bp]
 show Result.ok (Value.int .u64 (IntKind.u64.wrap ((BitVec.ofInt 64 (a.toNat:Int)^^^BitVec.ofInt 64 (b.toNat:Int)).toNat:Int))) w=_
 rw[iM,iM,fE,Nat.mod_eq_of_lt (by have:=(a.toBitVec^^^b.toBitVec).isLt;simpa using this)]
 rfl
theorem cK {a:UInt64} {k:IntKind} (s:Nat) (hs:s<64):(bin .shr t x y (bo a) (.int k (s:Int))).run P w=.ok (bo (a>>>UInt64.ofNat s)) w:=by
 unfold bo;rw[bp]
 have h1:¬((s:Int)<0):=by omega
 have h2:min s 64=s:=by omega
 have e:((a.toNat:Int)).fdiv (2^s)=((a.toNat/2^s:Nat):Int):=by
  rw[Int.fdiv_eq_ediv_of_nonneg _ (by exact Int.le_of_lt (Int.pow_pos (by omega)))]
  simp
 have e2:(a>>>UInt64.ofNat s).toNat=a.toNat/2^s:=by
  rw[UInt64.toNat_shiftRight,Nat.shiftRight_eq_div_pow]
  have:(UInt64.ofNat s).toNat%64=s:=by rw[UInt64.toNat_ofNat'];omega
  rw[this]
 simp only[binOp,Op.shift,if_neg h1,Int.toNat_natCast,IntKind.bits,h2,e,←e2]
 rfl
theorem eY {a:UInt64} {k:IntKind} (s:Nat) (hs:s<64):(bin .shl t x y (bo a) (.int k (s:Int))).run P w=.ok (bo (a<<<UInt64.ofNat s)) w:=by
 unfold bo;rw[bp]
 have h1:¬((s:Int)<0):=by omega
 have h2:min s 64=s:=by omega
 have e2:(a<<<UInt64.ofNat s).toNat=a.toNat*2^s%18446744073709551616:=by
  rw[UInt64.toNat_shiftLeft,Nat.shiftLeft_eq]
  have:(UInt64.ofNat s).toNat%64=s:=by rw[UInt64.toNat_ofNat'];omega
  rw[this]
 have e:((a.toNat:Int))*2^s=((a.toNat*2^s:Nat):Int):=by simp
 simp only[binOp,Op.shift,if_neg h1,Int.toNat_natCast,IntKind.bits,h2,e,fE,←e2]
 rfl
theorem jt {s d:TypeId} {ds:TypeDesc} {j k:IntKind} {n:Int} (hs:P.underlying s=some ds) (hd:P.underlying d=some (.int k)):(convert s d (.int j n)).run P w=.ok (.int k (k.wrap n)) w:=by
 simp only[convert,Sem.run_bind,run_underlying hs,run_underlying hd,Result.andThen_ok]
 rfl
section
variable {s d:TypeId} {ds:TypeDesc} (hs:P.underlying s=some ds)
include hs
theorem eV {a:UInt8} (hd:P.underlying d=some (.int .u32)):(convert s d (U8 a)).run P w=.ok (bg a.toUInt32) w:=by
 unfold U8 bg;rw[jt hs hd,gX]
 have:=BH a
 have e:a.toUInt32.toNat=a.toNat%4294967296:=by simp
 rw[e]
theorem BM {a:UInt8} (hd:P.underlying d=some (.int .u64)):(convert s d (U8 a)).run P w=.ok (bo a.toUInt64) w:=by
 unfold U8 bo;rw[jt hs hd,fE]
 have:=BH a
 have e:a.toUInt64.toNat=a.toNat%18446744073709551616:=by simp
 rw[e]
theorem tN {a:UInt8} (hd:P.underlying d=some (.int .i64)):(convert s d (U8 a)).run P w=.ok (I (a.toNat:Int)) w:=by
 unfold U8 I;have:=BH a;rw[jt hs hd,mp (by omega) (by omega)]
theorem dh {a:UInt32} (hd:P.underlying d=some (.int .u8)):(convert s d (bg a)).run P w=.ok (U8 a.toUInt8) w:=by
 unfold bg U8;rw[jt hs hd,pA]
 have:=BL a
 have e:a.toUInt8.toNat=a.toNat%256:=by simp
 rw[e]
theorem bt {a:UInt32} (hd:P.underlying d=some (.int .u64)):(convert s d (bg a)).run P w=.ok (bo a.toUInt64) w:=by
 unfold bg bo;rw[jt hs hd,fE]
 have:=BL a
 have e:a.toUInt64.toNat=a.toNat%18446744073709551616:=by simp
 rw[e]
theorem jH {a:UInt64} (hd:P.underlying d=some (.int .u8)):(convert s d (bo a)).run P w=.ok (U8 a.toUInt8) w:=by
 unfold bo U8;rw[jt hs hd,pA]
 have:=qg a
 have e:a.toUInt8.toNat=a.toNat%256:=by simp
 rw[e]
theorem bV {a:UInt64} (hd:P.underlying d=some (.int .u32)):(convert s d (bo a)).run P w=.ok (bg a.toUInt32) w:=by
 unfold bo bg;rw[jt hs hd,gX]
 have:=qg a
 have e:a.toUInt32.toNat=a.toNat%4294967296:=by simp
 rw[e]
theorem pB {a:Int} (hd:P.underlying d=some (.int .u64)):(convert s d (I a)).run P w=.ok (bo (UInt64.ofInt a)) w:=by
 unfold I bo;rw[jt hs hd,IntKind.wrap_u64]
 have e:((UInt64.ofInt a).toNat:Int)=a%18446744073709551616:=by
  have h2:(2:Int)^64=18446744073709551616:=by decide
  rw[UInt64.ofInt,h2,UInt64.toNat_ofNat'];omega
 rw[e]
theorem dT {a:Nat} (hd:P.underlying d=some (.int .u64)):(convert s d (I (a:Int))).run P w=.ok (bo (UInt64.ofNat a)) w:=by
 unfold I bo;rw[jt hs hd,fE,UInt64.toNat_ofNat']
theorem pC {a:UInt64} (hd:P.underlying d=some (.int .i64)) (h:a.toNat<9223372036854775808):(convert s d (bo a)).run P w=.ok (I (a.toNat:Int)) w:=by
 unfold bo I;rw[jt hs hd,mp (by omega) (by omega)]
end
def S (l:List UInt8):Value:=.string ⟨l.toArray⟩
theorem y2 {a b:List UInt8}:(bin .eql t x y (S a) (S b)).run P w=.ok (B (decide (a=b))) w:=by
 show Result.ok (Value.bool ((⟨a.toArray⟩:ByteArray).toList==(⟨b.toArray⟩:ByteArray).toList)) w=_
 rw[ByteArray.toList_mk,ByteArray.toList_mk]
 have e:(a==b)=decide (a=b):=by by_cases h:a=b<;>simp[h]
 rw[e];rfl
theorem tO {a b:List UInt8}:(bin .neq t x y (S a) (S b)).run P w=.ok (B (decide (a≠b))) w:=by
 show Result.ok (Value.bool (!((⟨a.toArray⟩:ByteArray).toList==(⟨b.toArray⟩:ByteArray).toList))) w=_
 rw[ByteArray.toList_mk,ByteArray.toList_mk]
 have e:(!(a==b))=decide (a≠b):=by by_cases h:a=b<;>simp[h]
 rw[e];rfl
end
end Go.Rl
namespace Go.Rl
open Go.RowKit Go.Proofs
theorem kX (vs:List Value):∀(a b:List Value),(∀v∈vs,v.cells= #[v])→b.length=vs.length→
 Instr.fill (fun i=>some (i*1,1)) (a++b).toArray (da a.length vs)=some (a++vs).toArray:=by
 induction vs with
 |nil=>
  intro a b _ hb
  have:b=[]:=List.eq_nil_of_length_eq_zero (by simpa using hb)
  subst this
  rfl
 |cons v vs ih=>
  intro a b h1 hb
  cases b with
  |nil=>simp at hb
  |cons b0 b=>
   have hv:v.cells= #[v]:=h1 v (by simp)
   have hz:v.cells.zipIdx.foldl (fun(cs:Array Value) (c,j)=>cs.setIfInBounds (a.length*1+j) c) (a++b0::b).toArray=((a++[v])++b).toArray:=by
    rw[hv];simp
   have hc:(v.cells.size≠1||decide (a.length*1+v.cells.size>(a++b0::b).toArray.size))=false:=by rw[hv];simp
   have:=ih (a++[v]) b (fun u hu=>h1 u (by simp[hu])) (by simpa using hb)
   simp only[da,Instr.fill]
   rw[hc,hz]
   simp only[List.length_append,List.length_cons,List.length_nil,Nat.zero_add] at this
   simpa using this
theorem nT {v:Value} (h:v.oneCell'=true):v.cells= #[v]:=by cases v<;>first|rfl|cases h
section
variable {P:Program} {w:World}
theorem j1 {base:Nat} {t e:TypeId} {z:Value} {bytes:Nat} (ht:P.underlying t=some (.slice e)) (hi:(P.info? e).map (fun i=>(i.zero,i.size,i.bytes))=some (some z,1,bytes))
 (vs:List Value) (h1:∀v∈vs,v.oneCell'=true) (hl:vs.length≤16777216) (hb:base≤w.heap.size):
 ∃r w',(Instr.buildSlice t vs.length (da 0 vs).toArray).run P w=.ok r w'∧aE w w'∧w'.ownsRow base e 1 r vs.length vs∧r.ownBlock=some w.heap.size:=by
 obtain⟨i,hi,hz0,hs,_⟩:=info_parts hi
 refine⟨.slice (some ⟨w.heap.size,0,none⟩) vs.length vs.length,w.alloc (.cells vs.toArray e),?_,aE.new w _,?_,rfl⟩
 ·have hf:∀Z:Array Value,Z.size=vs.length→Instr.fill (fun i=>some (i*1,1)) Z (da 0 vs)=some vs.toArray:=fun Z hZ=>by
   have:=kX vs [] Z.toList (fun v hv=>nT (h1 v hv)) (by simpa using hZ)
   simpa using this
  have hle:¬(vs.length*1>2^24):=by omega
  have hinfo:(typeInfo e).run P w=.ok i w:=by simp[typeInfo,hi]
  have hsz:(sizeOf e).run P w=.ok 1 w:=by simp[sizeOf,hinfo,hs]
  have hzv:(zeroValue e).run P w=.ok z w:=by simp[zeroValue,hinfo,hz0]
  simp only[Instr.buildSlice,Sem.run_bind,run_underlying ht,Result.andThen_ok,hsz,if_neg hle]
  by_cases h0:vs.length*1=0
  ·rw[if_pos h0]
   simp only[Sem.run_bind,Sem.run_pure,Result.andThen_ok]
   rw[hf _ (by simp)]
   simp[newRow]
  ·rw[if_neg h0]
   simp only[Sem.run_bind,Sem.run_pure,Result.andThen_ok,hzv]
   rw[hf _ (by simp)]
   simp[newRow]
 ·exact World.ownsRow_lit w vs.toArray vs.length hb (by unfold maxLen;omega) (by simp)
theorem bw {u v:Value}:(Instr.extract (.tuple #[u,v]) 0).run P w=.ok u w:=rfl
theorem bz {u v:Value}:(Instr.extract (.tuple #[u,v]) 1).run P w=.ok v w:=rfl
theorem et {u v z:Value}:(Instr.extract (.tuple #[u,v,z]) 0).run P w=.ok u w:=rfl
theorem eu {u v z:Value}:(Instr.extract (.tuple #[u,v,z]) 1).run P w=.ok v w:=rfl
theorem ew {u v z:Value}:(Instr.extract (.tuple #[u,v,z]) 2).run P w=.ok z w:=rfl
theorem y3 {t e:TypeId} (ht:P.underlying t=some (.slice e)) {x y:Operand} {A:Option Addr} {n c:Nat}:(bin .eql t x y (.slice A n c) (.slice none 0 0)).run P w=.ok (B A.isNone) w:=by
 have h:(Op.equal t (.slice A n c) (.slice none 0 0)).run P w=.ok A.isNone w:=by
  show(Op.equalIn (9999+1) t (.slice A n c) (.slice none 0 0)).run P w=_
  unfold Op.equalIn
  cases A<;>simp[run_underlying ht]
 show(do pure (Value.bool (←Op.equal t (.slice A n c) (.slice none 0 0))):Sem Value).run P w=_
 rw[Sem.run_bind,h];rfl
theorem kY {t e:TypeId} (ht:P.underlying t=some (.pointer e)) {x y:Operand} {a:Option Addr}:(bin .eql t x y (.pointer a) (.pointer none)).run P w=.ok (B a.isNone) w:=by
 have h:(Op.equal t (.pointer a) (.pointer none)).run P w=.ok a.isNone w:=by
  show(Op.equalIn (9999+1) t (.pointer a) (.pointer none)).run P w=_
  unfold Op.equalIn
  cases a<;>simp[run_underlying ht]
 show(do pure (Value.bool (←Op.equal t (.pointer a) (.pointer none))):Sem Value).run P w=_
 rw[Sem.run_bind,h];rfl
theorem BN {t e:TypeId} (ht:P.underlying t=some (.pointer e)) {x y:Operand} {a:Option Addr}:(bin .neq t x y (.pointer a) (.pointer none)).run P w=.ok (B a.isSome) w:=by
 have h:(Op.equal t (.pointer a) (.pointer none)).run P w=.ok a.isNone w:=by
  show(Op.equalIn (9999+1) t (.pointer a) (.pointer none)).run P w=_
  unfold Op.equalIn
  cases a<;>simp[run_underlying ht]
 show(do pure (Value.bool (!(←Op.equal t (.pointer a) (.pointer none)))):Sem Value).run P w=_
 rw[Sem.run_bind,h]
 cases a<;>rfl
end
section
variable {w:World}
def bQ (l:List UInt8):cH:=Sl 1 (l.map U8)
def bZ (base:Nat) (l:List UInt8):cH:=fun v w=>∃n,w.ownsRow base 5 1 v n (l.map U8)
theorem bQ.stable (l:List UInt8):be (bQ l):=Sl.stable _ _
theorem bQ.ext {l:List UInt8} {v:Value} {w w':World} (h:bQ l v w) (hx:aE w w'):bQ l v w':=Sl.ext h hx
theorem bZ.bts {base:Nat} {l:List UInt8} {v:Value} (h:bZ base l v w):bQ l v w:=h.elim fun _ h=>Sl.of_own h
theorem bZ.stable (base:Nat) (l:List UInt8):be (bZ base l):=fun _ _ _ h hx=>h.elim fun n h=>⟨n,eE h hx⟩
theorem bZ.ext {base:Nat} {l:List UInt8} {v:Value} {w w':World} (h:bZ base l v w) (hx:aE w w'):bZ base l v w':=bZ.stable _ _ _ _ _ h hx
theorem iZ (l:List UInt8):∀u∈l.map U8,u.oneCell'=true:=by
 intro u hu
 obtain⟨b,_,rfl⟩:=List.mem_map.1 hu
 rfl
theorem lJ:(Tryz.prog.info? 5).map (fun i=>(i.zero,i.size,i.bytes))=some (some (.int .u8 0),1,1):=by kernel_rfl
theorem fu:(Tryz.prog.info? 5).map (·.size)=some 1:=by kernel_rfl
theorem BO (l:List UInt8):∀(s:ByteArray),(l.map (fun b=>(b.toNat:Int))).foldl (fun r n=>r.push (UInt8.ofNat n.toNat)) s=⟨(s.data.toList++l).toArray⟩:=by
 induction l with
 |nil=>intro s;simp
 |cons b l ih=>
  intro s
  rw[List.map_cons,List.foldl_cons,ih]
  simp[ByteArray.push]
theorem qh {l:List UInt8} {v:Value} (h:bQ l v w):(convert 22 9 v).run Tryz.prog w=.ok (S l) w:=by
 obtain⟨A,n,c,rfl,hnc,hcm,hl,hc,hnone⟩:=h
 have hl':l.length=n:=by simpa using hl
 rw[run_convert_bytes_string w _ _ _ A n c HF HH Tryz.underlying9]
 have hn0:n=0→l=[]:=fun h=>List.eq_nil_of_length_eq_zero (by omega)
 cases A with
 |none=>
  have:=hnone rfl
  rw[hn0 (by omega)]
  rfl
 |some a=>
  have cu:cS w a (l.map U8):=by
   rcases Nat.eq_zero_or_pos n with h0|h0
   ·rw[hn0 h0];intro j u hu;simp at hu
   ·obtain⟨ad,he,hc⟩:=hc h0
    obtain rfl:=Option.some.inj he
    exact hc
  have hload:=run_loadCells_list (P:=Tryz.prog) (w:=w) a (l.map U8) cu
  have hmap:(l.map U8)=(l.map (fun b=>(b.toNat:Int))).map (Value.int .u8):=by rw[List.map_map];rfl
  rw[hmap] at hload
  simp only[List.length_map] at hload
  rw[hl'] at hload
  rw[run_bytesToString w a n c _ hload,BO]
  rfl
theorem cc {l:List UInt8} {v:Value} {ty:TypeId} (h:bQ l v w):(Builtin.len_ #[22] ty #[v]).run Tryz.prog w=.ok (I l.length) w:=by
 obtain⟨n,hl,_,hr⟩:=BG (P:=Tryz.prog) (ty:=ty) HF h
 have:l.length=n:=by simpa using hl
 rw[hr,this]
theorem bQ.len {l:List UInt8} {v:Value} (h:bQ l v w):l.length≤9223372036854775807:=by
 obtain⟨A,n,c,rfl,hnc,hcm,hl,_⟩:=h
 have:l.length=n:=by simpa using hl
 unfold maxLen at hcm;omega
theorem dc {base:Nat} {l m:List UInt8} {v x:Value} {ty:TypeId} (hv:bZ base l v w) (hx:bQ m x w) (hb:l.length+m.length≤140737488355328) (hbase:base≤w.heap.size):
 ∃r w',(Builtin.append_ #[22,22] ty #[v,x]).run Tryz.prog w=.ok r w'∧bZ base (l++m) r w'∧fh w w' v r:=by
 obtain⟨n,hv⟩:=hv
 obtain⟨r,w',n',h1,h2,h3⟩:=mY (P:=Tryz.prog) (ty:=ty) Tryz.underlying22 lJ rfl (by omega) hv hx (iZ m) (by simpa using hb) (by omega) hbase
 exact⟨r,w',h1,⟨n',by rw[List.map_append];exact h2⟩,h3⟩
theorem ej (base:Nat) (l:List UInt8) (hl:l.length≤16777216) (hb:base≤w.heap.size):
 ∃r w',(Instr.buildSlice 22 l.length (da 0 (l.map U8)).toArray).run Tryz.prog w=.ok r w'∧aE w w'∧bZ base l r w'∧r.ownBlock=some w.heap.size:=by
 have:=j1 (P:=Tryz.prog) (w:=w) Tryz.underlying22 lJ (l.map U8) (iZ l) (by simpa using hl) hb
 simp only[List.length_map] at this
 obtain⟨r,w',h1,h2,h3,h4⟩:=this
 exact⟨r,w',h1,h2,⟨_,h3⟩,h4⟩
theorem u9 {l:List UInt8} {v:Value} (h:bQ l v w) {lo hi:Nat} (h1:lo≤hi) (h2:hi≤l.length) (kl kh:IntKind):
 ∃r,(∀w':World,(Instr.sliceAt 22 v (some (.int kl lo)) (some (.int kh hi)) none).run Tryz.prog w'=.ok r w')∧bQ ((l.take hi).drop lo) r w:=by
 obtain⟨r,h3,h4⟩:=Ej (P:=Tryz.prog) Tryz.underlying22 fu h h1 (by simpa using h2) (by omega) kl kh
 exact⟨r,h3,by simpa [bQ,List.map_drop,List.map_take] using h4⟩
theorem i0 {l:List UInt8} {v:Value} (h:bQ l v w) {lo:Nat} (h2:lo≤l.length) (kl:IntKind):
 ∃r,(∀w':World,(Instr.sliceAt 22 v (some (.int kl lo)) none none).run Tryz.prog w'=.ok r w')∧bQ (l.drop lo) r w:=by
 obtain⟨r,h3,h4⟩:=pZ (P:=Tryz.prog) Tryz.underlying22 fu h (lo:=lo) (by simpa using h2) (by omega) kl
 exact⟨r,h3,by simpa [bQ,List.map_drop] using h4⟩
theorem jI {l:List UInt8} {v:Value} (h:bQ l v w) {hi:Nat} (h2:hi≤l.length) (kh:IntKind):
 ∃r,(∀w':World,(Instr.sliceAt 22 v none (some (.int kh hi)) none).run Tryz.prog w'=.ok r w')∧bQ (l.take hi) r w:=by
 obtain⟨r,h3,h4⟩:=p9 (P:=Tryz.prog) Tryz.underlying22 fu h (hi:=hi) (by simpa using h2) (by omega) kh
 exact⟨r,h3,by simpa [bQ,List.map_take] using h4⟩
theorem iz {l:List UInt8} {v:Value} (h:bQ l v w) {i:Nat} (hi:i<l.length) (k:IntKind):
 ∃ad,(∀w':World,(Instr.indexAt 22 v (.int k i)).run Tryz.prog w'=.ok (.pointer (some ad)) w')∧w.cell? ad=some (U8 l[i]):=by
 obtain⟨ad,h3,h4⟩:=pz (P:=Tryz.prog) Tryz.underlying22 fu h (i:=i) (by simp;omega) (by omega) k
 refine⟨ad,h3,?_⟩
 have:=h4 0 (U8 l[i]) (by simp[hi])
 rwa [iX] at this
theorem Fo {ad:Addr} {b:UInt8} (h:w.cell? ad=some (U8 b)):(Instr.loadAt 5 (.pointer (some ad))).run Tryz.prog w=.ok (U8 b) w:=aj HH rfl h
def GY (l:List (List UInt8)):cH:=Sl 1 (l.map S)
theorem GY.ext {l:List (List UInt8)} {v:Value} {w w':World} (h:GY l v w) (hx:aE w w'):GY l v w':=Sl.ext h hx
theorem GY.len {l:List (List UInt8)} {v:Value} (h:GY l v w):l.length≤9223372036854775807:=by
 obtain⟨A,n,c,rfl,hnc,hcm,hl,_⟩:=h
 have:l.length=n:=by simpa using hl
 unfold maxLen at hcm;omega
def bu (l:List UInt32):cH:=Sl 1 (l.map bg)
def dw (base:Nat) (l:List UInt32):cH:=fun v w=>∃n,w.ownsRow base 149 1 v n (l.map bg)
theorem bu.stable (l:List UInt32):be (bu l):=Sl.stable _ _
theorem bu.ext {l:List UInt32} {v:Value} {w w':World} (h:bu l v w) (hx:aE w w'):bu l v w':=Sl.ext h hx
theorem dw.wds {base:Nat} {l:List UInt32} {v:Value} (h:dw base l v w):bu l v w:=h.elim fun _ h=>Sl.of_own h
theorem dw.stable (base:Nat) (l:List UInt32):be (dw base l):=fun _ _ _ h hx=>h.elim fun n h=>⟨n,eE h hx⟩
theorem dw.ext {base:Nat} {l:List UInt32} {v:Value} {w w':World} (h:dw base l v w) (hx:aE w w'):dw base l v w':=dw.stable _ _ _ _ _ h hx
theorem dw.nil (base:Nat) (w:World):dw base [] (.slice none 0 0) w:=⟨0,World.ownsRow_nil _ _ _ _⟩
theorem bZ.nil (base:Nat) (w:World):bZ base [] (.slice none 0 0) w:=⟨0,World.ownsRow_nil _ _ _ _⟩
theorem bQ.nil (w:World):bQ [] (.slice none 0 0) w:=Sl.nil _ _
theorem bu.nil (w:World):bu [] (.slice none 0 0) w:=Sl.nil _ _
theorem y4 (l:List UInt32):∀u∈l.map bg,u.oneCell'=true:=by
 intro u hu
 obtain⟨b,_,rfl⟩:=List.mem_map.1 hu
 rfl
theorem qi:(Tryz.prog.info? 149).map (fun i=>(i.zero,i.size,i.bytes))=some (some (.int .u32 0),1,4):=by kernel_rfl
theorem dx:(Tryz.prog.info? 149).map (·.size)=some 1:=by kernel_rfl
theorem bf {t:TypeId} (ht:Tryz.prog.underlying t=some (.slice 149)) {l:List UInt32} {v:Value} {ty:TypeId} (h:bu l v w):(Builtin.len_ #[t] ty #[v]).run Tryz.prog w=.ok (I l.length) w:=by
 obtain⟨n,hl,_,hr⟩:=BG (P:=Tryz.prog) (ty:=ty) ht h
 have:l.length=n:=by simpa using hl
 rw[hr,this]
theorem bu.len {l:List UInt32} {v:Value} (h:bu l v w):l.length≤9223372036854775807:=by
 obtain⟨A,n,c,rfl,hnc,hcm,hl,_⟩:=h
 have:l.length=n:=by simpa using hl
 unfold maxLen at hcm;omega
theorem cr {t:TypeId} (ht:Tryz.prog.underlying t=some (.slice 149)) {l:List UInt32} {v:Value} (h:bu l v w) {i:Nat} (hi:i<l.length) (k:IntKind):
 ∃ad,(∀w':World,(Instr.indexAt t v (.int k i)).run Tryz.prog w'=.ok (.pointer (some ad)) w')∧w.cell? ad=some (bg l[i]):=by
 obtain⟨ad,h3,h4⟩:=pz (P:=Tryz.prog) ht dx h (i:=i) (by simp;omega) (by omega) k
 refine⟨ad,h3,?_⟩
 have:=h4 0 (bg l[i]) (by simp[hi])
 rwa [iX] at this
theorem Fp {ad:Addr} {b:UInt32} (h:w.cell? ad=some (bg b)):(Instr.loadAt 149 (.pointer (some ad))).run Tryz.prog w=.ok (bg b) w:=aj HB rfl h
theorem ju {base:Nat} {t:TypeId} (ht:Tryz.prog.underlying t=some (.slice 149)) {l m:List UInt32} {v x:Value} {ty:TypeId} (hv:dw base l v w) (hx:bu m x w) (hb:l.length+m.length≤35184372088832) (hbase:base≤w.heap.size):
 ∃r w',(Builtin.append_ #[t,t] ty #[v,x]).run Tryz.prog w=.ok r w'∧dw base (l++m) r w'∧fh w w' v r:=by
 obtain⟨n,hv⟩:=hv
 obtain⟨r,w',n',h1,h2,h3⟩:=mY (P:=Tryz.prog) (ty:=ty) ht qi rfl (by omega) hv hx (y4 m) (by simp;omega) (by omega) hbase
 exact⟨r,w',h1,⟨n',by rw[List.map_append];exact h2⟩,h3⟩
theorem iA {t:TypeId} (ht:Tryz.prog.underlying t=some (.slice 149)) (base:Nat) (l:List UInt32) (hl:l.length≤16777216) (hb:base≤w.heap.size):
 ∃r w',(Instr.buildSlice t l.length (da 0 (l.map bg)).toArray).run Tryz.prog w=.ok r w'∧aE w w'∧dw base l r w'∧r.ownBlock=some w.heap.size:=by
 have:=j1 (P:=Tryz.prog) (w:=w) ht qi (l.map bg) (y4 l) (by simpa using hl) hb
 simp only[List.length_map] at this
 obtain⟨r,w',h1,h2,h3,h4⟩:=this
 exact⟨r,w',h1,h2,⟨_,h3⟩,h4⟩
end
end Go.Rl
namespace Go.Rl
open Go.RowKit Go.Proofs
section
variable {P:Program} {w w':World}
theorem dy {t:TypeId} {n:Nat} (h:(P.info? t).map (·.size)=some n):(sizeOf t).run P w=.ok n w:=by
 obtain⟨i,hi,rfl⟩:=Option.map_eq_some_iff.1 h
 simp[sizeOf,typeInfo,hi]
theorem qj {t:TypeId} {z:Value} (h:(P.info? t).map (·.zero)=some (some z)):(zeroValue t).run P w=.ok z w:=by
 obtain⟨i,hi,h⟩:=Option.map_eq_some_iff.1 h
 simp[zeroValue,typeInfo,hi,h]
theorem m4 {t:TypeId} {v:Value}:(Instr.box t v).run P w=.ok (.pointer (some ⟨w.heap.size,0,none⟩)) (w.alloc (.cells v.cells t)):=by
 simp[Instr.box,newVar,newRow]
theorem tP {t:TypeId} {z:Value} (h:(P.info? t).map (·.zero)=some (some z)):(Instr.alloc t true (.tuple #[])).run P w=.ok (.pointer (some ⟨w.heap.size,0,none⟩)) (w.alloc (.cells z.cells t)):=by
 simp[Instr.alloc,qj h,newVar,newRow]
theorem bK {s:TypeId} {fs:Array Field} {f:Field} {n k:Nat} {a:Addr} (hs:P.underlying s=some (.struct fs)) (hf:fs[n]? =some f) (hsz:(P.info? f.type).map (·.size)=some k) (hk:k≠0):
 (Instr.fieldAt s (.pointer (some a)) n).run P w=.ok (.pointer (some (a.add f.offset))) w:=by
 simp[Instr.fieldAt,run_underlying hs,hf,Instr.sureAddr,fieldPlace,dy hsz,hk]
theorem gE {g i:Nat} {cs:Array Value} {T:TypeId} {fr:Nat×Nat} {v:Value} (h:w.heap[g]? =some (.cells cs T fr)) (hi:cs[i]? =some v):w.cell? ⟨g,i,none⟩=some v:=(cell_of_row w g i cs T fr h).trans hi
theorem Sl.keep {sz:Nat} {xs:List Value} {v:Value} {g:Nat} {cs:Array Value} {T:TypeId} {fr:Nat×Nat} (h:Sl sz xs v w) (hg:w.heap[g]? =some (.cells cs T fr)) (hcs:∀(j:Nat) (u:Value),u∈xs→cs[j]? ≠some u) (hw:w.grownBy w' (some g)):Sl sz xs v w':=by
 obtain⟨A,n,c,rfl,h1,h2,h3,h4,h5⟩:=h
 refine⟨A,n,c,rfl,h1,h2,h3,fun hn=>?_,h5⟩
 obtain⟨ad,rfl,hc⟩:=h4 hn
 refine⟨ad,rfl,fun j u hu=>?_⟩
 have hcell:=hc j u hu
 have hne:(ad.add j).block≠g:=fun he=>by
  have hmem:u∈xs:=List.mem_of_getElem? hu
  have:w.cell? (ad.add j)=cs[(ad.add j).off]? :=by
   have hs:(ad.add j).spot=none:=World.cell?_spot hcell
   have e:ad.add j=⟨g,(ad.add j).off,none⟩:=by
    cases hx:ad.add j with
    |mk b o s=>
     rw[hx] at hs he
     simp only at hs he
     rw[hs,he]
   rw[e]
   exact cell_of_row w g _ cs T fr hg
  rw[hcell] at this
  exact hcs _ u hmem this.symm
 have hlt:=World.block_lt_of_cell? w (ad.add j) hcell
 exact(World.cell?_of_block (hw.block _ hlt (fun e=>hne (Option.some.inj e)))).trans hcell
end
end Go.Rl
namespace Go.Rl
open Go.RowKit
inductive Dt where
 |int (k:IntKind) (n:Int)
 |bool (b:Bool)
 |str (l:List UInt8)
 |sl (l:List Dt)
 |st (l:List Dt)
mutual
def Dt.size:Dt→Nat
 |.int _ _=>1
 |.bool _=>1
 |.str _=>1
 |.sl _=>1
 |.st l=>Dt.sizeAll l
def Dt.sizeAll:List Dt→Nat
 |[]=>0
 |d::l=>d.size+Dt.sizeAll l
end
mutual
def Rp (w:World):Dt→List Value→Prop
 |.int k n,cs=>cs=[.int k n]
 |.bool b,cs=>cs=[.bool b]
 |.str l,cs=>cs=[S l]
 |.sl l,cs=>∃A n c,cs=[.slice A n c]∧l.length=n∧n≤c∧c≤maxLen∧(A=none→c=0)∧(0<n→∃ad xs,A=some ad∧cS w ad xs∧bC w l xs)
 |.st l,cs=>bC w l cs
def bC (w:World):List Dt→List Value→Prop
 |[],cs=>cs=[]
 |d::ds,cs=>∃c1 c2,cs=c1++c2∧Rp w d c1∧bC w ds c2
end
mutual
theorem Rp.len {w:World}:∀{d:Dt} {cs:List Value},Rp w d cs→cs.length=d.size
 |.int k n,cs,h=>by simp only[Rp] at h;subst h;rfl
 |.bool b,cs,h=>by simp only[Rp] at h;subst h;rfl
 |.str l,cs,h=>by simp only[Rp] at h;subst h;rfl
 |.sl l,cs,h=>by simp only[Rp] at h;obtain⟨A,n,c,rfl,_⟩:=h;rfl
 |.st l,cs,h=>by simp only[Rp] at h;simpa [Dt.size] using bC.len h
theorem bC.len {w:World}:∀{l:List Dt} {cs:List Value},bC w l cs→cs.length=Dt.sizeAll l
 |[],cs,h=>by simp only[bC] at h;subst h;rfl
 |d::l,cs,h=>by
  simp only[bC] at h
  obtain⟨c1,c2,rfl,h1,h2⟩:=h
  simp[Dt.sizeAll,Rp.len h1,bC.len h2]
end
mutual
theorem Rp.ext {w w':World} (hx:aE w w'):∀{d:Dt} {cs:List Value},Rp w d cs→Rp w' d cs
 |.int k n,cs,h=>by simpa only[Rp] using h
 |.bool b,cs,h=>by simpa only[Rp] using h
 |.str l,cs,h=>by simpa only[Rp] using h
 |.sl l,cs,h=>by
  simp only[Rp] at h⊢
  obtain⟨A,n,c,h1,h2,h3,h4,h5,h6⟩:=h
  refine⟨A,n,c,h1,h2,h3,h4,h5,fun hn=>?_⟩
  obtain⟨ad,xs,h7,h8,h9⟩:=h6 hn
  exact⟨ad,xs,h7,h8.ext hx,bC.ext hx h9⟩
 |.st l,cs,h=>by simp only[Rp] at h⊢;exact bC.ext hx h
theorem bC.ext {w w':World} (hx:aE w w'):∀{l:List Dt} {cs:List Value},bC w l cs→bC w' l cs
 |[],cs,h=>by simpa only[bC] using h
 |d::l,cs,h=>by
  simp only[bC] at h⊢
  obtain⟨c1,c2,h0,h1,h2⟩:=h
  exact⟨c1,c2,h0,Rp.ext hx h1,bC.ext hx h2⟩
end
section
variable {w:World}
theorem bC.nil:bC w [] []:=by simp only[bC]
theorem bC.cons {d:Dt} {l:List Dt} {a b:List Value} (h:Rp w d a) (h':bC w l b):bC w (d::l) (a++b):=by simp only[bC];exact⟨a,b,rfl,h,h'⟩
theorem cD {sz:Nat}:∀{l:List Dt},(∀d∈l,d.size=sz)→Dt.sizeAll l=l.length*sz
 |[],_=>by simp[Dt.sizeAll]
 |d::l,h=>by
  rw[Dt.sizeAll,h d (by simp),cD fun e he=>h e (by simp[he]),List.length_cons,Nat.add_mul]
  omega
theorem bC.split {sz:Nat}:∀{l:List Dt} {xs:List Value} (k:Nat),bC w l xs→(∀d∈l,d.size=sz)→k≤l.length→bC w (l.take k) (xs.take (k*sz))∧bC w (l.drop k) (xs.drop (k*sz))
 |l,xs,0,h,_,_=>by simp[bC.nil,h]
 |[],xs,k+1,h,_,hk=>by simp at hk
 |d::l,xs,k+1,h,hs,hk=>by
  simp only[bC] at h
  obtain⟨c1,c2,rfl,h1,h2⟩:=h
  have hc:c1.length=sz:=by rw[h1.len];exact hs d (by simp)
  obtain⟨h3,h4⟩:=bC.split k h2 (fun e he=>hs e (by simp[he])) (by simpa using hk)
  have e:(k+1)*sz=c1.length+k*sz:=by rw[hc,Nat.add_mul];omega
  rw[e,List.take_length_add_append,List.drop_length_add_append]
  exact⟨bC.cons h1 h3,h4⟩
theorem bC.at {sz:Nat} {l:List Dt} {xs:List Value} {i:Nat} (h:bC w l xs) (hs:∀d∈l,d.size=sz) (hi:i<l.length):Rp w l[i] ((xs.drop (i*sz)).take sz):=by
 obtain⟨_,h2⟩:=bC.split i h hs (by omega)
 rw[List.drop_eq_getElem_cons hi] at h2
 simp only[bC] at h2
 obtain⟨c1,c2,he,h1,_⟩:=h2
 have hc:c1.length=sz:=by rw[h1.len];exact hs _ (List.getElem_mem hi)
 rw[he,←hc,List.take_left']
 ·exact h1
 ·rfl
theorem Rp.toSl {sz:Nat} {l:List Dt} {v:Value} (h:Rp w (.sl l) [v]) (hs:∀d∈l,d.size=sz):∃xs,Sl sz xs v w∧bC w l xs:=by
 simp only[Rp] at h
 obtain⟨A,n,c,hv,h2,h3,h4,h5,h6⟩:=h
 obtain rfl:v=.slice A n c:=by simpa using hv
 rcases Nat.eq_zero_or_pos n with h0|h0
 ·have:l=[]:=List.eq_nil_of_length_eq_zero (by omega)
  subst this
  exact⟨[],⟨A,n,c,rfl,h3,h4,by subst h0;simp,fun h=>by omega,h5⟩,bC.nil⟩
 ·obtain⟨ad,xs,rfl,h8,h9⟩:=h6 h0
  exact⟨xs,⟨_,n,c,rfl,h3,h4,by rw[h9.len,cD hs,h2],fun _=>⟨ad,rfl,h8⟩,h5⟩,h9⟩
theorem Rp.ofSl {sz:Nat} {l:List Dt} {v:Value} {xs:List Value} (h:Sl sz xs v w) (ha:bC w l xs) (hs:∀d∈l,d.size=sz) (h0:0<sz):Rp w (.sl l) [v]:=by
 obtain⟨A,n,c,rfl,h3,h4,h5,h6,h7⟩:=h
 simp only[Rp]
 refine⟨A,n,c,rfl,?_,h3,h4,h7,fun hn=>?_⟩
 ·have:=ha.len
  rw[cD hs,h5] at this
  exact(Nat.eq_of_mul_eq_mul_right h0 this).symm
 ·obtain⟨ad,rfl,hc⟩:=h6 hn
  exact⟨ad,xs,rfl,hc,ha⟩
theorem Rp.isSlice {l:List Dt} {cs:List Value} (h:Rp w (.sl l) cs):∃v,cs=[v]∧Rp w (.sl l) [v]∧v.oneCell'=true:=by
 have h':=h
 simp only[Rp] at h
 obtain⟨A,n,c,rfl,_⟩:=h
 exact⟨_,rfl,h',rfl⟩
theorem Rp.nilSl:Rp w (.sl []) [.slice none 0 0]:=by
 simp only[Rp]
 exact⟨none,0,0,rfl,rfl,Nat.le_refl _,Nat.zero_le _,fun _=>rfl,fun h=>by omega⟩
theorem Rp.slLen {l:List Dt} {v:Value} (h:Rp w (.sl l) [v]):l.length≤9223372036854775807:=by
 simp only[Rp] at h
 obtain⟨A,n,c,_,h2,h3,h4,_⟩:=h
 unfold maxLen at h4
 omega
theorem bC.map_cell {α:Type} {f:α→Dt} {g:α→Value} (hf:∀x cs,Rp w (f x) cs↔cs=[g x]):∀{l:List α} {xs:List Value},bC w (l.map f) xs↔xs=l.map g
 |[],xs=>by simp only[List.map_nil,bC]
 |x::l,xs=>by
  simp only[List.map_cons,bC,hf]
  constructor
  ·rintro⟨c1,c2,rfl,rfl,h⟩
   rw[(bC.map_cell hf).1 h];rfl
  ·rintro rfl
   exact⟨[g x],l.map g,rfl,rfl,(bC.map_cell hf).2 rfl⟩
theorem Rp.sl_cells {α:Type} {f:α→Dt} {g:α→Value} (hf:∀x cs,Rp w (f x) cs↔cs=[g x]) (h1:∀x,(f x).size=1) {l:List α} {v:Value}:Rp w (.sl (l.map f)) [v]↔Sl 1 (l.map g) v w:=by
 have hs:∀d∈l.map f,d.size=1:=by
  intro d hd
  obtain⟨x,_,rfl⟩:=List.mem_map.1 hd
  exact h1 x
 constructor
 ·intro h
  obtain⟨xs,h2,h3⟩:=h.toSl hs
  rw[(bC.map_cell hf).1 h3] at h2
  exact h2
 ·intro h
  exact Rp.ofSl h ((bC.map_cell hf).2 rfl) hs (by omega)
def dU8 (x:UInt8):Dt:=.int .u8 (x.toNat:Int)
def nU (x:UInt32):Dt:=.int .u32 (x.toNat:Int)
def dI (x:Int64):Dt:=.int .i64 x.toInt
theorem Rp.bytes {l:List UInt8} {v:Value}:Rp w (.sl (l.map dU8)) [v]↔Sl 1 (l.map U8) v w:=Rp.sl_cells (fun x cs=>by simp only[dU8,Rp,U8]) fun _=>rfl
theorem Rp.words {l:List UInt32} {v:Value}:Rp w (.sl (l.map nU)) [v]↔Sl 1 (l.map bg) v w:=Rp.sl_cells (fun x cs=>by simp only[nU,Rp,bg]) fun _=>rfl
theorem Rp.ints {l:List Int64} {v:Value}:Rp w (.sl (l.map dI)) [v]↔Sl 1 (l.map fun x=>I x.toInt) v w:=Rp.sl_cells (fun x cs=>by simp only[dI,Rp,I]) fun _=>rfl
end
section
variable {P:Program} {w:World} {t e:TypeId}
theorem FW {l:List Dt} {v:Value} {ty:TypeId} (ht:P.underlying t=some (.slice e)) (h:Rp w (.sl l) [v]):(Builtin.len_ #[t] ty #[v]).run P w=.ok (I l.length) w:=by
 simp only[Rp] at h
 obtain⟨A,n,c,hv,h2,_⟩:=h
 obtain rfl:v=.slice A n c:=by simpa using hv
 simp[Builtin.len_,run_underlying ht,goInt,I,h2]
theorem GZ {sz:Nat} {l:List Dt} {v:Value} (ht:P.underlying t=some (.slice e)) (hz:(P.info? e).map (·.size)=some sz) (h:Rp w (.sl l) [v]) (hs:∀d∈l,d.size=sz) (h0:0<sz) {i:Nat} (hi:i<l.length) (k:IntKind):
 ∃ad cs,(∀w':World,(Instr.indexAt t v (.int k i)).run P w'=.ok (.pointer (some ad)) w')∧cS w ad cs∧Rp w l[i] cs:=by
 obtain⟨xs,h1,h2⟩:=h.toSl hs
 have hlen:(i+1)*sz≤xs.length:=by
  rw[h2.len,cD hs]
  exact Nat.mul_le_mul_right _ hi
 obtain⟨ad,h3,h4⟩:=pz ht hz h1 hlen h0 k
 exact⟨ad,_,h3,h4,h2.at hs hi⟩
theorem cS.cell0 {ad:Addr} {v:Value} (h:cS w ad [v]):w.cell? ad=some v:=by
 have:=h 0 v rfl
 rwa [iX] at this
theorem cS.cell {ad:Addr} {xs:List Value} (h:cS w ad xs) (j:Nat) {v:Value} (hj:xs[j]? =some v):w.cell? (ad.add j)=some v:=h j v hj
theorem G0 {d:TypeDesc} {ad:Addr} {cs:List Value} (h:cS w ad cs) (ht:P.underlying t=some d) (hd:d.isRow=true) (hz:(P.info? t).map (·.size)=some cs.length):(Instr.loadAt t (.pointer (some ad))).run P w=.ok (.agg cs.toArray) w:=by
 have hagg:(isAgg t).run P w=.ok true w:=by
  unfold isAgg
  simp only[Sem.run_bind,run_underlying ht,Result.andThen_ok]
  cases d<;>simp_all [TypeDesc.isRow]
 have hl:=run_loadCells_list (P:=P) (w:=w) ad cs h
 simp[Instr.loadAt,Instr.sureAddr,loadVar,Sem.run_bind,hagg,dy hz,hl]
end
section
variable {P:Program} {H:Type} {enc:TypeId×Value→H} {W:World} {base:Nat} {spare:Nat→Bool} {held:Bool}
def vd (P:Program) (ts:List TypeId):List Field→Nat→Nat→Bool
 |[],o,n=>o==n
 |f::fs,o,n=>f.offset==o&&ts.contains f.type&&vd P ts fs (o+P.cellsOf f.type) n
def tQ (P:Program) (ts:List TypeId):Bool:=ts.all fun t=>
 match P.underlying t with
 |some (.int _)=>P.cellsOf t==1
 |some .bool=>P.cellsOf t==1
 |some .string=>P.cellsOf t==1
 |some (.slice e)=>P.cellsOf t==1&&ts.contains e
 |some (.struct fs)=>vd P ts fs.toList 0 (P.cellsOf t)
 |some (.array n e)=>P.cellsOf t==n*P.cellsOf e&&ts.contains e
 |_=>false
mutual
def dL:DataW H→Dt
 |.lit (.int k n)=>.int k n
 |.lit (.bool b)=>.bool b
 |.lit (.string l)=>.str l
 |.slice elems _=>.sl (kN elems)
 |.agg parts=>.st (kN parts)
 |_=>.sl []
def kN:List (DataW H)→List Dt
 |[]=>[]
 |d::l=>dL d::kN l
end
theorem lK:∀(l:List (DataW H)),kN l=l.map dL
 |[]=>by simp[kN]
 |d::l=>by simp[kN,lK l]
inductive Ty (P:Program):TypeId→Dt→Prop
 |int {t k n}:P.underlying t=some (.int k)→(Lit.int k n).wf=true→Ty P t (.int k n)
 |bool {t b}:P.underlying t=some .bool→Ty P t (.bool b)
 |str {t l}:P.underlying t=some .string→l.length≤maxLen→Ty P t (.str l)
 |sl {t e l}:P.underlying t=some (.slice e)→(∀d∈l,Ty P e d)→Ty P t (.sl l)
 |st {t fs l}:P.underlying t=some (.struct fs)→l.length=fs.size→(∀(i:Nat) (f:Field) (d:Dt),fs[i]? =some f→l[i]? =some d→Ty P f.type d)→Ty P t (.st l)
 |arr {t e n l}:P.underlying t=some (.array n e)→l.length=n→(∀d∈l,Ty P e d)→Ty P t (.st l)
theorem y5 {sz:Nat} {a:Addr}:∀(ds:List Dt) (k:Nat),(∀(i:Nat) (d:Dt),ds[i]? =some d→∃c:List Value,c.length=sz∧(∀j u,c[j]? =some u→W.cell? (a.add ((k+i)*sz+j))=some u)∧Rp W d c)→
 ∃xs,bC W ds xs∧∀j u,xs[j]? =some u→W.cell? (a.add (k*sz+j))=some u
 |[],k,_=>⟨[],bC.nil,by simp⟩
 |d::ds,k,h=>by
  obtain⟨c,hc,h1,h2⟩:=h 0 d rfl
  obtain⟨xs,h3,h4⟩:=y5 ds (k+1) fun i e he=>by
   obtain⟨c,hc,h1,h2⟩:=h (i+1) e he
   exact⟨c,hc,fun j u hu=>by rw[←h1 j u hu];congr 2;congr 2;omega,h2⟩
  refine⟨c++xs,bC.cons h2 h3,fun j u hu=>?_⟩
  rw[List.getElem?_append] at hu
  split at hu
  ·have:=h1 j u hu
   rwa [Nat.add_zero] at this
  ·rename_i hj
   have:=h4 _ u hu
   rw[←this]
   congr 2
   rw[hc] at hj⊢
   rw[Nat.add_mul]
   omega
theorem ss {ts:List TypeId} {n:Nat} {cs:List Value} (hcl:∀(t:TypeId) (cs:List Value) (x:DataW H×List MemPlace),t∈ts→DataW.trod enc P W base spare held n t cs=some x→Rp W (dL x.1) cs∧Ty P t (dL x.1)):
 ∀(fs:List Field) (o:Nat) (xs:List (DataW H×List MemPlace)),xs.length=fs.length→vd P ts fs o cs.length=true→o≤cs.length→
  (∀(i:Nat) (f:Field),fs[i]? =some f→DataW.trod enc P W base spare held n f.type ((cs.drop f.offset).take (P.cellsOf f.type))=xs[i]?)→
  bC W (xs.map fun x=>dL x.1) (cs.drop o)∧∀(i:Nat) (f:Field) (d:Dt),fs[i]? =some f→(xs.map fun x=>dL x.1)[i]? =some d→Ty P f.type d
 |[],o,xs,hl,hs,ho,_=>by
  have:xs=[]:=List.eq_nil_of_length_eq_zero (by simpa using hl)
  subst this
  have:o=cs.length:=by simpa [vd] using hs
  subst this
  simp[bC.nil]
 |f::fs,o,xs,hl,hs,ho,h=>by
  cases xs with
  |nil=>simp at hl
  |cons x xs=>
   simp only[vd,Bool.and_eq_true,beq_iff_eq] at hs
   obtain⟨⟨h1,h2⟩,h3⟩:=hs
   have h0:=h 0 f rfl
   simp only[List.getElem?_cons_zero] at h0
   obtain⟨h4,h5⟩:=hcl f.type _ x (by simpa using h2) h0
   have hlen:∀(fs:List Field) (o:Nat),vd P ts fs o cs.length=true→o≤cs.length:=by
    intro fs
    induction fs with
    |nil=>intro o h;have:o=cs.length:=by simpa [vd] using h
          omega
    |cons g fs ih=>intro o h;simp only[vd,Bool.and_eq_true] at h;have:=ih _ h.2;omega
   obtain⟨h6,h7⟩:=ss hcl fs (o+P.cellsOf f.type) xs (by simpa using hl) h3 (hlen _ _ h3) fun i g hg=>by simpa using h (i+1) g (by simpa using hg)
   refine⟨?_,fun i g d hg hd=>?_⟩
   ·rw[h1] at h4
    have e:cs.drop o=(cs.drop o).take (P.cellsOf f.type)++cs.drop (o+P.cellsOf f.type):=by
     rw[←List.drop_drop,List.take_append_drop]
    rw[e]
    exact bC.cons h4 h6
   ·cases i with
    |zero=>
     simp only[List.getElem?_cons_zero,Option.some.injEq] at hg
     subst hg
     simp only[List.map_cons,List.getElem?_cons_zero,Option.some.injEq] at hd
     subst hd
     exact h5
    |succ i=>exact h7 i g d (by simpa using hg) (by simpa using hd)
theorem su {ts:List TypeId} (hc:tQ P ts=true):∀(fuel:Nat) (t:TypeId) (cs:List Value) (x:DataW H×List MemPlace),t∈ts→DataW.trod enc P W base spare held fuel t cs=some x→Rp W (dL x.1) cs∧Ty P t (dL x.1)
 |0,t,cs,x,_,h=>by simp[DataW.trod] at h
 |fuel+1,t,cs,x,ht,h=>by
  have ih:=su hc fuel
  have hct:=List.all_eq_true.1 hc t ht
  split at hct
  ·rename_i k hu
   obtain⟨n,rfl,rfl,hw⟩:=DataW.trod_int hu h
   exact⟨by simp only[dL,Rp],Ty.int hu hw⟩
  ·rename_i hu
   obtain⟨b,rfl,rfl⟩:=DataW.trod_bool hu h
   exact⟨by simp only[dL,Rp],Ty.bool hu⟩
  ·rename_i hu
   obtain⟨s,rfl,rfl,hs⟩:=DataW.trod_string hu h
   exact⟨by simp only[dL,Rp,S,Array.toArray_toList],Ty.str hu (by simpa using hs)⟩
  ·rename_i e hu
   simp only[Bool.and_eq_true,beq_iff_eq] at hct
   have he:e∈ts:=by simpa using hct.2
   rcases DataW.trod_slice hu h with⟨rfl,rfl⟩|⟨a,len,cap,elems,rest,n,hf,rfl,rfl,hb,hl,hm,hlen,hel,_,_⟩
   ·exact⟨by simp only[dL];exact Rp.nilSl,by simp only[dL];exact Ty.sl hu (by simp)⟩
   ·obtain rfl:fuel=n:=by omega
    have each:∀(i:Nat) (y:DataW H×List MemPlace),elems[i]? =some y→∃c:List Value,c.length=P.cellsOf e∧(∀j u,c[j]? =some u→W.cell? (a.add (i*P.cellsOf e+j))=some u)∧Rp W (dL y.1) c∧Ty P e (dL y.1):=by
     intro i y hy
     have hi:i<len:=by
      have:=(List.getElem?_eq_some_iff.1 hy).1
      omega
     have h1:=hel i hi
     rw[hy,Option.bind_eq_some_iff] at h1
     obtain⟨c,h2,h3⟩:=h1
     obtain⟨_,h5,h6⟩:=World.cells?_some h2
     obtain⟨h7,h8⟩:=ih e c y he h3
     refine⟨c,h5,fun j u hu=>?_,h7,h8⟩
     have hj:j<P.cellsOf e:=by rw[←h5];exact(List.getElem?_eq_some_iff.1 hu).1
     have:=h6 j hj
     rw[tH,hu] at this
     exact this
    obtain⟨xs,h1,h2⟩:=y5 (W:=W) (sz:=P.cellsOf e) (a:=a) (elems.map fun y=>dL y.1) 0 fun i d hd=>by
     rw[List.getElem?_map,Option.map_eq_some_iff] at hd
     obtain⟨y,hy,rfl⟩:=hd
     obtain⟨c,h1,h2,h3,_⟩:=each i y hy
     exact⟨c,h1,by rw[Nat.zero_add];exact h2,h3⟩
    have em:kN (elems.map (·.1))=elems.map fun y=>dL y.1:=by rw[lK,List.map_map];rfl
    refine⟨?_,?_⟩
    ·simp only[dL,Rp]
     rw[em]
     exact⟨some a,len,cap,rfl,by simpa using hlen,hl,hm,(fun h=>by cases h),fun _=>⟨a,xs,rfl,fun j u hu=>by have:=h2 j u hu;rwa [Nat.zero_mul,Nat.zero_add] at this,h1⟩⟩
    ·simp only[dL]
     rw[em]
     refine Ty.sl hu fun d hd=>?_
     obtain⟨y,hy,rfl⟩:=List.mem_map.1 hd
     obtain⟨i,hi,rfl⟩:=List.getElem_of_mem hy
     obtain⟨_,_,_,_,h4⟩:=each i _ (List.getElem?_eq_getElem hi)
     exact h4
  ·rename_i fs hu
   obtain⟨xs,n,hf,rfl,hl,hlen,hall⟩:=DataW.trod_struct hu h
   obtain rfl:fuel=n:=by omega
   obtain⟨h1,h2⟩:=ss (cs:=cs) (fun t cs x ht h=>ih t cs x ht h) fs.toList 0 xs (by simpa using hlen) (by rw[hl];exact hct) (Nat.zero_le _) fun i f hf=>hall i f (by simpa using hf)
   have em:kN (xs.map (·.1))=xs.map fun y=>dL y.1:=by rw[lK,List.map_map];rfl
   refine⟨?_,?_⟩
   ·simp only[dL,Rp]
    rw[em]
    simpa using h1
   ·simp only[dL]
    rw[em]
    exact Ty.st hu (by simpa using hlen) fun i f d hf hd=>h2 i f d (by simpa using hf) hd
  ·rename_i m e hu
   simp only[Bool.and_eq_true,beq_iff_eq] at hct
   have he:e∈ts:=by simpa using hct.2
   obtain⟨xs,n,hf,rfl,hl,hlen,hall⟩:=DataW.trod_array hu h
   obtain rfl:fuel=n:=by omega
   have em:kN (xs.map (·.1))=xs.map fun y=>dL y.1:=by rw[lK,List.map_map];rfl
   have each:∀(i:Nat) (y:DataW H×List MemPlace),xs[i]? =some y→Rp W (dL y.1) ((cs.drop (i*P.cellsOf e)).take (P.cellsOf e))∧Ty P e (dL y.1):=fun i y hy=>by
    have hi:i<m:=by
     have:=(List.getElem?_eq_some_iff.1 hy).1
     omega
    have h1:=hall i hi
    rw[hy] at h1
    exact ih e _ y he h1
   have all:∀(k:Nat),k≤m→bC W ((xs.map fun y=>dL y.1).drop k) (cs.drop (k*P.cellsOf e)):=by
    intro k hk
    induction hq:m-k generalizing k with
    |zero=>
     have:k=m:=by omega
     subst this
     rw[List.drop_of_length_le (by simp;omega),List.drop_of_length_le (by rw[hl,hct.1];exact Nat.le_refl _)]
     exact bC.nil
    |succ q ihq=>
     have hk':k<(xs.map fun y=>dL y.1).length:=by simp;omega
     have h1:=ihq (k+1) (by omega) (by omega)
     have hkx:k<xs.length:=by omega
     obtain⟨h2,_⟩:=each k _ (List.getElem?_eq_getElem hkx)
     rw[List.drop_eq_getElem_cons hk']
     have e:cs.drop (k*P.cellsOf e)=(cs.drop (k*P.cellsOf e)).take (P.cellsOf e)++cs.drop ((k+1)*P.cellsOf e):=by
      rw[Nat.add_mul,Nat.one_mul,←List.drop_drop,List.take_append_drop]
     rw[e]
     refine bC.cons ?_ h1
     simpa using h2
   refine⟨?_,?_⟩
   ·simp only[dL,Rp]
    rw[em]
    simpa using all 0 (Nat.zero_le _)
   ·simp only[dL]
    rw[em]
    refine Ty.arr hu (by simpa using hlen) fun d hd=>?_
    obtain⟨y,hy,rfl⟩:=List.mem_map.1 hd
    obtain⟨i,hi,rfl⟩:=List.getElem_of_mem hy
    exact(each i _ (List.getElem?_eq_getElem hi)).2
  ·cases hct
end
end Go.Rl
namespace Go.Rl
open Go.RowKit Go.Proofs
section
variable {P:Program} {ops:Array Oper} {Q:eR} {N:Nat} {D:List Deferred} {l:Fr} {w:World} {rest:List Oper} {d:Nat}
theorem dM {p:Prop} {dp:Decidable p} (ht:p→bB P ops Q N D ((d,B true)::l) w rest) (hf:¬p→bB P ops Q N D ((d,B false)::l) w rest):bB P ops Q N D ((d,B (@decide p dp))::l) w rest:=by
 by_cases h:p
 ·rw[decide_eq_true h];exact ht h
 ·rw[decide_eq_false h];exact hf h
end
theorem aE.of_grew {w0 w w':World} {v r:Value} (h:aE w0 w) (hg:fh w w' v r) (hv:∀k,v.ownBlock=some k→w0.heap.size≤k):aE w0 w':=h.of_grown hg.grown hv
theorem bZ.ge {base:Nat} {l:List UInt8} {v:Value} {w:World} (h:bZ base l v w):∀k,v.ownBlock=some k→base≤k:=fun k hk=>h.elim fun _ h=>(World.ownsRow.lt h k hk).1
theorem aE.of_new {w w1 w2:World} {g:Nat} (hx:aE w w1) (hg:w1.grownBy w2 (some g)) (h:w.heap.size≤g):aE w w2:=
 hx.of_grown hg fun k hk=>by
  obtain rfl:=Option.some.inj hk
  exact h
theorem dB {w w':World} {row:Option Nat} (h:aE w w'):w.grownBy w' row:=⟨h.os,h.tape,h.output,h.size,fun _ hi _=>h.heap hi⟩
section
variable {w:World}
theorem bZ.kept {base:Nat} {l:List UInt8} {v:Value} {w':World} (h:bZ base l v w) {row:Option Nat} (hg:w.grownBy w' row) (hne:v.ownBlock=none∨v.ownBlock≠row):bZ base l v w':=
 h.elim fun n h=>⟨n,World.ownsRow.kept h hg hne⟩
theorem bZ.off {base:Nat} {l:List UInt8} {v:Value} (h:bZ base l v w) {g:Nat} (hg:g<base):v.ownBlock≠some g:=fun he=>by
 obtain⟨n,h⟩:=h
 have:=(World.ownsRow.lt h g he).1
 omega
end
end Go.Rl
namespace Go.Rl
open Go.RowKit
section
variable {P:Program} {Q:eR} {N:Nat} {D:List Deferred} {l:Fr} {w:World}
theorem d5 {c:Code} {α β:Type} (fr:α→β→Fr) (H:α→β→World→Prop) (mu:α→β→Nat) (x0:α) (y0:β) (hs:u6 (fr x0 y0) l) (h0:H x0 y0 w)
 (round:∀x y w',H x y w'→cn P (Exit.then (fun a w''=>∃x' y',At N D (fr x' y') a∧H x' y' w''∧mu x' y'<mu x y) Q) N D (fr x y) w' c):cn P Q N D l w (.loop c):=
 ci (α:=α×β) (fun p=>fr p.1 p.2) (fun p=>H p.1 p.2) (fun p=>mu p.1 p.2) (x0,y0) hs h0 fun p w' h a ha=>
  wp_mono (round p.1 p.2 w' h a ha) fun e a' w'' hq=>by
   cases e with
   |normal=>
    obtain⟨x',y',h1,h2,h3⟩:=hq
    exact⟨(x',y'),h1,h2,h3⟩
   |_=>exact hq
theorem cL {α β:Type} {fr:α→β→Fr} {H:α→β→World→Prop} {mu:α→β→Nat} {m:Nat} (x:α) (y:β) (hs:u6 (fr x y) l) (hH:H x y w) (hm:mu x y<m):fz (Exit.then (fun a w''=>∃x' y',At N D (fr x' y') a∧H x' y' w''∧mu x' y'<m) Q) N D l w:=
 fun _ ha=>⟨x,y,ha.weak hs,hH,hm⟩
theorem j2 {c:Code} {α β γ:Type} (fr:α→β→γ→Fr) (H:α→β→γ→World→Prop) (mu:α→β→γ→Nat) (x0:α) (y0:β) (z0:γ) (hs:u6 (fr x0 y0 z0) l) (h0:H x0 y0 z0 w)
 (round:∀x y z w',H x y z w'→cn P (Exit.then (fun a w''=>∃x' y' z',At N D (fr x' y' z') a∧H x' y' z' w''∧mu x' y' z'<mu x y z) Q) N D (fr x y z) w' c):cn P Q N D l w (.loop c):=
 ci (α:=α×β×γ) (fun p=>fr p.1 p.2.1 p.2.2) (fun p=>H p.1 p.2.1 p.2.2) (fun p=>mu p.1 p.2.1 p.2.2) (x0,y0,z0) hs h0 fun p w' h a ha=>
  wp_mono (round p.1 p.2.1 p.2.2 w' h a ha) fun e a' w'' hq=>by
   cases e with
   |normal=>
    obtain⟨x',y',z',h1,h2,h3⟩:=hq
    exact⟨(x',y',z'),h1,h2,h3⟩
   |_=>exact hq
theorem gj {α β γ:Type} {fr:α→β→γ→Fr} {H:α→β→γ→World→Prop} {mu:α→β→γ→Nat} {m:Nat} (x:α) (y:β) (z:γ) (hs:u6 (fr x y z) l) (hH:H x y z w) (hm:mu x y z<m):fz (Exit.then (fun a w''=>∃x' y' z',At N D (fr x' y' z') a∧H x' y' z' w''∧mu x' y' z'<m) Q) N D l w:=
 fun _ ha=>⟨x,y,z,ha.weak hs,hH,hm⟩
theorem iC {c:Code} {α β γ δ:Type} (fr:α→β→γ→δ→Fr) (H:α→β→γ→δ→World→Prop) (mu:α→β→γ→δ→Nat) (x0:α) (y0:β) (z0:γ) (u0:δ) (hs:u6 (fr x0 y0 z0 u0) l) (h0:H x0 y0 z0 u0 w)
 (round:∀x y z u w',H x y z u w'→cn P (Exit.then (fun a w''=>∃x' y' z' u',At N D (fr x' y' z' u') a∧H x' y' z' u' w''∧mu x' y' z' u'<mu x y z u) Q) N D (fr x y z u) w' c):cn P Q N D l w (.loop c):=
 ci (α:=α×β×γ×δ) (fun p=>fr p.1 p.2.1 p.2.2.1 p.2.2.2) (fun p=>H p.1 p.2.1 p.2.2.1 p.2.2.2) (fun p=>mu p.1 p.2.1 p.2.2.1 p.2.2.2) (x0,y0,z0,u0) hs h0 fun p w' h a ha=>
  wp_mono (round p.1 p.2.1 p.2.2.1 p.2.2.2 w' h a ha) fun e a' w'' hq=>by
   cases e with
   |normal=>
    obtain⟨x',y',z',u',h1,h2,h3⟩:=hq
    exact⟨(x',y',z',u'),h1,h2,h3⟩
   |_=>exact hq
theorem fi {α β γ δ:Type} {fr:α→β→γ→δ→Fr} {H:α→β→γ→δ→World→Prop} {mu:α→β→γ→δ→Nat} {m:Nat} (x:α) (y:β) (z:γ) (u:δ) (hs:u6 (fr x y z u) l) (hH:H x y z u w) (hm:mu x y z u<m):fz (Exit.then (fun a w''=>∃x' y' z' u',At N D (fr x' y' z' u') a∧H x' y' z' u' w''∧mu x' y' z' u'<m) Q) N D l w:=
 fun _ ha=>⟨x,y,z,u,ha.weak hs,hH,hm⟩
theorem Em {c:Code} {α β γ δ ε:Type} (fr:α→β→γ→δ→ε→Fr) (H:α→β→γ→δ→ε→World→Prop) (mu:α→β→γ→δ→ε→Nat) (x0:α) (y0:β) (z0:γ) (u0:δ) (v0:ε) (hs:u6 (fr x0 y0 z0 u0 v0) l) (h0:H x0 y0 z0 u0 v0 w)
 (round:∀x y z u v w',H x y z u v w'→cn P (Exit.then (fun a w''=>∃x' y' z' u' v',At N D (fr x' y' z' u' v') a∧H x' y' z' u' v' w''∧mu x' y' z' u' v'<mu x y z u v) Q) N D (fr x y z u v) w' c):cn P Q N D l w (.loop c):=
 ci (α:=α×β×γ×δ×ε) (fun p=>fr p.1 p.2.1 p.2.2.1 p.2.2.2.1 p.2.2.2.2) (fun p=>H p.1 p.2.1 p.2.2.1 p.2.2.2.1 p.2.2.2.2) (fun p=>mu p.1 p.2.1 p.2.2.1 p.2.2.2.1 p.2.2.2.2) (x0,y0,z0,u0,v0) hs h0 fun p w' h a ha=>
  wp_mono (round p.1 p.2.1 p.2.2.1 p.2.2.2.1 p.2.2.2.2 w' h a ha) fun e a' w'' hq=>by
   cases e with
   |normal=>
    obtain⟨x',y',z',u',v',h1,h2,h3⟩:=hq
    exact⟨(x',y',z',u',v'),h1,h2,h3⟩
   |_=>exact hq
theorem BP {α β γ δ ε:Type} {fr:α→β→γ→δ→ε→Fr} {H:α→β→γ→δ→ε→World→Prop} {mu:α→β→γ→δ→ε→Nat} {m:Nat} (x:α) (y:β) (z:γ) (u:δ) (v:ε) (hs:u6 (fr x y z u v) l) (hH:H x y z u v w) (hm:mu x y z u v<m):fz (Exit.then (fun a w''=>∃x' y' z' u' v',At N D (fr x' y' z' u' v') a∧H x' y' z' u' v' w''∧mu x' y' z' u' v'<m) Q) N D l w:=
 fun _ ha=>⟨x,y,z,u,v,ha.weak hs,hH,hm⟩
end
end Go.Rl
namespace Go.Rl
open Go.RowKit
def FR (rd:Option Nat):Fence:={Fence.wide with round:=rd}
theorem qk (rd:Option Nat):¬(FR rd).depth.isSome=true:=by simp[FR,Fence.wide]
theorem xC {rd:Option Nat} {n:Nat} {P:Program} {f:FuncId} {args:Array Value} {w:World} {R:Ending→World→Prop} (h:Calls P f args w R):CallsIn (FR rd) n P f args w R:=
 (callsIn_wide (n:=n)).2 h
theorem z4 {rd:Option Nat} {n:Nat} {P:Program} {row:String} {args:Array Value} {w:World} {R:Value→World→Prop} (h:Rows P row args w R):RowsIn (FR rd) n P row args w R:=
 fun c cs _=>let ⟨v,w',r,s⟩:=h c cs;⟨v,w',r,stepsIn_wide.2 s⟩
theorem z5 {P:Program} {rd:Option Nat} {n:Nat} {o:Oper} {a:Act} {K K':Act→World→Prop} {Q:Exit→Act→World→Prop} {r:Result Next} (hk:∀a w,K a w→K' a w) (h:o.upon P a K Q r):o.uponIn (FR rd) n P a K' Q r:=by
 cases r with
 |ok x w'=>
  cases x with
  |value v=>exact hk _ _ h
  |skip=>exact hk _ _ h
  |defer d=>exact hk _ _ h
  |enter f args=>
   refine⟨fun hd=>absurd hd (qk rd),xC (Calls.mono h ?_)⟩
   intro e w'' he
   cases e with
   |returned v=>exact hk _ _ he
   |panicked c=>exact he
   |outgrown=>exact he
  |row s args=>
   refine⟨fun hd=>absurd hd (qk rd),z4 (Rows.mono h ?_)⟩
   intro v w'' he
   exact hk _ _ he
  |_=>exact h.elim
 |halt x w'=>
  cases x with
  |panic v=>exact h
  |_=>exact h.elim
theorem gF {K:Act→World→Prop} {Q:Exit→Act→World→Prop} (h:¬LetsOut Q):¬LetsOut (Exit.then K Q):=fun⟨a,w,hq⟩=>h ⟨a,w,hq⟩
theorem gZ {id:Nat} {Q:Exit→Act→World→Prop} (h:¬LetsOut Q):¬LetsOut (Exit.inBlock id Q):=fun⟨a,w,hq⟩=>h ⟨a,w,hq⟩
theorem jJ {α:Type} {B:Nat} {Kp:World→World→Prop} {I:List α→World→Prop} {Ix:Code→List α→World→Prop} {xs:List α} {W:World}:¬LetsOut (ownPostG B Kp I Ix xs W):=fun⟨_,_,hq⟩=>hq
theorem i5 {P:Program} {fn:Func} {T:Value→World→Prop}:¬LetsOut (bodyPost P fn (bL T)):=fun⟨_,_,hq⟩=>by
 obtain⟨v,he,_⟩:=hq
 cases he
theorem g0 {P:Program} {fn:Func} {T:Value→World→Prop}:¬LetsOut (bodyPostM Fence.wide 0 P fn (bL T)):=fun⟨_,_,hq⟩=>by
 obtain⟨v,he,_⟩:=hq
 cases he
def j3 (os:List Oper):Bool:=os.all fun o=>match o.op with|.defer _=>false|_=>true
theorem xD {os:List Oper} (h:j3 os=true) {i:Nat} {o:Oper} (ho:os[i]? =some o):∀c,o.op≠.defer c:=fun c hc=>by
 have:=List.all_eq_true.1 h o (List.mem_of_getElem? ho)
 rw[hc] at this
 cases this
theorem BQ {rd:Option Nat} {o:Oper} (h:rd=none∨∀c,o.op≠.defer c) (ρ:Operand→Value):o.semAt (FR rd).round ρ=execOp ρ o:=by
 rcases h with rfl|h
 ·exact Oper.semAt_none ρ o
 ·exact Oper.semAt_eq _ ρ o h
theorem sv {P:Program} {rd:Option Nat} {n:Nat} {o:Oper} {a:Act} {w:World} {K K':Act→World→Prop} {Q:Exit→Act→World→Prop} (hd:rd=none∨∀c,o.op≠.defer c) (hk:∀a w,K a w→K' a w) (h:o.wp P a w K Q):o.wpIn (FR rd) n P a w K' Q:=
 ⟨fun _ _=>trivial,by rw[BQ hd];exact z5 hk h⟩
theorem m9 {P:Program} {rd:Option Nat} {n:Nat} {os:List Oper} {Q:Exit→Act→World→Prop} (hQ:¬LetsOut Q) (hd:rd=none∨j3 os=true):∀(l:List Nat) (a:Act) (w:World),wpOps P os.toArray Q l a w→wpOpsIn (FR rd) n P os.toArray Q l a w:=by
 intro l
 induction l with
 |nil=>intro a w h;exact h
 |cons i l ih=>
  intro a w h
  unfold wpOps at h
  unfold wpOpsIn
  cases ho:os.toArray[i]? with
  |none=>
   simp only[ho] at h⊢
   exact ih a w h
  |some o=>
   simp only[ho] at h⊢
   split
   ·rename_i hw
    rw[if_pos hw] at h
    exact sv (hd.imp_right fun hd=>xD hd (by simpa using ho)) ih (h.resolve_right fun h=>hQ h.2)
   ·rename_i hw
    rw[if_neg hw] at h
    exact⟨fun _ _=>trivial,ih _ _ h⟩
section
variable {P:Program} {ops:Array Oper} {Q:eR} {N:Nat} {D:List Deferred} {rd:Option Nat}
def ex (rd:Option Nat) (P:Program) (Q:eR) (N:Nat) (D:List Deferred) (l:Fr) (w:World) (c:Code):Prop:=∀a,At N D l a→c.wpIn (FR rd) 0 P Q a w
namespace I
section code
variable {l l':Fr} {w:World}
theorem af {x y:Code} (h:ex rd P (Exit.then (y.wpIn (FR rd) 0 P Q) Q) N D l w x):ex rd P Q N D l w (.seq x y):=fun a ha=>wpIn_seq (h a ha)
theorem ax (h:fz Q N D l w):ex rd P Q N D l w .skip:=fun a ha=>wpIn_skip (h a ha)
theorem ab {y:Code} {Q':eR} (h:ex rd P Q N D l w y):fz (Exit.then (y.wpIn (FR rd) 0 P Q) Q') N D l w:=fun a ha=>h a ha
theorem au {id:Nat} {c:Code} (h:ex rd P (Exit.inBlock id Q) N D l w c):ex rd P Q N D l w (.block id c):=fun a ha=>wpIn_block (h a ha)
theorem ba {id:Nat} (h:fD Q N D l w (.exit id)):ex rd P Q N D l w (.exit id):=fun a ha=>wpIn_exit (h a ha)
theorem ay (h:fD Q N D l w .ret):ex rd P Q N D l w .ret:=fun a ha=>wpIn_ret (h a ha)
theorem iW {c:Operand} {x y:Code} {b:Bool} (hc:ev l c=some (.bool b)) (ht:b=true→ex rd P Q N D l w x) (hf:b=false→ex rd P Q N D l w y):ex rd P Q N D l w (.cond c x y):=fun a ha=>
 wpIn_cond_split (ha.ev hc) (fun h=>ht h a ha) (fun h=>hf h a ha)
theorem bi {c:Operand} {x y:Code} {p:Prop} {dp:Decidable p} (hc:ev l c=some (.bool (@decide p dp))) (ht:p→ex rd P Q N D l w x) (hf:¬p→ex rd P Q N D l w y):ex rd P Q N D l w (.cond c x y):=
 I.iW hc (fun h=>ht (of_decide_eq_true h)) (fun h=>hf (of_decide_eq_false h))
theorem ce {c:Operand} {x y:Code} (hc:ev l c=some (.bool true)) (ht:ex rd P Q N D l w x):ex rd P Q N D l w (.cond c x y):=I.iW hc (fun _=>ht) (fun h=>by cases h)
theorem eS {c:Operand} {x y:Code} (hc:ev l c=some (.bool false)) (hf:ex rd P Q N D l w y):ex rd P Q N D l w (.cond c x y):=I.iW hc (fun h=>by cases h) (fun _=>hf)
theorem ff {c:Code} {α:Type} (fr:α→Fr) (H:α→World→Prop) (h:ex rd P (Exit.then (fun a w'=>∃x,At N D (fr x) a∧H x w') Q) N D l w c) (k:∀x w',H x w'→fz Q N D (fr x) w'):ex rd P Q N D l w c:=fun a ha=>
 wpIn_mono (h a ha) fun e a' w' hq=>by
  cases e with
  |normal=>
   obtain⟨x,hx,hH⟩:=hq
   exact k x w' hH a' hx
  |_=>exact hq
theorem ci {c:Code} {α:Type} (fr:α→Fr) (H:α→World→Prop) (mu:α→Nat) (x0:α) (hs:u6 (fr x0) l) (h0:H x0 w)
 (round:∀x w',H x w'→ex rd P (Exit.then (fun a w''=>∃y,At N D (fr y) a∧H y w''∧mu y<mu x) Q) N D (fr x) w' c):ex rd P Q N D l w (.loop c):=fun a ha=>by
 intro b k cs hro hb hr
 have go:∀(n:Nat) (x:α) (a:Act) (w:World),mu x<n→At N D (fr x) a→H x w→
  ∃e a' w',Q e a' w'∧ArrivesIn (Machine.fenced P (FR rd)) P (lone (b.atR a (.code c::.inLoop c::k)) cs w) b k cs e a' w':=by
  intro n
  induction n with
  |zero=>intro x a w hlt;omega
  |succ n ih=>
   intro x a w hlt hat hH
   obtain⟨e,a1,w1,hq,harr⟩:=round x w hH a hat b (.inLoop c::k) cs hro hb hr
   cases e with
   |normal=>
    obtain⟨y,hy,hHy,hm⟩:=hq
    obtain⟨e2,a2,w2,hq2,harr2⟩:=ih y a1 w1 (by omega) hy hHy
    exact⟨e2,a2,w2,hq2,.of_steps (StepsIn.trans harr (.one (fenced_calm hb hr rfl) stepR_inLoop)) harr2⟩
   |exit id=>exact⟨_,a1,w1,hq,.pass (x:=.inLoop c) rfl (fun _ _=>.inl (by simp)) harr⟩
   |goto l=>exact⟨_,a1,w1,hq,.pass (x:=.inLoop c) rfl (fun _ _=>.inl (by simp)) harr⟩
   |ret=>exact⟨_,a1,w1,hq,.pass (x:=.inLoop c) rfl (fun _ _=>.inl (by simp)) harr⟩
   |panic ch=>exact⟨_,a1,w1,hq,.pass (x:=.inLoop c) rfl (fun _ _=>.inl (by simp)) harr⟩
   |outgrown=>exact⟨_,a1,w1,hq,.pass (x:=.inLoop c) rfl (fun _ _=>.inl (by simp)) harr⟩
 obtain⟨e,a',w',hq,harr⟩:=go (mu x0+1) x0 a w (by omega) (ha.weak hs) h0
 exact⟨e,a',w',hq,.of_steps (.one (fenced_calm hb hr rfl) stepR_loop) harr⟩
theorem aa {id:Nat} {os:List Oper} (hd:j3 os=true) (h:bB P os.toArray Q N D l w os)
 (hQ:¬LetsOut Q:=by repeat with_reducible first|exact jJ|exact i5|exact g0|apply gF|apply gZ):ex rd P Q N D l w (.region id os.toArray false):=fun a ha=>by
 refine wpIn_region (m9 hQ (.inr hd) _ _ _ ?_)
 have:=wpOps_eq_wpList (P:=P) (Q:=Q) (ops:=os.toArray) os 0 (by simp)
 rw[List.range_eq_range']
 simp only[List.size_toArray]
 rw[this]
 exact h a ha
theorem ji {id:Nat} {os:List Oper} (n:Nat) (ts:List Nat) (Env:World→Prop) (Rl:World→World→Prop) (mo:Bool) (Pn:List PanicEntry→World→Prop) (Z:ik) (hE:fb Env Rl) (he:Env w) (hZ:cm Z) (hz:Z w) (hP:∀c a w,a.defers=D→Pn c w→Q (.panic c) a w) (hcalls:mo=true→fC .any os.toArray=true) (hm:P.follows .mixedOrders=true) (hB:Region.lexTailB .any os.toArray n=true) (hd:j3 os=true)
 (h:eC P os.toArray Env Rl mo Pn N (os.take n) (px l) Z (fun F Z=>∀w',Env w'→Z w'→gu F w' ts (fun l'=>bB P os.toArray Q N D l' w' (os.drop n))))
 (hQ:¬LetsOut Q:=by repeat with_reducible first|exact jJ|exact i5|exact g0|apply gF|apply gZ):ex rd P Q N D l w (.region id os.toArray true):=fun a ha=>by
 refine wpIn_region_draw fun t=>m9 hQ (.inr hd) _ _ _ ?_
 have hdr:aE w {w with drawn:=w.drawn+1}:=⟨rfl,rfl,rfl,Nat.le_refl _,fun _ _=>rfl⟩
 have key:wpAny P .any os.toArray Q os.toArray.size (Array.replicate os.toArray.size false) a {w with drawn:=w.drawn+1}:=by
  simp only[Region.lexTailB,Bool.and_eq_true,decide_eq_true_eq] at hB
  obtain⟨⟨⟨⟨_,hn⟩,hs⟩,hc⟩,hlex⟩:=hB
  have hn':n<os.length:=by simpa using hn
  have htl:(os.take n).length=n:=by simp;omega
  have hdl:(os.drop n).length=os.toArray.size-n:=by simp
  have inv0:HeadInv .any os.toArray n (Array.replicate os.toArray.size false):=
   ⟨by simp,fun j oj _ hl=>(by rw[getD_replicate_false] at hl;cases hl),fun t _ ht=>getD_in (by simpa using ht) (getD_replicate_false _ _)⟩
  have h2:eC P os.toArray Env Rl mo Pn N (os.take n) (px l) Z (fun F Z=>∀a' w',Env w'→u5 N D F a' w'→Z w'→wpList P os.toArray Q (os.drop n) a' w'):=gV _ _ _ (fun F Z hK a' w' he hs hz=>by
   obtain⟨l',hl',hk⟩:=gu.use hs (hK w' he hz)
   exact hk a' hl') h
  have H:=mn (md:=.any) (g:=os.toArray.size-n) hcalls hs hc hn (os.take n) 0 _ _ _ (fun j hj=>by
   have hj':j<n:=by rw[htl] at hj;exact hj
   simp[hj']) (by simpa using htl) inv0 (by rw[htl];exact hlex) (fg l) hZ h2
  have hsat:u5 N D (px l) a {w with drawn:=w.drawn+1}:=⟨ha.size,ha.defers,fun t=>by
   show px l t (a.tmps.getD t undef) _
   unfold px
   cases hv:lk l t with
   |some v=>exact ha.at_ t v hv
   |none=>trivial⟩
  have:=ep (D:=D) (Q':=Q) (l0:=[]) (g:=os.toArray.size-n) hE (fun c a w _ hd _ hp=>hP c a w hd hp) (fun _ _ _ _ _ _ _ hp=>by cases hp) (fun listed F Z hL hF hZ a' w' he hsat hz=>by
   have:=wpAny_of_seq (md:=.any) (Q':=Q) (os.drop n) n listed a' w' (fun j=>by simp[List.getElem?_drop]) (by rw[hdl];exact hL.1) (hL.2 a' w' he hsat hz)
   rwa [hdl] at this) _ _ _ _ H (fg l) hZ a {w with drawn:=w.drawn+1} (hE.keep _ _ he (hE.ext _ _ hdr)) hsat (fun _ hp=>by cases hp) (hZ _ _ hz hdr)
  rw[htl,show n+(os.toArray.size-n)=os.toArray.size by omega] at this
  exact this
 simp only[Region.schedule,hm,Bool.true_or,if_true]
 exact wpAny_sound os.toArray.size t _ a _ key
theorem bk {id:Nat} {os:List Oper} (n:Nat) (ts:List Nat) (hm:P.follows .mixedOrders=true) (hB:Region.lexTailB .any os.toArray n=true) (hd:j3 os=true)
 (h:eC P os.toArray (aE w) aE false Fsz N (os.take n) (px l) (fun _=>True) (fun F _=>∀w',aE w w'→gu F w' ts (fun l'=>bB P os.toArray Q N D l' w' (os.drop n))))
 (hQ:¬LetsOut Q:=by repeat with_reducible first|exact jJ|exact i5|exact g0|apply gF|apply gZ):ex rd P Q N D l w (.region id os.toArray true):=
 ji n ts (aE w) aE false Fsz (fun _=>True) (fb.plain w) (aE.refl w) cm.triv trivial (fun _ _ _ _ h=>h.elim) (fun h=>by cases h) hm hB hd (gV _ _ _ (fun _ _ h w' he _=>h w' he) h) hQ
end code
end I
def asT:List Oper→Array Value→Array Value
 |⟨some d,.assign (.tmp s),_,_,_,none⟩::os,t=>asT os (t.setIfInBounds d (t.getD s undef))
 |_,t=>t
def Ed:List Oper→Fr→Option Fr
 |[],l=>some l
 |⟨some d,.assign (.tmp s),_,_,_,none⟩::os,l=>match lk l s with|some v=>Ed os ((d,v)::l)|none=>none
 |_,_=>none
theorem BR:∀{os:List Oper} {l l':Fr} {t:Array Value} {w:World} {ops:Array Oper} {Q:eR},Ed os l=some l'→Q .normal ⟨asT os t,[]⟩ w→wpList P ops Q os ⟨t,[]⟩ w
 |[],_,_,_,_,_,_,_,h=>h
 |⟨none,_,_,_,_,_⟩::_,_,_,_,_,_,_,hf,_=>by simp[Ed] at hf
 |⟨some d,op,ty,pos,aft,some g⟩::_,_,_,_,_,_,_,hf,_=>by unfold Ed at hf;split at hf<;>simp_all
 |⟨some d,op,ty,pos,aft,none⟩::os,l,l',t,w,ops,Q,hf,h=>by
  unfold Ed at hf
  split at hf
  ·simp_all
  ·rename_i d' s ty' pos' aft' os' heq
   obtain⟨he,rfl⟩:=List.cons.inj heq
   injection he with e1 e2 e3 e4 e5 e6
   obtain rfl:=Option.some.inj e1
   subst e2
   split at hf
   ·refine wpList_plain Ig fun K hK=>?_
    have hr:(execOp (Act.eval ⟨t,[]⟩) ⟨some d,.assign (.tmp s),ty,pos,aft,none⟩).run P w=.ok (.value (t.getD s undef)) w:=by simp[execOp,Act.eval]
    unfold Oper.wp
    rw[hr]
    exact hK _ _ (BR hf h)
   ·cases hf
  ·cases hf
theorem BS:∀{os:List Oper} {l l':Fr} {t:Array Value} {N:Nat},Ed os l=some l'→(os.all fun o=>match o.dst with|some d=>Nat.blt d N|none=>false)=true→At N [] l ⟨t,[]⟩→At N [] l' ⟨asT os t,[]⟩
 |[],_,_,_,_,hf,_,h=>by
  obtain rfl:=Option.some.inj hf
  exact h
 |⟨none,_,_,_,_,_⟩::_,_,_,_,_,hf,_,_=>by simp[Ed] at hf
 |⟨some d,op,ty,pos,aft,some g⟩::_,_,_,_,_,hf,_,_=>by unfold Ed at hf;split at hf<;>simp_all
 |⟨some d,op,ty,pos,aft,none⟩::os,l,l',t,N,hf,hd,h=>by
  unfold Ed at hf
  split at hf
  ·simp_all
  ·rename_i d' s ty' pos' aft' os' heq
   obtain⟨he,rfl⟩:=List.cons.inj heq
   injection he with e1 e2 e3 e4 e5 e6
   obtain rfl:=Option.some.inj e1
   subst e2
   simp only[List.all_cons,Bool.and_eq_true] at hd
   split at hf
   ·rename_i v hv
    have h1:=h.put hd.1 v
    have hs:t.getD s undef=v:=h.at_ s v hv
    have e:(⟨t,[]⟩:Act).put (some d) v=⟨t.setIfInBounds d (t.getD s undef),[]⟩:=by rw[hs];rfl
    rw[e] at h1
    exact BS (os:=os) hf hd.2 h1
   ·cases hf
  ·cases hf
def psF:List (Tmp×Value)→Fr→Fr
 |[],l=>l
 |(p,v)::ps,l=>psF ps ((p,v)::l)
theorem BT {N:Nat}:∀{ps:List (Tmp×Value)} {l:Fr} {t:Array Value},(ps.all fun p=>Nat.blt p.1 N)=true→At N [] l ⟨t,[]⟩→At N [] (psF ps l) ⟨ps.foldl (fun t (p,v)=>t.setIfInBounds p v) t,[]⟩
 |[],_,_,_,h=>h
 |(p,v)::ps,l,t,hp,h=>by
  simp only[List.all_cons,Bool.and_eq_true] at hp
  exact BT (ps:=ps) hp.2 (h.put hp.1 v)
theorem vf {α:Type} {g:Operand} {ps:List Tmp} {id:Nat} {os:List Oper} {body:Code} {l:Fr} {w:World} {gf:Nat} {lb:Array Value} (hg:ev l g=some (.func (.func gf) #[] lb)) (hc:aw P gf)
 {encs:α→List Value} {Kp:World→World→Prop} {S Sp:List α→Prop} {M:Nat} {w0:World} (hseq:SeqStopsK Fence.wide 1 P gf lb (fun x=>(encs x).toArray) Kp S Sp M w0)
 (hKt:∀{A B C:World},Kp A B→Kp B C→Kp A C) (hKb:∀(W:World) (l:Nat) (o o':Obj),w.heap.size≤l→W.heap[l]? =some o→o.isCells=false→o.isWalk=false→Kp W (W.putObj l o')) (hb0:Below w0.heap.size w0 w) (hps:∀x,(encs x).length=ps.length)
 (I:List α→World→Prop) (Ix:Code→List α→World→Prop) (hI:OwnFrom w.heap.size I) (hIx:∀c,OwnFrom w.heap.size (Ix c)) (h0:I [] w)
 (frb:α→Fr) (hfr:∀x,Ed os (psF (ps.zip (encs x)) l)=some (frb x)) (hpN:(ps.all fun p=>Nat.blt p N)=true) (hoN:(os.all fun o=>match o.dst with|some d=>Nat.blt d N|none=>false)=true) (hoD:j3 os=true)
 (hbody:∀(lp:Nat) (pre:List α) (x:α) (W:World),I pre W→pre.length<M→ex (some lp) P (ownPostG w.heap.size Kp I Ix (pre++[x]) W) N [] (frb x) W body)
 (hdone:∀(D0:Nat) (xs:List α) (W:World),w.heap.size≤D0→S xs→I xs W→W.heap[D0]? =some (.deferred (some []))→fz Q N (⟨.collected D0,#[]⟩::D) l W)
 (hstop:∀(D0:Nat) (c:Code) (pre:List α) (W:World),w.heap.size≤D0→Sp pre→Ix c pre W→W.heap[D0]? =some (.deferred (some []))→cn P Q N (⟨.collected D0,#[]⟩::D) l W c):
 cn P Q N D l w (.rangeFunc g ps.toArray (.region id os.toArray false) body):=fun a ha=>by
 refine(wpIn_wide (n:=2)).1 (wpIn_rangeFunc_ownG (F:=Fence.wide) (n:=2) (encs:=fun x=>(encs x).toArray) Ig (by omega) (ha.ev hg) trivial (fun args w=>eK hc args w) hseq (fun h k=>hKt h k) hKb hb0 (fun x=>by simp[hps x]) I Ix hI hIx h0
  (fun x=>⟨asT os ((ps.zip (encs x)).foldl (fun t (p,v)=>t.setIfInBounds p v) a.tmps),[]⟩) ?_ ?_ ?_ ?_)
 ·intro lp x W K hK
  have e:(ps.toArray.zip (encs x).toArray).foldl (fun t (p,v)=>t.setIfInBounds p v) a.tmps=(ps.zip (encs x)).foldl (fun t (p,v)=>t.setIfInBounds p v) a.tmps:=by simp
  rw[e]
  refine wpIn_region (m9 (rd:=some lp) (fun⟨_,_,hq⟩=>hq) (.inr hoD) _ _ _ ?_)
  have:=wpOps_eq_wpList (P:=P) (Q:=Exit.then K (fun _ _ _=>False)) (ops:=os.toArray) os 0 (by simp)
  rw[List.range_eq_range']
  simp only[List.size_toArray]
  rw[this]
  exact BR (hfr x) hK
 ·intro lp pre x W hi hlen
  refine hbody lp pre x W hi hlen _ (BS (hfr x) hoN (BT (N:=N) ?_ ⟨ha.size,rfl,ha.at_⟩))
  simp only[List.all_eq_true] at hpN⊢
  rintro⟨p,v⟩ hp
  exact hpN p (List.of_mem_zip hp).1
 ·intro D0 xs W h1 h2 h3 h4
  exact hdone D0 xs W h1 h2 h3 h4 _ ⟨ha.size,by simp[ha.defers],ha.at_⟩
 ·intro D0 c pre W h1 h2 h3 h4
  exact wpIn_wide.2 (hstop D0 c pre W h1 h2 h3 h4 _ ⟨ha.size,by simp[ha.defers],ha.at_⟩)
theorem FX {f:FuncId} {fn:Func} {c:Code} {vs:List Value} {w:World} {R:Ending→World→Prop} (hf:P.funcs[f]? =some fn) (hb:fn.body=some c) (hN:fn.ntmps=N) (hle:Nat.ble vs.length N=true)
 (h:cn P (bodyPostM Fence.wide 0 P fn R) N [] (da 0 vs) w c):Calls P f vs.toArray w R:=by
 have hle':vs.length≤N:=by simpa using hle
 refine callsIn_wide.1 (callsIn_of_wp_marks (F:=Fence.wide) (n:=0) hf hb trivial (wpIn_wide.2 (h _ ⟨?_,rfl,fun t v ht=>?_⟩)) Ig)
 ·simp[hN];omega
 ·obtain⟨_,h2⟩:=lF vs 0 t v ht
  have h2':vs[t]? =some v:=by simpa using h2
  have hlt:t<vs.length:=by
   rcases Nat.lt_or_ge t vs.length with h|h
   ·exact h
   ·rw[List.getElem?_eq_none h] at h2';cases h2'
  rw[List.getElem?_eq_getElem hlt] at h2'
  simpa [Array.getElem?_append,hlt] using h2'
section
variable {l:Fr} {w:World} {fn:Func} {R:Ending→World→Prop}
theorem En {t s:Tmp} {v u:Value} (hr:fn.results= #[.tmp t,.tmp s]) (hv:lk l t=some v) (hu:lk l s=some u) (h:R (.returned (.tuple #[v,u])) w):fD (bodyPostM Fence.wide 0 P fn R) N [] l w .ret:=fun a ha=>by
 show LeavesInM Fence.wide 0 P fn a.tmps R a.defers .returning w
 rw[ha.defers]
 exact⟨.tuple #[v,u],by simp only[results,hr];simp[←ha.at_ t v hv,←ha.at_ s u hu],h⟩
theorem y6 {D0:Nat} {t s:Tmp} {v u:Value} (hr:fn.results= #[.tmp t,.tmp s]) (hv:lk l t=some v) (hu:lk l s=some u) (hD:w.heap[D0]? =some (.deferred (some []))) (h:∀w',w.grownBy w' (some D0)→R (.returned (.tuple #[v,u])) w'):fD (bodyPostM Fence.wide 0 P fn R) N [⟨.collected D0,#[]⟩] l w .ret:=fun a ha=>by
 show LeavesInM Fence.wide 0 P fn a.tmps R a.defers .returning w
 rw[ha.defers]
 exact⟨by simp,.inl ⟨D0,_,rfl,run_takeDeferred hD,.tuple #[v,u],by simp only[results,hr];simp[←ha.at_ t v hv,←ha.at_ s u hu],h _ (grownBy_putObj' w D0 _)⟩⟩
end
def z6 (P:Program) (ops:Array Oper) (Q:eR) (N:Nat) (D:List Deferred) (l:Fr) (w:World) (os:List Oper):Prop:=∀a,At N D l a→wpListIn Fence.wide 0 P ops Q os a w
theorem BU {id:Nat} {os:List Oper} {l:Fr} {w:World} (h:z6 P os.toArray Q N D l w os):cn P Q N D l w (.region id os.toArray false):=fun a ha=>wpIn_wide.1 (wpIn_region_lit (h a ha))
theorem lL (hQ:¬LetsOut Q):∀{xs ys:List Oper} {a:Act} {w:World},wpList P ops (Exit.then (fun a w=>wpListIn Fence.wide 0 P ops Q ys a w) Q) xs a w→wpListIn Fence.wide 0 P ops Q (xs++ys) a w
 |[],_,_,_,h=>h
 |o::xs,ys,a,w,h=>by
  unfold wpList at h
  rw[List.cons_append]
  unfold wpListIn
  split
  ·rename_i hw
   rw[if_pos hw] at h
   have h2:=sv (P:=P) (rd:=none) (n:=0) (o:=o) (.inl rfl) (fun a w h=>lL hQ (xs:=xs) (ys:=ys) h) (h.resolve_right fun h=>hQ (Classical.byContradiction fun hn=>gF hn h.2))
   refine⟨h2.1,?_⟩
   have h3:o.uponIn Fence.wide 0 P a (fun a w=>wpListIn Fence.wide 0 P ops Q (xs++ys) a w) (Exit.then (fun a w=>wpListIn Fence.wide 0 P ops Q ys a w) Q) ((o.semAt Fence.wide.round a.eval).run P w):=h2.2
   generalize (o.semAt Fence.wide.round a.eval).run P w=r at h3⊢
   cases r with
   |ok x w'=>
    cases x with
    |value v=>exact h3
    |skip=>exact h3
    |defer d=>exact h3
    |enter f args=>
     refine⟨h3.1,CallsIn.mono h3.2 ?_⟩
     intro e w'' he
     cases e with
     |returned v=>exact he
     |panicked c=>exact he
     |outgrown=>exact he
    |row s args=>exact h3
    |round _ _ _ _ _=>
     refine⟨h3.1,RoundIn.mono h3.2 ?_⟩
     intro e w'' he
     cases e with
     |returned v=>exact he
     |panicked c=>exact he
     |outgrown=>exact he
    |_=>exact h3
   |halt x w'=>
    cases x with
    |panic v=>exact h3
    |_=>exact h3
  ·rename_i hw
   rw[if_neg hw] at h
   exact⟨fun _ _=>trivial,lL hQ h⟩
theorem Eo (k:Nat) {os:List Oper} {l:Fr} {w:World} (h:bB P ops (Exit.then (fun a w=>wpListIn Fence.wide 0 P ops Q (os.drop k) a w) Q) N D l w (os.take k))
 (hQ:¬LetsOut Q:=by repeat with_reducible first|exact jJ|exact i5|exact g0|apply gF|apply gZ):z6 P ops Q N D l w os:=fun a ha=>by
 have:=lL hQ (h a ha)
 rwa [List.take_append_drop] at this
theorem n_y {os:List Oper} {l:Fr} {w:World} {Q':eR} (h:z6 P ops Q N D l w os):fz (Exit.then (fun a w=>wpListIn Fence.wide 0 P ops Q os a w) Q') N D l w:=fun a ha=>h a ha
theorem BV {os:List Oper} {l:Fr} {w:World} (h:bB P ops Q N D l w os)
 (hQ:¬LetsOut Q:=by repeat with_reducible first|exact jJ|exact i5|exact g0|apply gF|apply gZ):z6 P ops Q N D l w os:=fun a ha=>by
 have:=lL hQ (ys:=[]) (P:=P) (ops:=ops) (Q:=Q) (xs:=os) (a:=a) (w:=w) ?_
 ·rwa [List.append_nil] at this
 ·have hmono:∀(os:List Oper) (a:Act) (w:World),wpList P ops Q os a w→wpList P ops (Exit.then (fun a w=>wpListIn Fence.wide 0 P ops Q [] a w) Q) os a w:=by
   intro os a w h
   have e:(Exit.then (fun a w=>wpListIn Fence.wide 0 P ops Q [] a w) Q)=Q:=by
    funext e a w
    cases e<;>rfl
   rw[e];exact h
  exact hmono _ _ _ (h a ha)
theorem Ep {x:Operand} {xs:List Operand} {vs:List Value} {ts:Array TypeId} {lp d:Nat} {ty:TypeId} {pos:String} {aft:Array Edge} {rest:List Oper} {l:Fr} {w:World} {R:Ending→World→Prop} (hx:ev l x=some (.func (.yield lp) #[] #[])) (hp:pW l xs=some vs) (hd:Nat.blt d N=true)
 (hY:YieldAt Fence.wide 0 P lp vs.toArray w R) (k:∀e w',R e w'→∃v,e=.returned v∧z6 P ops Q N D ((d,v)::l) w' rest):z6 P ops Q N D l w (⟨some d,.call {callee:=.value x,args:=xs.toArray,argTypes:=ts},ty,pos,aft,none⟩::rest):=fun a ha=>by
 obtain⟨fn,tmps,assign,body,hy,hR⟩:=hY
 unfold wpListIn
 rw[if_pos (by rfl)]
 refine⟨fun _ _=>trivial,?_⟩
 have hr:(Oper.semAt Fence.wide.round a.eval ⟨some d,.call {callee:=.value x,args:=xs.toArray,argTypes:=ts},ty,pos,aft,none⟩).run P w=.ok (.round lp fn tmps assign body) w:=by
  rw[Oper.semAt_eq _ _ _ (by intro c hc;cases hc)]
  have hρ:mb l a.eval:=fun x v hx=>ha.ev hx
  simp only[execOp,resolve,List.map_toArray,gz hρ hp,hρ x _ hx,Deferred.ofValue,Sem.run_bind,Sem.run_pure,Result.andThen_ok,invoke,Array.empty_append,hy]
 rw[hr]
 refine⟨fun hd=>absurd hd (qk none),RoundIn.mono hR ?_⟩
 intro e w' he
 obtain⟨v,rfl,hk⟩:=k e w' he
 exact hk _ (ha.put hd v)
end
end Go.Rl
namespace Go.Rl
open Go.RowKit Go.Proofs
section
variable {P:Program} {w w':World} {t e T:TypeId} {n g o:Nat} {l:List Value}
def bI (g:Nat) (T:TypeId) (l:List Value) (w:World):Prop:=w.heap[g]? =some (.cells l.toArray T (0,0))
theorem bI.ext (h:bI g T l w) (hx:aE w w'):bI g T l w':=hx.heap_some h
theorem bI.lt (h:bI g T l w):g<w.heap.size:=(Array.getElem?_eq_some_iff.1 h).1
theorem bI.other {row:Option Nat} (h:bI g T l w) (hg:w.grownBy w' row) (hne:some g≠row):bI g T l w':=(hg.block g h.lt hne).trans h
theorem bI.cell (h:bI g T l w) {i:Nat} {v:Value} (hi:l[i]? =some v):w.cell? ⟨g,i,none⟩=some v:=gE h (by simpa using hi)
theorem bI.set (h:bI g T l w) (i:Nat) (u:Value):bI g T (l.set i u) (w.setCell ⟨g,i,none⟩ u):=by
 have:=iY h i u
 simpa [bI] using this
theorem bI.new (v:Value) (hv:v.cells=l.toArray):bI w.heap.size T l (w.alloc (.cells v.cells T)):=by
 have:=heap_alloc_new w (.cells v.cells T)
 rw[hv] at this⊢
 exact this
theorem bI.range (h:bI g T l w) {m:List Value} (hm:∀j v,m[j]? =some v→l[o+j]? =some v):w.rangeAt g o m:=fun j v hj=>h.cell (hm j v hj)
theorem y7 (ht:P.underlying t=some (.array n e)) (hs:(P.info? e).map (·.size)=some 1) {i:Nat} (hi:i<n) (k:IntKind):
 (Instr.indexAt t (.pointer (some ⟨g,o,none⟩)) (.int k i)).run P w=.ok (.pointer (some ⟨g,o+i,none⟩)) w:=by
 simp[Instr.indexAt,asIntOf,run_underlying ht,Instr.sureAddr,dy hs,hi,Addr.add_mid]
theorem BW (ht:P.underlying t=some (.array n e)) (hs:(P.info? e).map (·.size)=some 1) {q:IntKind} (he:P.underlying e=some (.int q)) {i:Nat} (hi:i<n) (k:IntKind) {v:Value} (hv:l[i]? =some v):
 (Instr.index t (.agg l.toArray) (.int k i)).run P w=.ok v w:=by
 have hagg:(isAgg e).run P w=.ok false w:=by simp[isAgg,run_underlying he]
 have hpart:(part e l.toArray i).run P w=.ok v w:=by simp[part,hagg,hv]
 simp[Instr.index,asIntOf,run_underlying ht,hi,dy hs,hpart]
theorem kO {d:TypeDesc} {m:List Value} (h:bI g T l w) (hm:∀j v,m[j]? =some v→l[o+j]? =some v) (hu:P.underlying t=some d) (hd:d.isRow=true) (hi:(P.info? t).map (·.size)=some m.length):
 (Instr.loadAt t (.pointer (some ⟨g,o,none⟩))).run P w=.ok (.agg m.toArray) w:=run_loadAt_mid w g o t m d (h.range hm) hu hd hi
theorem gw {m:List Value} (h:bI g T l w) (hl:l.length=m.length) (hi:(P.info? t).map (·.size)=some m.length) (h1:∀v∈m,v.oneCell'=true):
 (Instr.storeAt t (.pointer (some ⟨g,0,none⟩)) (.agg m.toArray)).run P w=.ok () (w.setRow g m.toArray):=by
 have:=run_storeVar_row (P:=P) w g T t l.toArray m.toArray h (by simpa using hi) (by simpa using hl) (by simpa using h1)
 simp only[Instr.storeAt,Instr.sureAddr,Sem.run_bind,Sem.run_pure,Result.andThen_ok,this]
theorem bI.row (h:bI g T l w) (m:List Value):bI g T m (w.setRow g m.toArray):=setRow_heap w g _ _ T (0,0) h
theorem bd (w:World) (g:Nat) (cs:Array Value):w.grownBy (w.setRow g cs) (some g):=
 ⟨rfl,rfl,rfl,by simp[World.setRow],fun k _ hne=>setRow_other w g k cs fun e=>hne (by rw[e])⟩
theorem BX (ht:P.underlying t=some (.array n e)) (hs:(P.info? e).map (·.size)=some 1) {lo:Nat} (hi:lo<n) (k:IntKind):
 (Instr.sliceAt t (.pointer (some ⟨g,o,none⟩)) (some (.int k lo)) none none).run P w=.ok (.slice (some ⟨g,o+lo,none⟩) (n-lo) (n-lo)) w:=by
 have hb:(Instr.sliceBounds false n n (some (.int k lo)) none none).run P w=.ok (lo,n,n) w:=by
  have a2:=run_sliceBound (P:=P) (w:=w) k (lo:Int) n .sliceB (by omega) (by omega)
  simp only[Int.toNat_natCast] at a2
  simp[Instr.sliceBounds,a2]
 have hne:¬n=lo:=by omega
 simp[Instr.sliceAt,run_underlying ht,Instr.sureAddr,hb,dy hs,hne,Addr.add_mid]
theorem eo {fn:Func} {R:Ending→World→Prop} {N:Nat} {fr:Fr} {p:Tmp} {d:TypeDesc} (hr:fn.results= #[.cell p t]) (hv:lk fr p=some (.pointer (some ⟨g,0,none⟩))) (hb:bI g T l w) (hu:P.underlying t=some d) (hd:d.isRow=true) (hi:(P.info? t).map (·.size)=some l.length)
 (h:R (.returned (.agg l.toArray)) w):fD (bodyPost P fn R) N [] fr w .ret:=fun a ha=>
 ⟨ha.defers,.agg l.toArray,results_cell_row hr a.tmps w g T l.toArray (0,0) d (ha.at_ p _ hv) hb hu (by cases d<;>first|rfl|exact hd) (by simpa using hi),h⟩
theorem i6 (m:List UInt32):∀v∈m.map bg,v.oneCell'=true:=by
 intro u hu
 obtain⟨b,_,rfl⟩:=List.mem_map.1 hu
 rfl
end
theorem aR {P:Program} {w:World} {t:TypeId} {z:Value} {l:List Value} (h:(P.info? t).map (·.zero)=some (some z)) (hv:z.cells=l.toArray):∃g w',(Instr.alloc t true (.tuple #[])).run P w=.ok (.pointer (some ⟨g,0,none⟩)) w'∧w.heap.size≤g∧aE w w'∧bI g t l w':=
 ⟨_,_,tP h,Nat.le_refl _,aE.new w _,bI.new z hv⟩
end Go.Rl
namespace Go.Rl
open Go.RowKit Go.Proofs
section ops
variable {P:Program} {ops:Array Oper} {Q:eR} {N:Nat} {D:List Deferred} {l:Fr} {w w':World} {rest:List Oper} {d:Nat} {ty:TypeId} {pos:String} {aft:Array Edge}
theorem mq {fn:Fn} {fs cs:List Operand} {us vs:List Value} (hf:pW l fs=some us) (hc:pW l cs=some vs) (hd:Nat.blt d N=true) (k:bB P ops Q N D ((d,.func fn us.toArray vs.toArray)::l) w rest):bB P ops Q N D l w (⟨some d,.makeFunc fn fs.toArray cs.toArray,ty,pos,aft,none⟩::rest):=
 fA hd (fun ρ hρ=>by
  have:execOp ρ ⟨some d,.makeFunc fn fs.toArray cs.toArray,ty,pos,aft,none⟩=(do pure (Next.value (←Instr.makeFunc fn (fs.toArray.map ρ) (cs.toArray.map ρ))):Sem Next):=rfl
  rw[this,List.map_toArray,List.map_toArray,gz hρ hf,gz hρ hc];rfl) k
theorem nf {f:FuncId} {x:Operand} {fs lb:Array Value} {xs:List Operand} {vs:List Value} {ts:Array TypeId} {T:Value→World→Prop} (hx:ev l x=some (.func (.func f) fs lb)) (hf:aw P f) (hp:pW l xs=some vs) (hd:Nat.blt d N=true) (hc:Calls P f (fs++vs.toArray++lb) w (bL T))
 (k:∀v w',T v w'→bB P ops Q N D ((d,v)::l) w' rest):bB P ops Q N D l w (⟨some d,.call {callee:=.value x,args:=xs.toArray,argTypes:=ts},ty,pos,aft,none⟩::rest):=fun a ha=>by
 refine wpList_plain Ig fun K hK=>?_
 unfold Oper.wp
 have hr:(execOp a.eval ⟨some d,.call {callee:=.value x,args:=xs.toArray,argTypes:=ts},ty,pos,aft,none⟩).run P w=.ok (.enter f (fs++vs.toArray++lb)) w:=by
  have hρ:mb l a.eval:=fun x v hx=>ha.ev hx
  simp only[execOp,resolve,List.map_toArray,gz hρ hp,hρ x _ hx,Deferred.ofValue,Sem.run_bind,Sem.run_pure,Result.andThen_ok,invoke,eK hf]
 rw[hr]
 refine hc.mono ?_
 rintro e w' ⟨v,rfl,hv⟩
 exact hK _ _ (k v w' hv _ (ha.put hd v))
theorem z7 {t:TypeId} (hd:Nat.blt d N=true) (k:bB P ops Q N D ((d,.map (some w.heap.size))::l) (w.alloc (.map #[] 0)) rest):bB P ops Q N D l w (⟨some d,.makeMap t none,ty,pos,aft,none⟩::rest):=
 fA hd (fun ρ _=>by
  have:execOp ρ ⟨some d,.makeMap t none,ty,pos,aft,none⟩=(do pure (Next.value (←Instr.makeMap t none)):Sem Next):=rfl
  rw[this]
  rfl) k
theorem xE {t:TypeId} {x y:Operand} {u v r:Value} (hx:ev l x=some u) (hy:ev l y=some v) (hd:Nat.blt d N=true) (hrun:(Instr.mapEntry t u v).run P w=.ok r w') (k:bB P ops Q N D ((d,r)::l) w' rest):bB P ops Q N D l w (⟨some d,.mapEntry t x y,ty,pos,aft,none⟩::rest):=
 fA hd (fun ρ hρ=>by
  have:execOp ρ ⟨some d,.mapEntry t x y,ty,pos,aft,none⟩=(do pure (Next.value (←Instr.mapEntry t (ρ x) (ρ y))):Sem Next):=rfl
  rw[this,hρ x _ hx,hρ y _ hy,Sem.run_bind,hrun];rfl) k
theorem tR {t:TypeId} {x y z:Operand} {u v r:Value} (hx:ev l x=some u) (hy:ev l y=some v) (hz:ev l z=some r) (hrun:(Instr.entryStore t u v r).run P w=.ok () w') (k:bB P ops Q N D l w' rest):bB P ops Q N D l w (⟨none,.entryStore t x y z,ty,pos,aft,none⟩::rest):=
 Fl (fun ρ hρ=>by
  have:execOp ρ ⟨none,.entryStore t x y z,ty,pos,aft,none⟩=(do Instr.entryStore t (ρ x) (ρ y) (ρ z);pure Next.skip:Sem Next):=rfl
  rw[this,hρ x _ hx,hρ y _ hy,hρ z _ hz,Sem.run_bind,hrun];rfl) k
end ops
section fops
variable {P:Program} {ops:Array Oper} {Env:World→Prop} {Rl:World→World→Prop} {mo:Bool} {Pn:List PanicEntry→World→Prop} {Z:ik} {N:Nat} {F:bR} {K:bR→ik→Prop} {rest:List Oper} {d:Nat} {ty:TypeId} {pos:String} {aft:Array Edge}
theorem z8 {t:TypeId} {x y:Operand} {S R S':cH} {ok:Bool} (hx:dZ F x=S) (hy:dZ F y=R) (hst:bD Rl S') (hd:Nat.blt d N=true) (hrun:∀w u v,Env w→S u w→R v w→∃r,(Instr.lookup t u v ok).run P w=.ok r w∧S' r w)
 (k:eC P ops Env Rl mo Pn N rest (im F (some d) S') Z K):eC P ops Env Rl mo Pn N (⟨some d,.lookup t x y ok,ty,pos,aft,none⟩::rest) F Z K:=
 yW (xs:=[x,y]) (f:=fun|[a,b]=>Instr.lookup t a b ok|_=>stuck "") (fun _=>rfl) (by simp[Op.operands]) hst hd (fun w hw u hu v hv=>by
  subst hx;subst hy
  obtain⟨r,h1,h2⟩:=hrun w u v hw hu hv
  exact⟨r,w,h1,aE.refl _,h2⟩) k
end fops
theorem vg:(Tryz.prog.info? 3).map (fun i=>(i.zero,i.size,i.bytes))=some (some (.int .i64 0),1,8):=by kernel_rfl
theorem eW:(Tryz.prog.info? 3).map (·.size)=some 1:=by kernel_rfl
section
variable {w w':World} {base:Nat}
def GJ (l:List Int):cH:=Sl 1 (l.map I)
def dG (base:Nat) (l:List Int):cH:=fun v w=>∃n,w.ownsRow base 3 1 v n (l.map I)
theorem dG.its {l:List Int} {v:Value} (h:dG base l v w):GJ l v w:=h.elim fun _ h=>Sl.of_own h
theorem dG.ext {l:List Int} {v:Value} (h:dG base l v w) (hx:aE w w'):dG base l v w':=h.elim fun n h=>⟨n,eE h hx⟩
theorem dG.stable (base:Nat) (l:List Int):be (dG base l):=fun _ _ _ h hx=>h.ext hx
theorem GJ.stable (l:List Int):be (GJ l):=Sl.stable _ _
theorem dG.nil (base:Nat) (w:World):dG base [] (.slice none 0 0) w:=⟨0,World.ownsRow_nil _ _ _ _⟩
theorem dG.lt {l:List Int} {v:Value} (h:dG base l v w):∀k,v.ownBlock=some k→base≤k∧k<w.heap.size:=fun k hk=>h.elim fun _ h=>World.ownsRow.lt h k hk
theorem dG.kept {l:List Int} {v:Value} (h:dG base l v w) {row:Option Nat} (hg:w.grownBy w' row) (hne:v.ownBlock=none∨v.ownBlock≠row):dG base l v w':=
 h.elim fun n h=>⟨n,World.ownsRow.kept h hg hne⟩
theorem dG.same {l:List Int} {v:Value} (h:dG base l v w) (hb:∀k,v.ownBlock=some k→w'.heap[k]? =w.heap[k]?):dG base l v w':=by
 obtain⟨n,h1,h2⟩:=h
 refine⟨n,h1,?_⟩
 rcases h2 with h2|⟨g,cap,cur,rfl,h3,h4,h5⟩
 ·exact .inl h2
 ·exact .inr ⟨g,cap,cur,rfl,h3,(hb g rfl).trans h4,h5⟩
theorem dG.isSlice {l:List Int} {v:Value} (h:dG base l v w):∃A n c,v=.slice A n c:=by
 obtain⟨n,h1,h2⟩:=h
 rcases h2 with⟨rfl,_⟩|⟨g,cap,cur,rfl,_⟩
 ·exact⟨_,_,_,rfl⟩
 ·exact⟨_,_,_,rfl⟩
theorem Fq (l:List Int):∀u∈l.map I,u.oneCell'=true:=by
 intro u hu
 obtain⟨b,_,rfl⟩:=List.mem_map.1 hu
 rfl
theorem FY {l m:List Int} {v x:Value} {ty:TypeId} (hv:dG base l v w) (hx:GJ m x w) (hb:l.length+m.length≤17592186044416) (hbase:base≤w.heap.size):
 ∃r w',(Builtin.append_ #[32,32] ty #[v,x]).run Tryz.prog w=.ok r w'∧dG base (l++m) r w'∧fh w w' v r:=by
 obtain⟨n,hv⟩:=hv
 obtain⟨r,w',n',h1,h2,h3⟩:=mY (P:=Tryz.prog) (ty:=ty) Tryz.underlying32 vg rfl (by omega) hv hx (Fq m) (by simp;omega) (by omega) hbase
 exact⟨r,w',h1,⟨n',by rw[List.map_append];exact h2⟩,h3⟩
theorem ql (base:Nat) (l:List Int) (hl:l.length≤16777216) (hb:base≤w.heap.size):
 ∃r w',(Instr.buildSlice 32 l.length (da 0 (l.map I)).toArray).run Tryz.prog w=.ok r w'∧aE w w'∧dG base l r w'∧r.ownBlock=some w.heap.size:=by
 have:=j1 (P:=Tryz.prog) (w:=w) Tryz.underlying32 vg (l.map I) (Fq l) (by simpa using hl) hb
 simp only[List.length_map] at this
 obtain⟨r,w',h1,h2,h3,h4⟩:=this
 exact⟨r,w',h1,h2,⟨_,h3⟩,h4⟩
theorem FZ {l:List Int} {v:Value} {ty:TypeId} (h:GJ l v w):(Builtin.len_ #[32] ty #[v]).run Tryz.prog w=.ok (I l.length) w:=by
 obtain⟨n,hl,_,hr⟩:=BG (P:=Tryz.prog) (ty:=ty) H5 h
 have:l.length=n:=by simpa using hl
 rw[hr,this]
theorem G1 {l:List Int} {v:Value} (h:GJ l v w) {i:Nat} (hi:i<l.length) (k:IntKind):
 ∃ad,(∀w':World,(Instr.indexAt 32 v (.int k i)).run Tryz.prog w'=.ok (.pointer (some ad)) w')∧w.cell? ad=some (I l[i]):=by
 obtain⟨ad,h3,h4⟩:=pz (P:=Tryz.prog) Tryz.underlying32 eW h (i:=i) (by simp;omega) (by omega) k
 refine⟨ad,h3,?_⟩
 have:=h4 0 (I l[i]) (by simp[hi])
 rwa [iX] at this
end
structure Mv (X:Nat→Prop) (w w':World):Prop where
 os:w'.os=w.os
 tape:w'.tape=w.tape
 output:w'.output=w.output
 size:w.heap.size≤w'.heap.size
 keep:∀k,k<w.heap.size→¬X k→w'.heap[k]? =w.heap[k]?
section
variable {X Y:Nat→Prop} {w w1 w2:World}
theorem Mv.refl (X:Nat→Prop) (w:World):Mv X w w:=⟨rfl,rfl,rfl,Nat.le_refl _,fun _ _ _=>rfl⟩
theorem Mv.trans (h:Mv X w w1) (k:Mv Y w1 w2) (hY:∀n,Y n→n<w.heap.size→X n):Mv X w w2:=
 ⟨k.os.trans h.os,k.tape.trans h.tape,k.output.trans h.output,Nat.le_trans h.size k.size,fun n hn hx=>(k.keep n (Nat.lt_of_lt_of_le hn h.size) (fun hy=>hx (hY n hy hn))).trans (h.keep n hn hx)⟩
theorem Mv.of_ext (h:aE w w1):Mv X w w1:=⟨h.os,h.tape,h.output,h.size,fun _ hn _=>h.heap hn⟩
theorem Mv.of_grown {row:Option Nat} (h:w.grownBy w1 row) (hr:∀k,row=some k→k<w.heap.size→X k):Mv X w w1:=
 ⟨h.os,h.tape,h.output,h.size,fun n hn hx=>h.block n hn (fun e=>hx (hr n e.symm hn))⟩
theorem Mv.ext (h:Mv X w w1) (hX:∀k,X k→w.heap.size≤k):aE w w1:=⟨h.os,h.tape,h.output,h.size,fun n hn=>h.keep n hn fun hx=>by have:=hX n hx;omega⟩
theorem Mv.ext_from {w0:World} (h:Mv X w w1) (h0:aE w0 w) (hX:∀k,X k→w0.heap.size≤k):aE w0 w1:=
 ⟨Eq.trans h.os h0.os,Eq.trans h.tape h0.tape,Eq.trans h.output h0.output,Nat.le_trans h0.size h.size,fun n hn=>(h.keep n (Nat.lt_of_lt_of_le hn h0.size) fun hx=>by have:=hX n hx;omega).trans (h0.heap hn)⟩
theorem Mv.weak (h:Mv X w w1) (hXY:∀k,X k→k<w.heap.size→Y k):Mv Y w w1:=⟨h.os,h.tape,h.output,h.size,fun n hn hy=>h.keep n hn fun hx=>hy (hXY n hx hn)⟩
theorem Mv.blk {g:Nat} {T:TypeId} {l:List Value} (h:Mv X w w1) (hb:bI g T l w) (hx:¬X g):bI g T l w1:=(h.keep g hb.lt hx).trans hb
theorem Mv.ownB {base:Nat} {l:List UInt8} {v:Value} (h:Mv X w w1) (ho:bZ base l v w) (hx:∀k,v.ownBlock=some k→¬X k):bZ base l v w1:=by
 obtain⟨n,h1,h2⟩:=ho
 refine⟨n,h1,?_⟩
 rcases h2 with h2|⟨g,cap,cur,rfl,h3,h4,h5⟩
 ·exact .inl h2
 ·exact .inr ⟨g,cap,cur,rfl,h3,(h.keep g (Array.getElem?_eq_some_iff.1 h4).1 (hx g rfl)).trans h4,h5⟩
end
section
variable {P:Program} {w:World} {t k e:TypeId} {m:Nat} {es:List MapEntry} {clock:Nat} {x:Value}
open Go.Maps (Keyed)
def xF (P:Program) (k:TypeId) (es:List MapEntry):Prop:=∀e∈es,∃l,keyOf P k e.key=some l
theorem BY (K:Keyed P k) (ht:P.underlying t=some (.map k e)) {z:Value} (hz:(P.info? e).map (·.zero)=some (some z)) (hm:w.heap[m]? =some (.map es.toArray clock)) (hk:xF P k es) {lx:Lit} (hx:keyOf P k x=some lx):
 ((Instr.lookup t (.map (some m)) x false).run P w=.ok z w∧(Instr.lookup t (.map (some m)) x true).run P w=.ok (.tuple #[z,.bool false]) w∧∀e∈es,e.key≠x)∨
 ∃(j:Nat) (e:MapEntry),(Instr.lookup t (.map (some m)) x false).run P w=.ok e.val w∧(Instr.lookup t (.map (some m)) x true).run P w=.ok (.tuple #[e.val,.bool true]) w∧es[j]? =some e∧e.key=x:=by
 have hc:=fun em=>K.check w em hx
 rcases K.find w hx es hk with⟨h1,h2⟩|⟨j,e0,h1,h2,h3⟩
 ·refine .inl ⟨?_,?_,h2⟩<;>simp[Instr.lookup,run_underlying ht,MapKept.run_getObj_map hm,hc,h1,qj hz,Result.andThen]
 ·refine .inr ⟨j,e0,?_,?_,h2,h3⟩<;>simp[Instr.lookup,run_underlying ht,MapKept.run_getObj_map hm,hc,h1,Result.andThen]
theorem nV {w:World} {m:Nat} {o o':Obj} (h:w.heap[m]? =some o):(w.putObj m o').heap[m]? =some o':=World.putObj_heap_same (Array.getElem?_eq_some_iff.1 h).1
theorem i7 {o':Obj} (hm:w.heap[m]? =some (.map es.toArray clock)):(setObj m o').run P w=.ok () (w.putObj m o'):=by
 simp[setObj,Sem.run,hm,World.putObj]
theorem xG (K:Keyed P k) (ht:P.underlying t=some (.map k e)) {z:Value} (hz:(P.info? e).map (·.zero)=some (some z)) (hm:w.heap[m]? =some (.map es.toArray clock)) (hk:xF P k es) {lx:Lit} (hx:keyOf P k x=some lx):
 ∃w',w.grownBy w' (some m)∧((∃(j:Nat) (e:MapEntry),es[j]? =some e∧e.key=x∧(Instr.mapEntry t (.map (some m)) x).run P w=.ok (.tuple #[e.val,I (e.born:Int)]) w'∧w'.heap[m]? =some (.map es.toArray clock))∨
  ((∀e∈es,e.key≠x)∧(Instr.mapEntry t (.map (some m)) x).run P w=.ok (.tuple #[z,I (clock:Int)]) w'∧w'.heap[m]? =some (.map (es++[({key:=x,val:=z,born:=clock}:MapEntry)]).toArray (clock+1)))):=by
 rcases K.find w hx es hk with⟨h1,h2⟩|⟨j,e0,h1,h2,h3⟩
 ·refine⟨_,grownBy_putObj' w m (.map (es++[({key:=x,val:=z,born:=clock}:MapEntry)]).toArray (clock+1)),.inr ⟨h2,?_,nV hm⟩⟩
  have hs:=i7 (P:=P) (o':=.map (es++[({key:=x,val:=z,born:=clock}:MapEntry)]).toArray (clock+1)) hm
  simp[Instr.mapEntry,run_underlying ht,MapKept.run_getObj_map hm,K.check w false hx,h1,qj hz,Result.andThen,goInt,I] at hs⊢
  simp[hs]
 ·have hmod:(es.toArray.modify j fun e=>{e with key:=x})=es.toArray:=by
   apply Array.ext
   ·simp
   ·intro i h4 h5
    rw[Array.getElem_modify]
    split
    ·rename_i he
     subst he
     have:es.toArray[j]=e0:=by
      have:=h2
      rw[List.getElem?_eq_getElem (by simpa using h5)] at this
      simpa using Option.some.inj this
     rw[this,←h3]
    ·rfl
  refine⟨_,grownBy_putObj' w m (.map es.toArray clock),.inl ⟨j,e0,h2,h3,?_,nV hm⟩⟩
  have hs:=i7 (P:=P) (o':=.map es.toArray clock) hm
  have hst:=K.stays w hx
  have hj:es.toArray[j]? =some e0:=by simpa using h2
  simp[Instr.mapEntry,run_underlying ht,MapKept.run_getObj_map hm,K.check w false hx,h1,Result.andThen,goInt,I,h2,h3,hst] at hs⊢
  have hmod2:(es.modify j fun e=>{e with key:=x})=es:=by
   have:=congrArg Array.toList hmod
   simpa using this
  rw[hmod2]
  simp[hs]
theorem tS {j:Nat} {e0:MapEntry} {v:Value} (hm:w.heap[m]? =some (.map es.toArray clock)) (hj:es[j]? =some e0) (hu:∀i e,es[i]? =some e→e.born=e0.born→i=j):
 ∃w',(Instr.entryStore t (.map (some m)) (I (e0.born:Int)) v).run P w=.ok () w'∧w.grownBy w' (some m)∧w'.heap[m]? =some (.map (es.set j {e0 with val:=v}).toArray clock):=by
 have hjl:j<es.length:=by
  rcases Nat.lt_or_ge j es.length with h|h
  ·exact h
  ·rw[List.getElem?_eq_none h] at hj;cases hj
 have hje:es[j]=e0:=by
  rw[List.getElem?_eq_getElem hjl] at hj
  exact Option.some.inj hj
 have hfind:es.toArray.findIdx? (fun e=>(e.born:Int)==(e0.born:Int))=some j:=by
  rw[List.findIdx?_toArray,List.findIdx?_eq_some_iff_getElem]
  refine⟨hjl,by simp[hje],fun i hi=>?_⟩
  have hil:i<es.length:=by omega
  have:=hu i es[i] (List.getElem?_eq_getElem hil)
  simp only[beq_iff_eq]
  intro h
  have h':es[i].born=e0.born:=by exact_mod_cast h
  have:=this h'
  omega
 have hmod:(es.toArray.modify j fun e=>{e with val:=v})=(es.set j {e0 with val:=v}).toArray:=by
  apply Array.ext
  ·simp
  ·intro i h4 h5
   rw[Array.getElem_modify]
   simp only[List.getElem_toArray,List.getElem_set]
   split
   ·rename_i he
    subst he
    rw[hje]
   ·rfl
 refine⟨_,?_,grownBy_putObj' w m (.map (es.set j {e0 with val:=v}).toArray clock),nV hm⟩
 have hs:=i7 (P:=P) (o':=.map (es.set j {e0 with val:=v}).toArray clock) hm
 simp only[Instr.entryStore,Sem.run_bind,MapKept.run_getObj_map hm,Result.andThen_ok,I,asInt,asIntOf,Sem.run_pure,hfind,hmod]
 exact hs
end
end Go.Rl
namespace Go.Rl
open Go.RowKit
mutual
def cz (X:Nat→Prop) (w:World):Dt→List Value→Prop
 |.int k n,cs=>cs=[.int k n]
 |.bool b,cs=>cs=[.bool b]
 |.str l,cs=>cs=[S l]
 |.sl l,cs=>∃A n c,cs=[.slice A n c]∧l.length=n∧n≤c∧c≤maxLen∧(A=none→c=0)∧(0<n→∃ad xs,A=some ad∧(xs≠[]→¬X ad.block)∧cS w ad xs∧aF X w l xs)
 |.st l,cs=>aF X w l cs
def aF (X:Nat→Prop) (w:World):List Dt→List Value→Prop
 |[],cs=>cs=[]
 |d::ds,cs=>∃c1 c2,cs=c1++c2∧cz X w d c1∧aF X w ds c2
end
theorem cS.block_lt {w:World} {ad:Addr} {xs:List Value} (h:cS w ad xs) (h0:xs≠[]):ad.block<w.heap.size:=by
 cases xs with
 |nil=>exact absurd rfl h0
 |cons x xs=>
  have:=World.block_lt_of_cell? w _ (h 0 x rfl)
  rwa [iL] at this
theorem Mv.cells {X:Nat→Prop} {w w':World} (hm:Mv X w w') {ad:Addr} {xs:List Value} (h:cS w ad xs) (hx:xs≠[]→¬X ad.block):cS w' ad xs:=fun j u hu=>by
 have hn:xs≠[]:=by rintro rfl;simp at hu
 have hc:=h j u hu
 rw[World.cell?_of_block (hm.keep _ (World.block_lt_of_cell? w _ hc) (by rw[iL];exact hx hn))]
 exact hc
section
variable {X Y:Nat→Prop} {w w':World}
mutual
theorem cz.rp:∀{d:Dt} {cs:List Value},cz X w d cs→Rp w d cs
 |.int k n,cs,h=>by simpa only[cz,Rp] using h
 |.bool b,cs,h=>by simpa only[cz,Rp] using h
 |.str l,cs,h=>by simpa only[cz,Rp] using h
 |.sl l,cs,h=>by
  simp only[cz,Rp] at h⊢
  obtain⟨A,n,c,h1,h2,h3,h4,h5,h6⟩:=h
  refine⟨A,n,c,h1,h2,h3,h4,h5,fun hn=>?_⟩
  obtain⟨ad,xs,h7,_,h8,h9⟩:=h6 hn
  exact⟨ad,xs,h7,h8,aF.rp h9⟩
 |.st l,cs,h=>by simp only[cz,Rp] at h⊢;exact aF.rp h
theorem aF.rp:∀{l:List Dt} {cs:List Value},aF X w l cs→bC w l cs
 |[],cs,h=>by simpa only[aF,bC] using h
 |d::l,cs,h=>by
  simp only[aF,bC] at h⊢
  obtain⟨c1,c2,h0,h1,h2⟩:=h
  exact⟨c1,c2,h0,cz.rp h1,aF.rp h2⟩
end
mutual
theorem cz.mv (hm:Mv X w w') (hY:∀k,Y k→X k∨w.heap.size≤k):∀{d:Dt} {cs:List Value},cz X w d cs→cz Y w' d cs
 |.int k n,cs,h=>by simpa only[cz] using h
 |.bool b,cs,h=>by simpa only[cz] using h
 |.str l,cs,h=>by simpa only[cz] using h
 |.sl l,cs,h=>by
  simp only[cz] at h⊢
  obtain⟨A,n,c,h1,h2,h3,h4,h5,h6⟩:=h
  refine⟨A,n,c,h1,h2,h3,h4,h5,fun hn=>?_⟩
  obtain⟨ad,xs,h7,h8,h9,h10⟩:=h6 hn
  refine⟨ad,xs,h7,fun h0 hy=>?_,hm.cells h9 h8,aF.mv hm hY h10⟩
  rcases hY _ hy with hx|hx
  ·exact h8 h0 hx
  ·have:=h9.block_lt h0;omega
 |.st l,cs,h=>by simp only[cz] at h⊢;exact aF.mv hm hY h
theorem aF.mv (hm:Mv X w w') (hY:∀k,Y k→X k∨w.heap.size≤k):∀{l:List Dt} {cs:List Value},aF X w l cs→aF Y w' l cs
 |[],cs,h=>by simpa only[aF] using h
 |d::l,cs,h=>by
  simp only[aF] at h⊢
  obtain⟨c1,c2,h0,h1,h2⟩:=h
  exact⟨c1,c2,h0,cz.mv hm hY h1,aF.mv hm hY h2⟩
end
theorem cz.weak {d:Dt} {cs:List Value} (h:cz X w d cs) (hY:∀k,Y k→X k∨w.heap.size≤k):cz Y w d cs:=h.mv (Mv.refl X w) hY
theorem aF.weak {d:List Dt} {cs:List Value} (h:aF X w d cs) (hY:∀k,Y k→X k∨w.heap.size≤k):aF Y w d cs:=h.mv (Mv.refl X w) hY
theorem cz.ext {d:Dt} {cs:List Value} (h:cz X w d cs) (hx:aE w w'):cz X w' d cs:=cz.mv (Mv.of_ext hx) (fun _ h=>.inl h) h
theorem aF.ext {d:List Dt} {cs:List Value} (h:aF X w d cs) (hx:aE w w'):aF X w' d cs:=aF.mv (Mv.of_ext hx) (fun _ h=>.inl h) h
theorem cz.len {d:Dt} {cs:List Value} (h:cz X w d cs):cs.length=d.size:=h.rp.len
theorem aF.len {l:List Dt} {cs:List Value} (h:aF X w l cs):cs.length=Dt.sizeAll l:=h.rp.len
theorem aF.nil:aF X w [] []:=by simp only[aF]
theorem aF.cons {d:Dt} {l:List Dt} {a b:List Value} (h:cz X w d a) (h':aF X w l b):aF X w (d::l) (a++b):=by simp only[aF];exact⟨a,b,rfl,h,h'⟩
theorem aF.append {l m:List Dt}:∀{a b:List Value},aF X w l a→aF X w m b→aF X w (l++m) (a++b):=by
 induction l with
 |nil=>intro a b h h';simp only[aF] at h;subst h;exact h'
 |cons d l ih=>
  intro a b h h'
  simp only[aF] at h
  obtain⟨c1,c2,rfl,h1,h2⟩:=h
  rw[List.append_assoc]
  exact aF.cons h1 (ih h2 h')
theorem cz.nilSl:cz X w (.sl []) [.slice none 0 0]:=by
 simp only[cz]
 exact⟨none,0,0,rfl,rfl,Nat.le_refl _,Nat.zero_le _,fun _=>rfl,fun h=>by omega⟩
theorem cz.ofOwn {base sz n:Nat} {e:TypeId} {l:List Dt} {v:Value} {xs:List Value} (h:w.ownsRow base e sz v n xs) (ha:aF X w l xs) (hs:∀d∈l,d.size=sz) (h0:0<sz) (hX:∀k,v.ownBlock=some k→¬X k):cz X w (.sl l) [v]:=by
 have hl:=ha.len
 rw[cD hs,h.1] at hl
 have hn:=Nat.eq_of_mul_eq_mul_right h0 hl
 obtain⟨A,n',c,rfl,h3,h4,h5,h6,h7⟩:=Sl.of_own h
 simp only[cz]
 have hn':n'=n:=Nat.eq_of_mul_eq_mul_right h0 (h5.symm.trans h.1)
 subst hn'
 refine⟨A,n',c,rfl,hn.symm,h3,h4,h7,fun hp=>?_⟩
 obtain⟨ad,rfl,hc⟩:=h6 hp
 exact⟨ad,xs,rfl,fun _=>hX _ rfl,hc,ha⟩
end
end Go.Rl
namespace Go.Rl
open Go.ChangeShapes Go.WideShapes Go.ChangeAt Go.RowKit Go.Proofs
open Go.ChangeMaps (open_string shut_string)
section
variable {P:Program} {H:Type} {enc:TypeId×Value→H} {W:World} {base:Nat} {spare:Nat→Bool} {held:Bool} {r:Reach} {b0:Nat} {v:Value} {d:DataW H} {ps:List MemPlace}
theorem F0 {n:Int} (h:(Lit.int .u32 n).wf=true):∃x:UInt32,n=(x.toNat:Int):=by
 have hb:0≤n∧n≤4294967295:=by simpa [Lit.wf,IntKind.min,IntKind.max,IntKind.signed,IntKind.bits] using h
 exact⟨UInt32.ofNat n.toNat,by rw[UInt32.toNat_ofNat'];omega⟩
theorem wf_I {n:Int} (h:(Lit.int .i64 n).wf=true): -9223372036854775808≤n∧n≤9223372036854775807:=by
 simpa [Lit.wf,IntKind.min,IntKind.max,IntKind.signed,IntKind.bits] using h
end
end Go.Rl
namespace Go.Rl
open Go.ChangeShapes Go.WideShapes Go.ChangeAt Go.RowKit
section
variable {P:Program} {t e:TypeId} {d:Dt}
theorem Ty.inv_int {k:IntKind} (hu:P.underlying t=some (.int k)) (h:Ty P t d):∃n,d=.int k n∧(Lit.int k n).wf=true:=by
 cases h with
 |int h hw=>rw[hu] at h;cases h;exact⟨_,rfl,hw⟩
 |bool h=>rw[hu] at h;cases h
 |str h=>rw[hu] at h;cases h
 |sl h=>rw[hu] at h;cases h
 |st h=>rw[hu] at h;cases h
 |arr h=>rw[hu] at h;cases h
theorem Ty.inv_u32 (hu:P.underlying t=some (.int .u32)) (h:Ty P t d):∃x,d=nU x:=by
 obtain⟨n,rfl,hw⟩:=h.inv_int hu
 obtain⟨x,rfl⟩:=F0 hw
 exact⟨x,rfl⟩
theorem Ty.inv_bool (hu:P.underlying t=some .bool) (h:Ty P t d):∃x,d=.bool x:=by
 cases h with
 |int h hw=>rw[hu] at h;cases h
 |bool h=>exact⟨_,rfl⟩
 |str h=>rw[hu] at h;cases h
 |sl h=>rw[hu] at h;cases h
 |st h=>rw[hu] at h;cases h
 |arr h=>rw[hu] at h;cases h
theorem y8 {α:Type} {f:α→Dt}:∀(l:List Dt),(∀d∈l,∃x,d=f x)→∃m:List α,l=m.map f
 |[],_=>⟨[],rfl⟩
 |d::l,h=>by
  obtain⟨x,rfl⟩:=h d (by simp)
  obtain⟨m,rfl⟩:=y8 l fun e he=>h e (by simp[he])
  exact⟨x::m,rfl⟩
theorem Ty.inv_slD (hu:P.underlying t=some (.slice e)) (h:Ty P t d):∃l,d=.sl l∧∀x∈l,Ty P e x:=by
 cases h with
 |int h hw=>rw[hu] at h;cases h
 |bool h=>rw[hu] at h;cases h
 |str h=>rw[hu] at h;cases h
 |sl h ha=>rw[hu] at h;cases h;exact⟨_,rfl,ha⟩
 |st h=>rw[hu] at h;cases h
 |arr h=>rw[hu] at h;cases h
theorem Ty.inv_sl {α:Type} {f:α→Dt} (hu:P.underlying t=some (.slice e)) (he:∀x,Ty P e x→∃y,x=f y) (h:Ty P t d):∃l:List α,d=.sl (l.map f):=by
 obtain⟨l,rfl,ha⟩:=h.inv_slD hu
 obtain⟨m,rfl⟩:=y8 l fun x hx=>he x (ha x hx)
 exact⟨m,rfl⟩
theorem Ty.inv_st {fs:Array Field} (hu:P.underlying t=some (.struct fs)) (h:Ty P t d):∃l,d=.st l∧l.length=fs.size∧∀(i:Nat) (f:Field) (x:Dt),fs[i]? =some f→l[i]? =some x→Ty P f.type x:=by
 cases h with
 |int h hw=>rw[hu] at h;cases h
 |bool h=>rw[hu] at h;cases h
 |str h=>rw[hu] at h;cases h
 |sl h=>rw[hu] at h;cases h
 |st h h1 h2=>rw[hu] at h;cases h;exact⟨_,rfl,h1,h2⟩
 |arr h=>rw[hu] at h;cases h
def dBs (l:List UInt8):Dt:=.sl (l.map dU8)
def i8 (l:List UInt32):Dt:=.sl (l.map nU)
theorem Rp.bts {w:World} {l:List UInt8} {v:Value}:Rp w (dBs l) [v]↔bQ l v w:=Rp.bytes
theorem Rp.wds {w:World} {l:List UInt32} {v:Value}:Rp w (i8 l) [v]↔bu l v w:=Rp.words
theorem Ty.inv_nat (hu:P.underlying t=some (.slice e)) (he:P.underlying e=some (.int .u32)) (h:Ty P t d):∃l,d=i8 l:=h.inv_sl hu fun _ hx=>hx.inv_u32 he
end
section
variable {P:Program} {H:Type} {enc:TypeId×Value→H} {W:World} {base:Nat} {spare:Nat→Bool} {held:Bool} {r:Reach} {b0:Nat} {v:Value} {d:DataW H} {ps:List MemPlace} {t e:TypeId}
theorem F1 {ts:List TypeId} (hc:tQ P ts=true) (ht:ts.contains t=true) (h:DataW.Trod enc P W base spare held t v d ps):Rp W (dL d) v.cells.toList∧Ty P t (dL d):=by
 obtain⟨fuel,hf⟩:=h
 exact su hc fuel t _ (d,ps) (by simpa using ht) hf
theorem G2 {ts:List TypeId} {fs:Array Field} (hc:tQ P ts=true) (ht:ts.contains t=true) (hu:P.underlying t=some (.struct fs)) (ho:Value.okWide P W r b0 t v) (h:DataW.Trod enc P W base spare held t v d ps):∃cs:List Value,v=.agg cs.toArray∧Rp W (dL d) cs∧Ty P t (dL d):=by
 obtain⟨cs,rfl,_⟩:=okWide_struct hu ho
 obtain⟨h1,h2⟩:=F1 hc ht h
 exact⟨cs.toList,rfl,h1,h2⟩
end
end Go.Rl
namespace Go.Rl
def val:List UInt32→Nat
 |[]=>0
 |x::l=>x.toNat+4294967296*val l
def tr:List UInt32→List UInt32
 |[]=>[]
 |x::l=>match tr l with
  |[]=>if x=0 then[] else[x]
  |y::m=>x::y::m
def Er:Nat→Nat→List UInt32
 |0,_=>[]
 |f+1,n=>if n=0 then[] else UInt32.ofNat (n%4294967296)::Er f (n/4294967296)
def lb (n:Nat):List UInt32:=Er n n
theorem BZ:∀(f g n:Nat),n≤f→n≤g→Er f n=Er g n
 |0,0,n,_,_=>rfl
 |0,g+1,n,h,_=>by simp[Er,show n=0 by omega]
 |f+1,0,n,_,h=>by simp[Er,show n=0 by omega]
 |f+1,g+1,n,h1,h2=>by
  simp only[Er]
  split
  ·rfl
  ·rw[BZ f g (n/4294967296) (by omega) (by omega)]
theorem fv:lb 0=[]:=rfl
theorem mr {n:Nat} (h:0<n):lb n=UInt32.ofNat (n%4294967296)::lb (n/4294967296):=by
 obtain⟨m,rfl⟩:∃m,n=m+1:=⟨n-1,by omega⟩
 show Er (m+1) (m+1)=_
 simp only[Er]
 rw[if_neg (by omega),BZ m ((m+1)/4294967296) _ (by omega) (Nat.le_refl _)]
 rfl
theorem cq (x:UInt32):x.toNat<4294967296:=x.toNat_lt
theorem nW {n:Nat} (h:n<4294967296):(UInt32.ofNat n).toNat=n:=by rw[UInt32.toNat_ofNat'];omega
theorem j4 {x y:UInt32} (h:x.toNat=y.toNat):x=y:=UInt32.toNat_inj.1 h
theorem F3 {x:UInt32} (h:x≠0):0<x.toNat:=by
 rcases Nat.eq_zero_or_pos x.toNat with h0|h0
 ·exact absurd (j4 (y:=0) h0) h
 ·exact h0
theorem bH (n:Nat):val (lb n)=n:=by
 induction n using Nat.strongRecOn with
 |ind n ih=>
  rcases Nat.eq_zero_or_pos n with rfl|h
  ·rfl
  ·rw[mr h,val,ih _ (by omega),nW (by omega)]
   omega
theorem dN:∀(l m:List UInt32),val (l++m)=val l+4294967296^l.length*val m
 |[],m=>by simp[val]
 |x::l,m=>by
  rw[List.cons_append,val,dN l m,val,List.length_cons,Nat.pow_succ,Nat.mul_add,←Nat.mul_assoc,Nat.mul_comm (4294967296^l.length),Nat.add_assoc]
theorem cd:∀(l:List UInt32),val l<4294967296^l.length
 |[]=>by simp[val]
 |x::l=>by
  have:=cd l
  have hx:=cq x
  rw[val,List.length_cons,Nat.pow_succ]
  have:4294967296*(val l+1)≤4294967296*4294967296^l.length:=Nat.mul_le_mul_left _ this
  rw[Nat.mul_comm (4294967296^l.length)]
  omega
theorem nY (n:Nat):val (List.replicate n 0)=0:=by
 induction n with
 |zero=>rfl
 |succ n ih=>rw[List.replicate_succ,val,ih];rfl
theorem j5 (x:UInt32):val [x]=x.toNat:=by simp[val]
theorem bE {l:List UInt32} {i:Nat} (h:i<l.length):val (l.take (i+1))=val (l.take i)+4294967296^i*l[i].toNat:=by
 rw[List.take_succ_eq_append_getElem h,dN,j5,List.length_take,Nat.min_eq_left (by omega)]
theorem d6 {l:List UInt32} {i:Nat} (h:i<l.length):val (l.drop i)=l[i].toNat+4294967296*val (l.drop (i+1)):=by
 rw[List.drop_eq_getElem_cons h,val]
theorem dH (l:List UInt32) (i:Nat) (h:i≤l.length):val l=val (l.take i)+4294967296^i*val (l.drop i):=by
 conv=>lhs;rw[←List.take_append_drop i l]
 rw[dN,List.length_take,Nat.min_eq_left h]
theorem B0:∀(l:List UInt32),val (tr l)=val l
 |[]=>rfl
 |x::l=>by
  have ih:=B0 l
  rw[tr]
  split
  ·rename_i h
   rw[h] at ih
   split
   ·rename_i hx;subst hx;simp[val,←ih]
   ·simp[val,←ih]
  ·rename_i y m h
   rw[h] at ih
   rw[val,ih,val]
theorem Fs:∀(l:List UInt32),tr l=lb (val l)
 |[]=>rfl
 |x::l=>by
  have ih:=Fs l
  have hx:=cq x
  rw[tr,val]
  rcases Nat.eq_zero_or_pos (val l) with h|h
  ·rw[h,fv] at ih
   rw[ih,h,Nat.mul_zero,Nat.add_zero]
   by_cases h0:x=0
   ·subst h0;simp[fv]
   ·have:=F3 h0
    have e:UInt32.ofNat x.toNat=x:=j4 (by rw[nW hx])
    simp only[if_neg h0]
    rw[mr this,Nat.mod_eq_of_lt hx,Nat.div_eq_of_lt hx,fv,e]
  ·rw[mr (n:=x.toNat+4294967296*val l) (by omega),Nat.add_mul_mod_self_left,Nat.add_mul_div_left _ _ (by omega),Nat.div_eq_of_lt hx,Nat.zero_add,Nat.mod_eq_of_lt hx,←ih]
   have hne:tr l≠[]:=fun h0=>by
    have:=B0 l
    rw[h0,val] at this
    omega
   split
   ·rename_i h0;exact absurd h0 hne
   ·rename_i y m h0
    rw[h0]
    congr 1
    exact j4 (by rw[nW hx])
theorem y9 {x:UInt32} (h:x≠0):∀(l:List UInt32),tr (l++[x])=l++[x]
 |[]=>by simp[tr,h]
 |y::l=>by
  rw[List.cons_append,tr,y9 h l]
  cases l<;>rfl
theorem gx {n k:Nat} (h:n<4294967296^k):(lb n).length≤k:=by
 induction k generalizing n with
 |zero=>have:n=0:=by simpa using h
        subst this;simp[fv]
 |succ k ih=>
  rcases Nat.eq_zero_or_pos n with rfl|h0
  ·simp[fv]
  ·rw[mr h0,List.length_cons]
   have:n/4294967296<4294967296^k:=by
    rw[Nat.div_lt_iff_lt_mul (by omega),←Nat.pow_succ];exact h
   have:=ih this
   omega
theorem za {n:Nat} (h:0<n):4294967296^((lb n).length-1)≤n:=by
 induction n using Nat.strongRecOn with
 |ind n ih=>
  rw[mr h,List.length_cons,Nat.add_sub_cancel]
  rcases Nat.eq_zero_or_pos (n/4294967296) with h0|h0
  ·rw[h0,fv];exact h
  ·have h1:=ih (n/4294967296) (by omega) h0
   have h2:0<(lb (n/4294967296)).length:=by rw[mr h0];simp
   obtain⟨k,hk⟩:∃k,(lb (n/4294967296)).length=k+1:=⟨_,(Nat.sub_add_cancel h2).symm⟩
   rw[hk,Nat.add_sub_cancel] at h1
   rw[hk,Nat.pow_succ]
   omega
theorem gQ {n:Nat}:(lb n).length=0↔n=0:=by
 constructor
 ·intro h
  rcases Nat.eq_zero_or_pos n with h0|h0
  ·exact h0
  ·rw[mr h0] at h;simp at h
 ·rintro rfl;rfl
theorem B1 {n m:Nat} (h:lb n=lb m):n=m:=by rw[←bH n,←bH m,h]
theorem tT {n m:Nat} (h:(lb n).length<(lb m).length):n<m:=by
 have h1:=cd (lb n)
 rw[bH] at h1
 have hm:0<m:=by
  rcases Nat.eq_zero_or_pos m with rfl|h0
  ·simp[fv] at h
  ·exact h0
 have h2:=za hm
 exact Nat.lt_of_lt_of_le h1 (Nat.le_trans (Nat.pow_le_pow_right (by omega) (by omega)) h2)
theorem tW {n i:Nat} (h:i+1=(lb n).length):0<((lb n)[i]'(by omega)).toNat:=by
 have hn:0<n:=by
  rcases Nat.eq_zero_or_pos n with h0|h0
  ·subst h0;simp[fv] at h
  ·exact h0
 have h1:=za hn
 have h2:val (lb n)=val ((lb n).take i)+4294967296^i*((lb n)[i]'(by omega)).toNat:=by
  rw[←bE (by omega),h,List.take_length]
 rw[bH] at h2
 have h3:=cd ((lb n).take i)
 rw[List.length_take,Nat.min_eq_left (by omega)] at h3
 rw[←h,Nat.add_sub_cancel] at h1
 rcases Nat.eq_zero_or_pos ((lb n)[i]'(by omega)).toNat with h0|h0
 ·rw[h0] at h2;omega
 ·exact h0
def nZ (x y:Nat):Int:=if x<y then-1 else if y<x then 1 else 0
theorem zb {l m:List UInt32} {i:Nat} (hl:i<l.length) (hm:i<m.length) (hd:l.drop (i+1)=m.drop (i+1)) (h:l[i].toNat<m[i].toNat):val l<val m:=by
 rw[dH l (i+1) (by omega),dH m (i+1) (by omega),hd,bE hl,bE hm]
 have h1:=cd (l.take i)
 rw[List.length_take,Nat.min_eq_left (by omega)] at h1
 have h2:4294967296^i*(l[i].toNat+1)≤4294967296^i*m[i].toNat:=Nat.mul_le_mul_left _ h
 rw[Nat.mul_add,Nat.mul_one] at h2
 omega
theorem G3 (i:Nat):0<4294967296^i:=Nat.pow_pos (by omega)
end Go.Rl
namespace Go.Rl
open Go.RowKit Go.Proofs
section
variable {w:World} {t:TypeId}
theorem B7 (ht:Tryz.prog.underlying t=some (.slice 149)) {l:List UInt32} {v:Value} (h:bu l v w) {lo:Nat} (h2:lo≤l.length) (kl:IntKind):
 ∃r,(∀w':World,(Instr.sliceAt t v (some (.int kl lo)) none none).run Tryz.prog w'=.ok r w')∧bu (l.drop lo) r w:=by
 obtain⟨r,h3,h4⟩:=pZ (P:=Tryz.prog) ht dx h (lo:=lo) (by simpa using h2) (by omega) kl
 exact⟨r,h3,by simpa [bu,List.map_drop] using h4⟩
theorem qm (ht:Tryz.prog.underlying t=some (.slice 149)) {l:List UInt32} {v:Value} (h:bu l v w) {hi:Nat} (h2:hi≤l.length) (kh:IntKind):
 ∃r,(∀w':World,(Instr.sliceAt t v none (some (.int kh hi)) none).run Tryz.prog w'=.ok r w')∧bu (l.take hi) r w:=by
 obtain⟨r,h3,h4⟩:=p9 (P:=Tryz.prog) ht dx h (hi:=hi) (by simpa using h2) (by omega) kh
 exact⟨r,h3,by simpa [bu,List.map_take] using h4⟩
theorem sw (ht:Tryz.prog.underlying t=some (.slice 149)) (base:Nat) {n:Nat} (hn:n≤70368744177664) (hb:base≤w.heap.size):
 ∃r w',(Instr.makeSlice t (I (n:Int)) (I (n:Int))).run Tryz.prog w=.ok r w'∧aE w w'∧dw base (List.replicate n 0) r w'∧r.ownBlock=some w.heap.size:=by
 obtain⟨i,hi,hz,hs,hby⟩:=info_parts qi
 have hrun:=run_make (P:=Tryz.prog) w t 149 i _ ht hi hz .i64 .i64 (n:Int) (n:Int) (by omega) (by omega) (by rw[hby];omega) (by omega)
 refine⟨_,_,hrun,aE.new _ _,⟨n,?_⟩,rfl⟩
 have:=World.ownsRow_lit (base:=base) (e:=149) (size:=1) w (madeCells (Value.int .u32 0).cells ((n:Int).toNat*i.size)) n hb (by unfold maxLen;omega) (by rw[hs];simp[madeCells])
 have e:(madeCells (Value.int .u32 0).cells ((n:Int).toNat*i.size)).toList=(List.replicate n (0:UInt32)).map bg:=by
  rw[hs]
  have h2:=toList_madeCells_one (.int .u32 0) n
  simp only[Value.cells,Int.toNat_natCast,Nat.mul_one,List.map_replicate] at h2⊢
  rw[h2];rfl
 rw[e] at this
 simpa using this
theorem dw.setW (ht:Tryz.prog.underlying t=some (.slice 149)) {base:Nat} {l:List UInt32} {v:Value} (h:dw base l v w) {i:Nat} (hi:i<l.length) (x:UInt32):
 ∃g w',(∀u:World,(Instr.indexAt t v (I (i:Int))).run Tryz.prog u=.ok (.pointer (some ⟨g,i,none⟩)) u)∧(Instr.storeAt 149 (.pointer (some ⟨g,i,none⟩)) (bg x)).run Tryz.prog w=.ok () w'∧
  dw base (l.set i x) v w'∧w.grownBy w' (some g)∧base≤g∧w.cell? ⟨g,i,none⟩=some (bg l[i])∧v.ownBlock=some g:=by
 obtain⟨n,hn⟩:=id h
 have hnl:l.length=n:=by simpa using hn.1
 obtain⟨ad,hix,hcell⟩:=cr ht h.wds hi .i64
 rcases hn.2 with⟨_,h0⟩|⟨g,cap,cur,rfl,hb,hg,hnc,hcm,hcs,htk⟩
 ·omega
 ·have hlt:i<cur.size:=by omega
  have had:ad=⟨g,i,none⟩:=by
   have h1:=hix w
   obtain⟨ti,hi',hs⟩:=Option.map_eq_some_iff.1 dx
   have hin:i<n:=by omega
   have h2:(Instr.indexAt t (.slice (some ⟨g,0,none⟩) n cap) (.int .i64 i)).run Tryz.prog w=.ok (.pointer (some ⟨g,i,none⟩)) w:=by
    simp[Instr.indexAt,asIntOf,run_underlying ht,hin,sizeOf,typeInfo,hi',hs,nQ]
   rw[h2] at h1
   simp at h1
   exact h1.symm
  subst had
  refine⟨g,w.setCell ⟨g,i,none⟩ (bg x),hix,dv dx Ig hg hlt,⟨n,?_,.inr ⟨g,cap,cur.setIfInBounds i (bg x),rfl,hb,iY hg i (bg x),hnc,hcm,by simpa using hcs,?_⟩⟩,aS w g i _,hb,hcell,rfl⟩
  ·simpa using hnl
  ·rw[List.map_set,←htk,Array.toList_setIfInBounds,List.take_set]
theorem dw.kept {base:Nat} {l:List UInt32} {v:Value} {w':World} (h:dw base l v w) {row:Option Nat} (hg:w.grownBy w' row) (hne:v.ownBlock=none∨v.ownBlock≠row):dw base l v w':=
 h.elim fun n h=>⟨n,World.ownsRow.kept h hg hne⟩
theorem dw.ge {base:Nat} {l:List UInt32} {v:Value} (h:dw base l v w):∀k,v.ownBlock=some k→base≤k:=fun k hk=>h.elim fun _ h=>(World.ownsRow.lt h k hk).1
theorem dw.lt {base:Nat} {l:List UInt32} {v:Value} (h:dw base l v w):∀k,v.ownBlock=some k→k<w.heap.size:=fun k hk=>h.elim fun _ h=>(World.ownsRow.lt h k hk).2
theorem z9 {P:Program} {w:World} {t t2 e e2 ty:TypeId} (ht:P.underlying t=some (.slice e)) (ht2:P.underlying t2=some (.slice e2)) (a b:Value):(Builtin.append_ #[t,t2] ty #[a,b]).run P w=(Builtin.append_ #[t,t] ty #[a,b]).run P w:=by
 unfold Builtin.append_
 cases a<;>simp[Sem.run_bind,run_underlying ht,run_underlying ht2]
theorem zc {base:Nat} {t2:TypeId} (ht:Tryz.prog.underlying t=some (.slice 149)) (ht2:Tryz.prog.underlying t2=some (.slice 149)) {l m:List UInt32} {v x:Value} {ty:TypeId} (hv:dw base l v w) (hx:bu m x w) (hb:l.length+m.length≤35184372088832) (hbase:base≤w.heap.size):
 ∃r w',(Builtin.append_ #[t,t2] ty #[v,x]).run Tryz.prog w=.ok r w'∧dw base (l++m) r w'∧fh w w' v r:=by
 obtain⟨r,w',h1,h2⟩:=ju (ty:=ty) ht hv hx hb hbase
 exact⟨r,w',(z9 ht ht2 v x).trans h1,h2⟩
theorem Es {P:Program} {t ty:TypeId} {a b:Nat}:(Builtin.max_ #[t,t] ty #[I (a:Int),I (b:Int)]).run P w=.ok (I ((max a b:Nat):Int)) w:=by
 have:(Builtin.max_ #[t,t] ty #[I (a:Int),I (b:Int)])=pure (.int .i64 (if (b:Int)>(a:Int) then(b:Int) else(a:Int))):=rfl
 rw[this,Sem.run_pure]
 congr 2
 split<;>omega
structure PW (g:Nat) (pre:List Value) (L:List UInt32) (post:List Value) (v:Value) (w:World):Prop where
 isv:∃c,v=.slice (some ⟨g,pre.length,none⟩) L.length c∧L.length≤c∧c≤maxLen
 row:w.heap[g]? =some (.cells (pre++(L.map bg++post)).toArray 149 (0,0))
theorem PW.cell {g:Nat} {pre:List Value} {L:List UInt32} {post:List Value} {v:Value} (h:PW g pre L post v w) {i:Nat} (hi:i<L.length):w.cell? ⟨g,pre.length+i,none⟩=some (bg L[i]):=by
 rw[cell_of_row w g _ _ _ _ h.row,List.getElem?_toArray,List.getElem?_append_right (by omega),Nat.add_sub_cancel_left,List.getElem?_append_left (by simpa using hi),List.getElem?_map,List.getElem?_eq_getElem hi]
 rfl
theorem PW.wds {g:Nat} {pre:List Value} {L:List UInt32} {post:List Value} {v:Value} (h:PW g pre L post v w):bu L v w:=by
 obtain⟨c,rfl,h1,h2⟩:=h.isv
 refine⟨_,_,_,rfl,h1,h2,by simp,fun _=>⟨_,rfl,fun j u hu=>?_⟩,fun h=>by cases h⟩
 rw[List.getElem?_map,Option.map_eq_some_iff] at hu
 obtain⟨x,hx,rfl⟩:=hu
 obtain⟨hj,rfl⟩:=List.getElem?_eq_some_iff.1 hx
 rw[nQ]
 exact h.cell hj
theorem PW.setP (ht:Tryz.prog.underlying t=some (.slice 149)) {g:Nat} {pre:List Value} {L:List UInt32} {post:List Value} {v:Value} (h:PW g pre L post v w) {i:Nat} (hi:i<L.length) (x:UInt32):
 ∃w',(∀u:World,(Instr.indexAt t v (I (i:Int))).run Tryz.prog u=.ok (.pointer (some ⟨g,pre.length+i,none⟩)) u)∧(Instr.storeAt 149 (.pointer (some ⟨g,pre.length+i,none⟩)) (bg x)).run Tryz.prog w=.ok () w'∧
  PW g pre (L.set i x) post v w'∧w.grownBy w' (some g)∧w.cell? ⟨g,pre.length+i,none⟩=some (bg L[i]):=by
 obtain⟨c,rfl,h1,h2⟩:=h.isv
 obtain⟨ti,hti,hs⟩:=Option.map_eq_some_iff.1 dx
 refine⟨w.setCell ⟨g,pre.length+i,none⟩ (bg x),fun u=>?_,dv dx Ig h.row (by simp;omega),⟨⟨c,by simp,by simpa using h1,h2⟩,?_⟩,aS w g _ _,h.cell hi⟩
 ·show(Instr.indexAt t (.slice (some ⟨g,pre.length,none⟩) L.length c) (.int .i64 (i:Int))).run Tryz.prog u=_
  simp[Instr.indexAt,asIntOf,run_underlying ht,hi,sizeOf,typeInfo,hti,hs,nQ]
 ·have:=iY h.row (pre.length+i) (bg x)
  rw[this,List.setIfInBounds_toArray,List.set_append_right _ _ (by omega),Nat.add_sub_cancel_left,List.set_append_left _ _ (by simpa using hi),List.map_set]
theorem bu.away {l:List UInt32} {v:Value} {g:Nat} {w':World} (h:bu l v w) (ha:v.ownBlock=none∨v.ownBlock≠some g) (hg:w.grownBy w' (some g)):bu l v w':=by
 obtain⟨A,n,c,rfl,h1,h2,h3,h4,h5⟩:=h
 refine⟨A,n,c,rfl,h1,h2,h3,fun hn=>?_,h5⟩
 obtain⟨ad,rfl,hc⟩:=h4 hn
 refine⟨ad,rfl,fun j u hu=>?_⟩
 have hcell:=hc j u hu
 have hb:ad.block≠g:=by
  rcases ha with ha|ha
  ·simp[Value.ownBlock] at ha
  ·intro e;exact ha (by simp[Value.ownBlock,e])
 have hlt:=World.block_lt_of_cell? w (ad.add j) hcell
 refine(World.cell?_of_block (hg.block _ hlt fun e=>hb ?_)).trans hcell
 rw[iL] at e
 exact Option.some.inj e
theorem sx (ht:Tryz.prog.underlying t=some (.slice 149)) {l:List UInt32} {v:Value} (h:bu l v w) {hi:Nat} (h2:hi≤l.length) (kh:IntKind):
 ∃r,(∀w':World,(Instr.sliceAt t v none (some (.int kh hi)) none).run Tryz.prog w'=.ok r w')∧bu (l.take hi) r w∧r.ownBlock=v.ownBlock:=by
 obtain⟨r,h3,h4⟩:=qm ht h h2 kh
 refine⟨r,h3,h4,?_⟩
 obtain⟨A,n,c,rfl,hnc,_,hl,_,_⟩:=h
 have h5:=h3 w
 obtain⟨ti,hti,hs⟩:=Option.map_eq_some_iff.1 dx
 have hhi:hi≤n:=by simp at hl;omega
 have hb:(Instr.sliceBounds true n c none (some (.int kh hi)) none).run Tryz.prog w=.ok (0,hi,c) w:=by
  have a1:=run_sliceBound (P:=Tryz.prog) (w:=w) kh (hi:Int) c .sliceAcap (by omega) (by omega)
  simp only[Int.toNat_natCast] at a1
  simp[Instr.sliceBounds,a1]
 simp[Instr.sliceAt,Instr.slice,run_underlying ht,hb,sizeOf,typeInfo,hti,hs] at h5
 subst h5
 cases A with
 |none=>split<;>rfl
 |some a=>split<;>simp[Value.ownBlock,iL]
theorem dw.off {base:Nat} {l:List UInt32} {v:Value} (h:dw base l v w) {g:Nat} (hg:g<base):v.ownBlock≠some g:=fun he=>by
 have:=h.ge g he
 omega
theorem dw.low {base base':Nat} {l:List UInt32} {v:Value} (h:dw base l v w) (hb:base'≤base):dw base' l v w:=h.elim fun n h=>⟨n,ft h fun k hk=>Nat.le_trans hb (World.ownsRow.lt h k hk).1⟩
theorem dw.pw {base:Nat} {L:List UInt32} {v:Value} (h:dw base L v w) (h0:0<L.length):∃g sp,base≤g∧v.ownBlock=some g∧PW g [] L sp v w:=by
 obtain⟨n,h⟩:=h
 have hnl:L.length=n:=by simpa using h.1
 rcases h.2 with⟨_,h1⟩|⟨g,cap,cur,rfl,hb,hg,hnc,hcm,hcs,htk⟩
 ·omega
 ·refine⟨g,cur.toList.drop (n*1),hb,rfl,⟨cap,by rw[hnl];rfl,by omega,hcm⟩,?_⟩
  rw[List.nil_append,←htk,List.take_append_drop]
  exact hg
theorem PW.ext {g:Nat} {pre:List Value} {L:List UInt32} {post:List Value} {v:Value} {w':World} (h:PW g pre L post v w) (hx:aE w w'):PW g pre L post v w':=⟨h.isv,hx.heap_some h.row⟩
theorem PW.lt {g:Nat} {pre:List Value} {L:List UInt32} {post:List Value} {v:Value} (h:PW g pre L post v w):g<w.heap.size:=(Array.getElem?_eq_some_iff.1 h.row).1
theorem PW.kept {g:Nat} {pre:List Value} {L:List UInt32} {post:List Value} {v:Value} {w':World} (h:PW g pre L post v w) {row:Option Nat} (hg:w.grownBy w' row) (hne:some g≠row):PW g pre L post v w':=⟨h.isv,(hg.block g h.lt hne).trans h.row⟩
theorem F5 (ht:Tryz.prog.underlying t=some (.slice 149)) {g:Nat} {L:List UInt32} {sp:List Value} {v:Value} (h:PW g [] L sp v w) {lo hi:Nat} (h1:lo<hi) (h2:hi≤L.length) (kl kh:IntKind):
 ∃r,(∀w':World,(Instr.sliceAt t v (some (.int kl lo)) (some (.int kh hi)) none).run Tryz.prog w'=.ok r w')∧PW g ((L.take lo).map bg) ((L.take hi).drop lo) ((L.drop hi).map bg++sp) r w:=by
 obtain⟨c,rfl,h3,h4⟩:=h.isv
 obtain⟨i,hi',hs⟩:=Option.map_eq_some_iff.1 dx
 have hb:∀w:World,(Instr.sliceBounds true L.length c (some (.int kl lo)) (some (.int kh hi)) none).run Tryz.prog w=.ok (lo,hi,c) w:=fun w=>by
  have a1:=run_sliceBound (P:=Tryz.prog) (w:=w) kh (hi:Int) c .sliceAcap (by omega) (by omega)
  have a2:=run_sliceBound (P:=Tryz.prog) (w:=w) kl (lo:Int) hi .sliceB (by omega) (by omega)
  simp only[Int.toNat_natCast] at a1 a2
  simp[Instr.sliceBounds,a1,a2]
 have hne:¬c=lo:=by omega
 refine⟨.slice (some ⟨g,lo,none⟩) (hi-lo) (c-lo),fun w'=>?_,⟨c-lo,?_,?_,by omega⟩,?_⟩
 ·simp[Instr.sliceAt,Instr.slice,run_underlying ht,hb,sizeOf,typeInfo,hi',hs,hne,nQ]
 ·simp only[List.length_map,List.length_take,List.length_drop,Nat.min_eq_left h2,Nat.min_eq_left (show lo≤L.length by omega)]
 ·simp only[List.length_take,List.length_drop,Nat.min_eq_left h2];omega
 ·have e:L.take lo++(L.take hi).drop lo=L.take hi:=by
   have:=List.take_append_drop lo (L.take hi)
   rwa [List.take_take,Nat.min_eq_left (by omega)] at this
  have e2:([]:List Value)++(L.map bg++sp)=(L.take lo).map bg++(((L.take hi).drop lo).map bg++((L.drop hi).map bg++sp)):=by
   rw[List.nil_append,←List.append_assoc,←List.append_assoc,←List.map_append,←List.map_append,e,List.take_append_drop]
  rw[h.row,e2]
theorem PW.join {g:Nat} {L F:List UInt32} {sp:List Value} {v r:Value} {lo hi:Nat} {w0:World} (h:PW g [] L sp v w0) (h1:lo≤hi) (h2:hi≤L.length) (hF:F.length=hi-lo) (h3:PW g ((L.take lo).map bg) F ((L.drop hi).map bg++sp) r w):PW g [] (L.take lo++F++L.drop hi) sp v w:=by
 obtain⟨c,rfl,h4,h5⟩:=h.isv
 have e:(L.take lo++F++L.drop hi).length=L.length:=by simp[hF];omega
 refine⟨⟨c,by rw[e],by omega,h5⟩,?_⟩
 rw[h3.row]
 simp only[List.nil_append,List.map_append,List.append_assoc]
end
end Go.Rl
namespace Go.Rl
open Go.RowKit Go.Proofs
theorem de:aw Tryz.prog 164:=⟨_,Tryz.func164,by kernel_rfl,rfl⟩
theorem vi:aw Tryz.prog 196:=⟨_,Tryz.func196,by kernel_rfl,rfl⟩
theorem j6:aw Tryz.prog 179:=⟨_,Tryz.func179,by kernel_rfl,rfl⟩
theorem oP:aw Tryz.prog 136:=⟨_,Tryz.func136,by kernel_rfl,rfl⟩
theorem vj:aw Tryz.prog 198:=⟨_,Tryz.func198,by kernel_rfl,rfl⟩
theorem qn:aw Tryz.prog 197:=⟨_,Tryz.func197,by kernel_rfl,rfl⟩
theorem n0:aw Tryz.prog 138:=⟨_,Tryz.func138,by kernel_rfl,rfl⟩
theorem oa {l:List UInt32} {n:Nat} (h0:0<n) (hn:n≤l.length) (h:l[n-1]'(by omega)=0):val (l.take (n-1))=val (l.take n):=by
 obtain⟨m,rfl⟩:∃m,n=m+1:=⟨n-1,by omega⟩
 simp only[Nat.add_sub_cancel] at h⊢
 rw[bE (by omega),h];simp
theorem jK {l:List UInt32} {n:Nat} (h0:0<n) (hn:n≤l.length) (h:¬l[n-1]'(by omega)=0):lb (val (l.take n))=l.take n:=by
 obtain⟨m,rfl⟩:∃m,n=m+1:=⟨n-1,by omega⟩
 simp only[Nat.add_sub_cancel] at h
 rw[←Fs,List.take_succ_eq_append_getElem (by omega),y9 h]
theorem pD {l:List UInt32} (h0:0<l.length):l[l.length-1]'(by omega)≠0↔lb (val l)=l:=by
 constructor
 ·intro h
  have:=jK (n:=l.length) h0 (Nat.le_refl _) h
  rwa [List.take_length] at this
 ·intro h h1
  have h2:=oa (n:=l.length) h0 (Nat.le_refl _) h1
  rw[List.take_length] at h2
  have h3:(lb (val l)).length≤l.length-1:=by
   refine gx ?_
   rw[←h2]
   have:=cd (l.take (l.length-1))
   rwa [List.length_take,Nat.min_eq_left (by omega)] at this
  rw[h] at h3
  omega
theorem sy (x:UInt64):(x>>>UInt64.ofNat 32).toNat=x.toNat/4294967296:=by
 rw[UInt64.toNat_shiftRight]
 show x.toNat>>>32=_
 rw[Nat.shiftRight_eq_div_pow]
theorem qo {w:World} {l:List UInt32} {v:Value} (hv:bu l v w):
 Calls Tryz.prog 164 #[v] w (bL fun r w'=>w=w'∧bu (lb (val l)) r w∧(r.ownBlock=none∨r.ownBlock=v.ownBlock)):=by
 refine enter (vs:=[v]) Tryz.func164 Ig Ig Ig ?_
 have hl:=hv.len
 refine af (aa (ac Ig Ig (ag (ab (af (aa (ae Ig Ig (aO Ig Ig (bf Hz hv) (ac Ig Ig (ag (ab ?_)))))))))))
 refine af (au ?_)
 refine ci (α:=Nat) (fun n=>[(0,v),(3,I (n:Int))]) (fun n w'=>w=w'∧n≤l.length∧val (l.take n)=val l) (fun n=>n) (l.length) ⟨rfl,rfl,trivial⟩ ⟨rfl,Nat.le_refl _,by rw[List.take_length]⟩ ?_
 rintro n _ ⟨rfl,hn,hval⟩
 refine af (af (aa (ae Ig Ig (ai Ig Ig Ig (cB) (ae Ig Ig ?_)))))
 refine dM (fun h8=>?_) (fun h8=>?_)
 ·refine ao Ig (ae Ig Ig (ao Ig (ae Ig Ig (ao Ig (ai (r:=I ((n-1:Nat):Int)) Ig Ig Ig (by have e:((n-1:Nat):Int)=(n:Int)-1:=(by omega);rw[e];exact aV (by omega) (by omega)) ?_)))))
  refine ao Ig ?_
  obtain⟨a12,p12,q12⟩:=cr Hz hv (i:=(n-1:Nat)) (by omega) .i64
  refine aq Ig Ig Ig (p12 _) (ao Ig (am Ig Ig (aj HB Ig q12) (ao Ig (ai (v:=bg 0) Ig Ig Ig (nS) (aG Ig Ig Ig ?_)))))
  refine ag (ab ?_)
  refine bi Ig (fun h15=>?_) (fun h15=>?_)
  ·refine ax (ab (au (aa (ae Ig Ig (ai (r:=I ((n-1:Nat):Int)) Ig Ig Ig (by have e:((n-1:Nat):Int)=(n:Int)-1:=(by omega);rw[e];exact aV (by omega) (by omega)) ?_)))))
   refine ac Ig Ig (ag (aM ?_))
   refine bP (n-1) ⟨rfl,rfl,trivial⟩ ⟨rfl,by omega,by rw[oa (by omega) hn h15];exact hval⟩ (by omega)
  ·refine ba (aC (aC (aY (ab (af (af (aa (ae Ig Ig (ai Ig Ig Ig (bJ) (ag (ab ?_)))))))))))
   refine bi Ig (fun h19=>?_) (fun h19=>?_)
   ·refine af (aa (ac Ig Ig (ag (ab (ay (aB (aD Ig Ig ?_)))))))
    exact⟨_,rfl,rfl,by
     obtain rfl:n=0:=by omega
     rw[←hval];exact bu.nil _,.inl rfl⟩
   ·refine ax (ab (af (aa (ae Ig Ig (ae Ig Ig ?_)))))
    obtain⟨v22,p22,b22,ob22⟩:=sx Hz hv (hi:=n) hn .i64
    refine db Ig Ig Ig Ig Ig (p22 _) (ac Ig Ig (ag (ab (ay (aD Ig Ig ?_)))))
    exact⟨_,rfl,rfl,by
     first
     |(exfalso;omega)
     |(rw[←hval,jK (by omega) hn h15];exact b22),.inr ob22⟩
 ·refine ap Ig Ig Ig (ap Ig Ig Ig (ap Ig Ig Ig (ap Ig Ig Ig (ap Ig Ig Ig (ap Ig Ig Ig (aJ Ig Ig Ig (ag (ab (eS Ig (ba (aC (aC ?_))))))))))))
  refine aY (ab (af (af (aa (ae Ig Ig (ai Ig Ig Ig (bJ) (ag (ab ?_))))))))
  refine bi Ig (fun h19=>?_) (fun h19=>?_)
  ·refine af (aa (ac Ig Ig (ag (ab (ay (aB (aD Ig Ig ?_)))))))
   exact⟨_,rfl,rfl,by
    obtain rfl:n=0:=by omega
    rw[←hval];exact bu.nil _,.inl rfl⟩
  ·refine ax (ab (af (aa (ae Ig Ig (ae Ig Ig ?_)))))
   obtain⟨v22,p22,b22,ob22⟩:=sx Hz hv (hi:=n) hn .i64
   refine db Ig Ig Ig Ig Ig (p22 _) (ac Ig Ig (ag (ab (ay (aD Ig Ig ?_)))))
   exact⟨_,rfl,rfl,by
    first
    |(exfalso;omega)
    |(rw[←hval,jK (by omega) hn h15];exact b22),.inr ob22⟩
theorem dn {w:World} {l:List UInt32} {v:Value} (hv:bu l v w):
 Calls Tryz.prog 164 #[v] w (bL fun r w'=>w=w'∧bu (lb (val l)) r w):=
 (qo hv).mono fun _ _ ⟨r,he,h1,h2,_⟩=>⟨r,he,h1,h2⟩
theorem vm {w:World} {l:List UInt32} {v:Value} (hv:bu l v w) (hl:l.length≤17592186044416):
 Calls Tryz.prog 196 #[v] w (bL fun r w'=>aE w w'∧dw w.heap.size l r w'):=by
 obtain⟨A,n,c,rfl,hnc,hcm,hll,hc,hnone⟩:=id hv
 refine enter (vs:=[.slice A n c]) Tryz.func196 Ig Ig Ig ?_
 refine af (aa (ac Ig Ig (ag (ab (af (af (aa (ae Ig Ig (ai Ig Ig Ig (y3 Hz) (ag (ab ?_)))))))))))
 refine iW Ig (fun h4=>?_) (fun h4=>?_)
 ·refine af (aa (ac Ig Ig (ag (ab (ay (aB (aD Ig Ig ?_)))))))
  have hA:A=none:=by simpa using h4
  have:=hnone hA
  have hnil:l=[]:=List.eq_nil_of_length_eq_zero (by simp at hll;omega)
  subst hnil
  exact⟨_,rfl,aE.refl _,dw.nil _ _⟩
 ·refine ax (ab (af (aa ?_)))
  obtain⟨v5,w5,hr5,x5,o5,ob5⟩:=iA Tryz.underlying44 (w:=w) w.heap.size [] (by simp) (Nat.le_refl _)
  refine aH (vs:=[]) Ig Ig hr5 (ae Ig Ig ?_)
  obtain⟨v7,w7,hr7,o7,g7⟩:=ju Tryz.underlying44 (ty:=44) o5 (hv.ext x5) (by simp;omega) (x5).size
  have x7:=aE.of_grew (x5) g7 o5.ge
  refine aZ Ig Ig hr7 (ac Ig Ig (ag (ab (ay (aD Ig Ig ?_)))))
  exact⟨_,rfl,x7,by simpa using o7⟩
theorem j7 {w:World} {l:List UInt32} {v:Value} (hv:bu l v w) (hl:l.length≤17592186044416):
 Calls Tryz.prog 179 #[v] w (bL fun r w'=>aE w w'∧bu (lb (val l)) r w'):=by
 refine enter (vs:=[v]) Tryz.func179 Ig Ig Ig ?_
 have hll:=gx (cd l)
 refine af (aa (ac Ig Ig (ag (ab (af (aa (ae Ig Ig (ak de Ig Ig (dn hv) ?_))))))))
 rintro v4 _ ⟨rfl,b4⟩
 refine ak vi Ig Ig (vm b4 (by omega)) ?_
 rintro v5 w5 ⟨x5,o5⟩
 refine ac Ig Ig (ag (ab (ay (aD Ig Ig ?_))))
 exact⟨_,rfl,x5,o5.wds⟩
theorem oQ {w:World} {l:List UInt32} {v:Value} (hv:bu l v w):
 Calls Tryz.prog 136 #[v] w (bL fun r w'=>w=w'∧r=B (decide (lb (val l)=l))):=by
 refine enter (vs:=[v]) Tryz.func136 Ig Ig Ig ?_
 have hl:=hv.len
 refine af (aa (ac Ig Ig (ag (ab (af (aa (ae Ig Ig (aO Ig Ig (bf Hz hv) (ai Ig Ig Ig (bJ) ?_)))))))))
 refine ae Ig Ig ?_
 refine dM (fun h6=>?_) (fun h6=>?_)
 ·refine ap Ig Ig Ig (ap Ig Ig Ig (ap Ig Ig Ig (ap Ig Ig Ig (ap Ig Ig Ig (ap Ig Ig Ig (ap Ig Ig Ig (aG Ig Ig Ig (ac Ig Ig (ag ?_)))))))))
  refine ab (ay (aD Ig Ig ?_))
  exact⟨_,rfl,rfl,by
   first
   |(have h0:l=[]:=List.eq_nil_of_length_eq_zero (by omega)
     subst h0;rfl)
   |exact congrArg B (decide_eq_decide.2 (pD (by omega)))⟩
 ·refine ao Ig (ae Ig Ig (ao Ig (ae Ig Ig (ao Ig (aO Ig Ig (bf Hz hv) (ao Ig (ai (r:=I ((l.length-1:Nat):Int)) Ig Ig Ig (by have e:((l.length-1:Nat):Int)=(l.length:Int)-1:=(by omega);rw[e];exact aV (by omega) (by omega)) ?_)))))))
  refine ao Ig ?_
  obtain⟨a11,p11,q11⟩:=cr Hz hv (i:=(l.length-1:Nat)) (by omega) .i64
  refine aq Ig Ig Ig (p11 _) (ao Ig (am Ig Ig (aj HB Ig q11) (ao Ig (ai (v:=bg 0) Ig Ig Ig (lI) (aJ Ig Ig Ig ?_)))))
  refine ac Ig Ig (ag (ab (ay (aD Ig Ig ?_))))
  exact⟨_,rfl,rfl,by
   first
   |(have h0:l=[]:=List.eq_nil_of_length_eq_zero (by omega)
     subst h0;rfl)
   |exact congrArg B (decide_eq_decide.2 (pD (by omega)))⟩
theorem vn {w:World} {x:UInt64}:
 Calls Tryz.prog 198 #[bo x] w (bL fun r w'=>aE w w'∧bu (lb x.toNat) r w'):=by
 refine enter (vs:=[bo x]) Tryz.func198 Ig Ig Ig ?_
 refine af (aa (ac Ig Ig (ag (ab (af (aa (ae Ig Ig (aN Ig Ig (bV HD HB) (ae Ig Ig ?_)))))))))
 refine ai Ig Ig Ig (cK 32 (by omega)) (aN Ig Ig (bV HD HB) ?_)
 obtain⟨v8,w8,hr8,x8,o8,ob8⟩:=iA Tryz.underlying44 (w:=w) w.heap.size [x.toUInt32,(x>>>UInt64.ofNat 32).toUInt32] (by simp) (Nat.le_refl _)
 refine aH (vs:=[(0,bg (x.toUInt32)),(1,bg ((x>>>UInt64.ofNat 32).toUInt32))]) Ig Ig hr8 (ak de Ig Ig (dn o8.wds) ?_)
 rintro v9 _ ⟨rfl,b9⟩
 refine ac Ig Ig (ag (ab (ay (aD Ig Ig ?_))))
 exact⟨_,rfl,x8,by
  have e:val [x.toUInt32,(x>>>UInt64.ofNat 32).toUInt32]=x.toNat:=by
   have h1:(x.toUInt32).toNat=x.toNat%4294967296:=UInt64.toNat_toUInt32 x
   have h2:((x>>>UInt64.ofNat 32).toUInt32).toNat=x.toNat/4294967296:=by
    have:=x.toNat_lt
    rw[UInt64.toNat_toUInt32,sy]
    omega
   simp only[val,h1,h2];omega
  rw[e] at b9;exact b9⟩
end Go.Rl
namespace Go.Rl
theorem xI (x:UInt64):x.toNat<18446744073709551616:=x.toNat_lt
theorem vq (x:UInt64) {s:Nat} (hs:s<64):(x<<<UInt64.ofNat s).toNat=x.toNat*2^s%18446744073709551616:=by
 rw[UInt64.toNat_shiftLeft,UInt64.toNat_ofNat',Nat.mod_eq_of_lt (Nat.lt_trans hs (by decide)),Nat.mod_eq_of_lt hs,Nat.shiftLeft_eq]
theorem oR (x:UInt64) {s:Nat} (hs:s<64):(x>>>UInt64.ofNat s).toNat=x.toNat/2^s:=by
 rw[UInt64.toNat_shiftRight,UInt64.toNat_ofNat',Nat.mod_eq_of_lt (Nat.lt_trans hs (by decide)),Nat.mod_eq_of_lt hs,Nat.shiftRight_eq_div_pow]
theorem Et (x:UInt32) {s:Nat} (hs:s<32):(x<<<UInt32.ofNat s).toNat=x.toNat*2^s%4294967296:=by
 rw[UInt32.toNat_shiftLeft,UInt32.toNat_ofNat',Nat.mod_eq_of_lt (Nat.lt_trans hs (by decide)),Nat.mod_eq_of_lt hs,Nat.shiftLeft_eq]
theorem nh (x:UInt32) {s:Nat} (hs:s<32):(x>>>UInt32.ofNat s).toNat=x.toNat/2^s:=by
 rw[UInt32.toNat_shiftRight,UInt32.toNat_ofNat',Nat.mod_eq_of_lt (Nat.lt_trans hs (by decide)),Nat.mod_eq_of_lt hs,Nat.shiftRight_eq_div_pow]
theorem eX (x:UInt32):x.toUInt64.toNat=x.toNat:=UInt32.toNat_toUInt64 x
theorem jL (x:UInt64):x.toUInt32.toNat=x.toNat%4294967296:=UInt64.toNat_toUInt32 x
theorem mc (x y:UInt64):(x+y).toNat=(x.toNat+y.toNat)%18446744073709551616:=UInt64.toNat_add x y
theorem sF (x y:UInt64):(x*y).toNat=x.toNat*y.toNat%18446744073709551616:=UInt64.toNat_mul x y
theorem ni (x y:UInt64):(x-y).toNat=(18446744073709551616-y.toNat+x.toNat)%18446744073709551616:=UInt64.toNat_sub x y
theorem GK (a b i:Nat) (h:a<2^i):a|||2^i*b=a+2^i*b:=by
 rw[Nat.or_comm,←Nat.two_pow_add_eq_or_of_lt h,Nat.add_comm]
theorem Eu (x y:UInt64):(x|||y).toNat=x.toNat|||y.toNat:=UInt64.toNat_or x y
theorem Ca (x y:UInt32):(x|||y).toNat=x.toNat|||y.toNat:=UInt32.toNat_or x y
theorem qp (r:UInt64) (d:UInt32) (hr:r.toNat<4294967296):(r<<<UInt64.ofNat 32|||d.toUInt64).toNat=r.toNat*4294967296+d.toNat:=by
 have hd:=cq d
 rw[Eu,vq r (by omega),eX,Nat.mod_eq_of_lt (by omega),Nat.or_comm]
 have:=GK d.toNat r.toNat 32 hd
 simp only[Nat.reducePow] at this⊢
 rw[Nat.mul_comm r.toNat,this];omega
theorem eN {l:List UInt32} {i:Nat} (h:i<l.length) (x:UInt32):val ((l.set i x).take (i+1))=val (l.take i)+4294967296^i*x.toNat:=by
 rw[bE (by simpa using h),List.take_set_of_le (Nat.le_refl _)]
 simp
theorem nj {l:List UInt32} {i:Nat} (h:i<l.length) (x:UInt32):val ((l.set i x).drop i)=x.toNat+4294967296*val (l.drop (i+1)):=by
 rw[d6 (by simpa using h),List.drop_set_of_lt (by omega)]
 simp
theorem Aa {l L:List UInt32} {i k:Nat} {d:UInt32} (hk:k<32) (hi:i<l.length) (hd:d=l[i]) (hL:L.length=l.length+1) (hv:val (L.take (i+1))=val (l.take i)*2^k) (hc:(L[i]'(by omega)).toNat<2^k):
 val (((L.set i (L[i]'(by omega)|||(d.toUInt64<<<UInt64.ofNat k).toUInt32)).set (i+1) ((d.toUInt64<<<UInt64.ofNat k)>>>UInt64.ofNat 32).toUInt32).take (i+1+1))=val (l.take (i+1))*2^k∧
  ((d.toUInt64<<<UInt64.ofNat k)>>>UInt64.ofNat 32).toUInt32.toNat<2^k:=by
 have hdl:=cq d
 have hp:2^k*2^(32-k)=4294967296:=by rw[←Nat.pow_add,show k+(32-k)=32 by omega]
 have hpos:0<2^k:=Nat.pow_pos (by omega)
 have hx:(d.toUInt64<<<UInt64.ofNat k).toNat=d.toNat*2^k:=by
  rw[vq _ (by omega),eX,Nat.mod_eq_of_lt]
  have h1:d.toNat*2^k≤4294967296*2^k:=Nat.mul_le_mul_right _ (by omega)
  have h2:2^k≤2^31:=Nat.pow_le_pow_right (by omega) (by omega)
  omega
 have hlo:(d.toUInt64<<<UInt64.ofNat k).toUInt32.toNat=2^k*(d.toNat%2^(32-k)):=by
  rw[jL,hx,←hp,Nat.mul_comm d.toNat,Nat.mul_mod_mul_left]
 have hhi:((d.toUInt64<<<UInt64.ofNat k)>>>UInt64.ofNat 32).toUInt32.toNat=d.toNat*2^k/4294967296:=by
  rw[jL,oR _ (by omega),hx,Nat.mod_eq_of_lt]
  have h1:d.toNat*2^k<4294967296*2^k:=Nat.mul_lt_mul_of_pos_right hdl hpos
  have h2:2^k≤2^31:=Nat.pow_le_pow_right (by omega) (by omega)
  simp only[Nat.reducePow] at h2⊢
  omega
 have hor:(L[i]'(by omega)|||(d.toUInt64<<<UInt64.ofNat k).toUInt32).toNat=(L[i]'(by omega)).toNat+2^k*(d.toNat%2^(32-k)):=by
  rw[Ca,hlo,GK _ _ _ hc]
 have hdm:2^k*(d.toNat%2^(32-k))+4294967296*(d.toNat*2^k/4294967296)=d.toNat*2^k:=by
  have h1:=Nat.mod_add_div (d.toNat*2^k) 4294967296
  rw[jL,hx] at hlo
  omega
 refine⟨?_,?_⟩
 ·generalize d.toNat*2^k/4294967296=q at hhi hdm
  rw[eN (by simp;omega),hhi,eN (by omega),hor,bE hi,←hd]
  rw[bE (by omega)] at hv
  rw[Nat.add_mul,←hv,Nat.mul_assoc,←hdm,Nat.pow_succ]
  rw[Nat.mul_add (4294967296^i),Nat.mul_add (4294967296^i),Nat.mul_assoc (4294967296^i),Nat.add_assoc,Nat.add_assoc,Nat.add_assoc]
 ·rw[hhi,Nat.div_lt_iff_lt_mul (by omega),Nat.mul_comm]
  exact Nat.mul_lt_mul_of_pos_left hdl hpos
theorem xJ {l L:List UInt32} {j:Nat} {d:UInt32} {r:UInt64} (hd:0<d.toNat) (hj:j<l.length) (hL:L.length=l.length) (hv:val (L.drop (j+1))*d.toNat+r.toNat=val (l.drop (j+1))) (hr:r.toNat<d.toNat):
 val ((L.set j ((r<<<UInt64.ofNat 32|||l[j].toUInt64)/d.toUInt64).toUInt32).drop j)*d.toNat+((r<<<UInt64.ofNat 32|||l[j].toUInt64)%d.toUInt64).toNat=val (l.drop j)∧
  ((r<<<UInt64.ofNat 32|||l[j].toUInt64)%d.toUInt64).toNat<d.toNat:=by
 have hdl:=cq d
 have hx:=qp r l[j] (by omega)
 have hq:((r<<<UInt64.ofNat 32|||l[j].toUInt64)/d.toUInt64).toNat=(r.toNat*4294967296+l[j].toNat)/d.toNat:=by rw[UInt64.toNat_div,hx,eX]
 have hm:((r<<<UInt64.ofNat 32|||l[j].toUInt64)%d.toUInt64).toNat=(r.toNat*4294967296+l[j].toNat)%d.toNat:=by rw[UInt64.toNat_mod,hx,eX]
 have hlt:(r.toNat*4294967296+l[j].toNat)/d.toNat<4294967296:=by
  rw[Nat.div_lt_iff_lt_mul hd]
  have:=cq l[j]
  have h2:(r.toNat+1)*4294967296≤d.toNat*4294967296:=Nat.mul_le_mul_right _ hr
  omega
 refine⟨?_,by rw[hm];exact Nat.mod_lt _ hd⟩
 rw[nj (by omega),jL,hq,hm,Nat.mod_eq_of_lt hlt,d6 hj,←hv]
 have:=Nat.div_add_mod (r.toNat*4294967296+l[j].toNat) d.toNat
 rw[Nat.add_mul,Nat.mul_assoc,Nat.mul_comm ((r.toNat*4294967296+l[j].toNat)/d.toNat)]
 omega
theorem Cb {x:UInt64} {d R s:Nat} (hs:s<32) (hx:x.toNat=d+4294967296*(R%4294967296)):
 ((x>>>UInt64.ofNat s).toUInt32).toNat+4294967296*(R/2^s)=(d+4294967296*R)/2^s∨4294967296≤d:=by
 by_cases hd:4294967296≤d
 ·exact .inr hd
 left
 have hp:2^s*2^(32-s)=4294967296:=by rw[←Nat.pow_add,show s+(32-s)=32 by omega]
 have hpos:0<2^s:=Nat.pow_pos (by omega)
 have e1:d+4294967296*R=x.toNat+2^s*(2^(32-s)*(4294967296*(R/4294967296))):=by
  rw[←Nat.mul_assoc,hp,hx];omega
 have e2:(d+4294967296*R)/2^s=x.toNat/2^s+4294967296*(2^(32-s)*(R/4294967296)):=by
  rw[e1,Nat.add_mul_div_left _ _ hpos,Nat.mul_left_comm]
 have e3:(d+4294967296*R)/2^s/4294967296=R/2^s:=by
  rw[Nat.div_div_eq_div_mul,Nat.mul_comm (2^s),←Nat.div_div_eq_div_mul]
  congr 1
  omega
 have e4:=Nat.mod_add_div ((d+4294967296*R)/2^s) 4294967296
 rw[e3] at e4
 rw[jL,oR _ (by omega)]
 rw[←e4]
 congr 1
 rw[e2,Nat.add_mul_mod_self_left]
theorem Ft {x:UInt64} {a:Nat} {e:UInt32} (hx:x.toNat=a) (ha:a<4294967296):(x|||e.toUInt64<<<UInt64.ofNat 32).toNat=a+4294967296*e.toNat:=by
 have he:=cq e
 rw[Eu,vq _ (by omega),eX,Nat.mod_eq_of_lt (by omega),hx]
 have:=GK a e.toNat 32 ha
 simp only[Nat.reducePow] at this⊢
 rw[Nat.mul_comm e.toNat,this]
def bl (n:Nat):Nat:=if n=0 then 0 else Nat.log2 n+1
theorem zd:bl 0=0:=rfl
theorem nk {n:Nat} (h:0<n):2^(bl n-1)≤n∧n<2^bl n:=by
 unfold bl
 rw[if_neg (by omega),Nat.add_sub_cancel]
 exact⟨Nat.log2_self_le (by omega),Nat.lt_log2_self⟩
theorem qq {n:Nat} (h:0<n):0<bl n:=by unfold bl;rw[if_neg (by omega)];omega
theorem Ab {n k:Nat} (h1:2^k≤n) (h2:n<2^(k+1)):bl n=k+1:=by
 have hn:0<n:=Nat.lt_of_lt_of_le (Nat.pow_pos (by omega)) h1
 obtain⟨h3,h4⟩:=nk hn
 have hp:=qq hn
 have a:k<bl n:=(Nat.pow_lt_pow_iff_right (a:=2) (by omega)).1 (Nat.lt_of_le_of_lt h1 h4)
 have b:bl n-1<k+1:=(Nat.pow_lt_pow_iff_right (a:=2) (by omega)).1 (Nat.lt_of_le_of_lt h3 h2)
 omega
theorem kZ {n s:Nat} (h:2^s≤n):bl n=s+bl (n/2^s):=by
 have hps:0<2^s:=Nat.pow_pos (by omega)
 have hq:0<n/2^s:=Nat.div_pos h hps
 obtain⟨h1,h2⟩:=nk hq
 have hp:=qq hq
 obtain⟨k,hk⟩:∃k,bl (n/2^s)=k+1:=⟨_,(Nat.sub_add_cancel hp).symm⟩
 rw[hk,Nat.add_sub_cancel] at h1
 rw[hk] at h2⊢
 refine(Ab (k:=s+k) ?_ ?_)
 ·rw[Nat.pow_add,Nat.mul_comm]
  exact Nat.le_trans (Nat.mul_le_mul_right _ h1) (Nat.div_mul_le_self _ _)
 ·rw[show s+k+1=s+(k+1) by omega,Nat.pow_add,Nat.mul_comm]
  exact(Nat.div_lt_iff_lt_mul hps).1 h2
theorem sG {n k:Nat} (h:n<2^k):bl n≤k:=by
 rcases Nat.eq_zero_or_pos n with rfl|h0
 ·simp[zd]
 ·have h1:=(nk h0).1
  have h2:=qq h0
  have:=(Nat.pow_lt_pow_iff_right (a:=2) (by omega)).1 (Nat.lt_of_le_of_lt h1 h)
  omega
theorem Fu {n i:Nat} (h:i+1=(lb n).length):bl n=32*i+bl ((lb n)[i]'(by omega)).toNat:=by
 have hl:=tW h
 have h2:n=val ((lb n).take i)+4294967296^i*((lb n)[i]'(by omega)).toNat:=by
  rw[←bE (by omega),h,List.take_length,bH]
 have h3:=cd ((lb n).take i)
 rw[List.length_take,Nat.min_eq_left (by omega)] at h3
 have hp:(4294967296:Nat)^i=2^(32*i):=by rw[Nat.pow_mul]
 rw[hp] at h2 h3
 have hge:2^(32*i)≤n:=by
  rw[h2]
  have:2^(32*i)*1≤2^(32*i)*((lb n)[i]'(by omega)).toNat:=Nat.mul_le_mul_left _ hl
  omega
 rw[kZ hge]
 congr 2
 have:n/2^(32*i)=(val ((lb n).take i)+2^(32*i)*((lb n)[i]'(by omega)).toNat)/2^(32*i):=by rw[←h2]
 rw[this,Nat.add_mul_div_left _ _ (Nat.pow_pos (by omega)),Nat.div_eq_of_lt h3,Nat.zero_add]
end Go.Rl
namespace Go.Rl
open Go.RowKit Go.Proofs
theorem qr:aw Tryz.prog 201:=⟨_,Tryz.func201,by kernel_rfl,rfl⟩
theorem vv:aw Tryz.prog 199:=⟨_,Tryz.func199,by kernel_rfl,rfl⟩
theorem Ac:aw Tryz.prog 204:=⟨_,Tryz.func204,by kernel_rfl,rfl⟩
theorem xK:aw Tryz.prog 183:=⟨_,Tryz.func183,by kernel_rfl,rfl⟩
theorem qt:aw Tryz.prog 205:=⟨_,Tryz.func205,by kernel_rfl,rfl⟩
theorem Ad:aw Tryz.prog 200:=⟨_,Tryz.func200,by kernel_rfl,rfl⟩
theorem Ae {t:List UInt32} {i:Nat} {x:UInt64} (h2:t.length≤2) (hi:i<t.length) (hx:x.toNat=val (t.take i)):(x|||t[i].toUInt64<<<UInt64.ofNat (32*i)).toNat=val (t.take (i+1)):=by
 have hl:=cd (t.take i)
 rw[List.length_take,Nat.min_eq_left (by omega)] at hl
 have hd:=cq t[i]
 rw[bE hi,←hx,Eu,vq _ (by omega),eX]
 have hp:(4294967296:Nat)^i=2^(32*i):=by rw[Nat.pow_mul]
 rw[hp,←hx] at hl
 have hb:2^(32*i)≤2^32:=Nat.pow_le_pow_right (by omega) (by omega)
 rw[Nat.mod_eq_of_lt,Nat.mul_comm,GK _ _ _ hl,hp]
 have:t[i].toNat*2^(32*i)≤4294967295*2^32:=Nat.mul_le_mul (by omega) hb
 omega
theorem tX {x y:Nat} (h:x<y):nZ x y= -1:=by unfold nZ;rw[if_pos h]
theorem tY {x y:Nat} (h:y<x):nZ x y=1:=by unfold nZ;rw[if_neg (by omega),if_pos h]
theorem ze {x:Nat}:nZ x x=0:=by unfold nZ;rw[if_neg (by omega),if_neg (by omega)]
theorem vw {a b:UInt32}:a<b↔a.toNat<b.toNat:=UInt32.lt_iff_toNat_lt
theorem sH {x y j:Nat} (h1:j<(lb x).length) (h2:j<(lb y).length) (hd:(lb x).drop (j+1)=(lb y).drop (j+1)) (h:(lb x)[j]<(lb y)[j]):x<y:=by
 have:=zb h1 h2 hd (vw.1 h)
 rwa [bH,bH] at this
theorem qu {w:World} {l:List UInt32} {v:Value} (hv:bu l v w):
 Calls Tryz.prog 197 #[v] w (bL fun r w'=>w=w'∧((18446744073709551616≤val l∧r=.tuple #[bo 0,B false])∨∃x:UInt64,x.toNat=val l∧r=.tuple #[bo x,B true])):=by
 refine enter (vs:=[v]) Tryz.func197 Ig Ig Ig ?_
 refine af (aa (ac Ig Ig (ac Ig Ig (ag (ab (af (aa (ae Ig Ig (ak de Ig Ig (dn hv) ?_)))))))))
 rintro v8 _ ⟨rfl,b8⟩
 refine ac Ig Ig (ag (ab (af (af (aa (ae Ig Ig (aO Ig Ig (bf Hz b8) (ai Ig Ig Ig (cB) (ag ?_)))))))))
 refine ab ?_
 refine bi Ig (fun h11=>?_) (fun h11=>?_)
 ·refine af (aa (ac Ig Ig (ac Ig Ig (ag (ab (ay (aB (aW Ig Ig Ig ?_))))))))
  exact⟨_,rfl,rfl,.inl ⟨by
   rcases Nat.lt_or_ge (val l) 18446744073709551616 with h|h
   ·have:=gx (n:=val l) (k:=2) h
    omega
   ·exact h,rfl⟩⟩
 ·obtain⟨t,ht⟩:∃t,t=lb (val l):=⟨_,rfl⟩
  have hval:val t=val l:=by rw[ht,bH]
  rw[←ht] at b8 h11⊢
  have h2:t.length≤2:=by omega
  refine ax (ab (af (aa (ac Ig Ig (ag (ab (af (af (aa (ae Ig Ig (aO (r:=I (t.length:Int)) Ig Ig (bf Hz b8) ?_)))))))))))
  refine ae Ig Ig (ag (ab (au ?_)))
  refine d5 (fun(i:Nat) (x:UInt64)=>[(4,bo x),(12,v8),(13,I (t.length:Int)),(14,I (i:Int))]) (fun(i:Nat) (x:UInt64) w'=>w=w'∧i≤t.length∧x.toNat=val (t.take i)) (fun(i:Nat) (x:UInt64)=>t.length-i) (0) (0) ⟨rfl,rfl,rfl,rfl,trivial⟩ ⟨rfl,by simp,rfl⟩ ?_
  rintro i x _ ⟨rfl,hi,hx⟩
  refine af (aa (ai Ig Ig Ig (bb) (ag (ab (af ?_)))))
  refine bi Ig (fun h15=>?_) (fun h15=>?_)
  ·refine ax (ab (af (au (af (aa (ae Ig Ig ?_))))))
   obtain⟨a17,p17,q17⟩:=cr Hz b8 (i:=i) (by omega) .i64
   refine aq Ig Ig Ig (p17 _) (am Ig Ig (aj HB Ig q17) (ac Ig Ig (ac Ig Ig (ag (ab (aa (ae Ig Ig ?_)))))))
   refine ae Ig Ig (aN Ig Ig (bt HB HD) (ae Ig Ig (ai (r:=I ((32*i:Nat):Int)) Ig Ig Ig (by have e:((32*i:Nat):Int)=32*(i:Int):=(by omega);rw[e];exact en (by omega) (by omega)) ?_)))
   refine ai Ig Ig Ig (eY ((32*i:Nat)) (by omega)) (ai Ig Ig Ig (gY) (ac Ig Ig (ag (aM (ab (aa (ai (r:=I ((i+1:Nat):Int)) Ig Ig Ig (by have e:((i+1:Nat):Int)=(i:Int)+1:=(by omega);rw[e];exact aK (by omega) (by omega)) ?_)))))))
   refine ae Ig Ig (ag ?_)
   refine cL (i+1) (x|||t[i].toUInt64<<<UInt64.ofNat (32*i)) ⟨rfl,rfl,rfl,rfl,trivial⟩ ⟨rfl,by show i+1≤_;omega,Ae h2 (by omega) hx⟩ (by show t.length-(i+1)<t.length-i;omega)
  ·refine ba (aC (aC (aY (ab (af (aa (ae Ig Ig (ac Ig Ig (ac Ig Ig (ag (ab (ay (aW Ig Ig Ig ?_)))))))))))))
   exact⟨_,rfl,rfl,.inr ⟨x,by rw[hx,List.take_of_length_le (by omega),hval],rfl⟩⟩
theorem ob {w:World} {l m:List UInt32} {v u:Value} (hv:bu l v w) (hu:bu m u w):
 Calls Tryz.prog 138 #[v,u] w (bL fun r w'=>aE w w'∧r=I (nZ (val l) (val m))):=by
 refine enter (vs:=[v,u]) Tryz.func138 Ig Ig Ig ?_
 refine af (aa (ac Ig Ig (ag (ab (af (aa (ae Ig Ig (ak de Ig Ig (dn hv) ?_))))))))
 rintro v7 _ ⟨rfl,b7⟩
 refine ae Ig Ig (ak de Ig Ig (dn hu) ?_)
 rintro v9 _ ⟨rfl,b9⟩
 have hx:=b7.len
 have hy:=b9.len
 refine ac Ig Ig (ac Ig Ig (ag (ab (af (af (aa (ae Ig Ig (aO Ig Ig (bf Hz b7) (ae Ig Ig (aO Ig Ig (bf Hz b9) ?_))))))))))
 refine ai Ig Ig Ig (dA) (ag (ab ?_))
 refine bi Ig (fun h14=>?_) (fun h14=>?_)
 ·refine af (af (aa (ae Ig Ig (aO Ig Ig (bf Hz b7) (ae Ig Ig (aO Ig Ig (bf Hz b9) ?_))))))
  refine ai Ig Ig Ig (bb) (ag (ab ?_))
  refine bi Ig (fun h19=>?_) (fun h19=>?_)
  ·refine af (aa (ac Ig Ig (ag (ab (ay (aB (aB (aD Ig Ig ?_))))))))
   exact⟨_,rfl,aE.refl _,congrArg I (tX (tT (by omega))).symm⟩
  ·refine ax (ab (af (aa (ac Ig Ig (ag (ab (ay (aB (aD Ig Ig ?_)))))))))
   exact⟨_,rfl,aE.refl _,congrArg I (tY (tT (by omega))).symm⟩
 ·refine ax (ab (af (af (aa ?_))))
  have hlen:(lb (val l)).length=(lb (val m)).length:=by omega
  refine ae Ig Ig (aO Ig Ig (bf Hz b7) (ai Ig Ig Ig (aV (by omega) (by omega)) (ac Ig Ig (ag (ab ?_)))))
  refine au ?_
  refine ci (α:=Nat) (fun k=>[(0,v7),(1,v9),(5,I ((k:Int)-1))]) (fun k w'=>aE w w'∧k≤(lb (val l)).length∧(lb (val l)).drop k=(lb (val m)).drop k) (fun k=>k) ((lb (val l)).length) ⟨rfl,rfl,rfl,trivial⟩ ⟨aE.refl _,Nat.le_refl _,by rw[List.drop_of_length_le (Nat.le_refl _),List.drop_of_length_le (by omega)]⟩ ?_
  rintro k w7 ⟨x7,hk,hd⟩
  refine af (af (aa (ae Ig Ig (ai Ig Ig Ig (gP) (ag (ab ?_))))))
  refine bi Ig (fun h24=>?_) (fun h24=>?_)
  ·obtain⟨j,rfl⟩:∃j,k=j+1:=⟨k-1,by omega⟩
   have e:((j+1:Nat):Int)-1=(j:Int):=by omega
   rw[e]
   refine ax (ab (af (au (af (bk 8 [0,1,5,30,34] (by kernel_rfl) (by kernel_rfl) ?_)))))
   refine an Ig Ig (an Ig Ig ?_)
   obtain⟨a29,p29,q29⟩:=cr Hz (b7.ext x7) (i:=j) (by omega) .i64
   refine ar Ig Ig Ig (fun w _=>p29 w) (av Ig Ig (fun w hw=>aj HB Ig (hw.cell_some q29)) (an Ig Ig (an Ig Ig ?_)))
   obtain⟨a33,p33,q33⟩:=cr Hz (b9.ext x7) (i:=j) (by omega) .i64
   refine ar Ig Ig Ig (fun w _=>p33 w) (av Ig Ig (fun w hw=>aj HB Ig (hw.cell_some q33)) (bn ?_))
   intro wg9 xg9
   rintro _ hq0
   obtain rfl:=Eq.symm hq0
   rintro _ hq1
   obtain rfl:=Eq.symm hq1
   rintro _ rfl
   rintro _ rfl
   rintro _ rfl
   refine ai Ig Ig Ig (lI) (ag (ab ?_))
   refine bi Ig (fun h35=>?_) (fun h35=>?_)
   ·refine af (af (bk 8 [39,43] (by kernel_rfl) (by kernel_rfl) ?_))
    refine an Ig Ig (an Ig Ig ?_)
    obtain⟨a38,p38,q38⟩:=cr Hz (b7.ext (x7.trans xg9)) (i:=j) (by omega) .i64
    refine ar Ig Ig Ig (fun w _=>p38 w) (av Ig Ig (fun w hw=>aj HB Ig (hw.cell_some q38)) (an Ig Ig (an Ig Ig ?_)))
    obtain⟨a42,p42,q42⟩:=cr Hz (b9.ext (x7.trans xg9)) (i:=j) (by omega) .i64
    refine ar Ig Ig Ig (fun w _=>p42 w) (av Ig Ig (fun w hw=>aj HB Ig (hw.cell_some q42)) (bn ?_))
    intro wg10 xg10
    rintro _ rfl
    rintro _ rfl
    refine ai Ig Ig Ig (sm) (ag (ab ?_))
    refine bi Ig (fun h44=>?_) (fun h44=>?_)
    ·refine af (aa (ac Ig Ig (ag (ab (ay (aB (bh (aB (aB (bh (aB (aD Ig Ig ?_))))))))))))
     exact⟨_,rfl,((x7.trans xg9).trans xg10),congrArg I (tX (sH (by omega) (by omega) hd h44)).symm⟩
    ·refine ax (ab (af (aa (ac Ig Ig (ag (ab (ay (bh (aB (aB (bh (aB (aD Ig Ig ?_)))))))))))))
     exact⟨_,rfl,((x7.trans xg9).trans xg10),by
      refine congrArg I (tY (sH (by omega) (by omega) hd.symm ?_)).symm
      rw[vw] at h44⊢
      have:(lb (val l))[j].toNat≠(lb (val m))[j].toNat:=fun he=>h35 (j4 he)
      omega⟩
   ·refine ax (aM (ab (aa (ae Ig Ig (ai Ig Ig Ig (aV (by omega) (by omega)) (ac Ig Ig (ag ?_)))))))
    refine bP j ⟨rfl,rfl,rfl,trivial⟩ ⟨(x7.trans xg9),by omega,by rw[List.drop_eq_getElem_cons (show j<(lb (val l)).length by omega),List.drop_eq_getElem_cons (show j<(lb (val m)).length by omega),hd,show(lb (val l))[j]=(lb (val m))[j] from Classical.byContradiction fun h=>h35 h]⟩ (by omega)
  ·refine ba (aC (aC (aY (ab (af (aa (ac Ig Ig (ag (ab (ay (aD Ig Ig ?_)))))))))))
   exact⟨_,rfl,x7,by
    obtain rfl:k=0:=by omega
    rw[List.drop_zero,List.drop_zero] at hd
    rw[B1 hd,ze];rfl⟩
theorem qw {w:World} {l:List UInt32} {v:Value} {k:Nat} (hv:bu l v w) (hl:l.length≤1099511627776) (hk:k<32):
 Calls Tryz.prog 201 #[v,I (k:Int)] w (bL fun r w'=>aE w w'∧∃L,dw w.heap.size L r w'∧L.length=l.length+1∧val L=val l*2^k):=by
 refine enter (vs:=[v,I (k:Int)]) Tryz.func201 Ig Ig Ig ?_
 refine af (aa (ac Ig Ig (ag (ab (af (aa (ae Ig Ig (aO Ig Ig (bf Hz hv) (ai (r:=I (((l.length)+1:Nat):Int)) Ig Ig Ig (by have e:(((l.length)+1:Nat):Int)=(l.length:Int)+1:=(by omega);rw[e];exact aK (by omega) (by omega)) ?_)))))))))
 obtain⟨v12,w12,hr12,x12,o12,ob12⟩:=sw Hz (w:=w) w.heap.size (n:=l.length+1) (by omega) (Nat.le_refl _)
 refine fV Ig Ig Ig hr12 (ac Ig Ig (ag (ab (af (af (aa (ae Ig Ig (aO Ig Ig (bf Hz (hv.ext x12)) ?_))))))))
 refine ae Ig Ig (ag (ab (au ?_)))
 refine d5 (fun(i:Nat) (L:List UInt32)=>[(1,I (k:Int)),(5,v12),(13,v),(14,I (l.length:Int)),(15,I (i:Int))]) (fun(i:Nat) (L:List UInt32) w'=>dw w.heap.size L v12 w'∧aE w w'∧i≤l.length∧L.length=l.length+1∧val (L.take (i+1))=val (l.take i)*2^k∧∀h:i<L.length,L[i].toNat<2^k) (fun(i:Nat) (L:List UInt32)=>l.length-i) (0) (List.replicate (l.length+1) 0) ⟨rfl,rfl,rfl,rfl,rfl,trivial⟩ ⟨o12,x12,by simp,by simp,by simp[val],fun _=>by simp;exact Nat.pow_pos (by omega)⟩ ?_
 rintro i L w3 ⟨oL,e3,hi,hL,hval,hc⟩
 refine af (aa (ai Ig Ig Ig (bb) (ag (ab (af ?_)))))
 refine bi Ig (fun h16=>?_) (fun h16=>?_)
 ·refine ax (ab (af (au (af (aa (ae Ig Ig ?_))))))
  obtain⟨a18,p18,q18⟩:=cr Hz (hv.ext e3) (i:=i) (by omega) .i64
  refine aq Ig Ig Ig (p18 _) (am Ig Ig (aj HB Ig q18) (ac Ig Ig (ac Ig Ig (ag (ab (af (aa (ae Ig Ig ?_))))))))
  refine aN Ig Ig (bt HB HD) (ae Ig Ig (ai Ig Ig Ig (eY (k) (by omega)) (ac Ig Ig ?_)))
  refine ag (ab (af (aa (ae Ig Ig (ae Ig Ig ?_)))))
  obtain⟨a26,p26,q26⟩:=cr Hz oL.wds (i:=i) (by omega) .i64
  refine aq Ig Ig Ig (p26 _) (am Ig Ig (aj HB Ig q26) (ae Ig Ig (aN Ig Ig (bV HD HB) ?_)))
  refine ai Ig Ig Ig (er) ?_
  obtain⟨g31,w31,p31,s31,o31,q31,hb31,c31,ob31⟩:=(oL).setW Hz (i:=i) (by omega) (L[i]'(by omega)|||(l[i].toUInt64<<<UInt64.ofNat k).toUInt32)
  refine aq Ig Ig Ig (p31 _) (az Ig Ig s31 ?_)
  have x31:=aE.of_new (e3) q31 hb31
  refine ag (ab (aa (ae Ig Ig (ae Ig Ig (ai (r:=I ((i+1:Nat):Int)) Ig Ig Ig (by have e:((i+1:Nat):Int)=(i:Int)+1:=(by omega);rw[e];exact aK (by omega) (by omega)) ?_)))))
  refine ae Ig Ig (ai Ig Ig Ig (cK 32 (by omega)) (aN Ig Ig (bV HD HB) ?_))
  obtain⟨g38,w38,p38,s38,o38,q38,hb38,c38,ob38⟩:=(o31).setW Tryz.underlying44 (i:=(i+1)) (by simp;omega) ((l[i].toUInt64<<<UInt64.ofNat k>>>UInt64.ofNat 32).toUInt32)
  refine aq Ig Ig Ig (p38 _) (az Ig Ig s38 ?_)
  have x38:=aE.of_new (x31) q38 hb38
  refine ag (aM (ab (aa (ai (r:=I ((i+1:Nat):Int)) Ig Ig Ig (by have e:((i+1:Nat):Int)=(i:Int)+1:=(by omega);rw[e];exact aK (by omega) (by omega)) ?_))))
  refine ae Ig Ig (ag ?_)
  have st:=Aa hk (show i<l.length by omega) rfl hL hval (hc (by omega))
  refine cL (i+1) (_) ⟨rfl,rfl,rfl,rfl,rfl,trivial⟩ ⟨o38,x38,by show i+1≤_;omega,by simpa using hL,st.1,fun _=>by simpa using st.2⟩ (by show l.length-(i+1)<l.length-i;omega)
 ·refine ba (aC (aC (aY (ab (af (aa (ae Ig Ig (ac Ig Ig (ag (ab (ay (aD Ig Ig ?_))))))))))))
  exact⟨_,rfl,e3,L,oL,hL,by
   obtain rfl:i=l.length:=by omega
   rw[List.take_of_length_le (by omega),List.take_length] at hval
   exact hval⟩
theorem vy {w:World} {l:List UInt32} {v:Value} {d:UInt32} (hv:bu l v w) (hl:l.length≤1099511627776) (hd:0<d.toNat):
 Calls Tryz.prog 199 #[v,bg d] w (bL fun r w'=>aE w w'∧∃q s,r=.tuple #[q,s]∧bu (lb (val l/d.toNat)) q w'∧bu (lb (val l%d.toNat)) s w'):=by
 refine enter (vs:=[v,bg d]) Tryz.func199 Ig Ig Ig ?_
 have hd0:d.toUInt64≠0:=fun h=>by
  have:=congrArg UInt64.toNat h
  rw[eX] at this
  simp at this
  omega
 refine af (aa (ac Ig Ig (ac Ig Ig (ag (ab (af (aa (ae Ig Ig (aO Ig Ig (bf Hz hv) ?_)))))))))
 obtain⟨v11,w11,hr11,x11,o11,ob11⟩:=sw Hz (w:=w) w.heap.size (n:=l.length) (by omega) (Nat.le_refl _)
 refine fV Ig Ig Ig hr11 (ac Ig Ig (ag (ab (af (aa (ac Ig Ig (ag (ab (af (af (aa (ae Ig Ig (aO Ig Ig (bf Hz (hv.ext x11)) ?_)))))))))))))
 refine ai Ig Ig Ig (aV (by omega) (by omega)) (ac Ig Ig (ag (ab (au ?_))))
 refine j2 (fun(k:Nat) (L:List UInt32) (r:UInt64)=>[(0,v),(1,bg d),(6,v11),(7,bo r),(8,I ((k:Int)-1))]) (fun(k:Nat) (L:List UInt32) (r:UInt64) w'=>dw w.heap.size L v11 w'∧aE w w'∧k≤l.length∧L.length=l.length∧val (L.drop k)*d.toNat+r.toNat=val (l.drop k)∧r.toNat<d.toNat) (fun(k:Nat) (L:List UInt32) (r:UInt64)=>k) (l.length) (List.replicate l.length 0) (0) ⟨rfl,rfl,rfl,rfl,rfl,trivial⟩ ⟨o11,x11,Nat.le_refl _,by simp,by simp[List.drop_of_length_le,val],hd⟩ ?_
 rintro k L r w4 ⟨oL,e4,hk,hL,hval,hr⟩
 refine af (af (aa (ae Ig Ig (ai Ig Ig Ig (gP) (ag (ab ?_))))))
 refine bi Ig (fun h16=>?_) (fun h16=>?_)
 ·obtain⟨j,rfl⟩:∃j,k=j+1:=⟨k-1,by omega⟩
  have e:((j+1:Nat):Int)-1=(j:Int):=by omega
  rw[e]
  have st:=xJ hd (show j<l.length by omega) hL hval hr
  refine ax (ab (af (au (af (aa (ae Ig Ig (ai Ig Ig Ig (eY 32 (by omega)) (ae Ig Ig (ae Ig Ig ?_)))))))))
  obtain⟨a23,p23,q23⟩:=cr Hz (hv.ext e4) (i:=j) (by omega) .i64
  refine aq Ig Ig Ig (p23 _) (am Ig Ig (aj HB Ig q23) (aN Ig Ig (bt HB HD) ?_))
  refine ai Ig Ig Ig (gY) (ac Ig Ig (ag (ab (af (aa (ae Ig Ig (ae Ig Ig (ae Ig Ig (ae Ig Ig (aN Ig Ig (bt HB HD) ?_))))))))))
  refine ai Ig Ig Ig (jE hd0) (aN Ig Ig (bV HD HB) ?_)
  obtain⟨g34,w34,p34,s34,o34,q34,hb34,c34,ob34⟩:=(oL).setW Hz (i:=j) (by omega) (((r<<<UInt64.ofNat 32|||l[j].toUInt64)/d.toUInt64).toUInt32)
  refine aq Ig Ig Ig (p34 _) (az Ig Ig s34 ?_)
  have x34:=aE.of_new (e4) q34 hb34
  refine ag (ab (aa (ae Ig Ig (ae Ig Ig (aN Ig Ig (bt HB HD) (ai Ig Ig Ig (jF hd0) ?_))))))
  refine ac Ig Ig (ag (aM (ab (aa (ae Ig Ig (ai Ig Ig Ig (aV (by omega) (by omega)) (ac Ig Ig (ag ?_))))))))
  refine gj (j) (_) ((r<<<UInt64.ofNat 32|||l[j].toUInt64)%d.toUInt64) ⟨rfl,rfl,rfl,rfl,rfl,trivial⟩ ⟨o34,x34,by show j≤_;omega,by simpa using hL,st.1,st.2⟩ (by show j<j+1;omega)
 ·refine ba (aC (aC (aY (ab (af (aa ?_))))))
  obtain rfl:k=0:=by omega
  rw[List.drop_zero,List.drop_zero] at hval
  have hq:val l/d.toNat=val L:=by rw[←hval,Nat.mul_comm,Nat.mul_add_div hd,Nat.div_eq_of_lt hr,Nat.add_zero]
  have hm:val l%d.toNat=r.toNat:=by rw[←hval,Nat.mul_comm,Nat.mul_add_mod,Nat.mod_eq_of_lt hr]
  refine ae Ig Ig (ak de Ig Ig (dn oL.wds) ?_)
  rintro v40 _ ⟨rfl,b40⟩
  refine ae Ig Ig (ak vj Ig Ig (vn) ?_)
  rintro v42 w42 ⟨x42,b42⟩
  refine ac Ig Ig (ac Ig Ig (ag (ab (ay (aW Ig Ig Ig ?_)))))
  exact⟨_,rfl,(e4.trans x42),_,_,rfl,by rw[hq];exact b40.ext x42,by rw[hm];exact b42⟩
end Go.Rl
namespace Go.Rl
open Go.RowKit Go.Proofs
def qx:List UInt8:=(List.range 256).map fun n=>UInt8.ofNat (bl n)
theorem bl8 (y:UInt8):(UInt8.ofNat (bl y.toNat)).toNat=bl y.toNat∧bl y.toNat≤8:=by
 have:=sG (n:=y.toNat) (k:=8) y.toNat_lt
 exact⟨by rw[UInt8.toNat_ofNat'];omega,this⟩
theorem zf {w:World} (y:UInt8):(Instr.index 9 (S qx) (U8 y)).run Tryz.prog w=.ok (U8 (UInt8.ofNat (bl y.toNat))) w:=by
 have hy:=y.toNat_lt
 have hs:(⟨qx.toArray⟩:ByteArray).size=256:=by simp[ByteArray.size,qx]
 rw[S,U8,run_index_string _ _ _ _ _ Tryz.underlying9,dif_pos (by rw[hs];omega)]
 have e:(⟨qx.toArray⟩:ByteArray)[((y.toNat:Int)).toNat]'(by rw[hs];omega)=UInt8.ofNat (bl y.toNat):=by
  show qx.toArray[((y.toNat:Int)).toNat]'(by simp[qx];omega)=_
  simp[qx]
 rw[e];rfl
theorem zh (x:UInt32) (h:x.toNat<256):bl x.toUInt8.toNat=bl x.toNat:=by
 have:x.toUInt8.toNat=x.toNat%256:=UInt32.toNat_toUInt8 x
 rw[this,Nat.mod_eq_of_lt h]
theorem Af {a b:UInt32}:a≥b↔b.toNat≤a.toNat:=UInt32.le_iff_toNat_le
theorem qy {w:World} {x:UInt32}:
 Calls Tryz.prog 205 #[bg x] w (bL fun r w'=>w=w'∧r=I ((bl x.toNat:Nat):Int)):=by
 refine enter (vs:=[bg x]) Tryz.func205 Ig Ig Ig ?_
 have hx:=cq x
 refine af (aa (ac Ig Ig (ag (ab (af (af (aa (ae Ig Ig (ai (v:=bg 65536) Ig Ig Ig (nR) (ag (ab ?_)))))))))))
 refine bi Ig (fun h4=>?_) (fun h4=>?_)
 ·have h4':65536≤x.toNat:=Af.1 h4
  have hb1:=kZ (n:=x.toNat) (s:=16) (by omega)
  have hz:=nh x (s:=16) (by omega)
  refine af (aa (ae Ig Ig (ai Ig Ig Ig (ck 16 (by omega)) (ac Ig Ig (ag (ab (aa (ac Ig Ig (ag (ab (af (af (aa (ae Ig Ig ?_))))))))))))))
  refine ai (v:=bg 256) Ig Ig Ig (nR) (ag (ab ?_))
  refine bi Ig (fun h8=>?_) (fun h8=>?_)
  ·have h8':256≤((((x)>>>UInt32.ofNat 16))).toNat:=Af.1 h8
   have hb2:=kZ (n:=((((x)>>>UInt32.ofNat 16))).toNat) (s:=8) (by omega)
   have hz2:=nh (((x)>>>UInt32.ofNat 16)) (s:=8) (by omega)
   refine af (aa (ae Ig Ig (ai Ig Ig Ig (ck 8 (by omega)) (ac Ig Ig (ag (ab (aa (ae Ig Ig (ai Ig Ig Ig (aK (by omega) (by omega)) ?_)))))))))
   refine ac Ig Ig (ag (ab (af (aa (ae Ig Ig ?_)))))
   have hu:=zh (((((x)>>>UInt32.ofNat 16))>>>UInt32.ofNat 8)) (by first|omega|(rw[hz2];omega))
   refine ae Ig Ig (aN Ig Ig (dh HB HH) ?_)
   have hy:=bl8 ((((((x)>>>UInt32.ofNat 16))>>>UInt32.ofNat 8))).toUInt8
   refine jY (u:=S qx) (v:=U8 ((((((x)>>>UInt32.ofNat 16))>>>UInt32.ofNat 8))).toUInt8) (by kernel_rfl) Ig Ig (zf _) ?_
   refine aN Ig Ig (tN HH HE) (ai Ig Ig Ig (aK (by omega) (by omega)) (ac Ig Ig (ag (ab (ay ?_)))))
   refine aD Ig Ig ?_
   exact⟨_,rfl,rfl,congrArg I (by
    try simp only[Nat.reducePow] at*
    first
    |(rw[hz2] at hu;rw[hz] at hb2 hu;rw[hb1,hb2];omega)
    |(rw[hz2] at hu;rw[hb2];omega)
    |(rw[hz] at hu;rw[hb1];omega)
    |omega)⟩
  ·have h8':((((x)>>>UInt32.ofNat 16))).toNat<256:=Nat.lt_of_not_le fun h=>h8 (Af.2 h)
   refine ax (ab (af (aa (ae Ig Ig ?_))))
   have hu:=zh (((x)>>>UInt32.ofNat 16)) (by first|omega|(rw[hz2];omega))
   refine ae Ig Ig (aN Ig Ig (dh HB HH) ?_)
   have hy:=bl8 ((((x)>>>UInt32.ofNat 16))).toUInt8
   refine jY (u:=S qx) (v:=U8 ((((x)>>>UInt32.ofNat 16))).toUInt8) (by kernel_rfl) Ig Ig (zf _) ?_
   refine aN Ig Ig (tN HH HE) (ai Ig Ig Ig (aK (by omega) (by omega)) (ac Ig Ig (ag (ab (ay ?_)))))
   refine aD Ig Ig ?_
   exact⟨_,rfl,rfl,congrArg I (by
    try simp only[Nat.reducePow] at*
    first
    |(rw[hz2] at hu;rw[hz] at hb2 hu;rw[hb1,hb2];omega)
    |(rw[hz2] at hu;rw[hb2];omega)
    |(rw[hz] at hu;rw[hb1];omega)
    |omega)⟩
 ·have h4':x.toNat<65536:=Nat.lt_of_not_le fun h=>h4 (Af.2 h)
  refine ax (ab (af (af (aa (ae Ig Ig (ai (v:=bg 256) Ig Ig Ig (nR) (ag (ab ?_))))))))
  refine bi Ig (fun h8=>?_) (fun h8=>?_)
  ·have h8':256≤((x)).toNat:=Af.1 h8
   have hb2:=kZ (n:=((x)).toNat) (s:=8) (by omega)
   have hz2:=nh (x) (s:=8) (by omega)
   refine af (aa (ae Ig Ig (ai Ig Ig Ig (ck 8 (by omega)) (ac Ig Ig (ag (ab (aa (ae Ig Ig (ai Ig Ig Ig (aK (by omega) (by omega)) ?_)))))))))
   refine ac Ig Ig (ag (ab (af (aa (ae Ig Ig ?_)))))
   have hu:=zh (((x)>>>UInt32.ofNat 8)) (by first|omega|(rw[hz2];omega))
   refine ae Ig Ig (aN Ig Ig (dh HB HH) ?_)
   have hy:=bl8 ((((x)>>>UInt32.ofNat 8))).toUInt8
   refine jY (u:=S qx) (v:=U8 ((((x)>>>UInt32.ofNat 8))).toUInt8) (by kernel_rfl) Ig Ig (zf _) ?_
   refine aN Ig Ig (tN HH HE) (ai Ig Ig Ig (aK (by omega) (by omega)) (ac Ig Ig (ag (ab (ay ?_)))))
   refine aD Ig Ig ?_
   exact⟨_,rfl,rfl,congrArg I (by
    try simp only[Nat.reducePow] at*
    first
    |(rw[hz2] at hu;rw[hz] at hb2 hu;rw[hb1,hb2];omega)
    |(rw[hz2] at hu;rw[hb2];omega)
    |(rw[hz] at hu;rw[hb1];omega)
    |omega)⟩
  ·have h8':((x)).toNat<256:=Nat.lt_of_not_le fun h=>h8 (Af.2 h)
   refine ax (ab (af (aa (ae Ig Ig ?_))))
   have hu:=zh (x) (by first|omega|(rw[hz2];omega))
   refine ae Ig Ig (aN Ig Ig (dh HB HH) ?_)
   have hy:=bl8 ((x)).toUInt8
   refine jY (u:=S qx) (v:=U8 ((x)).toUInt8) (by kernel_rfl) Ig Ig (zf _) ?_
   refine aN Ig Ig (tN HH HE) (ai Ig Ig Ig (aK (by omega) (by omega)) (ac Ig Ig (ag (ab (ay ?_)))))
   refine aD Ig Ig ?_
   exact⟨_,rfl,rfl,congrArg I (by
    try simp only[Nat.reducePow] at*
    first
    |(rw[hz2] at hu;rw[hz] at hb2 hu;rw[hb1,hb2];omega)
    |(rw[hz2] at hu;rw[hb2];omega)
    |(rw[hz] at hu;rw[hb1];omega)
    |omega)⟩
theorem Ag {w:World} {x:UInt32}:
 Calls Tryz.prog 200 #[bg x] w (bL fun r w'=>w=w'∧r=I ((32-bl x.toNat:Nat):Int)):=by
 refine enter (vs:=[bg x]) Tryz.func200 Ig Ig Ig ?_
 have hx:=sG (n:=x.toNat) (k:=32) x.toNat_lt
 refine af (aa (ac Ig Ig (ag (ab (af (aa (ae Ig Ig (ak qt Ig Ig (qy) ?_))))))))
 rintro v4 _ ⟨rfl,rfl⟩
 refine ai (r:=I ((32-bl x.toNat:Nat):Int)) Ig Ig Ig (by have e:((32-bl x.toNat:Nat):Int)=32-((bl x.toNat:Nat):Int):=(by omega);rw[e];exact aV (by omega) (by omega)) ?_
 refine ac Ig Ig (ag (ab (ay (aD Ig Ig ?_))))
 exact⟨_,rfl,rfl,rfl⟩
theorem xL {w:World} {l:List UInt32} {v:Value} (hv:bu l v w) (hl:l.length≤1099511627776):
 Calls Tryz.prog 183 #[v] w (bL fun r w'=>w=w'∧r=I ((bl (val l):Nat):Int)):=by
 refine enter (vs:=[v]) Tryz.func183 Ig Ig Ig ?_
 have hll:=gx (cd l)
 refine af (aa (ac Ig Ig (ag (ab (af (aa (ae Ig Ig (ak de Ig Ig (dn hv) ?_))))))))
 rintro v4 _ ⟨rfl,b4⟩
 refine ac Ig Ig (ag (ab (af (af (aa (ae Ig Ig (aO (r:=I ((lb (val l)).length:Int)) Ig Ig (bf Hz b4) ?_)))))))
 refine ai Ig Ig Ig (bJ) (ag (ab ?_))
 refine bi Ig (fun h7=>?_) (fun h7=>?_)
 ·refine af (aa (ac Ig Ig (ag (ab (ay (aB (aD Ig Ig ?_)))))))
  exact⟨_,rfl,rfl,by
   have:val l=0:=gQ.1 (by omega)
   rw[this];rfl⟩
 ·refine ax (ab (af (aa (ae Ig Ig (aO (r:=I ((lb (val l)).length:Int)) Ig Ig (bf Hz b4) (ai (r:=I (((lb (val l)).length-1:Nat):Int)) Ig Ig Ig (by have e:(((lb (val l)).length-1:Nat):Int)=((lb (val l)).length:Int)-1:=(by omega);rw[e];exact aV (by omega) (by omega)) ?_))))))
  refine ai (r:=I ((32*((lb (val l)).length-1:Nat):Nat):Int)) Ig Ig Ig (by have e:((32*((lb (val l)).length-1:Nat):Nat):Int)=32*(((lb (val l)).length-1:Nat):Int):=(by omega);rw[e];exact en (by omega) (by omega)) ?_
  refine ae Ig Ig (ae Ig Ig (aO (r:=I ((lb (val l)).length:Int)) Ig Ig (bf Hz b4) (ai (r:=I (((lb (val l)).length-1:Nat):Int)) Ig Ig Ig (by have e:(((lb (val l)).length-1:Nat):Int)=((lb (val l)).length:Int)-1:=(by omega);rw[e];exact aV (by omega) (by omega)) ?_)))
  obtain⟨a16,p16,q16⟩:=cr Hz b4 (i:=((lb (val l)).length-1:Nat)) (by omega) .i64
  refine aq Ig Ig Ig (p16 _) (am Ig Ig (aj HB Ig q16) (ak qt Ig Ig (qy) ?_))
  rintro v18 _ ⟨rfl,rfl⟩
  have hb:=Fu (n:=val l) (i:=(lb (val l)).length-1) (by omega)
  have hb32:=sG (n:=((lb (val l))[(lb (val l)).length-1]'(by omega)).toNat) (k:=32) (cq _)
  refine ai (r:=I ((((32*((lb (val l)).length-1:Nat):Nat))+(bl ((lb (val l))[(lb (val l)).length-1]'(by omega)).toNat:Nat):Nat):Int)) Ig Ig Ig (by have e:((((32*((lb (val l)).length-1:Nat):Nat))+(bl ((lb (val l))[(lb (val l)).length-1]'(by omega)).toNat:Nat):Nat):Int)=((32*((lb (val l)).length-1:Nat):Nat):Int)+((bl ((lb (val l))[(lb (val l)).length-1]'(by omega)).toNat:Nat):Int):=(by omega);rw[e];exact aK (by omega) (by omega)) ?_
  refine ac Ig Ig (ag (ab (ay (aD Ig Ig ?_))))
  exact⟨_,rfl,rfl,by rw[hb]⟩
theorem zi {a L:List UInt32} {i s V:Nat} {o:UInt32} (hi:i<a.length) (hL:L.length=a.length) (hv:val (L.take i)+4294967296^i*(val (a.drop i)/2^s)=V)
 (st:o.toNat+4294967296*(val (a.drop (i+1))/2^s)=(a[i].toNat+4294967296*val (a.drop (i+1)))/2^s):val ((L.set i o).take (i+1))+4294967296^(i+1)*(val (a.drop (i+1))/2^s)=V:=by
 rw[eN (by omega),Nat.add_assoc,Nat.pow_succ,Nat.mul_assoc,←Nat.mul_add,st,←d6 hi,hv]
theorem vz {a:List UInt32} {i:Nat} {x:UInt64} (hi:i<a.length) (hx:(∃h:i+1<a.length,x=a[i].toUInt64|||a[i+1].toUInt64<<<UInt64.ofNat 32)∨(a.length≤i+1∧x=a[i].toUInt64)) {s:Nat} (hs:s<32):
 ((x>>>UInt64.ofNat s).toUInt32).toNat+4294967296*(val (a.drop (i+1))/2^s)=(a[i].toNat+4294967296*val (a.drop (i+1)))/2^s:=by
 refine(Cb hs ?_).resolve_right (by have:=cq a[i];omega)
 rcases hx with⟨h,rfl⟩|⟨h,rfl⟩
 ·rw[Ft (eX _) (cq _),d6 h]
  have:=cq a[i+1]
  rw[Nat.add_mul_mod_self_left,Nat.mod_eq_of_lt this]
 ·rw[eX,List.drop_of_length_le h];simp[val]
theorem Ah {w:World} {l:List UInt32} {v:Value} {k:Nat} (hv:bu l v w) (hl:l.length≤1099511627776) (hk:k≤1048576):
 Calls Tryz.prog 204 #[v,I (k:Int)] w (bL fun r w'=>aE w w'∧∃q,r=.tuple #[q,I 0]∧bu (lb (val l/2^k)) q w'):=by
 refine enter (vs:=[v,I (k:Int)]) Tryz.func204 Ig Ig Ig ?_
 have hll:=gx (cd l)
 refine af (aa (ac Ig Ig (ac Ig Ig (ag (ab (af (af (aa (ae Ig Ig (ai Ig Ig Ig (eU (by omega) bb) (ae Ig Ig (ao Ig ?_))))))))))))
 refine ae Ig Ig (ao Ig (ai Ig Ig Ig (eU (by omega) cB) (aJ Ig Ig Ig (ag (ab (eS Ig (ax (ab (af (aa (ae Ig Ig (ak de Ig Ig (dn hv) ?_))))))))))))
 rintro v17 _ ⟨rfl,b17⟩
 refine ac Ig Ig (ag (ab (af (af (aa (ae Ig Ig (ai (r:=I ((k/32:Nat):Int)) Ig Ig Ig (by have e:((k/32:Nat):Int)=(k:Int)/32:=(by omega);rw[e];exact mZ (by omega) (by omega) (by omega)) ?_)))))))
 refine ae Ig Ig (aO Ig Ig (bf Hz b17) (ai Ig Ig Ig (gP) (ag (ab ?_))))
 refine bi Ig (fun h22=>?_) (fun h22=>?_)
 ·refine af (aa (ac Ig Ig (ac Ig Ig (ag (ab (ay (aB (aW Ig Ig Ig ?_))))))))
  exact⟨_,rfl,aE.refl _,_,rfl,by
   have h1:=cd (lb (val l))
   rw[bH] at h1
   have h2:(4294967296:Nat)^(lb (val l)).length=2^(32*(lb (val l)).length):=by rw[Nat.pow_mul]
   have h3:2^(32*(lb (val l)).length)≤2^k:=Nat.pow_le_pow_right (by omega) (by omega)
   rw[Nat.div_eq_of_lt (by omega)]
   exact bu.nil _⟩
 ·refine ax (ab (af (aa (ae Ig Ig (ae Ig Ig (ai (r:=I ((k/32:Nat):Int)) Ig Ig Ig (by have e:((k/32:Nat):Int)=(k:Int)/32:=(by omega);rw[e];exact mZ (by omega) (by omega) (by omega)) ?_))))))
  obtain⟨v26,p26,b26⟩:=B7 Hz b17 (lo:=k/32) (by omega) .i64
  refine db Ig Ig Ig Ig Ig (p26 _) (ac Ig Ig (ag (ab (af ?_))))
  obtain⟨a,ha⟩:∃a,a=(lb (val l)).drop (k/32):=⟨_,rfl⟩
  have hva:val a=val l/2^(32*(k/32)):=by
   have h1:=dH (lb (val l)) (k/32) (by omega)
   have h2:=cd ((lb (val l)).take (k/32))
   rw[List.length_take,Nat.min_eq_left (by omega)] at h2
   rw[bH] at h1
   have h3:(4294967296:Nat)^(k/32)=2^(32*(k/32)):=by rw[Nat.pow_mul]
   rw[h3] at h1 h2
   rw[ha]
   conv=>rhs;rw[h1]
   rw[Nat.add_mul_div_left _ _ (Nat.pow_pos (by omega)),Nat.div_eq_of_lt h2,Nat.zero_add]
  have hal:a.length≤1099511627776:=by rw[ha,List.length_drop];omega
  rw[←ha] at b26
  refine aa (ae Ig Ig (aO (r:=I (a.length:Int)) Ig Ig (bf Hz b26) ?_))
  obtain⟨v29,w29,hr29,x29,o29,ob29⟩:=sw Hz (w:=w) w.heap.size (n:=a.length) (by omega) (Nat.le_refl _)
  refine fV Ig Ig Ig hr29 (ac Ig Ig (ag (ab (af (af (aa (ae Ig Ig (aO (r:=I (a.length:Int)) Ig Ig (bf Hz (b26.ext x29)) ?_))))))))
  refine ae Ig Ig (ag (ab (au ?_)))
  refine d5 (fun(i:Nat) (L:List UInt32)=>[(0,v26),(1,I (k:Int)),(6,v29),(30,v26),(31,I (a.length:Int)),(32,I (i:Int))]) (fun(i:Nat) (L:List UInt32) w'=>dw w.heap.size L v29 w'∧aE w w'∧i≤a.length∧L.length=a.length∧val (L.take i)+4294967296^i*(val (a.drop i)/2^(k%32))=val a/2^(k%32)) (fun(i:Nat) (L:List UInt32)=>a.length-i) (0) (List.replicate a.length 0) ⟨rfl,rfl,rfl,rfl,rfl,rfl,trivial⟩ ⟨o29,x29,by simp,by simp,by simp[val]⟩ ?_
  rintro i L w9 ⟨oL,e9,hi,hL,hval⟩
  refine af (aa (ai Ig Ig Ig (bb) (ag (ab (af ?_)))))
  refine bi Ig (fun h33=>?_) (fun h33=>?_)
  ·have hia:i<a.length:=by omega
   refine ax (ab (af (au (af (aa (ae Ig Ig ?_))))))
   obtain⟨a35,p35,q35⟩:=cr Hz (b26.ext e9) (i:=i) (by omega) .i64
   refine aq Ig Ig Ig (p35 _) (am Ig Ig (aj HB Ig q35) (ac Ig Ig (ac Ig Ig (ag (ab (af (aa (ae Ig Ig ?_))))))))
   refine aN Ig Ig (bt HB HD) (ac Ig Ig (ag (ab (af (af (aa (ae Ig Ig (ai (r:=I ((i+1:Nat):Int)) Ig Ig Ig (by have e:((i+1:Nat):Int)=(i:Int)+1:=(by omega);rw[e];exact aK (by omega) (by omega)) ?_))))))))
   refine ae Ig Ig (aO (r:=I (a.length:Int)) Ig Ig (bf Hz (b26.ext e9)) (ai Ig Ig Ig (bb) (ag (ab ?_))))
   refine bi Ig (fun h43=>?_) (fun h43=>?_)
   ·refine aa (ae Ig Ig (ae Ig Ig (ae Ig Ig (ai (r:=I ((i+1:Nat):Int)) Ig Ig Ig (by have e:((i+1:Nat):Int)=(i:Int)+1:=(by omega);rw[e];exact aK (by omega) (by omega)) ?_))))
    obtain⟨a48,p48,q48⟩:=cr Hz (b26.ext e9) (i:=(i+1:Nat)) (by omega) .i64
    refine aq Ig Ig Ig (p48 _) (am Ig Ig (aj HB Ig q48) (aN Ig Ig (bt HB HD) ?_))
    refine ai Ig Ig Ig (eY 32 (by omega)) (ai Ig Ig Ig (gY) (ac Ig Ig (ag (ab (aa (ae Ig Ig (ae Ig Ig (ae Ig Ig (ae Ig Ig ?_)))))))))
    refine ai (r:=I ((k%32:Nat):Int)) Ig Ig Ig (by have e:((k%32:Nat):Int)=(k:Int)%32:=(by omega);rw[e];exact lG (by omega) (by omega)) ?_
    refine ai Ig Ig Ig (cK ((k%32:Nat)) (by omega)) (aN Ig Ig (bV HD HB) ?_)
    have st:=vz (x:=(((((a[i])).toUInt64)|||(((((a[(i+1:Nat)])).toUInt64)<<<UInt64.ofNat 32))))) hia (by first|exact .inl ⟨by omega,rfl⟩|exact .inr ⟨by omega,rfl⟩) (Nat.mod_lt k (show 0<32 by omega))
    obtain⟨g60,w60,p60,s60,o60,q60,hb60,c60,ob60⟩:=(oL).setW Hz (i:=i) (by omega) (((((((a[i])).toUInt64)|||(((((a[(i+1:Nat)])).toUInt64)<<<UInt64.ofNat 32))))>>>UInt64.ofNat (k%32)).toUInt32)
    refine aq Ig Ig Ig (p60 _) (az Ig Ig s60 ?_)
    have x60:=aE.of_new (e9) q60 hb60
    refine ag (aM (ab (aa (ai (r:=I ((i+1:Nat):Int)) Ig Ig Ig (by have e:((i+1:Nat):Int)=(i:Int)+1:=(by omega);rw[e];exact aK (by omega) (by omega)) ?_))))
    refine ae Ig Ig (ag ?_)
    refine cL (i+1) (_) ⟨rfl,rfl,rfl,rfl,rfl,rfl,trivial⟩ ⟨o60,x60,hia,by simpa using hL,zi hia hL hval st⟩ (by show a.length-(i+1)<a.length-i;omega)
   ·refine ax (ab (aa (ae Ig Ig (ae Ig Ig (ae Ig Ig (ae Ig Ig (ai (r:=I ((k%32:Nat):Int)) Ig Ig Ig (by have e:((k%32:Nat):Int)=(k:Int)%32:=(by omega);rw[e];exact lG (by omega) (by omega)) ?_)))))))
    refine ai Ig Ig Ig (cK ((k%32:Nat)) (by omega)) (aN Ig Ig (bV HD HB) ?_)
    have st:=vz (x:=(((a[i])).toUInt64)) hia (by first|exact .inl ⟨by omega,rfl⟩|exact .inr ⟨by omega,rfl⟩) (Nat.mod_lt k (show 0<32 by omega))
    obtain⟨g60,w60,p60,s60,o60,q60,hb60,c60,ob60⟩:=(oL).setW Hz (i:=i) (by omega) (((((a[i])).toUInt64)>>>UInt64.ofNat (k%32)).toUInt32)
    refine aq Ig Ig Ig (p60 _) (az Ig Ig s60 ?_)
    have x60:=aE.of_new (e9) q60 hb60
    refine ag (aM (ab (aa (ai (r:=I ((i+1:Nat):Int)) Ig Ig Ig (by have e:((i+1:Nat):Int)=(i:Int)+1:=(by omega);rw[e];exact aK (by omega) (by omega)) ?_))))
    refine ae Ig Ig (ag ?_)
    refine cL (i+1) (_) ⟨rfl,rfl,rfl,rfl,rfl,rfl,trivial⟩ ⟨o60,x60,hia,by simpa using hL,zi hia hL hval st⟩ (by show a.length-(i+1)<a.length-i;omega)
  ·refine ba (aC (aC (aY (ab (af (aa ?_))))))
   have hla:val L=val l/2^k:=by
    rw[List.take_of_length_le (by omega),List.drop_of_length_le (by omega)] at hval
    simp only[val,Nat.zero_div,Nat.mul_zero,Nat.add_zero] at hval
    rw[hval,hva,Nat.div_div_eq_div_mul,←Nat.pow_add,Nat.div_add_mod]
   refine ae Ig Ig (ak de Ig Ig (dn oL.wds) ?_)
   rintro v63 _ ⟨rfl,b63⟩
   refine ac Ig Ig (ac Ig Ig (ag (ab (ay (aW Ig Ig Ig ?_)))))
   exact⟨_,rfl,e9,_,rfl,by rw[←hla];exact b63⟩
end Go.Rl
namespace Go.Rl
theorem vA {V U v1 v2 u01 u2 P Vl Ul q r:Nat} (hV:V=(v1*4294967296+v2)*P+Vl) (hU:U=(u01*4294967296+u2)*P+Ul) (hUl:Ul<P) (hqr:q*v1+r=u01)
 (h:r*4294967296+u2<q*v2):U<q*V:=by
 have h1:u01*4294967296+u2+1≤q*(v1*4294967296+v2):=by
  rw[←hqr,Nat.mul_add,←Nat.mul_assoc,Nat.add_mul];omega
 have h2:(u01*4294967296+u2+1)*P≤q*(v1*4294967296+v2)*P:=Nat.mul_le_mul_right _ h1
 have h3:q*(v1*4294967296+v2)*P≤q*V:=by
  rw[hV,Nat.mul_assoc];exact Nat.mul_le_mul_left _ (Nat.le_add_right _ _)
 rw[Nat.add_mul _ 1] at h2
 omega
theorem Cc {V U v1 v2 u01 u2 P Vl Ul q:Nat} (hV:V=(v1*4294967296+v2)*P+Vl) (hU:U=(u01*4294967296+u2)*P+Ul) (hVl:Vl<P) (h1:0<v1) (hq:0<q) (hqB:q≤4294967296)
 (h:q*(v1*4294967296+v2)≤u01*4294967296+u2):(q-1)*V≤U:=by
 obtain⟨m,rfl⟩:∃m,q=m+1:=⟨q-1,by omega⟩
 rw[Nat.add_sub_cancel]
 have h2:(m+1)*(v1*4294967296+v2)*P≤(u01*4294967296+u2)*P:=Nat.mul_le_mul_right _ h
 have h3:m*Vl≤(v1*4294967296+v2)*P:=by
  have a:m*Vl≤4294967296*P:=Nat.mul_le_mul (by omega) (by omega)
  have b:4294967296*P≤(v1*4294967296+v2)*P:=Nat.mul_le_mul_right _ (by omega)
  omega
 rw[hV,Nat.mul_add,←Nat.mul_assoc]
 rw[Nat.add_mul m 1,Nat.one_mul,Nat.add_mul] at h2
 omega
theorem lM {V U v1 v2 u01 u2 P Vl Ul q r:Nat} (hV:V=(v1*4294967296+v2)*P+Vl) (hU:U=(u01*4294967296+u2)*P+Ul) (hVl:Vl<P) (h1:0<v1) (hv2:v2<4294967296) (hqB:q<4294967296) (hqr:q*v1+r=u01)
 (h:4294967296≤r∨q*v2≤r*4294967296+u2):(q-1)*V≤U:=by
 rcases Nat.eq_zero_or_pos q with rfl|hq
 ·simp
 ·refine Cc hV hU hVl h1 hq (by omega) ?_
  rw[Nat.mul_add,←Nat.mul_assoc]
  have hp:q*v2≤4294967295*4294967295:=Nat.mul_le_mul (by omega) (by omega)
  omega
theorem Cd {v1 u0 u1 q r:Nat} (hu0:u0≤v1) (hu1:u1<4294967296) (hqr:q*v1+r=u0*4294967296+u1) (hr:4294967296≤r):q<4294967296:=by
 rcases Nat.lt_or_ge q 4294967296 with h|h
 ·exact h
 ·have:=Nat.mul_le_mul_right v1 h
  omega
theorem F6 {V U v1 u01 P Q:Nat} (hV:v1*P≤V) (hU:U<(u01+1)*P) (h1:0<v1) (h:Q*V≤U):Q≤u01/v1:=by
 rw[Nat.le_div_iff_mul_le h1]
 have h2:Q*v1*P≤Q*V:=by rw[Nat.mul_assoc];exact Nat.mul_le_mul_left _ hV
 have h3:Q*v1*P<(u01+1)*P:=by omega
 have:=Nat.lt_of_mul_lt_mul_right h3
 omega
theorem G5 {u lo b:Nat} (hu:u<4294967296) (hlo:lo<4294967296) (hb:b≤1) {x:UInt64} (hx:x.toNat=(18446744073709551616-b+(18446744073709551616-lo+u)%18446744073709551616)%18446744073709551616):
 x.toNat%4294967296+lo+b=u+4294967296*(x.toNat/9223372036854775808)∧x.toNat/9223372036854775808≤1:=by
 omega
theorem Ce {L v:List UInt32} {M:List UInt32} {i:Nat} {q c b x:UInt64} (hi:i<v.length) (hL:v.length<L.length) (hM:M.length=L.length) (hq:q.toNat<4294967296) (hc:c.toNat<4294967296) (hb:b.toNat≤1)
 (hMi:M.drop i=L.drop i) (hinv:val (L.take i)+4294967296^i*(c.toNat+b.toNat)=val (M.take i)+q.toNat*val (v.take i))
 (hx:x=(M[i]'(by omega)).toUInt64-((c+q*v[i].toUInt64).toUInt32).toUInt64-b):
 (M.set i x.toUInt32).drop (i+1)=L.drop (i+1)∧((c+q*v[i].toUInt64)>>>UInt64.ofNat 32).toNat<4294967296∧(x>>>UInt64.ofNat 63).toNat≤1∧
   val (L.take (i+1))+4294967296^(i+1)*(((c+q*v[i].toUInt64)>>>UInt64.ofNat 32).toNat+(x>>>UInt64.ofNat 63).toNat)=val ((M.set i x.toUInt32).take (i+1))+q.toNat*val (v.take (i+1)):=by
 have hd:=cq v[i]
 have hMl:M[i]'(by omega)=L[i]'(by omega):=by
  have h1:=List.getElem?_drop (xs:=M) (i:=i) (j:=0)
  have h2:=List.getElem?_drop (xs:=L) (i:=i) (j:=0)
  rw[hMi] at h1
  rw[h1,Nat.add_zero,List.getElem?_eq_getElem (by omega),List.getElem?_eq_getElem (by omega)] at h2
  exact Option.some.inj h2
 have hu:=cq (M[i]'(by omega))
 have hprod:q.toNat*v[i].toNat≤4294967295*4294967295:=Nat.mul_le_mul (by omega) (by omega)
 have hC:(c+q*v[i].toUInt64).toNat=c.toNat+q.toNat*v[i].toNat:=by
  rw[mc,sF,eX];omega
 have hhi:((c+q*v[i].toUInt64)>>>UInt64.ofNat 32).toNat=(c.toNat+q.toNat*v[i].toNat)/4294967296:=by rw[oR _ (by omega),hC]
 have hb1:(x>>>UInt64.ofNat 63).toNat=x.toNat/9223372036854775808:=by rw[oR _ (by omega)]
 have hxn:x.toNat=(18446744073709551616-b.toNat+(18446744073709551616-(c.toNat+q.toNat*v[i].toNat)%4294967296+(M[i]'(by omega)).toNat)%18446744073709551616)%18446744073709551616:=by
  rw[hx,ni,ni,eX,eX,jL,hC]
 obtain⟨hs1,hs2⟩:=G5 hu (Nat.mod_lt _ (by omega)) hb hxn
 refine⟨?_,by rw[hhi];omega,by rw[hb1];exact hs2,?_⟩
 ·rw[List.drop_set_of_lt (by omega)]
  have:=congrArg (List.drop 1) hMi
  rwa [List.drop_drop,List.drop_drop] at this
 ·rw[eN (by omega),bE (by omega),bE hi,hhi,hb1,jL,←hMl,Nat.pow_succ,Nat.mul_add q.toNat,Nat.mul_left_comm q.toNat]
  have hdm:=Nat.div_add_mod (c.toNat+q.toNat*v[i].toNat) 4294967296
  have key:(M[i]'(by omega)).toNat+4294967296*((c.toNat+q.toNat*v[i].toNat)/4294967296+x.toNat/9223372036854775808)=x.toNat%4294967296+q.toNat*v[i].toNat+(c.toNat+b.toNat):=by omega
  have k2:=congrArg (4294967296^i* ·) key
  simp only[Nat.mul_add] at k2 hinv⊢
  simp only[Nat.mul_assoc] at k2⊢
  omega
theorem Cf {M v L:List UInt32} {i:Nat} {c:UInt64} (hi:i<v.length) (hL:v.length<L.length) (hM:M.length=L.length) (hc:c.toNat≤1)
 (hMi:M.drop i=L.drop i) (hinv:val (M.take i)+4294967296^i*c.toNat=val (L.take i)+val (v.take i)):
 (M.set i (c+((M[i]'(by omega)).toUInt64+v[i].toUInt64)).toUInt32).drop (i+1)=L.drop (i+1)∧((c+((M[i]'(by omega)).toUInt64+v[i].toUInt64))>>>UInt64.ofNat 32).toNat≤1∧
   val ((M.set i (c+((M[i]'(by omega)).toUInt64+v[i].toUInt64)).toUInt32).take (i+1))+4294967296^(i+1)*((c+((M[i]'(by omega)).toUInt64+v[i].toUInt64))>>>UInt64.ofNat 32).toNat=val (L.take (i+1))+val (v.take (i+1)):=by
 have hd:=cq v[i]
 have hMl:M[i]'(by omega)=L[i]'(by omega):=by
  have h1:=List.getElem?_drop (xs:=M) (i:=i) (j:=0)
  have h2:=List.getElem?_drop (xs:=L) (i:=i) (j:=0)
  rw[hMi] at h1
  rw[h1,Nat.add_zero,List.getElem?_eq_getElem (by omega),List.getElem?_eq_getElem (by omega)] at h2
  exact Option.some.inj h2
 have hu:=cq (M[i]'(by omega))
 have hC:(c+((M[i]'(by omega)).toUInt64+v[i].toUInt64)).toNat=c.toNat+((M[i]'(by omega)).toNat+v[i].toNat):=by
  rw[mc,mc,eX,eX];omega
 have hhi:((c+((M[i]'(by omega)).toUInt64+v[i].toUInt64))>>>UInt64.ofNat 32).toNat=(c.toNat+((M[i]'(by omega)).toNat+v[i].toNat))/4294967296:=by rw[oR _ (by omega),hC]
 refine⟨?_,by rw[hhi];omega,?_⟩
 ·rw[List.drop_set_of_lt (by omega)]
  have:=congrArg (List.drop 1) hMi
  rwa [List.drop_drop,List.drop_drop] at this
 ·rw[eN (by omega),bE (by omega),bE hi,hhi,jL,hC,←hMl,Nat.pow_succ]
  have key:(c.toNat+((M[i]'(by omega)).toNat+v[i].toNat))%4294967296+4294967296*((c.toNat+((M[i]'(by omega)).toNat+v[i].toNat))/4294967296)=(M[i]'(by omega)).toNat+v[i].toNat+c.toNat:=by omega
  have k2:=congrArg (4294967296^i* ·) key
  simp only[Nat.mul_add] at k2 hinv⊢
  simp only[Nat.mul_assoc] at k2⊢
  omega
theorem Ai {n j:Nat} (h1:4294967296^j≤n) (h2:n<4294967296^(j+1)):(lb n).length=j+1:=by
 have a:=gx h2
 have b:=cd (lb n)
 rw[bH] at b
 have c:=(Nat.pow_lt_pow_iff_right (a:=4294967296) (by omega)).1 (Nat.lt_of_le_of_lt h1 b)
 omega
theorem k9 {x y:Nat}:nZ x y<0↔x<y:=by
 unfold nZ
 split
 ·simp;assumption
 ·split
  ·simp;omega
  ·simp;omega
theorem Cg {n k:Nat} (h:(lb n).length=k+2):
 32-bl ((lb n)[k+1]'(by omega)).toNat<32∧(lb (n*2^(32-bl ((lb n)[k+1]'(by omega)).toNat))).length=k+2:=by
 have hn:0<n:=by
  rcases Nat.eq_zero_or_pos n with h0|h0
  ·subst h0;simp[fv] at h
  ·exact h0
 have ht:=tW (n:=n) (i:=k+1) (by omega)
 have h1:=za hn
 rw[h] at h1
 have hb:=(nk ht).2
 have hp:=qq ht
 have h32:=sG (n:=((lb n)[k+1]'(by omega)).toNat) (k:=32) (cq _)
 have hv:n<(((lb n)[k+1]'(by omega)).toNat+1)*4294967296^(k+1):=by
  have e:=bE (l:=lb n) (i:=k+1) (by omega)
  rw[List.take_of_length_le (by omega),bH] at e
  have:=cd ((lb n).take (k+1))
  rw[List.length_take,Nat.min_eq_left (by omega)] at this
  rw[Nat.mul_comm,Nat.mul_add]
  omega
 generalize ((lb n)[k+1]'(by omega)).toNat=t at*
 refine⟨by omega,Ai (j:=k+1) ?_ ?_⟩
 ·exact Nat.le_trans h1 (Nat.le_mul_of_pos_right _ (Nat.pow_pos (by omega)))
 ·have hs:0<2^(32-bl t):=Nat.pow_pos (by omega)
  have a:n*2^(32-bl t)<(t+1)*4294967296^(k+1)*2^(32-bl t):=Nat.mul_lt_mul_of_pos_right hv hs
  have b:(t+1)*4294967296^(k+1)*2^(32-bl t)≤2^bl t*4294967296^(k+1)*2^(32-bl t):=Nat.mul_le_mul_right _ (Nat.mul_le_mul_right _ hb)
  have c:2^bl t*4294967296^(k+1)*2^(32-bl t)=4294967296^(k+1+1):=by
   rw[Nat.mul_right_comm,←Nat.pow_add,show bl t+(32-bl t)=32 by omega,Nat.pow_succ 4294967296 (k+1),Nat.mul_comm]
  omega
theorem Ch {x:UInt64} (h:x.toNat=0):x=0:=UInt64.toNat_inj.1 h
theorem vB {M:List UInt32} {n:Nat} (h:M.length=n+1) (x:UInt32):val (M.set n x)=val (M.take n)+4294967296^n*x.toNat:=by
 have:=eN (l:=M) (i:=n) (by omega) x
 rwa [List.take_of_length_le (by simp;omega)] at this
theorem vC {M:List UInt32} {n:Nat} (h:M.length=n+1):val M=val (M.take n)+4294967296^n*(M[n]'(by omega)).toNat:=by
 rw[←bE (by omega),List.take_of_length_le (by omega)]
theorem vD {M L:List UInt32} {i:Nat} (h:M.drop i=L.drop i) (h1:i<M.length) (h2:i<L.length):M[i]=L[i]:=by
 have e1:=List.getElem?_drop (xs:=M) (i:=i) (j:=0)
 have e2:=List.getElem?_drop (xs:=L) (i:=i) (j:=0)
 rw[h] at e1
 rw[e1,Nat.add_zero,List.getElem?_eq_getElem h1,List.getElem?_eq_getElem h2] at e2
 exact Option.some.inj e2
theorem Ev {L v M:List UInt32} {q c b x:UInt64} (hL:L.length=v.length+1) (hM:M.length=L.length) (hc:c.toNat<4294967296) (hb:b.toNat≤1)
 (hMi:M.drop v.length=L.drop v.length) (hinv:val (L.take v.length)+4294967296^v.length*(c.toNat+b.toNat)=val (M.take v.length)+q.toNat*val (v.take v.length))
 (hx:x=(M[v.length]'(by omega)).toUInt64-c-b):
 val L+4294967296^(v.length+1)*(x.toNat/9223372036854775808)=val (M.set v.length x.toUInt32)+q.toNat*val v∧x.toNat/9223372036854775808≤1:=by
 have hu:=cq (M[v.length]'(by omega))
 have hxn:x.toNat=(18446744073709551616-b.toNat+(18446744073709551616-c.toNat+(M[v.length]'(by omega)).toNat)%18446744073709551616)%18446744073709551616:=by
  rw[hx,ni,ni,eX]
 obtain⟨hs1,hs2⟩:=G5 hu hc hb hxn
 refine⟨?_,hs2⟩
 rw[vB (by omega),jL,vC hL,←vD hMi (by omega) (by omega),Nat.pow_succ]
 rw[List.take_length (l:=v)] at hinv
 have k2:=congrArg (4294967296^v.length* ·) hs1
 simp only[Nat.mul_add] at k2 hinv⊢
 simp only[Nat.mul_assoc] at k2⊢
 omega
theorem Ci {L v N M:List UInt32} {q:Nat} {c:UInt64} (hL:L.length=v.length+1) (hN:N.length=L.length) (hM:M.length=L.length) (hc:c.toNat≤1) (hMi:M.drop v.length=N.drop v.length)
 (hinv:val (M.take v.length)+4294967296^v.length*c.toNat=val (N.take v.length)+val (v.take v.length)) (ht:val L+4294967296^(v.length+1)=val N+q*val v) (h1:(q-1)*val v≤val L):
 0<q∧val L=(q-1)*val v+val (M.set v.length ((M[v.length]'(by omega))+c.toUInt32))∧val (M.set v.length ((M[v.length]'(by omega))+c.toUInt32))<val v:=by
 have hu:=cq (M[v.length]'(by omega))
 have hNl:=cd N
 rw[hN,hL] at hNl
 have hq:0<q:=by
  rcases Nat.eq_zero_or_pos q with h|h
  ·subst h;omega
  ·exact h
 obtain⟨p,rfl⟩:∃p,q=p+1:=⟨q-1,by omega⟩
 rw[Nat.add_sub_cancel] at h1⊢
 rw[Nat.add_mul,Nat.one_mul] at ht
 have hlast:((M[v.length]'(by omega))+c.toUInt32).toNat=((M[v.length]'(by omega)).toNat+c.toNat)%4294967296:=by
  rw[UInt32.toNat_add,jL];omega
 have hF:=vB (show M.length=v.length+1 by omega) ((M[v.length]'(by omega))+c.toUInt32)
 have hFl:=cd (M.set v.length ((M[v.length]'(by omega))+c.toUInt32))
 have hFe:(M.set v.length ((M[v.length]'(by omega))+c.toUInt32)).length=v.length+1:=by simp;omega
 rw[hFe] at hFl
 have hNe:=vC (show N.length=v.length+1 by omega)
 rw[←vD hMi (by omega) (by omega)] at hNe
 rw[List.take_length (l:=v)] at hinv
 have hdm:=Nat.div_add_mod ((M[v.length]'(by omega)).toNat+c.toNat) 4294967296
 have hs:((M[v.length]'(by omega)).toNat+c.toNat)/4294967296≤1:=by omega
 have key:val (M.set v.length ((M[v.length]'(by omega))+c.toUInt32))+4294967296^(v.length+1)*(((M[v.length]'(by omega)).toNat+c.toNat)/4294967296)=val N+val v:=by
  rw[hF,hlast,hNe,Nat.pow_succ]
  have k2:=congrArg (4294967296^v.length* ·) hdm
  simp only[Nat.mul_add] at k2⊢
  simp only[Nat.mul_assoc] at k2⊢
  omega
 generalize val (M.set v.length ((M[v.length]'(by omega))+c.toUInt32))=F at*
 generalize ((M[v.length]'(by omega)).toNat+c.toNat)/4294967296=s at*
 rcases(show s=0∨s=1 by omega) with rfl|rfl
 ·omega
 ·refine⟨by omega,by omega,by omega⟩
theorem Aj {A Q V X lo part q part' P:Nat} (hX:X=lo+P*part) (hlo:lo<P) (hA:A=Q*(P*4294967296)*V+X) (hp:part=q*V+part') (hr:part'<V):
 A=(q+4294967296*Q)*P*V+(lo+P*part')∧lo+P*part'<P*V:=by
 constructor
 ·rw[hA,hX,hp,Nat.mul_add P,Nat.add_mul q,Nat.add_mul]
  have e1:4294967296*Q*P*V=Q*(P*4294967296)*V:=by
   rw[Nat.mul_comm 4294967296 Q,Nat.mul_assoc Q,Nat.mul_comm 4294967296 P]
  have e2:q*P*V=P*(q*V):=by rw[Nat.mul_comm q P,Nat.mul_assoc]
  rw[e1,e2];omega
 ·have:P*(part'+1)≤P*V:=Nat.mul_le_mul_left _ hr
  rw[Nat.mul_add] at this
  omega
end Go.Rl

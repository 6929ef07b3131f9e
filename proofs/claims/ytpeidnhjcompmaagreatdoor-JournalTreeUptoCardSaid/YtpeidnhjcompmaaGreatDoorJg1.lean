/- Part 1 of a proof: plain facts and walks of functions, merged by a program. Conditions: each lemma names its own. -/
import Derived.StillTail
import Derived.Below
import Derived.Laws.Entries
import Derived.Maps.AppendAt
import Derived.Laws.BytesString
import Derived.Laws.Slices
import Derived.Laws.MakeOwn
import Derived.Laws.Rows
import Derived.OwnWalk
import Derived.Laws.BitsAllLaws
import Derived.Laws.Strings
import Derived.Test.YtpeidnhjcompmaaGreatDoorProg
import Derived.KernelRfl
import Derived.Laws.OwnMore
import Derived.RowKit
import Derived.Lib.AppendStr
import Derived.Laws.IdiomStrings
import Derived.Deep.MidRow
import Derived.Laws.CopyRow
import Derived.Lib.SlBytesConst
import Derived.ArgAppend
import Derived.ProofKit
import Derived.OpenShut
import Derived.ChangeArms
import Derived.RangeFuncWrites
import Derived.RangeFuncLeaves
import Derived.TacticsIn
import Derived.OwnWalkIn
import Derived.Maps.Keyed
import Derived.DeepKeys5
import Derived.ShutString
import Derived.SliceStrings
import Derived.ChangeOld
import Derived.OrdersHeld
import Derived.Test.YtpeidnhjcompmaaGreatDoorCards
import Derived.Test.YtpeidnhjcompmaaGreatDoorTie
import Derived.Lib.LaidTab
import Derived.Recover
import Derived.Tactics
import Derived.Tactics2
import Derived.ChangeKeysEq
import Derived.Laws.StructEq
import Derived.Test.YtpeidnhjcompmaaGreatDoorRows
import Derived.OrdersIn
namespace Go.Rl
theorem E.{u} {α:Sort u} {a:α}:a=a:=rfl
abbrev Lj:=@Go.Proofs.Tryz.underlying44
abbrev Lk:=@Go.Proofs.Tryz.underlying52
abbrev Ll:=@Go.Proofs.Tryz.underlying149
abbrev Lm:=@Go.Proofs.Tryz.underlying48
abbrev Ln:=@Go.Proofs.Tryz.underlying46
abbrev Lo:=@Go.Proofs.Tryz.underlying3
abbrev Lp:=@Go.Proofs.Tryz.underlying107
abbrev Lr:=@Go.Proofs.Tryz.underlying54
abbrev Ls:=@Go.Proofs.Tryz.underlying49
abbrev Lu:=@Go.Proofs.Tryz.underlying41
abbrev Lv:=@Go.Proofs.Tryz.underlying22
abbrev Lw:=@Go.Proofs.Tryz.underlying4
abbrev Lx:=@Go.Proofs.Tryz.underlying5
abbrev Ly:=@Go.Proofs.Tryz.underlying50
abbrev Lz:=@Go.Proofs.Tryz.underlying42
abbrev LA:=@Go.Proofs.Tryz.underlying163
abbrev LB:=@Go.Proofs.Tryz.underlying173
abbrev LC:=@Go.Proofs.Tryz.underlying114
abbrev LD:=@Go.Proofs.Tryz.underlying25
abbrev LE:=@Go.Proofs.Tryz.underlying43
abbrev LF:=@Go.Proofs.Tryz.underlying187
abbrev LG:=@Go.Proofs.Tryz.underlying110
abbrev LH:=@Go.Proofs.Tryz.underlying24
abbrev LI:=@Go.Proofs.Tryz.underlying112
abbrev LJ:=@Go.Proofs.Tryz.underlying204
abbrev LK:=@Go.Proofs.Tryz.underlying157
abbrev LL:=@Go.Proofs.Tryz.underlying185
abbrev LM:=@Go.Proofs.Tryz.underlying111
abbrev LN:=@Go.Proofs.Tryz.underlying150
abbrev LO:=@Go.Proofs.Tryz.underlying59
abbrev LP:=@Go.Proofs.Tryz.underlying88
abbrev LQ:=@Go.Proofs.Tryz.underlying67
abbrev LR:=@Go.Proofs.Tryz.underlying154
abbrev LS:=@Go.Proofs.Tryz.underlying200
end Go.Rl
namespace Go.Rl
open Go.RowKit
def aH (w w':World):Prop:=Below w.heap.size w w'
theorem aH.refl (w:World):aH w w:=Below.refl _ _
theorem aH.trans {a b c:World} (h:aH a b) (k:aH b c):aH a c:=Below.trans h (Below.mono k h.size)
theorem aH.alloc {a w:World} (h:aH a w) (o:Obj):aH a (w.alloc o):=Below.alloc h h.size o
theorem aH.drew {a w:World} (h:aH a w):aH a w.drew:=Below.drew h
abbrev dv:=Value→World→Prop
abbrev cS:=Tmp→dv
def Is (c:Value):dv:=fun v _=>v=c
def Any:dv:=fun _ _=>True
def cr (Rl:World→World→Prop) (S:dv):Prop:=∀v w w',S v w→Rl w w'→S v w'
abbrev bO (S:dv):Prop:=cr aH S
theorem bO.is {Rl:World→World→Prop} (c:Value):cr Rl (Is c):=fun _ _ _ h _=>h
theorem bO.any {Rl:World→World→Prop}:cr Rl Any:=fun _ _ _ h _=>h
abbrev lW:=World→Prop
def dF (Z:lW):Prop:=∀w w',Z w→aH w w'→Z w'
theorem dF.triv:dF (fun _=>True):=fun _ _ _ _=>trivial
def kj (F:cS) (d:Option Tmp) (S:dv):cS:=
 match d with
 |none=>F
 |some d=>fun t=>match Nat.beq t d with|true=>S|false=>F t
theorem lp (F:cS) (d:Tmp) (S:dv):kj F (some d) S d=S:=by simp[kj]
theorem nR (F:cS) {d t:Tmp} (S:dv) (h:t≠d):kj F (some d) S t=F t:=by
 have:Nat.beq t d=false:=by
  cases hb:Nat.beq t d
  ·rfl
  ·exact absurd (Nat.eq_of_beq_eq_true hb) h
 simp[kj,this]
theorem CG (F:cS) {d:Option Tmp} {t:Tmp} (S:dv) (h:∀e,d=some e→e≠t):kj F d S t=F t:=by
 cases d with
 |none=>rfl
 |some d=>exact nR F S (fun e=>h d rfl e.symm)
theorem Fi (F:cS) {x y:Option Tmp} (S R:dv) (h:∀d,x=some d→y≠some d):kj (kj F x S) y R=kj (kj F y R) x S:=by
 cases x with
 |none=>rfl
 |some d=>
  cases y with
  |none=>rfl
  |some e=>
   have hne:d≠e:=fun he=>h d rfl (he▸rfl)
   funext t
   by_cases h1:t=e
   ·subst h1
    rw[lp,nR _ _ (Ne.symm hne),lp]
   ·rw[nR _ _ h1]
    by_cases h2:t=d
    ·subst h2
     rw[lp,lp]
    ·rw[nR _ _ h2,nR _ _ h2,nR _ _ h1]
section
variable {P:Program} {ops:Array Oper} {md:Region.Mode} {Env:World→Prop} {Rl:World→World→Prop} {mo:Bool} {Pn:List PanicEntry→World→Prop} {N:Nat}
structure jt (Env:World→Prop) (Rl:World→World→Prop):Prop where
 ext:∀w w',aH w w'→Rl w w'
 keep:∀w w',Env w→Rl w w'→Env w'
theorem jt.plain (w:World):jt (aH w) aH:=⟨fun _ _ h=>h,fun _ _ h k=>h.trans k⟩
theorem cr.ext {S:dv} (h:cr Rl S) (hE:jt Env Rl):bO S:=fun v w w' hs hx=>h v w w' hs (hE.ext w w' hx)
def nD (ops:Array Oper) (o:Oper) (F:cS) (a:Act) (w:World):Prop:=∀t∈o.looksAt ops,F t (a.tmps.getD t undef) w
structure CH (N:Nat) (D:List Deferred) (F:cS) (a:Act) (w:World):Prop where
 size:a.tmps.size=N
 defers:a.defers=D
 at_:∀t,F t (a.tmps.getD t undef) w
def qG (P:Program) (w:World) (S:dv):Result Next→Prop
 |.ok (.value v) w'=>aH w w'∧S v w'
 |.ok .skip w'=>aH w w'∧S undef w'
 |.ok (.enter f args) w'=>aH w w'∧Calls P f args w' (fun e w''=>∃v,e=.returned v∧aH w w''∧S v w'')
 |_=>False
def yj (P:Program) (Rl:World→World→Prop) (Pn:List PanicEntry→World→Prop) (w:World) (S:dv) (Z:lW):Result Next→Prop
 |.ok (.enter f args) w'=>Calls P f args w' (fun e w''=>(∃v,e=.returned v∧Rl w w''∧S v w''∧Z w'')∨∃c,e=.panicked c∧Pn c w'')
 |_=>False
def kt (o:Oper):Bool:=match o.op with|.call c=>(match c.callee with|.builtin _=>false|_=>true)|_=>false
structure Jk (P:Program) (ops:Array Oper) (Env:World→Prop) (Rl:World→World→Prop) (N:Nat) (F:cS) (o:Oper) (S:dv):Prop where
 stable:cr Rl S
 dst:∀d,o.dst=some d→d<N
 yes:∀a w,a.tmps.size=N→Env w→nD ops o F a w→Region.wanted o (yielded ops a.tmps)=true→qG P w S ((execOp a.eval o).run P w)
 no:∀a w,a.tmps.size=N→Env w→nD ops o F a w→Region.wanted o (yielded ops a.tmps)=false→S undef w
structure Ky (P:Program) (ops:Array Oper) (Env:World→Prop) (Rl:World→World→Prop) (Pn:List PanicEntry→World→Prop) (N:Nat) (F:cS) (Z:lW) (o:Oper) (S:dv) (Z':lW):Prop where
 call:kt o=true
 stable:cr Rl S
 zst:dF Z'
 dst:∀d,o.dst=some d→d<N
 yes:∀a w,a.tmps.size=N→Env w→nD ops o F a w→Z w→Region.wanted o (yielded ops a.tmps)=true→yj P Rl Pn w S Z' ((execOp a.eval o).run P w)
 no:∀a w,a.tmps.size=N→Env w→nD ops o F a w→Z w→Region.wanted o (yielded ops a.tmps)=false→S undef w∧Z' w
def fN (P:Program) (ops:Array Oper) (Env:World→Prop) (Rl:World→World→Prop) (mo:Bool) (Pn:List PanicEntry→World→Prop) (N:Nat) (F:cS) (Z:lW) (o:Oper) (S:dv) (Z':lW):Prop:=
 (Jk P ops Env Rl N F o S∧Z'=Z)∨(mo=true∧Ky P ops Env Rl Pn N F Z o S Z')
def gK (P:Program) (ops:Array Oper) (Env:World→Prop) (Rl:World→World→Prop) (mo:Bool) (Pn:List PanicEntry→World→Prop) (N:Nat):List Oper→cS→lW→(cS→lW→Prop)→Prop
 |[],F,Z,K=>K F Z
 |o::rest,F,Z,K=>(∀t,cr Rl (F t))→dF Z→∃S Z',fN P ops Env Rl mo Pn N F Z o S Z'∧gK P ops Env Rl mo Pn N rest (kj F o.dst S) Z' K
theorem lq:∀(l:List Oper) (F:cS) (Z:lW) {K K':cS→lW→Prop},(∀F Z,K F Z→K' F Z)→gK P ops Env Rl mo Pn N l F Z K→gK P ops Env Rl mo Pn N l F Z K'
 |[],F,Z,_,_,hK,h=>hK _ _ h
 |o::l,F,Z,_,_,hK,h=>fun hF hZ=>by
  obtain⟨S,Z',h1,h2⟩:=h hF hZ
  exact⟨S,Z',h1,lq l _ _ hK h2⟩
theorem g0 {o:Oper} {F:cS} {d:Option Tmp} {S:dv} (h:∀e,d=some e→e∉o.looksAt ops) (a:Act) (w:World):nD ops o (kj F d S) a w↔nD ops o F a w:=by
 unfold nD
 constructor
 ·intro hs t ht
  have:=hs t ht
  rwa [CG F S (fun e he=>by rintro rfl;exact h _ he ht)] at this
 ·intro hs t ht
  rw[CG F S (fun e he=>by rintro rfl;exact h _ he ht)]
  exact hs t ht
theorem fN.of_upd {o:Oper} {F:cS} {Z Z':lW} {d:Option Tmp} {S R:dv} (h:∀e,d=some e→e∉o.looksAt ops) (hs:fN P ops Env Rl mo Pn N (kj F d S) Z o R Z'):fN P ops Env Rl mo Pn N F Z o R Z':=by
 rcases hs with⟨hs,hz⟩|⟨hm,hs⟩
 ·exact .inl ⟨⟨hs.stable,hs.dst,fun a w h1 h2 h3=>hs.yes a w h1 h2 ((g0 h a w).2 h3),fun a w h1 h2 h3=>hs.no a w h1 h2 ((g0 h a w).2 h3)⟩,hz⟩
 ·exact .inr ⟨hm,⟨hs.call,hs.stable,hs.zst,hs.dst,fun a w h1 h2 h3=>hs.yes a w h1 h2 ((g0 h a w).2 h3),fun a w h1 h2 h3=>hs.no a w h1 h2 ((g0 h a w).2 h3)⟩⟩
theorem fN.to_upd {o:Oper} {F:cS} {Z Z':lW} {d:Option Tmp} {S R:dv} (h:∀e,d=some e→e∉o.looksAt ops) (hs:fN P ops Env Rl mo Pn N F Z o R Z'):fN P ops Env Rl mo Pn N (kj F d S) Z o R Z':=by
 rcases hs with⟨hs,hz⟩|⟨hm,hs⟩
 ·exact .inl ⟨⟨hs.stable,hs.dst,fun a w h1 h2 h3=>hs.yes a w h1 h2 ((g0 h a w).1 h3),fun a w h1 h2 h3=>hs.no a w h1 h2 ((g0 h a w).1 h3)⟩,hz⟩
 ·exact .inr ⟨hm,⟨hs.call,hs.stable,hs.zst,hs.dst,fun a w h1 h2 h3=>hs.yes a w h1 h2 ((g0 h a w).1 h3),fun a w h1 h2 h3=>hs.no a w h1 h2 ((g0 h a w).1 h3)⟩⟩
theorem fN.stable {o:Oper} {F:cS} {Z Z':lW} {S:dv} (h:fN P ops Env Rl mo Pn N F Z o S Z'):cr Rl S:=h.elim (·.1.stable) (·.2.stable)
theorem fN.zst {o:Oper} {F:cS} {Z Z':lW} {S:dv} (h:fN P ops Env Rl mo Pn N F Z o S Z') (hZ:dF Z):dF Z':=h.elim (fun h=>h.2▸hZ) (·.2.zst)
theorem fN.swap {oi oj:Oper} {F:cS} {Z Z' Z'':lW} {S R:dv} (hi:fN P ops Env Rl mo Pn N F Z oi S Z') (hj:fN P ops Env Rl mo Pn N (kj F oi.dst S) Z' oj R Z'')
 (h1:∀e,oi.dst=some e→e∉oj.looksAt ops) (h3:∀e,oj.dst=some e→e∉oi.looksAt ops) (hx:¬(mo=true∧kt oi=true∧kt oj=true)):
 ∃Z1,fN P ops Env Rl mo Pn N F Z oj R Z1∧fN P ops Env Rl mo Pn N (kj F oj.dst R) Z1 oi S Z'':=by
 have hj:=hj.of_upd h1
 have hi':=hi
 rcases hi' with⟨hq,rfl⟩|⟨hm,hq⟩
 ·refine⟨Z'',hj,fN.to_upd h3 (.inl ⟨hq,rfl⟩)⟩
 ·rcases hj with⟨hr,rfl⟩|⟨_,hr⟩
  ·exact⟨Z,.inl ⟨hr,rfl⟩,fN.to_upd h3 hi⟩
  ·exact absurd ⟨hm,hq.call,hr.call⟩ hx
def kP (P:Program) (md:Region.Mode) (ops:Array Oper) (Env:World→Prop) (Rl:World→World→Prop) (mo:Bool) (Pn:List PanicEntry→World→Prop) (N n:Nat) (L:Array Bool→cS→lW→Prop):Nat→Array Bool→cS→lW→Prop
 |0,listed,F,Z=>L listed F Z
 |f+1,listed,F,Z=>
  Region.ready md ops listed≠[]∧∀i∈Region.ready md ops listed,i<n∧∃o S Z',ops[i]? =some o∧fN P ops Env Rl mo Pn N F Z o S Z'∧kP P md ops Env Rl mo Pn N n L f (listed.setIfInBounds i true) (kj F o.dst S) Z'
theorem CH.put {D:List Deferred} {F:cS} {a:Act} {w w':World} (hs:CH N D F a w) (hst:∀t,cr Rl (F t)) (he:Rl w w') {dst:Option Tmp} (hd:∀d,dst=some d→d<N) {S:dv} {v:Value} (hv:S v w'):
 CH N D (kj F dst S) (a.put dst v) w':=by
 cases dst with
 |none=>exact⟨hs.size,hs.defers,fun t=>hst t _ _ _ (hs.at_ t) he⟩
 |some d=>
  refine⟨by simp[Act.put,hs.size],hs.defers,fun t=>?_⟩
  have hlt:=hd d rfl
  by_cases htd:t=d
  ·subst htd
   rw[lp]
   have:(a.put (some t) v).tmps.getD t undef=v:=by
    simp[Act.put,hs.size,hlt]
   rw[this]
   exact hv
  ·rw[nR F S htd]
   have:(a.put (some d) v).tmps.getD t undef=a.tmps.getD t undef:=by
    simp[Act.put,Array.getElem?_setIfInBounds_ne (Ne.symm htd)]
   rw[this]
   exact hst t _ _ _ (hs.at_ t) he
theorem pG {F:cS} (hst:∀t,cr Rl (F t)) {d:Option Tmp} {S:dv} (hS:cr Rl S):∀t,cr Rl (kj F d S t):=by
 intro t
 cases d with
 |none=>exact hst t
 |some d=>
  by_cases h:t=d
  ·subst h;rw[lp];exact hS
  ·rw[nR F S h];exact hst t
def jS (l0:List (Nat×Value)) (a:Act):Prop:=∀p∈l0,a.tmps.getD p.1 undef=p.2
theorem jS.put {l0:List (Nat×Value)} {a:Act} (h:jS l0 a) {dst:Option Tmp} (hd:∀d,dst=some d→∀p∈l0,p.1≠d) (v:Value):jS l0 (a.put dst v):=fun p hp=>by
 cases dst with
 |none=>exact h p hp
 |some d=>
  have:(a.put (some d) v).tmps.getD p.1 undef=a.tmps.getD p.1 undef:=by
   simp[Act.put,Array.getElem?_setIfInBounds_ne (Ne.symm (hd d rfl p hp))]
  rw[this]
  exact h p hp
theorem yk {l0:List (Nat×Value)} {D:List Deferred} {i:Nat} {o:Oper} {F:cS} {Z Z':lW} {S:dv} {a:Act} {w:World} {K:Act→World→Prop} {Q:Exit→Act→World→Prop} (hE:jt Env Rl) (hP:∀c a w,a.tmps.size=N→a.defers=D→jS l0 a→Pn c w→Q (.panic c) a w) (hi:ops[i]? =some o) (hs:fN P ops Env Rl mo Pn N F Z o S Z')
 (hF:∀t,cr Rl (F t)) (hZ:dF Z) (he:Env w) (hsat:CH N D F a w) (hk:jS l0 a) (hd0:∀d,o.dst=some d→∀p∈l0,p.1≠d) (hz:Z w) (h:∀a' w',Env w'→CH N D (kj F o.dst S) a' w'→jS l0 a'→Z' w'→K a' w'):wpOp P ops Q i K a w:=by
 have rr:∀w,Rl w w:=fun w=>hE.ext w w (aH.refl w)
 unfold wpOp
 simp only[hi]
 have hon:nD ops o F a w:=fun t _=>hsat.at_ t
 split
 ·rename_i hw
  refine .inl ?_
  rcases hs with⟨hs,rfl⟩|⟨_,hs⟩
  ·have h1:=hs.yes a w hsat.size he hon hw
   unfold Oper.wp
   generalize (execOp a.eval o).run P w=r at h1
   cases r with
   |ok n w'=>
    cases n<;>simp only[qG] at h1<;>simp only[Oper.upon]
    case value v=>exact h _ _ (hE.keep _ _ he (hE.ext _ _ h1.1)) (hsat.put hF (hE.ext _ _ h1.1) hs.dst h1.2) (hk.put hd0 _) (hZ _ _ hz h1.1)
    case skip=>exact h _ _ (hE.keep _ _ he (hE.ext _ _ h1.1)) (hsat.put hF (hE.ext _ _ h1.1) hs.dst h1.2) (hk.put hd0 _) (hZ _ _ hz h1.1)
    case enter f args=>
     refine h1.2.mono ?_
     rintro e w'' ⟨v,rfl,hx,hv⟩
     exact h _ _ (hE.keep _ _ he (hE.ext _ _ hx)) (hsat.put hF (hE.ext _ _ hx) hs.dst hv) (hk.put hd0 _) (hZ _ _ hz hx)
   |halt x w'=>simp only[qG] at h1
  ·have h1:=hs.yes a w hsat.size he hon hz hw
   unfold Oper.wp
   generalize (execOp a.eval o).run P w=r at h1
   cases r with
   |ok n w'=>
    cases n<;>simp only[yj] at h1<;>simp only[Oper.upon]
    case enter f args=>
     refine h1.mono ?_
     rintro e w'' (⟨v,rfl,hx,hv,hz'⟩|⟨c,rfl,hp⟩)
     ·exact h _ _ (hE.keep _ _ he hx) (hsat.put hF hx hs.dst hv) (hk.put hd0 _) hz'
     ·exact hP _ _ _ hsat.size hsat.defers hk hp
   |halt x w'=>simp only[yj] at h1
 ·rename_i hw
  have hw:Region.wanted o (yielded ops a.tmps)=false:=by simpa using hw
  rcases hs with⟨hs,rfl⟩|⟨_,hs⟩
  ·exact h _ _ he (hsat.put hF (rr _) hs.dst (hs.no a w hsat.size he hon hw)) (hk.put hd0 _) hz
  ·have h1:=hs.no a w hsat.size he hon hz hw
   exact h _ _ he (hsat.put hF (rr _) hs.dst h1.1) (hk.put hd0 _) h1.2
theorem ip {l0:List (Nat×Value)} {D:List Deferred} {n g:Nat} {L:Array Bool→cS→lW→Prop} {Q':Exit→Act→World→Prop} (hE:jt Env Rl) (hP:∀c a w,a.tmps.size=N→a.defers=D→jS l0 a→Pn c w→Q' (.panic c) a w)
 (hd0:∀i o,i<n→ops[i]? =some o→∀d,o.dst=some d→∀p∈l0,p.1≠d)
 (hL:∀listed F Z,L listed F Z→(∀t,cr Rl (F t))→dF Z→∀a w,Env w→CH N D F a w→Z w→wpAny P md ops Q' g listed a w):
 ∀(f:Nat) (listed:Array Bool) (F:cS) (Z:lW),kP P md ops Env Rl mo Pn N n L f listed F Z→(∀t,cr Rl (F t))→dF Z→∀a w,Env w→CH N D F a w→jS l0 a→Z w→wpAny P md ops Q' (f+g) listed a w
 |0,listed,F,Z,h,hF,hZ,a,w,he,hs,_,hz=>by rw[Nat.zero_add];exact hL _ _ _ h hF hZ a w he hs hz
 |f+1,listed,F,Z,h,hF,hZ,a,w,he,hs,hk,hz=>by
  rw[show f+1+g=(f+g)+1 by omega]
  refine⟨fun h0=>absurd h0 h.1,fun i hi=>?_⟩
  obtain⟨hin,o,S,Z',ho,hspec,hrest⟩:=h.2 i hi
  exact yk hE hP ho hspec hF hZ he hs hk (hd0 i o hin ho) hz (fun a' w' he' hs' hk' hz'=>ip hE hP hd0 hL f _ _ _ hrest (pG hF hspec.stable) (hspec.zst hZ) a' w' he' hs' hk' hz')
def t8 (md:Region.Mode) (ops:Array Oper):Nat→Nat→Nat→Bool
 |0,_,_=>false
 |f+1,j,i=>Region.waitsFor md ops j i||(List.range ops.size).any fun k=>Region.waitsFor md ops j k&&t8 md ops f k i
def Bm (ops:Array Oper) (i:Nat):Bool:=match ops[i]? with|some o=>kt o|none=>false
def kQ (md:Region.Mode) (ops:Array Oper):Bool:=(List.range ops.size).all fun j=> !Bm ops j||(List.range j).all fun i=> !Bm ops i||t8 md ops ops.size j i
theorem qH {n:Nat} {listed:Array Bool} (inv:HeadInv md ops n listed) {i:Nat}:∀(f j:Nat),t8 md ops f j i=true→(∀oj,ops[j]? =some oj→∀e∈oj.after,Region.binds md e=true→listed.getD e.on false=true)→listed.getD i false=true
 |0,_,h,_=>by simp[t8] at h
 |f+1,j,h,hj=>by
  simp only[t8,Bool.or_eq_true,List.any_eq_true,Bool.and_eq_true] at h
  rcases h with h|⟨k,_,h1,h2⟩
  ·obtain⟨oj,ho,e,he,hb,hon⟩:=Region.waitsFor_spec h
   rw[←hon]
   exact hj oj ho e he hb
  ·obtain⟨oj,ho,e,he,hb,hon⟩:=Region.waitsFor_spec h1
   have hk:=hj oj ho e he hb
   rw[hon] at hk
   exact qH inv f k h2 fun ok hok e he hb=>inv.closed k ok hok hk e he hb
theorem DC {n:Nat} {listed:Array Bool} (hc:kQ md ops=true) (inv:HeadInv md ops n listed) {i j:Nat} {oi oj:Oper} (hi:i∈Region.ready md ops listed) (hj:j∈Region.ready md ops listed) (hoi:ops[i]? =some oi) (hoj:ops[j]? =some oj) (hne:j≠i):¬(kt oi=true∧kt oj=true):=by
 rintro⟨h1,h2⟩
 have key:∀{i j:Nat} {oi oj:Oper},i∈Region.ready md ops listed→j∈Region.ready md ops listed→ops[i]? =some oi→ops[j]? =some oj→kt oi=true→kt oj=true→i<j→False:=by
  intro i j oi oj hi hj hoi hoj h1 h2 hlt
  obtain⟨hun,_⟩:=mem_ready.1 hi
  obtain⟨_,oj',hoj',hall⟩:=mem_ready.1 hj
  have hjs:j<ops.size:=(Array.getElem?_eq_some_iff.1 hoj).1
  have h3:=List.all_eq_true.1 hc j (List.mem_range.2 hjs)
  simp only[Bm,hoj,h2,Bool.not_true,Bool.false_or,List.all_eq_true,List.mem_range,Bool.or_eq_true,Bool.not_eq_true'] at h3
  have h4:=h3 i hlt
  simp only[hoi,h1] at h4
  have h4:=h4.resolve_left (by simp)
  have h5:=qH inv _ _ h4 fun o ho e he hb=>by
   have:o=oj':=Option.some.inj (ho.symm.trans hoj')
   subst this
   exact hall e he hb
  rw[getD_both hun] at h5
  cases h5
 rcases Nat.lt_or_ge i j with h|h
 ·exact key hi hj hoi hoj h1 h2 h
 ·exact key hj hi hoj hoi h2 h1 (by omega)
theorem pA {n i:Nat} {oi:Oper} {S:dv} {L:Array Bool→cS→lW→Prop} (hi:ops[i]? =some oi) (hcalls:mo=true→kQ md ops=true) (hin:i<n)
 (htail:∀listed,HeadInv md ops n listed→listed.getD i true=false→∀t,n≤t→t∉Region.ready md ops listed)
 (hdone:∀listed F Z,L listed F Z→∀j∈Region.ready md ops listed,n≤j):
 ∀(f:Nat) (listed:Array Bool) (F:cS) (Z Z':lW),HeadInv md ops n listed→
  (∀j oj,ops[j]? =some oj→j≠i→listed.getD j true=false→(∀e∈oj.after,Region.binds md e=true→e.on≠i)→oi.apart ops oj=true)→
  i∈Region.ready md ops listed→fN P ops Env Rl mo Pn N F Z oi S Z'→
  kP P md ops Env Rl mo Pn N n L f (listed.setIfInBounds i true) (kj F oi.dst S) Z'→kP P md ops Env Rl mo Pn N n L (f+1) listed F Z:=by
 intro f
 induction f with
 |zero=>
  intro listed F Z Z' inv _ hr hy H
  have hun:=(mem_ready.1 hr).1
  refine⟨fun h=>(by rw[h] at hr;cases hr),fun j hj=>?_⟩
  have hjn:j<n:=by
   rcases Nat.lt_or_ge j n with h|h
   ·exact h
   ·exact absurd hj (htail listed inv hun j h)
  refine⟨hjn,?_⟩
  by_cases hji:j=i
  ·subst hji;exact⟨oi,S,Z',hi,hy,H⟩
  ·have:=hdone _ _ _ H j (ready_mono hj hji)
   omega
 |succ f ih=>
  intro listed F Z Z' inv hfree hr hy H
  have hun:=(mem_ready.1 hr).1
  refine⟨fun h=>(by rw[h] at hr;cases hr),fun j hj=>?_⟩
  have hjn:j<n:=by
   rcases Nat.lt_or_ge j n with h|h
   ·exact h
   ·exact absurd hj (htail listed inv hun j h)
  refine⟨hjn,?_⟩
  by_cases hji:j=i
  ·subst hji;exact⟨oi,S,Z',hi,hy,H⟩
  ·obtain⟨_,oj,R,Z'',hoj,hspec,hrest⟩:=H.2 j (ready_mono hj hji)
   obtain⟨hjun,oj',hoj',hall⟩:=mem_ready.1 hj
   obtain rfl:oj=oj':=Option.some.inj (hoj.symm.trans hoj')
   have hnot:∀e∈oj.after,Region.binds md e=true→e.on≠i:=fun e he hb heq=>by
    have h1:=hall e he hb
    rw[heq,getD_both hun] at h1
    cases h1
   obtain⟨h1,h2,h3⟩:=Oper.apart_spec (hfree j oj hoj hji hjun hnot)
   have hfree':∀k ok,ops[k]? =some ok→k≠i→(listed.setIfInBounds j true).getD k true=false→
    (∀e∈ok.after,Region.binds md e=true→e.on≠i)→oi.apart ops ok=true:=fun k ok hk hki hun hno=>by
    refine hfree k ok hk hki ?_ hno
    by_cases hjk:j=k
    ·subst hjk;exact hjun
    ·rw[getD_set_ne true hjk] at hun;exact hun
   obtain⟨Z1,hsj,hsi⟩:=fN.swap hy hspec h1 h3 fun⟨hm,hc⟩=>DC (hcalls hm) inv hr hj hi hoj hji hc
   refine⟨oj,R,Z1,hoj,hsj,ih (listed.setIfInBounds j true) _ _ _ (inv.set hj hjn) hfree' (ready_mono hr (Ne.symm hji)) hsi ?_⟩
   rw[Array.setIfInBounds_comm _ _ hji,←Fi F S R h2]
   exact hrest
theorem yl {n i:Nat} {oi:Oper} {S:dv} {L:Array Bool→cS→lW→Prop} (hi:ops[i]? =some oi) (hcalls:mo=true→kQ md ops=true)
 (hs:Region.sinkB md ops n=true) (hc:Region.chainB md ops n=true) (hn:n<ops.size) (hin:i<n)
 (hdone:∀listed F Z,L listed F Z→∀j∈Region.ready md ops listed,n≤j):
 ∀(f:Nat) (listed:Array Bool) (F:cS) (Z Z':lW),HeadInv md ops n listed→
  (∀j oj,ops[j]? =some oj→j≠i→listed.getD j true=false→(∀e∈oj.after,Region.binds md e=true→e.on≠i)→oi.apart ops oj=true)→
  i∈Region.ready md ops listed→fN P ops Env Rl mo Pn N F Z oi S Z'→
  kP P md ops Env Rl mo Pn N n L f (listed.setIfInBounds i true) (kj F oi.dst S) Z'→kP P md ops Env Rl mo Pn N n L (f+1) listed F Z:=
 pA hi hcalls hin (fun _ inv hun t ht=>tail_waits hs hc hn inv _ i rfl hin hun t ht) hdone
theorem pH {n g:Nat} {Lq:cS→lW→Prop} (hcalls:mo=true→kQ md ops=true) (hs:Region.sinkB md ops n=true) (hc:Region.chainB md ops n=true) (hn:n<ops.size):
 ∀(l:List Oper) (k:Nat) (listed:Array Bool) (F:cS) (Z:lW),(∀j,j<l.length→l[j]? =ops[k+j]?)→k+l.length=n→HeadInv md ops n listed→
 Region.lexHead md ops g l.length k listed=true→(∀t,cr Rl (F t))→dF Z→gK P ops Env Rl mo Pn N l F Z Lq→
 kP P md ops Env Rl mo Pn N n (fun listed' F' Z'=>Region.seqB md ops g n listed'=true∧Lq F' Z') l.length listed F Z
 |[],k,listed,F,Z,_,hk,_,hB,_,_,h=>by
  have:k=n:=by simpa using hk
  subst this
  exact⟨by simpa [Region.lexHead] using hB,h⟩
 |o::l,k,listed,F,Z,hl,hk,inv,hB,hF,hZ,h=>by
  have h0:ops[k]? =some o:=by simpa using(hl 0 (by simp)).symm
  simp only[List.length_cons,Region.lexHead,Bool.and_eq_true] at hB
  obtain⟨⟨hr,hf⟩,hB'⟩:=hB
  have hkn:k<n:=by simp only[List.length_cons] at hk;omega
  have hr':k∈Region.ready md ops listed:=by simpa using hr
  obtain⟨S,Z',hspec,hrest⟩:=h hF hZ
  exact yl h0 hcalls hs hc hn hkn (fun listed' F' Z' hL=>seqB_ready hL.1) l.length listed F Z Z' inv (Region.free_spec h0 hf) hr' hspec
   (pH hcalls hs hc hn l (k+1) _ _ _ (fun j hj=>by have:=hl (j+1) (by simp;omega);simpa [Nat.add_assoc,Nat.add_comm 1 j] using this) (by simp only[List.length_cons] at hk;omega) (inv.set hr' hkn) hB' (pG hF hspec.stable) (hspec.zst hZ) hrest)
theorem tB {l0:List (Nat×Value)} {id:Nat} {Q:Exit→Act→World→Prop} {a:Act} {D:List Deferred} {F:cS} {Z:lW} {w:World} {l:List Oper} (n N:Nat) (hE:jt Env Rl) (hk:jS l0 a) (hd0:∀o∈l.take n,∀d,o.dst=some d→∀p∈l0,p.1≠d) (hP:∀c a w,a.tmps.size=N→a.defers=D→jS l0 a→Pn c w→Q (.panic c) a w) (hcalls:mo=true→kQ .any l.toArray=true) (hm:P.follows .mixedOrders=true) (hB:Region.lexTailB .any l.toArray n=true)
 (hF:∀t,cr Rl (F t)) (hZ:dF Z) (hz:Z w) (he:Env w) (hsat:CH N D F a {w with drawn:=w.drawn+1})
 (h:gK P l.toArray Env Rl mo Pn N (l.take n) F Z (fun F Z=>∀a' w',Env w'→CH N D F a' w'→Z w'→wpList P l.toArray Q (l.drop n) a' w')):(Code.region id l.toArray true).wp P Q a w:=by
 have hdr:aH w {w with drawn:=w.drawn+1}:=⟨rfl,rfl,rfl,Nat.le_refl _,fun _ _=>rfl⟩
 simp only[Region.lexTailB,Bool.and_eq_true,decide_eq_true_eq] at hB
 obtain⟨⟨⟨⟨_,hn⟩,hs⟩,hc⟩,hlex⟩:=hB
 have hn':n<l.length:=by simpa using hn
 have htl:(l.take n).length=n:=by simp;omega
 have hdl:(l.drop n).length=l.toArray.size-n:=by simp
 have inv0:HeadInv .any l.toArray n (Array.replicate l.toArray.size false):=
  ⟨by simp,fun j oj _ hl=>(by rw[getD_replicate_false] at hl;cases hl),fun t _ ht=>getD_in (by simpa using ht) (getD_replicate_false _ _)⟩
 have H:=pH (md:=.any) (g:=l.toArray.size-n) hcalls hs hc hn (l.take n) 0 _ _ _ (fun j hj=>by
  have hj':j<n:=by rw[htl] at hj;exact hj
  simp[hj']) (by simpa using htl) inv0 (by rw[htl];exact hlex) hF hZ h
 refine wp_region_any hm ?_
 have:=ip (D:=D) (Q':=Q) (g:=l.toArray.size-n) hE hP (fun i o hin ho=>hd0 o (List.mem_of_getElem? (i:=i) (by rw[List.getElem?_take_of_lt hin];simpa using ho))) (fun listed F Z hL hF hZ a' w' he hsat hz=>by
  have:=wpAny_of_seq (md:=.any) (Q':=Q) (l.drop n) n listed a' w' (fun j=>by simp[List.getElem?_drop]) (by rw[hdl];exact hL.1) (hL.2 a' w' he hsat hz)
  rwa [hdl] at this) _ _ _ _ H hF hZ a {w with drawn:=w.drawn+1} (hE.keep _ _ he (hE.ext _ _ hdr)) hsat hk (hZ _ _ hz hdr)
 rw[htl,show n+(l.toArray.size-n)=l.toArray.size by omega] at this
 exact this
abbrev Jl:List PanicEntry→World→Prop:=fun _ _=>False
end
end Go.Rl
namespace Go.Rl
open Go.RowKit
abbrev Fr:=List (Nat×Value)
def lk:Fr→Nat→Option Value
 |[],_=>none
 |(t,v)::l,s=>match Nat.beq t s with|true=>some v|false=>lk l s
def ev (l:Fr):Operand→Option Value
 |.tmp t=>lk l t
 |.const v=>some v
 |.global g=>some (.pointer (some ⟨g,0,none⟩))
 |.func f=>some (.func (.func f) #[] #[])
structure At (N:Nat) (D:List Deferred) (l:Fr) (a:Act):Prop where
 size:a.tmps.size=N
 defers:a.defers=D
 at_:∀t v,lk l t=some v→a.tmps.getD t undef=v
theorem At.ev {N:Nat} {D:List Deferred} {l:Fr} {a:Act} (h:At N D l a) {x:Operand} {v:Value} (hx:ev l x=some v):a.eval x=v:=by
 cases x with
 |tmp t=>exact h.at_ t v hx
 |const c=>exact Option.some.inj hx
 |global g=>exact Option.some.inj hx
 |func f=>exact Option.some.inj hx
theorem jv (d:Nat) (v:Value) (l:Fr):lk ((d,v)::l) d=some v:=by simp[lk]
theorem lX {d t:Nat} (v:Value) (l:Fr) (h:t≠d):lk ((d,v)::l) t=lk l t:=by
 have:Nat.beq d t=false:=by
  cases hb:Nat.beq d t
  ·rfl
  ·exact absurd (Nat.eq_of_beq_eq_true hb).symm h
 simp[lk,this]
theorem At.put {N:Nat} {D:List Deferred} {l:Fr} {a:Act} (h:At N D l a) {d:Nat} (hd:Nat.blt d N=true) (v:Value):At N D ((d,v)::l) (a.put (some d) v):=by
 have hlt:d<N:=by simpa [Nat.blt_eq] using hd
 refine⟨by simp[Act.put,h.size],h.defers,fun t u ht=>?_⟩
 by_cases htd:t=d
 ·subst htd
  rw[jv] at ht
  obtain rfl:=Option.some.inj ht
  simp[Act.put,h.size,hlt]
 ·rw[lX v l htd] at ht
  have:=h.at_ t u ht
  rw[←this]
  simp[Act.put,Array.getElem?_setIfInBounds_ne (Ne.symm htd)]
def zU:Fr→Fr→Prop
 |[],_=>True
 |(t,v)::l',l=>lk l t=some v∧zU l' l
theorem Fj:∀{l' l:Fr},zU l' l→∀t v,lk l' t=some v→lk l t=some v
 |[],_,_,t,v,h=>by simp[lk] at h
 |(s,u)::l',l,hs,t,v,h=>by
  by_cases hts:t=s
  ·subst hts
   rw[jv] at h
   obtain rfl:=Option.some.inj h
   exact hs.1
  ·rw[lX u l' hts] at h
   exact Fj hs.2 t v h
theorem At.weak {N:Nat} {D:List Deferred} {l l':Fr} {a:Act} (h:At N D l a) (hs:zU l' l):At N D l' a:=⟨h.size,h.defers,fun t v ht=>h.at_ t v (Fj hs t v ht)⟩
abbrev iq:=Exit→Act→World→Prop
section
variable {P:Program} {ops:Array Oper} {Q:iq} {N:Nat} {D:List Deferred}
def cz (P:Program) (ops:Array Oper) (Q:iq) (N:Nat) (D:List Deferred) (l:Fr) (w:World) (os:List Oper):Prop:=∀a,At N D l a→wpList P ops Q os a w
def dq (P:Program) (Q:iq) (N:Nat) (D:List Deferred) (l:Fr) (w:World) (c:Code):Prop:=∀a,At N D l a→c.wp P Q a w
def ia (Q:iq) (N:Nat) (D:List Deferred) (l:Fr) (w:World):Prop:=∀a,At N D l a→Q .normal a w
def gC (Q:iq) (N:Nat) (D:List Deferred) (l:Fr) (w:World) (e:Exit):Prop:=∀a,At N D l a→Q e a w
section code
variable {l l':Fr} {w:World}
theorem dq.weak {c:Code} (hs:zU l' l) (h:dq P Q N D l' w c):dq P Q N D l w c:=fun a ha=>h a (ha.weak hs)
theorem af {x y:Code} (h:dq P (Exit.then (y.wp P Q) Q) N D l w x):dq P Q N D l w (.seq x y):=fun a ha=>wp_seq (h a ha)
theorem aC (h:ia Q N D l w):dq P Q N D l w .skip:=fun a ha=>wp_skip (h a ha)
theorem ab {y:Code} {Q':iq} (h:dq P Q N D l w y):ia (Exit.then (y.wp P Q) Q') N D l w:=fun a ha=>h a ha
theorem aW {id:Nat} (h:ia Q N D l w):ia (Exit.inBlock id Q) N D l w:=fun a ha=>h a ha
theorem aG {id:Nat} {c:Code} (h:dq P (Exit.inBlock id Q) N D l w c):dq P Q N D l w (.block id c):=fun a ha=>wp_block (h a ha)
theorem bc {id:Nat} (h:gC Q N D l w (.exit id)):dq P Q N D l w (.exit id):=fun a ha=>wp_exit (h a ha)
theorem aK {K:Act→World→Prop} {id:Nat} (h:gC Q N D l w (.exit id)):gC (Exit.then K Q) N D l w (.exit id):=fun a ha=>h a ha
theorem bf {id:Nat} (h:ia Q N D l w):gC (Exit.inBlock id Q) N D l w (.exit id):=fun a ha=>by
 show(if id=id then Q .normal a w else Q (.exit id) a w)
 rw[if_pos rfl]
 exact h a ha
theorem wr {id i:Nat} (hne:Nat.beq i id=false) (h:gC Q N D l w (.exit i)):gC (Exit.inBlock id Q) N D l w (.exit i):=fun a ha=>by
 show(if i=id then Q .normal a w else Q (.exit i) a w)
 rw[if_neg (fun e=>by subst e;simp at hne)]
 exact h a ha
theorem aw (h:gC Q N D l w .ret):dq P Q N D l w .ret:=fun a ha=>wp_ret (h a ha)
theorem az {K:Act→World→Prop} (h:gC Q N D l w .ret):gC (Exit.then K Q) N D l w .ret:=fun a ha=>h a ha
theorem ba {id:Nat} (h:gC Q N D l w .ret):gC (Exit.inBlock id Q) N D l w .ret:=fun a ha=>h a ha
theorem CI {fn:Func} {R:Ending→World→Prop} (hr:fn.results= #[]) (h:R (.returned (.tuple #[])) w):gC (bodyPost P fn R) N [] l w .ret:=fun a ha=>
 ⟨ha.defers,_,by simp[results,hr],h⟩
theorem au {fn:Func} {R:Ending→World→Prop} {t:Tmp} {v:Value} (hr:fn.results= #[.tmp t]) (hv:lk l t=some v) (h:R (.returned v) w):gC (bodyPost P fn R) N [] l w .ret:=fun a ha=>
 ⟨ha.defers,v,by simp only[results,hr];simp[←ha.at_ t v hv],h⟩
theorem bt {fn:Func} {R:Ending→World→Prop} {t s:Tmp} {v u:Value} (hr:fn.results= #[.tmp t,.tmp s]) (hv:lk l t=some v) (hu:lk l s=some u) (h:R (.returned (.tuple #[v,u])) w):gC (bodyPost P fn R) N [] l w .ret:=fun a ha=>
 ⟨ha.defers,.tuple #[v,u],by simp only[results,hr];simp[←ha.at_ t v hv,←ha.at_ s u hu],h⟩
theorem ku {fn:Func} {R:Ending→World→Prop} {t s r:Tmp} {v u z:Value} (hr:fn.results= #[.tmp t,.tmp s,.tmp r]) (hv:lk l t=some v) (hu:lk l s=some u) (hz:lk l r=some z) (h:R (.returned (.tuple #[v,u,z])) w):gC (bodyPost P fn R) N [] l w .ret:=fun a ha=>
 ⟨ha.defers,.tuple #[v,u,z],by simp only[results,hr];simp[←ha.at_ t v hv,←ha.at_ s u hu,←ha.at_ r z hz],h⟩
theorem jw {fn:Func} {R:Ending→World→Prop} (hr:fn.results= #[]) (h:R (.returned (.tuple #[])) w):ia (bodyPost P fn R) N [] l w:=fun a ha=>
 ⟨ha.defers,_,by simp[results,hr],h⟩
theorem fJ {c:Operand} {x y:Code} {b:Bool} (hc:ev l c=some (.bool b)) (ht:b=true→dq P Q N D l w x) (hf:b=false→dq P Q N D l w y):dq P Q N D l w (.cond c x y):=fun a ha=>
 wp_cond_split (ha.ev hc) (fun h=>ht h a ha) (fun h=>hf h a ha)
theorem bu {c:Operand} {x y:Code} {p:Prop} {dp:Decidable p} (hc:ev l c=some (.bool (@decide p dp))) (ht:p→dq P Q N D l w x) (hf:¬p→dq P Q N D l w y):dq P Q N D l w (.cond c x y):=
 fJ hc (fun h=>ht (of_decide_eq_true h)) (fun h=>hf (of_decide_eq_false h))
theorem bm {c:Operand} {x y:Code} (hc:ev l c=some (.bool true)) (ht:dq P Q N D l w x):dq P Q N D l w (.cond c x y):=fJ hc (fun _=>ht) (fun h=>by cases h)
theorem cN {c:Operand} {x y:Code} (hc:ev l c=some (.bool false)) (hf:dq P Q N D l w y):dq P Q N D l w (.cond c x y):=fJ hc (fun h=>by cases h) (fun _=>hf)
theorem ew {c:Code} {α:Type} (fr:α→Fr) (H:α→World→Prop) (h:dq P (Exit.then (fun a w'=>∃x,At N D (fr x) a∧H x w') Q) N D l w c) (k:∀x w',H x w'→ia Q N D (fr x) w'):dq P Q N D l w c:=fun a ha=>
 wp_mono (h a ha) fun e a' w' hq=>by
  cases e with
  |normal=>
   obtain⟨x,hx,hH⟩:=hq
   exact k x w' hH a' hx
  |_=>exact hq
theorem cf {α:Type} {fr:α→Fr} {H:α→World→Prop} (x:α) (hs:zU (fr x) l) (hH:H x w):ia (Exit.then (fun a w'=>∃x,At N D (fr x) a∧H x w') Q) N D l w:=fun _ ha=>⟨x,ha.weak hs,hH⟩
theorem ck {c:Code} {α:Type} (fr:α→Fr) (H:α→World→Prop) (mu:α→Nat) (x0:α) (hs:zU (fr x0) l) (h0:H x0 w)
 (round:∀x w',H x w'→dq P (Exit.then (fun a w''=>∃y,At N D (fr y) a∧H y w''∧mu y<mu x) Q) N D (fr x) w' c):dq P Q N D l w (.loop c):=fun a ha=>by
 intro b k cs
 have go:∀(n:Nat) (x:α) (a:Act) (w:World),mu x<n→At N D (fr x) a→H x w→
  ∃e a' w',Q e a' w'∧Arrives P (lone (b.at a (.code c::.inLoop c::k)) cs w) b k cs e a' w':=by
  intro n
  induction n with
  |zero=>intro x a w hlt;omega
  |succ n ih=>
   intro x a w hlt hat hH
   obtain⟨e,a1,w1,hq,harr⟩:=round x w hH a hat b (.inLoop c::k) cs
   cases e with
   |normal=>
    obtain⟨y,hy,hHy,hm⟩:=hq
    obtain⟨e2,a2,w2,hq2,harr2⟩:=ih y a1 w1 (by omega) hy hHy
    exact⟨e2,a2,w2,hq2,.of_steps (Steps.trans harr (.one step_inLoop)) harr2⟩
   |exit id=>exact⟨_,a1,w1,hq,.pass (x:=.inLoop c) rfl (fun _ _=>.inl (by simp)) harr⟩
   |goto l=>exact⟨_,a1,w1,hq,.pass (x:=.inLoop c) rfl (fun _ _=>.inl (by simp)) harr⟩
   |ret=>exact⟨_,a1,w1,hq,.pass (x:=.inLoop c) rfl (fun _ _=>.inl (by simp)) harr⟩
   |panic ch=>exact⟨_,a1,w1,hq,.pass (x:=.inLoop c) rfl (fun _ _=>.inl (by simp)) harr⟩
   |outgrown=>exact⟨_,a1,w1,hq,.pass (x:=.inLoop c) rfl (fun _ _=>.inl (by simp)) harr⟩
 obtain⟨e,a',w',hq,harr⟩:=go (mu x0+1) x0 a w (by omega) (ha.weak hs) h0
 exact⟨e,a',w',hq,.of_steps (.one step_loop) harr⟩
theorem bS {α:Type} {fr:α→Fr} {H:α→World→Prop} {mu:α→Nat} {m:Nat} (y:α) (hs:zU (fr y) l) (hH:H y w) (hm:mu y<m):ia (Exit.then (fun a w''=>∃y,At N D (fr y) a∧H y w''∧mu y<m) Q) N D l w:=fun _ ha=>⟨y,ha.weak hs,hH,hm⟩
theorem aa {id:Nat} {os:List Oper} (h:cz P os.toArray Q N D l w os):dq P Q N D l w (.region id os.toArray false):=fun a ha=>wp_region_lit (h a ha)
theorem ag (h:ia Q N D l w):cz P ops Q N D l w []:=fun a ha=>h a ha
end code
def dy:Nat→List Value→Fr
 |_,[]=>[]
 |i,v::vs=>(i,v)::dy (i+1) vs
theorem wt:∀(vs:List Value) (i t:Nat) (v:Value),lk (dy i vs) t=some v→i≤t∧vs[t-i]? =some v
 |[],_,_,_,h=>by simp[dy,lk] at h
 |u::vs,i,t,v,h=>by
  by_cases hti:t=i
  ·subst hti
   rw[dy,jv] at h
   exact⟨Nat.le_refl _,by simpa using h⟩
  ·rw[dy,lX u _ hti] at h
   obtain⟨h1,h2⟩:=wt vs (i+1) t v h
   refine⟨by omega,?_⟩
   rw[show t-i=(t-(i+1))+1 by omega]
   simpa using h2
theorem enter {f:FuncId} {fn:Func} {c:Code} {vs:List Value} {w:World} {R:Ending→World→Prop} (hf:P.funcs[f]? =some fn) (hb:fn.body=some c) (hN:fn.ntmps=N) (hle:Nat.ble vs.length N=true)
 (h:dq P (bodyPost P fn R) N [] (dy 0 vs) w c):Calls P f vs.toArray w R:=by
 have hle':vs.length≤N:=by simpa using hle
 refine calls_of_wp hf hb (h _ ⟨?_,rfl,fun t v ht=>?_⟩)
 ·simp[hN];omega
 ·obtain⟨_,h2⟩:=wt vs 0 t v ht
  have h2':vs[t]? =some v:=by simpa using h2
  have hlt:t<vs.length:=by
   rcases Nat.lt_or_ge t vs.length with h|h
   ·exact h
   ·rw[List.getElem?_eq_none h] at h2';cases h2'
  rw[List.getElem?_eq_getElem hlt] at h2'
  simpa [Array.getElem?_append,hlt] using h2'
section ops
variable {l:Fr} {w w':World} {rest:List Oper} {d:Nat} {op:Op} {ty:TypeId} {pos:String} {aft:Array Edge}
def tb (l:Fr) (ρ:Operand→Value):Prop:=∀x v,ev l x=some v→ρ x=v
theorem ib {v:Value} (hd:Nat.blt d N=true) (hrun:∀ρ,tb l ρ→(execOp ρ ⟨some d,op,ty,pos,aft,none⟩).run P w=.ok (.value v) w') (k:cz P ops Q N D ((d,v)::l) w' rest):
 cz P ops Q N D l w (⟨some d,op,ty,pos,aft,none⟩::rest):=fun a ha=>by
 refine wpList_plain E fun K hK=>?_
 unfold Oper.wp
 rw[hrun a.eval fun x v hx=>ha.ev hx]
 exact hK _ _ (k _ (ha.put hd v))
theorem Kz {op:Op} (hrun:∀ρ,tb l ρ→(execOp ρ ⟨none,op,ty,pos,aft,none⟩).run P w=.ok .skip w') (k:cz P ops Q N D l w' rest):
 cz P ops Q N D l w (⟨none,op,ty,pos,aft,none⟩::rest):=fun a ha=>by
 refine wpList_plain E fun K hK=>?_
 unfold Oper.wp
 rw[hrun a.eval fun x v hx=>ha.ev hx]
 exact hK _ _ (k _ ha)
def gv (ops:Array Oper) (l:Fr) (j:Nat):Option Value:=((ops[j]?).bind (·.dst)).bind (lk l)
theorem lY {a:Act} (ha:At N D l a) {j:Nat} {b:Bool} (h:gv ops l j=some (.bool b)):yielded ops a.tmps j=some b:=by
 unfold gv at h
 unfold yielded
 cases hd:(ops[j]?).bind (·.dst) with
 |none=>simp[hd] at h
 |some t=>
  simp only[hd,Option.bind_some] at h⊢
  have h1:=ha.at_ t _ h
  have:a.tmps[t]? =some (.bool b):=by
   cases hx:a.tmps[t]? with
   |none=>
    rw[Array.getD_eq_getD_getElem?,hx] at h1
    simp[undef] at h1
   |some u=>
    rw[Array.getD_eq_getD_getElem?,hx] at h1
    simpa using h1
  rw[this]
theorem ak {dst:Option Tmp} {j:Nat} {b:Bool} (hg:gv ops l j=some (.bool b)) (k:cz P ops Q N D l w (⟨dst,op,ty,pos,aft,none⟩::rest)):cz P ops Q N D l w (⟨dst,op,ty,pos,aft,some (j,b)⟩::rest):=fun a ha=>by
 have h:=k a ha
 have hw1:Region.wanted ⟨dst,op,ty,pos,aft,none⟩ (yielded ops a.tmps)=true:=rfl
 have hw2:Region.wanted ⟨dst,op,ty,pos,aft,some (j,b)⟩ (yielded ops a.tmps)=true:=by simp[Region.wanted,lY ha hg]
 unfold wpList at h⊢
 rw[if_pos hw1] at h
 rw[if_pos hw2]
 exact h
theorem am {j:Nat} {b b':Bool} (hd:Nat.blt d N=true) (hg:gv ops l j=some (.bool b')) (hb:b'= !b) (k:cz P ops Q N D ((d,undef)::l) w rest):cz P ops Q N D l w (⟨some d,op,ty,pos,aft,some (j,b)⟩::rest):=fun a ha=>by
 have hw2:Region.wanted ⟨some d,op,ty,pos,aft,some (j,b)⟩ (yielded ops a.tmps)=false:=by
  subst hb;simp[Region.wanted,lY ha hg]
 unfold wpList
 rw[if_neg (by rw[hw2];simp)]
 exact k _ (ha.put hd undef)
theorem i5 {j:Nat} {b:Bool} {t:Tmp} (hd:Nat.blt d N=true) (ht:(ops[j]?).bind (·.dst)=some t) (hg:lk l t=some undef) (k:cz P ops Q N D ((d,undef)::l) w rest):cz P ops Q N D l w (⟨some d,op,ty,pos,aft,some (j,b)⟩::rest):=fun a ha=>by
 have h1:=ha.at_ t _ hg
 have hw2:Region.wanted ⟨some d,op,ty,pos,aft,some (j,b)⟩ (yielded ops a.tmps)=false:=by
  have:yielded ops a.tmps j=none:=by
   unfold yielded
   rw[ht,Option.bind_some]
   cases hx:a.tmps[t]? with
   |none=>rfl
   |some u=>
    rw[Array.getD_eq_getD_getElem?,hx] at h1
    simp only[Option.getD_some] at h1
    subst h1
    rfl
  simp[Region.wanted,this]
 unfold wpList
 rw[if_neg (by rw[hw2];simp)]
 exact k _ (ha.put hd undef)
theorem ae {x:Operand} {v:Value} (hx:ev l x=some v) (hd:Nat.blt d N=true) (k:cz P ops Q N D ((d,v)::l) w rest):cz P ops Q N D l w (⟨some d,.move x,ty,pos,aft,none⟩::rest):=
 ib hd (fun ρ hρ=>by show Result.ok (Next.value (ρ x)) w=_;rw[hρ x v hx]) k
theorem ac {x:Operand} {v:Value} (hx:ev l x=some v) (hd:Nat.blt d N=true) (k:cz P ops Q N D ((d,v)::l) w rest):cz P ops Q N D l w (⟨some d,.assign x,ty,pos,aft,none⟩::rest):=
 ib hd (fun ρ hρ=>by show Result.ok (Next.value (ρ x)) w=_;rw[hρ x v hx]) k
theorem aq {c x y:Operand} {u:Value} (hc:ev l c=some (.bool true)) (hx:ev l x=some u) (hd:Nat.blt d N=true)
 (k:cz P ops Q N D ((d,u)::l) w rest):cz P ops Q N D l w (⟨some d,.pick c x y,ty,pos,aft,none⟩::rest):=
 ib hd (fun ρ hρ=>by simp[execOp,hρ c _ hc,asBool,hρ x _ hx]) k
theorem aI {c x y:Operand} {v:Value} (hc:ev l c=some (.bool false)) (hy:ev l y=some v) (hd:Nat.blt d N=true)
 (k:cz P ops Q N D ((d,v)::l) w rest):cz P ops Q N D l w (⟨some d,.pick c x y,ty,pos,aft,none⟩::rest):=
 ib hd (fun ρ hρ=>by simp[execOp,hρ c _ hc,asBool,hρ y _ hy]) k
def bin (op:BinOp) (t:TypeId) (x y:Operand) (a b:Value):Sem Value:=do eqGuard op t x y a b;binOp op t a b
theorem al {b:BinOp} {t t2:TypeId} {x y:Operand} {u v r:Value} (hx:ev l x=some u) (hy:ev l y=some v) (hd:Nat.blt d N=true) (hrun:(bin b t x y u v).run P w=.ok r w)
 (k:cz P ops Q N D ((d,r)::l) w rest):cz P ops Q N D l w (⟨some d,.binOp b t x y t2,ty,pos,aft,none⟩::rest):=
 ib hd (fun ρ hρ=>by
  have:execOp ρ ⟨some d,.binOp b t x y t2,ty,pos,aft,none⟩=(do pure (Next.value (←bin b t x y (ρ x) (ρ y))):Sem Next):=rfl
  rw[this,hρ x _ hx,hρ y _ hy,Sem.run_bind,hrun];rfl) k
theorem Bn {x:Operand} {u r:Value} {f:Value→Sem Value} (he:∀ρ,execOp ρ ⟨some d,op,ty,pos,aft,none⟩=(do pure (Next.value (←f (ρ x))):Sem Next)) (hx:ev l x=some u) (hd:Nat.blt d N=true) (hrun:(f u).run P w=.ok r w')
 (k:cz P ops Q N D ((d,r)::l) w' rest):cz P ops Q N D l w (⟨some d,op,ty,pos,aft,none⟩::rest):=
 ib hd (fun ρ hρ=>by rw[he,hρ x _ hx,Sem.run_bind,hrun];rfl) k
theorem bw {t:TypeId} {x:Operand} {u r:Value} {b:UnOp} (hx:ev l x=some u) (hd:Nat.blt d N=true) (hrun:(Op.unary b u).run P w=.ok r w)
 (k:cz P ops Q N D ((d,r)::l) w rest):cz P ops Q N D l w (⟨some d,.unOp b t x,ty,pos,aft,none⟩::rest):=Bn (f:=Op.unary b) (fun _=>rfl) hx hd hrun k
theorem bb {s t:TypeId} {x:Operand} {u r:Value} (hx:ev l x=some u) (hd:Nat.blt d N=true) (hrun:(convert s t u).run P w=.ok r w')
 (k:cz P ops Q N D ((d,r)::l) w' rest):cz P ops Q N D l w (⟨some d,.convert s t x,ty,pos,aft,none⟩::rest):=Bn (f:=convert s t) (fun _=>rfl) hx hd hrun k
theorem aj {t:TypeId} {x:Operand} {u r:Value} (hx:ev l x=some u) (hd:Nat.blt d N=true) (hrun:(Instr.loadAt t u).run P w=.ok r w)
 (k:cz P ops Q N D ((d,r)::l) w rest):cz P ops Q N D l w (⟨some d,.load t x,ty,pos,aft,none⟩::rest):=Bn (f:=Instr.loadAt t) (fun _=>rfl) hx hd hrun k
theorem ay {t:TypeId} {x y:Operand} {u v:Value} (hx:ev l x=some u) (hy:ev l y=some v) (hrun:(Instr.storeAt t u v).run P w=.ok () w')
 (k:cz P ops Q N D l w' rest):cz P ops Q N D l w (⟨none,.store t x y,ty,pos,aft,none⟩::rest):=
 Kz (fun ρ hρ=>by
  have:execOp ρ ⟨none,.store t x y,ty,pos,aft,none⟩=(do Instr.storeAt t (ρ x) (ρ y);pure Next.skip:Sem Next):=rfl
  rw[this,hρ x _ hx,hρ y _ hy,Sem.run_bind,hrun];rfl) k
theorem ah {s:TypeId} {x:Operand} {n:Nat} {u r:Value} (hx:ev l x=some u) (hd:Nat.blt d N=true) (hrun:(Instr.fieldAt s u n).run P w=.ok r w)
 (k:cz P ops Q N D ((d,r)::l) w rest):cz P ops Q N D l w (⟨some d,.fieldAddr s x n,ty,pos,aft,none⟩::rest):=Bn (f:=fun u=>Instr.fieldAt s u n) (fun _=>rfl) hx hd hrun k
theorem aA {x:Operand} {n:Nat} {u r:Value} (hx:ev l x=some u) (hd:Nat.blt d N=true) (hrun:(Instr.extract u n).run P w=.ok r w)
 (k:cz P ops Q N D ((d,r)::l) w rest):cz P ops Q N D l w (⟨some d,.extract x n,ty,pos,aft,none⟩::rest):=Bn (f:=fun u=>Instr.extract u n) (fun _=>rfl) hx hd hrun k
theorem cw {t:TypeId} {x:Operand} {u r:Value} (hx:ev l x=some u) (hd:Nat.blt d N=true) (hrun:(Instr.box t u).run P w=.ok r w')
 (k:cz P ops Q N D ((d,r)::l) w' rest):cz P ops Q N D l w (⟨some d,.box t x,ty,pos,aft,none⟩::rest):=Bn (f:=Instr.box t) (fun _=>rfl) hx hd hrun k
theorem oW {t:TypeId} {x:Operand} {u r:Value} (hx:ev l x=some u) (hd:Nat.blt d N=true) (hrun:(Instr.arrayAt t u).run P w=.ok r w')
 (k:cz P ops Q N D ((d,r)::l) w' rest):cz P ops Q N D l w (⟨some d,.sliceToArrayPointer t x,ty,pos,aft,none⟩::rest):=Bn (f:=Instr.arrayAt t) (fun _=>rfl) hx hd hrun k
theorem aS {t:TypeId} {r:Value} (hd:Nat.blt d N=true) (hrun:(Instr.alloc t true (.tuple #[])).run P w=.ok r w')
 (k:cz P ops Q N D ((d,r)::l) w' rest):cz P ops Q N D l w (⟨some d,.alloc t,ty,pos,aft,none⟩::rest):=
 ib hd (fun ρ _=>by
  have:execOp ρ ⟨some d,.alloc t,ty,pos,aft,none⟩=(do pure (Next.value (←Instr.alloc t true (.tuple #[]))):Sem Next):=rfl
  rw[this,Sem.run_bind,hrun];rfl) k
theorem ar {t:TypeId} {x y:Operand} {u v r:Value} (hx:ev l x=some u) (hy:ev l y=some v) (hd:Nat.blt d N=true) (hrun:(Instr.indexAt t u v).run P w=.ok r w)
 (k:cz P ops Q N D ((d,r)::l) w rest):cz P ops Q N D l w (⟨some d,.indexAddr t x y,ty,pos,aft,none⟩::rest):=
 ib hd (fun ρ hρ=>by
  have:execOp ρ ⟨some d,.indexAddr t x y,ty,pos,aft,none⟩=(do pure (Next.value (←Instr.indexAt t (ρ x) (ρ y))):Sem Next):=rfl
  rw[this,hρ x _ hx,hρ y _ hy,Sem.run_bind,hrun];rfl) k
theorem lZ {t:TypeId} {x y:Operand} {u v r:Value} (hx:ev l x=some u) (hy:ev l y=some v) (hd:Nat.blt d N=true) (hrun:(Instr.index t u v).run P w=.ok r w)
 (k:cz P ops Q N D ((d,r)::l) w rest):cz P ops Q N D l w (⟨some d,.index t x y,ty,pos,aft,none⟩::rest):=
 ib hd (fun ρ hρ=>by
  have:execOp ρ ⟨some d,.index t x y,ty,pos,aft,none⟩=(do pure (Next.value (←Instr.index t (ρ x) (ρ y))):Sem Next):=rfl
  rw[this,hρ x _ hx,hρ y _ hy,Sem.run_bind,hrun];rfl) k
theorem ie {t:TypeId} {x y:Operand} {u v r:Value} (hx:ev l x=some u) (hy:ev l y=some v) (hd:Nat.blt d N=true) (hrun:(Instr.makeSlice t u v).run P w=.ok r w')
 (k:cz P ops Q N D ((d,r)::l) w' rest):cz P ops Q N D l w (⟨some d,.makeSlice t x y,ty,pos,aft,none⟩::rest):=
 ib hd (fun ρ hρ=>by
  have:execOp ρ ⟨some d,.makeSlice t x y,ty,pos,aft,none⟩=(do pure (Next.value (←Instr.makeSlice t (ρ x) (ρ y))):Sem Next):=rfl
  rw[this,hρ x _ hx,hρ y _ hy,Sem.run_bind,hrun];rfl) k
def HD (l:Fr):Option Operand→Option (Option Value)
 |none=>some none
 |some x=>(ev l x).map some
theorem rN {ρ:Operand→Value} (hρ:tb l ρ):∀{x:Option Operand} {v:Option Value},HD l x=some v→x.map ρ=v
 |none,v,h=>by simpa [HD] using h
 |some x,v,h=>by
  cases he:ev l x with
  |none=>simp[HD,he] at h
  |some u=>
   simp only[HD,he,Option.map_some,Option.some.injEq] at h
   subst h
   simp[hρ x u he]
theorem dm {t:TypeId} {x:Operand} {lo hi mx:Option Operand} {u r:Value} {a b c:Option Value} (hx:ev l x=some u) (hlo:HD l lo=some a) (hhi:HD l hi=some b) (hmx:HD l mx=some c) (hd:Nat.blt d N=true)
 (hrun:(Instr.sliceAt t u a b c).run P w=.ok r w) (k:cz P ops Q N D ((d,r)::l) w rest):cz P ops Q N D l w (⟨some d,.slice t x lo hi mx,ty,pos,aft,none⟩::rest):=
 ib hd (fun ρ hρ=>by
  have:execOp ρ ⟨some d,.slice t x lo hi mx,ty,pos,aft,none⟩=(do pure (Next.value (←Instr.sliceAt t (ρ x) (lo.map ρ) (hi.map ρ) (mx.map ρ))):Sem Next):=rfl
  rw[this,hρ x _ hx,rN hρ hlo,rN hρ hhi,rN hρ hmx,Sem.run_bind,hrun];rfl) k
def vV (l:Fr):List Operand→Option (List Value)
 |[]=>some []
 |x::xs=>match ev l x,vV l xs with|some v,some vs=>some (v::vs)|_,_=>none
theorem jT {ρ:Operand→Value} (hρ:tb l ρ):∀{xs:List Operand} {vs:List Value},vV l xs=some vs→xs.map ρ=vs
 |[],vs,h=>by simpa [vV] using h
 |x::xs,vs,h=>by
  cases h1:ev l x with
  |none=>simp[vV,h1] at h
  |some v=>
   cases h2:vV l xs with
   |none=>simp[vV,h1,h2] at h
   |some vs'=>
    simp only[vV,h1,h2,Option.some.injEq] at h
    subst h
    simp[hρ x v h1,jT hρ h2]
def HE (l:Fr):List (Nat×Operand)→Option (List (Nat×Value))
 |[]=>some []
 |(i,x)::xs=>match ev l x,HE l xs with|some v,some vs=>some ((i,v)::vs)|_,_=>none
theorem Bo {ρ:Operand→Value} (hρ:tb l ρ):∀{xs:List (Nat×Operand)} {vs:List (Nat×Value)},HE l xs=some vs→xs.map (fun(i,x)=>(i,ρ x))=vs
 |[],vs,h=>by simpa [HE] using h
 |(i,x)::xs,vs,h=>by
  cases h1:ev l x with
  |none=>simp[HE,h1] at h
  |some v=>
   cases h2:HE l xs with
   |none=>simp[HE,h1,h2] at h
   |some vs'=>
    simp only[HE,h1,h2,Option.some.injEq] at h
    subst h
    simp[hρ x v h1,Bo hρ h2]
theorem bC {t:TypeId} {ps:List (Nat×Operand)} {vs:List (Nat×Value)} {r:Value} (hp:HE l ps=some vs) (hd:Nat.blt d N=true) (hrun:(Instr.build t vs.toArray).run P w=.ok r w)
 (k:cz P ops Q N D ((d,r)::l) w rest):cz P ops Q N D l w (⟨some d,.build t ps.toArray,ty,pos,aft,none⟩::rest):=
 ib hd (fun ρ hρ=>by
  have:execOp ρ ⟨some d,.build t ps.toArray,ty,pos,aft,none⟩=(do pure (Next.value (←Instr.build t (ps.toArray.map fun(i,x)=>(i,ρ x)))):Sem Next):=rfl
  rw[this,List.map_toArray,Bo hρ hp,Sem.run_bind,hrun];rfl) k
theorem aF {t:TypeId} {n:Nat} {ps:List (Nat×Operand)} {vs:List (Nat×Value)} {r:Value} (hp:HE l ps=some vs) (hd:Nat.blt d N=true) (hrun:(Instr.buildSlice t n vs.toArray).run P w=.ok r w')
 (k:cz P ops Q N D ((d,r)::l) w' rest):cz P ops Q N D l w (⟨some d,.buildSlice t n ps.toArray,ty,pos,aft,none⟩::rest):=
 ib hd (fun ρ hρ=>by
  have:execOp ρ ⟨some d,.buildSlice t n ps.toArray,ty,pos,aft,none⟩=(do pure (Next.value (←Instr.buildSlice t n (ps.toArray.map fun(i,x)=>(i,ρ x)))):Sem Next):=rfl
  rw[this,List.map_toArray,Bo hρ hp,Sem.run_bind,hrun];rfl) k
theorem aE {x:Operand} {a:Addr} (hx:ev l x=some (.pointer (some a))) (hd:Nat.blt d N=true) (k:cz P ops Q N D ((d,.pointer (some a))::l) w rest):cz P ops Q N D l w (⟨some d,.nilCheck x,ty,pos,aft,none⟩::rest):=
 ib hd (fun ρ hρ=>by simp[execOp,hρ x _ hx]) k
theorem aT {xs:List Operand} {vs:List Value} {ts:Array TypeId} {r:Value} (hp:vV l xs=some vs) (hd:Nat.blt d N=true) (hrun:(Builtin.append_ ts ty vs.toArray).run P w=.ok r w')
 (k:cz P ops Q N D ((d,r)::l) w' rest):cz P ops Q N D l w (⟨some d,.call {callee:=.builtin .append,args:=xs.toArray,argTypes:=ts},ty,pos,aft,none⟩::rest):=
 ib hd (fun ρ hρ=>by
  simp only[execOp,resolve,invoke,builtin,Sem.run_bind,Sem.run_pure,Result.andThen_ok,List.map_toArray,jT hρ hp,hrun]) k
theorem aV {xs:List Operand} {vs:List Value} {ts:Array TypeId} {r:Value} (hp:vV l xs=some vs) (hd:Nat.blt d N=true) (hrun:(Builtin.len_ ts ty vs.toArray).run P w=.ok r w)
 (k:cz P ops Q N D ((d,r)::l) w rest):cz P ops Q N D l w (⟨some d,.call {callee:=.builtin .len,args:=xs.toArray,argTypes:=ts},ty,pos,aft,none⟩::rest):=
 ib hd (fun ρ hρ=>by
  simp only[execOp,resolve,invoke,builtin,Sem.run_bind,Sem.run_pure,Result.andThen_ok,List.map_toArray,jT hρ hp,hrun]) k
theorem KA {xs:List Operand} {vs:List Value} {ts:Array TypeId} {r:Value} (hp:vV l xs=some vs) (hd:Nat.blt d N=true) (hrun:(Builtin.min_ ts ty vs.toArray).run P w=.ok r w)
 (k:cz P ops Q N D ((d,r)::l) w rest):cz P ops Q N D l w (⟨some d,.call {callee:=.builtin .min,args:=xs.toArray,argTypes:=ts},ty,pos,aft,none⟩::rest):=
 ib hd (fun ρ hρ=>by
  simp only[execOp,resolve,invoke,builtin,Sem.run_bind,Sem.run_pure,Result.andThen_ok,List.map_toArray,jT hρ hp,hrun]) k
theorem KB {xs:List Operand} {vs:List Value} {ts:Array TypeId} {r:Value} (hp:vV l xs=some vs) (hd:Nat.blt d N=true) (hrun:(Builtin.max_ ts ty vs.toArray).run P w=.ok r w)
 (k:cz P ops Q N D ((d,r)::l) w rest):cz P ops Q N D l w (⟨some d,.call {callee:=.builtin .max,args:=xs.toArray,argTypes:=ts},ty,pos,aft,none⟩::rest):=
 ib hd (fun ρ hρ=>by
  simp only[execOp,resolve,invoke,builtin,Sem.run_bind,Sem.run_pure,Result.andThen_ok,List.map_toArray,jT hρ hp,hrun]) k
theorem Jm {xs:List Operand} {vs:List Value} {ts:Array TypeId} {r:Value} (hp:vV l xs=some vs) (hd:Nat.blt d N=true) (hrun:(Builtin.copy_ ts ty vs.toArray).run P w=.ok r w')
 (k:cz P ops Q N D ((d,r)::l) w' rest):cz P ops Q N D l w (⟨some d,.call {callee:=.builtin .copy,args:=xs.toArray,argTypes:=ts},ty,pos,aft,none⟩::rest):=
 ib hd (fun ρ hρ=>by
  simp only[execOp,resolve,invoke,builtin,Sem.run_bind,Sem.run_pure,Result.andThen_ok,List.map_toArray,jT hρ hp,hrun]) k
def aJ (P:Program) (f:FuncId):Prop:=∃fn,P.funcs[f]? =some fn∧(fn.name== "runtime.NumGoroutine")=false∧fn.body.isNone=false
theorem jx {f:FuncId} (h:aJ P f) (args:Array Value) (w:World):(callFunc f args).run P w=.ok (.enter f args) w:=by
 obtain⟨fn,h1,h2,h3⟩:=h
 have h2':¬fn.name= "runtime.NumGoroutine" :=by simpa using h2
 have h3':¬fn.body=none:=by intro h;simp[h] at h3
 unfold callFunc
 simp[Sem.run_bind,program,Sem.run,h1,h2',h3']
def bN (T:Value→World→Prop):Ending→World→Prop:=fun e w'=>∃v,e=.returned v∧T v w'
theorem bN.mono {P:Program} {f:FuncId} {args:Array Value} {w:World} {T T':Value→World→Prop} (h:Calls P f args w (bN T)) (hT:∀v w',T v w'→T' v w'):Calls P f args w (bN T'):=
 Calls.mono h fun _ _ ⟨v,he,hv⟩=>⟨v,he,hT _ _ hv⟩
theorem an {f:FuncId} {xs:List Operand} {vs:List Value} {ts:Array TypeId} {T:Value→World→Prop} (hf:aJ P f) (hp:vV l xs=some vs) (hd:Nat.blt d N=true) (hc:Calls P f vs.toArray w (bN T))
 (k:∀v w',T v w'→cz P ops Q N D ((d,v)::l) w' rest):cz P ops Q N D l w (⟨some d,.call {callee:=.value (.func f),args:=xs.toArray,argTypes:=ts},ty,pos,aft,none⟩::rest):=fun a ha=>by
 refine wpList_plain E fun K hK=>?_
 unfold Oper.wp
 have hr:(execOp a.eval ⟨some d,.call {callee:=.value (.func f),args:=xs.toArray,argTypes:=ts},ty,pos,aft,none⟩).run P w=.ok (.enter f vs.toArray) w:=by
  have hρ:tb l a.eval:=fun x v hx=>ha.ev hx
  simp only[execOp,resolve,List.map_toArray,jT hρ hp,Act.eval,Deferred.ofValue,Sem.run_bind,Sem.run_pure,Result.andThen_ok,invoke,Array.append_empty,jx hf,Array.empty_append]
 rw[hr]
 refine hc.mono ?_
 rintro e w' ⟨v,rfl,hv⟩
 exact hK _ _ (k v w' hv _ (ha.put hd v))
end ops
end
end Go.Rl
namespace Go.Rl
open Go.RowKit
def zP (l:Fr):cS:=fun t=>match lk l t with|some v=>Is v|none=>Any
theorem jU {Rl:World→World→Prop} (l:Fr):∀t,cr Rl (zP l t):=fun t=>by
 unfold zP
 split
 ·exact bO.is _
 ·exact bO.any
def fy (F:cS):Operand→dv
 |.tmp t=>F t
 |.const c=>Is c
 |.global g=>Is (.pointer (some ⟨g,0,none⟩))
 |.func f=>Is (.func (.func f) #[] #[])
theorem kx {Rl:World→World→Prop} {F:cS} (hF:∀t,cr Rl (F t)) (x:Operand):cr Rl (fy F x):=by
 cases x with
 |tmp t=>exact hF t
 |_=>exact bO.is _
def rO:List dv→World→(List Value→Prop)→Prop
 |[],_,K=>K []
 |S::Ss,w,K=>∀v,S v w→rO Ss w (fun vs=>K (v::vs))
def Fk (w:World):List dv→List Value→Prop
 |[],[]=>True
 |S::Ss,v::vs=>S v w∧Fk w Ss vs
 |_,_=>False
theorem rO.use:∀{Ss:List dv} {w:World} {K:List Value→Prop} {vs:List Value},rO Ss w K→Fk w Ss vs→K vs
 |[],_,_,[],h,_=>h
 |[],_,_,_::_,_,h=>h.elim
 |_::_,_,_,[],_,h=>h.elim
 |_::_,_,K,v::_,h,h1=>rO.use (K:=fun vs=>K (v::vs)) (h _ h1.1) h1.2
def lr (F:cS) (w:World):List Nat→(Fr→Prop)→Prop
 |[],K=>K []
 |t::ts,K=>∀v,F t v w→lr F w ts (fun l=>K ((t,v)::l))
theorem lr.use {F:cS} {w:World} {N:Nat} {D:List Deferred} {a:Act} (hs:CH N D F a w):∀{ts:List Nat} {K:Fr→Prop},lr F w ts K→∃l,At N D l a∧K l
 |[],_,h=>⟨[],⟨hs.size,hs.defers,fun t v ht=>by simp[lk] at ht⟩,h⟩
 |t::ts,_,h=>by
  obtain⟨l,hl,hk⟩:=lr.use hs (h _ (hs.at_ t))
  refine⟨_,⟨hs.size,hs.defers,fun s v hv=>?_⟩,hk⟩
  by_cases hst:s=t
  ·subst hst
   rw[jv] at hv
   exact Option.some.inj hv
  ·rw[lX _ l hst] at hv
   exact hl.at_ s v hv
section
variable {P:Program} {ops:Array Oper} {Env:World→Prop} {Rl:World→World→Prop} {mo:Bool} {Pn:List PanicEntry→World→Prop} {Z:lW} {N:Nat} {D:List Deferred} {F:cS} {K:cS→lW→Prop} {rest:List Oper} {d:Nat} {op:Op} {ty:TypeId} {pos:String} {aft:Array Edge}
def Fl (os:List Oper) (l0:List (Nat×Value)):Bool:=os.all fun o=>match o.dst with|some d=>l0.all fun p=> !(Nat.beq p.1 d)|none=>true
theorem DD (os:List Oper):Fl os []=true:=List.all_eq_true.2 fun o _=>by cases o.dst<;>rfl
theorem Bp {os:List Oper} {l0:List (Nat×Value)} (h:Fl os l0=true):∀o∈os,∀d,o.dst=some d→∀p∈l0,p.1≠d:=fun o ho d hd p hp he=>by
 have h1:=List.all_eq_true.1 h o ho
 simp only[hd] at h1
 have h2:=List.all_eq_true.1 h1 p hp
 rw[he] at h2
 simp at h2
def Jn:List (Nat×Value)→Fr→Prop
 |[],_=>True
 |p::l0,l=>lk l p.1=some p.2∧Jn l0 l
theorem jS.of:∀{l0:List (Nat×Value)} {l:Fr} {a:Act},Jn l0 l→At N D l a→jS l0 a
 |[],_,_,_,_=>fun _ h=>by cases h
 |q::l0,_,_,h,ha=>fun p hp=>by
  rcases List.mem_cons.1 hp with rfl|hp
  ·exact ha.at_ _ _ h.1
  ·exact jS.of h.2 ha p hp
theorem HF {Q:iq} {l:Fr} {w:World} {id:Nat} {os:List Oper} (n:Nat) (ts:List Nat) (l0:List (Nat×Value)) (Env:World→Prop) (Rl:World→World→Prop) (mo:Bool) (Pn:List PanicEntry→World→Prop) (Z:lW) (hE:jt Env Rl) (he:Env w) (hZ:dF Z) (hz:Z w) (hsub:Jn l0 l) (hkb:Fl (os.take n) l0=true) (hP:∀c a w,a.tmps.size=N→a.defers=D→jS l0 a→Pn c w→Q (.panic c) a w) (hcalls:mo=true→kQ .any os.toArray=true) (hm:P.follows .mixedOrders=true) (hB:Region.lexTailB .any os.toArray n=true)
 (h:gK P os.toArray Env Rl mo Pn N (os.take n) (zP l) Z (fun F Z=>∀w',Env w'→Z w'→lr F w' ts (fun l'=>cz P os.toArray Q N D l' w' (os.drop n)))):dq P Q N D l w (.region id os.toArray true):=fun a ha=>by
 refine tB (D:=D) (F:=zP l) (Z:=Z) (l0:=l0) n N hE (jS.of hsub ha) (Bp hkb) hP hcalls hm hB (jU l) hZ hz he ⟨ha.size,ha.defers,fun t=>?_⟩ (lq _ _ _ (fun F Z hK a' w' he hs hz=>?_) h)
 ·show zP l t (a.tmps.getD t undef) _
  unfold zP
  cases hv:lk l t with
  |some v=>exact ha.at_ t v hv
  |none=>trivial
 ·obtain⟨l',hl',hk⟩:=lr.use hs (hK w' he hz)
  exact hk a' hl'
theorem qI {Q:iq} {l:Fr} {w:World} {id:Nat} {os:List Oper} (n:Nat) (ts:List Nat) (Env:World→Prop) (Rl:World→World→Prop) (mo:Bool) (Pn:List PanicEntry→World→Prop) (Z:lW) (hE:jt Env Rl) (he:Env w) (hZ:dF Z) (hz:Z w) (hP:∀c a w,a.defers=D→Pn c w→Q (.panic c) a w) (hcalls:mo=true→kQ .any os.toArray=true) (hm:P.follows .mixedOrders=true) (hB:Region.lexTailB .any os.toArray n=true)
 (h:gK P os.toArray Env Rl mo Pn N (os.take n) (zP l) Z (fun F Z=>∀w',Env w'→Z w'→lr F w' ts (fun l'=>cz P os.toArray Q N D l' w' (os.drop n)))):dq P Q N D l w (.region id os.toArray true):=
 HF n ts [] Env Rl mo Pn Z hE he hZ hz trivial (DD _) (fun c a w _ hd _ hp=>hP c a w hd hp) hcalls hm hB h
theorem bP {Q:iq} {l:Fr} {w:World} {id:Nat} {os:List Oper} (n:Nat) (ts:List Nat) (hm:P.follows .mixedOrders=true) (hB:Region.lexTailB .any os.toArray n=true)
 (h:gK P os.toArray (aH w) aH false Jl N (os.take n) (zP l) (fun _=>True) (fun F _=>∀w',aH w w'→lr F w' ts (fun l'=>cz P os.toArray Q N D l' w' (os.drop n)))):dq P Q N D l w (.region id os.toArray true):=
 qI n ts (aH w) aH false Jl (fun _=>True) (jt.plain w) (aH.refl w) dF.triv trivial (fun _ _ _ _ h=>h.elim) (fun h=>by cases h) hm hB (lq _ _ _ (fun _ _ h w' he _=>h w' he) h)
theorem cn (h:K F Z):gK P ops Env Rl mo Pn N [] F Z K:=h
theorem ma {S:dv} (hst:(∀t,cr Rl (F t))→cr Rl S) (hd:Nat.blt d N=true)
 (hrun:∀(a:Act) (w:World),Env w→(∀x∈op.operands.toList,fy F x (a.eval x) w)→qG P w S ((execOp a.eval ⟨some d,op,ty,pos,aft,none⟩).run P w))
 (k:gK P ops Env Rl mo Pn N rest (kj F (some d) S) Z K):gK P ops Env Rl mo Pn N (⟨some d,op,ty,pos,aft,none⟩::rest) F Z K:=fun hF _=>by
 have hlt:d<N:=by simpa [Nat.blt_eq] using hd
 refine⟨S,Z,.inl ⟨⟨hst hF,fun e he=>by obtain rfl:=Option.some.inj he;exact hlt,fun a w _ he hs _=>hrun a w he fun x hx=>?_,fun a w _ _ _ hw=>by simp[Region.wanted] at hw⟩,rfl⟩,k⟩
 cases x with
 |tmp t=>exact hs t (List.mem_append_left _ (List.mem_filterMap.2 ⟨.tmp t,hx,rfl⟩))
 |_=>rfl
theorem bI {j:Nat} {b:Bool} {t:Tmp} (ht:(ops[j]?).bind (·.dst)=some t) (hg:F t=Is (.bool b)) (k:gK P ops Env Rl mo Pn N (⟨some d,op,ty,pos,aft,none⟩::rest) F Z K):
 gK P ops Env Rl mo Pn N (⟨some d,op,ty,pos,aft,some (j,b)⟩::rest) F Z K:=fun hF hZ=>by
 obtain⟨S,Z',hs,hr⟩:=k hF hZ
 have val:∀(a:Act) (w:World),nD ops ⟨some d,op,ty,pos,aft,some (j,b)⟩ F a w→yielded ops a.tmps j=some b:=fun a w h=>by
  have h1:F t (a.tmps.getD t undef) w:=h t (List.mem_append_right _ (by simp[ht]))
  rw[hg] at h1
  have h1:a.tmps.getD t undef=.bool b:=h1
  unfold yielded
  rw[ht,Option.bind_some]
  cases hx:a.tmps[t]? with
  |none=>rw[Array.getD_eq_getD_getElem?,hx] at h1;simp[undef] at h1
  |some u=>rw[Array.getD_eq_getD_getElem?,hx] at h1;simp only[Option.getD_some] at h1;rw[h1]
 have sub:∀(a:Act) (w:World),nD ops ⟨some d,op,ty,pos,aft,some (j,b)⟩ F a w→nD ops ⟨some d,op,ty,pos,aft,none⟩ F a w:=fun a w h s hs=>h s (by
  simp only[Oper.looksAt,List.append_nil] at hs
  exact List.mem_append_left _ hs)
 rcases hs with⟨hs,hz⟩|⟨hm,hs⟩
 ·exact⟨S,Z',.inl ⟨⟨hs.stable,hs.dst,fun a w h1 h2 h3 _=>hs.yes a w h1 h2 (sub a w h3) rfl,fun a w _ _ h3 hw=>by simp[Region.wanted,val a w h3] at hw⟩,hz⟩,hr⟩
 ·exact⟨S,Z',.inr ⟨hm,⟨hs.call,hs.stable,hs.zst,hs.dst,fun a w h1 h2 h3 h4 _=>hs.yes a w h1 h2 (sub a w h3) h4 rfl,fun a w _ _ h3 _ hw=>by simp[Region.wanted,val a w h3] at hw⟩⟩,hr⟩
theorem Jo {j:Nat} {b:Bool} {t:Tmp} {u:Value} (hd:Nat.blt d N=true) (ht:(ops[j]?).bind (·.dst)=some t) (hg:F t=Is u) (hu:u=undef∨u=.bool (!b)) (k:gK P ops Env Rl mo Pn N rest (kj F (some d) (Is undef)) Z K):
 gK P ops Env Rl mo Pn N (⟨some d,op,ty,pos,aft,some (j,b)⟩::rest) F Z K:=fun _ _=>by
 have hlt:d<N:=by simpa [Nat.blt_eq] using hd
 have val:∀(a:Act) (w:World),nD ops ⟨some d,op,ty,pos,aft,some (j,b)⟩ F a w→yielded ops a.tmps j≠some b:=fun a w h=>by
  have h1:F t (a.tmps.getD t undef) w:=h t (List.mem_append_right _ (by simp[ht]))
  rw[hg] at h1
  have h1:a.tmps.getD t undef=u:=h1
  unfold yielded
  rw[ht,Option.bind_some]
  cases hx:a.tmps[t]? with
  |none=>simp
  |some z=>
   rw[Array.getD_eq_getD_getElem?,hx] at h1
   simp only[Option.getD_some] at h1
   subst h1
   rcases hu with rfl|rfl
   ·simp[undef]
   ·simp
 exact⟨Is undef,Z,.inl ⟨⟨bO.is _,fun e he=>by obtain rfl:=Option.some.inj he;exact hlt,fun a w _ _ h3 hw=>by
  have:=val a w h3
  simp[Region.wanted] at hw
  exact absurd hw this,fun _ _ _ _ _ _=>rfl⟩,rfl⟩,k⟩
theorem jy {j:Nat} {b:Bool} {t:Tmp} (hd:Nat.blt d N=true) (ht:(ops[j]?).bind (·.dst)=some t) (hg:F t=Is (.bool (!b))) (k:gK P ops Env Rl mo Pn N rest (kj F (some d) (Is undef)) Z K):
 gK P ops Env Rl mo Pn N (⟨some d,op,ty,pos,aft,some (j,b)⟩::rest) F Z K:=Jo hd ht hg (.inr rfl) k
theorem ax {x:Operand} {S:dv} (hx:fy F x=S) (hd:Nat.blt d N=true) (k:gK P ops Env Rl mo Pn N rest (kj F (some d) S) Z K):gK P ops Env Rl mo Pn N (⟨some d,.move x,ty,pos,aft,none⟩::rest) F Z K:=
 ma (fun hF=>hx▸kx hF x) hd (fun a w _ h=>by subst hx;exact⟨aH.refl _,h x (by simp[Op.operands])⟩) k
theorem fS {x:Operand} {S:dv} (hx:fy F x=S) (hd:Nat.blt d N=true) (k:gK P ops Env Rl mo Pn N rest (kj F (some d) S) Z K):gK P ops Env Rl mo Pn N (⟨some d,.assign x,ty,pos,aft,none⟩::rest) F Z K:=
 ma (fun hF=>hx▸kx hF x) hd (fun a w _ h=>by subst hx;exact⟨aH.refl _,h x (by simp[Op.operands])⟩) k
theorem t9 {c x y:Operand} {S:dv} (hc:fy F c=Is (.bool true)) (hx:fy F x=S) (hd:Nat.blt d N=true) (k:gK P ops Env Rl mo Pn N rest (kj F (some d) S) Z K):gK P ops Env Rl mo Pn N (⟨some d,.pick c x y,ty,pos,aft,none⟩::rest) F Z K:=
 ma (fun hF=>hx▸kx hF x) hd (fun a w _ h=>by
  subst hx
  have h1:fy F c (a.eval c) w:=h c (by simp[Op.operands])
  rw[hc] at h1
  have h1:a.eval c=.bool true:=h1
  have:(execOp a.eval ⟨some d,.pick c x y,ty,pos,aft,none⟩).run P w=.ok (.value (a.eval x)) w:=by simp[execOp,h1,asBool]
  rw[this]
  exact⟨aH.refl _,h x (by simp[Op.operands])⟩) k
theorem ua {c x y:Operand} {S:dv} (hc:fy F c=Is (.bool false)) (hy:fy F y=S) (hd:Nat.blt d N=true) (k:gK P ops Env Rl mo Pn N rest (kj F (some d) S) Z K):gK P ops Env Rl mo Pn N (⟨some d,.pick c x y,ty,pos,aft,none⟩::rest) F Z K:=
 ma (fun hF=>hy▸kx hF y) hd (fun a w _ h=>by
  subst hy
  have h1:fy F c (a.eval c) w:=h c (by simp[Op.operands])
  rw[hc] at h1
  have h1:a.eval c=.bool false:=h1
  have:(execOp a.eval ⟨some d,.pick c x y,ty,pos,aft,none⟩).run P w=.ok (.value (a.eval y)) w:=by simp[execOp,h1,asBool]
  rw[this]
  exact⟨aH.refl _,h y (by simp[Op.operands])⟩) k
theorem IW {xs:List Operand} {S:dv} {f:List Value→Sem Value} (he:∀ρ,execOp ρ ⟨some d,op,ty,pos,aft,none⟩=(do pure (Next.value (←f (xs.map ρ))):Sem Next)) (hm:∀x∈xs,x∈op.operands.toList)
 (hst:cr Rl S) (hd:Nat.blt d N=true) (hrun:∀w,Env w→rO (xs.map (fy F)) w (fun vs=>∃r w',(f vs).run P w=.ok r w'∧aH w w'∧S r w'))
 (k:gK P ops Env Rl mo Pn N rest (kj F (some d) S) Z K):gK P ops Env Rl mo Pn N (⟨some d,op,ty,pos,aft,none⟩::rest) F Z K:=
 ma (fun _=>hst) hd (fun a w hw h=>by
  have hall:Fk w (xs.map (fy F)) (xs.map a.eval):=by
   clear hrun he
   induction xs with
   |nil=>trivial
   |cons x xs ih=>exact⟨h x (hm x (by simp)),ih (fun y hy=>hm y (by simp[hy]))⟩
  obtain⟨r,w',h1,h2,h3⟩:=rO.use (hrun w hw) hall
  rw[he,Sem.run_bind,h1]
  exact⟨h2,h3⟩) k
theorem pI {xs:List Operand} {vs:List Value} {r:Value} {f:List Value→Sem Value} (he:∀ρ,execOp ρ ⟨some d,op,ty,pos,aft,none⟩=(do pure (Next.value (←f (xs.map ρ))):Sem Next)) (hm:∀x∈xs,x∈op.operands.toList)
 (hx:xs.map (fy F)=vs.map Is) (hd:Nat.blt d N=true) (hrun:∀w,Env w→(f vs).run P w=.ok r w)
 (k:gK P ops Env Rl mo Pn N rest (kj F (some d) (Is r)) Z K):gK P ops Env Rl mo Pn N (⟨some d,op,ty,pos,aft,none⟩::rest) F Z K:=
 ma (fun _=>bO.is _) hd (fun a w hw h=>by
  have hall:xs.map a.eval=vs:=by
   clear hrun he
   induction xs generalizing vs with
   |nil=>cases vs with
    |nil=>rfl
    |cons v vs=>simp at hx
   |cons x xs ih=>cases vs with
    |nil=>simp at hx
    |cons v vs=>
     simp only[List.map_cons,List.cons.injEq] at hx⊢
     have h1:=h x (hm x (by simp))
     rw[hx.1] at h1
     exact⟨h1,ih (fun y hy=>hm y (by simp[hy])) hx.2⟩
  rw[he,Sem.run_bind,hall,hrun w hw]
  exact⟨aH.refl _,rfl⟩) k
theorem aZ {b:BinOp} {t t2:TypeId} {x y:Operand} {u v r:Value} (hx:fy F x=Is u) (hy:fy F y=Is v) (hd:Nat.blt d N=true) (hrun:∀w,Env w→(bin b t x y u v).run P w=.ok r w)
 (k:gK P ops Env Rl mo Pn N rest (kj F (some d) (Is r)) Z K):gK P ops Env Rl mo Pn N (⟨some d,.binOp b t x y t2,ty,pos,aft,none⟩::rest) F Z K:=
 pI (xs:=[x,y]) (vs:=[u,v]) (f:=fun|[a,c]=>bin b t x y a c|_=>stuck "") (fun _=>rfl) (by simp[Op.operands]) (by simp[hx,hy]) hd hrun k
theorem zV {b:UnOp} {t:TypeId} {x:Operand} {u r:Value} (hx:fy F x=Is u) (hd:Nat.blt d N=true) (hrun:∀w,Env w→(Op.unary b u).run P w=.ok r w)
 (k:gK P ops Env Rl mo Pn N rest (kj F (some d) (Is r)) Z K):gK P ops Env Rl mo Pn N (⟨some d,.unOp b t x,ty,pos,aft,none⟩::rest) F Z K:=
 pI (xs:=[x]) (vs:=[u]) (f:=fun|[a]=>Op.unary b a|_=>stuck "") (fun _=>rfl) (by simp[Op.operands]) (by simp[hx]) hd hrun k
theorem dU {s t:TypeId} {x:Operand} {u r:Value} (hx:fy F x=Is u) (hd:Nat.blt d N=true) (hrun:∀w,Env w→(convert s t u).run P w=.ok r w)
 (k:gK P ops Env Rl mo Pn N rest (kj F (some d) (Is r)) Z K):gK P ops Env Rl mo Pn N (⟨some d,.convert s t x,ty,pos,aft,none⟩::rest) F Z K:=
 pI (xs:=[x]) (vs:=[u]) (f:=fun|[a]=>convert s t a|_=>stuck "") (fun _=>rfl) (by simp[Op.operands]) (by simp[hx]) hd hrun k
theorem aQ {t:TypeId} {x:Operand} {u r:Value} (hx:fy F x=Is u) (hd:Nat.blt d N=true) (hrun:∀w,Env w→(Instr.loadAt t u).run P w=.ok r w)
 (k:gK P ops Env Rl mo Pn N rest (kj F (some d) (Is r)) Z K):gK P ops Env Rl mo Pn N (⟨some d,.load t x,ty,pos,aft,none⟩::rest) F Z K:=
 pI (xs:=[x]) (vs:=[u]) (f:=fun|[a]=>Instr.loadAt t a|_=>stuck "") (fun _=>rfl) (by simp[Op.operands]) (by simp[hx]) hd hrun k
theorem aX {s:TypeId} {n:Nat} {x:Operand} {u r:Value} (hx:fy F x=Is u) (hd:Nat.blt d N=true) (hrun:∀w,Env w→(Instr.fieldAt s u n).run P w=.ok r w)
 (k:gK P ops Env Rl mo Pn N rest (kj F (some d) (Is r)) Z K):gK P ops Env Rl mo Pn N (⟨some d,.fieldAddr s x n,ty,pos,aft,none⟩::rest) F Z K:=
 pI (xs:=[x]) (vs:=[u]) (f:=fun|[a]=>Instr.fieldAt s a n|_=>stuck "") (fun _=>rfl) (by simp[Op.operands]) (by simp[hx]) hd hrun k
theorem dz {x:Operand} {a:Addr} (hx:fy F x=Is (.pointer (some a))) (hd:Nat.blt d N=true) (k:gK P ops Env Rl mo Pn N rest (kj F (some d) (Is (.pointer (some a)))) Z K):gK P ops Env Rl mo Pn N (⟨some d,.nilCheck x,ty,pos,aft,none⟩::rest) F Z K:=
 ma (fun _=>bO.is _) hd (fun b w _ h=>by
  have h1:fy F x (b.eval x) w:=h x (by simp[Op.operands])
  rw[hx] at h1
  have h1:b.eval x=.pointer (some a):=h1
  have:(execOp b.eval ⟨some d,.nilCheck x,ty,pos,aft,none⟩).run P w=.ok (.value (.pointer (some a))) w:=by simp[execOp,h1]
  rw[this]
  exact⟨aH.refl _,rfl⟩) k
theorem aD {t:TypeId} {x y:Operand} {u v r:Value} (hx:fy F x=Is u) (hy:fy F y=Is v) (hd:Nat.blt d N=true) (hrun:∀w,Env w→(Instr.indexAt t u v).run P w=.ok r w)
 (k:gK P ops Env Rl mo Pn N rest (kj F (some d) (Is r)) Z K):gK P ops Env Rl mo Pn N (⟨some d,.indexAddr t x y,ty,pos,aft,none⟩::rest) F Z K:=
 pI (xs:=[x,y]) (vs:=[u,v]) (f:=fun|[a,c]=>Instr.indexAt t a c|_=>stuck "") (fun _=>rfl) (by simp[Op.operands]) (by simp[hx,hy]) hd hrun k
theorem HG {t:TypeId} {S:dv} (hst:cr Rl S) (hd:Nat.blt d N=true) (hrun:∀w,Env w→∃r w',(Instr.alloc t true (.tuple #[])).run P w=.ok r w'∧aH w w'∧S r w')
 (k:gK P ops Env Rl mo Pn N rest (kj F (some d) S) Z K):gK P ops Env Rl mo Pn N (⟨some d,.alloc t,ty,pos,aft,none⟩::rest) F Z K:=
 IW (xs:=[]) (f:=fun _=>Instr.alloc t true (.tuple #[])) (fun _=>rfl) (by simp) hst hd hrun k
theorem kA {t:TypeId} {x:Operand} {lo hi:Option Operand} {u r:Value} {a b:Option Value} (hx:fy F x=Is u) (hlo:lo.map (fy F)=a.map Is) (hhi:hi.map (fy F)=b.map Is) (hd:Nat.blt d N=true)
 (hrun:∀w,Env w→(Instr.sliceAt t u a b none).run P w=.ok r w)
 (k:gK P ops Env Rl mo Pn N rest (kj F (some d) (Is r)) Z K):gK P ops Env Rl mo Pn N (⟨some d,.slice t x lo hi none,ty,pos,aft,none⟩::rest) F Z K:=
 ma (fun _=>bO.is _) hd (fun s w hw h=>by
  have opt:∀{o:Option Operand} {c:Option Value},o.map (fy F)=c.map Is→(∀y,o=some y→y∈(Op.slice t x lo hi none).operands.toList)→o.map s.eval=c:=fun {o c} ho hm=>by
   cases o with
   |none=>cases c with
    |none=>rfl
    |some c=>simp at ho
   |some y=>cases c with
    |none=>simp at ho
    |some c=>
     simp only[Option.map_some,Option.some.injEq] at ho⊢
     have h1:=h y (hm y rfl)
     rw[ho] at h1
     exact h1
  have h0:fy F x (s.eval x) w:=h x (by simp[Op.operands])
  rw[hx] at h0
  have h0:s.eval x=u:=h0
  have:execOp s.eval ⟨some d,.slice t x lo hi none,ty,pos,aft,none⟩=(do pure (Next.value (←Instr.sliceAt t (s.eval x) (lo.map s.eval) (hi.map s.eval) none)):Sem Next):=rfl
  rw[this,h0,opt hlo (fun y hy=>by subst hy;simp[Op.operands]),opt hhi (fun y hy=>by subst hy;simp[Op.operands]),Sem.run_bind,hrun w hw]
  exact⟨aH.refl _,rfl⟩) k
theorem CJ {ps:List (Nat×Operand)} {S:dv} {f:Array (Nat×Value)→Sem Value} (he:∀ρ,execOp ρ ⟨some d,op,ty,pos,aft,none⟩=(do pure (Next.value (←f (ps.toArray.map fun(i,x)=>(i,ρ x)))):Sem Next)) (hm:∀x∈ps,x.2∈op.operands.toList)
 (hst:cr Rl S) (hd:Nat.blt d N=true) (hrun:∀w,Env w→rO (ps.map fun p=>fy F p.2) w (fun vs=>∃r w',(f ((ps.map (·.1)).zip vs).toArray).run P w=.ok r w'∧aH w w'∧S r w'))
 (k:gK P ops Env Rl mo Pn N rest (kj F (some d) S) Z K):gK P ops Env Rl mo Pn N (⟨some d,op,ty,pos,aft,none⟩::rest) F Z K:=
 IW (xs:=ps.map (·.2)) (f:=fun vs=>f ((ps.map (·.1)).zip vs).toArray) (fun ρ=>by
  rw[he]
  have:(ps.toArray.map fun(i,x)=>(i,ρ x))=((ps.map (·.1)).zip ((ps.map (·.2)).map ρ)).toArray:=by
   rw[List.map_toArray]
   congr 1
   clear hm he hrun
   induction ps with
   |nil=>rfl
   |cons p ps ih=>simp only[List.map_cons,List.zip_cons_cons,ih]
  rw[this]) (fun x hx=>by
   obtain⟨p,hp,rfl⟩:=List.mem_map.1 hx
   exact hm p hp) hst hd (fun w hw=>by
   have:=hrun w hw
   rwa [List.map_map]) k
theorem oX {t:TypeId} {ps:List (Nat×Operand)} {S:dv} (hst:cr Rl S) (hd:Nat.blt d N=true) (hrun:∀w,Env w→rO (ps.map fun p=>fy F p.2) w (fun vs=>∃r w',(Instr.build t ((ps.map (·.1)).zip vs).toArray).run P w=.ok r w'∧aH w w'∧S r w'))
 (k:gK P ops Env Rl mo Pn N rest (kj F (some d) S) Z K):gK P ops Env Rl mo Pn N (⟨some d,.build t ps.toArray,ty,pos,aft,none⟩::rest) F Z K:=
 CJ (ps:=ps) (fun _=>rfl) (fun x hx=>by simp[Op.operands];exact⟨x.1,hx⟩) hst hd hrun k
theorem eG {t:TypeId} {n:Nat} {ps:List (Nat×Operand)} {S:dv} (hst:cr Rl S) (hd:Nat.blt d N=true) (hrun:∀w,Env w→rO (ps.map fun p=>fy F p.2) w (fun vs=>∃r w',(Instr.buildSlice t n ((ps.map (·.1)).zip vs).toArray).run P w=.ok r w'∧aH w w'∧S r w'))
 (k:gK P ops Env Rl mo Pn N rest (kj F (some d) S) Z K):gK P ops Env Rl mo Pn N (⟨some d,.buildSlice t n ps.toArray,ty,pos,aft,none⟩::rest) F Z K:=
 CJ (ps:=ps) (fun _=>rfl) (fun x hx=>by simp[Op.operands];exact⟨x.1,hx⟩) hst hd hrun k
theorem ce {f:FuncId} {xs:List Operand} {ts:Array TypeId} {S:dv} (hf:aJ P f) (hst:cr Rl S) (hd:Nat.blt d N=true)
 (hc:∀w,Env w→rO (xs.map (fy F)) w (fun vs=>Calls P f vs.toArray w (bN fun v w'=>aH w w'∧S v w')))
 (k:gK P ops Env Rl mo Pn N rest (kj F (some d) S) Z K):gK P ops Env Rl mo Pn N (⟨some d,.call {callee:=.value (.func f),args:=xs.toArray,argTypes:=ts},ty,pos,aft,none⟩::rest) F Z K:=
 ma (fun _=>hst) hd (fun a w hw h=>by
  have hall:Fk w (xs.map (fy F)) (xs.map a.eval):=by
   have hm:∀x∈xs,fy F x (a.eval x) w:=fun x hx=>h x (by simp[Op.operands,Call.operands,hx])
   clear hc h
   induction xs with
   |nil=>trivial
   |cons x xs ih=>exact⟨hm x (by simp),ih (fun y hy=>hm y (by simp[hy]))⟩
  have h1:=rO.use (hc w hw) hall
  have hr:(execOp a.eval ⟨some d,.call {callee:=.value (.func f),args:=xs.toArray,argTypes:=ts},ty,pos,aft,none⟩).run P w=.ok (.enter f (xs.map a.eval).toArray) w:=by
   simp only[execOp,resolve,List.map_toArray,Act.eval,Deferred.ofValue,Sem.run_bind,Sem.run_pure,Result.andThen_ok,invoke,Array.append_empty,jx hf,Array.empty_append]
  rw[hr]
  refine⟨aH.refl _,h1.mono ?_⟩
  rintro e w'' ⟨v,rfl,hv⟩
  exact⟨v,rfl,hv⟩) k
theorem tF {f:FuncId} {xs:List Operand} {ts:Array TypeId} {S:dv} {Z':lW} (hf:aJ P f) (hm:mo=true) (hst:cr Rl S) (hz:dF Z') (hd:Nat.blt d N=true)
 (hc:∀w,Env w→Z w→rO (xs.map (fy F)) w (fun vs=>Calls P f vs.toArray w (fun e w'=>(∃v,e=.returned v∧Rl w w'∧S v w'∧Z' w')∨∃c,e=.panicked c∧Pn c w')))
 (k:gK P ops Env Rl mo Pn N rest (kj F (some d) S) Z' K):gK P ops Env Rl mo Pn N (⟨some d,.call {callee:=.value (.func f),args:=xs.toArray,argTypes:=ts},ty,pos,aft,none⟩::rest) F Z K:=fun _ _=>by
 have hlt:d<N:=by simpa [Nat.blt_eq] using hd
 refine⟨S,Z',.inr ⟨hm,⟨rfl,hst,hz,fun e he=>by obtain rfl:=Option.some.inj he;exact hlt,fun a w _ hw hs hz hwant=>?_,fun a w _ _ _ _ hw=>by simp[Region.wanted] at hw⟩⟩,k⟩
 have hall:Fk w (xs.map (fy F)) (xs.map a.eval):=by
  have hm:∀x∈xs,fy F x (a.eval x) w:=fun x hx=>by
   cases x with
   |tmp t=>exact hs t (List.mem_append_left _ (List.mem_filterMap.2 ⟨.tmp t,by simp[Op.operands,Call.operands,hx],rfl⟩))
   |_=>rfl
  clear hc hs hwant
  induction xs with
  |nil=>trivial
  |cons x xs ih=>exact⟨hm x (by simp),ih (fun y hy=>hm y (by simp[hy]))⟩
 have h1:=rO.use (hc w hw hz) hall
 have hr:(execOp a.eval ⟨some d,.call {callee:=.value (.func f),args:=xs.toArray,argTypes:=ts},ty,pos,aft,none⟩).run P w=.ok (.enter f (xs.map a.eval).toArray) w:=by
  simp only[execOp,resolve,List.map_toArray,Act.eval,Deferred.ofValue,Sem.run_bind,Sem.run_pure,Result.andThen_ok,invoke,Array.append_empty,jx hf,Array.empty_append]
 rw[hr]
 exact h1
theorem KC {xs:List Operand} {ts:Array TypeId} {vs:List Value} {r:Value} (hx:xs.map (fy F)=vs.map Is) (hd:Nat.blt d N=true) (hrun:∀w,Env w→(Builtin.len_ ts ty vs.toArray).run P w=.ok r w)
 (k:gK P ops Env Rl mo Pn N rest (kj F (some d) (Is r)) Z K):gK P ops Env Rl mo Pn N (⟨some d,.call {callee:=.builtin .len,args:=xs.toArray,argTypes:=ts},ty,pos,aft,none⟩::rest) F Z K:=
 pI (xs:=xs) (vs:=vs) (f:=fun vs=>Builtin.len_ ts ty vs.toArray) (fun ρ=>by simp only[execOp,resolve,invoke,builtin,pure_bind,List.map_toArray]) (fun x hx=>by simp[Op.operands,Call.operands,hx]) hx hd hrun k
end
end Go.Rl
namespace Go.Rl
open Go.RowKit
def U8 (b:UInt8):Value:=.int .u8 (b.toNat:Int)
def bE (x:UInt32):Value:=.int .u32 (x.toNat:Int)
def bW (x:UInt64):Value:=.int .u64 (x.toNat:Int)
def I (n:Int):Value:=.int .i64 n
def B (b:Bool):Value:=.bool b
theorem aH.cell {w w':World} (h:aH w w') {a:Addr} (ha:a.block<w.heap.size):w'.cell? a=w.cell? a:=Below.cell h ha
theorem aH.cell_some {w w':World} (h:aH w w') {a:Addr} {v:Value} (hv:w.cell? a=some v):w'.cell? a=some v:=(h.cell (World.block_lt_of_cell? w a hv)).trans hv
theorem aH.heap {w w':World} (h:aH w w') {g:Nat} (hg:g<w.heap.size):w'.heap[g]? =w.heap[g]? :=h.block g hg
theorem aH.heap_some {w w':World} (h:aH w w') {g:Nat} {o:Obj} (hv:w.heap[g]? =some o):w'.heap[g]? =some o:=
 (h.heap (Array.getElem?_eq_some_iff.1 hv).1).trans hv
theorem aH.size {w w':World} (h:aH w w'):w.heap.size≤w'.heap.size:=Below.size h
theorem aH.new (w:World) (o:Obj):aH w (w.alloc o):=(aH.refl w).alloc o
theorem aH.of_grown {w0 w w':World} (h:aH w0 w) {row:Option Nat} (hg:w.grownBy w' row) (hr:∀k,row=some k→w0.heap.size≤k):aH w0 w':=
 Below.grown h hg h.size hr
def dw (w:World) (a:Addr) (xs:List Value):Prop:=∀j u,xs[j]? =some u→w.cell? (a.add j)=some u
theorem iH (a:Addr) (n:Nat):(a.add n).block=a.block:=by unfold Addr.add;split<;>rfl
theorem qJ (a:Addr) (i j:Nat):(a.add i).add j=a.add (i+j):=by
 unfold Addr.add
 by_cases hi:i=0<;>by_cases hj:j=0<;>simp[hi,hj,Nat.add_assoc]
theorem i9 (a:Addr):a.add 0=a:=by simp[Addr.add]
theorem pJ (b o n:Nat):(⟨b,o,none⟩:Addr).add n=⟨b,o+n,none⟩:=by
 unfold Addr.add
 split
 ·rename_i h;subst h;rfl
 ·rfl
theorem dw.ext {w w':World} {a:Addr} {xs:List Value} (h:dw w a xs) (hx:aH w w'):dw w' a xs:=fun j u hu=>hx.cell_some (h j u hu)
theorem dw.drop {w:World} {a:Addr} {xs:List Value} (h:dw w a xs) (k:Nat):dw w (a.add k) (xs.drop k):=fun j u hu=>by
 rw[qJ]
 exact h (k+j) u (by rw[←hu,List.getElem?_drop])
theorem dw.take {w:World} {a:Addr} {xs:List Value} (h:dw w a xs) (k:Nat):dw w a (xs.take k):=fun j u hu=>by
 rw[List.getElem?_take] at hu
 split at hu
 ·exact h j u hu
 ·cases hu
def Sl (sz:Nat) (xs:List Value):dv:=fun v w=>∃A n c,v=.slice A n c∧n≤c∧c≤maxLen∧xs.length=n*sz∧(0<n→∃ad,A=some ad∧dw w ad xs)∧(A=none→c=0)
theorem Sl.stable (sz:Nat) (xs:List Value):bO (Sl sz xs):=fun v w w' h hx=>by
 obtain⟨A,n,c,h1,h2,h3,h4,h5,h6⟩:=h
 exact⟨A,n,c,h1,h2,h3,h4,fun hn=>(h5 hn).imp fun ad h=>⟨h.1,h.2.ext hx⟩,h6⟩
theorem Sl.ext {sz:Nat} {xs:List Value} {v:Value} {w w':World} (h:Sl sz xs v w) (hx:aH w w'):Sl sz xs v w':=Sl.stable sz xs v w w' h hx
theorem Sl.nil (sz:Nat) (w:World):Sl sz [] (.slice none 0 0) w:=⟨none,0,0,rfl,Nat.le_refl _,Nat.zero_le _,by simp,fun h=>absurd h (by omega),fun _=>rfl⟩
theorem Sl.of_own {base:Nat} {e:TypeId} {sz n:Nat} {v:Value} {xs:List Value} {w:World} (h:w.ownsRow base e sz v n xs):Sl sz xs v w:=by
 rcases h.2 with⟨rfl,rfl⟩|⟨g,cap,cur,rfl,hb,hg,hn,hm,hs,ht⟩
 ·have:xs=[]:=List.eq_nil_of_length_eq_zero (by simpa using h.1)
  subst this
  exact Sl.nil sz w
 ·exact⟨some ⟨g,0,none⟩,n,cap,rfl,hn,hm,h.1,fun _=>⟨_,rfl,h.cells (g:=g) rfl⟩,fun h=>by cases h⟩
theorem fl {w w':World} {base:Nat} {e:TypeId} {sz n:Nat} {v:Value} {xs:List Value} (h:w.ownsRow base e sz v n xs) (hx:aH w w'):w'.ownsRow base e sz v n xs:=by
 refine⟨h.1,?_⟩
 rcases h.2 with h|⟨g,cap,cur,rfl,hb,hg,rest⟩
 ·exact .inl h
 ·exact .inr ⟨g,cap,cur,rfl,hb,hx.heap_some hg,rest⟩
theorem ir {w:World} {base base':Nat} {e:TypeId} {sz n:Nat} {v:Value} {xs:List Value} (h:w.ownsRow base e sz v n xs) (hb:∀k,v.ownBlock=some k→base'≤k):w.ownsRow base' e sz v n xs:=by
 refine⟨h.1,?_⟩
 rcases h.2 with h|⟨g,cap,cur,rfl,_,hg,rest⟩
 ·exact .inl h
 ·exact .inr ⟨g,cap,cur,rfl,hb g rfl,hg,rest⟩
structure gR (w w':World) (v v':Value):Prop where
 grown:w.grownBy w' v.ownBlock
 own:v'.ownBlock=v.ownBlock∨∀k,v'.ownBlock=some k→w.heap.size≤k
theorem gR.trans {a b c:World} {v u z:Value} (h:gR a b v u) (k:gR b c u z):gR a c v z:=by
 refine⟨⟨k.grown.os.trans h.grown.os,k.grown.tape.trans h.grown.tape,k.grown.output.trans h.grown.output,Nat.le_trans h.grown.size k.grown.size,fun i hi hne=>?_⟩,?_⟩
 ·refine(k.grown.block i (Nat.lt_of_lt_of_le hi h.grown.size) ?_).trans (h.grown.block i hi hne)
  rcases h.own with h1|h1
  ·rw[h1];exact hne
  ·intro hu
   have:=h1 i hu.symm
   omega
 ·rcases k.own with k1|k1
  ·rw[k1];exact h.own
  ·exact .inr fun j hj=>Nat.le_trans h.grown.size (k1 j hj)
theorem gR.ext {a b c:World} {v u:Value} (h:gR a b v u) (k:aH b c):gR a c v u:=
 ⟨⟨Eq.trans k.os h.grown.os,Eq.trans k.tape h.grown.tape,Eq.trans k.output h.grown.output,Nat.le_trans h.grown.size k.size,fun i hi hne=>(k.heap (Nat.lt_of_lt_of_le hi h.grown.size)).trans (h.grown.block i hi hne)⟩,h.own⟩
theorem gR.of_ext {a b:World} {v u:Value} (h:aH a b) (hu:u.ownBlock=v.ownBlock∨∀k,u.ownBlock=some k→a.heap.size≤k):gR a b v u:=
 ⟨⟨h.os,h.tape,h.output,h.size,fun _ hi _=>h.heap hi⟩,hu⟩
theorem gR.before {a b c:World} {v u:Value} (h:aH a b) (k:gR b c v u):gR a c v u:=
 ⟨⟨k.grown.os.trans h.os,k.grown.tape.trans h.tape,k.grown.output.trans h.output,Nat.le_trans h.size k.grown.size,fun i hi hne=>(k.grown.block i (Nat.lt_of_lt_of_le hi h.size) hne).trans (h.heap hi)⟩,k.own.imp_right fun h1 j hj=>Nat.le_trans h.size (h1 j hj)⟩
inductive gS where
 |blk (g:Nat) (T:TypeId) (cs:Array Value)
 |row (v:Value) (e:TypeId) (sz n:Nat) (xs:List Value)
def gS.foot:gS→Option Nat
 |.blk g _ _=>some g
 |.row v _ _ _ _=>v.ownBlock
def gS.holds (base:Nat) (w:World):gS→Prop
 |.blk g T cs=>base≤g∧w.heap[g]? =some (.cells cs T (0,0))
 |.row v e sz n xs=>w.ownsRow base e sz v n xs
def gS.off (a b:gS):Prop:=a.foot=none∨a.foot≠b.foot
theorem gS.foot_ge {base:Nat} {w:World} {it:gS} (h:it.holds base w) {k:Nat} (hk:it.foot=some k):base≤k∧k<w.heap.size:=by
 cases it with
 |blk g T cs=>
  obtain rfl:g=k:=by simpa [gS.foot] using hk
  exact⟨h.1,(Array.getElem?_eq_some_iff.1 h.2).1⟩
 |row v e sz n xs=>exact World.ownsRow.lt h k hk
theorem gS.holds_grown {base:Nat} {w w':World} {it:gS} (h:it.holds base w) {row:Option Nat} (hg:w.grownBy w' row) (hne:it.foot=none∨it.foot≠row):it.holds base w':=by
 cases it with
 |blk g T cs=>
  refine⟨h.1,(hg.block g (Array.getElem?_eq_some_iff.1 h.2).1 ?_).trans h.2⟩
  rcases hne with h1|h1
  ·simp[gS.foot] at h1
  ·exact h1
 |row v e sz n xs=>exact World.ownsRow.kept h hg hne
theorem gS.holds_ext {base:Nat} {w w':World} {it:gS} (h:it.holds base w) (hx:aH w w'):it.holds base w':=by
 cases it with
 |blk g T cs=>exact⟨h.1,hx.heap_some h.2⟩
 |row v e sz n xs=>exact fl h hx
structure Hp (w0 w:World) (its:List gS):Prop where
 ext:aH w0 w
 holds:∀it∈its,it.holds w0.heap.size w
 apart:its.Pairwise gS.off
section
variable {w0 w w':World} {its:List gS} {a b c d:gS}
theorem Hp.nil (w:World):Hp w w []:=⟨aH.refl w,by simp,List.Pairwise.nil⟩
theorem Hp.grow (h:Hp w0 w its) (hx:aH w w'):Hp w0 w' its:=⟨h.ext.trans hx,fun it hi=>gS.holds_ext (h.holds it hi) hx,h.apart⟩
theorem Hp.drop (h:Hp w0 w (a::its)):Hp w0 w its:=⟨h.ext,fun it hi=>h.holds it (by simp[hi]),(List.pairwise_cons.1 h.apart).2⟩
theorem gS.off_symm (h:gS.off a b):gS.off b a:=by
 unfold gS.off at*
 rcases h with h|h
 ·cases hb:b.foot with
  |none=>exact .inl rfl
  |some k=>exact .inr (by rw[h];simp)
 ·exact .inr (Ne.symm h)
theorem Hp.one (h:Hp w0 w (a::its)):a.holds w0.heap.size w:=h.holds a (by simp)
theorem Hp.add (h:Hp w0 w its) (hx:aH w w') (hit:a.holds w0.heap.size w') (hn:∀k,a.foot=some k→w.heap.size≤k):Hp w0 w' (a::its):=by
 have h':=h.grow hx
 refine⟨h'.ext,fun it hi=>?_,List.pairwise_cons.2 ⟨fun it hi=>?_,h'.apart⟩⟩
 ·rcases List.mem_cons.1 hi with rfl|hi
  ·exact hit
  ·exact h'.holds it hi
 ·unfold gS.off
  cases hf:a.foot with
  |none=>exact .inl rfl
  |some k=>
   refine .inr fun he=>?_
   have h1:=(gS.foot_ge (h.holds it hi) he.symm).2
   have h2:=hn k hf
   omega
theorem Hp.write {a':gS} (h:Hp w0 w (a::its)) (hg:w.grownBy w' a.foot) (hit:a'.holds w0.heap.size w') (hf:a'.foot=a.foot∨∀k,a'.foot=some k→w.heap.size≤k):Hp w0 w' (a'::its):=by
 have hap:=(List.pairwise_cons.1 h.apart).1
 refine⟨h.ext.of_grown hg fun k hk=>(gS.foot_ge h.one hk).1,fun it hi=>?_,List.pairwise_cons.2 ⟨fun it hi=>?_,(List.pairwise_cons.1 h.apart).2⟩⟩
 ·rcases List.mem_cons.1 hi with rfl|hi
  ·exact hit
  ·exact gS.holds_grown (h.holds it (by simp[hi])) hg (gS.off_symm (hap it hi))
 ·unfold gS.off
  rcases hf with hf|hf
  ·rw[hf];exact hap it hi
  ·cases hk:a'.foot with
   |none=>exact .inl rfl
   |some k=>
    refine .inr fun he=>?_
    have h1:=(gS.foot_ge (h.holds it (by simp[hi])) he.symm).2
    have h2:=hf k hk
    omega
theorem Hp.blkTo {g:Nat} {T:TypeId} {cs cs':Array Value} (h:Hp w0 w (.blk g T cs::its)) (hg:w.grownBy w' (some g)) (hh:w'.heap[g]? =some (.cells cs' T (0,0))):Hp w0 w' (.blk g T cs'::its):=
 h.write hg ⟨h.one.1,hh⟩ (.inl rfl)
theorem bi (w:World) (g i:Nat) (u:Value):w.grownBy (w.setCell ⟨g,i,none⟩ u) (some g):=
 ⟨rfl,rfl,rfl,by simp[World.setCell],fun k _ hne=>Below.heap_setCell w ⟨g,i,none⟩ u k (fun e=>hne (by rw[e]))⟩
theorem ja {g:Nat} {T:TypeId} {cs:Array Value} (h:w.heap[g]? =some (.cells cs T (0,0))) (i:Nat) (u:Value):(w.setCell ⟨g,i,none⟩ u).heap[g]? =some (.cells (cs.setIfInBounds i u) T (0,0)):=by
 simp[World.setCell,Array.getElem?_modify,h]
theorem Hp.set {g:Nat} {T:TypeId} {cs:Array Value} (h:Hp w0 w (.blk g T cs::its)) (i:Nat) (u:Value):Hp w0 (w.setCell ⟨g,i,none⟩ u) (.blk g T (cs.setIfInBounds i u)::its):=
 h.blkTo (bi w g i u) (ja h.one.2 i u)
theorem Hp.cell {g:Nat} {T:TypeId} {cs:Array Value} (h:Hp w0 w (.blk g T cs::its)) (i:Nat):w.cell? ⟨g,i,none⟩=cs[i]? :=cell_of_row w g i cs T (0,0) h.one.2
end
section
variable {P:Program} {w:World}
theorem ai {t:TypeId} {d:TypeDesc} {a:Addr} {v:Value} (ht:P.underlying t=some d) (hd:(match d with|.struct _|.array _ _=>true|_=>false)=false) (hc:w.cell? a=some v):
 (Instr.loadAt t (.pointer (some a))).run P w=.ok v w:=by
 have hagg:(isAgg t).run P w=.ok false w:=by
  unfold isAgg
  simp only[Sem.run_bind,run_underlying ht,Result.andThen_ok]
  cases d<;>simp_all
 simp only[Instr.loadAt,Instr.sureAddr,loadVar,Sem.run_bind,Sem.run_pure,Result.andThen_ok,hagg,Bool.false_eq_true,if_false]
 simp[hc]
theorem el {t:TypeId} {g i:Nat} {cs:Array Value} {T:TypeId} {v:Value} (hs:(P.info? t).map (·.size)=some 1) (hv:v.oneCell'=true) (hc:w.heap[g]? =some (.cells cs T (0,0))) (hi:i<cs.size):
 (Instr.storeAt t (.pointer (some ⟨g,i,none⟩)) v).run P w=.ok () (w.setCell ⟨g,i,none⟩ v):=by
 obtain⟨ti,hti,hsz⟩:=Option.map_eq_some_iff.1 hs
 have cZ:v.cells= #[v]:=by cases v<;>first|rfl|cases hv
 have hcell:w.cell? ⟨g,i,none⟩=some cs[i]:=by rw[cell_of_row w g i cs T (0,0) hc];simp[hi]
 have hfr:w.frozen? ⟨g,i,none⟩=false:=frozen_of_row w g i cs T hc
 have hst:=run_store P w ⟨g,i,none⟩ v .plain hv
 have hsd:stored P w ⟨g,i,none⟩ v .plain=.ok () (w.setCell ⟨g,i,none⟩ v):=by simp[stored,hcell,hfr]
 simp only[Instr.storeAt,Instr.sureAddr,storeVar,Sem.run_bind,Sem.run_pure,Result.andThen_ok,sizeOf,typeInfo,hti,program,Sem.run,cZ,storeCells]
 have hst2:(store ⟨g,i,none⟩ v).run P w=.ok () (w.setCell ⟨g,i,none⟩ v):=hst.trans hsd
 simp[hsz,i9,hst2]
theorem qK {base:Nat} {t ty e:TypeId} {z:Value} {size bytes:Nat} (ht:P.underlying t=some (.slice e)) (hi:(P.info? e).map (fun i=>(i.zero,i.size,i.bytes))=some (some z,size,bytes)) (hzs:z.cells.size=size) (hsz:0<size)
 {v:Value} {n:Nat} {xs:List Value} (hown:w.ownsRow base e size v n xs) {x:Value} {news:List Value} (hx:Sl size news x w) (h1:∀u∈news,u.oneCell'=true)
 (hb:(xs.length+news.length)*bytes≤140737488355328*size) (hb0:0<bytes) (hbase:base≤w.heap.size):
 ∃v' w' n',(Builtin.append_ #[t,t] ty #[v,x]).run P w=.ok v' w'∧w'.ownsRow base e size v' n' (xs++news)∧gR w w' v v':=by
 obtain⟨i,hi,hz,hsize,hby⟩:=info_parts hi
 obtain⟨A,m,c,rfl,hmc,hcm,hl,cZ,hnone⟩:=hx
 have hbytes:(n+m)*bytes≤140737488355328:=by
  have e1:xs.length+news.length=(n+m)*size:=by rw[hown.1,hl,Nat.add_mul]
  rw[e1] at hb
  have:(n+m)*bytes*size≤140737488355328*size:=by rw[Nat.mul_right_comm];exact hb
  exact Nat.le_of_mul_le_mul_right this hsz
 have h63:n+m≤maxLen:=by
  have:n+m≤(n+m)*bytes:=Nat.le_mul_of_pos_right _ hb0
  unfold maxLen;omega
 rcases Nat.eq_zero_or_pos m with rfl|hm
 ·have hn:news=[]:=List.eq_nil_of_length_eq_zero (by simpa using hl)
  subst hn
  cases A with
  |none=>
   have hrun:(Builtin.append_ #[t,t] ty #[v,.slice none 0 c]).run P w=.ok v w:=by
    rcases hown.2 with⟨rfl,rfl⟩|⟨g,cap,cur,rfl,_,_,hnc,_⟩
    ·simp[Builtin.append_,run_underlying ht,sizeOf,typeInfo,hi,Builtin.lenOf,Builtin.firstCells]
    ·simp[Builtin.append_,run_underlying ht,sizeOf,typeInfo,hi,Builtin.lenOf,Builtin.firstCells,hnc,storeCells]
   exact⟨v,w,n,hrun,by simpa using hown,gR.of_ext (aH.refl w) (.inl rfl)⟩
  |some ad=>
   obtain⟨v',w',h2,h3,h4,_,h5⟩:=run_append_own_at (P:=P) w base t ty e i z size bytes ht hi hz hsize hby hzs hsz v n xs hown ad 0 c [] (by simp) (by simp) (by simp) h63 hbytes hbase
   exact⟨v',w',_,h2,h3,h4,h5.imp_right fun h k hk=>by rw[h] at hk;exact Nat.le_of_eq (Option.some.inj hk)⟩
 ·obtain⟨ad,rfl,hc⟩:=cZ hm
  obtain⟨v',w',h2,h3,h4,_,h5⟩:=run_append_own_at (P:=P) w base t ty e i z size bytes ht hi hz hsize hby hzs hsz v n xs hown ad m c news hl hc h1 h63 hbytes hbase
  exact⟨v',w',_,h2,h3,h4,h5.imp_right fun h k hk=>by rw[h] at hk;exact Nat.le_of_eq (Option.some.inj hk)⟩
theorem IX {t ty:TypeId} {e:TypeId} {sz:Nat} (ht:P.underlying t=some (.slice e)) {xs:List Value} {v:Value} (h:Sl sz xs v w):∃n,xs.length=n*sz∧n≤maxLen∧(Builtin.len_ #[t] ty #[v]).run P w=.ok (I n) w:=by
 obtain⟨A,n,c,rfl,hnc,hcm,hl,_,_⟩:=h
 refine⟨n,hl,Nat.le_trans hnc hcm,?_⟩
 simp[Builtin.len_,run_underlying ht,goInt,I]
theorem HH {t e:TypeId} {sz:Nat} (ht:P.underlying t=some (.slice e)) (hsz:(P.info? e).map (·.size)=some sz) {xs:List Value} {v:Value} (h:Sl sz xs v w) {lo hi:Nat} (h1:lo≤hi) (h2:hi*sz≤xs.length) (h0:0<sz) (kl kh:IntKind):
 ∃r,(∀w':World,(Instr.sliceAt t v (some (.int kl lo)) (some (.int kh hi)) none).run P w'=.ok r w')∧Sl sz ((xs.take (hi*sz)).drop (lo*sz)) r w:=by
 obtain⟨A,n,c,rfl,hnc,hcm,hl,hc,hnone⟩:=h
 obtain⟨i,hi',hs⟩:=Option.map_eq_some_iff.1 hsz
 have hhn:hi≤n:=by
  rw[hl] at h2
  exact Nat.le_of_mul_le_mul_right h2 h0
 have hb:∀w:World,(Instr.sliceBounds true n c (some (.int kl lo)) (some (.int kh hi)) none).run P w=.ok (lo,hi,c) w:=fun w=>by
  have a1:=run_sliceBound (P:=P) (w:=w) kh (hi:Int) c .sliceAcap (by omega) (by omega)
  have a2:=run_sliceBound (P:=P) (w:=w) kl (lo:Int) hi .sliceB (by omega) (by omega)
  simp only[Int.toNat_natCast] at a1 a2
  simp[Instr.sliceBounds,a1,a2]
 refine⟨.slice (if c=lo then A else A.map (·.add (lo*sz))) (hi-lo) (c-lo),?_,?_⟩
 ·intro w';simp[Instr.sliceAt,Instr.slice,run_underlying ht,hb,sizeOf,typeInfo,hi',hs]
 ·refine⟨_,_,_,rfl,by omega,by omega,?_,fun hn=>?_,fun hA=>?_⟩
  ·rw[List.length_drop,List.length_take,Nat.min_eq_left h2,←Nat.sub_mul]
  ·obtain⟨ad,rfl,hcl⟩:=hc (by omega)
   rw[if_neg (by omega)]
   exact⟨_,rfl,(hcl.take _).drop _⟩
  ·split at hA
   ·have:=hnone hA;omega
   ·cases A with
    |none=>have:=hnone rfl;omega
    |some ad=>cases hA
theorem pL {t e:TypeId} {sz:Nat} (ht:P.underlying t=some (.slice e)) (hsz:(P.info? e).map (·.size)=some sz) {xs:List Value} {v:Value} (h:Sl sz xs v w) {lo:Nat} (h2:lo*sz≤xs.length) (h0:0<sz) (kl:IntKind):
 ∃r,(∀w':World,(Instr.sliceAt t v (some (.int kl lo)) none none).run P w'=.ok r w')∧Sl sz (xs.drop (lo*sz)) r w:=by
 obtain⟨A,n,c,rfl,hnc,hcm,hl,hc,hnone⟩:=h
 obtain⟨i,hi',hs⟩:=Option.map_eq_some_iff.1 hsz
 have hln:lo≤n:=by
  rw[hl] at h2
  exact Nat.le_of_mul_le_mul_right h2 h0
 have hb:∀w:World,(Instr.sliceBounds true n c (some (.int kl lo)) none none).run P w=.ok (lo,n,c) w:=fun w=>by
  have a2:=run_sliceBound (P:=P) (w:=w) kl (lo:Int) n .sliceB (by omega) (by omega)
  simp only[Int.toNat_natCast] at a2
  simp[Instr.sliceBounds,a2]
 refine⟨.slice (if c=lo then A else A.map (·.add (lo*sz))) (n-lo) (c-lo),?_,?_⟩
 ·intro w';simp[Instr.sliceAt,Instr.slice,run_underlying ht,hb,sizeOf,typeInfo,hi',hs]
 ·refine⟨_,_,_,rfl,by omega,by omega,?_,fun hn=>?_,fun hA=>?_⟩
  ·rw[List.length_drop,hl,←Nat.sub_mul]
  ·obtain⟨ad,rfl,hcl⟩:=hc (by omega)
   rw[if_neg (by omega)]
   exact⟨_,rfl,hcl.drop _⟩
  ·split at hA
   ·have:=hnone hA;omega
   ·cases A with
    |none=>have:=hnone rfl;omega
    |some ad=>cases hA
theorem pO {t e:TypeId} {sz:Nat} (ht:P.underlying t=some (.slice e)) (hsz:(P.info? e).map (·.size)=some sz) {xs:List Value} {v:Value} (h:Sl sz xs v w) {hi:Nat} (h2:hi*sz≤xs.length) (h0:0<sz) (kh:IntKind):
 ∃r,(∀w':World,(Instr.sliceAt t v none (some (.int kh hi)) none).run P w'=.ok r w')∧Sl sz (xs.take (hi*sz)) r w:=by
 obtain⟨A,n,c,rfl,hnc,hcm,hl,hc,hnone⟩:=h
 obtain⟨i,hi',hs⟩:=Option.map_eq_some_iff.1 hsz
 have hhn:hi≤n:=by
  rw[hl] at h2
  exact Nat.le_of_mul_le_mul_right h2 h0
 have hb:∀w:World,(Instr.sliceBounds true n c none (some (.int kh hi)) none).run P w=.ok (0,hi,c) w:=fun w=>by
  have a1:=run_sliceBound (P:=P) (w:=w) kh (hi:Int) c .sliceAcap (by omega) (by omega)
  simp only[Int.toNat_natCast] at a1
  simp[Instr.sliceBounds,a1]
 refine⟨.slice (if c=0 then A else A.map (·.add (0*sz))) (hi-0) (c-0),?_,?_⟩
 ·intro w';simp[Instr.sliceAt,Instr.slice,run_underlying ht,hb,sizeOf,typeInfo,hi',hs]
 ·have hA':(if c=0 then A else A.map (·.add (0*sz)))=A:=by
   split
   ·rfl
   ·cases A<;>simp[i9]
  rw[hA']
  refine⟨_,_,_,rfl,by omega,by omega,?_,fun hn=>?_,fun hA=>by have:=hnone hA;omega⟩
  ·rw[List.length_take,Nat.min_eq_left h2];simp
  ·obtain⟨ad,rfl,hcl⟩:=hc (by omega)
   exact⟨_,rfl,hcl.take _⟩
theorem ym {t e:TypeId} {sz:Nat} (ht:P.underlying t=some (.slice e)) (hsz:(P.info? e).map (·.size)=some sz) {xs:List Value} {v:Value} (h:Sl sz xs v w) {i:Nat} (h2:(i+1)*sz≤xs.length) (h0:0<sz) (k:IntKind):
 ∃ad,(∀w':World,(Instr.indexAt t v (.int k i)).run P w'=.ok (.pointer (some ad)) w')∧dw w ad ((xs.drop (i*sz)).take sz):=by
 obtain⟨A,n,c,rfl,hnc,hcm,hl,hc,hnone⟩:=h
 obtain⟨ti,hi',hs⟩:=Option.map_eq_some_iff.1 hsz
 have hin:i<n:=by
  rw[hl] at h2
  exact Nat.le_of_mul_le_mul_right h2 h0
 obtain⟨ad,rfl,hcl⟩:=hc (by omega)
 refine⟨ad.add (i*sz),?_,(hcl.drop _).take _⟩
 intro w'
 simp[Instr.indexAt,asIntOf,run_underlying ht,hin,sizeOf,typeInfo,hi',hs]
end
end Go.Rl
namespace Go.Rl
section
variable {P:Program} {w:World} {t:TypeId} {x y:Operand}
theorem bR {op:BinOp} {k k':IntKind} {a b:Int}:(bin op t x y (.int k a) (.int k' b)).run P w=(binOp op t (.int k a) (.int k' b)).run P w:=by
 unfold bin eqGuard
 cases op<;>rfl
theorem pQ {n:Int} (h1: -9223372036854775808≤n) (h2:n≤9223372036854775807):IntKind.i64.wrap n=n:=by rw[IntKind.wrap_i64];omega
theorem aR {a b:Int} (h1: -9223372036854775808≤a+b) (h2:a+b≤9223372036854775807):(bin .add t x y (I a) (I b)).run P w=.ok (I (a+b)) w:=by
 unfold I;rw[bR];simp[binOp,Op.intArith,pQ h1 h2]
theorem bD {a b:Int} (h1: -9223372036854775808≤a-b) (h2:a-b≤9223372036854775807):(bin .sub t x y (I a) (I b)).run P w=.ok (I (a-b)) w:=by
 unfold I;rw[bR];simp[binOp,Op.intArith,pQ h1 h2]
theorem fc {a b:Int} (h1: -9223372036854775808≤a*b) (h2:a*b≤9223372036854775807):(bin .mul t x y (I a) (I b)).run P w=.ok (I (a*b)) w:=by
 unfold I;rw[bR];simp[binOp,Op.intArith,pQ h1 h2]
theorem qL {a b:Int} (h1:0≤a) (h2:0<b) (h3:a≤9223372036854775807):(bin .quo t x y (I a) (I b)).run P w=.ok (I (a/b)) w:=by
 unfold I;rw[bR]
 have e:a.tdiv b=a/b:=Int.tdiv_eq_ediv_of_nonneg h1
 have h4:0≤a/b:=Int.ediv_nonneg h1 (by omega)
 have h5:a/b≤a:=Int.ediv_le_self b h1
 have h6:IntKind.i64.wrap (a/b)=a/b:=pQ (by omega) (by omega)
 have h7:b≠0:=by omega
 simp[binOp,Op.intDiv,h7,e,h6]
theorem oY {a b:Int} (h1:0≤a) (h2:0<b):(bin .rem t x y (I a) (I b)).run P w=.ok (I (a%b)) w:=by
 unfold I;rw[bR]
 have e:a.tmod b=a%b:=Int.tmod_eq_emod_of_nonneg h1
 have h7:b≠0:=by omega
 simp[binOp,Op.intDiv,h7,e]
theorem a6 {a b:Int}:(bin .lss t x y (I a) (I b)).run P w=.ok (B (decide (a<b))) w:=by unfold I;rw[bR];rfl
theorem CK {a b:Int}:(bin .leq t x y (I a) (I b)).run P w=.ok (B (decide (a≤b))) w:=by unfold I;rw[bR];rfl
theorem bT {a b:Int}:(bin .gtr t x y (I a) (I b)).run P w=.ok (B (decide (a>b))) w:=by unfold I;rw[bR];rfl
theorem gL {a b:Int}:(bin .geq t x y (I a) (I b)).run P w=.ok (B (decide (a≥b))) w:=by unfold I;rw[bR];rfl
theorem yn {a b:Int}:(a==b)=decide (a=b):=rfl
theorem yo {a b:Int}:(a !=b)=decide (a≠b):=by
 by_cases h:a=b<;>simp[h]
theorem bo {a b:Int}:(bin .eql t x y (I a) (I b)).run P w=.ok (B (decide (a=b))) w:=by unfold I;rw[bR];rfl
theorem dn {a b:Int}:(bin .neq t x y (I a) (I b)).run P w=.ok (B (decide (a≠b))) w:=by
 unfold I;rw[bR,←yo];rfl
theorem HI {a:Int} {k:IntKind} (s:Nat) (hs:s<64):(bin .shr t x y (I a) (.int k (s:Int))).run P w=.ok (I (a/2^s)) w:=by
 unfold I;rw[bR]
 have h1:¬((s:Int)<0):=by omega
 have h2:min s 64=s:=by omega
 have e:a.fdiv (2^s)=a/2^s:=Int.fdiv_eq_ediv_of_nonneg _ (by exact Int.le_of_lt (Int.pow_pos (by omega)))
 simp only[binOp,Op.shift,if_neg h1,Int.toNat_natCast,IntKind.bits,h2,e]
 rfl
theorem yp {a:Int} (h1: -9223372036854775808≤ -a) (h2: -a≤9223372036854775807):(Op.unary .neg (I a)).run P w=.ok (I (-a)) w:=by
 have:IntKind.i64.wrap (0-a)= -a:=by rw[Int.zero_sub];exact pQ h1 h2
 simp only[I,Op.unary,Op.intArith,this];rfl
theorem CL {a b:Int64}:(bin .xor t x y (I a.toInt) (I b.toInt)).run P w=.ok (I (a^^^b).toInt) w:=by
 unfold I;rw[bR]
 have e:IntKind.i64.wrap ((BitVec.ofInt 64 a.toInt^^^BitVec.ofInt 64 b.toInt).toNat:Int)=(a^^^b).toInt:=by
  have ea:BitVec.ofInt 64 a.toInt=a.toBitVec:=BitVec.ofInt_toInt
  have eb:BitVec.ofInt 64 b.toInt=b.toBitVec:=BitVec.ofInt_toInt
  rw[ea,eb,IntKind.wrap_i64]
  show _=(a.toBitVec^^^b.toBitVec).toInt
  rw[BitVec.toInt_eq_toNat_cond]
  have:=(a.toBitVec^^^b.toBitVec).isLt
  split<;>omega
 show Result.ok (Value.int .i64 (IntKind.i64.wrap ((BitVec.ofInt 64 a.toInt^^^BitVec.ofInt 64 b.toInt).toNat:Int))) w=_
 rw[e]
theorem dD {p:Prop} {dp:Decidable p} {s:Sem Value} {w':World} (h:p) (hr:s.run P w=.ok (B (@decide p dp)) w'):s.run P w=.ok (B true) w':=by rw[hr,decide_eq_true h]
theorem d7 {p:Prop} {dp:Decidable p} {s:Sem Value} {w':World} (h:¬p) (hr:s.run P w=.ok (B (@decide p dp)) w'):s.run P w=.ok (B false) w':=by rw[hr,decide_eq_false h]
theorem bB {b:Bool}:(Op.unary .not (B b)).run P w=.ok (B (!b)) w:=rfl
theorem yq {p:Prop} {dp:Decidable p}:(Op.unary .not (B (@decide p dp))).run P w=.ok (B (decide (¬p))) w:=by
 show Result.ok (Value.bool (!decide p)) w=_
 rw[←decide_not];rfl
theorem tG (n:Nat):IntKind.u8.wrap (n:Int)=((n%256:Nat):Int):=by rw[IntKind.wrap_u8];omega
theorem Fm (a:UInt8):a.toNat<256:=a.toNat_lt
theorem qO (a:UInt8):BitVec.ofInt 8 (a.toNat:Int)=a.toBitVec:=by
 rw[BitVec.ofInt_natCast];exact BitVec.eq_of_toNat_eq (by simp)
theorem Fo {a b:UInt8} (h:a.toNat=b.toNat):a=b:=UInt8.toNat_inj.1 h
theorem lu {a b:UInt8}:(bin .lss t x y (U8 a) (U8 b)).run P w=.ok (B (decide (a<b))) w:=by
 unfold U8;rw[bR]
 have:decide (((a.toNat:Int))<(b.toNat:Int))=decide (a<b):=decide_eq_decide.2 (by rw[UInt8.lt_iff_toNat_lt];omega)
 show Result.ok (Value.bool (decide (((a.toNat:Int))<(b.toNat:Int)))) w=_
 rw[this];rfl
theorem ub {a b:UInt8}:(bin .gtr t x y (U8 a) (U8 b)).run P w=.ok (B (decide (a>b))) w:=by
 unfold U8;rw[bR]
 have:decide (((a.toNat:Int))>(b.toNat:Int))=decide (a>b):=decide_eq_decide.2 (by show _↔b<a;rw[UInt8.lt_iff_toNat_lt];omega)
 show Result.ok (Value.bool (decide (((a.toNat:Int))>(b.toNat:Int)))) w=_
 rw[this];rfl
theorem nS {a b:UInt8}:(bin .eql t x y (U8 a) (U8 b)).run P w=.ok (B (decide (a=b))) w:=by
 unfold U8;rw[bR]
 have:(((a.toNat:Int))==(b.toNat:Int))=decide (a=b):=by
  rw[yn];exact decide_eq_decide.2 ⟨fun h=>Fo (by omega),fun h=>by rw[h]⟩
 show Result.ok (Value.bool (((a.toNat:Int))==(b.toNat:Int))) w=_
 rw[this];rfl
theorem Fp {a b:UInt8}:(bin .neq t x y (U8 a) (U8 b)).run P w=.ok (B (decide (a≠b))) w:=by
 unfold U8;rw[bR]
 have:(((a.toNat:Int)) !=(b.toNat:Int))=decide (a≠b):=by
  rw[yo];exact decide_eq_decide.2 ⟨fun h he=>h (by rw[he]),fun h he=>h (Fo (by omega))⟩
 show Result.ok (Value.bool (((a.toNat:Int)) !=(b.toNat:Int))) w=_
 rw[this];rfl
theorem Fq {a b:UInt8}:(bin .and t x y (U8 a) (U8 b)).run P w=.ok (U8 (a&&&b)) w:=by
 unfold U8;rw[bR]
 show Result.ok (Value.int .u8 (IntKind.u8.wrap ((BitVec.ofInt 8 (a.toNat:Int)&&&BitVec.ofInt 8 (b.toNat:Int)).toNat:Int))) w=_
 rw[qO,qO,tG,Nat.mod_eq_of_lt (by have:=(a.toBitVec&&&b.toBitVec).isLt;simpa using this)]
 rfl
theorem HJ {a b:UInt8}:(bin .or t x y (U8 a) (U8 b)).run P w=.ok (U8 (a|||b)) w:=by
 unfold U8;rw[bR]
 show Result.ok (Value.int .u8 (IntKind.u8.wrap ((BitVec.ofInt 8 (a.toNat:Int)|||BitVec.ofInt 8 (b.toNat:Int)).toNat:Int))) w=_
 rw[qO,qO,tG,Nat.mod_eq_of_lt (by have:=(a.toBitVec|||b.toBitVec).isLt;simpa using this)]
 rfl
theorem jb (n:Nat):IntKind.u32.wrap (n:Int)=((n%4294967296:Nat):Int):=by rw[IntKind.wrap_u32];omega
theorem Fs (a:UInt32):a.toNat<4294967296:=a.toNat_lt
theorem iI (a:UInt32):BitVec.ofInt 32 (a.toNat:Int)=a.toBitVec:=by
 rw[BitVec.ofInt_natCast];exact BitVec.eq_of_toNat_eq (by simp)
theorem CM {a b:UInt32} (h:a.toNat=b.toNat):a=b:=UInt32.toNat_inj.1 h
theorem cG {a b:UInt32}:(bin .add t x y (bE a) (bE b)).run P w=.ok (bE (a+b)) w:=by
 unfold bE;rw[bR]
 show Result.ok (Value.int .u32 (IntKind.u32.wrap (((a.toNat:Int))+(b.toNat:Int)))) w=_
 rw[←Int.natCast_add,jb,UInt32.toNat_add]
theorem wu {a b:UInt32}:(bin .lss t x y (bE a) (bE b)).run P w=.ok (B (decide (a<b))) w:=by
 unfold bE;rw[bR]
 have:decide (((a.toNat:Int))<(b.toNat:Int))=decide (a<b):=decide_eq_decide.2 (by rw[UInt32.lt_iff_toNat_lt];omega)
 show Result.ok (Value.bool (decide (((a.toNat:Int))<(b.toNat:Int)))) w=_
 rw[this];rfl
theorem wv {a b:UInt32}:(bin .gtr t x y (bE a) (bE b)).run P w=.ok (B (decide (a>b))) w:=by
 unfold bE;rw[bR]
 have:decide (((a.toNat:Int))>(b.toNat:Int))=decide (a>b):=decide_eq_decide.2 (by show _↔b<a;rw[UInt32.lt_iff_toNat_lt];omega)
 show Result.ok (Value.bool (decide (((a.toNat:Int))>(b.toNat:Int)))) w=_
 rw[this];rfl
theorem rP {a b:UInt32}:(bin .geq t x y (bE a) (bE b)).run P w=.ok (B (decide (a≥b))) w:=by
 unfold bE;rw[bR]
 have:decide (((a.toNat:Int))≥(b.toNat:Int))=decide (a≥b):=decide_eq_decide.2 (by show _↔b≤a;rw[UInt32.le_iff_toNat_le];omega)
 show Result.ok (Value.bool (decide (((a.toNat:Int))≥(b.toNat:Int)))) w=_
 rw[this];rfl
theorem oZ {a b:UInt32}:(bin .eql t x y (bE a) (bE b)).run P w=.ok (B (decide (a=b))) w:=by
 unfold bE;rw[bR]
 have:(((a.toNat:Int))==(b.toNat:Int))=decide (a=b):=by
  rw[yn];exact decide_eq_decide.2 ⟨fun h=>CM (by omega),fun h=>by rw[h]⟩
 show Result.ok (Value.bool (((a.toNat:Int))==(b.toNat:Int))) w=_
 rw[this];rfl
theorem lw {a b:UInt32}:(bin .neq t x y (bE a) (bE b)).run P w=.ok (B (decide (a≠b))) w:=by
 unfold bE;rw[bR]
 have:(((a.toNat:Int)) !=(b.toNat:Int))=decide (a≠b):=by
  rw[yo];exact decide_eq_decide.2 ⟨fun h he=>h (by rw[he]),fun h he=>h (CM (by omega))⟩
 show Result.ok (Value.bool (((a.toNat:Int)) !=(b.toNat:Int))) w=_
 rw[this];rfl
theorem ff {a b:UInt32}:(bin .and t x y (bE a) (bE b)).run P w=.ok (bE (a&&&b)) w:=by
 unfold bE;rw[bR]
 show Result.ok (Value.int .u32 (IntKind.u32.wrap ((BitVec.ofInt 32 (a.toNat:Int)&&&BitVec.ofInt 32 (b.toNat:Int)).toNat:Int))) w=_
 rw[iI,iI,jb,Nat.mod_eq_of_lt (by have:=(a.toBitVec&&&b.toBitVec).isLt;simpa using this)]
 rfl
theorem fg {a b:UInt32}:(bin .or t x y (bE a) (bE b)).run P w=.ok (bE (a|||b)) w:=by
 unfold bE;rw[bR]
 show Result.ok (Value.int .u32 (IntKind.u32.wrap ((BitVec.ofInt 32 (a.toNat:Int)|||BitVec.ofInt 32 (b.toNat:Int)).toNat:Int))) w=_
 rw[iI,iI,jb,Nat.mod_eq_of_lt (by have:=(a.toBitVec|||b.toBitVec).isLt;simpa using this)]
 rfl
theorem cJ {a b:UInt32}:(bin .xor t x y (bE a) (bE b)).run P w=.ok (bE (a^^^b)) w:=by
 unfold bE;rw[bR]
 show Result.ok (Value.int .u32 (IntKind.u32.wrap ((BitVec.ofInt 32 (a.toNat:Int)^^^BitVec.ofInt 32 (b.toNat:Int)).toNat:Int))) w=_
 rw[iI,iI,jb,Nat.mod_eq_of_lt (by have:=(a.toBitVec^^^b.toBitVec).isLt;simpa using this)]
 rfl
theorem td {a:UInt32}:(Op.unary .xor (bE a)).run P w=.ok (bE (~~~a)) w:=by
 show Result.ok (Value.int .u32 (IntKind.u32.wrap ((BitVec.ofInt 32 (4294967295:Int)^^^BitVec.ofInt 32 (a.toNat:Int)).toNat:Int))) w=_
 have e:BitVec.ofInt 32 (4294967295:Int)=BitVec.allOnes 32:=by decide
 rw[iI,e,BitVec.allOnes_xor,jb,Nat.mod_eq_of_lt (by have:=(~~~a.toBitVec).isLt;simpa using this)]
 rfl
theorem cO {a:UInt32} {k:IntKind} (s:Nat) (hs:s<32):(bin .shr t x y (bE a) (.int k (s:Int))).run P w=.ok (bE (a>>>UInt32.ofNat s)) w:=by
 unfold bE;rw[bR]
 have h1:¬((s:Int)<0):=by omega
 have h2:min s 32=s:=by omega
 have e:((a.toNat:Int)).fdiv (2^s)=((a.toNat/2^s:Nat):Int):=by
  rw[Int.fdiv_eq_ediv_of_nonneg _ (by exact Int.le_of_lt (Int.pow_pos (by omega)))]
  simp
 have e2:(a>>>UInt32.ofNat s).toNat=a.toNat/2^s:=by
  rw[UInt32.toNat_shiftRight,Nat.shiftRight_eq_div_pow]
  have:(UInt32.ofNat s).toNat%32=s:=by rw[UInt32.toNat_ofNat'];omega
  rw[this]
 simp only[binOp,Op.shift,if_neg h1,Int.toNat_natCast,IntKind.bits,h2,e,←e2]
 rfl
theorem eE {a:UInt32} {k:IntKind} (s:Nat) (hs:s<32):(bin .shl t x y (bE a) (.int k (s:Int))).run P w=.ok (bE (a<<<UInt32.ofNat s)) w:=by
 unfold bE;rw[bR]
 have h1:¬((s:Int)<0):=by omega
 have h2:min s 32=s:=by omega
 have e2:(a<<<UInt32.ofNat s).toNat=a.toNat*2^s%4294967296:=by
  rw[UInt32.toNat_shiftLeft,Nat.shiftLeft_eq]
  have:(UInt32.ofNat s).toNat%32=s:=by rw[UInt32.toNat_ofNat'];omega
  rw[this]
 have e:((a.toNat:Int))*2^s=((a.toNat*2^s:Nat):Int):=by simp
 simp only[binOp,Op.shift,if_neg h1,Int.toNat_natCast,IntKind.bits,h2,e,jb,←e2]
 rfl
theorem gD (n:Nat):IntKind.u64.wrap (n:Int)=((n%18446744073709551616:Nat):Int):=by rw[IntKind.wrap_u64];omega
theorem uc (a:UInt64):a.toNat<18446744073709551616:=a.toNat_lt
theorem jI (a:UInt64):BitVec.ofInt 64 (a.toNat:Int)=a.toBitVec:=by
 rw[BitVec.ofInt_natCast];exact BitVec.eq_of_toNat_eq (by simp)
theorem yr {a b:UInt64} (h:a.toNat=b.toNat):a=b:=UInt64.toNat_inj.1 h
theorem dQ {a b:UInt64}:(bin .add t x y (bW a) (bW b)).run P w=.ok (bW (a+b)) w:=by
 unfold bW;rw[bR]
 show Result.ok (Value.int .u64 (IntKind.u64.wrap (((a.toNat:Int))+(b.toNat:Int)))) w=_
 rw[←Int.natCast_add,gD,UInt64.toNat_add]
theorem dR {a b:UInt64}:(bin .sub t x y (bW a) (bW b)).run P w=.ok (bW (a-b)) w:=by
 unfold bW;rw[bR]
 show Result.ok (Value.int .u64 (IntKind.u64.wrap (((a.toNat:Int))-(b.toNat:Int)))) w=_
 rw[IntKind.wrap_u64,UInt64.toNat_sub]
 have:=uc a;have:=uc b
 have e:((a.toNat:Int)-(b.toNat:Int))%18446744073709551616=(((18446744073709551616-b.toNat+a.toNat)%18446744073709551616:Nat):Int):=by omega
 rw[e]
theorem iJ {a b:UInt64}:(bin .mul t x y (bW a) (bW b)).run P w=.ok (bW (a*b)) w:=by
 unfold bW;rw[bR]
 show Result.ok (Value.int .u64 (IntKind.u64.wrap (((a.toNat:Int))*(b.toNat:Int)))) w=_
 rw[←Int.natCast_mul,gD,UInt64.toNat_mul]
theorem lx {a b:UInt64} (hb:b≠0):(bin .quo t x y (bW a) (bW b)).run P w=.ok (bW (a/b)) w:=by
 unfold bW;rw[bR]
 have h0:b.toNat≠0:=fun h=>hb (yr (by simpa using h))
 have h1:(b.toNat:Int)≠0:=by omega
 have e:((a.toNat:Int)).tdiv (b.toNat:Int)=((a.toNat/b.toNat:Nat):Int):=rfl
 have hlt:a.toNat/b.toNat<18446744073709551616:=Nat.lt_of_le_of_lt (Nat.div_le_self _ _) (uc a)
 simp only[binOp,Op.intDiv,ne_eq,not_true_eq_false,if_false,if_neg h1,e,gD,Nat.mod_eq_of_lt hlt,UInt64.toNat_div]
 rfl
theorem ly {a b:UInt64} (hb:b≠0):(bin .rem t x y (bW a) (bW b)).run P w=.ok (bW (a%b)) w:=by
 unfold bW;rw[bR]
 have h0:b.toNat≠0:=fun h=>hb (yr (by simpa using h))
 have h1:(b.toNat:Int)≠0:=by omega
 have e:((a.toNat:Int)).tmod (b.toNat:Int)=((a.toNat%b.toNat:Nat):Int):=rfl
 simp only[binOp,Op.intDiv,ne_eq,not_true_eq_false,if_false,if_neg h1,e,UInt64.toNat_mod]
 rfl
theorem DE {a b:UInt64}:(bin .lss t x y (bW a) (bW b)).run P w=.ok (B (decide (a<b))) w:=by
 unfold bW;rw[bR]
 have:decide (((a.toNat:Int))<(b.toNat:Int))=decide (a<b):=decide_eq_decide.2 (by rw[UInt64.lt_iff_toNat_lt];omega)
 show Result.ok (Value.bool (decide (((a.toNat:Int))<(b.toNat:Int)))) w=_
 rw[this];rfl
theorem ww {a b:UInt64}:(bin .leq t x y (bW a) (bW b)).run P w=.ok (B (decide (a≤b))) w:=by
 unfold bW;rw[bR]
 have:decide (((a.toNat:Int))≤(b.toNat:Int))=decide (a≤b):=decide_eq_decide.2 (by rw[UInt64.le_iff_toNat_le];omega)
 show Result.ok (Value.bool (decide (((a.toNat:Int))≤(b.toNat:Int)))) w=_
 rw[this];rfl
theorem cX {a b:UInt64}:(bin .gtr t x y (bW a) (bW b)).run P w=.ok (B (decide (a>b))) w:=by
 unfold bW;rw[bR]
 have:decide (((a.toNat:Int))>(b.toNat:Int))=decide (a>b):=decide_eq_decide.2 (by show _↔b<a;rw[UInt64.lt_iff_toNat_lt];omega)
 show Result.ok (Value.bool (decide (((a.toNat:Int))>(b.toNat:Int)))) w=_
 rw[this];rfl
theorem jJ {a b:UInt64}:(bin .geq t x y (bW a) (bW b)).run P w=.ok (B (decide (a≥b))) w:=by
 unfold bW;rw[bR]
 have:decide (((a.toNat:Int))≥(b.toNat:Int))=decide (a≥b):=decide_eq_decide.2 (by show _↔b≤a;rw[UInt64.le_iff_toNat_le];omega)
 show Result.ok (Value.bool (decide (((a.toNat:Int))≥(b.toNat:Int)))) w=_
 rw[this];rfl
theorem lz {a b:UInt64}:(bin .eql t x y (bW a) (bW b)).run P w=.ok (B (decide (a=b))) w:=by
 unfold bW;rw[bR]
 have:(((a.toNat:Int))==(b.toNat:Int))=decide (a=b):=by
  rw[yn];exact decide_eq_decide.2 ⟨fun h=>yr (by omega),fun h=>by rw[h]⟩
 show Result.ok (Value.bool (((a.toNat:Int))==(b.toNat:Int))) w=_
 rw[this];rfl
theorem wG {a b:UInt64}:(bin .and t x y (bW a) (bW b)).run P w=.ok (bW (a&&&b)) w:=by
 unfold bW;rw[bR]
 show Result.ok (Value.int .u64 (IntKind.u64.wrap ((BitVec.ofInt 64 (a.toNat:Int)&&&BitVec.ofInt 64 (b.toNat:Int)).toNat:Int))) w=_
 rw[jI,jI,gD,Nat.mod_eq_of_lt (by have:=(a.toBitVec&&&b.toBitVec).isLt;simpa using this)]
 rfl
theorem jc {a b:UInt64}:(bin .or t x y (bW a) (bW b)).run P w=.ok (bW (a|||b)) w:=by
 unfold bW;rw[bR]
 show Result.ok (Value.int .u64 (IntKind.u64.wrap ((BitVec.ofInt 64 (a.toNat:Int)|||BitVec.ofInt 64 (b.toNat:Int)).toNat:Int))) w=_
 rw[jI,jI,gD,Nat.mod_eq_of_lt (by have:=(a.toBitVec|||b.toBitVec).isLt;simpa using this)]
 rfl
theorem DF {a b:UInt64}:(bin .xor t x y (bW a) (bW b)).run P w=.ok (bW (a^^^b)) w:=by
 unfold bW;rw[bR]
 show Result.ok (Value.int .u64 (IntKind.u64.wrap ((BitVec.ofInt 64 (a.toNat:Int)^^^BitVec.ofInt 64 (b.toNat:Int)).toNat:Int))) w=_
 rw[jI,jI,gD,Nat.mod_eq_of_lt (by have:=(a.toBitVec^^^b.toBitVec).isLt;simpa using this)]
 rfl
theorem dk {a:UInt64} {k:IntKind} (s:Nat) (hs:s<64):(bin .shr t x y (bW a) (.int k (s:Int))).run P w=.ok (bW (a>>>UInt64.ofNat s)) w:=by
 unfold bW;rw[bR]
 have h1:¬((s:Int)<0):=by omega
 have h2:min s 64=s:=by omega
 have e:((a.toNat:Int)).fdiv (2^s)=((a.toNat/2^s:Nat):Int):=by
  rw[Int.fdiv_eq_ediv_of_nonneg _ (by exact Int.le_of_lt (Int.pow_pos (by omega)))]
  simp
 have e2:(a>>>UInt64.ofNat s).toNat=a.toNat/2^s:=by
  rw[UInt64.toNat_shiftRight,Nat.shiftRight_eq_div_pow]
  have:(UInt64.ofNat s).toNat%64=s:=by rw[UInt64.toNat_ofNat'];omega
  rw[this]
 simp only[binOp,Op.shift,if_neg h1,Int.toNat_natCast,IntKind.bits,h2,e,←e2]
 rfl
theorem fG {a:UInt64} {k:IntKind} (s:Nat) (hs:s<64):(bin .shl t x y (bW a) (.int k (s:Int))).run P w=.ok (bW (a<<<UInt64.ofNat s)) w:=by
 unfold bW;rw[bR]
 have h1:¬((s:Int)<0):=by omega
 have h2:min s 64=s:=by omega
 have e2:(a<<<UInt64.ofNat s).toNat=a.toNat*2^s%18446744073709551616:=by
  rw[UInt64.toNat_shiftLeft,Nat.shiftLeft_eq]
  have:(UInt64.ofNat s).toNat%64=s:=by rw[UInt64.toNat_ofNat'];omega
  rw[this]
 have e:((a.toNat:Int))*2^s=((a.toNat*2^s:Nat):Int):=by simp
 simp only[binOp,Op.shift,if_neg h1,Int.toNat_natCast,IntKind.bits,h2,e,gD,←e2]
 rfl
theorem kU {s d:TypeId} {ds:TypeDesc} {j k:IntKind} {n:Int} (hs:P.underlying s=some ds) (hd:P.underlying d=some (.int k)):(convert s d (.int j n)).run P w=.ok (.int k (k.wrap n)) w:=by
 simp only[convert,Sem.run_bind,run_underlying hs,run_underlying hd,Result.andThen_ok]
 rfl
section
variable {s d:TypeId} {ds:TypeDesc} (hs:P.underlying s=some ds)
include hs
theorem fz {a:UInt8} (hd:P.underlying d=some (.int .u32)):(convert s d (U8 a)).run P w=.ok (bE a.toUInt32) w:=by
 unfold U8 bE;rw[kU hs hd,jb]
 have:=Fm a
 have e:a.toUInt32.toNat=a.toNat%4294967296:=by simp
 rw[e]
theorem Ft {a:UInt8} (hd:P.underlying d=some (.int .u64)):(convert s d (U8 a)).run P w=.ok (bW a.toUInt64) w:=by
 unfold U8 bW;rw[kU hs hd,gD]
 have:=Fm a
 have e:a.toUInt64.toNat=a.toNat%18446744073709551616:=by simp
 rw[e]
theorem yt {a:UInt8} (hd:P.underlying d=some (.int .i64)):(convert s d (U8 a)).run P w=.ok (I (a.toNat:Int)) w:=by
 unfold U8 I;have:=Fm a;rw[kU hs hd,pQ (by omega) (by omega)]
theorem dG {a:UInt32} (hd:P.underlying d=some (.int .u8)):(convert s d (bE a)).run P w=.ok (U8 a.toUInt8) w:=by
 unfold bE U8;rw[kU hs hd,tG]
 have:=Fs a
 have e:a.toUInt8.toNat=a.toNat%256:=by simp
 rw[e]
theorem bU {a:UInt32} (hd:P.underlying d=some (.int .u64)):(convert s d (bE a)).run P w=.ok (bW a.toUInt64) w:=by
 unfold bE bW;rw[kU hs hd,gD]
 have:=Fs a
 have e:a.toUInt64.toNat=a.toNat%18446744073709551616:=by simp
 rw[e]
theorem lB {a:UInt64} (hd:P.underlying d=some (.int .u8)):(convert s d (bW a)).run P w=.ok (U8 a.toUInt8) w:=by
 unfold bW U8;rw[kU hs hd,tG]
 have:=uc a
 have e:a.toUInt8.toNat=a.toNat%256:=by simp
 rw[e]
theorem cH {a:UInt64} (hd:P.underlying d=some (.int .u32)):(convert s d (bW a)).run P w=.ok (bE a.toUInt32) w:=by
 unfold bW bE;rw[kU hs hd,jb]
 have:=uc a
 have e:a.toUInt32.toNat=a.toNat%4294967296:=by simp
 rw[e]
theorem tH {a:Int} (hd:P.underlying d=some (.int .u64)):(convert s d (I a)).run P w=.ok (bW (UInt64.ofInt a)) w:=by
 unfold I bW;rw[kU hs hd,IntKind.wrap_u64]
 have e:((UInt64.ofInt a).toNat:Int)=a%18446744073709551616:=by
  have h2:(2:Int)^64=18446744073709551616:=by decide
  rw[UInt64.ofInt,h2,UInt64.toNat_ofNat'];omega
 rw[e]
theorem fO {a:Nat} (hd:P.underlying d=some (.int .u64)):(convert s d (I (a:Int))).run P w=.ok (bW (UInt64.ofNat a)) w:=by
 unfold I bW;rw[kU hs hd,gD,UInt64.toNat_ofNat']
theorem tI {a:UInt64} (hd:P.underlying d=some (.int .i64)) (h:a.toNat<9223372036854775808):(convert s d (bW a)).run P w=.ok (I (a.toNat:Int)) w:=by
 unfold bW I;rw[kU hs hd,pQ (by omega) (by omega)]
end
def S (l:List UInt8):Value:=.string ⟨l.toArray⟩
theorem HK {a b:List UInt8}:(bin .neq t x y (S a) (S b)).run P w=.ok (B (decide (a≠b))) w:=by
 show Result.ok (Value.bool (!((⟨a.toArray⟩:ByteArray).toList==(⟨b.toArray⟩:ByteArray).toList))) w=_
 rw[ByteArray.toList_mk,ByteArray.toList_mk]
 have e:(!(a==b))=decide (a≠b):=by by_cases h:a=b<;>simp[h]
 rw[e];rfl
end
end Go.Rl
namespace Go.Rl
open Go.RowKit Go.Proofs
theorem te (vs:List Value):∀(a b:List Value),(∀v∈vs,v.cells= #[v])→b.length=vs.length→
 Instr.fill (fun i=>some (i*1,1)) (a++b).toArray (dy a.length vs)=some (a++vs).toArray:=by
 induction vs with
 |nil=>
  intro a b _ hb
  have:b=[]:=List.eq_nil_of_length_eq_zero (by simpa using hb)
  subst this
  rfl
 |cons v vs ih=>
  intro a b h1 hb
  cases b with
  |nil=>simp at hb
  |cons b0 b=>
   have hv:v.cells= #[v]:=h1 v (by simp)
   have hz:v.cells.zipIdx.foldl (fun(cs:Array Value) (c,j)=>cs.setIfInBounds (a.length*1+j) c) (a++b0::b).toArray=((a++[v])++b).toArray:=by
    rw[hv];simp
   have hc:(v.cells.size≠1||decide (a.length*1+v.cells.size>(a++b0::b).toArray.size))=false:=by rw[hv];simp
   have:=ih (a++[v]) b (fun u hu=>h1 u (by simp[hu])) (by simpa using hb)
   simp only[dy,Instr.fill]
   rw[hc,hz]
   simp only[List.length_append,List.length_cons,List.length_nil,Nat.zero_add] at this
   simpa using this
theorem wH {v:Value} (h:v.oneCell'=true):v.cells= #[v]:=by cases v<;>first|rfl|cases h
section
variable {P:Program} {w:World}
theorem jz {base:Nat} {t e:TypeId} {z:Value} {bytes:Nat} (ht:P.underlying t=some (.slice e)) (hi:(P.info? e).map (fun i=>(i.zero,i.size,i.bytes))=some (some z,1,bytes))
 (vs:List Value) (h1:∀v∈vs,v.oneCell'=true) (hl:vs.length≤16777216) (hb:base≤w.heap.size):
 ∃r w',(Instr.buildSlice t vs.length (dy 0 vs).toArray).run P w=.ok r w'∧aH w w'∧w'.ownsRow base e 1 r vs.length vs∧r.ownBlock=some w.heap.size:=by
 obtain⟨i,hi,hz0,hs,_⟩:=info_parts hi
 refine⟨.slice (some ⟨w.heap.size,0,none⟩) vs.length vs.length,w.alloc (.cells vs.toArray e),?_,aH.new w _,?_,rfl⟩
 ·have hf:∀Z:Array Value,Z.size=vs.length→Instr.fill (fun i=>some (i*1,1)) Z (dy 0 vs)=some vs.toArray:=fun Z hZ=>by
   have:=te vs [] Z.toList (fun v hv=>wH (h1 v hv)) (by simpa using hZ)
   simpa using this
  have hle:¬(vs.length*1>2^24):=by omega
  have hinfo:(typeInfo e).run P w=.ok i w:=by simp[typeInfo,hi]
  have hsz:(sizeOf e).run P w=.ok 1 w:=by simp[sizeOf,hinfo,hs]
  have hzv:(zeroValue e).run P w=.ok z w:=by simp[zeroValue,hinfo,hz0]
  simp only[Instr.buildSlice,Sem.run_bind,run_underlying ht,Result.andThen_ok,hsz,if_neg hle]
  by_cases h0:vs.length*1=0
  ·rw[if_pos h0]
   simp only[Sem.run_bind,Sem.run_pure,Result.andThen_ok]
   rw[hf _ (by simp)]
   simp[newRow]
  ·rw[if_neg h0]
   simp only[Sem.run_bind,Sem.run_pure,Result.andThen_ok,hzv]
   rw[hf _ (by simp)]
   simp[newRow]
 ·exact World.ownsRow_lit w vs.toArray vs.length hb (by unfold maxLen;omega) (by simp)
theorem cu {u v:Value}:(Instr.extract (.tuple #[u,v]) 0).run P w=.ok u w:=rfl
theorem cv {u v:Value}:(Instr.extract (.tuple #[u,v]) 1).run P w=.ok v w:=rfl
theorem dH {u v z:Value}:(Instr.extract (.tuple #[u,v,z]) 0).run P w=.ok u w:=rfl
theorem dJ {u v z:Value}:(Instr.extract (.tuple #[u,v,z]) 1).run P w=.ok v w:=rfl
theorem dK {u v z:Value}:(Instr.extract (.tuple #[u,v,z]) 2).run P w=.ok z w:=rfl
theorem yu {t e:TypeId} (ht:P.underlying t=some (.slice e)) {x y:Operand} {A:Option Addr} {n c:Nat}:(bin .eql t x y (.slice A n c) (.slice none 0 0)).run P w=.ok (B A.isNone) w:=by
 have h:(Op.equal t (.slice A n c) (.slice none 0 0)).run P w=.ok A.isNone w:=by
  show(Op.equalIn (9999+1) t (.slice A n c) (.slice none 0 0)).run P w=_
  unfold Op.equalIn
  cases A<;>simp[run_underlying ht]
 show(do pure (Value.bool (←Op.equal t (.slice A n c) (.slice none 0 0))):Sem Value).run P w=_
 rw[Sem.run_bind,h];rfl
theorem fT {t e:TypeId} (ht:P.underlying t=some (.pointer e)) {x y:Operand} {a:Option Addr}:(bin .eql t x y (.pointer a) (.pointer none)).run P w=.ok (B a.isNone) w:=by
 have h:(Op.equal t (.pointer a) (.pointer none)).run P w=.ok a.isNone w:=by
  show(Op.equalIn (9999+1) t (.pointer a) (.pointer none)).run P w=_
  unfold Op.equalIn
  cases a<;>simp[run_underlying ht]
 show(do pure (Value.bool (←Op.equal t (.pointer a) (.pointer none))):Sem Value).run P w=_
 rw[Sem.run_bind,h];rfl
theorem gE {t e:TypeId} (ht:P.underlying t=some (.pointer e)) {x y:Operand} {a:Option Addr}:(bin .neq t x y (.pointer a) (.pointer none)).run P w=.ok (B a.isSome) w:=by
 have h:(Op.equal t (.pointer a) (.pointer none)).run P w=.ok a.isNone w:=by
  show(Op.equalIn (9999+1) t (.pointer a) (.pointer none)).run P w=_
  unfold Op.equalIn
  cases a<;>simp[run_underlying ht]
 show(do pure (Value.bool (!(←Op.equal t (.pointer a) (.pointer none)))):Sem Value).run P w=_
 rw[Sem.run_bind,h]
 cases a<;>rfl
end
section
variable {w:World}
def cK (l:List UInt8):dv:=Sl 1 (l.map U8)
def cL (base:Nat) (l:List UInt8):dv:=fun v w=>∃n,w.ownsRow base 5 1 v n (l.map U8)
theorem cK.stable (l:List UInt8):bO (cK l):=Sl.stable _ _
theorem cK.ext {l:List UInt8} {v:Value} {w w':World} (h:cK l v w) (hx:aH w w'):cK l v w':=Sl.ext h hx
theorem cL.bts {base:Nat} {l:List UInt8} {v:Value} (h:cL base l v w):cK l v w:=h.elim fun _ h=>Sl.of_own h
theorem cL.stable (base:Nat) (l:List UInt8):bO (cL base l):=fun _ _ _ h hx=>h.elim fun n h=>⟨n,fl h hx⟩
theorem cL.ext {base:Nat} {l:List UInt8} {v:Value} {w w':World} (h:cL base l v w) (hx:aH w w'):cL base l v w':=cL.stable _ _ _ _ _ h hx
theorem iu (l:List UInt8):∀u∈l.map U8,u.oneCell'=true:=by
 intro u hu
 obtain⟨b,_,rfl⟩:=List.mem_map.1 hu
 rfl
theorem tJ:(Tryz.prog.info? 5).map (fun i=>(i.zero,i.size,i.bytes))=some (some (.int .u8 0),1,1):=by kernel_rfl
theorem fe:(Tryz.prog.info? 5).map (·.size)=some 1:=by kernel_rfl
theorem Fu (l:List UInt8):∀(s:ByteArray),(l.map (fun b=>(b.toNat:Int))).foldl (fun r n=>r.push (UInt8.ofNat n.toNat)) s=⟨(s.data.toList++l).toArray⟩:=by
 induction l with
 |nil=>intro s;simp
 |cons b l ih=>
  intro s
  rw[List.map_cons,List.foldl_cons,ih]
  simp[ByteArray.push]
theorem KD {l:List UInt8} {v:Value} (h:cK l v w):(convert 22 9 v).run Tryz.prog w=.ok (S l) w:=by
 obtain⟨A,n,c,rfl,hnc,hcm,hl,hc,hnone⟩:=h
 have hl':l.length=n:=by simpa using hl
 rw[run_convert_bytes_string w _ _ _ A n c Lv Lx Tryz.underlying9]
 have hn0:n=0→l=[]:=fun h=>List.eq_nil_of_length_eq_zero (by omega)
 cases A with
 |none=>
  have:=hnone rfl
  rw[hn0 (by omega)]
  rfl
 |some a=>
  have cZ:dw w a (l.map U8):=by
   rcases Nat.eq_zero_or_pos n with h0|h0
   ·rw[hn0 h0];intro j u hu;simp at hu
   ·obtain⟨ad,he,hc⟩:=hc h0
    obtain rfl:=Option.some.inj he
    exact hc
  have hload:=run_loadCells_list (P:=Tryz.prog) (w:=w) a (l.map U8) cZ
  have hmap:(l.map U8)=(l.map (fun b=>(b.toNat:Int))).map (Value.int .u8):=by rw[List.map_map];rfl
  rw[hmap] at hload
  simp only[List.length_map] at hload
  rw[hl'] at hload
  rw[run_bytesToString w a n c _ hload,Fu]
  rfl
theorem ey {l:List UInt8} {v:Value} {ty:TypeId} (h:cK l v w):(Builtin.len_ #[22] ty #[v]).run Tryz.prog w=.ok (I l.length) w:=by
 obtain⟨n,hl,_,hr⟩:=IX (P:=Tryz.prog) (ty:=ty) Lv h
 have:l.length=n:=by simpa using hl
 rw[hr,this]
theorem cK.len {l:List UInt8} {v:Value} (h:cK l v w):l.length≤9223372036854775807:=by
 obtain⟨A,n,c,rfl,hnc,hcm,hl,_⟩:=h
 have:l.length=n:=by simpa using hl
 unfold maxLen at hcm;omega
theorem di {base:Nat} {l m:List UInt8} {v x:Value} {ty:TypeId} (hv:cL base l v w) (hx:cK m x w) (hb:l.length+m.length≤140737488355328) (hbase:base≤w.heap.size):
 ∃r w',(Builtin.append_ #[22,22] ty #[v,x]).run Tryz.prog w=.ok r w'∧cL base (l++m) r w'∧gR w w' v r:=by
 obtain⟨n,hv⟩:=hv
 obtain⟨r,w',n',h1,h2,h3⟩:=qK (P:=Tryz.prog) (ty:=ty) Tryz.underlying22 tJ rfl (by omega) hv hx (iu m) (by simpa using hb) (by omega) hbase
 exact⟨r,w',h1,⟨n',by rw[List.map_append];exact h2⟩,h3⟩
theorem dS (base:Nat) (l:List UInt8) (hl:l.length≤16777216) (hb:base≤w.heap.size):
 ∃r w',(Instr.buildSlice 22 l.length (dy 0 (l.map U8)).toArray).run Tryz.prog w=.ok r w'∧aH w w'∧cL base l r w'∧r.ownBlock=some w.heap.size:=by
 have:=jz (P:=Tryz.prog) (w:=w) Tryz.underlying22 tJ (l.map U8) (iu l) (by simpa using hl) hb
 simp only[List.length_map] at this
 obtain⟨r,w',h1,h2,h3,h4⟩:=this
 exact⟨r,w',h1,h2,⟨_,h3⟩,h4⟩
theorem tg {l:List UInt8} {v:Value} (h:cK l v w) {lo hi:Nat} (h1:lo≤hi) (h2:hi≤l.length) (kl kh:IntKind):
 ∃r,(∀w':World,(Instr.sliceAt 22 v (some (.int kl lo)) (some (.int kh hi)) none).run Tryz.prog w'=.ok r w')∧cK ((l.take hi).drop lo) r w:=by
 obtain⟨r,h3,h4⟩:=HH (P:=Tryz.prog) Tryz.underlying22 fe h h1 (by simpa using h2) (by omega) kl kh
 exact⟨r,h3,by simpa [cK,List.map_drop,List.map_take] using h4⟩
theorem qP {l:List UInt8} {v:Value} (h:cK l v w) {lo:Nat} (h2:lo≤l.length) (kl:IntKind):
 ∃r,(∀w':World,(Instr.sliceAt 22 v (some (.int kl lo)) none none).run Tryz.prog w'=.ok r w')∧cK (l.drop lo) r w:=by
 obtain⟨r,h3,h4⟩:=pL (P:=Tryz.prog) Tryz.underlying22 fe h (lo:=lo) (by simpa using h2) (by omega) kl
 exact⟨r,h3,by simpa [cK,List.map_drop] using h4⟩
theorem qQ {l:List UInt8} {v:Value} (h:cK l v w) {hi:Nat} (h2:hi≤l.length) (kh:IntKind):
 ∃r,(∀w':World,(Instr.sliceAt 22 v none (some (.int kh hi)) none).run Tryz.prog w'=.ok r w')∧cK (l.take hi) r w:=by
 obtain⟨r,h3,h4⟩:=pO (P:=Tryz.prog) Tryz.underlying22 fe h (hi:=hi) (by simpa using h2) (by omega) kh
 exact⟨r,h3,by simpa [cK,List.map_take] using h4⟩
theorem kB {l:List UInt8} {v:Value} (h:cK l v w) {i:Nat} (hi:i<l.length) (k:IntKind):
 ∃ad,(∀w':World,(Instr.indexAt 22 v (.int k i)).run Tryz.prog w'=.ok (.pointer (some ad)) w')∧w.cell? ad=some (U8 l[i]):=by
 obtain⟨ad,h3,h4⟩:=ym (P:=Tryz.prog) Tryz.underlying22 fe h (i:=i) (by simp;omega) (by omega) k
 refine⟨ad,h3,?_⟩
 have:=h4 0 (U8 l[i]) (by simp[hi])
 rwa [i9] at this
theorem IY {ad:Addr} {b:UInt8} (h:w.cell? ad=some (U8 b)):(Instr.loadAt 5 (.pointer (some ad))).run Tryz.prog w=.ok (U8 b) w:=ai Lx rfl h
def KE (l:List (List UInt8)):dv:=Sl 1 (l.map S)
theorem KE.ext {l:List (List UInt8)} {v:Value} {w w':World} (h:KE l v w) (hx:aH w w'):KE l v w':=Sl.ext h hx
theorem KE.len {l:List (List UInt8)} {v:Value} (h:KE l v w):l.length≤9223372036854775807:=by
 obtain⟨A,n,c,rfl,hnc,hcm,hl,_⟩:=h
 have:l.length=n:=by simpa using hl
 unfold maxLen at hcm;omega
def bk (l:List UInt32):dv:=Sl 1 (l.map bE)
def dV (base:Nat) (l:List UInt32):dv:=fun v w=>∃n,w.ownsRow base 149 1 v n (l.map bE)
theorem bk.stable (l:List UInt32):bO (bk l):=Sl.stable _ _
theorem bk.ext {l:List UInt32} {v:Value} {w w':World} (h:bk l v w) (hx:aH w w'):bk l v w':=Sl.ext h hx
theorem dV.wds {base:Nat} {l:List UInt32} {v:Value} (h:dV base l v w):bk l v w:=h.elim fun _ h=>Sl.of_own h
theorem dV.stable (base:Nat) (l:List UInt32):bO (dV base l):=fun _ _ _ h hx=>h.elim fun n h=>⟨n,fl h hx⟩
theorem dV.ext {base:Nat} {l:List UInt32} {v:Value} {w w':World} (h:dV base l v w) (hx:aH w w'):dV base l v w':=dV.stable _ _ _ _ _ h hx
theorem dV.nil (base:Nat) (w:World):dV base [] (.slice none 0 0) w:=⟨0,World.ownsRow_nil _ _ _ _⟩
theorem cL.nil (base:Nat) (w:World):cL base [] (.slice none 0 0) w:=⟨0,World.ownsRow_nil _ _ _ _⟩
theorem cK.nil (w:World):cK [] (.slice none 0 0) w:=Sl.nil _ _
theorem bk.nil (w:World):bk [] (.slice none 0 0) w:=Sl.nil _ _
theorem CN (l:List UInt32):∀u∈l.map bE,u.oneCell'=true:=by
 intro u hu
 obtain⟨b,_,rfl⟩:=List.mem_map.1 hu
 rfl
theorem ue:(Tryz.prog.info? 149).map (fun i=>(i.zero,i.size,i.bytes))=some (some (.int .u32 0),1,4):=by kernel_rfl
theorem dW:(Tryz.prog.info? 149).map (·.size)=some 1:=by kernel_rfl
theorem bz {t:TypeId} (ht:Tryz.prog.underlying t=some (.slice 149)) {l:List UInt32} {v:Value} {ty:TypeId} (h:bk l v w):(Builtin.len_ #[t] ty #[v]).run Tryz.prog w=.ok (I l.length) w:=by
 obtain⟨n,hl,_,hr⟩:=IX (P:=Tryz.prog) (ty:=ty) ht h
 have:l.length=n:=by simpa using hl
 rw[hr,this]
theorem bk.len {l:List UInt32} {v:Value} (h:bk l v w):l.length≤9223372036854775807:=by
 obtain⟨A,n,c,rfl,hnc,hcm,hl,_⟩:=h
 have:l.length=n:=by simpa using hl
 unfold maxLen at hcm;omega
theorem cQ {t:TypeId} (ht:Tryz.prog.underlying t=some (.slice 149)) {l:List UInt32} {v:Value} (h:bk l v w) {i:Nat} (hi:i<l.length) (k:IntKind):
 ∃ad,(∀w':World,(Instr.indexAt t v (.int k i)).run Tryz.prog w'=.ok (.pointer (some ad)) w')∧w.cell? ad=some (bE l[i]):=by
 obtain⟨ad,h3,h4⟩:=ym (P:=Tryz.prog) ht dW h (i:=i) (by simp;omega) (by omega) k
 refine⟨ad,h3,?_⟩
 have:=h4 0 (bE l[i]) (by simp[hi])
 rwa [i9] at this
theorem IZ {ad:Addr} {b:UInt32} (h:w.cell? ad=some (bE b)):(Instr.loadAt 149 (.pointer (some ad))).run Tryz.prog w=.ok (bE b) w:=ai Ll rfl h
theorem kV {base:Nat} {t:TypeId} (ht:Tryz.prog.underlying t=some (.slice 149)) {l m:List UInt32} {v x:Value} {ty:TypeId} (hv:dV base l v w) (hx:bk m x w) (hb:l.length+m.length≤35184372088832) (hbase:base≤w.heap.size):
 ∃r w',(Builtin.append_ #[t,t] ty #[v,x]).run Tryz.prog w=.ok r w'∧dV base (l++m) r w'∧gR w w' v r:=by
 obtain⟨n,hv⟩:=hv
 obtain⟨r,w',n',h1,h2,h3⟩:=qK (P:=Tryz.prog) (ty:=ty) ht ue rfl (by omega) hv hx (CN m) (by simp;omega) (by omega) hbase
 exact⟨r,w',h1,⟨n',by rw[List.map_append];exact h2⟩,h3⟩
theorem jd {t:TypeId} (ht:Tryz.prog.underlying t=some (.slice 149)) (base:Nat) (l:List UInt32) (hl:l.length≤16777216) (hb:base≤w.heap.size):
 ∃r w',(Instr.buildSlice t l.length (dy 0 (l.map bE)).toArray).run Tryz.prog w=.ok r w'∧aH w w'∧dV base l r w'∧r.ownBlock=some w.heap.size:=by
 have:=jz (P:=Tryz.prog) (w:=w) ht ue (l.map bE) (CN l) (by simpa using hl) hb
 simp only[List.length_map] at this
 obtain⟨r,w',h1,h2,h3,h4⟩:=this
 exact⟨r,w',h1,h2,⟨_,h3⟩,h4⟩
end
end Go.Rl
namespace Go.Rl
open Go.RowKit Go.Proofs
section
variable {P:Program} {w w':World}
theorem fh {t:TypeId} {n:Nat} (h:(P.info? t).map (·.size)=some n):(sizeOf t).run P w=.ok n w:=by
 obtain⟨i,hi,rfl⟩:=Option.map_eq_some_iff.1 h
 simp[sizeOf,typeInfo,hi]
theorem Fv {t:TypeId} {z:Value} (h:(P.info? t).map (·.zero)=some (some z)):(zeroValue t).run P w=.ok z w:=by
 obtain⟨i,hi,h⟩:=Option.map_eq_some_iff.1 h
 simp[zeroValue,typeInfo,hi,h]
theorem wI {t:TypeId} {v:Value}:(Instr.box t v).run P w=.ok (.pointer (some ⟨w.heap.size,0,none⟩)) (w.alloc (.cells v.cells t)):=by
 simp[Instr.box,newVar,newRow]
theorem yv {t:TypeId} {z:Value} (h:(P.info? t).map (·.zero)=some (some z)):(Instr.alloc t true (.tuple #[])).run P w=.ok (.pointer (some ⟨w.heap.size,0,none⟩)) (w.alloc (.cells z.cells t)):=by
 simp[Instr.alloc,Fv h,newVar,newRow]
theorem ct {s:TypeId} {fs:Array Field} {f:Field} {n k:Nat} {a:Addr} (hs:P.underlying s=some (.struct fs)) (hf:fs[n]? =some f) (hsz:(P.info? f.type).map (·.size)=some k) (hk:k≠0):
 (Instr.fieldAt s (.pointer (some a)) n).run P w=.ok (.pointer (some (a.add f.offset))) w:=by
 simp[Instr.fieldAt,run_underlying hs,hf,Instr.sureAddr,fieldPlace,fh hsz,hk]
theorem iK {g i:Nat} {cs:Array Value} {T:TypeId} {fr:Nat×Nat} {v:Value} (h:w.heap[g]? =some (.cells cs T fr)) (hi:cs[i]? =some v):w.cell? ⟨g,i,none⟩=some v:=(cell_of_row w g i cs T fr h).trans hi
theorem Sl.keep {sz:Nat} {xs:List Value} {v:Value} {g:Nat} {cs:Array Value} {T:TypeId} {fr:Nat×Nat} (h:Sl sz xs v w) (hg:w.heap[g]? =some (.cells cs T fr)) (hcs:∀(j:Nat) (u:Value),u∈xs→cs[j]? ≠some u) (hw:w.grownBy w' (some g)):Sl sz xs v w':=by
 obtain⟨A,n,c,rfl,h1,h2,h3,h4,h5⟩:=h
 refine⟨A,n,c,rfl,h1,h2,h3,fun hn=>?_,h5⟩
 obtain⟨ad,rfl,hc⟩:=h4 hn
 refine⟨ad,rfl,fun j u hu=>?_⟩
 have hcell:=hc j u hu
 have hne:(ad.add j).block≠g:=fun he=>by
  have hmem:u∈xs:=List.mem_of_getElem? hu
  have:w.cell? (ad.add j)=cs[(ad.add j).off]? :=by
   have hs:(ad.add j).spot=none:=World.cell?_spot hcell
   have e:ad.add j=⟨g,(ad.add j).off,none⟩:=by
    cases hx:ad.add j with
    |mk b o s=>
     rw[hx] at hs he
     simp only at hs he
     rw[hs,he]
   rw[e]
   exact cell_of_row w g _ cs T fr hg
  rw[hcell] at this
  exact hcs _ u hmem this.symm
 have hlt:=World.block_lt_of_cell? w (ad.add j) hcell
 exact(World.cell?_of_block (hw.block _ hlt (fun e=>hne (Option.some.inj e)))).trans hcell
end
end Go.Rl
namespace Go.Rl
def Fw:Nat→Nat→List UInt8
 |0,n=>[UInt8.ofNat n]
 |f+1,n=>if 128≤n then UInt8.ofNat (n%128+128)::Fw f (n/128) else[UInt8.ofNat n]
def uv (n:Nat):List UInt8:=Fw n n
theorem Fx:∀(f g n:Nat),n≤f→n≤g→Fw f n=Fw g n
 |0,0,n,_,_=>rfl
 |0,g+1,n,h,_=>by
  obtain rfl:n=0:=by omega
  simp[Fw]
 |f+1,0,n,_,h=>by
  obtain rfl:n=0:=by omega
  simp[Fw]
 |f+1,g+1,n,hf,hg=>by
  simp only[Fw]
  by_cases h:128≤n
  ·rw[if_pos h,if_pos h,Fx f g (n/128) (by omega) (by omega)]
  ·rw[if_neg h,if_neg h]
theorem rQ {n:Nat} (h:128≤n):uv n=UInt8.ofNat (n%128+128)::uv (n/128):=by
 unfold uv
 cases n with
 |zero=>omega
 |succ m=>
  have e:Fw (m+1) (m+1)=if 128≤m+1 then UInt8.ofNat ((m+1)%128+128)::Fw m ((m+1)/128) else[UInt8.ofNat (m+1)]:=rfl
  rw[e,if_pos h,Fx m ((m+1)/128) ((m+1)/128) (by omega) (by omega)]
theorem iy {n:Nat} (h:n<128):uv n=[UInt8.ofNat n]:=by
 unfold uv
 cases n with
 |zero=>rfl
 |succ m=>
  have e:Fw (m+1) (m+1)=if 128≤m+1 then UInt8.ofNat ((m+1)%128+128)::Fw m ((m+1)/128) else[UInt8.ofNat (m+1)]:=rfl
  rw[e,if_neg (by omega)]
theorem I0:∀(k n:Nat),n<128^(k+1)→(uv n).length≤k+1
 |0,n,h=>by rw[iy (by simpa using h)];simp
 |k+1,n,h=>by
  by_cases h1:128≤n
  ·rw[rQ h1]
   have:=I0 k (n/128) (by rw[Nat.div_lt_iff_lt_mul (by omega)];rw[Nat.pow_succ] at h;exact h)
   simp;omega
  ·rw[iy (by omega)];simp
theorem iL {n:Nat} (h:n<18446744073709551616):(uv n).length≤10:=I0 9 n (Nat.lt_of_lt_of_le h (by decide))
theorem pR (n:Nat):1≤(uv n).length:=by
 by_cases h:128≤n
 ·rw[rQ h];simp
 ·rw[iy (by omega)];simp
theorem DG (n:UInt64):n.toUInt8|||128=UInt8.ofNat (n.toNat%128+128):=by
 apply UInt8.toNat_inj.1
 have h:∀a:Nat,a<256→a|||128=a%128+128:=by decide+kernel
 rw[UInt8.toNat_or,UInt8.toNat_ofNat',UInt64.toNat_toUInt8]
 have:=h (n.toNat%256) (by omega)
 show n.toNat%256|||128=_
 rw[this];omega
theorem zW (n:UInt64):n.toUInt8=UInt8.ofNat n.toNat:=by
 apply UInt8.toNat_inj.1
 rw[UInt8.toNat_ofNat',UInt64.toNat_toUInt8]
theorem Fy (m:UInt64):(m%128+128).toUInt8=UInt8.ofNat (m.toNat%128+128):=by
 apply UInt8.toNat_inj.1
 rw[UInt64.toNat_toUInt8,UInt8.toNat_ofNat',UInt64.toNat_add,UInt64.toNat_mod]
 have e1:(128:UInt64).toNat=128:=rfl
 rw[e1];omega
theorem KF (n:UInt64):(n>>>UInt64.ofNat 7).toNat=n.toNat/128:=by
 rw[UInt64.toNat_shiftRight,Nat.shiftRight_eq_div_pow]
 rfl
end Go.Rl
namespace Go.Rl
def qS:Nat→Nat→List UInt8→Option (Nat×List UInt8)
 |0,_,_=>none
 |_+1,_,[]=>none
 |f+1,k,c::l=>
  if (k=9∧1<c.toNat)∨(0<k∧c.toNat=0) then none
  else if c.toNat<128 then some (c.toNat*128^k,l)
  else(qS f (k+1) l).map fun p=>(p.1+(c.toNat%128)*128^k,p.2)
def gx (l:List UInt8):Option (Nat×List UInt8):=qS 10 0 l
theorem Fz (f k:Nat):qS f k []=none:=by cases f<;>rfl
theorem uf (n:Nat) (h:n<256):(UInt8.ofNat n).toNat=n:=by rw[UInt8.toNat_ofNat'];omega
theorem CO:∀(f k n:Nat) (t:List UInt8),f+k=10→n<128^f→(k≤9→n*128^k<18446744073709551616)→0<f→(0<k→0<n)→
 qS f k (uv n++t)=some (n*128^k,t)
 |0,_,_,_,_,_,_,h,_=>by omega
 |f+1,k,n,t,hfk,hn,h64,_,hk0=>by
  by_cases hb:128≤n
  ·rw[rQ hb,List.cons_append]
   have e1:(UInt8.ofNat (n%128+128)).toNat=n%128+128:=uf _ (by omega)
   have hk9:k≠9:=fun hk=>by
    subst hk
    have:f=0:=by omega
    subst this
    simp at hn
    omega
   have hf:0<f:=by omega
   simp only[qS,e1]
   rw[if_neg (by omega),if_neg (by omega)]
   have hlt:n/128<128^f:=by rw[Nat.div_lt_iff_lt_mul (by omega)];rw[Nat.pow_succ] at hn;exact hn
   have hp:128^(k+1)=128^k*128:=Nat.pow_succ ..
   have hm:n/128*128≤n:=Nat.div_mul_le_self n 128
   have hle:n/128*128^(k+1)≤n*128^k:=by
    rw[hp,Nat.mul_comm (128^k) 128,←Nat.mul_assoc]
    exact Nat.mul_le_mul_right _ hm
   rw[CO f (k+1) (n/128) t (by omega) hlt (fun _=>Nat.lt_of_le_of_lt hle (h64 (by omega))) hf (fun _=>by omega)]
   simp only[Option.map_some,Option.some.injEq,Prod.mk.injEq,and_true]
   have e2:(n%128+128)%128=n%128:=by omega
   rw[e2,hp,Nat.mul_comm (128^k) 128,←Nat.mul_assoc,←Nat.add_mul]
   congr 1
   omega
  ·rw[iy (by omega),List.cons_append]
   have e1:(UInt8.ofNat n).toNat=n:=uf _ (by omega)
   simp only[qS,e1,List.nil_append]
   have hk9:¬(k=9∧1<n):=fun⟨hk,hn1⟩=>by
    subst hk
    have:=h64 (by omega)
    have e:(128:Nat)^9=9223372036854775808:=by decide
    rw[e] at this
    omega
   rw[if_neg (by intro h;rcases h with h|h;exact hk9 h;have:=hk0 h.1;omega),if_pos (by omega)]
theorem Bq {n:Nat} (h:n<18446744073709551616) (t:List UInt8):gx (uv n++t)=some (n,t):=by
 have:=CO 10 0 n t rfl (Nat.lt_of_lt_of_le h (by decide)) (by simpa using h) (by omega) (by omega)
 simpa [gx] using this
theorem zX:∀(f k:Nat) (l t:List UInt8) (m:Nat),f+k=10→qS f k l=some (m,t)→∃n,m=n*128^k∧l=uv n++t∧(0<k→0<n)∧n*128^k<18446744073709551616
 |0,_,_,_,_,_,h=>by cases h
 |f+1,k,[],_,_,_,h=>by cases h
 |f+1,k,c::l,t,m,hfk,h=>by
  simp only[qS] at h
  have hc:=c.toNat_lt
  split at h
  ·cases h
  ·rename_i hno
   split at h
   ·rename_i hlt
    simp only[Option.some.injEq,Prod.mk.injEq] at h
    refine⟨c.toNat,h.1.symm,?_,fun hk=>by omega,?_⟩
    ·rw[iy hlt,←h.2]
     simp
    ·have hk:k≤9:=by omega
     rcases Nat.lt_or_ge k 9 with h9|h9
     ·have:c.toNat*128^k≤127*128^8:=Nat.mul_le_mul (by omega) (Nat.pow_le_pow_right (by omega) (by omega))
      have e:127*128^8<18446744073709551616:=by decide
      omega
     ·have:k=9:=by omega
      subst this
      have e:(128:Nat)^9=9223372036854775808:=by decide
      rw[e];omega
   ·rename_i hge
    cases hr:qS f (k+1) l with
    |none=>rw[hr] at h;cases h
    |some p=>
     rw[hr] at h
     simp only[Option.map_some,Option.some.injEq,Prod.mk.injEq] at h
     obtain⟨n,h1,h2,h3,h4⟩:=zX f (k+1) l p.2 p.1 (by omega) (by rw[hr])
     have hn:0<n:=h3 (by omega)
     have hp:128^(k+1)=128*128^k:=by rw[Nat.pow_succ,Nat.mul_comm]
     have hdiv:(n*128+c.toNat%128)/128=n:=by omega
     have hmod:(n*128+c.toNat%128)%128+128=c.toNat:=by omega
     refine⟨n*128+c.toNat%128,?_,?_,fun _=>by omega,?_⟩
     ·rw[←h.1,h1,hp,Nat.add_mul,←Nat.mul_assoc]
     ·rw[rQ (by omega),hdiv,hmod,List.cons_append,←h.2,←h2]
      simp
     ·have hk:k+1≤9:=by
       rcases Nat.lt_or_ge f 1 with hf|hf
       ·have:f=0:=by omega
        subst this
        cases hr
       ·omega
      have hb:n*128^(k+1)=n*128*128^k:=by rw[hp,←Nat.mul_assoc]
      rw[hb] at h4
      have hdvd:18446744073709551616=128^k*(18446744073709551616/128^k):=by
       have:k=0∨k=1∨k=2∨k=3∨k=4∨k=5∨k=6∨k=7∨k=8:=by omega
       rcases this with rfl|rfl|rfl|rfl|rfl|rfl|rfl|rfl|rfl<;>decide
      have hq:18446744073709551616/128^k=128*(18446744073709551616/128^k/128):=by
       have:k=0∨k=1∨k=2∨k=3∨k=4∨k=5∨k=6∨k=7∨k=8:=by omega
       rcases this with rfl|rfl|rfl|rfl|rfl|rfl|rfl|rfl|rfl<;>decide
      have hpos:0<128^k:=Nat.pow_pos (by omega)
      rw[hdvd,Nat.mul_comm] at h4
      have h5:n*128<18446744073709551616/128^k:=Nat.lt_of_mul_lt_mul_left h4
      rw[hdvd,Nat.mul_comm]
      exact Nat.mul_lt_mul_of_pos_left (by omega) hpos
theorem gn {l t:List UInt8} {n:Nat} (h:gx l=some (n,t)):l=uv n++t∧n<18446744073709551616:=by
 obtain⟨m,h1,h2,_,h4⟩:=zX 10 0 l t n rfl h
 simp at h1 h4
 subst h1
 exact⟨h2,h4⟩
theorem HL {acc:UInt64} {c:UInt8} {k:Nat} (ha:acc.toNat<128^k) (hk:k≤9) (h9:k=9→c.toNat%128≤1):
 (acc|||((c&&&127).toUInt64<<<UInt64.ofNat (7*k))).toNat=acc.toNat+(c.toNat%128)*128^k:=by
 have hpow:2^(7*k)=128^k:=by rw[Nat.pow_mul]
 have e1:(c&&&127).toUInt64.toNat=c.toNat%128:=by
  rw[UInt8.toNat_toUInt64,UInt8.toNat_and]
  exact Nat.and_two_pow_sub_one_eq_mod c.toNat 7
 have hlt:(c.toNat%128)*128^k<18446744073709551616:=by
  rcases Nat.lt_or_ge k 9 with h|h
  ·have h1:(c.toNat%128)*128^k≤127*128^8:=Nat.mul_le_mul (by omega) (Nat.pow_le_pow_right (by omega) (by omega))
   have e:127*128^8<18446744073709551616:=by decide
   omega
  ·have h':k=9:=by omega
   subst h'
   have:=h9 rfl
   have e:(128:Nat)^9=9223372036854775808:=by decide
   rw[e];omega
 have e2:((c&&&127).toUInt64<<<UInt64.ofNat (7*k)).toNat=(c.toNat%128)<<<(7*k):=by
  rw[UInt64.toNat_shiftLeft,e1]
  have:(UInt64.ofNat (7*k)).toNat%64=7*k:=by rw[UInt64.toNat_ofNat'];omega
  rw[this,Nat.shiftLeft_eq,hpow]
  exact Nat.mod_eq_of_lt hlt
 rw[UInt64.toNat_or,e2,Nat.or_comm,←Nat.shiftLeft_add_eq_or_of_lt (by rw[hpow];exact ha),Nat.shiftLeft_eq,hpow]
 omega
end Go.Rl
namespace Go.Rl
open Go.RowKit Go.Proofs
section
variable {P:Program} {ops:Array Oper} {Q:iq} {N:Nat} {D:List Deferred} {l:Fr} {w:World} {rest:List Oper} {d:Nat}
theorem ci {p:Prop} {dp:Decidable p} (ht:p→cz P ops Q N D ((d,B true)::l) w rest) (hf:¬p→cz P ops Q N D ((d,B false)::l) w rest):cz P ops Q N D ((d,B (@decide p dp))::l) w rest:=by
 by_cases h:p
 ·rw[decide_eq_true h];exact ht h
 ·rw[decide_eq_false h];exact hf h
end
theorem aH.of_grew {w0 w w':World} {v r:Value} (h:aH w0 w) (hg:gR w w' v r) (hv:∀k,v.ownBlock=some k→w0.heap.size≤k):aH w0 w':=h.of_grown hg.grown hv
theorem cL.ge {base:Nat} {l:List UInt8} {v:Value} {w:World} (h:cL base l v w):∀k,v.ownBlock=some k→base≤k:=fun k hk=>h.elim fun _ h=>(World.ownsRow.lt h k hk).1
theorem aH.of_new {w w1 w2:World} {g:Nat} (hx:aH w w1) (hg:w1.grownBy w2 (some g)) (h:w.heap.size≤g):aH w w2:=
 hx.of_grown hg fun k hk=>by
  obtain rfl:=Option.some.inj hk
  exact h
theorem dZ {w w':World} {row:Option Nat} (h:aH w w'):w.grownBy w' row:=⟨h.os,h.tape,h.output,h.size,fun _ hi _=>h.heap hi⟩
section
variable {w:World}
theorem cL.setB {base:Nat} {l:List UInt8} {v:Value} (h:cL base l v w) {i:Nat} (hi:i<l.length) (x:UInt8):
 ∃g w',(∀u:World,(Instr.indexAt 22 v (I (i:Int))).run Tryz.prog u=.ok (.pointer (some ⟨g,i,none⟩)) u)∧(Instr.storeAt 5 (.pointer (some ⟨g,i,none⟩)) (U8 x)).run Tryz.prog w=.ok () w'∧
  cL base (l.set i x) v w'∧w.grownBy w' (some g)∧base≤g∧w.cell? ⟨g,i,none⟩=some (U8 l[i])∧v.ownBlock=some g:=by
 obtain⟨n,hn⟩:=id h
 have hnl:l.length=n:=by simpa using hn.1
 obtain⟨ad,hix,hcell⟩:=kB h.bts hi .i64
 rcases hn.2 with⟨_,h0⟩|⟨g,cap,cur,rfl,hb,hg,hnc,hcm,hcs,htk⟩
 ·omega
 ·have hlt:i<cur.size:=by omega
  have had:ad=⟨g,i,none⟩:=by
   have h1:=hix w
   obtain⟨ti,hi',hs⟩:=Option.map_eq_some_iff.1 fe
   have hin:i<n:=by omega
   have h2:(Instr.indexAt 22 (.slice (some ⟨g,0,none⟩) n cap) (.int .i64 i)).run Tryz.prog w=.ok (.pointer (some ⟨g,i,none⟩)) w:=by
    simp[Instr.indexAt,asIntOf,run_underlying Tryz.underlying22,hin,sizeOf,typeInfo,hi',hs,pJ]
   rw[h2] at h1
   simp at h1
   exact h1.symm
  subst had
  refine⟨g,w.setCell ⟨g,i,none⟩ (U8 x),hix,el fe E hg hlt,⟨n,?_,.inr ⟨g,cap,cur.setIfInBounds i (U8 x),rfl,hb,ja hg i (U8 x),hnc,hcm,by simpa using hcs,?_⟩⟩,bi w g i _,hb,hcell,rfl⟩
  ·simpa using hnl
  ·rw[List.map_set,←htk,Array.toList_setIfInBounds,List.take_set]
theorem cL.kept {base:Nat} {l:List UInt8} {v:Value} {w':World} (h:cL base l v w) {row:Option Nat} (hg:w.grownBy w' row) (hne:v.ownBlock=none∨v.ownBlock≠row):cL base l v w':=
 h.elim fun n h=>⟨n,World.ownsRow.kept h hg hne⟩
theorem cL.off {base:Nat} {l:List UInt8} {v:Value} (h:cL base l v w) {g:Nat} (hg:g<base):v.ownBlock≠some g:=fun he=>by
 obtain⟨n,h⟩:=h
 have:=(World.ownsRow.lt h g he).1
 omega
end
end Go.Rl
namespace Go.Rl
def DH (n:Int):Nat:=if 0≤n then(2*n).toNat else(-2*n-1).toNat
theorem nT (n:Int):(UInt64.ofInt n).toNat=(n%18446744073709551616).toNat:=by
 have h2:(2:Int)^64=18446744073709551616:=by decide
 rw[UInt64.ofInt,h2,UInt64.toNat_ofNat'];omega
theorem FA {n:Int} (h1: -9223372036854775808≤n) (h2:n≤9223372036854775807):
 ((UInt64.ofInt n<<<UInt64.ofNat 1)^^^UInt64.ofInt (n/2^63)).toNat=DH n:=by
 have e0:(2:Int)^63=9223372036854775808:=by decide
 have es:(UInt64.ofInt n<<<UInt64.ofNat 1).toNat=(UInt64.ofInt n).toNat*2%18446744073709551616:=by
  rw[UInt64.toNat_shiftLeft,Nat.shiftLeft_eq];rfl
 rw[nT] at es
 unfold DH
 by_cases hn:0≤n
 ·have hq:n/2^63=0:=by rw[e0];omega
  have hz:UInt64.ofInt (n/2^63)=0:=by rw[hq];rfl
  rw[hz,UInt64.xor_zero,es,if_pos hn];omega
 ·have hq:n/2^63= -1:=by rw[e0];omega
  have hz:UInt64.ofInt (n/2^63)= -1:=by rw[hq];rfl
  rw[hz,if_neg hn]
  have hx:∀a:UInt64,a^^^(-1)= ~~~a:=fun a=>by
   apply UInt64.toBitVec_inj.1
   rw[UInt64.toBitVec_xor,UInt64.toBitVec_not]
   have:(-1:UInt64).toBitVec=BitVec.allOnes 64:=by decide
   rw[this,BitVec.xor_allOnes]
  rw[hx,UInt64.toNat_not,es]
  have:UInt64.size=18446744073709551616:=rfl
  omega
theorem zY {n:Int} (hn:0≤n) (h2:n≤9223372036854775807):(2*UInt64.ofInt n).toNat=DH n:=by
 rw[UInt64.toNat_mul,nT]
 unfold DH
 rw[if_pos hn]
 have:(2:UInt64).toNat=2:=rfl
 rw[this];omega
theorem zZ {n:Int} (h1: -9223372036854775808≤n) (hn:n<0):(2*UInt64.ofInt (-(n+1))+1).toNat=DH n:=by
 rw[UInt64.toNat_add,UInt64.toNat_mul,nT]
 unfold DH
 rw[if_neg (by omega)]
 have e2:(2:UInt64).toNat=2:=rfl
 have e1:(1:UInt64).toNat=1:=rfl
 rw[e1,e2];omega
theorem FB {n:Int} (h1: -9223372036854775808≤n) (h2:n≤9223372036854775807):DH n<18446744073709551616:=by
 unfold DH;split<;>omega
end Go.Rl
namespace Go.Rl
open Go.RowKit Go.Proofs
theorem jV:aJ Tryz.prog 55:=⟨_,Tryz.func55,by kernel_rfl,rfl⟩
theorem mc:aJ Tryz.prog 100:=⟨_,Tryz.func100,by kernel_rfl,rfl⟩
theorem nE:aJ Tryz.prog 101:=⟨_,Tryz.func101,by kernel_rfl,rfl⟩
theorem jW:aJ Tryz.prog 102:=⟨_,Tryz.func102,by kernel_rfl,rfl⟩
theorem ei:aJ Tryz.prog 61:=⟨_,Tryz.func61,by kernel_rfl,rfl⟩
theorem gM:aJ Tryz.prog 79:=⟨_,Tryz.func79,by kernel_rfl,rfl⟩
theorem jX {w:World} {l:List UInt8} {v:Value} (hv:cK l v w) (hl:l.length≤140737488355328):
 Calls Tryz.prog 55 #[v] w (bN fun r w'=>aH w w'∧cL w.heap.size l r w'):=by
 obtain⟨A,n,c,rfl,hnc,hcm,hll,hc,hnone⟩:=id hv
 refine enter (vs:=[.slice A n c]) Tryz.func55 E E E ?_
 refine af (aa (ac E E (ag (ab (af (af (aa (ae E E ?_))))))))
 refine al E E E (yu Lv) ?_
 refine ag (ab ?_)
 refine fJ E (fun h=>?_) (fun h=>?_)
 ·refine af (aa (ac E E (ag (ab (aw (az ?_))))))
  refine au E E ?_
  have hA:A=none:=by simpa using h
  have:=hnone hA
  have hnil:l=[]:=List.eq_nil_of_length_eq_zero (by simp at hll;omega)
  subst hnil
  exact⟨_,rfl,aH.refl _,cL.nil _ _⟩
 ·refine aC (ab (af (aa ?_)))
  obtain⟨r5,w5,hr5,hx5,ho5,hb5⟩:=dS (w:=w) w.heap.size [] (by simp) (Nat.le_refl _)
  refine aF E E hr5 ?_
  refine ae E E ?_
  obtain⟨r7,w7,hr7,ho7,hg7⟩:=di (ty:=22) ho5 (hv.ext hx5) (by simpa using hl) hx5.size
  refine aT E E hr7 ?_
  refine ac E E (ag (ab (aw ?_)))
  refine au E E ?_
  exact⟨_,rfl,hx5.of_grew hg7 ho5.ge,ho7⟩
theorem mf {w:World} {base:Nat} {l:List UInt8} {v:Value} {n:UInt64} (hv:cL base l v w) (hl:l.length≤70368744177664) (hbase:base≤w.heap.size):
 Calls Tryz.prog 100 #[v,bW n] w (bN fun r w'=>cL base (l++uv n.toNat) r w'∧gR w w' v r):=by
 refine enter (vs:=[v,bW n]) Tryz.func100 E E E ?_
 refine af (aa (ac E E (ag (ab (af (aG ?_))))))
 refine ck (α:=Value×UInt64×List UInt8) (fun x=>[(0,x.1),(1,bW x.2.1)]) (fun x w'=>cL base x.2.2 x.1 w'∧gR w w' v x.1∧x.2.2++uv x.2.1.toNat=l++uv n.toNat) (fun x=>x.2.1.toNat) (v,n,l) ⟨rfl,rfl,trivial⟩ ⟨hv,gR.of_ext (aH.refl w) (.inl E),rfl⟩ ?_
 rintro⟨b,m,done⟩ w1 ⟨hb,hg,he⟩
 dsimp only at hb hg he
 have hdl:done.length≤l.length+10:=by
  have:=congrArg List.length he
  simp only[List.length_append] at this
  have:=iL (n:=n.toNat) n.toNat_lt
  omega
 have hb1:base≤w1.heap.size:=Nat.le_trans hbase hg.grown.size
 refine af (af (aa (ae E E ?_)))
 refine al (v:=bW 128) E E E (jJ) ?_
 refine ag (ab ?_)
 refine bu E (fun h=>?_) (fun h=>?_)
 ·have h':128≤m.toNat:=by simpa [UInt64.le_iff_toNat_le] using h
  refine aC (ab (af (aG (aa (ae E E (ae E E ?_))))))
  refine bb E E (lB Lp Lx) ?_
  refine al (v:=U8 128) E E E (HJ) ?_
  obtain⟨r2,w2,hr2,hx2,ho2,_⟩:=dS (w:=w1) w1.heap.size [m.toUInt8|||128] (by simp) (Nat.le_refl _)
  refine aF E E hr2 ?_
  obtain⟨r3,w3,hr3,ho3,hg3⟩:=di (ty:=22) (hb.ext hx2) ho2.bts (by simp;omega) (Nat.le_trans hb1 hx2.size)
  refine aT E E hr3 ?_
  refine ac E E (ag (aW (ab (aa (ae E E ?_)))))
  refine al E E E (dk 7 (by omega)) ?_
  refine ac E E (ag ?_)
  refine bS (r3,m>>>UInt64.ofNat 7,done++[m.toUInt8|||128]) ⟨rfl,rfl,trivial⟩ ⟨ho3,hg.trans (gR.before hx2 hg3),?_⟩ ?_
  ·show done++[m.toUInt8|||128]++uv (m>>>UInt64.ofNat 7).toNat=_
   rw[←he,rQ h',DG,KF];simp
  ·show(m>>>UInt64.ofNat 7).toNat<m.toNat
   rw[KF];omega
 ·have h':m.toNat<128:=by
   have:¬(128≤m.toNat):=fun hh=>h (by show(128:UInt64)≤m;rw[UInt64.le_iff_toNat_le];exact hh)
   omega
  refine bc (aK (aK (bf (ab (af (aa (ae E E (ae E E ?_))))))))
  refine bb E E (lB Lp Lx) ?_
  obtain⟨r2,w2,hr2,hx2,ho2,_⟩:=dS (w:=w1) w1.heap.size [m.toUInt8] (by simp) (Nat.le_refl _)
  refine aF E E hr2 ?_
  obtain⟨r3,w3,hr3,ho3,hg3⟩:=di (ty:=22) (hb.ext hx2) ho2.bts (by simp;omega) (Nat.le_trans hb1 hx2.size)
  refine aT E E hr3 ?_
  refine ac E E (ag (ab (aw ?_)))
  refine au E E ?_
  refine⟨_,rfl,?_,hg.trans (gR.before hx2 hg3)⟩
  rw[←he,iy h',←zW]
  exact ho3
theorem nF {w:World} {l:List UInt8} {v:Value} {n:UInt64} (hv:cK l v w) (hl:l.length≤70368744177664):
 Calls Tryz.prog 101 #[v,bW n] w (bN fun r w'=>aH w w'∧cL w.heap.size (l++uv n.toNat) r w'):=by
 refine enter (vs:=[v,bW n]) Tryz.func101 E E E ?_
 refine af (aa (ac E E (ag (ab (af (aa (ae E E ?_)))))))
 refine an jV E E (jX hv (by omega)) ?_
 rintro r1 w1 ⟨hx1,ho1⟩
 refine ae E E ?_
 refine an mc E E (mf ho1 hl hx1.size) ?_
 rintro r2 w2 ⟨ho2,hg2⟩
 refine ac E E (ag (ab (aw ?_)))
 refine au E E ?_
 exact⟨_,rfl,hx1.of_grew hg2 ho1.ge,ho2⟩
theorem jY {w:World} {l:List UInt8} {v:Value} {n:Int} (hv:cK l v w) (hl:l.length≤70368744177664) (h1: -9223372036854775808≤n) (h2:n≤9223372036854775807):
 Calls Tryz.prog 102 #[v,I n] w (bN fun r w'=>aH w w'∧cL w.heap.size (l++uv (DH n)) r w'):=by
 refine enter (vs:=[v,I n]) Tryz.func102 E E E ?_
 refine af (aa (ac E E (ag (ab (af (aa (ae E E ?_)))))))
 refine an jV E E (jX hv (by omega)) ?_
 rintro r1 w1 ⟨hx1,ho1⟩
 refine ae E E ?_
 refine bb E E (tH Lo Lp) ?_
 refine al E E E (fG 1 (by omega)) ?_
 refine ae E E ?_
 refine al E E E (HI 63 (by omega)) ?_
 refine bb E E (tH Lo Lp) ?_
 refine al E E E (DF) ?_
 refine an mc E E (mf ho1 hl hx1.size) ?_
 rintro r2 w2 ⟨ho2,hg2⟩
 refine ac E E (ag (ab (aw ?_)))
 refine au E E ?_
 rw[FA h1 h2] at ho2
 exact⟨_,rfl,hx1.of_grew hg2 ho1.ge,ho2⟩
theorem ej {w:World} {l:List UInt8} {v:Value} {n:UInt64} (hv:cK l v w) (hl:l.length≤70368744177664):
 Calls Tryz.prog 61 #[v,bW n] w (bN fun r w'=>aH w w'∧cL w.heap.size (l++uv n.toNat) r w'):=by
 refine enter (vs:=[v,bW n]) Tryz.func61 E E E ?_
 refine af (aa (ac E E (ag (ab (af (aa ?_))))))
 obtain⟨r0,w0,hr0,hx0,ho0,_⟩:=dS (w:=w) w.heap.size [] (by simp) (Nat.le_refl _)
 refine aF E E hr0 ?_
 refine ae E E ?_
 obtain⟨r1,w1,hr1,ho1,hg1⟩:=di (ty:=22) ho0 (hv.ext hx0) (by simp;omega) hx0.size
 refine aT E E hr1 ?_
 have hx1:aH w w1:=hx0.of_grew hg1 ho0.ge
 refine ac E E (ag (ab (af (aG ?_))))
 refine ck (α:=Value×UInt64×List UInt8) (fun x=>[(5,x.1),(1,bW x.2.1)]) (fun x w'=>cL w.heap.size x.2.2 x.1 w'∧aH w w'∧x.2.2++uv x.2.1.toNat=l++uv n.toNat) (fun x=>x.2.1.toNat) (r1,n,l) ⟨rfl,rfl,trivial⟩ ⟨ho1,hx1,rfl⟩ ?_
 rintro⟨b,m,done⟩ w2 ⟨hb,hx2,he⟩
 dsimp only at hb hx2 he
 have hdl:done.length≤l.length+10:=by
  have:=congrArg List.length he
  simp only[List.length_append] at this
  have:=iL (n:=n.toNat) n.toNat_lt
  omega
 refine af (af (aa (ae E E ?_)))
 refine al (v:=bW 128) E E E (jJ) ?_
 refine ag (ab ?_)
 refine bu E (fun h=>?_) (fun h=>?_)
 ·have h':128≤m.toNat:=by simpa [UInt64.le_iff_toNat_le] using h
  refine aC (ab (aG (af (aa (ae E E (ae E E ?_))))))
  refine al (v:=bW 128) E E E (ly (by decide)) ?_
  refine al (v:=bW 128) E E E (dQ) ?_
  refine bb E E (lB Lp Lx) ?_
  obtain⟨r3,w3,hr3,hx3,ho3,_⟩:=dS (w:=w2) w2.heap.size [(m%128+128).toUInt8] (by simp) (Nat.le_refl _)
  refine aF E E hr3 ?_
  obtain⟨r4,w4,hr4,ho4,hg4⟩:=di (ty:=22) (hb.ext hx3) ho3.bts (by simp;omega) (Nat.le_trans hx2.size hx3.size)
  refine aT E E hr4 ?_
  refine ac E E (ag (ab (aa (ae E E ?_))))
  refine al (v:=bW 128) E E E (lx (by decide)) ?_
  refine ac E E (ag (aW ?_))
  have hm:(m/128).toNat=m.toNat/128:=by rw[UInt64.toNat_div];rfl
  refine bS (r4,m/128,done++[(m%128+128).toUInt8]) ⟨rfl,rfl,trivial⟩ ⟨ho4,(hx2.trans hx3).of_grew hg4 hb.ge,?_⟩ ?_
  ·show done++[(m%128+128).toUInt8]++uv (m/128).toNat=_
   rw[←he,rQ h',hm,Fy];simp
  ·show(m/128).toNat<m.toNat
   rw[hm];omega
 ·have h':m.toNat<128:=by
   have:¬(128≤m.toNat):=fun hh=>h (by show(128:UInt64)≤m;rw[UInt64.le_iff_toNat_le];exact hh)
   omega
  refine bc (aK (aK (bf (ab (af (aa (ae E E (ae E E ?_))))))))
  refine bb E E (lB Lp Lx) ?_
  obtain⟨r3,w3,hr3,hx3,ho3,_⟩:=dS (w:=w2) w2.heap.size [m.toUInt8] (by simp) (Nat.le_refl _)
  refine aF E E hr3 ?_
  obtain⟨r4,w4,hr4,ho4,hg4⟩:=di (ty:=22) (hb.ext hx3) ho3.bts (by simp;omega) (Nat.le_trans hx2.size hx3.size)
  refine aT E E hr4 ?_
  refine ac E E (ag (ab (aw ?_)))
  refine au E E ?_
  refine⟨_,rfl,(hx2.trans hx3).of_grew hg4 hb.ge,?_⟩
  rw[←he,iy h',←zW]
  exact ho4
theorem gN {w:World} {l:List UInt8} {v:Value} {n:Int} (hv:cK l v w) (hl:l.length≤70368744177664) (h1: -9223372036854775808≤n) (h2:n≤9223372036854775807):
 Calls Tryz.prog 79 #[v,I n] w (bN fun r w'=>aH w w'∧cL w.heap.size (l++uv (DH n)) r w'):=by
 refine enter (vs:=[v,I n]) Tryz.func79 E E E ?_
 refine af (aa (ac E E (ag (ab (af (af (aa (ae E E ?_))))))))
 refine al E E E (gL) ?_
 refine ag (ab ?_)
 refine bu E (fun h=>?_) (fun h=>?_)
 ·refine af (aa (ae E E (ae E E ?_)))
  refine bb E E (tH Lo Lp) ?_
  refine al (u:=bW 2) E E E (iJ) ?_
  refine an ei E E (ej hv hl) ?_
  rintro r3 w3 ⟨hx3,ho3⟩
  refine ac E E (ag (ab (aw (az ?_))))
  refine au E E ?_
  rw[zY h h2] at ho3
  exact⟨_,rfl,hx3,ho3⟩
 ·refine aC (ab (af (aa (ae E E (ae E E ?_)))))
  refine al E E E (aR (by omega) (by omega)) ?_
  refine bw E E (yp (by omega) (by omega)) ?_
  refine bb E E (tH Lo Lp) ?_
  refine al (u:=bW 2) E E E (iJ) ?_
  refine al (v:=bW 1) E E E (dQ) ?_
  refine an ei E E (ej hv hl) ?_
  rintro r3 w3 ⟨hx3,ho3⟩
  refine ac E E (ag (ab (aw ?_)))
  refine au E E ?_
  rw[zZ h1 (by omega)] at ho3
  exact⟨_,rfl,hx3,ho3⟩
end Go.Rl
namespace Go.Rl
open Go.RowKit Go.Proofs
theorem z4:aJ Tryz.prog 88:=⟨_,Tryz.func88,by kernel_rfl,rfl⟩
theorem iM:aJ Tryz.prog 157:=⟨_,Tryz.func157,by kernel_rfl,rfl⟩
theorem iP:aJ Tryz.prog 125:=⟨_,Tryz.func125,by kernel_rfl,rfl⟩
theorem kW:aJ Tryz.prog 124:=⟨_,Tryz.func124,by kernel_rfl,rfl⟩
theorem gp:aJ Tryz.prog 89:=⟨_,Tryz.func89,by kernel_rfl,rfl⟩
theorem z5:(Tryz.prog.info? 204).map (·.zero)=some (some (.agg #[.slice none 0 0,.bool false])):=by kernel_rfl
theorem dA:(Tryz.prog.info? 22).map (·.size)=some 1:=by kernel_rfl
theorem iQ:(Tryz.prog.info? 4).map (·.size)=some 1:=by kernel_rfl
def pS (A:Option Addr) (g:Nat):Prop:=∀ad,A=some ad→ad.block<g
theorem pS.none (g:Nat):pS none g:=fun _ h=>by cases h
theorem th {A:Option Addr} {n c:Nat} {lo hi mx:Option Value} {r:Value} {w w':World} (hrun:(Instr.sliceAt 22 (.slice A n c) lo hi mx).run Tryz.prog w=.ok r w'):∃A' n' c',r=.slice A' n' c'∧∀g,pS A g→pS A' g:=by
 simp only[Instr.sliceAt,Instr.slice,Sem.run_bind,run_underlying Tryz.underlying22,Result.andThen_ok] at hrun
 cases hb:(Instr.sliceBounds true n c lo hi mx).run Tryz.prog w with
 |halt x w1=>rw[hb] at hrun;simp[Result.andThen] at hrun
 |ok p w1=>
  obtain⟨l,h,m⟩:=p
  rw[hb] at hrun
  simp only[Result.andThen_ok,fh fe] at hrun
  simp at hrun
  obtain⟨rfl,rfl⟩:=hrun
  refine⟨_,_,_,rfl,fun g hg=>?_⟩
  split
  ·exact hg
  ·intro ad had
   cases A with
   |none=>cases had
   |some a0=>
    obtain rfl:=Option.some.inj had
    show(a0.add _).block<g
    rw[iH]
    exact hg a0 rfl
theorem FC {A:Option Addr} {n c g:Nat} {lo hi mx:Option Value} {r:Value} {w w':World} (hrun:(Instr.sliceAt 22 (.slice A n c) lo hi mx).run Tryz.prog w=.ok r w') (h:pS A g):∀A n c,r=.slice A n c→pS A g:=fun _ _ _ e=>by
 obtain⟨A',n',c',h1,h2⟩:=th hrun
 rw[h1] at e
 cases e
 exact h2 g h
def cD (g:Nat) (st:Option (List UInt8)) (w:World):Prop:=
 ∃A n c,w.heap[g]? =some (.cells #[.slice A n c,.bool st.isNone] 204 (0,0))∧cK (st.getD []) (.slice A n c) w∧pS A g
theorem cD.ext {g:Nat} {st:Option (List UInt8)} {w w':World} (h:cD g st w) (hx:aH w w'):cD g st w':=by
 obtain⟨A,n,c,h1,h2,h3⟩:=h
 exact⟨A,n,c,hx.heap_some h1,h2.ext hx,h3⟩
theorem wJ (A:Option Addr) (n c:Nat) (b:Bool) (l:List UInt8):∀(j:Nat) (u:Value),u∈l.map U8→(#[.slice A n c,.bool b]:Array Value)[j]? ≠some u:=by
 intro j u hu
 obtain⟨x,_,rfl⟩:=List.mem_map.1 hu
 match j with
 |0=>simp[U8]
 |1=>simp[U8]
 |j+2=>simp
theorem cK.reader {l:List UInt8} {v:Value} {g:Nat} {st:Option (List UInt8)} {w w':World} (h:cK l v w) (hr:cD g st w) (hw:w.grownBy w' (some g)):cK l v w':=by
 obtain⟨A,n,c,h1,_⟩:=hr
 exact Sl.keep h h1 (wJ A n c _ l) hw
section
variable {w:World} {g:Nat} {l:List UInt8}
theorem dL {w':World} {row:Option Nat} (h:aH w w'):w.grownBy w' row:=⟨h.os,h.tape,h.output,h.size,fun _ hi _=>h.heap hi⟩
theorem mg (w:World) (row:Option Nat):w.grownBy w row:=World.grownBy.refl w row
theorem z6 {v:Value} (hv:cK l v w) (hl:l.length≤140737488355328):
 Calls Tryz.prog 88 #[v] w (bN fun r w'=>aH w w'∧∃g,w.heap.size≤g∧r=.pointer (some ⟨g,0,none⟩)∧cD g (some l) w'):=by
 refine enter (vs:=[v]) Tryz.func88 E E E ?_
 refine af (aa (ac E E (ag (ab (af (aa (ae E E ?_)))))))
 refine an jV E E (jX hv hl) ?_
 rintro r1 w1 ⟨hx1,ho1⟩
 obtain⟨A,n,c,rfl,_⟩:=id ho1.bts
 refine bC E E (r:=.agg #[.slice A n c,.bool false]) (by simp[Instr.build,run_underlying Tryz.underlying204,Fv z5,fh dA,fh iQ,Instr.fill,Value.cells]) ?_
 refine cw E E wI ?_
 refine ac E E (ag (ab (aw ?_)))
 refine au E E ?_
 exact⟨_,rfl,hx1.trans (aH.new _ _),w1.heap.size,hx1.size,rfl,A,n,c,heap_alloc_new _ _,ho1.bts.ext (aH.new _ _),fun ad had=>ho1.elim fun _ h=>(World.ownsRow.lt h ad.block (by rw[had];rfl)).2⟩
theorem iR {st:Option (List UInt8)} (hr:cD g st w):
 Calls Tryz.prog 125 #[.pointer (some ⟨g,0,none⟩)] w (bN fun r w'=>r=I 5∧cD g none w'∧w.grownBy w' (some g)):=by
 obtain⟨A,n,c,h1,_⟩:=hr
 refine enter (vs:=[.pointer (some ⟨g,0,none⟩)]) Tryz.func125 E E E ?_
 refine af (aa (ac E E (ag (ab (af (aa (ae E E (ae E E ?_))))))))
 refine aE E E ?_
 refine ah E E (ct LJ E dA (by omega)) ?_
 refine ay E E (el dA E h1 (by simp)) ?_
 refine aE E E ?_
 refine ah E E (ct LJ E iQ (by omega)) ?_
 have h2:=ja h1 0 (.slice none 0 0)
 refine ay E E (el (i:=1) iQ E h2 (by simp)) ?_
 have h3:=ja h2 1 (.bool true)
 refine ag (ab (af (aa (ac E E (ag (ab (aw ?_)))))))
 refine au E E ?_
 exact⟨_,rfl,rfl,⟨none,0,0,h3,cK.nil _,pS.none g⟩,(bi w g 0 _).trans (bi _ g 1 _)⟩
theorem tj {n:UInt64} (hr:cD g none w):
 Calls Tryz.prog 157 #[.pointer (some ⟨g,0,none⟩),bW n] w (bN fun r w'=>r=.tuple #[.slice none 0 0,B false]∧w'=w):=by
 obtain⟨A,m,c,h1,_⟩:=hr
 refine enter (vs:=[.pointer (some ⟨g,0,none⟩),bW n]) Tryz.func157 E E E ?_
 refine af (aa (ac E E (ac E E (ag (ab (af (af (aa (ae E E ?_)))))))))
 refine aE E E ?_
 refine ah E E (ct LJ E iQ (by omega)) ?_
 refine aj E E (ai Lw E (iK (i:=1) h1 E)) ?_
 refine ae E E ?_
 refine am E E E ?_
 refine am E E E ?_
 refine am E E E ?_
 refine am E E E ?_
 refine am E E E ?_
 refine am E E E ?_
 refine am E E E ?_
 refine am E E E ?_
 refine aq E E E ?_
 refine ag (ab ?_)
 refine bm E ?_
 refine af (aa (ac E E (ac E E (ag (ab (aw (az ?_)))))))
 refine bt E E E ?_
 exact⟨_,rfl,rfl,rfl⟩
theorem CP (h:l.length≤9223372036854775807):(UInt64.ofNat l.length).toNat=l.length:=by rw[UInt64.toNat_ofNat'];omega
theorem CQ {n:UInt64} (hr:cD g (some l) w) (hn:l.length<n.toNat):
 Calls Tryz.prog 157 #[.pointer (some ⟨g,0,none⟩),bW n] w (bN fun r w'=>r=.tuple #[.slice none 0 0,B false]∧w'=w):=by
 obtain⟨A,m,c,h1,h2,_⟩:=hr
 have h2':cK l (.slice A m c) w:=h2
 refine enter (vs:=[.pointer (some ⟨g,0,none⟩),bW n]) Tryz.func157 E E E ?_
 refine af (aa (ac E E (ac E E (ag (ab (af (af (aa (ae E E ?_)))))))))
 refine aE E E ?_
 refine ah E E (ct LJ E iQ (by omega)) ?_
 refine aj E E (ai Lw E (iK (i:=1) h1 E)) ?_
 refine ae E E ?_
 refine ak E (ae E E (ak E (ae E E ?_)))
 refine ak E (aE E E ?_)
 refine ak E (ah E E (ct LJ E dA (by omega)) ?_)
 refine ak E (aj E E (ai Lv E (iK (i:=0) h1 E)) ?_)
 refine ak E (aV E E (ey h2') ?_)
 refine ak E (bb E E (fO Lo Lp) ?_)
 refine ak E (al E E E (dD (by show _<n;rw[UInt64.lt_iff_toNat_lt,CP h2'.len];exact hn) cX) ?_)
 refine aI E E E ?_
 refine ag (ab ?_)
 refine bm E ?_
 refine af (aa (ac E E (ac E E (ag (ab (aw (az ?_)))))))
 refine bt E E E ?_
 exact⟨_,rfl,rfl,rfl⟩
theorem ug {n:UInt64} (hr:cD g (some l) w) (hn:n.toNat≤l.length):
 Calls Tryz.prog 157 #[.pointer (some ⟨g,0,none⟩),bW n] w
  (bN fun r w'=>∃b,r=.tuple #[b,B true]∧cK (l.take n.toNat) b w'∧cD g (some (l.drop n.toNat)) w'∧w.grownBy w' (some g)):=by
 obtain⟨A,m,c,h1,h2,h4⟩:=hr
 have h2':cK l (.slice A m c) w:=h2
 refine enter (vs:=[.pointer (some ⟨g,0,none⟩),bW n]) Tryz.func157 E E E ?_
 refine af (aa (ac E E (ac E E (ag (ab (af (af (aa (ae E E ?_)))))))))
 refine aE E E ?_
 refine ah E E (ct LJ E iQ (by omega)) ?_
 refine aj E E (ai Lw E (iK (i:=1) h1 E)) ?_
 refine ae E E ?_
 refine ak E (ae E E (ak E (ae E E ?_)))
 refine ak E (aE E E ?_)
 refine ak E (ah E E (ct LJ E dA (by omega)) ?_)
 refine ak E (aj E E (ai Lv E (iK (i:=0) h1 E)) ?_)
 refine ak E (aV E E (ey h2') ?_)
 refine ak E (bb E E (fO Lo Lp) ?_)
 refine ak E (al E E E (d7 (by show ¬_<n;rw[UInt64.lt_iff_toNat_lt,CP h2'.len];omega) cX) ?_)
 refine aI E E E ?_
 refine ag (ab ?_)
 refine cN E ?_
 refine aC (ab (af (aa (ae E E ?_))))
 refine aE E E ?_
 refine ah E E (ct LJ E dA (by omega)) ?_
 refine aj E E (ai Lv E (iK (i:=0) h1 E)) ?_
 refine ae E E ?_
 obtain⟨b,hb,hb2⟩:=qQ h2' hn .u64
 refine dm (b:=some (bW n)) E E E E E (hb _) ?_
 refine ac E E (ag (ab (af (aa (ae E E (ae E E ?_))))))
 refine aE E E ?_
 refine ah E E (ct LJ E dA (by omega)) ?_
 refine aj E E (ai Lv E (iK (i:=0) h1 E)) ?_
 refine ae E E ?_
 obtain⟨r,hr,hr2⟩:=qP h2' hn .u64
 refine dm (a:=some (bW n)) E E E E E (hr _) ?_
 refine aE E E ?_
 refine ah E E (ct LJ E dA (by omega)) ?_
 obtain⟨A',m',c',rfl,h5⟩:=th (hr w)
 refine ay E E (el (i:=0) dA E h1 (by simp)) ?_
 have h3:=ja h1 0 (.slice A' m' c')
 have hg:=bi w g 0 (.slice A' m' c')
 refine ag (ab (af (aa (ae E E (ac E E (ac E E (ag (ab (aw ?_)))))))))
 refine bt E E E ?_
 have hrd:cD g (some l) w:=⟨A,m,c,h1,h2,h4⟩
 exact⟨_,rfl,b,rfl,hb2.reader hrd hg,⟨A',m',c',h3,hr2.reader hrd hg,h5 g h4⟩,hg⟩
def UvR (g:Nat) (w:World) (o:Option (Nat×List UInt8)) (r:Value) (w':World):Prop:=
 w.grownBy w' (some g)∧match o with
  |some (n,t)=>r=.tuple #[bW (UInt64.ofNat n),B true]∧cD g (some t) w'
  |none=>r=.tuple #[bW 0,B false]∧∃l',cD g (some l') w'
theorem pB (hr:cD g (some l) w):
 Calls Tryz.prog 124 #[.pointer (some ⟨g,0,none⟩)] w (bN (UvR g w (gx l))):=by
 refine enter (vs:=[.pointer (some ⟨g,0,none⟩)]) Tryz.func124 E E E ?_
 refine af (aa (ac E E (ac E E (ag (ab (af (af (aa (ac E E (ag (ab (aG ?_))))))))))))
 refine ck (α:=Nat×List UInt8×UInt64) (fun x=>[(0,.pointer (some ⟨g,0,none⟩)),(4,I ((7*x.1:Nat):Int)),(2,bW x.2.2)])
  (fun x w'=>cD g (some x.2.1) w'∧w.grownBy w' (some g)∧x.1≤9∧x.2.2.toNat<128^x.1∧gx l=(qS (10-x.1) x.1 x.2.1).map fun p=>(p.1+x.2.2.toNat,p.2)) (fun x=>10-x.1)
  (0,l,0) ⟨rfl,rfl,rfl,trivial⟩ ⟨hr,mg _ _,by simp,by simp,by simp[gx]⟩ ?_
 rintro⟨k,rest,acc⟩ w1 ⟨hr1,hg1,hk,hacc,hrd⟩
 dsimp only at hr1 hg1 hk hacc hrd
 have hfuel:10-k=(9-k)+1:=by omega
 rw[hfuel] at hrd
 refine af (af (aa (ae E E ?_)))
 refine al E E E (dD (by omega) a6) ?_
 refine ag (ab ?_)
 refine bm E ?_
 refine aC (ab (af (aG (af (aa (ae E E ?_))))))
 cases rest with
 |nil=>
  refine an (vs:=[_,bW 1]) iM E E (CQ hr1 (by decide)) ?_
  rintro r2 w2 ⟨rfl,rfl⟩
  refine ae E E ?_
  refine aA E E (cu) ?_
  refine aA E E (cv) ?_
  refine ac E E (ac E E (ag (ab (af (af (aa (ae E E ?_)))))))
  refine bw E E (bB) ?_
  refine ag (ab ?_)
  refine bm E ?_
  refine af (aa (ac E E (ac E E (ag (ab (aw (az (ba (az (az (ba (az ?_))))))))))))
  refine bt E E E ?_
  refine⟨_,rfl,hg1,?_⟩
  rw[hrd,Fz]
  exact⟨rfl,[],hr1⟩
 |cons c t=>
  refine an (vs:=[_,bW 1]) iM E E (ug hr1 (by simp)) ?_
  rintro r2 w2 ⟨b,rfl,hb,hr2,hg2⟩
  have hb':cK [c] b w2:=hb
  have hr2':cD g (some t) w2:=hr2
  have hg:=hg1.trans hg2
  refine ae E E ?_
  refine aA E E (cu) ?_
  refine aA E E (cv) ?_
  refine ac E E (ac E E (ag (ab (af (af (aa (ae E E ?_)))))))
  refine bw E E (bB) ?_
  refine ag (ab ?_)
  refine cN E ?_
  refine aC (ab (af (aa (ae E E ?_))))
  obtain⟨ad,had,hcell⟩:=kB hb' (i:=0) (by simp) .i64
  refine ar E E E (had _) ?_
  refine aj E E (IY hcell) ?_
  refine ac E E (ag (ab (af (af ?_))))
  refine ew (fun _:Unit=>[(0,.pointer (some ⟨g,0,none⟩)),(4,I ((7*k:Nat):Int)),(2,bW acc),(7,U8 c),(35,B (decide ((k=9∧1<c.toNat)∨(0<k∧c.toNat=0))))]) (fun _ w'=>w'=w2) ?_ ?_
  ·refine aa (ae E E ?_)
   have c1:c>1↔1<c.toNat:=by show 1<c↔_;rw[UInt8.lt_iff_toNat_lt];rfl
   have c0:c=0↔c.toNat=0:=by rw[←UInt8.toNat_inj];rfl
   by_cases h9:k=9
   ·refine al E E E (dD (by omega) bo) ?_
    refine ae E E (ak E (ae E E ?_))
    by_cases hc1:1<c.toNat
    ·refine ak E (al (v:=U8 1) E E E (dD (c1.2 hc1) ub) ?_)
     refine aq E E E (ae E E ?_)
     refine am E E E (am E E E (am E E E ?_))
     refine i5 E E E (i5 E E E (am E E E ?_))
     refine aq E E E (ag ?_)
     exact cf () ⟨rfl,rfl,rfl,rfl,by rw[decide_eq_true (Or.inl ⟨h9,hc1⟩)];rfl,trivial⟩ rfl
    ·refine ak E (al (v:=U8 1) E E E (d7 (fun h=>hc1 (c1.1 h)) ub) ?_)
     refine aq E E E (ae E E ?_)
     refine ak E (ae E E (ak E (al E E E (dD (by omega) bT) ?_)))
     refine ak E (ae E E (ak E (ae E E ?_)))
     refine ak E (al (v:=U8 0) E E E nS ?_)
     refine ak E (aq E E E ?_)
     refine aI E E E (ag ?_)
     refine cf () ⟨rfl,rfl,rfl,rfl,?_,trivial⟩ rfl
     show some (B (decide (c=0)))=_
     rw[decide_eq_decide.2 (show c=0↔((k=9∧1<c.toNat)∨(0<k∧c.toNat=0)) from by rw[c0];omega)]
   ·refine al E E E (d7 (by omega) bo) ?_
    refine ae E E (am E E E (am E E E ?_))
    refine aI E E E (ae E E ?_)
    by_cases hk0:0<k
    ·refine ak E (ae E E (ak E (al E E E (dD (by omega) bT) ?_)))
     refine ak E (ae E E (ak E (ae E E ?_)))
     refine ak E (al (v:=U8 0) E E E nS ?_)
     refine ak E (aq E E E ?_)
     refine aI E E E (ag ?_)
     refine cf () ⟨rfl,rfl,rfl,rfl,?_,trivial⟩ rfl
     show some (B (decide (c=0)))=_
     rw[decide_eq_decide.2 (show c=0↔((k=9∧1<c.toNat)∨(0<k∧c.toNat=0)) from by rw[c0];omega)]
    ·refine ak E (ae E E (ak E (al E E E (d7 (by omega) bT) ?_)))
     refine ak E (ae E E (am E E E (am E E E ?_)))
     refine ak E (aI E E E ?_)
     refine aI E E E (ag ?_)
     refine cf () ⟨rfl,rfl,rfl,rfl,?_,trivial⟩ rfl
     show some (B false)=_
     rw[decide_eq_false (by omega)]
  ·rintro _ w3 rfl
   refine ab (bu E (fun h=>?_) (fun h=>?_))
   ·refine af (aa (ac E E (ac E E (ag (ab (aw (az (ba (az (az (ba (az ?_))))))))))))
    refine bt E E E ?_
    refine⟨_,rfl,hg,?_⟩
    rw[hrd]
    simp only[qS]
    rw[if_pos h]
    exact⟨rfl,t,hr2'⟩
   ·have hor:=HL (acc:=acc) (c:=c) hacc hk (fun h9=>by
     have:¬1<c.toNat:=fun hc=>h (Or.inl ⟨h9,hc⟩)
     omega)
    refine aC (ab (af (aa (ae E E (ae E E ?_)))))
    refine al (v:=U8 127) E E E (Fq) ?_
    refine bb E E (Ft Lx Lp) ?_
    refine ae E E ?_
    refine al E E E (fG (7*k) (by omega)) ?_
    refine al E E E (jc) ?_
    refine ac E E (ag (ab (af (aa (ae E E ?_)))))
    refine al (v:=U8 128) E E E (lu) ?_
    refine ag (ab ?_)
    refine bu E (fun h2=>?_) (fun h2=>?_)
    ·have h2':c.toNat<128:=by rw[UInt8.lt_iff_toNat_lt] at h2;exact h2
     refine af (aa (ae E E (ac E E (ac E E (ag (ab (aw (ba (az (az (ba (az ?_))))))))))))
     refine bt E E E ?_
     refine⟨_,rfl,hg,?_⟩
     rw[hrd]
     simp only[qS]
     rw[if_neg h,if_pos h2']
     refine⟨?_,hr2'⟩
     rw[Nat.mod_eq_of_lt h2'] at hor
     have:UInt64.ofNat (c.toNat*128^k+acc.toNat)=acc|||((c&&&127).toUInt64<<<UInt64.ofNat (7*k)):=by
      rw[Nat.add_comm,←hor,UInt64.ofNat_toNat]
     rw[this];rfl
    ·have h2':¬c.toNat<128:=fun hc=>h2 (by rw[UInt8.lt_iff_toNat_lt];exact hc)
     have hk9:k≠9:=fun hk9=>h (Or.inl ⟨hk9,by omega⟩)
     refine aC (aW (ab (aa (ae E E ?_))))
     refine al E E E (aR (by omega) (by omega)) ?_
     refine ac E E (ag ?_)
     refine bS (k+1,t,acc|||((c&&&127).toUInt64<<<UInt64.ofNat (7*k))) ⟨rfl,?_,rfl,trivial⟩ ⟨hr2',hg,by show k+1≤9;omega,?_,?_⟩ (by show 10-(k+1)<10-k;omega)
     ·show some (I (((7*k:Nat):Int)+7))=some (I ((7*(k+1):Nat):Int))
      rw[show((7*k:Nat):Int)+7=((7*(k+1):Nat):Int) by omega]
     ·show(acc|||((c&&&127).toUInt64<<<UInt64.ofNat (7*k))).toNat<128^(k+1)
      rw[hor,Nat.pow_succ]
      have:(c.toNat%128)*128^k≤127*128^k:=Nat.mul_le_mul_right _ (by omega)
      omega
     ·show gx l=(qS (10-(k+1)) (k+1) t).map fun p=>(p.1+(acc|||((c&&&127).toUInt64<<<UInt64.ofNat (7*k))).toNat,p.2)
      rw[hrd,hor]
      simp only[qS]
      rw[if_neg h,if_neg h2',Option.map_map]
      have:10-(k+1)=9-k:=by omega
      rw[this]
      have ef:((fun p:Nat×List UInt8=>(p.1+acc.toNat,p.2))∘fun p:Nat×List UInt8=>(p.1+c.toNat%128*128^k,p.2))=fun p=>(p.1+(acc.toNat+c.toNat%128*128^k),p.2):=by
       funext p
       simp only[Function.comp,Prod.mk.injEq,and_true]
       omega
      rw[ef]
theorem nG (hr:cD g none w):
 Calls Tryz.prog 124 #[.pointer (some ⟨g,0,none⟩)] w (bN fun r w'=>r=.tuple #[bW 0,B false]∧w'=w):=by
 refine enter (vs:=[.pointer (some ⟨g,0,none⟩)]) Tryz.func124 E E E ?_
 refine af (aa (ac E E (ac E E (ag (ab (af (af (aa (ac E E (ag (ab (aG ?_))))))))))))
 refine ck (α:=Unit) (fun _=>[(0,.pointer (some ⟨g,0,none⟩)),(4,I 0),(2,bW 0)]) (fun _ w'=>w'=w) (fun _=>0) () ⟨rfl,rfl,rfl,trivial⟩ E ?_
 rintro _ w1 rfl
 refine af (af (aa (ae E E ?_)))
 refine al E E E (dD (by omega) a6) ?_
 refine ag (ab ?_)
 refine bm E ?_
 refine aC (ab (af (aG (af (aa (ae E E ?_))))))
 refine an (vs:=[_,bW 1]) iM E E (tj hr) ?_
 rintro r2 w2 ⟨rfl,rfl⟩
 refine ae E E ?_
 refine aA E E (cu) ?_
 refine aA E E (cv) ?_
 refine ac E E (ac E E (ag (ab (af (af (aa (ae E E ?_)))))))
 refine bw E E (bB) ?_
 refine ag (ab ?_)
 refine bm E ?_
 refine af (aa (ac E E (ac E E (ag (ab (aw (az (ba (az (az (ba (az ?_))))))))))))
 refine bt E E E ?_
 exact⟨_,rfl,rfl,rfl⟩
def I1 (g:Nat) (w:World) (o:Option (Nat×List UInt8)) (r:Value) (w':World):Prop:=
 w.grownBy w' (some g)∧match o with
  |some (n,t)=>r=.tuple #[bW (UInt64.ofNat n),I 0]∧cD g (some t) w'
  |none=>r=.tuple #[bW 0,I 5]∧cD g none w'
theorem o0 {st:Option (List UInt8)} (hr:cD g st w):
 Calls Tryz.prog 89 #[.pointer (some ⟨g,0,none⟩)] w (bN (I1 g w (st.bind gx))):=by
 refine enter (vs:=[.pointer (some ⟨g,0,none⟩)]) Tryz.func89 E E E ?_
 refine af (aa (ac E E (ac E E (ag (ab (af (af (aa (ae E E ?_)))))))))
 refine al E E E (fT LK) ?_
 refine ag (ab ?_)
 refine cN E ?_
 refine aC (ab (af (aa (ae E E ?_))))
 have hcase:Calls Tryz.prog 124 #[.pointer (some ⟨g,0,none⟩)] w (bN fun r w'=>w.grownBy w' (some g)∧match st.bind gx with
  |some (n,t)=>r=.tuple #[bW (UInt64.ofNat n),B true]∧cD g (some t) w'
  |none=>r=.tuple #[bW 0,B false]∧∃l',cD g l' w'):=by
  cases st with
  |none=>exact(nG hr).mono fun e w' ⟨v,he,hv,hw⟩=>⟨v,he,by subst hw;exact⟨mg _ _,hv,none,hr⟩⟩
  |some l=>
   refine(pB hr).mono fun e w' ⟨v,he,hg,hv⟩=>⟨v,he,hg,?_⟩
   show match gx l with|some (n,t)=>_|none=>_
   cases hrd:gx l with
   |none=>rw[hrd] at hv;exact⟨hv.1,hv.2.imp' some fun _ h=>h⟩
   |some p=>rw[hrd] at hv;exact hv
 refine an kW E E hcase ?_
 rintro r1 w1 ⟨hg1,h1⟩
 unfold I1
 cases hrd:st.bind gx with
 |some p=>
  obtain⟨n,t⟩:=p
  rw[hrd] at h1
  obtain⟨rfl,hr1⟩:=h1
  refine ae E E ?_
  refine aA E E (cu) ?_
  refine aA E E (cv) ?_
  refine ac E E (ac E E (ag (ab (af (af (aa (ae E E ?_)))))))
  refine bw E E (bB) ?_
  refine ag (ab ?_)
  refine cN E ?_
  refine aC (ab (af (aa (ae E E (ac E E (ac E E (ag (ab (aw ?_)))))))))
  refine bt E E E ?_
  exact⟨_,rfl,hg1,rfl,hr1⟩
 |none=>
  rw[hrd] at h1
  obtain⟨rfl,l',hr1⟩:=h1
  refine ae E E ?_
  refine aA E E (cu) ?_
  refine aA E E (cv) ?_
  refine ac E E (ac E E (ag (ab (af (af (aa (ae E E ?_)))))))
  refine bw E E (bB) ?_
  refine ag (ab ?_)
  refine bm E ?_
  refine af (aa (ae E E ?_))
  refine an iP E E (iR hr1) ?_
  rintro r2 w2 ⟨rfl,hr2,hg2⟩
  refine ac E E (ac E E (ag (ab (aw (az ?_)))))
  refine bt E E E ?_
  exact⟨_,rfl,hg1.trans hg2,rfl,hr2⟩
end
end Go.Rl
namespace Go.Rl
open Go.RowKit Go.Proofs
theorem z7:aJ Tryz.prog 139:=⟨_,Tryz.func139,by kernel_rfl,rfl⟩
theorem nH:aJ Tryz.prog 119:=⟨_,Tryz.func119,by kernel_rfl,rfl⟩
def CR (x:UInt32):List UInt8:=[x.toUInt8,(x>>>UInt32.ofNat 8).toUInt8,(x>>>UInt32.ofNat 16).toUInt8,(x>>>UInt32.ofNat 24).toUInt8]
def lC (l:List UInt32):List UInt8:=l.flatMap CR
theorem wK (l:List UInt32) (k:Nat) (h:k<l.length):lC (l.take (k+1))=lC (l.take k)++CR l[k]:=by
 unfold lC
 rw[List.take_succ_eq_append_getElem h,List.flatMap_append]
 simp
theorem fU (l:List UInt32):(lC l).length=4*l.length:=by
 induction l with
 |nil=>rfl
 |cons x l ih=>
  have:lC (x::l)=CR x++lC l:=by simp[lC]
  rw[this,List.length_append,ih]
  simp[CR];omega
def mh (l:List UInt32):List UInt8:=uv l.length++lC l
theorem z8 (l:List UInt32) (h:l.length<18446744073709551616):(mh l).length≤10+4*l.length:=by
 have:=iL h
 simp only[mh,List.length_append,fU];omega
section
variable {w0 w:World} {l:List UInt8} {ns:List UInt32} {v nv:Value}
theorem Aa (hx:aH w0 w) (hv:cL w0.heap.size l v w) (hn:bk ns nv w0) (hl:l.length+4*ns.length≤35184372088832):
 Calls Tryz.prog 139 #[v,nv] w (bN fun r w'=>cL w0.heap.size (l++mh ns) r w'∧aH w0 w'∧gR w w' v r):=by
 refine enter (vs:=[v,nv]) Tryz.func139 E E E ?_
 refine af (aa (ac E E (ag (ab (af (aa (ae E E (ae E E ?_))))))))
 refine aV E E (bz Lj (hn.ext hx)) ?_
 refine bb E E (fO Lo Lp) ?_
 refine an mc E E (mf hv (by omega) hx.size) ?_
 rintro b1 w1 ⟨hb1,hg1⟩
 have hlen:(UInt64.ofNat ns.length).toNat=ns.length:=by rw[UInt64.toNat_ofNat'];have:=hn.len;omega
 rw[hlen] at hb1
 have hx1:aH w0 w1:=hx.of_grew hg1 hv.ge
 have huv:=iL (n:=ns.length) (by have:=hn.len;omega)
 refine ac E E (ag (ab (af (af (aa (ae E E ?_))))))
 refine aV E E (bz Lj (hn.ext hx1)) ?_
 refine ae E E (ag (ab (aG ?_)))
 refine ck (α:=Nat×Value) (fun x=>[(0,x.2),(12,nv),(13,I (ns.length:Int)),(14,I (x.1:Int))])
  (fun x w'=>cL w0.heap.size (l++uv ns.length++lC (ns.take x.1)) x.2 w'∧aH w0 w'∧gR w w' v x.2∧x.1≤ns.length) (fun x=>ns.length-x.1) (0,b1) ⟨rfl,rfl,rfl,rfl,trivial⟩
  ⟨by simpa [lC] using hb1,hx1,hg1,by simp⟩ ?_
 rintro⟨k,b⟩ w2 ⟨hb,hx2,hg2,hk⟩
 dsimp only at hb hx2 hg2 hk
 have hns:=hn.len
 have hdl:(l++uv ns.length++lC (ns.take k)).length≤35184372088832+10:=by
  simp only[List.length_append,fU,List.length_take];omega
 refine af (aa ?_)
 refine al E E E (a6) ?_
 refine ag (ab (af ?_))
 refine bu E (fun h=>?_) (fun h=>?_)
 ·have hlt:k<ns.length:=by omega
  refine aC (ab (af (aG (af (aa ?_)))))
  obtain⟨ad,had,hcell⟩:=cQ Lj (hn.ext hx2) hlt .i64
  refine ar E E E (had _) ?_
  refine aj E E (IZ hcell) ?_
  refine ac E E (ag (ab (aa (ae E E (ae E E ?_)))))
  refine bb E E (dG Ll Lx) ?_
  refine ae E E ?_
  refine al E E E (cO 8 (by omega)) ?_
  refine bb E E (dG Ll Lx) ?_
  refine ae E E ?_
  refine al E E E (cO 16 (by omega)) ?_
  refine bb E E (dG Ll Lx) ?_
  refine ae E E ?_
  refine al E E E (cO 24 (by omega)) ?_
  refine bb E E (dG Ll Lx) ?_
  obtain⟨r3,w3,hr3,hx3,ho3,_⟩:=dS (w:=w2) w2.heap.size (CR ns[k]) (by simp[CR]) (Nat.le_refl _)
  refine aF E E hr3 ?_
  obtain⟨r4,w4,hr4,ho4,hg4⟩:=di (ty:=22) (hb.ext hx3) ho3.bts (by simp only[CR,List.length_cons,List.length_nil];omega) (Nat.le_trans hx2.size hx3.size)
  refine aT E E hr4 ?_
  refine ac E E (ag (aW (ab (aa ?_))))
  refine al E E E (aR (by omega) (by omega)) ?_
  refine ae E E (ag ?_)
  refine bS (k+1,r4) ⟨rfl,rfl,rfl,rfl,trivial⟩ ⟨?_,(hx2.trans hx3).of_grew hg4 hb.ge,hg2.trans (gR.before hx3 hg4),hlt⟩ (by show ns.length-(k+1)<ns.length-k;omega)
  show cL _ (l++uv ns.length++lC (ns.take (k+1))) r4 w4
  rw[wK ns k hlt,←List.append_assoc]
  exact ho4
 ·have hk':k=ns.length:=by omega
  refine bc (aK (aK (bf (ab (af (aa (ae E E (ac E E (ag (ab (aw ?_)))))))))))
  refine au E E ?_
  refine⟨_,rfl,?_,hx2,hg2⟩
  rw[hk',List.take_length,List.append_assoc] at hb
  exact hb
end
end Go.Rl
namespace Go.Rl
open Go.RowKit Go.Proofs Go.Lib
section
variable {w w0:World} {l m:List UInt8} {v x:Value}
def nU (m:List UInt8):List UInt8:=uv m.length++m
end
end Go.Rl
namespace Go.Rl
open Go.RowKit Go.Proofs
section
variable {P:Program} {w w':World} {t e T:TypeId} {n g o:Nat} {l:List Value}
def bQ (g:Nat) (T:TypeId) (l:List Value) (w:World):Prop:=w.heap[g]? =some (.cells l.toArray T (0,0))
theorem bQ.ext (h:bQ g T l w) (hx:aH w w'):bQ g T l w':=hx.heap_some h
theorem bQ.lt (h:bQ g T l w):g<w.heap.size:=(Array.getElem?_eq_some_iff.1 h).1
theorem bQ.other {row:Option Nat} (h:bQ g T l w) (hg:w.grownBy w' row) (hne:some g≠row):bQ g T l w':=(hg.block g h.lt hne).trans h
theorem bQ.cell (h:bQ g T l w) {i:Nat} {v:Value} (hi:l[i]? =some v):w.cell? ⟨g,i,none⟩=some v:=iK h (by simpa using hi)
theorem bQ.set (h:bQ g T l w) (i:Nat) (u:Value):bQ g T (l.set i u) (w.setCell ⟨g,i,none⟩ u):=by
 have:=ja h i u
 simpa [bQ] using this
theorem bQ.new (v:Value) (hv:v.cells=l.toArray):bQ w.heap.size T l (w.alloc (.cells v.cells T)):=by
 have:=heap_alloc_new w (.cells v.cells T)
 rw[hv] at this⊢
 exact this
theorem bQ.range (h:bQ g T l w) {m:List Value} (hm:∀j v,m[j]? =some v→l[o+j]? =some v):w.rangeAt g o m:=fun j v hj=>h.cell (hm j v hj)
theorem iz (ht:P.underlying t=some (.array n e)) (hs:(P.info? e).map (·.size)=some 1) {i:Nat} (hi:i<n) (k:IntKind):
 (Instr.indexAt t (.pointer (some ⟨g,o,none⟩)) (.int k i)).run P w=.ok (.pointer (some ⟨g,o+i,none⟩)) w:=by
 simp[Instr.indexAt,asIntOf,run_underlying ht,Instr.sureAddr,fh hs,hi,Addr.add_mid]
theorem FD (ht:P.underlying t=some (.array n e)) (hs:(P.info? e).map (·.size)=some 1) {q:IntKind} (he:P.underlying e=some (.int q)) {i:Nat} (hi:i<n) (k:IntKind) {v:Value} (hv:l[i]? =some v):
 (Instr.index t (.agg l.toArray) (.int k i)).run P w=.ok v w:=by
 have hagg:(isAgg e).run P w=.ok false w:=by simp[isAgg,run_underlying he]
 have hpart:(part e l.toArray i).run P w=.ok v w:=by simp[part,hagg,hv]
 simp[Instr.index,asIntOf,run_underlying ht,hi,fh hs,hpart]
theorem nV {d:TypeDesc} {m:List Value} (h:bQ g T l w) (hm:∀j v,m[j]? =some v→l[o+j]? =some v) (hu:P.underlying t=some d) (hd:d.isRow=true) (hi:(P.info? t).map (·.size)=some m.length):
 (Instr.loadAt t (.pointer (some ⟨g,o,none⟩))).run P w=.ok (.agg m.toArray) w:=run_loadAt_mid w g o t m d (h.range hm) hu hd hi
theorem ju {m:List Value} (h:bQ g T l w) (hl:l.length=m.length) (hi:(P.info? t).map (·.size)=some m.length) (h1:∀v∈m,v.oneCell'=true):
 (Instr.storeAt t (.pointer (some ⟨g,0,none⟩)) (.agg m.toArray)).run P w=.ok () (w.setRow g m.toArray):=by
 have:=run_storeVar_row (P:=P) w g T t l.toArray m.toArray h (by simpa using hi) (by simpa using hl) (by simpa using h1)
 simp only[Instr.storeAt,Instr.sureAddr,Sem.run_bind,Sem.run_pure,Result.andThen_ok,this]
theorem bQ.row (h:bQ g T l w) (m:List Value):bQ g T m (w.setRow g m.toArray):=setRow_heap w g _ _ T (0,0) h
theorem bJ (w:World) (g:Nat) (cs:Array Value):w.grownBy (w.setRow g cs) (some g):=
 ⟨rfl,rfl,rfl,by simp[World.setRow],fun k _ hne=>setRow_other w g k cs fun e=>hne (by rw[e])⟩
theorem FE (ht:P.underlying t=some (.array n e)) (hs:(P.info? e).map (·.size)=some 1) {lo:Nat} (hi:lo<n) (k:IntKind):
 (Instr.sliceAt t (.pointer (some ⟨g,o,none⟩)) (some (.int k lo)) none none).run P w=.ok (.slice (some ⟨g,o+lo,none⟩) (n-lo) (n-lo)) w:=by
 have hb:(Instr.sliceBounds false n n (some (.int k lo)) none none).run P w=.ok (lo,n,n) w:=by
  have a2:=run_sliceBound (P:=P) (w:=w) k (lo:Int) n .sliceB (by omega) (by omega)
  simp only[Int.toNat_natCast] at a2
  simp[Instr.sliceBounds,a2]
 have hne:¬n=lo:=by omega
 simp[Instr.sliceAt,run_underlying ht,Instr.sureAddr,hb,fh hs,hne,Addr.add_mid]
theorem cM {fn:Func} {R:Ending→World→Prop} {N:Nat} {fr:Fr} {p:Tmp} {d:TypeDesc} (hr:fn.results= #[.cell p t]) (hv:lk fr p=some (.pointer (some ⟨g,0,none⟩))) (hb:bQ g T l w) (hu:P.underlying t=some d) (hd:d.isRow=true) (hi:(P.info? t).map (·.size)=some l.length)
 (h:R (.returned (.agg l.toArray)) w):gC (bodyPost P fn R) N [] fr w .ret:=fun a ha=>
 ⟨ha.defers,.agg l.toArray,results_cell_row hr a.tmps w g T l.toArray (0,0) d (ha.at_ p _ hv) hb hu (by cases d<;>first|rfl|exact hd) (by simpa using hi),h⟩
theorem jZ (m:List UInt32):∀v∈m.map bE,v.oneCell'=true:=by
 intro u hu
 obtain⟨b,_,rfl⟩:=List.mem_map.1 hu
 rfl
end
theorem a9 {P:Program} {w:World} {t:TypeId} {z:Value} {l:List Value} (h:(P.info? t).map (·.zero)=some (some z)) (hv:z.cells=l.toArray):∃g w',(Instr.alloc t true (.tuple #[])).run P w=.ok (.pointer (some ⟨g,0,none⟩)) w'∧w.heap.size≤g∧aH w w'∧bQ g t l w':=
 ⟨_,_,yv h,Nat.le_refl _,aH.new w _,bQ.new z hv⟩
end Go.Rl
namespace Go.Rl
open Go.RowKit Go.Proofs
end Go.Rl
namespace Go.Rl
open Go.RowKit Go.Proofs
section
variable {w0 w:World} {l m:List UInt8} {v x:Value} {ty:TypeId}
def Jp (base:Nat) (l:List UInt8) (v:Value) (w:World):Prop:=cL base l v w∨(cK l v w∧∃ad,v=.slice (some ad) l.length l.length)
theorem Jp.ext {base:Nat} {w':World} (h:Jp base l v w) (hx:aH w w'):Jp base l v w':=h.imp (·.ext hx) fun h=>⟨h.1.ext hx,h.2⟩
theorem Br (h0:aH w0 w) (hv:Jp w0.heap.size l v w) (hx:cK m x w) (hm:0<m.length) (hb:l.length+m.length≤140737488355328):
 ∃r w',(Builtin.append_ #[22,22] ty #[v,x]).run Tryz.prog w=.ok r w'∧cL w0.heap.size (l++m) r w'∧aH w0 w':=by
 rcases hv with hv|⟨hv,ad,rfl⟩
 ·obtain⟨r,w',h1,h2,h3⟩:=di (ty:=ty) hv hx hb h0.size
  exact⟨r,w',h1,h2,aH.of_grew h0 h3 hv.ge⟩
 ·obtain⟨i,hi,hz,hsize,hby⟩:=info_parts tJ
  obtain⟨A,n,c,hA,hnc,hcm,hl,hc,_⟩:=hv
  injection hA with hA hn hc'
  subst hA hn hc'
  obtain⟨A',n',c',rfl,hnc',hcm',hl',hcl',_⟩:=hx
  have hn':n'=m.length:=by simpa using hl'.symm
  obtain⟨ad',hA',hcl2⟩:=hcl' (by omega)
  subst hA'
  have hold:∀j u,(l.map U8)[j]? =some u→w.cell? (ad.add j)=some u:=fun j u hu=>by
   have hj:j<l.length:=by
    have:=(List.getElem?_eq_some_iff.1 hu).1
    simpa using this
   obtain⟨ad2,h2,h3⟩:=hc (by omega)
   cases h2
   exact h3 j u hu
  obtain⟨r,w',h1,h2,h3⟩:=run_append_arg_grows (P:=Tryz.prog) w 22 ty 5 i (.int .u8 0) 1 1 Tryz.underlying22 hi hz hsize hby rfl (by omega) ad l.length l.length (l.map U8) (by simp) hold ad' n' c' (m.map U8) hl' hcl2 (by omega) (by unfold maxLen;omega) (by omega)
  refine⟨r,w',h1,⟨l.length+n',?_⟩,h0.of_grown h3 (fun k hk=>by cases hk)⟩
  rw[List.map_append]
  exact ir h2 (fun k hk=>Nat.le_trans h0.size (World.ownsRow.lt h2 k hk).1)
end
end Go.Rl
namespace Go.Rl
open Go.RowKit
inductive Dt where
 |int (k:IntKind) (n:Int)
 |bool (b:Bool)
 |str (l:List UInt8)
 |sl (l:List Dt)
 |st (l:List Dt)
mutual
def Dt.size:Dt→Nat
 |.int _ _=>1
 |.bool _=>1
 |.str _=>1
 |.sl _=>1
 |.st l=>Dt.sizeAll l
def Dt.sizeAll:List Dt→Nat
 |[]=>0
 |d::l=>d.size+Dt.sizeAll l
end
mutual
def Rp (w:World):Dt→List Value→Prop
 |.int k n,cs=>cs=[.int k n]
 |.bool b,cs=>cs=[.bool b]
 |.str l,cs=>cs=[S l]
 |.sl l,cs=>∃A n c,cs=[.slice A n c]∧l.length=n∧n≤c∧c≤maxLen∧(A=none→c=0)∧(0<n→∃ad xs,A=some ad∧dw w ad xs∧bn w l xs)
 |.st l,cs=>bn w l cs
def bn (w:World):List Dt→List Value→Prop
 |[],cs=>cs=[]
 |d::ds,cs=>∃c1 c2,cs=c1++c2∧Rp w d c1∧bn w ds c2
end
mutual
theorem Rp.len {w:World}:∀{d:Dt} {cs:List Value},Rp w d cs→cs.length=d.size
 |.int k n,cs,h=>by simp only[Rp] at h;subst h;rfl
 |.bool b,cs,h=>by simp only[Rp] at h;subst h;rfl
 |.str l,cs,h=>by simp only[Rp] at h;subst h;rfl
 |.sl l,cs,h=>by simp only[Rp] at h;obtain⟨A,n,c,rfl,_⟩:=h;rfl
 |.st l,cs,h=>by simp only[Rp] at h;simpa [Dt.size] using bn.len h
theorem bn.len {w:World}:∀{l:List Dt} {cs:List Value},bn w l cs→cs.length=Dt.sizeAll l
 |[],cs,h=>by simp only[bn] at h;subst h;rfl
 |d::l,cs,h=>by
  simp only[bn] at h
  obtain⟨c1,c2,rfl,h1,h2⟩:=h
  simp[Dt.sizeAll,Rp.len h1,bn.len h2]
end
mutual
theorem Rp.ext {w w':World} (hx:aH w w'):∀{d:Dt} {cs:List Value},Rp w d cs→Rp w' d cs
 |.int k n,cs,h=>by simpa only[Rp] using h
 |.bool b,cs,h=>by simpa only[Rp] using h
 |.str l,cs,h=>by simpa only[Rp] using h
 |.sl l,cs,h=>by
  simp only[Rp] at h⊢
  obtain⟨A,n,c,h1,h2,h3,h4,h5,h6⟩:=h
  refine⟨A,n,c,h1,h2,h3,h4,h5,fun hn=>?_⟩
  obtain⟨ad,xs,h7,h8,h9⟩:=h6 hn
  exact⟨ad,xs,h7,h8.ext hx,bn.ext hx h9⟩
 |.st l,cs,h=>by simp only[Rp] at h⊢;exact bn.ext hx h
theorem bn.ext {w w':World} (hx:aH w w'):∀{l:List Dt} {cs:List Value},bn w l cs→bn w' l cs
 |[],cs,h=>by simpa only[bn] using h
 |d::l,cs,h=>by
  simp only[bn] at h⊢
  obtain⟨c1,c2,h0,h1,h2⟩:=h
  exact⟨c1,c2,h0,Rp.ext hx h1,bn.ext hx h2⟩
end
section
variable {w:World}
theorem bn.nil:bn w [] []:=by simp only[bn]
theorem bn.cons {d:Dt} {l:List Dt} {a b:List Value} (h:Rp w d a) (h':bn w l b):bn w (d::l) (a++b):=by simp only[bn];exact⟨a,b,rfl,h,h'⟩
theorem cy {sz:Nat}:∀{l:List Dt},(∀d∈l,d.size=sz)→Dt.sizeAll l=l.length*sz
 |[],_=>by simp[Dt.sizeAll]
 |d::l,h=>by
  rw[Dt.sizeAll,h d (by simp),cy fun e he=>h e (by simp[he]),List.length_cons,Nat.add_mul]
  omega
theorem bn.split {sz:Nat}:∀{l:List Dt} {xs:List Value} (k:Nat),bn w l xs→(∀d∈l,d.size=sz)→k≤l.length→bn w (l.take k) (xs.take (k*sz))∧bn w (l.drop k) (xs.drop (k*sz))
 |l,xs,0,h,_,_=>by simp[bn.nil,h]
 |[],xs,k+1,h,_,hk=>by simp at hk
 |d::l,xs,k+1,h,hs,hk=>by
  simp only[bn] at h
  obtain⟨c1,c2,rfl,h1,h2⟩:=h
  have hc:c1.length=sz:=by rw[h1.len];exact hs d (by simp)
  obtain⟨h3,h4⟩:=bn.split k h2 (fun e he=>hs e (by simp[he])) (by simpa using hk)
  have e:(k+1)*sz=c1.length+k*sz:=by rw[hc,Nat.add_mul];omega
  rw[e,List.take_length_add_append,List.drop_length_add_append]
  exact⟨bn.cons h1 h3,h4⟩
theorem bn.at {sz:Nat} {l:List Dt} {xs:List Value} {i:Nat} (h:bn w l xs) (hs:∀d∈l,d.size=sz) (hi:i<l.length):Rp w l[i] ((xs.drop (i*sz)).take sz):=by
 obtain⟨_,h2⟩:=bn.split i h hs (by omega)
 rw[List.drop_eq_getElem_cons hi] at h2
 simp only[bn] at h2
 obtain⟨c1,c2,he,h1,_⟩:=h2
 have hc:c1.length=sz:=by rw[h1.len];exact hs _ (List.getElem_mem hi)
 rw[he,←hc,List.take_left']
 ·exact h1
 ·rfl
theorem Rp.toSl {sz:Nat} {l:List Dt} {v:Value} (h:Rp w (.sl l) [v]) (hs:∀d∈l,d.size=sz):∃xs,Sl sz xs v w∧bn w l xs:=by
 simp only[Rp] at h
 obtain⟨A,n,c,hv,h2,h3,h4,h5,h6⟩:=h
 obtain rfl:v=.slice A n c:=by simpa using hv
 rcases Nat.eq_zero_or_pos n with h0|h0
 ·have:l=[]:=List.eq_nil_of_length_eq_zero (by omega)
  subst this
  exact⟨[],⟨A,n,c,rfl,h3,h4,by subst h0;simp,fun h=>by omega,h5⟩,bn.nil⟩
 ·obtain⟨ad,xs,rfl,h8,h9⟩:=h6 h0
  exact⟨xs,⟨_,n,c,rfl,h3,h4,by rw[h9.len,cy hs,h2],fun _=>⟨ad,rfl,h8⟩,h5⟩,h9⟩
theorem Rp.ofSl {sz:Nat} {l:List Dt} {v:Value} {xs:List Value} (h:Sl sz xs v w) (ha:bn w l xs) (hs:∀d∈l,d.size=sz) (h0:0<sz):Rp w (.sl l) [v]:=by
 obtain⟨A,n,c,rfl,h3,h4,h5,h6,h7⟩:=h
 simp only[Rp]
 refine⟨A,n,c,rfl,?_,h3,h4,h7,fun hn=>?_⟩
 ·have:=ha.len
  rw[cy hs,h5] at this
  exact(Nat.eq_of_mul_eq_mul_right h0 this).symm
 ·obtain⟨ad,rfl,hc⟩:=h6 hn
  exact⟨ad,xs,rfl,hc,ha⟩
theorem Rp.isSlice {l:List Dt} {cs:List Value} (h:Rp w (.sl l) cs):∃v,cs=[v]∧Rp w (.sl l) [v]∧v.oneCell'=true:=by
 have h':=h
 simp only[Rp] at h
 obtain⟨A,n,c,rfl,_⟩:=h
 exact⟨_,rfl,h',rfl⟩
theorem Rp.nilSl:Rp w (.sl []) [.slice none 0 0]:=by
 simp only[Rp]
 exact⟨none,0,0,rfl,rfl,Nat.le_refl _,Nat.zero_le _,fun _=>rfl,fun h=>by omega⟩
theorem Rp.slLen {l:List Dt} {v:Value} (h:Rp w (.sl l) [v]):l.length≤9223372036854775807:=by
 simp only[Rp] at h
 obtain⟨A,n,c,_,h2,h3,h4,_⟩:=h
 unfold maxLen at h4
 omega
theorem bn.map_cell {α:Type} {f:α→Dt} {g:α→Value} (hf:∀x cs,Rp w (f x) cs↔cs=[g x]):∀{l:List α} {xs:List Value},bn w (l.map f) xs↔xs=l.map g
 |[],xs=>by simp only[List.map_nil,bn]
 |x::l,xs=>by
  simp only[List.map_cons,bn,hf]
  constructor
  ·rintro⟨c1,c2,rfl,rfl,h⟩
   rw[(bn.map_cell hf).1 h];rfl
  ·rintro rfl
   exact⟨[g x],l.map g,rfl,rfl,(bn.map_cell hf).2 rfl⟩
theorem Rp.sl_cells {α:Type} {f:α→Dt} {g:α→Value} (hf:∀x cs,Rp w (f x) cs↔cs=[g x]) (h1:∀x,(f x).size=1) {l:List α} {v:Value}:Rp w (.sl (l.map f)) [v]↔Sl 1 (l.map g) v w:=by
 have hs:∀d∈l.map f,d.size=1:=by
  intro d hd
  obtain⟨x,_,rfl⟩:=List.mem_map.1 hd
  exact h1 x
 constructor
 ·intro h
  obtain⟨xs,h2,h3⟩:=h.toSl hs
  rw[(bn.map_cell hf).1 h3] at h2
  exact h2
 ·intro h
  exact Rp.ofSl h ((bn.map_cell hf).2 rfl) hs (by omega)
def dU8 (x:UInt8):Dt:=.int .u8 (x.toNat:Int)
def rR (x:UInt32):Dt:=.int .u32 (x.toNat:Int)
def dI (x:Int64):Dt:=.int .i64 x.toInt
theorem Rp.bytes {l:List UInt8} {v:Value}:Rp w (.sl (l.map dU8)) [v]↔Sl 1 (l.map U8) v w:=Rp.sl_cells (fun x cs=>by simp only[dU8,Rp,U8]) fun _=>rfl
theorem Rp.words {l:List UInt32} {v:Value}:Rp w (.sl (l.map rR)) [v]↔Sl 1 (l.map bE) v w:=Rp.sl_cells (fun x cs=>by simp only[rR,Rp,bE]) fun _=>rfl
theorem Rp.ints {l:List Int64} {v:Value}:Rp w (.sl (l.map dI)) [v]↔Sl 1 (l.map fun x=>I x.toInt) v w:=Rp.sl_cells (fun x cs=>by simp only[dI,Rp,I]) fun _=>rfl
end
section
variable {P:Program} {w:World} {t e:TypeId}
theorem Jq {l:List Dt} {v:Value} {ty:TypeId} (ht:P.underlying t=some (.slice e)) (h:Rp w (.sl l) [v]):(Builtin.len_ #[t] ty #[v]).run P w=.ok (I l.length) w:=by
 simp only[Rp] at h
 obtain⟨A,n,c,hv,h2,_⟩:=h
 obtain rfl:v=.slice A n c:=by simpa using hv
 simp[Builtin.len_,run_underlying ht,goInt,I,h2]
theorem KG {sz:Nat} {l:List Dt} {v:Value} (ht:P.underlying t=some (.slice e)) (hz:(P.info? e).map (·.size)=some sz) (h:Rp w (.sl l) [v]) (hs:∀d∈l,d.size=sz) (h0:0<sz) {i:Nat} (hi:i<l.length) (k:IntKind):
 ∃ad cs,(∀w':World,(Instr.indexAt t v (.int k i)).run P w'=.ok (.pointer (some ad)) w')∧dw w ad cs∧Rp w l[i] cs:=by
 obtain⟨xs,h1,h2⟩:=h.toSl hs
 have hlen:(i+1)*sz≤xs.length:=by
  rw[h2.len,cy hs]
  exact Nat.mul_le_mul_right _ hi
 obtain⟨ad,h3,h4⟩:=ym ht hz h1 hlen h0 k
 exact⟨ad,_,h3,h4,h2.at hs hi⟩
theorem dw.cell0 {ad:Addr} {v:Value} (h:dw w ad [v]):w.cell? ad=some v:=by
 have:=h 0 v rfl
 rwa [i9] at this
theorem dw.cell {ad:Addr} {xs:List Value} (h:dw w ad xs) (j:Nat) {v:Value} (hj:xs[j]? =some v):w.cell? (ad.add j)=some v:=h j v hj
theorem KH {d:TypeDesc} {ad:Addr} {cs:List Value} (h:dw w ad cs) (ht:P.underlying t=some d) (hd:d.isRow=true) (hz:(P.info? t).map (·.size)=some cs.length):(Instr.loadAt t (.pointer (some ad))).run P w=.ok (.agg cs.toArray) w:=by
 have hagg:(isAgg t).run P w=.ok true w:=by
  unfold isAgg
  simp only[Sem.run_bind,run_underlying ht,Result.andThen_ok]
  cases d<;>simp_all [TypeDesc.isRow]
 have hl:=run_loadCells_list (P:=P) (w:=w) ad cs h
 simp[Instr.loadAt,Instr.sureAddr,loadVar,Sem.run_bind,hagg,fh hz,hl]
end
section
variable {P:Program} {H:Type} {enc:TypeId×Value→H} {W:World} {base:Nat} {spare:Nat→Bool} {held:Bool}
def Ab (P:Program) (ts:List TypeId):List Field→Nat→Nat→Bool
 |[],o,n=>o==n
 |f::fs,o,n=>f.offset==o&&ts.contains f.type&&Ab P ts fs (o+P.cellsOf f.type) n
def yw (P:Program) (ts:List TypeId):Bool:=ts.all fun t=>
 match P.underlying t with
 |some (.int _)=>P.cellsOf t==1
 |some .bool=>P.cellsOf t==1
 |some .string=>P.cellsOf t==1
 |some (.slice e)=>P.cellsOf t==1&&ts.contains e
 |some (.struct fs)=>Ab P ts fs.toList 0 (P.cellsOf t)
 |some (.array n e)=>P.cellsOf t==n*P.cellsOf e&&ts.contains e
 |_=>false
mutual
def en:DataW H→Dt
 |.lit (.int k n)=>.int k n
 |.lit (.bool b)=>.bool b
 |.lit (.string l)=>.str l
 |.slice elems _=>.sl (nI elems)
 |.agg parts=>.st (nI parts)
 |_=>.sl []
def nI:List (DataW H)→List Dt
 |[]=>[]
 |d::l=>en d::nI l
end
theorem pa:∀(l:List (DataW H)),nI l=l.map en
 |[]=>by simp[nI]
 |d::l=>by simp[nI,pa l]
inductive Ty (P:Program):TypeId→Dt→Prop
 |int {t k n}:P.underlying t=some (.int k)→(Lit.int k n).wf=true→Ty P t (.int k n)
 |bool {t b}:P.underlying t=some .bool→Ty P t (.bool b)
 |str {t l}:P.underlying t=some .string→l.length≤maxLen→Ty P t (.str l)
 |sl {t e l}:P.underlying t=some (.slice e)→(∀d∈l,Ty P e d)→Ty P t (.sl l)
 |st {t fs l}:P.underlying t=some (.struct fs)→l.length=fs.size→(∀(i:Nat) (f:Field) (d:Dt),fs[i]? =some f→l[i]? =some d→Ty P f.type d)→Ty P t (.st l)
 |arr {t e n l}:P.underlying t=some (.array n e)→l.length=n→(∀d∈l,Ty P e d)→Ty P t (.st l)
theorem CS {sz:Nat} {a:Addr}:∀(ds:List Dt) (k:Nat),(∀(i:Nat) (d:Dt),ds[i]? =some d→∃c:List Value,c.length=sz∧(∀j u,c[j]? =some u→W.cell? (a.add ((k+i)*sz+j))=some u)∧Rp W d c)→
 ∃xs,bn W ds xs∧∀j u,xs[j]? =some u→W.cell? (a.add (k*sz+j))=some u
 |[],k,_=>⟨[],bn.nil,by simp⟩
 |d::ds,k,h=>by
  obtain⟨c,hc,h1,h2⟩:=h 0 d rfl
  obtain⟨xs,h3,h4⟩:=CS ds (k+1) fun i e he=>by
   obtain⟨c,hc,h1,h2⟩:=h (i+1) e he
   exact⟨c,hc,fun j u hu=>by rw[←h1 j u hu];congr 2;congr 2;omega,h2⟩
  refine⟨c++xs,bn.cons h2 h3,fun j u hu=>?_⟩
  rw[List.getElem?_append] at hu
  split at hu
  ·have:=h1 j u hu
   rwa [Nat.add_zero] at this
  ·rename_i hj
   have:=h4 _ u hu
   rw[←this]
   congr 2
   rw[hc] at hj⊢
   rw[Nat.add_mul]
   omega
theorem wO {ts:List TypeId} {n:Nat} {cs:List Value} (hcl:∀(t:TypeId) (cs:List Value) (x:DataW H×List MemPlace),t∈ts→DataW.trod enc P W base spare held n t cs=some x→Rp W (en x.1) cs∧Ty P t (en x.1)):
 ∀(fs:List Field) (o:Nat) (xs:List (DataW H×List MemPlace)),xs.length=fs.length→Ab P ts fs o cs.length=true→o≤cs.length→
  (∀(i:Nat) (f:Field),fs[i]? =some f→DataW.trod enc P W base spare held n f.type ((cs.drop f.offset).take (P.cellsOf f.type))=xs[i]?)→
  bn W (xs.map fun x=>en x.1) (cs.drop o)∧∀(i:Nat) (f:Field) (d:Dt),fs[i]? =some f→(xs.map fun x=>en x.1)[i]? =some d→Ty P f.type d
 |[],o,xs,hl,hs,ho,_=>by
  have:xs=[]:=List.eq_nil_of_length_eq_zero (by simpa using hl)
  subst this
  have:o=cs.length:=by simpa [Ab] using hs
  subst this
  simp[bn.nil]
 |f::fs,o,xs,hl,hs,ho,h=>by
  cases xs with
  |nil=>simp at hl
  |cons x xs=>
   simp only[Ab,Bool.and_eq_true,beq_iff_eq] at hs
   obtain⟨⟨h1,h2⟩,h3⟩:=hs
   have h0:=h 0 f rfl
   simp only[List.getElem?_cons_zero] at h0
   obtain⟨h4,h5⟩:=hcl f.type _ x (by simpa using h2) h0
   have hlen:∀(fs:List Field) (o:Nat),Ab P ts fs o cs.length=true→o≤cs.length:=by
    intro fs
    induction fs with
    |nil=>intro o h;have:o=cs.length:=by simpa [Ab] using h
          omega
    |cons g fs ih=>intro o h;simp only[Ab,Bool.and_eq_true] at h;have:=ih _ h.2;omega
   obtain⟨h6,h7⟩:=wO hcl fs (o+P.cellsOf f.type) xs (by simpa using hl) h3 (hlen _ _ h3) fun i g hg=>by simpa using h (i+1) g (by simpa using hg)
   refine⟨?_,fun i g d hg hd=>?_⟩
   ·rw[h1] at h4
    have e:cs.drop o=(cs.drop o).take (P.cellsOf f.type)++cs.drop (o+P.cellsOf f.type):=by
     rw[←List.drop_drop,List.take_append_drop]
    rw[e]
    exact bn.cons h4 h6
   ·cases i with
    |zero=>
     simp only[List.getElem?_cons_zero,Option.some.injEq] at hg
     subst hg
     simp only[List.map_cons,List.getElem?_cons_zero,Option.some.injEq] at hd
     subst hd
     exact h5
    |succ i=>exact h7 i g d (by simpa using hg) (by simpa using hd)
theorem wQ {ts:List TypeId} (hc:yw P ts=true):∀(fuel:Nat) (t:TypeId) (cs:List Value) (x:DataW H×List MemPlace),t∈ts→DataW.trod enc P W base spare held fuel t cs=some x→Rp W (en x.1) cs∧Ty P t (en x.1)
 |0,t,cs,x,_,h=>by simp[DataW.trod] at h
 |fuel+1,t,cs,x,ht,h=>by
  have ih:=wQ hc fuel
  have hct:=List.all_eq_true.1 hc t ht
  split at hct
  ·rename_i k hu
   obtain⟨n,rfl,rfl,hw⟩:=DataW.trod_int hu h
   exact⟨by simp only[en,Rp],Ty.int hu hw⟩
  ·rename_i hu
   obtain⟨b,rfl,rfl⟩:=DataW.trod_bool hu h
   exact⟨by simp only[en,Rp],Ty.bool hu⟩
  ·rename_i hu
   obtain⟨s,rfl,rfl,hs⟩:=DataW.trod_string hu h
   exact⟨by simp only[en,Rp,S,Array.toArray_toList],Ty.str hu (by simpa using hs)⟩
  ·rename_i e hu
   simp only[Bool.and_eq_true,beq_iff_eq] at hct
   have he:e∈ts:=by simpa using hct.2
   rcases DataW.trod_slice hu h with⟨rfl,rfl⟩|⟨a,len,cap,elems,rest,n,hf,rfl,rfl,hb,hl,hm,hlen,hel,_,_⟩
   ·exact⟨by simp only[en];exact Rp.nilSl,by simp only[en];exact Ty.sl hu (by simp)⟩
   ·obtain rfl:fuel=n:=by omega
    have each:∀(i:Nat) (y:DataW H×List MemPlace),elems[i]? =some y→∃c:List Value,c.length=P.cellsOf e∧(∀j u,c[j]? =some u→W.cell? (a.add (i*P.cellsOf e+j))=some u)∧Rp W (en y.1) c∧Ty P e (en y.1):=by
     intro i y hy
     have hi:i<len:=by
      have:=(List.getElem?_eq_some_iff.1 hy).1
      omega
     have h1:=hel i hi
     rw[hy,Option.bind_eq_some_iff] at h1
     obtain⟨c,h2,h3⟩:=h1
     obtain⟨_,h5,h6⟩:=World.cells?_some h2
     obtain⟨h7,h8⟩:=ih e c y he h3
     refine⟨c,h5,fun j u hu=>?_,h7,h8⟩
     have hj:j<P.cellsOf e:=by rw[←h5];exact(List.getElem?_eq_some_iff.1 hu).1
     have:=h6 j hj
     rw[qJ,hu] at this
     exact this
    obtain⟨xs,h1,h2⟩:=CS (W:=W) (sz:=P.cellsOf e) (a:=a) (elems.map fun y=>en y.1) 0 fun i d hd=>by
     rw[List.getElem?_map,Option.map_eq_some_iff] at hd
     obtain⟨y,hy,rfl⟩:=hd
     obtain⟨c,h1,h2,h3,_⟩:=each i y hy
     exact⟨c,h1,by rw[Nat.zero_add];exact h2,h3⟩
    have em:nI (elems.map (·.1))=elems.map fun y=>en y.1:=by rw[pa,List.map_map];rfl
    refine⟨?_,?_⟩
    ·simp only[en,Rp]
     rw[em]
     exact⟨some a,len,cap,rfl,by simpa using hlen,hl,hm,(fun h=>by cases h),fun _=>⟨a,xs,rfl,fun j u hu=>by have:=h2 j u hu;rwa [Nat.zero_mul,Nat.zero_add] at this,h1⟩⟩
    ·simp only[en]
     rw[em]
     refine Ty.sl hu fun d hd=>?_
     obtain⟨y,hy,rfl⟩:=List.mem_map.1 hd
     obtain⟨i,hi,rfl⟩:=List.getElem_of_mem hy
     obtain⟨_,_,_,_,h4⟩:=each i _ (List.getElem?_eq_getElem hi)
     exact h4
  ·rename_i fs hu
   obtain⟨xs,n,hf,rfl,hl,hlen,hall⟩:=DataW.trod_struct hu h
   obtain rfl:fuel=n:=by omega
   obtain⟨h1,h2⟩:=wO (cs:=cs) (fun t cs x ht h=>ih t cs x ht h) fs.toList 0 xs (by simpa using hlen) (by rw[hl];exact hct) (Nat.zero_le _) fun i f hf=>hall i f (by simpa using hf)
   have em:nI (xs.map (·.1))=xs.map fun y=>en y.1:=by rw[pa,List.map_map];rfl
   refine⟨?_,?_⟩
   ·simp only[en,Rp]
    rw[em]
    simpa using h1
   ·simp only[en]
    rw[em]
    exact Ty.st hu (by simpa using hlen) fun i f d hf hd=>h2 i f d (by simpa using hf) hd
  ·rename_i m e hu
   simp only[Bool.and_eq_true,beq_iff_eq] at hct
   have he:e∈ts:=by simpa using hct.2
   obtain⟨xs,n,hf,rfl,hl,hlen,hall⟩:=DataW.trod_array hu h
   obtain rfl:fuel=n:=by omega
   have em:nI (xs.map (·.1))=xs.map fun y=>en y.1:=by rw[pa,List.map_map];rfl
   have each:∀(i:Nat) (y:DataW H×List MemPlace),xs[i]? =some y→Rp W (en y.1) ((cs.drop (i*P.cellsOf e)).take (P.cellsOf e))∧Ty P e (en y.1):=fun i y hy=>by
    have hi:i<m:=by
     have:=(List.getElem?_eq_some_iff.1 hy).1
     omega
    have h1:=hall i hi
    rw[hy] at h1
    exact ih e _ y he h1
   have all:∀(k:Nat),k≤m→bn W ((xs.map fun y=>en y.1).drop k) (cs.drop (k*P.cellsOf e)):=by
    intro k hk
    induction hq:m-k generalizing k with
    |zero=>
     have:k=m:=by omega
     subst this
     rw[List.drop_of_length_le (by simp;omega),List.drop_of_length_le (by rw[hl,hct.1];exact Nat.le_refl _)]
     exact bn.nil
    |succ q ihq=>
     have hk':k<(xs.map fun y=>en y.1).length:=by simp;omega
     have h1:=ihq (k+1) (by omega) (by omega)
     have hkx:k<xs.length:=by omega
     obtain⟨h2,_⟩:=each k _ (List.getElem?_eq_getElem hkx)
     rw[List.drop_eq_getElem_cons hk']
     have e:cs.drop (k*P.cellsOf e)=(cs.drop (k*P.cellsOf e)).take (P.cellsOf e)++cs.drop ((k+1)*P.cellsOf e):=by
      rw[Nat.add_mul,Nat.one_mul,←List.drop_drop,List.take_append_drop]
     rw[e]
     refine bn.cons ?_ h1
     simpa using h2
   refine⟨?_,?_⟩
   ·simp only[en,Rp]
    rw[em]
    simpa using all 0 (Nat.zero_le _)
   ·simp only[en]
    rw[em]
    refine Ty.arr hu (by simpa using hlen) fun d hd=>?_
    obtain⟨y,hy,rfl⟩:=List.mem_map.1 hd
    obtain⟨i,hi,rfl⟩:=List.getElem_of_mem hy
    exact(each i _ (List.getElem?_eq_getElem hi)).2
  ·cases hct
end
end Go.Rl
namespace Go.Rl
open Go.RowKit
section
variable {P:Program} {Q:iq} {N:Nat} {D:List Deferred} {l:Fr} {w:World}
theorem eu {c:Code} {α β:Type} (fr:α→β→Fr) (H:α→β→World→Prop) (mu:α→β→Nat) (x0:α) (y0:β) (hs:zU (fr x0 y0) l) (h0:H x0 y0 w)
 (round:∀x y w',H x y w'→dq P (Exit.then (fun a w''=>∃x' y',At N D (fr x' y') a∧H x' y' w''∧mu x' y'<mu x y) Q) N D (fr x y) w' c):dq P Q N D l w (.loop c):=
 ck (α:=α×β) (fun p=>fr p.1 p.2) (fun p=>H p.1 p.2) (fun p=>mu p.1 p.2) (x0,y0) hs h0 fun p w' h a ha=>
  wp_mono (round p.1 p.2 w' h a ha) fun e a' w'' hq=>by
   cases e with
   |normal=>
    obtain⟨x',y',h1,h2,h3⟩:=hq
    exact⟨(x',y'),h1,h2,h3⟩
   |_=>exact hq
theorem c6 {α β:Type} {fr:α→β→Fr} {H:α→β→World→Prop} {mu:α→β→Nat} {m:Nat} (x:α) (y:β) (hs:zU (fr x y) l) (hH:H x y w) (hm:mu x y<m):ia (Exit.then (fun a w''=>∃x' y',At N D (fr x' y') a∧H x' y' w''∧mu x' y'<m) Q) N D l w:=
 fun _ ha=>⟨x,y,ha.weak hs,hH,hm⟩
theorem mi {c:Code} {α β γ:Type} (fr:α→β→γ→Fr) (H:α→β→γ→World→Prop) (mu:α→β→γ→Nat) (x0:α) (y0:β) (z0:γ) (hs:zU (fr x0 y0 z0) l) (h0:H x0 y0 z0 w)
 (round:∀x y z w',H x y z w'→dq P (Exit.then (fun a w''=>∃x' y' z',At N D (fr x' y' z') a∧H x' y' z' w''∧mu x' y' z'<mu x y z) Q) N D (fr x y z) w' c):dq P Q N D l w (.loop c):=
 ck (α:=α×β×γ) (fun p=>fr p.1 p.2.1 p.2.2) (fun p=>H p.1 p.2.1 p.2.2) (fun p=>mu p.1 p.2.1 p.2.2) (x0,y0,z0) hs h0 fun p w' h a ha=>
  wp_mono (round p.1 p.2.1 p.2.2 w' h a ha) fun e a' w'' hq=>by
   cases e with
   |normal=>
    obtain⟨x',y',z',h1,h2,h3⟩:=hq
    exact⟨(x',y',z'),h1,h2,h3⟩
   |_=>exact hq
theorem je {α β γ:Type} {fr:α→β→γ→Fr} {H:α→β→γ→World→Prop} {mu:α→β→γ→Nat} {m:Nat} (x:α) (y:β) (z:γ) (hs:zU (fr x y z) l) (hH:H x y z w) (hm:mu x y z<m):ia (Exit.then (fun a w''=>∃x' y' z',At N D (fr x' y' z') a∧H x' y' z' w''∧mu x' y' z'<m) Q) N D l w:=
 fun _ ha=>⟨x,y,z,ha.weak hs,hH,hm⟩
theorem mj {c:Code} {α β γ δ:Type} (fr:α→β→γ→δ→Fr) (H:α→β→γ→δ→World→Prop) (mu:α→β→γ→δ→Nat) (x0:α) (y0:β) (z0:γ) (u0:δ) (hs:zU (fr x0 y0 z0 u0) l) (h0:H x0 y0 z0 u0 w)
 (round:∀x y z u w',H x y z u w'→dq P (Exit.then (fun a w''=>∃x' y' z' u',At N D (fr x' y' z' u') a∧H x' y' z' u' w''∧mu x' y' z' u'<mu x y z u) Q) N D (fr x y z u) w' c):dq P Q N D l w (.loop c):=
 ck (α:=α×β×γ×δ) (fun p=>fr p.1 p.2.1 p.2.2.1 p.2.2.2) (fun p=>H p.1 p.2.1 p.2.2.1 p.2.2.2) (fun p=>mu p.1 p.2.1 p.2.2.1 p.2.2.2) (x0,y0,z0,u0) hs h0 fun p w' h a ha=>
  wp_mono (round p.1 p.2.1 p.2.2.1 p.2.2.2 w' h a ha) fun e a' w'' hq=>by
   cases e with
   |normal=>
    obtain⟨x',y',z',u',h1,h2,h3⟩:=hq
    exact⟨(x',y',z',u'),h1,h2,h3⟩
   |_=>exact hq
theorem gF {α β γ δ:Type} {fr:α→β→γ→δ→Fr} {H:α→β→γ→δ→World→Prop} {mu:α→β→γ→δ→Nat} {m:Nat} (x:α) (y:β) (z:γ) (u:δ) (hs:zU (fr x y z u) l) (hH:H x y z u w) (hm:mu x y z u<m):ia (Exit.then (fun a w''=>∃x' y' z' u',At N D (fr x' y' z' u') a∧H x' y' z' u' w''∧mu x' y' z' u'<m) Q) N D l w:=
 fun _ ha=>⟨x,y,z,u,ha.weak hs,hH,hm⟩
theorem tK {c:Code} {α β γ δ ε:Type} (fr:α→β→γ→δ→ε→Fr) (H:α→β→γ→δ→ε→World→Prop) (mu:α→β→γ→δ→ε→Nat) (x0:α) (y0:β) (z0:γ) (u0:δ) (v0:ε) (hs:zU (fr x0 y0 z0 u0 v0) l) (h0:H x0 y0 z0 u0 v0 w)
 (round:∀x y z u v w',H x y z u v w'→dq P (Exit.then (fun a w''=>∃x' y' z' u' v',At N D (fr x' y' z' u' v') a∧H x' y' z' u' v' w''∧mu x' y' z' u' v'<mu x y z u v) Q) N D (fr x y z u v) w' c):dq P Q N D l w (.loop c):=
 ck (α:=α×β×γ×δ×ε) (fun p=>fr p.1 p.2.1 p.2.2.1 p.2.2.2.1 p.2.2.2.2) (fun p=>H p.1 p.2.1 p.2.2.1 p.2.2.2.1 p.2.2.2.2) (fun p=>mu p.1 p.2.1 p.2.2.1 p.2.2.2.1 p.2.2.2.2) (x0,y0,z0,u0,v0) hs h0 fun p w' h a ha=>
  wp_mono (round p.1 p.2.1 p.2.2.1 p.2.2.2.1 p.2.2.2.2 w' h a ha) fun e a' w'' hq=>by
   cases e with
   |normal=>
    obtain⟨x',y',z',u',v',h1,h2,h3⟩:=hq
    exact⟨(x',y',z',u',v'),h1,h2,h3⟩
   |_=>exact hq
theorem qV {α β γ δ ε:Type} {fr:α→β→γ→δ→ε→Fr} {H:α→β→γ→δ→ε→World→Prop} {mu:α→β→γ→δ→ε→Nat} {m:Nat} (x:α) (y:β) (z:γ) (u:δ) (v:ε) (hs:zU (fr x y z u v) l) (hH:H x y z u v w) (hm:mu x y z u v<m):ia (Exit.then (fun a w''=>∃x' y' z' u' v',At N D (fr x' y' z' u' v') a∧H x' y' z' u' v' w''∧mu x' y' z' u' v'<m) Q) N D l w:=
 fun _ ha=>⟨x,y,z,u,v,ha.weak hs,hH,hm⟩
end
end Go.Rl
namespace Go.Rl
open Go.RowKit
def FR (rd:Option Nat):Fence:={Fence.wide with round:=rd}
theorem Ac (rd:Option Nat):¬(FR rd).depth.isSome=true:=by simp[FR,Fence.wide]
theorem Bs {rd:Option Nat} {n:Nat} {P:Program} {f:FuncId} {args:Array Value} {w:World} {R:Ending→World→Prop} (h:Calls P f args w R):CallsIn (FR rd) n P f args w R:=
 (callsIn_wide (n:=n)).2 h
theorem DI {rd:Option Nat} {n:Nat} {P:Program} {row:String} {args:Array Value} {w:World} {R:Value→World→Prop} (h:Rows P row args w R):RowsIn (FR rd) n P row args w R:=
 fun c cs _=>let ⟨v,w',r,s⟩:=h c cs;⟨v,w',r,stepsIn_wide.2 s⟩
theorem DJ {P:Program} {rd:Option Nat} {n:Nat} {o:Oper} {a:Act} {K K':Act→World→Prop} {Q:Exit→Act→World→Prop} {r:Result Next} (hk:∀a w,K a w→K' a w) (h:o.upon P a K Q r):o.uponIn (FR rd) n P a K' Q r:=by
 cases r with
 |ok x w'=>
  cases x with
  |value v=>exact hk _ _ h
  |skip=>exact hk _ _ h
  |defer d=>exact hk _ _ h
  |enter f args=>
   refine⟨fun hd=>absurd hd (Ac rd),Bs (Calls.mono h ?_)⟩
   intro e w'' he
   cases e with
   |returned v=>exact hk _ _ he
   |panicked c=>exact he
   |outgrown=>exact he
  |row s args=>
   refine⟨fun hd=>absurd hd (Ac rd),DI (Rows.mono h ?_)⟩
   intro v w'' he
   exact hk _ _ he
  |_=>exact h.elim
 |halt x w'=>
  cases x with
  |panic v=>exact h
  |_=>exact h.elim
theorem pT {K:Act→World→Prop} {Q:Exit→Act→World→Prop} (h:¬LetsOut Q):¬LetsOut (Exit.then K Q):=fun⟨a,w,hq⟩=>h ⟨a,w,hq⟩
theorem nW {id:Nat} {Q:Exit→Act→World→Prop} (h:¬LetsOut Q):¬LetsOut (Exit.inBlock id Q):=fun⟨a,w,hq⟩=>h ⟨a,w,hq⟩
theorem rS {α:Type} {B:Nat} {Kp:World→World→Prop} {I:List α→World→Prop} {Ix:Code→List α→World→Prop} {xs:List α} {W:World}:¬LetsOut (ownPostG B Kp I Ix xs W):=fun⟨_,_,hq⟩=>hq
theorem pV {P:Program} {fn:Func} {T:Value→World→Prop}:¬LetsOut (bodyPost P fn (bN T)):=fun⟨_,_,hq⟩=>by
 obtain⟨v,he,_⟩:=hq
 cases he
theorem nX {P:Program} {fn:Func} {T:Value→World→Prop}:¬LetsOut (bodyPostM Fence.wide 0 P fn (bN T)):=fun⟨_,_,hq⟩=>by
 obtain⟨v,he,_⟩:=hq
 cases he
def qW (os:List Oper):Bool:=os.all fun o=>match o.op with|.defer _=>false|_=>true
theorem Bt {os:List Oper} (h:qW os=true) {i:Nat} {o:Oper} (ho:os[i]? =some o):∀c,o.op≠.defer c:=fun c hc=>by
 have:=List.all_eq_true.1 h o (List.mem_of_getElem? ho)
 rw[hc] at this
 cases this
theorem FF {rd:Option Nat} {o:Oper} (h:rd=none∨∀c,o.op≠.defer c) (ρ:Operand→Value):o.semAt (FR rd).round ρ=execOp ρ o:=by
 rcases h with rfl|h
 ·exact Oper.semAt_none ρ o
 ·exact Oper.semAt_eq _ ρ o h
theorem DK {P:Program} {rd:Option Nat} {n:Nat} {o:Oper} {a:Act} {w:World} {K K':Act→World→Prop} {Q:Exit→Act→World→Prop} (hd:rd=none∨∀c,o.op≠.defer c) (hk:∀a w,K a w→K' a w) (h:o.wp P a w K Q):o.wpIn (FR rd) n P a w K' Q:=
 ⟨fun _ _=>trivial,by rw[FF hd];exact DJ hk h⟩
theorem Ad {P:Program} {rd:Option Nat} {n:Nat} {os:List Oper} {Q:Exit→Act→World→Prop} (hQ:¬LetsOut Q) (hd:rd=none∨qW os=true):∀(l:List Nat) (a:Act) (w:World),wpOps P os.toArray Q l a w→wpOpsIn (FR rd) n P os.toArray Q l a w:=by
 intro l
 induction l with
 |nil=>intro a w h;exact h
 |cons i l ih=>
  intro a w h
  unfold wpOps at h
  unfold wpOpsIn
  cases ho:os.toArray[i]? with
  |none=>
   simp only[ho] at h⊢
   exact ih a w h
  |some o=>
   simp only[ho] at h⊢
   split
   ·rename_i hw
    rw[if_pos hw] at h
    exact DK (hd.imp_right fun hd=>Bt hd (by simpa using ho)) ih (h.resolve_right fun h=>hQ h.2)
   ·rename_i hw
    rw[if_neg hw] at h
    exact⟨fun _ _=>trivial,ih _ _ h⟩
section
variable {P:Program} {ops:Array Oper} {Q:iq} {N:Nat} {D:List Deferred} {rd:Option Nat}
def fA (rd:Option Nat) (P:Program) (Q:iq) (N:Nat) (D:List Deferred) (l:Fr) (w:World) (c:Code):Prop:=∀a,At N D l a→c.wpIn (FR rd) 0 P Q a w
namespace I
section code
variable {l l':Fr} {w:World}
theorem af {x y:Code} (h:fA rd P (Exit.then (y.wpIn (FR rd) 0 P Q) Q) N D l w x):fA rd P Q N D l w (.seq x y):=fun a ha=>wpIn_seq (h a ha)
theorem aC (h:ia Q N D l w):fA rd P Q N D l w .skip:=fun a ha=>wpIn_skip (h a ha)
theorem ab {y:Code} {Q':iq} (h:fA rd P Q N D l w y):ia (Exit.then (y.wpIn (FR rd) 0 P Q) Q') N D l w:=fun a ha=>h a ha
theorem aG {id:Nat} {c:Code} (h:fA rd P (Exit.inBlock id Q) N D l w c):fA rd P Q N D l w (.block id c):=fun a ha=>wpIn_block (h a ha)
theorem bc {id:Nat} (h:gC Q N D l w (.exit id)):fA rd P Q N D l w (.exit id):=fun a ha=>wpIn_exit (h a ha)
theorem aw (h:gC Q N D l w .ret):fA rd P Q N D l w .ret:=fun a ha=>wpIn_ret (h a ha)
theorem fJ {c:Operand} {x y:Code} {b:Bool} (hc:ev l c=some (.bool b)) (ht:b=true→fA rd P Q N D l w x) (hf:b=false→fA rd P Q N D l w y):fA rd P Q N D l w (.cond c x y):=fun a ha=>
 wpIn_cond_split (ha.ev hc) (fun h=>ht h a ha) (fun h=>hf h a ha)
theorem bu {c:Operand} {x y:Code} {p:Prop} {dp:Decidable p} (hc:ev l c=some (.bool (@decide p dp))) (ht:p→fA rd P Q N D l w x) (hf:¬p→fA rd P Q N D l w y):fA rd P Q N D l w (.cond c x y):=
 I.fJ hc (fun h=>ht (of_decide_eq_true h)) (fun h=>hf (of_decide_eq_false h))
theorem bm {c:Operand} {x y:Code} (hc:ev l c=some (.bool true)) (ht:fA rd P Q N D l w x):fA rd P Q N D l w (.cond c x y):=I.fJ hc (fun _=>ht) (fun h=>by cases h)
theorem cN {c:Operand} {x y:Code} (hc:ev l c=some (.bool false)) (hf:fA rd P Q N D l w y):fA rd P Q N D l w (.cond c x y):=I.fJ hc (fun h=>by cases h) (fun _=>hf)
theorem ew {c:Code} {α:Type} (fr:α→Fr) (H:α→World→Prop) (h:fA rd P (Exit.then (fun a w'=>∃x,At N D (fr x) a∧H x w') Q) N D l w c) (k:∀x w',H x w'→ia Q N D (fr x) w'):fA rd P Q N D l w c:=fun a ha=>
 wpIn_mono (h a ha) fun e a' w' hq=>by
  cases e with
  |normal=>
   obtain⟨x,hx,hH⟩:=hq
   exact k x w' hH a' hx
  |_=>exact hq
theorem ck {c:Code} {α:Type} (fr:α→Fr) (H:α→World→Prop) (mu:α→Nat) (x0:α) (hs:zU (fr x0) l) (h0:H x0 w)
 (round:∀x w',H x w'→fA rd P (Exit.then (fun a w''=>∃y,At N D (fr y) a∧H y w''∧mu y<mu x) Q) N D (fr x) w' c):fA rd P Q N D l w (.loop c):=fun a ha=>by
 intro b k cs hro hb hr
 have go:∀(n:Nat) (x:α) (a:Act) (w:World),mu x<n→At N D (fr x) a→H x w→
  ∃e a' w',Q e a' w'∧ArrivesIn (Machine.fenced P (FR rd)) P (lone (b.atR a (.code c::.inLoop c::k)) cs w) b k cs e a' w':=by
  intro n
  induction n with
  |zero=>intro x a w hlt;omega
  |succ n ih=>
   intro x a w hlt hat hH
   obtain⟨e,a1,w1,hq,harr⟩:=round x w hH a hat b (.inLoop c::k) cs hro hb hr
   cases e with
   |normal=>
    obtain⟨y,hy,hHy,hm⟩:=hq
    obtain⟨e2,a2,w2,hq2,harr2⟩:=ih y a1 w1 (by omega) hy hHy
    exact⟨e2,a2,w2,hq2,.of_steps (StepsIn.trans harr (.one (fenced_calm hb hr rfl) stepR_inLoop)) harr2⟩
   |exit id=>exact⟨_,a1,w1,hq,.pass (x:=.inLoop c) rfl (fun _ _=>.inl (by simp)) harr⟩
   |goto l=>exact⟨_,a1,w1,hq,.pass (x:=.inLoop c) rfl (fun _ _=>.inl (by simp)) harr⟩
   |ret=>exact⟨_,a1,w1,hq,.pass (x:=.inLoop c) rfl (fun _ _=>.inl (by simp)) harr⟩
   |panic ch=>exact⟨_,a1,w1,hq,.pass (x:=.inLoop c) rfl (fun _ _=>.inl (by simp)) harr⟩
   |outgrown=>exact⟨_,a1,w1,hq,.pass (x:=.inLoop c) rfl (fun _ _=>.inl (by simp)) harr⟩
 obtain⟨e,a',w',hq,harr⟩:=go (mu x0+1) x0 a w (by omega) (ha.weak hs) h0
 exact⟨e,a',w',hq,.of_steps (.one (fenced_calm hb hr rfl) stepR_loop) harr⟩
theorem aa {id:Nat} {os:List Oper} (hd:qW os=true) (h:cz P os.toArray Q N D l w os)
 (hQ:¬LetsOut Q:=by repeat with_reducible first|exact rS|exact pV|exact nX|apply pT|apply nW):fA rd P Q N D l w (.region id os.toArray false):=fun a ha=>by
 refine wpIn_region (Ad hQ (.inr hd) _ _ _ ?_)
 have:=wpOps_eq_wpList (P:=P) (Q:=Q) (ops:=os.toArray) os 0 (by simp)
 rw[List.range_eq_range']
 simp only[List.size_toArray]
 rw[this]
 exact h a ha
theorem qI {id:Nat} {os:List Oper} (n:Nat) (ts:List Nat) (Env:World→Prop) (Rl:World→World→Prop) (mo:Bool) (Pn:List PanicEntry→World→Prop) (Z:lW) (hE:jt Env Rl) (he:Env w) (hZ:dF Z) (hz:Z w) (hP:∀c a w,a.defers=D→Pn c w→Q (.panic c) a w) (hcalls:mo=true→kQ .any os.toArray=true) (hm:P.follows .mixedOrders=true) (hB:Region.lexTailB .any os.toArray n=true) (hd:qW os=true)
 (h:gK P os.toArray Env Rl mo Pn N (os.take n) (zP l) Z (fun F Z=>∀w',Env w'→Z w'→lr F w' ts (fun l'=>cz P os.toArray Q N D l' w' (os.drop n))))
 (hQ:¬LetsOut Q:=by repeat with_reducible first|exact rS|exact pV|exact nX|apply pT|apply nW):fA rd P Q N D l w (.region id os.toArray true):=fun a ha=>by
 refine wpIn_region_draw fun t=>Ad hQ (.inr hd) _ _ _ ?_
 have hdr:aH w {w with drawn:=w.drawn+1}:=⟨rfl,rfl,rfl,Nat.le_refl _,fun _ _=>rfl⟩
 have key:wpAny P .any os.toArray Q os.toArray.size (Array.replicate os.toArray.size false) a {w with drawn:=w.drawn+1}:=by
  simp only[Region.lexTailB,Bool.and_eq_true,decide_eq_true_eq] at hB
  obtain⟨⟨⟨⟨_,hn⟩,hs⟩,hc⟩,hlex⟩:=hB
  have hn':n<os.length:=by simpa using hn
  have htl:(os.take n).length=n:=by simp;omega
  have hdl:(os.drop n).length=os.toArray.size-n:=by simp
  have inv0:HeadInv .any os.toArray n (Array.replicate os.toArray.size false):=
   ⟨by simp,fun j oj _ hl=>(by rw[getD_replicate_false] at hl;cases hl),fun t _ ht=>getD_in (by simpa using ht) (getD_replicate_false _ _)⟩
  have h2:gK P os.toArray Env Rl mo Pn N (os.take n) (zP l) Z (fun F Z=>∀a' w',Env w'→CH N D F a' w'→Z w'→wpList P os.toArray Q (os.drop n) a' w'):=lq _ _ _ (fun F Z hK a' w' he hs hz=>by
   obtain⟨l',hl',hk⟩:=lr.use hs (hK w' he hz)
   exact hk a' hl') h
  have H:=pH (md:=.any) (g:=os.toArray.size-n) hcalls hs hc hn (os.take n) 0 _ _ _ (fun j hj=>by
   have hj':j<n:=by rw[htl] at hj;exact hj
   simp[hj']) (by simpa using htl) inv0 (by rw[htl];exact hlex) (jU l) hZ h2
  have hsat:CH N D (zP l) a {w with drawn:=w.drawn+1}:=⟨ha.size,ha.defers,fun t=>by
   show zP l t (a.tmps.getD t undef) _
   unfold zP
   cases hv:lk l t with
   |some v=>exact ha.at_ t v hv
   |none=>trivial⟩
  have:=ip (D:=D) (Q':=Q) (l0:=[]) (g:=os.toArray.size-n) hE (fun c a w _ hd _ hp=>hP c a w hd hp) (fun _ _ _ _ _ _ _ hp=>by cases hp) (fun listed F Z hL hF hZ a' w' he hsat hz=>by
   have:=wpAny_of_seq (md:=.any) (Q':=Q) (os.drop n) n listed a' w' (fun j=>by simp[List.getElem?_drop]) (by rw[hdl];exact hL.1) (hL.2 a' w' he hsat hz)
   rwa [hdl] at this) _ _ _ _ H (jU l) hZ a {w with drawn:=w.drawn+1} (hE.keep _ _ he (hE.ext _ _ hdr)) hsat (fun _ hp=>by cases hp) (hZ _ _ hz hdr)
  rw[htl,show n+(os.toArray.size-n)=os.toArray.size by omega] at this
  exact this
 simp only[Region.schedule,hm,Bool.true_or,if_true]
 exact wpAny_sound os.toArray.size t _ a _ key
theorem bP {id:Nat} {os:List Oper} (n:Nat) (ts:List Nat) (hm:P.follows .mixedOrders=true) (hB:Region.lexTailB .any os.toArray n=true) (hd:qW os=true)
 (h:gK P os.toArray (aH w) aH false Jl N (os.take n) (zP l) (fun _=>True) (fun F _=>∀w',aH w w'→lr F w' ts (fun l'=>cz P os.toArray Q N D l' w' (os.drop n))))
 (hQ:¬LetsOut Q:=by repeat with_reducible first|exact rS|exact pV|exact nX|apply pT|apply nW):fA rd P Q N D l w (.region id os.toArray true):=
 qI n ts (aH w) aH false Jl (fun _=>True) (jt.plain w) (aH.refl w) dF.triv trivial (fun _ _ _ _ h=>h.elim) (fun h=>by cases h) hm hB hd (lq _ _ _ (fun _ _ h w' he _=>h w' he) h) hQ
end code
end I
end
end Go.Rl
namespace Go.Rl
open Go.RowKit Go.Proofs
section ops
variable {P:Program} {ops:Array Oper} {Q:iq} {N:Nat} {D:List Deferred} {l:Fr} {w w':World} {rest:List Oper} {d:Nat} {ty:TypeId} {pos:String} {aft:Array Edge}
theorem Bu {fn:Fn} {fs cs:List Operand} {us vs:List Value} (hf:vV l fs=some us) (hc:vV l cs=some vs) (hd:Nat.blt d N=true) (k:cz P ops Q N D ((d,.func fn us.toArray vs.toArray)::l) w rest):cz P ops Q N D l w (⟨some d,.makeFunc fn fs.toArray cs.toArray,ty,pos,aft,none⟩::rest):=
 ib hd (fun ρ hρ=>by
  have:execOp ρ ⟨some d,.makeFunc fn fs.toArray cs.toArray,ty,pos,aft,none⟩=(do pure (Next.value (←Instr.makeFunc fn (fs.toArray.map ρ) (cs.toArray.map ρ))):Sem Next):=rfl
  rw[this,List.map_toArray,List.map_toArray,jT hρ hf,jT hρ hc];rfl) k
theorem lD {f:FuncId} {x:Operand} {fs lb:Array Value} {xs:List Operand} {vs:List Value} {ts:Array TypeId} {T:Value→World→Prop} (hx:ev l x=some (.func (.func f) fs lb)) (hf:aJ P f) (hp:vV l xs=some vs) (hd:Nat.blt d N=true) (hc:Calls P f (fs++vs.toArray++lb) w (bN T))
 (k:∀v w',T v w'→cz P ops Q N D ((d,v)::l) w' rest):cz P ops Q N D l w (⟨some d,.call {callee:=.value x,args:=xs.toArray,argTypes:=ts},ty,pos,aft,none⟩::rest):=fun a ha=>by
 refine wpList_plain E fun K hK=>?_
 unfold Oper.wp
 have hr:(execOp a.eval ⟨some d,.call {callee:=.value x,args:=xs.toArray,argTypes:=ts},ty,pos,aft,none⟩).run P w=.ok (.enter f (fs++vs.toArray++lb)) w:=by
  have hρ:tb l a.eval:=fun x v hx=>ha.ev hx
  simp only[execOp,resolve,List.map_toArray,jT hρ hp,hρ x _ hx,Deferred.ofValue,Sem.run_bind,Sem.run_pure,Result.andThen_ok,invoke,jx hf]
 rw[hr]
 refine hc.mono ?_
 rintro e w' ⟨v,rfl,hv⟩
 exact hK _ _ (k v w' hv _ (ha.put hd v))
end ops
section fops
variable {P:Program} {ops:Array Oper} {Env:World→Prop} {Rl:World→World→Prop} {mo:Bool} {Pn:List PanicEntry→World→Prop} {Z:lW} {N:Nat} {F:cS} {K:cS→lW→Prop} {rest:List Oper} {d:Nat} {ty:TypeId} {pos:String} {aft:Array Edge}
end fops
theorem FG:(Tryz.prog.info? 3).map (fun i=>(i.zero,i.size,i.bytes))=some (some (.int .i64 0),1,8):=by kernel_rfl
theorem qX:(Tryz.prog.info? 3).map (·.size)=some 1:=by kernel_rfl
section
variable {w w':World} {base:Nat}
def Its (l:List Int):dv:=Sl 1 (l.map I)
def ko (base:Nat) (l:List Int):dv:=fun v w=>∃n,w.ownsRow base 3 1 v n (l.map I)
theorem ko.ext {l:List Int} {v:Value} (h:ko base l v w) (hx:aH w w'):ko base l v w':=h.elim fun n h=>⟨n,fl h hx⟩
theorem ko.stable (base:Nat) (l:List Int):bO (ko base l):=fun _ _ _ h hx=>h.ext hx
theorem Its.stable (l:List Int):bO (Its l):=Sl.stable _ _
theorem ko.nil (base:Nat) (w:World):ko base [] (.slice none 0 0) w:=⟨0,World.ownsRow_nil _ _ _ _⟩
theorem ko.lt {l:List Int} {v:Value} (h:ko base l v w):∀k,v.ownBlock=some k→base≤k∧k<w.heap.size:=fun k hk=>h.elim fun _ h=>World.ownsRow.lt h k hk
theorem ko.kept {l:List Int} {v:Value} (h:ko base l v w) {row:Option Nat} (hg:w.grownBy w' row) (hne:v.ownBlock=none∨v.ownBlock≠row):ko base l v w':=
 h.elim fun n h=>⟨n,World.ownsRow.kept h hg hne⟩
theorem ko.same {l:List Int} {v:Value} (h:ko base l v w) (hb:∀k,v.ownBlock=some k→w'.heap[k]? =w.heap[k]?):ko base l v w':=by
 obtain⟨n,h1,h2⟩:=h
 refine⟨n,h1,?_⟩
 rcases h2 with h2|⟨g,cap,cur,rfl,h3,h4,h5⟩
 ·exact .inl h2
 ·exact .inr ⟨g,cap,cur,rfl,h3,(hb g rfl).trans h4,h5⟩
theorem KI (l:List Int):∀u∈l.map I,u.oneCell'=true:=by
 intro u hu
 obtain⟨b,_,rfl⟩:=List.mem_map.1 hu
 rfl
theorem FH (base:Nat) (l:List Int) (hl:l.length≤16777216) (hb:base≤w.heap.size):
 ∃r w',(Instr.buildSlice 32 l.length (dy 0 (l.map I)).toArray).run Tryz.prog w=.ok r w'∧aH w w'∧ko base l r w'∧r.ownBlock=some w.heap.size:=by
 have:=jz (P:=Tryz.prog) (w:=w) Tryz.underlying32 FG (l.map I) (KI l) (by simpa using hl) hb
 simp only[List.length_map] at this
 obtain⟨r,w',h1,h2,h3,h4⟩:=this
 exact⟨r,w',h1,h2,⟨_,h3⟩,h4⟩
end
structure Mv (X:Nat→Prop) (w w':World):Prop where
 os:w'.os=w.os
 tape:w'.tape=w.tape
 output:w'.output=w.output
 size:w.heap.size≤w'.heap.size
 keep:∀k,k<w.heap.size→¬X k→w'.heap[k]? =w.heap[k]?
section
variable {X Y:Nat→Prop} {w w1 w2:World}
theorem Mv.refl (X:Nat→Prop) (w:World):Mv X w w:=⟨rfl,rfl,rfl,Nat.le_refl _,fun _ _ _=>rfl⟩
theorem Mv.trans (h:Mv X w w1) (k:Mv Y w1 w2) (hY:∀n,Y n→n<w.heap.size→X n):Mv X w w2:=
 ⟨k.os.trans h.os,k.tape.trans h.tape,k.output.trans h.output,Nat.le_trans h.size k.size,fun n hn hx=>(k.keep n (Nat.lt_of_lt_of_le hn h.size) (fun hy=>hx (hY n hy hn))).trans (h.keep n hn hx)⟩
theorem Mv.of_ext (h:aH w w1):Mv X w w1:=⟨h.os,h.tape,h.output,h.size,fun _ hn _=>h.heap hn⟩
theorem Mv.of_grown {row:Option Nat} (h:w.grownBy w1 row) (hr:∀k,row=some k→k<w.heap.size→X k):Mv X w w1:=
 ⟨h.os,h.tape,h.output,h.size,fun n hn hx=>h.block n hn (fun e=>hx (hr n e.symm hn))⟩
theorem Mv.ext (h:Mv X w w1) (hX:∀k,X k→w.heap.size≤k):aH w w1:=⟨h.os,h.tape,h.output,h.size,fun n hn=>h.keep n hn fun hx=>by have:=hX n hx;omega⟩
theorem Mv.ext_from {w0:World} (h:Mv X w w1) (h0:aH w0 w) (hX:∀k,X k→w0.heap.size≤k):aH w0 w1:=
 ⟨Eq.trans h.os h0.os,Eq.trans h.tape h0.tape,Eq.trans h.output h0.output,Nat.le_trans h0.size h.size,fun n hn=>(h.keep n (Nat.lt_of_lt_of_le hn h0.size) fun hx=>by have:=hX n hx;omega).trans (h0.heap hn)⟩
theorem Mv.weak (h:Mv X w w1) (hXY:∀k,X k→k<w.heap.size→Y k):Mv Y w w1:=⟨h.os,h.tape,h.output,h.size,fun n hn hy=>h.keep n hn fun hx=>hy (hXY n hx hn)⟩
theorem Mv.blk {g:Nat} {T:TypeId} {l:List Value} (h:Mv X w w1) (hb:bQ g T l w) (hx:¬X g):bQ g T l w1:=(h.keep g hb.lt hx).trans hb
end
end Go.Rl
namespace Go.Rl
open Go.RowKit
mutual
def bZ (X:Nat→Prop) (w:World):Dt→List Value→Prop
 |.int k n,cs=>cs=[.int k n]
 |.bool b,cs=>cs=[.bool b]
 |.str l,cs=>cs=[S l]
 |.sl l,cs=>∃A n c,cs=[.slice A n c]∧l.length=n∧n≤c∧c≤maxLen∧(A=none→c=0)∧(0<n→∃ad xs,A=some ad∧(xs≠[]→¬X ad.block)∧dw w ad xs∧aN X w l xs)
 |.st l,cs=>aN X w l cs
def aN (X:Nat→Prop) (w:World):List Dt→List Value→Prop
 |[],cs=>cs=[]
 |d::ds,cs=>∃c1 c2,cs=c1++c2∧bZ X w d c1∧aN X w ds c2
end
theorem dw.block_lt {w:World} {ad:Addr} {xs:List Value} (h:dw w ad xs) (h0:xs≠[]):ad.block<w.heap.size:=by
 cases xs with
 |nil=>exact absurd rfl h0
 |cons x xs=>
  have:=World.block_lt_of_cell? w _ (h 0 x rfl)
  rwa [iH] at this
theorem Mv.cells {X:Nat→Prop} {w w':World} (hm:Mv X w w') {ad:Addr} {xs:List Value} (h:dw w ad xs) (hx:xs≠[]→¬X ad.block):dw w' ad xs:=fun j u hu=>by
 have hn:xs≠[]:=by rintro rfl;simp at hu
 have hc:=h j u hu
 rw[World.cell?_of_block (hm.keep _ (World.block_lt_of_cell? w _ hc) (by rw[iH];exact hx hn))]
 exact hc
section
variable {X Y:Nat→Prop} {w w':World}
mutual
theorem bZ.rp:∀{d:Dt} {cs:List Value},bZ X w d cs→Rp w d cs
 |.int k n,cs,h=>by simpa only[bZ,Rp] using h
 |.bool b,cs,h=>by simpa only[bZ,Rp] using h
 |.str l,cs,h=>by simpa only[bZ,Rp] using h
 |.sl l,cs,h=>by
  simp only[bZ,Rp] at h⊢
  obtain⟨A,n,c,h1,h2,h3,h4,h5,h6⟩:=h
  refine⟨A,n,c,h1,h2,h3,h4,h5,fun hn=>?_⟩
  obtain⟨ad,xs,h7,_,h8,h9⟩:=h6 hn
  exact⟨ad,xs,h7,h8,aN.rp h9⟩
 |.st l,cs,h=>by simp only[bZ,Rp] at h⊢;exact aN.rp h
theorem aN.rp:∀{l:List Dt} {cs:List Value},aN X w l cs→bn w l cs
 |[],cs,h=>by simpa only[aN,bn] using h
 |d::l,cs,h=>by
  simp only[aN,bn] at h⊢
  obtain⟨c1,c2,h0,h1,h2⟩:=h
  exact⟨c1,c2,h0,bZ.rp h1,aN.rp h2⟩
end
mutual
theorem Rp.x:∀{d:Dt} {cs:List Value},Rp w d cs→bZ (fun k=>w.heap.size≤k) w d cs
 |.int k n,cs,h=>by simpa only[bZ,Rp] using h
 |.bool b,cs,h=>by simpa only[bZ,Rp] using h
 |.str l,cs,h=>by simpa only[bZ,Rp] using h
 |.sl l,cs,h=>by
  simp only[bZ,Rp] at h⊢
  obtain⟨A,n,c,h1,h2,h3,h4,h5,h6⟩:=h
  refine⟨A,n,c,h1,h2,h3,h4,h5,fun hn=>?_⟩
  obtain⟨ad,xs,h7,h8,h9⟩:=h6 hn
  exact⟨ad,xs,h7,fun h0=>Nat.not_le.2 (h8.block_lt h0),h8,bn.x h9⟩
 |.st l,cs,h=>by simp only[bZ,Rp] at h⊢;exact bn.x h
theorem bn.x:∀{l:List Dt} {cs:List Value},bn w l cs→aN (fun k=>w.heap.size≤k) w l cs
 |[],cs,h=>by simpa only[aN,bn] using h
 |d::l,cs,h=>by
  simp only[aN,bn] at h⊢
  obtain⟨c1,c2,h0,h1,h2⟩:=h
  exact⟨c1,c2,h0,Rp.x h1,bn.x h2⟩
end
mutual
theorem bZ.mv (hm:Mv X w w') (hY:∀k,Y k→X k∨w.heap.size≤k):∀{d:Dt} {cs:List Value},bZ X w d cs→bZ Y w' d cs
 |.int k n,cs,h=>by simpa only[bZ] using h
 |.bool b,cs,h=>by simpa only[bZ] using h
 |.str l,cs,h=>by simpa only[bZ] using h
 |.sl l,cs,h=>by
  simp only[bZ] at h⊢
  obtain⟨A,n,c,h1,h2,h3,h4,h5,h6⟩:=h
  refine⟨A,n,c,h1,h2,h3,h4,h5,fun hn=>?_⟩
  obtain⟨ad,xs,h7,h8,h9,h10⟩:=h6 hn
  refine⟨ad,xs,h7,fun h0 hy=>?_,hm.cells h9 h8,aN.mv hm hY h10⟩
  rcases hY _ hy with hx|hx
  ·exact h8 h0 hx
  ·have:=h9.block_lt h0;omega
 |.st l,cs,h=>by simp only[bZ] at h⊢;exact aN.mv hm hY h
theorem aN.mv (hm:Mv X w w') (hY:∀k,Y k→X k∨w.heap.size≤k):∀{l:List Dt} {cs:List Value},aN X w l cs→aN Y w' l cs
 |[],cs,h=>by simpa only[aN] using h
 |d::l,cs,h=>by
  simp only[aN] at h⊢
  obtain⟨c1,c2,h0,h1,h2⟩:=h
  exact⟨c1,c2,h0,bZ.mv hm hY h1,aN.mv hm hY h2⟩
end
theorem bZ.weak {d:Dt} {cs:List Value} (h:bZ X w d cs) (hY:∀k,Y k→X k∨w.heap.size≤k):bZ Y w d cs:=h.mv (Mv.refl X w) hY
theorem aN.weak {d:List Dt} {cs:List Value} (h:aN X w d cs) (hY:∀k,Y k→X k∨w.heap.size≤k):aN Y w d cs:=h.mv (Mv.refl X w) hY
theorem bZ.ext {d:Dt} {cs:List Value} (h:bZ X w d cs) (hx:aH w w'):bZ X w' d cs:=bZ.mv (Mv.of_ext hx) (fun _ h=>.inl h) h
theorem aN.ext {d:List Dt} {cs:List Value} (h:aN X w d cs) (hx:aH w w'):aN X w' d cs:=aN.mv (Mv.of_ext hx) (fun _ h=>.inl h) h
theorem bZ.len {d:Dt} {cs:List Value} (h:bZ X w d cs):cs.length=d.size:=h.rp.len
theorem aN.len {l:List Dt} {cs:List Value} (h:aN X w l cs):cs.length=Dt.sizeAll l:=h.rp.len
theorem aN.nil:aN X w [] []:=by simp only[aN]
theorem aN.cons {d:Dt} {l:List Dt} {a b:List Value} (h:bZ X w d a) (h':aN X w l b):aN X w (d::l) (a++b):=by simp only[aN];exact⟨a,b,rfl,h,h'⟩
theorem aN.append {l m:List Dt}:∀{a b:List Value},aN X w l a→aN X w m b→aN X w (l++m) (a++b):=by
 induction l with
 |nil=>intro a b h h';simp only[aN] at h;subst h;exact h'
 |cons d l ih=>
  intro a b h h'
  simp only[aN] at h
  obtain⟨c1,c2,rfl,h1,h2⟩:=h
  rw[List.append_assoc]
  exact aN.cons h1 (ih h2 h')
theorem bZ.nilSl:bZ X w (.sl []) [.slice none 0 0]:=by
 simp only[bZ]
 exact⟨none,0,0,rfl,rfl,Nat.le_refl _,Nat.zero_le _,fun _=>rfl,fun h=>by omega⟩
theorem bZ.ofOwn {base sz n:Nat} {e:TypeId} {l:List Dt} {v:Value} {xs:List Value} (h:w.ownsRow base e sz v n xs) (ha:aN X w l xs) (hs:∀d∈l,d.size=sz) (h0:0<sz) (hX:∀k,v.ownBlock=some k→¬X k):bZ X w (.sl l) [v]:=by
 have hl:=ha.len
 rw[cy hs,h.1] at hl
 have hn:=Nat.eq_of_mul_eq_mul_right h0 hl
 obtain⟨A,n',c,rfl,h3,h4,h5,h6,h7⟩:=Sl.of_own h
 simp only[bZ]
 have hn':n'=n:=Nat.eq_of_mul_eq_mul_right h0 (h5.symm.trans h.1)
 subst hn'
 refine⟨A,n',c,rfl,hn.symm,h3,h4,h7,fun hp=>?_⟩
 obtain⟨ad,rfl,hc⟩:=h6 hp
 exact⟨ad,xs,rfl,fun _=>hX _ rfl,hc,ha⟩
end
end Go.Rl
namespace Go.Rl
open Go.ChangeShapes Go.WideShapes Go.ChangeAt Go.RowKit Go.Proofs
open Go.ChangeMaps (open_string shut_string)
section
variable {P:Program} {H:Type} {enc:TypeId×Value→H} {W:World} {base:Nat} {spare:Nat→Bool} {held:Bool} {r:Reach} {b0:Nat} {v:Value} {d:DataW H} {ps:List MemPlace}
theorem Jr {n:Int} (h:(Lit.int .u32 n).wf=true):∃x:UInt32,n=(x.toNat:Int):=by
 have hb:0≤n∧n≤4294967295:=by simpa [Lit.wf,IntKind.min,IntKind.max,IntKind.signed,IntKind.bits] using h
 exact⟨UInt32.ofNat n.toNat,by rw[UInt32.toNat_ofNat'];omega⟩
theorem KJ {n:Int} (h:(Lit.int .i64 n).wf=true): -9223372036854775808≤n∧n≤9223372036854775807:=by
 simpa [Lit.wf,IntKind.min,IntKind.max,IntKind.signed,IntKind.bits] using h
theorem open_I {t:TypeId} (ht:P.underlying t=some (.int .i64)) (ho:Value.okWide P W r b0 t v) (h:DataW.Trod enc P W base spare held t v d ps):∃x,v=I x∧ -9223372036854775808≤x∧x≤9223372036854775807:=by
 obtain⟨n,rfl,_,_,hw⟩:=open_int ht ho h
 exact⟨n,rfl,KJ hw⟩
end
end Go.Rl
namespace Go.Rl
open Go.ChangeShapes Go.WideShapes Go.ChangeAt Go.RowKit
section
variable {P:Program} {t e:TypeId} {d:Dt}
theorem Ty.inv_int {k:IntKind} (hu:P.underlying t=some (.int k)) (h:Ty P t d):∃n,d=.int k n∧(Lit.int k n).wf=true:=by
 cases h with
 |int h hw=>rw[hu] at h;cases h;exact⟨_,rfl,hw⟩
 |bool h=>rw[hu] at h;cases h
 |str h=>rw[hu] at h;cases h
 |sl h=>rw[hu] at h;cases h
 |st h=>rw[hu] at h;cases h
 |arr h=>rw[hu] at h;cases h
theorem Ty.inv_u32 (hu:P.underlying t=some (.int .u32)) (h:Ty P t d):∃x,d=rR x:=by
 obtain⟨n,rfl,hw⟩:=h.inv_int hu
 obtain⟨x,rfl⟩:=Jr hw
 exact⟨x,rfl⟩
theorem Ty.inv_bool (hu:P.underlying t=some .bool) (h:Ty P t d):∃x,d=.bool x:=by
 cases h with
 |int h hw=>rw[hu] at h;cases h
 |bool h=>exact⟨_,rfl⟩
 |str h=>rw[hu] at h;cases h
 |sl h=>rw[hu] at h;cases h
 |st h=>rw[hu] at h;cases h
 |arr h=>rw[hu] at h;cases h
theorem CT {α:Type} {f:α→Dt}:∀(l:List Dt),(∀d∈l,∃x,d=f x)→∃m:List α,l=m.map f
 |[],_=>⟨[],rfl⟩
 |d::l,h=>by
  obtain⟨x,rfl⟩:=h d (by simp)
  obtain⟨m,rfl⟩:=CT l fun e he=>h e (by simp[he])
  exact⟨x::m,rfl⟩
theorem Ty.inv_slD (hu:P.underlying t=some (.slice e)) (h:Ty P t d):∃l,d=.sl l∧∀x∈l,Ty P e x:=by
 cases h with
 |int h hw=>rw[hu] at h;cases h
 |bool h=>rw[hu] at h;cases h
 |str h=>rw[hu] at h;cases h
 |sl h ha=>rw[hu] at h;cases h;exact⟨_,rfl,ha⟩
 |st h=>rw[hu] at h;cases h
 |arr h=>rw[hu] at h;cases h
theorem Ty.inv_sl {α:Type} {f:α→Dt} (hu:P.underlying t=some (.slice e)) (he:∀x,Ty P e x→∃y,x=f y) (h:Ty P t d):∃l:List α,d=.sl (l.map f):=by
 obtain⟨l,rfl,ha⟩:=h.inv_slD hu
 obtain⟨m,rfl⟩:=CT l fun x hx=>he x (ha x hx)
 exact⟨m,rfl⟩
theorem Ty.inv_st {fs:Array Field} (hu:P.underlying t=some (.struct fs)) (h:Ty P t d):∃l,d=.st l∧l.length=fs.size∧∀(i:Nat) (f:Field) (x:Dt),fs[i]? =some f→l[i]? =some x→Ty P f.type x:=by
 cases h with
 |int h hw=>rw[hu] at h;cases h
 |bool h=>rw[hu] at h;cases h
 |str h=>rw[hu] at h;cases h
 |sl h=>rw[hu] at h;cases h
 |st h h1 h2=>rw[hu] at h;cases h;exact⟨_,rfl,h1,h2⟩
 |arr h=>rw[hu] at h;cases h
def dBs (l:List UInt8):Dt:=.sl (l.map dU8)
def jA (l:List UInt32):Dt:=.sl (l.map rR)
theorem Rp.bts {w:World} {l:List UInt8} {v:Value}:Rp w (dBs l) [v]↔cK l v w:=Rp.bytes
theorem Rp.wds {w:World} {l:List UInt32} {v:Value}:Rp w (jA l) [v]↔bk l v w:=Rp.words
theorem Ty.inv_nat (hu:P.underlying t=some (.slice e)) (he:P.underlying e=some (.int .u32)) (h:Ty P t d):∃l,d=jA l:=h.inv_sl hu fun _ hx=>hx.inv_u32 he
end
section
variable {P:Program} {H:Type} {enc:TypeId×Value→H} {W:World} {base:Nat} {spare:Nat→Bool} {held:Bool} {r:Reach} {b0:Nat} {v:Value} {d:DataW H} {ps:List MemPlace} {t e:TypeId}
theorem Js {ts:List TypeId} (hc:yw P ts=true) (ht:ts.contains t=true) (h:DataW.Trod enc P W base spare held t v d ps):Rp W (en d) v.cells.toList∧Ty P t (en d):=by
 obtain⟨fuel,hf⟩:=h
 exact wQ hc fuel t _ (d,ps) (by simpa using ht) hf
theorem KK {ts:List TypeId} {fs:Array Field} (hc:yw P ts=true) (ht:ts.contains t=true) (hu:P.underlying t=some (.struct fs)) (ho:Value.okWide P W r b0 t v) (h:DataW.Trod enc P W base spare held t v d ps):∃cs:List Value,v=.agg cs.toArray∧Rp W (en d) cs∧Ty P t (en d):=by
 obtain⟨cs,rfl,_⟩:=okWide_struct hu ho
 obtain⟨h1,h2⟩:=Js hc ht h
 exact⟨cs.toList,rfl,h1,h2⟩
end
end Go.Rl
namespace Go.Rl
def val:List UInt32→Nat
 |[]=>0
 |x::l=>x.toNat+4294967296*val l
def tr:List UInt32→List UInt32
 |[]=>[]
 |x::l=>match tr l with
  |[]=>if x=0 then[] else[x]
  |y::m=>x::y::m
def HM:Nat→Nat→List UInt32
 |0,_=>[]
 |f+1,n=>if n=0 then[] else UInt32.ofNat (n%4294967296)::HM f (n/4294967296)
def lb (n:Nat):List UInt32:=HM n n
theorem FI:∀(f g n:Nat),n≤f→n≤g→HM f n=HM g n
 |0,0,n,_,_=>rfl
 |0,g+1,n,h,_=>by simp[HM,show n=0 by omega]
 |f+1,0,n,_,h=>by simp[HM,show n=0 by omega]
 |f+1,g+1,n,h1,h2=>by
  simp only[HM]
  split
  ·rfl
  ·rw[FI f g (n/4294967296) (by omega) (by omega)]
theorem gq:lb 0=[]:=rfl
theorem pW {n:Nat} (h:0<n):lb n=UInt32.ofNat (n%4294967296)::lb (n/4294967296):=by
 obtain⟨m,rfl⟩:∃m,n=m+1:=⟨n-1,by omega⟩
 show HM (m+1) (m+1)=_
 simp only[HM]
 rw[if_neg (by omega),FI m ((m+1)/4294967296) _ (by omega) (Nat.le_refl _)]
 rfl
theorem cV (x:UInt32):x.toNat<4294967296:=x.toNat_lt
theorem rT {n:Nat} (h:n<4294967296):(UInt32.ofNat n).toNat=n:=by rw[UInt32.toNat_ofNat'];omega
theorem mn {x y:UInt32} (h:x.toNat=y.toNat):x=y:=UInt32.toNat_inj.1 h
theorem Jt {x:UInt32} (h:x≠0):0<x.toNat:=by
 rcases Nat.eq_zero_or_pos x.toNat with h0|h0
 ·exact absurd (mn (y:=0) h0) h
 ·exact h0
theorem bV (n:Nat):val (lb n)=n:=by
 induction n using Nat.strongRecOn with
 |ind n ih=>
  rcases Nat.eq_zero_or_pos n with rfl|h
  ·rfl
  ·rw[pW h,val,ih _ (by omega),rT (by omega)]
   omega
theorem eo:∀(l m:List UInt32),val (l++m)=val l+4294967296^l.length*val m
 |[],m=>by simp[val]
 |x::l,m=>by
  rw[List.cons_append,val,eo l m,val,List.length_cons,Nat.pow_succ,Nat.mul_add,←Nat.mul_assoc,Nat.mul_comm (4294967296^l.length),Nat.add_assoc]
theorem cE:∀(l:List UInt32),val l<4294967296^l.length
 |[]=>by simp[val]
 |x::l=>by
  have:=cE l
  have hx:=cV x
  rw[val,List.length_cons,Nat.pow_succ]
  have:4294967296*(val l+1)≤4294967296*4294967296^l.length:=Nat.mul_le_mul_left _ this
  rw[Nat.mul_comm (4294967296^l.length)]
  omega
theorem rU (n:Nat):val (List.replicate n 0)=0:=by
 induction n with
 |zero=>rfl
 |succ n ih=>rw[List.replicate_succ,val,ih];rfl
theorem mp (x:UInt32):val [x]=x.toNat:=by simp[val]
theorem cc {l:List UInt32} {i:Nat} (h:i<l.length):val (l.take (i+1))=val (l.take i)+4294967296^i*l[i].toNat:=by
 rw[List.take_succ_eq_append_getElem h,eo,mp,List.length_take,Nat.min_eq_left (by omega)]
theorem eI {l:List UInt32} {i:Nat} (h:i<l.length):val (l.drop i)=l[i].toNat+4294967296*val (l.drop (i+1)):=by
 rw[List.drop_eq_getElem_cons h,val]
theorem ek (l:List UInt32) (i:Nat) (h:i≤l.length):val l=val (l.take i)+4294967296^i*val (l.drop i):=by
 conv=>lhs;rw[←List.take_append_drop i l]
 rw[eo,List.length_take,Nat.min_eq_left h]
theorem FJ:∀(l:List UInt32),val (tr l)=val l
 |[]=>rfl
 |x::l=>by
  have ih:=FJ l
  rw[tr]
  split
  ·rename_i h
   rw[h] at ih
   split
   ·rename_i hx;subst hx;simp[val,←ih]
   ·simp[val,←ih]
  ·rename_i y m h
   rw[h] at ih
   rw[val,ih,val]
theorem I2:∀(l:List UInt32),tr l=lb (val l)
 |[]=>rfl
 |x::l=>by
  have ih:=I2 l
  have hx:=cV x
  rw[tr,val]
  rcases Nat.eq_zero_or_pos (val l) with h|h
  ·rw[h,gq] at ih
   rw[ih,h,Nat.mul_zero,Nat.add_zero]
   by_cases h0:x=0
   ·subst h0;simp[gq]
   ·have:=Jt h0
    have e:UInt32.ofNat x.toNat=x:=mn (by rw[rT hx])
    simp only[if_neg h0]
    rw[pW this,Nat.mod_eq_of_lt hx,Nat.div_eq_of_lt hx,gq,e]
  ·rw[pW (n:=x.toNat+4294967296*val l) (by omega),Nat.add_mul_mod_self_left,Nat.add_mul_div_left _ _ (by omega),Nat.div_eq_of_lt hx,Nat.zero_add,Nat.mod_eq_of_lt hx,←ih]
   have hne:tr l≠[]:=fun h0=>by
    have:=FJ l
    rw[h0,val] at this
    omega
   split
   ·rename_i h0;exact absurd h0 hne
   ·rename_i y m h0
    rw[h0]
    congr 1
    exact mn (by rw[rT hx])
theorem CU {x:UInt32} (h:x≠0):∀(l:List UInt32),tr (l++[x])=l++[x]
 |[]=>by simp[tr,h]
 |y::l=>by
  rw[List.cons_append,tr,CU h l]
  cases l<;>rfl
theorem ig {n k:Nat} (h:n<4294967296^k):(lb n).length≤k:=by
 induction k generalizing n with
 |zero=>have:n=0:=by simpa using h
        subst this;simp[gq]
 |succ k ih=>
  rcases Nat.eq_zero_or_pos n with rfl|h0
  ·simp[gq]
  ·rw[pW h0,List.length_cons]
   have:n/4294967296<4294967296^k:=by
    rw[Nat.div_lt_iff_lt_mul (by omega),←Nat.pow_succ];exact h
   have:=ih this
   omega
theorem CV {n:Nat} (h:0<n):4294967296^((lb n).length-1)≤n:=by
 induction n using Nat.strongRecOn with
 |ind n ih=>
  rw[pW h,List.length_cons,Nat.add_sub_cancel]
  rcases Nat.eq_zero_or_pos (n/4294967296) with h0|h0
  ·rw[h0,gq];exact h
  ·have h1:=ih (n/4294967296) (by omega) h0
   have h2:0<(lb (n/4294967296)).length:=by rw[pW h0];simp
   obtain⟨k,hk⟩:∃k,(lb (n/4294967296)).length=k+1:=⟨_,(Nat.sub_add_cancel h2).symm⟩
   rw[hk,Nat.add_sub_cancel] at h1
   rw[hk,Nat.pow_succ]
   omega
theorem gO {n:Nat}:(lb n).length=0↔n=0:=by
 constructor
 ·intro h
  rcases Nat.eq_zero_or_pos n with h0|h0
  ·exact h0
  ·rw[pW h0] at h;simp at h
 ·rintro rfl;rfl
theorem FK {n m:Nat} (h:lb n=lb m):n=m:=by rw[←bV n,←bV m,h]
theorem yx {n m:Nat} (h:(lb n).length<(lb m).length):n<m:=by
 have h1:=cE (lb n)
 rw[bV] at h1
 have hm:0<m:=by
  rcases Nat.eq_zero_or_pos m with rfl|h0
  ·simp[gq] at h
  ·exact h0
 have h2:=CV hm
 exact Nat.lt_of_lt_of_le h1 (Nat.le_trans (Nat.pow_le_pow_right (by omega) (by omega)) h2)
theorem yy {n i:Nat} (h:i+1=(lb n).length):0<((lb n)[i]'(by omega)).toNat:=by
 have hn:0<n:=by
  rcases Nat.eq_zero_or_pos n with h0|h0
  ·subst h0;simp[gq] at h
  ·exact h0
 have h1:=CV hn
 have h2:val (lb n)=val ((lb n).take i)+4294967296^i*((lb n)[i]'(by omega)).toNat:=by
  rw[←cc (by omega),h,List.take_length]
 rw[bV] at h2
 have h3:=cE ((lb n).take i)
 rw[List.length_take,Nat.min_eq_left (by omega)] at h3
 rw[←h,Nat.add_sub_cancel] at h1
 rcases Nat.eq_zero_or_pos ((lb n)[i]'(by omega)).toNat with h0|h0
 ·rw[h0] at h2;omega
 ·exact h0
def rV (x y:Nat):Int:=if x<y then-1 else if y<x then 1 else 0
theorem CW {l m:List UInt32} {i:Nat} (hl:i<l.length) (hm:i<m.length) (hd:l.drop (i+1)=m.drop (i+1)) (h:l[i].toNat<m[i].toNat):val l<val m:=by
 rw[ek l (i+1) (by omega),ek m (i+1) (by omega),hd,cc hl,cc hm]
 have h1:=cE (l.take i)
 rw[List.length_take,Nat.min_eq_left (by omega)] at h1
 have h2:4294967296^i*(l[i].toNat+1)≤4294967296^i*m[i].toNat:=Nat.mul_le_mul_left _ h
 rw[Nat.mul_add,Nat.mul_one] at h2
 omega
theorem KM (i:Nat):0<4294967296^i:=Nat.pow_pos (by omega)
end Go.Rl
namespace Go.Rl
open Go.RowKit Go.Proofs
section
variable {w:World} {t:TypeId}
theorem FM (ht:Tryz.prog.underlying t=some (.slice 149)) {l:List UInt32} {v:Value} (h:bk l v w) {lo:Nat} (h2:lo≤l.length) (kl:IntKind):
 ∃r,(∀w':World,(Instr.sliceAt t v (some (.int kl lo)) none none).run Tryz.prog w'=.ok r w')∧bk (l.drop lo) r w:=by
 obtain⟨r,h3,h4⟩:=pL (P:=Tryz.prog) ht dW h (lo:=lo) (by simpa using h2) (by omega) kl
 exact⟨r,h3,by simpa [bk,List.map_drop] using h4⟩
theorem uh (ht:Tryz.prog.underlying t=some (.slice 149)) {l:List UInt32} {v:Value} (h:bk l v w) {hi:Nat} (h2:hi≤l.length) (kh:IntKind):
 ∃r,(∀w':World,(Instr.sliceAt t v none (some (.int kh hi)) none).run Tryz.prog w'=.ok r w')∧bk (l.take hi) r w:=by
 obtain⟨r,h3,h4⟩:=pO (P:=Tryz.prog) ht dW h (hi:=hi) (by simpa using h2) (by omega) kh
 exact⟨r,h3,by simpa [bk,List.map_take] using h4⟩
theorem wU (ht:Tryz.prog.underlying t=some (.slice 149)) (base:Nat) {n:Nat} (hn:n≤70368744177664) (hb:base≤w.heap.size):
 ∃r w',(Instr.makeSlice t (I (n:Int)) (I (n:Int))).run Tryz.prog w=.ok r w'∧aH w w'∧dV base (List.replicate n 0) r w'∧r.ownBlock=some w.heap.size:=by
 obtain⟨i,hi,hz,hs,hby⟩:=info_parts ue
 have hrun:=run_make (P:=Tryz.prog) w t 149 i _ ht hi hz .i64 .i64 (n:Int) (n:Int) (by omega) (by omega) (by rw[hby];omega) (by omega)
 refine⟨_,_,hrun,aH.new _ _,⟨n,?_⟩,rfl⟩
 have:=World.ownsRow_lit (base:=base) (e:=149) (size:=1) w (madeCells (Value.int .u32 0).cells ((n:Int).toNat*i.size)) n hb (by unfold maxLen;omega) (by rw[hs];simp[madeCells])
 have e:(madeCells (Value.int .u32 0).cells ((n:Int).toNat*i.size)).toList=(List.replicate n (0:UInt32)).map bE:=by
  rw[hs]
  have h2:=toList_madeCells_one (.int .u32 0) n
  simp only[Value.cells,Int.toNat_natCast,Nat.mul_one,List.map_replicate] at h2⊢
  rw[h2];rfl
 rw[e] at this
 simpa using this
theorem dV.setW (ht:Tryz.prog.underlying t=some (.slice 149)) {base:Nat} {l:List UInt32} {v:Value} (h:dV base l v w) {i:Nat} (hi:i<l.length) (x:UInt32):
 ∃g w',(∀u:World,(Instr.indexAt t v (I (i:Int))).run Tryz.prog u=.ok (.pointer (some ⟨g,i,none⟩)) u)∧(Instr.storeAt 149 (.pointer (some ⟨g,i,none⟩)) (bE x)).run Tryz.prog w=.ok () w'∧
  dV base (l.set i x) v w'∧w.grownBy w' (some g)∧base≤g∧w.cell? ⟨g,i,none⟩=some (bE l[i])∧v.ownBlock=some g:=by
 obtain⟨n,hn⟩:=id h
 have hnl:l.length=n:=by simpa using hn.1
 obtain⟨ad,hix,hcell⟩:=cQ ht h.wds hi .i64
 rcases hn.2 with⟨_,h0⟩|⟨g,cap,cur,rfl,hb,hg,hnc,hcm,hcs,htk⟩
 ·omega
 ·have hlt:i<cur.size:=by omega
  have had:ad=⟨g,i,none⟩:=by
   have h1:=hix w
   obtain⟨ti,hi',hs⟩:=Option.map_eq_some_iff.1 dW
   have hin:i<n:=by omega
   have h2:(Instr.indexAt t (.slice (some ⟨g,0,none⟩) n cap) (.int .i64 i)).run Tryz.prog w=.ok (.pointer (some ⟨g,i,none⟩)) w:=by
    simp[Instr.indexAt,asIntOf,run_underlying ht,hin,sizeOf,typeInfo,hi',hs,pJ]
   rw[h2] at h1
   simp at h1
   exact h1.symm
  subst had
  refine⟨g,w.setCell ⟨g,i,none⟩ (bE x),hix,el dW E hg hlt,⟨n,?_,.inr ⟨g,cap,cur.setIfInBounds i (bE x),rfl,hb,ja hg i (bE x),hnc,hcm,by simpa using hcs,?_⟩⟩,bi w g i _,hb,hcell,rfl⟩
  ·simpa using hnl
  ·rw[List.map_set,←htk,Array.toList_setIfInBounds,List.take_set]
theorem dV.kept {base:Nat} {l:List UInt32} {v:Value} {w':World} (h:dV base l v w) {row:Option Nat} (hg:w.grownBy w' row) (hne:v.ownBlock=none∨v.ownBlock≠row):dV base l v w':=
 h.elim fun n h=>⟨n,World.ownsRow.kept h hg hne⟩
theorem dV.ge {base:Nat} {l:List UInt32} {v:Value} (h:dV base l v w):∀k,v.ownBlock=some k→base≤k:=fun k hk=>h.elim fun _ h=>(World.ownsRow.lt h k hk).1
theorem dV.lt {base:Nat} {l:List UInt32} {v:Value} (h:dV base l v w):∀k,v.ownBlock=some k→k<w.heap.size:=fun k hk=>h.elim fun _ h=>(World.ownsRow.lt h k hk).2
theorem DL {P:Program} {w:World} {t t2 e e2 ty:TypeId} (ht:P.underlying t=some (.slice e)) (ht2:P.underlying t2=some (.slice e2)) (a b:Value):(Builtin.append_ #[t,t2] ty #[a,b]).run P w=(Builtin.append_ #[t,t] ty #[a,b]).run P w:=by
 unfold Builtin.append_
 cases a<;>simp[Sem.run_bind,run_underlying ht,run_underlying ht2]
theorem CX {base:Nat} {t2:TypeId} (ht:Tryz.prog.underlying t=some (.slice 149)) (ht2:Tryz.prog.underlying t2=some (.slice 149)) {l m:List UInt32} {v x:Value} {ty:TypeId} (hv:dV base l v w) (hx:bk m x w) (hb:l.length+m.length≤35184372088832) (hbase:base≤w.heap.size):
 ∃r w',(Builtin.append_ #[t,t2] ty #[v,x]).run Tryz.prog w=.ok r w'∧dV base (l++m) r w'∧gR w w' v r:=by
 obtain⟨r,w',h1,h2⟩:=kV (ty:=ty) ht hv hx hb hbase
 exact⟨r,w',(DL ht ht2 v x).trans h1,h2⟩
theorem HN {P:Program} {t ty:TypeId} {a b:Nat}:(Builtin.max_ #[t,t] ty #[I (a:Int),I (b:Int)]).run P w=.ok (I ((max a b:Nat):Int)) w:=by
 have:(Builtin.max_ #[t,t] ty #[I (a:Int),I (b:Int)])=pure (.int .i64 (if (b:Int)>(a:Int) then(b:Int) else(a:Int))):=rfl
 rw[this,Sem.run_pure]
 congr 2
 split<;>omega
structure PW (g:Nat) (pre:List Value) (L:List UInt32) (post:List Value) (v:Value) (w:World):Prop where
 isv:∃c,v=.slice (some ⟨g,pre.length,none⟩) L.length c∧L.length≤c∧c≤maxLen
 row:w.heap[g]? =some (.cells (pre++(L.map bE++post)).toArray 149 (0,0))
theorem PW.cell {g:Nat} {pre:List Value} {L:List UInt32} {post:List Value} {v:Value} (h:PW g pre L post v w) {i:Nat} (hi:i<L.length):w.cell? ⟨g,pre.length+i,none⟩=some (bE L[i]):=by
 rw[cell_of_row w g _ _ _ _ h.row,List.getElem?_toArray,List.getElem?_append_right (by omega),Nat.add_sub_cancel_left,List.getElem?_append_left (by simpa using hi),List.getElem?_map,List.getElem?_eq_getElem hi]
 rfl
theorem PW.wds {g:Nat} {pre:List Value} {L:List UInt32} {post:List Value} {v:Value} (h:PW g pre L post v w):bk L v w:=by
 obtain⟨c,rfl,h1,h2⟩:=h.isv
 refine⟨_,_,_,rfl,h1,h2,by simp,fun _=>⟨_,rfl,fun j u hu=>?_⟩,fun h=>by cases h⟩
 rw[List.getElem?_map,Option.map_eq_some_iff] at hu
 obtain⟨x,hx,rfl⟩:=hu
 obtain⟨hj,rfl⟩:=List.getElem?_eq_some_iff.1 hx
 rw[pJ]
 exact h.cell hj
theorem PW.setP (ht:Tryz.prog.underlying t=some (.slice 149)) {g:Nat} {pre:List Value} {L:List UInt32} {post:List Value} {v:Value} (h:PW g pre L post v w) {i:Nat} (hi:i<L.length) (x:UInt32):
 ∃w',(∀u:World,(Instr.indexAt t v (I (i:Int))).run Tryz.prog u=.ok (.pointer (some ⟨g,pre.length+i,none⟩)) u)∧(Instr.storeAt 149 (.pointer (some ⟨g,pre.length+i,none⟩)) (bE x)).run Tryz.prog w=.ok () w'∧
  PW g pre (L.set i x) post v w'∧w.grownBy w' (some g)∧w.cell? ⟨g,pre.length+i,none⟩=some (bE L[i]):=by
 obtain⟨c,rfl,h1,h2⟩:=h.isv
 obtain⟨ti,hti,hs⟩:=Option.map_eq_some_iff.1 dW
 refine⟨w.setCell ⟨g,pre.length+i,none⟩ (bE x),fun u=>?_,el dW E h.row (by simp;omega),⟨⟨c,by simp,by simpa using h1,h2⟩,?_⟩,bi w g _ _,h.cell hi⟩
 ·show(Instr.indexAt t (.slice (some ⟨g,pre.length,none⟩) L.length c) (.int .i64 (i:Int))).run Tryz.prog u=_
  simp[Instr.indexAt,asIntOf,run_underlying ht,hi,sizeOf,typeInfo,hti,hs,pJ]
 ·have:=ja h.row (pre.length+i) (bE x)
  rw[this,List.setIfInBounds_toArray,List.set_append_right _ _ (by omega),Nat.add_sub_cancel_left,List.set_append_left _ _ (by simpa using hi),List.map_set]
theorem bk.away {l:List UInt32} {v:Value} {g:Nat} {w':World} (h:bk l v w) (ha:v.ownBlock=none∨v.ownBlock≠some g) (hg:w.grownBy w' (some g)):bk l v w':=by
 obtain⟨A,n,c,rfl,h1,h2,h3,h4,h5⟩:=h
 refine⟨A,n,c,rfl,h1,h2,h3,fun hn=>?_,h5⟩
 obtain⟨ad,rfl,hc⟩:=h4 hn
 refine⟨ad,rfl,fun j u hu=>?_⟩
 have hcell:=hc j u hu
 have hb:ad.block≠g:=by
  rcases ha with ha|ha
  ·simp[Value.ownBlock] at ha
  ·intro e;exact ha (by simp[Value.ownBlock,e])
 have hlt:=World.block_lt_of_cell? w (ad.add j) hcell
 refine(World.cell?_of_block (hg.block _ hlt fun e=>hb ?_)).trans hcell
 rw[iH] at e
 exact Option.some.inj e
theorem wV (ht:Tryz.prog.underlying t=some (.slice 149)) {l:List UInt32} {v:Value} (h:bk l v w) {hi:Nat} (h2:hi≤l.length) (kh:IntKind):
 ∃r,(∀w':World,(Instr.sliceAt t v none (some (.int kh hi)) none).run Tryz.prog w'=.ok r w')∧bk (l.take hi) r w∧r.ownBlock=v.ownBlock:=by
 obtain⟨r,h3,h4⟩:=uh ht h h2 kh
 refine⟨r,h3,h4,?_⟩
 obtain⟨A,n,c,rfl,hnc,_,hl,_,_⟩:=h
 have h5:=h3 w
 obtain⟨ti,hti,hs⟩:=Option.map_eq_some_iff.1 dW
 have hhi:hi≤n:=by simp at hl;omega
 have hb:(Instr.sliceBounds true n c none (some (.int kh hi)) none).run Tryz.prog w=.ok (0,hi,c) w:=by
  have a1:=run_sliceBound (P:=Tryz.prog) (w:=w) kh (hi:Int) c .sliceAcap (by omega) (by omega)
  simp only[Int.toNat_natCast] at a1
  simp[Instr.sliceBounds,a1]
 simp[Instr.sliceAt,Instr.slice,run_underlying ht,hb,sizeOf,typeInfo,hti,hs] at h5
 subst h5
 cases A with
 |none=>split<;>rfl
 |some a=>split<;>simp[Value.ownBlock,iH]
theorem dV.off {base:Nat} {l:List UInt32} {v:Value} (h:dV base l v w) {g:Nat} (hg:g<base):v.ownBlock≠some g:=fun he=>by
 have:=h.ge g he
 omega
theorem dV.low {base base':Nat} {l:List UInt32} {v:Value} (h:dV base l v w) (hb:base'≤base):dV base' l v w:=h.elim fun n h=>⟨n,ir h fun k hk=>Nat.le_trans hb (World.ownsRow.lt h k hk).1⟩
theorem dV.pw {base:Nat} {L:List UInt32} {v:Value} (h:dV base L v w) (h0:0<L.length):∃g sp,base≤g∧v.ownBlock=some g∧PW g [] L sp v w:=by
 obtain⟨n,h⟩:=h
 have hnl:L.length=n:=by simpa using h.1
 rcases h.2 with⟨_,h1⟩|⟨g,cap,cur,rfl,hb,hg,hnc,hcm,hcs,htk⟩
 ·omega
 ·refine⟨g,cur.toList.drop (n*1),hb,rfl,⟨cap,by rw[hnl];rfl,by omega,hcm⟩,?_⟩
  rw[List.nil_append,←htk,List.take_append_drop]
  exact hg
theorem PW.ext {g:Nat} {pre:List Value} {L:List UInt32} {post:List Value} {v:Value} {w':World} (h:PW g pre L post v w) (hx:aH w w'):PW g pre L post v w':=⟨h.isv,hx.heap_some h.row⟩
theorem PW.lt {g:Nat} {pre:List Value} {L:List UInt32} {post:List Value} {v:Value} (h:PW g pre L post v w):g<w.heap.size:=(Array.getElem?_eq_some_iff.1 h.row).1
theorem PW.kept {g:Nat} {pre:List Value} {L:List UInt32} {post:List Value} {v:Value} {w':World} (h:PW g pre L post v w) {row:Option Nat} (hg:w.grownBy w' row) (hne:some g≠row):PW g pre L post v w':=⟨h.isv,(hg.block g h.lt hne).trans h.row⟩
theorem Ju (ht:Tryz.prog.underlying t=some (.slice 149)) {g:Nat} {L:List UInt32} {sp:List Value} {v:Value} (h:PW g [] L sp v w) {lo hi:Nat} (h1:lo<hi) (h2:hi≤L.length) (kl kh:IntKind):
 ∃r,(∀w':World,(Instr.sliceAt t v (some (.int kl lo)) (some (.int kh hi)) none).run Tryz.prog w'=.ok r w')∧PW g ((L.take lo).map bE) ((L.take hi).drop lo) ((L.drop hi).map bE++sp) r w:=by
 obtain⟨c,rfl,h3,h4⟩:=h.isv
 obtain⟨i,hi',hs⟩:=Option.map_eq_some_iff.1 dW
 have hb:∀w:World,(Instr.sliceBounds true L.length c (some (.int kl lo)) (some (.int kh hi)) none).run Tryz.prog w=.ok (lo,hi,c) w:=fun w=>by
  have a1:=run_sliceBound (P:=Tryz.prog) (w:=w) kh (hi:Int) c .sliceAcap (by omega) (by omega)
  have a2:=run_sliceBound (P:=Tryz.prog) (w:=w) kl (lo:Int) hi .sliceB (by omega) (by omega)
  simp only[Int.toNat_natCast] at a1 a2
  simp[Instr.sliceBounds,a1,a2]
 have hne:¬c=lo:=by omega
 refine⟨.slice (some ⟨g,lo,none⟩) (hi-lo) (c-lo),fun w'=>?_,⟨c-lo,?_,?_,by omega⟩,?_⟩
 ·simp[Instr.sliceAt,Instr.slice,run_underlying ht,hb,sizeOf,typeInfo,hi',hs,hne,pJ]
 ·simp only[List.length_map,List.length_take,List.length_drop,Nat.min_eq_left h2,Nat.min_eq_left (show lo≤L.length by omega)]
 ·simp only[List.length_take,List.length_drop,Nat.min_eq_left h2];omega
 ·have e:L.take lo++(L.take hi).drop lo=L.take hi:=by
   have:=List.take_append_drop lo (L.take hi)
   rwa [List.take_take,Nat.min_eq_left (by omega)] at this
  have e2:([]:List Value)++(L.map bE++sp)=(L.take lo).map bE++(((L.take hi).drop lo).map bE++((L.drop hi).map bE++sp)):=by
   rw[List.nil_append,←List.append_assoc,←List.append_assoc,←List.map_append,←List.map_append,e,List.take_append_drop]
  rw[h.row,e2]
theorem PW.join {g:Nat} {L F:List UInt32} {sp:List Value} {v r:Value} {lo hi:Nat} {w0:World} (h:PW g [] L sp v w0) (h1:lo≤hi) (h2:hi≤L.length) (hF:F.length=hi-lo) (h3:PW g ((L.take lo).map bE) F ((L.drop hi).map bE++sp) r w):PW g [] (L.take lo++F++L.drop hi) sp v w:=by
 obtain⟨c,rfl,h4,h5⟩:=h.isv
 have e:(L.take lo++F++L.drop hi).length=L.length:=by simp[hF];omega
 refine⟨⟨c,by rw[e],by omega,h5⟩,?_⟩
 rw[h3.row]
 simp only[List.nil_append,List.map_append,List.append_assoc]
end
end Go.Rl
namespace Go.Rl
open Go.RowKit Go.Proofs
theorem dB:aJ Tryz.prog 164:=⟨_,Tryz.func164,by kernel_rfl,rfl⟩
theorem Ae:aJ Tryz.prog 196:=⟨_,Tryz.func196,by kernel_rfl,rfl⟩
theorem mr:aJ Tryz.prog 179:=⟨_,Tryz.func179,by kernel_rfl,rfl⟩
theorem tk:aJ Tryz.prog 136:=⟨_,Tryz.func136,by kernel_rfl,rfl⟩
theorem Af:aJ Tryz.prog 198:=⟨_,Tryz.func198,by kernel_rfl,rfl⟩
theorem ui:aJ Tryz.prog 197:=⟨_,Tryz.func197,by kernel_rfl,rfl⟩
theorem rW:aJ Tryz.prog 138:=⟨_,Tryz.func138,by kernel_rfl,rfl⟩
theorem rX {l:List UInt32} {n:Nat} (h0:0<n) (hn:n≤l.length) (h:l[n-1]'(by omega)=0):val (l.take (n-1))=val (l.take n):=by
 obtain⟨m,rfl⟩:∃m,n=m+1:=⟨n-1,by omega⟩
 simp only[Nat.add_sub_cancel] at h⊢
 rw[cc (by omega),h];simp
theorem lE {l:List UInt32} {n:Nat} (h0:0<n) (hn:n≤l.length) (h:¬l[n-1]'(by omega)=0):lb (val (l.take n))=l.take n:=by
 obtain⟨m,rfl⟩:∃m,n=m+1:=⟨n-1,by omega⟩
 simp only[Nat.add_sub_cancel] at h
 rw[←I2,List.take_succ_eq_append_getElem (by omega),CU h]
theorem tL {l:List UInt32} (h0:0<l.length):l[l.length-1]'(by omega)≠0↔lb (val l)=l:=by
 constructor
 ·intro h
  have:=lE (n:=l.length) h0 (Nat.le_refl _) h
  rwa [List.take_length] at this
 ·intro h h1
  have h2:=rX (n:=l.length) h0 (Nat.le_refl _) h1
  rw[List.take_length] at h2
  have h3:(lb (val l)).length≤l.length-1:=by
   refine ig ?_
   rw[←h2]
   have:=cE (l.take (l.length-1))
   rwa [List.length_take,Nat.min_eq_left (by omega)] at this
  rw[h] at h3
  omega
theorem wW (x:UInt64):(x>>>UInt64.ofNat 32).toNat=x.toNat/4294967296:=by
 rw[UInt64.toNat_shiftRight]
 show x.toNat>>>32=_
 rw[Nat.shiftRight_eq_div_pow]
theorem uj {w:World} {l:List UInt32} {v:Value} (hv:bk l v w):
 Calls Tryz.prog 164 #[v] w (bN fun r w'=>w=w'∧bk (lb (val l)) r w∧(r.ownBlock=none∨r.ownBlock=v.ownBlock)):=by
 refine enter (vs:=[v]) Tryz.func164 E E E ?_
 have hl:=hv.len
 refine af (aa (ac E E (ag (ab (af (aa (ae E E (aV E E (bz Lj hv) (ac E E (ag (ab ?_)))))))))))
 refine af (aG ?_)
 refine ck (α:=Nat) (fun n=>[(0,v),(3,I (n:Int))]) (fun n w'=>w=w'∧n≤l.length∧val (l.take n)=val l) (fun n=>n) (l.length) ⟨rfl,rfl,trivial⟩ ⟨rfl,Nat.le_refl _,by rw[List.take_length]⟩ ?_
 rintro n _ ⟨rfl,hn,hval⟩
 refine af (af (aa (ae E E (al E E E (bT) (ae E E ?_)))))
 refine ci (fun h8=>?_) (fun h8=>?_)
 ·refine ak E (ae E E (ak E (ae E E (ak E (al (r:=I ((n-1:Nat):Int)) E E E (by have e:((n-1:Nat):Int)=(n:Int)-1:=(by omega);rw[e];exact bD (by omega) (by omega)) ?_)))))
  refine ak E ?_
  obtain⟨a12,p12,q12⟩:=cQ Lj hv (i:=(n-1:Nat)) (by omega) .i64
  refine ar E E E (p12 _) (ak E (aj E E (ai Ll E q12) (ak E (al (v:=bE 0) E E E (oZ) (aq E E E ?_)))))
  refine ag (ab ?_)
  refine bu E (fun h15=>?_) (fun h15=>?_)
  ·refine aC (ab (aG (aa (ae E E (al (r:=I ((n-1:Nat):Int)) E E E (by have e:((n-1:Nat):Int)=(n:Int)-1:=(by omega);rw[e];exact bD (by omega) (by omega)) ?_)))))
   refine ac E E (ag (aW ?_))
   refine bS (n-1) ⟨rfl,rfl,trivial⟩ ⟨rfl,by omega,by rw[rX (by omega) hn h15];exact hval⟩ (by omega)
  ·refine bc (aK (aK (bf (ab (af (af (aa (ae E E (al E E E (bo) (ag (ab ?_)))))))))))
   refine bu E (fun h19=>?_) (fun h19=>?_)
   ·refine af (aa (ac E E (ag (ab (aw (az (au E E ?_)))))))
    exact⟨_,rfl,rfl,by
     obtain rfl:n=0:=by omega
     rw[←hval];exact bk.nil _,.inl rfl⟩
   ·refine aC (ab (af (aa (ae E E (ae E E ?_)))))
    obtain⟨v22,p22,b22,ob22⟩:=wV Lj hv (hi:=n) hn .i64
    refine dm E E E E E (p22 _) (ac E E (ag (ab (aw (au E E ?_)))))
    exact⟨_,rfl,rfl,by
     first
     |(exfalso;omega)
     |(rw[←hval,lE (by omega) hn h15];exact b22),.inr ob22⟩
 ·refine am E E E (am E E E (am E E E (am E E E (am E E E (am E E E (aI E E E (ag (ab (cN E (bc (aK (aK ?_))))))))))))
  refine bf (ab (af (af (aa (ae E E (al E E E (bo) (ag (ab ?_))))))))
  refine bu E (fun h19=>?_) (fun h19=>?_)
  ·refine af (aa (ac E E (ag (ab (aw (az (au E E ?_)))))))
   exact⟨_,rfl,rfl,by
    obtain rfl:n=0:=by omega
    rw[←hval];exact bk.nil _,.inl rfl⟩
  ·refine aC (ab (af (aa (ae E E (ae E E ?_)))))
   obtain⟨v22,p22,b22,ob22⟩:=wV Lj hv (hi:=n) hn .i64
   refine dm E E E E E (p22 _) (ac E E (ag (ab (aw (au E E ?_)))))
   exact⟨_,rfl,rfl,by
    first
    |(exfalso;omega)
    |(rw[←hval,lE (by omega) hn h15];exact b22),.inr ob22⟩
theorem dT {w:World} {l:List UInt32} {v:Value} (hv:bk l v w):
 Calls Tryz.prog 164 #[v] w (bN fun r w'=>w=w'∧bk (lb (val l)) r w):=
 (uj hv).mono fun _ _ ⟨r,he,h1,h2,_⟩=>⟨r,he,h1,h2⟩
theorem Ag {w:World} {l:List UInt32} {v:Value} (hv:bk l v w) (hl:l.length≤17592186044416):
 Calls Tryz.prog 196 #[v] w (bN fun r w'=>aH w w'∧dV w.heap.size l r w'):=by
 obtain⟨A,n,c,rfl,hnc,hcm,hll,hc,hnone⟩:=id hv
 refine enter (vs:=[.slice A n c]) Tryz.func196 E E E ?_
 refine af (aa (ac E E (ag (ab (af (af (aa (ae E E (al E E E (yu Lj) (ag (ab ?_)))))))))))
 refine fJ E (fun h4=>?_) (fun h4=>?_)
 ·refine af (aa (ac E E (ag (ab (aw (az (au E E ?_)))))))
  have hA:A=none:=by simpa using h4
  have:=hnone hA
  have hnil:l=[]:=List.eq_nil_of_length_eq_zero (by simp at hll;omega)
  subst hnil
  exact⟨_,rfl,aH.refl _,dV.nil _ _⟩
 ·refine aC (ab (af (aa ?_)))
  obtain⟨v5,w5,hr5,x5,o5,ob5⟩:=jd Tryz.underlying44 (w:=w) w.heap.size [] (by simp) (Nat.le_refl _)
  refine aF (vs:=[]) E E hr5 (ae E E ?_)
  obtain⟨v7,w7,hr7,o7,g7⟩:=kV Tryz.underlying44 (ty:=44) o5 (hv.ext x5) (by simp;omega) (x5).size
  have x7:=aH.of_grew (x5) g7 o5.ge
  refine aT E E hr7 (ac E E (ag (ab (aw (au E E ?_)))))
  exact⟨_,rfl,x7,by simpa using o7⟩
theorem mw {w:World} {l:List UInt32} {v:Value} (hv:bk l v w) (hl:l.length≤17592186044416):
 Calls Tryz.prog 179 #[v] w (bN fun r w'=>aH w w'∧bk (lb (val l)) r w'):=by
 refine enter (vs:=[v]) Tryz.func179 E E E ?_
 have hll:=ig (cE l)
 refine af (aa (ac E E (ag (ab (af (aa (ae E E (an dB E E (dT hv) ?_))))))))
 rintro v4 _ ⟨rfl,b4⟩
 refine an Ae E E (Ag b4 (by omega)) ?_
 rintro v5 w5 ⟨x5,o5⟩
 refine ac E E (ag (ab (aw (au E E ?_))))
 exact⟨_,rfl,x5,o5.wds⟩
theorem tl {w:World} {l:List UInt32} {v:Value} (hv:bk l v w):
 Calls Tryz.prog 136 #[v] w (bN fun r w'=>w=w'∧r=B (decide (lb (val l)=l))):=by
 refine enter (vs:=[v]) Tryz.func136 E E E ?_
 have hl:=hv.len
 refine af (aa (ac E E (ag (ab (af (aa (ae E E (aV E E (bz Lj hv) (al E E E (bo) ?_)))))))))
 refine ae E E ?_
 refine ci (fun h6=>?_) (fun h6=>?_)
 ·refine am E E E (am E E E (am E E E (am E E E (am E E E (am E E E (am E E E (aq E E E (ac E E (ag ?_)))))))))
  refine ab (aw (au E E ?_))
  exact⟨_,rfl,rfl,by
   first
   |(have h0:l=[]:=List.eq_nil_of_length_eq_zero (by omega)
     subst h0;rfl)
   |exact congrArg B (decide_eq_decide.2 (tL (by omega)))⟩
 ·refine ak E (ae E E (ak E (ae E E (ak E (aV E E (bz Lj hv) (ak E (al (r:=I ((l.length-1:Nat):Int)) E E E (by have e:((l.length-1:Nat):Int)=(l.length:Int)-1:=(by omega);rw[e];exact bD (by omega) (by omega)) ?_)))))))
  refine ak E ?_
  obtain⟨a11,p11,q11⟩:=cQ Lj hv (i:=(l.length-1:Nat)) (by omega) .i64
  refine ar E E E (p11 _) (ak E (aj E E (ai Ll E q11) (ak E (al (v:=bE 0) E E E (lw) (aI E E E ?_)))))
  refine ac E E (ag (ab (aw (au E E ?_))))
  exact⟨_,rfl,rfl,by
   first
   |(have h0:l=[]:=List.eq_nil_of_length_eq_zero (by omega)
     subst h0;rfl)
   |exact congrArg B (decide_eq_decide.2 (tL (by omega)))⟩
theorem Ah {w:World} {x:UInt64}:
 Calls Tryz.prog 198 #[bW x] w (bN fun r w'=>aH w w'∧bk (lb x.toNat) r w'):=by
 refine enter (vs:=[bW x]) Tryz.func198 E E E ?_
 refine af (aa (ac E E (ag (ab (af (aa (ae E E (bb E E (cH Lp Ll) (ae E E ?_)))))))))
 refine al E E E (dk 32 (by omega)) (bb E E (cH Lp Ll) ?_)
 obtain⟨v8,w8,hr8,x8,o8,ob8⟩:=jd Tryz.underlying44 (w:=w) w.heap.size [x.toUInt32,(x>>>UInt64.ofNat 32).toUInt32] (by simp) (Nat.le_refl _)
 refine aF (vs:=[(0,bE (x.toUInt32)),(1,bE ((x>>>UInt64.ofNat 32).toUInt32))]) E E hr8 (an dB E E (dT o8.wds) ?_)
 rintro v9 _ ⟨rfl,b9⟩
 refine ac E E (ag (ab (aw (au E E ?_))))
 exact⟨_,rfl,x8,by
  have e:val [x.toUInt32,(x>>>UInt64.ofNat 32).toUInt32]=x.toNat:=by
   have h1:(x.toUInt32).toNat=x.toNat%4294967296:=UInt64.toNat_toUInt32 x
   have h2:((x>>>UInt64.ofNat 32).toUInt32).toNat=x.toNat/4294967296:=by
    have:=x.toNat_lt
    rw[UInt64.toNat_toUInt32,wW]
    omega
   simp only[val,h1,h2];omega
  rw[e] at b9;exact b9⟩
end Go.Rl
namespace Go.Rl
theorem Bv (x:UInt64):x.toNat<18446744073709551616:=x.toNat_lt
theorem Ai (x:UInt64) {s:Nat} (hs:s<64):(x<<<UInt64.ofNat s).toNat=x.toNat*2^s%18446744073709551616:=by
 rw[UInt64.toNat_shiftLeft,UInt64.toNat_ofNat',Nat.mod_eq_of_lt (Nat.lt_trans hs (by decide)),Nat.mod_eq_of_lt hs,Nat.shiftLeft_eq]
theorem tm (x:UInt64) {s:Nat} (hs:s<64):(x>>>UInt64.ofNat s).toNat=x.toNat/2^s:=by
 rw[UInt64.toNat_shiftRight,UInt64.toNat_ofNat',Nat.mod_eq_of_lt (Nat.lt_trans hs (by decide)),Nat.mod_eq_of_lt hs,Nat.shiftRight_eq_div_pow]
theorem HO (x:UInt32) {s:Nat} (hs:s<32):(x<<<UInt32.ofNat s).toNat=x.toNat*2^s%4294967296:=by
 rw[UInt32.toNat_shiftLeft,UInt32.toNat_ofNat',Nat.mod_eq_of_lt (Nat.lt_trans hs (by decide)),Nat.mod_eq_of_lt hs,Nat.shiftLeft_eq]
theorem qY (x:UInt32) {s:Nat} (hs:s<32):(x>>>UInt32.ofNat s).toNat=x.toNat/2^s:=by
 rw[UInt32.toNat_shiftRight,UInt32.toNat_ofNat',Nat.mod_eq_of_lt (Nat.lt_trans hs (by decide)),Nat.mod_eq_of_lt hs,Nat.shiftRight_eq_div_pow]
theorem fB (x:UInt32):x.toUInt64.toNat=x.toNat:=UInt32.toNat_toUInt64 x
theorem lF (x:UInt64):x.toUInt32.toNat=x.toNat%4294967296:=UInt64.toNat_toUInt32 x
theorem pC (x y:UInt64):(x+y).toNat=(x.toNat+y.toNat)%18446744073709551616:=UInt64.toNat_add x y
theorem wX (x y:UInt64):(x*y).toNat=x.toNat*y.toNat%18446744073709551616:=UInt64.toNat_mul x y
theorem qZ (x y:UInt64):(x-y).toNat=(18446744073709551616-y.toNat+x.toNat)%18446744073709551616:=UInt64.toNat_sub x y
theorem Kr (a b i:Nat) (h:a<2^i):a|||2^i*b=a+2^i*b:=by
 rw[Nat.or_comm,←Nat.two_pow_add_eq_or_of_lt h,Nat.add_comm]
theorem HP (x y:UInt64):(x|||y).toNat=x.toNat|||y.toNat:=UInt64.toNat_or x y
theorem FN (x y:UInt32):(x|||y).toNat=x.toNat|||y.toNat:=UInt32.toNat_or x y
theorem um (r:UInt64) (d:UInt32) (hr:r.toNat<4294967296):(r<<<UInt64.ofNat 32|||d.toUInt64).toNat=r.toNat*4294967296+d.toNat:=by
 have hd:=cV d
 rw[HP,Ai r (by omega),fB,Nat.mod_eq_of_lt (by omega),Nat.or_comm]
 have:=Kr d.toNat r.toNat 32 hd
 simp only[Nat.reducePow] at this⊢
 rw[Nat.mul_comm r.toNat,this];omega
theorem fu {l:List UInt32} {i:Nat} (h:i<l.length) (x:UInt32):val ((l.set i x).take (i+1))=val (l.take i)+4294967296^i*x.toNat:=by
 rw[cc (by simpa using h),List.take_set_of_le (Nat.le_refl _)]
 simp
theorem ra {l:List UInt32} {i:Nat} (h:i<l.length) (x:UInt32):val ((l.set i x).drop i)=x.toNat+4294967296*val (l.drop (i+1)):=by
 rw[eI (by simpa using h),List.drop_set_of_lt (by omega)]
 simp
theorem DM {l L:List UInt32} {i k:Nat} {d:UInt32} (hk:k<32) (hi:i<l.length) (hd:d=l[i]) (hL:L.length=l.length+1) (hv:val (L.take (i+1))=val (l.take i)*2^k) (hc:(L[i]'(by omega)).toNat<2^k):
 val (((L.set i (L[i]'(by omega)|||(d.toUInt64<<<UInt64.ofNat k).toUInt32)).set (i+1) ((d.toUInt64<<<UInt64.ofNat k)>>>UInt64.ofNat 32).toUInt32).take (i+1+1))=val (l.take (i+1))*2^k∧
  ((d.toUInt64<<<UInt64.ofNat k)>>>UInt64.ofNat 32).toUInt32.toNat<2^k:=by
 have hdl:=cV d
 have hp:2^k*2^(32-k)=4294967296:=by rw[←Nat.pow_add,show k+(32-k)=32 by omega]
 have hpos:0<2^k:=Nat.pow_pos (by omega)
 have hx:(d.toUInt64<<<UInt64.ofNat k).toNat=d.toNat*2^k:=by
  rw[Ai _ (by omega),fB,Nat.mod_eq_of_lt]
  have h1:d.toNat*2^k≤4294967296*2^k:=Nat.mul_le_mul_right _ (by omega)
  have h2:2^k≤2^31:=Nat.pow_le_pow_right (by omega) (by omega)
  omega
 have hlo:(d.toUInt64<<<UInt64.ofNat k).toUInt32.toNat=2^k*(d.toNat%2^(32-k)):=by
  rw[lF,hx,←hp,Nat.mul_comm d.toNat,Nat.mul_mod_mul_left]
 have hhi:((d.toUInt64<<<UInt64.ofNat k)>>>UInt64.ofNat 32).toUInt32.toNat=d.toNat*2^k/4294967296:=by
  rw[lF,tm _ (by omega),hx,Nat.mod_eq_of_lt]
  have h1:d.toNat*2^k<4294967296*2^k:=Nat.mul_lt_mul_of_pos_right hdl hpos
  have h2:2^k≤2^31:=Nat.pow_le_pow_right (by omega) (by omega)
  simp only[Nat.reducePow] at h2⊢
  omega
 have hor:(L[i]'(by omega)|||(d.toUInt64<<<UInt64.ofNat k).toUInt32).toNat=(L[i]'(by omega)).toNat+2^k*(d.toNat%2^(32-k)):=by
  rw[FN,hlo,Kr _ _ _ hc]
 have hdm:2^k*(d.toNat%2^(32-k))+4294967296*(d.toNat*2^k/4294967296)=d.toNat*2^k:=by
  have h1:=Nat.mod_add_div (d.toNat*2^k) 4294967296
  rw[lF,hx] at hlo
  omega
 refine⟨?_,?_⟩
 ·generalize d.toNat*2^k/4294967296=q at hhi hdm
  rw[fu (by simp;omega),hhi,fu (by omega),hor,cc hi,←hd]
  rw[cc (by omega)] at hv
  rw[Nat.add_mul,←hv,Nat.mul_assoc,←hdm,Nat.pow_succ]
  rw[Nat.mul_add (4294967296^i),Nat.mul_add (4294967296^i),Nat.mul_assoc (4294967296^i),Nat.add_assoc,Nat.add_assoc,Nat.add_assoc]
 ·rw[hhi,Nat.div_lt_iff_lt_mul (by omega),Nat.mul_comm]
  exact Nat.mul_lt_mul_of_pos_left hdl hpos
theorem Bw {l L:List UInt32} {j:Nat} {d:UInt32} {r:UInt64} (hd:0<d.toNat) (hj:j<l.length) (hL:L.length=l.length) (hv:val (L.drop (j+1))*d.toNat+r.toNat=val (l.drop (j+1))) (hr:r.toNat<d.toNat):
 val ((L.set j ((r<<<UInt64.ofNat 32|||l[j].toUInt64)/d.toUInt64).toUInt32).drop j)*d.toNat+((r<<<UInt64.ofNat 32|||l[j].toUInt64)%d.toUInt64).toNat=val (l.drop j)∧
  ((r<<<UInt64.ofNat 32|||l[j].toUInt64)%d.toUInt64).toNat<d.toNat:=by
 have hdl:=cV d
 have hx:=um r l[j] (by omega)
 have hq:((r<<<UInt64.ofNat 32|||l[j].toUInt64)/d.toUInt64).toNat=(r.toNat*4294967296+l[j].toNat)/d.toNat:=by rw[UInt64.toNat_div,hx,fB]
 have hm:((r<<<UInt64.ofNat 32|||l[j].toUInt64)%d.toUInt64).toNat=(r.toNat*4294967296+l[j].toNat)%d.toNat:=by rw[UInt64.toNat_mod,hx,fB]
 have hlt:(r.toNat*4294967296+l[j].toNat)/d.toNat<4294967296:=by
  rw[Nat.div_lt_iff_lt_mul hd]
  have:=cV l[j]
  have h2:(r.toNat+1)*4294967296≤d.toNat*4294967296:=Nat.mul_le_mul_right _ hr
  omega
 refine⟨?_,by rw[hm];exact Nat.mod_lt _ hd⟩
 rw[ra (by omega),lF,hq,hm,Nat.mod_eq_of_lt hlt,eI hj,←hv]
 have:=Nat.div_add_mod (r.toNat*4294967296+l[j].toNat) d.toNat
 rw[Nat.add_mul,Nat.mul_assoc,Nat.mul_comm ((r.toNat*4294967296+l[j].toNat)/d.toNat)]
 omega
theorem FO {x:UInt64} {d R s:Nat} (hs:s<32) (hx:x.toNat=d+4294967296*(R%4294967296)):
 ((x>>>UInt64.ofNat s).toUInt32).toNat+4294967296*(R/2^s)=(d+4294967296*R)/2^s∨4294967296≤d:=by
 by_cases hd:4294967296≤d
 ·exact .inr hd
 left
 have hp:2^s*2^(32-s)=4294967296:=by rw[←Nat.pow_add,show s+(32-s)=32 by omega]
 have hpos:0<2^s:=Nat.pow_pos (by omega)
 have e1:d+4294967296*R=x.toNat+2^s*(2^(32-s)*(4294967296*(R/4294967296))):=by
  rw[←Nat.mul_assoc,hp,hx];omega
 have e2:(d+4294967296*R)/2^s=x.toNat/2^s+4294967296*(2^(32-s)*(R/4294967296)):=by
  rw[e1,Nat.add_mul_div_left _ _ hpos,Nat.mul_left_comm]
 have e3:(d+4294967296*R)/2^s/4294967296=R/2^s:=by
  rw[Nat.div_div_eq_div_mul,Nat.mul_comm (2^s),←Nat.div_div_eq_div_mul]
  congr 1
  omega
 have e4:=Nat.mod_add_div ((d+4294967296*R)/2^s) 4294967296
 rw[e3] at e4
 rw[lF,tm _ (by omega)]
 rw[←e4]
 congr 1
 rw[e2,Nat.add_mul_mod_self_left]
theorem I3 {x:UInt64} {a:Nat} {e:UInt32} (hx:x.toNat=a) (ha:a<4294967296):(x|||e.toUInt64<<<UInt64.ofNat 32).toNat=a+4294967296*e.toNat:=by
 have he:=cV e
 rw[HP,Ai _ (by omega),fB,Nat.mod_eq_of_lt (by omega),hx]
 have:=Kr a e.toNat 32 ha
 simp only[Nat.reducePow] at this⊢
 rw[Nat.mul_comm e.toNat,this]
def bl (n:Nat):Nat:=if n=0 then 0 else Nat.log2 n+1
theorem CY:bl 0=0:=rfl
theorem rc {n:Nat} (h:0<n):2^(bl n-1)≤n∧n<2^bl n:=by
 unfold bl
 rw[if_neg (by omega),Nat.add_sub_cancel]
 exact⟨Nat.log2_self_le (by omega),Nat.lt_log2_self⟩
theorem uo {n:Nat} (h:0<n):0<bl n:=by unfold bl;rw[if_neg (by omega)];omega
theorem DN {n k:Nat} (h1:2^k≤n) (h2:n<2^(k+1)):bl n=k+1:=by
 have hn:0<n:=Nat.lt_of_lt_of_le (Nat.pow_pos (by omega)) h1
 obtain⟨h3,h4⟩:=rc hn
 have hp:=uo hn
 have a:k<bl n:=(Nat.pow_lt_pow_iff_right (a:=2) (by omega)).1 (Nat.lt_of_le_of_lt h1 h4)
 have b:bl n-1<k+1:=(Nat.pow_lt_pow_iff_right (a:=2) (by omega)).1 (Nat.lt_of_le_of_lt h3 h2)
 omega
theorem nY {n s:Nat} (h:2^s≤n):bl n=s+bl (n/2^s):=by
 have hps:0<2^s:=Nat.pow_pos (by omega)
 have hq:0<n/2^s:=Nat.div_pos h hps
 obtain⟨h1,h2⟩:=rc hq
 have hp:=uo hq
 obtain⟨k,hk⟩:∃k,bl (n/2^s)=k+1:=⟨_,(Nat.sub_add_cancel hp).symm⟩
 rw[hk,Nat.add_sub_cancel] at h1
 rw[hk] at h2⊢
 refine(DN (k:=s+k) ?_ ?_)
 ·rw[Nat.pow_add,Nat.mul_comm]
  exact Nat.le_trans (Nat.mul_le_mul_right _ h1) (Nat.div_mul_le_self _ _)
 ·rw[show s+k+1=s+(k+1) by omega,Nat.pow_add,Nat.mul_comm]
  exact(Nat.div_lt_iff_lt_mul hps).1 h2
theorem wY {n k:Nat} (h:n<2^k):bl n≤k:=by
 rcases Nat.eq_zero_or_pos n with rfl|h0
 ·simp[CY]
 ·have h1:=(rc h0).1
  have h2:=uo h0
  have:=(Nat.pow_lt_pow_iff_right (a:=2) (by omega)).1 (Nat.lt_of_le_of_lt h1 h)
  omega
theorem I4 {n i:Nat} (h:i+1=(lb n).length):bl n=32*i+bl ((lb n)[i]'(by omega)).toNat:=by
 have hl:=yy h
 have h2:n=val ((lb n).take i)+4294967296^i*((lb n)[i]'(by omega)).toNat:=by
  rw[←cc (by omega),h,List.take_length,bV]
 have h3:=cE ((lb n).take i)
 rw[List.length_take,Nat.min_eq_left (by omega)] at h3
 have hp:(4294967296:Nat)^i=2^(32*i):=by rw[Nat.pow_mul]
 rw[hp] at h2 h3
 have hge:2^(32*i)≤n:=by
  rw[h2]
  have:2^(32*i)*1≤2^(32*i)*((lb n)[i]'(by omega)).toNat:=Nat.mul_le_mul_left _ hl
  omega
 rw[nY hge]
 congr 2
 have:n/2^(32*i)=(val ((lb n).take i)+2^(32*i)*((lb n)[i]'(by omega)).toNat)/2^(32*i):=by rw[←h2]
 rw[this,Nat.add_mul_div_left _ _ (Nat.pow_pos (by omega)),Nat.div_eq_of_lt h3,Nat.zero_add]
end Go.Rl
namespace Go.Rl
open Go.RowKit Go.Proofs
theorem uq:aJ Tryz.prog 201:=⟨_,Tryz.func201,by kernel_rfl,rfl⟩
theorem Aj:aJ Tryz.prog 199:=⟨_,Tryz.func199,by kernel_rfl,rfl⟩
theorem DO:aJ Tryz.prog 204:=⟨_,Tryz.func204,by kernel_rfl,rfl⟩
theorem Bx:aJ Tryz.prog 183:=⟨_,Tryz.func183,by kernel_rfl,rfl⟩
theorem ur:aJ Tryz.prog 205:=⟨_,Tryz.func205,by kernel_rfl,rfl⟩
theorem DP:aJ Tryz.prog 200:=⟨_,Tryz.func200,by kernel_rfl,rfl⟩
theorem DQ {t:List UInt32} {i:Nat} {x:UInt64} (h2:t.length≤2) (hi:i<t.length) (hx:x.toNat=val (t.take i)):(x|||t[i].toUInt64<<<UInt64.ofNat (32*i)).toNat=val (t.take (i+1)):=by
 have hl:=cE (t.take i)
 rw[List.length_take,Nat.min_eq_left (by omega)] at hl
 have hd:=cV t[i]
 rw[cc hi,←hx,HP,Ai _ (by omega),fB]
 have hp:(4294967296:Nat)^i=2^(32*i):=by rw[Nat.pow_mul]
 rw[hp,←hx] at hl
 have hb:2^(32*i)≤2^32:=Nat.pow_le_pow_right (by omega) (by omega)
 rw[Nat.mod_eq_of_lt,Nat.mul_comm,Kr _ _ _ hl,hp]
 have:t[i].toNat*2^(32*i)≤4294967295*2^32:=Nat.mul_le_mul (by omega) hb
 omega
theorem yz {x y:Nat} (h:x<y):rV x y= -1:=by unfold rV;rw[if_pos h]
theorem yA {x y:Nat} (h:y<x):rV x y=1:=by unfold rV;rw[if_neg (by omega),if_pos h]
theorem CZ {x:Nat}:rV x x=0:=by unfold rV;rw[if_neg (by omega),if_neg (by omega)]
theorem Ak {a b:UInt32}:a<b↔a.toNat<b.toNat:=UInt32.lt_iff_toNat_lt
theorem wZ {x y j:Nat} (h1:j<(lb x).length) (h2:j<(lb y).length) (hd:(lb x).drop (j+1)=(lb y).drop (j+1)) (h:(lb x)[j]<(lb y)[j]):x<y:=by
 have:=CW h1 h2 hd (Ak.1 h)
 rwa [bV,bV] at this
theorem ut {w:World} {l:List UInt32} {v:Value} (hv:bk l v w):
 Calls Tryz.prog 197 #[v] w (bN fun r w'=>w=w'∧((18446744073709551616≤val l∧r=.tuple #[bW 0,B false])∨∃x:UInt64,x.toNat=val l∧r=.tuple #[bW x,B true])):=by
 refine enter (vs:=[v]) Tryz.func197 E E E ?_
 refine af (aa (ac E E (ac E E (ag (ab (af (aa (ae E E (an dB E E (dT hv) ?_)))))))))
 rintro v8 _ ⟨rfl,b8⟩
 refine ac E E (ag (ab (af (af (aa (ae E E (aV E E (bz Lj b8) (al E E E (bT) (ag ?_)))))))))
 refine ab ?_
 refine bu E (fun h11=>?_) (fun h11=>?_)
 ·refine af (aa (ac E E (ac E E (ag (ab (aw (az (bt E E E ?_))))))))
  exact⟨_,rfl,rfl,.inl ⟨by
   rcases Nat.lt_or_ge (val l) 18446744073709551616 with h|h
   ·have:=ig (n:=val l) (k:=2) h
    omega
   ·exact h,rfl⟩⟩
 ·obtain⟨t,ht⟩:∃t,t=lb (val l):=⟨_,rfl⟩
  have hval:val t=val l:=by rw[ht,bV]
  rw[←ht] at b8 h11⊢
  have h2:t.length≤2:=by omega
  refine aC (ab (af (aa (ac E E (ag (ab (af (af (aa (ae E E (aV (r:=I (t.length:Int)) E E (bz Lj b8) ?_)))))))))))
  refine ae E E (ag (ab (aG ?_)))
  refine eu (fun(i:Nat) (x:UInt64)=>[(4,bW x),(12,v8),(13,I (t.length:Int)),(14,I (i:Int))]) (fun(i:Nat) (x:UInt64) w'=>w=w'∧i≤t.length∧x.toNat=val (t.take i)) (fun(i:Nat) (x:UInt64)=>t.length-i) (0) (0) ⟨rfl,rfl,rfl,rfl,trivial⟩ ⟨rfl,by simp,rfl⟩ ?_
  rintro i x _ ⟨rfl,hi,hx⟩
  refine af (aa (al E E E (a6) (ag (ab (af ?_)))))
  refine bu E (fun h15=>?_) (fun h15=>?_)
  ·refine aC (ab (af (aG (af (aa (ae E E ?_))))))
   obtain⟨a17,p17,q17⟩:=cQ Lj b8 (i:=i) (by omega) .i64
   refine ar E E E (p17 _) (aj E E (ai Ll E q17) (ac E E (ac E E (ag (ab (aa (ae E E ?_)))))))
   refine ae E E (bb E E (bU Ll Lp) (ae E E (al (r:=I ((32*i:Nat):Int)) E E E (by have e:((32*i:Nat):Int)=32*(i:Int):=(by omega);rw[e];exact fc (by omega) (by omega)) ?_)))
   refine al E E E (fG ((32*i:Nat)) (by omega)) (al E E E (jc) (ac E E (ag (aW (ab (aa (al (r:=I ((i+1:Nat):Int)) E E E (by have e:((i+1:Nat):Int)=(i:Int)+1:=(by omega);rw[e];exact aR (by omega) (by omega)) ?_)))))))
   refine ae E E (ag ?_)
   refine c6 (i+1) (x|||t[i].toUInt64<<<UInt64.ofNat (32*i)) ⟨rfl,rfl,rfl,rfl,trivial⟩ ⟨rfl,by show i+1≤_;omega,DQ h2 (by omega) hx⟩ (by show t.length-(i+1)<t.length-i;omega)
  ·refine bc (aK (aK (bf (ab (af (aa (ae E E (ac E E (ac E E (ag (ab (aw (bt E E E ?_)))))))))))))
   exact⟨_,rfl,rfl,.inr ⟨x,by rw[hx,List.take_of_length_le (by omega),hval],rfl⟩⟩
theorem rY {w:World} {l m:List UInt32} {v u:Value} (hv:bk l v w) (hu:bk m u w):
 Calls Tryz.prog 138 #[v,u] w (bN fun r w'=>aH w w'∧r=I (rV (val l) (val m))):=by
 refine enter (vs:=[v,u]) Tryz.func138 E E E ?_
 refine af (aa (ac E E (ag (ab (af (aa (ae E E (an dB E E (dT hv) ?_))))))))
 rintro v7 _ ⟨rfl,b7⟩
 refine ae E E (an dB E E (dT hu) ?_)
 rintro v9 _ ⟨rfl,b9⟩
 have hx:=b7.len
 have hy:=b9.len
 refine ac E E (ac E E (ag (ab (af (af (aa (ae E E (aV E E (bz Lj b7) (ae E E (aV E E (bz Lj b9) ?_))))))))))
 refine al E E E (dn) (ag (ab ?_))
 refine bu E (fun h14=>?_) (fun h14=>?_)
 ·refine af (af (aa (ae E E (aV E E (bz Lj b7) (ae E E (aV E E (bz Lj b9) ?_))))))
  refine al E E E (a6) (ag (ab ?_))
  refine bu E (fun h19=>?_) (fun h19=>?_)
  ·refine af (aa (ac E E (ag (ab (aw (az (az (au E E ?_))))))))
   exact⟨_,rfl,aH.refl _,congrArg I (yz (yx (by omega))).symm⟩
  ·refine aC (ab (af (aa (ac E E (ag (ab (aw (az (au E E ?_)))))))))
   exact⟨_,rfl,aH.refl _,congrArg I (yA (yx (by omega))).symm⟩
 ·refine aC (ab (af (af (aa ?_))))
  have hlen:(lb (val l)).length=(lb (val m)).length:=by omega
  refine ae E E (aV E E (bz Lj b7) (al E E E (bD (by omega) (by omega)) (ac E E (ag (ab ?_)))))
  refine aG ?_
  refine ck (α:=Nat) (fun k=>[(0,v7),(1,v9),(5,I ((k:Int)-1))]) (fun k w'=>aH w w'∧k≤(lb (val l)).length∧(lb (val l)).drop k=(lb (val m)).drop k) (fun k=>k) ((lb (val l)).length) ⟨rfl,rfl,rfl,trivial⟩ ⟨aH.refl _,Nat.le_refl _,by rw[List.drop_of_length_le (Nat.le_refl _),List.drop_of_length_le (by omega)]⟩ ?_
  rintro k w7 ⟨x7,hk,hd⟩
  refine af (af (aa (ae E E (al E E E (gL) (ag (ab ?_))))))
  refine bu E (fun h24=>?_) (fun h24=>?_)
  ·obtain⟨j,rfl⟩:∃j,k=j+1:=⟨k-1,by omega⟩
   have e:((j+1:Nat):Int)-1=(j:Int):=by omega
   rw[e]
   refine aC (ab (af (aG (af (bP 8 [0,1,5,30,34] (by kernel_rfl) (by kernel_rfl) ?_)))))
   refine ax E E (ax E E ?_)
   obtain⟨a29,p29,q29⟩:=cQ Lj (b7.ext x7) (i:=j) (by omega) .i64
   refine aD E E E (fun w _=>p29 w) (aQ E E (fun w hw=>ai Ll E (hw.cell_some q29)) (ax E E (ax E E ?_)))
   obtain⟨a33,p33,q33⟩:=cQ Lj (b9.ext x7) (i:=j) (by omega) .i64
   refine aD E E E (fun w _=>p33 w) (aQ E E (fun w hw=>ai Ll E (hw.cell_some q33)) (cn ?_))
   intro wg9 xg9
   rintro _ hq0
   obtain rfl:=Eq.symm hq0
   rintro _ hq1
   obtain rfl:=Eq.symm hq1
   rintro _ rfl
   rintro _ rfl
   rintro _ rfl
   refine al E E E (lw) (ag (ab ?_))
   refine bu E (fun h35=>?_) (fun h35=>?_)
   ·refine af (af (bP 8 [39,43] (by kernel_rfl) (by kernel_rfl) ?_))
    refine ax E E (ax E E ?_)
    obtain⟨a38,p38,q38⟩:=cQ Lj (b7.ext (x7.trans xg9)) (i:=j) (by omega) .i64
    refine aD E E E (fun w _=>p38 w) (aQ E E (fun w hw=>ai Ll E (hw.cell_some q38)) (ax E E (ax E E ?_)))
    obtain⟨a42,p42,q42⟩:=cQ Lj (b9.ext (x7.trans xg9)) (i:=j) (by omega) .i64
    refine aD E E E (fun w _=>p42 w) (aQ E E (fun w hw=>ai Ll E (hw.cell_some q42)) (cn ?_))
    intro wg10 xg10
    rintro _ rfl
    rintro _ rfl
    refine al E E E (wu) (ag (ab ?_))
    refine bu E (fun h44=>?_) (fun h44=>?_)
    ·refine af (aa (ac E E (ag (ab (aw (az (ba (az (az (ba (az (au E E ?_))))))))))))
     exact⟨_,rfl,((x7.trans xg9).trans xg10),congrArg I (yz (wZ (by omega) (by omega) hd h44)).symm⟩
    ·refine aC (ab (af (aa (ac E E (ag (ab (aw (ba (az (az (ba (az (au E E ?_)))))))))))))
     exact⟨_,rfl,((x7.trans xg9).trans xg10),by
      refine congrArg I (yA (wZ (by omega) (by omega) hd.symm ?_)).symm
      rw[Ak] at h44⊢
      have:(lb (val l))[j].toNat≠(lb (val m))[j].toNat:=fun he=>h35 (mn he)
      omega⟩
   ·refine aC (aW (ab (aa (ae E E (al E E E (bD (by omega) (by omega)) (ac E E (ag ?_)))))))
    refine bS j ⟨rfl,rfl,rfl,trivial⟩ ⟨(x7.trans xg9),by omega,by rw[List.drop_eq_getElem_cons (show j<(lb (val l)).length by omega),List.drop_eq_getElem_cons (show j<(lb (val m)).length by omega),hd,show(lb (val l))[j]=(lb (val m))[j] from Classical.byContradiction fun h=>h35 h]⟩ (by omega)
  ·refine bc (aK (aK (bf (ab (af (aa (ac E E (ag (ab (aw (au E E ?_)))))))))))
   exact⟨_,rfl,x7,by
    obtain rfl:k=0:=by omega
    rw[List.drop_zero,List.drop_zero] at hd
    rw[FK hd,CZ];rfl⟩
theorem uu {w:World} {l:List UInt32} {v:Value} {k:Nat} (hv:bk l v w) (hl:l.length≤1099511627776) (hk:k<32):
 Calls Tryz.prog 201 #[v,I (k:Int)] w (bN fun r w'=>aH w w'∧∃L,dV w.heap.size L r w'∧L.length=l.length+1∧val L=val l*2^k):=by
 refine enter (vs:=[v,I (k:Int)]) Tryz.func201 E E E ?_
 refine af (aa (ac E E (ag (ab (af (aa (ae E E (aV E E (bz Lj hv) (al (r:=I (((l.length)+1:Nat):Int)) E E E (by have e:(((l.length)+1:Nat):Int)=(l.length:Int)+1:=(by omega);rw[e];exact aR (by omega) (by omega)) ?_)))))))))
 obtain⟨v12,w12,hr12,x12,o12,ob12⟩:=wU Lj (w:=w) w.heap.size (n:=l.length+1) (by omega) (Nat.le_refl _)
 refine ie E E E hr12 (ac E E (ag (ab (af (af (aa (ae E E (aV E E (bz Lj (hv.ext x12)) ?_))))))))
 refine ae E E (ag (ab (aG ?_)))
 refine eu (fun(i:Nat) (L:List UInt32)=>[(1,I (k:Int)),(5,v12),(13,v),(14,I (l.length:Int)),(15,I (i:Int))]) (fun(i:Nat) (L:List UInt32) w'=>dV w.heap.size L v12 w'∧aH w w'∧i≤l.length∧L.length=l.length+1∧val (L.take (i+1))=val (l.take i)*2^k∧∀h:i<L.length,L[i].toNat<2^k) (fun(i:Nat) (L:List UInt32)=>l.length-i) (0) (List.replicate (l.length+1) 0) ⟨rfl,rfl,rfl,rfl,rfl,trivial⟩ ⟨o12,x12,by simp,by simp,by simp[val],fun _=>by simp;exact Nat.pow_pos (by omega)⟩ ?_
 rintro i L w3 ⟨oL,e3,hi,hL,hval,hc⟩
 refine af (aa (al E E E (a6) (ag (ab (af ?_)))))
 refine bu E (fun h16=>?_) (fun h16=>?_)
 ·refine aC (ab (af (aG (af (aa (ae E E ?_))))))
  obtain⟨a18,p18,q18⟩:=cQ Lj (hv.ext e3) (i:=i) (by omega) .i64
  refine ar E E E (p18 _) (aj E E (ai Ll E q18) (ac E E (ac E E (ag (ab (af (aa (ae E E ?_))))))))
  refine bb E E (bU Ll Lp) (ae E E (al E E E (fG (k) (by omega)) (ac E E ?_)))
  refine ag (ab (af (aa (ae E E (ae E E ?_)))))
  obtain⟨a26,p26,q26⟩:=cQ Lj oL.wds (i:=i) (by omega) .i64
  refine ar E E E (p26 _) (aj E E (ai Ll E q26) (ae E E (bb E E (cH Lp Ll) ?_)))
  refine al E E E (fg) ?_
  obtain⟨g31,w31,p31,s31,o31,q31,hb31,c31,ob31⟩:=(oL).setW Lj (i:=i) (by omega) (L[i]'(by omega)|||(l[i].toUInt64<<<UInt64.ofNat k).toUInt32)
  refine ar E E E (p31 _) (ay E E s31 ?_)
  have x31:=aH.of_new (e3) q31 hb31
  refine ag (ab (aa (ae E E (ae E E (al (r:=I ((i+1:Nat):Int)) E E E (by have e:((i+1:Nat):Int)=(i:Int)+1:=(by omega);rw[e];exact aR (by omega) (by omega)) ?_)))))
  refine ae E E (al E E E (dk 32 (by omega)) (bb E E (cH Lp Ll) ?_))
  obtain⟨g38,w38,p38,s38,o38,q38,hb38,c38,ob38⟩:=(o31).setW Tryz.underlying44 (i:=(i+1)) (by simp;omega) ((l[i].toUInt64<<<UInt64.ofNat k>>>UInt64.ofNat 32).toUInt32)
  refine ar E E E (p38 _) (ay E E s38 ?_)
  have x38:=aH.of_new (x31) q38 hb38
  refine ag (aW (ab (aa (al (r:=I ((i+1:Nat):Int)) E E E (by have e:((i+1:Nat):Int)=(i:Int)+1:=(by omega);rw[e];exact aR (by omega) (by omega)) ?_))))
  refine ae E E (ag ?_)
  have st:=DM hk (show i<l.length by omega) rfl hL hval (hc (by omega))
  refine c6 (i+1) (_) ⟨rfl,rfl,rfl,rfl,rfl,trivial⟩ ⟨o38,x38,by show i+1≤_;omega,by simpa using hL,st.1,fun _=>by simpa using st.2⟩ (by show l.length-(i+1)<l.length-i;omega)
 ·refine bc (aK (aK (bf (ab (af (aa (ae E E (ac E E (ag (ab (aw (au E E ?_))))))))))))
  exact⟨_,rfl,e3,L,oL,hL,by
   obtain rfl:i=l.length:=by omega
   rw[List.take_of_length_le (by omega),List.take_length] at hval
   exact hval⟩
theorem Al {w:World} {l:List UInt32} {v:Value} {d:UInt32} (hv:bk l v w) (hl:l.length≤1099511627776) (hd:0<d.toNat):
 Calls Tryz.prog 199 #[v,bE d] w (bN fun r w'=>aH w w'∧∃q s,r=.tuple #[q,s]∧bk (lb (val l/d.toNat)) q w'∧bk (lb (val l%d.toNat)) s w'):=by
 refine enter (vs:=[v,bE d]) Tryz.func199 E E E ?_
 have hd0:d.toUInt64≠0:=fun h=>by
  have:=congrArg UInt64.toNat h
  rw[fB] at this
  simp at this
  omega
 refine af (aa (ac E E (ac E E (ag (ab (af (aa (ae E E (aV E E (bz Lj hv) ?_)))))))))
 obtain⟨v11,w11,hr11,x11,o11,ob11⟩:=wU Lj (w:=w) w.heap.size (n:=l.length) (by omega) (Nat.le_refl _)
 refine ie E E E hr11 (ac E E (ag (ab (af (aa (ac E E (ag (ab (af (af (aa (ae E E (aV E E (bz Lj (hv.ext x11)) ?_)))))))))))))
 refine al E E E (bD (by omega) (by omega)) (ac E E (ag (ab (aG ?_))))
 refine mi (fun(k:Nat) (L:List UInt32) (r:UInt64)=>[(0,v),(1,bE d),(6,v11),(7,bW r),(8,I ((k:Int)-1))]) (fun(k:Nat) (L:List UInt32) (r:UInt64) w'=>dV w.heap.size L v11 w'∧aH w w'∧k≤l.length∧L.length=l.length∧val (L.drop k)*d.toNat+r.toNat=val (l.drop k)∧r.toNat<d.toNat) (fun(k:Nat) (L:List UInt32) (r:UInt64)=>k) (l.length) (List.replicate l.length 0) (0) ⟨rfl,rfl,rfl,rfl,rfl,trivial⟩ ⟨o11,x11,Nat.le_refl _,by simp,by simp[List.drop_of_length_le,val],hd⟩ ?_
 rintro k L r w4 ⟨oL,e4,hk,hL,hval,hr⟩
 refine af (af (aa (ae E E (al E E E (gL) (ag (ab ?_))))))
 refine bu E (fun h16=>?_) (fun h16=>?_)
 ·obtain⟨j,rfl⟩:∃j,k=j+1:=⟨k-1,by omega⟩
  have e:((j+1:Nat):Int)-1=(j:Int):=by omega
  rw[e]
  have st:=Bw hd (show j<l.length by omega) hL hval hr
  refine aC (ab (af (aG (af (aa (ae E E (al E E E (fG 32 (by omega)) (ae E E (ae E E ?_)))))))))
  obtain⟨a23,p23,q23⟩:=cQ Lj (hv.ext e4) (i:=j) (by omega) .i64
  refine ar E E E (p23 _) (aj E E (ai Ll E q23) (bb E E (bU Ll Lp) ?_))
  refine al E E E (jc) (ac E E (ag (ab (af (aa (ae E E (ae E E (ae E E (ae E E (bb E E (bU Ll Lp) ?_))))))))))
  refine al E E E (lx hd0) (bb E E (cH Lp Ll) ?_)
  obtain⟨g34,w34,p34,s34,o34,q34,hb34,c34,ob34⟩:=(oL).setW Lj (i:=j) (by omega) (((r<<<UInt64.ofNat 32|||l[j].toUInt64)/d.toUInt64).toUInt32)
  refine ar E E E (p34 _) (ay E E s34 ?_)
  have x34:=aH.of_new (e4) q34 hb34
  refine ag (ab (aa (ae E E (ae E E (bb E E (bU Ll Lp) (al E E E (ly hd0) ?_))))))
  refine ac E E (ag (aW (ab (aa (ae E E (al E E E (bD (by omega) (by omega)) (ac E E (ag ?_))))))))
  refine je (j) (_) ((r<<<UInt64.ofNat 32|||l[j].toUInt64)%d.toUInt64) ⟨rfl,rfl,rfl,rfl,rfl,trivial⟩ ⟨o34,x34,by show j≤_;omega,by simpa using hL,st.1,st.2⟩ (by show j<j+1;omega)
 ·refine bc (aK (aK (bf (ab (af (aa ?_))))))
  obtain rfl:k=0:=by omega
  rw[List.drop_zero,List.drop_zero] at hval
  have hq:val l/d.toNat=val L:=by rw[←hval,Nat.mul_comm,Nat.mul_add_div hd,Nat.div_eq_of_lt hr,Nat.add_zero]
  have hm:val l%d.toNat=r.toNat:=by rw[←hval,Nat.mul_comm,Nat.mul_add_mod,Nat.mod_eq_of_lt hr]
  refine ae E E (an dB E E (dT oL.wds) ?_)
  rintro v40 _ ⟨rfl,b40⟩
  refine ae E E (an Af E E (Ah) ?_)
  rintro v42 w42 ⟨x42,b42⟩
  refine ac E E (ac E E (ag (ab (aw (bt E E E ?_)))))
  exact⟨_,rfl,(e4.trans x42),_,_,rfl,by rw[hq];exact b40.ext x42,by rw[hm];exact b42⟩
end Go.Rl

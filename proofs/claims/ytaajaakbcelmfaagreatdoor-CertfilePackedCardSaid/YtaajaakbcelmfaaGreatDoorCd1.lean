/- Part 1 of a proof: plain facts and walks of functions, merged by a program. Conditions: each lemma names its own. -/
import Derived.StillTail
import Derived.Below
import Derived.Laws.Entries
import Derived.Maps.AppendAt
import Derived.Laws.BytesString
import Derived.Laws.Slices
import Derived.Laws.MakeOwn
import Derived.Laws.Rows
import Derived.OwnWalk
import Derived.Laws.BitsAllLaws
import Derived.Laws.Strings
import Derived.Test.YtaajaakbcelmfaaGreatDoorProg
import Derived.KernelRfl
import Derived.Laws.OwnMore
import Derived.ProofKit
import Derived.OpenShut
import Derived.ChangeArms
import Derived.Deep.MidRow
import Derived.RangeFuncWrites
import Derived.RangeFuncLeaves
import Derived.TacticsIn
import Derived.OwnWalkIn
import Derived.Laws.CopyRow
import Derived.Maps.Keyed
import Derived.DeepKeys5
import Derived.ShutString
import Derived.SliceStrings
import Derived.ChangeOld
import Derived.RowKit
import Derived.OrdersHeld
import Derived.Lib.AppendStr
import Derived.Laws.IdiomStrings
import Derived.Lib.SlBytesConst
import Derived.ArgAppend
import Derived.Recover
import Derived.Tactics
import Derived.Tactics2
import Derived.ChangeKeysEq
import Derived.Laws.StructEq
import Derived.Test.YtaajaakbcelmfaaGreatDoorCards
import Derived.Test.YtaajaakbcelmfaaGreatDoorTie
import Derived.Lib.LaidTab
import Derived.Test.YtaajaakbcelmfaaGreatDoorRows
namespace Go.Rl
theorem Jg.{u} {α:Sort u} {a:α}:a=a:=rfl
abbrev IJ:=@Go.Proofs.Tryz.underlying53
abbrev IK:=@Go.Proofs.Tryz.underlying111
abbrev IL:=@Go.Proofs.Tryz.underlying41
abbrev IM:=@Go.Proofs.Tryz.underlying3
abbrev IN:=@Go.Proofs.Tryz.underlying83
abbrev IP:=@Go.Proofs.Tryz.underlying28
abbrev IQ:=@Go.Proofs.Tryz.underlying55
abbrev IR:=@Go.Proofs.Tryz.underlying5
abbrev IS:=@Go.Proofs.Tryz.underlying23
abbrev IT:=@Go.Proofs.Tryz.underlying109
abbrev IU:=@Go.Proofs.Tryz.underlying4
abbrev IV:=@Go.Proofs.Tryz.underlying80
abbrev IW:=@Go.Proofs.Tryz.underlying81
abbrev IX:=@Go.Proofs.Tryz.underlying52
abbrev IY:=@Go.Proofs.Tryz.underlying172
abbrev IZ:=@Go.Proofs.Tryz.underlying147
abbrev I0:=@Go.Proofs.Tryz.underlying78
abbrev I1:=@Go.Proofs.Tryz.underlying169
abbrev I2:=@Go.Proofs.Tryz.underlying25
abbrev I3:=@Go.Proofs.Tryz.underlying158
abbrev I4:=@Go.Proofs.Tryz.underlying155
abbrev I5:=@Go.Proofs.Tryz.underlying216
abbrev I6:=@Go.Proofs.Tryz.underlying22
abbrev I7:=@Go.Proofs.Tryz.underlying227
abbrev I8:=@Go.Proofs.Tryz.underlying214
abbrev I9:=@Go.Proofs.Tryz.underlying112
abbrev Ja:=@Go.Proofs.Tryz.underlying66
abbrev Jb:=@Go.Proofs.Tryz.underlying221
abbrev Jc:=@Go.Proofs.Tryz.underlying167
abbrev Jd:=@Go.Proofs.Tryz.underlying202
abbrev Je:=@Go.Proofs.Tryz.underlying156
abbrev Jf:=@Go.Proofs.Tryz.underlying183
end Go.Rl
namespace Go.Rl
open Go.RowKit
def aM (w w':World):Prop:=Below w.heap.size w w'
theorem aM.refl (w:World):aM w w:=Below.refl _ _
theorem aM.trans {a b c:World} (h:aM a b) (k:aM b c):aM a c:=Below.trans h (Below.mono k h.size)
theorem aM.alloc {a w:World} (h:aM a w) (o:Obj):aM a (w.alloc o):=Below.alloc h h.size o
theorem aM.drew {a w:World} (h:aM a w):aM a w.drew:=Below.drew h
abbrev dx:=Value→World→Prop
abbrev cp:=Tmp→dx
def Is (c:Value):dx:=fun v _=>v=c
def Any:dx:=fun _ _=>True
def bR (Rl:World→World→Prop) (S:dx):Prop:=∀v w w',S v w→Rl w w'→S v w'
abbrev bu (S:dx):Prop:=bR aM S
theorem bu.is {Rl:World→World→Prop} (c:Value):bR Rl (Is c):=fun _ _ _ h _=>h
theorem bu.any {Rl:World→World→Prop}:bR Rl Any:=fun _ _ _ h _=>h
abbrev iN:=World→Prop
def cH (Z:iN):Prop:=∀w w',Z w→aM w w'→Z w'
theorem cH.triv:cH (fun _=>True):=fun _ _ _ _=>trivial
def iz (F:cp) (d:Option Tmp) (S:dx):cp:=
 match d with
 |none=>F
 |some d=>fun t=>match Nat.beq t d with|true=>S|false=>F t
theorem jZ (F:cp) (d:Tmp) (S:dx):iz F (some d) S d=S:=by simp[iz]
theorem lN (F:cp) {d t:Tmp} (S:dx) (h:t≠d):iz F (some d) S t=F t:=by
 have:Nat.beq t d=false:=by
  cases hb:Nat.beq t d
  ·rfl
  ·exact absurd (Nat.eq_of_beq_eq_true hb) h
 simp[iz,this]
theorem AH (F:cp) {d:Option Tmp} {t:Tmp} (S:dx) (h:∀e,d=some e→e≠t):iz F d S t=F t:=by
 cases d with
 |none=>rfl
 |some d=>exact lN F S (fun e=>h d rfl e.symm)
theorem Dw (F:cp) {x y:Option Tmp} (S R:dx) (h:∀d,x=some d→y≠some d):iz (iz F x S) y R=iz (iz F y R) x S:=by
 cases x with
 |none=>rfl
 |some d=>
  cases y with
  |none=>rfl
  |some e=>
   have hne:d≠e:=fun he=>h d rfl (he▸rfl)
   funext t
   by_cases h1:t=e
   ·subst h1
    rw[jZ,lN _ _ (Ne.symm hne),jZ]
   ·rw[lN _ _ h1]
    by_cases h2:t=d
    ·subst h2
     rw[jZ,jZ]
    ·rw[lN _ _ h2,lN _ _ h2,lN _ _ h1]
section
variable {P:Program} {ops:Array Oper} {md:Region.Mode} {Env:World→Prop} {Rl:World→World→Prop} {mo:Bool} {Pn:List PanicEntry→World→Prop} {N:Nat}
structure fE (Env:World→Prop) (Rl:World→World→Prop):Prop where
 ext:∀w w',aM w w'→Rl w w'
 keep:∀w w',Env w→Rl w w'→Env w'
theorem fE.plain (w:World):fE (aM w) aM:=⟨fun _ _ h=>h,fun _ _ h k=>h.trans k⟩
def lH (ops:Array Oper) (o:Oper) (F:cp) (a:Act) (w:World):Prop:=∀t∈o.looksAt ops,F t (a.tmps.getD t undef) w
structure xd (N:Nat) (D:List Deferred) (F:cp) (a:Act) (w:World):Prop where
 size:a.tmps.size=N
 defers:a.defers=D
 at_:∀t,F t (a.tmps.getD t undef) w
def od (P:Program) (w:World) (S:dx):Result Next→Prop
 |.ok (.value v) w'=>aM w w'∧S v w'
 |.ok .skip w'=>aM w w'∧S undef w'
 |.ok (.enter f args) w'=>aM w w'∧Calls P f args w' (fun e w''=>∃v,e=.returned v∧aM w w''∧S v w'')
 |_=>False
def uZ (P:Program) (Rl:World→World→Prop) (Pn:List PanicEntry→World→Prop) (w:World) (S:dx) (Z:iN):Result Next→Prop
 |.ok (.enter f args) w'=>Calls P f args w' (fun e w''=>(∃v,e=.returned v∧Rl w w''∧S v w''∧Z w'')∨∃c,e=.panicked c∧Pn c w'')
 |_=>False
def jF (o:Oper):Bool:=match o.op with|.call c=>(match c.callee with|.builtin _=>false|_=>true)|_=>false
structure G6 (P:Program) (ops:Array Oper) (Env:World→Prop) (Rl:World→World→Prop) (N:Nat) (F:cp) (o:Oper) (S:dx):Prop where
 stable:bR Rl S
 dst:∀d,o.dst=some d→d<N
 yes:∀a w,a.tmps.size=N→Env w→lH ops o F a w→Region.wanted o (yielded ops a.tmps)=true→od P w S ((execOp a.eval o).run P w)
 no:∀a w,a.tmps.size=N→Env w→lH ops o F a w→Region.wanted o (yielded ops a.tmps)=false→S undef w
structure HZ (P:Program) (ops:Array Oper) (Env:World→Prop) (Rl:World→World→Prop) (Pn:List PanicEntry→World→Prop) (N:Nat) (F:cp) (Z:iN) (o:Oper) (S:dx) (Z':iN):Prop where
 call:jF o=true
 stable:bR Rl S
 zst:cH Z'
 dst:∀d,o.dst=some d→d<N
 yes:∀a w,a.tmps.size=N→Env w→lH ops o F a w→Z w→Region.wanted o (yielded ops a.tmps)=true→uZ P Rl Pn w S Z' ((execOp a.eval o).run P w)
 no:∀a w,a.tmps.size=N→Env w→lH ops o F a w→Z w→Region.wanted o (yielded ops a.tmps)=false→S undef w∧Z' w
def fp (P:Program) (ops:Array Oper) (Env:World→Prop) (Rl:World→World→Prop) (mo:Bool) (Pn:List PanicEntry→World→Prop) (N:Nat) (F:cp) (Z:iN) (o:Oper) (S:dx) (Z':iN):Prop:=
 (G6 P ops Env Rl N F o S∧Z'=Z)∨(mo=true∧HZ P ops Env Rl Pn N F Z o S Z')
def fg (P:Program) (ops:Array Oper) (Env:World→Prop) (Rl:World→World→Prop) (mo:Bool) (Pn:List PanicEntry→World→Prop) (N:Nat):List Oper→cp→iN→(cp→iN→Prop)→Prop
 |[],F,Z,K=>K F Z
 |o::rest,F,Z,K=>(∀t,bR Rl (F t))→cH Z→∃S Z',fp P ops Env Rl mo Pn N F Z o S Z'∧fg P ops Env Rl mo Pn N rest (iz F o.dst S) Z' K
theorem iA:∀(l:List Oper) (F:cp) (Z:iN) {K K':cp→iN→Prop},(∀F Z,K F Z→K' F Z)→fg P ops Env Rl mo Pn N l F Z K→fg P ops Env Rl mo Pn N l F Z K'
 |[],F,Z,_,_,hK,h=>hK _ _ h
 |o::l,F,Z,_,_,hK,h=>fun hF hZ=>by
  obtain⟨S,Z',h1,h2⟩:=h hF hZ
  exact⟨S,Z',h1,iA l _ _ hK h2⟩
theorem gp {o:Oper} {F:cp} {d:Option Tmp} {S:dx} (h:∀e,d=some e→e∉o.looksAt ops) (a:Act) (w:World):lH ops o (iz F d S) a w↔lH ops o F a w:=by
 unfold lH
 constructor
 ·intro hs t ht
  have:=hs t ht
  rwa [AH F S (fun e he=>by rintro rfl;exact h _ he ht)] at this
 ·intro hs t ht
  rw[AH F S (fun e he=>by rintro rfl;exact h _ he ht)]
  exact hs t ht
theorem fp.of_upd {o:Oper} {F:cp} {Z Z':iN} {d:Option Tmp} {S R:dx} (h:∀e,d=some e→e∉o.looksAt ops) (hs:fp P ops Env Rl mo Pn N (iz F d S) Z o R Z'):fp P ops Env Rl mo Pn N F Z o R Z':=by
 rcases hs with⟨hs,hz⟩|⟨hm,hs⟩
 ·exact .inl ⟨⟨hs.stable,hs.dst,fun a w h1 h2 h3=>hs.yes a w h1 h2 ((gp h a w).2 h3),fun a w h1 h2 h3=>hs.no a w h1 h2 ((gp h a w).2 h3)⟩,hz⟩
 ·exact .inr ⟨hm,⟨hs.call,hs.stable,hs.zst,hs.dst,fun a w h1 h2 h3=>hs.yes a w h1 h2 ((gp h a w).2 h3),fun a w h1 h2 h3=>hs.no a w h1 h2 ((gp h a w).2 h3)⟩⟩
theorem fp.to_upd {o:Oper} {F:cp} {Z Z':iN} {d:Option Tmp} {S R:dx} (h:∀e,d=some e→e∉o.looksAt ops) (hs:fp P ops Env Rl mo Pn N F Z o R Z'):fp P ops Env Rl mo Pn N (iz F d S) Z o R Z':=by
 rcases hs with⟨hs,hz⟩|⟨hm,hs⟩
 ·exact .inl ⟨⟨hs.stable,hs.dst,fun a w h1 h2 h3=>hs.yes a w h1 h2 ((gp h a w).1 h3),fun a w h1 h2 h3=>hs.no a w h1 h2 ((gp h a w).1 h3)⟩,hz⟩
 ·exact .inr ⟨hm,⟨hs.call,hs.stable,hs.zst,hs.dst,fun a w h1 h2 h3=>hs.yes a w h1 h2 ((gp h a w).1 h3),fun a w h1 h2 h3=>hs.no a w h1 h2 ((gp h a w).1 h3)⟩⟩
theorem fp.stable {o:Oper} {F:cp} {Z Z':iN} {S:dx} (h:fp P ops Env Rl mo Pn N F Z o S Z'):bR Rl S:=h.elim (·.1.stable) (·.2.stable)
theorem fp.zst {o:Oper} {F:cp} {Z Z':iN} {S:dx} (h:fp P ops Env Rl mo Pn N F Z o S Z') (hZ:cH Z):cH Z':=h.elim (fun h=>h.2▸hZ) (·.2.zst)
theorem fp.swap {oi oj:Oper} {F:cp} {Z Z' Z'':iN} {S R:dx} (hi:fp P ops Env Rl mo Pn N F Z oi S Z') (hj:fp P ops Env Rl mo Pn N (iz F oi.dst S) Z' oj R Z'')
 (h1:∀e,oi.dst=some e→e∉oj.looksAt ops) (h3:∀e,oj.dst=some e→e∉oi.looksAt ops) (hx:¬(mo=true∧jF oi=true∧jF oj=true)):
 ∃Z1,fp P ops Env Rl mo Pn N F Z oj R Z1∧fp P ops Env Rl mo Pn N (iz F oj.dst R) Z1 oi S Z'':=by
 have hj:=hj.of_upd h1
 have hi':=hi
 rcases hi' with⟨hq,rfl⟩|⟨hm,hq⟩
 ·refine⟨Z'',hj,fp.to_upd h3 (.inl ⟨hq,rfl⟩)⟩
 ·rcases hj with⟨hr,rfl⟩|⟨_,hr⟩
  ·exact⟨Z,.inl ⟨hr,rfl⟩,fp.to_upd h3 hi⟩
  ·exact absurd ⟨hm,hq.call,hr.call⟩ hx
def gG (P:Program) (md:Region.Mode) (ops:Array Oper) (Env:World→Prop) (Rl:World→World→Prop) (mo:Bool) (Pn:List PanicEntry→World→Prop) (N n:Nat) (L:Array Bool→cp→iN→Prop):Nat→Array Bool→cp→iN→Prop
 |0,listed,F,Z=>L listed F Z
 |f+1,listed,F,Z=>
  Region.ready md ops listed≠[]∧∀i∈Region.ready md ops listed,i<n∧∃o S Z',ops[i]? =some o∧fp P ops Env Rl mo Pn N F Z o S Z'∧gG P md ops Env Rl mo Pn N n L f (listed.setIfInBounds i true) (iz F o.dst S) Z'
theorem xd.put {D:List Deferred} {F:cp} {a:Act} {w w':World} (hs:xd N D F a w) (hst:∀t,bR Rl (F t)) (he:Rl w w') {dst:Option Tmp} (hd:∀d,dst=some d→d<N) {S:dx} {v:Value} (hv:S v w'):
 xd N D (iz F dst S) (a.put dst v) w':=by
 cases dst with
 |none=>exact⟨hs.size,hs.defers,fun t=>hst t _ _ _ (hs.at_ t) he⟩
 |some d=>
  refine⟨by simp[Act.put,hs.size],hs.defers,fun t=>?_⟩
  have hlt:=hd d rfl
  by_cases htd:t=d
  ·subst htd
   rw[jZ]
   have:(a.put (some t) v).tmps.getD t undef=v:=by
    simp[Act.put,hs.size,hlt]
   rw[this]
   exact hv
  ·rw[lN F S htd]
   have:(a.put (some d) v).tmps.getD t undef=a.tmps.getD t undef:=by
    simp[Act.put,Array.getElem?_setIfInBounds_ne (Ne.symm htd)]
   rw[this]
   exact hst t _ _ _ (hs.at_ t) he
theorem jm {F:cp} (hst:∀t,bR Rl (F t)) {d:Option Tmp} {S:dx} (hS:bR Rl S):∀t,bR Rl (iz F d S t):=by
 intro t
 cases d with
 |none=>exact hst t
 |some d=>
  by_cases h:t=d
  ·subst h;rw[jZ];exact hS
  ·rw[lN F S h];exact hst t
def iB (l0:List (Nat×Value)) (a:Act):Prop:=∀p∈l0,a.tmps.getD p.1 undef=p.2
theorem iB.put {l0:List (Nat×Value)} {a:Act} (h:iB l0 a) {dst:Option Tmp} (hd:∀d,dst=some d→∀p∈l0,p.1≠d) (v:Value):iB l0 (a.put dst v):=fun p hp=>by
 cases dst with
 |none=>exact h p hp
 |some d=>
  have:(a.put (some d) v).tmps.getD p.1 undef=a.tmps.getD p.1 undef:=by
   simp[Act.put,Array.getElem?_setIfInBounds_ne (Ne.symm (hd d rfl p hp))]
  rw[this]
  exact h p hp
theorem u4 {l0:List (Nat×Value)} {D:List Deferred} {i:Nat} {o:Oper} {F:cp} {Z Z':iN} {S:dx} {a:Act} {w:World} {K:Act→World→Prop} {Q:Exit→Act→World→Prop} (hE:fE Env Rl) (hP:∀c a w,a.tmps.size=N→a.defers=D→iB l0 a→Pn c w→Q (.panic c) a w) (hi:ops[i]? =some o) (hs:fp P ops Env Rl mo Pn N F Z o S Z')
 (hF:∀t,bR Rl (F t)) (hZ:cH Z) (he:Env w) (hsat:xd N D F a w) (hk:iB l0 a) (hd0:∀d,o.dst=some d→∀p∈l0,p.1≠d) (hz:Z w) (h:∀a' w',Env w'→xd N D (iz F o.dst S) a' w'→iB l0 a'→Z' w'→K a' w'):wpOp P ops Q i K a w:=by
 have rr:∀w,Rl w w:=fun w=>hE.ext w w (aM.refl w)
 unfold wpOp
 simp only[hi]
 have hon:lH ops o F a w:=fun t _=>hsat.at_ t
 split
 ·rename_i hw
  refine .inl ?_
  rcases hs with⟨hs,rfl⟩|⟨_,hs⟩
  ·have h1:=hs.yes a w hsat.size he hon hw
   unfold Oper.wp
   generalize (execOp a.eval o).run P w=r at h1
   cases r with
   |ok n w'=>
    cases n<;>simp only[od] at h1<;>simp only[Oper.upon]
    case value v=>exact h _ _ (hE.keep _ _ he (hE.ext _ _ h1.1)) (hsat.put hF (hE.ext _ _ h1.1) hs.dst h1.2) (hk.put hd0 _) (hZ _ _ hz h1.1)
    case skip=>exact h _ _ (hE.keep _ _ he (hE.ext _ _ h1.1)) (hsat.put hF (hE.ext _ _ h1.1) hs.dst h1.2) (hk.put hd0 _) (hZ _ _ hz h1.1)
    case enter f args=>
     refine h1.2.mono ?_
     rintro e w'' ⟨v,rfl,hx,hv⟩
     exact h _ _ (hE.keep _ _ he (hE.ext _ _ hx)) (hsat.put hF (hE.ext _ _ hx) hs.dst hv) (hk.put hd0 _) (hZ _ _ hz hx)
   |halt x w'=>simp only[od] at h1
  ·have h1:=hs.yes a w hsat.size he hon hz hw
   unfold Oper.wp
   generalize (execOp a.eval o).run P w=r at h1
   cases r with
   |ok n w'=>
    cases n<;>simp only[uZ] at h1<;>simp only[Oper.upon]
    case enter f args=>
     refine h1.mono ?_
     rintro e w'' (⟨v,rfl,hx,hv,hz'⟩|⟨c,rfl,hp⟩)
     ·exact h _ _ (hE.keep _ _ he hx) (hsat.put hF hx hs.dst hv) (hk.put hd0 _) hz'
     ·exact hP _ _ _ hsat.size hsat.defers hk hp
   |halt x w'=>simp only[uZ] at h1
 ·rename_i hw
  have hw:Region.wanted o (yielded ops a.tmps)=false:=by simpa using hw
  rcases hs with⟨hs,rfl⟩|⟨_,hs⟩
  ·exact h _ _ he (hsat.put hF (rr _) hs.dst (hs.no a w hsat.size he hon hw)) (hk.put hd0 _) hz
  ·have h1:=hs.no a w hsat.size he hon hz hw
   exact h _ _ he (hsat.put hF (rr _) hs.dst h1.1) (hk.put hd0 _) h1.2
theorem eU {l0:List (Nat×Value)} {D:List Deferred} {n g:Nat} {L:Array Bool→cp→iN→Prop} {Q':Exit→Act→World→Prop} (hE:fE Env Rl) (hP:∀c a w,a.tmps.size=N→a.defers=D→iB l0 a→Pn c w→Q' (.panic c) a w)
 (hd0:∀i o,i<n→ops[i]? =some o→∀d,o.dst=some d→∀p∈l0,p.1≠d)
 (hL:∀listed F Z,L listed F Z→(∀t,bR Rl (F t))→cH Z→∀a w,Env w→xd N D F a w→Z w→wpAny P md ops Q' g listed a w):
 ∀(f:Nat) (listed:Array Bool) (F:cp) (Z:iN),gG P md ops Env Rl mo Pn N n L f listed F Z→(∀t,bR Rl (F t))→cH Z→∀a w,Env w→xd N D F a w→iB l0 a→Z w→wpAny P md ops Q' (f+g) listed a w
 |0,listed,F,Z,h,hF,hZ,a,w,he,hs,_,hz=>by rw[Nat.zero_add];exact hL _ _ _ h hF hZ a w he hs hz
 |f+1,listed,F,Z,h,hF,hZ,a,w,he,hs,hk,hz=>by
  rw[show f+1+g=(f+g)+1 by omega]
  refine⟨fun h0=>absurd h0 h.1,fun i hi=>?_⟩
  obtain⟨hin,o,S,Z',ho,hspec,hrest⟩:=h.2 i hi
  exact u4 hE hP ho hspec hF hZ he hs hk (hd0 i o hin ho) hz (fun a' w' he' hs' hk' hz'=>eU hE hP hd0 hL f _ _ _ hrest (jm hF hspec.stable) (hspec.zst hZ) a' w' he' hs' hk' hz')
def rl (md:Region.Mode) (ops:Array Oper):Nat→Nat→Nat→Bool
 |0,_,_=>false
 |f+1,j,i=>Region.waitsFor md ops j i||(List.range ops.size).any fun k=>Region.waitsFor md ops j k&&rl md ops f k i
def zf (ops:Array Oper) (i:Nat):Bool:=match ops[i]? with|some o=>jF o|none=>false
def fW (md:Region.Mode) (ops:Array Oper):Bool:=(List.range ops.size).all fun j=> !zf ops j||(List.range j).all fun i=> !zf ops i||rl md ops ops.size j i
theorem oe {n:Nat} {listed:Array Bool} (inv:HeadInv md ops n listed) {i:Nat}:∀(f j:Nat),rl md ops f j i=true→(∀oj,ops[j]? =some oj→∀e∈oj.after,Region.binds md e=true→listed.getD e.on false=true)→listed.getD i false=true
 |0,_,h,_=>by simp[rl] at h
 |f+1,j,h,hj=>by
  simp only[rl,Bool.or_eq_true,List.any_eq_true,Bool.and_eq_true] at h
  rcases h with h|⟨k,_,h1,h2⟩
  ·obtain⟨oj,ho,e,he,hb,hon⟩:=Region.waitsFor_spec h
   rw[←hon]
   exact hj oj ho e he hb
  ·obtain⟨oj,ho,e,he,hb,hon⟩:=Region.waitsFor_spec h1
   have hk:=hj oj ho e he hb
   rw[hon] at hk
   exact oe inv f k h2 fun ok hok e he hb=>inv.closed k ok hok hk e he hb
theorem BL {n:Nat} {listed:Array Bool} (hc:fW md ops=true) (inv:HeadInv md ops n listed) {i j:Nat} {oi oj:Oper} (hi:i∈Region.ready md ops listed) (hj:j∈Region.ready md ops listed) (hoi:ops[i]? =some oi) (hoj:ops[j]? =some oj) (hne:j≠i):¬(jF oi=true∧jF oj=true):=by
 rintro⟨h1,h2⟩
 have key:∀{i j:Nat} {oi oj:Oper},i∈Region.ready md ops listed→j∈Region.ready md ops listed→ops[i]? =some oi→ops[j]? =some oj→jF oi=true→jF oj=true→i<j→False:=by
  intro i j oi oj hi hj hoi hoj h1 h2 hlt
  obtain⟨hun,_⟩:=mem_ready.1 hi
  obtain⟨_,oj',hoj',hall⟩:=mem_ready.1 hj
  have hjs:j<ops.size:=(Array.getElem?_eq_some_iff.1 hoj).1
  have h3:=List.all_eq_true.1 hc j (List.mem_range.2 hjs)
  simp only[zf,hoj,h2,Bool.not_true,Bool.false_or,List.all_eq_true,List.mem_range,Bool.or_eq_true,Bool.not_eq_true'] at h3
  have h4:=h3 i hlt
  simp only[hoi,h1] at h4
  have h4:=h4.resolve_left (by simp)
  have h5:=oe inv _ _ h4 fun o ho e he hb=>by
   have:o=oj':=Option.some.inj (ho.symm.trans hoj')
   subst this
   exact hall e he hb
  rw[getD_both hun] at h5
  cases h5
 rcases Nat.lt_or_ge i j with h|h
 ·exact key hi hj hoi hoj h1 h2 h
 ·exact key hj hi hoj hoi h2 h1 (by omega)
theorem jP {n i:Nat} {oi:Oper} {S:dx} {L:Array Bool→cp→iN→Prop} (hi:ops[i]? =some oi) (hcalls:mo=true→fW md ops=true) (hin:i<n)
 (htail:∀listed,HeadInv md ops n listed→listed.getD i true=false→∀t,n≤t→t∉Region.ready md ops listed)
 (hdone:∀listed F Z,L listed F Z→∀j∈Region.ready md ops listed,n≤j):
 ∀(f:Nat) (listed:Array Bool) (F:cp) (Z Z':iN),HeadInv md ops n listed→
  (∀j oj,ops[j]? =some oj→j≠i→listed.getD j true=false→(∀e∈oj.after,Region.binds md e=true→e.on≠i)→oi.apart ops oj=true)→
  i∈Region.ready md ops listed→fp P ops Env Rl mo Pn N F Z oi S Z'→
  gG P md ops Env Rl mo Pn N n L f (listed.setIfInBounds i true) (iz F oi.dst S) Z'→gG P md ops Env Rl mo Pn N n L (f+1) listed F Z:=by
 intro f
 induction f with
 |zero=>
  intro listed F Z Z' inv _ hr hy H
  have hun:=(mem_ready.1 hr).1
  refine⟨fun h=>(by rw[h] at hr;cases hr),fun j hj=>?_⟩
  have hjn:j<n:=by
   rcases Nat.lt_or_ge j n with h|h
   ·exact h
   ·exact absurd hj (htail listed inv hun j h)
  refine⟨hjn,?_⟩
  by_cases hji:j=i
  ·subst hji;exact⟨oi,S,Z',hi,hy,H⟩
  ·have:=hdone _ _ _ H j (ready_mono hj hji)
   omega
 |succ f ih=>
  intro listed F Z Z' inv hfree hr hy H
  have hun:=(mem_ready.1 hr).1
  refine⟨fun h=>(by rw[h] at hr;cases hr),fun j hj=>?_⟩
  have hjn:j<n:=by
   rcases Nat.lt_or_ge j n with h|h
   ·exact h
   ·exact absurd hj (htail listed inv hun j h)
  refine⟨hjn,?_⟩
  by_cases hji:j=i
  ·subst hji;exact⟨oi,S,Z',hi,hy,H⟩
  ·obtain⟨_,oj,R,Z'',hoj,hspec,hrest⟩:=H.2 j (ready_mono hj hji)
   obtain⟨hjun,oj',hoj',hall⟩:=mem_ready.1 hj
   obtain rfl:oj=oj':=Option.some.inj (hoj.symm.trans hoj')
   have hnot:∀e∈oj.after,Region.binds md e=true→e.on≠i:=fun e he hb heq=>by
    have h1:=hall e he hb
    rw[heq,getD_both hun] at h1
    cases h1
   obtain⟨h1,h2,h3⟩:=Oper.apart_spec (hfree j oj hoj hji hjun hnot)
   have hfree':∀k ok,ops[k]? =some ok→k≠i→(listed.setIfInBounds j true).getD k true=false→
    (∀e∈ok.after,Region.binds md e=true→e.on≠i)→oi.apart ops ok=true:=fun k ok hk hki hun hno=>by
    refine hfree k ok hk hki ?_ hno
    by_cases hjk:j=k
    ·subst hjk;exact hjun
    ·rw[getD_set_ne true hjk] at hun;exact hun
   obtain⟨Z1,hsj,hsi⟩:=fp.swap hy hspec h1 h3 fun⟨hm,hc⟩=>BL (hcalls hm) inv hr hj hi hoj hji hc
   refine⟨oj,R,Z1,hoj,hsj,ih (listed.setIfInBounds j true) _ _ _ (inv.set hj hjn) hfree' (ready_mono hr (Ne.symm hji)) hsi ?_⟩
   rw[Array.setIfInBounds_comm _ _ hji,←Dw F S R h2]
   exact hrest
theorem u5 {n i:Nat} {oi:Oper} {S:dx} {L:Array Bool→cp→iN→Prop} (hi:ops[i]? =some oi) (hcalls:mo=true→fW md ops=true)
 (hs:Region.sinkB md ops n=true) (hc:Region.chainB md ops n=true) (hn:n<ops.size) (hin:i<n)
 (hdone:∀listed F Z,L listed F Z→∀j∈Region.ready md ops listed,n≤j):
 ∀(f:Nat) (listed:Array Bool) (F:cp) (Z Z':iN),HeadInv md ops n listed→
  (∀j oj,ops[j]? =some oj→j≠i→listed.getD j true=false→(∀e∈oj.after,Region.binds md e=true→e.on≠i)→oi.apart ops oj=true)→
  i∈Region.ready md ops listed→fp P ops Env Rl mo Pn N F Z oi S Z'→
  gG P md ops Env Rl mo Pn N n L f (listed.setIfInBounds i true) (iz F oi.dst S) Z'→gG P md ops Env Rl mo Pn N n L (f+1) listed F Z:=
 jP hi hcalls hin (fun _ inv hun t ht=>tail_waits hs hc hn inv _ i rfl hin hun t ht) hdone
theorem np {n g:Nat} {Lq:cp→iN→Prop} (hcalls:mo=true→fW md ops=true) (hs:Region.sinkB md ops n=true) (hc:Region.chainB md ops n=true) (hn:n<ops.size):
 ∀(l:List Oper) (k:Nat) (listed:Array Bool) (F:cp) (Z:iN),(∀j,j<l.length→l[j]? =ops[k+j]?)→k+l.length=n→HeadInv md ops n listed→
 Region.lexHead md ops g l.length k listed=true→(∀t,bR Rl (F t))→cH Z→fg P ops Env Rl mo Pn N l F Z Lq→
 gG P md ops Env Rl mo Pn N n (fun listed' F' Z'=>Region.seqB md ops g n listed'=true∧Lq F' Z') l.length listed F Z
 |[],k,listed,F,Z,_,hk,_,hB,_,_,h=>by
  have:k=n:=by simpa using hk
  subst this
  exact⟨by simpa [Region.lexHead] using hB,h⟩
 |o::l,k,listed,F,Z,hl,hk,inv,hB,hF,hZ,h=>by
  have h0:ops[k]? =some o:=by simpa using(hl 0 (by simp)).symm
  simp only[List.length_cons,Region.lexHead,Bool.and_eq_true] at hB
  obtain⟨⟨hr,hf⟩,hB'⟩:=hB
  have hkn:k<n:=by simp only[List.length_cons] at hk;omega
  have hr':k∈Region.ready md ops listed:=by simpa using hr
  obtain⟨S,Z',hspec,hrest⟩:=h hF hZ
  exact u5 h0 hcalls hs hc hn hkn (fun listed' F' Z' hL=>seqB_ready hL.1) l.length listed F Z Z' inv (Region.free_spec h0 hf) hr' hspec
   (np hcalls hs hc hn l (k+1) _ _ _ (fun j hj=>by have:=hl (j+1) (by simp;omega);simpa [Nat.add_assoc,Nat.add_comm 1 j] using this) (by simp only[List.length_cons] at hk;omega) (inv.set hr' hkn) hB' (jm hF hspec.stable) (hspec.zst hZ) hrest)
theorem qJ {l0:List (Nat×Value)} {id:Nat} {Q:Exit→Act→World→Prop} {a:Act} {D:List Deferred} {F:cp} {Z:iN} {w:World} {l:List Oper} (n N:Nat) (hE:fE Env Rl) (hk:iB l0 a) (hd0:∀o∈l.take n,∀d,o.dst=some d→∀p∈l0,p.1≠d) (hP:∀c a w,a.tmps.size=N→a.defers=D→iB l0 a→Pn c w→Q (.panic c) a w) (hcalls:mo=true→fW .any l.toArray=true) (hm:P.follows .mixedOrders=true) (hB:Region.lexTailB .any l.toArray n=true)
 (hF:∀t,bR Rl (F t)) (hZ:cH Z) (hz:Z w) (he:Env w) (hsat:xd N D F a {w with drawn:=w.drawn+1})
 (h:fg P l.toArray Env Rl mo Pn N (l.take n) F Z (fun F Z=>∀a' w',Env w'→xd N D F a' w'→Z w'→wpList P l.toArray Q (l.drop n) a' w')):(Code.region id l.toArray true).wp P Q a w:=by
 have hdr:aM w {w with drawn:=w.drawn+1}:=⟨rfl,rfl,rfl,Nat.le_refl _,fun _ _=>rfl⟩
 simp only[Region.lexTailB,Bool.and_eq_true,decide_eq_true_eq] at hB
 obtain⟨⟨⟨⟨_,hn⟩,hs⟩,hc⟩,hlex⟩:=hB
 have hn':n<l.length:=by simpa using hn
 have htl:(l.take n).length=n:=by simp;omega
 have hdl:(l.drop n).length=l.toArray.size-n:=by simp
 have inv0:HeadInv .any l.toArray n (Array.replicate l.toArray.size false):=
  ⟨by simp,fun j oj _ hl=>(by rw[getD_replicate_false] at hl;cases hl),fun t _ ht=>getD_in (by simpa using ht) (getD_replicate_false _ _)⟩
 have H:=np (md:=.any) (g:=l.toArray.size-n) hcalls hs hc hn (l.take n) 0 _ _ _ (fun j hj=>by
  have hj':j<n:=by rw[htl] at hj;exact hj
  simp[hj']) (by simpa using htl) inv0 (by rw[htl];exact hlex) hF hZ h
 refine wp_region_any hm ?_
 have:=eU (D:=D) (Q':=Q) (g:=l.toArray.size-n) hE hP (fun i o hin ho=>hd0 o (List.mem_of_getElem? (i:=i) (by rw[List.getElem?_take_of_lt hin];simpa using ho))) (fun listed F Z hL hF hZ a' w' he hsat hz=>by
  have:=wpAny_of_seq (md:=.any) (Q':=Q) (l.drop n) n listed a' w' (fun j=>by simp[List.getElem?_drop]) (by rw[hdl];exact hL.1) (hL.2 a' w' he hsat hz)
  rwa [hdl] at this) _ _ _ _ H hF hZ a {w with drawn:=w.drawn+1} (hE.keep _ _ he (hE.ext _ _ hdr)) hsat hk (hZ _ _ hz hdr)
 rw[htl,show n+(l.toArray.size-n)=l.toArray.size by omega] at this
 exact this
abbrev G7:List PanicEntry→World→Prop:=fun _ _=>False
end
end Go.Rl
namespace Go.Rl
open Go.RowKit
abbrev Fr:=List (Nat×Value)
def lk:Fr→Nat→Option Value
 |[],_=>none
 |(t,v)::l,s=>match Nat.beq t s with|true=>some v|false=>lk l s
def ev (l:Fr):Operand→Option Value
 |.tmp t=>lk l t
 |.const v=>some v
 |.global g=>some (.pointer (some ⟨g,0,none⟩))
 |.func f=>some (.func (.func f) #[] #[])
structure At (N:Nat) (D:List Deferred) (l:Fr) (a:Act):Prop where
 size:a.tmps.size=N
 defers:a.defers=D
 at_:∀t v,lk l t=some v→a.tmps.getD t undef=v
theorem At.ev {N:Nat} {D:List Deferred} {l:Fr} {a:Act} (h:At N D l a) {x:Operand} {v:Value} (hx:ev l x=some v):a.eval x=v:=by
 cases x with
 |tmp t=>exact h.at_ t v hx
 |const c=>exact Option.some.inj hx
 |global g=>exact Option.some.inj hx
 |func f=>exact Option.some.inj hx
theorem iW (d:Nat) (v:Value) (l:Fr):lk ((d,v)::l) d=some v:=by simp[lk]
theorem kC {d t:Nat} (v:Value) (l:Fr) (h:t≠d):lk ((d,v)::l) t=lk l t:=by
 have:Nat.beq d t=false:=by
  cases hb:Nat.beq d t
  ·rfl
  ·exact absurd (Nat.eq_of_beq_eq_true hb).symm h
 simp[lk,this]
theorem At.put {N:Nat} {D:List Deferred} {l:Fr} {a:Act} (h:At N D l a) {d:Nat} (hd:Nat.blt d N=true) (v:Value):At N D ((d,v)::l) (a.put (some d) v):=by
 have hlt:d<N:=by simpa [Nat.blt_eq] using hd
 refine⟨by simp[Act.put,h.size],h.defers,fun t u ht=>?_⟩
 by_cases htd:t=d
 ·subst htd
  rw[iW] at ht
  obtain rfl:=Option.some.inj ht
  simp[Act.put,h.size,hlt]
 ·rw[kC v l htd] at ht
  have:=h.at_ t u ht
  rw[←this]
  simp[Act.put,Array.getElem?_setIfInBounds_ne (Ne.symm htd)]
def za:Fr→Fr→Prop
 |[],_=>True
 |(t,v)::l',l=>lk l t=some v∧za l' l
theorem Dx:∀{l' l:Fr},za l' l→∀t v,lk l' t=some v→lk l t=some v
 |[],_,_,t,v,h=>by simp[lk] at h
 |(s,u)::l',l,hs,t,v,h=>by
  by_cases hts:t=s
  ·subst hts
   rw[iW] at h
   obtain rfl:=Option.some.inj h
   exact hs.1
  ·rw[kC u l' hts] at h
   exact Dx hs.2 t v h
theorem At.weak {N:Nat} {D:List Deferred} {l l':Fr} {a:Act} (h:At N D l a) (hs:za l' l):At N D l' a:=⟨h.size,h.defers,fun t v ht=>h.at_ t v (Dx hs t v ht)⟩
abbrev fB:=Exit→Act→World→Prop
section
variable {P:Program} {ops:Array Oper} {Q:fB} {N:Nat} {D:List Deferred}
def bP (P:Program) (ops:Array Oper) (Q:fB) (N:Nat) (D:List Deferred) (l:Fr) (w:World) (os:List Oper):Prop:=∀a,At N D l a→wpList P ops Q os a w
def cW (P:Program) (Q:fB) (N:Nat) (D:List Deferred) (l:Fr) (w:World) (c:Code):Prop:=∀a,At N D l a→c.wp P Q a w
def fS (Q:fB) (N:Nat) (D:List Deferred) (l:Fr) (w:World):Prop:=∀a,At N D l a→Q .normal a w
def fX (Q:fB) (N:Nat) (D:List Deferred) (l:Fr) (w:World) (e:Exit):Prop:=∀a,At N D l a→Q e a w
section code
variable {l l':Fr} {w:World}
theorem af {x y:Code} (h:cW P (Exit.then (y.wp P Q) Q) N D l w x):cW P Q N D l w (.seq x y):=fun a ha=>wp_seq (h a ha)
theorem aq (h:fS Q N D l w):cW P Q N D l w .skip:=fun a ha=>wp_skip (h a ha)
theorem ac {y:Code} {Q':fB} (h:cW P Q N D l w y):fS (Exit.then (y.wp P Q) Q') N D l w:=fun a ha=>h a ha
theorem aJ {id:Nat} (h:fS Q N D l w):fS (Exit.inBlock id Q) N D l w:=fun a ha=>h a ha
theorem ax {id:Nat} {c:Code} (h:cW P (Exit.inBlock id Q) N D l w c):cW P Q N D l w (.block id c):=fun a ha=>wp_block (h a ha)
theorem aW {id:Nat} (h:fX Q N D l w (.exit id)):cW P Q N D l w (.exit id):=fun a ha=>wp_exit (h a ha)
theorem aA {K:Act→World→Prop} {id:Nat} (h:fX Q N D l w (.exit id)):fX (Exit.then K Q) N D l w (.exit id):=fun a ha=>h a ha
theorem aU {id:Nat} (h:fS Q N D l w):fX (Exit.inBlock id Q) N D l w (.exit id):=fun a ha=>by
 show(if id=id then Q .normal a w else Q (.exit id) a w)
 rw[if_pos rfl]
 exact h a ha
theorem pZ {id i:Nat} (hne:Nat.beq i id=false) (h:fX Q N D l w (.exit i)):fX (Exit.inBlock id Q) N D l w (.exit i):=fun a ha=>by
 show(if i=id then Q .normal a w else Q (.exit i) a w)
 rw[if_neg (fun e=>by subst e;simp at hne)]
 exact h a ha
theorem au (h:fX Q N D l w .ret):cW P Q N D l w .ret:=fun a ha=>wp_ret (h a ha)
theorem av {K:Act→World→Prop} (h:fX Q N D l w .ret):fX (Exit.then K Q) N D l w .ret:=fun a ha=>h a ha
theorem bc {id:Nat} (h:fX Q N D l w .ret):fX (Exit.inBlock id Q) N D l w .ret:=fun a ha=>h a ha
theorem u6 {fn:Func} {R:Ending→World→Prop} (hr:fn.results= #[]) (h:R (.returned (.tuple #[])) w):fX (bodyPost P fn R) N [] l w .ret:=fun a ha=>
 ⟨ha.defers,_,by simp[results,hr],h⟩
theorem aF {fn:Func} {R:Ending→World→Prop} {t:Tmp} {v:Value} (hr:fn.results= #[.tmp t]) (hv:lk l t=some v) (h:R (.returned v) w):fX (bodyPost P fn R) N [] l w .ret:=fun a ha=>
 ⟨ha.defers,v,by simp only[results,hr];simp[←ha.at_ t v hv],h⟩
theorem aH {fn:Func} {R:Ending→World→Prop} {t s:Tmp} {v u:Value} (hr:fn.results= #[.tmp t,.tmp s]) (hv:lk l t=some v) (hu:lk l s=some u) (h:R (.returned (.tuple #[v,u])) w):fX (bodyPost P fn R) N [] l w .ret:=fun a ha=>
 ⟨ha.defers,.tuple #[v,u],by simp only[results,hr];simp[←ha.at_ t v hv,←ha.at_ s u hu],h⟩
theorem kD {fn:Func} {R:Ending→World→Prop} {t s r:Tmp} {v u z:Value} (hr:fn.results= #[.tmp t,.tmp s,.tmp r]) (hv:lk l t=some v) (hu:lk l s=some u) (hz:lk l r=some z) (h:R (.returned (.tuple #[v,u,z])) w):fX (bodyPost P fn R) N [] l w .ret:=fun a ha=>
 ⟨ha.defers,.tuple #[v,u,z],by simp only[results,hr];simp[←ha.at_ t v hv,←ha.at_ s u hu,←ha.at_ r z hz],h⟩
theorem gH {fn:Func} {R:Ending→World→Prop} (hr:fn.results= #[]) (h:R (.returned (.tuple #[])) w):fS (bodyPost P fn R) N [] l w:=fun a ha=>
 ⟨ha.defers,_,by simp[results,hr],h⟩
theorem gZ {c:Operand} {x y:Code} {b:Bool} (hc:ev l c=some (.bool b)) (ht:b=true→cW P Q N D l w x) (hf:b=false→cW P Q N D l w y):cW P Q N D l w (.cond c x y):=fun a ha=>
 wp_cond_split (ha.ev hc) (fun h=>ht h a ha) (fun h=>hf h a ha)
theorem bi {c:Operand} {x y:Code} {p:Prop} {dp:Decidable p} (hc:ev l c=some (.bool (@decide p dp))) (ht:p→cW P Q N D l w x) (hf:¬p→cW P Q N D l w y):cW P Q N D l w (.cond c x y):=
 gZ hc (fun h=>ht (of_decide_eq_true h)) (fun h=>hf (of_decide_eq_false h))
theorem bB {c:Operand} {x y:Code} (hc:ev l c=some (.bool true)) (ht:cW P Q N D l w x):cW P Q N D l w (.cond c x y):=gZ hc (fun _=>ht) (fun h=>by cases h)
theorem cq {c:Operand} {x y:Code} (hc:ev l c=some (.bool false)) (hf:cW P Q N D l w y):cW P Q N D l w (.cond c x y):=gZ hc (fun h=>by cases h) (fun _=>hf)
theorem eV {c:Code} {α:Type} (fr:α→Fr) (H:α→World→Prop) (h:cW P (Exit.then (fun a w'=>∃x,At N D (fr x) a∧H x w') Q) N D l w c) (k:∀x w',H x w'→fS Q N D (fr x) w'):cW P Q N D l w c:=fun a ha=>
 wp_mono (h a ha) fun e a' w' hq=>by
  cases e with
  |normal=>
   obtain⟨x,hx,hH⟩:=hq
   exact k x w' hH a' hx
  |_=>exact hq
theorem cv {α:Type} {fr:α→Fr} {H:α→World→Prop} (x:α) (hs:za (fr x) l) (hH:H x w):fS (Exit.then (fun a w'=>∃x,At N D (fr x) a∧H x w') Q) N D l w:=fun _ ha=>⟨x,ha.weak hs,hH⟩
theorem bV {c:Code} {α:Type} (fr:α→Fr) (H:α→World→Prop) (mu:α→Nat) (x0:α) (hs:za (fr x0) l) (h0:H x0 w)
 (round:∀x w',H x w'→cW P (Exit.then (fun a w''=>∃y,At N D (fr y) a∧H y w''∧mu y<mu x) Q) N D (fr x) w' c):cW P Q N D l w (.loop c):=fun a ha=>by
 intro b k cs
 have go:∀(n:Nat) (x:α) (a:Act) (w:World),mu x<n→At N D (fr x) a→H x w→
  ∃e a' w',Q e a' w'∧Arrives P (lone (b.at a (.code c::.inLoop c::k)) cs w) b k cs e a' w':=by
  intro n
  induction n with
  |zero=>intro x a w hlt;omega
  |succ n ih=>
   intro x a w hlt hat hH
   obtain⟨e,a1,w1,hq,harr⟩:=round x w hH a hat b (.inLoop c::k) cs
   cases e with
   |normal=>
    obtain⟨y,hy,hHy,hm⟩:=hq
    obtain⟨e2,a2,w2,hq2,harr2⟩:=ih y a1 w1 (by omega) hy hHy
    exact⟨e2,a2,w2,hq2,.of_steps (Steps.trans harr (.one step_inLoop)) harr2⟩
   |exit id=>exact⟨_,a1,w1,hq,.pass (x:=.inLoop c) rfl (fun _ _=>.inl (by simp)) harr⟩
   |goto l=>exact⟨_,a1,w1,hq,.pass (x:=.inLoop c) rfl (fun _ _=>.inl (by simp)) harr⟩
   |ret=>exact⟨_,a1,w1,hq,.pass (x:=.inLoop c) rfl (fun _ _=>.inl (by simp)) harr⟩
   |panic ch=>exact⟨_,a1,w1,hq,.pass (x:=.inLoop c) rfl (fun _ _=>.inl (by simp)) harr⟩
   |outgrown=>exact⟨_,a1,w1,hq,.pass (x:=.inLoop c) rfl (fun _ _=>.inl (by simp)) harr⟩
 obtain⟨e,a',w',hq,harr⟩:=go (mu x0+1) x0 a w (by omega) (ha.weak hs) h0
 exact⟨e,a',w',hq,.of_steps (.one step_loop) harr⟩
theorem bM {α:Type} {fr:α→Fr} {H:α→World→Prop} {mu:α→Nat} {m:Nat} (y:α) (hs:za (fr y) l) (hH:H y w) (hm:mu y<m):fS (Exit.then (fun a w''=>∃y,At N D (fr y) a∧H y w''∧mu y<m) Q) N D l w:=fun _ ha=>⟨y,ha.weak hs,hH,hm⟩
theorem aa {id:Nat} {os:List Oper} (h:bP P os.toArray Q N D l w os):cW P Q N D l w (.region id os.toArray false):=fun a ha=>wp_region_lit (h a ha)
theorem ag (h:fS Q N D l w):bP P ops Q N D l w []:=fun a ha=>h a ha
end code
def dS:Nat→List Value→Fr
 |_,[]=>[]
 |i,v::vs=>(i,v)::dS (i+1) vs
theorem my:∀(vs:List Value) (i t:Nat) (v:Value),lk (dS i vs) t=some v→i≤t∧vs[t-i]? =some v
 |[],_,_,_,h=>by simp[dS,lk] at h
 |u::vs,i,t,v,h=>by
  by_cases hti:t=i
  ·subst hti
   rw[dS,iW] at h
   exact⟨Nat.le_refl _,by simpa using h⟩
  ·rw[dS,kC u _ hti] at h
   obtain⟨h1,h2⟩:=my vs (i+1) t v h
   refine⟨by omega,?_⟩
   rw[show t-i=(t-(i+1))+1 by omega]
   simpa using h2
theorem enter {f:FuncId} {fn:Func} {c:Code} {vs:List Value} {w:World} {R:Ending→World→Prop} (hf:P.funcs[f]? =some fn) (hb:fn.body=some c) (hN:fn.ntmps=N) (hle:Nat.ble vs.length N=true)
 (h:cW P (bodyPost P fn R) N [] (dS 0 vs) w c):Calls P f vs.toArray w R:=by
 have hle':vs.length≤N:=by simpa using hle
 refine calls_of_wp hf hb (h _ ⟨?_,rfl,fun t v ht=>?_⟩)
 ·simp[hN];omega
 ·obtain⟨_,h2⟩:=my vs 0 t v ht
  have h2':vs[t]? =some v:=by simpa using h2
  have hlt:t<vs.length:=by
   rcases Nat.lt_or_ge t vs.length with h|h
   ·exact h
   ·rw[List.getElem?_eq_none h] at h2';cases h2'
  rw[List.getElem?_eq_getElem hlt] at h2'
  simpa [Array.getElem?_append,hlt] using h2'
section ops
variable {l:Fr} {w w':World} {rest:List Oper} {d:Nat} {op:Op} {ty:TypeId} {pos:String} {aft:Array Edge}
def nf (l:Fr) (ρ:Operand→Value):Prop:=∀x v,ev l x=some v→ρ x=v
theorem fT {v:Value} (hd:Nat.blt d N=true) (hrun:∀ρ,nf l ρ→(execOp ρ ⟨some d,op,ty,pos,aft,none⟩).run P w=.ok (.value v) w') (k:bP P ops Q N D ((d,v)::l) w' rest):
 bP P ops Q N D l w (⟨some d,op,ty,pos,aft,none⟩::rest):=fun a ha=>by
 refine wpList_plain Jg fun K hK=>?_
 unfold Oper.wp
 rw[hrun a.eval fun x v hx=>ha.ev hx]
 exact hK _ _ (k _ (ha.put hd v))
theorem GE {op:Op} (hrun:∀ρ,nf l ρ→(execOp ρ ⟨none,op,ty,pos,aft,none⟩).run P w=.ok .skip w') (k:bP P ops Q N D l w' rest):
 bP P ops Q N D l w (⟨none,op,ty,pos,aft,none⟩::rest):=fun a ha=>by
 refine wpList_plain Jg fun K hK=>?_
 unfold Oper.wp
 rw[hrun a.eval fun x v hx=>ha.ev hx]
 exact hK _ _ (k _ ha)
def gv (ops:Array Oper) (l:Fr) (j:Nat):Option Value:=((ops[j]?).bind (·.dst)).bind (lk l)
theorem ro {a:Act} (ha:At N D l a) {j:Nat} {b:Bool} (h:gv ops l j=some (.bool b)):yielded ops a.tmps j=some b:=by
 unfold gv at h
 unfold yielded
 cases hd:(ops[j]?).bind (·.dst) with
 |none=>simp[hd] at h
 |some t=>
  simp only[hd,Option.bind_some] at h⊢
  have h1:=ha.at_ t _ h
  have:a.tmps[t]? =some (.bool b):=by
   cases hx:a.tmps[t]? with
   |none=>
    rw[Array.getD_eq_getD_getElem?,hx] at h1
    simp[undef] at h1
   |some u=>
    rw[Array.getD_eq_getD_getElem?,hx] at h1
    simpa using h1
  rw[this]
theorem al {dst:Option Tmp} {j:Nat} {b:Bool} (hg:gv ops l j=some (.bool b)) (k:bP P ops Q N D l w (⟨dst,op,ty,pos,aft,none⟩::rest)):bP P ops Q N D l w (⟨dst,op,ty,pos,aft,some (j,b)⟩::rest):=fun a ha=>by
 have h:=k a ha
 have hw1:Region.wanted ⟨dst,op,ty,pos,aft,none⟩ (yielded ops a.tmps)=true:=rfl
 have hw2:Region.wanted ⟨dst,op,ty,pos,aft,some (j,b)⟩ (yielded ops a.tmps)=true:=by simp[Region.wanted,ro ha hg]
 unfold wpList at h⊢
 rw[if_pos hw1] at h
 rw[if_pos hw2]
 exact h
theorem ao {j:Nat} {b b':Bool} (hd:Nat.blt d N=true) (hg:gv ops l j=some (.bool b')) (hb:b'= !b) (k:bP P ops Q N D ((d,undef)::l) w rest):bP P ops Q N D l w (⟨some d,op,ty,pos,aft,some (j,b)⟩::rest):=fun a ha=>by
 have hw2:Region.wanted ⟨some d,op,ty,pos,aft,some (j,b)⟩ (yielded ops a.tmps)=false:=by
  subst hb;simp[Region.wanted,ro ha hg]
 unfold wpList
 rw[if_neg (by rw[hw2];simp)]
 exact k _ (ha.put hd undef)
theorem cN {j:Nat} {b:Bool} {t:Tmp} (hd:Nat.blt d N=true) (ht:(ops[j]?).bind (·.dst)=some t) (hg:lk l t=some undef) (k:bP P ops Q N D ((d,undef)::l) w rest):bP P ops Q N D l w (⟨some d,op,ty,pos,aft,some (j,b)⟩::rest):=fun a ha=>by
 have h1:=ha.at_ t _ hg
 have hw2:Region.wanted ⟨some d,op,ty,pos,aft,some (j,b)⟩ (yielded ops a.tmps)=false:=by
  have:yielded ops a.tmps j=none:=by
   unfold yielded
   rw[ht,Option.bind_some]
   cases hx:a.tmps[t]? with
   |none=>rfl
   |some u=>
    rw[Array.getD_eq_getD_getElem?,hx] at h1
    simp only[Option.getD_some] at h1
    subst h1
    rfl
  simp[Region.wanted,this]
 unfold wpList
 rw[if_neg (by rw[hw2];simp)]
 exact k _ (ha.put hd undef)
theorem ae {x:Operand} {v:Value} (hx:ev l x=some v) (hd:Nat.blt d N=true) (k:bP P ops Q N D ((d,v)::l) w rest):bP P ops Q N D l w (⟨some d,.move x,ty,pos,aft,none⟩::rest):=
 fT hd (fun ρ hρ=>by show Result.ok (Next.value (ρ x)) w=_;rw[hρ x v hx]) k
theorem ab {x:Operand} {v:Value} (hx:ev l x=some v) (hd:Nat.blt d N=true) (k:bP P ops Q N D ((d,v)::l) w rest):bP P ops Q N D l w (⟨some d,.assign x,ty,pos,aft,none⟩::rest):=
 fT hd (fun ρ hρ=>by show Result.ok (Next.value (ρ x)) w=_;rw[hρ x v hx]) k
theorem aw {c x y:Operand} {u:Value} (hc:ev l c=some (.bool true)) (hx:ev l x=some u) (hd:Nat.blt d N=true)
 (k:bP P ops Q N D ((d,u)::l) w rest):bP P ops Q N D l w (⟨some d,.pick c x y,ty,pos,aft,none⟩::rest):=
 fT hd (fun ρ hρ=>by simp[execOp,hρ c _ hc,asBool,hρ x _ hx]) k
theorem aC {c x y:Operand} {v:Value} (hc:ev l c=some (.bool false)) (hy:ev l y=some v) (hd:Nat.blt d N=true)
 (k:bP P ops Q N D ((d,v)::l) w rest):bP P ops Q N D l w (⟨some d,.pick c x y,ty,pos,aft,none⟩::rest):=
 fT hd (fun ρ hρ=>by simp[execOp,hρ c _ hc,asBool,hρ y _ hy]) k
def bin (op:BinOp) (t:TypeId) (x y:Operand) (a b:Value):Sem Value:=do eqGuard op t x y a b;binOp op t a b
theorem ai {b:BinOp} {t t2:TypeId} {x y:Operand} {u v r:Value} (hx:ev l x=some u) (hy:ev l y=some v) (hd:Nat.blt d N=true) (hrun:(bin b t x y u v).run P w=.ok r w)
 (k:bP P ops Q N D ((d,r)::l) w rest):bP P ops Q N D l w (⟨some d,.binOp b t x y t2,ty,pos,aft,none⟩::rest):=
 fT hd (fun ρ hρ=>by
  have:execOp ρ ⟨some d,.binOp b t x y t2,ty,pos,aft,none⟩=(do pure (Next.value (←bin b t x y (ρ x) (ρ y))):Sem Next):=rfl
  rw[this,hρ x _ hx,hρ y _ hy,Sem.run_bind,hrun];rfl) k
theorem u7 {x:Operand} {u r:Value} {f:Value→Sem Value} (he:∀ρ,execOp ρ ⟨some d,op,ty,pos,aft,none⟩=(do pure (Next.value (←f (ρ x))):Sem Next)) (hx:ev l x=some u) (hd:Nat.blt d N=true) (hrun:(f u).run P w=.ok r w')
 (k:bP P ops Q N D ((d,r)::l) w' rest):bP P ops Q N D l w (⟨some d,op,ty,pos,aft,none⟩::rest):=
 fT hd (fun ρ hρ=>by rw[he,hρ x _ hx,Sem.run_bind,hrun];rfl) k
theorem ci {t:TypeId} {x:Operand} {u r:Value} {b:UnOp} (hx:ev l x=some u) (hd:Nat.blt d N=true) (hrun:(Op.unary b u).run P w=.ok r w)
 (k:bP P ops Q N D ((d,r)::l) w rest):bP P ops Q N D l w (⟨some d,.unOp b t x,ty,pos,aft,none⟩::rest):=u7 (f:=Op.unary b) (fun _=>rfl) hx hd hrun k
theorem aQ {s t:TypeId} {x:Operand} {u r:Value} (hx:ev l x=some u) (hd:Nat.blt d N=true) (hrun:(convert s t u).run P w=.ok r w')
 (k:bP P ops Q N D ((d,r)::l) w' rest):bP P ops Q N D l w (⟨some d,.convert s t x,ty,pos,aft,none⟩::rest):=u7 (f:=convert s t) (fun _=>rfl) hx hd hrun k
theorem am {t:TypeId} {x:Operand} {u r:Value} (hx:ev l x=some u) (hd:Nat.blt d N=true) (hrun:(Instr.loadAt t u).run P w=.ok r w)
 (k:bP P ops Q N D ((d,r)::l) w rest):bP P ops Q N D l w (⟨some d,.load t x,ty,pos,aft,none⟩::rest):=u7 (f:=Instr.loadAt t) (fun _=>rfl) hx hd hrun k
theorem ar {t:TypeId} {x y:Operand} {u v:Value} (hx:ev l x=some u) (hy:ev l y=some v) (hrun:(Instr.storeAt t u v).run P w=.ok () w')
 (k:bP P ops Q N D l w' rest):bP P ops Q N D l w (⟨none,.store t x y,ty,pos,aft,none⟩::rest):=
 GE (fun ρ hρ=>by
  have:execOp ρ ⟨none,.store t x y,ty,pos,aft,none⟩=(do Instr.storeAt t (ρ x) (ρ y);pure Next.skip:Sem Next):=rfl
  rw[this,hρ x _ hx,hρ y _ hy,Sem.run_bind,hrun];rfl) k
theorem ah {s:TypeId} {x:Operand} {n:Nat} {u r:Value} (hx:ev l x=some u) (hd:Nat.blt d N=true) (hrun:(Instr.fieldAt s u n).run P w=.ok r w)
 (k:bP P ops Q N D ((d,r)::l) w rest):bP P ops Q N D l w (⟨some d,.fieldAddr s x n,ty,pos,aft,none⟩::rest):=u7 (f:=fun u=>Instr.fieldAt s u n) (fun _=>rfl) hx hd hrun k
theorem aj {x:Operand} {n:Nat} {u r:Value} (hx:ev l x=some u) (hd:Nat.blt d N=true) (hrun:(Instr.extract u n).run P w=.ok r w)
 (k:bP P ops Q N D ((d,r)::l) w rest):bP P ops Q N D l w (⟨some d,.extract x n,ty,pos,aft,none⟩::rest):=u7 (f:=fun u=>Instr.extract u n) (fun _=>rfl) hx hd hrun k
theorem cY {t:TypeId} {x:Operand} {u r:Value} (hx:ev l x=some u) (hd:Nat.blt d N=true) (hrun:(Instr.box t u).run P w=.ok r w')
 (k:bP P ops Q N D ((d,r)::l) w' rest):bP P ops Q N D l w (⟨some d,.box t x,ty,pos,aft,none⟩::rest):=u7 (f:=Instr.box t) (fun _=>rfl) hx hd hrun k
theorem tP {t:TypeId} {x:Operand} {u r:Value} (hx:ev l x=some u) (hd:Nat.blt d N=true) (hrun:(Instr.arrayAt t u).run P w=.ok r w')
 (k:bP P ops Q N D ((d,r)::l) w' rest):bP P ops Q N D l w (⟨some d,.sliceToArrayPointer t x,ty,pos,aft,none⟩::rest):=u7 (f:=Instr.arrayAt t) (fun _=>rfl) hx hd hrun k
theorem bh {t:TypeId} {r:Value} (hd:Nat.blt d N=true) (hrun:(Instr.alloc t true (.tuple #[])).run P w=.ok r w')
 (k:bP P ops Q N D ((d,r)::l) w' rest):bP P ops Q N D l w (⟨some d,.alloc t,ty,pos,aft,none⟩::rest):=
 fT hd (fun ρ _=>by
  have:execOp ρ ⟨some d,.alloc t,ty,pos,aft,none⟩=(do pure (Next.value (←Instr.alloc t true (.tuple #[]))):Sem Next):=rfl
  rw[this,Sem.run_bind,hrun];rfl) k
theorem aB {t:TypeId} {x y:Operand} {u v r:Value} (hx:ev l x=some u) (hy:ev l y=some v) (hd:Nat.blt d N=true) (hrun:(Instr.indexAt t u v).run P w=.ok r w)
 (k:bP P ops Q N D ((d,r)::l) w rest):bP P ops Q N D l w (⟨some d,.indexAddr t x y,ty,pos,aft,none⟩::rest):=
 fT hd (fun ρ hρ=>by
  have:execOp ρ ⟨some d,.indexAddr t x y,ty,pos,aft,none⟩=(do pure (Next.value (←Instr.indexAt t (ρ x) (ρ y))):Sem Next):=rfl
  rw[this,hρ x _ hx,hρ y _ hy,Sem.run_bind,hrun];rfl) k
theorem kH {t:TypeId} {x y:Operand} {u v r:Value} (hx:ev l x=some u) (hy:ev l y=some v) (hd:Nat.blt d N=true) (hrun:(Instr.index t u v).run P w=.ok r w)
 (k:bP P ops Q N D ((d,r)::l) w rest):bP P ops Q N D l w (⟨some d,.index t x y,ty,pos,aft,none⟩::rest):=
 fT hd (fun ρ hρ=>by
  have:execOp ρ ⟨some d,.index t x y,ty,pos,aft,none⟩=(do pure (Next.value (←Instr.index t (ρ x) (ρ y))):Sem Next):=rfl
  rw[this,hρ x _ hx,hρ y _ hy,Sem.run_bind,hrun];rfl) k
theorem gq {t:TypeId} {x y:Operand} {u v r:Value} (hx:ev l x=some u) (hy:ev l y=some v) (hd:Nat.blt d N=true) (hrun:(Instr.makeSlice t u v).run P w=.ok r w')
 (k:bP P ops Q N D ((d,r)::l) w' rest):bP P ops Q N D l w (⟨some d,.makeSlice t x y,ty,pos,aft,none⟩::rest):=
 fT hd (fun ρ hρ=>by
  have:execOp ρ ⟨some d,.makeSlice t x y,ty,pos,aft,none⟩=(do pure (Next.value (←Instr.makeSlice t (ρ x) (ρ y))):Sem Next):=rfl
  rw[this,hρ x _ hx,hρ y _ hy,Sem.run_bind,hrun];rfl) k
def G8 (l:Fr):Option Operand→Option (Option Value)
 |none=>some none
 |some x=>(ev l x).map some
theorem zh {ρ:Operand→Value} (hρ:nf l ρ):∀{x:Option Operand} {v:Option Value},G8 l x=some v→x.map ρ=v
 |none,v,h=>by simpa [G8] using h
 |some x,v,h=>by
  cases he:ev l x with
  |none=>simp[G8,he] at h
  |some u=>
   simp only[G8,he,Option.map_some,Option.some.injEq] at h
   subst h
   simp[hρ x u he]
theorem cu {t:TypeId} {x:Operand} {lo hi mx:Option Operand} {u r:Value} {a b c:Option Value} (hx:ev l x=some u) (hlo:G8 l lo=some a) (hhi:G8 l hi=some b) (hmx:G8 l mx=some c) (hd:Nat.blt d N=true)
 (hrun:(Instr.sliceAt t u a b c).run P w=.ok r w) (k:bP P ops Q N D ((d,r)::l) w rest):bP P ops Q N D l w (⟨some d,.slice t x lo hi mx,ty,pos,aft,none⟩::rest):=
 fT hd (fun ρ hρ=>by
  have:execOp ρ ⟨some d,.slice t x lo hi mx,ty,pos,aft,none⟩=(do pure (Next.value (←Instr.sliceAt t (ρ x) (lo.map ρ) (hi.map ρ) (mx.map ρ))):Sem Next):=rfl
  rw[this,hρ x _ hx,zh hρ hlo,zh hρ hhi,zh hρ hmx,Sem.run_bind,hrun];rfl) k
def rt (l:Fr):List Operand→Option (List Value)
 |[]=>some []
 |x::xs=>match ev l x,rt l xs with|some v,some vs=>some (v::vs)|_,_=>none
theorem g0 {ρ:Operand→Value} (hρ:nf l ρ):∀{xs:List Operand} {vs:List Value},rt l xs=some vs→xs.map ρ=vs
 |[],vs,h=>by simpa [rt] using h
 |x::xs,vs,h=>by
  cases h1:ev l x with
  |none=>simp[rt,h1] at h
  |some v=>
   cases h2:rt l xs with
   |none=>simp[rt,h1,h2] at h
   |some vs'=>
    simp only[rt,h1,h2,Option.some.injEq] at h
    subst h
    simp[hρ x v h1,g0 hρ h2]
def FJ (l:Fr):List (Nat×Operand)→Option (List (Nat×Value))
 |[]=>some []
 |(i,x)::xs=>match ev l x,FJ l xs with|some v,some vs=>some ((i,v)::vs)|_,_=>none
theorem zi {ρ:Operand→Value} (hρ:nf l ρ):∀{xs:List (Nat×Operand)} {vs:List (Nat×Value)},FJ l xs=some vs→xs.map (fun(i,x)=>(i,ρ x))=vs
 |[],vs,h=>by simpa [FJ] using h
 |(i,x)::xs,vs,h=>by
  cases h1:ev l x with
  |none=>simp[FJ,h1] at h
  |some v=>
   cases h2:FJ l xs with
   |none=>simp[FJ,h1,h2] at h
   |some vs'=>
    simp only[FJ,h1,h2,Option.some.injEq] at h
    subst h
    simp[hρ x v h1,zi hρ h2]
theorem bm {t:TypeId} {ps:List (Nat×Operand)} {vs:List (Nat×Value)} {r:Value} (hp:FJ l ps=some vs) (hd:Nat.blt d N=true) (hrun:(Instr.build t vs.toArray).run P w=.ok r w)
 (k:bP P ops Q N D ((d,r)::l) w rest):bP P ops Q N D l w (⟨some d,.build t ps.toArray,ty,pos,aft,none⟩::rest):=
 fT hd (fun ρ hρ=>by
  have:execOp ρ ⟨some d,.build t ps.toArray,ty,pos,aft,none⟩=(do pure (Next.value (←Instr.build t (ps.toArray.map fun(i,x)=>(i,ρ x)))):Sem Next):=rfl
  rw[this,List.map_toArray,zi hρ hp,Sem.run_bind,hrun];rfl) k
theorem aN {t:TypeId} {n:Nat} {ps:List (Nat×Operand)} {vs:List (Nat×Value)} {r:Value} (hp:FJ l ps=some vs) (hd:Nat.blt d N=true) (hrun:(Instr.buildSlice t n vs.toArray).run P w=.ok r w')
 (k:bP P ops Q N D ((d,r)::l) w' rest):bP P ops Q N D l w (⟨some d,.buildSlice t n ps.toArray,ty,pos,aft,none⟩::rest):=
 fT hd (fun ρ hρ=>by
  have:execOp ρ ⟨some d,.buildSlice t n ps.toArray,ty,pos,aft,none⟩=(do pure (Next.value (←Instr.buildSlice t n (ps.toArray.map fun(i,x)=>(i,ρ x)))):Sem Next):=rfl
  rw[this,List.map_toArray,zi hρ hp,Sem.run_bind,hrun];rfl) k
theorem aG {x:Operand} {a:Addr} (hx:ev l x=some (.pointer (some a))) (hd:Nat.blt d N=true) (k:bP P ops Q N D ((d,.pointer (some a))::l) w rest):bP P ops Q N D l w (⟨some d,.nilCheck x,ty,pos,aft,none⟩::rest):=
 fT hd (fun ρ hρ=>by simp[execOp,hρ x _ hx]) k
theorem be {xs:List Operand} {vs:List Value} {ts:Array TypeId} {r:Value} (hp:rt l xs=some vs) (hd:Nat.blt d N=true) (hrun:(Builtin.append_ ts ty vs.toArray).run P w=.ok r w')
 (k:bP P ops Q N D ((d,r)::l) w' rest):bP P ops Q N D l w (⟨some d,.call {callee:=.builtin .append,args:=xs.toArray,argTypes:=ts},ty,pos,aft,none⟩::rest):=
 fT hd (fun ρ hρ=>by
  simp only[execOp,resolve,invoke,builtin,Sem.run_bind,Sem.run_pure,Result.andThen_ok,List.map_toArray,g0 hρ hp,hrun]) k
theorem aP {xs:List Operand} {vs:List Value} {ts:Array TypeId} {r:Value} (hp:rt l xs=some vs) (hd:Nat.blt d N=true) (hrun:(Builtin.len_ ts ty vs.toArray).run P w=.ok r w)
 (k:bP P ops Q N D ((d,r)::l) w rest):bP P ops Q N D l w (⟨some d,.call {callee:=.builtin .len,args:=xs.toArray,argTypes:=ts},ty,pos,aft,none⟩::rest):=
 fT hd (fun ρ hρ=>by
  simp only[execOp,resolve,invoke,builtin,Sem.run_bind,Sem.run_pure,Result.andThen_ok,List.map_toArray,g0 hρ hp,hrun]) k
theorem H0 {xs:List Operand} {vs:List Value} {ts:Array TypeId} {r:Value} (hp:rt l xs=some vs) (hd:Nat.blt d N=true) (hrun:(Builtin.min_ ts ty vs.toArray).run P w=.ok r w)
 (k:bP P ops Q N D ((d,r)::l) w rest):bP P ops Q N D l w (⟨some d,.call {callee:=.builtin .min,args:=xs.toArray,argTypes:=ts},ty,pos,aft,none⟩::rest):=
 fT hd (fun ρ hρ=>by
  simp only[execOp,resolve,invoke,builtin,Sem.run_bind,Sem.run_pure,Result.andThen_ok,List.map_toArray,g0 hρ hp,hrun]) k
theorem H1 {xs:List Operand} {vs:List Value} {ts:Array TypeId} {r:Value} (hp:rt l xs=some vs) (hd:Nat.blt d N=true) (hrun:(Builtin.max_ ts ty vs.toArray).run P w=.ok r w)
 (k:bP P ops Q N D ((d,r)::l) w rest):bP P ops Q N D l w (⟨some d,.call {callee:=.builtin .max,args:=xs.toArray,argTypes:=ts},ty,pos,aft,none⟩::rest):=
 fT hd (fun ρ hρ=>by
  simp only[execOp,resolve,invoke,builtin,Sem.run_bind,Sem.run_pure,Result.andThen_ok,List.map_toArray,g0 hρ hp,hrun]) k
theorem G9 {xs:List Operand} {vs:List Value} {ts:Array TypeId} {r:Value} (hp:rt l xs=some vs) (hd:Nat.blt d N=true) (hrun:(Builtin.copy_ ts ty vs.toArray).run P w=.ok r w')
 (k:bP P ops Q N D ((d,r)::l) w' rest):bP P ops Q N D l w (⟨some d,.call {callee:=.builtin .copy,args:=xs.toArray,argTypes:=ts},ty,pos,aft,none⟩::rest):=
 fT hd (fun ρ hρ=>by
  simp only[execOp,resolve,invoke,builtin,Sem.run_bind,Sem.run_pure,Result.andThen_ok,List.map_toArray,g0 hρ hp,hrun]) k
def az (P:Program) (f:FuncId):Prop:=∃fn,P.funcs[f]? =some fn∧(fn.name== "runtime.NumGoroutine")=false∧fn.body.isNone=false
theorem fi {f:FuncId} (h:az P f) (args:Array Value) (w:World):(callFunc f args).run P w=.ok (.enter f args) w:=by
 obtain⟨fn,h1,h2,h3⟩:=h
 have h2':¬fn.name= "runtime.NumGoroutine" :=by simpa using h2
 have h3':¬fn.body=none:=by intro h;simp[h] at h3
 unfold callFunc
 simp[Sem.run_bind,program,Sem.run,h1,h2',h3']
def bF (T:Value→World→Prop):Ending→World→Prop:=fun e w'=>∃v,e=.returned v∧T v w'
theorem bF.mono {P:Program} {f:FuncId} {args:Array Value} {w:World} {T T':Value→World→Prop} (h:Calls P f args w (bF T)) (hT:∀v w',T v w'→T' v w'):Calls P f args w (bF T'):=
 Calls.mono h fun _ _ ⟨v,he,hv⟩=>⟨v,he,hT _ _ hv⟩
theorem an {f:FuncId} {xs:List Operand} {vs:List Value} {ts:Array TypeId} {T:Value→World→Prop} (hf:az P f) (hp:rt l xs=some vs) (hd:Nat.blt d N=true) (hc:Calls P f vs.toArray w (bF T))
 (k:∀v w',T v w'→bP P ops Q N D ((d,v)::l) w' rest):bP P ops Q N D l w (⟨some d,.call {callee:=.value (.func f),args:=xs.toArray,argTypes:=ts},ty,pos,aft,none⟩::rest):=fun a ha=>by
 refine wpList_plain Jg fun K hK=>?_
 unfold Oper.wp
 have hr:(execOp a.eval ⟨some d,.call {callee:=.value (.func f),args:=xs.toArray,argTypes:=ts},ty,pos,aft,none⟩).run P w=.ok (.enter f vs.toArray) w:=by
  have hρ:nf l a.eval:=fun x v hx=>ha.ev hx
  simp only[execOp,resolve,List.map_toArray,g0 hρ hp,Act.eval,Deferred.ofValue,Sem.run_bind,Sem.run_pure,Result.andThen_ok,invoke,Array.append_empty,fi hf,Array.empty_append]
 rw[hr]
 refine hc.mono ?_
 rintro e w' ⟨v,rfl,hv⟩
 exact hK _ _ (k v w' hv _ (ha.put hd v))
end ops
end
end Go.Rl
namespace Go.Rl
open Go.RowKit
def qT (l:Fr):cp:=fun t=>match lk l t with|some v=>Is v|none=>Any
theorem fF {Rl:World→World→Prop} (l:Fr):∀t,bR Rl (qT l t):=fun t=>by
 unfold qT
 split
 ·exact bu.is _
 ·exact bu.any
def eu (F:cp):Operand→dx
 |.tmp t=>F t
 |.const c=>Is c
 |.global g=>Is (.pointer (some ⟨g,0,none⟩))
 |.func f=>Is (.func (.func f) #[] #[])
theorem jG {Rl:World→World→Prop} {F:cp} (hF:∀t,bR Rl (F t)) (x:Operand):bR Rl (eu F x):=by
 cases x with
 |tmp t=>exact hF t
 |_=>exact bu.is _
def pg:List dx→World→(List Value→Prop)→Prop
 |[],_,K=>K []
 |S::Ss,w,K=>∀v,S v w→pg Ss w (fun vs=>K (v::vs))
def Dy (w:World):List dx→List Value→Prop
 |[],[]=>True
 |S::Ss,v::vs=>S v w∧Dy w Ss vs
 |_,_=>False
theorem pg.use:∀{Ss:List dx} {w:World} {K:List Value→Prop} {vs:List Value},pg Ss w K→Dy w Ss vs→K vs
 |[],_,_,[],h,_=>h
 |[],_,_,_::_,_,h=>h.elim
 |_::_,_,_,[],_,h=>h.elim
 |_::_,_,K,v::_,h,h1=>pg.use (K:=fun vs=>K (v::vs)) (h _ h1.1) h1.2
def gU (F:cp) (w:World):List Nat→(Fr→Prop)→Prop
 |[],K=>K []
 |t::ts,K=>∀v,F t v w→gU F w ts (fun l=>K ((t,v)::l))
theorem gU.use {F:cp} {w:World} {N:Nat} {D:List Deferred} {a:Act} (hs:xd N D F a w):∀{ts:List Nat} {K:Fr→Prop},gU F w ts K→∃l,At N D l a∧K l
 |[],_,h=>⟨[],⟨hs.size,hs.defers,fun t v ht=>by simp[lk] at ht⟩,h⟩
 |t::ts,_,h=>by
  obtain⟨l,hl,hk⟩:=gU.use hs (h _ (hs.at_ t))
  refine⟨_,⟨hs.size,hs.defers,fun s v hv=>?_⟩,hk⟩
  by_cases hst:s=t
  ·subst hst
   rw[iW] at hv
   exact Option.some.inj hv
  ·rw[kC _ l hst] at hv
   exact hl.at_ s v hv
section
variable {P:Program} {ops:Array Oper} {Env:World→Prop} {Rl:World→World→Prop} {mo:Bool} {Pn:List PanicEntry→World→Prop} {Z:iN} {N:Nat} {D:List Deferred} {F:cp} {K:cp→iN→Prop} {rest:List Oper} {d:Nat} {op:Op} {ty:TypeId} {pos:String} {aft:Array Edge}
def AI (os:List Oper) (l0:List (Nat×Value)):Bool:=os.all fun o=>match o.dst with|some d=>l0.all fun p=> !(Nat.beq p.1 d)|none=>true
theorem BM (os:List Oper):AI os []=true:=List.all_eq_true.2 fun o _=>by cases o.dst<;>rfl
theorem ru {os:List Oper} {l0:List (Nat×Value)} (h:AI os l0=true):∀o∈os,∀d,o.dst=some d→∀p∈l0,p.1≠d:=fun o ho d hd p hp he=>by
 have h1:=List.all_eq_true.1 h o ho
 simp only[hd] at h1
 have h2:=List.all_eq_true.1 h1 p hp
 rw[he] at h2
 simp at h2
def FK:List (Nat×Value)→Fr→Prop
 |[],_=>True
 |p::l0,l=>lk l p.1=some p.2∧FK l0 l
theorem iB.of:∀{l0:List (Nat×Value)} {l:Fr} {a:Act},FK l0 l→At N D l a→iB l0 a
 |[],_,_,_,_=>fun _ h=>by cases h
 |q::l0,_,_,h,ha=>fun p hp=>by
  rcases List.mem_cons.1 hp with rfl|hp
  ·exact ha.at_ _ _ h.1
  ·exact iB.of h.2 ha p hp
theorem FL {Q:fB} {l:Fr} {w:World} {id:Nat} {os:List Oper} (n:Nat) (ts:List Nat) (l0:List (Nat×Value)) (Env:World→Prop) (Rl:World→World→Prop) (mo:Bool) (Pn:List PanicEntry→World→Prop) (Z:iN) (hE:fE Env Rl) (he:Env w) (hZ:cH Z) (hz:Z w) (hsub:FK l0 l) (hkb:AI (os.take n) l0=true) (hP:∀c a w,a.tmps.size=N→a.defers=D→iB l0 a→Pn c w→Q (.panic c) a w) (hcalls:mo=true→fW .any os.toArray=true) (hm:P.follows .mixedOrders=true) (hB:Region.lexTailB .any os.toArray n=true)
 (h:fg P os.toArray Env Rl mo Pn N (os.take n) (qT l) Z (fun F Z=>∀w',Env w'→Z w'→gU F w' ts (fun l'=>bP P os.toArray Q N D l' w' (os.drop n)))):cW P Q N D l w (.region id os.toArray true):=fun a ha=>by
 refine qJ (D:=D) (F:=qT l) (Z:=Z) (l0:=l0) n N hE (iB.of hsub ha) (ru hkb) hP hcalls hm hB (fF l) hZ hz he ⟨ha.size,ha.defers,fun t=>?_⟩ (iA _ _ _ (fun F Z hK a' w' he hs hz=>?_) h)
 ·show qT l t (a.tmps.getD t undef) _
  unfold qT
  cases hv:lk l t with
  |some v=>exact ha.at_ t v hv
  |none=>trivial
 ·obtain⟨l',hl',hk⟩:=gU.use hs (hK w' he hz)
  exact hk a' hl'
theorem jH {Q:fB} {l:Fr} {w:World} {id:Nat} {os:List Oper} (n:Nat) (ts:List Nat) (Env:World→Prop) (Rl:World→World→Prop) (mo:Bool) (Pn:List PanicEntry→World→Prop) (Z:iN) (hE:fE Env Rl) (he:Env w) (hZ:cH Z) (hz:Z w) (hP:∀c a w,a.defers=D→Pn c w→Q (.panic c) a w) (hcalls:mo=true→fW .any os.toArray=true) (hm:P.follows .mixedOrders=true) (hB:Region.lexTailB .any os.toArray n=true)
 (h:fg P os.toArray Env Rl mo Pn N (os.take n) (qT l) Z (fun F Z=>∀w',Env w'→Z w'→gU F w' ts (fun l'=>bP P os.toArray Q N D l' w' (os.drop n)))):cW P Q N D l w (.region id os.toArray true):=
 FL n ts [] Env Rl mo Pn Z hE he hZ hz trivial (BM _) (fun c a w _ hd _ hp=>hP c a w hd hp) hcalls hm hB h
theorem bA {Q:fB} {l:Fr} {w:World} {id:Nat} {os:List Oper} (n:Nat) (ts:List Nat) (hm:P.follows .mixedOrders=true) (hB:Region.lexTailB .any os.toArray n=true)
 (h:fg P os.toArray (aM w) aM false G7 N (os.take n) (qT l) (fun _=>True) (fun F _=>∀w',aM w w'→gU F w' ts (fun l'=>bP P os.toArray Q N D l' w' (os.drop n)))):cW P Q N D l w (.region id os.toArray true):=
 jH n ts (aM w) aM false G7 (fun _=>True) (fE.plain w) (aM.refl w) cH.triv trivial (fun _ _ _ _ h=>h.elim) (fun h=>by cases h) hm hB (iA _ _ _ (fun _ _ h w' he _=>h w' he) h)
theorem bG (h:K F Z):fg P ops Env Rl mo Pn N [] F Z K:=h
theorem kI {S:dx} (hst:(∀t,bR Rl (F t))→bR Rl S) (hd:Nat.blt d N=true)
 (hrun:∀(a:Act) (w:World),Env w→(∀x∈op.operands.toList,eu F x (a.eval x) w)→od P w S ((execOp a.eval ⟨some d,op,ty,pos,aft,none⟩).run P w))
 (k:fg P ops Env Rl mo Pn N rest (iz F (some d) S) Z K):fg P ops Env Rl mo Pn N (⟨some d,op,ty,pos,aft,none⟩::rest) F Z K:=fun hF _=>by
 have hlt:d<N:=by simpa [Nat.blt_eq] using hd
 refine⟨S,Z,.inl ⟨⟨hst hF,fun e he=>by obtain rfl:=Option.some.inj he;exact hlt,fun a w _ he hs _=>hrun a w he fun x hx=>?_,fun a w _ _ _ hw=>by simp[Region.wanted] at hw⟩,rfl⟩,k⟩
 cases x with
 |tmp t=>exact hs t (List.mem_append_left _ (List.mem_filterMap.2 ⟨.tmp t,hx,rfl⟩))
 |_=>rfl
theorem bg {j:Nat} {b:Bool} {t:Tmp} (ht:(ops[j]?).bind (·.dst)=some t) (hg:F t=Is (.bool b)) (k:fg P ops Env Rl mo Pn N (⟨some d,op,ty,pos,aft,none⟩::rest) F Z K):
 fg P ops Env Rl mo Pn N (⟨some d,op,ty,pos,aft,some (j,b)⟩::rest) F Z K:=fun hF hZ=>by
 obtain⟨S,Z',hs,hr⟩:=k hF hZ
 have val:∀(a:Act) (w:World),lH ops ⟨some d,op,ty,pos,aft,some (j,b)⟩ F a w→yielded ops a.tmps j=some b:=fun a w h=>by
  have h1:F t (a.tmps.getD t undef) w:=h t (List.mem_append_right _ (by simp[ht]))
  rw[hg] at h1
  have h1:a.tmps.getD t undef=.bool b:=h1
  unfold yielded
  rw[ht,Option.bind_some]
  cases hx:a.tmps[t]? with
  |none=>rw[Array.getD_eq_getD_getElem?,hx] at h1;simp[undef] at h1
  |some u=>rw[Array.getD_eq_getD_getElem?,hx] at h1;simp only[Option.getD_some] at h1;rw[h1]
 have sub:∀(a:Act) (w:World),lH ops ⟨some d,op,ty,pos,aft,some (j,b)⟩ F a w→lH ops ⟨some d,op,ty,pos,aft,none⟩ F a w:=fun a w h s hs=>h s (by
  simp only[Oper.looksAt,List.append_nil] at hs
  exact List.mem_append_left _ hs)
 rcases hs with⟨hs,hz⟩|⟨hm,hs⟩
 ·exact⟨S,Z',.inl ⟨⟨hs.stable,hs.dst,fun a w h1 h2 h3 _=>hs.yes a w h1 h2 (sub a w h3) rfl,fun a w _ _ h3 hw=>by simp[Region.wanted,val a w h3] at hw⟩,hz⟩,hr⟩
 ·exact⟨S,Z',.inr ⟨hm,⟨hs.call,hs.stable,hs.zst,hs.dst,fun a w h1 h2 h3 h4 _=>hs.yes a w h1 h2 (sub a w h3) h4 rfl,fun a w _ _ h3 _ hw=>by simp[Region.wanted,val a w h3] at hw⟩⟩,hr⟩
theorem Ha {j:Nat} {b:Bool} {t:Tmp} {u:Value} (hd:Nat.blt d N=true) (ht:(ops[j]?).bind (·.dst)=some t) (hg:F t=Is u) (hu:u=undef∨u=.bool (!b)) (k:fg P ops Env Rl mo Pn N rest (iz F (some d) (Is undef)) Z K):
 fg P ops Env Rl mo Pn N (⟨some d,op,ty,pos,aft,some (j,b)⟩::rest) F Z K:=fun _ _=>by
 have hlt:d<N:=by simpa [Nat.blt_eq] using hd
 have val:∀(a:Act) (w:World),lH ops ⟨some d,op,ty,pos,aft,some (j,b)⟩ F a w→yielded ops a.tmps j≠some b:=fun a w h=>by
  have h1:F t (a.tmps.getD t undef) w:=h t (List.mem_append_right _ (by simp[ht]))
  rw[hg] at h1
  have h1:a.tmps.getD t undef=u:=h1
  unfold yielded
  rw[ht,Option.bind_some]
  cases hx:a.tmps[t]? with
  |none=>simp
  |some z=>
   rw[Array.getD_eq_getD_getElem?,hx] at h1
   simp only[Option.getD_some] at h1
   subst h1
   rcases hu with rfl|rfl
   ·simp[undef]
   ·simp
 exact⟨Is undef,Z,.inl ⟨⟨bu.is _,fun e he=>by obtain rfl:=Option.some.inj he;exact hlt,fun a w _ _ h3 hw=>by
  have:=val a w h3
  simp[Region.wanted] at hw
  exact absurd hw this,fun _ _ _ _ _ _=>rfl⟩,rfl⟩,k⟩
theorem cB {j:Nat} {b:Bool} {t:Tmp} (hd:Nat.blt d N=true) (ht:(ops[j]?).bind (·.dst)=some t) (hg:F t=Is (.bool (!b))) (k:fg P ops Env Rl mo Pn N rest (iz F (some d) (Is undef)) Z K):
 fg P ops Env Rl mo Pn N (⟨some d,op,ty,pos,aft,some (j,b)⟩::rest) F Z K:=Ha hd ht hg (.inr rfl) k
theorem ap {x:Operand} {S:dx} (hx:eu F x=S) (hd:Nat.blt d N=true) (k:fg P ops Env Rl mo Pn N rest (iz F (some d) S) Z K):fg P ops Env Rl mo Pn N (⟨some d,.move x,ty,pos,aft,none⟩::rest) F Z K:=
 kI (fun hF=>hx▸jG hF x) hd (fun a w _ h=>by subst hx;exact⟨aM.refl _,h x (by simp[Op.operands])⟩) k
theorem eg {x:Operand} {S:dx} (hx:eu F x=S) (hd:Nat.blt d N=true) (k:fg P ops Env Rl mo Pn N rest (iz F (some d) S) Z K):fg P ops Env Rl mo Pn N (⟨some d,.assign x,ty,pos,aft,none⟩::rest) F Z K:=
 kI (fun hF=>hx▸jG hF x) hd (fun a w _ h=>by subst hx;exact⟨aM.refl _,h x (by simp[Op.operands])⟩) k
theorem rx {c x y:Operand} {S:dx} (hc:eu F c=Is (.bool true)) (hx:eu F x=S) (hd:Nat.blt d N=true) (k:fg P ops Env Rl mo Pn N rest (iz F (some d) S) Z K):fg P ops Env Rl mo Pn N (⟨some d,.pick c x y,ty,pos,aft,none⟩::rest) F Z K:=
 kI (fun hF=>hx▸jG hF x) hd (fun a w _ h=>by
  subst hx
  have h1:eu F c (a.eval c) w:=h c (by simp[Op.operands])
  rw[hc] at h1
  have h1:a.eval c=.bool true:=h1
  have:(execOp a.eval ⟨some d,.pick c x y,ty,pos,aft,none⟩).run P w=.ok (.value (a.eval x)) w:=by simp[execOp,h1,asBool]
  rw[this]
  exact⟨aM.refl _,h x (by simp[Op.operands])⟩) k
theorem lO {c x y:Operand} {S:dx} (hc:eu F c=Is (.bool false)) (hy:eu F y=S) (hd:Nat.blt d N=true) (k:fg P ops Env Rl mo Pn N rest (iz F (some d) S) Z K):fg P ops Env Rl mo Pn N (⟨some d,.pick c x y,ty,pos,aft,none⟩::rest) F Z K:=
 kI (fun hF=>hy▸jG hF y) hd (fun a w _ h=>by
  subst hy
  have h1:eu F c (a.eval c) w:=h c (by simp[Op.operands])
  rw[hc] at h1
  have h1:a.eval c=.bool false:=h1
  have:(execOp a.eval ⟨some d,.pick c x y,ty,pos,aft,none⟩).run P w=.ok (.value (a.eval y)) w:=by simp[execOp,h1,asBool]
  rw[this]
  exact⟨aM.refl _,h y (by simp[Op.operands])⟩) k
theorem xe {xs:List Operand} {S:dx} {f:List Value→Sem Value} (he:∀ρ,execOp ρ ⟨some d,op,ty,pos,aft,none⟩=(do pure (Next.value (←f (xs.map ρ))):Sem Next)) (hm:∀x∈xs,x∈op.operands.toList)
 (hst:bR Rl S) (hd:Nat.blt d N=true) (hrun:∀w,Env w→pg (xs.map (eu F)) w (fun vs=>∃r w',(f vs).run P w=.ok r w'∧aM w w'∧S r w'))
 (k:fg P ops Env Rl mo Pn N rest (iz F (some d) S) Z K):fg P ops Env Rl mo Pn N (⟨some d,op,ty,pos,aft,none⟩::rest) F Z K:=
 kI (fun _=>hst) hd (fun a w hw h=>by
  have hall:Dy w (xs.map (eu F)) (xs.map a.eval):=by
   clear hrun he
   induction xs with
   |nil=>trivial
   |cons x xs ih=>exact⟨h x (hm x (by simp)),ih (fun y hy=>hm y (by simp[hy]))⟩
  obtain⟨r,w',h1,h2,h3⟩:=pg.use (hrun w hw) hall
  rw[he,Sem.run_bind,h1]
  exact⟨h2,h3⟩) k
theorem jQ {xs:List Operand} {vs:List Value} {r:Value} {f:List Value→Sem Value} (he:∀ρ,execOp ρ ⟨some d,op,ty,pos,aft,none⟩=(do pure (Next.value (←f (xs.map ρ))):Sem Next)) (hm:∀x∈xs,x∈op.operands.toList)
 (hx:xs.map (eu F)=vs.map Is) (hd:Nat.blt d N=true) (hrun:∀w,Env w→(f vs).run P w=.ok r w)
 (k:fg P ops Env Rl mo Pn N rest (iz F (some d) (Is r)) Z K):fg P ops Env Rl mo Pn N (⟨some d,op,ty,pos,aft,none⟩::rest) F Z K:=
 kI (fun _=>bu.is _) hd (fun a w hw h=>by
  have hall:xs.map a.eval=vs:=by
   clear hrun he
   induction xs generalizing vs with
   |nil=>cases vs with
    |nil=>rfl
    |cons v vs=>simp at hx
   |cons x xs ih=>cases vs with
    |nil=>simp at hx
    |cons v vs=>
     simp only[List.map_cons,List.cons.injEq] at hx⊢
     have h1:=h x (hm x (by simp))
     rw[hx.1] at h1
     exact⟨h1,ih (fun y hy=>hm y (by simp[hy])) hx.2⟩
  rw[he,Sem.run_bind,hall,hrun w hw]
  exact⟨aM.refl _,rfl⟩) k
theorem aR {b:BinOp} {t t2:TypeId} {x y:Operand} {u v r:Value} (hx:eu F x=Is u) (hy:eu F y=Is v) (hd:Nat.blt d N=true) (hrun:∀w,Env w→(bin b t x y u v).run P w=.ok r w)
 (k:fg P ops Env Rl mo Pn N rest (iz F (some d) (Is r)) Z K):fg P ops Env Rl mo Pn N (⟨some d,.binOp b t x y t2,ty,pos,aft,none⟩::rest) F Z K:=
 jQ (xs:=[x,y]) (vs:=[u,v]) (f:=fun|[a,c]=>bin b t x y a c|_=>stuck "") (fun _=>rfl) (by simp[Op.operands]) (by simp[hx,hy]) hd hrun k
theorem xf {b:UnOp} {t:TypeId} {x:Operand} {u r:Value} (hx:eu F x=Is u) (hd:Nat.blt d N=true) (hrun:∀w,Env w→(Op.unary b u).run P w=.ok r w)
 (k:fg P ops Env Rl mo Pn N rest (iz F (some d) (Is r)) Z K):fg P ops Env Rl mo Pn N (⟨some d,.unOp b t x,ty,pos,aft,none⟩::rest) F Z K:=
 jQ (xs:=[x]) (vs:=[u]) (f:=fun|[a]=>Op.unary b a|_=>stuck "") (fun _=>rfl) (by simp[Op.operands]) (by simp[hx]) hd hrun k
theorem dh {s t:TypeId} {x:Operand} {u r:Value} (hx:eu F x=Is u) (hd:Nat.blt d N=true) (hrun:∀w,Env w→(convert s t u).run P w=.ok r w)
 (k:fg P ops Env Rl mo Pn N rest (iz F (some d) (Is r)) Z K):fg P ops Env Rl mo Pn N (⟨some d,.convert s t x,ty,pos,aft,none⟩::rest) F Z K:=
 jQ (xs:=[x]) (vs:=[u]) (f:=fun|[a]=>convert s t a|_=>stuck "") (fun _=>rfl) (by simp[Op.operands]) (by simp[hx]) hd hrun k
theorem FM {s t:TypeId} {x:Operand} {S S':dx} (hx:eu F x=S) (hst:bR Rl S') (hd:Nat.blt d N=true) (hrun:∀w v,Env w→S v w→∃r w',(convert s t v).run P w=.ok r w'∧aM w w'∧S' r w')
 (k:fg P ops Env Rl mo Pn N rest (iz F (some d) S') Z K):fg P ops Env Rl mo Pn N (⟨some d,.convert s t x,ty,pos,aft,none⟩::rest) F Z K:=
 xe (xs:=[x]) (f:=fun|[a]=>convert s t a|_=>stuck "") (fun _=>rfl) (by simp[Op.operands]) hst hd (fun w hw v hv=>by subst hx;exact hrun w v hw hv) k
theorem aD {t:TypeId} {x:Operand} {u r:Value} (hx:eu F x=Is u) (hd:Nat.blt d N=true) (hrun:∀w,Env w→(Instr.loadAt t u).run P w=.ok r w)
 (k:fg P ops Env Rl mo Pn N rest (iz F (some d) (Is r)) Z K):fg P ops Env Rl mo Pn N (⟨some d,.load t x,ty,pos,aft,none⟩::rest) F Z K:=
 jQ (xs:=[x]) (vs:=[u]) (f:=fun|[a]=>Instr.loadAt t a|_=>stuck "") (fun _=>rfl) (by simp[Op.operands]) (by simp[hx]) hd hrun k
theorem aL {s:TypeId} {n:Nat} {x:Operand} {u r:Value} (hx:eu F x=Is u) (hd:Nat.blt d N=true) (hrun:∀w,Env w→(Instr.fieldAt s u n).run P w=.ok r w)
 (k:fg P ops Env Rl mo Pn N rest (iz F (some d) (Is r)) Z K):fg P ops Env Rl mo Pn N (⟨some d,.fieldAddr s x n,ty,pos,aft,none⟩::rest) F Z K:=
 jQ (xs:=[x]) (vs:=[u]) (f:=fun|[a]=>Instr.fieldAt s a n|_=>stuck "") (fun _=>rfl) (by simp[Op.operands]) (by simp[hx]) hd hrun k
theorem dP {n:Nat} {x:Operand} {u r:Value} (hx:eu F x=Is u) (hd:Nat.blt d N=true) (hrun:∀w,Env w→(Instr.extract u n).run P w=.ok r w)
 (k:fg P ops Env Rl mo Pn N rest (iz F (some d) (Is r)) Z K):fg P ops Env Rl mo Pn N (⟨some d,.extract x n,ty,pos,aft,none⟩::rest) F Z K:=
 jQ (xs:=[x]) (vs:=[u]) (f:=fun|[a]=>Instr.extract a n|_=>stuck "") (fun _=>rfl) (by simp[Op.operands]) (by simp[hx]) hd hrun k
theorem ia {n:Nat} {x:Operand} {S S':dx} (hx:eu F x=S) (hst:bR Rl S') (hd:Nat.blt d N=true) (hrun:∀w v,Env w→S v w→∃r,(Instr.extract v n).run P w=.ok r w∧S' r w)
 (k:fg P ops Env Rl mo Pn N rest (iz F (some d) S') Z K):fg P ops Env Rl mo Pn N (⟨some d,.extract x n,ty,pos,aft,none⟩::rest) F Z K:=
 xe (xs:=[x]) (f:=fun|[a]=>Instr.extract a n|_=>stuck "") (fun _=>rfl) (by simp[Op.operands]) hst hd (fun w hw v hv=>by
  subst hx
  obtain⟨r,h1,h2⟩:=hrun w v hw hv
  exact⟨r,w,h1,aM.refl _,h2⟩) k
theorem bQ {x:Operand} {a:Addr} (hx:eu F x=Is (.pointer (some a))) (hd:Nat.blt d N=true) (k:fg P ops Env Rl mo Pn N rest (iz F (some d) (Is (.pointer (some a)))) Z K):fg P ops Env Rl mo Pn N (⟨some d,.nilCheck x,ty,pos,aft,none⟩::rest) F Z K:=
 kI (fun _=>bu.is _) hd (fun b w _ h=>by
  have h1:eu F x (b.eval x) w:=h x (by simp[Op.operands])
  rw[hx] at h1
  have h1:b.eval x=.pointer (some a):=h1
  have:(execOp b.eval ⟨some d,.nilCheck x,ty,pos,aft,none⟩).run P w=.ok (.value (.pointer (some a))) w:=by simp[execOp,h1]
  rw[this]
  exact⟨aM.refl _,rfl⟩) k
theorem ay {t:TypeId} {x y:Operand} {u v r:Value} (hx:eu F x=Is u) (hy:eu F y=Is v) (hd:Nat.blt d N=true) (hrun:∀w,Env w→(Instr.indexAt t u v).run P w=.ok r w)
 (k:fg P ops Env Rl mo Pn N rest (iz F (some d) (Is r)) Z K):fg P ops Env Rl mo Pn N (⟨some d,.indexAddr t x y,ty,pos,aft,none⟩::rest) F Z K:=
 jQ (xs:=[x,y]) (vs:=[u,v]) (f:=fun|[a,c]=>Instr.indexAt t a c|_=>stuck "") (fun _=>rfl) (by simp[Op.operands]) (by simp[hx,hy]) hd hrun k
theorem u9 {t:TypeId} {S:dx} (hst:bR Rl S) (hd:Nat.blt d N=true) (hrun:∀w,Env w→∃r w',(Instr.alloc t true (.tuple #[])).run P w=.ok r w'∧aM w w'∧S r w')
 (k:fg P ops Env Rl mo Pn N rest (iz F (some d) S) Z K):fg P ops Env Rl mo Pn N (⟨some d,.alloc t,ty,pos,aft,none⟩::rest) F Z K:=
 xe (xs:=[]) (f:=fun _=>Instr.alloc t true (.tuple #[])) (fun _=>rfl) (by simp) hst hd hrun k
theorem gI {t:TypeId} {x:Operand} {lo hi:Option Operand} {u r:Value} {a b:Option Value} (hx:eu F x=Is u) (hlo:lo.map (eu F)=a.map Is) (hhi:hi.map (eu F)=b.map Is) (hd:Nat.blt d N=true)
 (hrun:∀w,Env w→(Instr.sliceAt t u a b none).run P w=.ok r w)
 (k:fg P ops Env Rl mo Pn N rest (iz F (some d) (Is r)) Z K):fg P ops Env Rl mo Pn N (⟨some d,.slice t x lo hi none,ty,pos,aft,none⟩::rest) F Z K:=
 kI (fun _=>bu.is _) hd (fun s w hw h=>by
  have opt:∀{o:Option Operand} {c:Option Value},o.map (eu F)=c.map Is→(∀y,o=some y→y∈(Op.slice t x lo hi none).operands.toList)→o.map s.eval=c:=fun {o c} ho hm=>by
   cases o with
   |none=>cases c with
    |none=>rfl
    |some c=>simp at ho
   |some y=>cases c with
    |none=>simp at ho
    |some c=>
     simp only[Option.map_some,Option.some.injEq] at ho⊢
     have h1:=h y (hm y rfl)
     rw[ho] at h1
     exact h1
  have h0:eu F x (s.eval x) w:=h x (by simp[Op.operands])
  rw[hx] at h0
  have h0:s.eval x=u:=h0
  have:execOp s.eval ⟨some d,.slice t x lo hi none,ty,pos,aft,none⟩=(do pure (Next.value (←Instr.sliceAt t (s.eval x) (lo.map s.eval) (hi.map s.eval) none)):Sem Next):=rfl
  rw[this,h0,opt hlo (fun y hy=>by subst hy;simp[Op.operands]),opt hhi (fun y hy=>by subst hy;simp[Op.operands]),Sem.run_bind,hrun w hw]
  exact⟨aM.refl _,rfl⟩) k
theorem AJ {ps:List (Nat×Operand)} {S:dx} {f:Array (Nat×Value)→Sem Value} (he:∀ρ,execOp ρ ⟨some d,op,ty,pos,aft,none⟩=(do pure (Next.value (←f (ps.toArray.map fun(i,x)=>(i,ρ x)))):Sem Next)) (hm:∀x∈ps,x.2∈op.operands.toList)
 (hst:bR Rl S) (hd:Nat.blt d N=true) (hrun:∀w,Env w→pg (ps.map fun p=>eu F p.2) w (fun vs=>∃r w',(f ((ps.map (·.1)).zip vs).toArray).run P w=.ok r w'∧aM w w'∧S r w'))
 (k:fg P ops Env Rl mo Pn N rest (iz F (some d) S) Z K):fg P ops Env Rl mo Pn N (⟨some d,op,ty,pos,aft,none⟩::rest) F Z K:=
 xe (xs:=ps.map (·.2)) (f:=fun vs=>f ((ps.map (·.1)).zip vs).toArray) (fun ρ=>by
  rw[he]
  have:(ps.toArray.map fun(i,x)=>(i,ρ x))=((ps.map (·.1)).zip ((ps.map (·.2)).map ρ)).toArray:=by
   rw[List.map_toArray]
   congr 1
   clear hm he hrun
   induction ps with
   |nil=>rfl
   |cons p ps ih=>simp only[List.map_cons,List.zip_cons_cons,ih]
  rw[this]) (fun x hx=>by
   obtain⟨p,hp,rfl⟩:=List.mem_map.1 hx
   exact hm p hp) hst hd (fun w hw=>by
   have:=hrun w hw
   rwa [List.map_map]) k
theorem qV {t:TypeId} {ps:List (Nat×Operand)} {S:dx} (hst:bR Rl S) (hd:Nat.blt d N=true) (hrun:∀w,Env w→pg (ps.map fun p=>eu F p.2) w (fun vs=>∃r w',(Instr.build t ((ps.map (·.1)).zip vs).toArray).run P w=.ok r w'∧aM w w'∧S r w'))
 (k:fg P ops Env Rl mo Pn N rest (iz F (some d) S) Z K):fg P ops Env Rl mo Pn N (⟨some d,.build t ps.toArray,ty,pos,aft,none⟩::rest) F Z K:=
 AJ (ps:=ps) (fun _=>rfl) (fun x hx=>by simp[Op.operands];exact⟨x.1,hx⟩) hst hd hrun k
theorem fL {t:TypeId} {n:Nat} {ps:List (Nat×Operand)} {S:dx} (hst:bR Rl S) (hd:Nat.blt d N=true) (hrun:∀w,Env w→pg (ps.map fun p=>eu F p.2) w (fun vs=>∃r w',(Instr.buildSlice t n ((ps.map (·.1)).zip vs).toArray).run P w=.ok r w'∧aM w w'∧S r w'))
 (k:fg P ops Env Rl mo Pn N rest (iz F (some d) S) Z K):fg P ops Env Rl mo Pn N (⟨some d,.buildSlice t n ps.toArray,ty,pos,aft,none⟩::rest) F Z K:=
 AJ (ps:=ps) (fun _=>rfl) (fun x hx=>by simp[Op.operands];exact⟨x.1,hx⟩) hst hd hrun k
theorem cl {f:FuncId} {xs:List Operand} {ts:Array TypeId} {S:dx} (hf:az P f) (hst:bR Rl S) (hd:Nat.blt d N=true)
 (hc:∀w,Env w→pg (xs.map (eu F)) w (fun vs=>Calls P f vs.toArray w (bF fun v w'=>aM w w'∧S v w')))
 (k:fg P ops Env Rl mo Pn N rest (iz F (some d) S) Z K):fg P ops Env Rl mo Pn N (⟨some d,.call {callee:=.value (.func f),args:=xs.toArray,argTypes:=ts},ty,pos,aft,none⟩::rest) F Z K:=
 kI (fun _=>hst) hd (fun a w hw h=>by
  have hall:Dy w (xs.map (eu F)) (xs.map a.eval):=by
   have hm:∀x∈xs,eu F x (a.eval x) w:=fun x hx=>h x (by simp[Op.operands,Call.operands,hx])
   clear hc h
   induction xs with
   |nil=>trivial
   |cons x xs ih=>exact⟨hm x (by simp),ih (fun y hy=>hm y (by simp[hy]))⟩
  have h1:=pg.use (hc w hw) hall
  have hr:(execOp a.eval ⟨some d,.call {callee:=.value (.func f),args:=xs.toArray,argTypes:=ts},ty,pos,aft,none⟩).run P w=.ok (.enter f (xs.map a.eval).toArray) w:=by
   simp only[execOp,resolve,List.map_toArray,Act.eval,Deferred.ofValue,Sem.run_bind,Sem.run_pure,Result.andThen_ok,invoke,Array.append_empty,fi hf,Array.empty_append]
  rw[hr]
  refine⟨aM.refl _,h1.mono ?_⟩
  rintro e w'' ⟨v,rfl,hv⟩
  exact⟨v,rfl,hv⟩) k
theorem dw {f:FuncId} {xs:List Operand} {ts:Array TypeId} {S:dx} {Z':iN} (hf:az P f) (hm:mo=true) (hst:bR Rl S) (hz:cH Z') (hd:Nat.blt d N=true)
 (hc:∀w,Env w→Z w→pg (xs.map (eu F)) w (fun vs=>Calls P f vs.toArray w (fun e w'=>(∃v,e=.returned v∧Rl w w'∧S v w'∧Z' w')∨∃c,e=.panicked c∧Pn c w')))
 (k:fg P ops Env Rl mo Pn N rest (iz F (some d) S) Z' K):fg P ops Env Rl mo Pn N (⟨some d,.call {callee:=.value (.func f),args:=xs.toArray,argTypes:=ts},ty,pos,aft,none⟩::rest) F Z K:=fun _ _=>by
 have hlt:d<N:=by simpa [Nat.blt_eq] using hd
 refine⟨S,Z',.inr ⟨hm,⟨rfl,hst,hz,fun e he=>by obtain rfl:=Option.some.inj he;exact hlt,fun a w _ hw hs hz hwant=>?_,fun a w _ _ _ _ hw=>by simp[Region.wanted] at hw⟩⟩,k⟩
 have hall:Dy w (xs.map (eu F)) (xs.map a.eval):=by
  have hm:∀x∈xs,eu F x (a.eval x) w:=fun x hx=>by
   cases x with
   |tmp t=>exact hs t (List.mem_append_left _ (List.mem_filterMap.2 ⟨.tmp t,by simp[Op.operands,Call.operands,hx],rfl⟩))
   |_=>rfl
  clear hc hs hwant
  induction xs with
  |nil=>trivial
  |cons x xs ih=>exact⟨hm x (by simp),ih (fun y hy=>hm y (by simp[hy]))⟩
 have h1:=pg.use (hc w hw hz) hall
 have hr:(execOp a.eval ⟨some d,.call {callee:=.value (.func f),args:=xs.toArray,argTypes:=ts},ty,pos,aft,none⟩).run P w=.ok (.enter f (xs.map a.eval).toArray) w:=by
  simp only[execOp,resolve,List.map_toArray,Act.eval,Deferred.ofValue,Sem.run_bind,Sem.run_pure,Result.andThen_ok,invoke,Array.append_empty,fi hf,Array.empty_append]
 rw[hr]
 exact h1
theorem lI {xs:List Operand} {ts:Array TypeId} {vs:List Value} {r:Value} (hx:xs.map (eu F)=vs.map Is) (hd:Nat.blt d N=true) (hrun:∀w,Env w→(Builtin.len_ ts ty vs.toArray).run P w=.ok r w)
 (k:fg P ops Env Rl mo Pn N rest (iz F (some d) (Is r)) Z K):fg P ops Env Rl mo Pn N (⟨some d,.call {callee:=.builtin .len,args:=xs.toArray,argTypes:=ts},ty,pos,aft,none⟩::rest) F Z K:=
 jQ (xs:=xs) (vs:=vs) (f:=fun vs=>Builtin.len_ ts ty vs.toArray) (fun ρ=>by simp only[execOp,resolve,invoke,builtin,pure_bind,List.map_toArray]) (fun x hx=>by simp[Op.operands,Call.operands,hx]) hx hd hrun k
theorem H2 {xs:List Operand} {ts:Array TypeId} {vs:List Value} {r:Value} (hx:xs.map (eu F)=vs.map Is) (hd:Nat.blt d N=true) (hrun:∀w,Env w→(Builtin.min_ ts ty vs.toArray).run P w=.ok r w)
 (k:fg P ops Env Rl mo Pn N rest (iz F (some d) (Is r)) Z K):fg P ops Env Rl mo Pn N (⟨some d,.call {callee:=.builtin .min,args:=xs.toArray,argTypes:=ts},ty,pos,aft,none⟩::rest) F Z K:=
 jQ (xs:=xs) (vs:=vs) (f:=fun vs=>Builtin.min_ ts ty vs.toArray) (fun ρ=>by simp only[execOp,resolve,invoke,builtin,pure_bind,List.map_toArray]) (fun x hx=>by simp[Op.operands,Call.operands,hx]) hx hd hrun k
end
end Go.Rl
namespace Go.Rl
open Go.RowKit
def U8 (b:UInt8):Value:=.int .u8 (b.toNat:Int)
def bw (x:UInt32):Value:=.int .u32 (x.toNat:Int)
def bj (x:UInt64):Value:=.int .u64 (x.toNat:Int)
def I (n:Int):Value:=.int .i64 n
def B (b:Bool):Value:=.bool b
theorem aM.cell {w w':World} (h:aM w w') {a:Addr} (ha:a.block<w.heap.size):w'.cell? a=w.cell? a:=Below.cell h ha
theorem aM.cell_some {w w':World} (h:aM w w') {a:Addr} {v:Value} (hv:w.cell? a=some v):w'.cell? a=some v:=(h.cell (World.block_lt_of_cell? w a hv)).trans hv
theorem aM.heap {w w':World} (h:aM w w') {g:Nat} (hg:g<w.heap.size):w'.heap[g]? =w.heap[g]? :=h.block g hg
theorem aM.heap_some {w w':World} (h:aM w w') {g:Nat} {o:Obj} (hv:w.heap[g]? =some o):w'.heap[g]? =some o:=
 (h.heap (Array.getElem?_eq_some_iff.1 hv).1).trans hv
theorem aM.size {w w':World} (h:aM w w'):w.heap.size≤w'.heap.size:=Below.size h
theorem aM.new (w:World) (o:Obj):aM w (w.alloc o):=(aM.refl w).alloc o
theorem aM.of_grown {w0 w w':World} (h:aM w0 w) {row:Option Nat} (hg:w.grownBy w' row) (hr:∀k,row=some k→w0.heap.size≤k):aM w0 w':=
 Below.grown h hg h.size hr
def dM (w:World) (a:Addr) (xs:List Value):Prop:=∀j u,xs[j]? =some u→w.cell? (a.add j)=some u
theorem je (a:Addr) (n:Nat):(a.add n).block=a.block:=by unfold Addr.add;split<;>rfl
theorem vc (a:Addr) (i j:Nat):(a.add i).add j=a.add (i+j):=by
 unfold Addr.add
 by_cases hi:i=0<;>by_cases hj:j=0<;>simp[hi,hj,Nat.add_assoc]
theorem jn (a:Addr):a.add 0=a:=by simp[Addr.add]
theorem ph (b o n:Nat):(⟨b,o,none⟩:Addr).add n=⟨b,o+n,none⟩:=by
 unfold Addr.add
 split
 ·rename_i h;subst h;rfl
 ·rfl
theorem dM.ext {w w':World} {a:Addr} {xs:List Value} (h:dM w a xs) (hx:aM w w'):dM w' a xs:=fun j u hu=>hx.cell_some (h j u hu)
theorem dM.drop {w:World} {a:Addr} {xs:List Value} (h:dM w a xs) (k:Nat):dM w (a.add k) (xs.drop k):=fun j u hu=>by
 rw[vc]
 exact h (k+j) u (by rw[←hu,List.getElem?_drop])
theorem dM.take {w:World} {a:Addr} {xs:List Value} (h:dM w a xs) (k:Nat):dM w a (xs.take k):=fun j u hu=>by
 rw[List.getElem?_take] at hu
 split at hu
 ·exact h j u hu
 ·cases hu
def Sl (sz:Nat) (xs:List Value):dx:=fun v w=>∃A n c,v=.slice A n c∧n≤c∧c≤maxLen∧xs.length=n*sz∧(0<n→∃ad,A=some ad∧dM w ad xs)∧(A=none→c=0)
theorem Sl.stable (sz:Nat) (xs:List Value):bu (Sl sz xs):=fun v w w' h hx=>by
 obtain⟨A,n,c,h1,h2,h3,h4,h5,h6⟩:=h
 exact⟨A,n,c,h1,h2,h3,h4,fun hn=>(h5 hn).imp fun ad h=>⟨h.1,h.2.ext hx⟩,h6⟩
theorem Sl.ext {sz:Nat} {xs:List Value} {v:Value} {w w':World} (h:Sl sz xs v w) (hx:aM w w'):Sl sz xs v w':=Sl.stable sz xs v w w' h hx
theorem Sl.nil (sz:Nat) (w:World):Sl sz [] (.slice none 0 0) w:=⟨none,0,0,rfl,Nat.le_refl _,Nat.zero_le _,by simp,fun h=>absurd h (by omega),fun _=>rfl⟩
theorem Sl.of_own {base:Nat} {e:TypeId} {sz n:Nat} {v:Value} {xs:List Value} {w:World} (h:w.ownsRow base e sz v n xs):Sl sz xs v w:=by
 rcases h.2 with⟨rfl,rfl⟩|⟨g,cap,cur,rfl,hb,hg,hn,hm,hs,ht⟩
 ·have:xs=[]:=List.eq_nil_of_length_eq_zero (by simpa using h.1)
  subst this
  exact Sl.nil sz w
 ·exact⟨some ⟨g,0,none⟩,n,cap,rfl,hn,hm,h.1,fun _=>⟨_,rfl,h.cells (g:=g) rfl⟩,fun h=>by cases h⟩
theorem jI {w w':World} {base:Nat} {e:TypeId} {sz n:Nat} {v:Value} {xs:List Value} (h:w.ownsRow base e sz v n xs) (hx:aM w w'):w'.ownsRow base e sz v n xs:=by
 refine⟨h.1,?_⟩
 rcases h.2 with h|⟨g,cap,cur,rfl,hb,hg,rest⟩
 ·exact .inl h
 ·exact .inr ⟨g,cap,cur,rfl,hb,hx.heap_some hg,rest⟩
theorem iX {w:World} {base base':Nat} {e:TypeId} {sz n:Nat} {v:Value} {xs:List Value} (h:w.ownsRow base e sz v n xs) (hb:∀k,v.ownBlock=some k→base'≤k):w.ownsRow base' e sz v n xs:=by
 refine⟨h.1,?_⟩
 rcases h.2 with h|⟨g,cap,cur,rfl,_,hg,rest⟩
 ·exact .inl h
 ·exact .inr ⟨g,cap,cur,rfl,hb g rfl,hg,rest⟩
structure gJ (w w':World) (v v':Value):Prop where
 grown:w.grownBy w' v.ownBlock
 own:v'.ownBlock=v.ownBlock∨∀k,v'.ownBlock=some k→w.heap.size≤k
theorem gJ.trans {a b c:World} {v u z:Value} (h:gJ a b v u) (k:gJ b c u z):gJ a c v z:=by
 refine⟨⟨k.grown.os.trans h.grown.os,k.grown.tape.trans h.grown.tape,k.grown.output.trans h.grown.output,Nat.le_trans h.grown.size k.grown.size,fun i hi hne=>?_⟩,?_⟩
 ·refine(k.grown.block i (Nat.lt_of_lt_of_le hi h.grown.size) ?_).trans (h.grown.block i hi hne)
  rcases h.own with h1|h1
  ·rw[h1];exact hne
  ·intro hu
   have:=h1 i hu.symm
   omega
 ·rcases k.own with k1|k1
  ·rw[k1];exact h.own
  ·exact .inr fun j hj=>Nat.le_trans h.grown.size (k1 j hj)
theorem gJ.of_ext {a b:World} {v u:Value} (h:aM a b) (hu:u.ownBlock=v.ownBlock∨∀k,u.ownBlock=some k→a.heap.size≤k):gJ a b v u:=
 ⟨⟨h.os,h.tape,h.output,h.size,fun _ hi _=>h.heap hi⟩,hu⟩
theorem gJ.before {a b c:World} {v u:Value} (h:aM a b) (k:gJ b c v u):gJ a c v u:=
 ⟨⟨k.grown.os.trans h.os,k.grown.tape.trans h.tape,k.grown.output.trans h.output,Nat.le_trans h.size k.grown.size,fun i hi hne=>(k.grown.block i (Nat.lt_of_lt_of_le hi h.size) hne).trans (h.heap hi)⟩,k.own.imp_right fun h1 j hj=>Nat.le_trans h.size (h1 j hj)⟩
section
variable {w0 w w':World} {its:List Item} {a b c d:Item}
theorem aY (w:World) (g i:Nat) (u:Value):w.grownBy (w.setCell ⟨g,i,none⟩ u) (some g):=
 ⟨rfl,rfl,rfl,by simp[World.setCell],fun k _ hne=>Below.heap_setCell w ⟨g,i,none⟩ u k (fun e=>hne (by rw[e]))⟩
theorem j0 {g:Nat} {T:TypeId} {cs:Array Value} (h:w.heap[g]? =some (.cells cs T (0,0))) (i:Nat) (u:Value):(w.setCell ⟨g,i,none⟩ u).heap[g]? =some (.cells (cs.setIfInBounds i u) T (0,0)):=by
 simp[World.setCell,Array.getElem?_modify,h]
end
section
variable {P:Program} {w:World}
theorem ak {t:TypeId} {d:TypeDesc} {a:Addr} {v:Value} (ht:P.underlying t=some d) (hd:(match d with|.struct _|.array _ _=>true|_=>false)=false) (hc:w.cell? a=some v):
 (Instr.loadAt t (.pointer (some a))).run P w=.ok v w:=by
 have hagg:(isAgg t).run P w=.ok false w:=by
  unfold isAgg
  simp only[Sem.run_bind,run_underlying ht,Result.andThen_ok]
  cases d<;>simp_all
 simp only[Instr.loadAt,Instr.sureAddr,loadVar,Sem.run_bind,Sem.run_pure,Result.andThen_ok,hagg,Bool.false_eq_true,if_false]
 simp[hc]
theorem dm {t:TypeId} {g i:Nat} {cs:Array Value} {T:TypeId} {v:Value} (hs:(P.info? t).map (·.size)=some 1) (hv:v.oneCell'=true) (hc:w.heap[g]? =some (.cells cs T (0,0))) (hi:i<cs.size):
 (Instr.storeAt t (.pointer (some ⟨g,i,none⟩)) v).run P w=.ok () (w.setCell ⟨g,i,none⟩ v):=by
 obtain⟨ti,hti,hsz⟩:=Option.map_eq_some_iff.1 hs
 have cX:v.cells= #[v]:=by cases v<;>first|rfl|cases hv
 have hcell:w.cell? ⟨g,i,none⟩=some cs[i]:=by rw[cell_of_row w g i cs T (0,0) hc];simp[hi]
 have hfr:w.frozen? ⟨g,i,none⟩=false:=frozen_of_row w g i cs T hc
 have hst:=run_store P w ⟨g,i,none⟩ v .plain hv
 have hsd:stored P w ⟨g,i,none⟩ v .plain=.ok () (w.setCell ⟨g,i,none⟩ v):=by simp[stored,hcell,hfr]
 simp only[Instr.storeAt,Instr.sureAddr,storeVar,Sem.run_bind,Sem.run_pure,Result.andThen_ok,sizeOf,typeInfo,hti,program,Sem.run,cX,storeCells]
 have hst2:(store ⟨g,i,none⟩ v).run P w=.ok () (w.setCell ⟨g,i,none⟩ v):=hst.trans hsd
 simp[hsz,jn,hst2]
theorem og {base:Nat} {t ty e:TypeId} {z:Value} {size bytes:Nat} (ht:P.underlying t=some (.slice e)) (hi:(P.info? e).map (fun i=>(i.zero,i.size,i.bytes))=some (some z,size,bytes)) (hzs:z.cells.size=size) (hsz:0<size)
 {v:Value} {n:Nat} {xs:List Value} (hown:w.ownsRow base e size v n xs) {x:Value} {news:List Value} (hx:Sl size news x w) (h1:∀u∈news,u.oneCell'=true)
 (hb:(xs.length+news.length)*bytes≤140737488355328*size) (hb0:0<bytes) (hbase:base≤w.heap.size):
 ∃v' w' n',(Builtin.append_ #[t,t] ty #[v,x]).run P w=.ok v' w'∧w'.ownsRow base e size v' n' (xs++news)∧gJ w w' v v':=by
 obtain⟨i,hi,hz,hsize,hby⟩:=info_parts hi
 obtain⟨A,m,c,rfl,hmc,hcm,hl,cX,hnone⟩:=hx
 have hbytes:(n+m)*bytes≤140737488355328:=by
  have e1:xs.length+news.length=(n+m)*size:=by rw[hown.1,hl,Nat.add_mul]
  rw[e1] at hb
  have:(n+m)*bytes*size≤140737488355328*size:=by rw[Nat.mul_right_comm];exact hb
  exact Nat.le_of_mul_le_mul_right this hsz
 have h63:n+m≤maxLen:=by
  have:n+m≤(n+m)*bytes:=Nat.le_mul_of_pos_right _ hb0
  unfold maxLen;omega
 rcases Nat.eq_zero_or_pos m with rfl|hm
 ·have hn:news=[]:=List.eq_nil_of_length_eq_zero (by simpa using hl)
  subst hn
  cases A with
  |none=>
   have hrun:(Builtin.append_ #[t,t] ty #[v,.slice none 0 c]).run P w=.ok v w:=by
    rcases hown.2 with⟨rfl,rfl⟩|⟨g,cap,cur,rfl,_,_,hnc,_⟩
    ·simp[Builtin.append_,run_underlying ht,sizeOf,typeInfo,hi,Builtin.lenOf,Builtin.firstCells]
    ·simp[Builtin.append_,run_underlying ht,sizeOf,typeInfo,hi,Builtin.lenOf,Builtin.firstCells,hnc,storeCells]
   exact⟨v,w,n,hrun,by simpa using hown,gJ.of_ext (aM.refl w) (.inl rfl)⟩
  |some ad=>
   obtain⟨v',w',h2,h3,h4,_,h5⟩:=run_append_own_at (P:=P) w base t ty e i z size bytes ht hi hz hsize hby hzs hsz v n xs hown ad 0 c [] (by simp) (by simp) (by simp) h63 hbytes hbase
   exact⟨v',w',_,h2,h3,h4,h5.imp_right fun h k hk=>by rw[h] at hk;exact Nat.le_of_eq (Option.some.inj hk)⟩
 ·obtain⟨ad,rfl,hc⟩:=cX hm
  obtain⟨v',w',h2,h3,h4,_,h5⟩:=run_append_own_at (P:=P) w base t ty e i z size bytes ht hi hz hsize hby hzs hsz v n xs hown ad m c news hl hc h1 h63 hbytes hbase
  exact⟨v',w',_,h2,h3,h4,h5.imp_right fun h k hk=>by rw[h] at hk;exact Nat.le_of_eq (Option.some.inj hk)⟩
theorem Dz {t ty:TypeId} {e:TypeId} {sz:Nat} (ht:P.underlying t=some (.slice e)) {xs:List Value} {v:Value} (h:Sl sz xs v w):∃n,xs.length=n*sz∧n≤maxLen∧(Builtin.len_ #[t] ty #[v]).run P w=.ok (I n) w:=by
 obtain⟨A,n,c,rfl,hnc,hcm,hl,_,_⟩:=h
 refine⟨n,hl,Nat.le_trans hnc hcm,?_⟩
 simp[Builtin.len_,run_underlying ht,goInt,I]
theorem FN {t e:TypeId} {sz:Nat} (ht:P.underlying t=some (.slice e)) (hsz:(P.info? e).map (·.size)=some sz) {xs:List Value} {v:Value} (h:Sl sz xs v w) {lo hi:Nat} (h1:lo≤hi) (h2:hi*sz≤xs.length) (h0:0<sz) (kl kh:IntKind):
 ∃r,(∀w':World,(Instr.sliceAt t v (some (.int kl lo)) (some (.int kh hi)) none).run P w'=.ok r w')∧Sl sz ((xs.take (hi*sz)).drop (lo*sz)) r w:=by
 obtain⟨A,n,c,rfl,hnc,hcm,hl,hc,hnone⟩:=h
 obtain⟨i,hi',hs⟩:=Option.map_eq_some_iff.1 hsz
 have hhn:hi≤n:=by
  rw[hl] at h2
  exact Nat.le_of_mul_le_mul_right h2 h0
 have hb:∀w:World,(Instr.sliceBounds true n c (some (.int kl lo)) (some (.int kh hi)) none).run P w=.ok (lo,hi,c) w:=fun w=>by
  have a1:=run_sliceBound (P:=P) (w:=w) kh (hi:Int) c .sliceAcap (by omega) (by omega)
  have a2:=run_sliceBound (P:=P) (w:=w) kl (lo:Int) hi .sliceB (by omega) (by omega)
  simp only[Int.toNat_natCast] at a1 a2
  simp[Instr.sliceBounds,a1,a2]
 refine⟨.slice (if c=lo then A else A.map (·.add (lo*sz))) (hi-lo) (c-lo),?_,?_⟩
 ·intro w';simp[Instr.sliceAt,Instr.slice,run_underlying ht,hb,sizeOf,typeInfo,hi',hs]
 ·refine⟨_,_,_,rfl,by omega,by omega,?_,fun hn=>?_,fun hA=>?_⟩
  ·rw[List.length_drop,List.length_take,Nat.min_eq_left h2,←Nat.sub_mul]
  ·obtain⟨ad,rfl,hcl⟩:=hc (by omega)
   rw[if_neg (by omega)]
   exact⟨_,rfl,(hcl.take _).drop _⟩
  ·split at hA
   ·have:=hnone hA;omega
   ·cases A with
    |none=>have:=hnone rfl;omega
    |some ad=>cases hA
theorem ry {t e:TypeId} {sz:Nat} (ht:P.underlying t=some (.slice e)) (hsz:(P.info? e).map (·.size)=some sz) {xs:List Value} {v:Value} (h:Sl sz xs v w) {lo:Nat} (h2:lo*sz≤xs.length) (h0:0<sz) (kl:IntKind):
 ∃r,(∀w':World,(Instr.sliceAt t v (some (.int kl lo)) none none).run P w'=.ok r w')∧Sl sz (xs.drop (lo*sz)) r w:=by
 obtain⟨A,n,c,rfl,hnc,hcm,hl,hc,hnone⟩:=h
 obtain⟨i,hi',hs⟩:=Option.map_eq_some_iff.1 hsz
 have hln:lo≤n:=by
  rw[hl] at h2
  exact Nat.le_of_mul_le_mul_right h2 h0
 have hb:∀w:World,(Instr.sliceBounds true n c (some (.int kl lo)) none none).run P w=.ok (lo,n,c) w:=fun w=>by
  have a2:=run_sliceBound (P:=P) (w:=w) kl (lo:Int) n .sliceB (by omega) (by omega)
  simp only[Int.toNat_natCast] at a2
  simp[Instr.sliceBounds,a2]
 refine⟨.slice (if c=lo then A else A.map (·.add (lo*sz))) (n-lo) (c-lo),?_,?_⟩
 ·intro w';simp[Instr.sliceAt,Instr.slice,run_underlying ht,hb,sizeOf,typeInfo,hi',hs]
 ·refine⟨_,_,_,rfl,by omega,by omega,?_,fun hn=>?_,fun hA=>?_⟩
  ·rw[List.length_drop,hl,←Nat.sub_mul]
  ·obtain⟨ad,rfl,hcl⟩:=hc (by omega)
   rw[if_neg (by omega)]
   exact⟨_,rfl,hcl.drop _⟩
  ·split at hA
   ·have:=hnone hA;omega
   ·cases A with
    |none=>have:=hnone rfl;omega
    |some ad=>cases hA
theorem rz {t e:TypeId} {sz:Nat} (ht:P.underlying t=some (.slice e)) (hsz:(P.info? e).map (·.size)=some sz) {xs:List Value} {v:Value} (h:Sl sz xs v w) {hi:Nat} (h2:hi*sz≤xs.length) (h0:0<sz) (kh:IntKind):
 ∃r,(∀w':World,(Instr.sliceAt t v none (some (.int kh hi)) none).run P w'=.ok r w')∧Sl sz (xs.take (hi*sz)) r w:=by
 obtain⟨A,n,c,rfl,hnc,hcm,hl,hc,hnone⟩:=h
 obtain⟨i,hi',hs⟩:=Option.map_eq_some_iff.1 hsz
 have hhn:hi≤n:=by
  rw[hl] at h2
  exact Nat.le_of_mul_le_mul_right h2 h0
 have hb:∀w:World,(Instr.sliceBounds true n c none (some (.int kh hi)) none).run P w=.ok (0,hi,c) w:=fun w=>by
  have a1:=run_sliceBound (P:=P) (w:=w) kh (hi:Int) c .sliceAcap (by omega) (by omega)
  simp only[Int.toNat_natCast] at a1
  simp[Instr.sliceBounds,a1]
 refine⟨.slice (if c=0 then A else A.map (·.add (0*sz))) (hi-0) (c-0),?_,?_⟩
 ·intro w';simp[Instr.sliceAt,Instr.slice,run_underlying ht,hb,sizeOf,typeInfo,hi',hs]
 ·have hA':(if c=0 then A else A.map (·.add (0*sz)))=A:=by
   split
   ·rfl
   ·cases A<;>simp[jn]
  rw[hA']
  refine⟨_,_,_,rfl,by omega,by omega,?_,fun hn=>?_,fun hA=>by have:=hnone hA;omega⟩
  ·rw[List.length_take,Nat.min_eq_left h2];simp
  ·obtain⟨ad,rfl,hcl⟩:=hc (by omega)
   exact⟨_,rfl,hcl.take _⟩
theorem qW {t e:TypeId} {sz:Nat} (ht:P.underlying t=some (.slice e)) (hsz:(P.info? e).map (·.size)=some sz) {xs:List Value} {v:Value} (h:Sl sz xs v w) {i:Nat} (h2:(i+1)*sz≤xs.length) (h0:0<sz) (k:IntKind):
 ∃ad,(∀w':World,(Instr.indexAt t v (.int k i)).run P w'=.ok (.pointer (some ad)) w')∧dM w ad ((xs.drop (i*sz)).take sz):=by
 obtain⟨A,n,c,rfl,hnc,hcm,hl,hc,hnone⟩:=h
 obtain⟨ti,hi',hs⟩:=Option.map_eq_some_iff.1 hsz
 have hin:i<n:=by
  rw[hl] at h2
  exact Nat.le_of_mul_le_mul_right h2 h0
 obtain⟨ad,rfl,hcl⟩:=hc (by omega)
 refine⟨ad.add (i*sz),?_,(hcl.drop _).take _⟩
 intro w'
 simp[Instr.indexAt,asIntOf,run_underlying ht,hin,sizeOf,typeInfo,hi',hs]
end
end Go.Rl
namespace Go.Rl
section
variable {P:Program} {w:World} {t:TypeId} {x y:Operand}
theorem bE {op:BinOp} {k k':IntKind} {a b:Int}:(bin op t x y (.int k a) (.int k' b)).run P w=(binOp op t (.int k a) (.int k' b)).run P w:=by
 unfold bin eqGuard
 cases op<;>rfl
theorem nq {n:Int} (h1: -9223372036854775808≤n) (h2:n≤9223372036854775807):IntKind.i64.wrap n=n:=by rw[IntKind.wrap_i64];omega
theorem aK {a b:Int} (h1: -9223372036854775808≤a+b) (h2:a+b≤9223372036854775807):(bin .add t x y (I a) (I b)).run P w=.ok (I (a+b)) w:=by
 unfold I;rw[bE];simp[binOp,Op.intArith,nq h1 h2]
theorem bb {a b:Int} (h1: -9223372036854775808≤a-b) (h2:a-b≤9223372036854775807):(bin .sub t x y (I a) (I b)).run P w=.ok (I (a-b)) w:=by
 unfold I;rw[bE];simp[binOp,Op.intArith,nq h1 h2]
theorem eR {a b:Int} (h1: -9223372036854775808≤a*b) (h2:a*b≤9223372036854775807):(bin .mul t x y (I a) (I b)).run P w=.ok (I (a*b)) w:=by
 unfold I;rw[bE];simp[binOp,Op.intArith,nq h1 h2]
theorem mz {a b:Int} (h1:0≤a) (h2:0<b) (h3:a≤9223372036854775807):(bin .quo t x y (I a) (I b)).run P w=.ok (I (a/b)) w:=by
 unfold I;rw[bE]
 have e:a.tdiv b=a/b:=Int.tdiv_eq_ediv_of_nonneg h1
 have h4:0≤a/b:=Int.ediv_nonneg h1 (by omega)
 have h5:a/b≤a:=Int.ediv_le_self b h1
 have h6:IntKind.i64.wrap (a/b)=a/b:=nq (by omega) (by omega)
 have h7:b≠0:=by omega
 simp[binOp,Op.intDiv,h7,e,h6]
theorem mA {a b:Int} (h1:0≤a) (h2:0<b):(bin .rem t x y (I a) (I b)).run P w=.ok (I (a%b)) w:=by
 unfold I;rw[bE]
 have e:a.tmod b=a%b:=Int.tmod_eq_emod_of_nonneg h1
 have h7:b≠0:=by omega
 simp[binOp,Op.intDiv,h7,e]
theorem aX {a b:Int}:(bin .lss t x y (I a) (I b)).run P w=.ok (B (decide (a<b))) w:=by unfold I;rw[bE];rfl
theorem vd {a b:Int}:(bin .leq t x y (I a) (I b)).run P w=.ok (B (decide (a≤b))) w:=by unfold I;rw[bE];rfl
theorem ce {a b:Int}:(bin .gtr t x y (I a) (I b)).run P w=.ok (B (decide (a>b))) w:=by unfold I;rw[bE];rfl
theorem ir {a b:Int}:(bin .geq t x y (I a) (I b)).run P w=.ok (B (decide (a≥b))) w:=by unfold I;rw[bE];rfl
theorem ve {a b:Int}:(a==b)=decide (a=b):=rfl
theorem vf {a b:Int}:(a !=b)=decide (a≠b):=by
 by_cases h:a=b<;>simp[h]
theorem aV {a b:Int}:(bin .eql t x y (I a) (I b)).run P w=.ok (B (decide (a=b))) w:=by unfold I;rw[bE];rfl
theorem bS {a b:Int}:(bin .neq t x y (I a) (I b)).run P w=.ok (B (decide (a≠b))) w:=by
 unfold I;rw[bE,←vf];rfl
theorem FO {a:Int} {k:IntKind} (s:Nat) (hs:s<64):(bin .shr t x y (I a) (.int k (s:Int))).run P w=.ok (I (a/2^s)) w:=by
 unfold I;rw[bE]
 have h1:¬((s:Int)<0):=by omega
 have h2:min s 64=s:=by omega
 have e:a.fdiv (2^s)=a/2^s:=Int.fdiv_eq_ediv_of_nonneg _ (by exact Int.le_of_lt (Int.pow_pos (by omega)))
 simp only[binOp,Op.shift,if_neg h1,Int.toNat_natCast,IntKind.bits,h2,e]
 rfl
theorem vg {a:Int} (h1: -9223372036854775808≤ -a) (h2: -a≤9223372036854775807):(Op.unary .neg (I a)).run P w=.ok (I (-a)) w:=by
 have:IntKind.i64.wrap (0-a)= -a:=by rw[Int.zero_sub];exact nq h1 h2
 simp only[I,Op.unary,Op.intArith,this];rfl
theorem AK {a b:Int64}:(bin .xor t x y (I a.toInt) (I b.toInt)).run P w=.ok (I (a^^^b).toInt) w:=by
 unfold I;rw[bE]
 have e:IntKind.i64.wrap ((BitVec.ofInt 64 a.toInt^^^BitVec.ofInt 64 b.toInt).toNat:Int)=(a^^^b).toInt:=by
  have ea:BitVec.ofInt 64 a.toInt=a.toBitVec:=BitVec.ofInt_toInt
  have eb:BitVec.ofInt 64 b.toInt=b.toBitVec:=BitVec.ofInt_toInt
  rw[ea,eb,IntKind.wrap_i64]
  show _=(a.toBitVec^^^b.toBitVec).toInt
  rw[BitVec.toInt_eq_toNat_cond]
  have:=(a.toBitVec^^^b.toBitVec).isLt
  split<;>omega
 show Result.ok (Value.int .i64 (IntKind.i64.wrap ((BitVec.ofInt 64 a.toInt^^^BitVec.ofInt 64 b.toInt).toNat:Int))) w=_
 rw[e]
theorem cf {p:Prop} {dp:Decidable p} {s:Sem Value} {w':World} (h:p) (hr:s.run P w=.ok (B (@decide p dp)) w'):s.run P w=.ok (B true) w':=by rw[hr,decide_eq_true h]
theorem bZ {p:Prop} {dp:Decidable p} {s:Sem Value} {w':World} (h:¬p) (hr:s.run P w=.ok (B (@decide p dp)) w'):s.run P w=.ok (B false) w':=by rw[hr,decide_eq_false h]
theorem cj {b:Bool}:(Op.unary .not (B b)).run P w=.ok (B (!b)) w:=rfl
theorem FP {p:Prop} {dp:Decidable p}:(Op.unary .not (B (@decide p dp))).run P w=.ok (B (decide (¬p))) w:=by
 show Result.ok (Value.bool (!decide p)) w=_
 rw[←decide_not];rfl
theorem oh (n:Nat):IntKind.u8.wrap (n:Int)=((n%256:Nat):Int):=by rw[IntKind.wrap_u8];omega
theorem AL (a:UInt8):a.toNat<256:=a.toNat_lt
theorem ol (a:UInt8):BitVec.ofInt 8 (a.toNat:Int)=a.toBitVec:=by
 rw[BitVec.ofInt_natCast];exact BitVec.eq_of_toNat_eq (by simp)
theorem vh {a b:UInt8} (h:a.toNat=b.toNat):a=b:=UInt8.toNat_inj.1 h
theorem H3 {a b:UInt8} (hb:b≠0):(bin .quo t x y (U8 a) (U8 b)).run P w=.ok (U8 (a/b)) w:=by
 unfold U8;rw[bE]
 have h0:b.toNat≠0:=fun h=>hb (vh (by simpa using h))
 have h1:(b.toNat:Int)≠0:=by omega
 have e:((a.toNat:Int)).tdiv (b.toNat:Int)=((a.toNat/b.toNat:Nat):Int):=rfl
 have hlt:a.toNat/b.toNat<256:=Nat.lt_of_le_of_lt (Nat.div_le_self _ _) (AL a)
 simp only[binOp,Op.intDiv,ne_eq,not_true_eq_false,if_false,if_neg h1,e,oh,Nat.mod_eq_of_lt hlt,UInt8.toNat_div]
 rfl
theorem xh {a b:UInt8} (hb:b≠0):(bin .rem t x y (U8 a) (U8 b)).run P w=.ok (U8 (a%b)) w:=by
 unfold U8;rw[bE]
 have h0:b.toNat≠0:=fun h=>hb (vh (by simpa using h))
 have h1:(b.toNat:Int)≠0:=by omega
 have e:((a.toNat:Int)).tmod (b.toNat:Int)=((a.toNat%b.toNat:Nat):Int):=rfl
 simp only[binOp,Op.intDiv,ne_eq,not_true_eq_false,if_false,if_neg h1,e,UInt8.toNat_mod]
 rfl
theorem j1 {a b:UInt8}:(bin .lss t x y (U8 a) (U8 b)).run P w=.ok (B (decide (a<b))) w:=by
 unfold U8;rw[bE]
 have:decide (((a.toNat:Int))<(b.toNat:Int))=decide (a<b):=decide_eq_decide.2 (by rw[UInt8.lt_iff_toNat_lt];omega)
 show Result.ok (Value.bool (decide (((a.toNat:Int))<(b.toNat:Int)))) w=_
 rw[this];rfl
theorem om {a b:UInt8}:(bin .gtr t x y (U8 a) (U8 b)).run P w=.ok (B (decide (a>b))) w:=by
 unfold U8;rw[bE]
 have:decide (((a.toNat:Int))>(b.toNat:Int))=decide (a>b):=decide_eq_decide.2 (by show _↔b<a;rw[UInt8.lt_iff_toNat_lt];omega)
 show Result.ok (Value.bool (decide (((a.toNat:Int))>(b.toNat:Int)))) w=_
 rw[this];rfl
theorem iC {a b:UInt8}:(bin .eql t x y (U8 a) (U8 b)).run P w=.ok (B (decide (a=b))) w:=by
 unfold U8;rw[bE]
 have:(((a.toNat:Int))==(b.toNat:Int))=decide (a=b):=by
  rw[ve];exact decide_eq_decide.2 ⟨fun h=>vh (by omega),fun h=>by rw[h]⟩
 show Result.ok (Value.bool (((a.toNat:Int))==(b.toNat:Int))) w=_
 rw[this];rfl
theorem DA {a b:UInt8}:(bin .neq t x y (U8 a) (U8 b)).run P w=.ok (B (decide (a≠b))) w:=by
 unfold U8;rw[bE]
 have:(((a.toNat:Int)) !=(b.toNat:Int))=decide (a≠b):=by
  rw[vf];exact decide_eq_decide.2 ⟨fun h he=>h (by rw[he]),fun h he=>h (vh (by omega))⟩
 show Result.ok (Value.bool (((a.toNat:Int)) !=(b.toNat:Int))) w=_
 rw[this];rfl
theorem DB {a b:UInt8}:(bin .and t x y (U8 a) (U8 b)).run P w=.ok (U8 (a&&&b)) w:=by
 unfold U8;rw[bE]
 show Result.ok (Value.int .u8 (IntKind.u8.wrap ((BitVec.ofInt 8 (a.toNat:Int)&&&BitVec.ofInt 8 (b.toNat:Int)).toNat:Int))) w=_
 rw[ol,ol,oh,Nat.mod_eq_of_lt (by have:=(a.toBitVec&&&b.toBitVec).isLt;simpa using this)]
 rfl
theorem FQ {a b:UInt8}:(bin .or t x y (U8 a) (U8 b)).run P w=.ok (U8 (a|||b)) w:=by
 unfold U8;rw[bE]
 show Result.ok (Value.int .u8 (IntKind.u8.wrap ((BitVec.ofInt 8 (a.toNat:Int)|||BitVec.ofInt 8 (b.toNat:Int)).toNat:Int))) w=_
 rw[ol,ol,oh,Nat.mod_eq_of_lt (by have:=(a.toBitVec|||b.toBitVec).isLt;simpa using this)]
 rfl
theorem gK (n:Nat):IntKind.u32.wrap (n:Int)=((n%4294967296:Nat):Int):=by rw[IntKind.wrap_u32];omega
theorem DC (a:UInt32):a.toNat<4294967296:=a.toNat_lt
theorem ib (a:UInt32):BitVec.ofInt 32 (a.toNat:Int)=a.toBitVec:=by
 rw[BitVec.ofInt_natCast];exact BitVec.eq_of_toNat_eq (by simp)
theorem AM {a b:UInt32} (h:a.toNat=b.toNat):a=b:=UInt32.toNat_inj.1 h
theorem cg {a b:UInt32}:(bin .add t x y (bw a) (bw b)).run P w=.ok (bw (a+b)) w:=by
 unfold bw;rw[bE]
 show Result.ok (Value.int .u32 (IntKind.u32.wrap (((a.toNat:Int))+(b.toNat:Int)))) w=_
 rw[←Int.natCast_add,gK,UInt32.toNat_add]
theorem pi {a b:UInt32}:(bin .mul t x y (bw a) (bw b)).run P w=.ok (bw (a*b)) w:=by
 unfold bw;rw[bE]
 show Result.ok (Value.int .u32 (IntKind.u32.wrap (((a.toNat:Int))*(b.toNat:Int)))) w=_
 rw[←Int.natCast_mul,gK,UInt32.toNat_mul]
theorem tQ {a b:UInt32}:(bin .lss t x y (bw a) (bw b)).run P w=.ok (B (decide (a<b))) w:=by
 unfold bw;rw[bE]
 have:decide (((a.toNat:Int))<(b.toNat:Int))=decide (a<b):=decide_eq_decide.2 (by rw[UInt32.lt_iff_toNat_lt];omega)
 show Result.ok (Value.bool (decide (((a.toNat:Int))<(b.toNat:Int)))) w=_
 rw[this];rfl
theorem tR {a b:UInt32}:(bin .gtr t x y (bw a) (bw b)).run P w=.ok (B (decide (a>b))) w:=by
 unfold bw;rw[bE]
 have:decide (((a.toNat:Int))>(b.toNat:Int))=decide (a>b):=decide_eq_decide.2 (by show _↔b<a;rw[UInt32.lt_iff_toNat_lt];omega)
 show Result.ok (Value.bool (decide (((a.toNat:Int))>(b.toNat:Int)))) w=_
 rw[this];rfl
theorem pj {a b:UInt32}:(bin .geq t x y (bw a) (bw b)).run P w=.ok (B (decide (a≥b))) w:=by
 unfold bw;rw[bE]
 have:decide (((a.toNat:Int))≥(b.toNat:Int))=decide (a≥b):=decide_eq_decide.2 (by show _↔b≤a;rw[UInt32.le_iff_toNat_le];omega)
 show Result.ok (Value.bool (decide (((a.toNat:Int))≥(b.toNat:Int)))) w=_
 rw[this];rfl
theorem j2 {a b:UInt32}:(bin .eql t x y (bw a) (bw b)).run P w=.ok (B (decide (a=b))) w:=by
 unfold bw;rw[bE]
 have:(((a.toNat:Int))==(b.toNat:Int))=decide (a=b):=by
  rw[ve];exact decide_eq_decide.2 ⟨fun h=>AM (by omega),fun h=>by rw[h]⟩
 show Result.ok (Value.bool (((a.toNat:Int))==(b.toNat:Int))) w=_
 rw[this];rfl
theorem j3 {a b:UInt32}:(bin .neq t x y (bw a) (bw b)).run P w=.ok (B (decide (a≠b))) w:=by
 unfold bw;rw[bE]
 have:(((a.toNat:Int)) !=(b.toNat:Int))=decide (a≠b):=by
  rw[vf];exact decide_eq_decide.2 ⟨fun h he=>h (by rw[he]),fun h he=>h (AM (by omega))⟩
 show Result.ok (Value.bool (((a.toNat:Int)) !=(b.toNat:Int))) w=_
 rw[this];rfl
theorem eW {a b:UInt32}:(bin .and t x y (bw a) (bw b)).run P w=.ok (bw (a&&&b)) w:=by
 unfold bw;rw[bE]
 show Result.ok (Value.int .u32 (IntKind.u32.wrap ((BitVec.ofInt 32 (a.toNat:Int)&&&BitVec.ofInt 32 (b.toNat:Int)).toNat:Int))) w=_
 rw[ib,ib,gK,Nat.mod_eq_of_lt (by have:=(a.toBitVec&&&b.toBitVec).isLt;simpa using this)]
 rfl
theorem eX {a b:UInt32}:(bin .or t x y (bw a) (bw b)).run P w=.ok (bw (a|||b)) w:=by
 unfold bw;rw[bE]
 show Result.ok (Value.int .u32 (IntKind.u32.wrap ((BitVec.ofInt 32 (a.toNat:Int)|||BitVec.ofInt 32 (b.toNat:Int)).toNat:Int))) w=_
 rw[ib,ib,gK,Nat.mod_eq_of_lt (by have:=(a.toBitVec|||b.toBitVec).isLt;simpa using this)]
 rfl
theorem cE {a b:UInt32}:(bin .xor t x y (bw a) (bw b)).run P w=.ok (bw (a^^^b)) w:=by
 unfold bw;rw[bE]
 show Result.ok (Value.int .u32 (IntKind.u32.wrap ((BitVec.ofInt 32 (a.toNat:Int)^^^BitVec.ofInt 32 (b.toNat:Int)).toNat:Int))) w=_
 rw[ib,ib,gK,Nat.mod_eq_of_lt (by have:=(a.toBitVec^^^b.toBitVec).isLt;simpa using this)]
 rfl
theorem p2 {a:UInt32}:(Op.unary .xor (bw a)).run P w=.ok (bw (~~~a)) w:=by
 show Result.ok (Value.int .u32 (IntKind.u32.wrap ((BitVec.ofInt 32 (4294967295:Int)^^^BitVec.ofInt 32 (a.toNat:Int)).toNat:Int))) w=_
 have e:BitVec.ofInt 32 (4294967295:Int)=BitVec.allOnes 32:=by decide
 rw[ib,e,BitVec.allOnes_xor,gK,Nat.mod_eq_of_lt (by have:=(~~~a.toBitVec).isLt;simpa using this)]
 rfl
theorem db {a:UInt32} {k:IntKind} (s:Nat) (hs:s<32):(bin .shr t x y (bw a) (.int k (s:Int))).run P w=.ok (bw (a>>>UInt32.ofNat s)) w:=by
 unfold bw;rw[bE]
 have h1:¬((s:Int)<0):=by omega
 have h2:min s 32=s:=by omega
 have e:((a.toNat:Int)).fdiv (2^s)=((a.toNat/2^s:Nat):Int):=by
  rw[Int.fdiv_eq_ediv_of_nonneg _ (by exact Int.le_of_lt (Int.pow_pos (by omega)))]
  simp
 have e2:(a>>>UInt32.ofNat s).toNat=a.toNat/2^s:=by
  rw[UInt32.toNat_shiftRight,Nat.shiftRight_eq_div_pow]
  have:(UInt32.ofNat s).toNat%32=s:=by rw[UInt32.toNat_ofNat'];omega
  rw[this]
 simp only[binOp,Op.shift,if_neg h1,Int.toNat_natCast,IntKind.bits,h2,e,←e2]
 rfl
theorem eC {a:UInt32} {k:IntKind} (s:Nat) (hs:s<32):(bin .shl t x y (bw a) (.int k (s:Int))).run P w=.ok (bw (a<<<UInt32.ofNat s)) w:=by
 unfold bw;rw[bE]
 have h1:¬((s:Int)<0):=by omega
 have h2:min s 32=s:=by omega
 have e2:(a<<<UInt32.ofNat s).toNat=a.toNat*2^s%4294967296:=by
  rw[UInt32.toNat_shiftLeft,Nat.shiftLeft_eq]
  have:(UInt32.ofNat s).toNat%32=s:=by rw[UInt32.toNat_ofNat'];omega
  rw[this]
 have e:((a.toNat:Int))*2^s=((a.toNat*2^s:Nat):Int):=by simp
 simp only[binOp,Op.shift,if_neg h1,Int.toNat_natCast,IntKind.bits,h2,e,gK,←e2]
 rfl
theorem fY (n:Nat):IntKind.u64.wrap (n:Int)=((n%18446744073709551616:Nat):Int):=by rw[IntKind.wrap_u64];omega
theorem rA (a:UInt64):a.toNat<18446744073709551616:=a.toNat_lt
theorem jf (a:UInt64):BitVec.ofInt 64 (a.toNat:Int)=a.toBitVec:=by
 rw[BitVec.ofInt_natCast];exact BitVec.eq_of_toNat_eq (by simp)
theorem vi {a b:UInt64} (h:a.toNat=b.toNat):a=b:=UInt64.toNat_inj.1 h
theorem dn {a b:UInt64}:(bin .add t x y (bj a) (bj b)).run P w=.ok (bj (a+b)) w:=by
 unfold bj;rw[bE]
 show Result.ok (Value.int .u64 (IntKind.u64.wrap (((a.toNat:Int))+(b.toNat:Int)))) w=_
 rw[←Int.natCast_add,fY,UInt64.toNat_add]
theorem dq {a b:UInt64}:(bin .sub t x y (bj a) (bj b)).run P w=.ok (bj (a-b)) w:=by
 unfold bj;rw[bE]
 show Result.ok (Value.int .u64 (IntKind.u64.wrap (((a.toNat:Int))-(b.toNat:Int)))) w=_
 rw[IntKind.wrap_u64,UInt64.toNat_sub]
 have:=rA a;have:=rA b
 have e:((a.toNat:Int)-(b.toNat:Int))%18446744073709551616=(((18446744073709551616-b.toNat+a.toNat)%18446744073709551616:Nat):Int):=by omega
 rw[e]
theorem fM {a b:UInt64}:(bin .mul t x y (bj a) (bj b)).run P w=.ok (bj (a*b)) w:=by
 unfold bj;rw[bE]
 show Result.ok (Value.int .u64 (IntKind.u64.wrap (((a.toNat:Int))*(b.toNat:Int)))) w=_
 rw[←Int.natCast_mul,fY,UInt64.toNat_mul]
theorem gt {a b:UInt64} (hb:b≠0):(bin .quo t x y (bj a) (bj b)).run P w=.ok (bj (a/b)) w:=by
 unfold bj;rw[bE]
 have h0:b.toNat≠0:=fun h=>hb (vi (by simpa using h))
 have h1:(b.toNat:Int)≠0:=by omega
 have e:((a.toNat:Int)).tdiv (b.toNat:Int)=((a.toNat/b.toNat:Nat):Int):=rfl
 have hlt:a.toNat/b.toNat<18446744073709551616:=Nat.lt_of_le_of_lt (Nat.div_le_self _ _) (rA a)
 simp only[binOp,Op.intDiv,ne_eq,not_true_eq_false,if_false,if_neg h1,e,fY,Nat.mod_eq_of_lt hlt,UInt64.toNat_div]
 rfl
theorem ic {a b:UInt64} (hb:b≠0):(bin .rem t x y (bj a) (bj b)).run P w=.ok (bj (a%b)) w:=by
 unfold bj;rw[bE]
 have h0:b.toNat≠0:=fun h=>hb (vi (by simpa using h))
 have h1:(b.toNat:Int)≠0:=by omega
 have e:((a.toNat:Int)).tmod (b.toNat:Int)=((a.toNat%b.toNat:Nat):Int):=rfl
 simp only[binOp,Op.intDiv,ne_eq,not_true_eq_false,if_false,if_neg h1,e,UInt64.toNat_mod]
 rfl
theorem dt {a b:UInt64}:(bin .lss t x y (bj a) (bj b)).run P w=.ok (B (decide (a<b))) w:=by
 unfold bj;rw[bE]
 have:decide (((a.toNat:Int))<(b.toNat:Int))=decide (a<b):=decide_eq_decide.2 (by rw[UInt64.lt_iff_toNat_lt];omega)
 show Result.ok (Value.bool (decide (((a.toNat:Int))<(b.toNat:Int)))) w=_
 rw[this];rfl
theorem pl {a b:UInt64}:(bin .leq t x y (bj a) (bj b)).run P w=.ok (B (decide (a≤b))) w:=by
 unfold bj;rw[bE]
 have:decide (((a.toNat:Int))≤(b.toNat:Int))=decide (a≤b):=decide_eq_decide.2 (by rw[UInt64.le_iff_toNat_le];omega)
 show Result.ok (Value.bool (decide (((a.toNat:Int))≤(b.toNat:Int)))) w=_
 rw[this];rfl
theorem ck {a b:UInt64}:(bin .gtr t x y (bj a) (bj b)).run P w=.ok (B (decide (a>b))) w:=by
 unfold bj;rw[bE]
 have:decide (((a.toNat:Int))>(b.toNat:Int))=decide (a>b):=decide_eq_decide.2 (by show _↔b<a;rw[UInt64.lt_iff_toNat_lt];omega)
 show Result.ok (Value.bool (decide (((a.toNat:Int))>(b.toNat:Int)))) w=_
 rw[this];rfl
theorem fx {a b:UInt64}:(bin .geq t x y (bj a) (bj b)).run P w=.ok (B (decide (a≥b))) w:=by
 unfold bj;rw[bE]
 have:decide (((a.toNat:Int))≥(b.toNat:Int))=decide (a≥b):=decide_eq_decide.2 (by show _↔b≤a;rw[UInt64.le_iff_toNat_le];omega)
 show Result.ok (Value.bool (decide (((a.toNat:Int))≥(b.toNat:Int)))) w=_
 rw[this];rfl
theorem fy {a b:UInt64}:(bin .eql t x y (bj a) (bj b)).run P w=.ok (B (decide (a=b))) w:=by
 unfold bj;rw[bE]
 have:(((a.toNat:Int))==(b.toNat:Int))=decide (a=b):=by
  rw[ve];exact decide_eq_decide.2 ⟨fun h=>vi (by omega),fun h=>by rw[h]⟩
 show Result.ok (Value.bool (((a.toNat:Int))==(b.toNat:Int))) w=_
 rw[this];rfl
theorem tS {a b:UInt64}:(bin .and t x y (bj a) (bj b)).run P w=.ok (bj (a&&&b)) w:=by
 unfold bj;rw[bE]
 show Result.ok (Value.int .u64 (IntKind.u64.wrap ((BitVec.ofInt 64 (a.toNat:Int)&&&BitVec.ofInt 64 (b.toNat:Int)).toNat:Int))) w=_
 rw[jf,jf,fY,Nat.mod_eq_of_lt (by have:=(a.toBitVec&&&b.toBitVec).isLt;simpa using this)]
 rfl
theorem iD {a b:UInt64}:(bin .or t x y (bj a) (bj b)).run P w=.ok (bj (a|||b)) w:=by
 unfold bj;rw[bE]
 show Result.ok (Value.int .u64 (IntKind.u64.wrap ((BitVec.ofInt 64 (a.toNat:Int)|||BitVec.ofInt 64 (b.toNat:Int)).toNat:Int))) w=_
 rw[jf,jf,fY,Nat.mod_eq_of_lt (by have:=(a.toBitVec|||b.toBitVec).isLt;simpa using this)]
 rfl
theorem BN {a b:UInt64}:(bin .xor t x y (bj a) (bj b)).run P w=.ok (bj (a^^^b)) w:=by
 unfold bj;rw[bE]
 show Result.ok (Value.int .u64 (IntKind.u64.wrap ((BitVec.ofInt 64 (a.toNat:Int)^^^BitVec.ofInt 64 (b.toNat:Int)).toNat:Int))) w=_
 rw[jf,jf,fY,Nat.mod_eq_of_lt (by have:=(a.toBitVec^^^b.toBitVec).isLt;simpa using this)]
 rfl
theorem du {a:UInt64} {k:IntKind} (s:Nat) (hs:s<64):(bin .shr t x y (bj a) (.int k (s:Int))).run P w=.ok (bj (a>>>UInt64.ofNat s)) w:=by
 unfold bj;rw[bE]
 have h1:¬((s:Int)<0):=by omega
 have h2:min s 64=s:=by omega
 have e:((a.toNat:Int)).fdiv (2^s)=((a.toNat/2^s:Nat):Int):=by
  rw[Int.fdiv_eq_ediv_of_nonneg _ (by exact Int.le_of_lt (Int.pow_pos (by omega)))]
  simp
 have e2:(a>>>UInt64.ofNat s).toNat=a.toNat/2^s:=by
  rw[UInt64.toNat_shiftRight,Nat.shiftRight_eq_div_pow]
  have:(UInt64.ofNat s).toNat%64=s:=by rw[UInt64.toNat_ofNat'];omega
  rw[this]
 simp only[binOp,Op.shift,if_neg h1,Int.toNat_natCast,IntKind.bits,h2,e,←e2]
 rfl
theorem fz {a:UInt64} {k:IntKind} (s:Nat) (hs:s<64):(bin .shl t x y (bj a) (.int k (s:Int))).run P w=.ok (bj (a<<<UInt64.ofNat s)) w:=by
 unfold bj;rw[bE]
 have h1:¬((s:Int)<0):=by omega
 have h2:min s 64=s:=by omega
 have e2:(a<<<UInt64.ofNat s).toNat=a.toNat*2^s%18446744073709551616:=by
  rw[UInt64.toNat_shiftLeft,Nat.shiftLeft_eq]
  have:(UInt64.ofNat s).toNat%64=s:=by rw[UInt64.toNat_ofNat'];omega
  rw[this]
 have e:((a.toNat:Int))*2^s=((a.toNat*2^s:Nat):Int):=by simp
 simp only[binOp,Op.shift,if_neg h1,Int.toNat_natCast,IntKind.bits,h2,e,fY,←e2]
 rfl
theorem jR {s d:TypeId} {ds:TypeDesc} {j k:IntKind} {n:Int} (hs:P.underlying s=some ds) (hd:P.underlying d=some (.int k)):(convert s d (.int j n)).run P w=.ok (.int k (k.wrap n)) w:=by
 simp only[convert,Sem.run_bind,run_underlying hs,run_underlying hd,Result.andThen_ok]
 rfl
section
variable {s d:TypeId} {ds:TypeDesc} (hs:P.underlying s=some ds)
include hs
theorem dT {a:UInt8} (hd:P.underlying d=some (.int .u32)):(convert s d (U8 a)).run P w=.ok (bw a.toUInt32) w:=by
 unfold U8 bw;rw[jR hs hd,gK]
 have:=AL a
 have e:a.toUInt32.toNat=a.toNat%4294967296:=by simp
 rw[e]
theorem rB {a:UInt8} (hd:P.underlying d=some (.int .u64)):(convert s d (U8 a)).run P w=.ok (bj a.toUInt64) w:=by
 unfold U8 bj;rw[jR hs hd,fY]
 have:=AL a
 have e:a.toUInt64.toNat=a.toNat%18446744073709551616:=by simp
 rw[e]
theorem vj {a:UInt8} (hd:P.underlying d=some (.int .i64)):(convert s d (U8 a)).run P w=.ok (I (a.toNat:Int)) w:=by
 unfold U8 I;have:=AL a;rw[jR hs hd,nq (by omega) (by omega)]
theorem eY {a:UInt32} (hd:P.underlying d=some (.int .u8)):(convert s d (bw a)).run P w=.ok (U8 a.toUInt8) w:=by
 unfold bw U8;rw[jR hs hd,oh]
 have:=DC a
 have e:a.toUInt8.toNat=a.toNat%256:=by simp
 rw[e]
theorem bI {a:UInt32} (hd:P.underlying d=some (.int .u64)):(convert s d (bw a)).run P w=.ok (bj a.toUInt64) w:=by
 unfold bw bj;rw[jR hs hd,fY]
 have:=DC a
 have e:a.toUInt64.toNat=a.toNat%18446744073709551616:=by simp
 rw[e]
theorem j4 {a:UInt64} (hd:P.underlying d=some (.int .u8)):(convert s d (bj a)).run P w=.ok (U8 a.toUInt8) w:=by
 unfold bj U8;rw[jR hs hd,oh]
 have:=rA a
 have e:a.toUInt8.toNat=a.toNat%256:=by simp
 rw[e]
theorem cw {a:UInt64} (hd:P.underlying d=some (.int .u32)):(convert s d (bj a)).run P w=.ok (bw a.toUInt32) w:=by
 unfold bj bw;rw[jR hs hd,gK]
 have:=rA a
 have e:a.toUInt32.toNat=a.toNat%4294967296:=by simp
 rw[e]
theorem vm {a:Int} (hd:P.underlying d=some (.int .u64)):(convert s d (I a)).run P w=.ok (bj (UInt64.ofInt a)) w:=by
 unfold I bj;rw[jR hs hd,IntKind.wrap_u64]
 have e:((UInt64.ofInt a).toNat:Int)=a%18446744073709551616:=by
  have h2:(2:Int)^64=18446744073709551616:=by decide
  rw[UInt64.ofInt,h2,UInt64.toNat_ofNat'];omega
 rw[e]
theorem cI {a:Nat} (hd:P.underlying d=some (.int .u64)):(convert s d (I (a:Int))).run P w=.ok (bj (UInt64.ofNat a)) w:=by
 unfold I bj;rw[jR hs hd,fY,UInt64.toNat_ofNat']
theorem mC {a:UInt64} (hd:P.underlying d=some (.int .i64)) (h:a.toNat<9223372036854775808):(convert s d (bj a)).run P w=.ok (I (a.toNat:Int)) w:=by
 unfold bj I;rw[jR hs hd,nq (by omega) (by omega)]
end
def S (l:List UInt8):Value:=.string ⟨l.toArray⟩
theorem AN {a b:List UInt8}:(bin .eql t x y (S a) (S b)).run P w=.ok (B (decide (a=b))) w:=by
 show Result.ok (Value.bool ((⟨a.toArray⟩:ByteArray).toList==(⟨b.toArray⟩:ByteArray).toList)) w=_
 rw[ByteArray.toList_mk,ByteArray.toList_mk]
 have e:(a==b)=decide (a=b):=by by_cases h:a=b<;>simp[h]
 rw[e];rfl
theorem qX {a b:List UInt8}:(bin .neq t x y (S a) (S b)).run P w=.ok (B (decide (a≠b))) w:=by
 show Result.ok (Value.bool (!((⟨a.toArray⟩:ByteArray).toList==(⟨b.toArray⟩:ByteArray).toList))) w=_
 rw[ByteArray.toList_mk,ByteArray.toList_mk]
 have e:(!(a==b))=decide (a≠b):=by by_cases h:a=b<;>simp[h]
 rw[e];rfl
end
end Go.Rl
namespace Go.Rl
open Go.RowKit Go.Proofs
theorem p3 (vs:List Value):∀(a b:List Value),(∀v∈vs,v.cells= #[v])→b.length=vs.length→
 Instr.fill (fun i=>some (i*1,1)) (a++b).toArray (dS a.length vs)=some (a++vs).toArray:=by
 induction vs with
 |nil=>
  intro a b _ hb
  have:b=[]:=List.eq_nil_of_length_eq_zero (by simpa using hb)
  subst this
  rfl
 |cons v vs ih=>
  intro a b h1 hb
  cases b with
  |nil=>simp at hb
  |cons b0 b=>
   have hv:v.cells= #[v]:=h1 v (by simp)
   have hz:v.cells.zipIdx.foldl (fun(cs:Array Value) (c,j)=>cs.setIfInBounds (a.length*1+j) c) (a++b0::b).toArray=((a++[v])++b).toArray:=by
    rw[hv];simp
   have hc:(v.cells.size≠1||decide (a.length*1+v.cells.size>(a++b0::b).toArray.size))=false:=by rw[hv];simp
   have:=ih (a++[v]) b (fun u hu=>h1 u (by simp[hu])) (by simpa using hb)
   simp only[dS,Instr.fill]
   rw[hc,hz]
   simp only[List.length_append,List.length_cons,List.length_nil,Nat.zero_add] at this
   simpa using this
theorem tT {v:Value} (h:v.oneCell'=true):v.cells= #[v]:=by cases v<;>first|rfl|cases h
section
variable {P:Program} {w:World}
theorem kJ {base:Nat} {t e:TypeId} {z:Value} {bytes:Nat} (ht:P.underlying t=some (.slice e)) (hi:(P.info? e).map (fun i=>(i.zero,i.size,i.bytes))=some (some z,1,bytes))
 (vs:List Value) (h1:∀v∈vs,v.oneCell'=true) (hl:vs.length≤16777216) (hb:base≤w.heap.size):
 ∃r w',(Instr.buildSlice t vs.length (dS 0 vs).toArray).run P w=.ok r w'∧aM w w'∧w'.ownsRow base e 1 r vs.length vs∧r.ownBlock=some w.heap.size:=by
 obtain⟨i,hi,hz0,hs,_⟩:=info_parts hi
 refine⟨.slice (some ⟨w.heap.size,0,none⟩) vs.length vs.length,w.alloc (.cells vs.toArray e),?_,aM.new w _,?_,rfl⟩
 ·have hf:∀Z:Array Value,Z.size=vs.length→Instr.fill (fun i=>some (i*1,1)) Z (dS 0 vs)=some vs.toArray:=fun Z hZ=>by
   have:=p3 vs [] Z.toList (fun v hv=>tT (h1 v hv)) (by simpa using hZ)
   simpa using this
  have hle:¬(vs.length*1>2^24):=by omega
  have hinfo:(typeInfo e).run P w=.ok i w:=by simp[typeInfo,hi]
  have hsz:(sizeOf e).run P w=.ok 1 w:=by simp[sizeOf,hinfo,hs]
  have hzv:(zeroValue e).run P w=.ok z w:=by simp[zeroValue,hinfo,hz0]
  simp only[Instr.buildSlice,Sem.run_bind,run_underlying ht,Result.andThen_ok,hsz,if_neg hle]
  by_cases h0:vs.length*1=0
  ·rw[if_pos h0]
   simp only[Sem.run_bind,Sem.run_pure,Result.andThen_ok]
   rw[hf _ (by simp)]
   simp[newRow]
  ·rw[if_neg h0]
   simp only[Sem.run_bind,Sem.run_pure,Result.andThen_ok,hzv]
   rw[hf _ (by simp)]
   simp[newRow]
 ·exact World.ownsRow_lit w vs.toArray vs.length hb (by unfold maxLen;omega) (by simp)
theorem aS {u v:Value}:(Instr.extract (.tuple #[u,v]) 0).run P w=.ok u w:=rfl
theorem aT {u v:Value}:(Instr.extract (.tuple #[u,v]) 1).run P w=.ok v w:=rfl
theorem eh {u v z:Value}:(Instr.extract (.tuple #[u,v,z]) 0).run P w=.ok u w:=rfl
theorem ei {u v z:Value}:(Instr.extract (.tuple #[u,v,z]) 1).run P w=.ok v w:=rfl
theorem ej {u v z:Value}:(Instr.extract (.tuple #[u,v,z]) 2).run P w=.ok z w:=rfl
theorem AO {t e:TypeId} (ht:P.underlying t=some (.slice e)) {x y:Operand} {A:Option Addr} {n c:Nat}:(bin .eql t x y (.slice A n c) (.slice none 0 0)).run P w=.ok (B A.isNone) w:=by
 have h:(Op.equal t (.slice A n c) (.slice none 0 0)).run P w=.ok A.isNone w:=by
  show(Op.equalIn (9999+1) t (.slice A n c) (.slice none 0 0)).run P w=_
  unfold Op.equalIn
  cases A<;>simp[run_underlying ht]
 show(do pure (Value.bool (←Op.equal t (.slice A n c) (.slice none 0 0))):Sem Value).run P w=_
 rw[Sem.run_bind,h];rfl
theorem lP {t e:TypeId} (ht:P.underlying t=some (.pointer e)) {x y:Operand} {a:Option Addr}:(bin .eql t x y (.pointer a) (.pointer none)).run P w=.ok (B a.isNone) w:=by
 have h:(Op.equal t (.pointer a) (.pointer none)).run P w=.ok a.isNone w:=by
  show(Op.equalIn (9999+1) t (.pointer a) (.pointer none)).run P w=_
  unfold Op.equalIn
  cases a<;>simp[run_underlying ht]
 show(do pure (Value.bool (←Op.equal t (.pointer a) (.pointer none))):Sem Value).run P w=_
 rw[Sem.run_bind,h];rfl
theorem DD {t e:TypeId} (ht:P.underlying t=some (.pointer e)) {x y:Operand} {a:Option Addr}:(bin .neq t x y (.pointer a) (.pointer none)).run P w=.ok (B a.isSome) w:=by
 have h:(Op.equal t (.pointer a) (.pointer none)).run P w=.ok a.isNone w:=by
  show(Op.equalIn (9999+1) t (.pointer a) (.pointer none)).run P w=_
  unfold Op.equalIn
  cases a<;>simp[run_underlying ht]
 show(do pure (Value.bool (!(←Op.equal t (.pointer a) (.pointer none)))):Sem Value).run P w=_
 rw[Sem.run_bind,h]
 cases a<;>rfl
end
section
variable {w:World}
def cm (l:List UInt8):dx:=Sl 1 (l.map U8)
def cD (base:Nat) (l:List UInt8):dx:=fun v w=>∃n,w.ownsRow base 5 1 v n (l.map U8)
theorem cm.stable (l:List UInt8):bu (cm l):=Sl.stable _ _
theorem cm.ext {l:List UInt8} {v:Value} {w w':World} (h:cm l v w) (hx:aM w w'):cm l v w':=Sl.ext h hx
theorem cD.bts {base:Nat} {l:List UInt8} {v:Value} (h:cD base l v w):cm l v w:=h.elim fun _ h=>Sl.of_own h
theorem cD.stable (base:Nat) (l:List UInt8):bu (cD base l):=fun _ _ _ h hx=>h.elim fun n h=>⟨n,jI h hx⟩
theorem cD.ext {base:Nat} {l:List UInt8} {v:Value} {w w':World} (h:cD base l v w) (hx:aM w w'):cD base l v w':=cD.stable _ _ _ _ _ h hx
theorem kK (l:List UInt8):∀u∈l.map U8,u.oneCell'=true:=by
 intro u hu
 obtain⟨b,_,rfl⟩:=List.mem_map.1 hu
 rfl
theorem oo:(Tryz.prog.info? 5).map (fun i=>(i.zero,i.size,i.bytes))=some (some (.int .u8 0),1,1):=by kernel_rfl
theorem fC:(Tryz.prog.info? 5).map (·.size)=some 1:=by kernel_rfl
theorem DE (l:List UInt8):∀(s:ByteArray),(l.map (fun b=>(b.toNat:Int))).foldl (fun r n=>r.push (UInt8.ofNat n.toNat)) s=⟨(s.data.toList++l).toArray⟩:=by
 induction l with
 |nil=>intro s;simp
 |cons b l ih=>
  intro s
  rw[List.map_cons,List.foldl_cons,ih]
  simp[ByteArray.push]
theorem p5 {l:List UInt8} {v:Value} (h:cm l v w):(convert 28 9 v).run Tryz.prog w=.ok (S l) w:=by
 obtain⟨A,n,c,rfl,hnc,hcm,hl,hc,hnone⟩:=h
 have hl':l.length=n:=by simpa using hl
 rw[run_convert_bytes_string w _ _ _ A n c IP IR Tryz.underlying9]
 have hn0:n=0→l=[]:=fun h=>List.eq_nil_of_length_eq_zero (by omega)
 cases A with
 |none=>
  have:=hnone rfl
  rw[hn0 (by omega)]
  rfl
 |some a=>
  have cX:dM w a (l.map U8):=by
   rcases Nat.eq_zero_or_pos n with h0|h0
   ·rw[hn0 h0];intro j u hu;simp at hu
   ·obtain⟨ad,he,hc⟩:=hc h0
    obtain rfl:=Option.some.inj he
    exact hc
  have hload:=run_loadCells_list (P:=Tryz.prog) (w:=w) a (l.map U8) cX
  have hmap:(l.map U8)=(l.map (fun b=>(b.toNat:Int))).map (Value.int .u8):=by rw[List.map_map];rfl
  rw[hmap] at hload
  simp only[List.length_map] at hload
  rw[hl'] at hload
  rw[run_bytesToString w a n c _ hload,DE]
  rfl
theorem bz {l:List UInt8} {v:Value} {ty:TypeId} (h:cm l v w):(Builtin.len_ #[28] ty #[v]).run Tryz.prog w=.ok (I l.length) w:=by
 obtain⟨n,hl,_,hr⟩:=Dz (P:=Tryz.prog) (ty:=ty) IP h
 have:l.length=n:=by simpa using hl
 rw[hr,this]
theorem cm.len {l:List UInt8} {v:Value} (h:cm l v w):l.length≤9223372036854775807:=by
 obtain⟨A,n,c,rfl,hnc,hcm,hl,_⟩:=h
 have:l.length=n:=by simpa using hl
 unfold maxLen at hcm;omega
theorem di {base:Nat} {l m:List UInt8} {v x:Value} {ty:TypeId} (hv:cD base l v w) (hx:cm m x w) (hb:l.length+m.length≤140737488355328) (hbase:base≤w.heap.size):
 ∃r w',(Builtin.append_ #[28,28] ty #[v,x]).run Tryz.prog w=.ok r w'∧cD base (l++m) r w'∧gJ w w' v r:=by
 obtain⟨n,hv⟩:=hv
 obtain⟨r,w',n',h1,h2,h3⟩:=og (P:=Tryz.prog) (ty:=ty) Tryz.underlying28 oo rfl (by omega) hv hx (kK m) (by simpa using hb) (by omega) hbase
 exact⟨r,w',h1,⟨n',by rw[List.map_append];exact h2⟩,h3⟩
theorem fq (base:Nat) (l:List UInt8) (hl:l.length≤16777216) (hb:base≤w.heap.size):
 ∃r w',(Instr.buildSlice 28 l.length (dS 0 (l.map U8)).toArray).run Tryz.prog w=.ok r w'∧aM w w'∧cD base l r w'∧r.ownBlock=some w.heap.size:=by
 have:=kJ (P:=Tryz.prog) (w:=w) Tryz.underlying28 oo (l.map U8) (kK l) (by simpa using hl) hb
 simp only[List.length_map] at this
 obtain⟨r,w',h1,h2,h3,h4⟩:=this
 exact⟨r,w',h1,h2,⟨_,h3⟩,h4⟩
theorem p6 {l:List UInt8} {v:Value} (h:cm l v w) {lo hi:Nat} (h1:lo≤hi) (h2:hi≤l.length) (kl kh:IntKind):
 ∃r,(∀w':World,(Instr.sliceAt 28 v (some (.int kl lo)) (some (.int kh hi)) none).run Tryz.prog w'=.ok r w')∧cm ((l.take hi).drop lo) r w:=by
 obtain⟨r,h3,h4⟩:=FN (P:=Tryz.prog) Tryz.underlying28 fC h h1 (by simpa using h2) (by omega) kl kh
 exact⟨r,h3,by simpa [cm,List.map_drop,List.map_take] using h4⟩
theorem eZ {l:List UInt8} {v:Value} (h:cm l v w) {lo:Nat} (h2:lo≤l.length) (kl:IntKind):
 ∃r,(∀w':World,(Instr.sliceAt 28 v (some (.int kl lo)) none none).run Tryz.prog w'=.ok r w')∧cm (l.drop lo) r w:=by
 obtain⟨r,h3,h4⟩:=ry (P:=Tryz.prog) Tryz.underlying28 fC h (lo:=lo) (by simpa using h2) (by omega) kl
 exact⟨r,h3,by simpa [cm,List.map_drop] using h4⟩
theorem gL {l:List UInt8} {v:Value} (h:cm l v w) {hi:Nat} (h2:hi≤l.length) (kh:IntKind):
 ∃r,(∀w':World,(Instr.sliceAt 28 v none (some (.int kh hi)) none).run Tryz.prog w'=.ok r w')∧cm (l.take hi) r w:=by
 obtain⟨r,h3,h4⟩:=rz (P:=Tryz.prog) Tryz.underlying28 fC h (hi:=hi) (by simpa using h2) (by omega) kh
 exact⟨r,h3,by simpa [cm,List.map_take] using h4⟩
theorem er {l:List UInt8} {v:Value} (h:cm l v w) {i:Nat} (hi:i<l.length) (k:IntKind):
 ∃ad,(∀w':World,(Instr.indexAt 28 v (.int k i)).run Tryz.prog w'=.ok (.pointer (some ad)) w')∧w.cell? ad=some (U8 l[i]):=by
 obtain⟨ad,h3,h4⟩:=qW (P:=Tryz.prog) Tryz.underlying28 fC h (i:=i) (by simp;omega) (by omega) k
 refine⟨ad,h3,?_⟩
 have:=h4 0 (U8 l[i]) (by simp[hi])
 rwa [jn] at this
theorem GF {ad:Addr} {b:UInt8} (h:w.cell? ad=some (U8 b)):(Instr.loadAt 5 (.pointer (some ad))).run Tryz.prog w=.ok (U8 b) w:=ak IR rfl h
def bt (l:List UInt32):dx:=Sl 1 (l.map bw)
def dK (base:Nat) (l:List UInt32):dx:=fun v w=>∃n,w.ownsRow base 111 1 v n (l.map bw)
theorem bt.stable (l:List UInt32):bu (bt l):=Sl.stable _ _
theorem bt.ext {l:List UInt32} {v:Value} {w w':World} (h:bt l v w) (hx:aM w w'):bt l v w':=Sl.ext h hx
theorem dK.wds {base:Nat} {l:List UInt32} {v:Value} (h:dK base l v w):bt l v w:=h.elim fun _ h=>Sl.of_own h
theorem dK.stable (base:Nat) (l:List UInt32):bu (dK base l):=fun _ _ _ h hx=>h.elim fun n h=>⟨n,jI h hx⟩
theorem dK.ext {base:Nat} {l:List UInt32} {v:Value} {w w':World} (h:dK base l v w) (hx:aM w w'):dK base l v w':=dK.stable _ _ _ _ _ h hx
theorem dK.nil (base:Nat) (w:World):dK base [] (.slice none 0 0) w:=⟨0,World.ownsRow_nil _ _ _ _⟩
theorem cD.nil (base:Nat) (w:World):cD base [] (.slice none 0 0) w:=⟨0,World.ownsRow_nil _ _ _ _⟩
theorem cm.nil (w:World):cm [] (.slice none 0 0) w:=Sl.nil _ _
theorem bt.nil (w:World):bt [] (.slice none 0 0) w:=Sl.nil _ _
theorem AP (l:List UInt32):∀u∈l.map bw,u.oneCell'=true:=by
 intro u hu
 obtain⟨b,_,rfl⟩:=List.mem_map.1 hu
 rfl
theorem rC:(Tryz.prog.info? 111).map (fun i=>(i.zero,i.size,i.bytes))=some (some (.int .u32 0),1,4):=by kernel_rfl
theorem dU:(Tryz.prog.info? 111).map (·.size)=some 1:=by kernel_rfl
theorem bp {t:TypeId} (ht:Tryz.prog.underlying t=some (.slice 111)) {l:List UInt32} {v:Value} {ty:TypeId} (h:bt l v w):(Builtin.len_ #[t] ty #[v]).run Tryz.prog w=.ok (I l.length) w:=by
 obtain⟨n,hl,_,hr⟩:=Dz (P:=Tryz.prog) (ty:=ty) ht h
 have:l.length=n:=by simpa using hl
 rw[hr,this]
theorem bt.len {l:List UInt32} {v:Value} (h:bt l v w):l.length≤9223372036854775807:=by
 obtain⟨A,n,c,rfl,hnc,hcm,hl,_⟩:=h
 have:l.length=n:=by simpa using hl
 unfold maxLen at hcm;omega
theorem cL {t:TypeId} (ht:Tryz.prog.underlying t=some (.slice 111)) {l:List UInt32} {v:Value} (h:bt l v w) {i:Nat} (hi:i<l.length) (k:IntKind):
 ∃ad,(∀w':World,(Instr.indexAt t v (.int k i)).run Tryz.prog w'=.ok (.pointer (some ad)) w')∧w.cell? ad=some (bw l[i]):=by
 obtain⟨ad,h3,h4⟩:=qW (P:=Tryz.prog) ht dU h (i:=i) (by simp;omega) (by omega) k
 refine⟨ad,h3,?_⟩
 have:=h4 0 (bw l[i]) (by simp[hi])
 rwa [jn] at this
theorem H4 {ad:Addr} {b:UInt32} (h:w.cell? ad=some (bw b)):(Instr.loadAt 111 (.pointer (some ad))).run Tryz.prog w=.ok (bw b) w:=ak IK rfl h
theorem jo {base:Nat} {t:TypeId} (ht:Tryz.prog.underlying t=some (.slice 111)) {l m:List UInt32} {v x:Value} {ty:TypeId} (hv:dK base l v w) (hx:bt m x w) (hb:l.length+m.length≤35184372088832) (hbase:base≤w.heap.size):
 ∃r w',(Builtin.append_ #[t,t] ty #[v,x]).run Tryz.prog w=.ok r w'∧dK base (l++m) r w'∧gJ w w' v r:=by
 obtain⟨n,hv⟩:=hv
 obtain⟨r,w',n',h1,h2,h3⟩:=og (P:=Tryz.prog) (ty:=ty) ht rC rfl (by omega) hv hx (AP m) (by simp;omega) (by omega) hbase
 exact⟨r,w',h1,⟨n',by rw[List.map_append];exact h2⟩,h3⟩
theorem gV {t:TypeId} (ht:Tryz.prog.underlying t=some (.slice 111)) (base:Nat) (l:List UInt32) (hl:l.length≤16777216) (hb:base≤w.heap.size):
 ∃r w',(Instr.buildSlice t l.length (dS 0 (l.map bw)).toArray).run Tryz.prog w=.ok r w'∧aM w w'∧dK base l r w'∧r.ownBlock=some w.heap.size:=by
 have:=kJ (P:=Tryz.prog) (w:=w) ht rC (l.map bw) (AP l) (by simpa using hl) hb
 simp only[List.length_map] at this
 obtain⟨r,w',h1,h2,h3,h4⟩:=this
 exact⟨r,w',h1,h2,⟨_,h3⟩,h4⟩
end
end Go.Rl
namespace Go.Rl
open Go.RowKit Go.Proofs
section
variable {P:Program} {w w':World}
theorem dE {t:TypeId} {n:Nat} (h:(P.info? t).map (·.size)=some n):(sizeOf t).run P w=.ok n w:=by
 obtain⟨i,hi,rfl⟩:=Option.map_eq_some_iff.1 h
 simp[sizeOf,typeInfo,hi]
theorem pm {t:TypeId} {z:Value} (h:(P.info? t).map (·.zero)=some (some z)):(zeroValue t).run P w=.ok z w:=by
 obtain⟨i,hi,h⟩:=Option.map_eq_some_iff.1 h
 simp[zeroValue,typeInfo,hi,h]
theorem ov {t:TypeId} {v:Value}:(Instr.box t v).run P w=.ok (.pointer (some ⟨w.heap.size,0,none⟩)) (w.alloc (.cells v.cells t)):=by
 simp[Instr.box,newVar,newRow]
theorem vn {t:TypeId} {z:Value} (h:(P.info? t).map (·.zero)=some (some z)):(Instr.alloc t true (.tuple #[])).run P w=.ok (.pointer (some ⟨w.heap.size,0,none⟩)) (w.alloc (.cells z.cells t)):=by
 simp[Instr.alloc,pm h,newVar,newRow]
theorem cz {s:TypeId} {fs:Array Field} {f:Field} {n k:Nat} {a:Addr} (hs:P.underlying s=some (.struct fs)) (hf:fs[n]? =some f) (hsz:(P.info? f.type).map (·.size)=some k) (hk:k≠0):
 (Instr.fieldAt s (.pointer (some a)) n).run P w=.ok (.pointer (some (a.add f.offset))) w:=by
 simp[Instr.fieldAt,run_underlying hs,hf,Instr.sureAddr,fieldPlace,dE hsz,hk]
theorem iP {g i:Nat} {cs:Array Value} {T:TypeId} {fr:Nat×Nat} {v:Value} (h:w.heap[g]? =some (.cells cs T fr)) (hi:cs[i]? =some v):w.cell? ⟨g,i,none⟩=some v:=(cell_of_row w g i cs T fr h).trans hi
theorem Sl.keep {sz:Nat} {xs:List Value} {v:Value} {g:Nat} {cs:Array Value} {T:TypeId} {fr:Nat×Nat} (h:Sl sz xs v w) (hg:w.heap[g]? =some (.cells cs T fr)) (hcs:∀(j:Nat) (u:Value),u∈xs→cs[j]? ≠some u) (hw:w.grownBy w' (some g)):Sl sz xs v w':=by
 obtain⟨A,n,c,rfl,h1,h2,h3,h4,h5⟩:=h
 refine⟨A,n,c,rfl,h1,h2,h3,fun hn=>?_,h5⟩
 obtain⟨ad,rfl,hc⟩:=h4 hn
 refine⟨ad,rfl,fun j u hu=>?_⟩
 have hcell:=hc j u hu
 have hne:(ad.add j).block≠g:=fun he=>by
  have hmem:u∈xs:=List.mem_of_getElem? hu
  have:w.cell? (ad.add j)=cs[(ad.add j).off]? :=by
   have hs:(ad.add j).spot=none:=World.cell?_spot hcell
   have e:ad.add j=⟨g,(ad.add j).off,none⟩:=by
    cases hx:ad.add j with
    |mk b o s=>
     rw[hx] at hs he
     simp only at hs he
     rw[hs,he]
   rw[e]
   exact cell_of_row w g _ cs T fr hg
  rw[hcell] at this
  exact hcs _ u hmem this.symm
 have hlt:=World.block_lt_of_cell? w (ad.add j) hcell
 exact(World.cell?_of_block (hw.block _ hlt (fun e=>hne (Option.some.inj e)))).trans hcell
end
section
variable {w:World}
end
end Go.Rl
namespace Go.Rl
open Go.RowKit
inductive Dt where
 |int (k:IntKind) (n:Int)
 |bool (b:Bool)
 |str (l:List UInt8)
 |sl (l:List Dt)
 |st (l:List Dt)
mutual
def Dt.size:Dt→Nat
 |.int _ _=>1
 |.bool _=>1
 |.str _=>1
 |.sl _=>1
 |.st l=>Dt.sizeAll l
def Dt.sizeAll:List Dt→Nat
 |[]=>0
 |d::l=>d.size+Dt.sizeAll l
end
mutual
def Rp (w:World):Dt→List Value→Prop
 |.int k n,cs=>cs=[.int k n]
 |.bool b,cs=>cs=[.bool b]
 |.str l,cs=>cs=[S l]
 |.sl l,cs=>∃A n c,cs=[.slice A n c]∧l.length=n∧n≤c∧c≤maxLen∧(A=none→c=0)∧(0<n→∃ad xs,A=some ad∧dM w ad xs∧bL w l xs)
 |.st l,cs=>bL w l cs
def bL (w:World):List Dt→List Value→Prop
 |[],cs=>cs=[]
 |d::ds,cs=>∃c1 c2,cs=c1++c2∧Rp w d c1∧bL w ds c2
end
mutual
theorem Rp.len {w:World}:∀{d:Dt} {cs:List Value},Rp w d cs→cs.length=d.size
 |.int k n,cs,h=>by simp only[Rp] at h;subst h;rfl
 |.bool b,cs,h=>by simp only[Rp] at h;subst h;rfl
 |.str l,cs,h=>by simp only[Rp] at h;subst h;rfl
 |.sl l,cs,h=>by simp only[Rp] at h;obtain⟨A,n,c,rfl,_⟩:=h;rfl
 |.st l,cs,h=>by simp only[Rp] at h;simpa [Dt.size] using bL.len h
theorem bL.len {w:World}:∀{l:List Dt} {cs:List Value},bL w l cs→cs.length=Dt.sizeAll l
 |[],cs,h=>by simp only[bL] at h;subst h;rfl
 |d::l,cs,h=>by
  simp only[bL] at h
  obtain⟨c1,c2,rfl,h1,h2⟩:=h
  simp[Dt.sizeAll,Rp.len h1,bL.len h2]
end
mutual
theorem Rp.ext {w w':World} (hx:aM w w'):∀{d:Dt} {cs:List Value},Rp w d cs→Rp w' d cs
 |.int k n,cs,h=>by simpa only[Rp] using h
 |.bool b,cs,h=>by simpa only[Rp] using h
 |.str l,cs,h=>by simpa only[Rp] using h
 |.sl l,cs,h=>by
  simp only[Rp] at h⊢
  obtain⟨A,n,c,h1,h2,h3,h4,h5,h6⟩:=h
  refine⟨A,n,c,h1,h2,h3,h4,h5,fun hn=>?_⟩
  obtain⟨ad,xs,h7,h8,h9⟩:=h6 hn
  exact⟨ad,xs,h7,h8.ext hx,bL.ext hx h9⟩
 |.st l,cs,h=>by simp only[Rp] at h⊢;exact bL.ext hx h
theorem bL.ext {w w':World} (hx:aM w w'):∀{l:List Dt} {cs:List Value},bL w l cs→bL w' l cs
 |[],cs,h=>by simpa only[bL] using h
 |d::l,cs,h=>by
  simp only[bL] at h⊢
  obtain⟨c1,c2,h0,h1,h2⟩:=h
  exact⟨c1,c2,h0,Rp.ext hx h1,bL.ext hx h2⟩
end
section
variable {w:World}
theorem bL.nil:bL w [] []:=by simp only[bL]
theorem bL.cons {d:Dt} {l:List Dt} {a b:List Value} (h:Rp w d a) (h':bL w l b):bL w (d::l) (a++b):=by simp only[bL];exact⟨a,b,rfl,h,h'⟩
theorem df {sz:Nat}:∀{l:List Dt},(∀d∈l,d.size=sz)→Dt.sizeAll l=l.length*sz
 |[],_=>by simp[Dt.sizeAll]
 |d::l,h=>by
  rw[Dt.sizeAll,h d (by simp),df fun e he=>h e (by simp[he]),List.length_cons,Nat.add_mul]
  omega
theorem bL.split {sz:Nat}:∀{l:List Dt} {xs:List Value} (k:Nat),bL w l xs→(∀d∈l,d.size=sz)→k≤l.length→bL w (l.take k) (xs.take (k*sz))∧bL w (l.drop k) (xs.drop (k*sz))
 |l,xs,0,h,_,_=>by simp[bL.nil,h]
 |[],xs,k+1,h,_,hk=>by simp at hk
 |d::l,xs,k+1,h,hs,hk=>by
  simp only[bL] at h
  obtain⟨c1,c2,rfl,h1,h2⟩:=h
  have hc:c1.length=sz:=by rw[h1.len];exact hs d (by simp)
  obtain⟨h3,h4⟩:=bL.split k h2 (fun e he=>hs e (by simp[he])) (by simpa using hk)
  have e:(k+1)*sz=c1.length+k*sz:=by rw[hc,Nat.add_mul];omega
  rw[e,List.take_length_add_append,List.drop_length_add_append]
  exact⟨bL.cons h1 h3,h4⟩
theorem bL.at {sz:Nat} {l:List Dt} {xs:List Value} {i:Nat} (h:bL w l xs) (hs:∀d∈l,d.size=sz) (hi:i<l.length):Rp w l[i] ((xs.drop (i*sz)).take sz):=by
 obtain⟨_,h2⟩:=bL.split i h hs (by omega)
 rw[List.drop_eq_getElem_cons hi] at h2
 simp only[bL] at h2
 obtain⟨c1,c2,he,h1,_⟩:=h2
 have hc:c1.length=sz:=by rw[h1.len];exact hs _ (List.getElem_mem hi)
 rw[he,←hc,List.take_left']
 ·exact h1
 ·rfl
theorem Rp.toSl {sz:Nat} {l:List Dt} {v:Value} (h:Rp w (.sl l) [v]) (hs:∀d∈l,d.size=sz):∃xs,Sl sz xs v w∧bL w l xs:=by
 simp only[Rp] at h
 obtain⟨A,n,c,hv,h2,h3,h4,h5,h6⟩:=h
 obtain rfl:v=.slice A n c:=by simpa using hv
 rcases Nat.eq_zero_or_pos n with h0|h0
 ·have:l=[]:=List.eq_nil_of_length_eq_zero (by omega)
  subst this
  exact⟨[],⟨A,n,c,rfl,h3,h4,by subst h0;simp,fun h=>by omega,h5⟩,bL.nil⟩
 ·obtain⟨ad,xs,rfl,h8,h9⟩:=h6 h0
  exact⟨xs,⟨_,n,c,rfl,h3,h4,by rw[h9.len,df hs,h2],fun _=>⟨ad,rfl,h8⟩,h5⟩,h9⟩
theorem Rp.ofSl {sz:Nat} {l:List Dt} {v:Value} {xs:List Value} (h:Sl sz xs v w) (ha:bL w l xs) (hs:∀d∈l,d.size=sz) (h0:0<sz):Rp w (.sl l) [v]:=by
 obtain⟨A,n,c,rfl,h3,h4,h5,h6,h7⟩:=h
 simp only[Rp]
 refine⟨A,n,c,rfl,?_,h3,h4,h7,fun hn=>?_⟩
 ·have:=ha.len
  rw[df hs,h5] at this
  exact(Nat.eq_of_mul_eq_mul_right h0 this).symm
 ·obtain⟨ad,rfl,hc⟩:=h6 hn
  exact⟨ad,xs,rfl,hc,ha⟩
theorem Rp.isSlice {l:List Dt} {cs:List Value} (h:Rp w (.sl l) cs):∃v,cs=[v]∧Rp w (.sl l) [v]∧v.oneCell'=true:=by
 have h':=h
 simp only[Rp] at h
 obtain⟨A,n,c,rfl,_⟩:=h
 exact⟨_,rfl,h',rfl⟩
theorem Rp.nilSl:Rp w (.sl []) [.slice none 0 0]:=by
 simp only[Rp]
 exact⟨none,0,0,rfl,rfl,Nat.le_refl _,Nat.zero_le _,fun _=>rfl,fun h=>by omega⟩
theorem Rp.slLen {l:List Dt} {v:Value} (h:Rp w (.sl l) [v]):l.length≤9223372036854775807:=by
 simp only[Rp] at h
 obtain⟨A,n,c,_,h2,h3,h4,_⟩:=h
 unfold maxLen at h4
 omega
theorem bL.map_cell {α:Type} {f:α→Dt} {g:α→Value} (hf:∀x cs,Rp w (f x) cs↔cs=[g x]):∀{l:List α} {xs:List Value},bL w (l.map f) xs↔xs=l.map g
 |[],xs=>by simp only[List.map_nil,bL]
 |x::l,xs=>by
  simp only[List.map_cons,bL,hf]
  constructor
  ·rintro⟨c1,c2,rfl,rfl,h⟩
   rw[(bL.map_cell hf).1 h];rfl
  ·rintro rfl
   exact⟨[g x],l.map g,rfl,rfl,(bL.map_cell hf).2 rfl⟩
theorem Rp.sl_cells {α:Type} {f:α→Dt} {g:α→Value} (hf:∀x cs,Rp w (f x) cs↔cs=[g x]) (h1:∀x,(f x).size=1) {l:List α} {v:Value}:Rp w (.sl (l.map f)) [v]↔Sl 1 (l.map g) v w:=by
 have hs:∀d∈l.map f,d.size=1:=by
  intro d hd
  obtain⟨x,_,rfl⟩:=List.mem_map.1 hd
  exact h1 x
 constructor
 ·intro h
  obtain⟨xs,h2,h3⟩:=h.toSl hs
  rw[(bL.map_cell hf).1 h3] at h2
  exact h2
 ·intro h
  exact Rp.ofSl h ((bL.map_cell hf).2 rfl) hs (by omega)
def dU8 (x:UInt8):Dt:=.int .u8 (x.toNat:Int)
def tG (x:UInt32):Dt:=.int .u32 (x.toNat:Int)
theorem Rp.words {l:List UInt32} {v:Value}:Rp w (.sl (l.map tG)) [v]↔Sl 1 (l.map bw) v w:=Rp.sl_cells (fun x cs=>by simp only[tG,Rp,bw]) fun _=>rfl
end
section
variable {P:Program} {w:World} {t e:TypeId}
theorem Hb {l:List Dt} {v:Value} {ty:TypeId} (ht:P.underlying t=some (.slice e)) (h:Rp w (.sl l) [v]):(Builtin.len_ #[t] ty #[v]).run P w=.ok (I l.length) w:=by
 simp only[Rp] at h
 obtain⟨A,n,c,hv,h2,_⟩:=h
 obtain rfl:v=.slice A n c:=by simpa using hv
 simp[Builtin.len_,run_underlying ht,goInt,I,h2]
theorem H5 {sz:Nat} {l:List Dt} {v:Value} (ht:P.underlying t=some (.slice e)) (hz:(P.info? e).map (·.size)=some sz) (h:Rp w (.sl l) [v]) (hs:∀d∈l,d.size=sz) (h0:0<sz) {i:Nat} (hi:i<l.length) (k:IntKind):
 ∃ad cs,(∀w':World,(Instr.indexAt t v (.int k i)).run P w'=.ok (.pointer (some ad)) w')∧dM w ad cs∧Rp w l[i] cs:=by
 obtain⟨xs,h1,h2⟩:=h.toSl hs
 have hlen:(i+1)*sz≤xs.length:=by
  rw[h2.len,df hs]
  exact Nat.mul_le_mul_right _ hi
 obtain⟨ad,h3,h4⟩:=qW ht hz h1 hlen h0 k
 exact⟨ad,_,h3,h4,h2.at hs hi⟩
theorem dM.cell0 {ad:Addr} {v:Value} (h:dM w ad [v]):w.cell? ad=some v:=by
 have:=h 0 v rfl
 rwa [jn] at this
theorem H6 {d:TypeDesc} {ad:Addr} {cs:List Value} (h:dM w ad cs) (ht:P.underlying t=some d) (hd:d.isRow=true) (hz:(P.info? t).map (·.size)=some cs.length):(Instr.loadAt t (.pointer (some ad))).run P w=.ok (.agg cs.toArray) w:=by
 have hagg:(isAgg t).run P w=.ok true w:=by
  unfold isAgg
  simp only[Sem.run_bind,run_underlying ht,Result.andThen_ok]
  cases d<;>simp_all [TypeDesc.isRow]
 have hl:=run_loadCells_list (P:=P) (w:=w) ad cs h
 simp[Instr.loadAt,Instr.sureAddr,loadVar,Sem.run_bind,hagg,dE hz,hl]
end
section
variable {P:Program} {H:Type} {enc:TypeId×Value→H} {W:World} {base:Nat} {spare:Nat→Bool} {held:Bool}
def xi (P:Program) (ts:List TypeId):List Field→Nat→Nat→Bool
 |[],o,n=>o==n
 |f::fs,o,n=>f.offset==o&&ts.contains f.type&&xi P ts fs (o+P.cellsOf f.type) n
def AQ (P:Program) (ts:List TypeId):Bool:=ts.all fun t=>
 match P.underlying t with
 |some (.int _)=>P.cellsOf t==1
 |some .bool=>P.cellsOf t==1
 |some .string=>P.cellsOf t==1
 |some (.slice e)=>P.cellsOf t==1&&ts.contains e
 |some (.struct fs)=>xi P ts fs.toList 0 (P.cellsOf t)
 |some (.array n e)=>P.cellsOf t==n*P.cellsOf e&&ts.contains e
 |_=>false
mutual
def gc:DataW H→Dt
 |.lit (.int k n)=>.int k n
 |.lit (.bool b)=>.bool b
 |.lit (.string l)=>.str l
 |.slice elems _=>.sl (ow elems)
 |.agg parts=>.st (ow parts)
 |_=>.sl []
def ow:List (DataW H)→List Dt
 |[]=>[]
 |d::l=>gc d::ow l
end
theorem mD:∀(l:List (DataW H)),ow l=l.map gc
 |[]=>by simp[ow]
 |d::l=>by simp[ow,mD l]
inductive Ty (P:Program):TypeId→Dt→Prop
 |int {t k n}:P.underlying t=some (.int k)→(Lit.int k n).wf=true→Ty P t (.int k n)
 |bool {t b}:P.underlying t=some .bool→Ty P t (.bool b)
 |str {t l}:P.underlying t=some .string→l.length≤maxLen→Ty P t (.str l)
 |sl {t e l}:P.underlying t=some (.slice e)→(∀d∈l,Ty P e d)→Ty P t (.sl l)
 |st {t fs l}:P.underlying t=some (.struct fs)→l.length=fs.size→(∀(i:Nat) (f:Field) (d:Dt),fs[i]? =some f→l[i]? =some d→Ty P f.type d)→Ty P t (.st l)
 |arr {t e n l}:P.underlying t=some (.array n e)→l.length=n→(∀d∈l,Ty P e d)→Ty P t (.st l)
theorem AR {sz:Nat} {a:Addr}:∀(ds:List Dt) (k:Nat),(∀(i:Nat) (d:Dt),ds[i]? =some d→∃c:List Value,c.length=sz∧(∀j u,c[j]? =some u→W.cell? (a.add ((k+i)*sz+j))=some u)∧Rp W d c)→
 ∃xs,bL W ds xs∧∀j u,xs[j]? =some u→W.cell? (a.add (k*sz+j))=some u
 |[],k,_=>⟨[],bL.nil,by simp⟩
 |d::ds,k,h=>by
  obtain⟨c,hc,h1,h2⟩:=h 0 d rfl
  obtain⟨xs,h3,h4⟩:=AR ds (k+1) fun i e he=>by
   obtain⟨c,hc,h1,h2⟩:=h (i+1) e he
   exact⟨c,hc,fun j u hu=>by rw[←h1 j u hu];congr 2;congr 2;omega,h2⟩
  refine⟨c++xs,bL.cons h2 h3,fun j u hu=>?_⟩
  rw[List.getElem?_append] at hu
  split at hu
  ·have:=h1 j u hu
   rwa [Nat.add_zero] at this
  ·rename_i hj
   have:=h4 _ u hu
   rw[←this]
   congr 2
   rw[hc] at hj⊢
   rw[Nat.add_mul]
   omega
theorem tW {ts:List TypeId} {n:Nat} {cs:List Value} (hcl:∀(t:TypeId) (cs:List Value) (x:DataW H×List MemPlace),t∈ts→DataW.trod enc P W base spare held n t cs=some x→Rp W (gc x.1) cs∧Ty P t (gc x.1)):
 ∀(fs:List Field) (o:Nat) (xs:List (DataW H×List MemPlace)),xs.length=fs.length→xi P ts fs o cs.length=true→o≤cs.length→
  (∀(i:Nat) (f:Field),fs[i]? =some f→DataW.trod enc P W base spare held n f.type ((cs.drop f.offset).take (P.cellsOf f.type))=xs[i]?)→
  bL W (xs.map fun x=>gc x.1) (cs.drop o)∧∀(i:Nat) (f:Field) (d:Dt),fs[i]? =some f→(xs.map fun x=>gc x.1)[i]? =some d→Ty P f.type d
 |[],o,xs,hl,hs,ho,_=>by
  have:xs=[]:=List.eq_nil_of_length_eq_zero (by simpa using hl)
  subst this
  have:o=cs.length:=by simpa [xi] using hs
  subst this
  simp[bL.nil]
 |f::fs,o,xs,hl,hs,ho,h=>by
  cases xs with
  |nil=>simp at hl
  |cons x xs=>
   simp only[xi,Bool.and_eq_true,beq_iff_eq] at hs
   obtain⟨⟨h1,h2⟩,h3⟩:=hs
   have h0:=h 0 f rfl
   simp only[List.getElem?_cons_zero] at h0
   obtain⟨h4,h5⟩:=hcl f.type _ x (by simpa using h2) h0
   have hlen:∀(fs:List Field) (o:Nat),xi P ts fs o cs.length=true→o≤cs.length:=by
    intro fs
    induction fs with
    |nil=>intro o h;have:o=cs.length:=by simpa [xi] using h
          omega
    |cons g fs ih=>intro o h;simp only[xi,Bool.and_eq_true] at h;have:=ih _ h.2;omega
   obtain⟨h6,h7⟩:=tW hcl fs (o+P.cellsOf f.type) xs (by simpa using hl) h3 (hlen _ _ h3) fun i g hg=>by simpa using h (i+1) g (by simpa using hg)
   refine⟨?_,fun i g d hg hd=>?_⟩
   ·rw[h1] at h4
    have e:cs.drop o=(cs.drop o).take (P.cellsOf f.type)++cs.drop (o+P.cellsOf f.type):=by
     rw[←List.drop_drop,List.take_append_drop]
    rw[e]
    exact bL.cons h4 h6
   ·cases i with
    |zero=>
     simp only[List.getElem?_cons_zero,Option.some.injEq] at hg
     subst hg
     simp only[List.map_cons,List.getElem?_cons_zero,Option.some.injEq] at hd
     subst hd
     exact h5
    |succ i=>exact h7 i g d (by simpa using hg) (by simpa using hd)
theorem tX {ts:List TypeId} (hc:AQ P ts=true):∀(fuel:Nat) (t:TypeId) (cs:List Value) (x:DataW H×List MemPlace),t∈ts→DataW.trod enc P W base spare held fuel t cs=some x→Rp W (gc x.1) cs∧Ty P t (gc x.1)
 |0,t,cs,x,_,h=>by simp[DataW.trod] at h
 |fuel+1,t,cs,x,ht,h=>by
  have ih:=tX hc fuel
  have hct:=List.all_eq_true.1 hc t ht
  split at hct
  ·rename_i k hu
   obtain⟨n,rfl,rfl,hw⟩:=DataW.trod_int hu h
   exact⟨by simp only[gc,Rp],Ty.int hu hw⟩
  ·rename_i hu
   obtain⟨b,rfl,rfl⟩:=DataW.trod_bool hu h
   exact⟨by simp only[gc,Rp],Ty.bool hu⟩
  ·rename_i hu
   obtain⟨s,rfl,rfl,hs⟩:=DataW.trod_string hu h
   exact⟨by simp only[gc,Rp,S,Array.toArray_toList],Ty.str hu (by simpa using hs)⟩
  ·rename_i e hu
   simp only[Bool.and_eq_true,beq_iff_eq] at hct
   have he:e∈ts:=by simpa using hct.2
   rcases DataW.trod_slice hu h with⟨rfl,rfl⟩|⟨a,len,cap,elems,rest,n,hf,rfl,rfl,hb,hl,hm,hlen,hel,_,_⟩
   ·exact⟨by simp only[gc];exact Rp.nilSl,by simp only[gc];exact Ty.sl hu (by simp)⟩
   ·obtain rfl:fuel=n:=by omega
    have each:∀(i:Nat) (y:DataW H×List MemPlace),elems[i]? =some y→∃c:List Value,c.length=P.cellsOf e∧(∀j u,c[j]? =some u→W.cell? (a.add (i*P.cellsOf e+j))=some u)∧Rp W (gc y.1) c∧Ty P e (gc y.1):=by
     intro i y hy
     have hi:i<len:=by
      have:=(List.getElem?_eq_some_iff.1 hy).1
      omega
     have h1:=hel i hi
     rw[hy,Option.bind_eq_some_iff] at h1
     obtain⟨c,h2,h3⟩:=h1
     obtain⟨_,h5,h6⟩:=World.cells?_some h2
     obtain⟨h7,h8⟩:=ih e c y he h3
     refine⟨c,h5,fun j u hu=>?_,h7,h8⟩
     have hj:j<P.cellsOf e:=by rw[←h5];exact(List.getElem?_eq_some_iff.1 hu).1
     have:=h6 j hj
     rw[vc,hu] at this
     exact this
    obtain⟨xs,h1,h2⟩:=AR (W:=W) (sz:=P.cellsOf e) (a:=a) (elems.map fun y=>gc y.1) 0 fun i d hd=>by
     rw[List.getElem?_map,Option.map_eq_some_iff] at hd
     obtain⟨y,hy,rfl⟩:=hd
     obtain⟨c,h1,h2,h3,_⟩:=each i y hy
     exact⟨c,h1,by rw[Nat.zero_add];exact h2,h3⟩
    have em:ow (elems.map (·.1))=elems.map fun y=>gc y.1:=by rw[mD,List.map_map];rfl
    refine⟨?_,?_⟩
    ·simp only[gc,Rp]
     rw[em]
     exact⟨some a,len,cap,rfl,by simpa using hlen,hl,hm,(fun h=>by cases h),fun _=>⟨a,xs,rfl,fun j u hu=>by have:=h2 j u hu;rwa [Nat.zero_mul,Nat.zero_add] at this,h1⟩⟩
    ·simp only[gc]
     rw[em]
     refine Ty.sl hu fun d hd=>?_
     obtain⟨y,hy,rfl⟩:=List.mem_map.1 hd
     obtain⟨i,hi,rfl⟩:=List.getElem_of_mem hy
     obtain⟨_,_,_,_,h4⟩:=each i _ (List.getElem?_eq_getElem hi)
     exact h4
  ·rename_i fs hu
   obtain⟨xs,n,hf,rfl,hl,hlen,hall⟩:=DataW.trod_struct hu h
   obtain rfl:fuel=n:=by omega
   obtain⟨h1,h2⟩:=tW (cs:=cs) (fun t cs x ht h=>ih t cs x ht h) fs.toList 0 xs (by simpa using hlen) (by rw[hl];exact hct) (Nat.zero_le _) fun i f hf=>hall i f (by simpa using hf)
   have em:ow (xs.map (·.1))=xs.map fun y=>gc y.1:=by rw[mD,List.map_map];rfl
   refine⟨?_,?_⟩
   ·simp only[gc,Rp]
    rw[em]
    simpa using h1
   ·simp only[gc]
    rw[em]
    exact Ty.st hu (by simpa using hlen) fun i f d hf hd=>h2 i f d (by simpa using hf) hd
  ·rename_i m e hu
   simp only[Bool.and_eq_true,beq_iff_eq] at hct
   have he:e∈ts:=by simpa using hct.2
   obtain⟨xs,n,hf,rfl,hl,hlen,hall⟩:=DataW.trod_array hu h
   obtain rfl:fuel=n:=by omega
   have em:ow (xs.map (·.1))=xs.map fun y=>gc y.1:=by rw[mD,List.map_map];rfl
   have each:∀(i:Nat) (y:DataW H×List MemPlace),xs[i]? =some y→Rp W (gc y.1) ((cs.drop (i*P.cellsOf e)).take (P.cellsOf e))∧Ty P e (gc y.1):=fun i y hy=>by
    have hi:i<m:=by
     have:=(List.getElem?_eq_some_iff.1 hy).1
     omega
    have h1:=hall i hi
    rw[hy] at h1
    exact ih e _ y he h1
   have all:∀(k:Nat),k≤m→bL W ((xs.map fun y=>gc y.1).drop k) (cs.drop (k*P.cellsOf e)):=by
    intro k hk
    induction hq:m-k generalizing k with
    |zero=>
     have:k=m:=by omega
     subst this
     rw[List.drop_of_length_le (by simp;omega),List.drop_of_length_le (by rw[hl,hct.1];exact Nat.le_refl _)]
     exact bL.nil
    |succ q ihq=>
     have hk':k<(xs.map fun y=>gc y.1).length:=by simp;omega
     have h1:=ihq (k+1) (by omega) (by omega)
     have hkx:k<xs.length:=by omega
     obtain⟨h2,_⟩:=each k _ (List.getElem?_eq_getElem hkx)
     rw[List.drop_eq_getElem_cons hk']
     have e:cs.drop (k*P.cellsOf e)=(cs.drop (k*P.cellsOf e)).take (P.cellsOf e)++cs.drop ((k+1)*P.cellsOf e):=by
      rw[Nat.add_mul,Nat.one_mul,←List.drop_drop,List.take_append_drop]
     rw[e]
     refine bL.cons ?_ h1
     simpa using h2
   refine⟨?_,?_⟩
   ·simp only[gc,Rp]
    rw[em]
    simpa using all 0 (Nat.zero_le _)
   ·simp only[gc]
    rw[em]
    refine Ty.arr hu (by simpa using hlen) fun d hd=>?_
    obtain⟨y,hy,rfl⟩:=List.mem_map.1 hd
    obtain⟨i,hi,rfl⟩:=List.getElem_of_mem hy
    exact(each i _ (List.getElem?_eq_getElem hi)).2
  ·cases hct
end
end Go.Rl
namespace Go.Rl
open Go.RowKit Go.Proofs
section
variable {P:Program} {ops:Array Oper} {Q:fB} {N:Nat} {D:List Deferred} {l:Fr} {w:World} {rest:List Oper} {d:Nat}
theorem cJ {p:Prop} {dp:Decidable p} (ht:p→bP P ops Q N D ((d,B true)::l) w rest) (hf:¬p→bP P ops Q N D ((d,B false)::l) w rest):bP P ops Q N D ((d,B (@decide p dp))::l) w rest:=by
 by_cases h:p
 ·rw[decide_eq_true h];exact ht h
 ·rw[decide_eq_false h];exact hf h
end
theorem aM.of_grew {w0 w w':World} {v r:Value} (h:aM w0 w) (hg:gJ w w' v r) (hv:∀k,v.ownBlock=some k→w0.heap.size≤k):aM w0 w':=h.of_grown hg.grown hv
theorem cD.ge {base:Nat} {l:List UInt8} {v:Value} {w:World} (h:cD base l v w):∀k,v.ownBlock=some k→base≤k:=fun k hk=>h.elim fun _ h=>(World.ownsRow.lt h k hk).1
theorem aM.of_new {w w1 w2:World} {g:Nat} (hx:aM w w1) (hg:w1.grownBy w2 (some g)) (h:w.heap.size≤g):aM w w2:=
 hx.of_grown hg fun k hk=>by
  obtain rfl:=Option.some.inj hk
  exact h
theorem dj {w w':World} {row:Option Nat} (h:aM w w'):w.grownBy w' row:=⟨h.os,h.tape,h.output,h.size,fun _ hi _=>h.heap hi⟩
section
variable {w:World}
theorem cD.kept {base:Nat} {l:List UInt8} {v:Value} {w':World} (h:cD base l v w) {row:Option Nat} (hg:w.grownBy w' row) (hne:v.ownBlock=none∨v.ownBlock≠row):cD base l v w':=
 h.elim fun n h=>⟨n,World.ownsRow.kept h hg hne⟩
theorem cD.off {base:Nat} {l:List UInt8} {v:Value} (h:cD base l v w) {g:Nat} (hg:g<base):v.ownBlock≠some g:=fun he=>by
 obtain⟨n,h⟩:=h
 have:=(World.ownsRow.lt h g he).1
 omega
end
end Go.Rl
namespace Go.Rl
open Go.RowKit
section
variable {P:Program} {Q:fB} {N:Nat} {D:List Deferred} {l:Fr} {w:World}
theorem ga {c:Code} {α β:Type} (fr:α→β→Fr) (H:α→β→World→Prop) (mu:α→β→Nat) (x0:α) (y0:β) (hs:za (fr x0 y0) l) (h0:H x0 y0 w)
 (round:∀x y w',H x y w'→cW P (Exit.then (fun a w''=>∃x' y',At N D (fr x' y') a∧H x' y' w''∧mu x' y'<mu x y) Q) N D (fr x y) w' c):cW P Q N D l w (.loop c):=
 bV (α:=α×β) (fun p=>fr p.1 p.2) (fun p=>H p.1 p.2) (fun p=>mu p.1 p.2) (x0,y0) hs h0 fun p w' h a ha=>
  wp_mono (round p.1 p.2 w' h a ha) fun e a' w'' hq=>by
   cases e with
   |normal=>
    obtain⟨x',y',h1,h2,h3⟩:=hq
    exact⟨(x',y'),h1,h2,h3⟩
   |_=>exact hq
theorem el {α β:Type} {fr:α→β→Fr} {H:α→β→World→Prop} {mu:α→β→Nat} {m:Nat} (x:α) (y:β) (hs:za (fr x y) l) (hH:H x y w) (hm:mu x y<m):fS (Exit.then (fun a w''=>∃x' y',At N D (fr x' y') a∧H x' y' w''∧mu x' y'<m) Q) N D l w:=
 fun _ ha=>⟨x,y,ha.weak hs,hH,hm⟩
theorem fN {c:Code} {α β γ:Type} (fr:α→β→γ→Fr) (H:α→β→γ→World→Prop) (mu:α→β→γ→Nat) (x0:α) (y0:β) (z0:γ) (hs:za (fr x0 y0 z0) l) (h0:H x0 y0 z0 w)
 (round:∀x y z w',H x y z w'→cW P (Exit.then (fun a w''=>∃x' y' z',At N D (fr x' y' z') a∧H x' y' z' w''∧mu x' y' z'<mu x y z) Q) N D (fr x y z) w' c):cW P Q N D l w (.loop c):=
 bV (α:=α×β×γ) (fun p=>fr p.1 p.2.1 p.2.2) (fun p=>H p.1 p.2.1 p.2.2) (fun p=>mu p.1 p.2.1 p.2.2) (x0,y0,z0) hs h0 fun p w' h a ha=>
  wp_mono (round p.1 p.2.1 p.2.2 w' h a ha) fun e a' w'' hq=>by
   cases e with
   |normal=>
    obtain⟨x',y',z',h1,h2,h3⟩:=hq
    exact⟨(x',y',z'),h1,h2,h3⟩
   |_=>exact hq
theorem dv {α β γ:Type} {fr:α→β→γ→Fr} {H:α→β→γ→World→Prop} {mu:α→β→γ→Nat} {m:Nat} (x:α) (y:β) (z:γ) (hs:za (fr x y z) l) (hH:H x y z w) (hm:mu x y z<m):fS (Exit.then (fun a w''=>∃x' y' z',At N D (fr x' y' z') a∧H x' y' z' w''∧mu x' y' z'<m) Q) N D l w:=
 fun _ ha=>⟨x,y,z,ha.weak hs,hH,hm⟩
theorem gM {c:Code} {α β γ δ:Type} (fr:α→β→γ→δ→Fr) (H:α→β→γ→δ→World→Prop) (mu:α→β→γ→δ→Nat) (x0:α) (y0:β) (z0:γ) (u0:δ) (hs:za (fr x0 y0 z0 u0) l) (h0:H x0 y0 z0 u0 w)
 (round:∀x y z u w',H x y z u w'→cW P (Exit.then (fun a w''=>∃x' y' z' u',At N D (fr x' y' z' u') a∧H x' y' z' u' w''∧mu x' y' z' u'<mu x y z u) Q) N D (fr x y z u) w' c):cW P Q N D l w (.loop c):=
 bV (α:=α×β×γ×δ) (fun p=>fr p.1 p.2.1 p.2.2.1 p.2.2.2) (fun p=>H p.1 p.2.1 p.2.2.1 p.2.2.2) (fun p=>mu p.1 p.2.1 p.2.2.1 p.2.2.2) (x0,y0,z0,u0) hs h0 fun p w' h a ha=>
  wp_mono (round p.1 p.2.1 p.2.2.1 p.2.2.2 w' h a ha) fun e a' w'' hq=>by
   cases e with
   |normal=>
    obtain⟨x',y',z',u',h1,h2,h3⟩:=hq
    exact⟨(x',y',z',u'),h1,h2,h3⟩
   |_=>exact hq
theorem fa {α β γ δ:Type} {fr:α→β→γ→δ→Fr} {H:α→β→γ→δ→World→Prop} {mu:α→β→γ→δ→Nat} {m:Nat} (x:α) (y:β) (z:γ) (u:δ) (hs:za (fr x y z u) l) (hH:H x y z u w) (hm:mu x y z u<m):fS (Exit.then (fun a w''=>∃x' y' z' u',At N D (fr x' y' z' u') a∧H x' y' z' u' w''∧mu x' y' z' u'<m) Q) N D l w:=
 fun _ ha=>⟨x,y,z,u,ha.weak hs,hH,hm⟩
theorem qY {c:Code} {α β γ δ ε:Type} (fr:α→β→γ→δ→ε→Fr) (H:α→β→γ→δ→ε→World→Prop) (mu:α→β→γ→δ→ε→Nat) (x0:α) (y0:β) (z0:γ) (u0:δ) (v0:ε) (hs:za (fr x0 y0 z0 u0 v0) l) (h0:H x0 y0 z0 u0 v0 w)
 (round:∀x y z u v w',H x y z u v w'→cW P (Exit.then (fun a w''=>∃x' y' z' u' v',At N D (fr x' y' z' u' v') a∧H x' y' z' u' v' w''∧mu x' y' z' u' v'<mu x y z u v) Q) N D (fr x y z u v) w' c):cW P Q N D l w (.loop c):=
 bV (α:=α×β×γ×δ×ε) (fun p=>fr p.1 p.2.1 p.2.2.1 p.2.2.2.1 p.2.2.2.2) (fun p=>H p.1 p.2.1 p.2.2.1 p.2.2.2.1 p.2.2.2.2) (fun p=>mu p.1 p.2.1 p.2.2.1 p.2.2.2.1 p.2.2.2.2) (x0,y0,z0,u0,v0) hs h0 fun p w' h a ha=>
  wp_mono (round p.1 p.2.1 p.2.2.1 p.2.2.2.1 p.2.2.2.2 w' h a ha) fun e a' w'' hq=>by
   cases e with
   |normal=>
    obtain⟨x',y',z',u',v',h1,h2,h3⟩:=hq
    exact⟨(x',y',z',u',v'),h1,h2,h3⟩
   |_=>exact hq
theorem fG {α β γ δ ε:Type} {fr:α→β→γ→δ→ε→Fr} {H:α→β→γ→δ→ε→World→Prop} {mu:α→β→γ→δ→ε→Nat} {m:Nat} (x:α) (y:β) (z:γ) (u:δ) (v:ε) (hs:za (fr x y z u v) l) (hH:H x y z u v w) (hm:mu x y z u v<m):fS (Exit.then (fun a w''=>∃x' y' z' u' v',At N D (fr x' y' z' u' v') a∧H x' y' z' u' v' w''∧mu x' y' z' u' v'<m) Q) N D l w:=
 fun _ ha=>⟨x,y,z,u,v,ha.weak hs,hH,hm⟩
end
end Go.Rl
namespace Go.Rl
open Go.RowKit
def FR (rd:Option Nat):Fence:={Fence.wide with round:=rd}
theorem rD (rd:Option Nat):¬(FR rd).depth.isSome=true:=by simp[FR,Fence.wide]
theorem zj {rd:Option Nat} {n:Nat} {P:Program} {f:FuncId} {args:Array Value} {w:World} {R:Ending→World→Prop} (h:Calls P f args w R):CallsIn (FR rd) n P f args w R:=
 (callsIn_wide (n:=n)).2 h
theorem BO {rd:Option Nat} {n:Nat} {P:Program} {row:String} {args:Array Value} {w:World} {R:Value→World→Prop} (h:Rows P row args w R):RowsIn (FR rd) n P row args w R:=
 fun c cs _=>let ⟨v,w',r,s⟩:=h c cs;⟨v,w',r,stepsIn_wide.2 s⟩
theorem BP {P:Program} {rd:Option Nat} {n:Nat} {o:Oper} {a:Act} {K K':Act→World→Prop} {Q:Exit→Act→World→Prop} {r:Result Next} (hk:∀a w,K a w→K' a w) (h:o.upon P a K Q r):o.uponIn (FR rd) n P a K' Q r:=by
 cases r with
 |ok x w'=>
  cases x with
  |value v=>exact hk _ _ h
  |skip=>exact hk _ _ h
  |defer d=>exact hk _ _ h
  |enter f args=>
   refine⟨fun hd=>absurd hd (rD rd),zj (Calls.mono h ?_)⟩
   intro e w'' he
   cases e with
   |returned v=>exact hk _ _ he
   |panicked c=>exact he
   |outgrown=>exact he
  |row s args=>
   refine⟨fun hd=>absurd hd (rD rd),BO (Rows.mono h ?_)⟩
   intro v w'' he
   exact hk _ _ he
  |_=>exact h.elim
 |halt x w'=>
  cases x with
  |panic v=>exact h
  |_=>exact h.elim
theorem ie {K:Act→World→Prop} {Q:Exit→Act→World→Prop} (h:¬LetsOut Q):¬LetsOut (Exit.then K Q):=fun⟨a,w,hq⟩=>h ⟨a,w,hq⟩
theorem iE {id:Nat} {Q:Exit→Act→World→Prop} (h:¬LetsOut Q):¬LetsOut (Exit.inBlock id Q):=fun⟨a,w,hq⟩=>h ⟨a,w,hq⟩
theorem j5 {α:Type} {B:Nat} {Kp:World→World→Prop} {I:List α→World→Prop} {Ix:Code→List α→World→Prop} {xs:List α} {W:World}:¬LetsOut (ownPostG B Kp I Ix xs W):=fun⟨_,_,hq⟩=>hq
theorem jp {P:Program} {fn:Func} {T:Value→World→Prop}:¬LetsOut (bodyPost P fn (bF T)):=fun⟨_,_,hq⟩=>by
 obtain⟨v,he,_⟩:=hq
 cases he
theorem iF {P:Program} {fn:Func} {T:Value→World→Prop}:¬LetsOut (bodyPostM Fence.wide 0 P fn (bF T)):=fun⟨_,_,hq⟩=>by
 obtain⟨v,he,_⟩:=hq
 cases he
def kO (os:List Oper):Bool:=os.all fun o=>match o.op with|.defer _=>false|_=>true
theorem zk {os:List Oper} (h:kO os=true) {i:Nat} {o:Oper} (ho:os[i]? =some o):∀c,o.op≠.defer c:=fun c hc=>by
 have:=List.all_eq_true.1 h o (List.mem_of_getElem? ho)
 rw[hc] at this
 cases this
theorem DF {rd:Option Nat} {o:Oper} (h:rd=none∨∀c,o.op≠.defer c) (ρ:Operand→Value):o.semAt (FR rd).round ρ=execOp ρ o:=by
 rcases h with rfl|h
 ·exact Oper.semAt_none ρ o
 ·exact Oper.semAt_eq _ ρ o h
theorem tY {P:Program} {rd:Option Nat} {n:Nat} {o:Oper} {a:Act} {w:World} {K K':Act→World→Prop} {Q:Exit→Act→World→Prop} (hd:rd=none∨∀c,o.op≠.defer c) (hk:∀a w,K a w→K' a w) (h:o.wp P a w K Q):o.wpIn (FR rd) n P a w K' Q:=
 ⟨fun _ _=>trivial,by rw[DF hd];exact BP hk h⟩
theorem ox {P:Program} {rd:Option Nat} {n:Nat} {os:List Oper} {Q:Exit→Act→World→Prop} (hQ:¬LetsOut Q) (hd:rd=none∨kO os=true):∀(l:List Nat) (a:Act) (w:World),wpOps P os.toArray Q l a w→wpOpsIn (FR rd) n P os.toArray Q l a w:=by
 intro l
 induction l with
 |nil=>intro a w h;exact h
 |cons i l ih=>
  intro a w h
  unfold wpOps at h
  unfold wpOpsIn
  cases ho:os.toArray[i]? with
  |none=>
   simp only[ho] at h⊢
   exact ih a w h
  |some o=>
   simp only[ho] at h⊢
   split
   ·rename_i hw
    rw[if_pos hw] at h
    exact tY (hd.imp_right fun hd=>zk hd (by simpa using ho)) ih (h.resolve_right fun h=>hQ h.2)
   ·rename_i hw
    rw[if_neg hw] at h
    exact⟨fun _ _=>trivial,ih _ _ h⟩
section
variable {P:Program} {ops:Array Oper} {Q:fB} {N:Nat} {D:List Deferred} {rd:Option Nat}
def fb (rd:Option Nat) (P:Program) (Q:fB) (N:Nat) (D:List Deferred) (l:Fr) (w:World) (c:Code):Prop:=∀a,At N D l a→c.wpIn (FR rd) 0 P Q a w
namespace I
section code
variable {l l':Fr} {w:World}
theorem af {x y:Code} (h:fb rd P (Exit.then (y.wpIn (FR rd) 0 P Q) Q) N D l w x):fb rd P Q N D l w (.seq x y):=fun a ha=>wpIn_seq (h a ha)
theorem aq (h:fS Q N D l w):fb rd P Q N D l w .skip:=fun a ha=>wpIn_skip (h a ha)
theorem ac {y:Code} {Q':fB} (h:fb rd P Q N D l w y):fS (Exit.then (y.wpIn (FR rd) 0 P Q) Q') N D l w:=fun a ha=>h a ha
theorem ax {id:Nat} {c:Code} (h:fb rd P (Exit.inBlock id Q) N D l w c):fb rd P Q N D l w (.block id c):=fun a ha=>wpIn_block (h a ha)
theorem aW {id:Nat} (h:fX Q N D l w (.exit id)):fb rd P Q N D l w (.exit id):=fun a ha=>wpIn_exit (h a ha)
theorem au (h:fX Q N D l w .ret):fb rd P Q N D l w .ret:=fun a ha=>wpIn_ret (h a ha)
theorem gZ {c:Operand} {x y:Code} {b:Bool} (hc:ev l c=some (.bool b)) (ht:b=true→fb rd P Q N D l w x) (hf:b=false→fb rd P Q N D l w y):fb rd P Q N D l w (.cond c x y):=fun a ha=>
 wpIn_cond_split (ha.ev hc) (fun h=>ht h a ha) (fun h=>hf h a ha)
theorem bi {c:Operand} {x y:Code} {p:Prop} {dp:Decidable p} (hc:ev l c=some (.bool (@decide p dp))) (ht:p→fb rd P Q N D l w x) (hf:¬p→fb rd P Q N D l w y):fb rd P Q N D l w (.cond c x y):=
 I.gZ hc (fun h=>ht (of_decide_eq_true h)) (fun h=>hf (of_decide_eq_false h))
theorem bB {c:Operand} {x y:Code} (hc:ev l c=some (.bool true)) (ht:fb rd P Q N D l w x):fb rd P Q N D l w (.cond c x y):=I.gZ hc (fun _=>ht) (fun h=>by cases h)
theorem cq {c:Operand} {x y:Code} (hc:ev l c=some (.bool false)) (hf:fb rd P Q N D l w y):fb rd P Q N D l w (.cond c x y):=I.gZ hc (fun h=>by cases h) (fun _=>hf)
theorem eV {c:Code} {α:Type} (fr:α→Fr) (H:α→World→Prop) (h:fb rd P (Exit.then (fun a w'=>∃x,At N D (fr x) a∧H x w') Q) N D l w c) (k:∀x w',H x w'→fS Q N D (fr x) w'):fb rd P Q N D l w c:=fun a ha=>
 wpIn_mono (h a ha) fun e a' w' hq=>by
  cases e with
  |normal=>
   obtain⟨x,hx,hH⟩:=hq
   exact k x w' hH a' hx
  |_=>exact hq
theorem bV {c:Code} {α:Type} (fr:α→Fr) (H:α→World→Prop) (mu:α→Nat) (x0:α) (hs:za (fr x0) l) (h0:H x0 w)
 (round:∀x w',H x w'→fb rd P (Exit.then (fun a w''=>∃y,At N D (fr y) a∧H y w''∧mu y<mu x) Q) N D (fr x) w' c):fb rd P Q N D l w (.loop c):=fun a ha=>by
 intro b k cs hro hb hr
 have go:∀(n:Nat) (x:α) (a:Act) (w:World),mu x<n→At N D (fr x) a→H x w→
  ∃e a' w',Q e a' w'∧ArrivesIn (Machine.fenced P (FR rd)) P (lone (b.atR a (.code c::.inLoop c::k)) cs w) b k cs e a' w':=by
  intro n
  induction n with
  |zero=>intro x a w hlt;omega
  |succ n ih=>
   intro x a w hlt hat hH
   obtain⟨e,a1,w1,hq,harr⟩:=round x w hH a hat b (.inLoop c::k) cs hro hb hr
   cases e with
   |normal=>
    obtain⟨y,hy,hHy,hm⟩:=hq
    obtain⟨e2,a2,w2,hq2,harr2⟩:=ih y a1 w1 (by omega) hy hHy
    exact⟨e2,a2,w2,hq2,.of_steps (StepsIn.trans harr (.one (fenced_calm hb hr rfl) stepR_inLoop)) harr2⟩
   |exit id=>exact⟨_,a1,w1,hq,.pass (x:=.inLoop c) rfl (fun _ _=>.inl (by simp)) harr⟩
   |goto l=>exact⟨_,a1,w1,hq,.pass (x:=.inLoop c) rfl (fun _ _=>.inl (by simp)) harr⟩
   |ret=>exact⟨_,a1,w1,hq,.pass (x:=.inLoop c) rfl (fun _ _=>.inl (by simp)) harr⟩
   |panic ch=>exact⟨_,a1,w1,hq,.pass (x:=.inLoop c) rfl (fun _ _=>.inl (by simp)) harr⟩
   |outgrown=>exact⟨_,a1,w1,hq,.pass (x:=.inLoop c) rfl (fun _ _=>.inl (by simp)) harr⟩
 obtain⟨e,a',w',hq,harr⟩:=go (mu x0+1) x0 a w (by omega) (ha.weak hs) h0
 exact⟨e,a',w',hq,.of_steps (.one (fenced_calm hb hr rfl) stepR_loop) harr⟩
theorem aa {id:Nat} {os:List Oper} (hd:kO os=true) (h:bP P os.toArray Q N D l w os)
 (hQ:¬LetsOut Q:=by repeat with_reducible first|exact j5|exact jp|exact iF|apply ie|apply iE):fb rd P Q N D l w (.region id os.toArray false):=fun a ha=>by
 refine wpIn_region (ox hQ (.inr hd) _ _ _ ?_)
 have:=wpOps_eq_wpList (P:=P) (Q:=Q) (ops:=os.toArray) os 0 (by simp)
 rw[List.range_eq_range']
 simp only[List.size_toArray]
 rw[this]
 exact h a ha
theorem jH {id:Nat} {os:List Oper} (n:Nat) (ts:List Nat) (Env:World→Prop) (Rl:World→World→Prop) (mo:Bool) (Pn:List PanicEntry→World→Prop) (Z:iN) (hE:fE Env Rl) (he:Env w) (hZ:cH Z) (hz:Z w) (hP:∀c a w,a.defers=D→Pn c w→Q (.panic c) a w) (hcalls:mo=true→fW .any os.toArray=true) (hm:P.follows .mixedOrders=true) (hB:Region.lexTailB .any os.toArray n=true) (hd:kO os=true)
 (h:fg P os.toArray Env Rl mo Pn N (os.take n) (qT l) Z (fun F Z=>∀w',Env w'→Z w'→gU F w' ts (fun l'=>bP P os.toArray Q N D l' w' (os.drop n))))
 (hQ:¬LetsOut Q:=by repeat with_reducible first|exact j5|exact jp|exact iF|apply ie|apply iE):fb rd P Q N D l w (.region id os.toArray true):=fun a ha=>by
 refine wpIn_region_draw fun t=>ox hQ (.inr hd) _ _ _ ?_
 have hdr:aM w {w with drawn:=w.drawn+1}:=⟨rfl,rfl,rfl,Nat.le_refl _,fun _ _=>rfl⟩
 have key:wpAny P .any os.toArray Q os.toArray.size (Array.replicate os.toArray.size false) a {w with drawn:=w.drawn+1}:=by
  simp only[Region.lexTailB,Bool.and_eq_true,decide_eq_true_eq] at hB
  obtain⟨⟨⟨⟨_,hn⟩,hs⟩,hc⟩,hlex⟩:=hB
  have hn':n<os.length:=by simpa using hn
  have htl:(os.take n).length=n:=by simp;omega
  have hdl:(os.drop n).length=os.toArray.size-n:=by simp
  have inv0:HeadInv .any os.toArray n (Array.replicate os.toArray.size false):=
   ⟨by simp,fun j oj _ hl=>(by rw[getD_replicate_false] at hl;cases hl),fun t _ ht=>getD_in (by simpa using ht) (getD_replicate_false _ _)⟩
  have h2:fg P os.toArray Env Rl mo Pn N (os.take n) (qT l) Z (fun F Z=>∀a' w',Env w'→xd N D F a' w'→Z w'→wpList P os.toArray Q (os.drop n) a' w'):=iA _ _ _ (fun F Z hK a' w' he hs hz=>by
   obtain⟨l',hl',hk⟩:=gU.use hs (hK w' he hz)
   exact hk a' hl') h
  have H:=np (md:=.any) (g:=os.toArray.size-n) hcalls hs hc hn (os.take n) 0 _ _ _ (fun j hj=>by
   have hj':j<n:=by rw[htl] at hj;exact hj
   simp[hj']) (by simpa using htl) inv0 (by rw[htl];exact hlex) (fF l) hZ h2
  have hsat:xd N D (qT l) a {w with drawn:=w.drawn+1}:=⟨ha.size,ha.defers,fun t=>by
   show qT l t (a.tmps.getD t undef) _
   unfold qT
   cases hv:lk l t with
   |some v=>exact ha.at_ t v hv
   |none=>trivial⟩
  have:=eU (D:=D) (Q':=Q) (l0:=[]) (g:=os.toArray.size-n) hE (fun c a w _ hd _ hp=>hP c a w hd hp) (fun _ _ _ _ _ _ _ hp=>by cases hp) (fun listed F Z hL hF hZ a' w' he hsat hz=>by
   have:=wpAny_of_seq (md:=.any) (Q':=Q) (os.drop n) n listed a' w' (fun j=>by simp[List.getElem?_drop]) (by rw[hdl];exact hL.1) (hL.2 a' w' he hsat hz)
   rwa [hdl] at this) _ _ _ _ H (fF l) hZ a {w with drawn:=w.drawn+1} (hE.keep _ _ he (hE.ext _ _ hdr)) hsat (fun _ hp=>by cases hp) (hZ _ _ hz hdr)
  rw[htl,show n+(os.toArray.size-n)=os.toArray.size by omega] at this
  exact this
 simp only[Region.schedule,hm,Bool.true_or,if_true]
 exact wpAny_sound os.toArray.size t _ a _ key
theorem bA {id:Nat} {os:List Oper} (n:Nat) (ts:List Nat) (hm:P.follows .mixedOrders=true) (hB:Region.lexTailB .any os.toArray n=true) (hd:kO os=true)
 (h:fg P os.toArray (aM w) aM false G7 N (os.take n) (qT l) (fun _=>True) (fun F _=>∀w',aM w w'→gU F w' ts (fun l'=>bP P os.toArray Q N D l' w' (os.drop n))))
 (hQ:¬LetsOut Q:=by repeat with_reducible first|exact j5|exact jp|exact iF|apply ie|apply iE):fb rd P Q N D l w (.region id os.toArray true):=
 jH n ts (aM w) aM false G7 (fun _=>True) (fE.plain w) (aM.refl w) cH.triv trivial (fun _ _ _ _ h=>h.elim) (fun h=>by cases h) hm hB hd (iA _ _ _ (fun _ _ h w' he _=>h w' he) h) hQ
end code
end I
def asT:List Oper→Array Value→Array Value
 |⟨some d,.assign (.tmp s),_,_,_,none⟩::os,t=>asT os (t.setIfInBounds d (t.getD s undef))
 |_,t=>t
def FH:List Oper→Fr→Option Fr
 |[],l=>some l
 |⟨some d,.assign (.tmp s),_,_,_,none⟩::os,l=>match lk l s with|some v=>FH os ((d,v)::l)|none=>none
 |_,_=>none
theorem DG:∀{os:List Oper} {l l':Fr} {t:Array Value} {w:World} {ops:Array Oper} {Q:fB},FH os l=some l'→Q .normal ⟨asT os t,[]⟩ w→wpList P ops Q os ⟨t,[]⟩ w
 |[],_,_,_,_,_,_,_,h=>h
 |⟨none,_,_,_,_,_⟩::_,_,_,_,_,_,_,hf,_=>by simp[FH] at hf
 |⟨some d,op,ty,pos,aft,some g⟩::_,_,_,_,_,_,_,hf,_=>by unfold FH at hf;split at hf<;>simp_all
 |⟨some d,op,ty,pos,aft,none⟩::os,l,l',t,w,ops,Q,hf,h=>by
  unfold FH at hf
  split at hf
  ·simp_all
  ·rename_i d' s ty' pos' aft' os' heq
   obtain⟨he,rfl⟩:=List.cons.inj heq
   injection he with e1 e2 e3 e4 e5 e6
   obtain rfl:=Option.some.inj e1
   subst e2
   split at hf
   ·refine wpList_plain Jg fun K hK=>?_
    have hr:(execOp (Act.eval ⟨t,[]⟩) ⟨some d,.assign (.tmp s),ty,pos,aft,none⟩).run P w=.ok (.value (t.getD s undef)) w:=by simp[execOp,Act.eval]
    unfold Oper.wp
    rw[hr]
    exact hK _ _ (DG hf h)
   ·cases hf
  ·cases hf
theorem DH:∀{os:List Oper} {l l':Fr} {t:Array Value} {N:Nat},FH os l=some l'→(os.all fun o=>match o.dst with|some d=>Nat.blt d N|none=>false)=true→At N [] l ⟨t,[]⟩→At N [] l' ⟨asT os t,[]⟩
 |[],_,_,_,_,hf,_,h=>by
  obtain rfl:=Option.some.inj hf
  exact h
 |⟨none,_,_,_,_,_⟩::_,_,_,_,_,hf,_,_=>by simp[FH] at hf
 |⟨some d,op,ty,pos,aft,some g⟩::_,_,_,_,_,hf,_,_=>by unfold FH at hf;split at hf<;>simp_all
 |⟨some d,op,ty,pos,aft,none⟩::os,l,l',t,N,hf,hd,h=>by
  unfold FH at hf
  split at hf
  ·simp_all
  ·rename_i d' s ty' pos' aft' os' heq
   obtain⟨he,rfl⟩:=List.cons.inj heq
   injection he with e1 e2 e3 e4 e5 e6
   obtain rfl:=Option.some.inj e1
   subst e2
   simp only[List.all_cons,Bool.and_eq_true] at hd
   split at hf
   ·rename_i v hv
    have h1:=h.put hd.1 v
    have hs:t.getD s undef=v:=h.at_ s v hv
    have e:(⟨t,[]⟩:Act).put (some d) v=⟨t.setIfInBounds d (t.getD s undef),[]⟩:=by rw[hs];rfl
    rw[e] at h1
    exact DH (os:=os) hf hd.2 h1
   ·cases hf
  ·cases hf
def psF:List (Tmp×Value)→Fr→Fr
 |[],l=>l
 |(p,v)::ps,l=>psF ps ((p,v)::l)
theorem DI {N:Nat}:∀{ps:List (Tmp×Value)} {l:Fr} {t:Array Value},(ps.all fun p=>Nat.blt p.1 N)=true→At N [] l ⟨t,[]⟩→At N [] (psF ps l) ⟨ps.foldl (fun t (p,v)=>t.setIfInBounds p v) t,[]⟩
 |[],_,_,_,h=>h
 |(p,v)::ps,l,t,hp,h=>by
  simp only[List.all_cons,Bool.and_eq_true] at hp
  exact DI (ps:=ps) hp.2 (h.put hp.1 v)
theorem xj {α:Type} {g:Operand} {ps:List Tmp} {id:Nat} {os:List Oper} {body:Code} {l:Fr} {w:World} {gf:Nat} {lb:Array Value} (hg:ev l g=some (.func (.func gf) #[] lb)) (hc:az P gf)
 {encs:α→List Value} {Kp:World→World→Prop} {S Sp:List α→Prop} {M:Nat} {w0:World} (hseq:SeqStopsK Fence.wide 1 P gf lb (fun x=>(encs x).toArray) Kp S Sp M w0)
 (hKt:∀{A B C:World},Kp A B→Kp B C→Kp A C) (hKb:∀(W:World) (l:Nat) (o o':Obj),w.heap.size≤l→W.heap[l]? =some o→o.isCells=false→o.isWalk=false→Kp W (W.putObj l o')) (hb0:Below w0.heap.size w0 w) (hps:∀x,(encs x).length=ps.length)
 (I:List α→World→Prop) (Ix:Code→List α→World→Prop) (hI:OwnFrom w.heap.size I) (hIx:∀c,OwnFrom w.heap.size (Ix c)) (h0:I [] w)
 (frb:α→Fr) (hfr:∀x,FH os (psF (ps.zip (encs x)) l)=some (frb x)) (hpN:(ps.all fun p=>Nat.blt p N)=true) (hoN:(os.all fun o=>match o.dst with|some d=>Nat.blt d N|none=>false)=true) (hoD:kO os=true)
 (hbody:∀(lp:Nat) (pre:List α) (x:α) (W:World),I pre W→pre.length<M→fb (some lp) P (ownPostG w.heap.size Kp I Ix (pre++[x]) W) N [] (frb x) W body)
 (hdone:∀(D0:Nat) (xs:List α) (W:World),w.heap.size≤D0→S xs→I xs W→W.heap[D0]? =some (.deferred (some []))→fS Q N (⟨.collected D0,#[]⟩::D) l W)
 (hstop:∀(D0:Nat) (c:Code) (pre:List α) (W:World),w.heap.size≤D0→Sp pre→Ix c pre W→W.heap[D0]? =some (.deferred (some []))→cW P Q N (⟨.collected D0,#[]⟩::D) l W c):
 cW P Q N D l w (.rangeFunc g ps.toArray (.region id os.toArray false) body):=fun a ha=>by
 refine(wpIn_wide (n:=2)).1 (wpIn_rangeFunc_ownG (F:=Fence.wide) (n:=2) (encs:=fun x=>(encs x).toArray) Jg (by omega) (ha.ev hg) trivial (fun args w=>fi hc args w) hseq (fun h k=>hKt h k) hKb hb0 (fun x=>by simp[hps x]) I Ix hI hIx h0
  (fun x=>⟨asT os ((ps.zip (encs x)).foldl (fun t (p,v)=>t.setIfInBounds p v) a.tmps),[]⟩) ?_ ?_ ?_ ?_)
 ·intro lp x W K hK
  have e:(ps.toArray.zip (encs x).toArray).foldl (fun t (p,v)=>t.setIfInBounds p v) a.tmps=(ps.zip (encs x)).foldl (fun t (p,v)=>t.setIfInBounds p v) a.tmps:=by simp
  rw[e]
  refine wpIn_region (ox (rd:=some lp) (fun⟨_,_,hq⟩=>hq) (.inr hoD) _ _ _ ?_)
  have:=wpOps_eq_wpList (P:=P) (Q:=Exit.then K (fun _ _ _=>False)) (ops:=os.toArray) os 0 (by simp)
  rw[List.range_eq_range']
  simp only[List.size_toArray]
  rw[this]
  exact DG (hfr x) hK
 ·intro lp pre x W hi hlen
  refine hbody lp pre x W hi hlen _ (DH (hfr x) hoN (DI (N:=N) ?_ ⟨ha.size,rfl,ha.at_⟩))
  simp only[List.all_eq_true] at hpN⊢
  rintro⟨p,v⟩ hp
  exact hpN p (List.of_mem_zip hp).1
 ·intro D0 xs W h1 h2 h3 h4
  exact hdone D0 xs W h1 h2 h3 h4 _ ⟨ha.size,by simp[ha.defers],ha.at_⟩
 ·intro D0 c pre W h1 h2 h3 h4
  exact wpIn_wide.2 (hstop D0 c pre W h1 h2 h3 h4 _ ⟨ha.size,by simp[ha.defers],ha.at_⟩)
theorem Hc {f:FuncId} {fn:Func} {c:Code} {vs:List Value} {w:World} {R:Ending→World→Prop} (hf:P.funcs[f]? =some fn) (hb:fn.body=some c) (hN:fn.ntmps=N) (hle:Nat.ble vs.length N=true)
 (h:cW P (bodyPostM Fence.wide 0 P fn R) N [] (dS 0 vs) w c):Calls P f vs.toArray w R:=by
 have hle':vs.length≤N:=by simpa using hle
 refine callsIn_wide.1 (callsIn_of_wp_marks (F:=Fence.wide) (n:=0) hf hb trivial (wpIn_wide.2 (h _ ⟨?_,rfl,fun t v ht=>?_⟩)) Jg)
 ·simp[hN];omega
 ·obtain⟨_,h2⟩:=my vs 0 t v ht
  have h2':vs[t]? =some v:=by simpa using h2
  have hlt:t<vs.length:=by
   rcases Nat.lt_or_ge t vs.length with h|h
   ·exact h
   ·rw[List.getElem?_eq_none h] at h2';cases h2'
  rw[List.getElem?_eq_getElem hlt] at h2'
  simpa [Array.getElem?_append,hlt] using h2'
section
variable {l:Fr} {w:World} {fn:Func} {R:Ending→World→Prop}
theorem Fsz {t s:Tmp} {v u:Value} (hr:fn.results= #[.tmp t,.tmp s]) (hv:lk l t=some v) (hu:lk l s=some u) (h:R (.returned (.tuple #[v,u])) w):fX (bodyPostM Fence.wide 0 P fn R) N [] l w .ret:=fun a ha=>by
 show LeavesInM Fence.wide 0 P fn a.tmps R a.defers .returning w
 rw[ha.defers]
 exact⟨.tuple #[v,u],by simp only[results,hr];simp[←ha.at_ t v hv,←ha.at_ s u hu],h⟩
theorem AS {D0:Nat} {t s:Tmp} {v u:Value} (hr:fn.results= #[.tmp t,.tmp s]) (hv:lk l t=some v) (hu:lk l s=some u) (hD:w.heap[D0]? =some (.deferred (some []))) (h:∀w',w.grownBy w' (some D0)→R (.returned (.tuple #[v,u])) w'):fX (bodyPostM Fence.wide 0 P fn R) N [⟨.collected D0,#[]⟩] l w .ret:=fun a ha=>by
 show LeavesInM Fence.wide 0 P fn a.tmps R a.defers .returning w
 rw[ha.defers]
 exact⟨by simp,.inl ⟨D0,_,rfl,run_takeDeferred hD,.tuple #[v,u],by simp only[results,hr];simp[←ha.at_ t v hv,←ha.at_ s u hu],h _ (grownBy_putObj' w D0 _)⟩⟩
end
def BQ (P:Program) (ops:Array Oper) (Q:fB) (N:Nat) (D:List Deferred) (l:Fr) (w:World) (os:List Oper):Prop:=∀a,At N D l a→wpListIn Fence.wide 0 P ops Q os a w
theorem DJ {id:Nat} {os:List Oper} {l:Fr} {w:World} (h:BQ P os.toArray Q N D l w os):cW P Q N D l w (.region id os.toArray false):=fun a ha=>wpIn_wide.1 (wpIn_region_lit (h a ha))
theorem mH (hQ:¬LetsOut Q):∀{xs ys:List Oper} {a:Act} {w:World},wpList P ops (Exit.then (fun a w=>wpListIn Fence.wide 0 P ops Q ys a w) Q) xs a w→wpListIn Fence.wide 0 P ops Q (xs++ys) a w
 |[],_,_,_,h=>h
 |o::xs,ys,a,w,h=>by
  unfold wpList at h
  rw[List.cons_append]
  unfold wpListIn
  split
  ·rename_i hw
   rw[if_pos hw] at h
   have h2:=tY (P:=P) (rd:=none) (n:=0) (o:=o) (.inl rfl) (fun a w h=>mH hQ (xs:=xs) (ys:=ys) h) (h.resolve_right fun h=>hQ (Classical.byContradiction fun hn=>ie hn h.2))
   refine⟨h2.1,?_⟩
   have h3:o.uponIn Fence.wide 0 P a (fun a w=>wpListIn Fence.wide 0 P ops Q (xs++ys) a w) (Exit.then (fun a w=>wpListIn Fence.wide 0 P ops Q ys a w) Q) ((o.semAt Fence.wide.round a.eval).run P w):=h2.2
   generalize (o.semAt Fence.wide.round a.eval).run P w=r at h3⊢
   cases r with
   |ok x w'=>
    cases x with
    |value v=>exact h3
    |skip=>exact h3
    |defer d=>exact h3
    |enter f args=>
     refine⟨h3.1,CallsIn.mono h3.2 ?_⟩
     intro e w'' he
     cases e with
     |returned v=>exact he
     |panicked c=>exact he
     |outgrown=>exact he
    |row s args=>exact h3
    |round _ _ _ _ _=>
     refine⟨h3.1,RoundIn.mono h3.2 ?_⟩
     intro e w'' he
     cases e with
     |returned v=>exact he
     |panicked c=>exact he
     |outgrown=>exact he
    |_=>exact h3
   |halt x w'=>
    cases x with
    |panic v=>exact h3
    |_=>exact h3
  ·rename_i hw
   rw[if_neg hw] at h
   exact⟨fun _ _=>trivial,mH hQ h⟩
theorem FT (k:Nat) {os:List Oper} {l:Fr} {w:World} (h:bP P ops (Exit.then (fun a w=>wpListIn Fence.wide 0 P ops Q (os.drop k) a w) Q) N D l w (os.take k))
 (hQ:¬LetsOut Q:=by repeat with_reducible first|exact j5|exact jp|exact iF|apply ie|apply iE):BQ P ops Q N D l w os:=fun a ha=>by
 have:=mH hQ (h a ha)
 rwa [List.take_append_drop] at this
theorem n_y {os:List Oper} {l:Fr} {w:World} {Q':fB} (h:BQ P ops Q N D l w os):fS (Exit.then (fun a w=>wpListIn Fence.wide 0 P ops Q os a w) Q') N D l w:=fun a ha=>h a ha
theorem DK {os:List Oper} {l:Fr} {w:World} (h:bP P ops Q N D l w os)
 (hQ:¬LetsOut Q:=by repeat with_reducible first|exact j5|exact jp|exact iF|apply ie|apply iE):BQ P ops Q N D l w os:=fun a ha=>by
 have:=mH hQ (ys:=[]) (P:=P) (ops:=ops) (Q:=Q) (xs:=os) (a:=a) (w:=w) ?_
 ·rwa [List.append_nil] at this
 ·have hmono:∀(os:List Oper) (a:Act) (w:World),wpList P ops Q os a w→wpList P ops (Exit.then (fun a w=>wpListIn Fence.wide 0 P ops Q [] a w) Q) os a w:=by
   intro os a w h
   have e:(Exit.then (fun a w=>wpListIn Fence.wide 0 P ops Q [] a w) Q)=Q:=by
    funext e a w
    cases e<;>rfl
   rw[e];exact h
  exact hmono _ _ _ (h a ha)
theorem FU {x:Operand} {xs:List Operand} {vs:List Value} {ts:Array TypeId} {lp d:Nat} {ty:TypeId} {pos:String} {aft:Array Edge} {rest:List Oper} {l:Fr} {w:World} {R:Ending→World→Prop} (hx:ev l x=some (.func (.yield lp) #[] #[])) (hp:rt l xs=some vs) (hd:Nat.blt d N=true)
 (hY:YieldAt Fence.wide 0 P lp vs.toArray w R) (k:∀e w',R e w'→∃v,e=.returned v∧BQ P ops Q N D ((d,v)::l) w' rest):BQ P ops Q N D l w (⟨some d,.call {callee:=.value x,args:=xs.toArray,argTypes:=ts},ty,pos,aft,none⟩::rest):=fun a ha=>by
 obtain⟨fn,tmps,assign,body,hy,hR⟩:=hY
 unfold wpListIn
 rw[if_pos (by rfl)]
 refine⟨fun _ _=>trivial,?_⟩
 have hr:(Oper.semAt Fence.wide.round a.eval ⟨some d,.call {callee:=.value x,args:=xs.toArray,argTypes:=ts},ty,pos,aft,none⟩).run P w=.ok (.round lp fn tmps assign body) w:=by
  rw[Oper.semAt_eq _ _ _ (by intro c hc;cases hc)]
  have hρ:nf l a.eval:=fun x v hx=>ha.ev hx
  simp only[execOp,resolve,List.map_toArray,g0 hρ hp,hρ x _ hx,Deferred.ofValue,Sem.run_bind,Sem.run_pure,Result.andThen_ok,invoke,Array.empty_append,hy]
 rw[hr]
 refine⟨fun hd=>absurd hd (rD none),RoundIn.mono hR ?_⟩
 intro e w' he
 obtain⟨v,rfl,hk⟩:=k e w' he
 exact hk _ (ha.put hd v)
end
end Go.Rl
namespace Go.Rl
open Go.RowKit Go.Proofs
section
variable {P:Program} {w w':World} {t e T:TypeId} {n g o:Nat} {l:List Value}
def cd (g:Nat) (T:TypeId) (l:List Value) (w:World):Prop:=w.heap[g]? =some (.cells l.toArray T (0,0))
theorem cd.ext (h:cd g T l w) (hx:aM w w'):cd g T l w':=hx.heap_some h
theorem cd.lt (h:cd g T l w):g<w.heap.size:=(Array.getElem?_eq_some_iff.1 h).1
theorem cd.other {row:Option Nat} (h:cd g T l w) (hg:w.grownBy w' row) (hne:some g≠row):cd g T l w':=(hg.block g h.lt hne).trans h
theorem cd.cell (h:cd g T l w) {i:Nat} {v:Value} (hi:l[i]? =some v):w.cell? ⟨g,i,none⟩=some v:=iP h (by simpa using hi)
theorem cd.set (h:cd g T l w) (i:Nat) (u:Value):cd g T (l.set i u) (w.setCell ⟨g,i,none⟩ u):=by
 have:=j0 h i u
 simpa [cd] using this
theorem cd.new (v:Value) (hv:v.cells=l.toArray):cd w.heap.size T l (w.alloc (.cells v.cells T)):=by
 have:=heap_alloc_new w (.cells v.cells T)
 rw[hv] at this⊢
 exact this
theorem cd.range (h:cd g T l w) {m:List Value} (hm:∀j v,m[j]? =some v→l[o+j]? =some v):w.rangeAt g o m:=fun j v hj=>h.cell (hm j v hj)
theorem AT (ht:P.underlying t=some (.array n e)) (hs:(P.info? e).map (·.size)=some 1) {i:Nat} (hi:i<n) (k:IntKind):
 (Instr.indexAt t (.pointer (some ⟨g,o,none⟩)) (.int k i)).run P w=.ok (.pointer (some ⟨g,o+i,none⟩)) w:=by
 simp[Instr.indexAt,asIntOf,run_underlying ht,Instr.sureAddr,dE hs,hi,Addr.add_mid]
theorem DL (ht:P.underlying t=some (.array n e)) (hs:(P.info? e).map (·.size)=some 1) {q:IntKind} (he:P.underlying e=some (.int q)) {i:Nat} (hi:i<n) (k:IntKind) {v:Value} (hv:l[i]? =some v):
 (Instr.index t (.agg l.toArray) (.int k i)).run P w=.ok v w:=by
 have hagg:(isAgg e).run P w=.ok false w:=by simp[isAgg,run_underlying he]
 have hpart:(part e l.toArray i).run P w=.ok v w:=by simp[part,hagg,hv]
 simp[Instr.index,asIntOf,run_underlying ht,hi,dE hs,hpart]
theorem lJ {d:TypeDesc} {m:List Value} (h:cd g T l w) (hm:∀j v,m[j]? =some v→l[o+j]? =some v) (hu:P.underlying t=some d) (hd:d.isRow=true) (hi:(P.info? t).map (·.size)=some m.length):
 (Instr.loadAt t (.pointer (some ⟨g,o,none⟩))).run P w=.ok (.agg m.toArray) w:=run_loadAt_mid w g o t m d (h.range hm) hu hd hi
theorem gW {m:List Value} (h:cd g T l w) (hl:l.length=m.length) (hi:(P.info? t).map (·.size)=some m.length) (h1:∀v∈m,v.oneCell'=true):
 (Instr.storeAt t (.pointer (some ⟨g,0,none⟩)) (.agg m.toArray)).run P w=.ok () (w.setRow g m.toArray):=by
 have:=run_storeVar_row (P:=P) w g T t l.toArray m.toArray h (by simpa using hi) (by simpa using hl) (by simpa using h1)
 simp only[Instr.storeAt,Instr.sureAddr,Sem.run_bind,Sem.run_pure,Result.andThen_ok,this]
theorem cd.row (h:cd g T l w) (m:List Value):cd g T m (w.setRow g m.toArray):=setRow_heap w g _ _ T (0,0) h
theorem bo (w:World) (g:Nat) (cs:Array Value):w.grownBy (w.setRow g cs) (some g):=
 ⟨rfl,rfl,rfl,by simp[World.setRow],fun k _ hne=>setRow_other w g k cs fun e=>hne (by rw[e])⟩
theorem DM (ht:P.underlying t=some (.array n e)) (hs:(P.info? e).map (·.size)=some 1) {lo:Nat} (hi:lo<n) (k:IntKind):
 (Instr.sliceAt t (.pointer (some ⟨g,o,none⟩)) (some (.int k lo)) none none).run P w=.ok (.slice (some ⟨g,o+lo,none⟩) (n-lo) (n-lo)) w:=by
 have hb:(Instr.sliceBounds false n n (some (.int k lo)) none none).run P w=.ok (lo,n,n) w:=by
  have a2:=run_sliceBound (P:=P) (w:=w) k (lo:Int) n .sliceB (by omega) (by omega)
  simp only[Int.toNat_natCast] at a2
  simp[Instr.sliceBounds,a2]
 have hne:¬n=lo:=by omega
 simp[Instr.sliceAt,run_underlying ht,Instr.sureAddr,hb,dE hs,hne,Addr.add_mid]
theorem ep {fn:Func} {R:Ending→World→Prop} {N:Nat} {fr:Fr} {p:Tmp} {d:TypeDesc} (hr:fn.results= #[.cell p t]) (hv:lk fr p=some (.pointer (some ⟨g,0,none⟩))) (hb:cd g T l w) (hu:P.underlying t=some d) (hd:d.isRow=true) (hi:(P.info? t).map (·.size)=some l.length)
 (h:R (.returned (.agg l.toArray)) w):fX (bodyPost P fn R) N [] fr w .ret:=fun a ha=>
 ⟨ha.defers,.agg l.toArray,results_cell_row hr a.tmps w g T l.toArray (0,0) d (ha.at_ p _ hv) hb hu (by cases d<;>first|rfl|exact hd) (by simpa using hi),h⟩
theorem jq (m:List UInt32):∀v∈m.map bw,v.oneCell'=true:=by
 intro u hu
 obtain⟨b,_,rfl⟩:=List.mem_map.1 hu
 rfl
end
theorem bf {P:Program} {w:World} {t:TypeId} {z:Value} {l:List Value} (h:(P.info? t).map (·.zero)=some (some z)) (hv:z.cells=l.toArray):∃g w',(Instr.alloc t true (.tuple #[])).run P w=.ok (.pointer (some ⟨g,0,none⟩)) w'∧w.heap.size≤g∧aM w w'∧cd g t l w':=
 ⟨_,_,vn h,Nat.le_refl _,aM.new w _,cd.new z hv⟩
end Go.Rl
namespace Go.Rl
open Go.RowKit Go.Proofs
section ops
variable {P:Program} {ops:Array Oper} {Q:fB} {N:Nat} {D:List Deferred} {l:Fr} {w w':World} {rest:List Oper} {d:Nat} {ty:TypeId} {pos:String} {aft:Array Edge}
theorem nr {fn:Fn} {fs cs:List Operand} {us vs:List Value} (hf:rt l fs=some us) (hc:rt l cs=some vs) (hd:Nat.blt d N=true) (k:bP P ops Q N D ((d,.func fn us.toArray vs.toArray)::l) w rest):bP P ops Q N D l w (⟨some d,.makeFunc fn fs.toArray cs.toArray,ty,pos,aft,none⟩::rest):=
 fT hd (fun ρ hρ=>by
  have:execOp ρ ⟨some d,.makeFunc fn fs.toArray cs.toArray,ty,pos,aft,none⟩=(do pure (Next.value (←Instr.makeFunc fn (fs.toArray.map ρ) (cs.toArray.map ρ))):Sem Next):=rfl
  rw[this,List.map_toArray,List.map_toArray,g0 hρ hf,g0 hρ hc];rfl) k
theorem oy {f:FuncId} {x:Operand} {fs lb:Array Value} {xs:List Operand} {vs:List Value} {ts:Array TypeId} {T:Value→World→Prop} (hx:ev l x=some (.func (.func f) fs lb)) (hf:az P f) (hp:rt l xs=some vs) (hd:Nat.blt d N=true) (hc:Calls P f (fs++vs.toArray++lb) w (bF T))
 (k:∀v w',T v w'→bP P ops Q N D ((d,v)::l) w' rest):bP P ops Q N D l w (⟨some d,.call {callee:=.value x,args:=xs.toArray,argTypes:=ts},ty,pos,aft,none⟩::rest):=fun a ha=>by
 refine wpList_plain Jg fun K hK=>?_
 unfold Oper.wp
 have hr:(execOp a.eval ⟨some d,.call {callee:=.value x,args:=xs.toArray,argTypes:=ts},ty,pos,aft,none⟩).run P w=.ok (.enter f (fs++vs.toArray++lb)) w:=by
  have hρ:nf l a.eval:=fun x v hx=>ha.ev hx
  simp only[execOp,resolve,List.map_toArray,g0 hρ hp,hρ x _ hx,Deferred.ofValue,Sem.run_bind,Sem.run_pure,Result.andThen_ok,invoke,fi hf]
 rw[hr]
 refine hc.mono ?_
 rintro e w' ⟨v,rfl,hv⟩
 exact hK _ _ (k v w' hv _ (ha.put hd v))
theorem BR {t:TypeId} (hd:Nat.blt d N=true) (k:bP P ops Q N D ((d,.map (some w.heap.size))::l) (w.alloc (.map #[] 0)) rest):bP P ops Q N D l w (⟨some d,.makeMap t none,ty,pos,aft,none⟩::rest):=
 fT hd (fun ρ _=>by
  have:execOp ρ ⟨some d,.makeMap t none,ty,pos,aft,none⟩=(do pure (Next.value (←Instr.makeMap t none)):Sem Next):=rfl
  rw[this]
  rfl) k
theorem zl {t:TypeId} {x y:Operand} {u v r:Value} (hx:ev l x=some u) (hy:ev l y=some v) (hd:Nat.blt d N=true) (hrun:(Instr.mapEntry t u v).run P w=.ok r w') (k:bP P ops Q N D ((d,r)::l) w' rest):bP P ops Q N D l w (⟨some d,.mapEntry t x y,ty,pos,aft,none⟩::rest):=
 fT hd (fun ρ hρ=>by
  have:execOp ρ ⟨some d,.mapEntry t x y,ty,pos,aft,none⟩=(do pure (Next.value (←Instr.mapEntry t (ρ x) (ρ y))):Sem Next):=rfl
  rw[this,hρ x _ hx,hρ y _ hy,Sem.run_bind,hrun];rfl) k
theorem vq {t:TypeId} {x y z:Operand} {u v r:Value} (hx:ev l x=some u) (hy:ev l y=some v) (hz:ev l z=some r) (hrun:(Instr.entryStore t u v r).run P w=.ok () w') (k:bP P ops Q N D l w' rest):bP P ops Q N D l w (⟨none,.entryStore t x y z,ty,pos,aft,none⟩::rest):=
 GE (fun ρ hρ=>by
  have:execOp ρ ⟨none,.entryStore t x y z,ty,pos,aft,none⟩=(do Instr.entryStore t (ρ x) (ρ y) (ρ z);pure Next.skip:Sem Next):=rfl
  rw[this,hρ x _ hx,hρ y _ hy,hρ z _ hz,Sem.run_bind,hrun];rfl) k
end ops
section fops
variable {P:Program} {ops:Array Oper} {Env:World→Prop} {Rl:World→World→Prop} {mo:Bool} {Pn:List PanicEntry→World→Prop} {Z:iN} {N:Nat} {F:cp} {K:cp→iN→Prop} {rest:List Oper} {d:Nat} {ty:TypeId} {pos:String} {aft:Array Edge}
theorem BS {t:TypeId} {x y:Operand} {S R S':dx} {ok:Bool} (hx:eu F x=S) (hy:eu F y=R) (hst:bR Rl S') (hd:Nat.blt d N=true) (hrun:∀w u v,Env w→S u w→R v w→∃r,(Instr.lookup t u v ok).run P w=.ok r w∧S' r w)
 (k:fg P ops Env Rl mo Pn N rest (iz F (some d) S') Z K):fg P ops Env Rl mo Pn N (⟨some d,.lookup t x y ok,ty,pos,aft,none⟩::rest) F Z K:=
 xe (xs:=[x,y]) (f:=fun|[a,b]=>Instr.lookup t a b ok|_=>stuck "") (fun _=>rfl) (by simp[Op.operands]) hst hd (fun w hw u hu v hv=>by
  subst hx;subst hy
  obtain⟨r,h1,h2⟩:=hrun w u v hw hu hv
  exact⟨r,w,h1,aM.refl _,h2⟩) k
end fops
theorem xk:(Tryz.prog.info? 3).map (fun i=>(i.zero,i.size,i.bytes))=some (some (.int .i64 0),1,8):=by kernel_rfl
theorem dz:(Tryz.prog.info? 3).map (·.size)=some 1:=by kernel_rfl
section
variable {w w':World} {base:Nat}
def Its (l:List Int):dx:=Sl 1 (l.map I)
def eQ (base:Nat) (l:List Int):dx:=fun v w=>∃n,w.ownsRow base 3 1 v n (l.map I)
theorem eQ.its {l:List Int} {v:Value} (h:eQ base l v w):Its l v w:=h.elim fun _ h=>Sl.of_own h
theorem eQ.ext {l:List Int} {v:Value} (h:eQ base l v w) (hx:aM w w'):eQ base l v w':=h.elim fun n h=>⟨n,jI h hx⟩
theorem eQ.stable (base:Nat) (l:List Int):bu (eQ base l):=fun _ _ _ h hx=>h.ext hx
theorem eQ.nil (base:Nat) (w:World):eQ base [] (.slice none 0 0) w:=⟨0,World.ownsRow_nil _ _ _ _⟩
theorem eQ.lt {l:List Int} {v:Value} (h:eQ base l v w):∀k,v.ownBlock=some k→base≤k∧k<w.heap.size:=fun k hk=>h.elim fun _ h=>World.ownsRow.lt h k hk
theorem eQ.kept {l:List Int} {v:Value} (h:eQ base l v w) {row:Option Nat} (hg:w.grownBy w' row) (hne:v.ownBlock=none∨v.ownBlock≠row):eQ base l v w':=
 h.elim fun n h=>⟨n,World.ownsRow.kept h hg hne⟩
theorem eQ.same {l:List Int} {v:Value} (h:eQ base l v w) (hb:∀k,v.ownBlock=some k→w'.heap[k]? =w.heap[k]?):eQ base l v w':=by
 obtain⟨n,h1,h2⟩:=h
 refine⟨n,h1,?_⟩
 rcases h2 with h2|⟨g,cap,cur,rfl,h3,h4,h5⟩
 ·exact .inl h2
 ·exact .inr ⟨g,cap,cur,rfl,h3,(hb g rfl).trans h4,h5⟩
theorem eQ.isSlice {l:List Int} {v:Value} (h:eQ base l v w):∃A n c,v=.slice A n c:=by
 obtain⟨n,h1,h2⟩:=h
 rcases h2 with⟨rfl,_⟩|⟨g,cap,cur,rfl,_⟩
 ·exact⟨_,_,_,rfl⟩
 ·exact⟨_,_,_,rfl⟩
theorem GG (l:List Int):∀u∈l.map I,u.oneCell'=true:=by
 intro u hu
 obtain⟨b,_,rfl⟩:=List.mem_map.1 hu
 rfl
theorem Hd {l m:List Int} {v x:Value} {ty:TypeId} (hv:eQ base l v w) (hx:Its m x w) (hb:l.length+m.length≤17592186044416) (hbase:base≤w.heap.size):
 ∃r w',(Builtin.append_ #[66,66] ty #[v,x]).run Tryz.prog w=.ok r w'∧eQ base (l++m) r w'∧gJ w w' v r:=by
 obtain⟨n,hv⟩:=hv
 obtain⟨r,w',n',h1,h2,h3⟩:=og (P:=Tryz.prog) (ty:=ty) Tryz.underlying66 xk rfl (by omega) hv hx (GG m) (by simp;omega) (by omega) hbase
 exact⟨r,w',h1,⟨n',by rw[List.map_append];exact h2⟩,h3⟩
theorem AU (base:Nat) (l:List Int) (hl:l.length≤16777216) (hb:base≤w.heap.size):
 ∃r w',(Instr.buildSlice 66 l.length (dS 0 (l.map I)).toArray).run Tryz.prog w=.ok r w'∧aM w w'∧eQ base l r w'∧r.ownBlock=some w.heap.size:=by
 have:=kJ (P:=Tryz.prog) (w:=w) Tryz.underlying66 xk (l.map I) (GG l) (by simpa using hl) hb
 simp only[List.length_map] at this
 obtain⟨r,w',h1,h2,h3,h4⟩:=this
 exact⟨r,w',h1,h2,⟨_,h3⟩,h4⟩
theorem He {l:List Int} {v:Value} {ty:TypeId} (h:Its l v w):(Builtin.len_ #[66] ty #[v]).run Tryz.prog w=.ok (I l.length) w:=by
 obtain⟨n,hl,_,hr⟩:=Dz (P:=Tryz.prog) (ty:=ty) Ja h
 have:l.length=n:=by simpa using hl
 rw[hr,this]
theorem H7 {l:List Int} {v:Value} (h:Its l v w) {i:Nat} (hi:i<l.length) (k:IntKind):
 ∃ad,(∀w':World,(Instr.indexAt 66 v (.int k i)).run Tryz.prog w'=.ok (.pointer (some ad)) w')∧w.cell? ad=some (I l[i]):=by
 obtain⟨ad,h3,h4⟩:=qW (P:=Tryz.prog) Tryz.underlying66 dz h (i:=i) (by simp;omega) (by omega) k
 refine⟨ad,h3,?_⟩
 have:=h4 0 (I l[i]) (by simp[hi])
 rwa [jn] at this
end
structure Mv (X:Nat→Prop) (w w':World):Prop where
 os:w'.os=w.os
 tape:w'.tape=w.tape
 output:w'.output=w.output
 size:w.heap.size≤w'.heap.size
 keep:∀k,k<w.heap.size→¬X k→w'.heap[k]? =w.heap[k]?
section
variable {X Y:Nat→Prop} {w w1 w2:World}
theorem Mv.refl (X:Nat→Prop) (w:World):Mv X w w:=⟨rfl,rfl,rfl,Nat.le_refl _,fun _ _ _=>rfl⟩
theorem Mv.trans (h:Mv X w w1) (k:Mv Y w1 w2) (hY:∀n,Y n→n<w.heap.size→X n):Mv X w w2:=
 ⟨k.os.trans h.os,k.tape.trans h.tape,k.output.trans h.output,Nat.le_trans h.size k.size,fun n hn hx=>(k.keep n (Nat.lt_of_lt_of_le hn h.size) (fun hy=>hx (hY n hy hn))).trans (h.keep n hn hx)⟩
theorem Mv.of_ext (h:aM w w1):Mv X w w1:=⟨h.os,h.tape,h.output,h.size,fun _ hn _=>h.heap hn⟩
theorem Mv.of_grown {row:Option Nat} (h:w.grownBy w1 row) (hr:∀k,row=some k→k<w.heap.size→X k):Mv X w w1:=
 ⟨h.os,h.tape,h.output,h.size,fun n hn hx=>h.block n hn (fun e=>hx (hr n e.symm hn))⟩
theorem Mv.ext (h:Mv X w w1) (hX:∀k,X k→w.heap.size≤k):aM w w1:=⟨h.os,h.tape,h.output,h.size,fun n hn=>h.keep n hn fun hx=>by have:=hX n hx;omega⟩
theorem Mv.ext_from {w0:World} (h:Mv X w w1) (h0:aM w0 w) (hX:∀k,X k→w0.heap.size≤k):aM w0 w1:=
 ⟨Eq.trans h.os h0.os,Eq.trans h.tape h0.tape,Eq.trans h.output h0.output,Nat.le_trans h0.size h.size,fun n hn=>(h.keep n (Nat.lt_of_lt_of_le hn h0.size) fun hx=>by have:=hX n hx;omega).trans (h0.heap hn)⟩
theorem Mv.weak (h:Mv X w w1) (hXY:∀k,X k→k<w.heap.size→Y k):Mv Y w w1:=⟨h.os,h.tape,h.output,h.size,fun n hn hy=>h.keep n hn fun hx=>hy (hXY n hx hn)⟩
theorem Mv.blk {g:Nat} {T:TypeId} {l:List Value} (h:Mv X w w1) (hb:cd g T l w) (hx:¬X g):cd g T l w1:=(h.keep g hb.lt hx).trans hb
theorem Mv.ownB {base:Nat} {l:List UInt8} {v:Value} (h:Mv X w w1) (ho:cD base l v w) (hx:∀k,v.ownBlock=some k→¬X k):cD base l v w1:=by
 obtain⟨n,h1,h2⟩:=ho
 refine⟨n,h1,?_⟩
 rcases h2 with h2|⟨g,cap,cur,rfl,h3,h4,h5⟩
 ·exact .inl h2
 ·exact .inr ⟨g,cap,cur,rfl,h3,(h.keep g (Array.getElem?_eq_some_iff.1 h4).1 (hx g rfl)).trans h4,h5⟩
end
section
variable {P:Program} {w:World} {t k e:TypeId} {m:Nat} {es:List MapEntry} {clock:Nat} {x:Value}
open Go.Maps (Keyed)
def zm (P:Program) (k:TypeId) (es:List MapEntry):Prop:=∀e∈es,∃l,keyOf P k e.key=some l
theorem DN (K:Keyed P k) (ht:P.underlying t=some (.map k e)) {z:Value} (hz:(P.info? e).map (·.zero)=some (some z)) (hm:w.heap[m]? =some (.map es.toArray clock)) (hk:zm P k es) {lx:Lit} (hx:keyOf P k x=some lx):
 ((Instr.lookup t (.map (some m)) x false).run P w=.ok z w∧(Instr.lookup t (.map (some m)) x true).run P w=.ok (.tuple #[z,.bool false]) w∧∀e∈es,e.key≠x)∨
 ∃(j:Nat) (e:MapEntry),(Instr.lookup t (.map (some m)) x false).run P w=.ok e.val w∧(Instr.lookup t (.map (some m)) x true).run P w=.ok (.tuple #[e.val,.bool true]) w∧es[j]? =some e∧e.key=x:=by
 have hc:=fun em=>K.check w em hx
 rcases K.find w hx es hk with⟨h1,h2⟩|⟨j,e0,h1,h2,h3⟩
 ·refine .inl ⟨?_,?_,h2⟩<;>simp[Instr.lookup,run_underlying ht,MapKept.run_getObj_map hm,hc,h1,pm hz,Result.andThen]
 ·refine .inr ⟨j,e0,?_,?_,h2,h3⟩<;>simp[Instr.lookup,run_underlying ht,MapKept.run_getObj_map hm,hc,h1,Result.andThen]
theorem pn {w:World} {m:Nat} {o o':Obj} (h:w.heap[m]? =some o):(w.putObj m o').heap[m]? =some o':=World.putObj_heap_same (Array.getElem?_eq_some_iff.1 h).1
theorem jr {o':Obj} (hm:w.heap[m]? =some (.map es.toArray clock)):(setObj m o').run P w=.ok () (w.putObj m o'):=by
 simp[setObj,Sem.run,hm,World.putObj]
theorem zn (K:Keyed P k) (ht:P.underlying t=some (.map k e)) {z:Value} (hz:(P.info? e).map (·.zero)=some (some z)) (hm:w.heap[m]? =some (.map es.toArray clock)) (hk:zm P k es) {lx:Lit} (hx:keyOf P k x=some lx):
 ∃w',w.grownBy w' (some m)∧((∃(j:Nat) (e:MapEntry),es[j]? =some e∧e.key=x∧(Instr.mapEntry t (.map (some m)) x).run P w=.ok (.tuple #[e.val,I (e.born:Int)]) w'∧w'.heap[m]? =some (.map es.toArray clock))∨
  ((∀e∈es,e.key≠x)∧(Instr.mapEntry t (.map (some m)) x).run P w=.ok (.tuple #[z,I (clock:Int)]) w'∧w'.heap[m]? =some (.map (es++[({key:=x,val:=z,born:=clock}:MapEntry)]).toArray (clock+1)))):=by
 rcases K.find w hx es hk with⟨h1,h2⟩|⟨j,e0,h1,h2,h3⟩
 ·refine⟨_,grownBy_putObj' w m (.map (es++[({key:=x,val:=z,born:=clock}:MapEntry)]).toArray (clock+1)),.inr ⟨h2,?_,pn hm⟩⟩
  have hs:=jr (P:=P) (o':=.map (es++[({key:=x,val:=z,born:=clock}:MapEntry)]).toArray (clock+1)) hm
  simp[Instr.mapEntry,run_underlying ht,MapKept.run_getObj_map hm,K.check w false hx,h1,pm hz,Result.andThen,goInt,I] at hs⊢
  simp[hs]
 ·have hmod:(es.toArray.modify j fun e=>{e with key:=x})=es.toArray:=by
   apply Array.ext
   ·simp
   ·intro i h4 h5
    rw[Array.getElem_modify]
    split
    ·rename_i he
     subst he
     have:es.toArray[j]=e0:=by
      have:=h2
      rw[List.getElem?_eq_getElem (by simpa using h5)] at this
      simpa using Option.some.inj this
     rw[this,←h3]
    ·rfl
  refine⟨_,grownBy_putObj' w m (.map es.toArray clock),.inl ⟨j,e0,h2,h3,?_,pn hm⟩⟩
  have hs:=jr (P:=P) (o':=.map es.toArray clock) hm
  have hst:=K.stays w hx
  have hj:es.toArray[j]? =some e0:=by simpa using h2
  simp[Instr.mapEntry,run_underlying ht,MapKept.run_getObj_map hm,K.check w false hx,h1,Result.andThen,goInt,I,h2,h3,hst] at hs⊢
  have hmod2:(es.modify j fun e=>{e with key:=x})=es:=by
   have:=congrArg Array.toList hmod
   simpa using this
  rw[hmod2]
  simp[hs]
theorem vv {j:Nat} {e0:MapEntry} {v:Value} (hm:w.heap[m]? =some (.map es.toArray clock)) (hj:es[j]? =some e0) (hu:∀i e,es[i]? =some e→e.born=e0.born→i=j):
 ∃w',(Instr.entryStore t (.map (some m)) (I (e0.born:Int)) v).run P w=.ok () w'∧w.grownBy w' (some m)∧w'.heap[m]? =some (.map (es.set j {e0 with val:=v}).toArray clock):=by
 have hjl:j<es.length:=by
  rcases Nat.lt_or_ge j es.length with h|h
  ·exact h
  ·rw[List.getElem?_eq_none h] at hj;cases hj
 have hje:es[j]=e0:=by
  rw[List.getElem?_eq_getElem hjl] at hj
  exact Option.some.inj hj
 have hfind:es.toArray.findIdx? (fun e=>(e.born:Int)==(e0.born:Int))=some j:=by
  rw[List.findIdx?_toArray,List.findIdx?_eq_some_iff_getElem]
  refine⟨hjl,by simp[hje],fun i hi=>?_⟩
  have hil:i<es.length:=by omega
  have:=hu i es[i] (List.getElem?_eq_getElem hil)
  simp only[beq_iff_eq]
  intro h
  have h':es[i].born=e0.born:=by exact_mod_cast h
  have:=this h'
  omega
 have hmod:(es.toArray.modify j fun e=>{e with val:=v})=(es.set j {e0 with val:=v}).toArray:=by
  apply Array.ext
  ·simp
  ·intro i h4 h5
   rw[Array.getElem_modify]
   simp only[List.getElem_toArray,List.getElem_set]
   split
   ·rename_i he
    subst he
    rw[hje]
   ·rfl
 refine⟨_,?_,grownBy_putObj' w m (.map (es.set j {e0 with val:=v}).toArray clock),pn hm⟩
 have hs:=jr (P:=P) (o':=.map (es.set j {e0 with val:=v}).toArray clock) hm
 simp only[Instr.entryStore,Sem.run_bind,MapKept.run_getObj_map hm,Result.andThen_ok,I,asInt,asIntOf,Sem.run_pure,hfind,hmod]
 exact hs
end
end Go.Rl
namespace Go.Rl
open Go.RowKit
mutual
def cK (X:Nat→Prop) (w:World):Dt→List Value→Prop
 |.int k n,cs=>cs=[.int k n]
 |.bool b,cs=>cs=[.bool b]
 |.str l,cs=>cs=[S l]
 |.sl l,cs=>∃A n c,cs=[.slice A n c]∧l.length=n∧n≤c∧c≤maxLen∧(A=none→c=0)∧(0<n→∃ad xs,A=some ad∧(xs≠[]→¬X ad.block)∧dM w ad xs∧aO X w l xs)
 |.st l,cs=>aO X w l cs
def aO (X:Nat→Prop) (w:World):List Dt→List Value→Prop
 |[],cs=>cs=[]
 |d::ds,cs=>∃c1 c2,cs=c1++c2∧cK X w d c1∧aO X w ds c2
end
theorem dM.block_lt {w:World} {ad:Addr} {xs:List Value} (h:dM w ad xs) (h0:xs≠[]):ad.block<w.heap.size:=by
 cases xs with
 |nil=>exact absurd rfl h0
 |cons x xs=>
  have:=World.block_lt_of_cell? w _ (h 0 x rfl)
  rwa [je] at this
theorem Mv.cells {X:Nat→Prop} {w w':World} (hm:Mv X w w') {ad:Addr} {xs:List Value} (h:dM w ad xs) (hx:xs≠[]→¬X ad.block):dM w' ad xs:=fun j u hu=>by
 have hn:xs≠[]:=by rintro rfl;simp at hu
 have hc:=h j u hu
 rw[World.cell?_of_block (hm.keep _ (World.block_lt_of_cell? w _ hc) (by rw[je];exact hx hn))]
 exact hc
section
variable {X Y:Nat→Prop} {w w':World}
mutual
theorem cK.rp:∀{d:Dt} {cs:List Value},cK X w d cs→Rp w d cs
 |.int k n,cs,h=>by simpa only[cK,Rp] using h
 |.bool b,cs,h=>by simpa only[cK,Rp] using h
 |.str l,cs,h=>by simpa only[cK,Rp] using h
 |.sl l,cs,h=>by
  simp only[cK,Rp] at h⊢
  obtain⟨A,n,c,h1,h2,h3,h4,h5,h6⟩:=h
  refine⟨A,n,c,h1,h2,h3,h4,h5,fun hn=>?_⟩
  obtain⟨ad,xs,h7,_,h8,h9⟩:=h6 hn
  exact⟨ad,xs,h7,h8,aO.rp h9⟩
 |.st l,cs,h=>by simp only[cK,Rp] at h⊢;exact aO.rp h
theorem aO.rp:∀{l:List Dt} {cs:List Value},aO X w l cs→bL w l cs
 |[],cs,h=>by simpa only[aO,bL] using h
 |d::l,cs,h=>by
  simp only[aO,bL] at h⊢
  obtain⟨c1,c2,h0,h1,h2⟩:=h
  exact⟨c1,c2,h0,cK.rp h1,aO.rp h2⟩
end
mutual
theorem cK.mv (hm:Mv X w w') (hY:∀k,Y k→X k∨w.heap.size≤k):∀{d:Dt} {cs:List Value},cK X w d cs→cK Y w' d cs
 |.int k n,cs,h=>by simpa only[cK] using h
 |.bool b,cs,h=>by simpa only[cK] using h
 |.str l,cs,h=>by simpa only[cK] using h
 |.sl l,cs,h=>by
  simp only[cK] at h⊢
  obtain⟨A,n,c,h1,h2,h3,h4,h5,h6⟩:=h
  refine⟨A,n,c,h1,h2,h3,h4,h5,fun hn=>?_⟩
  obtain⟨ad,xs,h7,h8,h9,h10⟩:=h6 hn
  refine⟨ad,xs,h7,fun h0 hy=>?_,hm.cells h9 h8,aO.mv hm hY h10⟩
  rcases hY _ hy with hx|hx
  ·exact h8 h0 hx
  ·have:=h9.block_lt h0;omega
 |.st l,cs,h=>by simp only[cK] at h⊢;exact aO.mv hm hY h
theorem aO.mv (hm:Mv X w w') (hY:∀k,Y k→X k∨w.heap.size≤k):∀{l:List Dt} {cs:List Value},aO X w l cs→aO Y w' l cs
 |[],cs,h=>by simpa only[aO] using h
 |d::l,cs,h=>by
  simp only[aO] at h⊢
  obtain⟨c1,c2,h0,h1,h2⟩:=h
  exact⟨c1,c2,h0,cK.mv hm hY h1,aO.mv hm hY h2⟩
end
theorem cK.weak {d:Dt} {cs:List Value} (h:cK X w d cs) (hY:∀k,Y k→X k∨w.heap.size≤k):cK Y w d cs:=h.mv (Mv.refl X w) hY
theorem aO.weak {d:List Dt} {cs:List Value} (h:aO X w d cs) (hY:∀k,Y k→X k∨w.heap.size≤k):aO Y w d cs:=h.mv (Mv.refl X w) hY
theorem cK.ext {d:Dt} {cs:List Value} (h:cK X w d cs) (hx:aM w w'):cK X w' d cs:=cK.mv (Mv.of_ext hx) (fun _ h=>.inl h) h
theorem aO.ext {d:List Dt} {cs:List Value} (h:aO X w d cs) (hx:aM w w'):aO X w' d cs:=aO.mv (Mv.of_ext hx) (fun _ h=>.inl h) h
theorem cK.len {d:Dt} {cs:List Value} (h:cK X w d cs):cs.length=d.size:=h.rp.len
theorem aO.len {l:List Dt} {cs:List Value} (h:aO X w l cs):cs.length=Dt.sizeAll l:=h.rp.len
theorem aO.nil:aO X w [] []:=by simp only[aO]
theorem aO.cons {d:Dt} {l:List Dt} {a b:List Value} (h:cK X w d a) (h':aO X w l b):aO X w (d::l) (a++b):=by simp only[aO];exact⟨a,b,rfl,h,h'⟩
theorem aO.append {l m:List Dt}:∀{a b:List Value},aO X w l a→aO X w m b→aO X w (l++m) (a++b):=by
 induction l with
 |nil=>intro a b h h';simp only[aO] at h;subst h;exact h'
 |cons d l ih=>
  intro a b h h'
  simp only[aO] at h
  obtain⟨c1,c2,rfl,h1,h2⟩:=h
  rw[List.append_assoc]
  exact aO.cons h1 (ih h2 h')
theorem cK.nilSl:cK X w (.sl []) [.slice none 0 0]:=by
 simp only[cK]
 exact⟨none,0,0,rfl,rfl,Nat.le_refl _,Nat.zero_le _,fun _=>rfl,fun h=>by omega⟩
theorem cK.ofOwn {base sz n:Nat} {e:TypeId} {l:List Dt} {v:Value} {xs:List Value} (h:w.ownsRow base e sz v n xs) (ha:aO X w l xs) (hs:∀d∈l,d.size=sz) (h0:0<sz) (hX:∀k,v.ownBlock=some k→¬X k):cK X w (.sl l) [v]:=by
 have hl:=ha.len
 rw[df hs,h.1] at hl
 have hn:=Nat.eq_of_mul_eq_mul_right h0 hl
 obtain⟨A,n',c,rfl,h3,h4,h5,h6,h7⟩:=Sl.of_own h
 simp only[cK]
 have hn':n'=n:=Nat.eq_of_mul_eq_mul_right h0 (h5.symm.trans h.1)
 subst hn'
 refine⟨A,n',c,rfl,hn.symm,h3,h4,h7,fun hp=>?_⟩
 obtain⟨ad,rfl,hc⟩:=h6 hp
 exact⟨ad,xs,rfl,fun _=>hX _ rfl,hc,ha⟩
end
end Go.Rl
namespace Go.Rl
open Go.ChangeShapes Go.WideShapes Go.ChangeAt Go.RowKit Go.Proofs
open Go.ChangeMaps (open_string shut_string)
section
variable {P:Program} {H:Type} {enc:TypeId×Value→H} {W:World} {base:Nat} {spare:Nat→Bool} {held:Bool} {r:Reach} {b0:Nat} {v:Value} {d:DataW H} {ps:List MemPlace}
theorem GH {n:Int} (h:(Lit.int .u8 n).wf=true):∃x:UInt8,n=(x.toNat:Int):=by
 have hb:0≤n∧n≤255:=by simpa [Lit.wf,IntKind.min,IntKind.max,IntKind.signed,IntKind.bits] using h
 exact⟨UInt8.ofNat n.toNat,by rw[UInt8.toNat_ofNat'];omega⟩
theorem AV:∀(zs:List Int),(∀n∈zs,(Lit.int .u8 n).wf=true)→∃l:List UInt8,zs.map (Value.int .u8)=l.map U8
 |[],_=>⟨[],rfl⟩
 |z::zs,h=>by
  obtain⟨x,hx⟩:=GH (h z (by simp))
  obtain⟨l,hl⟩:=AV zs fun n hn=>h n (by simp[hn])
  exact⟨x::l,by rw[List.map_cons,List.map_cons,hl,hx];rfl⟩
theorem DO {t e:TypeId} {k:IntKind} {fuel:Nat} {cs:List Value} {x:DataW H×List MemPlace} (ht:P.underlying t=some (.slice e)) (he:P.underlying e=some (.int k)) (hc:P.cellsOf e=1) (hf:DataW.trod enc P W base spare held fuel t cs=some x):
 ∃v,cs=[v]∧v.oneCell'=true∧∃zs:List Int,Sl 1 (zs.map (Value.int k)) v W∧∀n∈zs,(Lit.int k n).wf=true:=by
 rcases open_ints ht he hc hf with⟨hcs,_⟩|⟨x,l,c,zs,hcs,_,hl,hm,hz,_,hcell,hwz⟩
 ·exact⟨_,hcs,rfl,[],Sl.nil 1 W,by simp⟩
 ·have hle:l≤zs.length:=by
   rw[hz];split<;>omega
  refine⟨_,hcs,rfl,zs.take l,⟨some x,l,c,rfl,hl,hm,by simp[hle],fun _=>⟨x,rfl,fun j u hu=>?_⟩,fun h=>by cases h⟩,fun n hn=>hwz n (List.mem_of_mem_take hn)⟩
  rw[List.getElem?_map,Option.map_eq_some_iff] at hu
  obtain⟨z,hz1,rfl⟩:=hu
  rw[List.getElem?_take] at hz1
  split at hz1
  ·rename_i hjl
   have hj:j<zs.length:=by omega
   have:=hcell j hj
   rw[List.getElem?_eq_getElem hj] at hz1
   rw[this]
   simp only[Option.some.injEq] at hz1
   rw[←hz1]
   simp[List.getD,List.getElem?_eq_getElem hj]
  ·cases hz1
theorem FV {t e:TypeId} {k:IntKind} (ht:P.underlying t=some (.slice e)) (he:P.underlying e=some (.int k)) (hc:P.cellsOf e=1) (ho:Value.okWide P W r b0 t v) (h:DataW.Trod enc P W base spare held t v d ps):
 ∃zs:List Int,Sl 1 (zs.map (Value.int k)) v W∧∀n∈zs,(Lit.int k n).wf=true:=by
 obtain⟨a,len,cap,rfl⟩:=okWide_slice ht ho
 obtain⟨fuel,hf⟩:=h
 obtain⟨v,hv,_,h⟩:=DO ht he hc hf
 simp[Value.cells] at hv
 subst hv
 exact h
theorem H8 {t e:TypeId} (ht:P.underlying t=some (.slice e)) (he:P.underlying e=some (.int .u8)) (hc:P.cellsOf e=1) (ho:Value.okWide P W r b0 t v) (h:DataW.Trod enc P W base spare held t v d ps):∃l,cm l v W:=by
 obtain⟨zs,h1,h2⟩:=FV ht he hc ho h
 obtain⟨l,hl⟩:=AV zs h2
 exact⟨l,by unfold cm;rw[←hl];exact h1⟩
end
end Go.Rl
namespace Go.Rl
open Go.ChangeShapes Go.WideShapes Go.ChangeAt Go.RowKit
section
variable {P:Program} {t e:TypeId} {d:Dt}
theorem Ty.inv_int {k:IntKind} (hu:P.underlying t=some (.int k)) (h:Ty P t d):∃n,d=.int k n∧(Lit.int k n).wf=true:=by
 cases h with
 |int h hw=>rw[hu] at h;cases h;exact⟨_,rfl,hw⟩
 |bool h=>rw[hu] at h;cases h
 |str h=>rw[hu] at h;cases h
 |sl h=>rw[hu] at h;cases h
 |st h=>rw[hu] at h;cases h
 |arr h=>rw[hu] at h;cases h
theorem Ty.inv_u8 (hu:P.underlying t=some (.int .u8)) (h:Ty P t d):∃x,d=dU8 x:=by
 obtain⟨n,rfl,hw⟩:=h.inv_int hu
 obtain⟨x,rfl⟩:=GH hw
 exact⟨x,rfl⟩
theorem AW {α:Type} {f:α→Dt}:∀(l:List Dt),(∀d∈l,∃x,d=f x)→∃m:List α,l=m.map f
 |[],_=>⟨[],rfl⟩
 |d::l,h=>by
  obtain⟨x,rfl⟩:=h d (by simp)
  obtain⟨m,rfl⟩:=AW l fun e he=>h e (by simp[he])
  exact⟨x::m,rfl⟩
theorem Ty.inv_arr {α:Type} {f:α→Dt} {n:Nat} (hu:P.underlying t=some (.array n e)) (he:∀x,Ty P e x→∃y,x=f y) (h:Ty P t d):∃l:List α,d=.st (l.map f)∧l.length=n:=by
 cases h with
 |int h hw=>rw[hu] at h;cases h
 |bool h=>rw[hu] at h;cases h
 |str h=>rw[hu] at h;cases h
 |sl h=>rw[hu] at h;cases h
 |st h=>rw[hu] at h;cases h
 |arr h h1 h2=>
  rw[hu] at h;cases h
  obtain⟨m,rfl⟩:=AW _ fun x hx=>he x (h2 x hx)
  exact⟨m,rfl,by simpa using h1⟩
def js (l:List UInt32):Dt:=.sl (l.map tG)
theorem Rp.wds {w:World} {l:List UInt32} {v:Value}:Rp w (js l) [v]↔bt l v w:=Rp.words
end
section
variable {P:Program} {H:Type} {enc:TypeId×Value→H} {W:World} {base:Nat} {spare:Nat→Bool} {held:Bool} {r:Reach} {b0:Nat} {v:Value} {d:DataW H} {ps:List MemPlace} {t e:TypeId}
theorem Hf {ts:List TypeId} (hc:AQ P ts=true) (ht:ts.contains t=true) (h:DataW.Trod enc P W base spare held t v d ps):Rp W (gc d) v.cells.toList∧Ty P t (gc d):=by
 obtain⟨fuel,hf⟩:=h
 exact tX hc fuel t _ (d,ps) (by simpa using ht) hf
end
end Go.Rl
namespace Go.Rl
def val:List UInt32→Nat
 |[]=>0
 |x::l=>x.toNat+4294967296*val l
def tr:List UInt32→List UInt32
 |[]=>[]
 |x::l=>match tr l with
  |[]=>if x=0 then[] else[x]
  |y::m=>x::y::m
def FW:Nat→Nat→List UInt32
 |0,_=>[]
 |f+1,n=>if n=0 then[] else UInt32.ofNat (n%4294967296)::FW f (n/4294967296)
def lb (n:Nat):List UInt32:=FW n n
theorem DP:∀(f g n:Nat),n≤f→n≤g→FW f n=FW g n
 |0,0,n,_,_=>rfl
 |0,g+1,n,h,_=>by simp[FW,show n=0 by omega]
 |f+1,0,n,_,h=>by simp[FW,show n=0 by omega]
 |f+1,g+1,n,h1,h2=>by
  simp only[FW]
  split
  ·rfl
  ·rw[DP f g (n/4294967296) (by omega) (by omega)]
theorem fO:lb 0=[]:=rfl
theorem nu {n:Nat} (h:0<n):lb n=UInt32.ofNat (n%4294967296)::lb (n/4294967296):=by
 obtain⟨m,rfl⟩:∃m,n=m+1:=⟨n-1,by omega⟩
 show FW (m+1) (m+1)=_
 simp only[FW]
 rw[if_neg (by omega),DP m ((m+1)/4294967296) _ (by omega) (Nat.le_refl _)]
 rfl
theorem cO (x:UInt32):x.toNat<4294967296:=x.toNat_lt
theorem po {n:Nat} (h:n<4294967296):(UInt32.ofNat n).toNat=n:=by rw[UInt32.toNat_ofNat'];omega
theorem jJ {x y:UInt32} (h:x.toNat=y.toNat):x=y:=UInt32.toNat_inj.1 h
theorem Hg {x:UInt32} (h:x≠0):0<x.toNat:=by
 rcases Nat.eq_zero_or_pos x.toNat with h0|h0
 ·exact absurd (jJ (y:=0) h0) h
 ·exact h0
theorem bJ (n:Nat):val (lb n)=n:=by
 induction n using Nat.strongRecOn with
 |ind n ih=>
  rcases Nat.eq_zero_or_pos n with rfl|h
  ·rfl
  ·rw[nu h,val,ih _ (by omega),po (by omega)]
   omega
theorem en:∀(l m:List UInt32),val (l++m)=val l+4294967296^l.length*val m
 |[],m=>by simp[val]
 |x::l,m=>by
  rw[List.cons_append,val,en l m,val,List.length_cons,Nat.pow_succ,Nat.mul_add,←Nat.mul_assoc,Nat.mul_comm (4294967296^l.length),Nat.add_assoc]
theorem cr:∀(l:List UInt32),val l<4294967296^l.length
 |[]=>by simp[val]
 |x::l=>by
  have:=cr l
  have hx:=cO x
  rw[val,List.length_cons,Nat.pow_succ]
  have:4294967296*(val l+1)≤4294967296*4294967296^l.length:=Nat.mul_le_mul_left _ this
  rw[Nat.mul_comm (4294967296^l.length)]
  omega
theorem pp (n:Nat):val (List.replicate n 0)=0:=by
 induction n with
 |zero=>rfl
 |succ n ih=>rw[List.replicate_succ,val,ih];rfl
theorem kP (x:UInt32):val [x]=x.toNat:=by simp[val]
theorem bN {l:List UInt32} {i:Nat} (h:i<l.length):val (l.take (i+1))=val (l.take i)+4294967296^i*l[i].toNat:=by
 rw[List.take_succ_eq_append_getElem h,en,kP,List.length_take,Nat.min_eq_left (by omega)]
theorem eD {l:List UInt32} {i:Nat} (h:i<l.length):val (l.drop i)=l[i].toNat+4294967296*val (l.drop (i+1)):=by
 rw[List.drop_eq_getElem_cons h,val]
theorem d6 (l:List UInt32) (i:Nat) (h:i≤l.length):val l=val (l.take i)+4294967296^i*val (l.drop i):=by
 conv=>lhs;rw[←List.take_append_drop i l]
 rw[en,List.length_take,Nat.min_eq_left h]
theorem DQ:∀(l:List UInt32),val (tr l)=val l
 |[]=>rfl
 |x::l=>by
  have ih:=DQ l
  rw[tr]
  split
  ·rename_i h
   rw[h] at ih
   split
   ·rename_i hx;subst hx;simp[val,←ih]
   ·simp[val,←ih]
  ·rename_i y m h
   rw[h] at ih
   rw[val,ih,val]
theorem GI:∀(l:List UInt32),tr l=lb (val l)
 |[]=>rfl
 |x::l=>by
  have ih:=GI l
  have hx:=cO x
  rw[tr,val]
  rcases Nat.eq_zero_or_pos (val l) with h|h
  ·rw[h,fO] at ih
   rw[ih,h,Nat.mul_zero,Nat.add_zero]
   by_cases h0:x=0
   ·subst h0;simp[fO]
   ·have:=Hg h0
    have e:UInt32.ofNat x.toNat=x:=jJ (by rw[po hx])
    simp only[if_neg h0]
    rw[nu this,Nat.mod_eq_of_lt hx,Nat.div_eq_of_lt hx,fO,e]
  ·rw[nu (n:=x.toNat+4294967296*val l) (by omega),Nat.add_mul_mod_self_left,Nat.add_mul_div_left _ _ (by omega),Nat.div_eq_of_lt hx,Nat.zero_add,Nat.mod_eq_of_lt hx,←ih]
   have hne:tr l≠[]:=fun h0=>by
    have:=DQ l
    rw[h0,val] at this
    omega
   split
   ·rename_i h0;exact absurd h0 hne
   ·rename_i y m h0
    rw[h0]
    congr 1
    exact jJ (by rw[po hx])
theorem AX {x:UInt32} (h:x≠0):∀(l:List UInt32),tr (l++[x])=l++[x]
 |[]=>by simp[tr,h]
 |y::l=>by
  rw[List.cons_append,tr,AX h l]
  cases l<;>rfl
theorem gu {n k:Nat} (h:n<4294967296^k):(lb n).length≤k:=by
 induction k generalizing n with
 |zero=>have:n=0:=by simpa using h
        subst this;simp[fO]
 |succ k ih=>
  rcases Nat.eq_zero_or_pos n with rfl|h0
  ·simp[fO]
  ·rw[nu h0,List.length_cons]
   have:n/4294967296<4294967296^k:=by
    rw[Nat.div_lt_iff_lt_mul (by omega),←Nat.pow_succ];exact h
   have:=ih this
   omega
theorem AY {n:Nat} (h:0<n):4294967296^((lb n).length-1)≤n:=by
 induction n using Nat.strongRecOn with
 |ind n ih=>
  rw[nu h,List.length_cons,Nat.add_sub_cancel]
  rcases Nat.eq_zero_or_pos (n/4294967296) with h0|h0
  ·rw[h0,fO];exact h
  ·have h1:=ih (n/4294967296) (by omega) h0
   have h2:0<(lb (n/4294967296)).length:=by rw[nu h0];simp
   obtain⟨k,hk⟩:∃k,(lb (n/4294967296)).length=k+1:=⟨_,(Nat.sub_add_cancel h2).symm⟩
   rw[hk,Nat.add_sub_cancel] at h1
   rw[hk,Nat.pow_succ]
   omega
theorem gb {n:Nat}:(lb n).length=0↔n=0:=by
 constructor
 ·intro h
  rcases Nat.eq_zero_or_pos n with h0|h0
  ·exact h0
  ·rw[nu h0] at h;simp at h
 ·rintro rfl;rfl
theorem DR {n m:Nat} (h:lb n=lb m):n=m:=by rw[←bJ n,←bJ m,h]
theorem vw {n m:Nat} (h:(lb n).length<(lb m).length):n<m:=by
 have h1:=cr (lb n)
 rw[bJ] at h1
 have hm:0<m:=by
  rcases Nat.eq_zero_or_pos m with rfl|h0
  ·simp[fO] at h
  ·exact h0
 have h2:=AY hm
 exact Nat.lt_of_lt_of_le h1 (Nat.le_trans (Nat.pow_le_pow_right (by omega) (by omega)) h2)
theorem vy {n i:Nat} (h:i+1=(lb n).length):0<((lb n)[i]'(by omega)).toNat:=by
 have hn:0<n:=by
  rcases Nat.eq_zero_or_pos n with h0|h0
  ·subst h0;simp[fO] at h
  ·exact h0
 have h1:=AY hn
 have h2:val (lb n)=val ((lb n).take i)+4294967296^i*((lb n)[i]'(by omega)).toNat:=by
  rw[←bN (by omega),h,List.take_length]
 rw[bJ] at h2
 have h3:=cr ((lb n).take i)
 rw[List.length_take,Nat.min_eq_left (by omega)] at h3
 rw[←h,Nat.add_sub_cancel] at h1
 rcases Nat.eq_zero_or_pos ((lb n)[i]'(by omega)).toNat with h0|h0
 ·rw[h0] at h2;omega
 ·exact h0
def pq (x y:Nat):Int:=if x<y then-1 else if y<x then 1 else 0
theorem AZ {l m:List UInt32} {i:Nat} (hl:i<l.length) (hm:i<m.length) (hd:l.drop (i+1)=m.drop (i+1)) (h:l[i].toNat<m[i].toNat):val l<val m:=by
 rw[d6 l (i+1) (by omega),d6 m (i+1) (by omega),hd,bN hl,bN hm]
 have h1:=cr (l.take i)
 rw[List.length_take,Nat.min_eq_left (by omega)] at h1
 have h2:4294967296^i*(l[i].toNat+1)≤4294967296^i*m[i].toNat:=Nat.mul_le_mul_left _ h
 rw[Nat.mul_add,Nat.mul_one] at h2
 omega
theorem H9 (i:Nat):0<4294967296^i:=Nat.pow_pos (by omega)
end Go.Rl
namespace Go.Rl
open Go.RowKit Go.Proofs
section
variable {w:World} {t:TypeId}
theorem DS (ht:Tryz.prog.underlying t=some (.slice 111)) {l:List UInt32} {v:Value} (h:bt l v w) {lo:Nat} (h2:lo≤l.length) (kl:IntKind):
 ∃r,(∀w':World,(Instr.sliceAt t v (some (.int kl lo)) none none).run Tryz.prog w'=.ok r w')∧bt (l.drop lo) r w:=by
 obtain⟨r,h3,h4⟩:=ry (P:=Tryz.prog) ht dU h (lo:=lo) (by simpa using h2) (by omega) kl
 exact⟨r,h3,by simpa [bt,List.map_drop] using h4⟩
theorem rE (ht:Tryz.prog.underlying t=some (.slice 111)) {l:List UInt32} {v:Value} (h:bt l v w) {hi:Nat} (h2:hi≤l.length) (kh:IntKind):
 ∃r,(∀w':World,(Instr.sliceAt t v none (some (.int kh hi)) none).run Tryz.prog w'=.ok r w')∧bt (l.take hi) r w:=by
 obtain⟨r,h3,h4⟩:=rz (P:=Tryz.prog) ht dU h (hi:=hi) (by simpa using h2) (by omega) kh
 exact⟨r,h3,by simpa [bt,List.map_take] using h4⟩
theorem tZ (ht:Tryz.prog.underlying t=some (.slice 111)) (base:Nat) {n:Nat} (hn:n≤70368744177664) (hb:base≤w.heap.size):
 ∃r w',(Instr.makeSlice t (I (n:Int)) (I (n:Int))).run Tryz.prog w=.ok r w'∧aM w w'∧dK base (List.replicate n 0) r w'∧r.ownBlock=some w.heap.size:=by
 obtain⟨i,hi,hz,hs,hby⟩:=info_parts rC
 have hrun:=run_make (P:=Tryz.prog) w t 111 i _ ht hi hz .i64 .i64 (n:Int) (n:Int) (by omega) (by omega) (by rw[hby];omega) (by omega)
 refine⟨_,_,hrun,aM.new _ _,⟨n,?_⟩,rfl⟩
 have:=World.ownsRow_lit (base:=base) (e:=111) (size:=1) w (madeCells (Value.int .u32 0).cells ((n:Int).toNat*i.size)) n hb (by unfold maxLen;omega) (by rw[hs];simp[madeCells])
 have e:(madeCells (Value.int .u32 0).cells ((n:Int).toNat*i.size)).toList=(List.replicate n (0:UInt32)).map bw:=by
  rw[hs]
  have h2:=toList_madeCells_one (.int .u32 0) n
  simp only[Value.cells,Int.toNat_natCast,Nat.mul_one,List.map_replicate] at h2⊢
  rw[h2];rfl
 rw[e] at this
 simpa using this
theorem dK.setW (ht:Tryz.prog.underlying t=some (.slice 111)) {base:Nat} {l:List UInt32} {v:Value} (h:dK base l v w) {i:Nat} (hi:i<l.length) (x:UInt32):
 ∃g w',(∀u:World,(Instr.indexAt t v (I (i:Int))).run Tryz.prog u=.ok (.pointer (some ⟨g,i,none⟩)) u)∧(Instr.storeAt 111 (.pointer (some ⟨g,i,none⟩)) (bw x)).run Tryz.prog w=.ok () w'∧
  dK base (l.set i x) v w'∧w.grownBy w' (some g)∧base≤g∧w.cell? ⟨g,i,none⟩=some (bw l[i])∧v.ownBlock=some g:=by
 obtain⟨n,hn⟩:=id h
 have hnl:l.length=n:=by simpa using hn.1
 obtain⟨ad,hix,hcell⟩:=cL ht h.wds hi .i64
 rcases hn.2 with⟨_,h0⟩|⟨g,cap,cur,rfl,hb,hg,hnc,hcm,hcs,htk⟩
 ·omega
 ·have hlt:i<cur.size:=by omega
  have had:ad=⟨g,i,none⟩:=by
   have h1:=hix w
   obtain⟨ti,hi',hs⟩:=Option.map_eq_some_iff.1 dU
   have hin:i<n:=by omega
   have h2:(Instr.indexAt t (.slice (some ⟨g,0,none⟩) n cap) (.int .i64 i)).run Tryz.prog w=.ok (.pointer (some ⟨g,i,none⟩)) w:=by
    simp[Instr.indexAt,asIntOf,run_underlying ht,hin,sizeOf,typeInfo,hi',hs,ph]
   rw[h2] at h1
   simp at h1
   exact h1.symm
  subst had
  refine⟨g,w.setCell ⟨g,i,none⟩ (bw x),hix,dm dU Jg hg hlt,⟨n,?_,.inr ⟨g,cap,cur.setIfInBounds i (bw x),rfl,hb,j0 hg i (bw x),hnc,hcm,by simpa using hcs,?_⟩⟩,aY w g i _,hb,hcell,rfl⟩
  ·simpa using hnl
  ·rw[List.map_set,←htk,Array.toList_setIfInBounds,List.take_set]
theorem dK.kept {base:Nat} {l:List UInt32} {v:Value} {w':World} (h:dK base l v w) {row:Option Nat} (hg:w.grownBy w' row) (hne:v.ownBlock=none∨v.ownBlock≠row):dK base l v w':=
 h.elim fun n h=>⟨n,World.ownsRow.kept h hg hne⟩
theorem dK.ge {base:Nat} {l:List UInt32} {v:Value} (h:dK base l v w):∀k,v.ownBlock=some k→base≤k:=fun k hk=>h.elim fun _ h=>(World.ownsRow.lt h k hk).1
theorem dK.lt {base:Nat} {l:List UInt32} {v:Value} (h:dK base l v w):∀k,v.ownBlock=some k→k<w.heap.size:=fun k hk=>h.elim fun _ h=>(World.ownsRow.lt h k hk).2
theorem BT {P:Program} {w:World} {t t2 e e2 ty:TypeId} (ht:P.underlying t=some (.slice e)) (ht2:P.underlying t2=some (.slice e2)) (a b:Value):(Builtin.append_ #[t,t2] ty #[a,b]).run P w=(Builtin.append_ #[t,t] ty #[a,b]).run P w:=by
 unfold Builtin.append_
 cases a<;>simp[Sem.run_bind,run_underlying ht,run_underlying ht2]
theorem A0 {base:Nat} {t2:TypeId} (ht:Tryz.prog.underlying t=some (.slice 111)) (ht2:Tryz.prog.underlying t2=some (.slice 111)) {l m:List UInt32} {v x:Value} {ty:TypeId} (hv:dK base l v w) (hx:bt m x w) (hb:l.length+m.length≤35184372088832) (hbase:base≤w.heap.size):
 ∃r w',(Builtin.append_ #[t,t2] ty #[v,x]).run Tryz.prog w=.ok r w'∧dK base (l++m) r w'∧gJ w w' v r:=by
 obtain⟨r,w',h1,h2⟩:=jo (ty:=ty) ht hv hx hb hbase
 exact⟨r,w',(BT ht ht2 v x).trans h1,h2⟩
theorem FX {P:Program} {t ty:TypeId} {a b:Nat}:(Builtin.max_ #[t,t] ty #[I (a:Int),I (b:Int)]).run P w=.ok (I ((max a b:Nat):Int)) w:=by
 have:(Builtin.max_ #[t,t] ty #[I (a:Int),I (b:Int)])=pure (.int .i64 (if (b:Int)>(a:Int) then(b:Int) else(a:Int))):=rfl
 rw[this,Sem.run_pure]
 congr 2
 split<;>omega
structure PW (g:Nat) (pre:List Value) (L:List UInt32) (post:List Value) (v:Value) (w:World):Prop where
 isv:∃c,v=.slice (some ⟨g,pre.length,none⟩) L.length c∧L.length≤c∧c≤maxLen
 row:w.heap[g]? =some (.cells (pre++(L.map bw++post)).toArray 111 (0,0))
theorem PW.cell {g:Nat} {pre:List Value} {L:List UInt32} {post:List Value} {v:Value} (h:PW g pre L post v w) {i:Nat} (hi:i<L.length):w.cell? ⟨g,pre.length+i,none⟩=some (bw L[i]):=by
 rw[cell_of_row w g _ _ _ _ h.row,List.getElem?_toArray,List.getElem?_append_right (by omega),Nat.add_sub_cancel_left,List.getElem?_append_left (by simpa using hi),List.getElem?_map,List.getElem?_eq_getElem hi]
 rfl
theorem PW.wds {g:Nat} {pre:List Value} {L:List UInt32} {post:List Value} {v:Value} (h:PW g pre L post v w):bt L v w:=by
 obtain⟨c,rfl,h1,h2⟩:=h.isv
 refine⟨_,_,_,rfl,h1,h2,by simp,fun _=>⟨_,rfl,fun j u hu=>?_⟩,fun h=>by cases h⟩
 rw[List.getElem?_map,Option.map_eq_some_iff] at hu
 obtain⟨x,hx,rfl⟩:=hu
 obtain⟨hj,rfl⟩:=List.getElem?_eq_some_iff.1 hx
 rw[ph]
 exact h.cell hj
theorem PW.setP (ht:Tryz.prog.underlying t=some (.slice 111)) {g:Nat} {pre:List Value} {L:List UInt32} {post:List Value} {v:Value} (h:PW g pre L post v w) {i:Nat} (hi:i<L.length) (x:UInt32):
 ∃w',(∀u:World,(Instr.indexAt t v (I (i:Int))).run Tryz.prog u=.ok (.pointer (some ⟨g,pre.length+i,none⟩)) u)∧(Instr.storeAt 111 (.pointer (some ⟨g,pre.length+i,none⟩)) (bw x)).run Tryz.prog w=.ok () w'∧
  PW g pre (L.set i x) post v w'∧w.grownBy w' (some g)∧w.cell? ⟨g,pre.length+i,none⟩=some (bw L[i]):=by
 obtain⟨c,rfl,h1,h2⟩:=h.isv
 obtain⟨ti,hti,hs⟩:=Option.map_eq_some_iff.1 dU
 refine⟨w.setCell ⟨g,pre.length+i,none⟩ (bw x),fun u=>?_,dm dU Jg h.row (by simp;omega),⟨⟨c,by simp,by simpa using h1,h2⟩,?_⟩,aY w g _ _,h.cell hi⟩
 ·show(Instr.indexAt t (.slice (some ⟨g,pre.length,none⟩) L.length c) (.int .i64 (i:Int))).run Tryz.prog u=_
  simp[Instr.indexAt,asIntOf,run_underlying ht,hi,sizeOf,typeInfo,hti,hs,ph]
 ·have:=j0 h.row (pre.length+i) (bw x)
  rw[this,List.setIfInBounds_toArray,List.set_append_right _ _ (by omega),Nat.add_sub_cancel_left,List.set_append_left _ _ (by simpa using hi),List.map_set]
theorem bt.away {l:List UInt32} {v:Value} {g:Nat} {w':World} (h:bt l v w) (ha:v.ownBlock=none∨v.ownBlock≠some g) (hg:w.grownBy w' (some g)):bt l v w':=by
 obtain⟨A,n,c,rfl,h1,h2,h3,h4,h5⟩:=h
 refine⟨A,n,c,rfl,h1,h2,h3,fun hn=>?_,h5⟩
 obtain⟨ad,rfl,hc⟩:=h4 hn
 refine⟨ad,rfl,fun j u hu=>?_⟩
 have hcell:=hc j u hu
 have hb:ad.block≠g:=by
  rcases ha with ha|ha
  ·simp[Value.ownBlock] at ha
  ·intro e;exact ha (by simp[Value.ownBlock,e])
 have hlt:=World.block_lt_of_cell? w (ad.add j) hcell
 refine(World.cell?_of_block (hg.block _ hlt fun e=>hb ?_)).trans hcell
 rw[je] at e
 exact Option.some.inj e
theorem t0 (ht:Tryz.prog.underlying t=some (.slice 111)) {l:List UInt32} {v:Value} (h:bt l v w) {hi:Nat} (h2:hi≤l.length) (kh:IntKind):
 ∃r,(∀w':World,(Instr.sliceAt t v none (some (.int kh hi)) none).run Tryz.prog w'=.ok r w')∧bt (l.take hi) r w∧r.ownBlock=v.ownBlock:=by
 obtain⟨r,h3,h4⟩:=rE ht h h2 kh
 refine⟨r,h3,h4,?_⟩
 obtain⟨A,n,c,rfl,hnc,_,hl,_,_⟩:=h
 have h5:=h3 w
 obtain⟨ti,hti,hs⟩:=Option.map_eq_some_iff.1 dU
 have hhi:hi≤n:=by simp at hl;omega
 have hb:(Instr.sliceBounds true n c none (some (.int kh hi)) none).run Tryz.prog w=.ok (0,hi,c) w:=by
  have a1:=run_sliceBound (P:=Tryz.prog) (w:=w) kh (hi:Int) c .sliceAcap (by omega) (by omega)
  simp only[Int.toNat_natCast] at a1
  simp[Instr.sliceBounds,a1]
 simp[Instr.sliceAt,Instr.slice,run_underlying ht,hb,sizeOf,typeInfo,hti,hs] at h5
 subst h5
 cases A with
 |none=>split<;>rfl
 |some a=>split<;>simp[Value.ownBlock,je]
theorem dK.off {base:Nat} {l:List UInt32} {v:Value} (h:dK base l v w) {g:Nat} (hg:g<base):v.ownBlock≠some g:=fun he=>by
 have:=h.ge g he
 omega
theorem dK.low {base base':Nat} {l:List UInt32} {v:Value} (h:dK base l v w) (hb:base'≤base):dK base' l v w:=h.elim fun n h=>⟨n,iX h fun k hk=>Nat.le_trans hb (World.ownsRow.lt h k hk).1⟩
theorem dK.pw {base:Nat} {L:List UInt32} {v:Value} (h:dK base L v w) (h0:0<L.length):∃g sp,base≤g∧v.ownBlock=some g∧PW g [] L sp v w:=by
 obtain⟨n,h⟩:=h
 have hnl:L.length=n:=by simpa using h.1
 rcases h.2 with⟨_,h1⟩|⟨g,cap,cur,rfl,hb,hg,hnc,hcm,hcs,htk⟩
 ·omega
 ·refine⟨g,cur.toList.drop (n*1),hb,rfl,⟨cap,by rw[hnl];rfl,by omega,hcm⟩,?_⟩
  rw[List.nil_append,←htk,List.take_append_drop]
  exact hg
theorem PW.ext {g:Nat} {pre:List Value} {L:List UInt32} {post:List Value} {v:Value} {w':World} (h:PW g pre L post v w) (hx:aM w w'):PW g pre L post v w':=⟨h.isv,hx.heap_some h.row⟩
theorem PW.lt {g:Nat} {pre:List Value} {L:List UInt32} {post:List Value} {v:Value} (h:PW g pre L post v w):g<w.heap.size:=(Array.getElem?_eq_some_iff.1 h.row).1
theorem PW.kept {g:Nat} {pre:List Value} {L:List UInt32} {post:List Value} {v:Value} {w':World} (h:PW g pre L post v w) {row:Option Nat} (hg:w.grownBy w' row) (hne:some g≠row):PW g pre L post v w':=⟨h.isv,(hg.block g h.lt hne).trans h.row⟩
theorem Hh (ht:Tryz.prog.underlying t=some (.slice 111)) {g:Nat} {L:List UInt32} {sp:List Value} {v:Value} (h:PW g [] L sp v w) {lo hi:Nat} (h1:lo<hi) (h2:hi≤L.length) (kl kh:IntKind):
 ∃r,(∀w':World,(Instr.sliceAt t v (some (.int kl lo)) (some (.int kh hi)) none).run Tryz.prog w'=.ok r w')∧PW g ((L.take lo).map bw) ((L.take hi).drop lo) ((L.drop hi).map bw++sp) r w:=by
 obtain⟨c,rfl,h3,h4⟩:=h.isv
 obtain⟨i,hi',hs⟩:=Option.map_eq_some_iff.1 dU
 have hb:∀w:World,(Instr.sliceBounds true L.length c (some (.int kl lo)) (some (.int kh hi)) none).run Tryz.prog w=.ok (lo,hi,c) w:=fun w=>by
  have a1:=run_sliceBound (P:=Tryz.prog) (w:=w) kh (hi:Int) c .sliceAcap (by omega) (by omega)
  have a2:=run_sliceBound (P:=Tryz.prog) (w:=w) kl (lo:Int) hi .sliceB (by omega) (by omega)
  simp only[Int.toNat_natCast] at a1 a2
  simp[Instr.sliceBounds,a1,a2]
 have hne:¬c=lo:=by omega
 refine⟨.slice (some ⟨g,lo,none⟩) (hi-lo) (c-lo),fun w'=>?_,⟨c-lo,?_,?_,by omega⟩,?_⟩
 ·simp[Instr.sliceAt,Instr.slice,run_underlying ht,hb,sizeOf,typeInfo,hi',hs,hne,ph]
 ·simp only[List.length_map,List.length_take,List.length_drop,Nat.min_eq_left h2,Nat.min_eq_left (show lo≤L.length by omega)]
 ·simp only[List.length_take,List.length_drop,Nat.min_eq_left h2];omega
 ·have e:L.take lo++(L.take hi).drop lo=L.take hi:=by
   have:=List.take_append_drop lo (L.take hi)
   rwa [List.take_take,Nat.min_eq_left (by omega)] at this
  have e2:([]:List Value)++(L.map bw++sp)=(L.take lo).map bw++(((L.take hi).drop lo).map bw++((L.drop hi).map bw++sp)):=by
   rw[List.nil_append,←List.append_assoc,←List.append_assoc,←List.map_append,←List.map_append,e,List.take_append_drop]
  rw[h.row,e2]
theorem PW.join {g:Nat} {L F:List UInt32} {sp:List Value} {v r:Value} {lo hi:Nat} {w0:World} (h:PW g [] L sp v w0) (h1:lo≤hi) (h2:hi≤L.length) (hF:F.length=hi-lo) (h3:PW g ((L.take lo).map bw) F ((L.drop hi).map bw++sp) r w):PW g [] (L.take lo++F++L.drop hi) sp v w:=by
 obtain⟨c,rfl,h4,h5⟩:=h.isv
 have e:(L.take lo++F++L.drop hi).length=L.length:=by simp[hF];omega
 refine⟨⟨c,by rw[e],by omega,h5⟩,?_⟩
 rw[h3.row]
 simp only[List.nil_append,List.map_append,List.append_assoc]
end
end Go.Rl
namespace Go.Rl
open Go.RowKit Go.Proofs
theorem dF:az Tryz.prog 173:=⟨_,Tryz.func173,by kernel_rfl,rfl⟩
theorem xm:az Tryz.prog 202:=⟨_,Tryz.func202,by kernel_rfl,rfl⟩
theorem kQ:az Tryz.prog 187:=⟨_,Tryz.func187,by kernel_rfl,rfl⟩
theorem p7:az Tryz.prog 139:=⟨_,Tryz.func139,by kernel_rfl,rfl⟩
theorem xn:az Tryz.prog 204:=⟨_,Tryz.func204,by kernel_rfl,rfl⟩
theorem rF:az Tryz.prog 203:=⟨_,Tryz.func203,by kernel_rfl,rfl⟩
theorem pr:az Tryz.prog 141:=⟨_,Tryz.func141,by kernel_rfl,rfl⟩
theorem pt {l:List UInt32} {n:Nat} (h0:0<n) (hn:n≤l.length) (h:l[n-1]'(by omega)=0):val (l.take (n-1))=val (l.take n):=by
 obtain⟨m,rfl⟩:∃m,n=m+1:=⟨n-1,by omega⟩
 simp only[Nat.add_sub_cancel] at h⊢
 rw[bN (by omega),h];simp
theorem j6 {l:List UInt32} {n:Nat} (h0:0<n) (hn:n≤l.length) (h:¬l[n-1]'(by omega)=0):lb (val (l.take n))=l.take n:=by
 obtain⟨m,rfl⟩:∃m,n=m+1:=⟨n-1,by omega⟩
 simp only[Nat.add_sub_cancel] at h
 rw[←GI,List.take_succ_eq_append_getElem (by omega),AX h]
theorem oz {l:List UInt32} (h0:0<l.length):l[l.length-1]'(by omega)≠0↔lb (val l)=l:=by
 constructor
 ·intro h
  have:=j6 (n:=l.length) h0 (Nat.le_refl _) h
  rwa [List.take_length] at this
 ·intro h h1
  have h2:=pt (n:=l.length) h0 (Nat.le_refl _) h1
  rw[List.take_length] at h2
  have h3:(lb (val l)).length≤l.length-1:=by
   refine gu ?_
   rw[←h2]
   have:=cr (l.take (l.length-1))
   rwa [List.length_take,Nat.min_eq_left (by omega)] at this
  rw[h] at h3
  omega
theorem t5 (x:UInt64):(x>>>UInt64.ofNat 32).toNat=x.toNat/4294967296:=by
 rw[UInt64.toNat_shiftRight]
 show x.toNat>>>32=_
 rw[Nat.shiftRight_eq_div_pow]
theorem rG {w:World} {l:List UInt32} {v:Value} (hv:bt l v w):
 Calls Tryz.prog 173 #[v] w (bF fun r w'=>w=w'∧bt (lb (val l)) r w∧(r.ownBlock=none∨r.ownBlock=v.ownBlock)):=by
 refine enter (vs:=[v]) Tryz.func173 Jg Jg Jg ?_
 have hl:=hv.len
 refine af (aa (ab Jg Jg (ag (ac (af (aa (ae Jg Jg (aP Jg Jg (bp IJ hv) (ab Jg Jg (ag (ac ?_)))))))))))
 refine af (ax ?_)
 refine bV (α:=Nat) (fun n=>[(0,v),(3,I (n:Int))]) (fun n w'=>w=w'∧n≤l.length∧val (l.take n)=val l) (fun n=>n) (l.length) ⟨rfl,rfl,trivial⟩ ⟨rfl,Nat.le_refl _,by rw[List.take_length]⟩ ?_
 rintro n _ ⟨rfl,hn,hval⟩
 refine af (af (aa (ae Jg Jg (ai Jg Jg Jg (ce) (ae Jg Jg ?_)))))
 refine cJ (fun h8=>?_) (fun h8=>?_)
 ·refine al Jg (ae Jg Jg (al Jg (ae Jg Jg (al Jg (ai (r:=I ((n-1:Nat):Int)) Jg Jg Jg (by have e:((n-1:Nat):Int)=(n:Int)-1:=(by omega);rw[e];exact bb (by omega) (by omega)) ?_)))))
  refine al Jg ?_
  obtain⟨a12,p12,q12⟩:=cL IJ hv (i:=(n-1:Nat)) (by omega) .i64
  refine aB Jg Jg Jg (p12 _) (al Jg (am Jg Jg (ak IK Jg q12) (al Jg (ai (v:=bw 0) Jg Jg Jg (j2) (aw Jg Jg Jg ?_)))))
  refine ag (ac ?_)
  refine bi Jg (fun h15=>?_) (fun h15=>?_)
  ·refine aq (ac (ax (aa (ae Jg Jg (ai (r:=I ((n-1:Nat):Int)) Jg Jg Jg (by have e:((n-1:Nat):Int)=(n:Int)-1:=(by omega);rw[e];exact bb (by omega) (by omega)) ?_)))))
   refine ab Jg Jg (ag (aJ ?_))
   refine bM (n-1) ⟨rfl,rfl,trivial⟩ ⟨rfl,by omega,by rw[pt (by omega) hn h15];exact hval⟩ (by omega)
  ·refine aW (aA (aA (aU (ac (af (af (aa (ae Jg Jg (ai Jg Jg Jg (aV) (ag (ac ?_)))))))))))
   refine bi Jg (fun h19=>?_) (fun h19=>?_)
   ·refine af (aa (ab Jg Jg (ag (ac (au (av (aF Jg Jg ?_)))))))
    exact⟨_,rfl,rfl,by
     obtain rfl:n=0:=by omega
     rw[←hval];exact bt.nil _,.inl rfl⟩
   ·refine aq (ac (af (aa (ae Jg Jg (ae Jg Jg ?_)))))
    obtain⟨v22,p22,b22,ob22⟩:=t0 IJ hv (hi:=n) hn .i64
    refine cu Jg Jg Jg Jg Jg (p22 _) (ab Jg Jg (ag (ac (au (aF Jg Jg ?_)))))
    exact⟨_,rfl,rfl,by
     first
     |(exfalso;omega)
     |(rw[←hval,j6 (by omega) hn h15];exact b22),.inr ob22⟩
 ·refine ao Jg Jg Jg (ao Jg Jg Jg (ao Jg Jg Jg (ao Jg Jg Jg (ao Jg Jg Jg (ao Jg Jg Jg (aC Jg Jg Jg (ag (ac (cq Jg (aW (aA (aA ?_))))))))))))
  refine aU (ac (af (af (aa (ae Jg Jg (ai Jg Jg Jg (aV) (ag (ac ?_))))))))
  refine bi Jg (fun h19=>?_) (fun h19=>?_)
  ·refine af (aa (ab Jg Jg (ag (ac (au (av (aF Jg Jg ?_)))))))
   exact⟨_,rfl,rfl,by
    obtain rfl:n=0:=by omega
    rw[←hval];exact bt.nil _,.inl rfl⟩
  ·refine aq (ac (af (aa (ae Jg Jg (ae Jg Jg ?_)))))
   obtain⟨v22,p22,b22,ob22⟩:=t0 IJ hv (hi:=n) hn .i64
   refine cu Jg Jg Jg Jg Jg (p22 _) (ab Jg Jg (ag (ac (au (aF Jg Jg ?_)))))
   exact⟨_,rfl,rfl,by
    first
    |(exfalso;omega)
    |(rw[←hval,j6 (by omega) hn h15];exact b22),.inr ob22⟩
theorem dQ {w:World} {l:List UInt32} {v:Value} (hv:bt l v w):
 Calls Tryz.prog 173 #[v] w (bF fun r w'=>w=w'∧bt (lb (val l)) r w):=
 (rG hv).mono fun _ _ ⟨r,he,h1,h2,_⟩=>⟨r,he,h1,h2⟩
theorem xo {w:World} {l:List UInt32} {v:Value} (hv:bt l v w) (hl:l.length≤17592186044416):
 Calls Tryz.prog 202 #[v] w (bF fun r w'=>aM w w'∧dK w.heap.size l r w'):=by
 obtain⟨A,n,c,rfl,hnc,hcm,hll,hc,hnone⟩:=id hv
 refine enter (vs:=[.slice A n c]) Tryz.func202 Jg Jg Jg ?_
 refine af (aa (ab Jg Jg (ag (ac (af (af (aa (ae Jg Jg (ai Jg Jg Jg (AO IJ) (ag (ac ?_)))))))))))
 refine gZ Jg (fun h4=>?_) (fun h4=>?_)
 ·refine af (aa (ab Jg Jg (ag (ac (au (av (aF Jg Jg ?_)))))))
  have hA:A=none:=by simpa using h4
  have:=hnone hA
  have hnil:l=[]:=List.eq_nil_of_length_eq_zero (by simp at hll;omega)
  subst hnil
  exact⟨_,rfl,aM.refl _,dK.nil _ _⟩
 ·refine aq (ac (af (aa ?_)))
  obtain⟨v5,w5,hr5,x5,o5,ob5⟩:=gV Tryz.underlying53 (w:=w) w.heap.size [] (by simp) (Nat.le_refl _)
  refine aN (vs:=[]) Jg Jg hr5 (ae Jg Jg ?_)
  obtain⟨v7,w7,hr7,o7,g7⟩:=jo Tryz.underlying53 (ty:=53) o5 (hv.ext x5) (by simp;omega) (x5).size
  have x7:=aM.of_grew (x5) g7 o5.ge
  refine be Jg Jg hr7 (ab Jg Jg (ag (ac (au (aF Jg Jg ?_)))))
  exact⟨_,rfl,x7,by simpa using o7⟩
theorem kR {w:World} {l:List UInt32} {v:Value} (hv:bt l v w) (hl:l.length≤17592186044416):
 Calls Tryz.prog 187 #[v] w (bF fun r w'=>aM w w'∧bt (lb (val l)) r w'):=by
 refine enter (vs:=[v]) Tryz.func187 Jg Jg Jg ?_
 have hll:=gu (cr l)
 refine af (aa (ab Jg Jg (ag (ac (af (aa (ae Jg Jg (an dF Jg Jg (dQ hv) ?_))))))))
 rintro v4 _ ⟨rfl,b4⟩
 refine an xm Jg Jg (xo b4 (by omega)) ?_
 rintro v5 w5 ⟨x5,o5⟩
 refine ab Jg Jg (ag (ac (au (aF Jg Jg ?_))))
 exact⟨_,rfl,x5,o5.wds⟩
theorem p9 {w:World} {l:List UInt32} {v:Value} (hv:bt l v w):
 Calls Tryz.prog 139 #[v] w (bF fun r w'=>w=w'∧r=B (decide (lb (val l)=l))):=by
 refine enter (vs:=[v]) Tryz.func139 Jg Jg Jg ?_
 have hl:=hv.len
 refine af (aa (ab Jg Jg (ag (ac (af (aa (ae Jg Jg (aP Jg Jg (bp IJ hv) (ai Jg Jg Jg (aV) ?_)))))))))
 refine ae Jg Jg ?_
 refine cJ (fun h6=>?_) (fun h6=>?_)
 ·refine ao Jg Jg Jg (ao Jg Jg Jg (ao Jg Jg Jg (ao Jg Jg Jg (ao Jg Jg Jg (ao Jg Jg Jg (ao Jg Jg Jg (aw Jg Jg Jg (ab Jg Jg (ag ?_)))))))))
  refine ac (au (aF Jg Jg ?_))
  exact⟨_,rfl,rfl,by
   first
   |(have h0:l=[]:=List.eq_nil_of_length_eq_zero (by omega)
     subst h0;rfl)
   |exact congrArg B (decide_eq_decide.2 (oz (by omega)))⟩
 ·refine al Jg (ae Jg Jg (al Jg (ae Jg Jg (al Jg (aP Jg Jg (bp IJ hv) (al Jg (ai (r:=I ((l.length-1:Nat):Int)) Jg Jg Jg (by have e:((l.length-1:Nat):Int)=(l.length:Int)-1:=(by omega);rw[e];exact bb (by omega) (by omega)) ?_)))))))
  refine al Jg ?_
  obtain⟨a11,p11,q11⟩:=cL IJ hv (i:=(l.length-1:Nat)) (by omega) .i64
  refine aB Jg Jg Jg (p11 _) (al Jg (am Jg Jg (ak IK Jg q11) (al Jg (ai (v:=bw 0) Jg Jg Jg (j3) (aC Jg Jg Jg ?_)))))
  refine ab Jg Jg (ag (ac (au (aF Jg Jg ?_))))
  exact⟨_,rfl,rfl,by
   first
   |(have h0:l=[]:=List.eq_nil_of_length_eq_zero (by omega)
     subst h0;rfl)
   |exact congrArg B (decide_eq_decide.2 (oz (by omega)))⟩
theorem xp {w:World} {x:UInt64}:
 Calls Tryz.prog 204 #[bj x] w (bF fun r w'=>aM w w'∧bt (lb x.toNat) r w'):=by
 refine enter (vs:=[bj x]) Tryz.func204 Jg Jg Jg ?_
 refine af (aa (ab Jg Jg (ag (ac (af (aa (ae Jg Jg (aQ Jg Jg (cw IL IK) (ae Jg Jg ?_)))))))))
 refine ai Jg Jg Jg (du 32 (by omega)) (aQ Jg Jg (cw IL IK) ?_)
 obtain⟨v8,w8,hr8,x8,o8,ob8⟩:=gV Tryz.underlying53 (w:=w) w.heap.size [x.toUInt32,(x>>>UInt64.ofNat 32).toUInt32] (by simp) (Nat.le_refl _)
 refine aN (vs:=[(0,bw (x.toUInt32)),(1,bw ((x>>>UInt64.ofNat 32).toUInt32))]) Jg Jg hr8 (an dF Jg Jg (dQ o8.wds) ?_)
 rintro v9 _ ⟨rfl,b9⟩
 refine ab Jg Jg (ag (ac (au (aF Jg Jg ?_))))
 exact⟨_,rfl,x8,by
  have e:val [x.toUInt32,(x>>>UInt64.ofNat 32).toUInt32]=x.toNat:=by
   have h1:(x.toUInt32).toNat=x.toNat%4294967296:=UInt64.toNat_toUInt32 x
   have h2:((x>>>UInt64.ofNat 32).toUInt32).toNat=x.toNat/4294967296:=by
    have:=x.toNat_lt
    rw[UInt64.toNat_toUInt32,t5]
    omega
   simp only[val,h1,h2];omega
  rw[e] at b9;exact b9⟩
end Go.Rl
namespace Go.Rl
theorem zo (x:UInt64):x.toNat<18446744073709551616:=x.toNat_lt
theorem xq (x:UInt64) {s:Nat} (hs:s<64):(x<<<UInt64.ofNat s).toNat=x.toNat*2^s%18446744073709551616:=by
 rw[UInt64.toNat_shiftLeft,UInt64.toNat_ofNat',Nat.mod_eq_of_lt (Nat.lt_trans hs (by decide)),Nat.mod_eq_of_lt hs,Nat.shiftLeft_eq]
theorem qg (x:UInt64) {s:Nat} (hs:s<64):(x>>>UInt64.ofNat s).toNat=x.toNat/2^s:=by
 rw[UInt64.toNat_shiftRight,UInt64.toNat_ofNat',Nat.mod_eq_of_lt (Nat.lt_trans hs (by decide)),Nat.mod_eq_of_lt hs,Nat.shiftRight_eq_div_pow]
theorem FY (x:UInt32) {s:Nat} (hs:s<32):(x<<<UInt32.ofNat s).toNat=x.toNat*2^s%4294967296:=by
 rw[UInt32.toNat_shiftLeft,UInt32.toNat_ofNat',Nat.mod_eq_of_lt (Nat.lt_trans hs (by decide)),Nat.mod_eq_of_lt hs,Nat.shiftLeft_eq]
theorem oA (x:UInt32) {s:Nat} (hs:s<32):(x>>>UInt32.ofNat s).toNat=x.toNat/2^s:=by
 rw[UInt32.toNat_shiftRight,UInt32.toNat_ofNat',Nat.mod_eq_of_lt (Nat.lt_trans hs (by decide)),Nat.mod_eq_of_lt hs,Nat.shiftRight_eq_div_pow]
theorem ft (x:UInt32):x.toUInt64.toNat=x.toNat:=UInt32.toNat_toUInt64 x
theorem j7 (x:UInt64):x.toUInt32.toNat=x.toNat%4294967296:=UInt64.toNat_toUInt32 x
theorem nh (x y:UInt64):(x+y).toNat=(x.toNat+y.toNat)%18446744073709551616:=UInt64.toNat_add x y
theorem t6 (x y:UInt64):(x*y).toNat=x.toNat*y.toNat%18446744073709551616:=UInt64.toNat_mul x y
theorem oB (x y:UInt64):(x-y).toNat=(18446744073709551616-y.toNat+x.toNat)%18446744073709551616:=UInt64.toNat_sub x y
theorem HT (a b i:Nat) (h:a<2^i):a|||2^i*b=a+2^i*b:=by
 rw[Nat.or_comm,←Nat.two_pow_add_eq_or_of_lt h,Nat.add_comm]
theorem FZ (x y:UInt64):(x|||y).toNat=x.toNat|||y.toNat:=UInt64.toNat_or x y
theorem DT (x y:UInt32):(x|||y).toNat=x.toNat|||y.toNat:=UInt32.toNat_or x y
theorem rH (r:UInt64) (d:UInt32) (hr:r.toNat<4294967296):(r<<<UInt64.ofNat 32|||d.toUInt64).toNat=r.toNat*4294967296+d.toNat:=by
 have hd:=cO d
 rw[FZ,xq r (by omega),ft,Nat.mod_eq_of_lt (by omega),Nat.or_comm]
 have:=HT d.toNat r.toNat 32 hd
 simp only[Nat.reducePow] at this⊢
 rw[Nat.mul_comm r.toNat,this];omega
theorem fj {l:List UInt32} {i:Nat} (h:i<l.length) (x:UInt32):val ((l.set i x).take (i+1))=val (l.take i)+4294967296^i*x.toNat:=by
 rw[bN (by simpa using h),List.take_set_of_le (Nat.le_refl _)]
 simp
theorem oC {l:List UInt32} {i:Nat} (h:i<l.length) (x:UInt32):val ((l.set i x).drop i)=x.toNat+4294967296*val (l.drop (i+1)):=by
 rw[eD (by simpa using h),List.drop_set_of_lt (by omega)]
 simp
theorem BU {l L:List UInt32} {i k:Nat} {d:UInt32} (hk:k<32) (hi:i<l.length) (hd:d=l[i]) (hL:L.length=l.length+1) (hv:val (L.take (i+1))=val (l.take i)*2^k) (hc:(L[i]'(by omega)).toNat<2^k):
 val (((L.set i (L[i]'(by omega)|||(d.toUInt64<<<UInt64.ofNat k).toUInt32)).set (i+1) ((d.toUInt64<<<UInt64.ofNat k)>>>UInt64.ofNat 32).toUInt32).take (i+1+1))=val (l.take (i+1))*2^k∧
  ((d.toUInt64<<<UInt64.ofNat k)>>>UInt64.ofNat 32).toUInt32.toNat<2^k:=by
 have hdl:=cO d
 have hp:2^k*2^(32-k)=4294967296:=by rw[←Nat.pow_add,show k+(32-k)=32 by omega]
 have hpos:0<2^k:=Nat.pow_pos (by omega)
 have hx:(d.toUInt64<<<UInt64.ofNat k).toNat=d.toNat*2^k:=by
  rw[xq _ (by omega),ft,Nat.mod_eq_of_lt]
  have h1:d.toNat*2^k≤4294967296*2^k:=Nat.mul_le_mul_right _ (by omega)
  have h2:2^k≤2^31:=Nat.pow_le_pow_right (by omega) (by omega)
  omega
 have hlo:(d.toUInt64<<<UInt64.ofNat k).toUInt32.toNat=2^k*(d.toNat%2^(32-k)):=by
  rw[j7,hx,←hp,Nat.mul_comm d.toNat,Nat.mul_mod_mul_left]
 have hhi:((d.toUInt64<<<UInt64.ofNat k)>>>UInt64.ofNat 32).toUInt32.toNat=d.toNat*2^k/4294967296:=by
  rw[j7,qg _ (by omega),hx,Nat.mod_eq_of_lt]
  have h1:d.toNat*2^k<4294967296*2^k:=Nat.mul_lt_mul_of_pos_right hdl hpos
  have h2:2^k≤2^31:=Nat.pow_le_pow_right (by omega) (by omega)
  simp only[Nat.reducePow] at h2⊢
  omega
 have hor:(L[i]'(by omega)|||(d.toUInt64<<<UInt64.ofNat k).toUInt32).toNat=(L[i]'(by omega)).toNat+2^k*(d.toNat%2^(32-k)):=by
  rw[DT,hlo,HT _ _ _ hc]
 have hdm:2^k*(d.toNat%2^(32-k))+4294967296*(d.toNat*2^k/4294967296)=d.toNat*2^k:=by
  have h1:=Nat.mod_add_div (d.toNat*2^k) 4294967296
  rw[j7,hx] at hlo
  omega
 refine⟨?_,?_⟩
 ·generalize d.toNat*2^k/4294967296=q at hhi hdm
  rw[fj (by simp;omega),hhi,fj (by omega),hor,bN hi,←hd]
  rw[bN (by omega)] at hv
  rw[Nat.add_mul,←hv,Nat.mul_assoc,←hdm,Nat.pow_succ]
  rw[Nat.mul_add (4294967296^i),Nat.mul_add (4294967296^i),Nat.mul_assoc (4294967296^i),Nat.add_assoc,Nat.add_assoc,Nat.add_assoc]
 ·rw[hhi,Nat.div_lt_iff_lt_mul (by omega),Nat.mul_comm]
  exact Nat.mul_lt_mul_of_pos_left hdl hpos
theorem zp {l L:List UInt32} {j:Nat} {d:UInt32} {r:UInt64} (hd:0<d.toNat) (hj:j<l.length) (hL:L.length=l.length) (hv:val (L.drop (j+1))*d.toNat+r.toNat=val (l.drop (j+1))) (hr:r.toNat<d.toNat):
 val ((L.set j ((r<<<UInt64.ofNat 32|||l[j].toUInt64)/d.toUInt64).toUInt32).drop j)*d.toNat+((r<<<UInt64.ofNat 32|||l[j].toUInt64)%d.toUInt64).toNat=val (l.drop j)∧
  ((r<<<UInt64.ofNat 32|||l[j].toUInt64)%d.toUInt64).toNat<d.toNat:=by
 have hdl:=cO d
 have hx:=rH r l[j] (by omega)
 have hq:((r<<<UInt64.ofNat 32|||l[j].toUInt64)/d.toUInt64).toNat=(r.toNat*4294967296+l[j].toNat)/d.toNat:=by rw[UInt64.toNat_div,hx,ft]
 have hm:((r<<<UInt64.ofNat 32|||l[j].toUInt64)%d.toUInt64).toNat=(r.toNat*4294967296+l[j].toNat)%d.toNat:=by rw[UInt64.toNat_mod,hx,ft]
 have hlt:(r.toNat*4294967296+l[j].toNat)/d.toNat<4294967296:=by
  rw[Nat.div_lt_iff_lt_mul hd]
  have:=cO l[j]
  have h2:(r.toNat+1)*4294967296≤d.toNat*4294967296:=Nat.mul_le_mul_right _ hr
  omega
 refine⟨?_,by rw[hm];exact Nat.mod_lt _ hd⟩
 rw[oC (by omega),j7,hq,hm,Nat.mod_eq_of_lt hlt,eD hj,←hv]
 have:=Nat.div_add_mod (r.toNat*4294967296+l[j].toNat) d.toNat
 rw[Nat.add_mul,Nat.mul_assoc,Nat.mul_comm ((r.toNat*4294967296+l[j].toNat)/d.toNat)]
 omega
theorem DU {x:UInt64} {d R s:Nat} (hs:s<32) (hx:x.toNat=d+4294967296*(R%4294967296)):
 ((x>>>UInt64.ofNat s).toUInt32).toNat+4294967296*(R/2^s)=(d+4294967296*R)/2^s∨4294967296≤d:=by
 by_cases hd:4294967296≤d
 ·exact .inr hd
 left
 have hp:2^s*2^(32-s)=4294967296:=by rw[←Nat.pow_add,show s+(32-s)=32 by omega]
 have hpos:0<2^s:=Nat.pow_pos (by omega)
 have e1:d+4294967296*R=x.toNat+2^s*(2^(32-s)*(4294967296*(R/4294967296))):=by
  rw[←Nat.mul_assoc,hp,hx];omega
 have e2:(d+4294967296*R)/2^s=x.toNat/2^s+4294967296*(2^(32-s)*(R/4294967296)):=by
  rw[e1,Nat.add_mul_div_left _ _ hpos,Nat.mul_left_comm]
 have e3:(d+4294967296*R)/2^s/4294967296=R/2^s:=by
  rw[Nat.div_div_eq_div_mul,Nat.mul_comm (2^s),←Nat.div_div_eq_div_mul]
  congr 1
  omega
 have e4:=Nat.mod_add_div ((d+4294967296*R)/2^s) 4294967296
 rw[e3] at e4
 rw[j7,qg _ (by omega)]
 rw[←e4]
 congr 1
 rw[e2,Nat.add_mul_mod_self_left]
theorem GJ {x:UInt64} {a:Nat} {e:UInt32} (hx:x.toNat=a) (ha:a<4294967296):(x|||e.toUInt64<<<UInt64.ofNat 32).toNat=a+4294967296*e.toNat:=by
 have he:=cO e
 rw[FZ,xq _ (by omega),ft,Nat.mod_eq_of_lt (by omega),hx]
 have:=HT a e.toNat 32 ha
 simp only[Nat.reducePow] at this⊢
 rw[Nat.mul_comm e.toNat,this]
def bl (n:Nat):Nat:=if n=0 then 0 else Nat.log2 n+1
theorem A1:bl 0=0:=rfl
theorem oD {n:Nat} (h:0<n):2^(bl n-1)≤n∧n<2^bl n:=by
 unfold bl
 rw[if_neg (by omega),Nat.add_sub_cancel]
 exact⟨Nat.log2_self_le (by omega),Nat.lt_log2_self⟩
theorem rI {n:Nat} (h:0<n):0<bl n:=by unfold bl;rw[if_neg (by omega)];omega
theorem BV {n k:Nat} (h1:2^k≤n) (h2:n<2^(k+1)):bl n=k+1:=by
 have hn:0<n:=Nat.lt_of_lt_of_le (Nat.pow_pos (by omega)) h1
 obtain⟨h3,h4⟩:=oD hn
 have hp:=rI hn
 have a:k<bl n:=(Nat.pow_lt_pow_iff_right (a:=2) (by omega)).1 (Nat.lt_of_le_of_lt h1 h4)
 have b:bl n-1<k+1:=(Nat.pow_lt_pow_iff_right (a:=2) (by omega)).1 (Nat.lt_of_le_of_lt h3 h2)
 omega
theorem lQ {n s:Nat} (h:2^s≤n):bl n=s+bl (n/2^s):=by
 have hps:0<2^s:=Nat.pow_pos (by omega)
 have hq:0<n/2^s:=Nat.div_pos h hps
 obtain⟨h1,h2⟩:=oD hq
 have hp:=rI hq
 obtain⟨k,hk⟩:∃k,bl (n/2^s)=k+1:=⟨_,(Nat.sub_add_cancel hp).symm⟩
 rw[hk,Nat.add_sub_cancel] at h1
 rw[hk] at h2⊢
 refine(BV (k:=s+k) ?_ ?_)
 ·rw[Nat.pow_add,Nat.mul_comm]
  exact Nat.le_trans (Nat.mul_le_mul_right _ h1) (Nat.div_mul_le_self _ _)
 ·rw[show s+k+1=s+(k+1) by omega,Nat.pow_add,Nat.mul_comm]
  exact(Nat.div_lt_iff_lt_mul hps).1 h2
theorem t7 {n k:Nat} (h:n<2^k):bl n≤k:=by
 rcases Nat.eq_zero_or_pos n with rfl|h0
 ·simp[A1]
 ·have h1:=(oD h0).1
  have h2:=rI h0
  have:=(Nat.pow_lt_pow_iff_right (a:=2) (by omega)).1 (Nat.lt_of_le_of_lt h1 h)
  omega
theorem GK {n i:Nat} (h:i+1=(lb n).length):bl n=32*i+bl ((lb n)[i]'(by omega)).toNat:=by
 have hl:=vy h
 have h2:n=val ((lb n).take i)+4294967296^i*((lb n)[i]'(by omega)).toNat:=by
  rw[←bN (by omega),h,List.take_length,bJ]
 have h3:=cr ((lb n).take i)
 rw[List.length_take,Nat.min_eq_left (by omega)] at h3
 have hp:(4294967296:Nat)^i=2^(32*i):=by rw[Nat.pow_mul]
 rw[hp] at h2 h3
 have hge:2^(32*i)≤n:=by
  rw[h2]
  have:2^(32*i)*1≤2^(32*i)*((lb n)[i]'(by omega)).toNat:=Nat.mul_le_mul_left _ hl
  omega
 rw[lQ hge]
 congr 2
 have:n/2^(32*i)=(val ((lb n).take i)+2^(32*i)*((lb n)[i]'(by omega)).toNat)/2^(32*i):=by rw[←h2]
 rw[this,Nat.add_mul_div_left _ _ (Nat.pow_pos (by omega)),Nat.div_eq_of_lt h3,Nat.zero_add]
end Go.Rl
namespace Go.Rl
open Go.RowKit Go.Proofs
theorem rJ:az Tryz.prog 207:=⟨_,Tryz.func207,by kernel_rfl,rfl⟩
theorem xr:az Tryz.prog 205:=⟨_,Tryz.func205,by kernel_rfl,rfl⟩
theorem BW:az Tryz.prog 210:=⟨_,Tryz.func210,by kernel_rfl,rfl⟩
theorem zq:az Tryz.prog 191:=⟨_,Tryz.func191,by kernel_rfl,rfl⟩
theorem rK:az Tryz.prog 211:=⟨_,Tryz.func211,by kernel_rfl,rfl⟩
theorem BX:az Tryz.prog 206:=⟨_,Tryz.func206,by kernel_rfl,rfl⟩
theorem BY {t:List UInt32} {i:Nat} {x:UInt64} (h2:t.length≤2) (hi:i<t.length) (hx:x.toNat=val (t.take i)):(x|||t[i].toUInt64<<<UInt64.ofNat (32*i)).toNat=val (t.take (i+1)):=by
 have hl:=cr (t.take i)
 rw[List.length_take,Nat.min_eq_left (by omega)] at hl
 have hd:=cO t[i]
 rw[bN hi,←hx,FZ,xq _ (by omega),ft]
 have hp:(4294967296:Nat)^i=2^(32*i):=by rw[Nat.pow_mul]
 rw[hp,←hx] at hl
 have hb:2^(32*i)≤2^32:=Nat.pow_le_pow_right (by omega) (by omega)
 rw[Nat.mod_eq_of_lt,Nat.mul_comm,HT _ _ _ hl,hp]
 have:t[i].toNat*2^(32*i)≤4294967295*2^32:=Nat.mul_le_mul (by omega) hb
 omega
theorem vz {x y:Nat} (h:x<y):pq x y= -1:=by unfold pq;rw[if_pos h]
theorem vA {x y:Nat} (h:y<x):pq x y=1:=by unfold pq;rw[if_neg (by omega),if_pos h]
theorem A2 {x:Nat}:pq x x=0:=by unfold pq;rw[if_neg (by omega),if_neg (by omega)]
theorem xu {a b:UInt32}:a<b↔a.toNat<b.toNat:=UInt32.lt_iff_toNat_lt
theorem t8 {x y j:Nat} (h1:j<(lb x).length) (h2:j<(lb y).length) (hd:(lb x).drop (j+1)=(lb y).drop (j+1)) (h:(lb x)[j]<(lb y)[j]):x<y:=by
 have:=AZ h1 h2 hd (xu.1 h)
 rwa [bJ,bJ] at this
theorem rM {w:World} {l:List UInt32} {v:Value} (hv:bt l v w):
 Calls Tryz.prog 203 #[v] w (bF fun r w'=>w=w'∧((18446744073709551616≤val l∧r=.tuple #[bj 0,B false])∨∃x:UInt64,x.toNat=val l∧r=.tuple #[bj x,B true])):=by
 refine enter (vs:=[v]) Tryz.func203 Jg Jg Jg ?_
 refine af (aa (ab Jg Jg (ab Jg Jg (ag (ac (af (aa (ae Jg Jg (an dF Jg Jg (dQ hv) ?_)))))))))
 rintro v8 _ ⟨rfl,b8⟩
 refine ab Jg Jg (ag (ac (af (af (aa (ae Jg Jg (aP Jg Jg (bp IJ b8) (ai Jg Jg Jg (ce) (ag ?_)))))))))
 refine ac ?_
 refine bi Jg (fun h11=>?_) (fun h11=>?_)
 ·refine af (aa (ab Jg Jg (ab Jg Jg (ag (ac (au (av (aH Jg Jg Jg ?_))))))))
  exact⟨_,rfl,rfl,.inl ⟨by
   rcases Nat.lt_or_ge (val l) 18446744073709551616 with h|h
   ·have:=gu (n:=val l) (k:=2) h
    omega
   ·exact h,rfl⟩⟩
 ·obtain⟨t,ht⟩:∃t,t=lb (val l):=⟨_,rfl⟩
  have hval:val t=val l:=by rw[ht,bJ]
  rw[←ht] at b8 h11⊢
  have h2:t.length≤2:=by omega
  refine aq (ac (af (aa (ab Jg Jg (ag (ac (af (af (aa (ae Jg Jg (aP (r:=I (t.length:Int)) Jg Jg (bp IJ b8) ?_)))))))))))
  refine ae Jg Jg (ag (ac (ax ?_)))
  refine ga (fun(i:Nat) (x:UInt64)=>[(4,bj x),(12,v8),(13,I (t.length:Int)),(14,I (i:Int))]) (fun(i:Nat) (x:UInt64) w'=>w=w'∧i≤t.length∧x.toNat=val (t.take i)) (fun(i:Nat) (x:UInt64)=>t.length-i) (0) (0) ⟨rfl,rfl,rfl,rfl,trivial⟩ ⟨rfl,by simp,rfl⟩ ?_
  rintro i x _ ⟨rfl,hi,hx⟩
  refine af (aa (ai Jg Jg Jg (aX) (ag (ac (af ?_)))))
  refine bi Jg (fun h15=>?_) (fun h15=>?_)
  ·refine aq (ac (af (ax (af (aa (ae Jg Jg ?_))))))
   obtain⟨a17,p17,q17⟩:=cL IJ b8 (i:=i) (by omega) .i64
   refine aB Jg Jg Jg (p17 _) (am Jg Jg (ak IK Jg q17) (ab Jg Jg (ab Jg Jg (ag (ac (aa (ae Jg Jg ?_)))))))
   refine ae Jg Jg (aQ Jg Jg (bI IK IL) (ae Jg Jg (ai (r:=I ((32*i:Nat):Int)) Jg Jg Jg (by have e:((32*i:Nat):Int)=32*(i:Int):=(by omega);rw[e];exact eR (by omega) (by omega)) ?_)))
   refine ai Jg Jg Jg (fz ((32*i:Nat)) (by omega)) (ai Jg Jg Jg (iD) (ab Jg Jg (ag (aJ (ac (aa (ai (r:=I ((i+1:Nat):Int)) Jg Jg Jg (by have e:((i+1:Nat):Int)=(i:Int)+1:=(by omega);rw[e];exact aK (by omega) (by omega)) ?_)))))))
   refine ae Jg Jg (ag ?_)
   refine el (i+1) (x|||t[i].toUInt64<<<UInt64.ofNat (32*i)) ⟨rfl,rfl,rfl,rfl,trivial⟩ ⟨rfl,by show i+1≤_;omega,BY h2 (by omega) hx⟩ (by show t.length-(i+1)<t.length-i;omega)
  ·refine aW (aA (aA (aU (ac (af (aa (ae Jg Jg (ab Jg Jg (ab Jg Jg (ag (ac (au (aH Jg Jg Jg ?_)))))))))))))
   exact⟨_,rfl,rfl,.inr ⟨x,by rw[hx,List.take_of_length_le (by omega),hval],rfl⟩⟩
theorem pu {w:World} {l m:List UInt32} {v u:Value} (hv:bt l v w) (hu:bt m u w):
 Calls Tryz.prog 141 #[v,u] w (bF fun r w'=>aM w w'∧r=I (pq (val l) (val m))):=by
 refine enter (vs:=[v,u]) Tryz.func141 Jg Jg Jg ?_
 refine af (aa (ab Jg Jg (ag (ac (af (aa (ae Jg Jg (an dF Jg Jg (dQ hv) ?_))))))))
 rintro v7 _ ⟨rfl,b7⟩
 refine ae Jg Jg (an dF Jg Jg (dQ hu) ?_)
 rintro v9 _ ⟨rfl,b9⟩
 have hx:=b7.len
 have hy:=b9.len
 refine ab Jg Jg (ab Jg Jg (ag (ac (af (af (aa (ae Jg Jg (aP Jg Jg (bp IJ b7) (ae Jg Jg (aP Jg Jg (bp IJ b9) ?_))))))))))
 refine ai Jg Jg Jg (bS) (ag (ac ?_))
 refine bi Jg (fun h14=>?_) (fun h14=>?_)
 ·refine af (af (aa (ae Jg Jg (aP Jg Jg (bp IJ b7) (ae Jg Jg (aP Jg Jg (bp IJ b9) ?_))))))
  refine ai Jg Jg Jg (aX) (ag (ac ?_))
  refine bi Jg (fun h19=>?_) (fun h19=>?_)
  ·refine af (aa (ab Jg Jg (ag (ac (au (av (av (aF Jg Jg ?_))))))))
   exact⟨_,rfl,aM.refl _,congrArg I (vz (vw (by omega))).symm⟩
  ·refine aq (ac (af (aa (ab Jg Jg (ag (ac (au (av (aF Jg Jg ?_)))))))))
   exact⟨_,rfl,aM.refl _,congrArg I (vA (vw (by omega))).symm⟩
 ·refine aq (ac (af (af (aa ?_))))
  have hlen:(lb (val l)).length=(lb (val m)).length:=by omega
  refine ae Jg Jg (aP Jg Jg (bp IJ b7) (ai Jg Jg Jg (bb (by omega) (by omega)) (ab Jg Jg (ag (ac ?_)))))
  refine ax ?_
  refine bV (α:=Nat) (fun k=>[(0,v7),(1,v9),(5,I ((k:Int)-1))]) (fun k w'=>aM w w'∧k≤(lb (val l)).length∧(lb (val l)).drop k=(lb (val m)).drop k) (fun k=>k) ((lb (val l)).length) ⟨rfl,rfl,rfl,trivial⟩ ⟨aM.refl _,Nat.le_refl _,by rw[List.drop_of_length_le (Nat.le_refl _),List.drop_of_length_le (by omega)]⟩ ?_
  rintro k w7 ⟨x7,hk,hd⟩
  refine af (af (aa (ae Jg Jg (ai Jg Jg Jg (ir) (ag (ac ?_))))))
  refine bi Jg (fun h24=>?_) (fun h24=>?_)
  ·obtain⟨j,rfl⟩:∃j,k=j+1:=⟨k-1,by omega⟩
   have e:((j+1:Nat):Int)-1=(j:Int):=by omega
   rw[e]
   refine aq (ac (af (ax (af (bA 8 [0,1,5,30,34] (by kernel_rfl) (by kernel_rfl) ?_)))))
   refine ap Jg Jg (ap Jg Jg ?_)
   obtain⟨a29,p29,q29⟩:=cL IJ (b7.ext x7) (i:=j) (by omega) .i64
   refine ay Jg Jg Jg (fun w _=>p29 w) (aD Jg Jg (fun w hw=>ak IK Jg (hw.cell_some q29)) (ap Jg Jg (ap Jg Jg ?_)))
   obtain⟨a33,p33,q33⟩:=cL IJ (b9.ext x7) (i:=j) (by omega) .i64
   refine ay Jg Jg Jg (fun w _=>p33 w) (aD Jg Jg (fun w hw=>ak IK Jg (hw.cell_some q33)) (bG ?_))
   intro wg9 xg9
   rintro _ hq0
   obtain rfl:=Eq.symm hq0
   rintro _ hq1
   obtain rfl:=Eq.symm hq1
   rintro _ rfl
   rintro _ rfl
   rintro _ rfl
   refine ai Jg Jg Jg (j3) (ag (ac ?_))
   refine bi Jg (fun h35=>?_) (fun h35=>?_)
   ·refine af (af (bA 8 [39,43] (by kernel_rfl) (by kernel_rfl) ?_))
    refine ap Jg Jg (ap Jg Jg ?_)
    obtain⟨a38,p38,q38⟩:=cL IJ (b7.ext (x7.trans xg9)) (i:=j) (by omega) .i64
    refine ay Jg Jg Jg (fun w _=>p38 w) (aD Jg Jg (fun w hw=>ak IK Jg (hw.cell_some q38)) (ap Jg Jg (ap Jg Jg ?_)))
    obtain⟨a42,p42,q42⟩:=cL IJ (b9.ext (x7.trans xg9)) (i:=j) (by omega) .i64
    refine ay Jg Jg Jg (fun w _=>p42 w) (aD Jg Jg (fun w hw=>ak IK Jg (hw.cell_some q42)) (bG ?_))
    intro wg10 xg10
    rintro _ rfl
    rintro _ rfl
    refine ai Jg Jg Jg (tQ) (ag (ac ?_))
    refine bi Jg (fun h44=>?_) (fun h44=>?_)
    ·refine af (aa (ab Jg Jg (ag (ac (au (av (bc (av (av (bc (av (aF Jg Jg ?_))))))))))))
     exact⟨_,rfl,((x7.trans xg9).trans xg10),congrArg I (vz (t8 (by omega) (by omega) hd h44)).symm⟩
    ·refine aq (ac (af (aa (ab Jg Jg (ag (ac (au (bc (av (av (bc (av (aF Jg Jg ?_)))))))))))))
     exact⟨_,rfl,((x7.trans xg9).trans xg10),by
      refine congrArg I (vA (t8 (by omega) (by omega) hd.symm ?_)).symm
      rw[xu] at h44⊢
      have:(lb (val l))[j].toNat≠(lb (val m))[j].toNat:=fun he=>h35 (jJ he)
      omega⟩
   ·refine aq (aJ (ac (aa (ae Jg Jg (ai Jg Jg Jg (bb (by omega) (by omega)) (ab Jg Jg (ag ?_)))))))
    refine bM j ⟨rfl,rfl,rfl,trivial⟩ ⟨(x7.trans xg9),by omega,by rw[List.drop_eq_getElem_cons (show j<(lb (val l)).length by omega),List.drop_eq_getElem_cons (show j<(lb (val m)).length by omega),hd,show(lb (val l))[j]=(lb (val m))[j] from Classical.byContradiction fun h=>h35 h]⟩ (by omega)
  ·refine aW (aA (aA (aU (ac (af (aa (ab Jg Jg (ag (ac (au (aF Jg Jg ?_)))))))))))
   exact⟨_,rfl,x7,by
    obtain rfl:k=0:=by omega
    rw[List.drop_zero,List.drop_zero] at hd
    rw[DR hd,A2];rfl⟩
theorem rN {w:World} {l:List UInt32} {v:Value} {k:Nat} (hv:bt l v w) (hl:l.length≤1099511627776) (hk:k<32):
 Calls Tryz.prog 207 #[v,I (k:Int)] w (bF fun r w'=>aM w w'∧∃L,dK w.heap.size L r w'∧L.length=l.length+1∧val L=val l*2^k):=by
 refine enter (vs:=[v,I (k:Int)]) Tryz.func207 Jg Jg Jg ?_
 refine af (aa (ab Jg Jg (ag (ac (af (aa (ae Jg Jg (aP Jg Jg (bp IJ hv) (ai (r:=I (((l.length)+1:Nat):Int)) Jg Jg Jg (by have e:(((l.length)+1:Nat):Int)=(l.length:Int)+1:=(by omega);rw[e];exact aK (by omega) (by omega)) ?_)))))))))
 obtain⟨v12,w12,hr12,x12,o12,ob12⟩:=tZ IJ (w:=w) w.heap.size (n:=l.length+1) (by omega) (Nat.le_refl _)
 refine gq Jg Jg Jg hr12 (ab Jg Jg (ag (ac (af (af (aa (ae Jg Jg (aP Jg Jg (bp IJ (hv.ext x12)) ?_))))))))
 refine ae Jg Jg (ag (ac (ax ?_)))
 refine ga (fun(i:Nat) (L:List UInt32)=>[(1,I (k:Int)),(5,v12),(13,v),(14,I (l.length:Int)),(15,I (i:Int))]) (fun(i:Nat) (L:List UInt32) w'=>dK w.heap.size L v12 w'∧aM w w'∧i≤l.length∧L.length=l.length+1∧val (L.take (i+1))=val (l.take i)*2^k∧∀h:i<L.length,L[i].toNat<2^k) (fun(i:Nat) (L:List UInt32)=>l.length-i) (0) (List.replicate (l.length+1) 0) ⟨rfl,rfl,rfl,rfl,rfl,trivial⟩ ⟨o12,x12,by simp,by simp,by simp[val],fun _=>by simp;exact Nat.pow_pos (by omega)⟩ ?_
 rintro i L w3 ⟨oL,e3,hi,hL,hval,hc⟩
 refine af (aa (ai Jg Jg Jg (aX) (ag (ac (af ?_)))))
 refine bi Jg (fun h16=>?_) (fun h16=>?_)
 ·refine aq (ac (af (ax (af (aa (ae Jg Jg ?_))))))
  obtain⟨a18,p18,q18⟩:=cL IJ (hv.ext e3) (i:=i) (by omega) .i64
  refine aB Jg Jg Jg (p18 _) (am Jg Jg (ak IK Jg q18) (ab Jg Jg (ab Jg Jg (ag (ac (af (aa (ae Jg Jg ?_))))))))
  refine aQ Jg Jg (bI IK IL) (ae Jg Jg (ai Jg Jg Jg (fz (k) (by omega)) (ab Jg Jg ?_)))
  refine ag (ac (af (aa (ae Jg Jg (ae Jg Jg ?_)))))
  obtain⟨a26,p26,q26⟩:=cL IJ oL.wds (i:=i) (by omega) .i64
  refine aB Jg Jg Jg (p26 _) (am Jg Jg (ak IK Jg q26) (ae Jg Jg (aQ Jg Jg (cw IL IK) ?_)))
  refine ai Jg Jg Jg (eX) ?_
  obtain⟨g31,w31,p31,s31,o31,q31,hb31,c31,ob31⟩:=(oL).setW IJ (i:=i) (by omega) (L[i]'(by omega)|||(l[i].toUInt64<<<UInt64.ofNat k).toUInt32)
  refine aB Jg Jg Jg (p31 _) (ar Jg Jg s31 ?_)
  have x31:=aM.of_new (e3) q31 hb31
  refine ag (ac (aa (ae Jg Jg (ae Jg Jg (ai (r:=I ((i+1:Nat):Int)) Jg Jg Jg (by have e:((i+1:Nat):Int)=(i:Int)+1:=(by omega);rw[e];exact aK (by omega) (by omega)) ?_)))))
  refine ae Jg Jg (ai Jg Jg Jg (du 32 (by omega)) (aQ Jg Jg (cw IL IK) ?_))
  obtain⟨g38,w38,p38,s38,o38,q38,hb38,c38,ob38⟩:=(o31).setW Tryz.underlying53 (i:=(i+1)) (by simp;omega) ((l[i].toUInt64<<<UInt64.ofNat k>>>UInt64.ofNat 32).toUInt32)
  refine aB Jg Jg Jg (p38 _) (ar Jg Jg s38 ?_)
  have x38:=aM.of_new (x31) q38 hb38
  refine ag (aJ (ac (aa (ai (r:=I ((i+1:Nat):Int)) Jg Jg Jg (by have e:((i+1:Nat):Int)=(i:Int)+1:=(by omega);rw[e];exact aK (by omega) (by omega)) ?_))))
  refine ae Jg Jg (ag ?_)
  have st:=BU hk (show i<l.length by omega) rfl hL hval (hc (by omega))
  refine el (i+1) (_) ⟨rfl,rfl,rfl,rfl,rfl,trivial⟩ ⟨o38,x38,by show i+1≤_;omega,by simpa using hL,st.1,fun _=>by simpa using st.2⟩ (by show l.length-(i+1)<l.length-i;omega)
 ·refine aW (aA (aA (aU (ac (af (aa (ae Jg Jg (ab Jg Jg (ag (ac (au (aF Jg Jg ?_))))))))))))
  exact⟨_,rfl,e3,L,oL,hL,by
   obtain rfl:i=l.length:=by omega
   rw[List.take_of_length_le (by omega),List.take_length] at hval
   exact hval⟩
theorem xv {w:World} {l:List UInt32} {v:Value} {d:UInt32} (hv:bt l v w) (hl:l.length≤1099511627776) (hd:0<d.toNat):
 Calls Tryz.prog 205 #[v,bw d] w (bF fun r w'=>aM w w'∧∃q s,r=.tuple #[q,s]∧bt (lb (val l/d.toNat)) q w'∧bt (lb (val l%d.toNat)) s w'):=by
 refine enter (vs:=[v,bw d]) Tryz.func205 Jg Jg Jg ?_
 have hd0:d.toUInt64≠0:=fun h=>by
  have:=congrArg UInt64.toNat h
  rw[ft] at this
  simp at this
  omega
 refine af (aa (ab Jg Jg (ab Jg Jg (ag (ac (af (aa (ae Jg Jg (aP Jg Jg (bp IJ hv) ?_)))))))))
 obtain⟨v11,w11,hr11,x11,o11,ob11⟩:=tZ IJ (w:=w) w.heap.size (n:=l.length) (by omega) (Nat.le_refl _)
 refine gq Jg Jg Jg hr11 (ab Jg Jg (ag (ac (af (aa (ab Jg Jg (ag (ac (af (af (aa (ae Jg Jg (aP Jg Jg (bp IJ (hv.ext x11)) ?_)))))))))))))
 refine ai Jg Jg Jg (bb (by omega) (by omega)) (ab Jg Jg (ag (ac (ax ?_))))
 refine fN (fun(k:Nat) (L:List UInt32) (r:UInt64)=>[(0,v),(1,bw d),(6,v11),(7,bj r),(8,I ((k:Int)-1))]) (fun(k:Nat) (L:List UInt32) (r:UInt64) w'=>dK w.heap.size L v11 w'∧aM w w'∧k≤l.length∧L.length=l.length∧val (L.drop k)*d.toNat+r.toNat=val (l.drop k)∧r.toNat<d.toNat) (fun(k:Nat) (L:List UInt32) (r:UInt64)=>k) (l.length) (List.replicate l.length 0) (0) ⟨rfl,rfl,rfl,rfl,rfl,trivial⟩ ⟨o11,x11,Nat.le_refl _,by simp,by simp[List.drop_of_length_le,val],hd⟩ ?_
 rintro k L r w4 ⟨oL,e4,hk,hL,hval,hr⟩
 refine af (af (aa (ae Jg Jg (ai Jg Jg Jg (ir) (ag (ac ?_))))))
 refine bi Jg (fun h16=>?_) (fun h16=>?_)
 ·obtain⟨j,rfl⟩:∃j,k=j+1:=⟨k-1,by omega⟩
  have e:((j+1:Nat):Int)-1=(j:Int):=by omega
  rw[e]
  have st:=zp hd (show j<l.length by omega) hL hval hr
  refine aq (ac (af (ax (af (aa (ae Jg Jg (ai Jg Jg Jg (fz 32 (by omega)) (ae Jg Jg (ae Jg Jg ?_)))))))))
  obtain⟨a23,p23,q23⟩:=cL IJ (hv.ext e4) (i:=j) (by omega) .i64
  refine aB Jg Jg Jg (p23 _) (am Jg Jg (ak IK Jg q23) (aQ Jg Jg (bI IK IL) ?_))
  refine ai Jg Jg Jg (iD) (ab Jg Jg (ag (ac (af (aa (ae Jg Jg (ae Jg Jg (ae Jg Jg (ae Jg Jg (aQ Jg Jg (bI IK IL) ?_))))))))))
  refine ai Jg Jg Jg (gt hd0) (aQ Jg Jg (cw IL IK) ?_)
  obtain⟨g34,w34,p34,s34,o34,q34,hb34,c34,ob34⟩:=(oL).setW IJ (i:=j) (by omega) (((r<<<UInt64.ofNat 32|||l[j].toUInt64)/d.toUInt64).toUInt32)
  refine aB Jg Jg Jg (p34 _) (ar Jg Jg s34 ?_)
  have x34:=aM.of_new (e4) q34 hb34
  refine ag (ac (aa (ae Jg Jg (ae Jg Jg (aQ Jg Jg (bI IK IL) (ai Jg Jg Jg (ic hd0) ?_))))))
  refine ab Jg Jg (ag (aJ (ac (aa (ae Jg Jg (ai Jg Jg Jg (bb (by omega) (by omega)) (ab Jg Jg (ag ?_))))))))
  refine dv (j) (_) ((r<<<UInt64.ofNat 32|||l[j].toUInt64)%d.toUInt64) ⟨rfl,rfl,rfl,rfl,rfl,trivial⟩ ⟨o34,x34,by show j≤_;omega,by simpa using hL,st.1,st.2⟩ (by show j<j+1;omega)
 ·refine aW (aA (aA (aU (ac (af (aa ?_))))))
  obtain rfl:k=0:=by omega
  rw[List.drop_zero,List.drop_zero] at hval
  have hq:val l/d.toNat=val L:=by rw[←hval,Nat.mul_comm,Nat.mul_add_div hd,Nat.div_eq_of_lt hr,Nat.add_zero]
  have hm:val l%d.toNat=r.toNat:=by rw[←hval,Nat.mul_comm,Nat.mul_add_mod,Nat.mod_eq_of_lt hr]
  refine ae Jg Jg (an dF Jg Jg (dQ oL.wds) ?_)
  rintro v40 _ ⟨rfl,b40⟩
  refine ae Jg Jg (an xn Jg Jg (xp) ?_)
  rintro v42 w42 ⟨x42,b42⟩
  refine ab Jg Jg (ab Jg Jg (ag (ac (au (aH Jg Jg Jg ?_)))))
  exact⟨_,rfl,(e4.trans x42),_,_,rfl,by rw[hq];exact b40.ext x42,by rw[hm];exact b42⟩
end Go.Rl
namespace Go.Rl
open Go.RowKit Go.Proofs
def rO:List UInt8:=(List.range 256).map fun n=>UInt8.ofNat (bl n)
theorem bl8 (y:UInt8):(UInt8.ofNat (bl y.toNat)).toNat=bl y.toNat∧bl y.toNat≤8:=by
 have:=t7 (n:=y.toNat) (k:=8) y.toNat_lt
 exact⟨by rw[UInt8.toNat_ofNat'];omega,this⟩
theorem A3 {w:World} (y:UInt8):(Instr.index 9 (S rO) (U8 y)).run Tryz.prog w=.ok (U8 (UInt8.ofNat (bl y.toNat))) w:=by
 have hy:=y.toNat_lt
 have hs:(⟨rO.toArray⟩:ByteArray).size=256:=by simp[ByteArray.size,rO]
 rw[S,U8,run_index_string _ _ _ _ _ Tryz.underlying9,dif_pos (by rw[hs];omega)]
 have e:(⟨rO.toArray⟩:ByteArray)[((y.toNat:Int)).toNat]'(by rw[hs];omega)=UInt8.ofNat (bl y.toNat):=by
  show rO.toArray[((y.toNat:Int)).toNat]'(by simp[rO];omega)=_
  simp[rO]
 rw[e];rfl
theorem A4 (x:UInt32) (h:x.toNat<256):bl x.toUInt8.toNat=bl x.toNat:=by
 have:x.toUInt8.toNat=x.toNat%256:=UInt32.toNat_toUInt8 x
 rw[this,Nat.mod_eq_of_lt h]
theorem BZ {a b:UInt32}:a≥b↔b.toNat≤a.toNat:=UInt32.le_iff_toNat_le
theorem rP {w:World} {x:UInt32}:
 Calls Tryz.prog 211 #[bw x] w (bF fun r w'=>w=w'∧r=I ((bl x.toNat:Nat):Int)):=by
 refine enter (vs:=[bw x]) Tryz.func211 Jg Jg Jg ?_
 have hx:=cO x
 refine af (aa (ab Jg Jg (ag (ac (af (af (aa (ae Jg Jg (ai (v:=bw 65536) Jg Jg Jg (pj) (ag (ac ?_)))))))))))
 refine bi Jg (fun h4=>?_) (fun h4=>?_)
 ·have h4':65536≤x.toNat:=BZ.1 h4
  have hb1:=lQ (n:=x.toNat) (s:=16) (by omega)
  have hz:=oA x (s:=16) (by omega)
  refine af (aa (ae Jg Jg (ai Jg Jg Jg (db 16 (by omega)) (ab Jg Jg (ag (ac (aa (ab Jg Jg (ag (ac (af (af (aa (ae Jg Jg ?_))))))))))))))
  refine ai (v:=bw 256) Jg Jg Jg (pj) (ag (ac ?_))
  refine bi Jg (fun h8=>?_) (fun h8=>?_)
  ·have h8':256≤((((x)>>>UInt32.ofNat 16))).toNat:=BZ.1 h8
   have hb2:=lQ (n:=((((x)>>>UInt32.ofNat 16))).toNat) (s:=8) (by omega)
   have hz2:=oA (((x)>>>UInt32.ofNat 16)) (s:=8) (by omega)
   refine af (aa (ae Jg Jg (ai Jg Jg Jg (db 8 (by omega)) (ab Jg Jg (ag (ac (aa (ae Jg Jg (ai Jg Jg Jg (aK (by omega) (by omega)) ?_)))))))))
   refine ab Jg Jg (ag (ac (af (aa (ae Jg Jg ?_)))))
   have hu:=A4 (((((x)>>>UInt32.ofNat 16))>>>UInt32.ofNat 8)) (by first|omega|(rw[hz2];omega))
   refine ae Jg Jg (aQ Jg Jg (eY IK IR) ?_)
   have hy:=bl8 ((((((x)>>>UInt32.ofNat 16))>>>UInt32.ofNat 8))).toUInt8
   refine kH (u:=S rO) (v:=U8 ((((((x)>>>UInt32.ofNat 16))>>>UInt32.ofNat 8))).toUInt8) (by kernel_rfl) Jg Jg (A3 _) ?_
   refine aQ Jg Jg (vj IR IM) (ai Jg Jg Jg (aK (by omega) (by omega)) (ab Jg Jg (ag (ac (au ?_)))))
   refine aF Jg Jg ?_
   exact⟨_,rfl,rfl,congrArg I (by
    try simp only[Nat.reducePow] at*
    first
    |(rw[hz2] at hu;rw[hz] at hb2 hu;rw[hb1,hb2];omega)
    |(rw[hz2] at hu;rw[hb2];omega)
    |(rw[hz] at hu;rw[hb1];omega)
    |omega)⟩
  ·have h8':((((x)>>>UInt32.ofNat 16))).toNat<256:=Nat.lt_of_not_le fun h=>h8 (BZ.2 h)
   refine aq (ac (af (aa (ae Jg Jg ?_))))
   have hu:=A4 (((x)>>>UInt32.ofNat 16)) (by first|omega|(rw[hz2];omega))
   refine ae Jg Jg (aQ Jg Jg (eY IK IR) ?_)
   have hy:=bl8 ((((x)>>>UInt32.ofNat 16))).toUInt8
   refine kH (u:=S rO) (v:=U8 ((((x)>>>UInt32.ofNat 16))).toUInt8) (by kernel_rfl) Jg Jg (A3 _) ?_
   refine aQ Jg Jg (vj IR IM) (ai Jg Jg Jg (aK (by omega) (by omega)) (ab Jg Jg (ag (ac (au ?_)))))
   refine aF Jg Jg ?_
   exact⟨_,rfl,rfl,congrArg I (by
    try simp only[Nat.reducePow] at*
    first
    |(rw[hz2] at hu;rw[hz] at hb2 hu;rw[hb1,hb2];omega)
    |(rw[hz2] at hu;rw[hb2];omega)
    |(rw[hz] at hu;rw[hb1];omega)
    |omega)⟩
 ·have h4':x.toNat<65536:=Nat.lt_of_not_le fun h=>h4 (BZ.2 h)
  refine aq (ac (af (af (aa (ae Jg Jg (ai (v:=bw 256) Jg Jg Jg (pj) (ag (ac ?_))))))))
  refine bi Jg (fun h8=>?_) (fun h8=>?_)
  ·have h8':256≤((x)).toNat:=BZ.1 h8
   have hb2:=lQ (n:=((x)).toNat) (s:=8) (by omega)
   have hz2:=oA (x) (s:=8) (by omega)
   refine af (aa (ae Jg Jg (ai Jg Jg Jg (db 8 (by omega)) (ab Jg Jg (ag (ac (aa (ae Jg Jg (ai Jg Jg Jg (aK (by omega) (by omega)) ?_)))))))))
   refine ab Jg Jg (ag (ac (af (aa (ae Jg Jg ?_)))))
   have hu:=A4 (((x)>>>UInt32.ofNat 8)) (by first|omega|(rw[hz2];omega))
   refine ae Jg Jg (aQ Jg Jg (eY IK IR) ?_)
   have hy:=bl8 ((((x)>>>UInt32.ofNat 8))).toUInt8
   refine kH (u:=S rO) (v:=U8 ((((x)>>>UInt32.ofNat 8))).toUInt8) (by kernel_rfl) Jg Jg (A3 _) ?_
   refine aQ Jg Jg (vj IR IM) (ai Jg Jg Jg (aK (by omega) (by omega)) (ab Jg Jg (ag (ac (au ?_)))))
   refine aF Jg Jg ?_
   exact⟨_,rfl,rfl,congrArg I (by
    try simp only[Nat.reducePow] at*
    first
    |(rw[hz2] at hu;rw[hz] at hb2 hu;rw[hb1,hb2];omega)
    |(rw[hz2] at hu;rw[hb2];omega)
    |(rw[hz] at hu;rw[hb1];omega)
    |omega)⟩
  ·have h8':((x)).toNat<256:=Nat.lt_of_not_le fun h=>h8 (BZ.2 h)
   refine aq (ac (af (aa (ae Jg Jg ?_))))
   have hu:=A4 (x) (by first|omega|(rw[hz2];omega))
   refine ae Jg Jg (aQ Jg Jg (eY IK IR) ?_)
   have hy:=bl8 ((x)).toUInt8
   refine kH (u:=S rO) (v:=U8 ((x)).toUInt8) (by kernel_rfl) Jg Jg (A3 _) ?_
   refine aQ Jg Jg (vj IR IM) (ai Jg Jg Jg (aK (by omega) (by omega)) (ab Jg Jg (ag (ac (au ?_)))))
   refine aF Jg Jg ?_
   exact⟨_,rfl,rfl,congrArg I (by
    try simp only[Nat.reducePow] at*
    first
    |(rw[hz2] at hu;rw[hz] at hb2 hu;rw[hb1,hb2];omega)
    |(rw[hz2] at hu;rw[hb2];omega)
    |(rw[hz] at hu;rw[hb1];omega)
    |omega)⟩
theorem B0 {w:World} {x:UInt32}:
 Calls Tryz.prog 206 #[bw x] w (bF fun r w'=>w=w'∧r=I ((32-bl x.toNat:Nat):Int)):=by
 refine enter (vs:=[bw x]) Tryz.func206 Jg Jg Jg ?_
 have hx:=t7 (n:=x.toNat) (k:=32) x.toNat_lt
 refine af (aa (ab Jg Jg (ag (ac (af (aa (ae Jg Jg (an rK Jg Jg (rP) ?_))))))))
 rintro v4 _ ⟨rfl,rfl⟩
 refine ai (r:=I ((32-bl x.toNat:Nat):Int)) Jg Jg Jg (by have e:((32-bl x.toNat:Nat):Int)=32-((bl x.toNat:Nat):Int):=(by omega);rw[e];exact bb (by omega) (by omega)) ?_
 refine ab Jg Jg (ag (ac (au (aF Jg Jg ?_))))
 exact⟨_,rfl,rfl,rfl⟩
theorem zr {w:World} {l:List UInt32} {v:Value} (hv:bt l v w) (hl:l.length≤1099511627776):
 Calls Tryz.prog 191 #[v] w (bF fun r w'=>w=w'∧r=I ((bl (val l):Nat):Int)):=by
 refine enter (vs:=[v]) Tryz.func191 Jg Jg Jg ?_
 have hll:=gu (cr l)
 refine af (aa (ab Jg Jg (ag (ac (af (aa (ae Jg Jg (an dF Jg Jg (dQ hv) ?_))))))))
 rintro v4 _ ⟨rfl,b4⟩
 refine ab Jg Jg (ag (ac (af (af (aa (ae Jg Jg (aP (r:=I ((lb (val l)).length:Int)) Jg Jg (bp IJ b4) ?_)))))))
 refine ai Jg Jg Jg (aV) (ag (ac ?_))
 refine bi Jg (fun h7=>?_) (fun h7=>?_)
 ·refine af (aa (ab Jg Jg (ag (ac (au (av (aF Jg Jg ?_)))))))
  exact⟨_,rfl,rfl,by
   have:val l=0:=gb.1 (by omega)
   rw[this];rfl⟩
 ·refine aq (ac (af (aa (ae Jg Jg (aP (r:=I ((lb (val l)).length:Int)) Jg Jg (bp IJ b4) (ai (r:=I (((lb (val l)).length-1:Nat):Int)) Jg Jg Jg (by have e:(((lb (val l)).length-1:Nat):Int)=((lb (val l)).length:Int)-1:=(by omega);rw[e];exact bb (by omega) (by omega)) ?_))))))
  refine ai (r:=I ((32*((lb (val l)).length-1:Nat):Nat):Int)) Jg Jg Jg (by have e:((32*((lb (val l)).length-1:Nat):Nat):Int)=32*(((lb (val l)).length-1:Nat):Int):=(by omega);rw[e];exact eR (by omega) (by omega)) ?_
  refine ae Jg Jg (ae Jg Jg (aP (r:=I ((lb (val l)).length:Int)) Jg Jg (bp IJ b4) (ai (r:=I (((lb (val l)).length-1:Nat):Int)) Jg Jg Jg (by have e:(((lb (val l)).length-1:Nat):Int)=((lb (val l)).length:Int)-1:=(by omega);rw[e];exact bb (by omega) (by omega)) ?_)))
  obtain⟨a16,p16,q16⟩:=cL IJ b4 (i:=((lb (val l)).length-1:Nat)) (by omega) .i64
  refine aB Jg Jg Jg (p16 _) (am Jg Jg (ak IK Jg q16) (an rK Jg Jg (rP) ?_))
  rintro v18 _ ⟨rfl,rfl⟩
  have hb:=GK (n:=val l) (i:=(lb (val l)).length-1) (by omega)
  have hb32:=t7 (n:=((lb (val l))[(lb (val l)).length-1]'(by omega)).toNat) (k:=32) (cO _)
  refine ai (r:=I ((((32*((lb (val l)).length-1:Nat):Nat))+(bl ((lb (val l))[(lb (val l)).length-1]'(by omega)).toNat:Nat):Nat):Int)) Jg Jg Jg (by have e:((((32*((lb (val l)).length-1:Nat):Nat))+(bl ((lb (val l))[(lb (val l)).length-1]'(by omega)).toNat:Nat):Nat):Int)=((32*((lb (val l)).length-1:Nat):Nat):Int)+((bl ((lb (val l))[(lb (val l)).length-1]'(by omega)).toNat:Nat):Int):=(by omega);rw[e];exact aK (by omega) (by omega)) ?_
  refine ab Jg Jg (ag (ac (au (aF Jg Jg ?_))))
  exact⟨_,rfl,rfl,by rw[hb]⟩
theorem A7 {a L:List UInt32} {i s V:Nat} {o:UInt32} (hi:i<a.length) (hL:L.length=a.length) (hv:val (L.take i)+4294967296^i*(val (a.drop i)/2^s)=V)
 (st:o.toNat+4294967296*(val (a.drop (i+1))/2^s)=(a[i].toNat+4294967296*val (a.drop (i+1)))/2^s):val ((L.set i o).take (i+1))+4294967296^(i+1)*(val (a.drop (i+1))/2^s)=V:=by
 rw[fj (by omega),Nat.add_assoc,Nat.pow_succ,Nat.mul_assoc,←Nat.mul_add,st,←eD hi,hv]
theorem xw {a:List UInt32} {i:Nat} {x:UInt64} (hi:i<a.length) (hx:(∃h:i+1<a.length,x=a[i].toUInt64|||a[i+1].toUInt64<<<UInt64.ofNat 32)∨(a.length≤i+1∧x=a[i].toUInt64)) {s:Nat} (hs:s<32):
 ((x>>>UInt64.ofNat s).toUInt32).toNat+4294967296*(val (a.drop (i+1))/2^s)=(a[i].toNat+4294967296*val (a.drop (i+1)))/2^s:=by
 refine(DU hs ?_).resolve_right (by have:=cO a[i];omega)
 rcases hx with⟨h,rfl⟩|⟨h,rfl⟩
 ·rw[GJ (ft _) (cO _),eD h]
  have:=cO a[i+1]
  rw[Nat.add_mul_mod_self_left,Nat.mod_eq_of_lt this]
 ·rw[ft,List.drop_of_length_le h];simp[val]
theorem B1 {w:World} {l:List UInt32} {v:Value} {k:Nat} (hv:bt l v w) (hl:l.length≤1099511627776) (hk:k≤1048576):
 Calls Tryz.prog 210 #[v,I (k:Int)] w (bF fun r w'=>aM w w'∧∃q,r=.tuple #[q,I 0]∧bt (lb (val l/2^k)) q w'):=by
 refine enter (vs:=[v,I (k:Int)]) Tryz.func210 Jg Jg Jg ?_
 have hll:=gu (cr l)
 refine af (aa (ab Jg Jg (ab Jg Jg (ag (ac (af (af (aa (ae Jg Jg (ai Jg Jg Jg (bZ (by omega) aX) (ae Jg Jg (al Jg ?_))))))))))))
 refine ae Jg Jg (al Jg (ai Jg Jg Jg (bZ (by omega) ce) (aC Jg Jg Jg (ag (ac (cq Jg (aq (ac (af (aa (ae Jg Jg (an dF Jg Jg (dQ hv) ?_))))))))))))
 rintro v17 _ ⟨rfl,b17⟩
 refine ab Jg Jg (ag (ac (af (af (aa (ae Jg Jg (ai (r:=I ((k/32:Nat):Int)) Jg Jg Jg (by have e:((k/32:Nat):Int)=(k:Int)/32:=(by omega);rw[e];exact mz (by omega) (by omega) (by omega)) ?_)))))))
 refine ae Jg Jg (aP Jg Jg (bp IJ b17) (ai Jg Jg Jg (ir) (ag (ac ?_))))
 refine bi Jg (fun h22=>?_) (fun h22=>?_)
 ·refine af (aa (ab Jg Jg (ab Jg Jg (ag (ac (au (av (aH Jg Jg Jg ?_))))))))
  exact⟨_,rfl,aM.refl _,_,rfl,by
   have h1:=cr (lb (val l))
   rw[bJ] at h1
   have h2:(4294967296:Nat)^(lb (val l)).length=2^(32*(lb (val l)).length):=by rw[Nat.pow_mul]
   have h3:2^(32*(lb (val l)).length)≤2^k:=Nat.pow_le_pow_right (by omega) (by omega)
   rw[Nat.div_eq_of_lt (by omega)]
   exact bt.nil _⟩
 ·refine aq (ac (af (aa (ae Jg Jg (ae Jg Jg (ai (r:=I ((k/32:Nat):Int)) Jg Jg Jg (by have e:((k/32:Nat):Int)=(k:Int)/32:=(by omega);rw[e];exact mz (by omega) (by omega) (by omega)) ?_))))))
  obtain⟨v26,p26,b26⟩:=DS IJ b17 (lo:=k/32) (by omega) .i64
  refine cu Jg Jg Jg Jg Jg (p26 _) (ab Jg Jg (ag (ac (af ?_))))
  obtain⟨a,ha⟩:∃a,a=(lb (val l)).drop (k/32):=⟨_,rfl⟩
  have hva:val a=val l/2^(32*(k/32)):=by
   have h1:=d6 (lb (val l)) (k/32) (by omega)
   have h2:=cr ((lb (val l)).take (k/32))
   rw[List.length_take,Nat.min_eq_left (by omega)] at h2
   rw[bJ] at h1
   have h3:(4294967296:Nat)^(k/32)=2^(32*(k/32)):=by rw[Nat.pow_mul]
   rw[h3] at h1 h2
   rw[ha]
   conv=>rhs;rw[h1]
   rw[Nat.add_mul_div_left _ _ (Nat.pow_pos (by omega)),Nat.div_eq_of_lt h2,Nat.zero_add]
  have hal:a.length≤1099511627776:=by rw[ha,List.length_drop];omega
  rw[←ha] at b26
  refine aa (ae Jg Jg (aP (r:=I (a.length:Int)) Jg Jg (bp IJ b26) ?_))
  obtain⟨v29,w29,hr29,x29,o29,ob29⟩:=tZ IJ (w:=w) w.heap.size (n:=a.length) (by omega) (Nat.le_refl _)
  refine gq Jg Jg Jg hr29 (ab Jg Jg (ag (ac (af (af (aa (ae Jg Jg (aP (r:=I (a.length:Int)) Jg Jg (bp IJ (b26.ext x29)) ?_))))))))
  refine ae Jg Jg (ag (ac (ax ?_)))
  refine ga (fun(i:Nat) (L:List UInt32)=>[(0,v26),(1,I (k:Int)),(6,v29),(30,v26),(31,I (a.length:Int)),(32,I (i:Int))]) (fun(i:Nat) (L:List UInt32) w'=>dK w.heap.size L v29 w'∧aM w w'∧i≤a.length∧L.length=a.length∧val (L.take i)+4294967296^i*(val (a.drop i)/2^(k%32))=val a/2^(k%32)) (fun(i:Nat) (L:List UInt32)=>a.length-i) (0) (List.replicate a.length 0) ⟨rfl,rfl,rfl,rfl,rfl,rfl,trivial⟩ ⟨o29,x29,by simp,by simp,by simp[val]⟩ ?_
  rintro i L w9 ⟨oL,e9,hi,hL,hval⟩
  refine af (aa (ai Jg Jg Jg (aX) (ag (ac (af ?_)))))
  refine bi Jg (fun h33=>?_) (fun h33=>?_)
  ·have hia:i<a.length:=by omega
   refine aq (ac (af (ax (af (aa (ae Jg Jg ?_))))))
   obtain⟨a35,p35,q35⟩:=cL IJ (b26.ext e9) (i:=i) (by omega) .i64
   refine aB Jg Jg Jg (p35 _) (am Jg Jg (ak IK Jg q35) (ab Jg Jg (ab Jg Jg (ag (ac (af (aa (ae Jg Jg ?_))))))))
   refine aQ Jg Jg (bI IK IL) (ab Jg Jg (ag (ac (af (af (aa (ae Jg Jg (ai (r:=I ((i+1:Nat):Int)) Jg Jg Jg (by have e:((i+1:Nat):Int)=(i:Int)+1:=(by omega);rw[e];exact aK (by omega) (by omega)) ?_))))))))
   refine ae Jg Jg (aP (r:=I (a.length:Int)) Jg Jg (bp IJ (b26.ext e9)) (ai Jg Jg Jg (aX) (ag (ac ?_))))
   refine bi Jg (fun h43=>?_) (fun h43=>?_)
   ·refine aa (ae Jg Jg (ae Jg Jg (ae Jg Jg (ai (r:=I ((i+1:Nat):Int)) Jg Jg Jg (by have e:((i+1:Nat):Int)=(i:Int)+1:=(by omega);rw[e];exact aK (by omega) (by omega)) ?_))))
    obtain⟨a48,p48,q48⟩:=cL IJ (b26.ext e9) (i:=(i+1:Nat)) (by omega) .i64
    refine aB Jg Jg Jg (p48 _) (am Jg Jg (ak IK Jg q48) (aQ Jg Jg (bI IK IL) ?_))
    refine ai Jg Jg Jg (fz 32 (by omega)) (ai Jg Jg Jg (iD) (ab Jg Jg (ag (ac (aa (ae Jg Jg (ae Jg Jg (ae Jg Jg (ae Jg Jg ?_)))))))))
    refine ai (r:=I ((k%32:Nat):Int)) Jg Jg Jg (by have e:((k%32:Nat):Int)=(k:Int)%32:=(by omega);rw[e];exact mA (by omega) (by omega)) ?_
    refine ai Jg Jg Jg (du ((k%32:Nat)) (by omega)) (aQ Jg Jg (cw IL IK) ?_)
    have st:=xw (x:=(((((a[i])).toUInt64)|||(((((a[(i+1:Nat)])).toUInt64)<<<UInt64.ofNat 32))))) hia (by first|exact .inl ⟨by omega,rfl⟩|exact .inr ⟨by omega,rfl⟩) (Nat.mod_lt k (show 0<32 by omega))
    obtain⟨g60,w60,p60,s60,o60,q60,hb60,c60,ob60⟩:=(oL).setW IJ (i:=i) (by omega) (((((((a[i])).toUInt64)|||(((((a[(i+1:Nat)])).toUInt64)<<<UInt64.ofNat 32))))>>>UInt64.ofNat (k%32)).toUInt32)
    refine aB Jg Jg Jg (p60 _) (ar Jg Jg s60 ?_)
    have x60:=aM.of_new (e9) q60 hb60
    refine ag (aJ (ac (aa (ai (r:=I ((i+1:Nat):Int)) Jg Jg Jg (by have e:((i+1:Nat):Int)=(i:Int)+1:=(by omega);rw[e];exact aK (by omega) (by omega)) ?_))))
    refine ae Jg Jg (ag ?_)
    refine el (i+1) (_) ⟨rfl,rfl,rfl,rfl,rfl,rfl,trivial⟩ ⟨o60,x60,hia,by simpa using hL,A7 hia hL hval st⟩ (by show a.length-(i+1)<a.length-i;omega)
   ·refine aq (ac (aa (ae Jg Jg (ae Jg Jg (ae Jg Jg (ae Jg Jg (ai (r:=I ((k%32:Nat):Int)) Jg Jg Jg (by have e:((k%32:Nat):Int)=(k:Int)%32:=(by omega);rw[e];exact mA (by omega) (by omega)) ?_)))))))
    refine ai Jg Jg Jg (du ((k%32:Nat)) (by omega)) (aQ Jg Jg (cw IL IK) ?_)
    have st:=xw (x:=(((a[i])).toUInt64)) hia (by first|exact .inl ⟨by omega,rfl⟩|exact .inr ⟨by omega,rfl⟩) (Nat.mod_lt k (show 0<32 by omega))
    obtain⟨g60,w60,p60,s60,o60,q60,hb60,c60,ob60⟩:=(oL).setW IJ (i:=i) (by omega) (((((a[i])).toUInt64)>>>UInt64.ofNat (k%32)).toUInt32)
    refine aB Jg Jg Jg (p60 _) (ar Jg Jg s60 ?_)
    have x60:=aM.of_new (e9) q60 hb60
    refine ag (aJ (ac (aa (ai (r:=I ((i+1:Nat):Int)) Jg Jg Jg (by have e:((i+1:Nat):Int)=(i:Int)+1:=(by omega);rw[e];exact aK (by omega) (by omega)) ?_))))
    refine ae Jg Jg (ag ?_)
    refine el (i+1) (_) ⟨rfl,rfl,rfl,rfl,rfl,rfl,trivial⟩ ⟨o60,x60,hia,by simpa using hL,A7 hia hL hval st⟩ (by show a.length-(i+1)<a.length-i;omega)
  ·refine aW (aA (aA (aU (ac (af (aa ?_))))))
   have hla:val L=val l/2^k:=by
    rw[List.take_of_length_le (by omega),List.drop_of_length_le (by omega)] at hval
    simp only[val,Nat.zero_div,Nat.mul_zero,Nat.add_zero] at hval
    rw[hval,hva,Nat.div_div_eq_div_mul,←Nat.pow_add,Nat.div_add_mod]
   refine ae Jg Jg (an dF Jg Jg (dQ oL.wds) ?_)
   rintro v63 _ ⟨rfl,b63⟩
   refine ab Jg Jg (ab Jg Jg (ag (ac (au (aH Jg Jg Jg ?_)))))
   exact⟨_,rfl,e9,_,rfl,by rw[←hla];exact b63⟩
end Go.Rl
namespace Go.Rl
theorem xx {V U v1 v2 u01 u2 P Vl Ul q r:Nat} (hV:V=(v1*4294967296+v2)*P+Vl) (hU:U=(u01*4294967296+u2)*P+Ul) (hUl:Ul<P) (hqr:q*v1+r=u01)
 (h:r*4294967296+u2<q*v2):U<q*V:=by
 have h1:u01*4294967296+u2+1≤q*(v1*4294967296+v2):=by
  rw[←hqr,Nat.mul_add,←Nat.mul_assoc,Nat.add_mul];omega
 have h2:(u01*4294967296+u2+1)*P≤q*(v1*4294967296+v2)*P:=Nat.mul_le_mul_right _ h1
 have h3:q*(v1*4294967296+v2)*P≤q*V:=by
  rw[hV,Nat.mul_assoc];exact Nat.mul_le_mul_left _ (Nat.le_add_right _ _)
 rw[Nat.add_mul _ 1] at h2
 omega
theorem DV {V U v1 v2 u01 u2 P Vl Ul q:Nat} (hV:V=(v1*4294967296+v2)*P+Vl) (hU:U=(u01*4294967296+u2)*P+Ul) (hVl:Vl<P) (h1:0<v1) (hq:0<q) (hqB:q≤4294967296)
 (h:q*(v1*4294967296+v2)≤u01*4294967296+u2):(q-1)*V≤U:=by
 obtain⟨m,rfl⟩:∃m,q=m+1:=⟨q-1,by omega⟩
 rw[Nat.add_sub_cancel]
 have h2:(m+1)*(v1*4294967296+v2)*P≤(u01*4294967296+u2)*P:=Nat.mul_le_mul_right _ h
 have h3:m*Vl≤(v1*4294967296+v2)*P:=by
  have a:m*Vl≤4294967296*P:=Nat.mul_le_mul (by omega) (by omega)
  have b:4294967296*P≤(v1*4294967296+v2)*P:=Nat.mul_le_mul_right _ (by omega)
  omega
 rw[hV,Nat.mul_add,←Nat.mul_assoc]
 rw[Nat.add_mul m 1,Nat.one_mul,Nat.add_mul] at h2
 omega
theorem mJ {V U v1 v2 u01 u2 P Vl Ul q r:Nat} (hV:V=(v1*4294967296+v2)*P+Vl) (hU:U=(u01*4294967296+u2)*P+Ul) (hVl:Vl<P) (h1:0<v1) (hv2:v2<4294967296) (hqB:q<4294967296) (hqr:q*v1+r=u01)
 (h:4294967296≤r∨q*v2≤r*4294967296+u2):(q-1)*V≤U:=by
 rcases Nat.eq_zero_or_pos q with rfl|hq
 ·simp
 ·refine DV hV hU hVl h1 hq (by omega) ?_
  rw[Nat.mul_add,←Nat.mul_assoc]
  have hp:q*v2≤4294967295*4294967295:=Nat.mul_le_mul (by omega) (by omega)
  omega
theorem DW {v1 u0 u1 q r:Nat} (hu0:u0≤v1) (hu1:u1<4294967296) (hqr:q*v1+r=u0*4294967296+u1) (hr:4294967296≤r):q<4294967296:=by
 rcases Nat.lt_or_ge q 4294967296 with h|h
 ·exact h
 ·have:=Nat.mul_le_mul_right v1 h
  omega
theorem Hi {V U v1 u01 P Q:Nat} (hV:v1*P≤V) (hU:U<(u01+1)*P) (h1:0<v1) (h:Q*V≤U):Q≤u01/v1:=by
 rw[Nat.le_div_iff_mul_le h1]
 have h2:Q*v1*P≤Q*V:=by rw[Nat.mul_assoc];exact Nat.mul_le_mul_left _ hV
 have h3:Q*v1*P<(u01+1)*P:=by omega
 have:=Nat.lt_of_mul_lt_mul_right h3
 omega
theorem Ia {u lo b:Nat} (hu:u<4294967296) (hlo:lo<4294967296) (hb:b≤1) {x:UInt64} (hx:x.toNat=(18446744073709551616-b+(18446744073709551616-lo+u)%18446744073709551616)%18446744073709551616):
 x.toNat%4294967296+lo+b=u+4294967296*(x.toNat/9223372036854775808)∧x.toNat/9223372036854775808≤1:=by
 omega
theorem DX {L v:List UInt32} {M:List UInt32} {i:Nat} {q c b x:UInt64} (hi:i<v.length) (hL:v.length<L.length) (hM:M.length=L.length) (hq:q.toNat<4294967296) (hc:c.toNat<4294967296) (hb:b.toNat≤1)
 (hMi:M.drop i=L.drop i) (hinv:val (L.take i)+4294967296^i*(c.toNat+b.toNat)=val (M.take i)+q.toNat*val (v.take i))
 (hx:x=(M[i]'(by omega)).toUInt64-((c+q*v[i].toUInt64).toUInt32).toUInt64-b):
 (M.set i x.toUInt32).drop (i+1)=L.drop (i+1)∧((c+q*v[i].toUInt64)>>>UInt64.ofNat 32).toNat<4294967296∧(x>>>UInt64.ofNat 63).toNat≤1∧
   val (L.take (i+1))+4294967296^(i+1)*(((c+q*v[i].toUInt64)>>>UInt64.ofNat 32).toNat+(x>>>UInt64.ofNat 63).toNat)=val ((M.set i x.toUInt32).take (i+1))+q.toNat*val (v.take (i+1)):=by
 have hd:=cO v[i]
 have hMl:M[i]'(by omega)=L[i]'(by omega):=by
  have h1:=List.getElem?_drop (xs:=M) (i:=i) (j:=0)
  have h2:=List.getElem?_drop (xs:=L) (i:=i) (j:=0)
  rw[hMi] at h1
  rw[h1,Nat.add_zero,List.getElem?_eq_getElem (by omega),List.getElem?_eq_getElem (by omega)] at h2
  exact Option.some.inj h2
 have hu:=cO (M[i]'(by omega))
 have hprod:q.toNat*v[i].toNat≤4294967295*4294967295:=Nat.mul_le_mul (by omega) (by omega)
 have hC:(c+q*v[i].toUInt64).toNat=c.toNat+q.toNat*v[i].toNat:=by
  rw[nh,t6,ft];omega
 have hhi:((c+q*v[i].toUInt64)>>>UInt64.ofNat 32).toNat=(c.toNat+q.toNat*v[i].toNat)/4294967296:=by rw[qg _ (by omega),hC]
 have hb1:(x>>>UInt64.ofNat 63).toNat=x.toNat/9223372036854775808:=by rw[qg _ (by omega)]
 have hxn:x.toNat=(18446744073709551616-b.toNat+(18446744073709551616-(c.toNat+q.toNat*v[i].toNat)%4294967296+(M[i]'(by omega)).toNat)%18446744073709551616)%18446744073709551616:=by
  rw[hx,oB,oB,ft,ft,j7,hC]
 obtain⟨hs1,hs2⟩:=Ia hu (Nat.mod_lt _ (by omega)) hb hxn
 refine⟨?_,by rw[hhi];omega,by rw[hb1];exact hs2,?_⟩
 ·rw[List.drop_set_of_lt (by omega)]
  have:=congrArg (List.drop 1) hMi
  rwa [List.drop_drop,List.drop_drop] at this
 ·rw[fj (by omega),bN (by omega),bN hi,hhi,hb1,j7,←hMl,Nat.pow_succ,Nat.mul_add q.toNat,Nat.mul_left_comm q.toNat]
  have hdm:=Nat.div_add_mod (c.toNat+q.toNat*v[i].toNat) 4294967296
  have key:(M[i]'(by omega)).toNat+4294967296*((c.toNat+q.toNat*v[i].toNat)/4294967296+x.toNat/9223372036854775808)=x.toNat%4294967296+q.toNat*v[i].toNat+(c.toNat+b.toNat):=by omega
  have k2:=congrArg (4294967296^i* ·) key
  simp only[Nat.mul_add] at k2 hinv⊢
  simp only[Nat.mul_assoc] at k2⊢
  omega
theorem DY {M v L:List UInt32} {i:Nat} {c:UInt64} (hi:i<v.length) (hL:v.length<L.length) (hM:M.length=L.length) (hc:c.toNat≤1)
 (hMi:M.drop i=L.drop i) (hinv:val (M.take i)+4294967296^i*c.toNat=val (L.take i)+val (v.take i)):
 (M.set i (c+((M[i]'(by omega)).toUInt64+v[i].toUInt64)).toUInt32).drop (i+1)=L.drop (i+1)∧((c+((M[i]'(by omega)).toUInt64+v[i].toUInt64))>>>UInt64.ofNat 32).toNat≤1∧
   val ((M.set i (c+((M[i]'(by omega)).toUInt64+v[i].toUInt64)).toUInt32).take (i+1))+4294967296^(i+1)*((c+((M[i]'(by omega)).toUInt64+v[i].toUInt64))>>>UInt64.ofNat 32).toNat=val (L.take (i+1))+val (v.take (i+1)):=by
 have hd:=cO v[i]
 have hMl:M[i]'(by omega)=L[i]'(by omega):=by
  have h1:=List.getElem?_drop (xs:=M) (i:=i) (j:=0)
  have h2:=List.getElem?_drop (xs:=L) (i:=i) (j:=0)
  rw[hMi] at h1
  rw[h1,Nat.add_zero,List.getElem?_eq_getElem (by omega),List.getElem?_eq_getElem (by omega)] at h2
  exact Option.some.inj h2
 have hu:=cO (M[i]'(by omega))
 have hC:(c+((M[i]'(by omega)).toUInt64+v[i].toUInt64)).toNat=c.toNat+((M[i]'(by omega)).toNat+v[i].toNat):=by
  rw[nh,nh,ft,ft];omega
 have hhi:((c+((M[i]'(by omega)).toUInt64+v[i].toUInt64))>>>UInt64.ofNat 32).toNat=(c.toNat+((M[i]'(by omega)).toNat+v[i].toNat))/4294967296:=by rw[qg _ (by omega),hC]
 refine⟨?_,by rw[hhi];omega,?_⟩
 ·rw[List.drop_set_of_lt (by omega)]
  have:=congrArg (List.drop 1) hMi
  rwa [List.drop_drop,List.drop_drop] at this
 ·rw[fj (by omega),bN (by omega),bN hi,hhi,j7,hC,←hMl,Nat.pow_succ]
  have key:(c.toNat+((M[i]'(by omega)).toNat+v[i].toNat))%4294967296+4294967296*((c.toNat+((M[i]'(by omega)).toNat+v[i].toNat))/4294967296)=(M[i]'(by omega)).toNat+v[i].toNat+c.toNat:=by omega
  have k2:=congrArg (4294967296^i* ·) key
  simp only[Nat.mul_add] at k2 hinv⊢
  simp only[Nat.mul_assoc] at k2⊢
  omega
theorem B7 {n j:Nat} (h1:4294967296^j≤n) (h2:n<4294967296^(j+1)):(lb n).length=j+1:=by
 have a:=gu h2
 have b:=cr (lb n)
 rw[bJ] at b
 have c:=(Nat.pow_lt_pow_iff_right (a:=4294967296) (by omega)).1 (Nat.lt_of_le_of_lt h1 b)
 omega
theorem lR {x y:Nat}:pq x y<0↔x<y:=by
 unfold pq
 split
 ·simp;assumption
 ·split
  ·simp;omega
  ·simp;omega
theorem DZ {n k:Nat} (h:(lb n).length=k+2):
 32-bl ((lb n)[k+1]'(by omega)).toNat<32∧(lb (n*2^(32-bl ((lb n)[k+1]'(by omega)).toNat))).length=k+2:=by
 have hn:0<n:=by
  rcases Nat.eq_zero_or_pos n with h0|h0
  ·subst h0;simp[fO] at h
  ·exact h0
 have ht:=vy (n:=n) (i:=k+1) (by omega)
 have h1:=AY hn
 rw[h] at h1
 have hb:=(oD ht).2
 have hp:=rI ht
 have h32:=t7 (n:=((lb n)[k+1]'(by omega)).toNat) (k:=32) (cO _)
 have hv:n<(((lb n)[k+1]'(by omega)).toNat+1)*4294967296^(k+1):=by
  have e:=bN (l:=lb n) (i:=k+1) (by omega)
  rw[List.take_of_length_le (by omega),bJ] at e
  have:=cr ((lb n).take (k+1))
  rw[List.length_take,Nat.min_eq_left (by omega)] at this
  rw[Nat.mul_comm,Nat.mul_add]
  omega
 generalize ((lb n)[k+1]'(by omega)).toNat=t at*
 refine⟨by omega,B7 (j:=k+1) ?_ ?_⟩
 ·exact Nat.le_trans h1 (Nat.le_mul_of_pos_right _ (Nat.pow_pos (by omega)))
 ·have hs:0<2^(32-bl t):=Nat.pow_pos (by omega)
  have a:n*2^(32-bl t)<(t+1)*4294967296^(k+1)*2^(32-bl t):=Nat.mul_lt_mul_of_pos_right hv hs
  have b:(t+1)*4294967296^(k+1)*2^(32-bl t)≤2^bl t*4294967296^(k+1)*2^(32-bl t):=Nat.mul_le_mul_right _ (Nat.mul_le_mul_right _ hb)
  have c:2^bl t*4294967296^(k+1)*2^(32-bl t)=4294967296^(k+1+1):=by
   rw[Nat.mul_right_comm,←Nat.pow_add,show bl t+(32-bl t)=32 by omega,Nat.pow_succ 4294967296 (k+1),Nat.mul_comm]
  omega
theorem D1 {x:UInt64} (h:x.toNat=0):x=0:=UInt64.toNat_inj.1 h
theorem xy {M:List UInt32} {n:Nat} (h:M.length=n+1) (x:UInt32):val (M.set n x)=val (M.take n)+4294967296^n*x.toNat:=by
 have:=fj (l:=M) (i:=n) (by omega) x
 rwa [List.take_of_length_le (by simp;omega)] at this
theorem xz {M:List UInt32} {n:Nat} (h:M.length=n+1):val M=val (M.take n)+4294967296^n*(M[n]'(by omega)).toNat:=by
 rw[←bN (by omega),List.take_of_length_le (by omega)]
theorem xB {M L:List UInt32} {i:Nat} (h:M.drop i=L.drop i) (h1:i<M.length) (h2:i<L.length):M[i]=L[i]:=by
 have e1:=List.getElem?_drop (xs:=M) (i:=i) (j:=0)
 have e2:=List.getElem?_drop (xs:=L) (i:=i) (j:=0)
 rw[h] at e1
 rw[e1,Nat.add_zero,List.getElem?_eq_getElem h1,List.getElem?_eq_getElem h2] at e2
 exact Option.some.inj e2
theorem F0 {L v M:List UInt32} {q c b x:UInt64} (hL:L.length=v.length+1) (hM:M.length=L.length) (hc:c.toNat<4294967296) (hb:b.toNat≤1)
 (hMi:M.drop v.length=L.drop v.length) (hinv:val (L.take v.length)+4294967296^v.length*(c.toNat+b.toNat)=val (M.take v.length)+q.toNat*val (v.take v.length))
 (hx:x=(M[v.length]'(by omega)).toUInt64-c-b):
 val L+4294967296^(v.length+1)*(x.toNat/9223372036854775808)=val (M.set v.length x.toUInt32)+q.toNat*val v∧x.toNat/9223372036854775808≤1:=by
 have hu:=cO (M[v.length]'(by omega))
 have hxn:x.toNat=(18446744073709551616-b.toNat+(18446744073709551616-c.toNat+(M[v.length]'(by omega)).toNat)%18446744073709551616)%18446744073709551616:=by
  rw[hx,oB,oB,ft]
 obtain⟨hs1,hs2⟩:=Ia hu hc hb hxn
 refine⟨?_,hs2⟩
 rw[xy (by omega),j7,xz hL,←xB hMi (by omega) (by omega),Nat.pow_succ]
 rw[List.take_length (l:=v)] at hinv
 have k2:=congrArg (4294967296^v.length* ·) hs1
 simp only[Nat.mul_add] at k2 hinv⊢
 simp only[Nat.mul_assoc] at k2⊢
 omega
theorem D3 {L v N M:List UInt32} {q:Nat} {c:UInt64} (hL:L.length=v.length+1) (hN:N.length=L.length) (hM:M.length=L.length) (hc:c.toNat≤1) (hMi:M.drop v.length=N.drop v.length)
 (hinv:val (M.take v.length)+4294967296^v.length*c.toNat=val (N.take v.length)+val (v.take v.length)) (ht:val L+4294967296^(v.length+1)=val N+q*val v) (h1:(q-1)*val v≤val L):
 0<q∧val L=(q-1)*val v+val (M.set v.length ((M[v.length]'(by omega))+c.toUInt32))∧val (M.set v.length ((M[v.length]'(by omega))+c.toUInt32))<val v:=by
 have hu:=cO (M[v.length]'(by omega))
 have hNl:=cr N
 rw[hN,hL] at hNl
 have hq:0<q:=by
  rcases Nat.eq_zero_or_pos q with h|h
  ·subst h;omega
  ·exact h
 obtain⟨p,rfl⟩:∃p,q=p+1:=⟨q-1,by omega⟩
 rw[Nat.add_sub_cancel] at h1⊢
 rw[Nat.add_mul,Nat.one_mul] at ht
 have hlast:((M[v.length]'(by omega))+c.toUInt32).toNat=((M[v.length]'(by omega)).toNat+c.toNat)%4294967296:=by
  rw[UInt32.toNat_add,j7];omega
 have hF:=xy (show M.length=v.length+1 by omega) ((M[v.length]'(by omega))+c.toUInt32)
 have hFl:=cr (M.set v.length ((M[v.length]'(by omega))+c.toUInt32))
 have hFe:(M.set v.length ((M[v.length]'(by omega))+c.toUInt32)).length=v.length+1:=by simp;omega
 rw[hFe] at hFl
 have hNe:=xz (show N.length=v.length+1 by omega)
 rw[←xB hMi (by omega) (by omega)] at hNe
 rw[List.take_length (l:=v)] at hinv
 have hdm:=Nat.div_add_mod ((M[v.length]'(by omega)).toNat+c.toNat) 4294967296
 have hs:((M[v.length]'(by omega)).toNat+c.toNat)/4294967296≤1:=by omega
 have key:val (M.set v.length ((M[v.length]'(by omega))+c.toUInt32))+4294967296^(v.length+1)*(((M[v.length]'(by omega)).toNat+c.toNat)/4294967296)=val N+val v:=by
  rw[hF,hlast,hNe,Nat.pow_succ]
  have k2:=congrArg (4294967296^v.length* ·) hdm
  simp only[Nat.mul_add] at k2⊢
  simp only[Nat.mul_assoc] at k2⊢
  omega
 generalize val (M.set v.length ((M[v.length]'(by omega))+c.toUInt32))=F at*
 generalize ((M[v.length]'(by omega)).toNat+c.toNat)/4294967296=s at*
 rcases(show s=0∨s=1 by omega) with rfl|rfl
 ·omega
 ·refine⟨by omega,by omega,by omega⟩
theorem Ca {A Q V X lo part q part' P:Nat} (hX:X=lo+P*part) (hlo:lo<P) (hA:A=Q*(P*4294967296)*V+X) (hp:part=q*V+part') (hr:part'<V):
 A=(q+4294967296*Q)*P*V+(lo+P*part')∧lo+P*part'<P*V:=by
 constructor
 ·rw[hA,hX,hp,Nat.mul_add P,Nat.add_mul q,Nat.add_mul]
  have e1:4294967296*Q*P*V=Q*(P*4294967296)*V:=by
   rw[Nat.mul_comm 4294967296 Q,Nat.mul_assoc Q,Nat.mul_comm 4294967296 P]
  have e2:q*P*V=P*(q*V):=by rw[Nat.mul_comm q P,Nat.mul_assoc]
  rw[e1,e2];omega
 ·have:P*(part'+1)≤P*V:=Nat.mul_le_mul_left _ hr
  rw[Nat.mul_add] at this
  omega
end Go.Rl

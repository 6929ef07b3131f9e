/- Part 3 of a proof: plain facts and walks of functions, merged by a program. Conditions: each lemma names its own. -/
import Derived.Test.YtpeidnhjcompmaaGreatDoorJe2
namespace Go.Rl
open Go.RowKit
section
variable {P:Program} {ops:Array Oper} {Env:World→Prop} {Rl:World→World→Prop} {mo:Bool} {Pn:List PanicEntry→World→Prop} {N:Nat}
def jw (ops:Array Oper) (n:Nat):Bool:=
 (List.range ops.size).all fun t=>decide (t≤n)||(List.range t).any fun j=>decide (n≤j)&&Region.waitsFor .any ops t j
theorem wi {n:Nat} {listed:Array Bool} (hs:Region.sinkB .any ops n=true) (hc:jw ops n=true) (inv:HeadInv .any ops n listed):
 ∀(d i:Nat),n-i=d→i<n→listed.getD i true=false→∀t,n≤t→t∉Region.ready .any ops listed:=by
 intro d
 induction d using Nat.strongRecOn with
 |_ d ih=>
  intro i hd hi hun t ht hr
  obtain⟨_,ot,hot,hall⟩:=mem_ready.1 hr
  have htlt:t<ops.size:=(Array.getElem?_eq_some_iff.1 hot).1
  by_cases htn:t=n
  ·subst htn
   have h1:=List.all_eq_true.1 hs i (List.mem_range.2 hi)
   obtain⟨j,hj,hj2⟩:=List.any_eq_true.1 h1
   simp only[Bool.and_eq_true,decide_eq_true_eq] at hj2
   obtain⟨oj,hoj,e,he,hb,hon⟩:=Region.waitsFor_spec hj2.2
   have hjle:j≤t:=by have:=List.mem_range.1 hj;omega
   by_cases hjt:j=t
   ·subst hjt
    have:oj=ot:=Option.some.inj (hoj.symm.trans hot)
    subst this
    have h2:=hall e he hb
    rw[hon,getD_both hun] at h2
    cases h2
   ·cases hl:listed.getD j false with
    |true=>
     have h2:=inv.closed j oj hoj hl e he hb
     rw[hon,getD_both hun] at h2
     cases h2
    |false=>
     have hjs:j<listed.size:=by rw[inv.size];omega
     exact ih (t-j) (by omega) j rfl (by omega) (getD_in hjs hl) t (Nat.le_refl _) hr
  ·have h1:=List.all_eq_true.1 hc t (List.mem_range.2 htlt)
   simp only[Bool.or_eq_true,decide_eq_true_eq] at h1
   rcases h1 with h1|h1
   ·omega
   ·obtain⟨j,hj,hj2⟩:=List.any_eq_true.1 h1
    simp only[Bool.and_eq_true,decide_eq_true_eq] at hj2
    have hjt:=List.mem_range.1 hj
    obtain⟨o',ho',e,he,hb,hon⟩:=Region.waitsFor_spec hj2.2
    have:o'=ot:=Option.some.inj (ho'.symm.trans hot)
    subst this
    have h2:=hall e he hb
    rw[hon,getD_both (inv.tail j hj2.1 (by omega))] at h2
    cases h2
def rf (o:Oper):Bool:=o.guard.isNone&&o.dst.isSome&&match o.op with|.extract .. |.move _|.assign _=>true|_=>false
theorem AV {o:Oper} (h:rf o=true) (ρ:Operand→Value):(∃v,∀w,(execOp ρ o).run P w=.ok (.value v) w)∨∃x,(∀v,x≠.panic v)∧∀w,(execOp ρ o).run P w=.halt x w:=by
 obtain⟨dst,op,ty,pos,aft,g⟩:=o
 unfold rf at h
 simp only[Bool.and_eq_true] at h
 have h2:=h.2
 cases op<;>simp only[] at h2
 case move x=>exact .inl ⟨ρ x,fun w=>by simp[execOp]⟩
 case assign x=>exact .inl ⟨ρ x,fun w=>by simp[execOp]⟩
 case extract x n=>
  have e:execOp ρ ⟨dst,.extract x n,ty,pos,aft,g⟩=(do pure (Next.value (←Instr.extract (ρ x) n)):Sem Next):=rfl
  rw[e]
  cases hx:ρ x with
  |tuple vs=>
   cases hv:vs[n]? with
   |some v=>exact .inl ⟨v,fun w=>by simp[Instr.extract,hv]⟩
   |none=>exact .inr ⟨.stuck "Extract: no such component",fun v=>by simp,fun w=>by simp[Instr.extract,hv,stuck,Sem.run]⟩
  |_=>exact .inr ⟨.stuck "Extract: tuple expected",fun v=>by simp,fun w=>by simp[Instr.extract,stuck,Sem.run]⟩
 all_goals cases h2
def mI (ops:Array Oper):List Nat→Array Bool→Bool
 |[],listed=>(Region.ready .any ops listed).isEmpty
 |i::rest,listed=>(decide (Region.ready .any ops listed=[i])||((match ops[i]? with|some o=>rf o|none=>false)&&Region.free .any ops listed i&&(Region.ready .any ops listed).contains i))&&mI ops rest (listed.setIfInBounds i true)
theorem gT {Q:eR} (hsel:Region.noSelect ops=true):∀(perm:List Nat) (os:List Oper) (listed:Array Bool) (a:Act) (w:World),(perm.map fun i=>ops[i]?)=os.map some→mI ops perm listed=true→wpList P ops (gq Q) os a w→wpAny P .any ops (gq Q) perm.length listed a w
 |[],os,listed,a,w,ho,hB,h=>by
  have:os=[]:=by cases os with|nil=>rfl|cons o os=>simp at ho
  subst this
  exact⟨by simpa [mI] using hB,h⟩
 |i::perm,os,listed,a,w,ho,hB,h=>by
  cases os with
  |nil=>simp at ho
  |cons o os=>
   simp only[List.map_cons,List.cons.injEq] at ho
   obtain⟨h0,ho⟩:=ho
   simp only[mI,Bool.and_eq_true,Bool.or_eq_true,decide_eq_true_eq] at hB
   obtain⟨hB1,hB2⟩:=hB
   have nolet:¬LetsOut (gq Q):=fun⟨_,_,hq⟩=>by obtain⟨hq,_⟩:=hq;cases hq
   rcases hB1 with hr|⟨⟨hq,hf⟩,hr⟩
   ·refine⟨fun h1=>(by rw[hr] at h1;cases h1),fun k hk=>?_⟩
    rw[hr] at hk
    have hik:k=i:=by simpa using hk
    subst hik
    have hw:wpOp P ops (gq Q) k (wpList P ops (gq Q) os) a w:=by unfold wpOp;simp only[h0];exact h
    exact wpOp_mono (fun a' w' h'=>gT hsel perm os _ a' w' ho hB2 h') hw
   ·rw[h0] at hq
    have hq:rf o=true:=hq
    have hwant:Region.wanted o (yielded ops a.tmps)=true:=by
     unfold rf at hq
     simp only[Bool.and_eq_true,Option.isNone_iff_eq_none] at hq
     unfold Region.wanted
     rw[hq.1.1]
    unfold wpList at h
    rw[if_pos hwant] at h
    have h:=h.resolve_right fun h=>nolet h.2
    unfold Oper.wp at h
    rcases AV (P:=P) hq a.eval with⟨v,hv⟩|⟨x,hx,hv⟩
    ·rw[hv w] at h
     exact wpAny_take h0 hsel hf hr (fun c a w hp=>by obtain⟨hp,_⟩:=hp;cases hp) (.inl ⟨hwant,hv⟩) (gT hsel perm os _ _ w ho hB2 h)
    ·rw[hv w] at h
     cases x<;>first|exact absurd rfl (hx _)|exact h.elim
theorem mj {n i:Nat} {oi:Oper} {S:cH} {L:Array Bool→bR→ik→Prop} (hi:ops[i]? =some oi) (hcalls:mo=true→fC .any ops=true)
 (hs:Region.sinkB .any ops n=true) (hc:jw ops n=true) (hin:i<n)
 (hdone:∀listed F Z,L listed F Z→∀j∈Region.ready .any ops listed,n≤j):
 ∀(f:Nat) (listed:Array Bool) (F:bR) (Z Z':ik),HeadInv .any ops n listed→
  (∀j oj,ops[j]? =some oj→j≠i→listed.getD j true=false→(∀e∈oj.after,Region.binds .any e=true→e.on≠i)→oi.apart ops oj=true)→
  i∈Region.ready .any ops listed→eQ P ops Env Rl mo Pn N F Z oi S Z'→
  gi P .any ops Env Rl mo Pn N n L f (listed.setIfInBounds i true) (im F oi.dst S) Z'→gi P .any ops Env Rl mo Pn N n L (f+1) listed F Z:=
 jr hi hcalls hin (fun _ inv hun t ht=>wi hs hc inv _ i rfl hin hun t ht) hdone
def gp (ops:Array Oper) (n:Nat) (perm:List Nat):Nat→Nat→Array Bool→Bool
 |0,_,listed=>mI ops perm listed&&(Region.ready .any ops listed).all fun j=>decide (n≤j)
 |f+1,k,listed=>(Region.ready .any ops listed).contains k&&Region.free .any ops listed k&&gp ops n perm f (k+1) (listed.setIfInBounds k true)
theorem pa {n:Nat} {perm:List Nat} {Lq:bR→ik→Prop} (hcalls:mo=true→fC .any ops=true) (hs:Region.sinkB .any ops n=true) (hc:jw ops n=true):
 ∀(l:List Oper) (k:Nat) (listed:Array Bool) (F:bR) (Z:ik),(∀j,j<l.length→l[j]? =ops[k+j]?)→k+l.length=n→HeadInv .any ops n listed→
 gp ops n perm l.length k listed=true→(∀t,bD Rl (F t))→cm Z→eC P ops Env Rl mo Pn N l F Z Lq→
 gi P .any ops Env Rl mo Pn N n (fun listed' F' Z'=>(mI ops perm listed'=true∧(Region.ready .any ops listed').all (fun j=>decide (n≤j))=true)∧Lq F' Z') l.length listed F Z
 |[],k,listed,F,Z,_,hk,_,hB,_,_,h=>by
  simp only[List.length_nil,gp,Bool.and_eq_true] at hB
  exact⟨hB,h⟩
 |o::l,k,listed,F,Z,hl,hk,inv,hB,hF,hZ,h=>by
  have h0:ops[k]? =some o:=by simpa using(hl 0 (by simp)).symm
  simp only[List.length_cons,gp,Bool.and_eq_true] at hB
  obtain⟨⟨hr,hf⟩,hB'⟩:=hB
  have hkn:k<n:=by simp only[List.length_cons] at hk;omega
  have hr':k∈Region.ready .any ops listed:=by simpa using hr
  obtain⟨S,Z',hspec,hrest⟩:=h hF hZ
  exact mj h0 hcalls hs hc hkn (fun listed' F' Z' hL j hj=>by simpa using List.all_eq_true.1 hL.1.2 j hj) l.length listed F Z Z' inv (Region.free_spec h0 hf) hr' hspec
   (pa hcalls hs hc l (k+1) _ _ _ (fun j hj=>by have:=hl (j+1) (by simp;omega);simpa [Nat.add_assoc,Nat.add_comm 1 j] using this) (by simp only[List.length_cons] at hk;omega) (inv.set hr' hkn) hB' (iV hF hspec.stable) (hspec.zst hZ) hrest)
def zv (ops:Array Oper) (n:Nat) (perm:List Nat):Bool:=
 Region.noSelect ops&&decide (n<ops.size)&&Region.sinkB .any ops n&&jw ops n&&decide (n+perm.length=ops.size)&&gp ops n perm n 0 (Array.replicate ops.size false)
def oh (os:List Oper):List Nat→List Oper
 |[]=>[]
 |i::is=>match os[i]? with|some o=>o::oh os is|none=>oh os is
theorem uk {Q:eR} {a:Act} {D:List Deferred} {F:bR} {Z:ik} {w:World} {l:List Oper} {n:Nat} {perm:List Nat} (hE:fb Env Rl) (hP:∀c w,¬Pn c w) (hcalls:mo=true→fC .any l.toArray=true) (hB:zv l.toArray n perm=true) (hp:(perm.all fun i=>decide (i<l.length))=true)
 (hF:∀t,bD Rl (F t)) (hZ:cm Z) (hz:Z w) (he:Env w) (hsat:u5 N D F a {w with drawn:=w.drawn+1})
 (h:eC P l.toArray Env Rl mo Pn N (l.take n) F Z (fun F Z=>∀a' w',Env w'→u5 N D F a' w'→Z w'→wpList P l.toArray (gq Q) (oh l perm) a' w')):wpAny P .any l.toArray (gq Q) l.toArray.size (Array.replicate l.toArray.size false) a {w with drawn:=w.drawn+1}:=by
 have hdr:aE w {w with drawn:=w.drawn+1}:=⟨rfl,rfl,rfl,Nat.le_refl _,fun _ _=>rfl⟩
 simp only[zv,Bool.and_eq_true,decide_eq_true_eq] at hB
 obtain⟨⟨⟨⟨⟨hsel,hn⟩,hs⟩,hc⟩,hlen⟩,hlex⟩:=hB
 have hn':n<l.length:=by simpa using hn
 have htl:(l.take n).length=n:=by simp;omega
 have inv0:HeadInv .any l.toArray n (Array.replicate l.toArray.size false):=
  ⟨by simp,fun j oj _ hl=>(by rw[getD_replicate_false] at hl;cases hl),fun t _ ht=>getD_in (by simpa using ht) (getD_replicate_false _ _)⟩
 have H:=pa (perm:=perm) hcalls hs hc (l.take n) 0 _ _ _ (fun j hj=>by
  have hj':j<n:=by rw[htl] at hj;exact hj
  simp[hj']) (by simpa using htl) inv0 (by rw[htl];exact hlex) hF hZ h
 have hpick:∀(perm:List Nat),(perm.all fun i=>decide (i<l.length))=true→(perm.map fun i=>l.toArray[i]?)=(oh l perm).map some:=by
  intro perm
  induction perm with
  |nil=>intro _;rfl
  |cons i is ih=>
   intro hp
   simp only[List.all_cons,Bool.and_eq_true,decide_eq_true_eq] at hp
   have e:l[i]? =some l[i]:=List.getElem?_eq_getElem hp.1
   simp only[List.map_cons,oh,e,List.getElem?_toArray]
   rw[←ih hp.2]
   simp
 have:=ep (D:=D) (Q':=gq Q) (l0:=[]) (g:=perm.length) hE (fun c _ w _ _ _ h=>absurd h (hP c w)) (fun _ _ _ _ _ _ _ hp=>by cases hp) (fun listed F Z hL hF hZ a' w' he hsat hz=>gT hsel perm (oh l perm) listed a' w' (hpick perm hp) hL.1.1 (hL.2 a' w' he hsat hz)) _ _ _ _ H hF hZ a {w with drawn:=w.drawn+1} (hE.keep _ _ he (hE.ext _ _ hdr)) hsat (fun _ hp=>by cases hp) (hZ _ _ hz hdr)
 rw[htl,hlen] at this
 exact this
theorem CV {D:List Deferred} {l:Fr} {a:Act} {w:World} (ha:At N D l a):u5 N D (px l) a w:=⟨ha.size,ha.defers,fun t=>by
 show px l t (a.tmps.getD t undef) _
 unfold px
 cases hv:lk l t with
 |some v=>exact ha.at_ t v hv
 |none=>trivial⟩
theorem CW {Q:eR} {D:List Deferred} {l:Fr} {w:World} {id:Nat} {os:List Oper} (n:Nat) (perm:List Nat) (ts:List Nat) (Env:World→Prop) (Rl:World→World→Prop) (mo:Bool) (Z:ik) (hE:fb Env Rl) (he:Env w) (hZ:cm Z) (hz:Z w) (hcalls:mo=true→fC .any os.toArray=true) (hm:P.follows .mixedOrders=true) (hB:zv os.toArray n perm=true) (hp:(perm.all fun i=>decide (i<os.length))=true)
 (h:eC P os.toArray Env Rl mo Fsz N (os.take n) (px l) Z (fun F Z=>∀w',Env w'→Z w'→gu F w' ts (fun l'=>bB P os.toArray (gq Q) N D l' w' (oh os perm)))):cn P Q N D l w (.region id os.toArray true):=fun a ha=>by
 refine wp_mono (wp_region_any (Q:=gq Q) hm (uk (D:=D) hE (fun _ _ h=>h) hcalls hB hp (fg l) hZ hz he (CV ha) (gV _ _ _ (fun F Z hK a' w' he hs hz=>?_) h))) fun e a w he=>by obtain⟨rfl,h⟩:=he;exact h
 obtain⟨l',hl',hk⟩:=gu.use hs (hK w' he hz)
 exact hk a' hl'
theorem EI {Q:eR} {D:List Deferred} {l:Fr} {w:World} {id:Nat} {os:List Oper} (n:Nat) (perm:List Nat) (ts:List Nat) (hm:P.follows .mixedOrders=true) (hB:zv os.toArray n perm=true) (hp:(perm.all fun i=>decide (i<os.length))=true)
 (h:eC P os.toArray (aE w) aE false Fsz N (os.take n) (px l) (fun _=>True) (fun F _=>∀w',aE w w'→gu F w' ts (fun l'=>bB P os.toArray (gq Q) N D l' w' (oh os perm)))):cn P Q N D l w (.region id os.toArray true):=
 CW n perm ts (aE w) aE false (fun _=>True) (fb.plain w) (aE.refl w) cm.triv trivial (fun h=>by cases h) hm hB hp (gV _ _ _ (fun _ _ h w' he _=>h w' he) h)
theorem ul {Q:eR} {D:List Deferred} {l:Fr} {w:World} (h:fz Q N D l w):fz (gq Q) N D l w:=fun a ha=>⟨rfl,h a ha⟩
theorem rg {Q:eR}:¬LetsOut (gq Q):=fun⟨_,_,hq⟩=>by
 obtain⟨hq,_⟩:=hq
 cases hq
theorem I.t6 {Q:eR} {D:List Deferred} {l:Fr} {w:World} {rd:Option Nat} {id:Nat} {os:List Oper} (S:World→Prop) (n:Nat) (hn:os.toArray.size=n) (hm:P.follows .mixedOrders=true) (hd:j3 os=true)
 (h:eF P os.toArray Q N D S n (Array.replicate n false) l w.drew):ex rd P Q N D l w (.region id os.toArray true):=fun a ha=>by
 subst hn
 refine wpIn_mono (wpIn_region_draw (Q:=gq Q) fun t=>m9 rg (.inr hd) _ _ _ ?_) fun e a w he=>by obtain⟨rfl,h⟩:=he;exact h
 simp only[Region.schedule,hm,Bool.true_or,if_true]
 exact wpAny_sound os.toArray.size t _ a _ (wpAny_of_held _ _ _ _ (h a ha))
end
end Go.Rl
namespace Go.Rl
open Go.RowKit
def kq (T:Value→World→Prop) (Pn:List PanicEntry→World→Prop):Ending→World→Prop:=fun e w'=>(∃v,e=.returned v∧T v w')∨∃c,e=.panicked c∧Pn c w'
theorem kq.mono {P:Program} {f:FuncId} {args:Array Value} {w:World} {T T':Value→World→Prop} {Pn Pn':List PanicEntry→World→Prop} (h:Calls P f args w (kq T Pn)) (hT:∀v w',T v w'→T' v w') (hP:∀c w',Pn c w'→Pn' c w'):Calls P f args w (kq T' Pn'):=
 Calls.mono h fun _ _ he=>he.imp (fun⟨v,h,hv⟩=>⟨v,h,hT _ _ hv⟩) fun⟨c,h,hc⟩=>⟨c,h,hP _ _ hc⟩
section
variable {P:Program} {ops:Array Oper} {Q:eR} {N:Nat} {D:List Deferred} {l:Fr} {w:World} {rest:List Oper} {d:Nat} {ty:TypeId} {pos:String} {aft:Array Edge}
theorem iG {f:FuncId} {xs:List Operand} {vs:List Value} {ts:Array TypeId} {T:Value→World→Prop} {Pn:List PanicEntry→World→Prop} (hf:aw P f) (hp:pW l xs=some vs) (hd:Nat.blt d N=true) (hc:Calls P f vs.toArray w (kq T Pn))
 (hP:∀c a w',At N D l a→Pn c w'→Q (.panic c) a w')
 (k:∀v w',T v w'→bB P ops Q N D ((d,v)::l) w' rest):bB P ops Q N D l w (⟨some d,.call {callee:=.value (.func f),args:=xs.toArray,argTypes:=ts},ty,pos,aft,none⟩::rest):=fun a ha=>by
 have hr:(execOp a.eval ⟨some d,.call {callee:=.value (.func f),args:=xs.toArray,argTypes:=ts},ty,pos,aft,none⟩).run P w=.ok (.enter f vs.toArray) w:=by
  have hρ:mb l a.eval:=fun x v hx=>ha.ev hx
  simp only[execOp,resolve,List.map_toArray,gz hρ hp,Act.eval,Deferred.ofValue,Sem.run_bind,Sem.run_pure,Result.andThen_ok,invoke,Array.append_empty,eK hf,Array.empty_append]
 unfold wpList
 rw[if_pos (by rfl)]
 refine .inl ?_
 unfold Oper.wp
 rw[hr]
 refine hc.mono ?_
 rintro e w' (⟨v,rfl,hv⟩|⟨c,rfl,hp⟩)
 ·exact k v w' hv _ (ha.put hd v)
 ·exact hP c a w' ha hp
theorem pJ {x:Operand} {u:TypeId} {v:Value} (hx:ev l x=some (.iface u v)) (hP:∀a,At N D l a→Q (.panic [{v:=.iface u v,recovered:=false}]) a w):bB P ops Q N D l w (⟨none,.panic x,ty,pos,aft,none⟩::rest):=fun a ha=>by
 have hr:(execOp a.eval ⟨none,.panic x,ty,pos,aft,none⟩).run P w=.halt (.panic (.iface u v)) w:=by
  have e:a.eval x=.iface u v:=ha.ev hx
  simp[execOp,e,Instr.panic,goPanic,Sem.run]
 unfold wpList
 rw[if_pos (by rfl)]
 refine .inl ?_
 unfold Oper.wp
 rw[hr]
 exact hP a ha
theorem jk {t:TypeId} {x:Operand} {u r:Value} (hx:ev l x=some u) (hd:Nat.blt d N=true) (hrun:(Instr.makeInterface t u).run P w=.ok r w)
 (k:bB P ops Q N D ((d,r)::l) w rest):bB P ops Q N D l w (⟨some d,.makeInterface t x,ty,pos,aft,none⟩::rest):=tF (f:=Instr.makeInterface t) (fun _=>rfl) hx hd hrun k
end
end Go.Rl
namespace Go.Rl
open Go.RowKit Go.Proofs
def CX (l:List Value) (o:Nat) (m:List Value):List Value:=l.take o++m++l.drop (o+m.length)
section
variable {P:Program} {w w1 w':World} {T TB t:TypeId} {g gB i o:Nat} {l m cs:List Value} {v:Value} {st s1:Option (List UInt8)}
theorem bI.stO (h:bI g T l w) (o:Nat) (hl:o+m.length≤l.length) (hi:(P.info? t).map (·.size)=some m.length) (h1:aT m):
 ∃w',(Instr.storeAt t (.pointer (some ⟨g,o,none⟩)) (.agg m.toArray)).run P w=.ok () w'∧w.grownBy w' (some g)∧bI g T (CX l o m) w':=by
 have h':w.heap[g]? =some (.cells l.toArray T (0,0)):=h
 have hr:=run_storeCells_at (P:=P) g o T m 0 l.toArray w h' (by simpa using hl) h1
 refine⟨_,?_,bd w g _,h.row (CX l o m)⟩
 simp only[Instr.storeAt,Instr.sureAddr,storeVar,Sem.run_bind,Sem.run_pure,Result.andThen_ok,dy hi]
 rw[if_neg (by simp[Value.cells])]
 simpa [CX,Value.cells] using hr
end
end Go.Rl
namespace Go.Rl
open Go.RowKit Go.Proofs
theorem t9.rpx {w:World} {b:Nat} {l:List UInt32} {v:Value} (h:bu l v w) (hn:t9 b v):cz (fun k=>k<b) w (i8 l) [v]:=by
 have h':Rp w (i8 l) [v]:=Rp.wds.2 h
 unfold i8 at h'⊢
 simp only[Rp] at h'
 obtain⟨A,n,c,hv,h2,h3,h4,h5,h6⟩:=h'
 obtain rfl:v=.slice A n c:=by simpa using hv
 simp only[cz]
 refine⟨A,n,c,rfl,h2,h3,h4,h5,fun hp=>?_⟩
 obtain⟨ad,xs,rfl,h8,h9⟩:=h6 hp
 refine⟨ad,xs,rfl,fun _ hb=>?_,h8,?_⟩
 ·have:=hn ad.block rfl
  omega
 ·have:∀(l:List UInt32) (ys:List Value),bC w (l.map nU) ys→aF (fun k=>k<b) w (l.map nU) ys:=by
   intro l
   induction l with
   |nil=>intro ys h;simpa only[List.map_nil,bC,aF] using h
   |cons a l ih=>
    intro ys h
    simp only[List.map_cons,bC,aF] at h⊢
    obtain⟨c1,c2,h1,h2,h3⟩:=h
    exact⟨c1,c2,h1,by simpa only[nU,Rp,cz] using h2,ih _ h3⟩
  exact this l xs h9
theorem t9.rpx' {w:World} {b:Nat} {l:List UInt32} {v:Value} (hn:t9 b v) (h:bu l v w):cz (fun k=>k<b) w (i8 l) [v]:=t9.rpx h hn
theorem fb.mv (X:Nat→Prop) (w:World):fb (Mv X w) (Mv X):=⟨fun _ _ h=>Mv.of_ext h,fun _ _ h k=>h.trans k fun _ hn _=>hn⟩
theorem cz.isS {X:Nat→Prop} {w:World} {l:List Dt} {v:Value} (h:cz X w (.sl l) [v]):∃A n c,v=.slice A n c:=by
 simp only[cz] at h
 obtain⟨A,n,c,hv,_⟩:=h
 exact⟨A,n,c,by simpa using hv⟩
theorem cz.one {X:Nat→Prop} {w:World} {l:List Dt} {v:Value} (h:cz X w (.sl l) [v]):v.oneCell'=true:=by obtain⟨A,n,c,rfl⟩:=h.isS;rfl
theorem kr {X:Nat→Prop} {w:World} (n:Int):cz X w (jV n) [I n]:=by simp only[jV,cz,I]
end Go.Rl
namespace Go.Rl
open Go.RowKit Go.Proofs
def RX (g:Nat):Nat→Prop:=fun k=>k=g
abbrev fB (st:Option (List UInt8)):Prop:=AN 549755813888 st
theorem wj {X:Nat→Prop} {w:World} {d:fa} {x y:Value} (h:cz X w (cN d.at_) [B d.at_.1,x,y]):cz X w (nu d) [I d.kd,I d.ix,B d.at_.1,x,y]:=by
 unfold nu
 simp only[cz.eq_5]
 exact aF.cons (a:=[I d.kd]) (kr _) (aF.cons (a:=[I d.ix]) (kr _) (aF.cons (b:=[]) h aF.nil))
theorem ltN {n m:Nat} (hn:n<18446744073709551616) (hm:m<18446744073709551616):UInt64.ofNat n<UInt64.ofNat m↔n<m:=by
 rw[UInt64.lt_iff_toNat_lt,UInt64.toNat_ofNat',UInt64.toNat_ofNat']
 omega
theorem ol {α:Type} {f:List UInt8→Option (α×List UInt8)} {st s1 so:Option (List UInt8)} {N:Nat} {done:List α} (hU:eP dX st N s1) (hR:s1.bind (cE f N)=so.bind (fun l=>(cE f 0 l).map fun p=>(done++p.1,p.2))):eP (kn f) st done so:=
 (hU.bindE (fun p=>cE f p.1 p.2)).trans (AO hR)
theorem om {α:Type} {f:List UInt8→Option (α×List UInt8)} {st s1:Option (List UInt8)} {N:Nat} {done:List α} (hU:eP dX st N s1) (hR:s1.bind (cE f N)=none):eP (kn f) st done none:=
 (hU.bindE (fun p=>cE f p.1 p.2)).trans hR
theorem sZ:(Tryz.prog.info? 187).map (fun i=>(i.zero,i.size,i.bytes))=some (some (.agg #[I 0,I 0,I 0,I 0,B false,.slice none 0 0,.slice none 0 0]),7,88):=by kernel_rfl
theorem kt (m:eG):(fG m).size=7:=by simp[fG,jV,cN,i8,Dt.size,Dt.sizeAll]
theorem AW {X:Nat→Prop} {w:World} {m:eG} {x y:Value} (h:cz X w (cN m.co) [B m.co.1,x,y]):cz X w (fG m) [I m.kd,I m.ix,I m.lo,I m.hi,B m.co.1,x,y]:=by
 unfold fG
 simp only[cz.eq_5]
 exact aF.cons (a:=[I m.kd,I m.ix,I m.lo,I m.hi]) (by
  simp only[cz.eq_5]
  exact aF.cons (a:=[I m.kd]) (kr _) (aF.cons (a:=[I m.ix]) (kr _) (aF.cons (a:=[I m.lo]) (kr _) (aF.cons (a:=[I m.hi]) (b:=[]) (kr _) aF.nil)))) (aF.cons (b:=[]) h aF.nil)
end Go.Rl
namespace Go.Rl
open Go.RowKit Go.Proofs
theorem CY:(Tryz.prog.info? 173).map (fun i=>(i.zero,i.size,i.bytes))=some (some (.agg #[I 0,B false,B false,.slice none 0 0,.slice none 0 0,.slice none 0 0]),6,96):=by kernel_rfl
theorem oo:(Tryz.prog.info? 52).map (fun i=>(i.zero,i.size,i.bytes))=some (some (.agg #[.slice none 0 0,I 0,I 0,B false,.slice none 0 0,.slice none 0 0,.slice none 0 0,B false,.slice none 0 0]),9,152):=by kernel_rfl
theorem ov (l:gn):(jf l).size=6:=by simp[jf,jV,cN,i8,mF,Dt.size,Dt.sizeAll]
theorem cF (n:bc):(cw n).size=9:=by cases n;simp[cw,nu,jV,cN,i8,mF,Dt.size,Dt.sizeAll]
theorem yi {X:Nat→Prop} {w:World}:cz X w (.sl []) [.slice none 0 0]:=by
 simp only[cz]
 exact⟨none,0,0,rfl,rfl,Nat.le_refl _,Nat.zero_le _,fun _=>rfl,fun h=>absurd h (by omega)⟩
theorem bX {X:Nat→Prop} {w:World} (b:Bool):cz X w (.bool b) [B b]:=by simp only[cz,B]
theorem CZ {X:Nat→Prop} {w:World} {l:gn} {x y v:Value} (h:cz X w (cN l.va) [B l.va.1,x,y]) (hp:cz X w (mF l.pf) [v]):cz X w (jf l) [I l.un,B l.up,B l.va.1,x,y,v]:=by
 unfold jf
 simp only[cz.eq_5]
 exact aF.cons (a:=[I l.un]) (kr _) (aF.cons (a:=[B l.up]) (bX _) (aF.cons (a:=[B l.va.1,x,y]) h (aF.cons (b:=[]) hp aF.nil)))
theorem ow {X:Nat→Prop} {w:World} {ls:List gn} {d:fa} {ks:List bc} {em:Bool} {ps:List eG} {vl vk vp x y:Value} (hl:cz X w (.sl (ls.map jf)) [vl]) (hd:cz X w (nu d) [I d.kd,I d.ix,B d.at_.1,x,y]) (hk:cz X w (.sl (ks.map cw)) [vk]) (hp:cz X w (mF ps) [vp]):
 cz X w (cw (.mk ls d ks em ps)) [vl,I d.kd,I d.ix,B d.at_.1,x,y,vk,B em,vp]:=by
 unfold cw
 simp only[cz.eq_5]
 exact aF.cons (a:=[vl]) hl (aF.cons (a:=[I d.kd,I d.ix,B d.at_.1,x,y]) hd (aF.cons (a:=[vk]) (by rw[mG];exact hk) (aF.cons (a:=[B em]) (bX _) (aF.cons (b:=[]) hp aF.nil))))
theorem zw {X:Nat→Prop} {w:World}:cz X w (nu uc) [I 0,I 0,B false,.slice none 0 0,.slice none 0 0]:=
 wj (d:=uc) (by
  simp only[cN,uc,z0Q,cz.eq_5]
  exact aF.cons (a:=[B false]) (bX _) (aF.cons (a:=[.slice none 0 0]) yi (aF.cons (b:=[]) yi aF.nil)))
theorem FD {P:Program} {w:World} {t:TypeId} {x y:Operand} {n:Nat} (hn:n<18446744073709551616):(bin .eql t x y (bo (UInt64.ofNat n)) (bo 1)).run P w=.ok (B (decide (n=1))) w:=by
 have e:(decide (UInt64.ofNat n=1))=decide (n=1):=by
  by_cases h:n=1
  ·subst h;rfl
  ·have:UInt64.ofNat n≠1:=fun e=>h (by have:=congrArg UInt64.toNat e;rw[UInt64.toNat_ofNat',show(1:UInt64).toNat=1 from rfl] at this;omega)
   rw[decide_eq_false h,decide_eq_false this]
 rw[←e]
 exact iN
theorem ox {α:Type} {f:List UInt8→Option (α×List UInt8)} {st s1 so:Option (List UInt8)} {N k:Nat} {done:List α} (hU:eP dX st N s1) (hR:s1.bind (cE f N)=so.bind (fun l=>(cE f (k+1) l).map fun p=>(done++p.1,p.2))) (h:so.bind f=none):st.bind (kn f)=none:=
 (hU.bindE (fun p=>cE f p.1 p.2)).trans (AT hR h)
end Go.Rl
namespace Go.Rl
open Go.RowKit Go.Proofs
end Go.Rl
namespace Go.Rl
open Go.RowKit Go.Proofs
theorem ku:aw Tryz.prog 155:=⟨_,Tryz.func155,by kernel_rfl,rfl⟩
theorem fQ:aw Tryz.prog 194:=⟨_,Tryz.func194,by kernel_rfl,rfl⟩
theorem mJ:aw Tryz.prog 195:=⟨_,Tryz.func195,by kernel_rfl,rfl⟩
theorem nB:aw Tryz.prog 174:=⟨_,Tryz.func174,by kernel_rfl,rfl⟩
theorem AX:aw Tryz.prog 177:=⟨_,Tryz.func177,by kernel_rfl,rfl⟩
theorem pb:aw Tryz.prog 176:=⟨_,Tryz.func176,by kernel_rfl,rfl⟩
theorem yj:aw Tryz.prog 175:=⟨_,Tryz.func175,by kernel_rfl,rfl⟩
theorem mM:aw Tryz.prog 156:=⟨_,Tryz.func156,by kernel_rfl,rfl⟩
def GM:Value:=.iface 243 (.agg #[])
def rQ (c:List PanicEntry):Prop:=c=[{v:=GM,recovered:=false}]
theorem um {P:Program} {w:World} {t:TypeId} {fs:Array Field} {v:Value} (h:P.underlying t=some (.struct fs)):(Instr.makeInterface t v).run P w=.ok (.iface t v) w:=by
 simp[Instr.makeInterface,run_underlying h]
theorem uo (st:Option (List UInt8)):∃n s1,eP dX st n s1∧n<18446744073709551616∧∀{w:World} {g:Nat},aP g st w→Calls Tryz.prog 89 #[.pointer (some ⟨g,0,none⟩)] w (bL fun r w'=>w.grownBy w' (some g)∧r=.tuple #[bo (UInt64.ofNat n),I (if s1.isSome=true then 0 else 5)]∧aP g s1 w'):=by
 cases hU:st.bind dX with
 |none=>exact⟨0,none,hU,by omega,fun hr=>Fz hr hU⟩
 |some p=>
  obtain⟨n,t⟩:=p
  refine⟨n,some t,hU,?_,fun hr=>FA hr hU⟩
  cases st with
  |none=>cases hU
  |some l=>exact(fH (show dX l=some (n,t) from hU)).2
theorem mN (st:Option (List UInt8)):∃n s1,eP pH st n s1∧kU n∧∀{w:World} {g:Nat},aP g st w→Calls Tryz.prog 158 #[.pointer (some ⟨g,0,none⟩)] w (bL fun r w'=>w.grownBy w' (some g)∧r=.tuple #[I n,I (if s1.isSome=true then 0 else 5)]∧aP g s1 w'):=by
 cases hU:st.bind dX with
 |none=>
  refine⟨0,none,?_,by unfold kU;omega,fun hr=>Ha hr hU⟩
  cases st with
  |none=>rfl
  |some l=>show(dX l).map _=none;rw[show dX l=none from hU];rfl
 |some p=>
  obtain⟨n,t⟩:=p
  have hI:eP pH st (uz n) (some t):=by
   cases st with
   |none=>cases hU
   |some l=>show(dX l).map _=_;rw[show dX l=some (n,t) from hU];rfl
  exact⟨uz n,some t,hI,EG hI,fun hr=>Hb hr hU⟩
def pq (b:Nat) (q:d7):cH:=fun v w=>∃x y,v=.agg #[B q.1,x,y]∧cz (fun k=>k<b) w (cN q) [B q.1,x,y]
def nC (b:Nat) (q:d7) (e:Int):cH:=fun v w=>∃x y,v=.tuple #[.agg #[B q.1,x,y],I e]∧cz (fun k=>k<b) w (cN q) [B q.1,x,y]
theorem pq.stable {b g:Nat} {q:d7} (hg:g<b):bD (Mv (RX g)) (pq b q):=fun _ _ _ ⟨x,y,h,h2⟩ hm=>⟨x,y,h,h2.mv (hm.weak fun j hj _=>by have:j=g:=hj;show j<b;omega) fun _ hk=>.inl hk⟩
theorem nC.stable {b g:Nat} {q:d7} {e:Int} (hg:g<b):bD (Mv (RX g)) (nC b q e):=fun _ _ _ ⟨x,y,h,h2⟩ hm=>⟨x,y,h,h2.mv (hm.weak fun j hj _=>by have:j=g:=hj;show j<b;omega) fun _ hk=>.inl hk⟩
theorem nC.up {b c:Nat} {q:d7} {e:Int} {v:Value} {w:World} (hc:b≤c) (h:nC c q e v w):nC b q e v w:=by
 obtain⟨x,y,h1,h2⟩:=h
 exact⟨x,y,h1,h2.weak fun j hj=>.inl (Nat.lt_of_lt_of_le hj hc)⟩
theorem fZ {X:Nat→Prop} {w:World} {q:d7} {x y:Value} (h:cz X w (cN q) [B q.1,x,y]):x.oneCell'=true∧y.oneCell'=true:=by
 obtain⟨x',y',he,hx,hy⟩:=fF h.rp
 simp only[List.cons.injEq] at he
 obtain⟨_,rfl,rfl,_⟩:=he
 obtain⟨_,_,_,rfl⟩:=hx.isS
 obtain⟨_,_,_,rfl⟩:=hy.isS
 exact⟨rfl,rfl⟩
theorem yk (st:Option (List UInt8)):∃q s1,eP oZ st q s1∧(fB st→∀{w:World} {g:Nat},aP g st w→Calls Tryz.prog 159 #[.pointer (some ⟨g,0,none⟩)] w (bL fun r w'=>w.grownBy w' (some g)∧nC w.heap.size q (if s1.isSome=true then 0 else 5) r w'∧aP g s1 w')):=by
 cases hR:st.bind oZ with
 |none=>
  refine⟨(false,[],[]),none,hR,fun hl w g hr=>(qW hr hl).mono fun r w' ⟨r',he,h1,h2⟩=>⟨r',he,h1,?_⟩⟩
  rw[hR] at h2
  obtain⟨v,h3,⟨x,y,rfl,hx,hy⟩,h4⟩:=h2
  have hn:∀{z:Value},bu [] z w'→cz (fun k=>k<w.heap.size) w' (i8 []) [z]:=fun {z} hz=>by
   obtain⟨A,n,c,rfl,h5,h6,h7,h8,h9⟩:=hz
   simp only[i8,List.map_nil,cz]
   have:n=0:=by simp at h7;omega
   subst this
   exact⟨A,0,c,rfl,rfl,h5,h6,h9,fun h=>by omega⟩
  refine⟨⟨x,y,h3,?_⟩,h4⟩
  simp only[cN,cz]
  exact aF.cons (a:=[B false]) (by simp only[cz,B]) (aF.cons (hn hx) (aF.cons (b:=[]) (hn hy) aF.nil))
 |some p=>
  obtain⟨q,t⟩:=p
  refine⟨q,some t,hR,fun hl w g hr=>(qW hr hl).mono fun r w' ⟨r',he,h1,h2⟩=>⟨r',he,h1,?_⟩⟩
  rw[hR] at h2
  obtain⟨x,y,h3,hx,hy,h4,n1,n2⟩:=h2
  refine⟨⟨x,y,h3,?_⟩,h4⟩
  simp only[cN,cz]
  exact aF.cons (a:=[B q.1]) (by simp only[cz,B]) (aF.cons (n1.rpx' hx) (aF.cons (b:=[]) (n2.rpx' hy) aF.nil))
theorem aP.stableZ {g:Nat} {st:Option (List UInt8)}:cm (aP g st):=fun _ _ h hx=>h.ext hx
theorem f4 {Z:ik} {p:Prop} (h:cm Z):cm (fun w=>Z w∧p):=fun _ _ hz hx=>⟨h _ _ hz.1 hx,hz.2⟩
theorem aP.mv {g:Nat} {st:Option (List UInt8)} {X:Nat→Prop} {w w':World} (h:aP g st w) (hm:Mv X w w') (hX:∀k,X k→g<k):aP g st w':=qS.mv h.rdT hm hX
theorem eP.none_of {α:Type} {f:List UInt8→Option (α×List UInt8)} {st s1:Option (List UInt8)} {a:α} (h:eP f st a s1) (e:st=none):s1=none:=by
 subst e
 cases s1 with
 |none=>rfl
 |some t=>cases h
theorem kv {w:World} {n:UInt64} {s:Option (List UInt8)}:Calls Tryz.prog 155 #[bo n,I (if s.isSome=true then 0 else 5)] w (kq (fun r w'=>w=w'∧r=bo n∧s≠none) (fun c w'=>w=w'∧rQ c∧s=none)):=by
 refine enter (vs:=[bo n,I (if s.isSome=true then 0 else 5)]) Tryz.func155 Ig Ig Ig ?_
 refine af (aa (ac Ig Ig (ag (ab (af (af ?_))))))
 rcases s with _|t
 ·refine aa (ae Ig Ig (ai Ig Ig Ig (dW (by simp) dA) (ag (ab (ce Ig (aa (bA (vs:=[]) (r:=.agg #[]) Ig Ig (run_build _ _ _ _ (by kernel_rfl)) ?_)))))))
  refine jk (r:=.iface 243 (.agg #[])) Ig Ig (um Ia) ?_
  exact pJ rfl fun a ha=>⟨ha.defers,.inr ⟨_,rfl,rfl,rfl,rfl⟩⟩
 ·refine aa (ae Ig Ig (ai Ig Ig Ig (eU (by simp) dA) (ag (ab (eS Ig (ax (ab (af (aa (ae Ig Ig (ac Ig Ig (ag (ab (ay ?_))))))))))))))
  refine aD Ig Ig ?_
  exact .inl ⟨_,rfl,rfl,rfl,by simp⟩
theorem yl {w:World} {n:Int} {s:Option (List UInt8)}:Calls Tryz.prog 194 #[I n,I (if s.isSome=true then 0 else 5)] w (kq (fun r w'=>w=w'∧r=I n∧s≠none) (fun c w'=>w=w'∧rQ c∧s=none)):=by
 refine enter (vs:=[I n,I (if s.isSome=true then 0 else 5)]) Tryz.func194 Ig Ig Ig ?_
 refine af (aa (ac Ig Ig (ag (ab (af (af ?_))))))
 rcases s with _|t
 ·refine aa (ae Ig Ig (ai Ig Ig Ig (dW (by simp) dA) (ag (ab (ce Ig (aa (bA (vs:=[]) (r:=.agg #[]) Ig Ig (run_build _ _ _ _ (by kernel_rfl)) ?_)))))))
  refine jk (r:=.iface 243 (.agg #[])) Ig Ig (um Ia) ?_
  exact pJ rfl fun a ha=>⟨ha.defers,.inr ⟨_,rfl,rfl,rfl,rfl⟩⟩
 ·refine aa (ae Ig Ig (ai Ig Ig Ig (eU (by simp) dA) (ag (ab (eS Ig (ax (ab (af (aa (ae Ig Ig (ac Ig Ig (ag (ab (ay ?_))))))))))))))
  refine aD Ig Ig ?_
  exact .inl ⟨_,rfl,rfl,rfl,by simp⟩
theorem ym {w:World} {q:d7} {X:Nat→Prop} {x y:Value} {s:Option (List UInt8)} (hq:cz X w (cN q) [B q.1,x,y]):Calls Tryz.prog 195 #[.agg #[B q.1,x,y],I (if s.isSome=true then 0 else 5)] w (kq (fun r w'=>aE w w'∧r=.agg #[B q.1,x,y]∧s≠none) (fun c w'=>aE w w'∧rQ c∧s=none)):=by
 refine enter (vs:=[.agg #[B q.1,x,y],I (if s.isSome=true then 0 else 5)]) Tryz.func195 Ig Ig Ig ?_
 have h1:=(fZ hq).1
 have h2:=(fZ hq).2
 obtain⟨x',y',he,hx,hy⟩:=fF hq.rp
 simp only[List.cons.injEq] at he
 obtain⟨_,rfl,rfl,_⟩:=he
 refine af (aa ?_)
 obtain⟨g2,w2,hr2,l2,x2,k2⟩:=cV (P:=Tryz.prog) (w:=w) (T:=46) (cs:=[B q.1,x,y])
 refine cI Ig Ig hr2 ?_
 obtain⟨g4,w4,hr4,l4,x4,k4⟩:=aR (P:=Tryz.prog) (w:=w2) (t:=46) (z:=.agg #[B false,.slice none 0 0,.slice none 0 0]) (l:=[B false,.slice none 0 0,.slice none 0 0]) (by kernel_rfl) rfl
 refine aU Ig hr4 (ag (ab (af (af ?_))))
 rcases s with _|t
 ·refine aa (ae Ig Ig (ai Ig Ig Ig (dW (by simp) dA) (ag (ab (ce Ig (aa (bA (vs:=[]) (r:=.agg #[]) Ig Ig (run_build _ _ _ _ (by kernel_rfl)) ?_)))))))
  refine jk (r:=.iface 243 (.agg #[])) Ig Ig (um Ia) ?_
  exact pJ rfl fun a ha=>⟨ha.defers,.inr ⟨_,rfl,(x2.trans x4),rfl,rfl⟩⟩
 ·refine aa (ae Ig Ig (ai Ig Ig Ig (eU (by simp) dA) (ag (ab (eS Ig (ax (ab (af (aa (am Ig Ig ((k2.ext x4).ld Tryz.underlying46 Ig (by kernel_rfl)) ?_))))))))))
  obtain⟨w3_1,s3_1,q3_1,k3_1⟩:=k4.stS (P:=Tryz.prog) (t:=46) (m:=[B q.1,x,y]) rfl (by kernel_rfl) (aT.cons rfl (aT.cons hx.one (aT.cons hy.one aT.nil)))
  refine az Ig Ig s3_1 ?_
  have x3_1:=aE.of_new (x4) q3_1 l4
  refine ag (ab (ay ?_))
  refine eo Ig Ig k3_1 HG Ig (by kernel_rfl) ?_
  exact .inl ⟨_,rfl,(x2.trans x3_1),rfl,by simp⟩
section
variable {w0 w:World} {g b:Nat} {s1:Option (List UInt8)} {n:Int} {q:d7} {E:Prop} {f:FuncId} {args:Array Value} {Pn:List PanicEntry→World→Prop}
theorem rh {v:Value} (h:Calls Tryz.prog f args w (bL fun r w'=>w.grownBy w' (some g)∧r=v∧aP g s1 w')):Calls Tryz.prog f args w (fun e w'=>(∃r,e=.returned r∧Mv (RX g) w w'∧Is v r w'∧aP g s1 w')∨∃c,e=.panicked c∧Pn c w'):=
 Calls.mono h fun _ _ ⟨r,he,h1,h2,h3⟩=>.inl ⟨r,he,Mv.of_grown h1 fun _ hk _=>(Option.some.inj hk).symm,h2,h3⟩
theorem mO (hw:Mv (RX g) w0 w) (hz:aP g s1 w) (hp:s1=none→E):Calls Tryz.prog 194 #[I n,I (if s1.isSome=true then 0 else 5)] w (fun e w'=>(∃r,e=.returned r∧Mv (RX g) w w'∧Is (I n) r w'∧aP g s1 w')∨∃c,e=.panicked c∧Mv (RX g) w0 w'∧rQ c∧E):=by
 refine Calls.mono (yl (n:=n) (s:=s1)) fun _ _ he=>?_
 rcases he with⟨r,he,h1,h2,h3⟩|⟨c,he,h1,h2,h3⟩
 ·subst h1;exact .inl ⟨r,he,Mv.refl _ _,h2,hz⟩
 ·subst h1;exact .inr ⟨c,he,hw,h2,hp h3⟩
theorem yn {e:Int} (hb:b≤w.heap.size) (h:Calls Tryz.prog f args w (bL fun r w'=>w.grownBy w' (some g)∧nC w.heap.size q e r w'∧aP g s1 w')):Calls Tryz.prog f args w (fun e' w'=>(∃r,e'=.returned r∧Mv (RX g) w w'∧nC b q e r w'∧aP g s1 w')∨∃c,e'=.panicked c∧Pn c w'):=
 Calls.mono h fun _ _ ⟨r,he,h1,h2,h3⟩=>.inl ⟨r,he,Mv.of_grown h1 fun _ hk _=>(Option.some.inj hk).symm,h2.up hb,h3⟩
theorem yo {x y:Value} (hw:Mv (RX g) w0 w) (hz:aP g s1 w) (h:cz (fun k=>k<b) w (cN q) [B q.1,x,y]) (hp:s1=none→E):Calls Tryz.prog 195 #[.agg #[B q.1,x,y],I (if s1.isSome=true then 0 else 5)] w (fun e w'=>(∃r,e=.returned r∧Mv (RX g) w w'∧pq b q r w'∧aP g s1 w'∧s1≠none)∨∃c,e=.panicked c∧Mv (RX g) w0 w'∧rQ c∧E):=by
 refine Calls.mono (ym (q:=q) (s:=s1) h) fun _ _ he=>?_
 rcases he with⟨r,he,h1,h2,h3⟩|⟨c,he,h1,h2,h3⟩
 ·exact .inl ⟨r,he,Mv.of_ext h1,⟨x,y,h2,h.ext h1⟩,hz.ext h1,h3⟩
 ·exact .inr ⟨c,he,hw.trans (Mv.of_ext h1) fun _ hn _=>hn,h2,hp h3⟩
end
theorem zx {w:World} {g n most:Nat} {st s1:Option (List UInt8)} (hn:n<18446744073709551616) (hm:most<18446744073709551616) (hr:aP g st w)
 (cU:∀{w:World} {g:Nat},aP g st w→Calls Tryz.prog 89 #[.pointer (some ⟨g,0,none⟩)] w (bL fun r w'=>w.grownBy w' (some g)∧r=.tuple #[bo (UInt64.ofNat n),I (if s1.isSome=true then 0 else 5)]∧aP g s1 w')):
 Calls Tryz.prog 174 #[.agg #[.pointer (some ⟨g,0,none⟩)],bo (UInt64.ofNat most)] w (kq (fun r w'=>Mv (RX g) w w'∧r=bo (UInt64.ofNat n)∧aP g s1 w'∧s1≠none∧n≤most) (fun c w'=>Mv (RX g) w w'∧rQ c∧(s1=none∨¬n≤most))):=by
 refine enter (vs:=[.agg #[.pointer (some ⟨g,0,none⟩)],bo (UInt64.ofNat most)]) Tryz.func174 Ig Ig Ig ?_
 refine af (aa ?_)
 obtain⟨g2,w2,hr2,l2,x2,k2⟩:=cV (P:=Tryz.prog) (w:=w) (T:=246) (cs:=[.pointer (some ⟨g,0,none⟩)])
 refine cI Ig Ig hr2 ?_
 have hr2:=hr.ext x2
 have e2:=x2
 refine ac Ig Ig (ag (ab (af (aa (ah Ig Ig (aI (o:=0) HM Ig (by kernel_rfl) Ig) (am Ig Ig (aj HP Ig (k2.cell (i:=0) Ig)) ?_))))))
 refine ak fX Ig Ig ((cU hr2)) ?_
 rintro v8 w8 ⟨g8,rfl,hr8⟩
 have m8:=hr2.rdT.kp g8
 have mv8:Mv (RX g) w w8:=(Mv.of_ext e2).trans (Mv.of_grown g8 fun k hk _=>(Option.some.inj hk).symm) fun _ hj _=>hj
 refine al rfl rfl (bw) (al rfl rfl (bz) (iG ku rfl rfl ((kv (n:=UInt64.ofNat n) (s:=s1))) (fun c a w1 ha hp=>⟨ha.defers,.inr ⟨c,rfl,by obtain⟨rfl,h2,h3⟩:=hp;exact⟨mv8,h2,.inl h3⟩⟩⟩) ?_))
 rintro v11 _ ⟨rfl,rfl,hs1⟩
 refine ac Ig Ig (ag (ab (af (af ?_))))
 by_cases hnm:n≤most
 ·refine aa (ae Ig Ig (ae Ig Ig (ai Ig Ig Ig (eU (fun h=>by have:=(ltN hm hn).1 h;omega) cJ) (ag (ab (eS Ig (ax (ab (af ?_)))))))))
  refine aa (ae Ig Ig (ac Ig Ig (ag (ab (ay (aD Ig Ig ?_))))))
  exact .inl ⟨_,rfl,mv8,rfl,hr8,hs1,hnm⟩
 ·refine aa (ae Ig Ig (ae Ig Ig (ai Ig Ig Ig (dW ((ltN hm hn).2 (by omega)) cJ) (ag (ab (ce Ig (aa (bA (vs:=[]) (r:=.agg #[]) Ig Ig (run_build _ _ _ _ (by kernel_rfl)) ?_))))))))
  refine jk (r:=.iface 243 (.agg #[])) Ig Ig (um Ia) ?_
  exact pJ rfl fun a ha=>⟨ha.defers,.inr ⟨_,rfl,mv8,rfl,.inr hnm⟩⟩
theorem C0 (st:Option (List UInt8)) {most:Nat} (hm:most<18446744073709551616):∃(n:Nat) (s1:Option (List UInt8)),eP (pI most) st n s1∧n<18446744073709551616∧∀{w:World} {g:Nat},aP g st w→
 Calls Tryz.prog 174 #[.agg #[.pointer (some ⟨g,0,none⟩)],bo (UInt64.ofNat most)] w (kq (fun r w'=>Mv (RX g) w w'∧r=bo (UInt64.ofNat n)∧aP g s1 w'∧s1≠none∧n≤most) (fun c w'=>Mv (RX g) w w'∧rQ c∧s1=none)):=by
 obtain⟨n,s1,h1,h2,h3⟩:=uo st
 by_cases hn:n≤most
 ·exact⟨n,s1,Gl h1 hn,h2,fun hr=>kq.mono (zx h2 hm hr h3) (fun _ _ h=>h) fun _ _ ⟨a,b,c⟩=>⟨a,b,c.resolve_right fun h=>h hn⟩⟩
 ·exact⟨n,none,Gm h1 hn,h2,fun hr=>kq.mono (zx h2 hm hr h3) (fun _ _ h=>absurd h.2.2.2.2 hn) fun _ _ ⟨a,b,_⟩=>⟨a,b,rfl⟩⟩
theorem AY {w:World} {g:Nat} {st:Option (List UInt8)} (hr:aP g st w) (hl:fB st):
 Calls Tryz.prog 177 #[.agg #[.pointer (some ⟨g,0,none⟩)]] w (kq (fun r w'=>Mv (RX g) w w'∧∃(d:fa) (x y:Value) (s1:Option (List UInt8)),r=.agg #[I d.kd,I d.ix,B d.at_.1,x,y]∧cz (fun k=>k<w.heap.size) w' (nu d) [I d.kd,I d.ix,B d.at_.1,x,y]∧x.oneCell'=true∧y.oneCell'=true∧aP g s1 w'∧eP yc st d s1∧s1≠none) (fun c w'=>Mv (RX g) w w'∧rQ c∧st.bind yc=none)):=by
 refine enter (vs:=[.agg #[.pointer (some ⟨g,0,none⟩)]]) Tryz.func177 Ig Ig Ig ?_
 have hlt:g<w.heap.size:=aP.lt hr
 obtain⟨n1,s1,q1,i1,c1⟩:=mN st
 obtain⟨n2,s2,q2,i2,c2⟩:=mN s1
 obtain⟨q,s3,q3,cR⟩:=yk s2
 have few2:fB s2:=q2.atM gl.le (q1.atM gl.le hl)
 have hp1:s1=none→s3=none:=fun e=>q3.none_of (q2.none_of e)
 have hp2:s2=none→s3=none:=fun e=>q3.none_of e
 have qA:=AR q1 q2 q3
 refine af (aa ?_)
 obtain⟨g1,w1,hr1,l1,x1,k1⟩:=cV (P:=Tryz.prog) (w:=w) (T:=246) (cs:=[.pointer (some ⟨g,0,none⟩)])
 refine cI Ig Ig hr1 ?_
 obtain⟨g2,w2,hr2,l2,x2,k2⟩:=aR (P:=Tryz.prog) (w:=w1) (t:=48) (z:=.agg #[I 0,I 0,B false,.slice none 0 0,.slice none 0 0]) (l:=[I 0,I 0,B false,.slice none 0 0,.slice none 0 0]) (by kernel_rfl) rfl
 refine aU Ig hr2 ?_
 have hr2:=hr.ext (x1.trans x2)
 have e2:=(x1.trans x2)
 have k12:=k1.ext x2
 have nX1:¬RX g g1:=fun h=>by have:g1=g:=h;omega
 have nX2:¬RX g g2:=fun h=>by have:g2=g:=h;have:=x1.size;omega
 have hgs:w2.heap.size≤w2.heap.size:=Nat.le_refl _
 have hgb:g<w2.heap.size:=by have:=e2.size;omega
 have sz1:=x1.size
 have lt2:=k2.lt
 refine ag (ab (af (ji 19 [2,21] (Mv (RX g) w2) (Mv (RX g)) true (fun c w'=>Mv (RX g) w2 w'∧rQ c∧s3=none) (aP g st) (fb.mv _ _) (Mv.refl _ _) aP.stableZ hr2 (fun c a w1 hd hp=>⟨hd,.inr ⟨c,rfl,(Mv.of_ext e2).trans hp.1 fun _ hj _=>hj,hp.2.1,by have:=qA;rw[hp.2.2] at this;exact this⟩⟩) (fun _=>by kernel_rfl) (by kernel_rfl) (by kernel_rfl) ?_)))
 refine aA Ig Ig (fun w hw=>aI (o:=0) HM Ig (by kernel_rfl) Ig) (av Ig Ig (fun w hw=>aj HP Ig ((hw.blk k12 nX1).k0)) ?_)
 refine cO (S:=Is (.tuple #[I n1,I (if s1.isSome=true then 0 else 5)])) (Z':=aP g s1) gL rfl (be.is _) (aP.stableZ) rfl (fun w hw hz=>by rintro _ rfl;exact rh (c1 hz)) ?_
 refine dl rfl rfl (fun w _=>bw) (dl rfl rfl (fun w _=>bz) (cO (S:=Is (I n1)) (Z':=aP g s1) fQ rfl (be.is _) (aP.stableZ) rfl (fun w hw hz=>by rintro _ rfl _ rfl;exact mO hw hz hp1) ?_))
 refine aA Ig Ig (fun w hw=>aI (o:=0) HM Ig (by kernel_rfl) Ig) (av Ig Ig (fun w hw=>aj HP Ig ((hw.blk k12 nX1).k0)) ?_)
 refine cO (S:=Is (.tuple #[I n2,I (if s2.isSome=true then 0 else 5)])) (Z':=aP g s2) gL rfl (be.is _) (aP.stableZ) rfl (fun w hw hz=>by rintro _ rfl;exact rh (c2 hz)) ?_
 refine dl rfl rfl (fun w _=>bw) (dl rfl rfl (fun w _=>bz) (cO (S:=Is (I n2)) (Z':=aP g s2) fQ rfl (be.is _) (aP.stableZ) rfl (fun w hw hz=>by rintro _ rfl _ rfl;exact mO hw hz hp2) ?_))
 refine aA Ig Ig (fun w hw=>aI (o:=0) HM Ig (by kernel_rfl) Ig) (av Ig Ig (fun w hw=>aj HP Ig ((hw.blk k12 nX1).k0)) ?_)
 refine cO (S:=nC w2.heap.size q (if s3.isSome=true then 0 else 5)) (Z':=aP g s3) od rfl (nC.stable hgb) (aP.stableZ) rfl (fun w hw hz=>by rintro _ rfl;exact yn (Nat.le_trans hgs hw.size) (cR few2 hz)) ?_
 refine gA rfl (pq.stable hgb) rfl (fun w v hw hv=>by obtain⟨x,y,rfl,h⟩:=hv;exact⟨_,bw,x,y,rfl,h⟩) (gA rfl (be.is (I (if s3.isSome=true then 0 else 5))) rfl (fun w v hw hv=>by obtain⟨x,y,rfl,h⟩:=hv;exact⟨_,bz,rfl⟩) ?_)
 refine cO (S:=pq w2.heap.size q) (Z':=(fun w=>aP g s3 w∧s3≠none)) mJ rfl (pq.stable hgb) (f4 aP.stableZ) rfl (fun w hw hz=>by rintro _ ⟨x,y,rfl,h⟩ _ rfl;exact yo hw hz h id) ?_
 refine py (S:=fun v w'=>∃x y,v=.agg #[I n1,I n2,B q.1,x,y]∧cz (fun k=>k<w2.heap.size) w' (cN q) [B q.1,x,y]) (fun _ _ _ ⟨x,y,h,h2⟩ hm=>⟨x,y,h,h2.mv (hm.weak fun j hj _=>by have:j=g:=hj;show j<w2.heap.size;omega) fun _ hk=>.inl hk⟩) Ig (fun w' hw=>by
 rintro _ rfl _ rfl _ ⟨x,y,rfl,h⟩
 exact⟨_,w',run_build _ _ _ _ (by kernel_rfl),aE.refl _,x,y,rfl,h⟩) ?_
 refine bn ?_
 intro wg1 xg1 zg1
 rintro _ rfl
 intro vg21 b20
 obtain⟨x,y,rfl,hq⟩:=b20
 obtain⟨hrG,hs3⟩:=zg1
 have hx1:=(fZ hq).1
 have hy1:=(fZ hq).2
 have kG:=xg1.blk k2 nX2
 obtain⟨wd,sd,qd,kd⟩:=kG.stS (P:=Tryz.prog) (t:=48) (m:=[I n1,I n2,B q.1,x,y]) rfl (by kernel_rfl) (aT.cons rfl (aT.cons rfl (aT.cons rfl (aT.cons hx1 (aT.cons hy1 aT.nil)))))
 have md:Mv (fun k=>k=g2) wg1 wd:=Mv.of_grown qd fun k hk _=>(Option.some.inj hk).symm
 refine az Ig Ig sd ?_
 refine ag (ab (ay ?_))
 refine eo Ig Ig kd HT Ig (by kernel_rfl) ?_
 exact .inl ⟨_,rfl,((Mv.of_ext e2).trans xg1 fun _ hj _=>hj).trans md fun j hj hlt=>by omega,⟨n1,n2,q⟩,x,y,s3,rfl,wj (d:=⟨n1,n2,q⟩) (hq.mv (md.weak fun j hj _=>by show j<w2.heap.size;omega) fun j hj=>.inl (by have:=e2.size;show j<w2.heap.size;omega)),hx1,hy1,hrG.mv md fun j hj=>by omega,qA,hs3⟩
end Go.Rl
namespace Go.Rl
open Go.RowKit Go.Proofs
theorem Sl.mv {X:Nat→Prop} {w w':World} {sz:Nat} {xs:List Value} {v:Value} (h:Sl sz xs v w) (hm:Mv X w w') (hx:∀k,v.ownBlock=some k→¬X k):Sl sz xs v w':=by
 obtain⟨A,n,c,rfl,h2,h3,h4,h5,h6⟩:=h
 exact⟨A,n,c,rfl,h2,h3,h4,fun hn=>(h5 hn).imp fun ad h=>⟨h.1,hm.cells h.2 fun _=>hx ad.block (by rw[h.1];rfl)⟩,h6⟩
def jl {α:Type} (b sz:Nat) (f:α→Dt) (l:List α):cH:=fun v w=>∃cs,Sl sz cs v w∧(∀k,v.ownBlock=some k→b≤k)∧aT cs∧aF (fun k=>k<b) w (l.map f) cs
theorem jl.stable {α:Type} {b sz g:Nat} {f:α→Dt} {l:List α} (hg:g<b):bD (Mv (RX g)) (jl b sz f l):=fun _ _ _ ⟨cs,h1,h2,h3,h4⟩ hm=>
 ⟨cs,h1.mv hm fun k hk hX=>by have:k=g:=hX;have:=h2 k hk;omega,h2,h3,aF.mv (hm.weak fun j hj _=>by have:j=g:=hj;show j<b;omega) (fun _ hk=>.inl hk) h4⟩
theorem aF.one {X:Nat→Prop} {w:World} {d:Dt} {cs:List Value} (h:aF X w [d] cs):cz X w d cs:=by
 simp only[aF] at h
 obtain⟨c1,c2,rfl,h1,rfl⟩:=h
 simpa using h1
theorem C1 {α:Type} {P:Program} {w:World} {t e:TypeId} {z:Value} {sz bytes b:Nat} {f:α→Dt} {a:α} {cs:List Value} (ht:P.underlying t=some (.slice e)) (hi:(P.info? e).map (fun i=>(i.zero,i.size,i.bytes))=some (some z,sz,bytes)) (hzs:z.cells.size=sz) (h0:0<sz) (hsb:sz≤16777216)
 (hb:b≤w.heap.size) (h1:aT cs) (ha:cz (fun k=>k<b) w (f a) cs) (hs:(f a).size=sz):∃r w',(Instr.buildSlice t 1 (da 0 [Value.agg cs.toArray]).toArray).run P w=.ok r w'∧aE w w'∧jl b sz f [a] r w':=by
 have hcl:cs.length=sz:=by rw[ha.len,hs]
 have hi2:(P.info? e).map (fun i=>(i.zero,i.size))=some (some z,sz):=by
  obtain⟨i,hi',h2⟩:=Option.map_eq_some_iff.1 hi
  simp only[Prod.mk.injEq] at h2
  rw[hi']
  simp[h2.1,h2.2.1]
 obtain⟨x,w0,h3,h4,h5,h6⟩:=CU (w:=w) ht hi2 hzs h0 [cs] (by simp[hcl]) (by simp) (by simpa using hsb)
 refine⟨x,w0,by simpa using h3,h4,cs,by simpa using h5,fun k hk=>?_,h1,?_⟩
 ·rw[h6] at hk
  obtain rfl:=Option.some.inj hk
  exact hb
 ·simpa using aF.cons (b:=[]) (ha.ext h4) aF.nil
def yp (b:Nat) (T:TypeId) (l:List Value):cH:=fun v w=>∃g5,v=.pointer (some ⟨g5,0,none⟩)∧b≤g5∧bI g5 T l w
theorem yp.stable {b g:Nat} {T:TypeId} {l:List Value} (hg:g<b):bD (Mv (RX g)) (yp b T l):=fun _ _ _ ⟨g5,h1,h2,h3⟩ hm=>⟨g5,h1,h2,hm.blk h3 fun h=>by have:g5=g:=h;omega⟩
theorem C3 {P:Program} {w:World} {t:TypeId} {z:Value} {l:List Value} {b:Nat} (h:(P.info? t).map (·.zero)=some (some z)) (hv:z.cells=l.toArray) (hb:b≤w.heap.size):∃r w',(Instr.alloc t true (.tuple #[])).run P w=.ok r w'∧aE w w'∧yp b t l r w':=by
 obtain⟨g,w',h1,h2,h3,h4⟩:=aR (w:=w) h hv
 exact⟨_,w',h1,h3,g,rfl,Nat.le_trans hb h2,h4⟩
theorem jm {s:Option (List UInt8)} (h:s≠none):∃l,s=some l:=by
 cases s with
 |none=>exact absurd rfl h
 |some l=>exact⟨l,rfl⟩
theorem pc {w:World} {g:Nat} {st:Option (List UInt8)} (hr:aP g st w) (hl:fB st):
 Calls Tryz.prog 176 #[.agg #[.pointer (some ⟨g,0,none⟩)]] w (kq (fun r w'=>Mv (RX g) w w'∧∃(ps:List eG) (s1:Option (List UInt8)),cz (fun k=>k<w.heap.size) w' (mF ps) [r]∧r.oneCell'=true∧aP g s1 w'∧eP uh st ps s1∧s1≠none) (fun c w'=>Mv (RX g) w w'∧rQ c∧st.bind uh=none)):=by
 refine enter (vs:=[.agg #[.pointer (some ⟨g,0,none⟩)]]) Tryz.func176 Ig Ig Ig ?_
 have hlt:g<w.heap.size:=aP.lt hr
 obtain⟨N,s0,qU,hN,cU⟩:=uo st
 refine af (aa ?_)
 obtain⟨g1,w1,hr1,l1,x1,k1⟩:=cV (P:=Tryz.prog) (w:=w) (T:=246) (cs:=[.pointer (some ⟨g,0,none⟩)])
 refine cI Ig Ig hr1 ?_
 have hr1:=hr.ext x1
 have e1:=x1
 have nX1:¬RX g g1:=fun h=>by have:g1=g:=h;omega
 have lt1:=k1.lt
 refine ac Ig Ig (ag (ab (af (aa (ac Ig Ig (ag (ab (af (af (aa (ah Ig Ig (aI (o:=0) HM Ig (by kernel_rfl) Ig) ?_)))))))))))
 refine am Ig Ig (aj HP Ig (k1.cell (i:=0) Ig)) (ak fX Ig Ig ((cU hr1)) ?_)
 rintro v8 w8 ⟨g8,rfl,hr8⟩
 have m8:=hr1.rdT.kp g8
 have mv8:Mv (RX g) w1 w8:=Mv.of_grown g8 fun k hk _=>(Option.some.inj hk).symm
 have k18:=mv8.blk k1 nX1
 have hl0:fB s0:=qU.atM og.le hl
 refine al rfl rfl (bw) (al rfl rfl (bz) (iG ku rfl rfl ((kv (n:=UInt64.ofNat N) (s:=s0))) (fun c a w1 ha hp=>⟨ha.defers,.inr ⟨c,rfl,by obtain⟨rfl,h2,h3⟩:=hp;exact⟨(Mv.of_ext e1).trans mv8 fun _ hj _=>hj,h2,om (done:=([]:List eG)) (f:=AP) qU (by rw[h3];rfl)⟩⟩⟩) ?_))
 rintro v11 _ ⟨rfl,rfl,hs0⟩
 obtain⟨l0,rfl⟩:=jm hs0
 refine ac Ig Ig (ag (ab (au ?_)))
 refine iC (fun(k:Nat) (v:Value) (l:List UInt8) (ps:List eG)=>[(1,.pointer (some ⟨g1,0,none⟩)),(3,v),(4,bo (UInt64.ofNat k))]) (fun(k:Nat) (v:Value) (l:List UInt8) (ps:List eG) w'=>Mv (RX g) w1 w'∧aP g (some l) w'∧gh 187 7 w1.heap.size fG ps v w'∧k<18446744073709551616∧(some l0).bind (cE AP N)=(some l).bind (fun l=>(cE AP k l).map fun p=>(ps++p.1,p.2))∧l.length+ps.length≤549755813888) (fun(k:Nat) (v:Value) (l:List UInt8) (ps:List eG)=>k) (N) (.slice none 0 0) (l0) ([]) ⟨rfl,rfl,rfl,trivial⟩ ⟨mv8,hr8,gh.nil _,hN,mE,by have:=hl0 l0 rfl;simpa using this⟩ ?_
 rintro k v l ps wL ⟨mL,hrL,oL,hk,hR,hql⟩
 refine af (af ?_)
 have hkn:(UInt64.ofNat k).toNat=k:=by rw[UInt64.toNat_ofNat'];omega
 have kL:=mL.blk k1 nX1
 have szL:=mL.size
 have hvo:v.oneCell'=true:=by obtain⟨_,_,_,rfl⟩:=oL.isS;rfl
 rcases Nat.eq_zero_or_pos k with h0|h0
 rotate_left
 ·refine aa (ae Ig Ig (ai (v:=bo 0) Ig Ig Ig (dW (UInt64.lt_iff_toNat_lt.2 (by rw[hkn];exact h0)) cJ) (ag (ab (ce Ig (ax (ab ?_)))))))
  refine af (au (af ?_))
  obtain⟨k',rfl⟩:∃k',k=k'+1:=⟨k-1,by omega⟩
  obtain⟨n1,sA,q1,i1,c1⟩:=mN (some l)
  obtain⟨n2,sB,q2,i2,c2⟩:=mN sA
  obtain⟨n3,sC,q3,i3,c3⟩:=mN sB
  obtain⟨n4,sD,q4,i4,c4⟩:=mN sC
  obtain⟨q,sE,q5,cR⟩:=yk sD
  have hll:fB (some l):=fun l' e=>by cases e;omega
  have fewD:fB sD:=q4.atM gl.le (q3.atM gl.le (q2.atM gl.le (q1.atM gl.le hll)))
  have qM:=yd q1 q2 q3 q4 q5
  have hpE:sE=none→st.bind uh=none:=fun e=>ox qU hR (by have h:=qM;rw[e] at h;exact h)
  have hpD:sD=none→st.bind uh=none:=fun e=>hpE (q5.none_of e)
  have hpC:sC=none→st.bind uh=none:=fun e=>hpD (q4.none_of e)
  have hpB:sB=none→st.bind uh=none:=fun e=>hpC (q3.none_of e)
  have hpA:sA=none→st.bind uh=none:=fun e=>hpB (q2.none_of e)
  have hgL:g<wL.heap.size:=by omega
  have mWL:Mv (RX g) w wL:=(Mv.of_ext e1).trans mL fun _ hj _=>hj
  refine ji 26 [1,3,4,5,40] (Mv (RX g) wL) (Mv (RX g)) true (fun c w'=>Mv (RX g) wL w'∧rQ c∧st.bind uh=none) (aP g (some l)) (fb.mv _ _) (Mv.refl _ _) aP.stableZ hrL (fun c a w1 hd hp=>⟨hd,.inr ⟨c,rfl,mWL.trans hp.1 fun _ hj _=>hj,hp.2⟩⟩) (fun _=>by kernel_rfl) (by kernel_rfl) (by kernel_rfl) ?_
  refine aA Ig Ig (fun w hw=>aI (o:=0) HM Ig (by kernel_rfl) Ig) (av Ig Ig (fun w hw=>aj HP Ig ((hw.blk kL nX1).k0)) ?_)
  refine cO (S:=Is (.tuple #[I n1,I (if sA.isSome=true then 0 else 5)])) (Z':=aP g sA) gL rfl (be.is _) (aP.stableZ) rfl (fun w hw hz=>by rintro _ rfl;exact rh (c1 hz)) ?_
  refine dl rfl rfl (fun w _=>bw) (dl rfl rfl (fun w _=>bz) (cO (S:=Is (I n1)) (Z':=aP g sA) fQ rfl (be.is _) (aP.stableZ) rfl (fun w hw hz=>by rintro _ rfl _ rfl;exact mO hw hz hpA) ?_))
  refine aA Ig Ig (fun w hw=>aI (o:=0) HM Ig (by kernel_rfl) Ig) (av Ig Ig (fun w hw=>aj HP Ig ((hw.blk kL nX1).k0)) ?_)
  refine cO (S:=Is (.tuple #[I n2,I (if sB.isSome=true then 0 else 5)])) (Z':=aP g sB) gL rfl (be.is _) (aP.stableZ) rfl (fun w hw hz=>by rintro _ rfl;exact rh (c2 hz)) ?_
  refine dl rfl rfl (fun w _=>bw) (dl rfl rfl (fun w _=>bz) (cO (S:=Is (I n2)) (Z':=aP g sB) fQ rfl (be.is _) (aP.stableZ) rfl (fun w hw hz=>by rintro _ rfl _ rfl;exact mO hw hz hpB) ?_))
  refine aA Ig Ig (fun w hw=>aI (o:=0) HM Ig (by kernel_rfl) Ig) (av Ig Ig (fun w hw=>aj HP Ig ((hw.blk kL nX1).k0)) ?_)
  refine cO (S:=Is (.tuple #[I n3,I (if sC.isSome=true then 0 else 5)])) (Z':=aP g sC) gL rfl (be.is _) (aP.stableZ) rfl (fun w hw hz=>by rintro _ rfl;exact rh (c3 hz)) ?_
  refine dl rfl rfl (fun w _=>bw) (dl rfl rfl (fun w _=>bz) (cO (S:=Is (I n3)) (Z':=aP g sC) fQ rfl (be.is _) (aP.stableZ) rfl (fun w hw hz=>by rintro _ rfl _ rfl;exact mO hw hz hpC) ?_))
  refine aA Ig Ig (fun w hw=>aI (o:=0) HM Ig (by kernel_rfl) Ig) (av Ig Ig (fun w hw=>aj HP Ig ((hw.blk kL nX1).k0)) ?_)
  refine cO (S:=Is (.tuple #[I n4,I (if sD.isSome=true then 0 else 5)])) (Z':=aP g sD) gL rfl (be.is _) (aP.stableZ) rfl (fun w hw hz=>by rintro _ rfl;exact rh (c4 hz)) ?_
  refine dl rfl rfl (fun w _=>bw) (dl rfl rfl (fun w _=>bz) (cO (S:=Is (I n4)) (Z':=aP g sD) fQ rfl (be.is _) (aP.stableZ) rfl (fun w hw hz=>by rintro _ rfl _ rfl;exact mO hw hz hpD) ?_))
  refine py (S:=Is (.agg #[I n1,I n2,I n3,I n4])) (be.is _) rfl (fun w' hw=>by rintro _ rfl _ rfl _ rfl _ rfl;exact⟨_,w',run_build _ _ _ _ (by kernel_rfl),aE.refl _,rfl⟩) ?_
  refine tG (S:=yp wL.heap.size 185 [I 0,I 0,I 0,I 0]) (yp.stable hgL) Ig (fun w' hw=>C3 (z:=.agg #[I 0,I 0,I 0,I 0]) (by kernel_rfl) Ig hw.size) ?_
  refine bn ?_
  intro wg5 xg5 zg5
  rintro _ rfl
  rintro _ hq3
  obtain rfl:=Eq.symm hq3
  rintro _ rfl
  intro vg5 b5
  rintro _ rfl
  obtain⟨g5,rfl,hg5,kG5⟩:=b5
  obtain⟨wd,sd,qd,kd⟩:=kG5.stS (P:=Tryz.prog) (t:=185) (m:=[I n1,I n2,I n3,I n4]) rfl (by kernel_rfl) (aT.cons rfl (aT.cons rfl (aT.cons rfl (aT.cons rfl aT.nil))))
  have md:Mv (fun k=>k=g5) wg5 wd:=Mv.of_grown qd fun k hk _=>(Option.some.inj hk).symm
  have hrd:aP g sD wd:=zg5.mv md fun j hj=>by omega
  have mLd:Mv (RX g) wL wd:=xg5.trans md fun j hj hlt=>by omega
  have kLd:=mLd.blk kL nX1
  have nX5:¬RX g g5:=fun h=>by have:g5=g:=h;omega
  have hgb:g<wd.heap.size:=by have:=mLd.size;omega
  have hgs:wd.heap.size≤wd.heap.size:=Nat.le_refl _
  have mWd:Mv (RX g) w wd:=mWL.trans mLd fun _ hj _=>hj
  refine az Ig Ig sd ?_
  refine ag (ab (ji 10 [1,4,41,50] (Mv (RX g) wd) (Mv (RX g)) true (fun c w'=>Mv (RX g) wd w'∧rQ c∧st.bind uh=none) (aP g sD) (fb.mv _ _) (Mv.refl _ _) aP.stableZ hrd (fun c a w1 hd hp=>⟨hd,.inr ⟨c,rfl,mWd.trans hp.1 fun _ hj _=>hj,hp.2⟩⟩) (fun _=>by kernel_rfl) (by kernel_rfl) (by kernel_rfl) ?_))
  refine an Ig Ig (av Ig Ig (fun w hw=>(hw.blk kd nX5).ld Ib Ig (by kernel_rfl)) (aA Ig Ig (fun w hw=>aI (o:=0) HM Ig (by kernel_rfl) Ig) ?_))
  refine av rfl rfl (fun w hw=>aj HP rfl ((hw.blk kLd nX1).k0)) (cO (S:=nC wd.heap.size q (if sE.isSome=true then 0 else 5)) (Z':=aP g sE) od rfl (nC.stable hgb) (aP.stableZ) rfl (fun w hw hz=>by rintro _ rfl;exact yn (Nat.le_trans hgs hw.size) (cR fewD hz)) ?_)
  refine gA rfl (pq.stable hgb) rfl (fun w v hw hv=>by obtain⟨x,y,rfl,h⟩:=hv;exact⟨_,bw,x,y,rfl,h⟩) (gA rfl (be.is (I (if sE.isSome=true then 0 else 5))) rfl (fun w v hw hv=>by obtain⟨x,y,rfl,h⟩:=hv;exact⟨_,bz,rfl⟩) ?_)
  refine cO (S:=pq wd.heap.size q) (Z':=(fun w=>aP g sE w∧sE≠none)) mJ rfl (pq.stable hgb) (f4 aP.stableZ) rfl (fun w hw hz=>by rintro _ ⟨x,y,rfl,h⟩ _ rfl;exact yo hw hz h hpE) ?_
  refine py (S:=fun v w'=>∃x y,v=.agg #[I n1,I n2,I n3,I n4,B q.1,x,y]∧cz (fun k=>k<wd.heap.size) w' (cN q) [B q.1,x,y]) (fun _ _ _ ⟨x,y,h,h2⟩ hm=>⟨x,y,h,h2.mv (hm.weak fun j hj _=>by have:j=g:=hj;show j<wd.heap.size;omega) fun _ hk=>.inl hk⟩) Ig (fun w' hw=>by
 rintro _ rfl _ ⟨x,y,rfl,h⟩
 exact⟨_,w',run_build _ _ _ _ (by kernel_rfl),aE.refl _,x,y,rfl,h⟩) ?_
  refine dz (S:=jl wd.heap.size 7 fG [⟨n1,n2,n3,n4,q⟩]) (jl.stable hgb) Ig (fun w' hw=>by
 rintro _ ⟨x,y,rfl,h⟩
 exact C1 (cs:=[I n1,I n2,I n3,I n4,B q.1,x,y]) H0 sZ rfl (by omega) (by omega) hw.size (aT.cons rfl (aT.cons rfl (aT.cons rfl (aT.cons rfl (aT.cons rfl (aT.cons (fZ h).1 (aT.cons (fZ h).2 aT.nil))))))) (AW (m:=⟨n1,n2,n3,n4,q⟩) h) (kt _)) ?_
  refine bn ?_
  intro wg6 xg6 zg6
  rintro _ rfl
  rintro _ rfl
  rintro _ hq41
  obtain rfl:=Eq.symm hq41
  intro vg50 b50
  obtain⟨hrG,hsE⟩:=zg6
  obtain⟨lE,rfl⟩:=jm hsE
  obtain⟨cs,hcs,hown,h1cs,hall⟩:=b50
  have mAll:Mv (RX g) wL wg6:=mLd.trans xg6 fun _ hj _=>hj
  have hX1:∀j,RX g j→j<w1.heap.size:=fun j hj=>by have:j=g:=hj;have:=e1.size;omega
  have oG:=oL.mv mAll hX1
  have own:∀j,v.ownBlock=some j→w1.heap.size≤j∧j<wL.heap.size:=oL.lt
  have hM:=(aF.one hall).weak (Y:=fun k=>k<w1.heap.size∨v.ownBlock=some k) fun j hj=>.inl (by
   have:=mLd.size
   rcases hj with hj|hj
   ·show j<wd.heap.size;omega
   ·have:=(own j hj).2;show j<wd.heap.size;omega)
  obtain⟨v51,w51,hr51,o51,g51⟩:=oG.app (t:=50) (ty:=50) H0 sZ rfl (by omega) (by omega) hcs h1cs hM kt (by omega) (Nat.le_trans szL mAll.size)
  have m51:Mv (fun k=>v.ownBlock=some k) wg6 w51:=Mv.of_grown g51.grown fun k hk _=>hk
  have h51:aP g (some lE) w51:=hrG.mv m51 fun j hj=>by have:=own j hj;have:=e1.size;omega
  have hlE:=zt l _ lE qM
  refine aZ Ig Ig hr51 ?_
  refine ac Ig Ig (ag (aM (ab (aa (ae Ig Ig ?_)))))
  have ek:UInt64.ofNat (k'+1)-1=UInt64.ofNat k':=by
   refine UInt64.toNat_inj.1 ?_
   rw[UInt64.toNat_sub_of_le _ _ (UInt64.le_iff_toNat_le.2 (by rw[hkn];show 1≤_;omega)),hkn,UInt64.toNat_ofNat',show(1:UInt64).toNat=1 from rfl]
   omega
  refine ai (v:=bo 1) (r:=bo (UInt64.ofNat k')) Ig Ig Ig ((by rw[←ek];exact cW)) (ac Ig Ig (ag ?_))
  refine fi (k') (v51) (lE) (ps++[⟨n1,n2,n3,n4,q⟩]) ⟨rfl,rfl,rfl,trivial⟩ ⟨(mL.trans mAll fun _ hj _=>hj).trans m51 fun j hj hlt=>by have:=(own j hj).1;omega,h51,o51,by omega,oe hR qM,by simp;omega⟩ (by omega)
 ·refine aa (ae Ig Ig (ai (v:=bo 0) Ig Ig Ig (eU (fun hh=>by have:=UInt64.lt_iff_toNat_lt.1 hh;rw[hkn,h0] at this;exact absurd this (by decide)) cJ) ?_))
  refine ag (ab (eS Ig (ba (aC (aC (aY (ab (af (aa (ae Ig Ig (ac Ig Ig (ag (ab (ay (aD Ig Ig ?_)))))))))))))))
  exact .inl ⟨_,rfl,(Mv.of_ext e1).trans mL fun _ hj _=>hj,ps,some l,(oL.rpx kt (by omega)).weak fun j hj=>.inl (by have:=e1.size;show j<w1.heap.size;omega),hvo,hrL,ol qU (by subst h0;exact hR),by simp⟩
end Go.Rl
namespace Go.Rl
open Go.RowKit Go.Proofs
section
variable {w0 w:World} {g:Nat} {s1:Option (List UInt8)} {E:Prop} {f:FuncId} {args:Array Value}
theorem chM {v:Value} {G:Prop} (hw:Mv (RX g) w0 w) (h:Calls Tryz.prog f args w (kq (fun r w'=>Mv (RX g) w w'∧r=v∧aP g s1 w'∧s1≠none∧G) (fun c w'=>Mv (RX g) w w'∧rQ c∧s1=none))) (hp:s1=none→E):Calls Tryz.prog f args w (fun e w'=>(∃r,e=.returned r∧Mv (RX g) w w'∧Is v r w'∧aP g s1 w')∨∃c,e=.panicked c∧Mv (RX g) w0 w'∧rQ c∧E):=by
 refine Calls.mono h fun _ _ he=>?_
 rcases he with⟨r,he,h1,h2,h3,_⟩|⟨c,he,h1,h2,h3⟩
 ·exact .inl ⟨r,he,h1,h2,h3⟩
 ·exact .inr ⟨c,he,hw.trans h1 fun _ hn _=>hn,h2,hp h3⟩
end
theorem C6 {w:World} {ad:Addr} {xs cs:List Value} {g5:Nat} {T:TypeId} (hc:cS w ad xs) (hn:xs≠[]) (hb:bI g5 T cs w) (hcs:∀u∈xs,u∉cs):ad.block≠g5:=fun he=>by
 cases xs with
 |nil=>exact hn rfl
 |cons u xs=>
  have hcell:=hc 0 u rfl
  have he:(ad.add 0).block=g5:=by rw[iL];exact he
  have:w.cell? (ad.add 0)=cs.toArray[(ad.add 0).off]? :=by
   have hs:(ad.add 0).spot=none:=World.cell?_spot hcell
   have e:ad.add 0=⟨g5,(ad.add 0).off,none⟩:=by
    cases hx:ad.add 0 with
    |mk b o s=>
     rw[hx] at hs he
     simp only at hs he
     rw[hs,he]
   rw[e]
   exact cell_of_row w g5 _ cs.toArray T (0,0) hb
  rw[hcell] at this
  have h2:cs[(ad.add 0).off]? =some u:=by simpa using this.symm
  exact hcs u (by simp) (List.mem_of_getElem? h2)
theorem wm {X:Nat→Prop} {w:World} {l:List UInt32} {v:Value} {g5:Nat} {T:TypeId} {cs:List Value} (h:cz X w (i8 l) [v]) (hb:bI g5 T cs w) (hcs:∀n:UInt32,bg n∉cs):cz (fun k=>X k∨k=g5) w (i8 l) [v]:=by
 unfold i8 at h⊢
 simp only[cz] at h⊢
 obtain⟨A,n,c,hv,h2,h3,h4,h5,h6⟩:=h
 refine⟨A,n,c,hv,h2,h3,h4,h5,fun hp=>?_⟩
 obtain⟨ad,xs,hA,hX,hC,hall⟩:=h6 hp
 have hall2:∀(l:List UInt32) (ys:List Value),aF X w (l.map nU) ys→(∀u∈ys,∃n:UInt32,u=bg n)∧aF (fun k=>X k∨k=g5) w (l.map nU) ys:=by
  intro l
  induction l with
  |nil=>intro ys h;simp only[List.map_nil,aF] at h⊢;subst h;exact⟨fun _ h=>by simp at h,rfl⟩
  |cons a l ih=>
   intro ys h
   simp only[List.map_cons,aF] at h⊢
   obtain⟨c1,c2,rfl,h1,h2⟩:=h
   have h1':c1=[bg a]:=by simp only[nU,cz] at h1;exact h1
   refine⟨fun u hu=>?_,c1,c2,rfl,by simpa only[nU,cz] using h1,(ih _ h2).2⟩
   rcases List.mem_append.1 hu with hu|hu
   ·rw[h1'] at hu;exact⟨a,by simpa using hu⟩
   ·exact(ih _ h2).1 u hu
 obtain⟨hu,ha⟩:=hall2 l xs hall
 refine⟨ad,xs,hA,fun hn hx=>?_,hC,ha⟩
 rcases hx with hx|hx
 ·exact hX hn hx
 ·exact C6 hC hn hb (fun u hm=>by obtain⟨n,rfl⟩:=hu u hm;exact hcs n) hx
theorem C7 {X:Nat→Prop} {w:World} {q:d7} {x y:Value} {g5:Nat} {T:TypeId} {cs:List Value} (h:cz X w (cN q) [B q.1,x,y]) (hb:bI g5 T cs w) (hcs:∀n:UInt32,bg n∉cs):cz (fun k=>X k∨k=g5) w (cN q) [B q.1,x,y]:=by
 have key:∀{ms:List Value},cz X w (cN q) ms→∃x y,ms=[B q.1,x,y]∧cz X w (i8 q.2.1) [x]∧cz X w (i8 q.2.2) [y]:=fun {ms} h=>by
  have isS:∀{l:List UInt32} {c:List Value},cz X w (i8 l) c→∃v,c=[v]:=fun {l c} h=>by
   unfold i8 at h
   simp only[cz] at h
   obtain⟨A,n,c,rfl,_⟩:=h
   exact⟨_,rfl⟩
  simp only[cN,cz,aF] at h
  obtain⟨_,_,rfl,rfl,c1,_,rfl,h1,c2,_,rfl,h2,rfl⟩:=h
  obtain⟨x,rfl⟩:=isS h1
  obtain⟨y,rfl⟩:=isS h2
  exact⟨x,y,rfl,h1,h2⟩
 obtain⟨x',y',he,h1,h2⟩:=key h
 simp only[List.cons.injEq,and_true] at he
 obtain⟨_,rfl,rfl⟩:=he
 simp only[cN,cz.eq_5]
 exact aF.cons (a:=[B q.1]) (bX _) (aF.cons (wm h1 hb hcs) (aF.cons (b:=[]) (wm h2 hb hcs) aF.nil))
theorem yq {w:World} {g:Nat} {st:Option (List UInt8)} (hr:aP g st w) (hl:fB st):
 Calls Tryz.prog 175 #[.agg #[.pointer (some ⟨g,0,none⟩)]] w (kq (fun r w'=>Mv (RX g) w w'∧∃(ls:List gn) (s1:Option (List UInt8)),cz (fun k=>k<w.heap.size) w' (.sl (ls.map jf)) [r]∧r.oneCell'=true∧aP g s1 w'∧eP fY st ls s1∧s1≠none) (fun c w'=>Mv (RX g) w w'∧rQ c∧st.bind fY=none)):=by
 refine enter (vs:=[.agg #[.pointer (some ⟨g,0,none⟩)]]) Tryz.func175 Ig Ig Ig ?_
 have hlt:g<w.heap.size:=aP.lt hr
 obtain⟨N,s0,qU,hN,cU⟩:=uo st
 refine af (aa ?_)
 obtain⟨g1,w1,hr1,l1,x1,k1⟩:=cV (P:=Tryz.prog) (w:=w) (T:=246) (cs:=[.pointer (some ⟨g,0,none⟩)])
 refine cI Ig Ig hr1 ?_
 have hr1:=hr.ext x1
 have e1:=x1
 have nX1:¬RX g g1:=fun h=>by have:g1=g:=h;omega
 have lt1:=k1.lt
 refine ac Ig Ig (ag (ab (af (aa (ac Ig Ig (ag (ab (af (af (aa (ah Ig Ig (aI (o:=0) HM Ig (by kernel_rfl) Ig) ?_)))))))))))
 refine am Ig Ig (aj HP Ig (k1.cell (i:=0) Ig)) (ak fX Ig Ig ((cU hr1)) ?_)
 rintro v8 w8 ⟨g8,rfl,hr8⟩
 have m8:=hr1.rdT.kp g8
 have mv8:Mv (RX g) w1 w8:=Mv.of_grown g8 fun k hk _=>(Option.some.inj hk).symm
 have k18:=mv8.blk k1 nX1
 have hl0:fB s0:=qU.atM og.le hl
 refine al rfl rfl (bw) (al rfl rfl (bz) (iG ku rfl rfl ((kv (n:=UInt64.ofNat N) (s:=s0))) (fun c a w1 ha hp=>⟨ha.defers,.inr ⟨c,rfl,by obtain⟨rfl,h2,h3⟩:=hp;exact⟨(Mv.of_ext e1).trans mv8 fun _ hj _=>hj,h2,om (done:=([]:List gn)) (f:=ra) qU (by rw[h3];rfl)⟩⟩⟩) ?_))
 rintro v11 _ ⟨rfl,rfl,hs0⟩
 obtain⟨l0,rfl⟩:=jm hs0
 refine ac Ig Ig (ag (ab (au ?_)))
 refine iC (fun(k:Nat) (v:Value) (l:List UInt8) (ls:List gn)=>[(1,.pointer (some ⟨g1,0,none⟩)),(3,v),(4,bo (UInt64.ofNat k))]) (fun(k:Nat) (v:Value) (l:List UInt8) (ls:List gn) w'=>Mv (RX g) w1 w'∧aP g (some l) w'∧gh 173 6 w1.heap.size jf ls v w'∧k<18446744073709551616∧(some l0).bind (cE ra N)=(some l).bind (fun l=>(cE ra k l).map fun p=>(ls++p.1,p.2))∧l.length+ls.length≤549755813888) (fun(k:Nat) (v:Value) (l:List UInt8) (ls:List gn)=>k) (N) (.slice none 0 0) (l0) ([]) ⟨rfl,rfl,rfl,trivial⟩ ⟨mv8,hr8,gh.nil _,hN,mE,by have:=hl0 l0 rfl;simpa using this⟩ ?_
 rintro k v l ls wL ⟨mL,hrL,oL,hk,hR,hql⟩
 refine af (af ?_)
 have hkn:(UInt64.ofNat k).toNat=k:=by rw[UInt64.toNat_ofNat'];omega
 have kL:=mL.blk k1 nX1
 have szL:=mL.size
 have hvo:v.oneCell'=true:=by obtain⟨_,_,_,rfl⟩:=oL.isS;rfl
 rcases Nat.eq_zero_or_pos k with h0|h0
 rotate_left
 ·refine aa (ae Ig Ig (ai (v:=bo 0) Ig Ig Ig (dW (UInt64.lt_iff_toNat_lt.2 (by rw[hkn];exact h0)) cJ) (ag (ab (ce Ig (ax (ab ?_)))))))
  refine af (au (af ?_))
  obtain⟨k',rfl⟩:∃k',k=k'+1:=⟨k-1,by omega⟩
  obtain⟨n1,sA,q1,i1,c1⟩:=mN (some l)
  obtain⟨up,sB,q2,hup,cC⟩:=C0 sA (most:=1) (by omega)
  obtain⟨q,sC,q3,cR⟩:=yk sB
  have hll:fB (some l):=fun l' e=>by cases e;omega
  have fewB:fB sB:=q2.atM (mH 1).le (q1.atM gl.le hll)
  have fewC:fB sC:=q3.atM ub.le fewB
  have hE:(some l).bind ra=none→st.bind fY=none:=fun h=>ox qU hR h
  have hpA:sA=none→st.bind fY=none:=fun e=>hE (CP (by have h:=q1;rw[e] at h;exact h))
  have hpB:sB=none→st.bind fY=none:=fun e=>hE (CQ q1 (by have h:=q2;rw[e] at h;exact h))
  have hpC:sC=none→st.bind fY=none:=fun e=>hE (CR q1 q2 (by have h:=q3;rw[e] at h;exact h))
  have hgL:g<wL.heap.size:=by omega
  have hgb:g<wL.heap.size:=hgL
  have hgs:wL.heap.size≤wL.heap.size:=Nat.le_refl _
  have mWL:Mv (RX g) w wL:=(Mv.of_ext e1).trans mL fun _ hj _=>hj
  refine ji 17 [1,3,4,5,31] (Mv (RX g) wL) (Mv (RX g)) true (fun c w'=>Mv (RX g) wL w'∧rQ c∧st.bind fY=none) (aP g (some l)) (fb.mv _ _) (Mv.refl _ _) aP.stableZ hrL (fun c a w1 hd hp=>⟨hd,.inr ⟨c,rfl,mWL.trans hp.1 fun _ hj _=>hj,hp.2⟩⟩) (fun _=>by kernel_rfl) (by kernel_rfl) (by kernel_rfl) ?_
  refine aA Ig Ig (fun w hw=>aI (o:=0) HM Ig (by kernel_rfl) Ig) (av Ig Ig (fun w hw=>aj HP Ig ((hw.blk kL nX1).k0)) ?_)
  refine cO (S:=Is (.tuple #[I n1,I (if sA.isSome=true then 0 else 5)])) (Z':=aP g sA) gL rfl (be.is _) (aP.stableZ) rfl (fun w hw hz=>by rintro _ rfl;exact rh (c1 hz)) ?_
  refine dl rfl rfl (fun w _=>bw) (dl rfl rfl (fun w _=>bz) (cO (S:=Is (I n1)) (Z':=aP g sA) fQ rfl (be.is _) (aP.stableZ) rfl (fun w hw hz=>by rintro _ rfl _ rfl;exact mO hw hz hpA) ?_))
  refine av rfl rfl (fun w hw=>(hw.blk kL nX1).ld HM rfl (by kernel_rfl)) (cO (S:=Is (bo (UInt64.ofNat up))) (Z':=aP g sB) nB rfl (be.is _) (aP.stableZ) rfl (fun w hw hz=>by rintro _ rfl _ rfl;exact chM hw (cC hz) hpB) ?_)
  refine aL (u:=bo (UInt64.ofNat up)) (r:=B (nw up)) Ig Ig Ig (fun w _=>FD hup) (aA Ig Ig (fun w hw=>aI (o:=0) HM Ig (by kernel_rfl) Ig) ?_)
  refine av rfl rfl (fun w hw=>aj HP rfl ((hw.blk kL nX1).k0)) (cO (S:=nC wL.heap.size q (if sC.isSome=true then 0 else 5)) (Z':=aP g sC) od rfl (nC.stable hgb) (aP.stableZ) rfl (fun w hw hz=>by rintro _ rfl;exact yn (Nat.le_trans hgs hw.size) (cR fewB hz)) ?_)
  refine gA rfl (pq.stable hgb) rfl (fun w v hw hv=>by obtain⟨x,y,rfl,h⟩:=hv;exact⟨_,bw,x,y,rfl,h⟩) (gA rfl (be.is (I (if sC.isSome=true then 0 else 5))) rfl (fun w v hw hv=>by obtain⟨x,y,rfl,h⟩:=hv;exact⟨_,bz,rfl⟩) ?_)
  refine cO (S:=pq wL.heap.size q) (Z':=(fun w=>aP g sC w∧sC≠none)) mJ rfl (pq.stable hgb) (f4 aP.stableZ) rfl (fun w hw hz=>by rintro _ ⟨x,y,rfl,h⟩ _ rfl;exact yo hw hz h hpC) ?_
  refine py (S:=fun v w'=>∃x y,v=.agg #[I n1,B (nw up),B q.1,x,y,.slice none 0 0]∧cz (fun k=>k<wL.heap.size) w' (cN q) [B q.1,x,y]) (fun _ _ _ ⟨x,y,h,h2⟩ hm=>⟨x,y,h,h2.mv (hm.weak fun j hj _=>by have:j=g:=hj;show j<wL.heap.size;omega) fun _ hk=>.inl hk⟩) Ig (fun w' hw=>by
 rintro _ rfl _ rfl _ ⟨x,y,rfl,h⟩
 exact⟨_,w',run_build _ _ _ _ (by kernel_rfl),aE.refl _,x,y,rfl,h⟩) ?_
  refine tG (S:=yp wL.heap.size 173 [I 0,B false,B false,.slice none 0 0,.slice none 0 0,.slice none 0 0]) (yp.stable hgL) Ig (fun w' hw=>C3 (z:=.agg #[I 0,B false,B false,.slice none 0 0,.slice none 0 0,.slice none 0 0]) (by kernel_rfl) Ig hw.size) ?_
  refine bn ?_
  intro wg5 xg5 zg5
  rintro _ rfl
  rintro _ hq3
  obtain rfl:=Eq.symm hq3
  rintro _ rfl
  intro vg5 b5
  intro vg31 b31
  obtain⟨hrG,hsC⟩:=zg5
  obtain⟨g5,rfl,hg5,kG5⟩:=b5
  obtain⟨x,y,rfl,hq⟩:=b31
  have hx1:=(fZ hq).1
  have hy1:=(fZ hq).2
  obtain⟨wd,sd,qd,kd⟩:=kG5.stS (P:=Tryz.prog) (t:=173) (m:=[I n1,B (nw up),B q.1,x,y,.slice none 0 0]) rfl (by kernel_rfl) (aT.cons rfl (aT.cons rfl (aT.cons rfl (aT.cons hx1 (aT.cons hy1 (aT.cons rfl aT.nil))))))
  have md:Mv (fun k=>k=g5) wg5 wd:=Mv.of_grown qd fun k hk _=>(Option.some.inj hk).symm
  have hrd:aP g sC wd:=hrG.mv md fun j hj=>by omega
  have mLd:Mv (RX g) wL wd:=xg5.trans md fun j hj hlt=>by omega
  have kLd:=mLd.blk kL nX1
  have nX5:¬RX g g5:=fun h=>by have:g5=g:=h;omega
  have mWd:Mv (RX g) w wd:=mWL.trans mLd fun _ hj _=>hj
  have lt5:=kd.lt
  refine az Ig Ig sd ?_
  refine ag (ab (af (aa ?_)))
  refine am Ig Ig (kLd.ld HM Ig (by kernel_rfl)) ?_
  refine iG pb Ig Ig ((pc hrd fewC)) (fun c a w1 ha hp=>⟨ha.defers,.inr ⟨c,rfl,⟨mWd.trans hp.1 fun _ hj _=>hj,hp.2.1,hE (CS q1 q2 q3 hp.2.2)⟩⟩⟩) ?_
  rintro v33 w33 ⟨m33,ps,sE,rp33,hv33,hr33,q4,hsE⟩
  have m33:=m33
  obtain⟨lE,rfl⟩:=jm hsE
  have k33:=m33.blk kd nX5
  obtain⟨we,se,qe,ke⟩:=k33.stC (P:=Tryz.prog) (t:=50) (i:=5) (v:=v33) (by kernel_rfl) hv33 (by simp)
  have ke:bI g5 173 [I n1,B (nw up),B q.1,x,y,v33] we:=ke
  have me:Mv (fun k=>k=g5) w33 we:=Mv.of_grown qe fun k hk _=>(Option.some.inj hk).symm
  have hre:aP g (some lE) we:=hr33.mv me fun j hj=>by omega
  have mAll:Mv (RX g) wL we:=(mLd.trans m33 fun _ hj _=>hj).trans me fun j hj hlt=>by omega
  have hX1:∀j,RX g j→j<w1.heap.size:=fun j hj=>by have:j=g:=hj;have:=e1.size;omega
  have oE:=oL.mv mAll hX1
  have own:∀j,v.ownBlock=some j→w1.heap.size≤j∧j<wL.heap.size:=oL.lt
  have hY:∀j,(j<w1.heap.size∨v.ownBlock=some j)→j<wL.heap.size:=fun j hj=>by
   rcases hj with hj|hj
   ·omega
   ·exact(own j hj).2
  have szd:=mLd.size
  have rqe:=((C7 hq kG5 (fun n h=>by simp[bg,I,B] at h)).mv (((md.weak (Y:=fun k=>k<wL.heap.size∨k=g5) fun j hj _=>.inr hj).trans m33 fun j hj _=>.inl (by have:j=g:=hj;omega)).trans me fun j hj _=>.inr hj) fun _ hk=>.inl hk:cz (fun k=>k<wL.heap.size∨k=g5) we (cN q) [B q.1,x,y])
  have rpe:=rp33.mv (me.weak fun j hj _=>by show j<wd.heap.size;omega) fun _ hk=>.inl hk
  have hM:=CZ (l:=⟨n1,nw up,q,ps⟩) (rqe.weak (Y:=fun k=>k<w1.heap.size∨v.ownBlock=some k) fun j hj=>.inl (.inl (hY j hj))) (rpe.weak fun j hj=>.inl (by have:=hY j hj;show j<wd.heap.size;omega))
  have qLm:=ye q1 q2 q3 q4
  have hlE:=zu l _ lE qLm
  obtain⟨x37,w37,v38,w38,hr37,hr38,o38,m38,n38⟩:=oE.push (ty:=42) (t:=42) H7 CY rfl (by omega) (by omega) (by omega) (aT.cons rfl (aT.cons rfl (aT.cons rfl (aT.cons hx1 (aT.cons hy1 (aT.cons hv33 aT.nil)))))) hM ov (by omega) (Nat.le_trans szL mAll.size)
  have h38:aP g (some lE) w38:=hre.mv m38 fun j hj=>by have:=own j hj;have:=e1.size;omega
  refine ah Ig Ig (aI (o:=5) H3 Ig (by kernel_rfl) Ig) ?_
  refine az Ig Ig se ?_
  refine ag (ab (aa (ae Ig Ig ?_)))
  refine am Ig Ig (ke.ld H3 Ig (by kernel_rfl)) ?_
  refine aH (vs:=[(0,.agg #[I n1,B (nw up),B q.1,x,y,v33])]) Ig Ig hr37 ?_
  refine aZ Ig Ig hr38 ?_
  refine ac Ig Ig (ag (aM (ab (aa (ae Ig Ig ?_)))))
  have ek:UInt64.ofNat (k'+1)-1=UInt64.ofNat k':=by
   refine UInt64.toNat_inj.1 ?_
   rw[UInt64.toNat_sub_of_le _ _ (UInt64.le_iff_toNat_le.2 (by rw[hkn];show 1≤_;omega)),hkn,UInt64.toNat_ofNat',show(1:UInt64).toNat=1 from rfl]
   omega
  refine ai (v:=bo 1) (r:=bo (UInt64.ofNat k')) Ig Ig Ig ((by rw[←ek];exact cW)) (ac Ig Ig (ag ?_))
  refine fi (k') (v38) (lE) (ls++[⟨n1,nw up,q,ps⟩]) ⟨rfl,rfl,rfl,trivial⟩ ⟨(mL.trans mAll fun _ hj _=>hj).trans m38 fun j hj hlt=>by have:=(own j hj).1;omega,h38,o38,by omega,oe hR qLm,by simp;omega⟩ (by omega)
 ·refine aa (ae Ig Ig (ai (v:=bo 0) Ig Ig Ig (eU (fun hh=>by have:=UInt64.lt_iff_toNat_lt.1 hh;rw[hkn,h0] at this;exact absurd this (by decide)) cJ) ?_))
  refine ag (ab (eS Ig (ba (aC (aC (aY (ab (af (aa (ae Ig Ig (ac Ig Ig (ag (ab (ay (aD Ig Ig ?_)))))))))))))))
  exact .inl ⟨_,rfl,(Mv.of_ext e1).trans mL fun _ hj _=>hj,ls,some l,(oL.rpx ov (by omega)).weak fun j hj=>.inl (by have:=e1.size;show j<w1.heap.size;omega),hvo,hrL,ol qU (by subst h0;exact hR),by simp⟩
end Go.Rl
namespace Go.Rl
open Go.RowKit Go.Proofs
theorem eP.det {α:Type} {f:List UInt8→Option (α×List UInt8)} {st s s':Option (List UInt8)} {a a':α} (h:eP f st a s) (h':eP f st a' s') (hn:s≠none):a=a'∧s=s':=by
 have e:s.map (fun t=>(a,t))=s'.map fun t=>(a',t):=h.symm.trans h'
 cases s with
 |none=>exact absurd rfl hn
 |some t=>
  cases s' with
  |none=>cases e
  |some t'=>
   simp only[Option.map_some,Option.some.injEq,Prod.mk.injEq] at e
   exact⟨e.1,by rw[e.2]⟩
theorem uq (st:Option (List UInt8)):∃nd s1,eP eB st nd s1:=by
 cases h:st.bind eB with
 |none=>exact⟨.mk [] uc [] false [],none,h⟩
 |some p=>exact⟨p.1,some p.2,h⟩
theorem jl.isS {α:Type} {b sz:Nat} {f:α→Dt} {l:List α} {v:Value} {w:World} (h:jl b sz f l v w):∃A n c,v=.slice A n c:=by
 obtain⟨cs,⟨A,n,c,rfl,_⟩,_⟩:=h
 exact⟨A,n,c,rfl⟩
theorem jl.rpx {α:Type} {b sz:Nat} {f:α→Dt} {l:List α} {v:Value} {w:World} (h:jl b sz f l v w) (hs:∀a,(f a).size=sz) (h0:0<sz):cz (fun k=>k<b) w (.sl (l.map f)) [v]:=by
 obtain⟨cs,⟨A,n,c,rfl,h2,h3,h4,h5,h6⟩,hown,h1,hall⟩:=h
 have hl:cs.length=l.length*sz:=by rw[hall.len,cD (sz:=sz) (by simp[hs]),List.length_map]
 have hn:n=l.length:=Nat.eq_of_mul_eq_mul_right h0 (h4.symm.trans hl)
 simp only[cz]
 refine⟨A,n,c,rfl,by rw[List.length_map,hn],h2,h3,h6,fun hp=>?_⟩
 obtain⟨ad,rfl,hC⟩:=h5 hp
 exact⟨ad,cs,rfl,fun _ hb=>by have:=hown ad.block rfl;omega,hC,hall⟩
theorem Gn {α:Type} {P:Program} {w:World} {t e:TypeId} {z:Value} {sz bytes b:Nat} {f:α→Dt} {a1 a2:α} {c1 c2:List Value} (ht:P.underlying t=some (.slice e)) (hi:(P.info? e).map (fun i=>(i.zero,i.size,i.bytes))=some (some z,sz,bytes)) (hzs:z.cells.size=sz) (h0:0<sz) (hsb:2*sz≤16777216)
 (hb:b≤w.heap.size) (h1:aT c1) (h2:aT c2) (ha1:cz (fun k=>k<b) w (f a1) c1) (ha2:cz (fun k=>k<b) w (f a2) c2) (hs:∀a,(f a).size=sz):∃r w',(Instr.buildSlice t 2 (da 0 [Value.agg c1.toArray,Value.agg c2.toArray]).toArray).run P w=.ok r w'∧aE w w'∧jl b sz f [a1,a2] r w':=by
 have hl1:c1.length=sz:=by rw[ha1.len,hs]
 have hl2:c2.length=sz:=by rw[ha2.len,hs]
 have hi2:(P.info? e).map (fun i=>(i.zero,i.size))=some (some z,sz):=by
  obtain⟨i,hi',h2⟩:=Option.map_eq_some_iff.1 hi
  simp only[Prod.mk.injEq] at h2
  rw[hi']
  simp[h2.1,h2.2.1]
 obtain⟨x,w0,h3,h4,h5,h6⟩:=CU (w:=w) ht hi2 hzs h0 [c1,c2] (by simp[hl1,hl2]) (by simp) (by simpa using hsb)
 refine⟨x,w0,by simpa using h3,h4,c1++c2,by simpa using h5,fun k hk=>?_,fun u hu=>(List.mem_append.1 hu).elim (h1 u) (h2 u),?_⟩
 ·rw[h6] at hk
  obtain rfl:=Option.some.inj hk
  exact hb
 ·simpa using aF.cons (ha1.ext h4) (aF.cons (b:=[]) (ha2.ext h4) aF.nil)
def ur (b:Nat) (nd:bc):cH:=fun v w=>∃cs,v=.agg cs.toArray∧aT cs∧cz (fun k=>k<b) w (cw nd) cs
theorem ur.stable {b g:Nat} {nd:bc} (hg:g<b):bD (Mv (RX g)) (ur b nd):=fun _ _ _ ⟨cs,h,h1,h2⟩ hm=>⟨cs,h,h1,h2.mv (hm.weak fun j hj _=>by have:j=g:=hj;show j<b;omega) fun _ hk=>.inl hk⟩
def C8 (g:Nat) (w:World) (st:Option (List UInt8)) (r:Value) (w':World):Prop:=
 Mv (RX g) w w'∧∃(nd:bc) (cs:List Value) (s1:Option (List UInt8)),r=.agg cs.toArray∧cz (fun k=>k<w.heap.size) w' (cw nd) cs∧aT cs∧aP g s1 w'∧eP eB st nd s1∧s1≠none
def EJ (g:Nat) (w:World) (st:Option (List UInt8)) (c:List PanicEntry) (w':World):Prop:=Mv (RX g) w w'∧rQ c∧st.bind eB=none
theorem ndM {w0 w:World} {g b:Nat} {st s1:Option (List UInt8)} {nd:bc} {E:Prop} {f:FuncId} {args:Array Value} (hw:Mv (RX g) w0 w) (hb:b≤w.heap.size) (h:Calls Tryz.prog f args w (kq (C8 g w st) (EJ g w st))) (q:eP eB st nd s1) (hp:st.bind eB=none→E):
 Calls Tryz.prog f args w (fun e w'=>(∃r,e=.returned r∧Mv (RX g) w w'∧ur b nd r w'∧aP g s1 w'∧s1≠none)∨∃c,e=.panicked c∧Mv (RX g) w0 w'∧rQ c∧E):=by
 refine Calls.mono h fun _ _ he=>?_
 rcases he with⟨r,he,h1,nd',cs,s',h2,h3,h4,h5,h6,h7⟩|⟨c,he,h1,h2,h3⟩
 ·obtain⟨rfl,rfl⟩:=h6.det q h7
  exact .inl ⟨r,he,h1,⟨cs,h2,h4,h3.weak fun j hj=>.inl (Nat.lt_of_lt_of_le hj hb)⟩,h5,h7⟩
 ·exact .inr ⟨c,he,hw.trans h1 fun _ hn _=>hn,h2,hp h3⟩
theorem wn {w w2 wA:World} {g g2:Nat} {z cs:List Value} {nd:bc} {st s1:Option (List UInt8)} (hg:g<w.heap.size) (l2:w.heap.size≤g2) (e2:aE w w2) (k2:bI g2 52 z w2) (hz:z.length=9) (mT:Mv (RX g) w2 wA) (h1:aT cs) (rp:cz (fun k=>k<w2.heap.size) wA (cw nd) cs) (hr:aP g s1 wA) (q:eP eB st nd s1) (hs:s1≠none):
 ∃wd,(Instr.storeAt 52 (.pointer (some ⟨g2,0,none⟩)) (.agg cs.toArray)).run Tryz.prog wA=.ok () wd∧bI g2 52 cs wd∧C8 g w st (.agg cs.toArray) wd:=by
 have lt2:=k2.lt
 have k2A:=mT.blk k2 (fun h=>by have:g2=g:=h;omega)
 have hc:cs.length=9:=rp.len.trans (cF nd)
 obtain⟨wd,sd,qd,kd⟩:=k2A.stS (P:=Tryz.prog) (t:=52) (m:=cs) (by omega) (by rw[hc];kernel_rfl) h1
 have md:Mv (fun k=>k=g2) wA wd:=Mv.of_grown qd fun k hk _=>(Option.some.inj hk).symm
 exact⟨wd,sd,kd,((Mv.of_ext e2).trans mT fun _ hj _=>hj).trans md fun j hj hlt=>by omega,nd,cs,s1,rfl,rp.mv (md.weak fun j hj _=>by show j<w2.heap.size;omega) fun j hj=>.inl (by have:=e2.size;show j<w2.heap.size;omega),h1,hr.mv md fun j hj=>by omega,q,hs⟩
theorem yr {w:World} {g:Nat} {st:Option (List UInt8)} {n:Nat} (ih:∀{w:World} {g:Nat} {st:Option (List UInt8)} {m:Nat},m<n→aP g st w→fB st→AN m st→Calls Tryz.prog 156 #[.agg #[.pointer (some ⟨g,0,none⟩)]] w (kq (C8 g w st) (EJ g w st))) (hr:aP g st w) (hl:fB st) (hn:AN n st):
 Calls Tryz.prog 156 #[.agg #[.pointer (some ⟨g,0,none⟩)]] w (kq (C8 g w st) (EJ g w st)):=by
 refine enter (vs:=[.agg #[.pointer (some ⟨g,0,none⟩)]]) Tryz.func156 Ig Ig Ig ?_
 have hlt:g<w.heap.size:=aP.lt hr
 obtain⟨tag,s1,qF,htag,cC⟩:=C0 st (most:=2) (by omega)
 refine af (aa ?_)
 obtain⟨g1,w1,hr1,l1,x1,k1⟩:=cV (P:=Tryz.prog) (w:=w) (T:=246) (cs:=[.pointer (some ⟨g,0,none⟩)])
 refine cI Ig Ig hr1 ?_
 obtain⟨g2,w2,hr2,l2,x2,k2⟩:=aR (P:=Tryz.prog) (w:=w1) (t:=52) (z:=.agg #[.slice none 0 0,I 0,I 0,B false,.slice none 0 0,.slice none 0 0,.slice none 0 0,B false,.slice none 0 0]) (l:=[.slice none 0 0,I 0,I 0,B false,.slice none 0 0,.slice none 0 0,.slice none 0 0,B false,.slice none 0 0]) (by kernel_rfl) rfl
 refine aU Ig hr2 ?_
 have hr2:=hr.ext (x1.trans x2)
 have e2:=(x1.trans x2)
 have k12:=k1.ext x2
 have sz1:=x1.size
 have sz2:=e2.size
 have lt2:=k2.lt
 have nX1:¬RX g g1:=fun h=>by have:g1=g:=h;omega
 have nX2:¬RX g g2:=fun h=>by have:g2=g:=h;omega
 refine ag (ab (af (aa ?_)))
 refine am Ig Ig (k12.ld HM Ig (by kernel_rfl)) ?_
 refine iG nB Ig Ig ((cC hr2)) (fun c a w1 ha hp=>⟨ha.defers,.inr ⟨c,rfl,⟨(Mv.of_ext e2).trans hp.1 fun _ hj _=>hj,hp.2.1,CJ (by have h:=qF;rw[hp.2.2] at h;exact h)⟩⟩⟩) ?_
 rintro v6 w6 ⟨m6,rfl,hr6,hs1,hle⟩
 have m6:=m6
 obtain⟨l1,rfl⟩:=jm hs1
 have hl1:fB (some l1):=qF.atM (mH 2).le hl
 have hn1:l1.length+1≤n:=by
  obtain⟨l0,e0,q0⟩:=qF.some
  have:=mH 2 l0 _ _ q0
  have:=hn l0 e0
  omega
 have an1:AN (n-1) (some l1):=fun l' e=>by cases e;omega
 have k16:=m6.blk k12 nX1
 refine ac Ig Ig (ag (ab (af (aa (ae Ig Ig (ai (v:=bo 1) (r:=B (decide (tag=1))) Ig Ig Ig ((FD htag)) ?_))))))
 refine am Ig Ig (k16.ld HM Ig (by kernel_rfl)) ?_
 refine iG yj Ig Ig ((yq hr6 hl1)) (fun c a w1 ha hp=>⟨ha.defers,.inr ⟨c,rfl,⟨((Mv.of_ext e2).trans m6 fun _ hj _=>hj).trans hp.1 fun _ hj _=>hj,hp.2.1,CK qF hp.2.2⟩⟩⟩) ?_
 rintro v10 w10 ⟨m10,ls,s2,rl10,hv10,hr10,qLs,hs2⟩
 have m10:=m10
 obtain⟨lc,rfl⟩:=jm hs2
 have hl2:fB (some lc):=qLs.atM ln.le hl1
 have an2:AN (n-1) (some lc):=qLs.atM ln.le an1
 have m210:Mv (RX g) w2 w10:=m6.trans m10 fun _ hj _=>hj
 refine bA (vs:=[(3,B (decide (tag=1))),(0,v10)]) (r:=.agg #[v10,I 0,I 0,B false,.slice none 0 0,.slice none 0 0,.slice none 0 0,B (decide (tag=1)),.slice none 0 0]) rfl rfl (by obtain⟨_,_,_,rfl⟩:=rl10.isS;exact run_build _ _ _ _ (by kernel_rfl)) ?_
 obtain⟨g4,w4,hr4,l4,x4,k4⟩:=aR (P:=Tryz.prog) (w:=w10) (t:=52) (z:=.agg #[.slice none 0 0,I 0,I 0,B false,.slice none 0 0,.slice none 0 0,.slice none 0 0,B false,.slice none 0 0]) (l:=[.slice none 0 0,I 0,I 0,B false,.slice none 0 0,.slice none 0 0,.slice none 0 0,B false,.slice none 0 0]) (by kernel_rfl) rfl
 refine aU Ig hr4 ?_
 obtain⟨w5,s5,q5,k5⟩:=k4.stS (P:=Tryz.prog) (t:=52) (m:=[v10,I 0,I 0,B false,.slice none 0 0,.slice none 0 0,.slice none 0 0,B (decide (tag=1)),.slice none 0 0]) rfl (by kernel_rfl) (aT.cons hv10 (aT.cons rfl (aT.cons rfl (aT.cons rfl (aT.cons rfl (aT.cons rfl (aT.cons rfl (aT.cons rfl (aT.cons rfl aT.nil)))))))))
 have x410:=x4
 have m5:Mv (fun k=>k=g4) w4 w5:=Mv.of_grown q5 fun k hk _=>(Option.some.inj hk).symm
 have sz210:=m210.size
 have sz4:=x4.size
 have lt4:=k4.lt
 have lt5:=k5.lt
 have m105:Mv (RX g) w10 w5:=(Mv.of_ext x4).trans m5 fun j hj hlt=>by omega
 have m25:Mv (RX g) w2 w5:=m210.trans m105 fun _ hj _=>hj
 have hr5:aP g (some lc) w5:=(hr10.ext x4).mv m5 fun j hj=>by omega
 have nX4:¬RX g g4:=fun h=>by have:g4=g:=h;omega
 have rl5:cz (fun k=>k<w2.heap.size∨k=g4) w5 (.sl (ls.map jf)) [v10]:=(((rl10.weak (Y:=fun k=>k<w2.heap.size∨k=g4) fun j hj=>by
  rcases hj with hj|hj
  ·exact .inl (by have:=m6.size;show j<w6.heap.size;omega)
  ·exact .inr (by omega)).ext x4).mv (m5.weak fun j hj _=>.inr hj) fun _ hk=>.inl hk)
 have k15:=m25.blk k12 nX1
 refine az Ig Ig s5 ?_
 refine ag (ab (af (af ?_)))
 by_cases ht:tag<2
 ·refine aa (ae Ig Ig (ai (v:=bo 2) Ig Ig Ig (dW ((ltN htag (by omega)).2 ht) jG) (ag (ab (ce Ig (af (aa ?_)))))))
  refine am Ig Ig (k15.ld HM Ig (by kernel_rfl)) ?_
  refine iG pb Ig Ig ((pc hr5 hl2)) (fun c a w1 ha hp=>⟨ha.defers,.inr ⟨c,rfl,⟨((Mv.of_ext e2).trans m25 fun _ hj _=>hj).trans hp.1 fun _ hj _=>hj,hp.2.1,CL ht qF qLs hp.2.2⟩⟩⟩) ?_
  rintro v15 w15 ⟨m15,ps,s3,rp15,hv15,hr15,qP,hs3⟩
  have m15:=m15
  have k415:=m15.blk k5 nX4
  obtain⟨we,se,qe,ke⟩:=k415.stC (P:=Tryz.prog) (t:=50) (i:=8) (v:=v15) (by kernel_rfl) hv15 (by simp)
  have ke:bI g4 52 [v10,I 0,I 0,B false,.slice none 0 0,.slice none 0 0,.slice none 0 0,B (decide (tag=1)),v15] we:=ke
  have me:Mv (fun k=>k=g4) w15 we:=Mv.of_grown qe fun k hk _=>(Option.some.inj hk).symm
  have hre:aP g s3 we:=hr15.mv me fun j hj=>by omega
  have mT:Mv (RX g) w2 we:=(m25.trans m15 fun _ hj _=>hj).trans me fun j hj hlt=>by omega
  have rle:=rl5.mv ((m15.weak (Y:=fun k=>k<w2.heap.size∨k=g4) fun j hj _=>.inl (by have:j=g:=hj;omega)).trans me fun j hj _=>.inr hj) fun _ hk=>.inl hk
  have rpe:=rp15.mv (me.weak fun j hj _=>by show j<w5.heap.size;omega) fun _ hk=>.inl hk
  obtain⟨wd,sd,kd,fin⟩:=wn (st:=st) (nd:=.mk ls uc [] (decide (tag=1)) ps) hlt (Nat.le_trans sz1 l2) e2 k2 rfl mT (aT.cons hv10 (aT.cons rfl (aT.cons rfl (aT.cons rfl (aT.cons rfl (aT.cons rfl (aT.cons rfl (aT.cons rfl (aT.cons hv15 aT.nil))))))))) (ow (rle.weak fun j hj=>.inl (.inl hj)) zw yi (rpe.weak fun j hj=>.inl (by have:=m25.size;show j<w5.heap.size;omega))) hre (AS ht qF qLs qP) hs3
  refine ah Ig Ig (aI (o:=8) HI Ig (by kernel_rfl) Ig) ?_
  refine az Ig Ig se ?_
  refine ag (ab (af (aa ?_)))
  refine am Ig Ig (ke.ld HI Ig (by kernel_rfl)) ?_
  refine az Ig Ig sd ?_
  refine ag (ab (ay (aB ?_)))
  refine eo Ig Ig kd HI Ig (by kernel_rfl) ?_
  exact .inl ⟨_,rfl,fin⟩
 ·refine aa (ae Ig Ig (ai (v:=bo 2) Ig Ig Ig (eU (mt (ltN htag (by omega)).1 ht) jG) (ag (ab (eS Ig (ax (ab (af (aa ?_)))))))))
  refine am Ig Ig (k15.ld HM Ig (by kernel_rfl)) ?_
  refine iG AX Ig Ig ((AY hr5 hl2)) (fun c a w1 ha hp=>⟨ha.defers,.inr ⟨c,rfl,⟨((Mv.of_ext e2).trans m25 fun _ hj _=>hj).trans hp.1 fun _ hj _=>hj,hp.2.1,CM ht qF qLs hp.2.2⟩⟩⟩) ?_
  rintro v19 w19 ⟨m19,d,x,y,s3,rfl,rd19,hx,hy,hr19,qD,hs3⟩
  have m19:=m19
  have k419:=m19.blk k5 nX4
  obtain⟨we,se,qe,ke⟩:=k419.stO (P:=Tryz.prog) (t:=48) (m:=[I d.kd,I d.ix,B d.at_.1,x,y]) 1 (by simp) (by kernel_rfl) (aT.cons rfl (aT.cons rfl (aT.cons rfl (aT.cons hx (aT.cons hy aT.nil)))))
  have ke:bI g4 52 [v10,I d.kd,I d.ix,B d.at_.1,x,y,.slice none 0 0,B (decide (tag=1)),.slice none 0 0] we:=ke
  have me:Mv (fun k=>k=g4) w19 we:=Mv.of_grown qe fun k hk _=>(Option.some.inj hk).symm
  have hre:aP g s3 we:=hr19.mv me fun j hj=>by omega
  have mT:Mv (RX g) w2 we:=(m25.trans m19 fun _ hj _=>hj).trans me fun j hj hlt=>by omega
  have rle:=rl5.mv ((m19.weak (Y:=fun k=>k<w2.heap.size∨k=g4) fun j hj _=>.inl (by have:j=g:=hj;omega)).trans me fun j hj _=>.inr hj) fun _ hk=>.inl hk
  have rde:=rd19.mv (me.weak fun j hj _=>by show j<w5.heap.size;omega) fun _ hk=>.inl hk
  have rde:cz (fun k=>k<w2.heap.size∨k=g4) we (nu d) [I d.kd,I d.ix,B d.at_.1,x,y]:=rde.weak fun j hj=>.inl (by
   have:=m25.size
   rcases hj with hj|hj
   ·show j<w5.heap.size;omega
   ·show j<w5.heap.size;omega)
  have eT:decide (tag=1)=false:=decide_eq_false (by omega)
  have k1e:=mT.blk k12 nX1
  obtain⟨na,s4,qa⟩:=uq s3
  obtain⟨nb,s6,qb⟩:=uq s4
  have hl3:fB s3:=qD.atM rc.le hl2
  have an3:AN (n-1) s3:=qD.atM rc.le an2
  have hl4:fB s4:=qa.atM uj.le hl3
  have an4:AN (n-1) s4:=qa.atM uj.le an3
  have hgb:g<we.heap.size:=by have:=mT.size;omega
  have hpa:s3.bind eB=none→st.bind eB=none:=fun e=>CN ht qF qLs qD e
  have hpb:s4.bind eB=none→st.bind eB=none:=fun e=>CO ht qF qLs qD qa e
  refine ah Ig Ig (aI (o:=1) HI Ig (by kernel_rfl) Ig) ?_
  refine az Ig Ig se ?_
  refine ag (ab (af (ji 6 [2,4,25,26] (Mv (RX g) we) (Mv (RX g)) true (fun c w'=>Mv (RX g) we w'∧rQ c∧st.bind eB=none) (aP g s3) (fb.mv _ _) (Mv.refl _ _) aP.stableZ hre (fun c a w1 hd hp=>⟨hd,.inr ⟨c,rfl,((Mv.of_ext e2).trans mT fun _ hj _=>hj).trans hp.1 fun _ hj _=>hj,hp.2⟩⟩) (fun _=>by kernel_rfl) (by kernel_rfl) (by kernel_rfl) ?_)))
  refine av rfl rfl (fun w hw=>(hw.blk k1e nX1).ld HM rfl (by kernel_rfl)) (cO (S:=ur we.heap.size na) (Z':=(fun w=>aP g s4 w∧s4≠none)) mM rfl (ur.stable hgb) (f4 aP.stableZ) rfl (fun w hw hz=>by rintro _ rfl;exact ndM hw hw.size (ih (m:=n-1) (by omega) hz hl3 an3) qa hpa) ?_)
  refine av rfl rfl (fun w hw=>(hw.blk k1e nX1).ld HM rfl (by kernel_rfl)) (cO (S:=ur we.heap.size nb) (Z':=(fun w=>aP g s6 w∧s6≠none)) mM rfl (ur.stable hgb) (f4 aP.stableZ) rfl (fun w hw hz=>by rintro _ rfl;exact ndM hw hw.size (ih (m:=n-1) (by omega) hz.1 hl4 an4) qb hpb) ?_)
  refine dz (S:=jl we.heap.size 9 cw [na,nb]) (jl.stable hgb) Ig (fun w' hw=>by
 rintro _ ⟨ca,rfl,ha1,ha2⟩ _ ⟨cb,rfl,hb1,hb2⟩
 exact Gn HJ oo rfl (by omega) (by omega) hw.size ha1 hb1 ha2 hb2 cF) ?_
  refine aA Ig Ig (fun w hw=>aI (o:=6) HI Ig (by kernel_rfl) Ig) (bn ?_)
  intro wg7 xg7 zg7
  rintro _ rfl
  rintro _ rfl
  intro vg25 b25
  rintro _ rfl
  obtain⟨hrG,hs6⟩:=zg7
  have hv25:vg25.oneCell'=true:=by obtain⟨_,_,_,rfl⟩:=b25.isS;rfl
  have kG:=xg7.blk ke nX4
  obtain⟨wf,sf,qf,kf⟩:=kG.stC (P:=Tryz.prog) (t:=49) (i:=6) (v:=vg25) (by kernel_rfl) hv25 (by simp)
  have kf:bI g4 52 [v10,I d.kd,I d.ix,B d.at_.1,x,y,vg25,B (decide (tag=1)),.slice none 0 0] wf:=kf
  have mf:Mv (fun k=>k=g4) wg7 wf:=Mv.of_grown qf fun k hk _=>(Option.some.inj hk).symm
  have hrf:aP g s6 wf:=hrG.mv mf fun j hj=>by omega
  have mW:Mv (RX g) w2 wf:=(mT.trans xg7 fun _ hj _=>hj).trans mf fun j hj hlt=>by omega
  have mK:Mv (fun k=>k<w2.heap.size∨k=g4) we wf:=(xg7.weak fun j hj _=>.inl (by have:j=g:=hj;omega)).trans mf fun j hj _=>.inr hj
  have rlf:=rle.mv mK fun _ hk=>.inl hk
  have rdf:=rde.mv mK fun _ hk=>.inl hk
  have lte:=ke.lt
  have rkf:=(b25.rpx cF (by omega)).mv (mf.weak fun j hj _=>by show j<we.heap.size;omega) fun _ hk=>.inl hk
  obtain⟨wd,sd,kd,fin⟩:=wn (st:=st) (nd:=.mk ls d [na,nb] (decide (tag=1)) []) hlt (Nat.le_trans sz1 l2) e2 k2 rfl mW (aT.cons hv10 (aT.cons rfl (aT.cons rfl (aT.cons rfl (aT.cons hx (aT.cons hy (aT.cons hv25 (aT.cons rfl (aT.cons rfl aT.nil))))))))) (ow (rlf.weak fun j hj=>.inl (.inl hj)) (rdf.weak fun j hj=>.inl (.inl hj)) (rkf.weak fun j hj=>.inl (by have:=mT.size;show j<we.heap.size;omega)) yi) hrf (by rw[eT];exact yf ht qF qLs qD qa qb) hs6
  refine az Ig Ig sf ?_
  refine ag (ab (af (aa ?_)))
  refine am Ig Ig (kf.ld HI Ig (by kernel_rfl)) ?_
  refine az Ig Ig sd ?_
  refine ag (ab (ay ?_))
  refine eo Ig Ig kd HI Ig (by kernel_rfl) ?_
  exact .inl ⟨_,rfl,fin⟩
theorem yt:∀(n:Nat) {w:World} {g:Nat} {st:Option (List UInt8)},aP g st w→fB st→AN n st→Calls Tryz.prog 156 #[.agg #[.pointer (some ⟨g,0,none⟩)]] w (kq (C8 g w st) (EJ g w st)):=by
 intro n
 induction n using Nat.strongRecOn with
 |_ n ih=>exact fun hr hl hn=>yr (n:=n) (fun {w g st m} hm h1 h2 h3=>ih m hm h1 h2 h3) hr hl hn
end Go.Rl
namespace Go.Rl
open Go.RowKit Go.Proofs
theorem EK {P:Program} {Q:eR} {N:Nat} {D:List Deferred} {l:Fr} {w:World} {c:Code} {a:Act} (ha:At N D l a) (h:cn P Q N D l w c):c.wp P Q a w:=h a ha
theorem Da {P:Program} {w:World} {t u:TypeId} {ms} {x y:Operand} {v:Value} (ht:P.underlying t=some (.interface ms)):(bin .neq t x y (.iface u v) .nilIface).run P w=.ok (B true) w:=by
 have h:(Op.equal t (.iface u v) .nilIface).run P w=.ok false w:=by
  show(Op.equalIn (9999+1) t (.iface u v) .nilIface).run P w=_
  unfold Op.equalIn
  simp[run_underlying ht]
 show(do pure (Value.bool (!(←Op.equal t (.iface u v) .nilIface))):Sem Value).run P w=_
 rw[Sem.run_bind,h];rfl
theorem Hc {P:Program} {w:World} {t T:TypeId} {fs:Array Field} {v:Value} (h:P.underlying T=some (.struct fs)):(Instr.typeAssert (.iface T v) t T true).run P w=.ok (.tuple #[v,B true]) w:=by
 simp[Instr.typeAssert,run_underlying h,B]
theorem yu {w:World} {g2 g3:Nat}:
 CallsD Tryz.prog 154 #[.pointer (some ⟨g2,0,none⟩),.pointer (some ⟨g3,0,none⟩)] .returning w fun e u' w'=>e=.returned (.tuple #[])∧u'=.returning∧w'=w:=by
 refine callsD_of_wpS Tryz.func154 Ig fun c₀ cs hu=>?_
 apply wpS_seq
 apply wpS_region
 simp[wpOpsS,go_sem,recoverD,hu,Exit.thenS]
 apply wpS_seq
 apply wpS_region
 simp[wpOpsS,go_sem,Exit.thenS]
 refine wpS_cond (t:=false) (by simp[Act.eval,Array.replicate]) ?_
 simp only[Bool.false_eq_true,if_false]
 refine wpS_of_wp (wp_skip ?_)
 cases c₀
 simp_all [bodyPostS,results]
theorem AZ {w:World} {g2 g3:Nat} {v2 v3:Value} (k2:bI g2 49 [v2] w) (k3:bI g3 26 [v3] w) (hne:g2≠g3):
 CallsD Tryz.prog 154 #[.pointer (some ⟨g2,0,none⟩),.pointer (some ⟨g3,0,none⟩)] (.panicking [{v:=GM,recovered:=false}]) w fun e u' w'=>e=.returned (.tuple #[])∧u'=.panicking [{v:=GM,recovered:=true}]∧Mv (fun k=>k=g2∨k=g3) w w'∧bI g2 49 [.slice none 0 0] w'∧bI g3 26 [I 5] w':=by
 refine callsD_of_wpS Tryz.func154 Ig fun c₀ cs hu=>?_
 apply wpS_seq
 apply wpS_region
 simp[wpOpsS,go_sem,recoverD,hu,Exit.thenS,GM]
 refine wpS_of_wp ?_
 refine EK (N:=16) (D:=[]) (l:=[(0,.pointer (some ⟨g2,0,none⟩)),(1,.pointer (some ⟨g3,0,none⟩)),(2,.iface 243 (.agg #[]))]) ⟨by simp,rfl,fun t v h=>?_⟩ ?_
 ·rcases t with _|_|_|t
  ·simpa [lk] using h
  ·simpa [lk] using h
  ·simpa [lk] using h
  ·simp[lk,Nat.beq] at h
 obtain⟨g5,w5,hr5,l5,x5,k5⟩:=aR (P:=Tryz.prog) (w:=w) (t:=243) (z:=.agg #[]) (l:=[]) (by kernel_rfl) rfl
 obtain⟨w6,s6,q6,k6⟩:=k5.stS (P:=Tryz.prog) (t:=243) (m:=[]) rfl (by kernel_rfl) aT.nil
 have x6:aE w w6:=aE.of_new x5 q6 l5
 obtain⟨w7,s7,q7,k7⟩:=(k2.ext x6).stC (P:=Tryz.prog) (t:=49) (i:=0) (v:=.slice none 0 0) (by kernel_rfl) rfl (by simp)
 obtain⟨w8,s8,q8,k8⟩:=((k3.ext x6).other q7 (fun e=>hne (Option.some.inj e).symm)).stC (P:=Tryz.prog) (t:=26) (i:=0) (v:=I 5) (by kernel_rfl) rfl (by simp)
 have k78:=k7.other q8 (fun e=>hne (Option.some.inj e))
 have m7:Mv (fun k=>k=g2∨k=g3) w w7:=(Mv.of_ext x6).trans (Mv.of_grown q7 fun k hk _=>.inl (Option.some.inj hk).symm) fun _ hj _=>hj
 have m8:Mv (fun k=>k=g2∨k=g3) w w8:=m7.trans (Mv.of_grown q8 fun k hk _=>.inr (Option.some.inj hk).symm) fun _ hj _=>hj
 refine af (aa (ae Ig Ig (ai (r:=B true) Ig Ig Ig (Da Tryz.underlying20) (ag (ab (ce Ig ?_))))))
 refine af (af (aa (ae Ig Ig (tF (r:=.tuple #[.agg #[],B true]) (f:=fun v=>Instr.typeAssert v 20 243 true) (fun _=>rfl) Ig Ig (Hc Ia) (ae Ig Ig (al Ig Ig bw (al Ig Ig bz (aU Ig hr5 ?_))))))))
 refine az Ig Ig s6 (ac Ig Ig (ag (ab (af (aa (ae Ig Ig (cx Ig Ig cZ (ag (ab (eS Ig (ax (ab ?_))))))))))))
 refine aa (az Ig Ig s7 (az Ig Ig s8 (ag fun a ha=>?_)))
 exact⟨ha.defers,.panicking [{v:=GM,recovered:=true}],rfl,.tuple #[],by simp[results],rfl,rfl,m8,k78,k8⟩
end Go.Rl
namespace Go.Rl
open Go.RowKit Go.Proofs
section
variable {P:Program} {Q:eR} {N:Nat} {D:List Deferred} {l:Fr} {w:World} {ops:Array Oper} {rest:List Oper} {ty:TypeId} {pos:String} {aft:Array Edge}
theorem Gp {f:FuncId} {fn:Func} {c:Code} {vs:List Value} {R:Ending→World→Prop} (hf:P.funcs[f]? =some fn) (hb:fn.body=some c) (hN:fn.ntmps=N) (hle:Nat.ble vs.length N=true)
 (h:cn P (bodyPostD P fn R) N [] (da 0 vs) w c):Calls P f vs.toArray w R:=by
 have hle':vs.length≤N:=by simpa using hle
 refine calls_of_wp_defers hf hb (h _ ⟨?_,rfl,fun t v ht=>?_⟩)
 ·simp[hN];omega
 ·obtain⟨_,h2⟩:=lF vs 0 t v ht
  have h2':vs[t]? =some v:=by simpa using h2
  have hlt:t<vs.length:=by
   rcases Nat.lt_or_ge t vs.length with h|h
   ·exact h
   ·rw[List.getElem?_eq_none h] at h2';cases h2'
  rw[List.getElem?_eq_getElem hlt] at h2'
  simpa [Array.getElem?_append,hlt] using h2'
theorem EL {x:Operand} {fn:Fn} {fs cap:Array Value} (hx:ev l x=some (.func fn fs cap)) (k:bB P ops Q N (⟨.fn fn cap,fs⟩::D) l w rest):
 bB P ops Q N D l w (⟨none,.defer {callee:=.value x,args:=#[],argTypes:=#[]},ty,pos,aft,none⟩::rest):=fun a ha=>by
 have hr:(execOp a.eval ⟨none,.defer {callee:=.value x,args:=#[],argTypes:=#[]},ty,pos,aft,none⟩).run P w=.ok (.defer ⟨.fn fn cap,fs⟩) w:=by
  have e:a.eval x=.func fn fs cap:=ha.ev hx
  simp[execOp,resolve,e,Deferred.ofValue]
 unfold wpList
 rw[if_pos (by rfl)]
 refine .inl ?_
 unfold Oper.wp
 rw[hr]
 refine k _ ⟨ha.size,?_,ha.at_⟩
 show _::a.defers=_
 rw[ha.defers]
theorem wo {t:TypeId} {d:TypeDesc} {a:Addr} {v:Value} (ht:P.underlying t=some d) (hd:(match d with|.struct _|.array _ _=>true|_=>false)=false) (hc:w.cell? a=some v):(loadVar t a).run P w=.ok v w:=by
 have:=aj (P:=P) (t:=t) ht hd hc
 simpa [Instr.loadAt,Instr.sureAddr] using this
theorem rX {fn:Func} {p q:Tmp} {t u:TypeId} {tmps:Array Value} {a b:Addr} {v v2:Value} (h:fn.results= #[.cell p t,.cell q u]) (hp:tmps.getD p undef=.pointer (some a)) (hq:tmps.getD q undef=.pointer (some b))
 (l1:(loadVar t a).run P w=.ok v w) (l2:(loadVar u b).run P w=.ok v2 w):(results fn tmps).run P w=.ok (.tuple #[v,v2]) w:=by
 simp only[results,h]
 simp only[Array.getD_eq_getD_getElem?] at hp hq
 simp[Sem.run_bind,Result.andThen,hp,hq,l1,l2,asAddr]
end
theorem yv:aw Tryz.prog 154:=⟨_,Tryz.func154,by kernel_rfl,rfl⟩
def pL (g2 g3:Nat):Deferred:=⟨.fn (.func 154) #[.pointer (some ⟨g2,0,none⟩),.pointer (some ⟨g3,0,none⟩)],#[]⟩
theorem pe {w:World} {g2 g3:Nat}:(invoke (.fn (.func 154) #[.pointer (some ⟨g2,0,none⟩),.pointer (some ⟨g3,0,none⟩)]) #[]).run Tryz.prog w=.ok (.enter 154 #[.pointer (some ⟨g2,0,none⟩),.pointer (some ⟨g3,0,none⟩)]) w:=by
 simp only[invoke,eK yv,Array.empty_append]
section
variable {fn:Func} {R:Ending→World→Prop} {tmps:Array Value} {w:World} {g2 g3:Nat} {v2 v3:Value}
theorem s9 (hr:fn.results= #[.cell 2 49,.cell 3 26]) (h2:tmps.getD 2 undef=.pointer (some ⟨g2,0,none⟩)) (h3:tmps.getD 3 undef=.pointer (some ⟨g3,0,none⟩)) (k2:bI g2 49 [v2] w) (k3:bI g3 26 [v3] w):(results fn tmps).run Tryz.prog w=.ok (.tuple #[v2,v3]) w:=
 rX hr h2 h3 (wo HJ rfl k2.k0) (wo Tryz.underlying26 rfl k3.k0)
theorem A0 (hr:fn.results= #[.cell 2 49,.cell 3 26]) (h2:tmps.getD 2 undef=.pointer (some ⟨g2,0,none⟩)) (h3:tmps.getD 3 undef=.pointer (some ⟨g3,0,none⟩)) (k2:bI g2 49 [v2] w) (k3:bI g3 26 [v3] w) (h:R (.returned (.tuple #[v2,v3])) w):
 Leaves Tryz.prog fn tmps R [pL g2 g3] .returning w:=by
 refine leaves_cons (f:=154) (by simp) pe (CallsD.mono yu ?_)
 rintro e u' w' ⟨rfl,rfl,rfl⟩
 exact⟨_,s9 hr h2 h3 k2 k3,h⟩
theorem A1 {c:List PanicEntry} (hc:rQ c) (hne:g2≠g3) (hr:fn.results= #[.cell 2 49,.cell 3 26]) (h2:tmps.getD 2 undef=.pointer (some ⟨g2,0,none⟩)) (h3:tmps.getD 3 undef=.pointer (some ⟨g3,0,none⟩)) (k2:bI g2 49 [v2] w) (k3:bI g3 26 [v3] w)
 (h:∀w',Mv (fun k=>k=g2∨k=g3) w w'→R (.returned (.tuple #[.slice none 0 0,I 5])) w'):Leaves Tryz.prog fn tmps R [pL g2 g3] (.panicking c) w:=by
 have hc:c=[{v:=GM,recovered:=false}]:=hc
 subst hc
 refine leaves_cons (f:=154) (by simp) pe (CallsD.mono (AZ k2 k3 hne) ?_)
 rintro e u' w' ⟨rfl,rfl,h5,h6,h7⟩
 exact⟨_,s9 hr h2 h3 h6 h7,h w' h5⟩
end
end Go.Rl
namespace Go.Rl
open Go.RowKit
section
variable {P:Program} {ops:Array Oper} {Q:eR} {N:Nat} {D:List Deferred} {Env:World→Prop} {Rl:World→World→Prop} {mo:Bool} {Pn:List PanicEntry→World→Prop}
theorem EM {o:Oper} {a:Act} {w:World} {K:Act→World→Prop} (h:o.wp P a w K (gq Q)):o.wp P a w K Q:=by
 unfold Oper.wp at*
 generalize (execOp a.eval o).run P w=r at*
 cases r with
 |ok n w'=>
  cases n<;>simp only[Oper.upon] at h⊢ <;>try exact h
  case enter f args=>
   refine Calls.mono h fun e w'' he=>?_
   cases e with
   |returned u=>exact he
   |panicked c=>obtain⟨he,_⟩:=he;cases he
   |outgrown=>obtain⟨_,_,he,_⟩:=he;cases he
 |halt x w'=>
  cases x<;>simp only[Oper.upon] at h⊢
  case panic u=>obtain⟨he,_⟩:=h;cases he
theorem EN {i:Nat} {a:Act} {w:World} {K:Act→World→Prop} (h:wpOp P ops (gq Q) i K a w):wpOp P ops Q i K a w:=by
 unfold wpOp at*
 split
 ·simpa [*] using h
 ·rename_i o ho
  simp only[ho] at h
  split
  ·rename_i hw
   rw[if_pos hw] at h
   rcases h with h|h
   ·exact .inl (EM h)
   ·exact absurd h.2 rg
  ·rename_i hw
   rw[if_neg hw] at h
   exact h
theorem wr:∀(g:Nat) (listed:Array Bool) (a:Act) (w:World),wpAny P .any ops (gq Q) g listed a w→wpAny P .any ops Q g listed a w
 |0,_,_,_,h=>⟨h.1,h.2.2⟩
 |g+1,_,_,_,h=>⟨fun e=>(h.1 e).2,fun i hi=>EN (wpOp_mono (fun a' w' h'=>wr g _ a' w' h') (h.2 i hi))⟩
def wt (ops:Array Oper) (n:Nat) (E:Array Bool):Nat→Nat→Array Bool→Bool
 |0,_,listed=>decide (listed=E)&&(Region.ready .any ops listed).all fun j=>decide (n≤j)
 |f+1,k,listed=>(Region.ready .any ops listed).contains k&&Region.free .any ops listed k&&wt ops n E f (k+1) (listed.setIfInBounds k true)
theorem pg {n:Nat} {E:Array Bool} {Lq:bR→ik→Prop} (hcalls:mo=true→fC .any ops=true) (hs:Region.sinkB .any ops n=true) (hc:jw ops n=true):
 ∀(l:List Oper) (k:Nat) (listed:Array Bool) (F:bR) (Z:ik),(∀j,j<l.length→l[j]? =ops[k+j]?)→k+l.length=n→HeadInv .any ops n listed→
 wt ops n E l.length k listed=true→(∀t,bD Rl (F t))→cm Z→eC P ops Env Rl mo Pn N l F Z Lq→
 gi P .any ops Env Rl mo Pn N n (fun listed' F' Z'=>(listed'=E∧(Region.ready .any ops listed').all (fun j=>decide (n≤j))=true)∧Lq F' Z') l.length listed F Z
 |[],k,listed,F,Z,_,hk,_,hB,_,_,h=>by
  simp only[List.length_nil,wt,Bool.and_eq_true,decide_eq_true_eq] at hB
  exact⟨hB,h⟩
 |o::l,k,listed,F,Z,hl,hk,inv,hB,hF,hZ,h=>by
  have h0:ops[k]? =some o:=by simpa using(hl 0 (by simp)).symm
  simp only[List.length_cons,wt,Bool.and_eq_true] at hB
  obtain⟨⟨hr,hf⟩,hB'⟩:=hB
  have hkn:k<n:=by simp only[List.length_cons] at hk;omega
  have hr':k∈Region.ready .any ops listed:=by simpa using hr
  obtain⟨S,Z',hspec,hrest⟩:=h hF hZ
  exact mj h0 hcalls hs hc hkn (fun listed' F' Z' hL j hj=>by simpa using List.all_eq_true.1 hL.1.2 j hj) l.length listed F Z Z' inv (Region.free_spec h0 hf) hr' hspec
   (pg hcalls hs hc l (k+1) _ _ _ (fun j hj=>by have:=hl (j+1) (by simp;omega);simpa [Nat.add_assoc,Nat.add_comm 1 j] using this) (by simp only[List.length_cons] at hk;omega) (inv.set hr' hkn) hB' (iV hF hspec.stable) (hspec.zst hZ) hrest)
def Db (ops:Array Oper) (n:Nat) (E:Array Bool):Bool:=
 decide (n<ops.size)&&Region.sinkB .any ops n&&jw ops n&&wt ops n E n 0 (Array.replicate ops.size false)
theorem EO {l:Fr} {w:World} {id:Nat} {os:List Oper} (n:Nat) (ts:List Nat) (l0:List (Nat×Value)) (E:Array Bool) (Env:World→Prop) (Rl:World→World→Prop) (mo:Bool) (Pn:List PanicEntry→World→Prop) (Z:ik) (hE:fb Env Rl) (he:Env w) (hZ:cm Z) (hz:Z w) (hsub:Eh l0 l) (hkb:yV (os.take n) l0=true) (hP:∀c a w,a.tmps.size=N→a.defers=D→gW l0 a→Pn c w→Q (.panic c) a w) (hcalls:mo=true→fC .any os.toArray=true) (hm:P.follows .mixedOrders=true) (hB:Db os.toArray n E=true)
 (h:eC P os.toArray Env Rl mo Pn N (os.take n) (px l) Z (fun F Z=>∀w',Env w'→Z w'→gu F w' ts (fun l'=>eF P os.toArray Q N D (fun _=>True) (os.length-n) E l' w'))):cn P Q N D l w (.region id os.toArray true):=fun a ha=>by
 have hdr:aE w {w with drawn:=w.drawn+1}:=⟨rfl,rfl,rfl,Nat.le_refl _,fun _ _=>rfl⟩
 simp only[Db,Bool.and_eq_true,decide_eq_true_eq] at hB
 obtain⟨⟨⟨hn,hs⟩,hc⟩,hlex⟩:=hB
 have hn':n<os.length:=by simpa using hn
 have htl:(os.take n).length=n:=by simp;omega
 have inv0:HeadInv .any os.toArray n (Array.replicate os.toArray.size false):=
  ⟨by simp,fun j oj _ hl=>(by rw[getD_replicate_false] at hl;cases hl),fun t _ ht=>getD_in (by simpa using ht) (getD_replicate_false _ _)⟩
 have H:=pg (E:=E) hcalls hs hc (os.take n) 0 _ _ _ (fun j hj=>by
  have hj':j<n:=by rw[htl] at hj;exact hj
  simp[hj']) (by simpa using htl) inv0 (by rw[htl];exact hlex) (fg l) hZ h
 refine wp_region_any hm ?_
 have hd0:=pY hkb
 have:=ep (D:=D) (Q':=Q) (l0:=l0) (g:=os.length-n) hE hP (fun i o hin ho=>hd0 o (List.mem_of_getElem? (i:=i) (by rw[List.getElem?_take_of_lt hin];simpa using ho))) (fun listed F Z hL hF hZ a' w' he hsat hz=>by
  obtain⟨⟨rfl,_⟩,hK⟩:=hL
  obtain⟨l',hl',hk⟩:=gu.use hsat (hK w' he hz)
  exact wr _ _ _ _ (wpAny_of_held _ _ _ _ (hk a' hl'))) _ _ _ _ H (fg l) hZ a {w with drawn:=w.drawn+1} (hE.keep _ _ he (hE.ext _ _ hdr)) (CV ha) (gW.of hsub ha) (hZ _ _ hz hdr)
 rw[htl,show n+(os.length-n)=os.toArray.size by simp;omega] at this
 exact this
end
end Go.Rl
namespace Go.Rl
open Go.RowKit
theorem aF.split {X:Nat→Prop} {w:World}:∀{l m:List Dt} {cs:List Value},aF X w (l++m) cs→∃a b,cs=a++b∧aF X w l a∧aF X w m b
 |[],m,cs,h=>⟨[],cs,rfl,aF.nil,h⟩
 |d::l,m,cs,h=>by
  simp only[List.cons_append,aF] at h
  obtain⟨c1,c2,rfl,h1,h2⟩:=h
  obtain⟨a,b,rfl,h3,h4⟩:=aF.split (l:=l) h2
  exact⟨c1++a,b,by simp,aF.cons h1 h3,h4⟩
theorem gh.stLast {α:Type} {P:Program} {t e:TypeId} {sz base:Nat} {f:α→Dt} {l:List α} {z:α} {v:Value} {w:World} (ht:P.underlying t=some (.slice e)) (hi:(P.info? e).map (·.size)=some sz) (h0:0<sz) (hs:∀a,(f a).size=sz)
 (h:gh e sz base f (l++[z]) v w) {a:α} {cs:List Value} (h1:aT cs) (ha:cz (fun k=>k<base∨v.ownBlock=some k) w (f a) cs):
 ∃p,(∀w':World,(Instr.indexAt t v (I (l.length:Int))).run P w'=.ok p w')∧∃w1,(Instr.storeAt e p (.agg cs.toArray)).run P w=.ok () w1∧Mv (fun k=>v.ownBlock=some k) w w1∧gh e sz base f (l++[a]) v w1:=by
 obtain⟨n,xs,hO,hX⟩:=h
 rw[List.map_append] at hX
 obtain⟨x1,x2,rfl,hx1,hx2⟩:=aF.split hX
 have hl1:x1.length=l.length*sz:=by rw[hx1.len,cD (sz:=sz) (by simp[hs]),List.length_map]
 have hl2:x2.length=sz:=by
  have:=hx2.len
  rw[this,cD (sz:=sz) (by simp[hs])]
  simp
 have hcl:cs.length=sz:=by rw[ha.len,hs]
 have hn:n=l.length+1:=Nat.eq_of_mul_eq_mul_right h0 (by
  have:=hO.1
  rw[List.length_append,hl1,hl2] at this
  rw[Nat.add_mul,Nat.one_mul]
  exact this.symm)
 subst hn
 rcases hO.2 with⟨_,h3⟩|⟨g,cap,cur,rfl,hb,hg,hle,hm,hsz,htk⟩
 ·omega
 have hcap:(l.length+1)*sz≤cap*sz:=Nat.mul_le_mul_right _ hle
 have hbnd:l.length*sz+sz≤cur.size:=by rw[hsz];rw[Nat.add_mul,Nat.one_mul] at hcap;exact hcap
 have htk1:cur.toList.take (l.length*sz)=x1:=by
  have h2:=congrArg (List.take (l.length*sz)) htk
  rw[List.take_take,Nat.min_eq_left (by rw[Nat.add_mul];omega),List.take_left' hl1] at h2
  exact h2
 have md:Mv (fun k=>(Value.slice (some ⟨g,0,none⟩) (l.length+1) cap).ownBlock=some k) w (w.setRow g (cur.toList.take (l.length*sz)++cs++cur.toList.drop (l.length*sz+cs.length)).toArray):=Mv.of_grown (bd w g _) fun k hk _=>by rw[←hk];rfl
 refine⟨.pointer (some ⟨g,l.length*sz,none⟩),fun w'=>?_,w.setRow g (cur.toList.take (l.length*sz)++cs++cur.toList.drop (l.length*sz+cs.length)).toArray,?_,md,l.length+1,x1++cs,⟨?_,.inr ⟨g,cap,_,rfl,hb,setRow_heap w g _ _ e (0,0) hg,hle,hm,?_,?_⟩⟩,?_⟩
 ·obtain⟨ti,hi',hs'⟩:=Option.map_eq_some_iff.1 hi
  simp[Instr.indexAt,I,asIntOf,run_underlying ht,sizeOf,typeInfo,hi',hs',Addr.add]
  omega
 ·have hr:=run_storeCells_at (P:=P) g (l.length*sz) e cs 0 cur w hg (by omega) h1
  simp only[Instr.storeAt,Instr.sureAddr,storeVar,Sem.run_bind,Sem.run_pure,Result.andThen_ok,dy hi]
  rw[if_neg (by simp[Value.cells,hcl])]
  simpa [Value.cells] using hr
 ·rw[List.length_append,hl1,hcl,Nat.add_mul,Nat.one_mul]
 ·have hlen:cur.toList.length=cur.size:=by simp
  simp only[List.size_toArray,List.length_append,List.length_take,List.length_drop,hlen]
  omega
 ·rw[htk1,List.append_assoc,←List.append_assoc]
  exact List.take_left' (by rw[List.length_append,hl1,hcl,Nat.add_mul,Nat.one_mul])
 ·rw[List.map_append]
  exact aF.append (aF.mv (md.weak fun _ h _=>.inr h) (fun _ h=>.inl h) hx1) (by simpa using aF.cons (ha.mv (md.weak fun _ h _=>.inr h) fun _ h=>.inl h) aF.nil)
end Go.Rl
namespace Go.Rl
open Go.RowKit Go.Proofs
theorem wu:aw Tryz.prog 118:=⟨_,Tryz.func118,by kernel_rfl,rfl⟩
def Dc (w:World) (b:List UInt8) (r:Value) (w':World):Prop:=
 aE w w'∧∃(vt:Value),vt.oneCell'=true∧((r=.tuple #[vt,I 0]∧∃ts:List bc,ui b=some (ts,[])∧cz (fun k=>k<w.heap.size) w' (.sl (ts.map cw)) [vt])∨(r=.tuple #[vt,I 5]∧∀ts',ui b≠some (ts',[])))
theorem ri {fn:Func} {b:List UInt8} {a:Act} {w wS:World} {g2 g3:Nat} {v2 v3:Value} {X:Nat→Prop} {c:List PanicEntry} {w0:World} (hr:fn.results= #[.cell 2 49,.cell 3 26]) (hd:a.defers=[pL g2 g3]) (h2:a.tmps.getD 2 undef=.pointer (some ⟨g2,0,none⟩)) (h3:a.tmps.getD 3 undef=.pointer (some ⟨g3,0,none⟩))
 (hne:g2≠g3) (l2:w0.heap.size≤g2) (l3:w0.heap.size≤g3) (k2:bI g2 49 [v2] wS) (k3:bI g3 26 [v3] wS) (hX2:¬X g2) (hX3:¬X g3) (hX:∀k,X k→w0.heap.size≤k) (e0:aE w0 wS) (hw:Mv X wS w) (hc:rQ c) (hno:ui b=none):
 Leaves Tryz.prog fn a.tmps (bL (Dc w0 b)) a.defers (.panicking c) w:=by
 rw[hd]
 refine A1 hc hne hr h2 h3 (hw.blk k2 hX2) (hw.blk k3 hX3) fun w' hm=>⟨_,rfl,Mv.ext_from hm (Mv.ext_from hw e0 hX) ?_,.slice none 0 0,rfl,.inr ⟨rfl,fun ts' e=>by rw[hno] at e;cases e⟩⟩
 rintro k (rfl|rfl)<;>assumption
theorem aP.sto {g g2:Nat} {st:Option (List UInt8)} {w w':World} {T:TypeId} {u:Value} (h:aP g st w) (hb:bI g2 T [u] w) (hu:∃A n c,u=.slice A n c) (hw:w.grownBy w' (some g2)) (hne:g≠g2):aP g st w':=by
 obtain⟨A,n,c,h1,h2,h3⟩:=h
 refine⟨A,n,c,bI.other h1 hw (fun e=>hne (Option.some.inj e)),Sl.keep h2 hb (fun j x hx=>?_) hw,h3⟩
 obtain⟨y,_,rfl⟩:=List.mem_map.1 hx
 obtain⟨A',n',c',rfl⟩:=hu
 intro e
 have:=List.mem_of_getElem? (l:=[Value.slice A' n' c']) (by simpa using e)
 simp[U8] at this
theorem yw {fn:Func} {a:Act} {R:Ending→World→Prop} {w:World} {g2 g3:Nat} {v2 v3:Value} (hr:fn.results= #[.cell 2 49,.cell 3 26]) (hd:a.defers=[pL g2 g3]) (h2:a.tmps.getD 2 undef=.pointer (some ⟨g2,0,none⟩)) (h3:a.tmps.getD 3 undef=.pointer (some ⟨g3,0,none⟩))
 (k2:bI g2 49 [v2] w) (k3:bI g3 26 [v3] w) (h:R (.returned (.tuple #[v2,v3])) w):Leaves Tryz.prog fn a.tmps R a.defers .returning w:=by
 rw[hd]
 exact A0 hr h2 h3 k2 k3 h
theorem wv {w:World} {b:List UInt8} {v:Value} (hv:bQ b v w) (hl:b.length≤549755813888):
 Calls Tryz.prog 118 #[v] w (bL (Dc w b)):=by
 refine Gp (vs:=[v]) Tryz.func118 Ig Ig Ig ?_
 obtain⟨N,s1,qU,hN,cU⟩:=uo (some b)
 have hb:fB (some b):=fun l e=>by cases e;exact hl
 have fres:(Tryz.f118).results= #[.cell 2 49,.cell 3 26]:=rfl
 refine af (aa ?_)
 obtain⟨g2,w2,hr2,l2,x2,k2⟩:=aR (P:=Tryz.prog) (w:=w) (t:=49) (z:=.slice none 0 0) (l:=[.slice none 0 0]) (by kernel_rfl) rfl
 refine aU Ig hr2 ?_
 obtain⟨g3,w3,hr3,l3,x3,k3⟩:=aR (P:=Tryz.prog) (w:=w2) (t:=26) (z:=I 0) (l:=[I 0]) (by kernel_rfl) rfl
 refine aU Ig hr3 ?_
 have e3:=x2.trans x3
 have lt2:=k2.lt
 have lt3:=k3.lt
 have sz2:=x2.size
 have hne:g2≠g3:=by omega
 have lw2:w.heap.size≤g2:=l2
 have lw3:w.heap.size≤g3:=by omega
 refine ag (ab (af (aa ?_)))
 refine mq (us:=[]) (vs:=[.pointer (some ⟨g2,0,none⟩),.pointer (some ⟨g3,0,none⟩)]) Ig Ig Ig ?_
 refine EL Ig ?_
 refine ag (ab (af (aa (ae Ig Ig (ak vK Ig Ig ((vN (hv.ext e3) (by omega))) ?_)))))
 rintro v8 w8 ⟨x8,g,lg,rfl,hr8⟩
 refine bA (vs:=[(0,.pointer (some ⟨g,0,none⟩))]) (r:=.agg #[.pointer (some ⟨g,0,none⟩)]) Ig Ig (run_build _ _ _ _ (by kernel_rfl)) ?_
 obtain⟨g4,w4,hr4,l4,x4,k4⟩:=aR (P:=Tryz.prog) (w:=w8) (t:=246) (z:=.agg #[.pointer none]) (l:=[.pointer none]) (by kernel_rfl) rfl
 obtain⟨w5,s5,q5,k5⟩:=k4.stS (P:=Tryz.prog) (t:=246) (m:=[.pointer (some ⟨g,0,none⟩)]) rfl (by kernel_rfl) (aT.cons rfl aT.nil)
 have x5:aE w8 w5:=aE.of_new x4 q5 l4
 have e5:=(e3.trans x8).trans x5
 have sz3:=e3.size
 have sz8:=x8.size
 have sz5:=x5.size
 have hgl:g<w8.heap.size:=aP.lt hr8
 have lt5:=k5.lt
 have k25:=(((k2.ext x3).ext x8).ext x5)
 have k35:=((k3.ext x8).ext x5)
 have hr5:=hr8.ext x5
 have nX2:¬RX g g2:=fun h=>by have:g2=g:=h;omega
 have nX3:¬RX g g3:=fun h=>by have:g3=g:=h;omega
 have nX4:¬RX g g4:=fun h=>by have:g4=g:=h;omega
 have hgw:∀k,RX g k→w.heap.size≤k:=fun k hk=>by have:k=g:=hk;omega
 refine aU Ig hr4 ?_
 refine az Ig Ig s5 ?_
 refine ag (ab (af (af (aa ?_))))
 refine ah Ig Ig (aI (o:=0) HM Ig (by kernel_rfl) Ig) ?_
 refine am Ig Ig (aj HP Ig k5.k0) ?_
 refine ak fX Ig Ig ((cU hr5)) ?_
 rintro v12 w12 ⟨g12,rfl,hr12⟩
 have m12:=hr5.rdT.kp g12
 have m12:Mv (RX g) w5 w12:=Mv.of_grown g12 fun k hk _=>(Option.some.inj hk).symm
 have hl1:fB s1:=qU.atM og.le hb
 refine al rfl rfl (bw) (al rfl rfl (bz) (iG ku rfl rfl ((kv (n:=UInt64.ofNat N) (s:=s1))) (fun c a w1 ha hp=>by obtain⟨rfl,hp2,hp3⟩:=hp;exact ri fres ha.defers (ha.at_ 2 _ rfl) (ha.at_ 3 _ rfl) hne lw2 lw3 k25 k35 nX2 nX3 hgw e5 m12 hp2 (om (f:=eB) (done:=[]) qU (by rw[hp3];rfl))) ?_))
 rintro v15 _ ⟨rfl,rfl,hs1⟩
 obtain⟨l1,rfl⟩:=jm hs1
 refine ac Ig Ig (ag (ab (au ?_)))
 refine iC (fun(k:Nat) (v2:Value) (l:List UInt8) (ts:List bc)=>[(2,.pointer (some ⟨g2,0,none⟩)),(3,.pointer (some ⟨g3,0,none⟩)),(4,.pointer (some ⟨g4,0,none⟩)),(5,bo (UInt64.ofNat k))]) (fun(k:Nat) (v2:Value) (l:List UInt8) (ts:List bc) w'=>Mv (fun k=>RX g k∨k=g2) w5 w'∧aP g (some l) w'∧bI g2 49 [v2] w'∧gh 52 9 w5.heap.size cw ts v2 w'∧k<18446744073709551616∧(some l1).bind (cE eB N)=(some l).bind (fun l=>(cE eB k l).map fun p=>(ts++p.1,p.2))∧l.length+ts.length≤549755813888) (fun(k:Nat) (v2:Value) (l:List UInt8) (ts:List bc)=>k) (N) (.slice none 0 0) (l1) ([]) ⟨rfl,rfl,rfl,rfl,trivial⟩ ⟨m12.weak fun _ hk _=>.inl hk,hr12,m12.blk k25 nX2,gh.nil _,hN,mE,by have:=hl1 l1 rfl;simpa using this⟩ ?_
 rintro k v2 l ts wL ⟨mL,hrL,kL,oL,hk,hR,hql⟩
 refine af (af ?_)
 have hkn:(UInt64.ofNat k).toNat=k:=by rw[UInt64.toNat_ofNat'];omega
 have szL:=mL.size
 have k3L:=mL.blk k35 (by
  rintro(h|h)
  ·exact nX3 h
  ·exact hne h.symm)
 have k4L:=mL.blk k5 (by
  rintro(h|h)
  ·exact nX4 h
  ·omega)
 have hvo:v2.oneCell'=true:=by obtain⟨_,_,_,rfl⟩:=oL.isS;rfl
 have eL:aE w wL:=Mv.ext_from mL e5 (by
  rintro j (h|h)
  ·exact hgw j h
  ·omega)
 rcases Nat.eq_zero_or_pos k with h0|h0
 rotate_left
 ·refine aa (ae Ig Ig (ai (v:=bo 0) Ig Ig Ig (dW (UInt64.lt_iff_toNat_lt.2 (by rw[hkn];exact h0)) cJ) (ag (ab (ce Ig (ax (ab ?_)))))))
  refine af (au ?_)
  obtain⟨k',rfl⟩:∃k',k=k'+1:=⟨k-1,by omega⟩
  obtain⟨nd,s6,qN⟩:=uq (some l)
  have hll:fB (some l):=fun l' e=>by cases e;omega
  have hgL:g<wL.heap.size:=by omega
  have hE:(some l).bind eB=none→ui b=none:=fun h=>ox qU hR h
  have hX5:∀j,RX g j→j<w5.heap.size:=fun j hj=>by have:j=g:=hj;omega
  refine EO 5 [2,3,4,5,20,22,23,24] [(2,.pointer (some ⟨g2,0,none⟩)),(3,.pointer (some ⟨g3,0,none⟩))] #[true,true,true,true,true,false,false,false,false] (Mv (RX g) wL) (Mv (RX g)) true (fun c w'=>Mv (RX g) wL w'∧rQ c∧ui b=none) (aP g (some l)) (fb.mv _ _) (Mv.refl _ _) aP.stableZ hrL ⟨rfl,rfl,trivial⟩ (by kernel_rfl) (fun c a w1 _ hd hk hp=>ri fres hd (hk (2,_) (by simp)) (hk (3,_) (by simp)) hne lw2 lw3 kL k3L nX2 nX3 hgw eL hp.1 hp.2.1 hp.2.2) (fun _=>by kernel_rfl) (by kernel_rfl) (by kernel_rfl) ?_
  refine av Ig Ig (fun w' hw=>aj HJ Ig ((hw.blk kL nX2).k0)) ?_
  refine av Ig Ig (fun w' hw=>(hw.blk k4L nX4).ld HM Ig (by kernel_rfl)) ?_
  refine cO (S:=ur wL.heap.size nd) (Z':=fun w=>aP g s6 w∧s6≠none) mM rfl (ur.stable hgL) (f4 aP.stableZ) rfl (fun w hw hz=>by rintro _ rfl;exact ndM hw hw.size (yt l.length hz hll (fun l' e=>by cases e;exact Nat.le_refl _)) qN hE) ?_
  refine kW (vs:=[v2]) (r:=I ts.length) Ig Ig (fun w' hw=>bN (f:=cw) HJ ((oL.mv hw hX5).rpx cF (by omega)).rp) ?_
  refine dz (S:=jl wL.heap.size 9 cw [.mk [] uc [] false []]) (jl.stable hgL) Ig (fun w' hw=>by
   rintro _ rfl
   exact C1 (cs:=[.slice none 0 0,I 0,I 0,B false,.slice none 0 0,.slice none 0 0,.slice none 0 0,B false,.slice none 0 0]) HJ oo rfl (by omega) (by omega) hw.size (aT.cons rfl (aT.cons rfl (aT.cons rfl (aT.cons rfl (aT.cons rfl (aT.cons rfl (aT.cons rfl (aT.cons rfl (aT.cons rfl aT.nil))))))))) (ow yi zw yi yi) (cF _)) ?_
  refine bn ?_
  intro wg xg zg
  rintro _ rfl
  rintro _ rfl
  rintro _ rfl
  rintro _ rfl
  rintro _ hq20
  obtain rfl:=Eq.symm hq20
  intro vg22 b22
  rintro _ rfl
  intro vg24 b24
  obtain⟨hr6,hs6⟩:=zg
  obtain⟨l6,rfl⟩:=jm hs6
  obtain⟨cs,rfl,h1cs,hcs⟩:=b22
  obtain⟨zs,hzs,hzo,h1z,hza⟩:=b24
  have oG:=oL.mv xg hX5
  have own2:∀j,v2.ownBlock=some j→w5.heap.size≤j∧j<wL.heap.size:=oL.lt
  have hlN:=uj l _ l6 qN
  obtain⟨v25,w25,hr25,o25,g25⟩:=oG.app (t:=49) (ty:=49) HJ oo rfl (by omega) (by omega) hzs h1z ((aF.one hza).weak fun j hj=>.inl (by
   rcases hj with hj|hj
   ·omega
   ·exact(own2 j hj).2)) cF (by omega) (Nat.le_trans szL xg.size)
  have m25:Mv (fun k=>v2.ownBlock=some k) wg w25:=Mv.of_grown g25.grown fun k hk _=>hk
  have own25:∀j,v25.ownBlock=some j→w5.heap.size≤j∧(j<wL.heap.size∨wg.heap.size≤j):=fun j hj=>⟨(o25.lt j hj).1,by
   rcases g25.own with h|h
   ·rw[h] at hj;exact .inl (own2 j hj).2
   ·exact .inr (h j hj)⟩
  have hc25:cz (fun k=>k<w5.heap.size∨v25.ownBlock=some k) w25 (cw nd) cs:=hcs.mv (m25.weak fun j hj _=>(own2 j hj).2) fun j hj=>by
   rcases hj with hj|hj
   ·exact .inl (by omega)
   ·exact(own25 j hj).2
  have mB:Mv (fun k=>RX g k∨k=g2) w5 w25:=(mL.trans xg fun _ hj _=>.inl hj).trans m25 fun j hj hlt=>by have:=(own2 j hj).1;omega
  have k25':=m25.blk (xg.blk kL nX2) (fun h=>by have:=(own2 g2 h).1;omega)
  have hr25':aP g (some l6) w25:=hr6.mv m25 fun j hj=>by have:=(own2 j hj).1;omega
  have hsz:(Tryz.prog.info? 52).map (·.size)=some 9:=by kernel_rfl
  obtain⟨p,hp,w26,s26,m26,o26⟩:=o25.stLast HJ hsz (by omega) cF h1cs hc25
  have hv25:v25.oneCell'=true:=by obtain⟨_,_,_,rfl⟩:=o25.isS;rfl
  obtain⟨w27,s27,q27,k27⟩:=k25'.stC (P:=Tryz.prog) (t:=49) (i:=0) (v:=v25) (by kernel_rfl) hv25 (by simp)
  have m27:Mv (fun k=>k=g2) w25 w27:=Mv.of_grown q27 fun k hk _=>(Option.some.inj hk).symm
  have k26:=m26.blk k25' (fun h=>by have:=(own25 g2 h).1;omega)
  obtain⟨w28,s28,q28,k28⟩:=k26.stC (P:=Tryz.prog) (t:=49) (i:=0) (v:=v25) (by kernel_rfl) hv25 (by simp)
  have m28:Mv (fun k=>k=g2) w26 w28:=Mv.of_grown q28 fun k hk _=>(Option.some.inj hk).symm
  have o27:=o25.mv m27 fun j hj=>by omega
  obtain⟨p',hp',w29,s29,m29,o29⟩:=o27.stLast HJ hsz (by omega) cF h1cs (hc25.mv (m27.weak fun j hj _=>.inl (by omega)) fun _ h=>.inl h)
  obtain rfl:p=p':=by
   have h:=(hp w25).symm.trans (hp' w25)
   injection h
  have k29:=m29.blk k27 (fun h=>by have:=(own25 g2 h).1;omega)
  have o28:=o26.mv m28 fun j hj=>by omega
  refine cv 5 (by kernel_rfl) Ig (aZ Ig Ig hr25 (aX trivial ?_))
  refine t7 (α:=Unit) (fun _=>[(2,.pointer (some ⟨g2,0,none⟩)),(3,.pointer (some ⟨g3,0,none⟩)),(4,.pointer (some ⟨g4,0,none⟩)),(5,bo (UInt64.ofNat (k'+1)))]) (fun _ w'=>Mv (fun k=>RX g k∨k=g2) w5 w'∧aP g (some l6) w'∧bI g2 49 [v25] w'∧gh 52 9 w5.heap.size cw (ts++[nd]) v25 w') #[true,true,true,true,true,true,true,true,true] 0 ?_ (fun hk=>?_)
  rotate_left
  ·have A:Mv (fun k=>RX g k∨k=g2) w5 w28∧aP g (some l6) w28∧bI g2 49 [v25] w28∧gh 52 9 w5.heap.size cw (ts++[nd]) v25 w28:=⟨((mB.trans m26 fun j hj hlt=>by have:=(own25 j hj).1;omega).trans m28 fun _ hj _=>.inr hj),(hr25'.mv m26 fun j hj=>by have:=(own25 j hj).1;omega).sto k26 oL.isS q28 (by omega),k28,o28⟩
   have B':Mv (fun k=>RX g k∨k=g2) w5 w29∧aP g (some l6) w29∧bI g2 49 [v25] w29∧gh 52 9 w5.heap.size cw (ts++[nd]) v25 w29:=⟨((mB.trans m27 fun _ hj _=>.inr hj).trans m29 fun j hj hlt=>by have:=(own25 j hj).1;omega),(hr25'.sto k25' oL.isS q27 (by omega)).mv m29 fun j hj=>by have:=(own25 j hj).1;omega,k29,o29⟩
   refine kR 6 8 (by kernel_rfl) Ig Ig (aq Ig Ig Ig (hp _) (aX trivial ?_)) (az Ig Ig s27 (aX trivial ?_))
   ·refine kR 7 8 (by kernel_rfl) Ig Ig (az Ig Ig s26 (aX trivial ?_)) (az Ig Ig s27 (aX trivial ?_))
    ·refine cv 8 (by kernel_rfl) Ig (az Ig Ig s28 (aX trivial ?_))
     exact hk _ _ ⟨(),⟨rfl,rfl,rfl,rfl,trivial⟩,A⟩
    ·refine cv 7 (by kernel_rfl) Ig (az Ig Ig s29 (aX trivial ?_))
     exact hk _ _ ⟨(),⟨rfl,rfl,rfl,rfl,trivial⟩,B'⟩
   ·refine cv 6 (by kernel_rfl) Ig (aq Ig Ig Ig (hp _) (aX trivial ?_))
    refine cv 7 (by kernel_rfl) Ig (az Ig Ig s29 (aX trivial ?_))
    exact hk _ _ ⟨(),⟨rfl,rfl,rfl,rfl,trivial⟩,B'⟩
  rintro _ w30 ⟨m30,hr30,k30,o30⟩
  refine mw (by kernel_rfl) ?_
  refine aM (ab (aa (ae Ig Ig ?_)))
  have ek:UInt64.ofNat (k'+1)-1=UInt64.ofNat k':=by
   refine UInt64.toNat_inj.1 ?_
   rw[UInt64.toNat_sub_of_le _ _ (UInt64.le_iff_toNat_le.2 (by rw[hkn];show 1≤_;omega)),hkn,UInt64.toNat_ofNat',show(1:UInt64).toNat=1 from rfl]
   omega
  refine ai (v:=bo 1) (r:=bo (UInt64.ofNat k')) Ig Ig Ig ((by rw[←ek];exact cW)) (ac Ig Ig (ag ?_))
  refine fi (k') (v25) (l6) (ts++[nd]) ⟨rfl,rfl,rfl,rfl,trivial⟩ ⟨m30,hr30,k30,o30,by omega,oe hR qN,by simp;omega⟩ (by omega)
 ·refine aa (ae Ig Ig (ai (v:=bo 0) Ig Ig Ig (eU (fun hh=>by have:=UInt64.lt_iff_toNat_lt.1 hh;rw[hkn,h0] at this;exact absurd this (by decide)) cJ) ?_))
  refine ag (ab (eS Ig (ba (aC (aC (aY (ab (af (bk 4 [2,3,27,30] (by kernel_rfl) (by kernel_rfl) ?_)))))))))
  refine av Ig Ig (fun w' hw=>aj HJ Ig (kL.ext hw).k0) (aA Ig Ig (fun w' hw=>aI (o:=0) HM Ig (by kernel_rfl) Ig) ?_)
  refine av rfl rfl (fun w' hw=>aj HP rfl (k4L.ext hw).k0) (bM (S:=Is (I (if some l=some [] then 0 else 5))) AE (be.is _) rfl (fun w hw=>by rintro _ rfl;exact bL.mono (AH (hrL.ext hw)) fun v w' h=>⟨h.2▸aE.refl _,h.1⟩) ?_)
  refine bn ?_
  intro wg7 xg7
  rintro _ rfl
  rintro _ rfl
  rintro _ hq27
  obtain rfl:=Eq.symm hq27
  rintro _ rfl
  obtain⟨wa,sa,qa,ka⟩:=(kL.ext xg7).stC (P:=Tryz.prog) (t:=49) (i:=0) (v:=v2) (by kernel_rfl) hvo (by simp)
  obtain⟨wb,sb,qb,kb⟩:=((k3L.ext xg7).other qa (fun e=>hne (Option.some.inj e).symm)).stC (P:=Tryz.prog) (t:=26) (i:=0) (v:=I (if some l=some [] then 0 else 5)) (by kernel_rfl) rfl (by simp)
  have kab:=ka.other qb (fun e=>hne (Option.some.inj e))
  have mab:Mv (fun k=>k=g2∨k=g3) wg7 wb:=(Mv.of_grown qa fun k hk _=>.inl (Option.some.inj hk).symm:Mv (fun k=>k=g2∨k=g3) wg7 wa).trans (Mv.of_grown qb fun k hk _=>(Option.some.inj hk).symm:Mv (fun k=>k=g3) wa wb) fun _ hj _=>.inr hj
  refine az Ig Ig sa ?_
  refine az Ig Ig sb ?_
  refine ag (ab (ay ?_))
  refine fun a ha=>yw fres ha.defers (ha.at_ 2 _ rfl) (ha.at_ 3 _ rfl) kab kb ⟨_,rfl,Mv.ext_from mab (eL.trans xg7) (by rintro j (rfl|rfl)<;>assumption),v2,hvo,?_⟩
  subst h0
  have hd:ui b=some (ts,l):=ol qU hR
  by_cases hnil:l=[]
  ·subst hnil
   exact .inl ⟨rfl,ts,hd,(((oL.rpx cF (by omega)).ext xg7).mv (mab.weak (Y:=fun k=>k<w5.heap.size) fun j hj _=>by rcases hj with rfl|rfl<;>(show _<w5.heap.size;omega)) fun _ h=>.inl h).weak fun j hj=>.inl (by show j<w5.heap.size;omega)⟩
  ·rw[if_neg (fun e=>hnil (Option.some.inj e))]
   exact .inr ⟨rfl,fun ts' e=>by rw[hd] at e;simp only[Option.some.injEq,Prod.mk.injEq] at e;exact hnil e.2⟩
end Go.Rl
namespace Go.Rl
def ww (d:fa):Bool:=decide (d.kd=0)&&decide (d.ix=0)&&decide (d.at_=z0Q)
def nD (n:bc):Bool:=decide (1≤n.split.kd)&&decide (n.split.kd≤4)&& !n.empty&&decide (n.pf.length=0)
def Hd:Nat→bc→Bool×Nat
 |0,_=>(false,0)
 |l+1,n=>match n.kids with
  |[]=>(ww n.split,1)
  |[x,y]=>if nD n=true then
    (if (Hd l x).1=false∨65536<(Hd l x).2 then(false,0) else((Hd l y).1,1+(Hd l x).2+(Hd l y).2))
   else(false,0)
  |_=>(false,0)
def jx:Nat→Int→bc→Int×Bool
 |d,most,n=>if most<1 then(0,false) else match n.kids with
  |[]=>(1,ww n.split)
  |[x,y]=>if nD n=true then(match d with
    |0=>(0,false)
    |d+1=>if (jx d (most-1) x).2=false then(0,false) else(1+(jx d (most-1) x).1+(jx d (most-1-(jx d (most-1) x).1) y).1,(jx d (most-1-(jx d (most-1) x).1) y).2))
   else(0,false)
  |_=>(0,false)
def GN:Nat→bc→Bool
 |d,n=>match n.kids with
  |[]=>ww n.split
  |[x,y]=>nD n&&(match d with
    |0=>false
    |d+1=>GN d x&&GN d y)
  |_=>false
def ut:Nat→bc→Nat
 |d,n=>match n.kids with
  |[x,y]=>(match d with
    |0=>1
    |d+1=>1+ut d x+ut d y)
  |_=>1
theorem wx (d:Nat) (n:bc):1≤ut d n:=by
 unfold ut
 split
 ·split<;>omega
 ·omega
theorem uu:∀(d:Nat) (most:Int) (n:bc),(jx d most n).2=(GN d n&&decide ((ut d n:Int)≤most))∧((jx d most n).2=true→(jx d most n).1=ut d n)
 |d,most,n=>by
  have hp:=wx d n
  unfold jx
  by_cases hm:most<1
  ·rw[if_pos hm,decide_eq_false (by omega)]
   simp
  ·rw[if_neg hm]
   unfold GN ut
   generalize n.kids=ks
   rcases ks with _|⟨x,_|⟨y,_|⟨z,t⟩⟩⟩
   ·refine⟨?_,fun _=>rfl⟩
    show ww n.split=(ww n.split&&decide (((1:Nat):Int)≤most))
    rw[decide_eq_true (by omega),Bool.and_true]
   ·simp
   ·by_cases hi:nD n=true
    ·show(if nD n=true then _ else _:Int×Bool).2=(nD n&&_&&_)∧_
     rw[if_pos hi,hi]
     cases d with
     |zero=>simp
     |succ d=>
      obtain⟨a1,a2⟩:=uu d (most-1) x
      simp only[Bool.true_and]
      by_cases hx:(jx d (most-1) x).2=false
      ·rw[if_pos hx]
       rw[hx] at a1
       refine⟨?_,fun h=>by cases h⟩
       have hpy:=wx d y
       cases hk:GN d x with
       |false=>simp
       |true=>
        rw[hk,Bool.true_and] at a1
        have:=of_decide_eq_false a1.symm
        rw[decide_eq_false (by omega)]
        simp
      ·rw[if_neg hx]
       have hx':(jx d (most-1) x).2=true:=by simpa using hx
       have e1:=a2 hx'
       rw[hx'] at a1
       simp only[Bool.true_eq,Bool.and_eq_true,decide_eq_true_eq] at a1
       rw[e1]
       obtain⟨b1,b2⟩:=uu d (most-1-(ut d x:Int)) y
       refine⟨?_,fun h=>?_⟩
       ·rw[b1,a1.1,Bool.true_and]
        congr 1
        exact decide_eq_decide.2 (by omega)
       ·rw[b2 (by simpa using h)]
        simp only[if_true]
        omega
    ·have hi':nD n=false:=by simpa using hi
     simp[hi']
   ·simp
def iu (n:bc):Bool:=GN 2048 n&&decide (ut 2048 n≤65536)
theorem Dd (n:bc):(jx 2048 65536 n).2=iu n:=by
 rw[(uu 2048 65536 n).1]
 unfold iu
 congr 1
 exact decide_eq_decide.2 (by omega)
end Go.Rl
namespace Go.Rl
open Go.RowKit Go.Proofs
end Go.Rl
namespace Go.Rl
open Go.RowKit Go.Proofs
theorem wy:aw Tryz.prog 168:=⟨_,Tryz.func168,by kernel_rfl,rfl⟩
theorem wB {w:World} {l m:List UInt32} {v u:Value} (hv:bu l v w) (hu:bu m u w):
 Calls Tryz.prog 168 #[v,u] w (bL fun r w'=>aE w w'∧r=B (decide (l=m))):=by
 refine enter (vs:=[v,u]) Tryz.func168 Ig Ig Ig ?_
 have hll:=hv.len
 refine af (aa (ac Ig Ig (ag (ab (af (af (aa (ae Ig Ig (aO Ig Ig (bf Hz hv) (ae Ig Ig (aO Ig Ig (bf Hz hu) ?_)))))))))))
 refine ai Ig Ig Ig (dA) (ag (ab ?_))
 refine bi Ig (fun h10=>?_) (fun h10=>?_)
 ·have hne:l≠m:=fun h=>h10 (by rw[h])
  refine af (aa (ac Ig Ig (ag (ab (ay (aB (aD Ig Ig ?_)))))))
  exact⟨_,rfl,aE.refl _,congrArg B (decide_eq_false hne).symm⟩
 ·have hlen:l.length=m.length:=by omega
  refine ax (ab (af (af (aa (ae Ig Ig (aO Ig Ig (bf Hz hv) (ae Ig Ig (ag (ab (au ?_))))))))))
  refine ci (α:=Nat) (fun x=>[(0,v),(1,u),(12,I (l.length:Int)),(13,I (x:Int))]) (fun x w'=>aE w w'∧x≤l.length∧l.take x=m.take x) (fun x=>l.length-x) (0) ⟨rfl,rfl,rfl,rfl,trivial⟩ ⟨aE.refl _,by omega,rfl⟩ ?_
  rintro i w4 ⟨e4,hi,ht⟩
  refine af (aa (ai Ig Ig Ig (bb) (ag (ab (af ?_)))))
  refine bi Ig (fun h14=>?_) (fun h14=>?_)
  ·refine ax (ab (af (au (af (aa (ae Ig Ig (ac Ig Ig (ag (ab (af (bk 8 [0,1,12,13,19,23] (by kernel_rfl) (by kernel_rfl) ?_)))))))))))
   refine an Ig Ig (an Ig Ig ?_)
   obtain⟨a18,p18,q18⟩:=cr Hz (hv.ext e4) (i:=i) (by omega) .i64
   refine ar Ig Ig Ig (fun w _=>p18 w) (av Ig Ig (fun w hw=>aj HB Ig (hw.cell_some q18)) (an Ig Ig (an Ig Ig ?_)))
   obtain⟨a22,p22,q22⟩:=cr Hz (hu.ext e4) (i:=i) (by omega) .i64
   refine ar Ig Ig Ig (fun w _=>p22 w) (av Ig Ig (fun w hw=>aj HB Ig (hw.cell_some q22)) (bn ?_))
   intro wg6 xg6
   rintro _ hq0
   obtain rfl:=Eq.symm hq0
   rintro _ hq1
   obtain rfl:=Eq.symm hq1
   rintro _ rfl
   rintro _ rfl
   rintro _ rfl
   rintro _ rfl
   refine ai Ig Ig Ig (lI) (ag (ab ?_))
   refine bi Ig (fun h24=>?_) (fun h24=>?_)
   ·have hne:l≠m:=fun h=>h24 (by subst h;rfl)
    refine af (aa (ac Ig Ig (ag (ab (ay (bh (aB (aB (bh (aB (aD Ig Ig ?_)))))))))))
    exact⟨_,rfl,(e4.trans xg6),congrArg B (decide_eq_false hne).symm⟩
   ·have he:l[i]'(by omega)=m[i]'(by omega):=Classical.byContradiction fun h=>h24 h
    refine ax (aM (ab (aa (ai (r:=I ((i+1:Nat):Int)) Ig Ig Ig (by have e:((i+1:Nat):Int)=(i:Int)+1:=(by omega);rw[e];exact aK (by omega) (by omega)) ?_))))
    refine ae Ig Ig (ag ?_)
    refine bP (i+1) ⟨rfl,rfl,rfl,rfl,trivial⟩ ⟨(e4.trans xg6),by omega,by rw[List.take_succ_eq_append_getElem (by omega),List.take_succ_eq_append_getElem (by omega),ht,he]⟩ (by omega)
  ·refine ba (aC (aC (aY (ab (af (aa (ac Ig Ig (ag (ab (ay (aD Ig Ig ?_)))))))))))
   exact⟨_,rfl,e4,by
    rw[List.take_of_length_le (by omega),List.take_of_length_le (by omega)] at ht
    rw[decide_eq_true ht];rfl⟩
end Go.Rl
namespace Go.Rl
open Go.RowKit Go.Proofs
theorem uw:aw Tryz.prog 169:=⟨_,Tryz.func169,by kernel_rfl,rfl⟩
theorem ux:aw Tryz.prog 144:=⟨_,Tryz.func144,by kernel_rfl,rfl⟩
theorem jy:aw Tryz.prog 111:=⟨_,Tryz.func111,by kernel_rfl,rfl⟩
theorem rj:aw Tryz.prog 66:=⟨_,Tryz.func66,by kernel_rfl,rfl⟩
theorem uy {w:World} {a b:d7} {x y p q:Value} (ha:bu a.2.1 x w) (ha':bu a.2.2 y w) (hb:bu b.2.1 p w) (hb':bu b.2.2 q w):
 Calls Tryz.prog 169 #[.agg #[B a.1,x,y],.agg #[B b.1,p,q]] w (bL fun r w'=>aE w w'∧r=B (decide (a=b))):=by
 refine enter (vs:=[.agg #[B a.1,x,y],.agg #[B b.1,p,q]]) Tryz.func169 Ig Ig Ig ?_
 refine af (aa ?_)
 obtain⟨g2,w2,hr2,l2,x2,k2⟩:=cV (P:=Tryz.prog) (w:=w) (T:=46) (cs:=[B a.1,x,y])
 refine cI Ig Ig hr2 ?_
 obtain⟨g3,w3,hr3,l3,x3,k3⟩:=cV (P:=Tryz.prog) (w:=w2) (T:=46) (cs:=[B b.1,p,q])
 refine cI Ig Ig hr3 (ac Ig Ig (ag (ab (af (aa (ah Ig Ig (aI (o:=0) HG Ig (by kernel_rfl) Ig) ?_))))))
 refine am Ig Ig (aj HO Ig (x3.cell_some (k2.cell (i:=0) Ig))) (ah Ig Ig (aI (o:=0) HG Ig (by kernel_rfl) Ig) ?_)
 refine am Ig Ig (aj HO Ig (k3.cell (i:=0) Ig)) (ai Ig Ig Ig (zn HO) (ae Ig Ig ?_))
 refine dM (fun h10=>?_) (fun h10=>?_)
 ·refine ao Ig (ah Ig Ig (aI (o:=1) HG Ig (by kernel_rfl) Ig) (ao Ig (am Ig Ig (aj Hz Ig (x3.cell_some (k2.cell (i:=1) Ig))) ?_)))
  refine ao Ig (ah Ig Ig (aI (o:=1) HG Ig (by kernel_rfl) Ig) (ao Ig (am Ig Ig (aj Hz Ig (k3.cell (i:=1) Ig)) ?_)))
  refine ao Ig (ak wy Ig Ig (wB (ha.ext (x2.trans x3)) (hb.ext (x2.trans x3))) ?_)
  rintro v15 w15 ⟨x15,rfl⟩
  refine aG Ig Ig Ig (ae Ig Ig ?_)
  refine dM (fun h17=>?_) (fun h17=>?_)
  ·refine ao Ig (ah Ig Ig (aI (o:=2) HG Ig (by kernel_rfl) Ig) (ao Ig (am Ig Ig (aj Hz Ig ((x3.trans x15).cell_some (k2.cell (i:=2) Ig))) ?_)))
   refine ao Ig (ah Ig Ig (aI (o:=2) HG Ig (by kernel_rfl) Ig) (ao Ig (am Ig Ig (aj Hz Ig (x15.cell_some (k3.cell (i:=2) Ig))) ?_)))
   refine ao Ig (ak wy Ig Ig (wB (ha'.ext ((x2.trans x3).trans x15)) (hb'.ext ((x2.trans x3).trans x15))) ?_)
   rintro v22 w22 ⟨x22,rfl⟩
   refine aG Ig Ig Ig (ac Ig Ig (ag (ab (ay (aD Ig Ig ?_)))))
   exact⟨_,rfl,(((x2.trans x3).trans x15).trans x22),by
    first
    |exact congrArg B (decide_eq_decide.2 ⟨fun h=>Prod.ext h10 (Prod.ext h17 h),fun h=>by rw[h]⟩)
    |exact congrArg B (decide_eq_false fun h=>h17 (by rw[h])).symm
    |exact congrArg B (decide_eq_false fun h=>h10 (by rw[h])).symm⟩
  ·refine ap Ig Ig Ig (ap Ig Ig Ig (ap Ig Ig Ig (ap Ig Ig Ig (ap Ig Ig Ig (aJ Ig Ig Ig (ac Ig Ig (ag (ab (ay (aD Ig Ig ?_))))))))))
   exact⟨_,rfl,((x2.trans x3).trans x15),by
    first
    |exact congrArg B (decide_eq_decide.2 ⟨fun h=>Prod.ext h10 (Prod.ext h17 h),fun h=>by rw[h]⟩)
    |exact congrArg B (decide_eq_false fun h=>h17 (by rw[h])).symm
    |exact congrArg B (decide_eq_false fun h=>h10 (by rw[h])).symm⟩
 ·refine ap Ig Ig Ig (ap Ig Ig Ig (ap Ig Ig Ig (ap Ig Ig Ig (ap Ig Ig Ig (aJ Ig Ig Ig (ae Ig Ig (ap Ig Ig Ig (ap Ig Ig Ig (ap Ig Ig Ig ?_)))))))))
  refine ap Ig Ig Ig (ap Ig Ig Ig (aJ Ig Ig Ig (ac Ig Ig (ag (ab (ay (aD Ig Ig ?_)))))))
  exact⟨_,rfl,(x2.trans x3),by
   first
   |exact congrArg B (decide_eq_decide.2 ⟨fun h=>Prod.ext h10 (Prod.ext h17 h),fun h=>by rw[h]⟩)
   |exact congrArg B (decide_eq_false fun h=>h17 (by rw[h])).symm
   |exact congrArg B (decide_eq_false fun h=>h10 (by rw[h])).symm⟩
deriving instance DecidableEq for fa
theorem fa.ext' {a b:fa} (h1:a.kd=b.kd) (h2:a.ix=b.ix) (h3:a.at_=b.at_):a=b:=by
 cases a;cases b
 simp only at h1 h2 h3
 rw[h1,h2,h3]
theorem uA {w:World} {a b:fa} {x y p q:Value} (ha:bu a.at_.2.1 x w) (ha':bu a.at_.2.2 y w) (hb:bu b.at_.2.1 p w) (hb':bu b.at_.2.2 q w):
 Calls Tryz.prog 144 #[.agg #[I a.kd,I a.ix,B a.at_.1,x,y],.agg #[I b.kd,I b.ix,B b.at_.1,p,q]] w (bL fun r w'=>aE w w'∧r=B (decide (a=b))):=by
 refine enter (vs:=[.agg #[I a.kd,I a.ix,B a.at_.1,x,y],.agg #[I b.kd,I b.ix,B b.at_.1,p,q]]) Tryz.func144 Ig Ig Ig ?_
 refine af (aa ?_)
 obtain⟨g2,w2,hr2,l2,x2,k2⟩:=cV (P:=Tryz.prog) (w:=w) (T:=48) (cs:=[I a.kd,I a.ix,B a.at_.1,x,y])
 refine cI Ig Ig hr2 ?_
 obtain⟨g3,w3,hr3,l3,x3,k3⟩:=cV (P:=Tryz.prog) (w:=w2) (T:=48) (cs:=[I b.kd,I b.ix,B b.at_.1,p,q])
 refine cI Ig Ig hr3 (ac Ig Ig (ag (ab (af (aa (ah Ig Ig (aI (o:=0) HT Ig (by kernel_rfl) Ig) ?_))))))
 refine am Ig Ig (aj HE Ig (x3.cell_some (k2.cell (i:=0) Ig))) (ah Ig Ig (aI (o:=0) HT Ig (by kernel_rfl) Ig) ?_)
 refine am Ig Ig (aj HE Ig (k3.cell (i:=0) Ig)) (ai Ig Ig Ig (bJ) (ae Ig Ig ?_))
 refine dM (fun h10=>?_) (fun h10=>?_)
 ·refine ao Ig (ah Ig Ig (aI (o:=1) HT Ig (by kernel_rfl) Ig) (ao Ig (am Ig Ig (aj HE Ig (x3.cell_some (k2.cell (i:=1) Ig))) ?_)))
  refine ao Ig (ah Ig Ig (aI (o:=1) HT Ig (by kernel_rfl) Ig) (ao Ig (am Ig Ig (aj HE Ig (k3.cell (i:=1) Ig)) ?_)))
  refine ao Ig (ai Ig Ig Ig (bJ) (aG Ig Ig Ig (ae Ig Ig ?_)))
  refine dM (fun h17=>?_) (fun h17=>?_)
  ·refine ao rfl (ah rfl rfl (aI (o:=2) Tryz.underlying48 rfl (by kernel_rfl) rfl) (ao rfl (am rfl rfl ((k2.ext x3).ldO (ms:=[B a.at_.1,x,y]) (o:=2) (fun j v hj=>by rcases j with _|_|_|_|_|_|_|_|_|j<;>simp_all) Tryz.underlying46 rfl (by kernel_rfl)) ?_)))
   refine ao rfl (ah rfl rfl (aI (o:=2) Tryz.underlying48 rfl (by kernel_rfl) rfl) (ao rfl (am rfl rfl (k3.ldO (ms:=[B b.at_.1,p,q]) (o:=2) (fun j v hj=>by rcases j with _|_|_|_|_|_|_|_|_|j<;>simp_all) Tryz.underlying46 rfl (by kernel_rfl)) ?_)))
   refine ao Ig (ak uw Ig Ig ((uy (a:=a.at_) (b:=b.at_) (ha.ext (x2.trans x3)) (ha'.ext (x2.trans x3)) (hb.ext (x2.trans x3)) (hb'.ext (x2.trans x3)))) ?_)
   rintro v22 w22 ⟨x22,rfl⟩
   refine aG Ig Ig Ig (ac Ig Ig (ag (ab (ay (aD Ig Ig ?_)))))
   exact⟨_,rfl,((x2.trans x3).trans x22),by
    first
    |exact congrArg B (decide_eq_decide.2 ⟨fun h=>fa.ext' h10 h17 h,fun h=>by rw[h]⟩)
    |exact congrArg B (decide_eq_false fun h=>h17 (by rw[h])).symm
    |exact congrArg B (decide_eq_false fun h=>h10 (by rw[h])).symm⟩
  ·refine ap Ig Ig Ig (ap Ig Ig Ig (ap Ig Ig Ig (ap Ig Ig Ig (ap Ig Ig Ig (aJ Ig Ig Ig (ac Ig Ig (ag (ab (ay (aD Ig Ig ?_))))))))))
   exact⟨_,rfl,(x2.trans x3),by
    first
    |exact congrArg B (decide_eq_decide.2 ⟨fun h=>fa.ext' h10 h17 h,fun h=>by rw[h]⟩)
    |exact congrArg B (decide_eq_false fun h=>h17 (by rw[h])).symm
    |exact congrArg B (decide_eq_false fun h=>h10 (by rw[h])).symm⟩
 ·refine ap Ig Ig Ig (ap Ig Ig Ig (ap Ig Ig Ig (ap Ig Ig Ig (ap Ig Ig Ig (aJ Ig Ig Ig (ae Ig Ig (ap Ig Ig Ig (ap Ig Ig Ig (ap Ig Ig Ig ?_)))))))))
  refine ap Ig Ig Ig (ap Ig Ig Ig (aJ Ig Ig Ig (ac Ig Ig (ag (ab (ay (aD Ig Ig ?_)))))))
  exact⟨_,rfl,(x2.trans x3),by
   first
   |exact congrArg B (decide_eq_decide.2 ⟨fun h=>fa.ext' h10 h17 h,fun h=>by rw[h]⟩)
   |exact congrArg B (decide_eq_false fun h=>h17 (by rw[h])).symm
   |exact congrArg B (decide_eq_false fun h=>h10 (by rw[h])).symm⟩
end Go.Rl
namespace Go.Rl
open Go.RowKit Go.Proofs
section
variable {w:World} {cs:List Value}
theorem A2 {m:eG} (h:Rp w (fG m) cs):∃x y,cs=[I m.kd,I m.ix,I m.lo,I m.hi,B m.co.1,x,y]∧bu m.co.2.1 x w∧bu m.co.2.2 y w:=by
 simp only[fG,jV,bC,Rp.eq_5,Rp.eq_1] at h
 obtain⟨_,_,rfl,⟨_,_,rfl,rfl,_,_,rfl,rfl,_,_,rfl,rfl,_,_,rfl,rfl,rfl⟩,_,_,rfl,h1,rfl⟩:=h
 obtain⟨x,y,rfl,hx,hy⟩:=fF h1
 exact⟨x,y,rfl,hx,hy⟩
theorem De {d:fa} (h:Rp w (nu d) cs):∃x y,cs=[I d.kd,I d.ix,B d.at_.1,x,y]∧bu d.at_.2.1 x w∧bu d.at_.2.2 y w:=by
 simp only[nu,jV,bC,Rp.eq_5,Rp.eq_1] at h
 obtain⟨_,_,rfl,rfl,_,_,rfl,rfl,_,_,rfl,h1,rfl⟩:=h
 obtain⟨x,y,rfl,hx,hy⟩:=fF h1
 exact⟨x,y,rfl,hx,hy⟩
theorem Df {l:gn} (h:Rp w (jf l) cs):∃x y v,cs=[I l.un,B l.up,B l.va.1,x,y,v]∧bu l.va.2.1 x w∧bu l.va.2.2 y w∧dq fG l.pf v w:=by
 simp only[jf,jV,bC,Rp.eq_5,Rp.eq_1,Rp.eq_2] at h
 obtain⟨_,_,rfl,rfl,_,_,rfl,rfl,_,_,rfl,h1,_,_,rfl,h2,rfl⟩:=h
 obtain⟨x,y,rfl,hx,hy⟩:=fF h1
 obtain⟨v,rfl,hv,_⟩:=Rp.isSlice h2
 exact⟨x,y,v,rfl,hx,hy,hv⟩
theorem iQ {n:bc} (h:Rp w (cw n) cs):∃vl x y vk vp,cs=[vl,I n.split.kd,I n.split.ix,B n.split.at_.1,x,y,vk,B n.empty,vp]∧dq jf n.lems vl w∧bu n.split.at_.2.1 x w∧bu n.split.at_.2.2 y w∧dq cw n.kids vk w∧dq fG n.pf vp w:=by
 cases n with
 |mk lems sp ks em pf=>
  simp only[cw,bC,Rp.eq_5,Rp.eq_2,mG] at h
  obtain⟨_,_,rfl,h1,_,_,rfl,h2,_,_,rfl,h3,_,_,rfl,rfl,_,_,rfl,h4,rfl⟩:=h
  obtain⟨vl,rfl,hl,_⟩:=Rp.isSlice h1
  obtain⟨x,y,rfl,hx,hy⟩:=De h2
  obtain⟨vk,rfl,hk,_⟩:=Rp.isSlice h3
  obtain⟨vp,rfl,hp,_⟩:=Rp.isSlice h4
  exact⟨vl,x,y,vk,vp,rfl,hl,hx,hy,hk,hp⟩
theorem EP (d:fa):ww d=decide (d=uc):=by
 cases d with
 |mk a b c=>
  unfold ww uc
  simp only[fa.mk.injEq]
  by_cases h1:a=0<;>by_cases h2:b=0<;>by_cases h3:c=z0Q<;>simp[h1,h2,h3]
end
end Go.Rl
namespace Go.Rl
open Go.RowKit Go.Proofs
theorem lq {P:Program} {w:World} {s:TypeId} {fs:Array Field} {f:Field} {n g o b:Nat} (hs:P.underlying s=some (.struct fs)) (hf:fs[n]? =some f) (hk:(P.cellsOf f.type==0)=false) (ho:f.offset=o):
 (Instr.fieldAt s (.pointer (some ⟨g,b,none⟩)) n).run P w=.ok (.pointer (some ⟨g,b+o,none⟩)) w:=by
 have hk':P.cellsOf f.type≠0:=by simpa using hk
 obtain⟨k,hk1⟩:∃k,(P.info? f.type).map (·.size)=some k:=by
  cases hi:(P.info? f.type).map (·.size) with
  |none=>exact absurd (by simp[Program.cellsOf,hi]) hk'
  |some k=>exact⟨k,rfl⟩
 have hk0:k≠0:=by
  intro h
  apply hk'
  simp[Program.cellsOf,hk1,h]
 rw[bK hs hf hk1 hk0,ho,nQ]
theorem kx {n:bc} (h:¬(1≤n.split.kd∧n.split.kd≤4∧n.empty=false∧n.pf.length=0)):nD n=false:=by
 unfold nD
 by_cases h1:1≤n.split.kd<;>by_cases h2:n.split.kd≤4<;>by_cases h3:n.pf.length=0<;>cases h4:n.empty<;>simp_all
theorem EQ {n:bc} (h1:1≤n.split.kd) (h2:n.split.kd≤4) (h3:n.empty=false) (h4:n.pf.length=0):nD n=true:=by
 unfold nD
 simp[h1,h2,h3,h4]
theorem wC {ks:List bc} (h:ks.length=2):ks=[ks[0]'(by omega),ks[1]'(by omega)]:=by
 rcases ks with _|⟨x,_|⟨y,_|⟨z,t⟩⟩⟩
 ·simp at h
 ·simp at h
 ·rfl
 ·simp at h
end Go.Rl
namespace Go.Rl
open Go.RowKit Go.Proofs
theorem ta {d:Nat} {m:Int} {n:bc} (h:m<1):jx d m n=(0,false):=by rw[jx.eq_def];exact if_pos h
theorem wE {d:Nat} {m:Int} {n:bc} (h:¬m<1) (h0:n.kids.length=0):jx d m n=(1,ww n.split):=by
 have:n.kids=[]:=List.eq_nil_of_length_eq_zero h0
 rw[jx.eq_def]
 simp only[if_neg h,this]
theorem gU {d:Nat} {m:Int} {n:bc} (hm:¬m<1) (h0:n.kids.length≠0) (h:n.kids.length≠2∨nD n=false∨d=0):jx d m n=(0,false):=by
 rw[jx.eq_def]
 simp only[if_neg hm]
 generalize n.kids=ks at h0 h
 rcases ks with _|⟨x,_|⟨y,_|⟨z,t⟩⟩⟩
 ·exact absurd rfl h0
 ·rfl
 ·rcases h with h|h|h
  ·exact absurd rfl h
  ·simp[h]
  ·subst h
   simp
 ·rfl
theorem uB {d:Nat} {m:Int} {n x y:bc} (hm:¬m<1) (hk:n.kids=[x,y]) (hi:nD n=true):jx (d+1) m n=if (jx d (m-1) x).2=false then(0,false) else(1+(jx d (m-1) x).1+(jx d (m-1-(jx d (m-1) x).1) y).1,(jx d (m-1-(jx d (m-1) x).1) y).2):=by
 rw[jx.eq_def]
 simp only[if_neg hm,hk,if_pos hi]
theorem Dg {m A C:Int} (hm:¬m<1) (a:0≤A∧A≤max 0 (m-1)) (b:0≤C∧C≤max 0 (m-1-A)):0≤1+A+C∧1+A+C≤max 0 m:=by omega
theorem uC:∀(d:Nat) (m:Int) (n:bc),0≤(jx d m n).1∧(jx d m n).1≤max 0 m
 |d,m,n=>by
  by_cases hm:m<1
  ·rw[ta hm];exact⟨Int.le_refl _,by show(0:Int)≤_;omega⟩
  ·by_cases h0:n.kids.length=0
   ·rw[wE hm h0];exact⟨by show(0:Int)≤1;omega,by show(1:Int)≤_;omega⟩
   ·by_cases hb:n.kids.length≠2∨nD n=false∨d=0
    ·rw[gU hm h0 hb];exact⟨Int.le_refl _,by show(0:Int)≤_;omega⟩
    ·simp only[not_or,Bool.not_eq_false] at hb
     obtain⟨h2,hi,hd⟩:=hb
     obtain⟨d',rfl⟩:∃d',d=d'+1:=⟨d-1,by omega⟩
     rw[uB hm (wC (by omega)) hi]
     split
     ·exact⟨Int.le_refl _,by show(0:Int)≤_;omega⟩
     ·have a:=uC d' (m-1) (n.kids[0]'(by omega))
      have b:=uC d' (m-1-(jx d' (m-1) (n.kids[0]'(by omega))).1) (n.kids[1]'(by omega))
      exact Dg hm a b
theorem rk {w:World} {n:bc} {d:Nat} {m:Int} {vl x y vk vp:Value} (ih:∀d',d=d'+1→∀{w:World} {n:bc} {m:Int} {vl x y vk vp:Value},0≤m→m≤65536→dq jf n.lems vl w→bu n.split.at_.2.1 x w→bu n.split.at_.2.2 y w→dq cw n.kids vk w→dq fG n.pf vp w→
 Calls Tryz.prog 111 #[.agg #[vl,I n.split.kd,I n.split.ix,B n.split.at_.1,x,y,vk,B n.empty,vp],I (d':Int),I m] w (bL fun r w'=>aE w w'∧r=.tuple #[I (jx d' m n).1,B (jx d' m n).2]))
 (hd:d≤2048) (hm0:0≤m) (hm1:m≤65536) (hl:dq jf n.lems vl w) (hx:bu n.split.at_.2.1 x w) (hy:bu n.split.at_.2.2 y w) (hk:dq cw n.kids vk w) (hp:dq fG n.pf vp w):
 Calls Tryz.prog 111 #[.agg #[vl,I n.split.kd,I n.split.ix,B n.split.at_.1,x,y,vk,B n.empty,vp],I (d:Int),I m] w (bL fun r w'=>aE w w'∧r=.tuple #[I (jx d m n).1,B (jx d m n).2]):=by
 refine enter (vs:=[.agg #[vl,I n.split.kd,I n.split.ix,B n.split.at_.1,x,y,vk,B n.empty,vp],I (d:Int),I m]) Tryz.func111 Ig Ig Ig ?_
 have hl2:=hl
 refine af (aa ?_)
 obtain⟨g3,w3,hr3,l3,x3,k3⟩:=cV (P:=Tryz.prog) (w:=w) (T:=52) (cs:=[vl,I n.split.kd,I n.split.ix,B n.split.at_.1,x,y,vk,B n.empty,vp])
 refine cI Ig Ig hr3 (ac Ig Ig (ac Ig Ig (ag (ab (af (af (aa (ae Ig Ig (ai Ig Ig Ig (bb) (ag (ab ?_)))))))))))
 refine bi Ig (fun h12=>?_) (fun h12=>?_)
 ·have hm:m<1:=h12
  refine af (aa (ac Ig Ig (ac Ig Ig (ag (ab (ay (aB (aW Ig Ig Ig ?_))))))))
  exact⟨_,rfl,x3,by rw[ta hm]<;>rfl⟩
 ·have hm:¬m<1:=h12
  refine ax (ab (af (af (aa (ah Ig Ig (aI (o:=6) HI Ig (by kernel_rfl) Ig) (am Ig Ig (aj HJ Ig (k3.cell (i:=6) Ig)) ?_))))))
  refine aO Ig Ig (bN HJ (hk.ext x3)) (ai Ig Ig Ig (bJ) (ag (ab ?_)))
  refine bi Ig (fun h16=>?_) (fun h16=>?_)
  ·have h0:n.kids.length=0:=by omega
   refine af (aa (ah rfl rfl (aI (o:=1) Tryz.underlying52 rfl (by kernel_rfl) rfl) (am rfl rfl (k3.ldO (ms:=[I n.split.kd,I n.split.ix,B n.split.at_.1,x,y]) (o:=1) (fun j v hj=>by rcases j with _|_|_|_|_|_|_|_|_|j<;>simp_all) Tryz.underlying48 rfl (by kernel_rfl)) ?_)))
   refine bA (vs:=[]) (r:=.agg #[I 0,I 0,B false,.slice none 0 0,.slice none 0 0]) Ig Ig (by exact run_build _ _ _ _ (by kernel_rfl)) (ak ux Ig Ig ((uA (a:=n.split) (b:=uc) (hx.ext x3) (hy.ext x3) (Sl.nil _ _) (Sl.nil _ _))) ?_)
   rintro v20 w20 ⟨x20,rfl⟩
   refine ac Ig Ig (ac Ig Ig (ag (ab (ay (aB (aW Ig Ig Ig ?_))))))
   exact⟨_,rfl,(x3.trans x20),by rw[wE hm h0,EP];rfl⟩
  ·have h0:n.kids.length≠0:=by omega
   refine ax (ab (af (af ?_)))
   have hl2:=hl.ext x3
   have hx2:=hx.ext x3
   have hy2:=hy.ext x3
   have hk2:=hk.ext x3
   have hp2:=hp.ext x3
   rcases hem:n.empty with _|_
   ·have kf:=k3
    rw[hem] at kf
    refine aa (ah Ig Ig (aI (o:=6) HI Ig (by kernel_rfl) Ig) (am Ig Ig (aj HJ Ig (kf.cell (i:=6) Ig)) ?_))
    refine aO Ig Ig (bN HJ hk2) (ai Ig Ig Ig (dA) (ae Ig Ig ?_))
    refine dM (fun h25=>?_) (fun h25=>?_)
    ·refine ap Ig Ig Ig (ap Ig Ig Ig (ap Ig Ig Ig (ap Ig Ig Ig (aG Ig Ig Ig (ae Ig Ig (ap Ig Ig Ig (ap Ig Ig Ig (ap Ig Ig Ig (ap Ig Ig Ig ?_)))))))))
     refine aG Ig Ig Ig (ae Ig Ig (ap Ig Ig Ig (ap Ig Ig Ig (aG Ig Ig Ig (ae Ig Ig (ap Ig Ig Ig (ap Ig Ig Ig (ap Ig Ig Ig (ap Ig Ig Ig ?_)))))))))
     refine aG Ig Ig Ig (ae Ig Ig (ap Ig Ig Ig (ap Ig Ig Ig (aG Ig Ig Ig (ag (ab (ce Ig (af (aa (ac Ig Ig (ac Ig Ig ?_)))))))))))
     refine ag (ab (ay (aB (aW Ig Ig Ig ?_))))
     exact⟨_,rfl,x3,by
      rw[gU hm h0 (by
       first
       |exact .inl (by omega)
       |exact .inr (.inr (by omega))
       |exact .inr (.inl (kx fun⟨a1,a2,a3,a4⟩=>by
         first
         |omega
         |(rw[hem] at a3;cases a3))))]<;>rfl⟩
    ·refine ao Ig (ah Ig Ig (aI (o:=1) HI Ig (by kernel_rfl) Ig) (ao Ig (ah Ig Ig (lq (b:=1) (o:=0) HT Ig (by kernel_rfl) Ig) ?_)))
     refine ao Ig (am Ig Ig (aj HE Ig (kf.cell (i:=1) Ig)) (ao Ig (ai Ig Ig Ig (bb) (aJ Ig Ig Ig (ae Ig Ig ?_)))))
     refine dM (fun h31=>?_) (fun h31=>?_)
     ·refine ap Ig Ig Ig (ap Ig Ig Ig (ap Ig Ig Ig (ap Ig Ig Ig (aG Ig Ig Ig (ae Ig Ig (ap Ig Ig Ig (ap Ig Ig Ig (aG Ig Ig Ig (ae Ig Ig ?_)))))))))
      refine ap Ig Ig Ig (ap Ig Ig Ig (ap Ig Ig Ig (ap Ig Ig Ig (aG Ig Ig Ig (ae Ig Ig (ap Ig Ig Ig (ap Ig Ig Ig (aG Ig Ig Ig (ag ?_)))))))))
      refine ab (ce Ig (af (aa (ac Ig Ig (ac Ig Ig (ag (ab (ay (aB (aW Ig Ig Ig ?_))))))))))
      exact⟨_,rfl,x3,by
       rw[gU hm h0 (by
        first
        |exact .inl (by omega)
        |exact .inr (.inr (by omega))
        |exact .inr (.inl (kx fun⟨a1,a2,a3,a4⟩=>by
          first
          |omega
          |(rw[hem] at a3;cases a3))))]<;>rfl⟩
     ·refine ao Ig (ah Ig Ig (aI (o:=1) HI Ig (by kernel_rfl) Ig) (ao Ig (ah Ig Ig (lq (b:=1) (o:=0) HT Ig (by kernel_rfl) Ig) ?_)))
      refine ao Ig (am Ig Ig (aj HE Ig (kf.cell (i:=1) Ig)) (ao Ig (ai Ig Ig Ig (cB) (aJ Ig Ig Ig (ae Ig Ig ?_)))))
      refine dM (fun h37=>?_) (fun h37=>?_)
      ·refine ap Ig Ig Ig (ap Ig Ig Ig (aG Ig Ig Ig (ae Ig Ig (ap Ig Ig Ig (ap Ig Ig Ig (ap Ig Ig Ig (ap Ig Ig Ig (aG Ig Ig Ig (ae Ig Ig ?_)))))))))
       refine ap Ig Ig Ig (ap Ig Ig Ig (aG Ig Ig Ig (ag (ab (ce Ig (af (aa (ac Ig Ig (ac Ig Ig (ag (ab (ay (aB (aW Ig Ig Ig ?_))))))))))))))
       exact⟨_,rfl,x3,by
        rw[gU hm h0 (by
         first
         |exact .inl (by omega)
         |exact .inr (.inr (by omega))
         |exact .inr (.inl (kx fun⟨a1,a2,a3,a4⟩=>by
           first
           |omega
           |(rw[hem] at a3;cases a3))))]<;>rfl⟩
      ·refine ao Ig (ah Ig Ig (aI (o:=7) HI Ig (by kernel_rfl) Ig) (ao Ig (am Ig Ig (aj HO Ig (kf.cell (i:=7) Ig)) ?_)))
       refine aJ Ig Ig Ig (ae Ig Ig (ao Ig (ah Ig Ig (aI (o:=8) HI Ig (by kernel_rfl) Ig) (ao Ig (am Ig Ig (aj H0 Ig (kf.cell (i:=8) Ig)) ?_)))))
       refine ao Ig (aO Ig Ig (bN H0 hp2) (ao Ig (ai Ig Ig Ig (cB) (aJ Ig Ig Ig (ae Ig Ig ?_)))))
       refine dM (fun h47=>?_) (fun h47=>?_)
       ·refine ap Ig Ig Ig (ap Ig Ig Ig (aG Ig Ig Ig (ag (ab (ce Ig (af (aa (ac Ig Ig (ac Ig Ig (ag (ab (ay (aB (aW Ig Ig Ig ?_))))))))))))))
        exact⟨_,rfl,x3,by
         rw[gU hm h0 (by
          first
          |exact .inl (by omega)
          |exact .inr (.inr (by omega))
          |exact .inr (.inl (kx fun⟨a1,a2,a3,a4⟩=>by
            first
            |omega
            |(rw[hem] at a3;cases a3))))]<;>rfl⟩
       ·refine ao Ig (ae Ig Ig (ao Ig (ai Ig Ig Ig (bJ) (aJ Ig Ig Ig (ag (ab ?_))))))
        refine bi Ig (fun h50=>?_) (fun h50=>?_)
        ·refine af (aa (ac Ig Ig (ac Ig Ig (ag (ab (ay (aB (aW Ig Ig Ig ?_))))))))
         exact⟨_,rfl,x3,by
          rw[gU hm h0 (by
           first
           |exact .inl (by omega)
           |exact .inr (.inr (by omega))
           |exact .inr (.inl (kx fun⟨a1,a2,a3,a4⟩=>by
             first
             |omega
             |(rw[hem] at a3;cases a3))))]<;>rfl⟩
        ·refine ax (ab (af ?_))
         have hk2n:n.kids.length=2:=by omega
         have hks:=wC hk2n
         have hi:=EQ (n:=n) (by omega) (by omega) hem (by omega)
         obtain⟨d',rfl⟩:∃d',d=d'+1:=⟨d-1,by omega⟩
         refine aa (ah Ig Ig (aI (o:=6) HI Ig (by kernel_rfl) Ig) (am Ig Ig (aj HJ Ig (kf.cell (i:=6) Ig)) ?_))
         obtain⟨a54,c54,p54,q54,h54⟩:=eA (P:=Tryz.prog) (sz:=9) HJ (by kernel_rfl) cF (by omega) hk2 (i:=0) (by omega) .i64
         obtain⟨e54,he54⟩:∃e,e=n.kids[0]'(by omega):=⟨_,rfl⟩
         rw[←he54] at h54
         obtain⟨x54_0,x54_1,x54_2,x54_3,x54_4,rfl,f54_0,f54_1,f54_2,f54_3,f54_4⟩:=iQ h54
         refine aq Ig Ig Ig (p54 _) (am Ig Ig (q54.ld HI Ig (by kernel_rfl)) (ae Ig Ig (ai (r:=I (d':Int)) Ig Ig Ig ((by have e:((d':Nat):Int)=((d'+1:Nat):Int)-1:=(by omega);rw[e];exact aV (by omega) (by omega))) ?_)))
         refine ae Ig Ig (ai (r:=I (m-1)) Ig Ig Ig (aV (by omega) (by omega)) (ak jy Ig Ig ((ih d' Ig (by omega) (by omega) f54_0 f54_1 f54_2 f54_3 f54_4)) ?_))
         rintro v60 w60 ⟨x60,rfl⟩
         have hb1:=uC d' (m-1) e54
         refine ae Ig Ig (al Ig Ig (bw) (al Ig Ig (bz) (ac Ig Ig (ac Ig Ig (ag (ab (af (af ?_))))))))
         have hz:=uu d' (m-1) e54
         rcases hb:(jx d' (m-1) e54).2 with _|_
         ·refine aa (ae Ig Ig (cx Ig Ig cZ (ag (ab (ce Ig (af (aa (ac Ig Ig (ac Ig Ig (ag (ab (ay (aB (aW Ig Ig Ig ?_))))))))))))))
          exact⟨_,rfl,(x3.trans x60),by rw[uB hm hks hi,←he54,if_pos hb]<;>rfl⟩
         ·refine aa (ae Ig Ig (cx Ig Ig cZ (ag (ab (eS Ig (ax (ab (af (aa (ah Ig Ig (aI (o:=6) HI Ig (by kernel_rfl) Ig) ?_))))))))))
          refine am Ig Ig (aj HJ Ig (x60.cell_some (kf.cell (i:=6) Ig))) ?_
          obtain⟨a68,c68,p68,q68,h68⟩:=eA (P:=Tryz.prog) (sz:=9) HJ (by kernel_rfl) cF (by omega) (hk2.ext x60) (i:=1) (by omega) .i64
          obtain⟨e68,he68⟩:∃e,e=n.kids[1]'(by omega):=⟨_,rfl⟩
          rw[←he68] at h68
          obtain⟨x68_0,x68_1,x68_2,x68_3,x68_4,rfl,f68_0,f68_1,f68_2,f68_3,f68_4⟩:=iQ h68
          refine aq Ig Ig Ig (p68 _) (am Ig Ig (q68.ld HI Ig (by kernel_rfl)) (ae Ig Ig (ai (r:=I (d':Int)) Ig Ig Ig ((by have e:((d':Nat):Int)=((d'+1:Nat):Int)-1:=(by omega);rw[e];exact aV (by omega) (by omega))) ?_)))
          refine ae Ig Ig (ai (r:=I (m-1)) Ig Ig Ig (aV (by omega) (by omega)) (ae Ig Ig (ai (r:=I (m-1-(jx d' (m-1) e54).1)) Ig Ig Ig (aV (by omega) (by omega)) ?_)))
          refine ak jy Ig Ig ((ih d' Ig (by omega) (by omega) f68_0 f68_1 f68_2 f68_3 f68_4)) ?_
          rintro v76 w76 ⟨x76,rfl⟩
          have hb2:=uC d' (m-1-(jx d' (m-1) e54).1) e68
          refine ae Ig Ig (al Ig Ig (bw) (al Ig Ig (bz) (ac Ig Ig (ac Ig Ig (ag (ab (af (aa (ae Ig Ig (ai (r:=I (1+(jx d' (m-1) e54).1)) Ig Ig Ig (aK (by omega) (by omega)) ?_))))))))))
          refine ae Ig Ig (ai (r:=I (1+(jx d' (m-1) e54).1+(jx d' (m-1-(jx d' (m-1) e54).1) e68).1)) Ig Ig Ig (aK (by omega) (by omega)) ?_)
          refine ae Ig Ig (ac Ig Ig (ac Ig Ig (ag (ab (ay (aW Ig Ig Ig ?_))))))
          exact⟨_,rfl,((x3.trans x60).trans x76),by rw[uB hm hks hi,←he54,←he68,if_neg (by rw[hb];simp)]⟩
   ·have kf:=k3
    rw[hem] at kf
    refine aa (ah Ig Ig (aI (o:=6) HI Ig (by kernel_rfl) Ig) (am Ig Ig (aj HJ Ig (kf.cell (i:=6) Ig)) ?_))
    refine aO Ig Ig (bN HJ hk2) (ai Ig Ig Ig (dA) (ae Ig Ig ?_))
    refine dM (fun h25=>?_) (fun h25=>?_)
    ·refine ap Ig Ig Ig (ap Ig Ig Ig (ap Ig Ig Ig (ap Ig Ig Ig (aG Ig Ig Ig (ae Ig Ig (ap Ig Ig Ig (ap Ig Ig Ig (ap Ig Ig Ig (ap Ig Ig Ig ?_)))))))))
     refine aG Ig Ig Ig (ae Ig Ig (ap Ig Ig Ig (ap Ig Ig Ig (aG Ig Ig Ig (ae Ig Ig (ap Ig Ig Ig (ap Ig Ig Ig (ap Ig Ig Ig (ap Ig Ig Ig ?_)))))))))
     refine aG Ig Ig Ig (ae Ig Ig (ap Ig Ig Ig (ap Ig Ig Ig (aG Ig Ig Ig (ag (ab (ce Ig (af (aa (ac Ig Ig (ac Ig Ig ?_)))))))))))
     refine ag (ab (ay (aB (aW Ig Ig Ig ?_))))
     exact⟨_,rfl,x3,by
      rw[gU hm h0 (by
       first
       |exact .inl (by omega)
       |exact .inr (.inr (by omega))
       |exact .inr (.inl (kx fun⟨a1,a2,a3,a4⟩=>by
         first
         |omega
         |(rw[hem] at a3;cases a3))))]<;>rfl⟩
    ·refine ao Ig (ah Ig Ig (aI (o:=1) HI Ig (by kernel_rfl) Ig) (ao Ig (ah Ig Ig (lq (b:=1) (o:=0) HT Ig (by kernel_rfl) Ig) ?_)))
     refine ao Ig (am Ig Ig (aj HE Ig (kf.cell (i:=1) Ig)) (ao Ig (ai Ig Ig Ig (bb) (aJ Ig Ig Ig (ae Ig Ig ?_)))))
     refine dM (fun h31=>?_) (fun h31=>?_)
     ·refine ap Ig Ig Ig (ap Ig Ig Ig (ap Ig Ig Ig (ap Ig Ig Ig (aG Ig Ig Ig (ae Ig Ig (ap Ig Ig Ig (ap Ig Ig Ig (aG Ig Ig Ig (ae Ig Ig ?_)))))))))
      refine ap Ig Ig Ig (ap Ig Ig Ig (ap Ig Ig Ig (ap Ig Ig Ig (aG Ig Ig Ig (ae Ig Ig (ap Ig Ig Ig (ap Ig Ig Ig (aG Ig Ig Ig (ag ?_)))))))))
      refine ab (ce Ig (af (aa (ac Ig Ig (ac Ig Ig (ag (ab (ay (aB (aW Ig Ig Ig ?_))))))))))
      exact⟨_,rfl,x3,by
       rw[gU hm h0 (by
        first
        |exact .inl (by omega)
        |exact .inr (.inr (by omega))
        |exact .inr (.inl (kx fun⟨a1,a2,a3,a4⟩=>by
          first
          |omega
          |(rw[hem] at a3;cases a3))))]<;>rfl⟩
     ·refine ao Ig (ah Ig Ig (aI (o:=1) HI Ig (by kernel_rfl) Ig) (ao Ig (ah Ig Ig (lq (b:=1) (o:=0) HT Ig (by kernel_rfl) Ig) ?_)))
      refine ao Ig (am Ig Ig (aj HE Ig (kf.cell (i:=1) Ig)) (ao Ig (ai Ig Ig Ig (cB) (aJ Ig Ig Ig (ae Ig Ig ?_)))))
      refine dM (fun h37=>?_) (fun h37=>?_)
      ·refine ap Ig Ig Ig (ap Ig Ig Ig (aG Ig Ig Ig (ae Ig Ig (ap Ig Ig Ig (ap Ig Ig Ig (ap Ig Ig Ig (ap Ig Ig Ig (aG Ig Ig Ig (ae Ig Ig ?_)))))))))
       refine ap Ig Ig Ig (ap Ig Ig Ig (aG Ig Ig Ig (ag (ab (ce Ig (af (aa (ac Ig Ig (ac Ig Ig (ag (ab (ay (aB (aW Ig Ig Ig ?_))))))))))))))
       exact⟨_,rfl,x3,by
        rw[gU hm h0 (by
         first
         |exact .inl (by omega)
         |exact .inr (.inr (by omega))
         |exact .inr (.inl (kx fun⟨a1,a2,a3,a4⟩=>by
           first
           |omega
           |(rw[hem] at a3;cases a3))))]<;>rfl⟩
      ·refine ao Ig (ah Ig Ig (aI (o:=7) HI Ig (by kernel_rfl) Ig) (ao Ig (am Ig Ig (aj HO Ig (kf.cell (i:=7) Ig)) ?_)))
       refine aJ Ig Ig Ig (ae Ig Ig (ap Ig Ig Ig (ap Ig Ig Ig (ap Ig Ig Ig (ap Ig Ig Ig (aG Ig Ig Ig (ae Ig Ig (ap Ig Ig Ig (ap Ig Ig Ig ?_)))))))))
       refine aG Ig Ig Ig (ag (ab (ce Ig (af (aa (ac Ig Ig (ac Ig Ig (ag (ab (ay (aB (aW Ig Ig Ig ?_))))))))))))
       exact⟨_,rfl,x3,by
        rw[gU hm h0 (by
         first
         |exact .inl (by omega)
         |exact .inr (.inr (by omega))
         |exact .inr (.inl (kx fun⟨a1,a2,a3,a4⟩=>by
           first
           |omega
           |(rw[hem] at a3;cases a3))))]<;>rfl⟩
theorem rl:∀(d:Nat),d≤2048→∀{w:World} {n:bc} {m:Int} {vl x y vk vp:Value},0≤m→m≤65536→dq jf n.lems vl w→bu n.split.at_.2.1 x w→bu n.split.at_.2.2 y w→dq cw n.kids vk w→dq fG n.pf vp w→
 Calls Tryz.prog 111 #[.agg #[vl,I n.split.kd,I n.split.ix,B n.split.at_.1,x,y,vk,B n.empty,vp],I (d:Int),I m] w (bL fun r w'=>aE w w'∧r=.tuple #[I (jx d m n).1,B (jx d m n).2])
 |0,hd,_,_,_,_,_,_,_,_,h0,h1,hl,hx,hy,hk,hp=>rk (fun _ e=>by cases e) hd h0 h1 hl hx hy hk hp
 |d+1,hd,_,_,_,_,_,_,_,_,h0,h1,hl,hx,hy,hk,hp=>rk (fun d' e _ _ _ _ _ _ _ _ a0 a1 b1 b2 b3 b4 b5=>by
   cases e
   exact rl d (by omega) a0 a1 b1 b2 b3 b4 b5) hd h0 h1 hl hx hy hk hp
theorem A3 {w:World} {n:bc} {vl x y vk vp:Value} (hl:dq jf n.lems vl w) (hx:bu n.split.at_.2.1 x w) (hy:bu n.split.at_.2.2 y w) (hk:dq cw n.kids vk w) (hp:dq fG n.pf vp w):
 Calls Tryz.prog 66 #[.agg #[vl,I n.split.kd,I n.split.ix,B n.split.at_.1,x,y,vk,B n.empty,vp]] w (bL fun r w'=>aE w w'∧r=B (iu n)):=by
 refine enter (vs:=[.agg #[vl,I n.split.kd,I n.split.ix,B n.split.at_.1,x,y,vk,B n.empty,vp]]) Tryz.func66 Ig Ig Ig ?_
 refine af (aa ?_)
 obtain⟨g1,w1,hr1,l1,x1,k1⟩:=cV (P:=Tryz.prog) (w:=w) (T:=52) (cs:=[vl,I n.split.kd,I n.split.ix,B n.split.at_.1,x,y,vk,B n.empty,vp])
 refine cI Ig Ig hr1 (ac Ig Ig (ag (ab (af (aa (am Ig Ig (k1.ld HI Ig (by kernel_rfl)) (ak jy Ig Ig ((rl 2048 (Nat.le_refl _) (m:=65536) (by omega) (by omega) (hl.ext x1) (hx.ext x1) (hy.ext x1) (hk.ext x1) (hp.ext x1))) ?_)))))))
 rintro v7 w7 ⟨x7,rfl⟩
 refine ae Ig Ig (al Ig Ig (bw) (al Ig Ig (bz) (ac Ig Ig (ac Ig Ig (ag (ab (af (aa (ae Ig Ig (ac Ig Ig ?_))))))))))
 refine ag (ab (ay (aD Ig Ig ?_)))
 exact⟨_,rfl,(x1.trans x7),by rw[Dd n]⟩
end Go.Rl
namespace Go.Rl
open Go.RowKit
def ER (q:d7):Bool:=rv q.1 q.2.1 q.2.2
def He (l:List eG):Bool:=l.all fun m=>ER m.co
def canL (l:gn):Bool:=ER l.va&&He l.pf
mutual
def lY:bc→Bool
 |.mk lems sp kids _ pf=>He pf&&ER sp.at_&&lems.all canL&&zy kids
def zy:List bc→Bool
 |[]=>true
 |n::l=>lY n&&zy l
end
theorem A4:∀l:List bc,zy l=l.all lY
 |[]=>rfl
 |n::l=>by simp only[zy,List.all_cons,A4 l]
def wMu (m:eG):Prop:=kU m.kd∧kU m.ix∧kU m.lo∧kU m.hi
def wP (l:List eG):Prop:=∀m∈l,wMu m
def wLm (l:gn):Prop:=kU l.un∧wP l.pf
def wD (d:fa):Prop:=kU d.kd∧kU d.ix
mutual
def wN:bc→Prop
 |.mk lems sp kids _ pf=>(∀l∈lems,wLm l)∧wD sp∧wP pf∧GO kids
def GO:List bc→Prop
 |[]=>True
 |n::l=>wN n∧GO l
end
theorem zz:∀l:List bc,GO l↔∀n∈l,wN n
 |[]=>by simp[GO]
 |n::l=>by simp only[GO,zz l,List.mem_cons,forall_eq_or_imp]
theorem Gq (n:bc):wN n↔(∀l∈n.lems,wLm l)∧wD n.split∧wP n.pf∧∀k∈n.kids,wN k:=by
 cases n with
 |mk l s k e p=>simp only[wN,zz];rfl
theorem Dh (n:bc):dC n=if n.kids.length=0 then EH n.empty++ir n.lems++uf n.pf else[2]++ir n.lems++rW n.split++n.kids.flatMap dC:=by
 cases n with
 |mk l s k e p=>
  cases k with
  |nil=>simp[dC,bc.kids,bc.empty,bc.lems,bc.pf]
  |cons k ks=>simp[dC,bc.kids,bc.lems,bc.split,qZ]
theorem lr (q:d7):4*(q.2.1.length+q.2.2.length)≤(eZ q).length:=by
 have h:∀n:List UInt32,4*n.length≤(lh n).length:=fun n=>by simp only[lh,List.length_append,fk];omega
 have h1:=h q.2.1
 have h2:=h q.2.2
 simp only[eZ,nn,List.length_append,List.length_cons,List.length_nil]
 omega
end Go.Rl
namespace Go.Rl
def lZ:List UInt8→List UInt8→Nat
 |a::l,b::m=>if a=b then lZ l m+1 else 0
 |_,_=>0
theorem uD (l:List UInt8):lZ l []=0:=by cases l<;>rfl
theorem Di:∀(l m:List UInt8),lZ l m≤l.length
 |[],m=>by simp[lZ]
 |a::l,[]=>by simp[lZ]
 |a::l,b::m=>by
  have:=Di l m
  unfold lZ
  split<;>simp<;>omega
theorem zA:∀(l m:List UInt8) (j:Nat),j<lZ l m→l[j]? =m[j]? ∧j<l.length
 |[],m,j,h=>by simp[lZ] at h
 |a::l,[],j,h=>by simp[lZ] at h
 |a::l,b::m,j,h=>by
  unfold lZ at h
  split at h
  ·rename_i e
   subst e
   match j with
   |0=>simp
   |j+1=>
    have:=zA l m j (by omega)
    simpa using this
  ·omega
def ml (d:List UInt8) (i k:Nat):Nat:=lZ (d.drop i) (d.drop (i-k))
theorem FE (d:List UInt8) (i k:Nat):ml d i k≤d.length-i:=by
 have:=Di (d.drop i) (d.drop (i-k))
 rw[List.length_drop] at this
 exact this
theorem Gr {d:List UInt8} {i k j:Nat} (h:j<ml d i k):d[i+j]? =d[i-k+j]? ∧i+j<d.length:=by
 have:=zA (d.drop i) (d.drop (i-k)) j h
 rw[List.getElem?_drop,List.getElem?_drop,List.length_drop] at this
 exact⟨this.1,by omega⟩
def rY (d:List UInt8) (i:Nat):Nat→Nat×Nat
 |0=>(0,0)
 |j+1=>if 4≤ml d i (j+1)∧(rY d i j).1<ml d i (j+1) then(ml d i (j+1),j+1) else rY d i j
theorem yx (d:List UInt8) (i:Nat):∀j,(rY d i j=(0,0))∨(4≤(rY d i j).1∧1≤(rY d i j).2∧(rY d i j).2≤j∧ml d i (rY d i j).2=(rY d i j).1)
 |0=>.inl rfl
 |j+1=>by
  unfold rY
  split
  ·rename_i h
   exact .inr ⟨h.1,by simp,by simp,rfl⟩
  ·rcases yx d i j with h|h
   ·exact .inl h
   ·exact .inr ⟨h.1,h.2.1,by omega,h.2.2.2⟩
def cQ (d:List UInt8) (i:Nat):Nat×Nat:=rY d i (min i 4096)
theorem nE {d:List UInt8} {i:Nat} (h:(cQ d i).1≠0):4≤(cQ d i).1∧1≤(cQ d i).2∧(cQ d i).2≤i∧(cQ d i).2≤4096∧ml d i (cQ d i).2=(cQ d i).1∧i+(cQ d i).1≤d.length:=by
 rcases yx d i (min i 4096) with e|e
 ·exact absurd (show(cQ d i).1=0 by unfold cQ;rw[e]) h
 ·have hl:=FE d i (cQ d i).2
  unfold cQ at h hl⊢
  refine⟨e.1,e.2.1,by omega,by omega,e.2.2.2,?_⟩
  rw[e.2.2.2] at hl
  omega
def pk (d:List UInt8) (i run:Nat):List UInt8:=
 if _h:i<d.length then
  if hn:(cQ d i).1=0 then pk d (i+1) (run+1)
  else uv run++(d.drop (i-run)).take run++uv ((cQ d i).1-4)++uv ((cQ d i).2-1)++pk d (i+(cQ d i).1) 0
 else if 0<run then uv run++d.drop (d.length-run) else[]
termination_by d.length-i
decreasing_by all_goals omega
theorem rn {d:List UInt8} {i run:Nat} (h:i<d.length) (hn:(cQ d i).1=0):pk d i run=pk d (i+1) (run+1):=by
 rw[pk,dif_pos h,dif_pos hn]
theorem nF {d:List UInt8} {i run:Nat} (h:i<d.length) (hn:(cQ d i).1≠0):pk d i run=uv run++(d.drop (i-run)).take run++uv ((cQ d i).1-4)++uv ((cQ d i).2-1)++pk d (i+(cQ d i).1) 0:=by
 rw[pk,dif_pos h,dif_neg hn]
theorem ro {d:List UInt8} {i run:Nat} (h:¬i<d.length):pk d i run=if 0<run then uv run++d.drop (d.length-run) else[]:=by
 rw[pk,dif_neg h]
def cj (d:List UInt8):List UInt8:=uv d.length++pk d 0 0
def A5 (k:Nat):Nat→List UInt8→List UInt8
 |0,out=>out
 |m+1,out=>A5 k m (out++[out.getD (out.length-k) 0])
theorem yy {d:List UInt8} {i k:Nat} (hk:1≤k) (hki:k≤i):∀(m j:Nat),j+m≤ml d i k→A5 k m (d.take (i+j))=d.take (i+j+m)
 |0,j,_=>rfl
 |m+1,j,h=>by
  obtain⟨h1,h2⟩:=Gr (d:=d) (i:=i) (k:=k) (j:=j) (by omega)
  have hl:(d.take (i+j)).length=i+j:=by rw[List.length_take];omega
  have e:d.take (i+j)++[(d.take (i+j)).getD ((d.take (i+j)).length-k) 0]=d.take (i+(j+1)):=by
   rw[hl,←Nat.add_assoc,List.take_succ_eq_append_getElem h2]
   congr 2
   rw[List.getD_eq_getElem?_getD,List.getElem?_take_of_lt (by omega),show i+j-k=i-k+j by omega,←h1,List.getElem?_eq_getElem h2]
   rfl
  rw[A5,e,yy hk hki m (j+1) (by omega)]
  congr 1
  omega
def ph (total:Nat):Nat→List UInt8→List UInt8→Option (List UInt8)
 |0,_,_=>none
 |f+1,rest,out=>
  if out.length<total then
   (dX rest).bind fun p=>
     if total-out.length<p.1∨p.2.length<p.1 then none
     else if total-out.length=p.1 then(if p.2.drop p.1=[] then some (out++p.2.take p.1) else none)
     else(dX (p.2.drop p.1)).bind fun q=>
      if total-out.length-p.1<4∨total-out.length-p.1-4<q.1 then none
      else(dX q.2).bind fun r=>
       if 4096≤r.1∨(out++p.2.take p.1).length≤r.1 then none
       else ph total f r.2 (A5 (r.1+1) (q.1+4) (out++p.2.take p.1))
  else if rest=[] then some out else none
theorem uE (k:Nat):∀(m:Nat) (out:List UInt8),(A5 k m out).length=out.length+m
 |0,out=>rfl
 |m+1,out=>by rw[A5,uE k m];simp;omega
theorem tb {d:List UInt8} {i run:Nat} (hr:run≤i):d.take (i-run)++(d.drop (i-run)).take run=d.take i:=by
 have:d.take i=d.take (i-run+run):=by rw[Nat.sub_add_cancel hr]
 rw[this,List.take_add]
theorem Gs {d:List UInt8} (hd:d.length<18446744073709551616):∀(c i run f:Nat),d.length-i=c→run≤i→i≤d.length→d.length-i+1≤f→
 ph d.length f (pk d i run) (d.take (i-run))=some d:=by
 intro c
 induction c using Nat.strongRecOn with
 |ind c ih=>
  intro i run f hc hr hid hf
  obtain⟨f,rfl⟩:∃g,f=g+1:=⟨f-1,by omega⟩
  have hlo:(d.take (i-run)).length=i-run:=by rw[List.length_take];omega
  by_cases hi:i<d.length
  ·by_cases hn:(cQ d i).1=0
   ·rw[rn hi hn]
    have:=ih (d.length-(i+1)) (by omega) (i+1) (run+1) (f+1) rfl (by omega) (by omega) (by omega)
    rw[show i+1-(run+1)=i-run by omega] at this
    exact this
   ·obtain⟨h4,h1,h2,h3,hml,h5⟩:=nE hn
    obtain⟨n,hnn⟩:∃n,n=(cQ d i).1:=⟨_,rfl⟩
    obtain⟨k,hkk⟩:∃k,k=(cQ d i).2:=⟨_,rfl⟩
    rw[nF hi hn]
    rw[←hnn] at h4 h5 hml⊢
    rw[←hkk] at h1 h2 h3 hml⊢
    have hlr:((d.drop (i-run)).take run).length=run:=by rw[List.length_take,List.length_drop];omega
    have hsub:d.length-(d.take (i-run)).length=d.length-i+run:=by rw[hlo];omega
    unfold ph
    rw[if_pos (by rw[hlo];omega)]
    simp only[List.append_assoc]
    rw[ja (by omega)]
    simp only[Option.bind_some,hsub]
    have e1:((d.drop (i-run)).take run++(uv (n-4)++(uv (k-1)++pk d (i+n) 0))).take run=(d.drop (i-run)).take run:=by rw[List.take_left' hlr]
    have e2:((d.drop (i-run)).take run++(uv (n-4)++(uv (k-1)++pk d (i+n) 0))).drop run=uv (n-4)++(uv (k-1)++pk d (i+n) 0):=by rw[List.drop_left' hlr]
    rw[e1,e2,if_neg (by rw[List.length_append,hlr];omega),if_neg (by omega),ja (by omega)]
    simp only[Option.bind_some]
    rw[if_neg (by omega),ja (by omega)]
    simp only[Option.bind_some]
    rw[tb hr,if_neg (by rw[List.length_take];omega),show k-1+1=k by omega,show n-4+4=n by omega]
    have hc0:=yy (d:=d) (i:=i) (k:=k) h1 h2 n 0 (by omega)
    rw[Nat.add_zero] at hc0
    rw[hc0]
    have:=ih (d.length-(i+n)) (by omega) (i+n) 0 f rfl (by omega) h5 (by omega)
    rw[Nat.sub_zero] at this
    exact this
  ·have hie:i=d.length:=by omega
   rw[ro hi]
   unfold ph
   by_cases hr0:0<run
   ·rw[if_pos hr0,if_pos (by rw[hlo];omega),ja (by omega)]
    have hsub:d.length-(d.take (i-run)).length=run:=by rw[hlo];omega
    have hdl:(d.drop (d.length-run)).length=run:=by rw[List.length_drop];omega
    simp only[Option.bind_some,hsub]
    rw[if_neg (by omega),if_pos trivial,List.take_of_length_le (l:=d.drop (d.length-run)) (by omega),List.drop_of_length_le (by omega),if_pos rfl,hie,List.take_append_drop]
   ·have:run=0:=by omega
    subst this
    rw[if_neg (show ¬0<0 by omega),if_neg (by rw[hlo];omega),if_pos rfl,hie,Nat.sub_zero,List.take_length]
end Go.Rl
namespace Go.Rl
def Dj (total:Nat):Nat→List UInt8→List UInt8→Option (List UInt8×List UInt8)
 |0,_,_=>none
 |f+1,rest,out=>
  if out.length<total then
   (Ge rest).bind fun p=>
     if (out++p.1).length<total then
      (dX p.2).bind fun q=>(dX q.2).bind fun r=>
        if total≤q.1∨(out++p.1).length≤r.1 then none
        else Dj total f r.2 (A5 (r.1+1) (min (q.1+4) (total-(out++p.1).length)) (out++p.1))
     else some (out++p.1,p.2)
  else some (out,rest)
theorem Gt {d:List UInt8} (hd:d.length<18446744073709551616):∀(c i run f:Nat),d.length-i=c→run≤i→i≤d.length→d.length-i+1≤f→
 Dj d.length f (pk d i run) (d.take (i-run))=some (d,[]):=by
 intro c
 induction c using Nat.strongRecOn with
 |ind c ih=>
  intro i run f hc hr hid hf
  obtain⟨f,rfl⟩:∃g,f=g+1:=⟨f-1,by omega⟩
  have hlo:(d.take (i-run)).length=i-run:=by rw[List.length_take];omega
  by_cases hi:i<d.length
  ·by_cases hn:(cQ d i).1=0
   ·rw[rn hi hn]
    have:=ih (d.length-(i+1)) (by omega) (i+1) (run+1) (f+1) rfl (by omega) (by omega) (by omega)
    rw[show i+1-(run+1)=i-run by omega] at this
    exact this
   ·obtain⟨h4,h1,h2,h3,hml,h5⟩:=nE hn
    obtain⟨n,hnn⟩:∃n,n=(cQ d i).1:=⟨_,rfl⟩
    obtain⟨k,hkk⟩:∃k,k=(cQ d i).2:=⟨_,rfl⟩
    rw[nF hi hn]
    rw[←hnn] at h4 h5 hml⊢
    rw[←hkk] at h1 h2 h3 hml⊢
    obtain⟨L,hL⟩:∃L,L=(d.drop (i-run)).take run:=⟨_,rfl⟩
    have hlr:L.length=run:=by rw[hL,List.length_take,List.length_drop];omega
    have htl:d.take (i-run)++L=d.take i:=by rw[hL];exact tb hr
    have hti:(d.take i).length=i:=by rw[List.length_take];omega
    rw[←hL]
    unfold Dj
    rw[if_pos (by rw[hlo];omega)]
    have e:uv run++L++uv (n-4)++uv (k-1)++pk d (i+n) 0=AD L++(uv (n-4)++(uv (k-1)++pk d (i+n) 0)):=by
     rw[AD,hlr];simp only[List.append_assoc]
    rw[e,vV (by omega)]
    simp only[Option.bind_some,htl,hti]
    rw[if_pos hi,ja (by omega)]
    simp only[Option.bind_some]
    rw[ja (by omega)]
    simp only[Option.bind_some]
    rw[if_neg (by omega),show k-1+1=k by omega,show min (n-4+4) (d.length-i)=n by omega]
    have hc0:=yy (d:=d) (i:=i) (k:=k) h1 h2 n 0 (by omega)
    rw[Nat.add_zero] at hc0
    rw[hc0]
    have:=ih (d.length-(i+n)) (by omega) (i+n) 0 f rfl (by omega) h5 (by omega)
    rw[Nat.sub_zero] at this
    exact this
  ·have hie:i=d.length:=by omega
   rw[ro hi]
   unfold Dj
   by_cases hr0:0<run
   ·have hdl:(d.drop (d.length-run)).length=run:=by rw[List.length_drop];omega
    have e:uv run++d.drop (d.length-run)=AD (d.drop (d.length-run))++[]:=by rw[AD,hdl,List.append_nil]
    rw[if_pos hr0,if_pos (by rw[hlo];omega),e,vV (by omega)]
    simp only[Option.bind_some]
    rw[hie,List.take_append_drop,if_neg (by omega)]
   ·have:run=0:=by omega
    subst this
    rw[if_neg (show ¬0<0 by omega),if_neg (by rw[hlo];omega),hie,Nat.sub_zero,List.take_length]
theorem yz {d:List UInt8} (hd:d.length<18446744073709551616):ph d.length (d.length+1) (pk d 0 0) []=some d:=by
 have:=Gs hd (d.length-0) 0 0 (d.length+1) rfl (by omega) (by omega) (by omega)
 simpa using this
theorem rt {d:List UInt8} (hd:d.length<18446744073709551616):Dj d.length (d.length+1) (pk d 0 0) []=some (d,[]):=by
 have:=Gt hd (d.length-0) 0 0 (d.length+1) rfl (by omega) (by omega) (by omega)
 simpa using this
theorem wF {l t out:List UInt8} {total:Nat} (hl:dX l=some (total,t)) (ho:out.length<18446744073709551616) (hp:cj out=l):
 ph total (total+1) t []=some out∧Dj total (total+1) t []=some (out,[]):=by
 rw[←hp,cj,ja ho] at hl
 obtain⟨rfl,rfl⟩:=Prod.mk.inj (Option.some.inj hl)
 exact⟨yz ho,rt ho⟩
def vp (l t:List UInt8) (total:Nat):Option (List UInt8):=(ph total (total+1) t []).bind fun out=>if cj out=l then some out else none
def vr (l t:List UInt8) (total:Nat):Option (List UInt8):=(Dj total (total+1) t []).bind fun p=>if p.2=[]∧cj p.1=l then some p.1 else none
theorem Hf {l t:List UInt8} {total:Nat} (hl:dX l=some (total,t)) (h1:∀out,ph total (total+1) t []=some out→out.length<18446744073709551616)
 (h2:∀p,Dj total (total+1) t []=some p→p.1.length<18446744073709551616):vp l t total=vr l t total:=by
 have key:∀out,out.length<18446744073709551616→cj out=l→vp l t total=some out∧vr l t total=some out:=fun out ho hp=>by
  obtain⟨e1,e2⟩:=wF hl ho hp
  constructor
  ·unfold vp;rw[e1];exact if_pos hp
  ·unfold vr;rw[e2];exact if_pos ⟨rfl,hp⟩
 cases hv:vp l t total with
 |some out=>
  have hv':=hv
  unfold vp at hv'
  cases hu:ph total (total+1) t [] with
  |none=>rw[hu] at hv';cases hv'
  |some o=>
   rw[hu] at hv'
   have hv':(if cj o=l then some o else none)=some out:=hv'
   split at hv'
   ·rename_i hp
    obtain rfl:=Option.some.inj hv'
    exact(key _ (h1 _ hu) hp).2.symm
   ·cases hv'
 |none=>
  cases hw:vr l t total with
  |none=>rfl
  |some out=>
   have hw':=hw
   unfold vr at hw'
   cases hu:Dj total (total+1) t [] with
   |none=>rw[hu] at hw';cases hw'
   |some p=>
    rw[hu] at hw'
    have hw':(if p.2=[]∧cj p.1=l then some p.1 else none)=some out:=hw'
    split at hw'
    ·rename_i hp
     obtain rfl:=Option.some.inj hw'
     rw[(key _ (h2 _ hu) hp.2).1] at hv
     cases hv
    ·cases hw'
theorem Gu {d:List UInt8} (hd:d.length<18446744073709551616):∀(c i run:Nat),d.length-i=c→run≤i→i≤d.length→(pk d i run).length≤31*(d.length-i+run)+10:=by
 intro c
 induction c using Nat.strongRecOn with
 |ind c ih=>
  intro i run hc hr hid
  by_cases hi:i<d.length
  ·by_cases hn:(cQ d i).1=0
   ·rw[rn hi hn]
    have:=ih (d.length-(i+1)) (by omega) (i+1) (run+1) rfl (by omega) (by omega)
    omega
   ·obtain⟨h4,h1,h2,h3,_,h5⟩:=nE hn
    rw[nF hi hn]
    have:=ih (d.length-(i+(cQ d i).1)) (by omega) (i+(cQ d i).1) 0 rfl (by omega) (by omega)
    have u1:=dO (n:=run) (by omega)
    have u2:=dO (n:=(cQ d i).1-4) (by omega)
    have u3:=dO (n:=(cQ d i).2-1) (by omega)
    have ht:((d.drop (i-run)).take run).length≤run:=by rw[List.length_take];omega
    simp only[List.length_append]
    omega
  ·rw[ro hi]
   split
   ·have u1:=dO (n:=run) (by omega)
    simp only[List.length_append,List.length_drop]
    omega
   ·simp
theorem ru {d:List UInt8} (hd:d.length<18446744073709551616):(cj d).length≤31*d.length+20:=by
 have h1:=Gu hd d.length 0 0 (by omega) (by omega) (by omega)
 have h2:=dO (n:=d.length) hd
 unfold cj
 rw[List.length_append]
 omega
end Go.Rl
namespace Go.Rl
def pos (d q:List UInt8) (n:Nat):List Nat:=(List.range n).filter fun p=>(d.drop p).take 4==q
theorem wG (d q:List UInt8) (n:Nat):pos d q (n+1)=pos d q n++if (d.drop n).take 4=q then[n] else[]:=by
 unfold pos
 rw[List.range_succ,List.filter_append]
 congr 1
 by_cases h:(d.drop n).take 4=q
 ·simp[h]
 ·simp[h]
theorem zB {d q:List UInt8} {n p:Nat}:p∈pos d q n↔p<n∧(d.drop p).take 4=q:=by
 unfold pos
 simp
theorem yA (d q:List UInt8) (n:Nat):(pos d q n).Pairwise (· < ·):=List.Pairwise.filter _ List.pairwise_lt_range
theorem Dk (d q:List UInt8):pos d q 0=[]:=rfl
theorem zC (d q:List UInt8) (n:Nat):(pos d q n).length≤n:=by
 have:=List.length_filter_le (fun p=>(d.drop p).take 4==q) (List.range n)
 unfold pos
 simpa using this
theorem ic (a b:UInt8) (l m:List UInt8):lZ (a::l) (b::m)=if a=b then lZ l m+1 else 0:=rfl
theorem lcp4:∀(l m:List UInt8),4≤l.length→(4≤lZ l m↔m.take 4=l.take 4):=by
 intro l m hl
 match l,hl with
 |a::b::c::e::l,_=>
  match m with
  |[]=>simp[lZ]
  |[a']=>simp only[ic,uD];constructor<;>intro h<;>(first|(split at h<;>omega)|simp at h)
  |[a',b']=>simp only[ic,uD];constructor<;>intro h<;>(first|((repeat' split at h)<;>omega)|simp at h)
  |[a',b',c']=>simp only[ic,uD];constructor<;>intro h<;>(first|((repeat' split at h)<;>omega)|simp at h)
  |a'::b'::c'::e'::m=>
   simp only[ic,List.take_succ_cons,List.take_zero,List.cons.injEq,and_true]
   constructor
   ·intro h
    (repeat' split at h)<;>first|omega|(subst_vars;simp)
   ·rintro⟨rfl,rfl,rfl,rfl⟩
    simp
theorem ml4 {d:List UInt8} {i k:Nat} (hi:i+4≤d.length):4≤ml d i k↔(d.drop (i-k)).take 4=(d.drop i).take 4:=lcp4 _ _ (by rw[List.length_drop];omega)
theorem wK (d:List UInt8) (i j:Nat):rY d i (j+1)=if 4≤ml d i (j+1)∧(rY d i j).1<ml d i (j+1) then(ml d i (j+1),j+1) else rY d i j:=rfl
theorem nG {d:List UInt8} {i a:Nat}:∀b,a≤b→(∀k,a<k→k≤b→ml d i k<4∨ml d i k≤(rY d i a).1)→rY d i b=rY d i a
 |0,h,_=>by rw[show a=0 by omega]
 |b+1,h,hk=>by
  rcases Nat.lt_or_ge b a with h'|h'
  ·rw[show a=b+1 by omega]
  ·have ih:=nG b h' (fun k h1 h2=>hk k h1 (by omega))
   rw[wK,if_neg,ih]
   rintro⟨h1,h2⟩
   rw[ih] at h2
   rcases hk (b+1) (by omega) (Nat.le_refl _) with h3|h3<;>omega
def Dl (d:List UInt8) (i:Nat) (s:Nat×Nat) (p:Nat):Nat×Nat:=if s.1<ml d i (i-p) then(ml d i (i-p),i-p) else s
def oy (i:Nat) (l:List Nat):Nat:=match l.getLast? with|none=>0|some p=>i-p
theorem tc (i p:Nat) (l:List Nat):oy i (l++[p])=i-p:=by simp[oy]
section
variable {d:List UInt8} {i:Nat} {R:List Nat}
theorem wO (hi:i+4≤d.length) (hR:R.Pairwise (fun a b=>b<a)) (hm:∀p,p∈R↔p<i∧(d.drop p).take 4=(d.drop i).take 4):∀(n:Nat) (pre suf:List Nat),pre.length=n→R=pre++suf→
 pre.foldl (Dl d i) (0,0)=rY d i (oy i pre)∧oy i pre≤i∧∀k,oy i pre<k→k≤i→4≤ml d i k→i-k∈suf:=by
 intro n
 induction n with
 |zero=>
  intro pre suf hl hs
  have:pre=[]:=List.eq_nil_of_length_eq_zero hl
  subst this
  refine⟨rfl,Nat.zero_le _,fun k h1 h2 h3=>?_⟩
  have h0:0<k:=h1
  have:=(hm (i-k)).2 ⟨by omega,(ml4 hi).1 h3⟩
  rw[hs] at this
  simpa using this
 |succ n ih=>
  intro pre suf hl hs
  obtain⟨pre',x,rfl⟩:∃pre' x,pre=pre'++[x]:=by
   rcases List.eq_nil_or_concat pre with h|⟨l,a,h⟩
   ·subst h;simp at hl
   ·exact⟨l,a,by rw[h,List.concat_eq_append]⟩
  have hs':R=pre'++(x::suf):=by rw[hs];simp
  obtain⟨h1,h2,h3⟩:=ih pre' (x::suf) (by simp at hl;omega) hs'
  have hx:=(hm x).1 (by rw[hs'];simp)
  have hxk:4≤ml d i (i-x):=(ml4 hi).2 (by rw[show i-(i-x)=x by omega];exact hx.2)
  have hsuf:∀p∈suf,p<x:=by
   rw[hs'] at hR
   have:=(List.pairwise_append.1 hR).2.1
   exact(List.pairwise_cons.1 this).1
  have hlast:oy i pre'<i-x:=by
   unfold oy
   cases hg:pre'.getLast? with
   |none=>simp only[];omega
   |some p=>
    have hp:p∈pre':=List.mem_of_getLast? hg
    rw[hs'] at hR
    have:=(List.pairwise_append.1 hR).2.2 p hp x (by simp)
    have hpi:=(hm p).1 (by rw[hs'];simp[hp])
    simp only[]
    omega
  rw[tc,List.foldl_append,List.foldl_cons,List.foldl_nil,h1]
  refine⟨?_,by omega,fun k hk1 hk2 hk3=>?_⟩
  ·have hskip:rY d i (i-x-1)=rY d i (oy i pre'):=nG _ (by omega) (fun k hk1 hk2=>by
    rcases Nat.lt_or_ge (ml d i k) 4 with h|h
    ·exact .inl h
    ·have:=h3 k hk1 (by omega) h
     rcases List.mem_cons.1 this with e|e
     ·omega
     ·have:=hsuf _ e;omega)
   have hsucc:i-x=(i-x-1)+1:=by omega
   conv=>rhs;rw[hsucc]
   rw[wK,←hsucc,hskip]
   unfold Dl
   by_cases hlt:(rY d i (oy i pre')).1<ml d i (i-x)
   ·rw[if_pos hlt,if_pos ⟨hxk,hlt⟩]
   ·rw[if_neg hlt,if_neg (fun h=>hlt h.2)]
  ·rcases List.mem_cons.1 (h3 k (by omega) hk2 hk3) with e|e
   ·omega
   ·exact e
theorem wQ (hi:i+4≤d.length) (hR:R.Pairwise (fun a b=>b<a)) (hm:∀p,p∈R↔p<i∧(d.drop p).take 4=(d.drop i).take 4) {pre suf:List Nat} (hs:R=pre++suf) (hp:∀p∈pre,i-p≤4096) (hf:∀p∈suf,4096<i-p):
 pre.foldl (Dl d i) (0,0)=cQ d i:=by
 obtain⟨h1,h2,h3⟩:=wO hi hR hm _ pre suf rfl hs
 have hk:oy i pre≤4096:=by
  unfold oy
  cases hg:pre.getLast? with
  |none=>simp
  |some p=>exact hp p (List.mem_of_getLast? hg)
 rw[h1]
 unfold cQ
 refine(nG _ (by omega) (fun k hk1 hk2=>.inl ?_)).symm
 rcases Nat.lt_or_ge (ml d i k) 4 with h|h
 ·exact h
 ·have:=hf _ (h3 k hk1 (by omega) h)
  omega
theorem A7 (hi:i+4≤d.length) (hR:R.Pairwise (fun a b=>b<a)) (hm:∀p,p∈R↔p<i∧(d.drop p).take 4=(d.drop i).take 4) {pre suf:List Nat} {x:Nat} (hs:R=(pre++[x])++suf) (hp:∀p∈pre++[x],i-p≤4096) (hx:i+ml d i (i-x)=d.length):
 (pre++[x]).foldl (Dl d i) (0,0)=cQ d i:=by
 obtain⟨h1,h2,h3⟩:=wO hi hR hm _ (pre++[x]) suf rfl hs
 have hk:oy i (pre++[x])≤4096:=by rw[tc];exact hp x (by simp)
 have hge:d.length-i≤(rY d i (oy i (pre++[x]))).1:=by
  rw[←h1,List.foldl_append,List.foldl_cons,List.foldl_nil]
  unfold Dl
  split
  ·show d.length-i≤ml d i (i-x);omega
  ·rename_i h;omega
 rw[h1]
 unfold cQ
 refine(nG _ (by omega) (fun k hk1 hk2=>.inr ?_)).symm
 have:=FE d i k
 omega
end
theorem A9 {l m:List UInt8} (h:4≤lZ l m):lZ l m=4+lZ (l.drop 4) (m.drop 4):=by
 match l,m with
 |[],m=>simp[lZ] at h
 |[a],[]=>simp[lZ] at h
 |a::l,[]=>simp[lZ] at h
 |a::l,a'::m=>
  rw[ic] at h⊢
  split at h
  ·rename_i e
   rw[if_pos e]
   match l,m with
   |[],m=>simp[lZ] at h
   |b::l,[]=>simp[lZ] at h
   |b::l,b'::m=>
    rw[ic] at h⊢
    split at h
    ·rename_i e
     rw[if_pos e]
     match l,m with
     |[],m=>simp[lZ] at h
     |c::l,[]=>simp[lZ] at h
     |c::l,c'::m=>
      rw[ic] at h⊢
      split at h
      ·rename_i e
       rw[if_pos e]
       match l,m with
       |[],m=>simp[lZ] at h
       |f::l,[]=>simp[lZ] at h
       |f::l,f'::m=>
        rw[ic] at h⊢
        split at h
        ·rename_i e
         rw[if_pos e]
         simp only[List.drop_succ_cons,List.drop_zero]
         omega
        ·omega
      ·omega
    ·omega
  ·omega
theorem Dm {d:List UInt8} {i p:Nat} (hi:i+4≤d.length) (hp:p<i) (h:(d.drop p).take 4=(d.drop i).take 4):ml d i (i-p)=4+lZ (d.drop (i+4)) (d.drop (p+4)):=by
 have h4:4≤ml d i (i-p):=(ml4 hi).2 (by rw[show i-(i-p)=p by omega];exact h)
 unfold ml at h4⊢
 rw[A9 h4,List.drop_drop,List.drop_drop,show i-(i-p)=p by omega]
end Go.Rl
namespace Go.Rl
open Go.RowKit Go.Proofs
open Go.Maps (Keyed)
def K4 (q:List UInt8):Value:=.agg (q.map U8).toArray
theorem Hg (x:UInt8):(Lit.int .u8 (x.toNat:Int)).wf=true:=by
 have:=x.toNat_lt
 simp[Lit.wf,IntKind.min,IntKind.max,IntKind.bits,IntKind.signed]
 omega
theorem Dn:Keyed Tryz.prog 260:=Keyed.of_law (deep_law (m:=2) (by omega) (by kernel_rfl) (by kernel_rfl) (by rw[H6]))
theorem Do:Tryz.prog.keyType 260=true:=by kernel_rfl
theorem wR:(Tryz.prog.info? 260).map (·.size)=some 4:=by kernel_rfl
theorem wT:Tryz.prog.cellsOf 260=4:=by kernel_rfl
theorem Dp:Tryz.prog.cellsOf 5=1:=by kernel_rfl
theorem yB {q:List UInt8} (hq:q.length=4):∃l,keyOf Tryz.prog 260 (K4 q)=some l:=by
 match q,hq with
 |[a,b,c,e],_=>
  have hl:∀(n:Nat) (x:UInt8),Tryz.prog.keyLits (n+1) 5 [U8 x]=some [.int .u8 (x.toNat:Int)]:=fun n x=>by
   simp[Program.keyLits,Tryz.underlying5,U8,Hg x]
  have hf:(K4 [a,b,c,e]).formed Tryz.prog 260=true:=by
   simp[K4,Value.formed,Tryz.underlying260,wT]
  obtain⟨S,hS⟩:∃S,Tryz.prog.types.size=S+1:=⟨Tryz.prog.types.size-1,by kernel_rfl⟩
  have hk:Tryz.prog.keyLits (Tryz.prog.types.size+1) 260 (K4 [a,b,c,e]).cells.toList=some [.int .u8 (a.toNat:Int),.int .u8 (b.toNat:Int),.int .u8 (c.toNat:Int),.int .u8 (e.toNat:Int)]:=by
   rw[hS]
   unfold Program.keyLits
   rw[H6]
   simp[K4,Value.cells,wT,Dp,hl,List.range_succ,List.mapM_cons]
  refine⟨.string (keyBytes [.int .u8 (a.toNat:Int),.int .u8 (b.toNat:Int),.int .u8 (c.toNat:Int),.int .u8 (e.toNat:Int)]),?_⟩
  unfold keyOf
  rw[H6]
  simp only[Do,hf,hk]
  rfl
theorem uF {q r:List UInt8} (h:K4 q=K4 r):q=r:=by
 have h2:q.map U8=r.map U8:=by
  have:=congrArg (fun v=>match v with|.agg a=>a.toList|_=>[]) h
  simpa [K4] using this
 have inj:∀(q r:List UInt8),q.map U8=r.map U8→q=r:=by
  intro q
  induction q with
  |nil=>intro r h;cases r with
   |nil=>rfl
   |cons b r=>simp at h
  |cons a q ih=>intro r h;cases r with
   |nil=>simp at h
   |cons b r=>
    simp only[List.map_cons,List.cons.injEq] at h
    have e:a=b:=by
     have h1:=h.1
     simp only[U8,Value.int.injEq,true_and] at h1
     exact UInt8.toNat_inj.1 (by omega)
    rw[e,ih r h.2]
 exact inj q r h2
def iH (d q:List UInt8) (n:Nat):List Int:=(pos d q n).map Int.ofNat
theorem td (d q:List UInt8) (n:Nat):iH d q (n+1)=iH d q n++if (d.drop n).take 4=q then[(n:Int)] else[]:=by
 unfold iH
 rw[wG,List.map_append]
 congr 1
 split<;>rfl
structure FF (base:Nat) (d:List UInt8) (n clock:Nat) (X:Nat→Prop) (w:World) (e:MapEntry) (q:List UInt8):Prop where
 len:q.length=4
 key:e.key=K4 q
 row:dG base (iH d q n) e.val w
 born:e.born<clock
 own:∀k,e.val.ownBlock=some k→X k
structure gy (base:Nat) (d:List UInt8) (m n:Nat) (X:Nat→Prop) (w:World) (es:List MapEntry) (clock:Nat):Prop where
 at_:w.heap[m]? =some (.map es.toArray clock)
 ent:∀e∈es,∃q,FF base d n clock X w e q
 apart:∀(i j:Nat) (e f:MapEntry),es[i]? =some e→es[j]? =some f→i≠j→e.key≠f.key∧e.born≠f.born∧(e.val.ownBlock=none∨e.val.ownBlock≠f.val.ownBlock)
 full:∀q,pos d q n≠[]→∃e∈es,e.key=K4 q
def f5 (base:Nat) (d:List UInt8) (m n:Nat) (X:Nat→Prop) (w:World):Prop:=∃es clock,gy base d m n X w es clock
section
variable {base:Nat} {d:List UInt8} {m n clock:Nat} {X:Nat→Prop} {w w':World} {es:List MapEntry}
theorem gy.keys (h:gy base d m n X w es clock):xF Tryz.prog 260 es:=fun e he=>by
 obtain⟨q,hq⟩:=h.ent e he
 rw[hq.key]
 exact yB hq.len
theorem gy.lt (h:gy base d m n X w es clock):m<w.heap.size:=(Array.getElem?_eq_some_iff.1 h.at_).1
theorem dG.cells {l:List Int} {v:Value} (h:dG base l v w) {k:Nat} (hk:v.ownBlock=some k):∃cs f,w.heap[k]? =some (.cells cs 3 f):=by
 obtain⟨n,h1,h2⟩:=h
 rcases h2 with⟨rfl,_⟩|⟨g,cap,cur,rfl,h3,h4,h5⟩
 ·cases hk
 ·obtain rfl:g=k:=Option.some.inj hk
  exact⟨_,_,h4⟩
theorem gy.ne (h:gy base d m n X w es clock) {e:MapEntry} (he:e∈es):e.val.ownBlock≠some m:=fun hk=>by
 obtain⟨q,hq⟩:=h.ent e he
 obtain⟨cs,f,hc⟩:=hq.row.cells hk
 rw[h.at_] at hc
 cases hc
theorem gy.same (h:gy base d m n X w es clock) (hm:w'.heap[m]? =w.heap[m]?) (hX:∀k,X k→k<w.heap.size→w'.heap[k]? =w.heap[k]?):gy base d m n X w' es clock:=
 ⟨hm.trans h.at_,fun e he=>by
  obtain⟨q,hq⟩:=h.ent e he
  exact⟨q,hq.len,hq.key,hq.row.same fun k hk=>hX k (hq.own k hk) (hq.row.lt k hk).2,hq.born,hq.own⟩,h.apart,h.full⟩
theorem f5.same (h:f5 base d m n X w) (hm:w'.heap[m]? =w.heap[m]?) (hX:∀k,X k→k<w.heap.size→w'.heap[k]? =w.heap[k]?):f5 base d m n X w':=by
 obtain⟨es,clock,h⟩:=h
 exact⟨es,clock,h.same hm hX⟩
theorem f5.lt (h:f5 base d m n X w):m<w.heap.size:=by
 obtain⟨es,clock,h⟩:=h
 exact h.lt
theorem f5.ext (h:f5 base d m n X w) (hx:aE w w'):f5 base d m n X w':=h.same (hx.heap h.lt) fun _ _ hk=>hx.heap hk
theorem te:(Tryz.prog.info? 32).map (·.zero)=some (some (.slice none 0 0)):=by kernel_rfl
theorem f5.look (h:f5 base d m n X w) {q:List UInt8} (hq:q.length=4):∃v,(Instr.lookup 233 (.map (some m)) (K4 q) false).run Tryz.prog w=.ok v w∧dG base (iH d q n) v w∧∀k,v.ownBlock=some k→X k:=by
 obtain⟨es,clock,h⟩:=h
 obtain⟨l,hl⟩:=yB hq
 rcases BY (P:=Tryz.prog) Dn Ie te h.at_ h.keys hl with⟨h1,_,h2⟩|⟨j,e,h1,_,h2,h3⟩
 ·have hp:pos d q n=[]:=Classical.byContradiction fun hn=>by
   obtain⟨e,he,hk⟩:=h.full q hn
   exact h2 e he hk
  exact⟨_,h1,by unfold iH;rw[hp];exact dG.nil _ _,fun k hk=>by cases hk⟩
 ·obtain⟨r,hr⟩:=h.ent e (List.mem_of_getElem? h2)
  have e1:r=q:=uF (hr.key.symm.trans h3)
  subst e1
  exact⟨_,h1,hr.row,hr.own⟩
theorem gy.put (h:gy base d m n X w es clock) {w2 w3:World} {j:Nat} {e0:MapEntry} {q:List UInt8} {v:Value} (hj:es[j]? =some e0) (hk:e0.key=K4 q) (hqd:(d.drop n).take 4=q) (hg:w.grownBy w2 e0.val.ownBlock) (ho:v.ownBlock=e0.val.ownBlock∨∀k,v.ownBlock=some k→w.heap.size≤k)
 (hv:dG base (iH d q n++[(n:Int)]) v w2) (hg3:w2.grownBy w3 (some m)) (h3:w3.heap[m]? =some (.map (es.set j {e0 with val:=v}).toArray clock)):gy base d m (n+1) (fun k=>X k∨v.ownBlock=some k) w3 (es.set j {e0 with val:=v}) clock:=by
 have hjl:j<es.length:=by
  rcases Nat.lt_or_ge j es.length with h|h
  ·exact h
  ·rw[List.getElem?_eq_none h] at hj;cases hj
 have hm0:=List.mem_of_getElem? hj
 obtain⟨q0,hq0⟩:=h.ent e0 hm0
 have eq0:q0=q:=uF (hq0.key.symm.trans hk)
 subst eq0
 have hvm:v.ownBlock≠some m:=fun hb=>by
  obtain⟨cs,f,hc⟩:=hv.cells hb
  rcases ho with ho|ho
  ·exact h.ne hm0 (ho▸hb)
  ·have:=ho m hb
   have:=h.lt
   omega
 have other:∀(i:Nat) (e:MapEntry),es[i]? =some e→i≠j→∃r,FF base d (n+1) clock (fun k=>X k∨v.ownBlock=some k) w3 e r:=fun i e hi hij=>by
  have hme:=List.mem_of_getElem? hi
  obtain⟨r,hr⟩:=h.ent e hme
  have hap:=h.apart i j e e0 hi hj hij
  have hne:¬(d.drop n).take 4=r:=fun hh=>hap.1 (by rw[hr.key,hk,←hqd,hh])
  have e1:iH d r (n+1)=iH d r n:=by rw[td,if_neg hne,List.append_nil]
  refine⟨r,hr.len,hr.key,?_,hr.born,fun k hk=>.inl (hr.own k hk)⟩
  rw[e1]
  exact(hr.row.kept hg hap.2.2).kept hg3 (.inr (h.ne hme))
 have getset:∀(i:Nat) (e:MapEntry),(es.set j {e0 with val:=v})[i]? =some e→(i=j∧e={e0 with val:=v})∨(i≠j∧es[i]? =some e):=fun i e hi=>by
  by_cases hij:i=j
  ·subst hij
   rw[List.getElem?_set_self (by omega)] at hi
   exact .inl ⟨rfl,(Option.some.inj hi).symm⟩
  ·rw[List.getElem?_set_ne (Ne.symm hij)] at hi
   exact .inr ⟨hij,hi⟩
 refine⟨h3,fun e he=>?_,fun i i' e e' hi hi' hne=>?_,fun r hr=>?_⟩
 ·obtain⟨i,hi⟩:=List.mem_iff_getElem?.1 he
  rcases getset i e hi with⟨rfl,rfl⟩|⟨hij,hi⟩
  ·refine⟨q0,hq0.len,hq0.key,?_,hq0.born,fun k hk=>.inr hk⟩
   rw[td,if_pos hqd]
   exact hv.kept hg3 (.inr hvm)
  ·exact other i e hi hij
 ·have lt_of:∀(i:Nat) (e:MapEntry),es[i]? =some e→∀k,e.val.ownBlock=some k→k<w.heap.size:=fun i e hi k hk=>by
   obtain⟨r,hr⟩:=h.ent e (List.mem_of_getElem? hi)
   exact(hr.row.lt k hk).2
  rcases getset i e hi with⟨rfl,rfl⟩|⟨hij,hi0⟩<;>rcases getset i' e' hi' with⟨rfl,rfl⟩|⟨hij',hi0'⟩
  ·exact absurd rfl hne
  ·have hap:=h.apart i i' e0 e' hj hi0' hne
   refine⟨hap.1,hap.2.1,?_⟩
   rcases ho with ho|ho
   ·show v.ownBlock=none∨v.ownBlock≠_
    rw[ho];exact hap.2.2
   ·cases hb:v.ownBlock with
    |none=>exact .inl rfl
    |some k=>exact .inr fun hc=>by have:=lt_of i' e' hi0' k hc.symm;have:=ho k hb;omega
  ·have hap:=h.apart i i' e e0 hi0 hj hne
   refine⟨hap.1,hap.2.1,?_⟩
   rcases ho with ho|ho
   ·show e.val.ownBlock=none∨e.val.ownBlock≠v.ownBlock
    rw[ho];exact hap.2.2
   ·cases hb:e.val.ownBlock with
    |none=>exact .inl rfl
    |some k=>exact .inr fun hc=>by have:=lt_of i e hi0 k hb;have:=ho k hc.symm;omega
  ·exact h.apart i i' e e' hi0 hi0' hne
 ·have hsome:∃e∈es,e.key=K4 r:=by
   by_cases hr0:pos d r n=[]
   ·have:(d.drop n).take 4=r:=Classical.byContradiction fun hh=>hr (by rw[wG,hr0,if_neg hh];rfl)
    exact⟨e0,hm0,by rw[hk,←hqd,this]⟩
   ·exact h.full r hr0
  obtain⟨e,he,hek⟩:=hsome
  obtain⟨i,hi⟩:=List.mem_iff_getElem?.1 he
  by_cases hij:i=j
  ·subst hij
   rw[hj] at hi
   obtain rfl:=Option.some.inj hi
   exact⟨{e0 with val:=v},List.mem_iff_getElem?.2 ⟨i,List.getElem?_set_self (by omega)⟩,hek⟩
  ·exact⟨e,List.mem_iff_getElem?.2 ⟨i,by rw[List.getElem?_set_ne (Ne.symm hij)];exact hi⟩,hek⟩
theorem gy.add (h:gy base d m n X w es clock) {q:List UInt8} (hq:q.length=4) (hno:∀e∈es,e.key≠K4 q) (hg:w.grownBy w' (some m)) (h':w'.heap[m]? =some (.map (es++[({key:=K4 q,val:=.slice none 0 0,born:=clock}:MapEntry)]).toArray (clock+1))):
 gy base d m n X w' (es++[({key:=K4 q,val:=.slice none 0 0,born:=clock}:MapEntry)]) (clock+1):=by
 have hp:pos d q n=[]:=Classical.byContradiction fun hn=>by
  obtain⟨e,he,hk⟩:=h.full q hn
  exact hno e he hk
 have hget:∀(i:Nat) (e:MapEntry),(es++[({key:=K4 q,val:=.slice none 0 0,born:=clock}:MapEntry)])[i]? =some e→es[i]? =some e∨(i=es.length∧e={key:=K4 q,val:=.slice none 0 0,born:=clock}):=fun i e hi=>by
  rcases Nat.lt_or_ge i es.length with hl|hl
  ·rw[List.getElem?_append_left hl] at hi;exact .inl hi
  ·rw[List.getElem?_append_right hl] at hi
   rcases Nat.eq_zero_or_pos (i-es.length) with h0|h0
   ·rw[h0] at hi
    exact .inr ⟨by omega,(Option.some.inj hi).symm⟩
   ·rw[List.getElem?_eq_none (by simp;omega)] at hi;cases hi
 refine⟨h',fun e he=>?_,fun i j e f hi hj hij=>?_,fun r hr=>?_⟩
 ·rcases List.mem_append.1 he with he|he
  ·obtain⟨r,hr⟩:=h.ent e he
   exact⟨r,hr.len,hr.key,hr.row.kept hg (.inr (h.ne he)),Nat.lt_succ_of_lt hr.born,hr.own⟩
  ·obtain rfl:=List.mem_singleton.1 he
   exact⟨q,hq,rfl,by unfold iH;rw[hp];exact dG.nil _ _,Nat.lt_succ_self _,fun k hk=>by cases hk⟩
 ·rcases hget i e hi with hi|⟨rfl,rfl⟩<;>rcases hget j f hj with hj|⟨rfl,rfl⟩
  ·exact h.apart i j e f hi hj hij
  ·have hm:=List.mem_of_getElem? hi
   obtain⟨r,hr⟩:=h.ent e hm
   have:=hr.born
   refine⟨hno e hm,by simp only[];omega,?_⟩
   cases hb:e.val.ownBlock with
   |none=>exact .inl rfl
   |some k=>exact .inr (by simp[Value.ownBlock])
  ·have hm:=List.mem_of_getElem? hj
   obtain⟨r,hr⟩:=h.ent f hm
   have:=hr.born
   exact⟨(hno f hm).symm,by simp only[];omega,.inl rfl⟩
  ·exact absurd rfl hij
 ·obtain⟨e,he,hk⟩:=h.full r hr
  exact⟨e,List.mem_append_left _ he,hk⟩
theorem f5.step (h:f5 base d m n X w) (hn:n+4≤d.length):∃v born w1,(Instr.mapEntry 233 (.map (some m)) (K4 ((d.drop n).take 4))).run Tryz.prog w=.ok (.tuple #[v,I (born:Nat)]) w1∧w.grownBy w1 (some m)∧dG base (iH d ((d.drop n).take 4) n) v w1∧(∀k,v.ownBlock=some k→X k)∧v.ownBlock≠some m∧
 ∀v' w2,fh w1 w2 v v'→dG base (iH d ((d.drop n).take 4) n++[(n:Int)]) v' w2→∃w3,(Instr.entryStore 233 (.map (some m)) (I (born:Nat)) v').run Tryz.prog w2=.ok () w3∧w2.grownBy w3 (some m)∧f5 base d m (n+1) (fun k=>X k∨v'.ownBlock=some k) w3:=by
 obtain⟨es,clock,h⟩:=h
 have hq:((d.drop n).take 4).length=4:=by rw[List.length_take,List.length_drop];omega
 obtain⟨l,hl⟩:=yB hq
 have fin:∀(es:List MapEntry) (clock:Nat) (w1:World) (j:Nat) (e:MapEntry),gy base d m n X w1 es clock→es[j]? =some e→e.key=K4 ((d.drop n).take 4)→∀v' w2,fh w1 w2 e.val v'→dG base (iH d ((d.drop n).take 4) n++[(n:Int)]) v' w2→
  ∃w3,(Instr.entryStore 233 (.map (some m)) (I (e.born:Nat)) v').run Tryz.prog w2=.ok () w3∧w2.grownBy w3 (some m)∧f5 base d m (n+1) (fun k=>X k∨v'.ownBlock=some k) w3:=by
  intro es clock w1 j e h1 hj hk v' w2 hG hv
  have hm2:w2.heap[m]? =some (.map es.toArray clock):=(hG.grown.block m h1.lt (fun e=>h1.ne (List.mem_of_getElem? hj) e.symm)).trans h1.at_
  obtain⟨w3,r3,g3,h3⟩:=tS (P:=Tryz.prog) (t:=233) (v:=v') hm2 hj (fun i f hi hb=>Classical.byContradiction fun hij=>(h1.apart i j f e hi hj hij).2.1 hb)
  exact⟨w3,r3,g3,_,_,h1.put hj hk rfl hG.grown hG.own hv g3 h3⟩
 obtain⟨w1,g1,⟨j,e,hj,hk,hr,h1⟩|⟨hno,hr,h1⟩⟩:=xG (P:=Tryz.prog) Dn Ie te h.at_ h.keys hl
 ·have hes:gy base d m n X w1 es clock:=⟨h1,fun e he=>by
   obtain⟨r,hr⟩:=h.ent e he
   exact⟨r,hr.len,hr.key,hr.row.kept g1 (.inr (h.ne he)),hr.born,hr.own⟩,h.apart,h.full⟩
  obtain⟨r,hr'⟩:=hes.ent e (List.mem_of_getElem? hj)
  have e1:r=(d.drop n).take 4:=uF (hr'.key.symm.trans hk)
  subst e1
  exact⟨e.val,e.born,w1,hr,g1,hr'.row,hr'.own,hes.ne (List.mem_of_getElem? hj),fin es clock w1 j e hes hj hk⟩
 ·have hes:=h.add hq hno g1 h1
  have hj:(es++[({key:=K4 ((d.drop n).take 4),val:=.slice none 0 0,born:=clock}:MapEntry)])[es.length]? =some {key:=K4 ((d.drop n).take 4),val:=.slice none 0 0,born:=clock}:=by simp
  obtain⟨r,hr'⟩:=hes.ent _ (List.mem_of_getElem? hj)
  have e1:r=(d.drop n).take 4:=uF (hr'.key.symm.trans rfl)
  subst e1
  exact⟨.slice none 0 0,clock,w1,hr,g1,hr'.row,hr'.own,by simp[Value.ownBlock],fin _ _ w1 es.length _ hes hj rfl⟩
end
end Go.Rl
namespace Go.Rl
open Go.RowKit Go.Proofs
end Go.Rl
namespace Go.Rl
open Go.RowKit Go.Proofs
theorem n64 {n:Nat} (h:n<18446744073709551616):(UInt64.ofNat n).toNat=n:=by rw[UInt64.toNat_ofNat'];omega
end Go.Rl
namespace Go.Rl
open Go.RowKit Go.Proofs
theorem Dq:aw Tryz.prog 43:=⟨_,Tryz.func43,by kernel_rfl,rfl⟩
theorem Dr {w:World} {l m:List UInt8} {v u:Value} (hv:bQ l v w) (hu:bQ m u w):
 Calls Tryz.prog 43 #[v,u] w (bL fun r w'=>aE w w'∧r=B (decide (l=m))):=by
 refine enter (vs:=[v,u]) Tryz.func43 Ig Ig Ig ?_
 have hll:=hv.len
 refine af (aa (ac Ig Ig (ag (ab (af (af (aa (ae Ig Ig (aO Ig Ig (cc hv) (ae Ig Ig (aO Ig Ig (cc hu) (ai Ig Ig Ig (dA) ?_))))))))))))
 refine ag (ab ?_)
 refine bi Ig (fun h10=>?_) (fun h10=>?_)
 ·have hne:l≠m:=fun h=>h10 (by rw[h])
  refine af (aa (ac Ig Ig (ag (ab (ay (aB (aD Ig Ig ?_)))))))
  exact⟨_,rfl,aE.refl _,congrArg B (decide_eq_false hne).symm⟩
 ·have hlen:l.length=m.length:=by omega
  refine ax (ab (af (af (aa (ae Ig Ig (aO Ig Ig (cc hv) (ae Ig Ig (ag (ab (au ?_))))))))))
  refine ci (α:=Nat) (fun x=>[(0,v),(1,u),(12,I (l.length:Int)),(13,I (x:Int))]) (fun x w'=>aE w w'∧x≤l.length∧l.take x=m.take x) (fun x=>l.length-x) (0) ⟨rfl,rfl,rfl,rfl,trivial⟩ ⟨aE.refl _,by omega,rfl⟩ ?_
  rintro i w4 ⟨e4,hi,ht⟩
  refine af (aa (ai Ig Ig Ig (bb) (ag (ab (af ?_)))))
  refine bi Ig (fun h14=>?_) (fun h14=>?_)
  ·refine ax (ab (af (au (af (aa (ae Ig Ig (ac Ig Ig (ag (ab (af (bk 8 [0,1,12,13,19,23] (by kernel_rfl) (by kernel_rfl) ?_)))))))))))
   refine an Ig Ig (an Ig Ig ?_)
   obtain⟨a18,p18,q18⟩:=iz (hv.ext e4) (i:=i) (by omega) .i64
   refine ar Ig Ig Ig (fun w _=>p18 w) (av Ig Ig (fun w hw=>aj HH Ig (hw.cell_some q18)) (an Ig Ig (an Ig Ig ?_)))
   obtain⟨a22,p22,q22⟩:=iz (hu.ext e4) (i:=i) (by omega) .i64
   refine ar Ig Ig Ig (fun w _=>p22 w) (av Ig Ig (fun w hw=>aj HH Ig (hw.cell_some q22)) (bn ?_))
   intro wg6 xg6
   rintro _ hq0
   obtain rfl:=Eq.symm hq0
   rintro _ hq1
   obtain rfl:=Eq.symm hq1
   rintro _ rfl
   rintro _ rfl
   rintro _ rfl
   rintro _ rfl
   refine ai Ig Ig Ig (BJ) (ag (ab ?_))
   refine bi Ig (fun h24=>?_) (fun h24=>?_)
   ·have hne:l≠m:=fun h=>h24 (by subst h;rfl)
    refine af (aa (ac Ig Ig (ag (ab (ay (bh (aB (aB (bh (aB (aD Ig Ig ?_)))))))))))
    exact⟨_,rfl,(e4.trans xg6),congrArg B (decide_eq_false hne).symm⟩
   ·have he:l[i]'(by omega)=m[i]'(by omega):=Classical.byContradiction fun h=>h24 h
    refine ax (aM (ab (aa (ai (r:=I ((i+1:Nat):Int)) Ig Ig Ig (by have e:((i+1:Nat):Int)=(i:Int)+1:=(by omega);rw[e];exact aK (by omega) (by omega)) ?_))))
    refine ae Ig Ig (ag ?_)
    refine bP (i+1) ⟨rfl,rfl,rfl,rfl,trivial⟩ ⟨(e4.trans xg6),by omega,by rw[List.take_succ_eq_append_getElem (by omega),List.take_succ_eq_append_getElem (by omega),ht,he]⟩ (by omega)
  ·refine ba (aC (aC (aY (ab (af (aa (ac Ig Ig (ag (ab (ay (aD Ig Ig ?_)))))))))))
   exact⟨_,rfl,e4,by
    rw[List.take_of_length_le (by omega),List.take_of_length_le (by omega)] at ht
    rw[decide_eq_true ht];rfl⟩
end Go.Rl
namespace Go.Rl
open Go.RowKit Go.Proofs
section
variable {w:World} {g:Nat} {st:Option (List UInt8)}
theorem Gv (hr:aP g st w):Calls Tryz.prog 90 #[.pointer (some ⟨g,0,none⟩)] w (bL fun r w'=>w=w'∧r=I ((st.getD []).length:Nat)):=(AG hr).mono fun _ _ ⟨v,h,h1,h2⟩=>⟨v,h,h2.symm,h1⟩
end
end Go.Rl
namespace Go.Rl
open Go.RowKit Go.Proofs
theorem f6:aw Tryz.prog 152:=⟨_,Tryz.func152,by kernel_rfl,rfl⟩
theorem uG {l t':List UInt8} {n:Nat} (h:dX (l.take 10)=some (n,t')):dX l=some (n,l.drop (uv n).length)∧(uv n).length+t'.length=min l.length 10:=by
 obtain⟨h1,h2⟩:=fH h
 have hlen:(uv n).length+t'.length=min l.length 10:=by
  have:=congrArg List.length h1
  rw[List.length_take,List.length_append] at this
  omega
 have e:l=uv n++(t'++l.drop 10):=by
  rw[←List.append_assoc,←h1,List.take_append_drop]
 refine⟨?_,hlen⟩
 have hd:l.drop (uv n).length=t'++l.drop 10:=by
  conv=>lhs;rw[e]
  rw[List.drop_left' rfl]
 rw[hd]
 conv=>lhs;rw[e]
 exact ja h2 _
theorem uH {l:List UInt8} (h:dX (l.take 10)=none):dX l=none:=by
 cases hr:dX l with
 |none=>rfl
 |some p=>
  obtain⟨n,t⟩:=p
  obtain⟨h1,h2⟩:=fH hr
  have hl:=dO (n:=n) h2
  have e:l.take 10=uv n++t.take (10-(uv n).length):=by
   rw[h1,List.take_append]
   congr 1
   exact List.take_of_length_le (by omega)
  rw[e,ja h2] at h
  cases h
theorem zD {P:Program} {w:World} {ts:Array TypeId} {ty:TypeId} {n:Nat}:(Builtin.min_ ts ty #[I (n:Int),I 10]).run P w=.ok (I ((min n 10:Nat):Int)) w:=by
 have e:((min n 10:Nat):Int)=if (10:Int)<(n:Int) then 10 else(n:Int):=by split<;>omega
 rw[e];rfl
theorem Gw {P:Program} {w:World} {t:TypeId} {x y:Operand} {a b c:Nat} (h:c+b=a) (ha:a≤1099511627776):(bin .sub t x y (I (a:Int)) (I (b:Int))).run P w=.ok (I (c:Int)) w:=by
 have e:(c:Int)=(a:Int)-(b:Int):=by omega
 rw[e]
 exact aV (by omega) (by omega)
def Ds (l:List UInt8) (r:Value) (w':World):Prop:=match dX l with
 |some (n,t)=>∃v,r=.tuple #[bo (UInt64.ofNat n),v,B true]∧bQ t v w'
 |none=>r=.tuple #[bo 0,.slice none 0 0,B false]
theorem tf {w w0:World} {l:List UInt8} {v:Value} (h0:bQ l v w0) (hv:bQ l v w) (hl:l.length≤1099511627776):
 Calls Tryz.prog 152 #[v] w (bL fun r w'=>aE w w'∧Ds l r w0):=by
 refine enter (vs:=[v]) Tryz.func152 Ig Ig Ig ?_
 refine af (aa (ac Ig Ig (ac Ig Ig (ac Ig Ig (ag (ab (af (aa (ae Ig Ig (ae Ig Ig (aO Ig Ig (cc hv) ?_)))))))))))
 refine GV (vs:=[I (l.length:Int),I 10]) Ig Ig zD ?_
 obtain⟨v12,p12,b12⟩:=jI hv (hi:=min l.length 10) (by omega) .i64
 refine db Ig Ig Ig Ig Ig (p12 _) ?_
 have b12:bQ (l.take 10) v12 w:=by
  have e:l.take (min l.length 10)=l.take 10:=by rw[Nat.min_comm,←List.take_take,List.take_length]
  rw[e] at b12;exact b12
 refine ak vK Ig Ig ((vN b12 (by rw[List.length_take];omega))) ?_
 rintro v13 w13 ⟨x13,g,lg,rfl,rr⟩
 refine ac Ig Ig (ag (ab (af ?_)))
 rcases hU:dX (l.take 10) with _|⟨n,t⟩
 ·refine aa (ae Ig Ig (ak fX Ig Ig ((Fz (st:=some (l.take 10)) rr hU)) ?_))
  rintro v16 w16 ⟨g16,rfl,r1⟩
  have x16:=(x13).of_new g16 lg
  refine ae Ig Ig (al Ig Ig (bw) (al Ig Ig (bz) (ac Ig Ig (ac Ig Ig (ag (ab (af (af (aa (ae Ig Ig (ai Ig Ig Ig (dW (by decide) dA) ?_)))))))))))
  refine ag (ab (ce Ig (af (aa (ac Ig Ig (ac Ig Ig (ac Ig Ig (ag (ab (ay (aB (jX Ig Ig Ig Ig ?_))))))))))))
  exact⟨_,rfl,x16,by unfold Ds;rw[uH hU];rfl⟩
 ·obtain⟨hs,hlen⟩:=uG hU
  refine aa (ae Ig Ig (ak fX Ig Ig ((FA (st:=some (l.take 10)) rr hU)) ?_))
  rintro v16 w16 ⟨g16,rfl,r1⟩
  have x16:=(x13).of_new g16 lg
  refine ae Ig Ig (al Ig Ig (bw) (al Ig Ig (bz) (ac Ig Ig (ac Ig Ig (ag (ab (af (af (aa (ae Ig Ig (ai Ig Ig Ig (eU (by decide) dA) ?_)))))))))))
  refine ag (ab (eS Ig (ax (ab (af (bk 11 [2,3] (by kernel_rfl) (by kernel_rfl) ?_))))))
  refine an Ig Ig (an Ig Ig (an Ig Ig (kW (vs:=[v]) Ig Ig (fun w hw=>cc ((hv.ext x16).ext hw)) (GX (vs:=[I (l.length:Int),I 10]) Ig Ig (fun _ _=>zD) ?_))))
  refine an rfl rfl (bM (S:=Is (I ((t.length:Nat):Int))) AF (be.is _) rfl (fun w hw=>by rintro _ rfl;exact bL.mono (Gv (r1.ext hw)) fun v w' h=>⟨h.1▸aE.refl _,h.2⟩) ?_)
  refine aL Ig Ig Ig (fun w _=>Gw hlen (by omega)) ?_
  obtain⟨v29,p29,b29⟩:=i0 h0 (lo:=(uv n).length) (by omega) .i64
  refine j0 Ig Ig Ig Ig (fun w hw=>p29 _) (du Ig Ig (du Ig Ig (bn ?_)))
  intro wg5 xg5
  rintro _ rfl
  rintro _ rfl
  refine ac Ig Ig (ag (ab (ay (jX Ig Ig Ig Ig ?_))))
  exact⟨_,rfl,(x16.trans xg5),by unfold Ds;rw[hs];exact⟨_,rfl,b29⟩⟩
end Go.Rl
namespace Go.Rl
open Go.RowKit Go.Proofs
theorem th:aw Tryz.prog 153:=⟨_,Tryz.func153,by kernel_rfl,rfl⟩
def ExpR (o:Option (List UInt8)) (r:Value) (w':World):Prop:=match o with
 |some out=>∃v,r=.tuple #[v,B true]∧bQ out v w'
 |none=>∃v,r=.tuple #[v,B false]
section
variable {w w0:World} {l:List UInt8} {v:Value}
theorem lS (hv:bQ l v w) (hl:l.length≤1099511627776) (h:dX l=none):Calls Tryz.prog 152 #[v] w (bL fun r w'=>aE w w'∧r=.tuple #[bo 0,.slice none 0 0,B false]):=
 (tf hv hv hl).mono fun _ _ ⟨r,he,h1,h2⟩=>⟨r,he,h1,by unfold Ds at h2;rw[h] at h2;exact h2⟩
theorem lT {n:Nat} {t:List UInt8} (h0:bQ l v w0) (hv:bQ l v w) (hl:l.length≤1099511627776) (h:dX l=some (n,t)):Calls Tryz.prog 152 #[v] w (bL fun r w'=>aE w w'∧∃u,r=.tuple #[bo (UInt64.ofNat n),u,B true]∧bQ t u w0):=
 (tf h0 hv hl).mono fun _ _ ⟨r,he,h1,h2⟩=>⟨r,he,h1,by unfold Ds at h2;rw[h] at h2;exact h2⟩
end
theorem wU {n m:Nat} (hn:n<18446744073709551616) (hm:m<18446744073709551616):UInt64.ofNat n<UInt64.ofNat m↔n<m:=by
 rw[UInt64.lt_iff_toNat_lt,UInt64.toNat_ofNat',UInt64.toNat_ofNat']
 omega
theorem tj {n m:Nat} (hn:n<18446744073709551616) (hm:m<18446744073709551616):UInt64.ofNat n≥UInt64.ofNat m↔m≤n:=by
 show UInt64.ofNat m≤UInt64.ofNat n↔m≤n
 rw[UInt64.le_iff_toNat_le,UInt64.toNat_ofNat',UInt64.toNat_ofNat']
 omega
theorem Du {n m:Nat} (hn:n<18446744073709551616) (h:m≤n):UInt64.ofNat n-UInt64.ofNat m=UInt64.ofNat (n-m):=by
 apply UInt64.toNat_inj.1
 rw[UInt64.toNat_sub_of_le _ _ (UInt64.le_iff_toNat_le.2 (by rw[UInt64.toNat_ofNat',UInt64.toNat_ofNat'];omega)),UInt64.toNat_ofNat',UInt64.toNat_ofNat',UInt64.toNat_ofNat']
 omega
theorem Hh {total f:Nat} {l O:List UInt8} (h:O.length<total) (hN:dX l=none):ph total (f+1) l O=none:=by
 unfold ph;rw[if_pos h,hN];rfl
theorem mm {total f n:Nat} {l O t:List UInt8} (h:O.length<total) (hN:dX l=some (n,t)):ph total (f+1) l O=
 if total-O.length<n∨t.length<n then none
 else if total-O.length=n then(if t.drop n=[] then some (O++t.take n) else none)
 else(dX (t.drop n)).bind fun q=>
  if total-O.length-n<4∨total-O.length-n-4<q.1 then none
  else(dX q.2).bind fun r=>
   if 4096≤r.1∨(O++t.take n).length≤r.1 then none
   else ph total f r.2 (A5 (r.1+1) (q.1+4) (O++t.take n)):=by
 rw[ph,if_pos h,hN];rfl
theorem Hi {total f:Nat} {l O:List UInt8} (h:¬O.length<total):ph total (f+1) l O=if l=[] then some O else none:=by
 rw[ph,if_neg h]
theorem Dv {k m j c:Nat} {X:List UInt8} (hj:j<m) (hX:X.length=c+j) (hk:k<c):A5 (k+1) (m-j) X=A5 (k+1) (m-(j+1)) (X++[X[c-1-k+j]'(by omega)]):=by
 obtain⟨s,hs⟩:∃s,m-j=s+1:=⟨m-j-1,by omega⟩
 have e:X.getD (X.length-(k+1)) 0=X[c-1-k+j]'(by omega):=by
  have:X.length-(k+1)=c-1-k+j:=by omega
  rw[this,List.getD_eq_getElem?_getD,List.getElem?_eq_getElem (by omega)]
  rfl
 rw[hs,A5,e,show m-(j+1)=s by omega]
theorem tk {w:World} {rest:List UInt8} {v:Value} {total:Nat} (hv:bQ rest v w) (hl:rest.length≤549755813888) (ht:total≤549755813888):
 Calls Tryz.prog 153 #[v,bo (UInt64.ofNat total)] w (bL fun r w'=>aE w w'∧ExpR (ph total (total+1) rest []) r w'):=by
 refine enter (vs:=[v,bo (UInt64.ofNat total)]) Tryz.func153 Ig Ig Ig ?_
 refine af (aa (ac Ig Ig (ac Ig Ig (ag (ab (af (aa (ac Ig Ig (ag (ab (af (au ?_))))))))))))
 refine Em (fun(f:Nat) (l:List UInt8) (O:List UInt8) (vl:Value) (vo:Value)=>[(0,vl),(1,bo (UInt64.ofNat total)),(6,vo)]) (fun(f:Nat) (l:List UInt8) (O:List UInt8) (vl:Value) (vo:Value) w'=>aE w w'∧bQ l vl w∧bZ w.heap.size O vo w'∧l.length≤549755813888∧O.length≤total∧total-O.length<f∧ph total (total+1) rest []=ph total f l O) (fun(f:Nat) (l:List UInt8) (O:List UInt8) (vl:Value) (vo:Value)=>total-O.length) (total+1) (rest) ([]) (v) (.slice none 0 0) ⟨rfl,rfl,rfl,trivial⟩ ⟨aE.refl _,hv,bZ.nil _ _,hl,by simp,by simp,rfl⟩ ?_
 rintro f l O vl vo w2 ⟨e2,hb,oO,hll,hOt,hf,hu⟩
 refine af (af ?_)
 obtain⟨f,rfl⟩:∃g,f=g+1:=⟨f-1,by omega⟩
 refine aa (ae Ig Ig (aO Ig Ig (cc oO.bts) (aN Ig Ig (dT HE HD) (ae Ig Ig (ai Ig Ig Ig (jG) ?_)))))
 refine ag (ab ?_)
 refine bi Ig (fun h19=>?_) (fun h19=>?_)
 ·have hlt:O.length<total:=(wU (by omega) (by omega)).1 h19
  refine ax (ab (au (af (aa (ae Ig Ig (ae Ig Ig (aO Ig Ig (cc oO.bts) (aN Ig Ig (dT HE HD) ?_))))))))
  refine ai (r:=bo (UInt64.ofNat (total-O.length))) Ig Ig Ig ((by rw[←Du (n:=total) (m:=O.length) (by omega) (by omega)];exact cW)) (ac Ig Ig ?_)
  refine ag (ab (af ?_))
  rcases hN:dX l with _|⟨n,t⟩
  ·refine aa (ae Ig Ig (ak f6 Ig Ig ((lS (hb.ext e2) (by omega) hN)) ?_))
   rintro v27 w27 ⟨x27,rfl⟩
   refine ae Ig Ig (al Ig Ig (et) (al Ig Ig (eu) (al Ig Ig (ew) (ac Ig Ig (ac Ig Ig (ac Ig Ig (ag ?_)))))))
   refine ab (af (af (aa (ae Ig Ig (cx Ig Ig cZ (ae Ig Ig (ap Ig Ig Ig (ap Ig Ig Ig (ap Ig Ig Ig (aG Ig Ig Ig (ae Ig Ig ?_)))))))))))
   refine ap Ig Ig Ig (ap Ig Ig Ig (ap Ig Ig Ig (ap Ig Ig Ig (ap Ig Ig Ig (aG Ig Ig Ig (ag (ab (ce Ig (af (aa (ac Ig Ig (ac Ig Ig ?_))))))))))))
   refine ag (ab (ay (aB (bh (aB (bh (aB (aW Ig Ig Ig ?_))))))))
   exact⟨_,rfl,(e2.trans x27),by rw[hu,Hh hlt hN];exact⟨_,rfl⟩⟩
  ·obtain⟨hN1,hN2⟩:=fH hN
   have htl:t.length≤549755813888:=by rw[hN1,List.length_append] at hll;omega
   refine aa (ae Ig Ig (ak f6 Ig Ig ((lT hb (hb.ext e2) (by omega) hN)) ?_))
   rintro v27 w27 ⟨x27,u1,rfl,hb1⟩
   refine ae Ig Ig (al Ig Ig (et) (al Ig Ig (eu) (al Ig Ig (ew) (ac Ig Ig (ac Ig Ig (ac Ig Ig (ag ?_)))))))
   refine ab (af (af (aa (ae Ig Ig (cx Ig Ig cZ (ae Ig Ig (ao Ig (ae Ig Ig (ao Ig (ae Ig Ig (ao Ig (ai Ig Ig Ig (cJ) ?_))))))))))))
   refine aJ Ig Ig Ig (ae Ig Ig ?_)
   refine dM (fun h38=>?_) (fun h38=>?_)
   ·refine ap Ig Ig Ig (ap Ig Ig Ig (ap Ig Ig Ig (ap Ig Ig Ig (ap Ig Ig Ig (aG Ig Ig Ig (ag (ab (ce Ig (af (aa (ac Ig Ig (ac Ig Ig ?_))))))))))))
    refine ag (ab (ay (aB (bh (aB (bh (aB (aW Ig Ig Ig ?_))))))))
    exact⟨_,rfl,(e2.trans x27),by
     rw[hu,mm hlt hN,if_pos (by
      first
      |exact .inl ((lj (by omega) (by omega)).1 h38)
      |exact .inr ((lj (by omega) (by omega)).1 h44))]
     exact⟨_,rfl⟩⟩
   ·refine ao Ig (ae Ig Ig (ao Ig (ae Ig Ig (ao Ig (aO Ig Ig (cc (hb1.ext (e2.trans x27))) (ao Ig (aN Ig Ig (dT HE HD) ?_)))))))
    refine ao Ig (ai Ig Ig Ig (cJ) (aJ Ig Ig Ig (ag (ab ?_))))
    refine bi Ig (fun h44=>?_) (fun h44=>?_)
    ·refine af (aa (ac Ig Ig (ac Ig Ig (ag (ab (ay (aB (bh (aB (bh (aB (aW Ig Ig Ig ?_))))))))))))
     exact⟨_,rfl,(e2.trans x27),by
      rw[hu,mm hlt hN,if_pos (by
       first
       |exact .inl ((lj (by omega) (by omega)).1 h38)
       |exact .inr ((lj (by omega) (by omega)).1 h44))]
      exact⟨_,rfl⟩⟩
    ·have hn1:n≤total-O.length:=Nat.le_of_not_lt (mt (lj (by omega) (by omega)).2 h38)
     have hn2:n≤t.length:=Nat.le_of_not_lt (mt (lj (by omega) (by omega)).2 h44)
     have hnn:(UInt64.ofNat n).toNat=n:=n64 hN2
     refine ax (ab (af (aa (ae Ig Ig (ae Ig Ig (ae Ig Ig ?_))))))
     obtain⟨v48,p48,b48⟩:=jI hb1 (hi:=(UInt64.ofNat n).toNat) (by omega) .u64
     rw[hnn] at b48
     refine db (b:=some (bo (UInt64.ofNat n))) Ig Ig Ig Ig Ig (p48 _) ?_
     obtain⟨v49,w49,hr49,o49,g49⟩:=dc (ty:=22) (oO.ext x27) (b48.ext (e2.trans x27)) (by simp only[List.length_take];omega) ((e2.trans x27)).size
     have x49:=aE.of_grew ((e2.trans x27)) g49 (oO.ext x27).ge
     refine aZ Ig Ig hr49 (ac Ig Ig (ag (ab (af (aa (ae Ig Ig (ae Ig Ig ?_)))))))
     obtain⟨v52,p52,b52⟩:=i0 hb1 (lo:=(UInt64.ofNat n).toNat) (by omega) .u64
     rw[hnn] at b52
     refine db (a:=some (bo (UInt64.ofNat n))) Ig Ig Ig Ig Ig (p52 _) ?_
     refine ac Ig Ig (ag (ab (af (aa (ae Ig Ig (ae Ig Ig (ai (r:=bo (UInt64.ofNat (total-O.length-n))) Ig Ig Ig ((by rw[←Du (n:=total-O.length) (m:=n) (by omega) hn1];exact cW)) ?_)))))))
     refine ac Ig Ig (ag (ab (af (af (aa (ae Ig Ig (ai (v:=bo 0) Ig Ig Ig (iN) (ag (ab ?_)))))))))
     refine bi Ig (fun h57=>?_) (fun h57=>?_)
     ·have hz:total-O.length=n:=by
       have:=congrArg UInt64.toNat h57
       rw[n64 (by omega),show(0:UInt64).toNat=0 from rfl] at this
       omega
      refine ba (aC (oM Ig (aC (aY (ab (af (aa (ae Ig Ig (ae Ig Ig (aO Ig Ig (cc (b52.ext x49)) (ai Ig Ig Ig (bJ) (ac Ig Ig ?_))))))))))))
      refine ac Ig Ig (ag (ab (ay (aW Ig Ig Ig ?_))))
      exact⟨_,rfl,x49,by
       rw[hu,mm hlt hN,if_neg (by omega),if_pos hz]
       by_cases hd:t.drop n=[]
       ·rw[if_pos hd,hd]
        exact⟨_,rfl,(o49).bts⟩
       ·rw[if_neg hd]
        have:¬(((t.drop n).length:Nat):Int)=0:=fun h=>hd (List.eq_nil_of_length_eq_zero (by omega))
        exact⟨_,by rw[decide_eq_false this]⟩⟩
     ·have hnz:¬total-O.length=n:=fun h=>h57 (by rw[show total-O.length-n=0 by omega];rfl)
      refine ax (ab (af ?_))
      obtain⟨Y,hY⟩:∃Y,Y=total-O.length-n:=⟨_,rfl⟩
      have htd:(t.drop n).length≤549755813888:=by rw[List.length_drop];omega
      rcases hM:dX (t.drop n) with _|⟨m,t2⟩
      ·refine aa (ae Ig Ig (ak f6 Ig Ig ((lS (b52.ext x49) (by omega) hM)) ?_))
       rintro v60 w60 ⟨x60,rfl⟩
       refine ae Ig Ig (al Ig Ig (et) (al Ig Ig (eu) (al Ig Ig (ew) (ac Ig Ig (ac Ig Ig (ac Ig Ig (ag ?_)))))))
       refine ab (af (af (aa (ae Ig Ig (cx Ig Ig cZ (ae Ig Ig (ap Ig Ig Ig (ap Ig Ig Ig (aG Ig Ig Ig (ae Ig Ig (ap Ig Ig Ig ?_)))))))))))
       refine ap Ig Ig Ig (ap Ig Ig Ig (ap Ig Ig Ig (aG Ig Ig Ig (ag (ab (ce Ig (af (aa (ac Ig Ig (ac Ig Ig (ag (ab (ay (aB ?_))))))))))))))
       refine bh (aB (bh (aB (aW Ig Ig Ig ?_))))
       exact⟨_,rfl,(x49.trans x60),by rw[hu,mm hlt hN,if_neg (by omega),if_neg hnz,hM];exact⟨_,rfl⟩⟩
      ·obtain⟨hM1,hM2⟩:=fH hM
       have ht2:t2.length≤549755813888:=by rw[hM1,List.length_append] at htd;omega
       refine aa (ae Ig Ig (ak f6 Ig Ig ((lT b52 (b52.ext x49) (by omega) hM)) ?_))
       rintro v60 w60 ⟨x60,u2,rfl,hb2⟩
       refine ae Ig Ig (al Ig Ig (et) (al Ig Ig (eu) (al Ig Ig (ew) (ac Ig Ig (ac Ig Ig (ac Ig Ig (ag ?_)))))))
       refine ab (af (af (aa (ae Ig Ig (cx Ig Ig cZ (ae Ig Ig (ao Ig (ae Ig Ig (ao Ig (ai (v:=bo 4) Ig Ig Ig (jG) (aJ Ig Ig Ig ?_)))))))))))
       refine ae Ig Ig ?_
       refine dM (fun h70=>?_) (fun h70=>?_)
       ·refine ap Ig Ig Ig (ap Ig Ig Ig (ap Ig Ig Ig (ap Ig Ig Ig (aG Ig Ig Ig (ag (ab (ce Ig (af (aa (ac Ig Ig (ac Ig Ig (ag ?_))))))))))))
        refine ab (ay (aB (bh (aB (bh (aB (aW Ig Ig Ig ?_)))))))
        exact⟨_,rfl,(x49.trans x60),by
         rw[hu,mm hlt hN,if_neg (by omega),if_neg hnz,hM]
         simp only[Option.bind_some]
         rw[if_pos (by
          first
          |exact .inl ((wU (m:=4) (by omega) (by omega)).1 h70)
          |exact .inr ((lj (by omega) (by omega)).1 h75))]
         exact⟨_,rfl⟩⟩
       ·refine ao Ig (ae Ig Ig (ao Ig (ae Ig Ig (ao Ig ?_))))
        have hX4:4≤total-O.length-n:=Nat.le_of_not_lt fun h=>h70 ((wU (m:=4) (by omega) (by omega)).2 h)
        refine ai (v:=bo 4) (r:=bo (UInt64.ofNat (total-O.length-n-4))) Ig Ig Ig ((by rw[←Du (n:=total-O.length-n) (m:=4) (by omega) hX4];exact cW)) ?_
        refine ao Ig (ai Ig Ig Ig (cJ) (aJ Ig Ig Ig (ag (ab ?_))))
        refine bi Ig (fun h75=>?_) (fun h75=>?_)
        ·refine af (aa (ac Ig Ig (ac Ig Ig (ag (ab (ay (aB (bh (aB (bh (aB (aW Ig Ig Ig ?_))))))))))))
         exact⟨_,rfl,(x49.trans x60),by
          rw[hu,mm hlt hN,if_neg (by omega),if_neg hnz,hM]
          simp only[Option.bind_some]
          rw[if_pos (by
           first
           |exact .inl ((wU (m:=4) (by omega) (by omega)).1 h70)
           |exact .inr ((lj (by omega) (by omega)).1 h75))]
          exact⟨_,rfl⟩⟩
        ·have hm1:m≤total-O.length-n-4:=Nat.le_of_not_lt (mt (lj (by omega) (by omega)).2 h75)
         refine ax (ab (af ?_))
         rcases hK:dX t2 with _|⟨k,t3⟩
         ·refine aa (ae Ig Ig (ak f6 Ig Ig ((lS (hb2.ext (x49.trans x60)) (by omega) hK)) ?_))
          rintro v78 w78 ⟨x78,rfl⟩
          refine ae Ig Ig (al Ig Ig (et) (al Ig Ig (eu) (al Ig Ig (ew) (ac Ig Ig (ac Ig Ig (ac Ig Ig (ag ?_)))))))
          refine ab (af (af (aa (ae Ig Ig (cx Ig Ig cZ (ae Ig Ig (ap Ig Ig Ig (ap Ig Ig Ig (aG Ig Ig Ig (ae Ig Ig (ap Ig Ig Ig ?_)))))))))))
          refine ap Ig Ig Ig (ap Ig Ig Ig (ap Ig Ig Ig (ap Ig Ig Ig (aG Ig Ig Ig (ag (ab (ce Ig (af (aa (ac Ig Ig (ac Ig Ig (ag ?_))))))))))))
          refine ab (ay (aB (bh (aB (bh (aB (aW Ig Ig Ig ?_)))))))
          exact⟨_,rfl,((x49.trans x60).trans x78),by
           rw[hu,mm hlt hN,if_neg (by omega),if_neg hnz,hM]
           simp only[Option.bind_some]
           rw[if_neg (by omega),hK];exact⟨_,rfl⟩⟩
         ·obtain⟨hK1,hK2⟩:=fH hK
          have ht3:t3.length≤549755813888:=by rw[hK1,List.length_append] at ht2;omega
          refine aa (ae Ig Ig (ak f6 Ig Ig ((lT hb2 (hb2.ext (x49.trans x60)) (by omega) hK)) ?_))
          rintro v78 w78 ⟨x78,u3,rfl,hb3⟩
          refine ae Ig Ig (al Ig Ig (et) (al Ig Ig (eu) (al Ig Ig (ew) (ac Ig Ig (ac Ig Ig (ac Ig Ig (ag ?_)))))))
          refine ab (af (af (aa (ae Ig Ig (cx Ig Ig cZ (ae Ig Ig (ao Ig (ae Ig Ig (ao Ig (ai (v:=bo 4096) Ig Ig Ig (fW) (aJ Ig Ig Ig ?_)))))))))))
          refine ae Ig Ig ?_
          refine dM (fun h88=>?_) (fun h88=>?_)
          ·refine ap Ig Ig Ig (ap Ig Ig Ig (ap Ig Ig Ig (ap Ig Ig Ig (ap Ig Ig Ig (aG Ig Ig Ig (ag (ab (ce Ig (af (aa (ac Ig Ig (ac Ig Ig ?_))))))))))))
           refine ag (ab (ay (aB (bh (aB (bh (aB (aW Ig Ig Ig ?_))))))))
           exact⟨_,rfl,((x49.trans x60).trans x78),by
            rw[hu,mm hlt hN,if_neg (by omega),if_neg hnz,hM]
            simp only[Option.bind_some]
            rw[if_neg (by omega),hK]
            simp only[Option.bind_some]
            rw[if_pos (by
             first
             |exact .inl ((tj (m:=4096) (by omega) (by omega)).1 h88)
             |exact(.inr ((tj (by omega) (by simp only[List.length_append,List.length_take];omega)).1 h94)))]
            exact⟨_,rfl⟩⟩
          ·refine ao Ig (ae Ig Ig (ao Ig (ae Ig Ig (ao Ig (aO Ig Ig (cc (o49.ext (x60.trans x78)).bts) (ao Ig (aN Ig Ig (dT HE HD) ?_)))))))
           refine ao Ig (ai Ig Ig Ig (fW) (aJ Ig Ig Ig (ag (ab ?_))))
           refine bi Ig (fun h94=>?_) (fun h94=>?_)
           ·refine af (aa (ac Ig Ig (ac Ig Ig (ag (ab (ay (aB (bh (aB (bh (aB (aW Ig Ig Ig ?_))))))))))))
            exact⟨_,rfl,((x49.trans x60).trans x78),by
             rw[hu,mm hlt hN,if_neg (by omega),if_neg hnz,hM]
             simp only[Option.bind_some]
             rw[if_neg (by omega),hK]
             simp only[Option.bind_some]
             rw[if_pos (by
              first
              |exact .inl ((tj (m:=4096) (by omega) (by omega)).1 h88)
              |exact(.inr ((tj (by omega) (by simp only[List.length_append,List.length_take];omega)).1 h94)))]
             exact⟨_,rfl⟩⟩
           ·obtain⟨O1,hO1⟩:∃O1,O1=O++t.take n:=⟨_,rfl⟩
            have hOl:O1.length=O.length+n:=by rw[hO1,List.length_append,List.length_take];omega
            have hk1:k<4096:=Nat.lt_of_not_le (mt (tj (m:=4096) (by omega) (by omega)).2 h88)
            have hk2:k<O1.length:=by rw[hO1];exact Nat.lt_of_not_le (mt (tj (by omega) (by simp only[List.length_append,List.length_take];omega)).2 h94)
            rw[←hO1] at o49
            refine ax (ab (af (aa (ae Ig Ig (ac Ig Ig (ag (ab (af (aa (ae Ig Ig (aO Ig Ig (cc (o49.ext (x60.trans x78)).bts) (ai (r:=I ((O1.length-1:Nat):Int)) Ig Ig Ig (by have e:((O1.length-1:Nat):Int)=(O1.length:Int)-1:=(by omega);rw[e];exact aV (by omega) (by omega)) ?_))))))))))))
            refine ae Ig Ig (aN Ig Ig (zr HD HE (by omega)) (ai (r:=I ((O1.length-1-k:Nat):Int)) Ig Ig Ig (by have e:((O1.length-1-k:Nat):Int)=((O1.length-1:Nat):Int)-(k:Int):=(by omega);rw[e];exact aV (by omega) (by omega)) ?_))
            refine ac Ig Ig (ag (ab (af (aa (ae Ig Ig (aN Ig Ig (zr HD HE (by omega)) (ai (r:=I ((m+4:Nat):Int)) Ig Ig Ig (by have e:((m+4:Nat):Int)=(m:Int)+4:=(by omega);rw[e];exact aK (by omega) (by omega)) ?_)))))))
            refine ae Ig Ig (ag (ab (au ?_)))
            refine j2 (fun(j:Nat) (X:List UInt8) (vx:Value)=>[(0,u3),(1,bo (UInt64.ofNat total)),(6,vx),(13,I ((O1.length-1-k:Nat):Int)),(104,I ((m+4:Nat):Int)),(105,I (j:Int))]) (fun(j:Nat) (X:List UInt8) (vx:Value) w'=>aE w w'∧bZ w.heap.size X vx w'∧X.length=O1.length+j∧j≤m+4∧A5 (k+1) (m+4-j) X=A5 (k+1) (m+4) O1) (fun(j:Nat) (X:List UInt8) (vx:Value)=>m+4-j) (0) (O1) (v49) ⟨rfl,rfl,rfl,rfl,rfl,rfl,trivial⟩ ⟨((x49.trans x60).trans x78),(o49.ext (x60.trans x78)),rfl,by omega,rfl⟩ ?_
            rintro j X vx w20 ⟨e20,oX,hXl,hj,hX⟩
            refine af (aa (ai Ig Ig Ig (bb) (ag (ab (af ?_)))))
            refine bi Ig (fun h106=>?_) (fun h106=>?_)
            ·refine ax (ab (af (au (af (aa (ae Ig Ig (ac Ig Ig (ag (ab (aa (ae Ig Ig (ae Ig Ig (ae Ig Ig (ae Ig Ig (ai (r:=I ((O1.length-1-k+j:Nat):Int)) Ig Ig Ig (by have e:((O1.length-1-k+j:Nat):Int)=((O1.length-1-k:Nat):Int)+(j:Int):=(by omega);rw[e];exact aK (by omega) (by omega)) ?_)))))))))))))))
             obtain⟨a113,p113,q113⟩:=iz oX.bts (i:=O1.length-1-k+j) (by omega) .i64
             refine aq Ig Ig Ig (p113 _) (am Ig Ig (aj HH Ig q113) ?_)
             obtain⟨v115,w115,hr115,x115,o115,ob115⟩:=ej (w:=w20) w20.heap.size [X[O1.length-1-k+j]'(by omega)] (by simp) (Nat.le_refl _)
             refine aH (vs:=[(0,U8 (X[O1.length-1-k+j]))]) Ig Ig hr115 ?_
             obtain⟨v116,w116,hr116,o116,g116⟩:=dc (ty:=22) (oX.ext x115) o115.bts (by simp;omega) ((e20.trans x115)).size
             have x116:=aE.of_grew ((e20.trans x115)) g116 (oX.ext x115).ge
             refine aZ Ig Ig hr116 (ac Ig Ig (ag (aM (ab (aa (ai (r:=I ((j+1:Nat):Int)) Ig Ig Ig (by have e:((j+1:Nat):Int)=(j:Int)+1:=(by omega);rw[e];exact aK (by omega) (by omega)) ?_))))))
             refine ae Ig Ig (ag ?_)
             refine gj (j+1) (X++[X[O1.length-1-k+j]'(by omega)]) (v116) ⟨rfl,rfl,rfl,rfl,rfl,rfl,trivial⟩ ⟨x116,o116,by simp;omega,by omega,by
              rw[←hX]
              exact(Dv (by omega) hXl hk2).symm⟩ (by omega)
            ·refine ba (aC (aC (aY (aM ?_))))
             refine BP (f) (t3) (X) (u3) (vx) ⟨rfl,rfl,rfl,trivial⟩ ⟨e20,hb3,oX,ht3,by omega,by omega,by
              rw[hu,mm hlt hN,if_neg (by omega),if_neg hnz,hM]
              simp only[Option.bind_some]
              rw[if_neg (by omega),hK]
              simp only[Option.bind_some]
              rw[←hO1,if_neg (by omega)]
              rw[show m+4-j=0 by omega] at hX
              rw[←hX];rfl⟩ (by omega)
 ·have hlt:¬O.length<total:=mt (wU (by omega) (by omega)).2 h19
  refine ba (aC (aC (aY (ab (af (aa (ae Ig Ig (ae Ig Ig (aO Ig Ig (cc (hb.ext e2)) (ai Ig Ig Ig (bJ) (ac Ig Ig (ac Ig Ig ?_))))))))))))
  refine ag (ab (ay (aW Ig Ig Ig ?_)))
  exact⟨_,rfl,e2,by
   rw[hu,Hi hlt]
   by_cases hd:l=[]
   ·rw[if_pos hd,hd]
    exact⟨_,rfl,(oO).bts⟩
   ·rw[if_neg hd]
    have:¬((l.length:Nat):Int)=0:=fun h=>hd (List.eq_nil_of_length_eq_zero (by omega))
    exact⟨_,by rw[decide_eq_false this]⟩⟩
end Go.Rl
namespace Go.Rl
open Go.RowKit Go.Proofs
def FG (g:Nat) (st:Option (List UInt8)) (b w:World):Prop:=∃A n c,bI g 167 [.slice A n c,B st.isNone] w∧bQ (st.getD []) (.slice A n c) b∧rS A g
section
variable {g:Nat} {st:Option (List UInt8)} {b w w':World}
theorem FG.ext (h:FG g st b w) (hx:aE w w'):FG g st b w':=by
 obtain⟨A,n,c,h1,h2,h3⟩:=h
 exact⟨A,n,c,h1.ext hx,h2,h3⟩
theorem FG.at_ (h:FG g st b w) (k:Kp b w):AM g st w:=by
 obtain⟨A,n,c,h1,h2,h3⟩:=h
 exact⟨A,n,c,h1,h2.kp k,h3⟩
theorem FG.set {l l':List UInt8} {v:Value} (h:FG g (some l) b w) (hv:bQ l' v b) (hloc:∀A n c,v=.slice A n c→rS A g):
 ∃w',(Instr.storeAt 22 (.pointer (some ⟨g,0,none⟩)) v).run Tryz.prog w=.ok () w'∧w.grownBy w' (some g)∧FG g (some l') b w':=by
 obtain⟨A,n,c,h1,h2,_⟩:=h
 obtain⟨A',n',c',rfl,h3⟩:=id hv
 exact⟨_,dv (i:=0) cl rfl h1 (by simp),aS w g 0 _,A',n',c',h1.set 0 _,hv,hloc _ _ _ rfl⟩
end
end Go.Rl
namespace Go.Rl
open Go.RowKit Go.Proofs
def rZ (l:List UInt8) (max:Int) (f:List UInt8→Nat→Option (List UInt8)) (r:Value) (w':World):Prop:=
 if max<0 then r=.tuple #[.slice none 0 0,I 8]
 else match dX l with
  |none=>r=.tuple #[.slice none 0 0,I 5]
  |some (n,t)=>if max<(n:Int) then r=.tuple #[.slice none 0 0,I 8] else match f t n with
   |some out=>∃v,r=.tuple #[v,I 0]∧bQ out v w'
   |none=>r=.tuple #[.slice none 0 0,I 5]
section
variable {l t:List UInt8} {max:Int} {n:Nat} {f:List UInt8→Nat→Option (List UInt8)} {w:World}
theorem zE (hM:0≤max) (hU:dX l=some (n,t)) (hn:(n:Int)≤max) (h:f t n=none):rZ l max f (.tuple #[.slice none 0 0,I 5]) w:=by
 unfold rZ
 rw[if_neg (by omega),hU]
 show(if max<(n:Int) then _ else _)
 rw[if_neg (by omega),h]
theorem Dw {out:List UInt8} {v:Value} (hM:0≤max) (hU:dX l=some (n,t)) (hn:(n:Int)≤max) (h:f t n=some out) (hv:bQ out v w):rZ l max f (.tuple #[v,I 0]) w:=by
 unfold rZ
 rw[if_neg (by omega),hU]
 show(if max<(n:Int) then _ else _)
 rw[if_neg (by omega),h]
 exact⟨v,rfl,hv⟩
end
theorem oz {l t:List UInt8} {n:Nat} (h:dX l=some (n,t)):t.length≤l.length:=by
 obtain⟨h1,_⟩:=fH h
 rw[h1,List.length_append];omega
theorem Gx {l a t:List UInt8} (h:Ge l=some (a,t)):a.length+t.length≤l.length:=by
 unfold Ge at h
 cases hU:dX l with
 |none=>rw[hU] at h;cases h
 |some p=>
  obtain⟨n,u⟩:=p
  rw[hU] at h
  have h:(if n≤u.length then some (u.take n,u.drop n) else none)=some (a,t):=h
  have:=oz hU
  split at h
  ·simp only[Option.some.injEq,Prod.mk.injEq] at h
   rw[←h.1,←h.2,List.length_take,List.length_drop]
   omega
  ·cases h
end Go.Rl
namespace Go.Rl
open Go.RowKit Go.Proofs
theorem wV:aw Tryz.prog 172:=⟨_,Tryz.func172,by kernel_rfl,rfl⟩
theorem Dx:aw Tryz.prog 173:=⟨_,Tryz.func173,by kernel_rfl,rfl⟩
theorem Ba:aw Tryz.prog 193:=⟨_,Tryz.func193,by kernel_rfl,rfl⟩
section
variable {P:Program} {w:World}
theorem ES {t e:TypeId} {n:Nat} (ht:P.underlying t=some (.array n e)) {xs:List Value} {v:Value} (h:Sl 1 xs v w) (hn:n≤xs.length) (h0:0<n):
 ∃ad,(∀w':World,(Instr.arrayAt t v).run P w'=.ok (.pointer (some ad)) w')∧cS w ad (xs.take n):=by
 obtain⟨A,m,c,rfl,hmc,hcm,hl,hc,hnone⟩:=h
 obtain⟨ad,rfl,hcl⟩:=hc (by omega)
 refine⟨ad,fun w'=>?_,hcl.take _⟩
 have:¬m<n:=by omega
 simp[Instr.arrayAt,run_underlying ht,this]
theorem Bb {t:TypeId} {d:TypeDesc} {m:List Value} {ad:Addr} (hu:P.underlying t=some d) (hd:d.isRow=true) (hi:(P.info? t).map (·.size)=some m.length) (h:cS w ad m):
 (Instr.loadAt t (.pointer (some ad))).run P w=.ok (.agg m.toArray) w:=by
 have hagg:(isAgg t).run P w=.ok true w:=by
  unfold isAgg
  simp only[Sem.run_bind,run_underlying hu,Result.andThen_ok]
  cases d<;>first|rfl|simp[TypeDesc.isRow] at hd
 have hl:=run_loadCells_list (P:=P) (w:=w) ad m h
 simp only[Instr.loadAt,Instr.sureAddr,loadVar,Sem.run_bind,Sem.run_pure,Result.andThen_ok,hagg,if_true,dy hi,hl]
end
theorem zF:(Tryz.prog.info? 260).map (·.zero)=some (some (.agg #[.int .u8 0,.int .u8 0,.int .u8 0,.int .u8 0])):=by kernel_rfl
theorem wW {w:World} {g c i n:Nat} {A:Option Addr} {d:List UInt8} {mv nv:Value} (hb:bI g 235 [.slice A n c,mv,nv] w) (hd:bQ d (.slice A n c) w) (hi:i+4≤d.length) (hl:d.length≤1099511627776):
 Calls Tryz.prog 172 #[.pointer (some ⟨g,0,none⟩),I (i:Int)] w (bL fun r w'=>aE w w'∧r=K4 ((d.drop i).take 4)):=by
 refine enter (vs:=[.pointer (some ⟨g,0,none⟩),I (i:Int)]) Tryz.func172 Ig Ig Ig ?_
 refine af (aa ?_)
 obtain⟨g4,w4,hr4,n4,x4,b4⟩:=aR (P:=Tryz.prog) (w:=w) (l:=[.int .u8 0,.int .u8 0,.int .u8 0,.int .u8 0]) zF rfl
 refine aU Ig hr4 ?_
 refine ag (ab (af (aa (ae Ig Ig (aQ Ig Ig (ah Ig Ig (aI (o:=0) HQ Ig (by kernel_rfl) Ig) ?_))))))
 refine am Ig Ig (aj HF Ig (x4.cell_some (hb.cell (i:=0) Ig))) (ae Ig Ig (ae Ig Ig (ai (r:=I ((i+4:Nat):Int)) Ig Ig Ig (by have e:((i+4:Nat):Int)=(i:Int)+4:=(by omega);rw[e];exact aK (by omega) (by omega)) ?_)))
 obtain⟨v12,p12,b12⟩:=u9 (hd.ext x4) (lo:=i) (hi:=i+4) (by omega) (by omega) .i64 .i64
 refine db Ig Ig Ig Ig Ig (p12 _) ?_
 have e12:(d.take (i+4)).drop i=(d.drop i).take 4:=by rw[List.drop_take,show i+4-i=4 by omega]
 rw[e12] at b12
 have l12:((d.drop i).take 4).length=4:=by rw[List.length_take,List.length_drop];omega
 obtain⟨a13,p13,q13⟩:=ES (P:=Tryz.prog) Tryz.underlying260 b12 (by simp only[List.length_map,l12];omega) (by omega)
 rw[List.take_of_length_le (by simp only[List.length_map,l12];omega)] at q13
 refine sk Ig Ig (p13 _) (am Ig Ig (Bb H6 Ig (by rw[List.length_map,l12];exact wR) q13) (az Ig Ig (gw b4 (by rw[List.length_map,l12];rfl) (by rw[List.length_map,l12];exact wR) (iZ _)) ?_))
 have b5:=b4.row (((d.drop i).take 4).map U8)
 have x5:=aE.of_new x4 (bd w4 g4 (((d.drop i).take 4).map U8).toArray) n4
 refine ag (ab (ay ?_))
 refine eo Ig Ig b5 H6 Ig (by rw[List.length_map,l12];exact wR) ?_
 exact⟨_,rfl,x5,rfl⟩
theorem Dy {w:World} {A:Option Addr} {n c:Nat}:
 Calls Tryz.prog 173 #[.slice A n c] w (bL fun r w'=>aE w w'∧r=.func (.func 193) #[] #[.pointer (some ⟨w.heap.size,0,none⟩)]∧w'=w.alloc (.cells #[.slice A n c] 32)):=by
 refine enter (vs:=[.slice A n c]) Tryz.func173 Ig Ig Ig ?_
 refine af (aa (cI Ig Ig (m4) (ac Ig Ig (ag (ab (af (aa ?_)))))))
 refine mq (us:=[]) (vs:=[.pointer (some ⟨w.heap.size,0,none⟩)]) Ig Ig Ig ?_
 refine ac Ig Ig (ag (ab (ay (aD Ig Ig ?_))))
 exact⟨_,rfl,aE.new _ _,rfl,rfl⟩
def oA (Kb:Nat→Prop) (W W':World):Prop:=W.heap.size≤W'.heap.size∧∀k,Kb k→W'.heap[k]? =W.heap[k]?
theorem oA.trans {Kb:Nat→Prop} {a b c:World} (h:oA Kb a b) (k:oA Kb b c):oA Kb a c:=⟨Nat.le_trans h.1 k.1,fun n hn=>(k.2 n hn).trans (h.2 n hn)⟩
theorem oA.refl (Kb:Nat→Prop) (a:World):oA Kb a a:=⟨Nat.le_refl _,fun _ _=>rfl⟩
theorem oA.of_ext {Kb:Nat→Prop} {a b:World} (h:aE a b) (hk:∀k,Kb k→k<a.heap.size):oA Kb a b:=⟨h.size,fun k hn=>h.heap (hk k hn)⟩
theorem yC {α:Type} {w:World} {Bs base:Nat} {v:Value} {zs:List Int} {ys:List α} {encs:α→List Value} {Kb:Nat→Prop} (hv:dG base zs v w) (hc:bI Bs 32 [v] w) (hK1:Kb Bs) (hK2:∀k,v.ownBlock=some k→Kb k)
 (hlen:ys.length=zs.length) (hz:zs.length≤1099511627776) (hy:∀(k:Nat) (h:k<ys.length),encs ys[k]=[I ((zs.length-1-k:Nat):Int),I (zs[zs.length-1-k]'(by omega))]):
 SeqStopsK Fence.wide 1 Tryz.prog 193 #[.pointer (some ⟨Bs,0,none⟩)] (fun x=>(encs x).toArray) (oA Kb) (fun xs=>xs=ys) (fun pre=>pre<+:ys) ys.length w:=by
 intro lp J Jx W hW _ _ hY h0
 have hW:aE w W:=hW
 refine callsIn_wide.2 ?_
 refine Calls.mono (R:=bL fun r W'=>(∃xs,xs=ys∧J xs W')∨(∃pre,pre<+:ys∧Jx pre W')) ?_ (fun e W' h=>by obtain⟨r,rfl,h⟩:=h;exact⟨⟨r,rfl⟩,h⟩)
 have hv:=hv.ext hW
 have hc:=hc.ext hW
 have ea:(#[.func (.yield lp) #[] #[]]:Array Value)++ #[.pointer (some ⟨Bs,0,none⟩)]=[.func (.yield lp) #[] #[],.pointer (some ⟨Bs,0,none⟩)].toArray:=by simp
 rw[ea]
 refine enter Tryz.func193 Ig Ig Ig ?_
 refine af (aa (am Ig Ig (aj H5 Ig (hc.cell (i:=0) Ig)) (aO Ig Ig (FZ hv.its) (ai Ig Ig Ig (aV (by omega) (by omega)) ?_))))
 refine ac Ig Ig (ag (ab (au ?_)))
 refine ci (α:=Int) (fun x=>[(0,.func (.yield lp) #[] #[]),(1,.pointer (some ⟨Bs,0,none⟩)),(3,I x)]) (fun x W'=>∃k:Nat,k≤ys.length∧x=(zs.length:Int)-1-(k:Int)∧J (ys.take k) W'∧oA Kb W W') (fun x=>(x+1).toNat) ((zs.length:Int)-1) ⟨rfl,rfl,rfl,trivial⟩ ⟨0,Nat.zero_le _,by omega,by simpa using h0,oA.refl _ _⟩ ?_
 rintro x w1 ⟨k,hk,hx,hJ,hKp⟩
 refine af (af (aa (ae Ig Ig (ai Ig Ig Ig gP (ag (ab ?_))))))
 refine bi Ig (fun h8=>?_) (fun h8=>?_)
 ·have hkl:k<ys.length:=by omega
  obtain⟨j,rfl⟩:∃j:Nat,x=(j:Int):=⟨x.toNat,by omega⟩
  have hj:j=zs.length-1-k:=by omega
  have hv1:dG base zs v w1:=hv.same fun n hn=>hKp.2 n (hK2 n hn)
  have hc1:bI Bs 32 [v] w1:=(hKp.2 Bs hK1).trans hc
  refine ax (ab (af (au (af (BU (Eo 6 ?_))))))
  refine ae Ig Ig (ae Ig Ig (am Ig Ig (aj H5 Ig (hc1.cell (i:=0) Ig)) (ae Ig Ig ?_)))
  obtain⟨a15,p15,q15⟩:=G1 hv1.its (i:=j) (by omega) .i64
  refine aq Ig Ig Ig (p15 _) (am Ig Ig (aj HE Ig q15) (ag (n_y ?_)))
  have hx:=hY (ys.take k) ys[k] w1 hJ (by rw[List.length_take];omega)
  simp only[hy k hkl] at hx
  have hz:zs[zs.length-1-k]'(by omega)=zs[j]'(by omega):=by simp only[hj]
  rw[hz,←hj] at hx
  refine Ep Ig Ig Ig hx ?_
  rintro e w3 (⟨rfl,hJ3,hK3⟩|⟨rfl,hJx3⟩)
  ·refine⟨_,rfl,BV (cx Ig Ig cZ (ag (ab (eS Ig (ax (aM (ab (aa (ae Ig Ig (ai Ig Ig Ig (aV (by omega) (by omega)) (ac Ig Ig (ag ?_))))))))))))⟩
   refine bP ((j:Int)-1) ⟨rfl,rfl,rfl,trivial⟩ ⟨k+1,by omega,by omega,?_,hKp.trans hK3⟩ (by omega)
   rw[List.take_succ_eq_append_getElem hkl];exact hJ3
  ·refine⟨_,rfl,BV (cx Ig Ig cZ (ag (ab (ce Ig (ay (bh (aB (aB (bh (tE Ig ?_))))))))))⟩
   exact⟨_,rfl,.inr ⟨_,⟨ys.drop (k+1),by rw[←List.take_succ_eq_append_getElem hkl,List.take_append_drop]⟩,hJx3⟩⟩
 ·refine ba (aC (aC (aY (fq Ig ?_))))
  have hkl:k=ys.length:=by omega
  exact⟨_,rfl,.inl ⟨_,rfl,by rw[hkl,List.take_length] at hJ;exact hJ⟩⟩
end Go.Rl
namespace Go.Rl
open Go.RowKit Go.Proofs
theorem yD:aw Tryz.prog 151:=⟨_,Tryz.func151,by kernel_rfl,rfl⟩
section
variable {P:Program} {w w':World}
theorem Dz {t:TypeId} {v:Value} (h:v.cells=[v].toArray):∃g w',(Instr.box t v).run P w=.ok (.pointer (some ⟨g,0,none⟩)) w'∧w.heap.size≤g∧aE w w'∧bI g t [v] w':=
 ⟨_,_,m4,Nat.le_refl _,aE.new w _,bI.new v h⟩
theorem jz {t T:TypeId} {g:Nat} {u v:Value} (hs:(P.info? t).map (·.size)=some 1) (hv:v.oneCell'=true) (h:bI g T [u] w):
 ∃w',(Instr.storeAt t (.pointer (some ⟨g,0,none⟩)) v).run P w=.ok () w'∧w.grownBy w' (some g)∧bI g T [v] w':=
 ⟨_,dv (i:=0) hs hv h (by simp),aS w g 0 v,h.set 0 v⟩
end
theorem wX:(Tryz.prog.info? 3).map (·.zero)=some (some (.int .i64 0)):=by kernel_rfl
theorem yE {d:List UInt8} {x y:Nat} (hx:x<d.length) (hy:y<d.length):lZ (d.drop x) (d.drop y)=if d[x]=d[y] then lZ (d.drop (x+1)) (d.drop (y+1))+1 else 0:=by
 rw[List.drop_eq_getElem_cons hx,List.drop_eq_getElem_cons hy,lZ]
theorem zG {d:List UInt8} {x y:Nat} (hx:d.length≤x):lZ (d.drop x) (d.drop y)=0:=by
 rw[List.drop_of_length_le hx];cases d.drop y<;>rfl
theorem bI.c0 {w:World} {g:Nat} {T:TypeId} {v:Value} {l:List Value} (h:bI g T (v::l) w):w.cell? ⟨g,0,none⟩=some v:=h.cell (i:=0) rfl
def ET (b:Nat) (T:TypeId) (l:List Value):cH:=fun v w=>∃g,v=.pointer (some ⟨g,0,none⟩)∧b≤g∧bI g T l w
theorem ET.stable (b:Nat) (T:TypeId) (l:List Value):be (ET b T l):=fun _ _ _ ⟨g,h1,h2,h3⟩ hx=>⟨g,h1,h2,h3.ext hx⟩
theorem Gy {w:World} {g:Nat} {T:TypeId} {l:List Value} {q:List UInt8} (h:bI g T l w) (hl:l.length=4) (hq:q.length=4):
 ∃w',(Instr.storeAt 260 (.pointer (some ⟨g,0,none⟩)) (K4 q)).run Tryz.prog w=.ok () w'∧w.grownBy w' (some g)∧bI g T (q.map U8) w':=
 ⟨_,gw h (by rw[List.length_map,hl,hq]) (by rw[List.length_map,hq];exact wR) (iZ q),bd w g _,h.row _⟩
structure yF (wb:World) (d:List UInt8) (g m nx:Nat) (Y:Nat→Prop) (w:World):Prop where
 ext:aE wb w
 low:∀k,(k=g∨k=m∨Y k)→wb.heap.size≤k∧k<w.heap.size
 ng:¬Y g
 nm:¬Y m
 gm:g≠m
 blk:∃A n c,bI g 235 [.slice A n c,.map (some m),I (nx:Int)] w∧bQ d (.slice A n c) wb
 map:f5 wb.heap.size d m nx Y w
def jQ (g m:Nat) (Y:Nat→Prop):Nat→Prop:=fun k=>k=g∨k=m∨Y k
section
variable {wb w w':World} {d:List UInt8} {g m nx:Nat} {Y:Nat→Prop}
theorem yF.mv {X:Nat→Prop} (h:yF wb d g m nx Y w) (hx:Mv X w w') (hX:∀k,jQ g m Y k→¬X k) (hb:∀k,X k→wb.heap.size≤k):yF wb d g m nx Y w':=
 ⟨hx.ext_from h.ext hb,fun k hk=>⟨(h.low k hk).1,Nat.lt_of_lt_of_le (h.low k hk).2 hx.size⟩,h.ng,h.nm,h.gm,by
  obtain⟨A,n,c,h1,h2⟩:=h.blk
  exact⟨A,n,c,hx.blk h1 (hX g (.inl rfl)),h2⟩,h.map.same (hx.keep m h.map.lt (hX m (.inr (.inl rfl)))) fun k hk hl=>hx.keep k hl (hX k (.inr (.inr hk)))⟩
theorem yF.xt (h:yF wb d g m nx Y w) (hx:aE w w'):yF wb d g m nx Y w':=h.mv (X:=fun _=>False) (Mv.of_ext hx) (fun _ _=>id) (fun _ hk=>hk.elim)
end
theorem f5.ne_row {base b:Nat} {d:List UInt8} {m n:Nat} {Y:Nat→Prop} {w:World} (h:f5 base d m n Y w) {l:List Int} {v:Value} (hv:dG b l v w):v.ownBlock≠some m:=fun hk=>by
 obtain⟨es,clock,h⟩:=h
 obtain⟨cs,f,hc⟩:=hv.cells hk
 rw[h.at_] at hc
 cases hc
theorem yF.step {wb w:World} {d:List UInt8} {g m x n c:Nat} {A:Option Addr} {Y:Nat→Prop} (h:yF wb d g m x Y w) (hx:x+4≤d.length) (hb:bI g 235 [.slice A n c,.map (some m),I (x:Int)] w) (hd:bQ d (.slice A n c) wb):
 ∃v born w1,(Instr.mapEntry 233 (.map (some m)) (K4 ((d.drop x).take 4))).run Tryz.prog w=.ok (.tuple #[v,I (born:Nat)]) w1∧w.grownBy w1 (some m)∧dG wb.heap.size (iH d ((d.drop x).take 4) x) v w1∧
 ∀v' w2,fh w1 w2 v v'→dG wb.heap.size (iH d ((d.drop x).take 4) x++[(x:Int)]) v' w2→∃w3,(Instr.entryStore 233 (.map (some m)) (I (born:Nat)) v').run Tryz.prog w2=.ok () w3∧Mv (fun k=>k=m∨Y k) w w3∧bI g 235 [.slice A n c,.map (some m),I (x:Int)] w3∧
  ∀w4,w3.grownBy w4 (some g)→bI g 235 [.slice A n c,.map (some m),I ((x+1:Nat):Int)] w4→∃Y',yF wb d g m (x+1) Y' w4∧Mv (jQ g m Y) w w4∧∀k,Y' k→Y k∨w.heap.size≤k:=by
 obtain⟨v,born,w1,r1,g1,o1,hY,nm,fin⟩:=h.map.step hx
 refine⟨v,born,w1,r1,g1,o1,fun v' w2 gr hv=>?_⟩
 obtain⟨w3,r3,g3,m3⟩:=fin v' w2 gr hv
 have mv3:Mv (fun k=>k=m∨Y k) w w3:=
  ((Mv.of_grown (X:=fun k=>k=m∨Y k) g1 (fun k e _=>.inl (Option.some.inj e).symm)).trans (Mv.of_grown (X:=fun k=>k=m∨Y k) gr.grown (fun k e _=>.inr (hY k e))) (fun _ hn _=>hn)).trans (Mv.of_grown (X:=fun k=>k=m∨Y k) g3 (fun k e _=>.inl (Option.some.inj e).symm)) (fun _ hn _=>hn)
 have hbg:=mv3.blk hb (fun hk=>hk.elim h.gm h.ng)
 refine⟨w3,r3,mv3,hbg,fun w4 g4 hb4=>?_⟩
 have mv4:Mv (jQ g m Y) w w4:=(mv3.weak (Y:=jQ g m Y) (fun k hk _=>.inr hk)).trans (Mv.of_grown (X:=jQ g m Y) g4 (fun k e _=>.inl (Option.some.inj e).symm)) (fun _ hn _=>hn)
 have hv':∀k,v'.ownBlock=some k→Y k∨w.heap.size≤k:=fun k hk=>by
  rcases gr.own with e|e
  ·exact .inl (hY k (e▸hk))
  ·exact .inr (Nat.le_trans g1.size (e k hk))
 refine⟨fun k=>Y k∨v'.ownBlock=some k,⟨mv4.ext_from h.ext (fun k hk=>(h.low k hk).1),?_,?_,?_,h.gm,⟨A,n,c,hb4,hd⟩,?_⟩,mv4,fun k hk=>hk.elim .inl (hv' k)⟩
 ·rintro k (hk|hk|hk|hk)
  ·exact⟨(h.low k (.inl hk)).1,Nat.lt_of_lt_of_le (h.low k (.inl hk)).2 mv4.size⟩
  ·exact⟨(h.low k (.inr (.inl hk))).1,Nat.lt_of_lt_of_le (h.low k (.inr (.inl hk))).2 mv4.size⟩
  ·exact⟨(h.low k (.inr (.inr hk))).1,Nat.lt_of_lt_of_le (h.low k (.inr (.inr hk))).2 mv4.size⟩
  ·have:=hv.lt k hk
   exact⟨this.1,Nat.lt_of_lt_of_le this.2 (Nat.le_trans g3.size g4.size)⟩
 ·rintro(hk|hk)
  ·exact h.ng hk
  ·rcases hv' g hk with hk|hk
   ·exact h.ng hk
   ·have:=(h.low g (.inl rfl)).2;omega
 ·rintro(hk|hk)
  ·exact h.nm hk
  ·rcases hv' m hk with hk|hk
   ·exact h.nm hk
   ·have:=(h.low m (.inr (.inl rfl))).2;omega
 ·refine m3.same (g4.block m m3.lt (fun e=>h.gm (Option.some.inj e).symm)) (fun k hk hl=>g4.block k hl (fun e=>?_))
  obtain rfl:=Option.some.inj e
  rcases hk with hk|hk
  ·exact h.ng hk
  ·rcases hv' k hk with hk|hk
   ·exact h.ng hk
   ·have:=(h.low k (.inl rfl)).2;omega
abbrev Pl (d:List UInt8) (i:Nat):Type:={p:Nat×Nat//p.2<i∧(d.drop p.2).take 4=(d.drop i).take 4}
def Pl.enc {d:List UInt8} {i:Nat} (x:Pl d i):List Value:=[I (x.1.1:Int),I (x.1.2:Int)]
def Bc (d:List UInt8) (i:Nat):List (Pl d i):=List.ofFn fun k:Fin (pos d ((d.drop i).take 4) i).length=>
 ⟨((pos d ((d.drop i).take 4) i).length-1-k.1,(pos d ((d.drop i).take 4) i)[(pos d ((d.drop i).take 4) i).length-1-k.1]'(by have:=k.2;omega)),zB.1 (List.getElem_mem _)⟩
theorem uI (d:List UInt8) (i:Nat):(Bc d i).length=(pos d ((d.drop i).take 4) i).length:=by simp[Bc]
theorem zH (d:List UInt8) (i:Nat):(Bc d i).map (·.1.2)=(pos d ((d.drop i).take 4) i).reverse:=by
 apply List.ext_getElem
 ·simp[uI]
 ·intro k h1 h2
  simp[Bc,List.getElem_reverse]
theorem EU (d:List UInt8) (i k:Nat) (h:k<(Bc d i).length):(Bc d i)[k].enc=[I (((iH d ((d.drop i).take 4) i).length-1-k:Nat):Int),I ((iH d ((d.drop i).take 4) i)[(iH d ((d.drop i).take 4) i).length-1-k]'(by rw[uI] at h;simp only[iH,List.length_map];omega))]:=by
 simp[Bc,Pl.enc,iH]
def sc (d:List UInt8) (i:Nat) (l:List (Pl d i)):Nat×Nat:=(l.map (·.1.2)).foldl (Dl d i) (0,0)
theorem nH (d:List UInt8) (i:Nat) (l:List (Pl d i)) (x:Pl d i):sc d i (l++[x])=Dl d i (sc d i l) x.1.2:=by
 unfold sc
 rw[List.map_append,List.foldl_append];rfl
theorem ky (d:List UInt8) (i:Nat):((Bc d i).map (·.1.2)).Pairwise (fun a b=>b<a):=by
 rw[zH,List.pairwise_reverse]
 exact yA _ _ _
theorem uJ (d:List UInt8) (i p:Nat):p∈(Bc d i).map (·.1.2)↔p<i∧(d.drop p).take 4=(d.drop i).take 4:=by
 rw[zH,List.mem_reverse,zB]
theorem yG {d:List UInt8} {i:Nat} (h:d.length<i+4):cQ d i=(0,0):=by
 rcases Nat.eq_zero_or_pos (cQ d i).1 with h0|h0
 ·rcases yx d i (min i 4096) with e|e
  ·exact e
  ·unfold cQ at h0;omega
 ·have:=nE (d:=d) (i:=i) (by omega)
  omega
structure mU (wl:World) (g7 g8:Nat) (s:Nat×Nat) (W:World):Prop where
 c7:bI g7 3 [I (s.1:Int)] W
 c8:bI g8 3 [I (s.2:Int)] W
 mv:Mv (fun k=>k=g7∨k=g8) wl W
section
variable {wl W W':World} {g7 g8:Nat} {s:Nat×Nat}
theorem mU.own (h:mU wl g7 g8 s W) (h7:g7<wl.heap.size) (h8:g8<wl.heap.size) {row:Option Nat} (hg:W.grownBy W' row) (hr:∀r,row=some r→wl.heap.size≤r):mU wl g7 g8 s W':=
 ⟨h.c7.other hg (fun e=>by have:=hr g7 e.symm;omega),h.c8.other hg (fun e=>by have:=hr g8 e.symm;omega),h.mv.trans (Mv.of_grown (X:=fun k=>wl.heap.size≤k) hg (fun k hk _=>hr k hk)) (fun n hn hl=>by omega)⟩
theorem mU.xt (h:mU wl g7 g8 s W) (hx:aE W W'):mU wl g7 g8 s W':=⟨h.c7.ext hx,h.c8.ext hx,h.mv.trans (Mv.of_ext (X:=fun _=>False) hx) (fun _ hn _=>hn.elim)⟩
end
theorem mU.keeps {wl W W':World} {g7 g8:Nat} (h:Mv (fun k=>k=g7∨k=g8) W W') (h7:g7<wl.heap.size) (h8:g8<wl.heap.size):KeepsFrom wl.heap.size W W':=
 ⟨h.size,fun k o hk ho _=>(h.keep k (Array.getElem?_eq_some_iff.1 ho).1 (fun e=>by omega)).trans ho⟩
theorem mU.keep {wl W W':World} {g7 g8:Nat} (h:Mv (fun k=>k=g7∨k=g8) W W') (hl:wl.heap.size≤W.heap.size):oA (fun k=>k<wl.heap.size∧k≠g7∧k≠g8) W W':=
 ⟨h.size,fun k hk=>h.keep k (Nat.lt_of_lt_of_le hk.1 hl) (fun e=>e.elim hk.2.1 hk.2.2)⟩
theorem yH {wb w:World} {d:List UInt8} {g m nx i:Nat} {Y:Nat→Prop} (h:yF wb d g m nx Y w) (hni:nx≤i) (hi:i≤d.length) (hl:d.length≤1099511627776):
 Calls Tryz.prog 151 #[.pointer (some ⟨g,0,none⟩),I (i:Int)] w (bL fun r w'=>r=.tuple #[I ((cQ d i).1:Int),I ((cQ d i).2:Int)]∧∃nx' Y',nx'≤i∧yF wb d g m nx' Y' w'∧Mv (jQ g m Y) w w'∧∀k,Y' k→Y k∨w.heap.size≤k):=by
 refine FX (vs:=[.pointer (some ⟨g,0,none⟩),I (i:Int)]) Tryz.func151 Ig Ig Ig ?_
 obtain⟨A,n,c,k0,hd⟩:=h.blk
 have hf:∀k,jQ g m Y k→k<w.heap.size:=fun k hk=>(h.low k hk).2
 have hw0:=h.ext.size
 refine af (aa ?_)
 obtain⟨g2,w2,hr2,l2,x2,k2⟩:=Dz (P:=Tryz.prog) (w:=w) (t:=232) (v:=.pointer (some ⟨g,0,none⟩)) rfl
 refine cI Ig Ig hr2 ?_
 obtain⟨g3,w3,hr3,l3,x3,k3⟩:=Dz (P:=Tryz.prog) (w:=w2) (t:=3) (v:=I (i:Int)) rfl
 refine cI Ig Ig hr3 ?_
 have h3:=h.xt (x2.trans x3)
 have x3':=(x2.trans x3)
 have hg2:w.heap.size≤g2:=l2
 have hg3:w.heap.size≤g3:=Nat.le_trans x2.size l3
 have k2:=k2.ext x3
 have b2:=k2.lt
 have b3:=k3.lt
 have nf2:¬jQ g m Y g2:=fun hk=>by have:=hf _ hk;omega
 have nf3:¬jQ g m Y g3:=fun hk=>by have:=hf _ hk;omega
 refine ac Ig Ig (ac Ig Ig (ag (ab (af (af ?_)))))
 have k1:=k0.ext (x2.trans x3)
 have hd1:=hd.ext h3.ext
 refine bk 7 [2,3,13,18] (by kernel_rfl) (by kernel_rfl) ?_
 refine av Ig Ig (fun w hw=>aj HE Ig (hw.cell_some k3.c0)) (aL (r:=I ((i+4:Nat):Int)) Ig Ig Ig (fun w _=>by have e:((i+4:Nat):Int)=(i:Int)+4:=(by omega);rw[e];exact aK (by omega) (by omega)) ?_)
 refine av Ig Ig (fun w hw=>aj HR Ig (hw.cell_some k2.c0)) (bm Ig Ig (aA Ig Ig (fun w hw=>aI (o:=0) HQ Ig (by kernel_rfl) Ig) ?_))
 refine av Ig Ig (fun w hw=>aj HF Ig (hw.cell_some (k1.cell (i:=0) Ig))) (kW (vs:=[.slice A n c]) Ig Ig (fun w hw=>cc (hd1.ext hw)) ?_)
 refine bn ?_
 intro wg1 xg1
 rintro _ rfl
 rintro _ rfl
 rintro _ rfl
 rintro _ rfl
 refine ai Ig Ig Ig (cB) (ag (ab ?_))
 refine bi Ig (fun h19=>?_) (fun h19=>?_)
 ·refine af (aa (ac Ig Ig (ac Ig Ig (ag (ab (ay (aB (En Ig Ig Ig ?_))))))))
  exact⟨_,rfl,by rw[yG (by omega)];rfl,nx,Y,hni,h3.xt xg1,Mv.of_ext ((x2.trans x3).trans xg1),fun k hk=>.inl hk⟩
 ·refine ax (ab (af (au ?_)))
  refine ci (α:=Nat) (fun x=>[(2,.pointer (some ⟨g2,0,none⟩)),(3,.pointer (some ⟨g3,0,none⟩))]) (fun x w'=>x≤i∧∃Y',yF wb d g m x Y' w'∧Mv (jQ g m Y) w3 w'∧∀k,Y' k→Y k∨w3.heap.size≤k) (fun x=>i-x) (nx) ⟨rfl,rfl,trivial⟩ ⟨hni,Y,h3.xt xg1,Mv.of_ext xg1,fun k hk=>.inl hk⟩ ?_
  rintro x w4 ⟨hx2,Y',h4,mv4,hY4⟩
  refine af (af ?_)
  obtain⟨A,n,c,k1,hd⟩:=h4.blk
  have k2:=mv4.blk k2 nf2
  have k3:=mv4.blk k3 nf3
  have hd1:=hd.ext h4.ext
  refine bk 5 [2,3,23,24] (by kernel_rfl) (by kernel_rfl) ?_
  refine av Ig Ig (fun w hw=>aj HR Ig (hw.cell_some k2.c0)) (bm Ig Ig (aA Ig Ig (fun w hw=>aI (o:=2) HQ Ig (by kernel_rfl) Ig) ?_))
  refine av Ig Ig (fun w hw=>aj HE Ig (hw.cell_some (k1.cell (i:=2) Ig))) (av Ig Ig (fun w hw=>aj HE Ig (hw.cell_some k3.c0)) ?_)
  refine bn ?_
  intro wg3 xg3
  rintro _ rfl
  rintro _ rfl
  rintro _ rfl
  rintro _ rfl
  refine ai Ig Ig Ig (bb) (ag (ab ?_))
  refine bi Ig (fun h25=>?_) (fun h25=>?_)
  ·have hlt:x<i:=by omega
   have hq4:((d.drop x).take 4).length=4:=by rw[List.length_take,List.length_drop];omega
   refine ax (ab (af (au (af (bk 7 [2,3,6,38] (by kernel_rfl) (by kernel_rfl) ?_)))))
   refine av Ig Ig (fun w hw=>aj HR Ig (hw.cell_some (xg3.cell_some k2.c0))) (av Ig Ig (fun w hw=>aj HR Ig (hw.cell_some (xg3.cell_some k2.c0))) ?_)
   refine bm Ig Ig (aA Ig Ig (fun w hw=>aI (o:=2) HQ Ig (by kernel_rfl) Ig) (av Ig Ig (fun w hw=>aj HE Ig (hw.cell_some (xg3.cell_some (k1.cell (i:=2) Ig)))) ?_))
   refine bM (S:=Is (K4 ((d.drop x).take 4))) wV (be.is _) rfl (fun w hw=>by rintro _ rfl _ rfl;exact bL.mono (wW (k1.ext (aE.trans xg3 hw)) (hd1.ext (aE.trans xg3 hw)) (by omega) hl) fun v w' h=>h) ?_
   refine tG (S:=ET wg3.heap.size 260 [.int .u8 0,.int .u8 0,.int .u8 0,.int .u8 0]) (ET.stable _ _ _) rfl (fun w' hw=>by obtain⟨g6,w2,h1,h2,h3,h4⟩:=aR (P:=Tryz.prog) (w:=w') (l:=[.int .u8 0,.int .u8 0,.int .u8 0,.int .u8 0]) zF rfl;exact⟨_,w2,h1,h3,g6,rfl,Nat.le_trans hw.size h2,h4⟩) ?_
   refine bn ?_
   intro wg5 xg5
   rintro _ rfl
   rintro _ rfl
   intro vg6 q6
   rintro _ rfl
   obtain⟨g6,rfl,l6,b6⟩:=q6
   obtain⟨w5,r5,gr5,b5⟩:=Gy b6 rfl hq4
   refine az Ig Ig (r5) ?_
   have x5:=aE.of_new (w:=w4) (xg3.trans xg5) gr5 (Nat.le_trans xg3.size l6)
   refine ag (ab (EI 10 [10,11,13,12,14] [2,3,42,43,49] (by kernel_rfl) (by kernel_rfl) Ig ?_))
   refine av Ig Ig (fun w hw=>aj HR Ig (hw.cell_some (x5.cell_some k2.c0))) (bm Ig Ig (aA Ig Ig (fun w hw=>aI (o:=1) HQ Ig (by kernel_rfl) Ig) ?_))
   refine av Ig Ig (fun w hw=>aj Tryz.underlying233 Ig (hw.cell_some (x5.cell_some (k1.cell (i:=1) Ig)))) (av Ig Ig (fun w hw=>kO (o:=0) (m:=((d.drop x).take 4).map U8) (b5.ext hw) (fun _ _ h=>by simpa using h) Tryz.underlying260 Ig (by rw[List.length_map,hq4];exact wR)) ?_)
   refine av Ig Ig (fun w hw=>aj HR Ig (hw.cell_some (x5.cell_some k2.c0))) (bm Ig Ig (aA Ig Ig (fun w hw=>aI (o:=2) HQ Ig (by kernel_rfl) Ig) ?_))
   refine av rfl rfl (fun w hw=>aj Tryz.underlying3 rfl (hw.cell_some (x5.cell_some (k1.cell (i:=2) rfl)))) (dz (S:=dG wb.heap.size [(x:Int)]) (dG.stable _ _) rfl (fun w' hw=>by rintro _ rfl;obtain⟨r,w2,h1,h2,h3,_⟩:=ql (w:=w') wb.heap.size [(x:Int)] (by simp) (Nat.le_trans h4.ext.size (Nat.le_trans x5.size hw.size));exact⟨r,w2,h1,h2,h3⟩) ?_)
   refine bn ?_
   intro wg6 xg6
   rintro _ rfl
   rintro _ rfl
   rintro _ rfl
   rintro _ rfl
   intro vg49 b49
   have h6:=h4.xt (x5.trans xg6)
   obtain⟨v50,q50,w50,r50,g50,o50,fin⟩:=h6.step (by omega) (k1.ext (x5.trans xg6)) hd
   refine xE Ig Ig Ig r50 ?_
   refine al Ig Ig (bw) (al Ig Ig (bz) ?_)
   obtain⟨v51,w51,r51,o51,gr51⟩:=FY (ty:=32) o50 (b49.kept g50 (.inr (h6.map.ne_row b49))).its (by have:=zC d ((d.drop x).take 4) x;simp only[iH,List.length_map,List.length_cons,List.length_nil];omega) (Nat.le_trans h6.ext.size g50.size)
   refine aZ Ig Ig r51 ?_
   obtain⟨w6,r6,mv6,k6,fin⟩:=fin v51 w51 gr51 o51
   refine tR Ig Ig Ig r6 ?_
   have sz4:w3.heap.size≤wg6.heap.size:=Nat.le_trans mv4.size (Nat.le_trans x5.size xg6.size)
   have nX:∀k,w.heap.size≤k→k<w3.heap.size→¬(k=m∨Y' k):=fun k h1 h2 hk=>by
    rcases hk with hk|hk
    ·have:=hf m (.inr (.inl rfl));omega
    ·rcases hY4 k hk with h|h
     ·have:=hf k (.inr (.inr h));omega
     ·omega
   have k26:=mv6.blk (k2.ext (aE.trans x5 xg6)) (nX g2 hg2 b2)
   refine ag (ul (aM (ab (aa (am Ig Ig (aj HR Ig k26.c0) (aQ Ig Ig (ah Ig Ig (aI (o:=2) HQ Ig (by kernel_rfl) Ig) ?_)))))))
   refine am Ig Ig (aj HE Ig (k6.cell (i:=2) Ig)) (ai (r:=I ((x+1:Nat):Int)) Ig Ig Ig (by have e:((x+1:Nat):Int)=(x:Int)+1:=(by omega);rw[e];exact aK (by omega) (by omega)) ?_)
   refine aQ Ig Ig (ah Ig Ig (aI (o:=2) HQ Ig (by kernel_rfl) Ig) ?_)
   obtain⟨w7,r7,gr7,k7⟩:∃w7,(Instr.storeAt 3 (.pointer (some ⟨g,2,none⟩)) (I ((x+1:Nat):Int))).run Tryz.prog w6=.ok () w7∧w6.grownBy w7 (some g)∧bI g 235 [.slice A n c,.map (some m),I ((x+1:Nat):Int)] w7:=⟨_,dv (i:=2) eW rfl k6 (by simp),aS _ _ _ _,k6.set 2 _⟩
   obtain⟨Y7,h7,mv7,hY7⟩:=fin w7 gr7 k7
   refine az Ig Ig (r7) (ag ?_)
   have mv7':Mv (jQ g m Y) w3 w7:=(mv4.trans (Mv.of_ext (X:=fun _=>False) (aE.trans x5 xg6)) (fun _ hn _=>hn.elim)).trans mv7 (fun k hk hl=>by
    rcases hk with hk|hk|hk
    ·exact .inl hk
    ·exact .inr (.inl hk)
    ·rcases hY4 k hk with h|h
     ·exact .inr (.inr h)
     ·omega)
   have hY7':∀k,Y7 k→Y k∨w3.heap.size≤k:=fun k hk=>by
    rcases hY7 k hk with h|h
    ·exact hY4 k h
    ·exact .inr (by omega)
   refine bP (x+1) ⟨rfl,rfl,trivial⟩ ⟨by omega,Y7,h7,mv7',hY7'⟩ (by omega)
  ·have hxi:i=x:=by omega
   subst hxi
   have hi4:i+4≤d.length:=by omega
   have hq4:((d.drop i).take 4).length=4:=by rw[List.length_take,List.length_drop];omega
   refine ba (aC (aC (aY (ab (af (aa ?_))))))
   obtain⟨g7,w7,hr7,l7,x7,k7⟩:=aR (P:=Tryz.prog) (w:=wg3) (l:=[I 0]) wX rfl
   refine aU Ig hr7 ?_
   obtain⟨g8,w8,hr8,l8,x8,k8⟩:=aR (P:=Tryz.prog) (w:=w7) (l:=[I 0]) wX rfl
   refine aU Ig hr8 ?_
   have hg7:w3.heap.size≤g7:=Nat.le_trans mv4.size (Nat.le_trans xg3.size l7)
   have hg8:w3.heap.size≤g8:=Nat.le_trans mv4.size (Nat.le_trans xg3.size (Nat.le_trans x7.size l8))
   have h78:g7≠g8:=by have:=k7.lt;omega
   have kk7:=k7.ext x8
   obtain⟨w71,r71,gr71,k71⟩:=jz (P:=Tryz.prog) (t:=3) (v:=I 0) eW rfl kk7
   refine az Ig Ig (r71) ?_
   have x71:=aE.of_new (w:=w4) ((xg3.trans x7).trans x8) gr71 (Nat.le_trans xg3.size l7)
   have kk8:=k8.other gr71 (fun e=>h78 (Option.some.inj e).symm)
   obtain⟨w72,r72,gr72,k72⟩:=jz (P:=Tryz.prog) (t:=3) (v:=I 0) eW rfl kk8
   refine az Ig Ig (r72) ?_
   have x72:=aE.of_new (w:=w4) x71 gr72 (Nat.le_trans xg3.size (Nat.le_trans x7.size l8))
   have k73:=k71.other gr72 (fun e=>h78 (Option.some.inj e))
   refine ag (ab (af (af (bk 8 [2,3,7,8,60] (by kernel_rfl) (by kernel_rfl) ?_))))
   refine av Ig Ig (fun w hw=>aj HR Ig (hw.cell_some (x72.cell_some k2.c0))) (bm Ig Ig (aA Ig Ig (fun w hw=>aI (o:=1) HQ Ig (by kernel_rfl) Ig) ?_))
   refine av Ig Ig (fun w hw=>aj Ie Ig (hw.cell_some (x72.cell_some (k1.cell (i:=1) Ig)))) (av Ig Ig (fun w hw=>aj HR Ig (hw.cell_some (x72.cell_some k2.c0))) ?_)
   refine av rfl rfl (fun w hw=>aj HE rfl (hw.cell_some (x72.cell_some k3.c0))) (bM (S:=Is (K4 ((d.drop i).take 4))) wV (be.is _) rfl (fun w hw=>by rintro _ rfl _ rfl;exact bL.mono (wW (k1.ext (aE.trans x72 hw)) (hd1.ext (aE.trans x72 hw)) (by omega) hl) fun v w' h=>h) ?_)
   refine z8 (S:=Is (.map (some m))) (R:=Is (K4 ((d.drop i).take 4))) (S':=fun v w=>dG wb.heap.size (iH d ((d.drop i).take 4) i) v w∧∀k,v.ownBlock=some k→Y' k) rfl rfl (fun _ _ _ h hx=>⟨h.1.ext hx,h.2⟩) rfl (fun w u v hw hu hv=>by subst hu;subst hv;exact((h4.map.ext (aE.trans x72 hw)).look hq4).elim fun r h=>⟨r,h.1,h.2⟩) ?_
   refine bn ?_
   intro wg8 xg8
   rintro _ rfl
   rintro _ rfl
   rintro _ rfl
   rintro _ rfl
   intro vg60 q60
   obtain⟨o60,hY60⟩:=q60
   obtain⟨A6,n6,c6,rfl⟩:=o60.isSlice
   refine ak Dx Ig Ig (Dy) ?_
   rintro v61 w61 ⟨x61,rfl,hw61⟩
   refine ag (ab (au ?_))
   have bs:bI wg8.heap.size 32 [.slice A6 n6 c6] w61:=by rw[hw61];exact heap_alloc_new _ _
   have f7:=k73.ext (xg8.trans x61)
   have f8:=k72.ext (xg8.trans x61)
   have l7':g7<w61.heap.size:=f7.lt
   have l8':g8<w61.heap.size:=f8.lt
   have xl:=((x72.trans xg8).trans x61)
   have szl:w3.heap.size≤w61.heap.size:=Nat.le_trans mv4.size xl.size
   have hpl:=uI d i
   have hnY:∀k,Y' k→k≠g7∧k≠g8:=fun k hk=>by have:=(h4.low k (.inr (.inr hk))).2;have:=xg3.size;have:=x7.size;omega
   have hR0:mU w61 g7 g8 (sc d i []) w61:=⟨f7,f8,Mv.refl _ _⟩
   refine vf (α:=Pl d i) (encs:=Pl.enc) (Kp:=oA fun k=>k<w61.heap.size∧k≠g7∧k≠g8) (S:=fun xs=>xs=Bc d i) (Sp:=fun pre=>pre<+:Bc d i) (M:=(Bc d i).length) (w0:=w61) Ig Ba (yC (o60.ext x61) bs ⟨bs.lt,by have:=xg8.size;have:=kk7.lt;have:=gr71.size;have:=gr72.size;omega,by have:=xg8.size;have:=kk8.lt;have:=gr72.size;omega⟩ (fun k hk=>⟨((o60.ext x61).lt k hk).2,hnY k (hY60 k hk)⟩) (by simp only[hpl,iH,List.length_map]) (by have:=zC d ((d.drop i).take 4) i;simp only[iH,List.length_map];omega) (EU d i)) (fun h k=>h.trans k) ?_ (Below.refl _ _) (fun _=>rfl) (fun pre W=>mU w61 g7 g8 (sc d i pre) W∧∀p∈pre,i-p.1.2≤4096) (fun c pre W=>c=.exit 2∧∃pre' y,pre=pre'++[y]∧(∀p∈pre',i-p.1.2≤4096)∧((4096<i-y.1.2∧mU w61 g7 g8 (sc d i pre') W)∨(i-y.1.2≤4096∧i+ml d i (i-y.1.2)=d.length∧mU w61 g7 g8 (sc d i pre) W))) (fun s W W' row hs hg hr=>⟨hs.1.own l7' l8' hg (fun r e=>(hr r e).1),hs.2⟩) (fun c s W W' row hs hg hr=>hs.elim fun h1 h=>⟨h1,h.elim fun pre' h=>h.elim fun y h=>⟨pre',y,h.1,h.2.1,h.2.2.imp (fun h=>⟨h.1,h.2.own l7' l8' hg (fun r e=>(hr r e).1)⟩) (fun h=>⟨h.1,h.2.1,h.2.2.own l7' l8' hg (fun r e=>(hr r e).1)⟩)⟩⟩) ⟨hR0,by simp⟩ (fun y=>(10,I (y.1.2:Int))::(63,I (y.1.2:Int))::(62,I (y.1.1:Int))::_) (fun _=>rfl) Ig Ig Ig ?_ ?_ ?_
   ·intro W l o o' hl' ho _ _
    exact⟨(grownBy_putObj' W l o').size,fun k hk=>World.putObj_heap_other (by have:=hk.1;omega)⟩
   ·rintro lp pre y W ⟨hI,hpre⟩ hlen
    have hy1:y.1.2<i:=y.2.1
    have hy2:=y.2.2
    have mvW:=hI.mv
    have n78:∀k,k<w3.heap.size→¬(k=g7∨k=g8):=fun k hk e=>by omega
    have k2:=mvW.blk (k2.ext xl) (n78 g2 b2)
    have k3:=mvW.blk (k3.ext xl) (n78 g3 b3)
    have k1:=mvW.blk (k1.ext xl) (n78 g (Nat.lt_of_lt_of_le (hf g (.inl rfl)) (aE.size x3')))
    have hdW:=hd.ext (mvW.ext_from (h4.ext.trans xl) (fun k hk=>by have:=h3.ext.size;omega))
    refine I.au (I.af (I.af (I.aa Ig (am Ig Ig (aj HE Ig k3.c0) (ae Ig Ig (ai (r:=I ((i-y.1.2:Nat):Int)) Ig Ig Ig (by have e:((i-y.1.2:Nat):Int)=(i:Int)-(y.1.2:Int):=(by omega);rw[e];exact aV (by omega) (by omega)) ?_))))))
    refine ai Ig Ig Ig (cB) (ag (I.ab ?_))
    refine I.bi Ig (fun h67=>?_) (fun h67=>?_)
    ·refine I.ba (aC (oM Ig ?_))
     exact fun _ _=>⟨KeepsFrom.refl _ _,rfl,pre,y,rfl,hpre,.inl ⟨by omega,hI⟩⟩
    ·refine I.ax (I.ab (I.af (I.aa Ig (ac Ig Ig (ag (I.ab (I.af (I.au ?_))))))))
     refine I.ci (α:=Nat) (fun n'=>[(2,.pointer (some ⟨g2,0,none⟩)),(3,.pointer (some ⟨g3,0,none⟩)),(7,.pointer (some ⟨g7,0,none⟩)),(8,.pointer (some ⟨g8,0,none⟩)),(10,I (y.1.2:Int)),(11,I (n':Int))]) (fun n' w'=>aE W w'∧4≤n'∧i+n'≤d.length∧ml d i (i-y.1.2)=n'+lZ (d.drop (i+n')) (d.drop (y.1.2+n'))) (fun n'=>d.length-n') (4) ⟨rfl,rfl,rfl,rfl,rfl,rfl,trivial⟩ ⟨aE.refl _,by omega,hi4,Dm hi4 hy1 hy2⟩ ?_
     rintro n' w12 ⟨e12,hn4,hnl,hml⟩
     refine I.af (I.af ?_)
     have hdX:=hdW.ext e12
     have k1X:=k1.ext e12
     have k2X:=k2.ext e12
     have k3X:=k3.ext e12
     have c7X:=hI.c7.ext e12
     have c8X:=hI.c8.ext e12
     by_cases h76:((i+n':Nat):Int)<((d.length:Nat):Int)
     ·refine I.bk 29 [2,3,7,8,10,11,77,96] (by kernel_rfl) (by kernel_rfl) Ig ?_
      refine av Ig Ig (fun w hw=>aj HE Ig (hw.cell_some k3X.c0)) (an Ig Ig (aL (r:=I ((i+n':Nat):Int)) Ig Ig Ig (fun w _=>by have e:((i+n':Nat):Int)=(i:Int)+(n':Int):=(by omega);rw[e];exact aK (by omega) (by omega)) ?_))
      refine av Ig Ig (fun w hw=>aj HR Ig (hw.cell_some k2X.c0)) (bm Ig Ig (aA Ig Ig (fun w hw=>aI (o:=0) HQ Ig (by kernel_rfl) Ig) ?_))
      refine av Ig Ig (fun w hw=>aj HF Ig (hw.cell_some (k1X.cell (i:=0) Ig))) (kW (vs:=[.slice A n c]) Ig Ig (fun w hw=>cc (hdX.ext hw)) ?_)
      refine aL Ig Ig Ig (fun w _=>dW h76 bb) (an Ig Ig (bG Ig Ig (av Ig Ig (fun w hw=>aj HR Ig (hw.cell_some k2X.c0)) ?_)))
      refine bG Ig Ig (bm Ig Ig (bG Ig Ig (aA Ig Ig (fun w hw=>aI (o:=0) HQ Ig (by kernel_rfl) Ig) ?_)))
      refine bG Ig Ig (av Ig Ig (fun w hw=>aj HF Ig (hw.cell_some (k1X.cell (i:=0) Ig))) (bG Ig Ig (an Ig Ig (bG Ig Ig ?_))))
      refine an Ig Ig (bG Ig Ig (aL (r:=I ((y.1.2+n':Nat):Int)) Ig Ig Ig (fun w _=>by have e:((y.1.2+n':Nat):Int)=(y.1.2:Int)+(n':Int):=(by omega);rw[e];exact aK (by omega) (by omega)) ?_))
      refine bG Ig Ig ?_
      obtain⟨a85,p85,q85⟩:=iz hdX (i:=(y.1.2+n':Nat)) (by omega) .i64
      refine ar Ig Ig Ig (fun w _=>p85 w) (bG Ig Ig (av Ig Ig (fun w hw=>aj HH Ig (hw.cell_some q85)) (bG Ig Ig ?_)))
      refine av Ig Ig (fun w hw=>aj HR Ig (hw.cell_some k2X.c0)) (bG Ig Ig (bm Ig Ig (bG Ig Ig (aA Ig Ig (fun w hw=>aI (o:=0) HQ Ig (by kernel_rfl) Ig) ?_))))
      refine bG Ig Ig (av Ig Ig (fun w hw=>aj HF Ig (hw.cell_some (k1X.cell (i:=0) Ig))) (bG Ig Ig (av Ig Ig (fun w hw=>aj HE Ig (hw.cell_some k3X.c0)) ?_)))
      refine bG Ig Ig (an Ig Ig (bG Ig Ig (aL (r:=I ((i+n':Nat):Int)) Ig Ig Ig (fun w _=>by have e:((i+n':Nat):Int)=(i:Int)+(n':Int):=(by omega);rw[e];exact aK (by omega) (by omega)) ?_)))
      refine bG Ig Ig ?_
      obtain⟨a94,p94,q94⟩:=iz hdX (i:=(i+n':Nat)) (by omega) .i64
      refine ar Ig Ig Ig (fun w _=>p94 w) (bG Ig Ig (av Ig Ig (fun w hw=>aj HH Ig (hw.cell_some q94)) (bG Ig Ig ?_)))
      refine aL Ig Ig Ig (fun w _=>jD) (bn ?_)
      intro wg12 xg12
      rintro _ rfl
      rintro _ rfl
      rintro _ rfl
      rintro _ rfl
      rintro _ rfl
      rintro _ rfl
      rintro _ rfl
      rintro _ rfl
      refine aG Ig Ig Ig (ag (I.ab ?_))
      refine I.bi Ig (fun h97=>?_) (fun h97=>?_)
      ·refine I.ax (I.ab (I.au (I.aa Ig (ae Ig Ig (ai (r:=I ((n'+1:Nat):Int)) Ig Ig Ig (by have e:((n'+1:Nat):Int)=(n':Int)+1:=(by omega);rw[e];exact aK (by omega) (by omega)) ?_)))))
       refine ac Ig Ig (ag (aM ?_))
       refine bP (n'+1) ⟨rfl,rfl,rfl,rfl,rfl,rfl,trivial⟩ ⟨(e12.trans xg12),by omega,by omega,by rw[hml,yE (by omega) (by omega),if_pos (show d[i+n']=d[y.1.2+n'] from h97.symm),show i+(n'+1)=i+n'+1 by omega,show y.1.2+(n'+1)=y.1.2+n'+1 by omega];omega⟩ (by omega)
      ·refine I.ba (aC (aC (aY (I.ab (I.af (I.af ?_))))))
       have hnn:ml d i (i-y.1.2)=n':=by
        first
        |(rw[hml,yE (by omega) (by omega),if_neg (fun e=>h97 e.symm)];rfl)
        |(rw[hml,zG (by omega)];rfl)
       refine I.aa Ig (ae Ig Ig (am Ig Ig (aj HE Ig (xg12.cell_some c7X.c0)) (ai Ig Ig Ig (cB) (ag (I.ab ?_)))))
       refine I.bi Ig (fun h102=>?_) (fun h102=>?_)
       ·have hstp:sc d i (pre++[y])=(n',i-y.1.2):=by rw[nH,Dl,hnn,if_pos (by omega)]
        have hS0:wg12.drew.cell? ⟨g3,0,none⟩=some (I (i:Int)):=(k3.ext (aE.trans e12 xg12).drew).c0
        obtain⟨w15,r15,gr15,k15⟩:=jz (P:=Tryz.prog) (t:=3) (v:=I (n':Int)) eW rfl (hI.c7.ext (aE.trans e12 xg12).drew)
        obtain⟨w16,r16,gr16,k16⟩:=jz (P:=Tryz.prog) (t:=3) (v:=I ((i-y.1.2:Nat):Int)) eW rfl ((hI.c8.ext (aE.trans e12 xg12).drew).other gr15 (fun e=>h78 (Option.some.inj e).symm))
        have h37:g3≠g7∧g3≠g8:=by omega
        have hS1:w15.cell? ⟨g3,0,none⟩=some (I (i:Int)):=((k3.ext (aE.trans e12 xg12).drew).other gr15 (fun e=>h37.1 (Option.some.inj e))).c0
        have hS2:w16.cell? ⟨g3,0,none⟩=some (I (i:Int)):=(((k3.ext (aE.trans e12 xg12).drew).other gr15 (fun e=>h37.1 (Option.some.inj e))).other gr16 (fun e=>h37.2 (Option.some.inj e))).c0
        refine I.t6 (fun w'=>w'.cell? ⟨g3,0,none⟩=some (I (i:Int))) 6 Ig (by kernel_rfl) Ig ?_
        refine li 0 Ig Ig (by kernel_rfl) Ig hS0 ?_
        refine fN 1 Ig Ig (by kernel_rfl) Ig hS0 (fun w' hS=>aj HE Ig hS) ?_
        refine li 2 Ig Ig (by kernel_rfl) Ig hS0 ?_
        refine Fy 3 (r:=I ((i-y.1.2:Nat):Int)) Ig Ig Ig (by kernel_rfl) Ig hS0 (fun w' _=>by have e:((i-y.1.2:Nat):Int)=(i:Int)-(y.1.2:Int):=(by omega);rw[e];exact aV (by omega) (by omega)) ?_
        refine cv 4 (by kernel_rfl) Ig (az Ig Ig r15 (aX hS1 ?_))
        refine cv 5 (by kernel_rfl) Ig (az Ig Ig r16 (aX hS2 ?_))
        refine mw (by kernel_rfl) ?_
        have mv16:Mv (fun k=>k=g7∨k=g8) W w16:=((Mv.of_ext (X:=fun k=>k=g7∨k=g8) (aE.trans e12 xg12).drew).trans (Mv.of_grown (X:=fun k=>k=g7∨k=g8) gr15 (fun k e _=>.inl (Option.some.inj e).symm)) (fun _ hn _=>hn)).trans (Mv.of_grown (X:=fun k=>k=g7∨k=g8) gr16 (fun k e _=>.inr (Option.some.inj e).symm)) (fun _ hn _=>hn)
        have hR:mU w61 g7 g8 (sc d i (pre++[y])) w16:=by rw[hstp];exact⟨k15.other gr16 (fun e=>h78 (Option.some.inj e)),k16,hI.mv.trans mv16 (fun _ hn _=>hn)⟩
        refine I.ab (I.af ?_)
        have k1:=mv16.blk k1 (n78 g (Nat.lt_of_lt_of_le (hf g (.inl rfl)) (aE.size x3')))
        have k3:=mv16.blk k3 (n78 g3 b3)
        have k2:=mv16.blk k2 (n78 g2 b2)
        have hdX:=hd.ext ((hI.mv.trans mv16 (fun _ hn _=>hn)).ext_from (h4.ext.trans xl) (fun k hk=>by have:=h3.ext.size;omega))
        refine I.bk 8 [109,114] (by kernel_rfl) (by kernel_rfl) Ig ?_
        refine av Ig Ig (fun w hw=>aj HE Ig (hw.cell_some k3.c0)) (an Ig Ig (aL (r:=I ((i+n':Nat):Int)) Ig Ig Ig (fun w _=>by have e:((i+n':Nat):Int)=(i:Int)+(n':Int):=(by omega);rw[e];exact aK (by omega) (by omega)) ?_))
        refine av Ig Ig (fun w hw=>aj HR Ig (hw.cell_some k2.c0)) (bm Ig Ig (aA Ig Ig (fun w hw=>aI (o:=0) HQ Ig (by kernel_rfl) Ig) ?_))
        refine av Ig Ig (fun w hw=>aj HF Ig (hw.cell_some (k1.cell (i:=0) Ig))) (kW (vs:=[.slice A n c]) Ig Ig (fun w hw=>cc (hdX.ext hw)) ?_)
        refine bn ?_
        intro wg16 xg16
        rintro _ rfl
        rintro _ rfl
        refine ai Ig Ig Ig (bJ) (ag (I.ab ?_))
        refine I.bi Ig (fun h115=>?_) (fun h115=>?_)
        ·refine I.ba (oM Ig ?_)
         exact fun _ _=>⟨mU.keeps (mv16.trans (Mv.of_ext (X:=fun _=>False) xg16) (fun _ hn _=>hn.elim)) l7' l8',rfl,pre,y,rfl,hpre,.inr ⟨by omega,by omega,hR.xt xg16⟩⟩
        ·refine I.ax (aM ?_)
         exact fun _ _=>⟨mU.keeps (mv16.trans (Mv.of_ext (X:=fun _=>False) xg16) (fun _ hn _=>hn.elim)) l7' l8',mU.keep (mv16.trans (Mv.of_ext (X:=fun _=>False) xg16) (fun _ hn _=>hn.elim)) hI.mv.size,hR.xt xg16,fun p hp=>(List.mem_append.1 hp).elim (hpre p) (fun hp=>by rw[List.mem_singleton.1 hp];omega)⟩
       ·have hstp:sc d i (pre++[y])=sc d i pre:=by rw[nH,Dl,hnn,if_neg (by omega)]
        refine I.ax (I.ab (I.af ?_))
        have mv16:Mv (fun k=>k=g7∨k=g8) W wg12:=Mv.of_ext (aE.trans e12 xg12)
        have hR:mU w61 g7 g8 (sc d i (pre++[y])) wg12:=by rw[hstp];exact hI.xt (aE.trans e12 xg12)
        refine I.bk 8 [109,114] (by kernel_rfl) (by kernel_rfl) Ig ?_
        refine av Ig Ig (fun w hw=>aj HE Ig (hw.cell_some (xg12.cell_some k3X.c0))) (an Ig Ig (aL (r:=I ((i+n':Nat):Int)) Ig Ig Ig (fun w _=>by have e:((i+n':Nat):Int)=(i:Int)+(n':Int):=(by omega);rw[e];exact aK (by omega) (by omega)) ?_))
        refine av Ig Ig (fun w hw=>aj HR Ig (hw.cell_some (xg12.cell_some k2X.c0))) (bm Ig Ig (aA Ig Ig (fun w hw=>aI (o:=0) HQ Ig (by kernel_rfl) Ig) ?_))
        refine av Ig Ig (fun w hw=>aj HF Ig (hw.cell_some (xg12.cell_some (k1X.cell (i:=0) Ig)))) (kW (vs:=[.slice A n c]) Ig Ig (fun w hw=>cc ((hdX.ext xg12).ext hw)) ?_)
        refine bn ?_
        intro wg16 xg16
        rintro _ rfl
        rintro _ rfl
        refine ai Ig Ig Ig (bJ) (ag (I.ab ?_))
        refine I.bi Ig (fun h115=>?_) (fun h115=>?_)
        ·refine I.ba (oM Ig ?_)
         exact fun _ _=>⟨mU.keeps (mv16.trans (Mv.of_ext (X:=fun _=>False) xg16) (fun _ hn _=>hn.elim)) l7' l8',rfl,pre,y,rfl,hpre,.inr ⟨by omega,by omega,hR.xt xg16⟩⟩
        ·refine I.ax (aM ?_)
         exact fun _ _=>⟨mU.keeps (mv16.trans (Mv.of_ext (X:=fun _=>False) xg16) (fun _ hn _=>hn.elim)) l7' l8',mU.keep (mv16.trans (Mv.of_ext (X:=fun _=>False) xg16) (fun _ hn _=>hn.elim)) hI.mv.size,hR.xt xg16,fun p hp=>(List.mem_append.1 hp).elim (hpre p) (fun hp=>by rw[List.mem_singleton.1 hp];omega)⟩
     ·refine I.bk 29 [2,3,7,8,10,11,77,96] (by kernel_rfl) (by kernel_rfl) Ig ?_
      refine av Ig Ig (fun w hw=>aj HE Ig (hw.cell_some k3X.c0)) (an Ig Ig (aL (r:=I ((i+n':Nat):Int)) Ig Ig Ig (fun w _=>by have e:((i+n':Nat):Int)=(i:Int)+(n':Int):=(by omega);rw[e];exact aK (by omega) (by omega)) ?_))
      refine av Ig Ig (fun w hw=>aj HR Ig (hw.cell_some k2X.c0)) (bm Ig Ig (aA Ig Ig (fun w hw=>aI (o:=0) HQ Ig (by kernel_rfl) Ig) ?_))
      refine av Ig Ig (fun w hw=>aj HF Ig (hw.cell_some (k1X.cell (i:=0) Ig))) (kW (vs:=[.slice A n c]) Ig Ig (fun w hw=>cc (hdX.ext hw)) ?_)
      refine aL Ig Ig Ig (fun w _=>eU h76 bb) (an Ig Ig (dU Ig Ig Ig (dU Ig Ig Ig (dU Ig Ig Ig (dU Ig Ig Ig (dU Ig Ig Ig (dU Ig Ig Ig ?_)))))))
      refine dU Ig Ig Ig (dU Ig Ig Ig (dU Ig Ig Ig (dU Ig Ig Ig (dU Ig Ig Ig (dU Ig Ig Ig (dU Ig Ig Ig (dU Ig Ig Ig (dU Ig Ig Ig (dU Ig Ig Ig ?_)))))))))
      refine dU Ig Ig Ig (dU Ig Ig Ig (dU Ig Ig Ig (bn ?_)))
      intro wg12 xg12
      rintro _ rfl
      rintro _ rfl
      rintro _ rfl
      rintro _ rfl
      rintro _ rfl
      rintro _ rfl
      rintro _ rfl
      rintro _ rfl
      refine aJ Ig Ig Ig (ag (I.ab (I.eS Ig (I.ba (aC (aC (aY (I.ab (I.af (I.af ?_))))))))))
      have hnn:ml d i (i-y.1.2)=n':=by
       first
       |(rw[hml,yE (by omega) (by omega),if_neg (fun e=>h97 e.symm)];rfl)
       |(rw[hml,zG (by omega)];rfl)
      refine I.aa Ig (ae Ig Ig (am Ig Ig (aj HE Ig (xg12.cell_some c7X.c0)) (ai Ig Ig Ig (cB) (ag (I.ab ?_)))))
      refine I.bi Ig (fun h102=>?_) (fun h102=>?_)
      ·have hstp:sc d i (pre++[y])=(n',i-y.1.2):=by rw[nH,Dl,hnn,if_pos (by omega)]
       have hS0:wg12.drew.cell? ⟨g3,0,none⟩=some (I (i:Int)):=(k3.ext (aE.trans e12 xg12).drew).c0
       obtain⟨w15,r15,gr15,k15⟩:=jz (P:=Tryz.prog) (t:=3) (v:=I (n':Int)) eW rfl (hI.c7.ext (aE.trans e12 xg12).drew)
       obtain⟨w16,r16,gr16,k16⟩:=jz (P:=Tryz.prog) (t:=3) (v:=I ((i-y.1.2:Nat):Int)) eW rfl ((hI.c8.ext (aE.trans e12 xg12).drew).other gr15 (fun e=>h78 (Option.some.inj e).symm))
       have h37:g3≠g7∧g3≠g8:=by omega
       have hS1:w15.cell? ⟨g3,0,none⟩=some (I (i:Int)):=((k3.ext (aE.trans e12 xg12).drew).other gr15 (fun e=>h37.1 (Option.some.inj e))).c0
       have hS2:w16.cell? ⟨g3,0,none⟩=some (I (i:Int)):=(((k3.ext (aE.trans e12 xg12).drew).other gr15 (fun e=>h37.1 (Option.some.inj e))).other gr16 (fun e=>h37.2 (Option.some.inj e))).c0
       refine I.t6 (fun w'=>w'.cell? ⟨g3,0,none⟩=some (I (i:Int))) 6 Ig (by kernel_rfl) Ig ?_
       refine li 0 Ig Ig (by kernel_rfl) Ig hS0 ?_
       refine fN 1 Ig Ig (by kernel_rfl) Ig hS0 (fun w' hS=>aj HE Ig hS) ?_
       refine li 2 Ig Ig (by kernel_rfl) Ig hS0 ?_
       refine Fy 3 (r:=I ((i-y.1.2:Nat):Int)) Ig Ig Ig (by kernel_rfl) Ig hS0 (fun w' _=>by have e:((i-y.1.2:Nat):Int)=(i:Int)-(y.1.2:Int):=(by omega);rw[e];exact aV (by omega) (by omega)) ?_
       refine cv 4 (by kernel_rfl) Ig (az Ig Ig r15 (aX hS1 ?_))
       refine cv 5 (by kernel_rfl) Ig (az Ig Ig r16 (aX hS2 ?_))
       refine mw (by kernel_rfl) ?_
       have mv16:Mv (fun k=>k=g7∨k=g8) W w16:=((Mv.of_ext (X:=fun k=>k=g7∨k=g8) (aE.trans e12 xg12).drew).trans (Mv.of_grown (X:=fun k=>k=g7∨k=g8) gr15 (fun k e _=>.inl (Option.some.inj e).symm)) (fun _ hn _=>hn)).trans (Mv.of_grown (X:=fun k=>k=g7∨k=g8) gr16 (fun k e _=>.inr (Option.some.inj e).symm)) (fun _ hn _=>hn)
       have hR:mU w61 g7 g8 (sc d i (pre++[y])) w16:=by rw[hstp];exact⟨k15.other gr16 (fun e=>h78 (Option.some.inj e)),k16,hI.mv.trans mv16 (fun _ hn _=>hn)⟩
       refine I.ab (I.af ?_)
       have k1:=mv16.blk k1 (n78 g (Nat.lt_of_lt_of_le (hf g (.inl rfl)) (aE.size x3')))
       have k3:=mv16.blk k3 (n78 g3 b3)
       have k2:=mv16.blk k2 (n78 g2 b2)
       have hdX:=hd.ext ((hI.mv.trans mv16 (fun _ hn _=>hn)).ext_from (h4.ext.trans xl) (fun k hk=>by have:=h3.ext.size;omega))
       refine I.bk 8 [109,114] (by kernel_rfl) (by kernel_rfl) Ig ?_
       refine av Ig Ig (fun w hw=>aj HE Ig (hw.cell_some k3.c0)) (an Ig Ig (aL (r:=I ((i+n':Nat):Int)) Ig Ig Ig (fun w _=>by have e:((i+n':Nat):Int)=(i:Int)+(n':Int):=(by omega);rw[e];exact aK (by omega) (by omega)) ?_))
       refine av Ig Ig (fun w hw=>aj HR Ig (hw.cell_some k2.c0)) (bm Ig Ig (aA Ig Ig (fun w hw=>aI (o:=0) HQ Ig (by kernel_rfl) Ig) ?_))
       refine av Ig Ig (fun w hw=>aj HF Ig (hw.cell_some (k1.cell (i:=0) Ig))) (kW (vs:=[.slice A n c]) Ig Ig (fun w hw=>cc (hdX.ext hw)) ?_)
       refine bn ?_
       intro wg16 xg16
       rintro _ rfl
       rintro _ rfl
       refine ai Ig Ig Ig (bJ) (ag (I.ab ?_))
       refine I.bi Ig (fun h115=>?_) (fun h115=>?_)
       ·refine I.ba (oM Ig ?_)
        exact fun _ _=>⟨mU.keeps (mv16.trans (Mv.of_ext (X:=fun _=>False) xg16) (fun _ hn _=>hn.elim)) l7' l8',rfl,pre,y,rfl,hpre,.inr ⟨by omega,by omega,hR.xt xg16⟩⟩
       ·refine I.ax (aM ?_)
        exact fun _ _=>⟨mU.keeps (mv16.trans (Mv.of_ext (X:=fun _=>False) xg16) (fun _ hn _=>hn.elim)) l7' l8',mU.keep (mv16.trans (Mv.of_ext (X:=fun _=>False) xg16) (fun _ hn _=>hn.elim)) hI.mv.size,hR.xt xg16,fun p hp=>(List.mem_append.1 hp).elim (hpre p) (fun hp=>by rw[List.mem_singleton.1 hp];omega)⟩
      ·have hstp:sc d i (pre++[y])=sc d i pre:=by rw[nH,Dl,hnn,if_neg (by omega)]
       refine I.ax (I.ab (I.af ?_))
       have mv16:Mv (fun k=>k=g7∨k=g8) W wg12:=Mv.of_ext (aE.trans e12 xg12)
       have hR:mU w61 g7 g8 (sc d i (pre++[y])) wg12:=by rw[hstp];exact hI.xt (aE.trans e12 xg12)
       refine I.bk 8 [109,114] (by kernel_rfl) (by kernel_rfl) Ig ?_
       refine av Ig Ig (fun w hw=>aj HE Ig (hw.cell_some (xg12.cell_some k3X.c0))) (an Ig Ig (aL (r:=I ((i+n':Nat):Int)) Ig Ig Ig (fun w _=>by have e:((i+n':Nat):Int)=(i:Int)+(n':Int):=(by omega);rw[e];exact aK (by omega) (by omega)) ?_))
       refine av Ig Ig (fun w hw=>aj HR Ig (hw.cell_some (xg12.cell_some k2X.c0))) (bm Ig Ig (aA Ig Ig (fun w hw=>aI (o:=0) HQ Ig (by kernel_rfl) Ig) ?_))
       refine av Ig Ig (fun w hw=>aj HF Ig (hw.cell_some (xg12.cell_some (k1X.cell (i:=0) Ig)))) (kW (vs:=[.slice A n c]) Ig Ig (fun w hw=>cc ((hdX.ext xg12).ext hw)) ?_)
       refine bn ?_
       intro wg16 xg16
       rintro _ rfl
       rintro _ rfl
       refine ai Ig Ig Ig (bJ) (ag (I.ab ?_))
       refine I.bi Ig (fun h115=>?_) (fun h115=>?_)
       ·refine I.ba (oM Ig ?_)
        exact fun _ _=>⟨mU.keeps (mv16.trans (Mv.of_ext (X:=fun _=>False) xg16) (fun _ hn _=>hn.elim)) l7' l8',rfl,pre,y,rfl,hpre,.inr ⟨by omega,by omega,hR.xt xg16⟩⟩
       ·refine I.ax (aM ?_)
        exact fun _ _=>⟨mU.keeps (mv16.trans (Mv.of_ext (X:=fun _=>False) xg16) (fun _ hn _=>hn.elim)) l7' l8',mU.keep (mv16.trans (Mv.of_ext (X:=fun _=>False) xg16) (fun _ hn _=>hn.elim)) hI.mv.size,hR.xt xg16,fun p hp=>(List.mem_append.1 hp).elim (hpre p) (fun hp=>by rw[List.mem_singleton.1 hp];omega)⟩
   ·rintro D0 xs W hD rfl ⟨hR,hp⟩ hDe
    have hB:mU w61 g7 g8 (cQ d i) W:=by
     have e:sc d i (Bc d i)=cQ d i:=wQ (suf:=[]) hi4 (ky d i) (fun p=>uJ d i p) (by simp) (fun p hq=>by obtain⟨y,hy,rfl⟩:=List.mem_map.1 hq;exact hp y hy) (by simp)
     rw[←e];exact hR
    refine aM (ab (af (bk 3 [4,117] (by kernel_rfl) (by kernel_rfl) ?_)))
    refine av Ig Ig (fun w hw=>aj HE Ig (hw.cell_some hB.c7.c0)) (av Ig Ig (fun w hw=>aj HE Ig (hw.cell_some hB.c8.c0)) ?_)
    refine du Ig Ig (bn ?_)
    intro wg17 xg17
    rintro _ rfl
    rintro _ rfl
    refine ac Ig Ig (ag (ab (ay (y6 Ig Ig Ig (xg17.heap_some hDe) ?_))))
    intro w9 hg9
    have mvl:Mv (fun k=>k=g7∨k=g8) w61 w9:=(hB.mv.trans (Mv.of_ext (X:=fun _=>False) xg17) (fun _ hn _=>hn.elim)).trans (Mv.of_grown (X:=fun k=>k=D0) hg9 (fun k e _=>(Option.some.inj e).symm)) (fun k hk hl=>by omega)
    have mva:Mv (jQ g m Y) w w9:=(((Mv.of_ext (X:=jQ g m Y) x3').trans mv4 (fun _ hn _=>hn)).trans (Mv.of_ext (X:=fun _=>False) xl) (fun _ hn _=>hn.elim)).trans mvl (fun k hk hl=>by have:=x2.size;have:=x3.size;omega)
    exact⟨_,rfl,rfl,i,Y',Nat.le_refl _,(h4.xt xl).mv mvl (fun k hk e=>by
     have:=(h4.low k hk).2
     have:=xg3.size
     have:=x7.size
     omega) (fun k hk=>by have:=h3.ext.size;omega),mva,fun k hk=>(hY4 k hk).imp_right (fun h=>by have:=x2.size;have:=x3.size;omega)⟩
   ·rintro D0 _ pre W hD hSp ⟨rfl,pre',y,rfl,hp,hcase⟩ hDe
    have hB:mU w61 g7 g8 (cQ d i) W:=by
     obtain⟨suf,hs⟩:=hSp
     have hps:∀p∈pre'.map (·.1.2),i-p≤4096:=fun p hq=>by obtain⟨z,hz,rfl⟩:=List.mem_map.1 hq;exact hp z hz
     rcases hcase with⟨hfar,hR⟩|⟨hnear,hfull,hR⟩
     ·have e:sc d i pre'=cQ d i:=wQ (suf:=y.1.2::suf.map (·.1.2)) hi4 (ky d i) (fun p=>uJ d i p) (by rw[←hs];simp) hps (fun p hq=>by
       have hsrt:=ky d i
       rw[←hs] at hsrt
       simp only[List.map_append,List.map_cons,List.append_assoc,List.cons_append,List.nil_append] at hsrt
       rcases List.mem_cons.1 hq with rfl|hq
       ·exact hfar
       ·have:=(List.pairwise_cons.1 (List.pairwise_append.1 hsrt).2.1).1 p hq
        omega)
      rw[←e];exact hR
     ·have e:sc d i (pre'++[y])=cQ d i:=by
       have:=A7 (pre:=pre'.map (·.1.2)) (x:=y.1.2) (suf:=suf.map (·.1.2)) hi4 (ky d i) (fun p=>uJ d i p) (by rw[←hs];simp) (fun p hq=>by
        rcases List.mem_append.1 hq with hq|hq
        ·exact hps p hq
        ·rw[List.mem_singleton.1 hq];exact hnear) hfull
       unfold sc
       rw[List.map_append];exact this
      rw[←e];exact hR
    refine ba (aY (ab (af (bk 3 [4,117] (by kernel_rfl) (by kernel_rfl) ?_))))
    refine av Ig Ig (fun w hw=>aj HE Ig (hw.cell_some hB.c7.c0)) (av Ig Ig (fun w hw=>aj HE Ig (hw.cell_some hB.c8.c0)) ?_)
    refine du Ig Ig (bn ?_)
    intro wg17 xg17
    rintro _ rfl
    rintro _ rfl
    refine ac Ig Ig (ag (ab (ay (y6 Ig Ig Ig (xg17.heap_some hDe) ?_))))
    intro w9 hg9
    have mvl:Mv (fun k=>k=g7∨k=g8) w61 w9:=(hB.mv.trans (Mv.of_ext (X:=fun _=>False) xg17) (fun _ hn _=>hn.elim)).trans (Mv.of_grown (X:=fun k=>k=D0) hg9 (fun k e _=>(Option.some.inj e).symm)) (fun k hk hl=>by omega)
    have mva:Mv (jQ g m Y) w w9:=(((Mv.of_ext (X:=jQ g m Y) x3').trans mv4 (fun _ hn _=>hn)).trans (Mv.of_ext (X:=fun _=>False) xl) (fun _ hn _=>hn.elim)).trans mvl (fun k hk hl=>by have:=x2.size;have:=x3.size;omega)
    exact⟨_,rfl,rfl,i,Y',Nat.le_refl _,(h4.xt xl).mv mvl (fun k hk e=>by
     have:=(h4.low k hk).2
     have:=xg3.size
     have:=x7.size
     omega) (fun k hk=>by have:=h3.ext.size;omega),mva,fun k hk=>(hY4 k hk).imp_right (fun h=>by have:=x2.size;have:=x3.size;omega)⟩
end Go.Rl
namespace Go.Rl
open Go.RowKit Go.Proofs
theorem nI:aw Tryz.prog 150:=⟨_,Tryz.func150,by kernel_rfl,rfl⟩
theorem rx:aw Tryz.prog 116:=⟨_,Tryz.func116,by kernel_rfl,rfl⟩
structure zI (wb:World) (d:List UInt8) (g m c nx:Nat) (O:List UInt8) (Y:Nat→Prop) (v:Value) (w:World):Prop where
 fnd:yF wb d g m nx Y w
 cell:bI c 22 [v] w
 own:bZ wb.heap.size O v w
 nc:¬jQ g m Y c
 nv:∀k,v.ownBlock=some k→¬jQ g m Y k
 low:wb.heap.size≤c
def DA (wb:World) (d:List UInt8) (g m c nx:Nat) (O:List UInt8) (w:World):Prop:=∃Y v,zI wb d g m c nx O Y v w
section
variable {wb w w':World} {d O O':List UInt8} {g m c nx:Nat} {Y:Nat→Prop} {v v':Value}
theorem zI.xt (h:zI wb d g m c nx O Y v w) (hx:aE w w'):zI wb d g m c nx O Y v w':=⟨h.fnd.xt hx,h.cell.ext hx,h.own.ext hx,h.nc,h.nv,h.low⟩
theorem zI.outs (h:zI wb d g m c nx O Y v w) (hm:Mv (fun k=>k=c∨v.ownBlock=some k) w w') (hc:bI c 22 [v'] w') (ho:bZ wb.heap.size O' v' w') (hv:v'.ownBlock=v.ownBlock∨∀k,v'.ownBlock=some k→w.heap.size≤k):zI wb d g m c nx O' Y v' w':=
 ⟨h.fnd.mv hm (fun k hk e=>e.elim (fun e=>h.nc (e▸hk)) (fun e=>h.nv k e hk)) (fun k hk=>hk.elim (fun e=>e▸h.low) (fun e=>h.own.ge k e)),hc,ho,h.nc,fun k hk hf=>by
  rcases hv with e|e
  ·exact h.nv k (e▸hk) hf
  ·have:=(h.fnd.low k hf).2
   have:=e k hk
   omega,h.low⟩
theorem zI.found {nx':Nat} {Y':Nat→Prop} (h:zI wb d g m c nx O Y v w) (hf:yF wb d g m nx' Y' w') (hm:Mv (jQ g m Y) w w') (hY:∀k,Y' k→Y k∨w.heap.size≤k):zI wb d g m c nx' O Y' v w':=by
 have hlt:c<w.heap.size:=h.cell.lt
 have key:∀k,k<w.heap.size→¬jQ g m Y k→¬jQ g m Y' k:=fun k hk hn hf=>hf.elim (fun e=>hn (.inl e)) fun e=>e.elim (fun e=>hn (.inr (.inl e))) fun e=>(hY k e).elim (fun e=>hn (.inr (.inr e))) fun e=>by omega
 refine⟨hf,hm.blk h.cell h.nc,hm.ownB h.own h.nv,key c hlt h.nc,fun k hk=>key k ?_ (h.nv k hk),h.low⟩
 obtain⟨n,ho⟩:=h.own
 exact(World.ownsRow.lt ho k hk).2
end
theorem zI.grew {wb wa w1 w2:World} {d O O':List UInt8} {g m c nx:Nat} {Y:Nat→Prop} {v v':Value} (h:zI wb d g m c nx O Y v wa) (hg:fh wa w1 v v') (ho:bZ wb.heap.size O' v' w1) (h2:w1.grownBy w2 (some c)) (hc:bI c 22 [v'] w2) (hvc:v'.ownBlock≠some c):zI wb d g m c nx O' Y v' w2:=
 h.outs ((Mv.of_grown (X:=fun k=>k=c∨v.ownBlock=some k) hg.grown (fun _ e _=>.inr e)).trans (Mv.of_grown (X:=fun k=>k=c∨v.ownBlock=some k) h2 (fun _ e _=>.inl (Option.some.inj e).symm)) (fun _ hn _=>hn)) hc (ho.kept h2 (.inr hvc)) hg.own
theorem bZ.cells {base:Nat} {l:List UInt8} {v:Value} {w:World} (h:bZ base l v w) {k:Nat} (hk:v.ownBlock=some k):∃cs f,w.heap[k]? =some (.cells cs 5 f):=by
 obtain⟨n,h1,h2⟩:=h
 rcases h2 with⟨rfl,_⟩|⟨g,cap,cur,rfl,h3,h4,h5⟩
 ·cases hk
 ·obtain rfl:g=k:=Option.some.inj hk
  exact⟨_,_,h4⟩
theorem bZ.ne_cell {base c:Nat} {l:List UInt8} {v u:Value} {w:World} (h:bZ base l v w) (hc:bI c 22 [u] w):v.ownBlock≠some c:=fun hk=>by
 obtain⟨cs,f,h1⟩:=h.cells hk
 rw[hc] at h1
 simp at h1
theorem DB {wb w:World} {d O:List UInt8} {g m c nx n:Nat} (h:DA wb d g m c nx O w) (hO:O.length≤70368744177664) (hn:n≤9223372036854775807):
 Calls Tryz.prog 150 #[I (n:Int),.pointer (some ⟨c,0,none⟩)] w (bL fun _ w'=>DA wb d g m c nx (O++uv n) w'):=by
 refine enter (vs:=[I (n:Int),.pointer (some ⟨c,0,none⟩)]) Tryz.func150 Ig Ig Ig ?_
 obtain⟨Y,v,hp⟩:=h
 have kc:=hp.cell
 refine bk 4 [1,3,6] (by kernel_rfl) (by kernel_rfl) ?_
 refine av Ig Ig (fun w hw=>aj HF Ig (hw.cell_some kc.c0)) (an Ig Ig (cP Ig Ig (fun w hw=>dT HE HD) ?_))
 refine bM (S:=bQ (uv n)) ip (bQ.stable _) rfl (fun w hw=>by rintro _ rfl _ rfl;exact bL.mono (iq (bQ.nil _) (by simp)) fun v w' h=>⟨h.1,by have:=h.2.bts;rw[List.nil_append,n64 (by omega)] at this;exact this⟩) ?_
 refine bn ?_
 intro wg0 xg0
 rintro _ rfl
 rintro _ hq3
 obtain rfl:=Eq.symm hq3
 intro vg6 b6
 have hp:=hp.xt xg0
 have hul:=dO (n:=n) (by omega)
 obtain⟨v7,w7,r7,o7,g7⟩:=dc (ty:=22) hp.own b6 (by omega) (Nat.le_trans hp.fnd.ext.size (Nat.le_refl _))
 refine aZ Ig Ig r7 ?_
 have kc7:=hp.cell.other g7.grown (fun e=>(hp.own.ne_cell hp.cell) e.symm)
 obtain⟨w8,r8,g8,k8⟩:=jz (P:=Tryz.prog) (t:=22) (v:=v7) cl (by obtain⟨A,n,c,rfl,_⟩:=id o7.bts;rfl) kc7
 refine az Ig Ig (r8) (ag (fq Ig ?_))
 exact⟨_,rfl,Y,v7,hp.grew g7 o7 g8 k8 (o7.ne_cell kc7)⟩
theorem nJ {wb w:World} {d O:List UInt8} {g m c nx n:Nat} {Y:Nat→Prop} {v:Value} (h:zI wb d g m c nx O Y v w) (hO:O.length≤70368744177664) (hn:n≤9223372036854775807):
 Calls Tryz.prog 150 ((#[]:Array Value)++[I (n:Int)].toArray++ #[.pointer (some ⟨c,0,none⟩)]) w (bL fun _ w'=>DA wb d g m c nx (O++uv n) w'):=by
 have:=DB ⟨Y,v,h⟩ hO hn
 simpa using this
theorem yI:(Tryz.prog.info? 22).map (·.zero)=some (some (.slice none 0 0)):=by kernel_rfl
theorem wY:(Tryz.prog.info? 235).map (·.zero)=some (some (.agg #[.slice none 0 0,.map none,.int .i64 0])):=by kernel_rfl
theorem DC:(Tryz.prog.info? 233).map (·.size)=some 1:=by kernel_rfl
theorem f5.new {base:Nat} {d:List UInt8} {w:World} {m:Nat} (h:w.heap[m]? =some (.map #[] 0)):f5 base d m 0 (fun _=>False) w:=
 ⟨[],0,h,fun e he=>by simp at he,fun i j e f hi=>by simp at hi,fun q hq=>absurd (Dk d q) hq⟩
theorem ry {w:World} {d:List UInt8} {v:Value} (hv:bQ d v w) (hl:d.length≤1099511627776):
 Calls Tryz.prog 116 #[v] w (bL fun r w'=>aE w w'∧bQ (cj d) r w'):=by
 refine enter (vs:=[v]) Tryz.func116 Ig Ig Ig ?_
 have hpl:=ru (d:=d) (by omega)
 obtain⟨A,n,c0,rfl,_⟩:=id hv
 refine af (aa (ac Ig Ig (ag (ab (af (aa (ae Ig Ig ?_)))))))
 refine z7 Ig ?_
 obtain⟨w1,hw1⟩:∃w1,w1=w.alloc (.map #[] 0):=⟨_,rfl⟩
 have x1:aE w w1:=hw1▸aE.new w _
 have m1:w1.heap[w.heap.size]? =some (.map #[] 0):=by rw[hw1];exact heap_alloc_new w _
 rw[←hw1]
 refine bA (vs:=[(0,.slice A n c0),(1,.map (some w.heap.size))]) Ig Ig (r:=.agg #[.slice A n c0,.map (some w.heap.size),I 0]) (by simp[Instr.build,run_underlying Tryz.underlying235,qj wY,dy cl,dy DC,Instr.fill,Value.cells,I]) ?_
 refine cI Ig Ig (m4) ?_
 obtain⟨w2,hw2⟩:∃w2,w2=w1.alloc (.cells (Value.agg #[.slice A n c0,.map (some w.heap.size),I 0]).cells 235):=⟨_,rfl⟩
 have x2:aE w1 w2:=hw2▸aE.new w1 _
 have k2:bI w1.heap.size 235 [.slice A n c0,.map (some w.heap.size),I ((0:Nat):Int)] w2:=by rw[hw2];exact heap_alloc_new w1 _
 rw[←hw2]
 obtain⟨g,hg⟩:∃g,g=w1.heap.size:=⟨_,rfl⟩
 obtain⟨m,hm⟩:∃m,m=w.heap.size:=⟨_,rfl⟩
 rw[←hg,←hm] at k2
 have hmg:m<g:=by have:=(Array.getElem?_eq_some_iff.1 m1).1;omega
 have fnd0:yF w d g m 0 (fun _=>False) w2:=⟨x1.trans x2,fun k hk=>by
  have:=k2.lt
  have:=x1.size
  rcases hk with rfl|rfl|hk
  ·exact⟨by omega,k2.lt⟩
  ·exact⟨by omega,by omega⟩
  ·exact hk.elim,id,id,by omega,⟨A,n,c0,k2,hv⟩,f5.new (by rw[hm];exact x2.heap_some m1)⟩
 rw[←hg]
 refine ac Ig Ig (ag (ab (af (aa (ae Ig Ig (aO Ig Ig (cc (hv.ext (x1.trans x2))) (aN Ig Ig (dT HE HD) ?_)))))))
 refine ak ip Ig Ig (iq (bQ.nil _) (by simp)) ?_
 rintro v17 w17 ⟨x17,o17⟩
 rw[List.nil_append,n64 (by omega)] at o17
 obtain⟨g4,w4,hr4,l4,x4,k4⟩:=aR (P:=Tryz.prog) (w:=w17) (l:=[.slice none 0 0]) yI rfl
 refine aU Ig hr4 ?_
 obtain⟨w5,r5,g5,k5⟩:=jz (P:=Tryz.prog) (t:=22) (v:=v17) cl (by obtain⟨A,n,c,rfl,_⟩:=id o17.bts;rfl) k4
 refine az Ig Ig (r5) ?_
 have x5:aE w2 w5:=aE.of_new (w:=w2) (x17.trans x4) g5 (Nat.le_trans x17.size l4)
 have own5:bZ w.heap.size (uv d.length) v17 w5:=by
  obtain⟨n',hn'⟩:=(o17.ext x4).kept g5 (.inr (o17.ext x4|>.ne_cell k4))
  exact⟨n',ft hn' (fun k hk=>Nat.le_trans (x1.trans x2).size (o17.ge k hk))⟩
 have pst0:DA w d g m g4 0 (uv d.length) w5:=⟨fun _=>False,v17,fnd0.xt x5,k5,own5,fun hf=>by
  rcases hf with rfl|rfl|hf
  ·have:=k2.lt;have:=x17.size;omega
  ·have:=k2.lt;have:=x17.size;omega
  ·exact hf,fun k hk hf=>by
  have:=o17.ge k hk
  rcases hf with rfl|rfl|hf
  ·have:=k2.lt;omega
  ·have:=k2.lt;omega
  ·exact hf,Nat.le_trans (x1.trans x2).size (Nat.le_trans x17.size l4)⟩
 refine ag (ab (af (aa (ac Ig Ig (ag (ab (af (aa ?_))))))))
 refine mq (us:=[]) (vs:=[.pointer (some ⟨g4,0,none⟩)]) Ig Ig Ig ?_
 refine ac Ig Ig (ag (ab (af (af (aa (ac Ig Ig (ag (ab (au ?_)))))))))
 refine j2 (fun(i:Nat) (run:Nat) (O:List UInt8)=>[(0,.slice A n c0),(3,.pointer (some ⟨g,0,none⟩)),(4,.pointer (some ⟨g4,0,none⟩)),(5,I (run:Int)),(6,.func (.func 150) #[] #[.pointer (some ⟨g4,0,none⟩)]),(7,I (i:Int))]) (fun(i:Nat) (run:Nat) (O:List UInt8) w'=>i≤d.length∧run≤i∧(∃nx,nx≤i∧DA w d g m g4 nx O w')∧O++pk d i run=cj d) (fun(i:Nat) (run:Nat) (O:List UInt8)=>d.length-i) (0) (0) (uv d.length) ⟨rfl,rfl,rfl,rfl,rfl,rfl,trivial⟩ ⟨by omega,by omega,⟨0,by omega,pst0⟩,rfl⟩ ?_
 rintro i run O w6 ⟨hi,hri,⟨nx,hnx,Y,vo,hp⟩,hq⟩
 refine af (af ?_)
 have hOl:O.length≤(cj d).length:=by rw[←hq,List.length_append];omega
 refine aa (ae Ig Ig (ae Ig Ig (aO Ig Ig (cc (hv.ext hp.fnd.ext)) (ai Ig Ig Ig (bb) (ag (ab ?_))))))
 refine bi Ig (fun h22=>?_) (fun h22=>?_)
 ·refine ax (ab (au (af (aa (ae Ig Ig (ae Ig Ig (ak yD Ig Ig ((yH hp.fnd hnx hi hl)) ?_)))))))
  rintro v26 w26 ⟨rfl,nx',Y',hnx',f26,mv26,hY26⟩
  have x26:=f26.ext
  have hp26:=hp.found f26 mv26 hY26
  refine ae Ig Ig (al Ig Ig (bw) (al Ig Ig (bz) (ac Ig Ig (ac Ig Ig (ag (ab (af (af (aa (ae Ig Ig (ai Ig Ig Ig (bJ) ?_)))))))))))
  refine ag (ab ?_)
  refine bi Ig (fun h30=>?_) (fun h30=>?_)
  ·have hb0:(cQ d i).1=0:=by omega
   refine af (aa (ae Ig Ig (ai (r:=I ((i+1:Nat):Int)) Ig Ig Ig (by have e:((i+1:Nat):Int)=(i:Int)+1:=(by omega);rw[e];exact aK (by omega) (by omega)) ?_)))
   refine ac Ig Ig (ag (ab (af (aa (ae Ig Ig (ai (r:=I ((run+1:Nat):Int)) Ig Ig Ig (by have e:((run+1:Nat):Int)=(run:Int)+1:=(by omega);rw[e];exact aK (by omega) (by omega)) ?_))))))
   refine ac Ig Ig (ag (ab (ba (aC (aY ?_)))))
   refine gj (i+1) (run+1) (O) ⟨rfl,rfl,rfl,rfl,rfl,rfl,trivial⟩ ⟨by omega,by omega,⟨nx',by omega,Y',vo,hp26⟩,by rw[rn (by omega) hb0] at hq;exact hq⟩ (by omega)
  ·have hb0:(cQ d i).1≠0:=by omega
   obtain⟨h4,h1,h2,h3,_,h5⟩:=nE hb0
   rw[nF (by omega) hb0] at hq
   obtain⟨L,hL⟩:∃L,L=(d.drop (i-run)).take run:=⟨_,rfl⟩
   rw[←hL] at hq
   have hLl:L.length=run:=by rw[hL,List.length_take,List.length_drop];omega
   have u1:=dO (n:=run) (by omega)
   have u2:=dO (n:=(cQ d i).1-4) (by omega)
   refine ax (ab (af (aa (ae Ig Ig (ae Ig Ig (nf Ig nI Ig Ig ((nJ hp26 (by omega) (by omega))) ?_))))))
   rintro v37 w37 ⟨Y1,v1,p37⟩
   have x37:=p37.fnd.ext
   refine ag (ab (af ?_))
   have kc:=p37.cell
   refine bk 7 [0,3,4,6,7,8,9,38,44] (by kernel_rfl) (by kernel_rfl) ?_
   refine av Ig Ig (fun w hw=>aj HF Ig (hw.cell_some kc.c0)) (an Ig Ig (an Ig Ig (an Ig Ig (aL (r:=I ((i-run:Nat):Int)) Ig Ig Ig (fun w _=>by have e:((i-run:Nat):Int)=(i:Int)-(run:Int):=(by omega);rw[e];exact aV (by omega) (by omega)) ?_))))
   refine an Ig Ig ?_
   obtain⟨v44,p44,b44⟩:=u9 (hv.ext x37) (lo:=i-run) (hi:=i) (by omega) (by omega) .i64 .i64
   refine j0 Ig Ig Ig Ig (fun w _=>p44 w) (bn ?_)
   intro wg12 xg12
   rintro _ rfl
   rintro _ rfl
   rintro _ rfl
   rintro _ rfl
   rintro _ rfl
   rintro _ rfl
   rintro _ rfl
   rintro _ hq38
   obtain rfl:=Eq.symm hq38
   rintro _ hq44
   obtain rfl:=Eq.symm hq44
   have b45:bQ L v44 wg12:=by have:=b44;rw[List.drop_take,show i-(i-run)=run by omega,←hL] at this;exact this.ext xg12
   have p12:=p37.xt xg12
   obtain⟨v45,w45,r45,o45,g45⟩:=dc (ty:=22) p12.own b45 (by simp only[List.length_append];omega) p12.fnd.ext.size
   refine aZ Ig Ig r45 ?_
   have kc45:=p12.cell.other g45.grown (fun e=>(p12.own.ne_cell p12.cell) e.symm)
   obtain⟨w46,r46,g46,k46⟩:=jz (P:=Tryz.prog) (t:=22) (v:=v45) cl (by obtain⟨A,n,c,rfl,_⟩:=id o45.bts;rfl) kc45
   refine az Ig Ig (r46) ?_
   have p46:=p12.grew g45 o45 g46 k46 (o45.ne_cell kc45)
   have x46:=p46.fnd.ext
   refine ag (ab (af (aa (ae Ig Ig (ae Ig Ig (ai (r:=I (((cQ d i).1-4:Nat):Int)) Ig Ig Ig (by have e:(((cQ d i).1-4:Nat):Int)=((cQ d i).1:Int)-4:=(by omega);rw[e];exact aV (by omega) (by omega)) ?_))))))
   refine nf Ig nI Ig Ig ((nJ p46 (by simp only[List.length_append];omega) (by omega))) ?_
   rintro v49 w49 ⟨Y2,v2,p49⟩
   have x49:=p49.fnd.ext
   refine ag (ab (af (aa (ae Ig Ig (ae Ig Ig (ai (r:=I (((cQ d i).2-1:Nat):Int)) Ig Ig Ig (by have e:(((cQ d i).2-1:Nat):Int)=((cQ d i).2:Int)-1:=(by omega);rw[e];exact aV (by omega) (by omega)) ?_))))))
   refine nf Ig nI Ig Ig ((nJ p49 (by simp only[List.length_append];omega) (by omega))) ?_
   rintro v53 w53 p53
   have x53:=(p53.elim fun _ h=>h.elim fun _ h=>h.fnd.ext)
   refine ag (ab (af (aa (ae Ig Ig (ae Ig Ig (ai (r:=I ((i+(cQ d i).1:Nat):Int)) Ig Ig Ig (by have e:((i+(cQ d i).1:Nat):Int)=(i:Int)+((cQ d i).1:Int):=(by omega);rw[e];exact aK (by omega) (by omega)) ?_))))))
   refine ac Ig Ig (ag (ab (aa (ac Ig Ig (ag (aM ?_))))))
   refine gj (i+(cQ d i).1) (0) (O++uv run++L++uv ((cQ d i).1-4)++uv ((cQ d i).2-1)) ⟨rfl,rfl,rfl,rfl,rfl,rfl,trivial⟩ ⟨h5,by omega,⟨nx',by omega,p53⟩,by rw[←hq];simp only[List.append_assoc]⟩ (by omega)
 ·have hie:i=d.length:=by omega
  rw[ro (by omega)] at hq
  refine ba (aC (aC (aY (ab (af (af (aa (ae Ig Ig (ai Ig Ig Ig (cB) (ag (ab ?_)))))))))))
  refine bi Ig (fun h58=>?_) (fun h58=>?_)
  ·rw[if_pos (by omega)] at hq
   have u1:=dO (n:=run) (by omega)
   refine af (aa (ae Ig Ig (ae Ig Ig (nf Ig nI Ig Ig ((nJ hp (by omega) (by omega))) ?_))))
   rintro v61 w61 ⟨Y1,v1,p61⟩
   have x61:=p61.fnd.ext
   refine ag (ab ?_)
   have kc:=p61.cell
   refine bk 7 [4,62,68] (by kernel_rfl) (by kernel_rfl) ?_
   refine av Ig Ig (fun w hw=>aj HF Ig (hw.cell_some kc.c0)) (an Ig Ig (an Ig Ig (kW (vs:=[.slice A n c0]) Ig Ig (fun w hw=>cc ((hv.ext x61).ext hw)) ?_)))
   refine an Ig Ig (aL (r:=I ((d.length-run:Nat):Int)) Ig Ig Ig (fun w _=>by have e:((d.length-run:Nat):Int)=(d.length:Int)-(run:Int):=(by omega);rw[e];exact aV (by omega) (by omega)) ?_)
   obtain⟨v68,p68,b68⟩:=i0 (hv.ext x61) (lo:=d.length-run) (by omega) .i64
   refine j0 Ig Ig Ig Ig (fun w _=>p68 w) (bn ?_)
   intro wg19 xg19
   rintro _ rfl
   rintro _ hq62
   obtain rfl:=Eq.symm hq62
   rintro _ hq68
   obtain rfl:=Eq.symm hq68
   have p19:=p61.xt xg19
   obtain⟨v69,w69,r69,o69,g69⟩:=dc (ty:=22) p19.own (b68.ext xg19) (by simp only[List.length_append,List.length_drop];omega) p19.fnd.ext.size
   refine aZ Ig Ig r69 ?_
   have kc69:=p19.cell.other g69.grown (fun e=>(p19.own.ne_cell p19.cell) e.symm)
   obtain⟨w70,r70,g70,k70⟩:=jz (P:=Tryz.prog) (t:=22) (v:=v69) cl (by obtain⟨A,n,c,rfl,_⟩:=id o69.bts;rfl) kc69
   refine az Ig Ig (r70) ?_
   have p70:=p19.grew g69 o69 g70 k70 (o69.ne_cell kc69)
   refine ag (ab (af (aa (am Ig Ig (aj HF Ig k70.c0) (ac Ig Ig (ag (ab (ay (aD Ig Ig ?_)))))))))
   exact⟨_,rfl,p70.fnd.ext,by rw[←hq,←List.append_assoc];exact p70.own.bts⟩
  ·rw[if_neg (by omega),List.append_nil] at hq
   refine ax (ab (af ?_))
   have kc:=hp.cell
   refine aa (am Ig Ig (aj HF Ig kc.c0) (ac Ig Ig (ag (ab (ay (aD Ig Ig ?_))))))
   exact⟨_,rfl,hp.fnd.ext,by rw[←hq];exact hp.own.bts⟩
end Go.Rl

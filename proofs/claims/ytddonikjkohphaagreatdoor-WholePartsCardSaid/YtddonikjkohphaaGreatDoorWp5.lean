/- Part 5 of a proof: plain facts and walks of functions, merged by a program. Conditions: each lemma names its own. -/
import Derived.Test.YtddonikjkohphaaGreatDoorWp4
namespace Go.Rl
open Go.RowKit Go.Proofs
theorem GB:Tryz.prog.eqGuardType Tryz.prog.depth 362=false:=by kernel_rfl
theorem J6 {w:World} {x y:Operand} {r s:Bc}:(bin .eql 362 x y (.agg #[I r.kd,I r.ix,I r.lo,I r.hi]) (.agg #[I s.kd,I s.ix,I s.lo,I s.hi])).run Tryz.prog w=.ok (B (decide (r=s))) w:=by
 have h:(Op.equal 362 (.agg #[I r.kd,I r.ix,I r.lo,I r.hi]) (.agg #[I s.kd,I s.ix,I s.lo,I s.hi])).run Tryz.prog w=.ok (decide (r=s)) w:=by
  show(Op.equalIn (9999+1) 362 _ _).run Tryz.prog w=_
  rw[run_equalIn_struct w 9999 362 _ _ (by kernel_rfl) (by kernel_rfl)]
  simp only[Program.fieldsOf,Tryz.underlying362]
  obtain⟨a,b,c,d⟩:=r
  obtain⟨a',b',c',d'⟩:=s
  by_cases h1:a=a'<;>by_cases h2:b=b'<;>by_cases h3:c=c'<;>by_cases h4:d=d'<;>simp[Op.eqFields,part,I,Tryz.underlying3,run_equalIn_int _ 9998 3 .i64 .i64,h1,h2,h3,h4]
 show(do eqGuard .eql 362 x y (.agg _) (.agg _);binOp .eql 362 (.agg _) (.agg _):Sem Value).run Tryz.prog w=_
 rw[Sem.run_bind,run_eqGuard_agg (hm:=GB),Result.andThen_ok]
 show(do pure (Value.bool (←Op.equal _ _ _)):Sem Value).run Tryz.prog w=_
 rw[Sem.run_bind,h];rfl
def pt:List eh→Nat
 |[]=>0
 |x::l=>bt x.co+pt l
theorem iT:∀a b:List eh,pt (a++b)=pt a+pt b
 |[],b=>by simp[pt]
 |x::a,b=>by simp only[List.cons_append,pt,iT a b];omega
theorem BY {a b:List eh} (h:a.Perm b):pt a=pt b:=by
 induction h with
 |nil=>rfl
 |cons x _ ih=>simp only[pt,ih]
 |swap x y l=>simp only[pt];omega
 |trans _ _ h1 h2=>exact h1.trans h2
theorem IR {L:List eh} {i:Nat} (h:i<L.length):pt (L.take (i+1))=pt (L.take i)+bt L[i].co:=by
 rw[kk h,iT];simp[pt]
theorem LH (L:List eh) (i:Nat):pt (L.take i)≤pt L:=by
 have:=iT (L.take i) (L.drop i)
 rw[List.take_append_drop] at this
 omega
def E2 (l m:List eh):Prop:=m.length≤l.length∧(∀x∈m,0≤x.co)∧pt m≤pt l+2*l.length∧∀a,l=[a]→0<a.co→m=[a]
def s8 (L:List eh) (i:Nat) (m:List eh):Prop:=i≤L.length∧m.length≤i∧(∀x∈m,0≤x.co)∧pt m≤pt (L.take i)+2*m.length∧∀a,L=[a]→(i=0→m=[])∧(i=1→0<a.co→m=[a])
def yO (L:List eh) (i0 i:Nat) (c:Rat):Prop:=i0≤i∧i≤L.length∧0≤c∧bt c+pt (L.take i0)≤2+pt (L.take i)∧∀a,L=[a]→(i=0→c=0)∧(i=1→c=a.co)
theorem yO.step {L:List eh} {i0 i:Nat} {c:Rat} (h:yO L i0 i c) (hi:i<L.length) (h0:0≤L[i].co):yO L i0 (i+1) (c+L[i].co):=by
 obtain⟨h1,h2,h3,h4,h5⟩:=h
 have h6:=gP c L[i].co
 refine⟨by omega,by omega,by grind,by rw[IR hi];omega,fun a ha=>⟨fun h=>by omega,fun h=>?_⟩⟩
 subst ha
 obtain rfl:i=0:=by omega
 rw[(h5 a rfl).1 rfl]
 show 0+a.co=a.co
 grind
theorem s8.app {L:List eh} {i0 i:Nat} {m:List eh} {c:Rat} (h:s8 L i0 m) (hI:yO L i0 i c) (hlt:i0<i) (h0:i0<L.length):s8 L i (m++[⟨L[i0].row,c⟩]):=by
 obtain⟨a1,a2,a3,a5,a4⟩:=h
 obtain⟨b1,b2,b3,b4,b5⟩:=hI
 refine⟨b2,by rw[List.length_append];simp only[List.length_cons,List.length_nil];omega,fun x hx=>?_,?_,fun a ha=>⟨fun h=>by omega,fun h hp=>?_⟩⟩
 ·rcases List.mem_append.1 hx with hx|hx
  ·exact a3 x hx
  ·obtain rfl:x=⟨L[i0].row,c⟩:=by simpa using hx
   exact b3
 ·rw[iT,List.length_append]
  simp only[pt,List.length_cons,List.length_nil]
  omega
 ·subst ha
  obtain rfl:i0=0:=by omega
  rw[(a4 a rfl).1 rfl,(b5 a rfl).2 h]
  rfl
theorem s8.skip {L:List eh} {i0 i:Nat} {m:List eh} {c:Rat} (h:s8 L i0 m) (hI:yO L i0 i c) (hlt:i0<i) (hc:¬0<c):s8 L i m:=by
 obtain⟨a1,a2,a3,a5,a4⟩:=h
 obtain⟨b1,b2,b3,b4,b5⟩:=hI
 have hbc:=zw c
 refine⟨b2,by omega,a3,by omega,fun a ha=>⟨fun h=>by omega,fun h hp=>?_⟩⟩
 have:=(b5 a ha).2 h
 rw[this] at hc
 exact absurd hp hc
theorem s8.done {L l:List eh} {m:List eh} (hp:L.Perm l) (h:s8 L L.length m):E2 l m:=by
 obtain⟨a1,a2,a3,a5,a4⟩:=h
 rw[List.take_length] at a5
 refine⟨by rw[←hp.length_eq];exact a2,a3,by rw[←BY hp,←hp.length_eq];omega,fun a ha hc=>?_⟩
 subst ha
 have hL:L=[a]:=List.perm_singleton.1 hp
 exact(a4 a hL).2 (by rw[hL];rfl) hc
theorem rI {w:World} {l:List eh} {v:Value} {b0:Nat} (hb0:b0≤w.heap.size) (hv:cF iI l v w) (hl:l.length≤19) (h0:∀x∈l,0≤x.co) (hb:pt l≤17179869180):
 Calls Tryz.prog 386 #[v] w (cA fun r w'=>aH w w'∧gQ (qq (E2 l) fun m=>gI b0 m) (Is (I 0)) r w'):=by
 have hbe:∀x∈l,bt x.co≤17179869180:=fun x hx=>by
  obtain⟨a,b,rfl⟩:=List.append_of_mem hx
  rw[iT] at hb
  simp only[pt] at hb
  omega
 refine enter Tryz.func386 J J J (bc (aa J J (aa J J (aI (aj (bc (ab J J (aq Db J J ((by have h:=De (g:=fun _=>false) hv DA (cs:=[]) (fun m hm W v hx hv=>DD hv (h0 m hm) (by have:=hbe m hm;omega));rw[t5] at h;exact h)) ?_))))))))
 rintro v10 w10 ⟨x10,rfl⟩
 refine aI (bU J (aA (ah (bc (ab J J (aq Al J J ((An ((hv.ext x10)) (by omega))) ?_))))))
 rintro v12 w12 ⟨x12,o12⟩
 refine aa J J (dR (ab J J (aq BV J J ((BX o12 hl)) ?_)))
 rintro v14 w14 ⟨q14,m14,L,hpL,hL⟩
 have x14:=aH.of_grew x12 ⟨q14,.inl rfl⟩ o12.ge
 have hLl:=hpL.length_eq
 have hLb:=BY hpL
 have hL0:∀x∈L,0≤x.co:=fun x hx=>h0 x (hpL.mem_iff.1 hx)
 have hLe:∀x∈L,bt x.co≤17179869180:=fun x hx=>hbe x (hpL.mem_iff.1 hx)
 have dL:cF iI L v12 w14:=gI.dsv hL
 refine dR (aa J J (aI (aj (bc (aa J J (aI (aJ (fi (fun(i0:Nat) (m:List eh) (xo:Value)=>[(4,v12),(5,xo),(6,I (i0:Int))]) (fun(i0:Nat) (m:List eh) (xo:Value) w'=>aH w14 w'∧s8 L i0 m∧gI w14.heap.size m xo w') (fun(i0:Nat) (m:List eh) (xo:Value)=>L.length-i0) (0) ([]) (.slice none 0 0) ⟨J,J,J,trivial⟩ ⟨aH.refl _,⟨by omega,by simp,by simp,by simp[pt],fun a _=>⟨fun _=>rfl,fun h=>by omega⟩⟩,bh.nil _⟩ ?_))))))))
 rintro i0 m xo wL ⟨eL,hS,hM⟩
 refine aj (aj ?_)
 have hS1:=hS.1
 refine ae (ab J J (ab J J (bn J J (bB MV (dL.ext eL)) (ao J J J (aX) (aI (ci J (fun h18=>?_) (fun h18=>?_)))))))
 ·refine aA (ah (aJ (bc (ab J J (ab J J ?_)))))
  obtain⟨a21,c21,e21,he21,p21,q21,h21⟩:=gU (dL.ext eL) (i:=i0)
  obtain⟨x21_0,x21_1,rfl,f21_0,f21_1⟩:=fJ h21
  refine aE J J J (p21 _) (af J J (rF) (ak J J (q21.ldO (ms:=[I e21.row.kd,I e21.row.ix,I e21.row.lo,I e21.row.hi]) (o:=0) (ef J) MS J cX) (bV (r:=.agg #[B false,.slice none 0 0,.slice none 0 0]) J J (by exact run_build _ _ _ _ (by kernel_rfl)) (ce j9 J fun g7 w7 l7 x7 k7=>ce bv J fun g8 w8 l8 x8 k8=>bD J J (k7.ext x8) J cX (am.cons J (am.cons J (am.cons J (am.cons J am.nil)))) fun w8_8 q8_8 k8_8=>?_))))
  have x8_8:=aH.of_new ((x7.trans x8)) q8_8 l7
  have j1_k8:=(k8.other q8_8 fun e=>by have h1:=k7.lt;have h2:=l8;have h4:=Nc e;omega)
  refine bD J J j1_k8 J ag (am.cons J (am.cons J (am.cons J am.nil))) fun w8_9 q8_9 k8_9=>?_
  have x8_9:=aH.of_new (x8_8) q8_9 (Nb (x7).size l8)
  refine aI (aj (aJ ?_))
  have j2_k8_8:=(k8_8.other q8_9 fun e=>by have h1:=k7.lt;have h2:=l8;have h4:=Nc e;omega)
  refine lE (fun(i:Nat) (c:Rat) (sx:Value) (sy:Value)=>[(4,v12),(5,xo),(6,I (i:Int)),(7,.pointer (some ⟨g7,0,none⟩)),(8,.pointer (some ⟨g8,0,none⟩))]) (fun(i:Nat) (c:Rat) (sx:Value) (sy:Value) w'=>aH wL w'∧yO L i0 i c∧dE g7 362 [I e21.row.kd,I e21.row.ix,I e21.row.lo,I e21.row.hi] w'∧dE g8 49 [B c.sg,sx,sy] w'∧bH c.nl sx w'∧bH c.dl sy w') (fun(i:Nat) (c:Rat) (sx:Value) (sy:Value)=>L.length-i) (i0) (0) (_) (_) ⟨J,J,J,J,J,trivial⟩ ⟨x8_9,⟨by omega,by omega,Rat.le_refl,by rw[tY];omega,fun a ha=>⟨fun _=>rfl,fun h=>by rw[ha] at h18;simp at h18;omega⟩⟩,j2_k8_8,k8_9,bH.nil _,bH.nil _⟩ ?_
  rintro i c sx sy wI ⟨eI,hI,k7I,k8I,sa,sb⟩
  refine aj (aj ?_)
  have hMI:=hM.ext eI
  have hS2:=hS.2.1
  have hI2:=hI.2.1
  have hI4:=hI.2.2.2.1
  have hse:=LH L i
  rcases Decidable.em (i<L.length) with hA|hA
  ·refine bj 12 [4,5,6,7,8,29,36] (by kernel_rfl) (by kernel_rfl) ?_
   refine ax J J (ax J J (mg (vs:=[v12]) J J (fun w hw=>bB MV ((dL.ext (eL.trans eI)).ext hw)) (bC J J J (fun w _=>bF (by omega) aX) (ax J J (au J J (ax J J (au J J (ax J J (au J J ?_)))))))))
   obtain⟨a32,c32,e32,he32,p32,q32,h32⟩:=gU (dL.ext (eL.trans eI)) (i:=i)
   obtain⟨x32_0,x32_1,rfl,f32_0,f32_1⟩:=fJ h32
   refine aK J J J (fun w _=>p32 w) (au J J (al J J (fun w hw=>rF) (au J J (ap J J (fun w hw=>(q32.ext hw).ldO (ms:=[I e32.row.kd,I e32.row.ix,I e32.row.lo,I e32.row.hi]) (o:=0) (ef J) MS J cX) (au J J (ap J J (fun w hw=>(k7I.ext hw).ld MS J cX) (au J J (bC J J J (fun w _=>J6) (bA ?_)))))))))
   rintro wg9 xg9 _ hq4
   obtain rfl:=Eq.symm hq4
   rintro _ hq5
   obtain rfl:=Eq.symm hq5
   rintro _ rfl _ rfl _ rfl _ rfl _ rfl
   refine aR J J J (aI (ci J (fun h37=>?_) (fun h37=>?_)))
   ·refine aA (ah (aj (aJ (bj 7 [4,5,6,7,8,46] (by kernel_rfl) (by kernel_rfl) ?_))))
    refine ap J J (fun w hw=>((k8I.ext xg9).ext hw).ld MC J ag) (ax J J (ax J J ?_))
    obtain⟨a43,c43,e43,he43,p43,q43,h43⟩:=gU (dL.ext ((eL.trans eI).trans xg9)) (i:=i)
    obtain⟨x43_0,x43_1,rfl,f43_0,f43_1⟩:=fJ h43
    refine aK J J J (fun w _=>p43 w) ?_
    have hmem:=hL0 e43 (by rw[he43];exact Nh _)
    have hmee:=hLe e43 (by rw[he43];exact Nh _)
    refine al J J (fun w hw=>xw) (ap J J (fun w hw=>(q43.ext hw).ldO (ms:=[B e43.co.sg,x43_0,x43_1]) (o:=4) (ef J) MC J ag) ?_)
    have z46_1:=gP c e43.co
    refine ec (S:=QV (c+e43.co)) nI (QV.stable _) J J J (fun w hw=>EK ((aU.mk (sa.ext xg9) (sb.ext xg9)).ext hw) ((aU.mk f43_0 f43_1).ext hw) (by omega)) (bA ?_)
    rintro wg11 xg11 _ hq4
    obtain rfl:=Eq.symm hq4
    rintro _ hq5
    obtain rfl:=Eq.symm hq5
    rintro _ rfl _ rfl _ rfl _ ⟨x46_0,x46_1,rfl,f46_0,f46_1⟩
    refine bD J J (k8I.ext (xg9.trans xg11)) J ag (am.cons J (am.cons f46_0.one (am.cons f46_1.one am.nil))) fun w11_7 q11_7 k11_7=>?_
    have x11_7:=aH.of_new (((eI.trans xg9).trans xg11)) q11_7 (Nb (x7).size l8)
    have m11_7:=Kq.of1 (p:=[0,3,3]) (k8I.ext (xg9.trans xg11)) (ac rfl (ac sa.kd (ac sb.kd aT))) q11_7
    refine ar (aW (ah (ae (ab J J (ao (r:=I ((i+1:Nat):Int)) J J J (by have e:((i+1:Nat):Int)=(i:Int)+1:=(by omega);rw[e];exact aY) (aa J J (ar ?_)))))))
    have j3_k7I:=(((k7I.ext xg9).ext xg11).other q11_7 fun e=>by have h1:=k7.lt;have h2:=l8;have h4:=Nc e;omega)
    refine fW (i+1) (c+e43.co) (_) (_) ⟨J,J,J,J,J,trivial⟩ ⟨x11_7,by rw[he43];exact hI.step (by omega) (by rw[←he43];exact hmem),j3_k7I,k11_7,(f46_0.kq m11_7),(f46_1.kq m11_7)⟩ (by omega)
   ·refine bJ (aV (aV (bP (ah (aj ?_)))))
    have hne:i≠i0:=fun e=>by subst e;exact h37 (by rw[he32,he21])
    refine ae (ak J J ((k8I.ext xg9).ld MC J ag) (aq cw J J (ek (aU.mk (sa.ext xg9) (sb.ext xg9)) (by omega)) ?_))
    rintro v48 w48 ⟨x48,rfl⟩
    have hlt:i0<i:=by have:=hI.1;omega
    refine ao J J J (bo) (aI (ci J (fun h49=>?_) (fun h49=>?_)))
    ·have hcp:0<c:=iR.1 h49
     have e1:=xg9.trans x48
     refine ae (ab J J (ak J J ((k7I.ext e1).ld MS J cX) (ak J J ((k8I.ext e1).ld MC J ag) (bV (r:=.agg #[I e21.row.kd,I e21.row.ix,I e21.row.lo,I e21.row.hi,B c.sg,sx,sy]) J J (by obtain⟨_,_,_,rfl⟩:=sa.isS;obtain⟨_,_,_,rfl⟩:=sb.isS;exact run_build _ _ _ _ (by kernel_rfl)) ?_))))
     obtain⟨v54,w54,hr54,x54,b54⟩:=wj (w:=w48) (jO (a:=(⟨e21.row,c⟩:eh)) (sa.ext e1) (sb.ext e1))
     refine bN (vs:=[(0,.agg #[I e21.row.kd,I e21.row.ix,I e21.row.lo,I e21.row.hi,B c.sg,sx,sy])]) J J hr54 ?_
     have e3:=((((eL.trans eI).trans xg9).trans x48).trans x54)
     obtain⟨v55,w55,hr55,o55,g55⟩:=tJ (ty:=124) (hMI.ext (e1.trans x54)) b54 (by simp only[List.length_cons,List.length_nil];omega) e3.size
     refine df J J hr55 ?_
     have x55:=aH.of_grew e3 g55 ((hMI.ext (e1.trans x54))).ge
     have m55:=((hMI.ext (e1.trans x54))).kqG g55 (by decide)
     refine aa J J (ar (aW (cK (i) (m++[⟨e21.row,c⟩]) (_) ⟨J,J,J,trivial⟩ ⟨x55,by have h:=hS.app hI hlt (by omega);rw[←he21] at h;exact h,o55⟩ (by omega))))
    ·have hcp:¬0<c:=fun h=>h49 (iR.2 h)
     refine aA (aW (cK (i) (m) (xo) ⟨J,J,J,trivial⟩ ⟨(((eL.trans eI).trans xg9).trans x48),hS.skip hI hlt hcp,(hMI.ext (xg9.trans x48))⟩ (by omega)))
  ·refine bj 12 [4,5,6,7,8,29,36] (by kernel_rfl) (by kernel_rfl) ?_
   refine ax J J (ax J J (mg (vs:=[v12]) J J (fun w hw=>bB MV ((dL.ext (eL.trans eI)).ext hw)) (bC J J J (fun w _=>be (by omega) aX) (ax J J (bu J J J (bu J J J (bu J J J (bu J J J (bu J J J (bu J J J (bu J J J (bA ?_))))))))))))
   rintro wg9 xg9 _ hq4
   obtain rfl:=Eq.symm hq4
   rintro _ hq5
   obtain rfl:=Eq.symm hq5
   rintro _ rfl _ rfl _ rfl _ rfl _ rfl
   refine aG J J J (aI (bU J (bJ (aV (aV (bP (ah (aj ?_))))))))
   have hne:i≠i0:=fun e=>by omega
   refine ae (ak J J ((k8I.ext xg9).ld MC J ag) (aq cw J J (ek (aU.mk (sa.ext xg9) (sb.ext xg9)) (by omega)) ?_))
   rintro v48 w48 ⟨x48,rfl⟩
   have hlt:i0<i:=by have:=hI.1;omega
   refine ao J J J (bo) (aI (ci J (fun h49=>?_) (fun h49=>?_)))
   ·have hcp:0<c:=iR.1 h49
    refine ae (ab J J (ak J J ((k7I.ext (xg9.trans x48)).ld MS J cX) (ak J J ((k8I.ext (xg9.trans x48)).ld MC J ag) (bV (r:=.agg #[I e21.row.kd,I e21.row.ix,I e21.row.lo,I e21.row.hi,B c.sg,sx,sy]) J J (by obtain⟨_,_,_,rfl⟩:=sa.isS;obtain⟨_,_,_,rfl⟩:=sb.isS;exact run_build _ _ _ _ (by kernel_rfl)) ?_))))
    obtain⟨v54,w54,hr54,x54,b54⟩:=wj (w:=w48) (jO (a:=(⟨e21.row,c⟩:eh)) (sa.ext (xg9.trans x48)) (sb.ext (xg9.trans x48)))
    refine bN (vs:=[(0,.agg #[I e21.row.kd,I e21.row.ix,I e21.row.lo,I e21.row.hi,B c.sg,sx,sy])]) J J hr54 ?_
    have e2:=(xg9.trans x48).trans x54
    have e4:=((((eL.trans eI).trans xg9).trans x48).trans x54)
    obtain⟨v55,w55,hr55,o55,g55⟩:=tJ (ty:=124) (hMI.ext e2) b54 (by simp only[List.length_cons,List.length_nil];omega) e4.size
    refine df J J hr55 ?_
    have x55:=aH.of_grew e4 g55 ((hMI.ext e2)).ge
    have m55:=((hMI.ext e2)).kqG g55 (by decide)
    refine aa J J (ar (aW (cK (i) (m++[⟨e21.row,c⟩]) (_) ⟨J,J,J,trivial⟩ ⟨x55,by have h:=hS.app hI hlt (by omega);rw[←he21] at h;exact h,o55⟩ (by omega))))
   ·have hcp:¬0<c:=fun h=>h49 (iR.2 h)
    refine aA (aW (cK (i) (m) (xo) ⟨J,J,J,trivial⟩ ⟨(((eL.trans eI).trans xg9).trans x48),hS.skip hI hlt hcp,(hMI.ext (xg9.trans x48))⟩ (by omega)))
 ·refine bJ (aV (aV (bP (ah (bc (ab J J (aa J J (aa J J (aI (aD (dW J J J ?_)))))))))))
  obtain rfl:i0=L.length:=by omega
  exact⟨_,J,((x10.trans x14).trans eL),_,_,J,⟨m,hS.done hpL,hM.rebase (Nb hb0 ((x10.trans x14)).size)⟩,J⟩
theorem s9 {w:World} {l:List eh} {v:Value} (hv:cF iI l v w) (hl:l.length≤19) (h0:∀x∈l,0≤x.co) (hb:pt l≤17179869180):
 Calls Tryz.prog 386 #[v] w (cA fun r w'=>aH w w'∧gQ (qq (E2 l) fun m=>cF iI m) (Is (I 0)) r w'):=
 cA.mono (rI (Nat.le_refl _) hv hl h0 hb) fun _ _ ⟨hx,a,b,he,⟨m,hm,ho⟩,hz⟩=>⟨hx,a,b,he,⟨m,hm,gI.dsv ho⟩,hz⟩
end Go.Rl
namespace Go.Rl
open Go.RowKit Go.Proofs
theorem DJ:az Tryz.prog 382:=⟨_,Tryz.func382,by kernel_rfl,rfl⟩
theorem BZ:az Tryz.prog 380:=⟨_,Tryz.func380,by kernel_rfl,rfl⟩
structure rz (s:eX) (k b:Nat):Prop where
 ku:k≤s.q.g.us.length
 kn:∀j:Nat,j<k→0<(cy s.lm j).1∧0<(cy s.lm j).2
 bb:∀j:Nat,j<k→bt (dA s.lm (cy s.lm j).1)≤b∧bt (dA s.lm (cy s.lm j).2)≤b
 b0:20≤b
 b1:b≤67108864
 lm:∀m∈s.lm,bt m.va≤17179869180
def bdM (s:eX) (x:Int) (up:Bool) (b:Nat) (m:List eh):Prop:=MP 2 (3*b+4) m∧(x<s.q.g.inp→s.pa=[]→m=[⟨⟨if up then 2 else 1,x,0,0⟩,1⟩])
theorem MP.up {n b b':Nat} {m:List eh} (h:MP n b m) (hb:b≤b'):MP n b' m:=⟨h.1,fun x hx=>⟨(h.2 x hx).1,Nb (h.2 x hx).2 hb⟩⟩
theorem B0 {w:World} {s:eX} {g k b:Nat} {x:Int} {up:Bool} {b0:Nat} (hb0:b0≤w.heap.size) (hV:lv s g w) (hs:n7 s.q) (hp:∀d∈s.pa,i9 s.q d) (hk:rz s k b) (hx0:0≤x) (hx1:x<s.q.g.inp+k):
 Calls Tryz.prog 384 #[.pointer (some ⟨g,0,none⟩),I x,B up] w (cA fun e w'=>aH w w'∧j1 (QV (jm s x up)) (qq (bdM s x up b) fun m=>i2 b0 iI m) (Is (B true)) e w'):=by
 have hV0:=hV
 have hk0:=hk.b0
 have hk1:=hk.b1
 have hku:=hk.ku
 have hg1:=hs.g.i1
 have hg0:=hs.g.i0
 have hul:=hs.g.ul
 obtain⟨su,so,sl,sh,sr,st,sm,sn,sp,sq,fv,F,kv,iu,io,il,ih,ir,it,im,jn,ip,iq,hFl,hFt,iF⟩:=hV
 obtain⟨i,rfl⟩:∃i:Nat,x=(i:Int):=⟨x.toNat,by omega⟩
 refine enter Tryz.func384 J J J (bc (ce bv J fun g6 w6 l6 x6 k6=>(aa J J (aa J J (aI (aj ?_))))))
 rcases(show(i:Int)-s.q.g.inp<0∨(∃j:Nat,(i:Int)-s.q.g.inp=j∧j<k) by by_cases h:(i:Int)-s.q.g.inp<0;exact .inl h;exact .inr ⟨((i:Int)-s.q.g.inp).toNat,by omega,by omega⟩) with hA|⟨j,hj,hjk⟩
 ·refine ae (ab J J (ab J J (dY J J (af J J (fQ) ?_))))
  refine af J J (bz) (af J J (bG) (af J J (bS) (ak J J (ai ME J (x6.cell_some (kv.cell (i:=0) J))) (ao (r:=I ((i:Int)-s.q.g.inp)) J J J (by have e:((i:Int)-s.q.g.inp:Int)=(i:Int)-s.q.g.inp:=(by omega);rw[e];exact bT) (aa J J (aI (aj (aJ (bc (ab J J (ao J J J (bF hA aX) (aa J J (aI (cg J (bc (ab J J (ab J J (ab J J (aq IK J J ((IM (i:=i) (up:=up) (Nb hb0 (x6).size) (hV0.ext (x6)) hs hp (by omega))) ?_)))))))))))))))))))
  rintro v25 w25 ⟨x25,⟨_,u25_b,_,rfl,⟨x25_a_0,x25_a_1,rfl,f25_a_0,f25_a_1⟩,⟨m25_b,hm25_b,b25_b⟩,rfl⟩⟩
  refine aB J J ey (aB J J ez (aB J J eF (bD J J (k6.ext x25) J ag (am.cons J (am.cons f25_a_0.one (am.cons f25_a_1.one am.nil))) fun w3_7 q3_7 k3_7=>?_)))
  have x3_7:=aH.of_new ((x6.trans x25)) q3_7 l6
  have m3_7:=Kq.of1 (p:=[0,3,3]) (k6.ext x25) (ac rfl (ac rfl (ac rfl aT))) q3_7
  refine aa J J (aa J J (aI (aD (bK (a0 (bp J (.cell J (k3_7.ld MC J ag) (.tmp J (.tmp J .nil))) ?_))))))
  have hval:jm s i up=uZ s i up:=by unfold jm;rw[if_pos hA,Int.toNat_natCast]
  exact⟨_,J,x3_7,_,_,_,J,by rw[hval];exact aU.mk (f25_a_0.kq m3_7) (f25_a_1.kq m3_7),⟨m25_b,⟨hm25_b.1.up (by omega),fun _ h0=>hm25_b.2 h0⟩,(b25_b.kq m3_7)⟩,J⟩
 ·obtain⟨hn1,hn2⟩:=hk.kn j hjk
  obtain⟨hb1,hb2⟩:=hk.bb j hjk
  refine ae (ab J J (ab J J (dY J J (af J J (fQ) (af J J (bz) (af J J (bG) (af J J (bS) (ak J J (ai ME J (x6.cell_some (kv.cell (i:=0) J))) (ao (r:=I ((j:Int))) J J J (by have e:((j:Int):Int)=(i:Int)-s.q.g.inp:=(by omega);rw[e];exact bT) (aa J J (aI (aj (aJ (bc (ab J J (ao J J J (be (by omega) aX) (aa J J (aI (bU J (aj ?_))))))))))))))))))))
  cases up
  ·refine ae (ab J J (aa J J (aI (bU J (aA (aW (ah (bc (ab J J (ab J J (aq Gz J J ((GA (j:=(j:Int)) (b:=b) (Nb hb0 (x6).size) (hV0.ext (x6)) hk.lm hb1 (by omega))) ?_)))))))))))
   rintro v39 w39 ⟨x39,⟨_,u39_b,_,rfl,⟨x39_a_0,x39_a_1,rfl,f39_a_0,f39_a_1⟩,⟨m39_b,hm39_b,b39_b⟩,rfl⟩⟩
   refine aB J J ey (aB J J ez (aB J J eF (bD J J (k6.ext x39) J ag (am.cons J (am.cons f39_a_0.one (am.cons f39_a_1.one am.nil))) fun w6_6 q6_6 k6_6=>?_)))
   have x6_6:=aH.of_new ((x6.trans x39)) q6_6 l6
   have m6_6:=Kq.of1 (p:=[0,3,3]) (k6.ext x39) (ac rfl (ac rfl (ac rfl aT))) q6_6
   refine aa J J (aa J J (aI (aD (bp J (.cell J (k6_6.ld MC J ag) (.tmp J (.tmp J .nil))) ?_))))
   have hval:jm s i false=Ah s j:=by unfold jm;rw[if_neg (by omega),if_neg (by decide),hj]
   exact⟨_,J,x6_6,_,_,_,J,by rw[hval];exact aU.mk (f39_a_0.kq m6_6) (f39_a_1.kq m6_6),⟨m39_b,⟨hm39_b,fun h _=>by omega⟩,(b39_b.kq m6_6)⟩,J⟩
  ·refine ae (ab J J (aa J J (aI (cg J (bc (ab J J (ab J J (aq Dx J J ((Dy (j:=(j:Int)) (b:=b) (Nb hb0 (x6).size) (hV0.ext (x6)) hk.lm hb1 hb2 (by omega) hn1 hn2)) ?_))))))))
   rintro v33 w33 ⟨x33,⟨_,u33_b,_,rfl,⟨x33_a_0,x33_a_1,rfl,f33_a_0,f33_a_1⟩,⟨m33_b,hm33_b,b33_b⟩,rfl⟩⟩
   refine aB J J ey (aB J J ez (aB J J eF (bD J J (k6.ext x33) J ag (am.cons J (am.cons f33_a_0.one (am.cons f33_a_1.one am.nil))) fun w5_6 q5_6 k5_6=>?_)))
   have x5_6:=aH.of_new ((x6.trans x33)) q5_6 l6
   have m5_6:=Kq.of1 (p:=[0,3,3]) (k6.ext x33) (ac rfl (ac rfl (ac rfl aT))) q5_6
   refine aa J J (aa J J (aI (aD (bK (a0 (bp J (.cell J (k5_6.ld MC J ag) (.tmp J (.tmp J .nil))) ?_))))))
   have hval:jm s i true=rG s j:=by unfold jm;rw[if_neg (by omega),if_pos rfl,hj]
   exact⟨_,J,x5_6,_,_,_,J,by rw[hval];exact aU.mk (f33_a_0.kq m5_6) (f33_a_1.kq m5_6),⟨m33_b,⟨hm33_b,fun h _=>by omega⟩,(b33_b.kq m5_6)⟩,J⟩
def Mm (s:eX):dn:=fun v w=>∃g,v=.pointer (some ⟨g,0,none⟩)∧lv s g w
theorem DK {w:World} {s:eX} {v:Value} (hv:bQ ro s v w) (hs:n7 s.q) (hp:∀d∈s.pa,i9 s.q d) (hpl:s.pa.length≤1000):
 Calls Tryz.prog 382 #[v] w (cA fun e w'=>aH w w'∧gQ (Mm s) (Is (B true)) e w'):=by
 obtain⟨_,rfl,ra⟩:=hv
 obtain⟨su,so,sl,sh,sr,st,sm,sn,sp,sq,rfl,iu,io,il,ih,ir,it,im,jn,ip,iq⟩:=d7 ra
 have hlen:=ip.len
 refine enter (vs:=[.agg #[I s.q.g.inp,su,so,sl,sh,sr,st,B s.q.go.ct.sg,sm,sn,sp,sq]]) Tryz.func382 J J J (bc (cj J J fun g1 w1 l1 x1 k1=>(aa J J (aa J J (aI (aj (bc (af J J (bz) (ak J J (k1.ldO (ms:=[I s.q.g.inp,su,so,sl,sh,sr,st,B s.q.go.ct.sg,sm,sn]) (o:=0) (ef J) MU J cV) (aq gK J J (gL (bQ.mk (gr (iu.ext x1) (io.ext x1) (il.ext x1) (ih.ext x1) (ir.ext x1) (it.ext x1) (im.ext x1) (jn.ext x1))) hs) ?_))))))))))
 rintro v9 w9 ⟨x9,rfl⟩
 refine cC J J cn (aI (bU J (aA (ah (bc (ak J J ((k1.ext x9).ld MM J bg) (bV (r:=.agg #[I s.q.g.inp,su,so,sl,sh,sr,st,B s.q.go.ct.sg,sm,sn,sp,sq,.slice none 0 0]) J J (by obtain⟨_,_,_,rfl⟩:=ih.isS;obtain⟨_,_,_,rfl⟩:=il.isS;obtain⟨_,_,_,rfl⟩:=im.isS;obtain⟨_,_,_,rfl⟩:=io.isS;obtain⟨_,_,_,rfl⟩:=ip.isS;obtain⟨_,_,_,rfl⟩:=iq.isS;obtain⟨_,_,_,rfl⟩:=ir.isS;obtain⟨_,_,_,rfl⟩:=it.isS;obtain⟨_,_,_,rfl⟩:=iu.isS;obtain⟨_,_,_,rfl⟩:=jn.isS;exact run_build _ _ _ _ (by kernel_rfl)) (cj J J fun g13 w13 l13 x13 k13=>(aa J J (aI (aj (bc (af J J (cx) (ak J J (ai MO J ((x9.trans x13).cell_some (k1.cell (i:=10) J))) (bn J J (bB MO (ip.ext ((x1.trans x9).trans x13))) (ab J J (aI (aJ ?_))))))))))))))))))
 refine fi (fun(i:Nat) (F:List Bool) (fv:Value)=>[(1,.pointer (some ⟨g1,0,none⟩)),(4,.pointer (some ⟨g13,0,none⟩)),(15,sp),(16,I (s.pa.length:Int)),(17,I (i:Int))]) (fun(i:Nat) (F:List Bool) (fv:Value) w'=>aH w1 w'∧i≤s.pa.length∧F.length=i∧(∀b∈F,b=true)∧dE g13 404 [I s.q.g.inp,su,so,sl,sh,sr,st,B s.q.go.ct.sg,sm,sn,sp,sq,fv] w'∧yH w1.heap.size F fv w') (fun(i:Nat) (F:List Bool) (fv:Value)=>s.pa.length-i) (0) ([]) (.slice none 0 0) ⟨J,J,J,J,J,trivial⟩ ⟨(x9.trans x13),by omega,J,by simp,k13,bh.nil _⟩ ?_
 rintro i F fv wL ⟨eL,hi,hFl,hFt,kL,hF⟩
 refine bc (ao J J J (aX) (aI (aj (ci J (fun h18=>?_) (fun h18=>?_)))))
 ·refine aA (ah (aj (aJ (bc ?_))))
  obtain⟨a19,c19,e19,he19,p19,q19,h19⟩:=iU (ip.ext (x1.trans eL)) (i:=i)
  obtain⟨x19_0,x19_1,rfl,f19_0,f19_1⟩:=gn h19
  refine aE J J J (p19 _) (ak J J (q19.ld MW J cH) (ce iM J fun g6 w6 l6 x6 k6=>bD J J k6 J cH (am.cons J (am.cons J (am.cons J (am.cons f19_0.one (am.cons f19_1.one am.nil))))) fun w6_3 q6_3 k6_3=>?_))
  have x6_3:=aH.of_new (x6) q6_3 l6
  refine aI (m5 10 [(10,0)] [10,11,12,13] [1,4,15,16,17,21,25,30] (by kernel_rfl) (by kernel_rfl) (by kernel_rfl) J (ax J J (ax J J (mf J J (al J J (fun w hw=>eH) (ap J J (fun w hw=>ai M0 J (hw.cell_some (x6_3.cell_some (kL.cell (i:=12) J)))) (al J J (fun w hw=>bz) (ap J J (fun w hw=>((k1.ext (eL.trans x6_3)).ext hw).ldO (ms:=[I s.q.g.inp,su,so,sl,sh,sr,st,B s.q.go.ct.sg,sm,sn]) (o:=0) (ef J) MU J cV) ?_))))))))
  have e1:=(x1.trans eL).trans x6_3
  refine ap J J (fun w hw=>(k6_3.ext hw).ld MW J cH) (ec (S:=Is (B true)) uH (bi.is _) J J J (fun w hw=>uI ((bQ.mk (gr (iu.ext e1) (io.ext e1) (il.ext e1) (ih.ext e1) (ir.ext e1) (it.ext e1) (im.ext e1) (jn.ext e1))).ext hw) ((bQ.mk (lf (f19_0.ext x6_3) (f19_1.ext x6_3))).ext hw) (hp e19 (by rw[he19];exact Nh _)) hs) (dv (S:=cF Gm [true]) (cF.stable _ _) J (fun w hw=>by rintro _ rfl;exact Lz true) (bA ?_)))
  rintro wg7 xg7 _ rfl _ rfl _ hq15
  obtain rfl:=Eq.symm hq15
  rintro _ rfl _ rfl _ rfl _ hq25
  obtain rfl:=Eq.symm hq25
  intro vg30 b30
  have e3:=x6_3.trans xg7
  have e4:=((eL.trans x6_3).trans xg7)
  obtain⟨v31,w31,hr31,o31,g31⟩:=Ly (ty:=237) (hF.ext e3) b30 (by simp only[List.length_cons,List.length_nil];omega) e4.size
  refine df J J hr31 ?_
  have x31:=aH.of_grew e4 g31 ((hF.ext e3)).ge
  have m31:=((hF.ext e3)).kqG g31 (by decide)
  refine dY J J ?_
  have i1_kL:=((kL.ext x6_3).ext xg7)
  have j2_kL:=(i1_kL.other g31.grown (aN i1_kL (hF.ext e3)))
  refine af J J (eH) (iD J J j2_kL JL o31.one J fun w7_13 q7_13 k7_13=>?_)
  have x7_13:=aH.of_new (x31) q7_13 (Nb (x9).size l13)
  have m7_13:=Kq.of1 (p:=[2,3,3,3,3,3,3,0,3,3,3,3,3]) j2_kL (ac rfl (ac iu.kd (ac io.kd (ac il.kd (ac ih.kd (ac ir.kd (ac it.kd (ac rfl (ac im.kd (ac jn.kd (ac ip.kd (ac iq.kd (ac hF.kd aT))))))))))))) q7_13
  refine ar (pO (aW (ah (ae (ao (r:=I ((i+1:Nat):Int)) J J J (by have e:((i+1:Nat):Int)=(i:Int)+1:=(by omega);rw[e];exact aY) (ab J J (ar (cK (i+1) (F++[true]) (_) ⟨J,J,J,J,J,trivial⟩ ⟨x7_13,by omega,by rw[List.length_append,hFl];rfl,fun b hb=>(List.mem_append.1 hb).elim (hFt b) fun hb=>by simpa using hb,k7_13,(bh.st ET o31 m7_13 q7_13 (aN j2_kL o31).symm (by decide))⟩ (by omega)))))))))
 ·refine bJ (aV (aV (bP (ah (bc (ab J J (aa J J (aa J J (aI (aD (dW J J J ?_)))))))))))
  obtain rfl:i=s.pa.length:=by omega
  have e2:=(x1.trans eL)
  exact⟨_,J,(x1.trans eL),_,_,J,⟨g13,J,su,so,sl,sh,sr,st,sm,sn,sp,sq,fv,F,kL,iu.ext e2,io.ext e2,il.ext e2,ih.ext e2,ir.ext e2,it.ext e2,im.ext e2,jn.ext e2,ip.ext e2,iq.ext e2,hFl,hFt,yH.dsv hF⟩,J⟩
end Go.Rl
namespace Go.Rl
open Go.RowKit Go.Proofs
theorem LI {pa:List nw} {kd sg i:Int}:∀(b:Rat),bt b≤20→(∀d∈pa,bt d.at_≤20)→bt (pa.foldl (xz kd sg i) b)≤20:=by
 induction pa with
 |nil=>intro b hb _;exact hb
 |cons d pa ih=>
  intro b hb h
  rw[List.foldl_cons]
  refine ih _ ?_ fun e he=>h e (List.mem_cons_of_mem _ he)
  unfold xz
  split
  ·exact h d (by simp)
  ·exact hb
theorem vv {l:List Rat} {n:Nat} (h:∀x∈l,bt x≤n) (h2:2≤n) (i:Nat):bt (l.getD i 0)≤n:=by
 rw[List.getD_eq_getElem?_getD]
 cases hg:l[i]? with
 |none=>rw[Option.getD_none,tY];exact h2
 |some x=>exact h x (List.mem_of_getElem? hg)
theorem IS {s:eX} {k b:Nat} (hs:n7 s.q) (hp:∀d∈s.pa,i9 s.q d) (hk:rz s k b) {x:Int} {up:Bool} (h1:x<s.q.g.inp+k):bt (jm s x up)≤b:=by
 have hb:=hk.b0
 have h0:=tY
 unfold jm
 split
 ·unfold uZ
  refine Nb (LI _ ?_ fun d hd=>(hp d hd).bt) hb
  split
  ·exact vv hs.r.hb (by omega) _
  ·exact vv hs.r.lb (by omega) _
 ·rename_i hx
  obtain⟨j,hj⟩:∃j:Nat,x-s.q.g.inp=j:=⟨(x-s.q.g.inp).toNat,by omega⟩
  rw[hj]
  obtain⟨h2,h3⟩:=hk.bb j (by omega)
  split
  ·unfold rG
   split
   ·omega
   ·exact h3
  ·unfold Ah
   split
   ·exact h2
   ·omega
def IT (t:dU):eh:=⟨⟨if decide (t.co<0)=true then 2 else 1,t.va,0,0⟩,max t.co (-t.co)*1⟩
def MQ (n C:Nat) (m:List eh):Prop:=m.length≤n∧(∀x∈m,0≤x.co)∧pt m≤C
def GC (s:eX) (f:dx) (b i:Nat) (M:List eh):Prop:=MQ (2*i) (2*gH (f.ts.take i)+2*i*(3*b+4)) M∧∀t,f.ts=[t]→t.va<s.q.g.inp→s.pa=[]→(i=0→M=[])∧(i=1→M=[IT t])
def J7 (s:eX) (f:dx) (n C:Nat) (m:List eh):Prop:=MQ n C m∧∀t,f.ts=[t]→t.va<s.q.g.inp→s.pa=[]→0<max t.co (-t.co)*1→m=[IT t]
def GD (c:Rat) (l:List eh):List eh:=l.map fun x=>⟨x.row,c*x.co⟩
theorem IU {c:Rat} {l:List eh} {k:Nat} (h:k<l.length):GD c (l.take (k+1))=GD c (l.take k)++[⟨l[k].row,c*l[k].co⟩]:=by
 unfold GD
 rw[kk h,List.map_append];rfl
theorem IV (c:Rat) (B:Nat):∀l:List eh,(∀x∈l,bt x.co≤B)→pt (GD c l)≤l.length*(bt c+B)
 |[],_=>by simp[GD,pt]
 |x::l,h=>by
  have h1:=IV c B l fun y hy=>h y (List.mem_cons_of_mem _ hy)
  have h2:=h x (by simp)
  have h3:=f7 c x.co
  unfold GD at h1⊢
  simp only[List.map_cons,pt,List.length_cons,Nat.add_mul,Nat.one_mul]
  omega
theorem yP {L:List dU} {i:Nat} (h:i<L.length):gH (L.take (i+1))=gH (L.take i)+bt L[i].co:=by
 rw[kk h,eo];simp[gH]
theorem DL (L:List dU) (i:Nat):gH (L.take i)≤gH L:=by
 have:=eo (L.take i) (L.drop i)
 rw[List.take_append_drop] at this
 omega
theorem DM (c:Rat):bt (max c (-c))≤bt c:=by
 have h1:=vW c (-c)
 have h2:=jN c
 omega
theorem IW (c:Rat):0≤max c (-c):=by grind
theorem GC.step {s:eX} {f:dx} {b i:Nat} {M l:List eh} (h:GC s f b i M) (hi:i<f.ts.length) (hl:bdM s f.ts[i].va (decide (f.ts[i].co<0)) b l):GC s f b (i+1) (M++GD (max f.ts[i].co (-f.ts[i].co)) l):=by
 obtain⟨⟨a1,a2,a3⟩,a4⟩:=h
 obtain⟨⟨b1,b2⟩,b3⟩:=hl
 have hsc:(GD (max f.ts[i].co (-f.ts[i].co)) l).length=l.length:=by simp[GD]
 have h1:=IV (max f.ts[i].co (-f.ts[i].co)) (3*b+4) l fun x hx=>(b2 x hx).2
 have h2:=DM f.ts[i].co
 have h3:l.length*(bt (max f.ts[i].co (-f.ts[i].co))+(3*b+4))≤2*(bt f.ts[i].co+(3*b+4)):=Ns b1 (by omega)
 have h4:2*(i+1)*(3*b+4)=2*i*(3*b+4)+2*(3*b+4):=by rw[show 2*(i+1)=2*i+2 by omega,Nat.add_mul]
 refine⟨⟨by rw[List.length_append,hsc];omega,fun x hx=>?_,by rw[iT,yP hi];omega⟩,fun t ht hv hpa=>⟨fun h=>by omega,fun h=>?_⟩⟩
 ·rcases List.mem_append.1 hx with hx|hx
  ·exact a2 x hx
  ·obtain⟨y,hy,rfl⟩:=List.mem_map.1 hx
   exact Rat.mul_nonneg (IW _) (b2 y hy).1
 ·obtain rfl:i=0:=by omega
  rw[(a4 t ht hv hpa).1 rfl]
  have e:f.ts[0]=t:=by simp[ht]
  rw[e] at b3⊢
  rw[b3 hv hpa]
  rfl
theorem GC.done {s:eX} {f:dx} {b:Nat} {M m:List eh} {C n:Nat} (h:GC s f b f.ts.length M) (hc:E2 M m) (hn:f.ts.length≤7) (hC:2*gH f.ts+14*(3*b+4)+28≤C) (hn2:2*f.ts.length≤n):J7 s f n C m:=by
 obtain⟨⟨a1,a2,a3⟩,a4⟩:=h
 rw[List.take_length] at a3
 have h1:2*f.ts.length*(3*b+4)≤14*(3*b+4):=Ni _ (by omega)
 refine⟨⟨Nb hc.1 (by omega),hc.2.1,Nb hc.2.2.1 (by omega)⟩,fun t ht hv hpa h0=>hc.2.2.2 _ ((a4 t ht hv hpa).2 (by rw[ht];rfl)) h0⟩
set_option maxHeartbeats 1000000 in
theorem qz {w:World} {s:eX} {f:dx} {k b:Nat} {v u:Value} (hv:bQ ro s v w) (hu:bQ dZ f u w) (hs:n7 s.q) (hp:∀d∈s.pa,i9 s.q d) (hpl:s.pa.length≤1000) (hk:rz s k b) (hf:i8 f (s.q.g.inp+k)=true) (hB:ew f≤4294967296):
 Calls Tryz.prog 380 #[.agg #[],v,u] w (cA fun e w'=>aH w w'∧j1 (QV (nr s f)) (qq (J7 s f 14 (2*ew f+42*b+84)) fun m=>cF iI m) (Is (B true)) e w'):=by
 obtain⟨_,rfl,ra⟩:=hv
 obtain⟨su,so,sl,sh,sr,st,sm,sn,sp,sq,rfl,iu,io,il,ih,ir,it,im,jn,ip,iq⟩:=d7 ra
 obtain⟨_,rfl,rb⟩:=hu
 obtain⟨fa,fb,fc,rfl,ja,jb,jc⟩:=cl rb
 have hk0:=hk.b0
 have hk1:=hk.b1
 have hku:=hk.ku
 have hg1:=hs.g.i1
 have hg0:=hs.g.i0
 have hul:=hs.g.ul
 have hfl:f.ts.length≤7:=sZ hf (by omega)
 have hfm:=ft hf
 have hBF:bt f.ct+gH f.ts≤4294967296:=hB
 refine enter (vs:=[.agg #[],.agg #[I s.q.g.inp,su,so,sl,sh,sr,st,B s.q.go.ct.sg,sm,sn,sp,sq],.agg #[fa,B f.ct.sg,fb,fc]]) Tryz.func380 J J J (bc (cj J J fun g3 w3 l3 x3 k3=>cj J J fun g4 w4 l4 x4 k4=>cj J J fun g5 w5 l5 x5 k5=>ce bv J fun g6 w6 l6 x6 k6=>(aa J J (aa J J (dR (ak J J ((k4.ext (x5.trans x6)).ld MM J bg) ?_))))))
 have e1:=((x3.trans x4).trans x5).trans x6
 refine aq DJ J J ((DK (bQ.mk (dm (iu.ext e1) (io.ext e1) (il.ext e1) (ih.ext e1) (ir.ext e1) (it.ext e1) (im.ext e1) (jn.ext e1) (ip.ext e1) (iq.ext e1))) hs hp hpl)) ?_
 rintro v23 w23 ⟨x23,_,_,rfl,⟨gv,rfl,hV⟩,rfl⟩
 refine ab J J (aB J J (cY) (aB J J (cZ) (aa J J (aa J J (aI (aj (aj (bj 10 [5,6,9,28,35] (by kernel_rfl) (by kernel_rfl) (ax J J (jF J J (fun w _=>cn) (ax J J (au J J (ap J J (fun w hw=>((k5.ext (x6.trans x23)).ext hw).ld MG J ay) (au J J (al J J (fun w hw=>bz) (au J J (al J J (fun w hw=>bG) (au J J (ap J J (fun w hw=>((k4.ext ((x5.trans x6).trans x23)).ext hw).ldO (ms:=[I s.q.g.inp,su,so]) (o:=0) (ef J) MX J dg) ?_)))))))))))))))))))
 have e4:=e1.trans x23
 refine au J J (es (S:=Is (I (s.q.g.inp+(s.q.g.us.length:Int)))) wB (bi.is _) J J (fun w hw=>wF ((bQ.mk (jP (iu.ext e4) (io.ext e4))).ext hw) hs.g) (au J J (ec (S:=Is (B true)) iP (bi.is _) J J J (fun w hw=>by have h:=iQ (n:=s.q.g.inp+(s.q.g.us.length:Int)) ((bQ.mk (cv (ja.ext e4) (jb.ext e4) (jc.ext e4))).ext hw) (by omega);rw[show i8 f (s.q.g.inp+(s.q.g.us.length:Int))=true from qc (by omega) hf] at h;exact h) (au J J (jF J J (fun w _=>cn) (bA ?_))))))
 rintro wg2 xg2 _ rfl _ rfl _ rfl _ rfl _ rfl
 refine aG J J J (aI (bU J (aA (ah (bc (af J J (dt) (ak J J ((k5.ext ((x6.trans x23).trans xg2)).ldO (ms:=[B f.ct.sg,fb,fc]) (o:=1) (ef J) MC J ag) (ce bv J fun g11 w11 l11 x11 k11=>bD J J k11 J ag (am.cons J (am.cons jb.one (am.cons jc.one am.nil))) fun w4_3 q4_3 k4_3=>?_))))))))
 have x4_3:=aH.of_new (x11) q4_3 l11
 refine dR (aa J J (aI (aj (bc (af J J (bI) ?_)))))
 have e6:=(e4.trans xg2).trans x4_3
 refine ak J J (ai Tryz.underlying45 J ((((x6.trans x23).trans xg2).trans x4_3).cell_some (k5.cell (i:=0) J))) (bn J J (bB Tryz.underlying45 (ja.ext e6)) (ab J J (aI (aJ (zO (fun(i:Nat) (c:Rat) (sx:Value) (sy:Value) (M:List eh) (xa:Value)=>[(6,.pointer (some ⟨g6,0,none⟩)),(9,.pointer (some ⟨gv,0,none⟩)),(11,.pointer (some ⟨g11,0,none⟩)),(12,xa),(41,fa),(42,I (f.ts.length:Int)),(43,I (i:Int))]) (fun(i:Nat) (c:Rat) (sx:Value) (sy:Value) (M:List eh) (xa:Value) w'=>aH w23 w'∧i≤f.ts.length∧c=(f.ts.take i).foldl (uc s) f.ct∧bt c≤bt f.ct+gH (f.ts.take i)+i*b∧dE g11 49 [B c.sg,sx,sy] w'∧bH c.nl sx w'∧bH c.dl sy w'∧GC s f b i M∧gI w23.heap.size M xa w') (fun(i:Nat) (c:Rat) (sx:Value) (sy:Value) (M:List eh) (xa:Value)=>f.ts.length-i) (0) (f.ct) (fb) (fc) ([]) (.slice none 0 0) ⟨J,J,J,J,J,J,J,trivial⟩ ⟨(xg2.trans x4_3),by omega,J,by simp[gH],k4_3,(jb.ext e6),(jc.ext e6),⟨⟨by simp,by simp,by simp[pt]⟩,fun t _ _ _=>⟨fun _=>rfl,fun h=>by omega⟩⟩,bh.nil _⟩ ?_)))))
 rintro i c sx sy M xa wL ⟨eL,hi,hc,hcb,k11L,sa,sb,hLI,hM⟩
 refine bc (ao J J J (aX) (aI (aj (ci J (fun h44=>?_) (fun h44=>?_)))))
 ·refine aA (ah (aj (aJ (bc ?_))))
  obtain⟨a45,c45,e45,he45,p45,q45,h45⟩:=cU (ja.ext (((((x3.trans x4).trans x5).trans x6).trans x23).trans eL)) (i:=i)
  obtain⟨x45_0,x45_1,rfl,f45_0,f45_1⟩:=d4 h45
  refine aE J J J (p45 _) ?_
  have hva:=hfm e45 (by rw[he45];exact Nh _)
  have hbco:=lK (l:=f.ts) (t:=e45) (by rw[he45];exact Nh _)
  have hfs:=jz (F:=uc s) (s:=f.ct) (l:=f.ts) (i:=i) (by omega)
  rw[←hc,←he45] at hfs
  have htk:=yP (L:=f.ts) (i:=i) (by omega)
  rw[←he45] at htk
  have hle:=DL f.ts (i+1)
  have hib:i*b≤7*b:=Ni _ (by omega)
  have hbb:=IS hs hp hk (up:=decide (e45.co<0)) hva.2.1
  have hup:decide (gx e45.co<0)=decide (e45.co<0):=decide_eq_decide.2 kR
  have hab:=DM e45.co
  refine ak J J (q45.ld MY J dG) (ce jl J fun g14 w14 l14 x14 k14=>bD J J k14 J dG (am.cons J (am.cons J (am.cons f45_0.one (am.cons f45_1.one am.nil)))) fun w8_3 q8_3 k8_3=>?_)
  have x8_3:=aH.of_new (x14) q8_3 l14
  refine aI (aj (m5 13 [(13,10),(13,11)] [13,14,15] [6,9,11,12,14,15,41,42,43,56,57,58] (by kernel_rfl) (by kernel_rfl) (by kernel_rfl) J (ax J J (al J J (fun w hw=>cf) (ap J J (fun w hw=>ai ME J (hw.cell_some (k8_3.cell (i:=0) J))) (al J J (fun w hw=>cM) (ap J J (fun w hw=>(k8_3.ext hw).ldO (ms:=[B e45.co.sg,x45_0,x45_1]) (o:=1) (ef J) MC J ag) (es (S:=Is (I (gx e45.co))) cw (bi.is _) J J (fun w hw=>ek ((aU.mk (f45_0.ext x8_3) (f45_1.ext x8_3)).ext hw) (by omega)) (bC (r:=B (decide (e45.co<0))) J J J (fun w _=>(by rw[←hup];exact aX)) (bZ (S:=j1 (QV (jm s e45.va (decide (e45.co<0)))) (qq ((bdM s e45.va (decide (e45.co<0)) b)) (fun m=>i2 w8_3.heap.size iI m)) (Is (B true))) BQ (j1.stable (QV.stable _) (qq.stable fun _=>i2.stable _ _ _) (bi.is _)) J (fun w hw=>by rintro _ rfl _ rfl _ rfl;exact(B0 (b0:=w8_3.heap.size) (up:=decide (e45.co<0)) hw.size ((hV.ext ((eL.trans x8_3))).ext hw) hs hp hk hva.1 hva.2.1)) ?_))))))))))
  refine ax J J (HO J (QV.stable _) J (HP J (qq.stable fun _=>i2.stable _ _ _) J (HQ J (bi.is _) J (tL (b:=w8_3.heap.size) (A9.stable _ _ _) bv J (fun w hw=>hw.size) (bA ?_)))))
  rintro wg9 xg9 _ rfl _ rfl _ rfl _ hq12
  obtain rfl:=Eq.symm hq12
  rintro _ rfl _ ⟨g15,rfl,l15,k15⟩ _ hq41
  obtain rfl:=Eq.symm hq41
  rintro _ rfl _ rfl _ ⟨x56_0,x56_1,rfl,f56_0,f56_1⟩ vg57 ⟨m57,hm57,b57⟩ _ rfl
  have d57:=b57.1
  have hne0:m57≠[]→∀k,xa.ownBlock=some k→vg57.ownBlock≠some k:=fun _ k hk hv=>by
   have h1:=(hM.lt k hk).2
   have h2:=b57.2 k hv
   have h3:=(x8_3).size
   omega
  refine bD J J k15 J ag (am.cons J (am.cons f56_0.one (am.cons f56_1.one am.nil))) fun w9_13 q9_13 k9_13=>?_
  have x9_13:=aH.of_new (xg9) q9_13 l15
  have m9_13:=Kq.of1 (p:=[0,3,3]) k15 (ac rfl (ac rfl (ac rfl aT))) q9_13
  refine aa J J (aa J J (ar (pO (ah (aj (bc (ab J J (cC J J cn (aI (bU J (aA (ah (aj (bj 6 [6,9,11,12,14,16,41,42,43,67] (by kernel_rfl) (by kernel_rfl) ?_))))))))))))))
  have e2:=x8_3.trans x9_13
  refine ap J J (fun w hw=>((k11L.ext e2).ext hw).ld MC J ag) (al J J (fun w hw=>cM) (ap J J (fun w hw=>((k8_3.ext x9_13).ext hw).ldO (ms:=[B e45.co.sg,x45_0,x45_1]) (o:=1) (ef J) MC J ag) (ap J J (fun w hw=>(k9_13.ext hw).ld MC J ag) ?_)))
  have z66_1:=f7 e45.co (jm s e45.va (decide (e45.co<0)))
  refine ec (S:=QV (e45.co*(jm s e45.va (decide (e45.co<0))))) jv (QV.stable _) J J J (fun w hw=>uC ((aU.mk (f45_0.ext e2) (f45_1.ext e2)).ext hw) ((aU.mk (f56_0.kq m9_13) (f56_1.kq m9_13)).ext hw) (by omega)) ?_
  have z67_2:=gP c (e45.co*(jm s e45.va (decide (e45.co<0))))
  refine bZ (S:=QV (c+(e45.co*(jm s e45.va (decide (e45.co<0)))))) nI (QV.stable _) J (fun w hw=>by rintro _ rfl v66 h66;exact EK ((aU.mk (sa.ext e2) (sb.ext e2)).ext hw) h66 (by omega)) (bA ?_)
  rintro wg12 xg12 _ rfl _ rfl _ rfl _ hq12
  obtain rfl:=Eq.symm hq12
  rintro _ rfl _ hq16
  obtain rfl:=Eq.symm hq16
  rintro _ hq41
  obtain rfl:=Eq.symm hq41
  rintro _ rfl _ rfl _ ⟨x67_0,x67_1,rfl,f67_0,f67_1⟩
  have e5:=e2.trans xg12
  refine bD J J (k11L.ext e5) J ag (am.cons J (am.cons f67_0.one (am.cons f67_1.one am.nil))) fun w12_6 q12_6 k12_6=>?_
  have x12_6:=aH.of_new ((((eL.trans x8_3).trans x9_13).trans xg12)) q12_6 (Nb (xg2).size l11)
  have m12_6:=Kq.of1 (p:=[0,3,3]) (k11L.ext e5) (ac rfl (ac sa.kd (ac sb.kd aT))) q12_6
  refine aI (aj (bj 7 [6,9,11,12,16,18,41,42,43,73] (by kernel_rfl) (by kernel_rfl) ?_))
  have j1_k8_3:=(((k8_3.ext x9_13).ext xg12).other q12_6 fun e=>by have h1:=k11L.lt;have h2:=l14;have h4:=Nc e;omega)
  refine al J J (fun w hw=>cM) (ap J J (fun w hw=>(j1_k8_3.ext hw).ldO (ms:=[B e45.co.sg,x45_0,x45_1]) (o:=1) (ef J) MC J ag) (al J J (fun w hw=>cM) (ap J J (fun w hw=>(j1_k8_3.ext hw).ldO (ms:=[B e45.co.sg,x45_0,x45_1]) (o:=1) (ef J) MC J ag) ?_)))
  have z72_3:=jN e45.co
  refine es (S:=QV (-e45.co)) lS (QV.stable _) J J (fun w hw=>yy ((aU.mk ((f45_0.ext e5).kq m12_6) ((f45_1.ext e5).kq m12_6)).ext hw) (by omega)) ?_
  have z73_4:=vW e45.co (-e45.co)
  refine bZ (S:=QV (max e45.co (-e45.co))) yo (QV.stable _) J (fun w hw=>by rintro _ rfl v72 h72;exact KF ((aU.mk ((f45_0.ext e5).kq m12_6) ((f45_1.ext e5).kq m12_6)).ext hw) h72 (by omega)) (tL (b:=w12_6.heap.size) (A9.stable _ _ _) bv J (fun w hw=>hw.size) (bA ?_))
  rintro wg13 xg13 _ rfl _ rfl _ rfl _ hq12
  obtain rfl:=Eq.symm hq12
  rintro _ hq16
  obtain rfl:=Eq.symm hq16
  rintro _ ⟨g18,rfl,l18,k18⟩ _ hq41
  obtain rfl:=Eq.symm hq41
  rintro _ rfl _ rfl _ ⟨x73_0,x73_1,rfl,f73_0,f73_1⟩
  refine bD J J k18 J ag (am.cons J (am.cons f73_0.one (am.cons f73_1.one am.nil))) fun w13_7 q13_7 k13_7=>?_
  have x13_7:=aH.of_new (xg13) q13_7 l18
  have m13_7:=Kq.of1 (p:=[0,3,3]) k18 (ac rfl (ac rfl (ac rfl aT))) q13_7
  refine aI (aj ?_)
  have hm57l:m57.length≤2:=hm57.1.1
  have hMl:M.length≤2*i:=hLI.1.1
  refine ae (ab J J (bn J J (bB MV ((((d57.kq m9_13).ext xg12).kq m12_6).ext x13_7)) (ab J J (aI (aJ ?_)))))
  refine iy (fun(n:Nat) (xb:Value)=>[(6,.pointer (some ⟨g6,0,none⟩)),(9,.pointer (some ⟨gv,0,none⟩)),(11,.pointer (some ⟨g11,0,none⟩)),(12,xb),(18,.pointer (some ⟨g18,0,none⟩)),(41,fa),(42,I (f.ts.length:Int)),(43,I (i:Int)),(74,vg57),(75,I (m57.length:Int)),(76,I (n:Int))]) (fun(n:Nat) (xb:Value) w'=>aH w23 w'∧n≤m57.length∧dE g11 49 [B (c+e45.co*jm s e45.va (decide (e45.co<0))).sg,x67_0,x67_1] w'∧bH (c+e45.co*jm s e45.va (decide (e45.co<0))).nl x67_0 w'∧bH (c+e45.co*jm s e45.va (decide (e45.co<0))).dl x67_1 w'∧dE g18 49 [B (max e45.co (-e45.co)).sg,x73_0,x73_1] w'∧bH (max e45.co (-e45.co)).nl x73_0 w'∧bH (max e45.co (-e45.co)).dl x73_1 w'∧i2 w8_3.heap.size iI m57 vg57 w'∧(m57≠[]→∀k,xb.ownBlock=some k→vg57.ownBlock≠some k)∧gI w23.heap.size (M++GD (max e45.co (-e45.co)) (m57.take n)) xb w') (fun(n:Nat) (xb:Value)=>m57.length-n) (0) (xa) ⟨J,J,J,J,J,J,J,J,J,J,J,trivial⟩ ⟨(x12_6.trans x13_7),by omega,(k12_6.ext x13_7),((f67_0.kq m12_6).ext x13_7),((f67_1.kq m12_6).ext x13_7),k13_7,(f73_0.kq m13_7),(f73_1.kq m13_7),((((b57.kq m9_13).ext xg12).kq m12_6).ext x13_7),hne0,by simpa [GD] using((bh.st gz (((hM.ext x8_3).ext x9_13).ext xg12) m12_6 q12_6 (aN (k11L.ext e5) (((hM.ext x8_3).ext x9_13).ext xg12)).symm (by decide)).ext x13_7)⟩ ?_
  rintro n xb wI ⟨eI,hn,k11I,ta,tb,k18I,ua,ub,hFr,hne,hN⟩
  refine aj ?_
  have dFr:=hFr.1
  refine ae (ao J J J (aX) (aI (aj (ci J (fun h77=>?_) (fun h77=>?_)))))
  ·refine aA (ah (aj (aJ (bc ?_))))
   obtain⟨a78,c78,e78,he78,p78,q78,h78⟩:=gU dFr (i:=n)
   obtain⟨x78_0,x78_1,rfl,f78_0,f78_1⟩:=fJ h78
   refine aE J J J (p78 _) ?_
   have hm78:=hm57.1.2 e78 (by rw[he78];exact Nh _)
   refine ak J J (q78.ld M2 J eO) (ce oH J fun g20 w20 l20 x20 k20=>bD J J k20 J eO (am.cons J (am.cons J (am.cons J (am.cons J (am.cons J (am.cons f78_0.one (am.cons f78_1.one am.nil))))))) fun w16_3 q16_3 k16_3=>?_)
   have x16_3:=aH.of_new (x20) q16_3 l20
   refine aI (bj 9 [6,9,11,18,41,42,43,74,75,76,80,88] (by kernel_rfl) (by kernel_rfl) (ax J J (al J J (fun w hw=>kE) (ap J J (fun w hw=>(k16_3.ext hw).ldO (ms:=[I e78.row.kd,I e78.row.ix,I e78.row.lo,I e78.row.hi]) (o:=0) (ef J) MS J cX) (ap J J (fun w hw=>((k18I.ext x16_3).ext hw).ld MC J ag) (al J J (fun w hw=>i5) (ap J J (fun w hw=>(k16_3.ext hw).ldO (ms:=[B e78.co.sg,x78_0,x78_1]) (o:=4) (ef J) MC J ag) (ec (S:=QV (max e45.co (-e45.co)*e78.co)) jv (QV.stable _) J J J (fun w hw=>uC (x:=max e45.co (-e45.co)) (y:=e78.co) ((aU.mk (ua.ext x16_3) (ub.ext x16_3)).ext hw) ((aU.mk (f78_0.ext x16_3) (f78_1.ext x16_3)).ext hw) (by omega)) (bZ (S:=bQ iI ((⟨e78.row,(max e45.co (-e45.co))*e78.co⟩:eh))) eR (bQ.stable _ _) J (fun w hw=>by rintro _ rfl v86 h86;exact(eS (r:=e78.row) (c:=(max e45.co (-e45.co))*e78.co) ((bQ.mk iJ).ext hw) h86)) (dv (S:=cF iI [((⟨e78.row,(max e45.co (-e45.co))*e78.co⟩:eh))]) (cF.stable _ _) J (fun w hw=>by rintro _ ⟨_,rfl,r⟩;exact wj r) (bA ?_)))))))))))
   rintro wg17 xg17 _ rfl _ rfl _ rfl _ rfl _ hq41
   obtain rfl:=Eq.symm hq41
   rintro _ rfl _ rfl _ hq74
   obtain rfl:=Eq.symm hq74
   rintro _ rfl _ rfl _ hq80
   obtain rfl:=Eq.symm hq80
   intro vg88 b88
   have e3:=x16_3.trans xg17
   have pF:=(hFr.ext e3)
   have e7:=((eI.trans x16_3).trans xg17)
   obtain⟨v89,w89,hr89,o89,g89⟩:=tJ (ty:=124) (hN.ext e3) b88 (by simp only[List.length_append,List.length_cons,List.length_nil,GD,List.length_map,List.length_take];omega) e7.size
   refine df J J hr89 ?_
   have x89:=aH.of_grew e7 g89 ((hN.ext e3)).ge
   have m89:=((hN.ext e3)).kqG g89 (by decide)
   obtain⟨hFr2,hne2⟩:=i2.grew (fun a=>by rw[mA];omega) pF g89 m89 hne (by decide)
   refine aa J J (ar (aW (ah (ae (ao (r:=I ((n+1:Nat):Int)) J J J (by have e:((n+1:Nat):Int)=(n:Int)+1:=(by omega);rw[e];exact aY) (ab J J (ar ?_)))))))
   have i2_k11I:=((k11I.ext x16_3).ext xg17)
   have j3_k11I:=(i2_k11I.other g89.grown (aN i2_k11I (hN.ext e3)))
   have i4_k18I:=((k18I.ext x16_3).ext xg17)
   have j5_k18I:=(i4_k18I.other g89.grown (aN i4_k18I (hN.ext e3)))
   refine fk (n+1) (_) ⟨J,J,J,J,J,J,J,J,J,J,J,trivial⟩ ⟨x89,by omega,j3_k11I,((ta.ext e3).kq m89),((tb.ext e3).kq m89),j5_k18I,((ua.ext e3).kq m89),((ub.ext e3).kq m89),hFr2,hne2,by rw[IU (by omega),←he78,←List.append_assoc];exact o89⟩ (by omega)
  ·refine bJ (aV (aV (bP (aW (ah ?_)))))
   obtain rfl:n=m57.length:=by omega
   rw[List.take_length] at hN
   refine ae (ao (r:=I ((i+1:Nat):Int)) J J J (by have e:((i+1:Nat):Int)=(i:Int)+1:=(by omega);rw[e];exact aY) (ab J J (ar (kP (i+1) ((c+e45.co*jm s e45.va (decide (e45.co<0)))) (_) (_) (M++GD (max e45.co (-e45.co)) m57) (xb) ⟨J,J,J,J,J,J,J,trivial⟩ ⟨eI,by omega,by rw[hfs];rfl,by have h1:=gP c (e45.co*jm s e45.va (decide (e45.co<0)));have h2:=f7 e45.co (jm s e45.va (decide (e45.co<0)));rw[htk,Nat.add_mul,Nat.one_mul];omega,k11I,ta,tb,by have h:=hLI.step (l:=m57) (by omega) (by rw[←he45];exact hm57);rw[←he45] at h;exact h,hN⟩ (by omega)))))
 ·refine bJ (aV (aV (bP (ah (aj ?_)))))
  obtain rfl:i=f.ts.length:=by omega
  rw[List.take_length] at hc
  have hq1:=hLI.1.1
  have hq3:=hLI.1.2.2
  rw[List.take_length] at hq3
  have hq4:2*f.ts.length*(3*b+4)≤14*(3*b+4):=Ni _ (by omega)
  refine ae (ab J J (aq o4 J J ((s9 (gI.dsv hM) (by omega) hLI.1.2.1 (by omega))) ?_))
  rintro v94 w94 ⟨x94,⟨u94_a,_,rfl,⟨m94_a,hm94_a,b94_a⟩,rfl⟩⟩
  refine ab J J (aB J J cY (aB J J cZ (aa J J (dR (ak J J ((k11L.ext x94).ld MC J ag) (ab J J (bD J J (k6.ext ((x23.trans eL).trans x94)) J ag (am.cons J (am.cons sa.one (am.cons sb.one am.nil))) fun w21_2 q21_2 k21_2=>?_)))))))
  have x21_2:=aH.of_new ((((x6.trans x23).trans eL).trans x94)) q21_2 l6
  have m21_2:=Kq.of1 (p:=[0,3,3]) (k6.ext ((x23.trans eL).trans x94)) (ac rfl (ac rfl (ac rfl aT))) q21_2
  refine aa J J (aa J J (aI (aD (bp J (.cell J (k21_2.ld MC J ag) (.tmp J (.tmp J .nil))) ?_))))
  have hval:nr s f=c:=hc.symm
  exact⟨_,J,(((x3.trans x4).trans x5).trans x21_2),_,_,_,J,by rw[hval];exact aU.mk ((sa.ext x94).kq m21_2) ((sb.ext x94).kq m21_2),⟨m94_a,hLI.done hm94_a hfl (by unfold ew;omega) (by omega),(b94_a.kq m21_2)⟩,J⟩
end Go.Rl
namespace Go.Rl
open Go.RowKit Go.Proofs
theorem yQ:az Tryz.prog 409:=⟨_,Tryz.func409,by kernel_rfl,rfl⟩
theorem DN:az Tryz.prog 407:=⟨_,Tryz.func407,by kernel_rfl,rfl⟩
theorem DO:az Tryz.prog 405:=⟨_,Tryz.func405,by kernel_rfl,rfl⟩
theorem yR {w:World} {s:eX} {k j:Int} {v:Value} (hv:bQ ro s v w) (hs:n7 s.q) (hp:∀d∈s.pa,i9 s.q d):
 Calls Tryz.prog 409 #[v,I k,I j] w (cA fun e w'=>aH w w'∧Is (B (gh s k j)) e w'):=by
 obtain⟨_,rfl,ra⟩:=hv
 obtain⟨su,so,sl,sh,sr,st,sm,sn,sp,sq,rfl,iu,io,il,ih,ir,it,im,jn,ip,iq⟩:=d7 ra
 have hlen:=ip.len
 refine enter (vs:=[.agg #[I s.q.g.inp,su,so,sl,sh,sr,st,B s.q.go.ct.sg,sm,sn,sp,sq],I k,I j]) Tryz.func409 J J J (bc (cj J J fun g3 w3 l3 x3 k3=>(aa J J (aI (aj (bc (af J J (cx) (ak J J (ai MO J (k3.cell (i:=10) J)) (bn J J (bB MO (ip.ext x3)) (ab J J (aI (aJ (dS (α:=Nat) (fun i=>[(1,I k),(2,I j),(3,.pointer (some ⟨g3,0,none⟩)),(10,sp),(11,I (s.pa.length:Int)),(12,I (i:Int))]) (fun i w'=>aH w3 w'∧i≤s.pa.length∧s.pa.any (fun d=>decide (d.kd=k)&&decide (d.ix=j))=(s.pa.drop i).any (fun d=>decide (d.kd=k)&&decide (d.ix=j))) (fun i=>s.pa.length-i) (0) ⟨J,J,J,J,J,J,trivial⟩ ⟨aH.refl _,by omega,J⟩ ?_)))))))))))))
 rintro i wL ⟨eL,hi,hall⟩
 refine bc (ao J J J (aX) (aI (aj (ci J (fun h13=>?_) (fun h13=>?_)))))
 ·refine aA (ah (aj (aJ (bc ?_))))
  obtain⟨a14,c14,e14,he14,p14,q14,h14⟩:=iU (ip.ext (x3.trans eL)) (i:=i)
  obtain⟨x14_0,x14_1,rfl,f14_0,f14_1⟩:=gn h14
  refine aE J J J (p14 _) (ak J J (q14.ld MW J cH) (ce iM J fun g8 w8 l8 x8 k8=>bD J J k8 J cH (am.cons J (am.cons J (am.cons J (am.cons f14_0.one (am.cons f14_1.one am.nil))))) fun w3_3 q3_3 k3_3=>?_))
  have x3_3:=aH.of_new (x8) q3_3 l8
  refine aI (aj ?_)
  rcases(show e14.kd≠k∨(e14.kd=k∧e14.ix≠j)∨(e14.kd=k∧e14.ix=j) by omega) with hA|⟨hA,hB⟩|⟨hA,hB⟩
  ·refine ae (af J J (bW) (ak J J (ai ME J (k3_3.cell (i:=0) J)) ?_))
   refine ab J J (ao J J J (be hA aO) (ab J J (bf J J J (bf J J J (bf J J J (bf J J J (aG J J J (ab J J (bf J J J (bf J J J (bf J J J (bf J J J (aG J J J (aI (bU J (aA (aW (ah (ae (ao (r:=I ((i+1:Nat):Int)) J J J (by have e:((i+1:Nat):Int)=(i:Int)+1:=(by omega);rw[e];exact aY) (ab J J (ar (dC (i+1) ⟨J,J,J,J,J,J,trivial⟩ ⟨(eL.trans x3_3),by omega,oS (by omega) hall (by rw[←he14,decide_eq_false hA];rfl)⟩ (by omega))))))))))))))))))))))))
  ·refine ae (af J J (bW) (ak J J (ai ME J (k3_3.cell (i:=0) J)) ?_))
   refine ab J J (ao J J J (bF hA aO) (ab J J (an J (af J J (bd) (an J (ak J J (ai ME J (k3_3.cell (i:=1) J)) (an J (ab J J (an J (ao J J J (be hB aO) (aR J J J (ab J J (bf J J J (bf J J J (bf J J J (bf J J J (aG J J J (aI (bU J (aA (aW (ah (ae (ao (r:=I ((i+1:Nat):Int)) J J J (by have e:((i+1:Nat):Int)=(i:Int)+1:=(by omega);rw[e];exact aY) (ab J J (ar (dC (i+1) ⟨J,J,J,J,J,J,trivial⟩ ⟨(eL.trans x3_3),by omega,oS (by omega) hall (by rw[←he14,decide_eq_false hB,Bool.and_false])⟩ (by omega))))))))))))))))))))))))))))
  ·refine ae (af J J (bW) (ak J J (ai ME J (k3_3.cell (i:=0) J)) ?_))
   refine ab J J (ao J J J (bF hA aO) (ab J J (an J (af J J (bd) (an J (ak J J (ai ME J (k3_3.cell (i:=1) J)) (an J (ab J J (an J (ao J J J (bF hB aO) (aR J J J (ab J J (an J (af J J (bz) (an J (ak J J ((k3.ext (eL.trans x3_3)).ldO (ms:=[I s.q.g.inp,su,so,sl,sh,sr,st,B s.q.go.ct.sg,sm,sn]) (o:=0) (ef J) MU J cV) ?_))))))))))))))))
   have e1:=(x3.trans eL).trans x3_3
   refine an J (ak J J (k3_3.ld MW J cH) (an J (aq uH J J ((uI (bQ.mk (gr (iu.ext e1) (io.ext e1) (il.ext e1) (ih.ext e1) (ir.ext e1) (it.ext e1) (im.ext e1) (jn.ext e1))) (bQ.mk (lf (f14_0.ext x3_3) (f14_1.ext x3_3))) (hp e14 (by rw[he14];exact Nh _)) hs)) ?_)))
   rintro v30 w30 ⟨x30,rfl⟩
   refine aR J J J (aI (cg J (bc (aa J J (aI (aD (bK (a0 (a0 (bK (a0 (aF J J ?_))))))))))))
   exact⟨_,J,(e1.trans x30),by show B _=B _;unfold gh;rw[tZ (i:=i) (by omega) hall (by rw[←he14,decide_eq_true hA,decide_eq_true hB];rfl)]⟩
 ·refine bJ (aV (aV (bP (ah (bc (aa J J (aI (aD (aF J J ?_)))))))))
  exact⟨_,J,(x3.trans eL),by show B _=B _;unfold gh;rw[rg (i:=i) (by omega) hall]⟩
def LJ (f:dx) (C:Nat):dn:=fun v w=>∃(r:Bc) (c:Rat) (a x y p q:Value),v=.agg #[a,B f.ct.sg,x,y,I r.kd,I r.ix,I r.lo,I r.hi,B c.sg,p,q]∧cF kW f.ts a w∧bH f.ct.nl x w∧bH f.ct.dl y w∧bH c.nl p w∧bH c.dl q w∧0≤c∧bt c≤C
theorem IX (s:eX) (j:Int) (p:Nat) (h0:0<p):(gh s 1 j=true∧nV s j p=true)∨(gh s 1 j=false∧0≤dA s.lm p∧nV s j p=true)∨(gh s 1 j=false∧¬0≤dA s.lm p∧¬nV s j p=true):=by
 unfold nV
 cases gh s 1 j<;>by_cases h:0≤dA s.lm p<;>simp[h,h0]
def IY:List Value:=[.slice none 0 0,B false,.slice none 0 0,.slice none 0 0,I 0,I 0,I 0,I 0,B false,.slice none 0 0,.slice none 0 0]
theorem J8 {l:List UInt32} {w:World} (h:bH l (.slice none 0 0) w):l=[]:=by
 obtain⟨A,n,c,hv,_,_,h4,_,_⟩:=h
 injection hv with h1 h2 h3
 subst h2
 exact Nm (by simpa using h4)
theorem Aq {g:Nat} {T:TypeId} {w:World} (k:dE g T IY w) {ad:Addr} (hg:ad.block=g) {u:Value} {j:Nat} (h:w.cell? (ad.add j)=some u):IY[ad.off+j]? =some u:=by
 have hb:w.heap[g]? =some (.cells IY.toArray T (0,0)):=k
 have hs:(ad.add j).spot=none:=World.cell?_spot h
 have e1:ad.add j=⟨g,ad.off+j,none⟩:=by
  unfold Addr.add at hs⊢
  split
  ·rename_i h0
   subst h0
   rw[if_pos rfl] at hs
   cases ad
   simp_all
  ·rw[hg]
 rw[e1,cell_of_row w g _ _ T (0,0) hb] at h
 simpa using h
theorem qA {ts:List dU} {a:Value} {w w':World} {g:Nat} {T:TypeId} (h:cF kW ts a w) (k:dE g T IY w) (hnz:∀t∈ts,t.co≠0) (q:w.grownBy w' (some g)):cF kW ts a w':=by
 have m:Kq [3,0,3,3,2,2,2,2,0,3,3] w w':=Kq.of k rfl (by decide) q
 unfold cF at h⊢
 simp only[Rp] at h⊢
 obtain⟨A,n,c,hv,h2,h3,h4,h5,h6⟩:=h
 obtain⟨rfl⟩:a=.slice A n c:=by simpa using hv
 refine⟨A,n,c,J,h2,h3,h4,h5,fun hn=>?_⟩
 obtain⟨ad,xs,hA,hc,hr⟩:=h6 hn
 subst hA
 have hne:ad.block≠g:=fun he=>by
  cases ts with
  |nil=>simp at h2;omega
  |cons t ts=>
   simp only[List.map_cons,bm] at hr
   obtain⟨c1,c2,rfl,h7,_⟩:=hr
   obtain⟨x,y,rfl,fx,fy⟩:=d4 h7
   have z0:=Aq k he (hc 0 (I t.va) (by simp))
   have z1:=Aq k he (hc 1 (B t.co.sg) (by simp))
   have z2:=Aq k he (hc 2 x (by simp))
   have hx:x=.slice none 0 0:=by
    generalize ad.off=o at z0 z1 z2
    rcases o with _|_|_|_|_|_|_|_|_|_|_|o<;>simp[IY] at z0 z1 z2<;>first|exact z2.symm|(cases z0)|(cases z1)
   subst hx
   have h8:=vV t.co
   rw[J8 fx] at h8
   have h9:t.co.num.natAbs=0:=h8.symm
   exact hnz t (by simp) (Rat.num_eq_zero.1 (by omega))
 refine⟨ad,xs,J,fun j u' hj=>?_,Kq.all m (dF.of fun t _=>en.off (s:=(inferInstance:pg kW).sh) m.pos (by decide) ((inferInstance:pg kW).ok t)) hr⟩
 exact q.cell (hc j u' hj) fun e=>by
  rw[gj] at e
  exact hne (Nc e)
theorem B1 {w:World}:cF kW zF.ts (.slice none 0 0) w:=cF.nil _ _
set_option maxHeartbeats 2000000 in
theorem DP {w:World} {s:eX} {j k b C:Nat} {c:Rat} {v u:Value} (hv:bQ ro s v w) (hu:QV c u w) (hs:n7 s.q) (hp:∀d∈s.pa,i9 s.q d) (hk:rz s k b) (hj:j<k) (hju:j<s.q.g.us.length) (hc:bt c≤C) (hC:C≤4294967296):
 Calls Tryz.prog 407 #[v,I (j:Int),u] w (cA fun e w'=>aH w w'∧gQ (LJ (gw s j s.q.g.us[j] c) (C+2*b)) (Is (B true)) e w'):=by
 obtain⟨_,rfl,ra⟩:=hv
 obtain⟨su,so,sl,sh,sr,st,sm,sn,sp,sq,rfl,iu,io,il,ih,ir,it,im,jn,ip,iq⟩:=d7 ra
 obtain⟨ca,cb,rfl,la,lb'⟩:=hu
 have hlen:=iq.len
 have hk1:=hk.b1
 obtain⟨hpl,hql⟩:=xe s.lm j
 obtain⟨hp0,hq0⟩:=hk.kn j hj
 obtain⟨hpb,hqb⟩:=hk.bb j hj
 have hum:=hs.g.len j hju
 have habs:=DM c
 have hnn:=IW c
 have hR:gw s j s.q.g.us[j] c=(if nV s j (cy s.lm j).1=true then s.q.g.us[j] else if iB s j (cy s.lm j).2=true then zF else if 0<c then(if mO (dA s.lm (cy s.lm j).1) (dA s.lm (cy s.lm j).2)=1 then s.q.g.us[j] else zF) else lj (cN s.q.g.us[j] (dA s.lm (cy s.lm j).2/(dA s.lm (cy s.lm j).2-dA s.lm (cy s.lm j).1))) ⟨[],ls (dA s.lm (cy s.lm j).1) (dA s.lm (cy s.lm j).2)⟩):=rfl
 have hBest:∃p q,p=(cy s.lm j).1∧q=(cy s.lm j).2∧∀(W:World) v,bQ ro s v W→Calls Tryz.prog 79 #[v,I (j:Int)] W (cA fun r w'=>aH W w'∧gQ (Is (I (p:Int))) (Is (I (q:Int))) r w'):=⟨_,_,rfl,rfl,fun W v hv=>mN (u:=j) hv hk.lm⟩
 obtain⟨p,q,hpd,hqd,hBest⟩:=hBest
 rw[←hpd] at hpl hp0 hpb hR
 rw[←hqd] at hql hq0 hqb hR
 obtain⟨L,hL⟩:∃L,L=dA s.lm p:=⟨_,rfl⟩
 obtain⟨U,hU⟩:∃U,U=dA s.lm q:=⟨_,rfl⟩
 have hon:=IX s j p hp0
 have hoff:=BR s j q hq0
 rw[←hL] at hpb hR hon
 rw[←hU] at hqb hR hoff
 have hla:L=s.lm[p-1].va:=hL.trans (fA (by omega))
 have hua:U=s.lm[q-1].va:=hU.trans (fA (by omega))
 refine enter (vs:=[.agg #[I s.q.g.inp,su,so,sl,sh,sr,st,B s.q.go.ct.sg,sm,sn,sp,sq],I (j:Int),.agg #[B c.sg,ca,cb]]) Tryz.func407 J J J (bc (cj J J fun g3 w3 l3 x3 k3=>cj J J fun g5 w5 l5 x5 k5=>ce iZ J fun g6 w6 l6 x6 k6=>(aa J J (dR (af J J (bz) (af J J (bG) (af J J (bX) (ak J J (ai MI J ((x5.trans x6).cell_some (k3.cell (i:=1) J))) (ab J J ?_)))))))))
 obtain⟨a26,c26,e26,he26,p26,q26,h26⟩:=eN (iu.ext ((x3.trans x5).trans x6)) (i:=j)
 obtain⟨x26_0,x26_1,x26_2,rfl,f26_0,f26_1,f26_2⟩:=cl h26
 refine aE J J J (p26 _) (ak J J (q26.ld MG J ay) (ce cd J fun g8 w8 l8 x8 k8=>bD J J k8 J ay (am.cons f26_0.one (am.cons J (am.cons f26_1.one (am.cons f26_2.one am.nil)))) fun w1_8 q1_8 k1_8=>?_))
 have x1_8:=aH.of_new (x8) q1_8 l8
 refine dR (ak J J ((k3.ext ((x5.trans x6).trans x1_8)).ld MM J bg) (ab J J ?_))
 have e2:=((x3.trans x5).trans x6).trans x1_8
 refine aq mK J J (hBest _ _ (bQ.mk (dm (iu.ext e2) (io.ext e2) (il.ext e2) (ih.ext e2) (ir.ext e2) (it.ext e2) (im.ext e2) (jn.ext e2) (ip.ext e2) (iq.ext e2)))) ?_
 rintro v31 w31 ⟨x31,⟨_,_,rfl,rfl,rfl⟩⟩
 refine ab J J (aB J J cY (aB J J cZ (aa J J (aa J J (dR (ce bv J fun g11 w11 l11 x11 k11=>ce bv J fun g12 w12 l12 x12 k12=>(aI (aj (bc (ab J J (ao J J J (bF (by omega) bo) (aI (cg J (ae (af J J (bO) ?_)))))))))))))))
 have e11:=((x5.trans x6).trans x1_8).trans x31
 refine ak J J (ai MN J (((e11.trans x11).trans x12).cell_some (k3.cell (i:=11) J))) (ab J J (ao (r:=I ((p-1:Nat):Int)) J J J (by have e:((p-1:Nat):Int)=(p:Int)-1:=(by omega);rw[e];exact bT) ?_))
 obtain⟨a40,c40,p40,q40,h40⟩:=cP (P:=Tryz.prog) (sz:=6) MN (by kernel_rfl) er (by omega) (iq.ext (((e2.trans x31).trans x11).trans x12)) (i:=(p-1:Nat)) (by omega) .i64
 obtain⟨e40,he40⟩:∃e,e=s.lm[(p-1:Nat)]'(by omega):=⟨_,rfl⟩
 rw[←he40] at h40
 obtain⟨x40_0,x40_1,x40_2,rfl,f40_0,f40_1,f40_2⟩:=eG h40
 refine aE J J J (p40 _) ?_
 have hl40:L=e40.va:=by rw[he40];exact hla
 refine af J J (cT) (ak J J (q40.ldO (ms:=[B e40.va.sg,x40_0,x40_1]) (o:=2) (ef J) MC J ag) (bD J J (k11.ext x12) J ag (am.cons J (am.cons f40_0.one (am.cons f40_1.one am.nil))) fun w5_7 q5_7 k5_7=>?_))
 have x5_7:=aH.of_new ((x11.trans x12)) q5_7 l11
 have m5_7:=Kq.of1 (p:=[0,3,3]) (k11.ext x12) (ac rfl (ac rfl (ac rfl aT))) q5_7
 refine aI (aj (bc (ab J J (ao J J J (bF (by omega) bo) (aI (cg J (ae (af J J (bO) (ak J J (ai MN J ((e11.trans x5_7).cell_some (k3.cell (i:=11) J))) (ab J J (ao (r:=I ((q-1:Nat):Int)) J J J (by have e:((q-1:Nat):Int)=(q:Int)-1:=(by omega);rw[e];exact bT) ?_)))))))))))
 obtain⟨a49,c49,p49,q49,h49⟩:=cP (P:=Tryz.prog) (sz:=6) MN (by kernel_rfl) er (by omega) (iq.ext ((e2.trans x31).trans x5_7)) (i:=(q-1:Nat)) (by omega) .i64
 obtain⟨e49,he49⟩:∃e,e=s.lm[(q-1:Nat)]'(by omega):=⟨_,rfl⟩
 rw[←he49] at h49
 obtain⟨x49_0,x49_1,x49_2,rfl,f49_0,f49_1,f49_2⟩:=eG h49
 refine aE J J J (p49 _) ?_
 have hu49:U=e49.va:=by rw[he49];exact hua
 refine af J J (cT) (ak J J (q49.ldO (ms:=[B e49.va.sg,x49_0,x49_1]) (o:=2) (ef J) MC J ag) ?_)
 have j1_k12:=(k12.other q5_7 fun e=>by have h1:=k11.lt;have h2:=l12;have h4:=Nc e;omega)
 refine bD J J j1_k12 J ag (am.cons J (am.cons f49_0.one (am.cons f49_1.one am.nil))) fun w7_7 q7_7 k7_7=>?_
 have x7_7:=aH.of_new (x5_7) q7_7 (Nb (x11).size l12)
 have m7_7:=Kq.of1 (p:=[0,3,3]) j1_k12 (ac rfl (ac rfl (ac rfl aT))) q7_7
 refine aI (aj (bj 7 [1,5,6,8,9,10,11,12,13,57] (by kernel_rfl) (by kernel_rfl) (ap J J (fun w hw=>((k3.ext (e11.trans x7_7)).ext hw).ld MM J bg) ?_)))
 have e1:=(e2.trans x31).trans x7_7
 refine ax J J (bZ (S:=Is (B (gh s 1 j))) yQ (bi.is _) J (fun w hw=>by rintro _ rfl _ rfl _ rfl;exact(yR (k:=1) (j:=(j:Int)) ((bQ.mk (dm (iu.ext e1) (io.ext e1) (il.ext e1) (ih.ext e1) (ir.ext e1) (it.ext e1) (im.ext e1) (jn.ext e1) (ip.ext e1) (iq.ext e1))).ext hw) hs hp)) (ap J J (fun w hw=>((k3.ext (e11.trans x7_7)).ext hw).ld MM J bg) (ax J J (bZ (S:=Is (B (gh s 2 j))) yQ (bi.is _) J (fun w hw=>by rintro _ rfl _ rfl _ rfl;exact(yR (k:=2) (j:=(j:Int)) ((bQ.mk (dm (iu.ext e1) (io.ext e1) (il.ext e1) (ih.ext e1) (ir.ext e1) (it.ext e1) (im.ext e1) (jn.ext e1) (ip.ext e1) (iq.ext e1))).ext hw) hs hp)) (gA J J (bA ?_))))))
 rintro wg8 xg8 _ rfl _ rfl _ rfl _ rfl _ rfl _ rfl _ rfl _ rfl _ rfl _ rfl
 refine aa J J (aI (aj ?_))
 have hcs:decide (gx c>0)=decide (0<c):=decide_eq_decide.2 iR
 have hbe:bt e40.va≤b∧bt e49.va≤b:=by rw[←hl40,←hu49];exact⟨hpb,hqb⟩
 have e15:=(((x6.trans x1_8).trans x31).trans x7_7).trans xg8
 refine ae (ak J J ((k5.ext e15).ld MC J ag) (aq cw J J (ek (aU.mk (la.ext (e1.trans xg8)) (lb'.ext (e1.trans xg8))) (by omega)) ?_))
 rintro v59 w59 ⟨x59,rfl⟩
 refine ao (r:=B (decide (0<c))) J J J ((by rw[←hcs];exact bo)) (aa J J (aI (aj (bj 8 [1,6,8,9,10,11,12,13,14,15,16,67] (by kernel_rfl) (by kernel_rfl) (ax J J (et (S:=Is (.agg #[I 0,I (j:Int),I 0,I 0])) (bi.is _) J (fun w _=>by rintro _ rfl;exact⟨_,w,run_build _ _ _ _ (by kernel_rfl),aH.refl _,J⟩) (ap J J (fun w hw=>((k5.ext (e15.trans x59)).ext hw).ld MC J ag) (ap J J (fun w hw=>((k5.ext (e15.trans x59)).ext hw).ld MC J ag) ?_))))))))
 have z65_1:=jN c
 have e18:=(e1.trans xg8).trans x59
 refine es (S:=QV (-c)) lS (QV.stable _) J J (fun w hw=>yy ((aU.mk (la.ext e18) (lb'.ext e18)).ext hw) (by omega)) ?_
 have z66_2:=vW c (-c)
 refine bZ (S:=QV (max c (-c))) yo (QV.stable _) J (fun w hw=>by rintro _ rfl v65 h65;exact KF ((aU.mk (la.ext e18) (lb'.ext e18)).ext hw) h65 (by omega)) (et (S:=fun v w=>∃y67_8_0 y67_8_1:Value,v=.agg #[.slice none 0 0,B false,.slice none 0 0,.slice none 0 0,I 0,I (j:Int),I 0,I 0,B (max c (-c)).sg,y67_8_0,y67_8_1]∧bH (max c (-c)).nl y67_8_0 w∧bH (max c (-c)).dl y67_8_1 w) (fun _ _ _ ⟨_,_,e,g0,g1⟩ hx=>⟨_,_,e,g0.ext hx,g1.ext hx⟩) J (fun w hw=>by rintro _ rfl v66 h66;obtain⟨y67_8_0,y67_8_1,rfl,k67_8_0,k67_8_1⟩:=h66;obtain⟨_,_,_,rfl⟩:=k67_8_0.isS;obtain⟨_,_,_,rfl⟩:=k67_8_1.isS;exact⟨_,w,run_build _ _ _ _ (by kernel_rfl),aH.refl _,_,_,J,k67_8_0,k67_8_1⟩) (tL (b:=w59.heap.size) (A9.stable _ _ _) iZ J (fun w hw=>hw.size) (bA ?_)))
 rintro wg10 xg10 _ rfl _ rfl _ rfl _ rfl _ rfl _ rfl _ rfl _ rfl _ rfl _ rfl _ ⟨g16,rfl,l16,k16⟩ _ ⟨y67_0,y67_1,rfl,k67_0,k67_1⟩
 refine bD J J k16 J fD (am.cons J (am.cons J (am.cons J (am.cons J (am.cons J (am.cons J (am.cons J (am.cons J (am.cons J (am.cons k67_0.one (am.cons k67_1.one am.nil))))))))))) fun w10_8 q10_8 k10_8=>?_
 have x10_8:=aH.of_new (xg10) q10_8 l16
 have m10_8:=Kq.of1 (p:=[3,0,3,3,2,2,2,2,0,3,3]) k16 (ac rfl (ac rfl (ac rfl (ac rfl (ac rfl (ac rfl (ac rfl (ac rfl (ac rfl (ac rfl (ac rfl aT))))))))))) q10_8
 refine aI (aj (i3 (fun p:Bc×Rat×Value×Value×Value×Value×Value=>[(6,.pointer (some ⟨g6,0,none⟩)),(16,.pointer (some ⟨g16,0,none⟩))]) (fun p w'=>aH w w'∧dE g6 419 [.slice none 0 0,B false,.slice none 0 0,.slice none 0 0,I 0,I 0,I 0,I 0,B false,.slice none 0 0,.slice none 0 0] w'∧dE g16 419 [p.2.2.1,B (gw s j s.q.g.us[j] c).ct.sg,p.2.2.2.1,p.2.2.2.2.1,I p.1.kd,I p.1.ix,I p.1.lo,I p.1.hi,B p.2.1.sg,p.2.2.2.2.2.1,p.2.2.2.2.2.2] w'∧(∀w2,w'.grownBy w2 (some g6)→cF kW (gw s j s.q.g.us[j] c).ts p.2.2.1 w2)∧bH (gw s j s.q.g.us[j] c).ct.nl p.2.2.2.1 w'∧bH (gw s j s.q.g.us[j] c).ct.dl p.2.2.2.2.1 w'∧bH p.2.1.nl p.2.2.2.2.2.1 w'∧bH p.2.1.dl p.2.2.2.2.2.2 w'∧0≤p.2.1∧bt p.2.1≤C+2*b) ?_ ?_))
 ·refine aJ (aj ?_)
  rcases hon with⟨hA,hO⟩|⟨hA,hA2,hO⟩|⟨hA,hA2,hO⟩
  ·rw[hA]
   refine ae (ab J J (ab J J (bf J J J (bf J J J (bf J J J (dh J J J (dh J J J (dh J J J (bf J J J (aR J J J (aa J J (aI (cg J (bc (ak J J ((k1_8.ext ((((x31.trans x7_7).trans xg8).trans x59).trans x10_8)).ld MG J ay) (af J J (eJ) (xv (cs':=[x26_0,B e26.ct.sg,x26_1,x26_2,I 0,I (j:Int),I 0,I 0,B (max c (-c)).sg,y67_0,y67_1]) J J k10_8 J ay (am.cons f26_0.one (am.cons J (am.cons f26_1.one (am.cons f26_2.one am.nil)))) J fun w16_2 q16_2 k16_2=>?_)))))))))))))))))
   have x16_2:=aH.of_new (x10_8) q16_2 l16
   have m16_2:=Kq.of1 (p:=[3,0,3,3,2,2,2,2,0,3,3]) k10_8 (ac rfl (ac rfl (ac rfl (ac rfl (ac rfl (ac rfl (ac rfl (ac rfl (ac rfl (ac k67_0.kd (ac k67_1.kd aT))))))))))) q16_2
   refine af J J (ck) (af J J (eK) (iD J J k16_2 jS J J fun w16_5 q16_5 k16_5=>?_))
   have x16_5:=aH.of_new (x16_2) q16_5 l16
   have m16_5:=Kq.of1 (p:=[3,0,3,3,2,2,2,2,0,3,3]) k16_2 (ac f26_0.kd (ac rfl (ac f26_1.kd (ac f26_2.kd (ac rfl (ac rfl (ac rfl (ac rfl (ac rfl (ac k67_0.kd (ac k67_1.kd aT))))))))))) q16_5
   refine aI (aj ?_)
   rcases Decidable.em (0<c) with hc0|hc0
   ·rw[decide_eq_true hc0]
    refine ae (ab J J (cC J J cn (aI (bU J (aA (aW ?_))))))
    have hval:gw s j s.q.g.us[j] c=e26:=by rw[hR,if_pos hO,he26]
    rw[hval]
    have e4:=((((x1_8.trans x31).trans x7_7).trans xg8).trans x59).trans x16_5
    exact cW (⟨6,j,0,0⟩,max c (-c),_,_,_,_,_) ⟨J,J,trivial⟩ ⟨((((((((x3.trans x5).trans x6).trans x1_8).trans x31).trans x7_7).trans xg8).trans x59).trans x16_5),(k6.ext e4),k16_5,fun w2 q2=>qA (f26_0.ext e4) (k6.ext e4) (fun t ht=>(ft (hs.g.us j hju).1 t (he26▸ht)).2.2) q2,(f26_1.ext e4),(f26_2.ext e4),(((k67_0.kq m10_8).kq m16_2).kq m16_5),(((k67_1.kq m10_8).kq m16_2).kq m16_5),hnn,(show bt (max c (-c))≤C+2*b by omega)⟩
   ·rw[decide_eq_false hc0]
    refine ae (ab J J (cC J J cn (aI (cg J (bc (af J J (ck) (af J J (eK) (iD J J k16_5 jS J J fun w18_2 q18_2 k18_2=>?_))))))))
    have x18_2:=aH.of_new (x16_5) q18_2 l16
    have m18_2:=Kq.of1 (p:=[3,0,3,3,2,2,2,2,0,3,3]) k16_5 (ac f26_0.kd (ac rfl (ac f26_1.kd (ac f26_2.kd (ac rfl (ac rfl (ac rfl (ac rfl (ac rfl (ac k67_0.kd (ac k67_1.kd aT))))))))))) q18_2
    refine dR (ab J J (cC J J cn (aI (bU J (aA (aW ?_))))))
    have hval:gw s j s.q.g.us[j] c=e26:=by rw[hR,if_pos hO,he26]
    rw[hval]
    have e5:=((((x1_8.trans x31).trans x7_7).trans xg8).trans x59).trans x18_2
    exact cW (⟨8,j,0,0⟩,max c (-c),_,_,_,_,_) ⟨J,J,trivial⟩ ⟨((((((((x3.trans x5).trans x6).trans x1_8).trans x31).trans x7_7).trans xg8).trans x59).trans x18_2),(k6.ext e5),k18_2,fun w2 q2=>qA (f26_0.ext e5) (k6.ext e5) (fun t ht=>(ft (hs.g.us j hju).1 t (he26▸ht)).2.2) q2,(f26_1.ext e5),(f26_2.ext e5),((((k67_0.kq m10_8).kq m16_2).kq m16_5).kq m18_2),((((k67_1.kq m10_8).kq m16_2).kq m16_5).kq m18_2),hnn,(show bt (max c (-c))≤C+2*b by omega)⟩
  ·rw[hA]
   refine ae (ab J J (ab J J (an J (ab J J (an J (ao J J J (bF (by omega) bo) (an J (ab J J (an J ?_)))))))))
   have j2_k5_7:=((((k5_7.other q7_7 fun e=>by have h1:=k11.lt;have h2:=l12;have h4:=Nc e;omega).ext xg8).ext x59).ext x10_8)
   have e21:=(xg8.trans x59).trans x10_8
   refine ak J J (j2_k5_7.ld MC J ag) (an J (aq cw J J (ek (aU.mk (((f40_0.kq m5_7).kq m7_7).ext e21) (((f40_1.kq m5_7).kq m7_7).ext e21)) (by omega)) ?_))
   rintro v105 w105 ⟨x105,rfl⟩
   refine an J (ao J J J (bF (jZ.2 (hl40▸hA2)) cz) (an J (aR J J J (aG J J J (aa J J (aI (cg J (bc (ak J J ((k1_8.ext (((((x31.trans x7_7).trans xg8).trans x59).trans x10_8).trans x105)).ld MG J ay) (af J J (eJ) (xv (cs':=[x26_0,B e26.ct.sg,x26_1,x26_2,I 0,I (j:Int),I 0,I 0,B (max c (-c)).sg,y67_0,y67_1]) J J (k10_8.ext x105) J ay (am.cons f26_0.one (am.cons J (am.cons f26_1.one (am.cons f26_2.one am.nil)))) J fun w16_2 q16_2 k16_2=>?_)))))))))))
   have x16_2:=aH.of_new ((x10_8.trans x105)) q16_2 l16
   have m16_2:=Kq.of1 (p:=[3,0,3,3,2,2,2,2,0,3,3]) (k10_8.ext x105) (ac rfl (ac rfl (ac rfl (ac rfl (ac rfl (ac rfl (ac rfl (ac rfl (ac rfl (ac k67_0.kd (ac k67_1.kd aT))))))))))) q16_2
   refine af J J (ck) (af J J (eK) (iD J J k16_2 jS J J fun w16_5 q16_5 k16_5=>?_))
   have x16_5:=aH.of_new (x16_2) q16_5 l16
   have m16_5:=Kq.of1 (p:=[3,0,3,3,2,2,2,2,0,3,3]) k16_2 (ac f26_0.kd (ac rfl (ac f26_1.kd (ac f26_2.kd (ac rfl (ac rfl (ac rfl (ac rfl (ac rfl (ac k67_0.kd (ac k67_1.kd aT))))))))))) q16_5
   refine aI (aj ?_)
   rcases Decidable.em (0<c) with hc0|hc0
   ·rw[decide_eq_true hc0]
    refine ae (ab J J (cC J J cn (aI (bU J (aA (aW ?_))))))
    have hval:gw s j s.q.g.us[j] c=e26:=by rw[hR,if_pos hO,he26]
    rw[hval]
    have e6:=((((x1_8.trans x31).trans x7_7).trans xg8).trans x59).trans x16_5
    exact cW (⟨6,j,0,0⟩,max c (-c),_,_,_,_,_) ⟨J,J,trivial⟩ ⟨((((((((x3.trans x5).trans x6).trans x1_8).trans x31).trans x7_7).trans xg8).trans x59).trans x16_5),(k6.ext e6),k16_5,fun w2 q2=>qA (f26_0.ext e6) (k6.ext e6) (fun t ht=>(ft (hs.g.us j hju).1 t (he26▸ht)).2.2) q2,(f26_1.ext e6),(f26_2.ext e6),((((k67_0.kq m10_8).ext x105).kq m16_2).kq m16_5),((((k67_1.kq m10_8).ext x105).kq m16_2).kq m16_5),hnn,(show bt (max c (-c))≤C+2*b by omega)⟩
   ·rw[decide_eq_false hc0]
    refine ae (ab J J (cC J J cn (aI (cg J (bc (af J J (ck) (af J J (eK) (iD J J k16_5 jS J J fun w18_2 q18_2 k18_2=>?_))))))))
    have x18_2:=aH.of_new (x16_5) q18_2 l16
    have m18_2:=Kq.of1 (p:=[3,0,3,3,2,2,2,2,0,3,3]) k16_5 (ac f26_0.kd (ac rfl (ac f26_1.kd (ac f26_2.kd (ac rfl (ac rfl (ac rfl (ac rfl (ac rfl (ac k67_0.kd (ac k67_1.kd aT))))))))))) q18_2
    refine dR (ab J J (cC J J cn (aI (cg J (ae (ab J J (af J J (ck) (af J J (zD) (iD J J k18_2 jS J J fun w20_3 q20_3 k20_3=>?_)))))))))
    have x20_3:=aH.of_new (x18_2) q20_3 l16
    have m20_3:=Kq.of1 (p:=[3,0,3,3,2,2,2,2,0,3,3]) k18_2 (ac f26_0.kd (ac rfl (ac f26_1.kd (ac f26_2.kd (ac rfl (ac rfl (ac rfl (ac rfl (ac rfl (ac k67_0.kd (ac k67_1.kd aT))))))))))) q20_3
    refine ar (aW ?_)
    have hval:gw s j s.q.g.us[j] c=e26:=by rw[hR,if_pos hO,he26]
    rw[hval]
    have e7:=((((x1_8.trans x31).trans x7_7).trans xg8).trans x59).trans x20_3
    exact cW (⟨8,j,p,0⟩,max c (-c),_,_,_,_,_) ⟨J,J,trivial⟩ ⟨((((((((x3.trans x5).trans x6).trans x1_8).trans x31).trans x7_7).trans xg8).trans x59).trans x20_3),(k6.ext e7),k20_3,fun w2 q2=>qA (f26_0.ext e7) (k6.ext e7) (fun t ht=>(ft (hs.g.us j hju).1 t (he26▸ht)).2.2) q2,(f26_1.ext e7),(f26_2.ext e7),((((((k67_0.kq m10_8).ext x105).kq m16_2).kq m16_5).kq m18_2).kq m20_3),((((((k67_1.kq m10_8).ext x105).kq m16_2).kq m16_5).kq m18_2).kq m20_3),hnn,(show bt (max c (-c))≤C+2*b by omega)⟩
  ·rw[hA]
   refine ae (ab J J (ab J J (an J (ab J J (an J (ao J J J (bF (by omega) bo) (an J (ab J J (an J ?_)))))))))
   have j3_k5_7:=((((k5_7.other q7_7 fun e=>by have h1:=k11.lt;have h2:=l12;have h4:=Nc e;omega).ext xg8).ext x59).ext x10_8)
   have e22:=(xg8.trans x59).trans x10_8
   refine ak J J (j3_k5_7.ld MC J ag) (an J (aq cw J J (ek (aU.mk (((f40_0.kq m5_7).kq m7_7).ext e22) (((f40_1.kq m5_7).kq m7_7).ext e22)) (by omega)) ?_))
   rintro v105 w105 ⟨x105,rfl⟩
   refine an J (ao J J J (be (fun h=>hA2 (hl40▸jZ.1 h)) cz) (an J (aR J J J (aG J J J (aa J J (aI (bU J (aj ?_))))))))
   rcases hoff with⟨hB,hF⟩|⟨hB,hB2,hF⟩|⟨hB,hB2,hF⟩
   ·rw[hB]
    refine ae (ab J J (ab J J (bf J J J (bf J J J (bf J J J (dh J J J (dh J J J (dh J J J (bf J J J (aR J J J (aa J J (aI (cg J (bc (af J J (ck) (af J J (eK) (iD J J (k10_8.ext x105) jS J J fun w22_2 q22_2 k22_2=>?_)))))))))))))))))
    have x22_2:=aH.of_new ((x10_8.trans x105)) q22_2 l16
    have m22_2:=Kq.of1 (p:=[3,0,3,3,2,2,2,2,0,3,3]) (k10_8.ext x105) (ac rfl (ac rfl (ac rfl (ac rfl (ac rfl (ac rfl (ac rfl (ac rfl (ac rfl (ac k67_0.kd (ac k67_1.kd aT))))))))))) q22_2
    refine aI (aj ?_)
    rcases Decidable.em (0<c) with hc0|hc0
    ·rw[decide_eq_true hc0]
     refine ae (ab J J (cC J J cn (aI (bU J (aA (aW ?_))))))
     have hval:gw s j s.q.g.us[j] c=zF:=by rw[hR,if_neg hO,if_pos hF]
     rw[hval]
     exact cW (⟨5,j,0,0⟩,max c (-c),_,_,_,_,_) ⟨J,J,trivial⟩ ⟨((((((((x3.trans x5).trans x6).trans x1_8).trans x31).trans x7_7).trans xg8).trans x59).trans x22_2),(k6.ext (((((x1_8.trans x31).trans x7_7).trans xg8).trans x59).trans x22_2)),k22_2,fun _ _=>B1,bH.nil _,bH.nil _,(((k67_0.kq m10_8).ext x105).kq m22_2),(((k67_1.kq m10_8).ext x105).kq m22_2),hnn,(show bt (max c (-c))≤C+2*b by omega)⟩
    ·rw[decide_eq_false hc0]
     refine ae (ab J J (cC J J cn (aI (cg J (bc (af J J (ck) (af J J (eK) (iD J J k22_2 jS J J fun w24_2 q24_2 k24_2=>?_))))))))
     have x24_2:=aH.of_new (x22_2) q24_2 l16
     have m24_2:=Kq.of1 (p:=[3,0,3,3,2,2,2,2,0,3,3]) k22_2 (ac rfl (ac rfl (ac rfl (ac rfl (ac rfl (ac rfl (ac rfl (ac rfl (ac rfl (ac k67_0.kd (ac k67_1.kd aT))))))))))) q24_2
     refine dR (ab J J (cC J J cn (aI (bU J (aA (aW ?_))))))
     have hval:gw s j s.q.g.us[j] c=zF:=by rw[hR,if_neg hO,if_pos hF]
     rw[hval]
     exact cW (⟨10,j,0,0⟩,max c (-c),_,_,_,_,_) ⟨J,J,trivial⟩ ⟨((((((((x3.trans x5).trans x6).trans x1_8).trans x31).trans x7_7).trans xg8).trans x59).trans x24_2),(k6.ext (((((x1_8.trans x31).trans x7_7).trans xg8).trans x59).trans x24_2)),k24_2,fun _ _=>B1,bH.nil _,bH.nil _,((((k67_0.kq m10_8).ext x105).kq m22_2).kq m24_2),((((k67_1.kq m10_8).ext x105).kq m22_2).kq m24_2),hnn,(show bt (max c (-c))≤C+2*b by omega)⟩
   ·rw[hB]
    have e16:=((xg8.trans x59).trans x10_8).trans x105
    refine ae (ab J J (ab J J (an J (ab J J (an J (ao J J J (bF (by omega) bo) (an J (ab J J (an J (ak J J ((k7_7.ext e16).ld MC J ag) (an J (aq cw J J (ek (aU.mk ((f49_0.kq m7_7).ext e16) ((f49_1.kq m7_7).ext e16)) (by omega)) ?_))))))))))))
    rintro v129 w129 ⟨x129,rfl⟩
    refine an J (ao J J J (bF (jY.2 (hu49▸hB2)) iw) (an J (aR J J J (aG J J J (aa J J (aI (cg J (bc (af J J (ck) (af J J (eK) (iD J J (k10_8.ext (x105.trans x129)) jS J J fun w22_2 q22_2 k22_2=>?_)))))))))))
    have x22_2:=aH.of_new (((x10_8.trans x105).trans x129)) q22_2 l16
    have m22_2:=Kq.of1 (p:=[3,0,3,3,2,2,2,2,0,3,3]) (k10_8.ext (x105.trans x129)) (ac rfl (ac rfl (ac rfl (ac rfl (ac rfl (ac rfl (ac rfl (ac rfl (ac rfl (ac k67_0.kd (ac k67_1.kd aT))))))))))) q22_2
    refine aI (aj ?_)
    rcases Decidable.em (0<c) with hc0|hc0
    ·rw[decide_eq_true hc0]
     refine ae (ab J J (cC J J cn (aI (bU J (aA (aW ?_))))))
     have hval:gw s j s.q.g.us[j] c=zF:=by rw[hR,if_neg hO,if_pos hF]
     rw[hval]
     exact cW (⟨5,j,0,0⟩,max c (-c),_,_,_,_,_) ⟨J,J,trivial⟩ ⟨((((((((x3.trans x5).trans x6).trans x1_8).trans x31).trans x7_7).trans xg8).trans x59).trans x22_2),(k6.ext (((((x1_8.trans x31).trans x7_7).trans xg8).trans x59).trans x22_2)),k22_2,fun _ _=>B1,bH.nil _,bH.nil _,(((k67_0.kq m10_8).ext (x105.trans x129)).kq m22_2),(((k67_1.kq m10_8).ext (x105.trans x129)).kq m22_2),hnn,(show bt (max c (-c))≤C+2*b by omega)⟩
    ·rw[decide_eq_false hc0]
     refine ae (ab J J (cC J J cn (aI (cg J (bc (af J J (ck) (af J J (eK) (iD J J k22_2 jS J J fun w24_2 q24_2 k24_2=>?_))))))))
     have x24_2:=aH.of_new (x22_2) q24_2 l16
     have m24_2:=Kq.of1 (p:=[3,0,3,3,2,2,2,2,0,3,3]) k22_2 (ac rfl (ac rfl (ac rfl (ac rfl (ac rfl (ac rfl (ac rfl (ac rfl (ac rfl (ac k67_0.kd (ac k67_1.kd aT))))))))))) q24_2
     refine dR (ab J J (cC J J cn (aI (cg J (ae (ab J J (af J J (ck) (af J J (zE) (iD J J k24_2 jS J J fun w26_3 q26_3 k26_3=>?_)))))))))
     have x26_3:=aH.of_new (x24_2) q26_3 l16
     have m26_3:=Kq.of1 (p:=[3,0,3,3,2,2,2,2,0,3,3]) k24_2 (ac rfl (ac rfl (ac rfl (ac rfl (ac rfl (ac rfl (ac rfl (ac rfl (ac rfl (ac k67_0.kd (ac k67_1.kd aT))))))))))) q26_3
     refine ar (aW ?_)
     have hval:gw s j s.q.g.us[j] c=zF:=by rw[hR,if_neg hO,if_pos hF]
     rw[hval]
     exact cW (⟨10,j,0,q⟩,max c (-c),_,_,_,_,_) ⟨J,J,trivial⟩ ⟨((((((((x3.trans x5).trans x6).trans x1_8).trans x31).trans x7_7).trans xg8).trans x59).trans x26_3),(k6.ext (((((x1_8.trans x31).trans x7_7).trans xg8).trans x59).trans x26_3)),k26_3,fun _ _=>B1,bH.nil _,bH.nil _,(((((k67_0.kq m10_8).ext (x105.trans x129)).kq m22_2).kq m24_2).kq m26_3),(((((k67_1.kq m10_8).ext (x105.trans x129)).kq m22_2).kq m24_2).kq m26_3),hnn,(show bt (max c (-c))≤C+2*b by omega)⟩
   ·rw[hB]
    have e17:=((xg8.trans x59).trans x10_8).trans x105
    refine ae (ab J J (ab J J (an J (ab J J (an J (ao J J J (bF (by omega) bo) (an J (ab J J (an J (ak J J ((k7_7.ext e17).ld MC J ag) (an J (aq cw J J (ek (aU.mk ((f49_0.kq m7_7).ext e17) ((f49_1.kq m7_7).ext e17)) (by omega)) ?_))))))))))))
    rintro v129 w129 ⟨x129,rfl⟩
    refine an J (ao J J J (be (fun h=>hB2 (hu49▸jY.1 h)) iw) (an J (aR J J J (aG J J J (aa J J (aI (bU J (aj ?_))))))))
    rcases(show(0<c∧mO L U=1)∨(0<c∧¬mO L U=1)∨¬0<c by rcases Decidable.em (0<c) with h0|h0<;>rcases Decidable.em (mO L U=1) with h1|h1<;>simp[h0,h1]) with⟨hc0,hS⟩|⟨hc0,hS⟩|hc0
    ·rw[decide_eq_true hc0]
     refine ae (ab J J (aa J J (aI (cg J (bc (af J J (ck) (af J J (eK) (iD J J (k10_8.ext (x105.trans x129)) jS J J fun w28_2 q28_2 k28_2=>?_))))))))
     have x28_2:=aH.of_new (((x10_8.trans x105).trans x129)) q28_2 l16
     have m28_2:=Kq.of1 (p:=[3,0,3,3,2,2,2,2,0,3,3]) (k10_8.ext (x105.trans x129)) (ac rfl (ac rfl (ac rfl (ac rfl (ac rfl (ac rfl (ac rfl (ac rfl (ac rfl (ac k67_0.kd (ac k67_1.kd aT))))))))))) q28_2
     refine dR (ab J J (ao J J J (bF (by omega) bo) (ab J J (an J (ab J J (an J (ao J J J (bF (by omega) bo) (aR J J J (ab J J (an J ?_))))))))))
     have j4_j3_k5_7:=(((j3_k5_7.ext x105).ext x129).other q28_2 fun e=>by have h1:=k11.lt;have h2:=l16;have h3:=(Nb (Nb (Nb (Nb x12.size q5_7.size) q7_7.size) xg8.size) x59.size);have h4:=Nc e;omega)
     have e12:=(xg8.trans x59).trans x28_2
     refine ak J J (j4_j3_k5_7.ld MC J ag) (an J (ak J J ((k7_7.ext e12).ld MC J ag) (an J (aq qw J J ((qy (x:=e40.va) (y:=e49.va) (aU.mk (((f40_0.kq m5_7).kq m7_7).ext e12) (((f40_1.kq m5_7).kq m7_7).ext e12)) (aU.mk ((f49_0.kq m7_7).ext e12) ((f49_1.kq m7_7).ext e12)) (by rw[←hl40,←hu49];omega))) ?_))))
     rintro v157 w157 ⟨x157,rfl⟩
     refine an J (ao J J J (bF (by rw[←hl40,←hu49];exact hS) aO) (aR J J J (aI (cg J (ae (ak J J ((k1_8.ext (((((x31.trans x7_7).trans xg8).trans x59).trans x28_2).trans x157)).ld MG J ay) (af J J (eJ) (xv (cs':=[x26_0,B e26.ct.sg,x26_1,x26_2,I 5,I (j:Int),I 0,I 0,B (max c (-c)).sg,y67_0,y67_1]) J J (k28_2.ext x157) J ay (am.cons f26_0.one (am.cons J (am.cons f26_1.one (am.cons f26_2.one am.nil)))) J fun w30_2 q30_2 k30_2=>?_))))))))
     have x30_2:=aH.of_new ((x28_2.trans x157)) q30_2 l16
     have m30_2:=Kq.of1 (p:=[3,0,3,3,2,2,2,2,0,3,3]) (k28_2.ext x157) (ac rfl (ac rfl (ac rfl (ac rfl (ac rfl (ac rfl (ac rfl (ac rfl (ac rfl (ac k67_0.kd (ac k67_1.kd aT))))))))))) q30_2
     refine af J J (ck) (af J J (eK) (iD J J k30_2 jS J J fun w30_5 q30_5 k30_5=>?_))
     have x30_5:=aH.of_new (x30_2) q30_5 l16
     have m30_5:=Kq.of1 (p:=[3,0,3,3,2,2,2,2,0,3,3]) k30_2 (ac f26_0.kd (ac rfl (ac f26_1.kd (ac f26_2.kd (ac rfl (ac rfl (ac rfl (ac rfl (ac rfl (ac k67_0.kd (ac k67_1.kd aT))))))))))) q30_5
     refine ar (aW ?_)
     have hval:gw s j s.q.g.us[j] c=e26:=by rw[hR,if_neg hO,if_neg hF,if_pos hc0,if_pos hS,he26]
     rw[hval]
     have e8:=((((x1_8.trans x31).trans x7_7).trans xg8).trans x59).trans x30_5
     exact cW (⟨6,j,0,0⟩,max c (-c),_,_,_,_,_) ⟨J,J,trivial⟩ ⟨((((((((x3.trans x5).trans x6).trans x1_8).trans x31).trans x7_7).trans xg8).trans x59).trans x30_5),(k6.ext e8),k30_5,fun w2 q2=>qA (f26_0.ext e8) (k6.ext e8) (fun t ht=>(ft (hs.g.us j hju).1 t (he26▸ht)).2.2) q2,(f26_1.ext e8),(f26_2.ext e8),((((((k67_0.kq m10_8).ext (x105.trans x129)).kq m28_2).ext x157).kq m30_2).kq m30_5),((((((k67_1.kq m10_8).ext (x105.trans x129)).kq m28_2).ext x157).kq m30_2).kq m30_5),hnn,(show bt (max c (-c))≤C+2*b by omega)⟩
    ·rw[decide_eq_true hc0]
     refine ae (ab J J (aa J J (aI (cg J (bc (af J J (ck) (af J J (eK) (iD J J (k10_8.ext (x105.trans x129)) jS J J fun w28_2 q28_2 k28_2=>?_))))))))
     have x28_2:=aH.of_new (((x10_8.trans x105).trans x129)) q28_2 l16
     have m28_2:=Kq.of1 (p:=[3,0,3,3,2,2,2,2,0,3,3]) (k10_8.ext (x105.trans x129)) (ac rfl (ac rfl (ac rfl (ac rfl (ac rfl (ac rfl (ac rfl (ac rfl (ac rfl (ac k67_0.kd (ac k67_1.kd aT))))))))))) q28_2
     refine dR (ab J J (ao J J J (bF (by omega) bo) (ab J J (an J (ab J J (an J (ao J J J (bF (by omega) bo) (aR J J J (ab J J (an J ?_))))))))))
     have j5_j3_k5_7:=(((j3_k5_7.ext x105).ext x129).other q28_2 fun e=>by have h1:=k11.lt;have h2:=l16;have h3:=(Nb (Nb (Nb (Nb x12.size q5_7.size) q7_7.size) xg8.size) x59.size);have h4:=Nc e;omega)
     have e13:=(xg8.trans x59).trans x28_2
     refine ak J J (j5_j3_k5_7.ld MC J ag) (an J (ak J J ((k7_7.ext e13).ld MC J ag) (an J (aq qw J J ((qy (x:=e40.va) (y:=e49.va) (aU.mk (((f40_0.kq m5_7).kq m7_7).ext e13) (((f40_1.kq m5_7).kq m7_7).ext e13)) (aU.mk ((f49_0.kq m7_7).ext e13) ((f49_1.kq m7_7).ext e13)) (by rw[←hl40,←hu49];omega))) ?_))))
     rintro v157 w157 ⟨x157,rfl⟩
     refine an J (ao J J J (be (by rw[←hl40,←hu49];exact hS) aO) (aR J J J (aI (bU J (aA (aW ?_))))))
     have hval:gw s j s.q.g.us[j] c=zF:=by rw[hR,if_neg hO,if_neg hF,if_pos hc0,if_neg hS]
     rw[hval]
     exact cW (⟨5,j,0,0⟩,max c (-c),_,_,_,_,_) ⟨J,J,trivial⟩ ⟨(((((((((x3.trans x5).trans x6).trans x1_8).trans x31).trans x7_7).trans xg8).trans x59).trans x28_2).trans x157),(k6.ext ((((((x1_8.trans x31).trans x7_7).trans xg8).trans x59).trans x28_2).trans x157)),(k28_2.ext x157),fun _ _=>B1,bH.nil _,bH.nil _,((((k67_0.kq m10_8).ext (x105.trans x129)).kq m28_2).ext x157),((((k67_1.kq m10_8).ext (x105.trans x129)).kq m28_2).ext x157),hnn,(show bt (max c (-c))≤C+2*b by omega)⟩
    ·rw[decide_eq_false hc0]
     refine ae (ab J J (aa J J (aI (bU J (bc (ab J J (ao J J J (be (by omega) aO) (ab J J (an J (ab J J (an J (ao J J J (be (by omega) aO) (aG J J J (aa J J (aI (bU J (aj ?_)))))))))))))))))
     have hLn:L<0:=by grind
     have hUp:0<U:=by grind
     have hd0:e49.va-e40.va≠0:=by rw[←hl40,←hu49];grind
     have hdi:0≤(e49.va-e40.va)⁻¹ :=by have:=Rat.inv_pos.2 (show 0<e49.va-e40.va by rw[←hl40,←hu49];grind);grind
     have hbs:=oC e49.va e40.va
     have hbq:=tE e49.va (e49.va-e40.va)
     have hbm:=f7 e40.va e49.va
     have hbn:=jN (e40.va*e49.va)
     have hbg:bt (ls e40.va e49.va)≤bt e40.va+bt e49.va+bt (e49.va-e40.va):=Nb (tE _ _) (by omega)
     have hbr:=tE (max c (-c)) (e49.va-e40.va)
     rw[←he26] at hum
     have hsl:(cN e26 (e49.va/(e49.va-e40.va))).ts.length≤7:=by have:=kj (e49.va/(e49.va-e40.va)) zF.ts e26.ts;unfold cN gG;simp only[zF,List.length_nil] at this⊢;omega
     have hsb:=iW zF e26 (e49.va/(e49.va-e40.va))
     have hs7:(e26.ts.length+1)*bt (e49.va/(e49.va-e40.va))≤8*bt (e49.va/(e49.va-e40.va)):=Ni _ (by omega)
     have hzF:ew zF=2:=by decide
     have e9:=(((xg8.trans x59).trans x10_8).trans x105).trans x129
     refine ae (ak J J ((j3_k5_7.ext (x105.trans x129)).ld MC J ag) (ak J J ((k7_7.ext e9).ld MC J ag) (aq BO J J ((BP (x:=e40.va) (y:=e49.va) (aU.mk (((f40_0.kq m5_7).kq m7_7).ext e9) (((f40_1.kq m5_7).kq m7_7).ext e9)) (aU.mk ((f49_0.kq m7_7).ext e9) ((f49_1.kq m7_7).ext e9)) (by omega) (hl40▸hLn) (hu49▸hUp))) ?_)))
     rintro v71 w71 ⟨x71,⟨_,_,_,_,rfl,rfl,⟨x71_b_0,x71_b_1,rfl,f71_b_0,f71_b_1⟩,⟨x71_c_0,x71_c_1,rfl,f71_c_0,f71_c_1⟩,rfl⟩⟩
     refine ab J J (aB J J Il (aB J J Im (aB J J In (aB J J Ip (ce bv J fun g18 w18 l18 x18 k18=>ce bv J fun g19 w19 l19 x19 k19=>(aa J J (bD J J (k18.ext x19) J ag (am.cons J (am.cons f71_b_0.one (am.cons f71_b_1.one am.nil))) fun w11_11 q11_11 k11_11=>?_)))))))
     have x11_11:=aH.of_new ((x18.trans x19)) q11_11 l18
     have j6_k19:=(k19.other q11_11 fun e=>by have h1:=k18.lt;have h2:=l19;have h4:=Nc e;omega)
     refine bD J J j6_k19 J ag (am.cons J (am.cons f71_c_0.one (am.cons f71_c_1.one am.nil))) fun w11_12 q11_12 k11_12=>?_
     have x11_12:=aH.of_new (x11_11) q11_12 (Nb (x18).size l19)
     refine aa J J (aI (aj ?_))
     have e10:=((x105.trans x129).trans x71).trans x11_12
     have hg16:=((k10_8.ext e10)).lt
     have e3:=((((((((x1_8.trans x31).trans x7_7).trans xg8).trans x59).trans x10_8).trans x105).trans x129).trans x71).trans x11_12
     have hg6:=((k6.ext e3)).lt
     have hLB:ew (cN e26 (e49.va/(e49.va-e40.va)))+ew ⟨[],ls e40.va e49.va⟩≤17179869180∧(cN e26 (e49.va/(e49.va-e40.va))).ts.length+0≤549755813887:=by show ew (gG zF e26 (e49.va/(e49.va-e40.va)))+(bt (ls e40.va e49.va)+0)≤_∧_+0≤_;exact⟨by omega,by omega⟩
     refine bj 7 [1,6,9,10,11,12,16,81,82] (by kernel_rfl) (by kernel_rfl) (ap J J (fun w hw=>((k1_8.ext ((((((((x31.trans x7_7).trans xg8).trans x59).trans x10_8).trans x105).trans x129).trans x71).trans x11_12)).ext hw).ld MG J ay) ?_)
     have j7_k11_11:=(k11_11.other q11_12 fun e=>by have h1:=k18.lt;have h2:=l19;have h4:=Nc e;omega)
     refine ap J J (fun w hw=>(j7_k11_11.ext hw).ld MC J ag) (ec (S:=bQ dZ (cN e26 (e49.va/(e49.va-e40.va)))) m7 (bQ.stable _ _) J J J (fun w hw=>m8 ((bQ.mk (cv (f26_0.ext e3) (f26_1.ext e3) (f26_2.ext e3))).ext hw) ((aU.mk (f71_b_0.ext x11_12) (f71_b_1.ext x11_12)).ext hw) (by omega)) (ap J J (fun w hw=>(k11_12.ext hw).ld MC J ag) (et (S:=Is (.agg #[.slice none 0 0,B (ls e40.va e49.va).sg,x71_c_0,x71_c_1])) (bi.is _) J (fun w _=>by rintro _ rfl;obtain⟨_,_,_,rfl⟩:=f71_c_0.isS;obtain⟨_,_,_,rfl⟩:=f71_c_1.isS;exact⟨_,w,run_build _ _ _ _ (by kernel_rfl),aH.refl _,J⟩) (bZ (S:=CZ w11_12.heap.size (lj (cN e26 (e49.va/(e49.va-e40.va))) ⟨[],ls e40.va e49.va⟩)) yD (CZ.stable _ _) J (fun w1 hw=>by rintro v78 h78 _ rfl;exact(wu (g:=⟨[],ls e40.va e49.va⟩) h78 (bQ.ext (bQ.mk (cv (cF.nil _ _) (f71_c_0.ext x11_12) (f71_c_1.ext x11_12))) hw) hLB).mono fun _ _ ⟨v,e,a1,a2⟩=>⟨v,e,a1,a2.low hw.size⟩) (al J J (fun w hw=>eJ) (bA ?_))))))
     rintro wg12 xg12 _ rfl _ rfl _ rfl _ rfl _ rfl _ rfl _ rfl vg81 h81 _ rfl
     obtain⟨x81_0,x81_1,x81_2,rfl,f81_0,f81_1,f81_2,n81⟩:=h81
     have fr81:i2 _ kW (lj (cN e26 (e49.va/(e49.va-e40.va))) ⟨[],ls e40.va e49.va⟩).ts x81_0 wg12:=⟨f81_0,n81⟩
     have e20:=e10.trans xg12
     refine xv (cs':=[x81_0,B (lj (cN e26 (e49.va/(e49.va-e40.va))) ⟨[],ls e40.va e49.va⟩).ct.sg,x81_1,x81_2,I 0,I (j:Int),I 0,I 0,B (max c (-c)).sg,y67_0,y67_1]) J J (k10_8.ext e20) J ay (am.cons f81_0.one (am.cons J (am.cons f81_1.one (am.cons f81_2.one am.nil)))) J fun w12_7 q12_7 k12_7=>?_
     have x12_7:=aH.of_new ((((((x10_8.trans x105).trans x129).trans x71).trans x11_12).trans xg12)) q12_7 l16
     have m12_7:=Kq.of1 (p:=[3,0,3,3,2,2,2,2,0,3,3]) (k10_8.ext e20) (ac rfl (ac rfl (ac rfl (ac rfl (ac rfl (ac rfl (ac rfl (ac rfl (ac rfl (ac k67_0.kd (ac k67_1.kd aT))))))))))) q12_7
     refine dR (ab J J (ab J J (ab J J (bV (r:=.agg #[I 13,I (j:Int),I (p:Int),I (q:Int)]) J J (by exact run_build _ _ _ _ (by kernel_rfl)) (af J J (ck) (xv (cs':=[x81_0,B (lj (cN e26 (e49.va/(e49.va-e40.va))) ⟨[],ls e40.va e49.va⟩).ct.sg,x81_1,x81_2,I 13,I (j:Int),I (p:Int),I (q:Int),B (max c (-c)).sg,y67_0,y67_1]) J J k12_7 J cX (am.cons J (am.cons J (am.cons J (am.cons J am.nil)))) J fun w13_5 q13_5 k13_5=>?_))))))
     have x13_5:=aH.of_new (x12_7) q13_5 l16
     have m13_5:=Kq.of1 (p:=[3,0,3,3,2,2,2,2,0,3,3]) k12_7 (ac f81_0.kd (ac rfl (ac f81_1.kd (ac f81_2.kd (ac rfl (ac rfl (ac rfl (ac rfl (ac rfl (ac k67_0.kd (ac k67_1.kd aT))))))))))) q13_5
     refine aI (m5 10 [(10,8)] [10] [6,16,95,97] (by kernel_rfl) (by kernel_rfl) (by kernel_rfl) J (al J J (fun w hw=>gT) (ap J J (fun w hw=>(k13_5.ext hw).ldO (ms:=[B (max c (-c)).sg,y67_0,y67_1]) (o:=8) (ef J) MC J ag) ?_)))
     have e14:=(xg8.trans x59).trans x13_5
     refine ap J J (fun w hw=>((k7_7.ext e14).ext hw).ld MC J ag) ?_
     have j8_j3_k5_7:=(((((((j3_k5_7.ext x105).ext x129).ext x71).ext x11_12).ext xg12).other q12_7 fun e=>by have h1:=k11.lt;have h2:=l16;have h3:=(Nb (Nb (Nb (Nb x12.size q5_7.size) q7_7.size) xg8.size) x59.size);have h4:=Nc e;omega).other q13_5 fun e=>by have h1:=k11.lt;have h2:=l16;have h3:=(Nb (Nb (Nb (Nb x12.size q5_7.size) q7_7.size) xg8.size) x59.size);have h4:=Nc e;omega)
     refine ap J J (fun w hw=>(j8_j3_k5_7.ext hw).ld MC J ag) ?_
     have z93_3:=oC e49.va e40.va
     refine ec (S:=QV (e49.va-e40.va)) qT (QV.stable _) J J J (fun w hw=>EL ((aU.mk ((f49_0.kq m7_7).ext e14) ((f49_1.kq m7_7).ext e14)).ext hw) ((aU.mk (((f40_0.kq m5_7).kq m7_7).ext e14) (((f40_1.kq m5_7).kq m7_7).ext e14)).ext hw) (by omega)) (bZ (S:=gQ (QV (max c (-c)/(e49.va-e40.va))) (Is (I 0))) tP (gQ.stable (QV.stable _) (bi.is _)) J (fun w hw=>by rintro _ rfl v93 h93;exact Ia ((aU.mk ((((k67_0.kq m10_8).ext e20).kq m12_7).kq m13_5) ((((k67_1.kq m10_8).ext e20).kq m12_7).kq m13_5)).ext hw) h93 (by omega) hd0) (ax J J (A7 J (QV.stable _) J (A8 J (bi.is _) J (al J J (fun w hw=>gT) (bA ?_))))))
     rintro wg14 xg14 _ rfl _ rfl _ ⟨x95_0,x95_1,rfl,f95_0,f95_1⟩ _ rfl
     refine xv (cs':=[x81_0,B (lj (cN e26 (e49.va/(e49.va-e40.va))) ⟨[],ls e40.va e49.va⟩).ct.sg,x81_1,x81_2,I 13,I (j:Int),I (p:Int),I (q:Int),B (max c (-c)/(e49.va-e40.va)).sg,x95_0,x95_1]) J J (k13_5.ext xg14) J ag (am.cons J (am.cons f95_0.one (am.cons f95_1.one am.nil))) J fun w14_10 q14_10 k14_10=>?_
     have x14_10:=aH.of_new ((x13_5.trans xg14)) q14_10 l16
     have m14_10:=Kq.of1 (p:=[3,0,3,3,2,2,2,2,0,3,3]) (k13_5.ext xg14) (ac f81_0.kd (ac rfl (ac f81_1.kd (ac f81_2.kd (ac rfl (ac rfl (ac rfl (ac rfl (ac rfl (ac k67_0.kd (ac k67_1.kd aT))))))))))) q14_10
     refine ar (pO (aW ?_))
     have hval:gw s j s.q.g.us[j] c=lj (cN e26 (e49.va/(e49.va-e40.va))) ⟨[],ls e40.va e49.va⟩:=by rw[hR,if_neg hO,if_neg hF,if_neg hc0,he26,hl40,hu49]
     rw[hval]
     have e19:=((((x1_8.trans x31).trans x7_7).trans xg8).trans x59).trans x14_10
     exact cW (⟨13,j,p,q⟩,max c (-c)/(e49.va-e40.va),_,_,_,_,_) ⟨J,J,trivial⟩ ⟨((((((((x3.trans x5).trans x6).trans x1_8).trans x31).trans x7_7).trans xg8).trans x59).trans x14_10),(k6.ext e19),k14_10,fun w2 q2=>(i2.st (i2.st ((i2.st (i2.st fr81 hg16 q12_7 m12_7 (by decide)) hg16 q13_5 m13_5 (by decide)).ext xg14) hg16 q14_10 m14_10 (by decide)) hg6 q2 (Kq.of (p:=[3,0,3,3,2,2,2,2,0,3,3]) ((k6.ext e19)) J (by decide) q2) (by decide)).1,((((f81_1.kq m12_7).kq m13_5).ext xg14).kq m14_10),((((f81_2.kq m12_7).kq m13_5).ext xg14).kq m14_10),(f95_0.kq m14_10),(f95_1.kq m14_10),by rw[Rat.div_def];exact Rat.mul_nonneg hnn hdi,(show bt (max c (-c)/(e49.va-e40.va))≤C+2*b by omega)⟩
 rintro⟨row,co,ya,yb,yc,yd,ye⟩ wC ⟨eC,k6C,k16C,fa1,fa2,fa3,fa4,fa5,hco,hcb⟩
 refine ah (aj ?_)
 have fa0:=fa1 _ (Nf _ _)
 refine ae (ak J J (k16C.ld M6 J fD) (bD J J k6C J fD (am.cons fa0.one (am.cons J (am.cons fa2.one (am.cons fa3.one (am.cons J (am.cons J (am.cons J (am.cons J (am.cons J (am.cons fa4.one (am.cons fa5.one am.nil))))))))))) fun w33_1 q33_1 k33_1=>?_))
 have x33_1:=aH.of_new (eC) q33_1 (Nb ((x3.trans x5)).size l6)
 have m33_1:=Kq.of1 (p:=[3,0,3,3,2,2,2,2,0,3,3]) k6C (ac rfl (ac rfl (ac rfl (ac rfl (ac rfl (ac rfl (ac rfl (ac rfl (ac rfl (ac rfl (ac rfl aT))))))))))) q33_1
 refine aa J J (aI (aD (bp J (.cell J (k33_1.ld M6 J fD) (.tmp J .nil)) ?_)))
 exact⟨_,J,x33_1,_,_,J,⟨row,co,_,_,_,_,_,J,fa1 _ q33_1,(fa2.kq m33_1),(fa3.kq m33_1),(fa4.kq m33_1),(fa5.kq m33_1),hco,hcb⟩,J⟩
end Go.Rl
namespace Go.Rl
open Go.RowKit Go.Proofs
theorem LJ.stable (f:dx) (C:Nat):bi (LJ f C):=fun _ _ _ ⟨r,c,a,x,y,p,q,e,h1,h2,h3,h4,h5,h6,h7⟩ hx=>⟨r,c,a,x,y,p,q,e,h1.ext hx,h2.ext hx,h3.ext hx,h4.ext hx,h5.ext hx,h6,h7⟩
theorem nZ (f:dx) (c:Rat):ew (cN f c)≤2+ew f+(f.ts.length+1)*bt c:=by
 have h:=iW zF f c
 have h1:ew zF=2:=rfl
 unfold cN
 omega
def rA (b:Nat):Nat→Nat
 |0=>130
 |n+1=>7*rA b n+(22*b+200)
theorem E3 {s:eX} {j b:Nat} {p:dx} {c:Rat} (hl:bt (dA s.lm (cy s.lm j).1)≤b∧bt (dA s.lm (cy s.lm j).2)≤b) (hp:ew p≤100) (hn:p.ts.length≤5):ew (gw s j p c)≤22*b+200:=by
 obtain⟨h1,h2⟩:=hl
 unfold gw
 generalize dA s.lm (cy s.lm j).1=l at*
 generalize dA s.lm (cy s.lm j).2=u at*
 have hz:ew zF=2:=rfl
 have h3:=oC u l
 have h4:=tE u (u-l)
 have h5:=nZ p (u/(u-l))
 have h6:(p.ts.length+1)*bt (u/(u-l))≤6*(3*b):=Ns (by omega) (by omega)
 have h7:bt (ls l u)≤4*b:=by
  unfold ls
  have a:=tE (-(l*u)) (u-l)
  have b1:=f7 l u
  have b2:=jN (l*u)
  omega
 have h8:ew (⟨[],ls l u⟩:dx)=bt (ls l u):=by simp[ew,gH]
 have h9:=iW (cN p (u/(u-l))) ⟨[],ls l u⟩ 1
 have h10:=pp
 simp only[List.length_nil,Nat.zero_add,Nat.one_mul] at h9
 repeat' split
 all_goals first|omega|(unfold lj;omega)
theorem I0 {f g:dx} {v:Int} {R:Nat} (hg:ew g≤R) (hn:g.ts.length≤5):ew (jV f v g)≤7*ew f+R:=by
 have h0:=iW ⟨iA v f.ts,f.ct⟩ g (p9 v f.ts)
 have h1:=EP v f.ts
 have h2:=wr v f.ts
 have h3:=zw f.ct
 have h4:(g.ts.length+1)*bt (p9 v f.ts)≤6*(gH f.ts+2):=Ns (by omega) h1
 unfold jV
 unfold ew at*
 simp only at*
 omega
theorem xf (b:Nat):∀{n m:Nat},n≤m→rA b n≤rA b m
 |n,0,h=>by obtain rfl:n=0:=by omega
            exact Ng _
 |n,m+1,h=>by
  by_cases e:n=m+1
  ·rw[e];exact Ng _
  ·have:=xf b (show n≤m by omega)
   simp only[rA]
   omega
structure rJ (s:eX) (f:dx) (k b i:Nat) (g:dx) (l:List eh):Prop where
 ok:i8 g (s.q.g.inp+(min i k:Nat))=true
 sz:ew g≤rA b (k-min i k)
 ll:l.length≤k-min i k
 nn:∀x∈l,0≤x.co
 sb:pt l≤(k-min i k)*(rA b (k-1)+2*b)
 z:k=0→g=f∧l=[]
 e:fE s i g=fE s s.q.g.us.length f
theorem rJ.coef {s:eX} {f g:dx} {k b i:Nat} {l:List eh} (h:rJ s f k b (i+1) g l) (hk:k≤i):iz g (s.q.g.inp+i)=0:=by
 have h1:=h.ok
 rw[Nat.min_eq_right (by omega)] at h1
 exact wY h1 (by omega)
theorem rJ.skip {s:eX} {f g:dx} {k b i:Nat} {l:List eh} (h:rJ s f k b (i+1) g l) (hi:i<s.q.g.us.length) (hc:iz g (s.q.g.inp+i)=0) (hus:∀(j:Nat) (h:j<s.q.g.us.length),i8 s.q.g.us[j] (s.q.g.inp+j)=true):rJ s f k b i g l:=by
 have he:fE s i (iS s g i s.q.g.us[i])=fE s s.q.g.us.length f:=by
  have h:=h.e
  rw[fE,List.getElem?_eq_getElem hi] at h
  exact h
 have hb:iS s g i s.q.g.us[i]=g:=by unfold iS;rw[if_pos hc]
 rw[hb] at he
 have hg:=xf b (show k-min (i+1) k≤k-min i k by omega)
 have hm:(k-min (i+1) k)*(rA b (k-1)+2*b)≤(k-min i k)*(rA b (k-1)+2*b):=Ni _ (by omega)
 refine⟨?_,by have:=h.sz;omega,by have:=h.ll;omega,h.nn,by have:=h.sb;omega,h.z,he⟩
 by_cases hk:k≤i
 ·have h1:=h.ok
  rw[Nat.min_eq_right (by omega)] at h1⊢
  exact h1
 ·have h1:=h.ok
  rw[Nat.min_eq_left (by omega)] at h1⊢
  have h2:=wZ (s:=s) h1 (hus i hi)
  rw[hb] at h2
  exact h2
theorem rJ.step {s:eX} {f g:dx} {k b i:Nat} {l:List eh} {r:Bc} {c:Rat} (h:rJ s f k b (i+1) g l) (hi:i<s.q.g.us.length) (hc:iz g (s.q.g.inp+i)≠0) (hs:zV s.q.g) (hk:rz s k b) (hk3:k≤3) (h0:0≤c) (hb:bt c≤rA b (k-min (i+1) k)+2*b):rJ s f k b i (jV g (s.q.g.inp+i) (gw s i s.q.g.us[i] (iz g (s.q.g.inp+i)))) (l++[⟨r,c⟩]):=by
 have hik:i<k:=Nat.lt_of_not_le fun hk=>hc (h.coef hk)
 have he:fE s i (iS s g i s.q.g.us[i])=fE s s.q.g.us.length f:=by
  have h:=h.e
  rw[fE,List.getElem?_eq_getElem hi] at h
  exact h
 have hbk:iS s g i s.q.g.us[i]=jV g (s.q.g.inp+i) (gw s i s.q.g.us[i] (iz g (s.q.g.inp+i))):=by unfold iS;rw[if_neg hc]
 rw[hbk] at he
 have h1:=h.ok
 have hm:k-min i k=(k-min (i+1) k)+1:=by omega
 have hu:=hs.us i hi
 have hre:=Aj (s:=s) (j:=i) (c:=iz g (s.q.g.inp+i)) hu.1
 have hi1:=hs.i1
 have hi0:=hs.i0
 have hln:=jk hre (by omega)
 have hln2:=jk hu.1 (by omega)
 have hrb:=E3 (c:=iz g (s.q.g.inp+i)) (hk.bb i hik) hu.2 (by omega)
 have hgu:=xf b (show k-min (i+1) k≤k-1 by omega)
 rw[Nat.min_eq_left (by omega)] at h1
 refine⟨?_,?_,?_,fun x hx=>?_,?_,fun hz=>by omega,he⟩
 ·rw[Nat.min_eq_left (by omega)]
  have h2:=wZ (s:=s) h1 hu.1
  rw[hbk] at h2
  exact h2
 ·rw[hm]
  have h3:=I0 (f:=g) (v:=s.q.g.inp+i) hrb (by omega)
  have h4:=h.sz
  simp only[rA]
  omega
 ·have:=h.ll
  rw[List.length_append,List.length_singleton]
  omega
 ·rcases List.mem_append.1 hx with hx|hx
  ·exact h.nn x hx
  ·obtain rfl:=List.mem_singleton.1 hx
   exact h0
 ·rw[hm,iT,Nat.add_mul,Nat.one_mul]
  have:=h.sb
  simp only[pt]
  omega
theorem Ar {b k n:Nat} (hb:b≤1900000) (hk:k≤3) (hn:n≤k) (h:(k≤2→b≤10000)∧(k≤1→b≤300)):rA b n≤2383000000∧(n≤2→rA b n≤334500000)∧(k≤2→rA b n≤1770000)∧(k≤1→rA b n≤7800)∧(k=0→rA b n=130):=by
 obtain⟨h2,h1⟩:=h
 have e:n=0∨n=1∨n=2∨n=3:=by omega
 have h3:k≤1∨k=2∨k=3:=by omega
 refine⟨?_,fun hx=>?_,fun hx=>?_,fun hx=>?_,fun hx=>?_⟩<;>rcases h3 with h3|h3|h3<;>rcases e with rfl|rfl|rfl|rfl<;>simp only[rA]<;>first|omega|(have:=h1 h3;omega)|(have:=h2 (by omega);omega)
def KL (k b:Nat):Prop:=k≤3∧b≤1900000∧(k≤2→b≤10000)∧(k≤1→b≤300)
def Mn (k:Nat) (l:List eh):Prop:=l.length≤3∧(∀x∈l,0≤x.co)∧pt l≤7000000000∧(k=0→l=[])
set_option maxHeartbeats 1000000 in
theorem DQ {w:World} {s:eX} {f:dx} {k b b0:Nat} {v u:Value} (hb0:b0≤w.heap.size) (hv:bQ ro s v w) (hu:bQ dZ f u w) (hs:n7 s.q) (hp:∀d∈s.pa,i9 s.q d) (hk:rz s k b) (ho:KL k b) (hf:i8 f (s.q.g.inp+k)=true) (hB:ew f≤130):
 Calls Tryz.prog 405 #[v,u] w (cA fun e w'=>aH w w'∧j1 (bQ dZ (fE s s.q.g.us.length f)) (qq (Mn k) fun m=>gI b0 m) (Is (B true)) e w'):=by
 obtain⟨_,rfl,ra⟩:=hv
 obtain⟨su,so,sl,sh,sr,st,sm,sn,sp,sq,rfl,iu,io,il,ih,ir,it,im,jn,ip,iq⟩:=d7 ra
 obtain⟨_,rfl,rb⟩:=hu
 obtain⟨fa,fb,fc,rfl,ja,jb,jc⟩:=cl rb
 have hku:=hk.ku
 have hg1:=hs.g.i1
 have hg0:=hs.g.i0
 have hul:=hs.g.ul
 obtain⟨hk3,hb18,hb2,hb1⟩:=ho
 have hgro:∀n,n≤k→rA b n≤2383000000∧(n≤2→rA b n≤334500000)∧(k≤2→rA b n≤1770000)∧(k≤1→rA b n≤7800)∧(k=0→rA b n=130):=fun n hn=>Ar hb18 hk3 hn ⟨hb2,hb1⟩
 have hgk:=(hgro (k-1) (by omega)).2.1 (by omega)
 refine enter (vs:=[.agg #[I s.q.g.inp,su,so,sl,sh,sr,st,B s.q.go.ct.sg,sm,sn,sp,sq],.agg #[fa,B f.ct.sg,fb,fc]]) Tryz.func405 J J J (bc (cj J J fun g2 w2 l2 x2 k2=>cj J J fun g3 w3 l3 x3 k3=>ce cd J fun g4 w4 l4 x4 k4=>(aa J J (aa J J (aI (aj (aj (bj 12 [2,3,4,18,25] (by kernel_rfl) (by kernel_rfl) ?_))))))))
 have e7:=x3.trans x4
 refine al J J (fun w hw=>bz) (ap J J (fun w hw=>((k2.ext e7).ext hw).ldO (ms:=[I s.q.g.inp,su,so,sl,sh,sr,st,B s.q.go.ct.sg,sm,sn]) (o:=0) (ef J) MU J cV) ?_)
 have e3:=(x2.trans x3).trans x4
 refine es (S:=Is (B true)) gK (bi.is _) J J (fun w hw=>gL ((bQ.mk (gr (iu.ext e3) (io.ext e3) (il.ext e3) (ih.ext e3) (ir.ext e3) (it.ext e3) (im.ext e3) (jn.ext e3))).ext hw) hs) (jF J J (fun w _=>cn) (ax J J (au J J (ap J J (fun w hw=>((k3.ext x4).ext hw).ld MG J ay) (au J J (al J J (fun w hw=>bz) (au J J (al J J (fun w hw=>bG) (au J J (ap J J (fun w hw=>((k2.ext e7).ext hw).ldO (ms:=[I s.q.g.inp,su,so]) (o:=0) (ef J) MX J dg) (au J J (es (S:=Is (I (s.q.g.inp+(s.q.g.us.length:Int)))) wB (bi.is _) J J (fun w hw=>wF ((bQ.mk (jP (iu.ext e3) (io.ext e3))).ext hw) hs.g) (au J J (ec (S:=Is (B true)) iP (bi.is _) J J J (fun w hw=>by have h:=iQ (n:=s.q.g.inp+(s.q.g.us.length:Int)) ((bQ.mk (cv (ja.ext e3) (jb.ext e3) (jc.ext e3))).ext hw) (by omega);rw[show i8 f (s.q.g.inp+(s.q.g.us.length:Int))=true from qc (by omega) hf] at h;exact h) (au J J (jF J J (fun w _=>cn) (bA ?_)))))))))))))))))
 rintro wg1 xg1 _ rfl _ rfl _ rfl _ rfl _ rfl
 refine aG J J J (aI (bU J (aA (ah (bc (af J J (bz) (af J J (bG) (ak J J ((k2.ext (e7.trans xg1)).ldO (ms:=[I s.q.g.inp,su,so]) (o:=0) (ef J) MX J dg) (ce kK J fun g7 w7 l7 x7 k7=>bD J J k7 J dg (am.cons J (am.cons iu.one (am.cons io.one am.nil))) fun w3_4 q3_4 k3_4=>?_)))))))))
 have x3_4:=aH.of_new (x7) q3_4 l7
 refine dR (aa J J (aI (aj (bc (af J J (bX) ?_)))))
 have e6:=(e3.trans xg1).trans x3_4
 refine ak J J (ai MI J (k3_4.cell (i:=1) J)) (bn J J (bB MI (iu.ext e6)) (ao J J J bT (aa J J (aI (aJ ?_)))))
 refine JV (fun(i:Nat) (g:dx) (ya:Value) (yb:Value) (yc:Value) (M:List eh) (xa:Value)=>[(2,.pointer (some ⟨g2,0,none⟩)),(3,.pointer (some ⟨g3,0,none⟩)),(4,.pointer (some ⟨g4,0,none⟩)),(7,.pointer (some ⟨g7,0,none⟩)),(8,xa),(9,I ((i:Int)-1))]) (fun(i:Nat) (g:dx) (ya:Value) (yb:Value) (yc:Value) (M:List eh) (xa:Value) w'=>aH w2 w'∧i≤s.q.g.us.length∧rJ s f k b i g M∧dE g3 51 [ya,B g.ct.sg,yb,yc] w'∧dE g4 51 [.slice none 0 0,B false,.slice none 0 0,.slice none 0 0] w'∧dE g7 36 [I s.q.g.inp,su,so] w'∧cF kW g.ts ya w'∧(g.ts≠[]→∀z,xa.ownBlock=some z→ya.ownBlock≠some z)∧bH g.ct.nl yb w'∧bH g.ct.dl yc w'∧gI w2.heap.size M xa w') (fun(i:Nat) (g:dx) (ya:Value) (yb:Value) (yc:Value) (M:List eh) (xa:Value)=>i) (s.q.g.us.length) (f) (fa) (fb) (fc) ([]) (.slice none 0 0) ⟨J,J,J,J,J,J,trivial⟩ ⟨((e7.trans xg1).trans x3_4),Ng _,⟨by rw[Nat.min_eq_right hku];exact hf,by rw[Nat.min_eq_right hku,Nat.sub_self];exact hB,by simp,by simp,by simp[pt],fun _=>⟨rfl,rfl⟩,rfl⟩,(k3.ext ((x4.trans xg1).trans x3_4)),(k4.ext (xg1.trans x3_4)),k3_4,(ja.ext e6),fun _ z hz=>by simp[Value.ownBlock] at hz,(jb.ext e6),(jc.ext e6),bh.nil _⟩ ?_
 rintro i g ya yb yc M xa wL ⟨eL,hi,hI,k3L,k4L,k7L,ka,kx,kb,kc,hM⟩
 refine aj (aj ?_)
 rcases Decidable.em (0<i) with hA|hA
 ·obtain⟨i,rfl⟩:∃n,i=n+1:=⟨i-1,by omega⟩
  rw[show(((i+1:Nat):Int)-1)=(i:Int) by omega]
  refine ae (ab J J (ao J J J (bF (by omega) cz) (aI (cg J (aA (ah (aj (aJ (aj ?_)))))))))
  have hgn:=hgro (k-min (i+1) k) (by omega)
  have hgb:=hI.sz
  have hcb:=EN (s.q.g.inp+i) g.ts
  have hct:=zw g.ct
  have hcc:bt (iz g (s.q.g.inp+i))≤rA b (k-min (i+1) k):=by unfold iz;unfold ew at hgb;omega
  have hcu:=hs.g.us i (by omega)
  refine ae (af J J (bS) (ak J J (ai ME J (k7L.cell (i:=0) J)) (ab J J (ao (r:=I (s.q.g.inp+(i:Int))) J J J (by have e:(s.q.g.inp+(i:Int):Int)=s.q.g.inp+(i:Int):=(by omega);rw[e];exact aY) (aa J J (dR (ak J J (k3L.ld MG J ay) (ab J J (aq CY J J (C0 (bQ.mk (cv ka kb kc)) (by omega)) ?_)))))))))
  rintro v45 w45 ⟨x45,⟨x45_0,x45_1,rfl,f45_0,f45_1⟩⟩
  refine ce bv J fun g11 w11 l11 x11 k11=>bD J J k11 J ag (am.cons J (am.cons f45_0.one (am.cons f45_1.one am.nil))) fun w9_4 q9_4 k9_4=>?_
  have x9_4:=aH.of_new (x11) q9_4 l11
  refine aI (aj (bc (ak J J (k9_4.ld MC J ag) (aq cw J J (ek (aU.mk (f45_0.ext x9_4) (f45_1.ext x9_4)) (by omega)) ?_))))
  rintro v47 w47 ⟨x47,rfl⟩
  refine ao J J J (aO) (aI (ci J (fun h48=>?_) (fun h48=>?_)))
  ·have hc0:iz g (s.q.g.inp+i)=0:=jX.1 h48
   refine bJ (aV (bP (ah (ae (ab J J (ao J J J bT (aa J J (ar ?_))))))))
   have e4:=(x45.trans x9_4).trans x47
   refine Bp (i) (g) (ya) (yb) (yc) (M) (xa) ⟨J,J,J,J,J,J,trivial⟩ ⟨(((eL.trans x45).trans x9_4).trans x47),by omega,hI.skip (by omega) hc0 fun j h=>(hs.g.us j h).1,(k3L.ext e4),(k4L.ext e4),(k7L.ext e4),(ka.ext e4),kx,(kb.ext e4),(kc.ext e4),(hM.ext e4)⟩ (by omega)
  ·have hc0:iz g (s.q.g.inp+i)≠0:=fun h=>h48 (jX.2 h)
   have hik:i<k:=Nat.lt_of_not_le fun hk=>hc0 (hI.coef hk)
   obtain⟨fR,hfR⟩:∃r,r=gw s i s.q.g.us[i] (iz g (s.q.g.inp+i)):=⟨_,rfl⟩
   have hfb:ew fR≤22*b+200:=by rw[hfR];exact E3 (hk.bb i hik) hcu.2 (by have:=jk hcu.1 (by omega);omega)
   have hfo:=Aj (s:=s) (j:=i) (c:=iz g (s.q.g.inp+i)) hcu.1
   rw[←hfR] at hfo
   have hfl:=jk hfo (by omega)
   have hgl:=jk hI.ok (by omega)
   have hML:=hI.ll
   refine aA (ah (bc (ak J J ((k2.ext (((eL.trans x45).trans x9_4).trans x47)).ld MM J bg) ?_)))
   have e2:=(((x2.trans eL).trans x45).trans x9_4).trans x47
   refine ab J J (ak J J ((k9_4.ext x47).ld MC J ag) (aq DN J J ((by have h:=DP (C:=rA b (k-min (i+1) k)) (bQ.mk (dm (iu.ext e2) (io.ext e2) (il.ext e2) (ih.ext e2) (ir.ext e2) (it.ext e2) (im.ext e2) (jn.ext e2) (ip.ext e2) (iq.ext e2))) (aU.mk (f45_0.ext (x9_4.trans x47)) (f45_1.ext (x9_4.trans x47))) hs hp hk hik (by omega) hcc (by omega);rw[←hfR] at h;exact h)) ?_))
   rintro v53 w53 ⟨x53,⟨_,_,rfl,⟨rr53_a,cc53_a,y53_a_0,y53_a_1,y53_a_2,y53_a_3,y53_a_4,rfl,k53_a_0,k53_a_1,k53_a_2,k53_a_3,k53_a_4,nn53_a,bb53_a⟩,rfl⟩⟩
   refine ab J J (aB J J cY (aB J J cZ (ce iZ J fun g12 w12 l12 x12 k12=>bD J J k12 J fD (am.cons k53_a_0.one (am.cons J (am.cons k53_a_1.one (am.cons k53_a_2.one (am.cons J (am.cons J (am.cons J (am.cons J (am.cons J (am.cons k53_a_3.one (am.cons k53_a_4.one am.nil))))))))))) fun w11_8 q11_8 k11_8=>?_)))
   have x11_8:=aH.of_new (x12) q11_8 l12
   have e1:=(((x45.trans x9_4).trans x47).trans x53).trans x11_8
   refine aa J J (aI (aj (bc (ab J J (cC J J cn (aI (bU J (aA (ah (bc (ak J J ((k3L.ext e1).ld MG J ay) (ab J J (af J J (eJ) (ak J J (k11_8.ldO (ms:=[y53_a_0,B fR.ct.sg,y53_a_1,y53_a_2]) (o:=0) (ef J) MG J ay) (aq Bq J J ((by have h:=zU (n:=s.q.g.inp+(i:Int)) (bQ.mk (cv (ka.ext e1) (kb.ext e1) (kc.ext e1))) (bQ.mk (cv (k53_a_0.ext x11_8) (k53_a_1.ext x11_8) (k53_a_2.ext x11_8))) (by omega);exact h)) ?_)))))))))))))))
   rintro v63 w63 ⟨x63,⟨x63_0,x63_1,x63_2,rfl,f63_0,f63_1,f63_2,n63⟩⟩
   have e5:=e1.trans x63
   refine bD J J (k3L.ext e5) J ay (am.cons f63_0.one (am.cons J (am.cons f63_1.one (am.cons f63_2.one am.nil)))) fun w14_5 q14_5 k14_5=>?_
   have x14_5:=aH.of_new (((((((eL.trans x45).trans x9_4).trans x47).trans x53).trans x11_8).trans x63)) q14_5 l3
   have m14_5:=Kq.of1 (p:=[3,0,3,3]) (k3L.ext e5) (ac ka.kd (ac rfl (ac kb.kd (ac kc.kd aT)))) q14_5
   refine aI ?_
   have hx63:∀z,xa.ownBlock=some z→x63_0.ownBlock≠some z:=fun z hz hv=>by
    have h1:=(hM.lt z hz).2
    have h2:=n63 z hv
    have h3:=(e1).size
    omega
   refine ae (ab J J ?_)
   have j1_k11_8:=((k11_8.ext x63).other q14_5 fun e=>by have h1:=k3.lt;have h2:=l12;have h3:=(Nb (Nb (Nb (Nb (Nat.le_of_lt (Nat.lt_of_le_of_lt l4 k4L.lt)) x45.size) x9_4.size) x47.size) x53.size);have h4:=Nc e;omega)
   refine af J J (ck) (ak J J (j1_k11_8.ldO (ms:=[I rr53_a.kd,I rr53_a.ix,I rr53_a.lo,I rr53_a.hi]) (o:=4) (ef J) MS J cX) (af J J (gT) (ak J J (j1_k11_8.ldO (ms:=[B cc53_a.sg,y53_a_3,y53_a_4]) (o:=8) (ef J) MC J ag) (bV (r:=.agg #[I rr53_a.kd,I rr53_a.ix,I rr53_a.lo,I rr53_a.hi,B cc53_a.sg,y53_a_3,y53_a_4]) J J (by obtain⟨_,_,_,rfl⟩:=k53_a_3.isS;obtain⟨_,_,_,rfl⟩:=k53_a_4.isS;exact run_build _ _ _ _ (by kernel_rfl)) ?_))))
   obtain⟨v70,w70,hr70,x70,b70⟩:=wj (w:=w14_5) (jO (a:=(⟨rr53_a,cc53_a⟩:eh)) ((k53_a_3.ext (x11_8.trans x63)).kq m14_5) ((k53_a_4.ext (x11_8.trans x63)).kq m14_5))
   refine bN (vs:=[(0,.agg #[I rr53_a.kd,I rr53_a.ix,I rr53_a.lo,I rr53_a.hi,B cc53_a.sg,y53_a_3,y53_a_4])]) J J hr70 ?_
   have pF:i2 w11_8.heap.size kW (jV g (s.q.g.inp+(i:Int)) fR).ts x63_0 w70:=⟨((f63_0.kq m14_5).ext x70),n63⟩
   obtain⟨v71,w71,hr71,o71,g71⟩:=tJ (ty:=124) ((bh.st gz ((((((hM.ext x45).ext x9_4).ext x47).ext x53).ext x11_8).ext x63) m14_5 q14_5 (aN (k3L.ext e5) ((((((hM.ext x45).ext x9_4).ext x47).ext x53).ext x11_8).ext x63)).symm (by decide)).ext x70) b70 (by simp only[List.length_cons,List.length_nil];omega) ((x14_5.trans x70)).size
   refine df J J hr71 ?_
   have x71:=aH.of_grew ((x14_5.trans x70)) g71 (((bh.st gz ((((((hM.ext x45).ext x9_4).ext x47).ext x53).ext x11_8).ext x63) m14_5 q14_5 (aN (k3L.ext e5) ((((((hM.ext x45).ext x9_4).ext x47).ext x53).ext x11_8).ext x63)).symm (by decide)).ext x70)).ge
   have m71:=(((bh.st gz ((((((hM.ext x45).ext x9_4).ext x47).ext x53).ext x11_8).ext x63) m14_5 q14_5 (aN (k3L.ext e5) ((((((hM.ext x45).ext x9_4).ext x47).ext x53).ext x11_8).ext x63)).symm (by decide)).ext x70)).kqG g71 (by decide)
   obtain⟨hF71,hn71⟩:=i2.grew (fun a=>by rw[gY];omega) pF g71 m71 (fun _=>hx63) (by decide)
   refine aa J J (ar (aW (ah (ae (ab J J (ao J J J bT (aa J J (ar ?_))))))))
   have i2_k14_5:=(k14_5.ext x70)
   have j3_k14_5:=(i2_k14_5.other g71.grown (aN i2_k14_5 ((bh.st gz ((((((hM.ext x45).ext x9_4).ext x47).ext x53).ext x11_8).ext x63) m14_5 q14_5 (aN (k3L.ext e5) ((((((hM.ext x45).ext x9_4).ext x47).ext x53).ext x11_8).ext x63)).symm (by decide)).ext x70)))
   have i4_k4L:=((((((((k4L.ext x45).ext x9_4).ext x47).ext x53).ext x11_8).ext x63).other q14_5 fun e=>by have h1:=k3.lt;have h2:=l4;have h4:=Nc e;omega).ext x70)
   have j5_k4L:=(i4_k4L.other g71.grown (aN i4_k4L ((bh.st gz ((((((hM.ext x45).ext x9_4).ext x47).ext x53).ext x11_8).ext x63) m14_5 q14_5 (aN (k3L.ext e5) ((((((hM.ext x45).ext x9_4).ext x47).ext x53).ext x11_8).ext x63)).symm (by decide)).ext x70)))
   have i6_k7L:=((((((((k7L.ext x45).ext x9_4).ext x47).ext x53).ext x11_8).ext x63).other q14_5 fun e=>by have h1:=k3.lt;have h2:=l7;have h3:=((x4.trans xg1)).size;have h4:=Nc e;omega).ext x70)
   have j7_k7L:=(i6_k7L.other g71.grown (aN i6_k7L ((bh.st gz ((((((hM.ext x45).ext x9_4).ext x47).ext x53).ext x11_8).ext x63) m14_5 q14_5 (aN (k3L.ext e5) ((((((hM.ext x45).ext x9_4).ext x47).ext x53).ext x11_8).ext x63)).symm (by decide)).ext x70)))
   refine Bp (i) (jV g (s.q.g.inp+i) fR) (_) (_) (_) (M++[⟨rr53_a,cc53_a⟩]) (_) ⟨J,J,J,J,J,J,trivial⟩ ⟨x71,by omega,by rw[hfR];exact hI.step (by omega) hc0 hs.g hk hk3 nn53_a bb53_a,j3_k14_5,j5_k4L,j7_k7L,hF71.1,hn71,(((f63_1.kq m14_5).ext x70).kq m71),(((f63_2.kq m14_5).ext x70).kq m71),o71⟩ (by omega)
 ·obtain rfl:i=0:=by omega
  refine ae (ab J J (ao J J J (be (by omega) cz) (aI (bU J (bJ (aV (aV (bP (ah (aj ?_))))))))))
  have hM0:=hI.ll
  have hM1:=hI.nn
  have hM2:=hI.sb
  have hM3:(k-min 0 k)*(rA b (k-1)+2*b)≤3*(rA b (k-1)+2*b):=Ni _ (by omega)
  have hM4:=hI.z
  have hM5:=hI.e
  refine ae (ab J J (aq o4 J J ((rI (b0:=w.heap.size) ((x2.trans eL)).size (gI.dsv hM) (by omega) hM1 (by omega))) ?_))
  rintro v74 w74 ⟨x74,⟨u74_a,_,rfl,⟨m74_a,hm74_a,b74_a⟩,rfl⟩⟩
  refine ab J J (aB J J cY (aB J J cZ (aa J J (dR (ak J J ((k3L.ext x74).ld MG J ay) (ab J J (bD J J (k4L.ext x74) J ay (am.cons ka.one (am.cons J (am.cons kb.one (am.cons kc.one am.nil)))) fun w17_2 q17_2 k17_2=>?_)))))))
  have x17_2:=aH.of_new ((eL.trans x74)) q17_2 (Nb (x3).size l4)
  have m17_2:=Kq.of1 (p:=[3,0,3,3]) (k4L.ext x74) (ac rfl (ac rfl (ac rfl (ac rfl aT)))) q17_2
  refine aa J J (aa J J (aI (aD (bp J (.cell J (k17_2.ld MG J ay) (.tmp J (.tmp J .nil))) ?_))))
  have hfin:fE s s.q.g.us.length f=g:=hM5.symm
  exact⟨_,J,(x2.trans x17_2),_,_,_,J,by rw[hfin];exact bQ.mk (cv (a:=g) ((ka.ext x74).kq m17_2) ((kb.ext x74).kq m17_2) ((kc.ext x74).kq m17_2)),⟨m74_a,⟨by have:=hm74_a.1;omega,hm74_a.2.1,by have:=hm74_a.2.2.1;omega,fun hz=>Nm (by have:=hm74_a.1;omega)⟩,bh.rebase (bh.st gz b74_a m17_2 q17_2 (aN (k4L.ext x74) b74_a).symm (by decide)) hb0⟩,J⟩
end Go.Rl
namespace Go.Rl
open Go.RowKit Go.Proofs
theorem xg {s:eX} {f:dx} {k b:Nat} (hs:zV s.q.g) (hk:rz s k b) (hk3:k≤3):∀(i:Nat) (g:dx) (l:List eh),i≤s.q.g.us.length→rJ s f k b i g l→i8 (fE s i g) s.q.g.inp=true∧ew (fE s i g)≤rA b k∧(k=0→fE s i g=f)
 |0,g,l,_,h=>by
  have h1:=h.ok
  have h2:=h.sz
  rw[Nat.zero_min] at h1 h2
  exact⟨by simpa [fE] using h1,by simpa [fE] using h2,fun hz=>by simpa [fE] using(h.z hz).1⟩
 |i+1,g,l,hi,h=>by
  have e:fE s (i+1) g=fE s i (iS s g i (s.q.g.us[i]'(by omega))):=by rw[fE,List.getElem?_eq_getElem (by omega)]
  rw[e]
  by_cases hc:iz g (s.q.g.inp+i)=0
  ·have hb:iS s g i (s.q.g.us[i]'(by omega))=g:=by unfold iS;rw[if_pos hc]
   rw[hb]
   exact xg hs hk hk3 i g l (by omega) (h.skip (by omega) hc fun j h=>(hs.us j h).1)
  ·have hb:iS s g i (s.q.g.us[i]'(by omega))=jV g (s.q.g.inp+i) (gw s i (s.q.g.us[i]'(by omega)) (iz g (s.q.g.inp+i))):=by unfold iS;rw[if_neg hc]
   rw[hb]
   exact xg hs hk hk3 i _ _ (by omega) (h.step (r:=⟨0,0,0,0⟩) (c:=0) (by omega) hc hs hk hk3 (Rat.le_refl) (by rw[tY];have:=xf b (Nat.zero_le (k-min (i+1) k));simp only[rA] at this;omega))
theorem E4 {s:eX} {f:dx} {k b:Nat} (hs:zV s.q.g) (hk:rz s k b) (hk3:k≤3) (hf:i8 f (s.q.g.inp+k)=true) (hB:ew f≤130):i8 (fE s s.q.g.us.length f) s.q.g.inp=true∧ew (fE s s.q.g.us.length f)≤rA b k∧(k=0→fE s s.q.g.us.length f=f):=by
 have hku:=hk.ku
 refine xg hs hk hk3 _ f [] (Ng _) ⟨by rw[Nat.min_eq_right hku];exact hf,by rw[Nat.min_eq_right hku,Nat.sub_self];exact hB,by simp,by simp,by simp[pt],fun _=>⟨rfl,rfl⟩,rfl⟩
theorem Mo {P:Program} {w:World} {s T:TypeId} {fs:Array Field} {f:Field} {n g:Nat} (h:dE g T [] w) (hT:P.cellsOf T=0) (hs:P.underlying s=some (.struct fs)) (hf:fs[n]? =some f) (hz:(P.info? f.type).map (·.size)=some 0) (ho:f.offset=0) (hb:f.byteOffset=0):
 (Instr.fieldAt s (.pointer (some ⟨g,0,none⟩)) n).run P w=.ok (.pointer (some ⟨g,0,none⟩)) w:=by
 have hh:w.heap[g]? =some (.cells #[] T (0,0)):=h
 have hv:(viewAt g).run P w=.ok none w:=by
  simp[viewAt,World.shape?,hh]
 have hby:(byteOf ⟨g,0,none⟩).run P w=.ok 0 w:=by
  simp[byteOf,noView,hv,World.shape?,hh,hT]
 simp[Instr.fieldAt,run_underlying hs,hf,Instr.sureAddr,fieldPlace,nA hz,partAt,hby,ho,hb]
def As (s:eX) (f:dx) (k:Nat) (m:List eh):Prop:=k=0→∀t,f.ts=[t]→s.pa=[]→0<max t.co (-t.co)*1→m=[IT t]
theorem uQ {w:World} {s:eX} {f:dx} {k b:Nat} {v u:Value} (hv:bQ ro s v w) (hu:bQ dZ f u w) (hs:n7 s.q) (hp:∀d∈s.pa,i9 s.q d) (hpl:s.pa.length≤1000) (hk:rz s k b) (ho:KL k b) (hf:i8 f (s.q.g.inp+k)=true) (hB:ew f≤130):
 Calls Tryz.prog 403 #[.agg #[],v,u] w (cA fun e w'=>aH w w'∧j1 (QV (s6 s f)) (qq (As s f k) fun m=>cF iI m) (Is (B true)) e w'):=by
 obtain⟨_,rfl,ra⟩:=hv
 obtain⟨su,so,sl,sh,sr,st,sm,sn,sp,sq,rfl,iu,io,il,ih,ir,it,im,jn,ip,iq⟩:=d7 ra
 obtain⟨_,rfl,rb⟩:=hu
 obtain⟨fa,fb,fc,rfl,ja,jb,jc⟩:=cl rb
 obtain⟨hk3,hb18,hb2,hb1⟩:=ho
 obtain⟨hc1,hc2,hc3⟩:=E4 hs.g hk hk3 hf hB
 have hgk:=(Ar hb18 hk3 (Ng k) ⟨hb2,hb1⟩).1
 obtain⟨gN,hgN⟩:∃g,g=fE s s.q.g.us.length f:=⟨_,rfl⟩
 rw[←hgN] at hc1 hc2 hc3
 refine enter (vs:=[.agg #[],.agg #[I s.q.g.inp,su,so,sl,sh,sr,st,B s.q.go.ct.sg,sm,sn,sp,sq],.agg #[fa,B f.ct.sg,fb,fc]]) Tryz.func403 J J J (bc (cj J J fun g3 w3 l3 x3 k3=>cj J J fun g4 w4 l4 x4 k4=>cj J J fun g5 w5 l5 x5 k5=>ce bv J fun g6 w6 l6 x6 k6=>(aa J J (aa J J (dR (ak J J ((k4.ext (x5.trans x6)).ld MM J bg) ?_))))))
 have e1:=((x3.trans x4).trans x5).trans x6
 refine ak J J ((k5.ext x6).ld MG J ay) (aq DO J J ((by have h:=DQ (b0:=w4.heap.size) ((x5.trans x6)).size (bQ.mk (dm (iu.ext e1) (io.ext e1) (il.ext e1) (ih.ext e1) (ir.ext e1) (it.ext e1) (im.ext e1) (jn.ext e1) (ip.ext e1) (iq.ext e1))) (bQ.mk (cv (ja.ext e1) (jb.ext e1) (jc.ext e1))) hs hp hk ⟨hk3,hb18,hb2,hb1⟩ hf hB;rw[←hgN] at h;exact h)) ?_)
 rintro v18 w18 ⟨x18,⟨_,u18_b,_,rfl,⟨_,rfl,r18_a⟩,⟨m18_b,hm18_b,b18_b⟩,rfl⟩⟩
 obtain⟨x18_a_0,x18_a_1,x18_a_2,rfl,f18_a_0,f18_a_1,f18_a_2⟩:=cl r18_a
 refine ab J J (aB J J ey (aB J J ez (aB J J eF ?_)))
 have e3:=x6.trans x18
 refine bD J J (k5.ext e3) J ay (am.cons f18_a_0.one (am.cons J (am.cons f18_a_1.one (am.cons f18_a_2.one am.nil)))) fun w1_7 q1_7 k1_7=>?_
 have x1_7:=aH.of_new (((x5.trans x6).trans x18)) q1_7 l5
 have m1_7:=Kq.of1 (p:=[3,0,3,3]) (k5.ext e3) (ac ja.kd (ac rfl (ac jb.kd (ac jc.kd aT)))) q1_7
 refine aa J J (aa J J (aI (aj (bc (ab J J (cC J J cn (aI (bU J (aA (ah (bc (af J J ((Mo (k3.ext (x4.trans x1_7)) (by kernel_rfl) Tryz.underlying211 J (by kernel_rfl) J J)) (ak J J (((d8.ld (ad:=⟨g3,0,none⟩) (cs:=[]) (fun j u h=>by simp at h) Tryz.underlying209 J (by kernel_rfl)))) (ak J J ((k4.ext x1_7).ld Tryz.underlying57 J bg) ?_))))))))))))))
 have e2:=(x3.trans x4).trans x1_7
 refine ak J J (k1_7.ld MG J ay) (aq BZ J J ((qz (bQ.mk (dm (iu.ext e2) (io.ext e2) (il.ext e2) (ih.ext e2) (ir.ext e2) (it.ext e2) (im.ext e2) (jn.ext e2) (ip.ext e2) (iq.ext e2))) (bQ.mk (cv (f18_a_0.kq m1_7) (f18_a_1.kq m1_7) (f18_a_2.kq m1_7))) hs hp hpl hk (qc (by have:=hk.b0;omega) hc1) (by omega))) ?_)
 rintro v30 w30 ⟨x30,⟨_,u30_b,_,rfl,⟨x30_a_0,x30_a_1,rfl,f30_a_0,f30_a_1⟩,⟨m30_b,hm30_b,b30_b⟩,rfl⟩⟩
 refine ab J J (aB J J ey (aB J J ez (aB J J eF (ce bv J fun g11 w11 l11 x11 k11=>bD J J k11 J ag (am.cons J (am.cons f30_a_0.one (am.cons f30_a_1.one am.nil))) fun w4_10 q4_10 k4_10=>?_))))
 have x4_10:=aH.of_new (x11) q4_10 l11
 refine aa J J (aa J J (aI (aj (bc (ab J J (cC J J cn (aI (bU J (aA (ah (aj ?_)))))))))))
 obtain⟨hl1,hl2,hl3,hl4⟩:=hm18_b
 obtain⟨⟨hj1,hj2,hj3⟩,hj4⟩:=hm30_b
 refine ae (ab J J (ab J J ?_))
 have e4:=((x1_7.trans x30).trans x4_10)
 obtain⟨v40,w40,hr40,o40,g40⟩:=tJ (ty:=124) (((bh.st gz b18_b m1_7 q1_7 (aN (k5.ext e3) b18_b).symm (by decide)).ext x30).ext x4_10) (b30_b.ext x4_10) (by omega) e4.size
 refine df J J hr40 ?_
 have x40:=aH.of_grew e4 g40 ((((bh.st gz b18_b m1_7 q1_7 (aN (k5.ext e3) b18_b).symm (by decide)).ext x30).ext x4_10)).ge
 have m40:=((((bh.st gz b18_b m1_7 q1_7 (aN (k5.ext e3) b18_b).symm (by decide)).ext x30).ext x4_10)).kqG g40 (by decide)
 refine aq o4 J J ((s9 (gI.dsv o40) (by rw[List.length_append];omega) (fun x hx=>(List.mem_append.1 hx).elim (hl2 x) (hj2 x)) (by rw[iT];omega))) ?_
 rintro v41 w41 ⟨x41,⟨u41_a,_,rfl,⟨m41_a,hm41_a,b41_a⟩,rfl⟩⟩
 refine ab J J (aB J J cY (aB J J cZ (aa J J (aa J J (dR ?_)))))
 have j1_k4_10:=((k4_10.other g40.grown (aN k4_10 (((bh.st gz b18_b m1_7 q1_7 (aN (k5.ext e3) b18_b).symm (by decide)).ext x30).ext x4_10))).ext x41)
 refine ak J J (j1_k4_10.ld MC J ag) (ab J J ?_)
 have i2_k6:=((((k6.ext x18).other q1_7 fun e=>by have h1:=k5.lt;have h2:=l6;have h4:=Nc e;omega).ext x30).ext x4_10)
 have j3_k6:=((i2_k6.other g40.grown (aN i2_k6 (((bh.st gz b18_b m1_7 q1_7 (aN (k5.ext e3) b18_b).symm (by decide)).ext x30).ext x4_10))).ext x41)
 refine bD J J j3_k6 J ag (am.cons J (am.cons f30_a_0.one (am.cons f30_a_1.one am.nil))) fun w8_2 q8_2 k8_2=>?_
 have x8_2:=aH.of_new ((x40.trans x41)) q8_2 (Nb (x5).size l6)
 have m8_2:=Kq.of1 (p:=[0,3,3]) j3_k6 (ac rfl (ac rfl (ac rfl aT))) q8_2
 refine aa J J (aa J J (aI (aD (bp J (.cell J (k8_2.ld MC J ag) (.tmp J (.tmp J .nil))) ?_))))
 have hval:s6 s f=nr s gN:=by unfold s6;rw[hgN]
 refine⟨_,J,((x3.trans x4).trans x8_2),_,_,_,J,by rw[hval];exact aU.mk ((((f30_a_0.ext x4_10).kq m40).ext x41).kq m8_2) ((((f30_a_1.ext x4_10).kq m40).ext x41).kq m8_2),⟨m41_a,fun hk0 t ht hpa h0=>?_,(b41_a.kq m8_2)⟩,J⟩
 have hgf:=hc3 hk0
 have h1:=ft hc1 t (by rw[hgf,ht];simp)
 have h2:=hj4 t (by rw[hgf,ht]) h1.2.1 hpa h0
 refine hm41_a.2.2.2 _ ?_ h0
 rw[hl4 hk0,h2];rfl
end Go.Rl
namespace Go.Rl
open Go.RowKit Go.Proofs
theorem DR:az Tryz.prog 135:=⟨_,Tryz.func135,by kernel_rfl,rfl⟩
theorem GE:az Tryz.prog 67:=⟨_,Tryz.func67,by kernel_rfl,rfl⟩
section
variable {P:Program} {ops:Array Oper} {Q:ie} {N:Nat} {D:List Deferred} {l:Fr} {w:World} {rest:List Oper} {d:Nat} {ty:TypeId} {pos:String} {aft:Array Edge}
theorem kV {t:TypeId} {x:Operand} {u r:Value} (hx:ev l x=some u) (hd:Nat.blt d N=true) (hrun:(Instr.makeInterface t u).run P w=.ok r w)
 (k:di P ops Q N D ((d,r)::l) w rest):di P ops Q N D l w (⟨some d,.makeInterface t x,ty,pos,aft,none⟩::rest):=Cn (f:=Instr.makeInterface t) (fun _=>rfl) hx hd hrun k
end
theorem xh {P:Program} {w:World} {t:TypeId} {fs:Array Field} {v:Value} (h:P.underlying t=some (.struct fs)):(Instr.makeInterface t v).run P w=.ok (.iface t v) w:=by
 simp[Instr.makeInterface,run_underlying h]
theorem E5 {s:eX} {k b:Nat} (hs:n7 s.q) (hp:∀d∈s.pa,i9 s.q d) (hk:rz s k b):∀(l:List dU) (c:Rat),(∀t∈l,t.va<s.q.g.inp+k)→bt (l.foldl (uc s) c)≤bt c+gH l+l.length*b
 |[],c,_=>by simp[gH]
 |t::l,c,h=>by
  have h1:=E5 hs hp hk l (uc s c t) fun u hu=>h u (List.mem_cons_of_mem _ hu)
  have h2:=IS hs hp hk (up:=decide (t.co<0)) (h t (by simp))
  have h3:=gP c (t.co*jm s t.va (decide (t.co<0)))
  have h4:=f7 t.co (jm s t.va (decide (t.co<0)))
  rw[List.foldl_cons]
  simp only[gH,List.length_cons,Nat.add_mul,Nat.one_mul]
  unfold uc at h1⊢
  omega
theorem I1 {s:eX} {f:dx} {k b:Nat} (hs:n7 s.q) (hp:∀d∈s.pa,i9 s.q d) (hk:rz s k b) (hk3:k≤3) (hf:i8 f (s.q.g.inp+k)=true):bt (nr s f)≤ew f+6*b:=by
 have h1:=E5 hs hp hk f.ts f.ct fun t ht=>(ft hf t ht).2.1
 have h2:=jk hf (by have:=hs.g.i0;omega)
 have h3:=hs.g.i1
 have h4:f.ts.length*b≤6*b:=Ni _ (by omega)
 unfold nr ew
 omega
theorem B2 {s:eX} {f:dx} {d k b:Nat} (hs:n7 s.q) (hp:∀d∈s.pa,i9 s.q d) (hk:rz s k b) (ho:KL k b) (hf:i8 f (s.q.g.inp+k)=true) (hB:ew f≤130):bt (rH d s f)≤rA b k+6*b:=by
 have h0:=I1 hs hp hk ho.1 hf
 obtain⟨a1,a2,_⟩:=E4 hs.g hk ho.1 hf hB
 have h1:=I1 hs hp hk ho.1 (qc (by have:=hs.g.i0;omega) a1)
 have h2:=xf b (Nat.zero_le k)
 simp only[rA] at h2
 have h3:bt (s6 s f)≤rA b k+6*b:=by unfold s6;omega
 unfold rH
 split
 ·omega
 ·omega
 ·unfold nX
  split<;>omega
abbrev Jk:Value:=.iface 209 (.agg #[])
abbrev Jl:Value:=.iface 211 (.agg #[])
abbrev boD:Value:=.iface 282 (.agg #[Jk,Jl])
theorem I2 {w:World} {v u:Value}:(invoke (.fn (.method "Lower") #[]) (#[Jk]++[v,u].toArray)).run Tryz.prog w=.ok (.enter 380 #[.agg #[],v,u]) w:=by kernel_rfl
theorem I3 {w:World} {v u:Value}:(invoke (.fn (.method "Lower") #[]) (#[Jl]++[v,u].toArray)).run Tryz.prog w=.ok (.enter 403 #[.agg #[],v,u]) w:=by kernel_rfl
theorem LK {w:World} {v u:Value}:(invoke (.fn (.method "Lower") #[]) (#[boD]++[v,u].toArray)).run Tryz.prog w=.ok (.enter 415 #[.agg #[Jk,Jl],v,u]) w:=by kernel_rfl
theorem J7.one {s:eX} {f:dx} {n C k:Nat} {m:List eh} (h:J7 s f n C m) (hf:i8 f (s.q.g.inp+k)=true):As s f k m:=fun hk t ht hpa h0=>h.2 t ht (by have:=(ft hf t (by rw[ht];simp)).2.1;omega) hpa h0
theorem Au {w:World} {s:eX} {f:dx} {k b:Nat} {v u:Value} (hv:bQ ro s v w) (hu:bQ dZ f u w) (hs:n7 s.q) (hp:∀d∈s.pa,i9 s.q d) (hpl:s.pa.length≤1000) (hk:rz s k b) (ho:KL k b) (hf:i8 f (s.q.g.inp+k)=true) (hB:ew f≤130):
 Calls Tryz.prog 415 #[.agg #[Jk,Jl],v,u] w (cA fun e w'=>aH w w'∧j1 (QV (nX s f)) (qq (As s f k) fun m=>cF iI m) (Is (B true)) e w'):=by
 obtain⟨_,rfl,ra⟩:=hv
 obtain⟨su,so,sl,sh,sr,st,sm,sn,sp,sq,rfl,iu,io,il,ih,ir,it,im,jn,ip,iq⟩:=d7 ra
 obtain⟨_,rfl,rb⟩:=hu
 obtain⟨fa,fb,fc,rfl,ja,jb,jc⟩:=cl rb
 have hgk:=(Ar ho.2.1 ho.1 (Ng k) ⟨ho.2.2.1,ho.2.2.2⟩).1
 have hb18:=ho.2.1
 have hx0:bt (nr s f)≤_:=B2 (d:=0) hs hp hk ho hf hB
 have hx1:bt (s6 s f)≤_:=B2 (d:=1) hs hp hk ho hf hB
 refine enter (vs:=[.agg #[Jk,Jl],.agg #[I s.q.g.inp,su,so,sl,sh,sr,st,B s.q.go.ct.sg,sm,sn,sp,sq],.agg #[fa,B f.ct.sg,fb,fc]]) Tryz.func415 J J J (bc (cj J J fun g3 w3 l3 x3 k3=>cj J J fun g4 w4 l4 x4 k4=>cj J J fun g5 w5 l5 x5 k5=>ce bv J fun g6 w6 l6 x6 k6=>(aa J J (aa J J (dR (af J J (tM) (ak J J (ai M7 J (((x4.trans x5).trans x6).cell_some (k3.cell (i:=0) J))) (ak J J ((k4.ext (x5.trans x6)).ld MM J bg) ?_))))))))
 have e1:=((x3.trans x4).trans x5).trans x6
 refine ak J J ((k5.ext x6).ld MG J ay) (wP J J I2 J ((qz (bQ.mk (dm (iu.ext e1) (io.ext e1) (il.ext e1) (ih.ext e1) (ir.ext e1) (it.ext e1) (im.ext e1) (jn.ext e1) (ip.ext e1) (iq.ext e1))) (bQ.mk (cv (ja.ext e1) (jb.ext e1) (jc.ext e1))) hs hp hpl hk hf (by omega))) ?_)
 rintro v20 w20 ⟨x20,⟨_,u20_b,_,rfl,⟨x20_a_0,x20_a_1,rfl,f20_a_0,f20_a_1⟩,⟨m20_b,hm20_b,b20_b⟩,rfl⟩⟩
 refine ab J J (aB J J ey (aB J J ez (aB J J eF (ce bv J fun g9 w9 l9 x9 k9=>bD J J k9 J ag (am.cons J (am.cons f20_a_0.one (am.cons f20_a_1.one am.nil))) fun w1_10 q1_10 k1_10=>?_))))
 have x1_10:=aH.of_new (x9) q1_10 l9
 refine aa J J (aa J J (dR (af J J (tN) (ak J J (ai M7 J (((((x4.trans x5).trans x6).trans x20).trans x1_10).cell_some (k3.cell (i:=1) J))) (ak J J ((k4.ext (((x5.trans x6).trans x20).trans x1_10)).ld MM J bg) (ak J J ((k5.ext ((x6.trans x20).trans x1_10)).ld MG J ay) ?_))))))
 have e2:=(e1.trans x20).trans x1_10
 refine wP J J I3 J ((uQ (bQ.mk (dm (iu.ext e2) (io.ext e2) (il.ext e2) (ih.ext e2) (ir.ext e2) (it.ext e2) (im.ext e2) (jn.ext e2) (ip.ext e2) (iq.ext e2))) (bQ.mk (cv (ja.ext e2) (jb.ext e2) (jc.ext e2))) hs hp hpl hk ho hf hB)) ?_
 rintro v29 w29 ⟨x29,⟨_,u29_b,_,rfl,⟨x29_a_0,x29_a_1,rfl,f29_a_0,f29_a_1⟩,⟨m29_b,hm29_b,b29_b⟩,rfl⟩⟩
 refine ab J J (aB J J ey (aB J J ez (aB J J eF (ce bv J fun g12 w12 l12 x12 k12=>bD J J k12 J ag (am.cons J (am.cons f29_a_0.one (am.cons f29_a_1.one am.nil))) fun w2_10 q2_10 k2_10=>?_))))
 have x2_10:=aH.of_new (x12) q2_10 l12
 refine aa J J (aa J J (aI (aj (aj ?_))))
 rcases Decidable.em (nr s f<s6 s f) with hA|hA
 ·refine ae (ab J J (ab J J (an J (ab J J (an J (cC J J cn (an J (ab J J (an J (ak J J (k2_10.ld MC J ag) ?_))))))))))
  have e7:=(x1_10.trans x29).trans x2_10
  refine an J (ak J J ((k1_10.ext (x29.trans x2_10)).ld MC J ag) (an J (aq gk J J (p7 (aU.mk (f29_a_0.ext x2_10) (f29_a_1.ext x2_10)) (aU.mk (f20_a_0.ext e7) (f20_a_1.ext e7)) (by omega)) ?_)))
  rintro v40 w40 ⟨x40,rfl⟩
  refine an J (ao J J J (bF (gd.2 hA) bo) (an J (aG J J J (aR J J J (aI (cg J (bc (ak J J ((k2_10.ext x40).ld MC J ag) (ab J J ?_)))))))))
  have e4:=(((x20.trans x1_10).trans x29).trans x2_10).trans x40
  refine bD J J (k6.ext e4) J ag (am.cons J (am.cons f29_a_0.one (am.cons f29_a_1.one am.nil))) fun w4_2 q4_2 k4_2=>?_
  have x4_2:=aH.of_new ((((((x6.trans x20).trans x1_10).trans x29).trans x2_10).trans x40)) q4_2 l6
  have m4_2:=Kq.of1 (p:=[0,3,3]) (k6.ext e4) (ac rfl (ac rfl (ac rfl aT))) q4_2
  refine aa J J (aa J J (aI (aD (a0 (bp J (.cell J (k4_2.ld MC J ag) (.tmp J (.tmp J .nil))) ?_)))))
  have hval:nX s f=s6 s f:=if_pos hA
  have e6:=x2_10.trans x40
  exact⟨_,J,(((x3.trans x4).trans x5).trans x4_2),_,_,_,J,by rw[hval];exact aU.mk ((f29_a_0.ext e6).kq m4_2) ((f29_a_1.ext e6).kq m4_2),⟨m29_b,hm29_b,((b29_b.ext e6).kq m4_2)⟩,J⟩
 ·refine ae (ab J J (ab J J (an J (ab J J (an J (cC J J cn (an J (ab J J (an J (ak J J (k2_10.ld MC J ag) ?_))))))))))
  have e8:=(x1_10.trans x29).trans x2_10
  refine an J (ak J J ((k1_10.ext (x29.trans x2_10)).ld MC J ag) (an J (aq gk J J (p7 (aU.mk (f29_a_0.ext x2_10) (f29_a_1.ext x2_10)) (aU.mk (f20_a_0.ext e8) (f20_a_1.ext e8)) (by omega)) ?_)))
  rintro v40 w40 ⟨x40,rfl⟩
  refine an J (ao J J J (be (fun h=>hA (gd.1 h)) bo) (an J (aG J J J (aR J J J (aI (bU J (aA (ah (bc (ak J J ((k1_10.ext ((x29.trans x2_10).trans x40)).ld MC J ag) (ab J J (ab J J ?_))))))))))))
  have e5:=(((x20.trans x1_10).trans x29).trans x2_10).trans x40
  refine bD J J (k6.ext e5) J ag (am.cons J (am.cons f20_a_0.one (am.cons f20_a_1.one am.nil))) fun w5_3 q5_3 k5_3=>?_
  have x5_3:=aH.of_new ((((((x6.trans x20).trans x1_10).trans x29).trans x2_10).trans x40)) q5_3 l6
  have m5_3:=Kq.of1 (p:=[0,3,3]) (k6.ext e5) (ac rfl (ac rfl (ac rfl aT))) q5_3
  refine aa J J (aa J J (aI (aD (bp J (.cell J (k5_3.ld MC J ag) (.tmp J (.tmp J .nil))) ?_))))
  have hval:nX s f=nr s f:=if_neg hA
  have e3:=e8.trans x40
  exact⟨_,J,(((x3.trans x4).trans x5).trans x5_3),_,_,_,J,by rw[hval];exact aU.mk ((f20_a_0.ext e3).kq m5_3) ((f20_a_1.ext e3).kq m5_3),⟨m20_b,hm20_b.one hf,((b20_b.ext e3).kq m5_3)⟩,J⟩
theorem DS {w:World}:Calls Tryz.prog 135 #[Jk,Jl] w (cA fun e w'=>w'=w∧e=boD):=by
 refine enter Tryz.func135 J J J (bc (aa J J (aI (aj (bc (ab J J (ao J J J ((by kernel_rfl)) (ab J J (an J (ab J J (an J (ao J J J ((by kernel_rfl)) (aG J J J (aI (bU J (aA (ah (bc (ab J J (ab J J (bV (r:=.agg #[Jk,Jl]) J J (by exact run_build _ _ _ _ (by kernel_rfl)) (kV (r:=.iface 282 (.agg #[Jk,Jl])) J J (xh M8) (aa J J (aI (aD (aF J J ?_))))))))))))))))))))))))))
 exact⟨_,J,J,J⟩
def xC:Nat→Value
 |0=>Jk
 |1=>Jl
 |_=>boD
theorem GF {w:World} {d:Nat} (hd:d≤2):Calls Tryz.prog 67 #[I (d:Int)] w (cA fun e w'=>w'=w∧gQ (Is (xC d)) (Is (B true)) e w'):=by
 refine enter Tryz.func67 J J J (bc (aa J J (aa J J (aI (aj (bc (ab J J (aI (aJ (aj ?_))))))))))
 rcases(show d=0∨d=1∨d=2 by omega) with rfl|rfl|rfl
 ·refine ae (ao J J J (bF J aO) (aa J J (aI (cg J (bc (bV (r:=.agg #[]) J J (by exact run_build _ _ _ _ (by kernel_rfl)) ?_))))))
  refine kV (r:=.iface 209 (.agg #[])) J J (xh Na) (aa J J (aa J J (ar (ah (aD (bK (a0 (dW J J J ?_))))))))
  exact⟨_,J,J,_,_,J,J,J⟩
 ·refine ae (ao J J J (be (by decide) aO) (aa J J (aI (bU J (bc (ao J J J (bF J aO) (aa J J ?_)))))))
  refine aI (cg J (bc (bV (r:=.agg #[]) J J (by exact run_build _ _ _ _ (by kernel_rfl)) (kV (r:=.iface 211 (.agg #[])) J J (xh M9) (aa J J (aa J J (aI (aD (bK (a0 (dW J J J ?_)))))))))))
  exact⟨_,J,J,_,_,J,J,J⟩
 ·refine ae (ao J J J (be (by decide) aO) (aa J J (aI (bU J (bc (ao J J J (be (by decide) aO) (aa J J ?_)))))))
  refine aI (bU J (bc (ao J J J (bF J aO) (aa J J (aI (cg J (bc (bV (r:=.agg #[]) J J (by exact run_build _ _ _ _ (by kernel_rfl)) (kV (r:=.iface 209 (.agg #[])) J J (xh Na) (bV (r:=.agg #[]) J J (by exact run_build _ _ _ _ (by kernel_rfl)) (kV (r:=.iface 211 (.agg #[])) J J (xh M9) (aq DR J J (DS) ?_))))))))))))
  rintro v19 _ ⟨rfl,rfl⟩
  refine aa J J (aa J J (aI (aD (bK (a0 (dW J J J ?_))))))
  exact⟨_,J,J,_,_,J,J,J⟩
end Go.Rl
namespace Go.Rl
theorem yS (a:Int) {c:Nat} (hc:0<c):mkRat a c*(c:Rat)=a:=by
 rw[Rat.mkRat_eq_div,Rat.div_def,Rat.mul_assoc,Rat.mul_comm _ (c:Rat),Rat.mul_inv_cancel _ (by exact_mod_cast (Nat.pos_iff_ne_zero.1 hc)),Rat.mul_one]
theorem tc {a b:Int} {c d:Nat} (hc:0<c) (hd:0<d) (h:a*d≤b*c):mkRat a c≤mkRat b d:=by
 have h1:=yS a hc
 have h2:=yS b hd
 have hc':(0:Rat)<(c:Rat):=by exact_mod_cast hc
 have hd':(0:Rat)<(d:Rat):=by exact_mod_cast hd
 have h3:(a:Rat)*(d:Rat)≤(b:Rat)*(c:Rat):=by exact_mod_cast h
 rw[←h1,←h2] at h3
 false_or_by_contra
 rename_i hn
 have hn:mkRat b d<mkRat a c:=Rat.not_le.1 hn
 have h4:=Rat.mul_pos (Rat.mul_pos hc' hd') (show(0:Rat)<mkRat a c-mkRat b d by grind)
 grind
def td (s:Bool) (m:Nat) (e:Int):Rat:=mkRat (fC s (m*2^e.toNat)) (2^(-e).toNat)
theorem GG (s:Bool) (m k:Nat) (e:Int):td s (m*2^k) e=td s m (e+k):=by
 unfold td
 rw[Rat.mkRat_eq_iff (Nat.pos_iff_ne_zero.1 (Nat.pow_pos (by omega))) (Nat.pos_iff_ne_zero.1 (Nat.pow_pos (by omega)))]
 have key:m*2^k*2^e.toNat*2^(-(e+(k:Int))).toNat=m*2^(e+(k:Int)).toNat*2^(-e).toNat:=by
  rw[Nat.mul_assoc,Nat.mul_assoc,Nat.mul_assoc,←Nat.pow_add,←Nat.pow_add,←Nat.pow_add]
  congr 2;omega
 have key':(((m*2^k*2^e.toNat:Nat):Int))*((2^(-(e+(k:Int))).toNat:Nat):Int)=((m*2^(e+(k:Int)).toNat:Nat):Int)*((2^(-e).toNat:Nat):Int):=by exact_mod_cast key
 unfold fC
 split
 ·rw[Int.neg_mul,Int.neg_mul,key']
 ·exact key'
theorem Mp {s:Bool} {N D q:Nat} {e:Int} (hD:0<D) (h:q*(D*2^e.toNat)≤N*2^(-e).toNat):if s=true then mkRat (fC s N) D≤td s q e else td s q e≤mkRat (fC s N) D:=by
 have h':(((q*2^e.toNat:Nat):Int))*(D:Int)≤(N:Int)*((2^(-e).toNat:Nat):Int):=by
  have:q*2^e.toNat*D≤N*2^(-e).toNat:=by rw[Nat.mul_assoc,Nat.mul_comm _ D];exact h
  exact_mod_cast this
 have hp:0<2^(-e).toNat:=Nat.pow_pos (by omega)
 unfold td fC
 split
 ·refine tc hD hp ?_
  rw[Int.neg_mul,Int.neg_mul];omega
 ·exact tc hp hD h'
theorem LL {s:Bool} {N D q:Nat} {e:Int} (hD:0<D) (h:N*2^(-e).toNat≤q*(D*2^e.toNat)):if s=true then td s q e≤mkRat (fC s N) D else mkRat (fC s N) D≤td s q e:=by
 have h':(N:Int)*((2^(-e).toNat:Nat):Int)≤(((q*2^e.toNat:Nat):Int))*(D:Int):=by
  have:N*2^(-e).toNat≤q*2^e.toNat*D:=by rw[Nat.mul_assoc,Nat.mul_comm _ D];exact h
  exact_mod_cast this
 have hp:0<2^(-e).toNat:=Nat.pow_pos (by omega)
 unfold td fC
 split
 ·refine tc hp hD ?_
  rw[Int.neg_mul,Int.neg_mul];omega
 ·exact tc hD hp h'
theorem xi {N D p r p' r':Nat} (h:p+r'=p'+r) (hl:N*2^p<D*2^r):N*2^p'<D*2^r':=by
 rcases Nat.le_total p p' with hp|hp
 ·obtain⟨t,rfl⟩:=Nat.le.dest hp
  obtain rfl:r'=r+t:=by omega
  rw[Nat.pow_add,Nat.pow_add,←Nat.mul_assoc,←Nat.mul_assoc]
  exact Nat.mul_lt_mul_of_pos_right hl (Nat.pow_pos (by omega))
 ·obtain⟨t,rfl⟩:=Nat.le.dest hp
  obtain rfl:r=r'+t:=by omega
  rw[Nat.pow_add,Nat.pow_add,←Nat.mul_assoc,←Nat.mul_assoc] at hl
  exact Nat.lt_of_mul_lt_mul_right hl
theorem I4 {N D p r p' r':Nat} (h:p+r'=p'+r) (hl:N*2^p≤D*2^r):N*2^p'≤D*2^r':=by
 rcases Nat.lt_or_ge (D*2^r') (N*2^p') with hg|hg
 ·have:=xi (N:=D) (D:=N) (p:=r') (r:=p') (p':=r) (r':=p) (by omega) hg
  omega
 ·exact hg
def Lg (N D:Nat) (k:Int):Prop:=D*2^k.toNat≤N*2^(-k).toNat∧N*2^(-k).toNat<D*2^(k.toNat+1)
theorem J9 {N D:Nat} {k:Int} {b:Nat} (hD:0<D) (hb:0<b) (h:Lg N D k):1≤N*2^(-(k-b+1)).toNat/(D*2^(k-b+1).toNat)∧N*2^(-(k-b+1)).toNat/(D*2^(k-b+1).toNat)<2^b:=by
 have hp:0<D*2^(k-b+1).toNat:=Nat.mul_pos hD (Nat.pow_pos (by omega))
 refine⟨(Nat.le_div_iff_mul_le hp).2 ?_,(Nat.div_lt_iff_lt_mul hp).2 ?_⟩
 ·rw[Nat.one_mul]
  have h1:=I4 (p':=k.toNat+(b-1)) (r':=(-k).toNat+(b-1)) (by omega) h.1
  have h2:=I4 (N:=D) (D:=N) (p:=k.toNat) (r:=(-k).toNat+(b-1)) (p':=(k-b+1).toNat) (r':=(-(k-b+1)).toNat) (by omega) (Nb h.1 (Nr _ (Nj (by omega) (by omega))))
  exact h2
 ·rw[Nat.mul_comm (2^b),Nat.mul_assoc,←Nat.pow_add]
  exact xi (by omega) h.2
theorem Mq {N D n d:Nat} (hn:2^n≤N) (hn':N<2^(n+1)) (hd:2^d≤D) (hd':D<2^(d+1)) {k:Int} (hk:k=(n:Int)-d):
 (N*2^(-k).toNat<D*2^k.toNat→Lg N D (k-1))∧(¬N*2^(-k).toNat<D*2^k.toNat→Lg N D k):=by
 have a1:D*2^n<N*2^(d+1):=by
  have:D*2^n≤D*N:=Nr _ hn
  have:D*N<2^(d+1)*N:=Nat.mul_lt_mul_of_pos_right hd' (by have:=Nat.pow_pos (a:=2) (n:=n) (by omega);omega)
  rw[Nat.mul_comm N];omega
 have a2:N*2^d<D*2^(n+1):=by
  have:N*2^d≤N*D:=Nr _ hd
  have:N*D<2^(n+1)*D:=Nat.mul_lt_mul_of_pos_right hn' (by have:=Nat.pow_pos (a:=2) (n:=d) (by omega);omega)
  rw[Nat.mul_comm D];omega
 refine⟨fun h=>⟨?_,?_⟩,fun h=>⟨by omega,?_⟩⟩
 ·exact Nat.le_of_lt (xi (by omega) a1)
 ·exact xi (by omega) h
 ·exact xi (by omega) a2
theorem ue (n:Nat):bl (2^n)≤n+1:=rD (Nat.pow_lt_pow_right (by omega) (by omega))
theorem DT (s:Bool) (n:Nat):(fC s n).natAbs=n:=by unfold fC;split<;>omega
theorem Mr {s:Bool} {q:Nat} {e:Int} (hq:q≤8):bt (td s q e)≤e.natAbs+6:=by
 have h8:bl q≤4:=Nb (jg hq) (by decide)
 have h1:=oA q (2^e.toNat)
 have h2:=ue e.toNat
 have h3:=ue (-e).toNat
 have:=xW (i:=fC s (q*2^e.toNat)) (d:=2^(-e).toNat) (k:=e.natAbs+5) (Nat.pow_pos (by omega)) (by rw[DT];omega) (by omega)
 unfold td
 omega
end Go.Rl
namespace Go.Rl
open Go.RowKit Go.Proofs
theorem GH:az Tryz.prog 340:=⟨_,Tryz.func340,by kernel_rfl,rfl⟩
theorem B3:az Tryz.prog 349:=⟨_,Tryz.func349,by kernel_rfl,rfl⟩
theorem lU:az Tryz.prog 293:=⟨_,Tryz.func293,by kernel_rfl,rfl⟩
theorem GI:az Tryz.prog 350:=⟨_,Tryz.func350,by kernel_rfl,rfl⟩
theorem Av:az Tryz.prog 336:=⟨_,Tryz.func336,by kernel_rfl,rfl⟩
theorem DU:az Tryz.prog 335:=⟨_,Tryz.func335,by kernel_rfl,rfl⟩
theorem uR:az Tryz.prog 292:=⟨_,Tryz.func292,by kernel_rfl,rfl⟩
theorem DV:az Tryz.prog 216:=⟨_,Tryz.func216,by kernel_rfl,rfl⟩
theorem I5:az Tryz.prog 217:=⟨_,Tryz.func217,by kernel_rfl,rfl⟩
theorem yT:az Tryz.prog 218:=⟨_,Tryz.func218,by kernel_rfl,rfl⟩
theorem GJ:az Tryz.prog 333:=⟨_,Tryz.func333,by kernel_rfl,rfl⟩
theorem GK:az Tryz.prog 334:=⟨_,Tryz.func334,by kernel_rfl,rfl⟩
theorem B4:az Tryz.prog 141:=⟨_,Tryz.func141,by kernel_rfl,rfl⟩
theorem GL {P:Program} {w:World} {x a:UInt32} (h:IntKind.u32.wrap (0-(x.toNat:Int))=(a.toNat:Int)):(Op.unary .neg (ep x)).run P w=.ok (ep a) w:=by
 simp only[ep,Op.unary,Op.intArith,h];rfl
theorem jA {w:World} {x a d:UInt32} {k:UInt8} (h0:x≠0) (hn:IntKind.u32.wrap (0-(x.toNat:Int))=(a.toNat:Int)) (hd:((x&&&a)*125613361)>>>UInt32.ofNat 27=d) (hd2:d.toNat<32) (hc:w.cell? ⟨1,0+d.toNat,none⟩=some (U8 k)):
 Calls Tryz.prog 340 #[ep x] w (cA fun e w'=>w'=w∧e=I (k.toNat:Int)):=by
 refine enter Tryz.func340 J J J (bc (aa J J (aI (aj (bc (ab J J (ao (v:=ep 0) J J J (lM) (aI (ci J (fun h4=>?_) (fun h4=>?_))))))))))
 ·refine bc (aa J J (aI (aD (a0 (aF J J ?_)))))
  exact absurd h4 h0
 ·refine aA (ah (bc (ab J J (ab J J (cC J J ((GL hn)) (ao J J J (xG) (ao (v:=ep 125613361) J J J (Fh) ?_)))))))
  refine ao J J J (lN 27 (by omega)) ?_
  rw[hd]
  refine aE J J J ((Hx Tryz.underlying90 (by kernel_rfl) hd2 .u32)) (ak J J ((ai MZ J hc)) (cm J J (od MZ ME) (aa J J (aI (aD (aF J J ?_))))))
  exact⟨_,J,J,J⟩
def nt (w:World):Prop:=w.cell? ⟨1,0,none⟩=some (U8 0)∧w.cell? ⟨1,1,none⟩=some (U8 1)∧w.cell? ⟨1,3,none⟩=some (U8 2)∧w.cell? ⟨1,7,none⟩=some (U8 3)
theorem nt.ext {w w':World} (h:nt w) (hx:aH w w'):nt w':=⟨hx.cell_some h.1,hx.cell_some h.2.1,hx.cell_some h.2.2.1,hx.cell_some h.2.2.2⟩
theorem nt.grown {w w':World} {g:Nat} (h:nt w) (hg:g≠1) (q:w.grownBy w' (some g)):nt w':=
 have f:∀j v,w.cell? ⟨1,j,none⟩=some v→w'.cell? ⟨1,j,none⟩=some v:=fun _ _ hj=>q.cell hj fun e=>hg (Nc e).symm
 ⟨f _ _ h.1,f _ _ h.2.1,f _ _ h.2.2.1,f _ _ h.2.2.2⟩
def tz (q:Nat):Nat:=if q%2=1 then 0 else if q%4=2 then 1 else if q%8=4 then 2 else 3
theorem Aw {q:Nat} (h0:1≤q) (h:q≤8):tz q≤3∧q/2^tz q*2^tz q=q:=by
 have e:q=1∨q=2∨q=3∨q=4∨q=5∨q=6∨q=7∨q=8:=by omega
 rcases e with rfl|rfl|rfl|rfl|rfl|rfl|rfl|rfl<;>decide
theorem GM {w:World} {q:Nat} (hT:nt w) (h0:1≤q) (h:q≤8):Calls Tryz.prog 340 #[ep (UInt32.ofNat q)] w (cA fun e w'=>w'=w∧e=I (tz q:Int)):=by
 have e:q=1∨q=2∨q=3∨q=4∨q=5∨q=6∨q=7∨q=8:=by omega
 obtain⟨t0,t1,t3,t7⟩:=hT
 rcases e with rfl|rfl|rfl|rfl|rfl|rfl|rfl|rfl
 ·exact jA (x:=1) (a:=4294967295) (d:=0) (k:=0) (by decide) (by decide) (by decide) (by decide) t0
 ·exact jA (x:=2) (a:=4294967294) (d:=1) (k:=1) (by decide) (by decide) (by decide) (by decide) t1
 ·exact jA (x:=3) (a:=4294967293) (d:=0) (k:=0) (by decide) (by decide) (by decide) (by decide) t0
 ·exact jA (x:=4) (a:=4294967292) (d:=3) (k:=2) (by decide) (by decide) (by decide) (by decide) t3
 ·exact jA (x:=5) (a:=4294967291) (d:=0) (k:=0) (by decide) (by decide) (by decide) (by decide) t0
 ·exact jA (x:=6) (a:=4294967290) (d:=1) (k:=1) (by decide) (by decide) (by decide) (by decide) t1
 ·exact jA (x:=7) (a:=4294967289) (d:=0) (k:=0) (by decide) (by decide) (by decide) (by decide) t0
 ·exact jA (x:=8) (a:=4294967288) (d:=7) (k:=3) (by decide) (by decide) (by decide) (by decide) t7
end Go.Rl
namespace Go.Rl
open Go.RowKit Go.Proofs
theorem GN {w:World} {m k:Nat} {v:Value} (hv:bH (lb m) v w) (hl:bl m≤17179869184) (hk:k≤1048576):
 Calls Tryz.prog 337 #[v,I (k:Int)] w (cA fun r w'=>aH w w'∧gQ (bH (lb (m*2^k))) (Is (I 0)) r w'):=by
 have hlen:=Nb (mY m) hl
 refine enter Tryz.func337 J J J (bc (aa J J (aa J J (aI (aj (bc (ab J J (ao J J J (be (by omega) aX) (ab J J (an J (ab J J (an J (ao J J J (be (by omega) bo) (aG J J J (aI (bU J (aA (ah (bc (ab J J (aq dz J J ((by have h:=dB hv;rw[bk] at h;exact h)) ?_)))))))))))))))))))))
 rintro v13 _ ⟨rfl,b13⟩
 refine aa J J (aI (aj (bc (ab J J (bn J J (bR MD b13) (ao J J J (aO) (ar (ah (ci J (fun h16=>?_) (fun h16=>?_))))))))))
 ·refine bc (aa J J (aa J J (aI (aD (a0 (dW J J J ?_))))))
  exact⟨_,J,aH.refl _,_,_,J,by
   obtain rfl:m=0:=gl.1 (by omega)
   rw[Nat.zero_mul]
   exact bH.nil _,J⟩
 ·refine aA (ah (aj (bj 7 [19,23] (by kernel_rfl) (by kernel_rfl) ?_)))
  refine ax J J (bC (r:=I ((k/32:Nat):Int)) J J J (fun w _=>by have e:((k/32:Nat):Int)=(k:Int)/32:=(by omega);rw[e];exact qE (by omega) (by omega) (by omega)) (AH (S:=eY w.heap.size (List.replicate (k/32) 0)) J J (eY.stable _ _) J (fun w1 hw=>by obtain⟨r,w2,a,b,c,_⟩:=py MD w.heap.size (n:=k/32) (by omega) hw.size;exact⟨r,w2,a,b,c⟩) (ax J J (ax J J (bC (r:=I ((k%32:Nat):Int)) J J J (fun w _=>by have e:((k%32:Nat):Int)=(k:Int)%32:=(by omega);rw[e];exact oc (by omega) (by omega)) (bZ (S:=fun v' w'=>∃L,bH L v' w'∧L.length=(lb m).length+1∧val L=m*2^(k%32)) rR (fun _ _ _ ⟨L,a,b⟩ hx=>⟨L,a.ext hx,b⟩) J (fun w1 hw=>by rintro _ rfl _ rfl;exact(rS (k:=k%32) (bH.ext b13 hw) (by omega) (Nat.mod_lt _ (by omega))).mono fun _ _ ⟨v,e,a,L,b,c,d⟩=>⟨v,e,a,L,b.wds,c,by rw[d,bk]⟩) (bA ?_)))))))
  intro wg6 xg6 vg19 h19 vg23 h23
  obtain⟨L,bL,hLl,hLv⟩:=h23
  obtain⟨v24,w24,hr24,o24,g24⟩:=ni MD (ty:=47) h19 bL (by rw[List.length_replicate];omega) (xg6).size
  have x24:=aH.of_grew (xg6) g24 h19.ge
  refine df J J hr24 (aq dz J J ((by have h:=dB (o24.wds);rw[fw,lO,Nat.zero_add,List.length_replicate,hLv,show(4294967296:Nat)^(k/32)=2^(32*(k/32)) by rw[Nat.pow_mul],Nat.mul_left_comm,←Nat.pow_add,Nat.div_add_mod] at h;exact h)) ?_)
  rintro v25 _ ⟨rfl,b25⟩
  refine aa J J (aa J J (aI (aD (dW J J J ?_))))
  exact⟨_,J,x24,_,_,J,b25,J⟩
theorem LM {P:Program} {w:World} {t:TypeId} {x y:Operand} {a:Nat} (h:a≤1000):(bin .add t x y (I ((0:Nat):Int)) (I (a:Int))).run P w=.ok (I (a:Int)) w:=
 Eq.trans aY (by rw[Int.natCast_zero,Int.zero_add])
theorem B5 {w:World} {q:Nat} {v:Value} (hT:nt w) (hv:bH (lb q) v w) (h0:1≤q) (h:q≤8):Calls Tryz.prog 349 #[v] w (cA fun e w'=>w'=w∧e=I (tz q:Int)):=by
 rw[Hf (by omega) (by omega)] at hv
 have hq:UInt32.ofNat q≠0:=fun e=>by
  have:=congrArg UInt32.toNat e
  rw[UInt32.toNat_ofNat_of_lt' (show q<4294967296 by omega)] at this
  simp at this
  omega
 refine enter Tryz.func349 J J J (bc (aa J J (dR (aa J J (aI (aj (aJ (dS (α:=Nat) (fun _=>[(0,v),(3,I 0)]) (fun _ w'=>w'=w) (fun _=>0) (0) ⟨J,J,trivial⟩ J ?_))))))))
 rintro _ _ rfl
 refine aj (bc (ab J J (ab J J ?_)))
 obtain⟨a6,p6,q6⟩:=dN Tryz.underlying47 hv (i:=0) ((by simp)) .i64
 refine aE J J J (p6 _) (ak J J (ai MF J q6) (ao (v:=ep 0) J J J (be hq lM) (aI (bU J (bJ (aV (aV (bP (ah (bc (ab J J (ao (r:=I ((0:Nat):Int)) J J J (by have e:((0:Nat):Int)=32*0:=(by omega);rw[e];exact vc (by omega) (by omega)) (ab J J (ab J J ?_))))))))))))))
 obtain⟨a15,p15,q15⟩:=dN Tryz.underlying47 hv (i:=0) ((by simp)) .i64
 refine aE J J J (p15 _) (ak J J (ai MF J q15) (aq GH J J ((GM hT h0 h)) ?_))
 rintro v17 _ ⟨rfl,rfl⟩
 refine ao (r:=I (tz q:Int)) J J J ((LM (by have:=(Aw h0 h).1;omega))) (aa J J (aI (aD (aF J J ?_))))
 exact⟨_,J,J,J⟩
theorem I6 {P:Program} {w:World} {ts:Array TypeId} {ty:TypeId} {n:Nat} (h:n≤1048576):(Builtin.min_ ts ty #[I (n:Int),I 1048576]).run P w=.ok (I (n:Int)) w:=by
 refine Eq.trans (b:=.ok (I (if (1048576:Int)<(n:Int) then 1048576 else(n:Int))) w) J (by rw[if_neg (by omega)])
theorem lV {w:World} {m k:Nat} {v:Value} (hv:bH (lb m) v w) (hl:bl m≤17179869184) (hk:k≤1048576):
 Calls Tryz.prog 293 #[v,I (k:Int)] w (cA fun r w'=>aH w w'∧bH (lb (m*2^k)) r w'):=by
 refine enter Tryz.func293 J J J (bc (aa J J (aI (aj (aJ (fi (fun(i:Nat) (p:Nat) (u:Value)=>[(0,u),(1,I (i:Int))]) (fun(i:Nat) (p:Nat) (u:Value) w'=>aH w w'∧((i=k∧p=m)∨(i=0∧p=m*2^k))∧bH (lb p) u w') (fun(i:Nat) (p:Nat) (u:Value)=>i) (k) (m) (v) ⟨J,J,trivial⟩ ⟨aH.refl _,.inl ⟨J,J⟩,hv⟩ ?_))))))
 rintro i p u wL ⟨eL,hc,hL⟩
 refine aj (aj ?_)
 rcases Decidable.em (0<i) with hA|hA
 ·obtain⟨rfl,rfl⟩:i=k∧p=m:=by omega
  refine ae (ab J J (ao J J J (bF (by omega) bo) (aI (cg J (aA (ah (aJ (bc (ab J J (Kj (vs:=[I (i:Int),I 1048576]) J J (I6 hk) (aa J J (dR (ab J J (ab J J (aq FU J J ((GN hL hl hk)) ?_)))))))))))))))
  rintro v13 w13 ⟨x13,⟨u13_a,_,rfl,b13_a,rfl⟩⟩
  refine ab J J (aB J J cY (aB J J cZ (aa J J (aI (ae (ab J J (ab J J (ao (r:=I ((0:Nat):Int)) J J J (by have e:((0:Nat):Int)=(i:Int)-(i:Int):=(by omega);rw[e];exact bT) (aa J J (ar (aW (cK (0) (p*2^i) (_) ⟨J,J,trivial⟩ ⟨(eL.trans x13),.inr ⟨J,J⟩,b13_a⟩ (by omega)))))))))))))
 ·refine ae (ab J J (ao J J J (be (by omega) bo) (aI (bU J (bJ (aV (aV (bP (ah (bc (ab J J (aa J J ?_))))))))))))
  refine aI (aD (aF J J ?_))
  obtain rfl:i=0:=by omega
  exact⟨_,J,eL,by rcases hc with⟨h1,h2⟩|⟨_,h2⟩<;>rw[←h2]<;>first|exact hL|(subst h1;rw[Nat.pow_zero,Nat.mul_one];exact hL)⟩
theorem LN {w:World} {m k:Nat} {v:Value} (hv:bH (lb m) v w) (hl:(lb m).length≤1099511627776) (hk:k≤1048576):
 Calls Tryz.prog 326 #[v,I (k:Int)] w (cA fun r w'=>aH w w'∧gQ (bH (lb (m/2^k))) (Is (I 0)) r w'):=
 cA.mono (xO hv hl hk) fun _ _ ⟨e,q,a,b⟩=>⟨e,q,_,a,by rw[bk] at b;exact b,rfl⟩
theorem GO {w:World} {q:Nat} {v:Value} (hv:bH (lb q) v w) (h0:1≤q) (h:q≤8):
 Calls Tryz.prog 350 #[v,I (tz q:Int)] w (cA fun r w'=>aH w w'∧bH (lb (q/2^tz q)) r w'):=by
 have hk:tz q≤1048576:=by have:=(Aw h0 h).1;omega
 obtain⟨k,hkk⟩:∃k,k=tz q:=⟨_,rfl⟩
 rw[←hkk] at hk⊢
 have hlq:=Nb (mY q) (Nb (jg h) (show bl 8≤4 by decide))
 refine enter Tryz.func350 J J J (bc (aa J J (aI (aj (aJ (fi (fun(i:Nat) (p:Nat) (u:Value)=>[(0,u),(1,I (i:Int))]) (fun(i:Nat) (p:Nat) (u:Value) w'=>aH w w'∧((i=k∧p=q)∨(i=0∧p=q/2^k))∧bH (lb p) u w') (fun(i:Nat) (p:Nat) (u:Value)=>i) (k) (q) (v) ⟨J,J,trivial⟩ ⟨aH.refl _,.inl ⟨J,J⟩,hv⟩ ?_))))))
 rintro i p u wL ⟨eL,hc,hL⟩
 refine aj (aj ?_)
 rcases Decidable.em (0<i) with hA|hA
 ·obtain⟨rfl,rfl⟩:i=k∧p=q:=by omega
  refine ae (ab J J (ao J J J (bF (by omega) bo) (aI (cg J (aA (ah (aJ (bc (ab J J (Kj (vs:=[I (i:Int),I 1048576]) J J (I6 hk) (aa J J (dR (ab J J (ab J J (aq xM J J ((LN hL (by omega) hk)) ?_)))))))))))))))
  rintro v13 w13 ⟨x13,⟨u13_a,_,rfl,b13_a,rfl⟩⟩
  refine ab J J (aB J J cY (aB J J cZ (aa J J (aI (ae (ab J J (ab J J (ao (r:=I ((0:Nat):Int)) J J J (by have e:((0:Nat):Int)=(i:Int)-(i:Int):=(by omega);rw[e];exact bT) (aa J J (ar (aW (cK (0) (p/2^i) (_) ⟨J,J,trivial⟩ ⟨(eL.trans x13),.inr ⟨J,J⟩,b13_a⟩ (by omega)))))))))))))
 ·refine ae (ab J J (ao J J J (be (by omega) bo) (aI (bU J (bJ (aV (aV (bP (ah (bc (ab J J (aa J J ?_))))))))))))
  refine aI (aD (aF J J ?_))
  obtain rfl:i=0:=by omega
  exact⟨_,J,eL,by rcases hc with⟨h1,h2⟩|⟨_,h2⟩<;>rw[←h2]<;>first|exact hL|(subst h1;rw[Nat.pow_zero,Nat.div_one];exact hL)⟩
def Ms (s:Bool) (m:Nat) (e:Int):dn:=fun v w=>∃x,v=.agg #[B s,x,I e]∧bH (lb m) x w
theorem Ms.stable (s:Bool) (m:Nat) (e:Int):bi (Ms s m e):=fun _ _ _ ⟨x,h,k⟩ hx=>⟨x,h,k.ext hx⟩
theorem Ax {w:World} {s:Bool} {q:Nat} {e:Int} {v:Value} (hT:nt w) (hv:bH (lb q) v w) (h0:1≤q) (h:q≤8) (he0: -1048576≤e) (he1:e≤1048570):
 Calls Tryz.prog 336 #[B s,v,I e] w (cA fun r w'=>aH w w'∧gQ (Ms s (q/2^tz q) (e+tz q)) (Is (B true)) r w'):=by
 have hlq:=Nb (mY q) (Nb (jg h) (show bl 8≤4 by decide))
 have hl0:0<(lb q).length:=by
  rcases Np (lb q).length with hz|hz
  ·have:=gl.1 hz
   omega
  ·exact hz
 have hk:=(Aw h0 h).1
 refine enter Tryz.func336 J J J (bc (ce gV J fun g6 w6 l6 x6 k6=>(aa J J (dR (ab J J (aq gM J J ((by have h:=gO (hv.ext x6) (by omega);rw[bk] at h;exact h)) ?_))))))
 rintro v10 w10 ⟨x10,b10⟩
 refine aa J J (aI (aj (bc (ab J J (bn J J (bR MD b10) (ao J J J (be (by omega) aO) (aI (bU J (aA (ah (bc (ab J J (aq B3 J J ((B5 (hT.ext ((x6.trans x10))) b10 h0 h)) ?_)))))))))))))
 rintro v16 _ ⟨rfl,rfl⟩
 refine aa J J (aI (aj (bc (ab J J (ab J J (ao (r:=I (e+(tz q:Int))) J J J (by have e:(e+(tz q:Int):Int)=e+(tz q:Int):=(by omega);rw[e];exact aY) (aa J J (dR (ab J J (ao J J J (be (by omega) aX) (ab J J (an J (ab J J (an J (ao J J J (be (by omega) bo) (aG J J J (aI (bU J (aA (ah (bc (ab J J (ab J J (ab J J (aq GI J J ((GO b10 h0 h)) ?_)))))))))))))))))))))))))
 rintro v30 w30 ⟨x30,b30⟩
 refine ab J J (bV (r:=.agg #[B s,v30,I (e+(tz q:Int))]) J J (by obtain⟨_,_,_,rfl⟩:=b30.isS;exact run_build _ _ _ _ (by kernel_rfl)) (bD J J (k6.ext (x10.trans x30)) J dy (am.cons J (am.cons b30.one (am.cons J am.nil))) fun w8_6 q8_6 k8_6=>?_))
 have x8_6:=aH.of_new (((x6.trans x10).trans x30)) q8_6 l6
 have m8_6:=Kq.of1 (p:=[0,3,2]) (k6.ext (x10.trans x30)) (ac rfl (ac rfl (ac rfl aT))) q8_6
 refine aa J J (aI (aD (bp J (.cell J (k8_6.ld M3 J dy) (.tmp J .nil)) ?_)))
 exact⟨_,J,x8_6,_,_,J,⟨_,J,(b30.kq m8_6)⟩,J⟩
end Go.Rl
namespace Go.Rl
open Go.RowKit Go.Proofs
theorem GP {w:World} {x:Rat} {v:Value} (hv:QV x v w) (hB:bt x≤34359738368):
 Calls Tryz.prog 333 #[v] w (cA fun r w'=>aH w w'∧eW x.sg x.nl r w'):=by
 obtain⟨xa,xb,rfl,ia,ib⟩:=hv
 refine enter (vs:=[.agg #[B x.sg,xa,xb]]) Tryz.func333 J J J (bc (cj J J fun g1 w1 l1 x1 k1=>ce dX J fun g2 w2 l2 x2 k2=>(dR (ak J J ((k1.ext x2).ld MC J ag) (aq fO J J (vu (aU.mk (ia.ext (x1.trans x2)) (ib.ext (x1.trans x2))) (by omega)) ?_)))))
 rintro v5 w5 ⟨x5,⟨x5_0,x5_1,rfl,f5_0,f5_1⟩⟩
 refine ce bv J fun g3 w3 l3 x3 k3=>bD J J k3 J ag (am.cons J (am.cons f5_0.one (am.cons f5_1.one am.nil))) fun w1_3 q1_3 k1_3=>?_
 have x1_3:=aH.of_new (x3) q1_3 l3
 refine dR (af J J (dj) (ak J J (ai MH J (k1_3.cell (i:=0) J)) (af J J (ed) (ak J J (ai MD J (k1_3.cell (i:=1) J)) (bV (r:=.agg #[B x.sg,x5_0]) J J (by obtain⟨_,_,_,rfl⟩:=f5_0.isS;exact run_build _ _ _ _ (by kernel_rfl)) (bD J J (k2.ext (x5.trans x1_3)) J bE (am.cons J (am.cons f5_0.one am.nil)) fun w2_5 q2_5 k2_5=>?_))))))
 have x2_5:=aH.of_new (((x2.trans x5).trans x1_3)) q2_5 l2
 have m2_5:=Kq.of1 (p:=[0,3]) (k2.ext (x5.trans x1_3)) (ac rfl (ac rfl aT)) q2_5
 refine aI (aD (bp J (.cell J (k2_5.ld MR J bE) .nil) ?_))
 exact⟨_,J,(x1.trans x2_5),_,J,((f5_0.ext x1_3).kq m2_5)⟩
theorem GQ {w:World} {x:Rat} {v:Value} (hv:QV x v w) (hB:bt x≤34359738368):
 Calls Tryz.prog 334 #[v] w (cA fun r w'=>aH w w'∧bH (lb x.den) r w'):=by
 obtain⟨xa,xb,rfl,ia,ib⟩:=hv
 have hdl:=zy x
 refine enter (vs:=[.agg #[B x.sg,xa,xb]]) Tryz.func334 J J J (bc (cj J J fun g1 w1 l1 x1 k1=>(aa J J (dR (ak J J (k1.ld MC J ag) (aq fO J J (vu (aU.mk (ia.ext x1) (ib.ext x1)) (by omega)) ?_))))))
 rintro v4 w4 ⟨x4,⟨x4_0,x4_1,rfl,f4_0,f4_1⟩⟩
 refine aq fN J J ((fP (aU.mk f4_0 f4_1) (by omega))) ?_
 rintro v5 w5 ⟨x5,b5⟩
 refine aq gM J J ((by have h:=gO b5 (by have:=EG (m:=x.dl) (k:=34359738368) (by omega) (by omega);omega);rw[CB] at h;exact h)) ?_
 rintro v6 w6 ⟨x6,b6⟩
 refine aa J J (aI (aD (aF J J ?_)))
 exact⟨_,J,(((x1.trans x4).trans x5).trans x6),b6⟩
theorem DW {w:World} {N D:Nat} {v u:Value} (hv:bH (lb N) v w) (hu:bH (lb D) u w) (hN:0<N) (hD:0<D) (hBN:bl N≤2400000000) (hBD:bl D≤2400000000):
 Calls Tryz.prog 335 #[v,u] w (cA fun r w'=>aH w w'∧∃(k:Int) (ok:Bool),gQ (Is (I k)) (Is (B ok)) r w'∧(ok=true→Lg N D k∧ -1000000≤k∧k<1000000)):=by
 have hlN:=mY N
 have hlD:=mY D
 have hpN:=ol hN
 have hpD:=ol hD
 obtain⟨k,hk⟩:∃k:Int,k=(bl N:Int)-bl D:=⟨_,rfl⟩
 obtain⟨n1,n2⟩:=mX hN
 obtain⟨d1,d2⟩:=mX hD
 have hlg:=Mq (n:=bl N-1) (d:=bl D-1) n1 (by rw[Nat.sub_add_cancel hpN];exact n2) d1 (by rw[Nat.sub_add_cancel hpD];exact d2) (k:=k) (by omega)
 refine enter Tryz.func335 J J J (bc (aa J J (aa J J (dR (ab J J (aq oo J J ((by have h:=ov hv (by omega);rw[bk] at h;exact h)) ?_))))))
 rintro v10 _ ⟨rfl,rfl⟩
 refine ab J J (aq oo J J ((by have h:=ov hu (by omega);rw[bk] at h;exact h)) ?_)
 rintro v12 _ ⟨rfl,rfl⟩
 refine ao (r:=I k) J J J ((by rw[hk];exact bT)) (aa J J (aI (aj (aj ?_))))
 rcases(show k>1000001∨k< -1000001∨(-1000001≤k∧k≤1000001) by omega) with hA|hA|⟨hA,hZ⟩
 ·refine ae (ab J J (ao J J J (bF (by omega) bo) (ab J J (bf J J J (bf J J J (aR J J J (aI (cg J ?_))))))))
  refine bc (aa J J (aa J J (aI (aD (a0 (dW J J J ?_))))))
  exact⟨_,J,aH.refl _,0,false,⟨_,_,J,J,J⟩,fun h=>by simp at h⟩
 ·refine ae (ab J J (ao J J J (be (by omega) bo) (ab J J (an J (ab J J (an J (ao J J J (bF (by omega) aX) ?_)))))))
  refine aG J J J (aI (cg J (bc (aa J J (aa J J (aI (aD (a0 (dW J J J ?_)))))))))
  exact⟨_,J,aH.refl _,0,false,⟨_,_,J,J,J⟩,fun h=>by simp at h⟩
 ·refine ae (ab J J (ao J J J (be (by omega) bo) (ab J J (an J (ab J J (an J (ao J J J (be (by omega) aX) ?_)))))))
  refine aG J J J (aI (bU J (aA (ah (bc (ab J J (ab J J (aa J J (aa J J (aI (aj (i3 (fun p:Value×Value=>[(6,I k),(7,p.1),(8,p.2)]) (fun p w'=>aH w w'∧bH (lb (N*2^(-k).toNat)) p.1 w'∧bH (lb (D*2^k.toNat)) p.2 w') ?_ ?_))))))))))))
  ·refine bc (ab J J (ao J J J (cz) (aI ?_)))
   refine ci J (fun h23=>?_) (fun h23=>?_)
   ·obtain⟨n,hn⟩:∃n:Nat,k=n:=⟨k.toNat,by omega⟩
    have hz1:(-k).toNat=0:=by omega
    have hz2:k.toNat=n:=by omega
    refine ae (ab J J (ab J J (aq lU J J ((by have h:=lV (k:=n) hu (by omega) (by omega);rw[←hn] at h;exact h)) ?_)))
    rintro v26 w26 ⟨x26,b26⟩
    refine aa J J (ar ?_)
    exact cW (_,_) ⟨J,J,J,trivial⟩ ⟨x26,by rw[hz1,Nat.pow_zero,Nat.mul_one];exact(hv.ext x26),by rw[hz2];exact b26⟩
   ·obtain⟨n,hn⟩:∃n:Nat,-k=n:=⟨(-k).toNat,by omega⟩
    have hz1:(-k).toNat=n:=by omega
    have hz2:k.toNat=0:=by omega
    refine ae (ab J J (ab J J (cC J J ((y9 (by omega) (by omega))) (aq lU J J ((by have h:=lV (k:=n) hv (by omega) (by omega);rw[←hn] at h;exact h)) ?_))))
    rintro v30 w30 ⟨x30,b30⟩
    refine aa J J (ar ?_)
    exact cW (_,_) ⟨J,J,J,trivial⟩ ⟨x30,by rw[hz1];exact b30,by rw[hz2,Nat.pow_zero,Nat.mul_one];exact(hu.ext x30)⟩
  rintro⟨ca,cb⟩ wC ⟨eC,hCa,hCb⟩
  refine ah (aj (i3 (fun p:Int=>[(6,I p)]) (fun p w'=>aH w w'∧Lg N D p∧ -1000002≤p∧p≤1000001) ?_ ?_))
  ·refine bc (ab J J (ab J J (aq jr J J ((by have h:=js hCa hCb;rw[bk,bk] at h;exact h)) ?_)))
   rintro v33 w33 ⟨x33,rfl⟩
   refine ao J J J (aX) (aI (ci J (fun h34=>?_) (fun h34=>?_)))
   ·have hlt:N*2^(-k).toNat<D*2^k.toNat:=by
     have:=h34
     unfold pn at this
     split at this<;>(try split at this)<;>omega
    refine ae (ab J J (ao (r:=I (k-1)) J J J (by have e:(k-1:Int)=k-1:=(by omega);rw[e];exact bT) (aa J J (ar ?_))))
    exact cW (k-1) ⟨J,trivial⟩ ⟨(eC.trans x33),hlg.1 hlt,by omega,by omega⟩
   ·have hlt:¬N*2^(-k).toNat<D*2^k.toNat:=fun hc=>h34 (by unfold pn;rw[if_pos hc];omega)
    refine aA ?_
    exact cW (k) ⟨J,trivial⟩ ⟨(eC.trans x33),hlg.2 hlt,by omega,by omega⟩
  rintro p wD ⟨eD,hD1,hD2,hD3⟩
  refine ah (aj ?_)
  rcases(show p< -1000000∨(-1000000≤p∧p<1000000)∨1000000≤p by omega) with hA|⟨hA,hB⟩|hA
  ·refine ae (ab J J (ab J J (ao J J J (be (by omega) cz) (ab J J (bf J J J (bf J J J (aG J J J (aa J J ?_))))))))
   refine aa J J (aI (aD (dW J J J ?_)))
   exact⟨_,J,eD,p,false,⟨_,_,J,J,J⟩,fun h=>by simp at h⟩
  ·refine ae (ab J J (ab J J (ao J J J (bF (by omega) cz) (ab J J (an J (ab J J (an J (ao J J J (bF (by omega) aX) ?_))))))))
   refine aR J J J (aa J J (aa J J (aI (aD (dW J J J ?_)))))
   exact⟨_,J,eD,p,true,⟨_,_,J,J,J⟩,fun _=>⟨hD1,hA,hB⟩⟩
  ·refine ae (ab J J (ab J J (ao J J J (bF (by omega) cz) (ab J J (an J (ab J J (an J (ao J J J (be (by omega) aX) ?_))))))))
   refine aR J J J (aa J J (aa J J (aI (aD (dW J J J ?_)))))
   exact⟨_,J,eD,p,false,⟨_,_,J,J,J⟩,fun h=>by simp at h⟩
end Go.Rl
namespace Go.Rl
open Go.RowKit Go.Proofs
def KM (x:Rat) (aw:Bool) (y:Rat):Prop:=(aw=x.sg→y≤x)∧(aw≠x.sg→x≤y)∧(x=0→y=x)
def Mt (x:Rat) (aw:Bool):dn:=fun r w=>∃(e:Int) (s:Bool) (m:Nat) (ex:Int),gQ (Ms s m ex) (Is (I e)) r w∧(e=0→KM x aw (td s m ex)∧bt (td s m ex)≤bt x+20∧ -1048576≤ex∧ex≤1048576∧m≤8)
theorem B6 (x:Rat):fC x.sg x.num.natAbs=x.num:=by
 unfold fC Rat.sg
 by_cases hx:x.num<0
 ·rw[if_pos (by simpa using hx)];omega
 ·rw[if_neg (by simpa using hx)];omega
theorem Ka (x:Rat):fC x.sg (val x.nl)=x.num:=by
 have h:val x.nl=x.num.natAbs:=bk _
 rw[h,B6]
theorem E6 (x:Rat):mkRat (fC x.sg x.num.natAbs) x.den=x:=by rw[B6,Rat.mkRat_self]
theorem Kb {z:Int} (h:kO z=0):z=0:=by
 unfold kO at h
 split at h
 ·omega
 ·split at h<;>omega
theorem Mu {N D:Nat} {k:Int} (h:Lg N D k) (hN:0<N) (hD:0<D):k.natAbs≤max (bl N) (bl D)+1:=by
 obtain⟨h1,h2⟩:=h
 have a1:=uk N
 have a2:=uk D
 by_cases hk:0≤k
 ·have e:(-k).toNat=0:=by omega
  rw[e,Nat.pow_zero,Nat.mul_one] at h1
  have h3:2^k.toNat≤D*2^k.toNat:=Nat.le_mul_of_pos_left _ hD
  have h4:k.toNat<bl N:=(Nat.pow_lt_pow_iff_right (show 1<2 by omega)).1 (by omega)
  omega
 ·have e:k.toNat=0:=by omega
  rw[e,Nat.zero_add,Nat.pow_one] at h2
  have h3:2^(-k).toNat≤N*2^(-k).toNat:=Nat.le_mul_of_pos_left _ hN
  have h5:D*2<2^(bl D+1):=by rw[Nat.pow_succ];omega
  have h4:(-k).toNat<bl D+1:=(Nat.pow_lt_pow_iff_right (show 1<2 by omega)).1 (by omega)
  omega
theorem I7:td false 0 0=0:=by decide
theorem LO {x:Rat} {q:Nat} {e:Int} (h0:x≠0) (h:q*(x.den*2^e.toNat)≤x.num.natAbs*2^(-e).toNat):KM x false (td x.sg q e):=by
 have h1:=Mp (s:=x.sg) x.den_pos h
 rw[E6] at h1
 unfold KM
 cases hs:x.sg
 ·rw[hs] at h1
  exact⟨fun _=>by simpa using h1,fun hc=>absurd J hc,fun h=>absurd h h0⟩
 ·rw[hs] at h1
  exact⟨fun hc=>by simp at hc,fun _=>by simpa using h1,fun h=>absurd h h0⟩
theorem E7 {x:Rat} {q:Nat} {e:Int} (h0:x≠0) (h:x.num.natAbs*2^(-e).toNat≤q*(x.den*2^e.toNat)):KM x true (td x.sg q e):=by
 have h1:=LL (s:=x.sg) x.den_pos h
 rw[E6] at h1
 unfold KM
 cases hs:x.sg
 ·rw[hs] at h1
  exact⟨fun hc=>by simp at hc,fun _=>by simpa using h1,fun h=>absurd h h0⟩
 ·rw[hs] at h1
  exact⟨fun _=>by simpa using h1,fun hc=>absurd J hc,fun h=>absurd h h0⟩
theorem GR {w:World} {a b:Nat} {v u:Value} (hv:bH (lb a) v w) (hu:bH (lb b) u w) (hl:bl a≤17179869184) (hml:bl b≤17179869184) (hm:0<b):
 Calls Tryz.prog 284 #[v,u] w (cA fun r w'=>aH w w'∧j1 (bH (lb (a/b))) (bH (lb (a%b))) (Is (I 0)) r w'):=
 cA.mono (jK hv hu (Nat.le_trans (mY a) (by omega)) (Nat.le_trans (mY b) (by omega)) (by rw[bk];exact hm)) fun _ _ ⟨e,q,s,h,k1,k2⟩=>⟨e,q,s,_,h,by rw[bk,bk] at k1;exact k1,by rw[bk,bk] at k2;exact k2,rfl⟩
theorem uS {w:World} {x:Rat} {b:Nat} {aw:Bool} {v:Value} (hT:nt w) (hv:QV x v w) (h1:1≤b) (h3:b≤3) (hB:bt x≤2400000000):
 Calls Tryz.prog 292 #[v,I (b:Int),B aw] w (cA fun r w'=>aH w w'∧Mt x aw r w'):=by
 obtain⟨xa,xb,rfl,ia,ib⟩:=hv
 have hbn:=rV x
 have hbd:=rW x
 have hnl:=zx x
 have hdp:=x.den_pos
 refine enter (vs:=[.agg #[B x.sg,xa,xb],I (b:Int),B aw]) Tryz.func292 J J J (bc (cj J J fun g3 w3 l3 x3 k3=>ce gV J fun g6 w6 l6 x6 k6=>(aa J J (aI (aj (bc (ab J J (ao J J J (be (by omega) aX) (ab J J (an J (ab J J (an J (ao J J J (be (by omega) bo) (aG J J J (aI (bU J (aA (ah (aj (bj 5 [1,2,6,8,28,30] (by kernel_rfl) (by kernel_rfl) ?_))))))))))))))))))))
 have e2:=x3.trans x6
 refine ap J J (fun w hw=>((k3.ext x6).ext hw).ld MC J ag) (es (S:=eW x.sg (x.nl)) GJ (eW.stable _ _) J J (fun w hw=>GP ((aU.mk (ia.ext e2) (ib.ext e2)).ext hw) (by omega)) (ap J J (fun w hw=>((k3.ext x6).ext hw).ld MC J ag) (es (S:=bH (lb x.den)) GK (bH.stable _) J J (fun w hw=>GQ ((aU.mk (ia.ext e2) (ib.ext e2)).ext hw) (by omega)) (tL (b:=w6.heap.size) (A9.stable _ _ _) dX J (fun w hw=>hw.size) (bA ?_)))))
 rintro wg3 xg3 _ rfl _ rfl _ rfl _ ⟨g8,rfl,l8,k8⟩ _ ⟨x28_0,rfl,f28_0⟩ vg30 b30
 refine bD J J k8 J bE (am.cons J (am.cons f28_0.one am.nil)) fun w3_5 q3_5 k3_5=>?_
 have x3_5:=aH.of_new (xg3) q3_5 l8
 have m3_5:=Kq.of1 (p:=[0,3]) k8 (ac rfl (ac rfl aT)) q3_5
 refine aa J J (aI (aj (bc (ak J J (k3_5.ld MR J bE) (aq oI J J ((by have h:=oK (s:=x.sg) (eW.mk (f28_0.kq m3_5)) (by omega);rw[Ka] at h;exact h)) ?_)))))
 rintro v32 w32 ⟨x32,rfl⟩
 refine ao J J J (aO) (aI (ci J (fun h33=>?_) (fun h33=>?_)))
 ·have hx0:x=0:=Rat.num_eq_zero.1 (Kb h33)
  refine bc (bV (r:=.agg #[B false,.slice none 0 0,I 0]) J J (by exact run_build _ _ _ _ (by kernel_rfl)) (bD J J (k6.ext (x3_5.trans x32)) J dy (am.cons J (am.cons J (am.cons J am.nil))) fun w5_1 q5_1 k5_1=>?_))
  have x5_1:=aH.of_new (((x6.trans x3_5).trans x32)) q5_1 l6
  refine aa J J (aI (aD (a0 (bp J (.cell J (k5_1.ld M3 J dy) (.tmp J .nil)) ?_))))
  exact⟨_,J,(x3.trans x5_1),0,false,0,0,⟨_,_,J,⟨_,J,bH.nil _⟩,J⟩,fun _=>by
   rw[I7,hx0]
   exact⟨⟨fun _=>Rat.le_refl,fun _=>Rat.le_refl,fun _=>rfl⟩,by omega,by omega,by omega,by omega⟩⟩
 ·have hx1:x≠0:=fun e=>h33 (by rw[e];rfl)
  have hN:0<x.num.natAbs:=by
   have:x.num≠0:=fun e=>h33 (by rw[e];rfl)
   omega
  refine aA (ah (bc (af J J (cc) (ak J J (ai MD J (x32.cell_some (k3_5.cell (i:=1) J))) (ab J J (aq DU J J ((DW (N:=x.num.natAbs) (D:=x.den) ((f28_0.kq m3_5).ext x32) ((b30.kq m3_5).ext x32) hN hdp (by omega) (by omega))) ?_))))))
  rintro v39 w39 ⟨x39,k,ok,⟨_,_,rfl,rfl,rfl⟩,hok⟩
  refine ab J J (aB J J (cY) (aB J J (cZ) (aa J J (aa J J (aI (aj (aj ?_)))))))
  rcases ok with _|_
  ·refine ae (ab J J (cC J J cn (aI (cg J (bc (bV (r:=.agg #[B false,.slice none 0 0,I 0]) J J (by exact run_build _ _ _ _ (by kernel_rfl)) ?_))))))
   refine bD J J (k6.ext ((x3_5.trans x32).trans x39)) J dy (am.cons J (am.cons J (am.cons J am.nil))) fun w8_1 q8_1 k8_1=>?_
   have x8_1:=aH.of_new ((((x6.trans x3_5).trans x32).trans x39)) q8_1 l6
   refine aa J J (aI (aD (a0 (bp J (.cell J (k8_1.ld M3 J dy) (.tmp J .nil)) ?_))))
   exact⟨_,J,(x3.trans x8_1),2,false,0,0,⟨_,_,J,⟨_,J,bH.nil _⟩,J⟩,fun h=>by omega⟩
  ·obtain⟨hLg,hk0,hk1⟩:=hok rfl
   obtain⟨E,hE⟩:∃E:Int,E=k-b+1:=⟨_,rfl⟩
   have hkx:=Mu hLg hN hdp
   have hq0:=J9 (b:=b) hdp (by omega) hLg
   rw[←hE] at hq0
   have hb8:2^b≤8:=Nj (n:=2) (by omega) h3
   obtain⟨Nn,hNn⟩:∃n,n=x.num.natAbs*2^(-E).toNat:=⟨_,rfl⟩
   obtain⟨Dd,hDd⟩:∃n,n=x.den*2^E.toNat:=⟨_,rfl⟩
   rw[←hNn,←hDd] at hq0
   have hDp:0<Dd:=by rw[hDd];exact Nat.mul_pos hdp (Nat.pow_pos (by omega))
   have hNb:bl Nn≤2500000000:=by rw[hNn];have a1:=oA x.num.natAbs (2^(-E).toNat);have a2:=ue (-E).toNat;omega
   have hDb:bl Dd≤2500000000:=by rw[hDd];have a1:=oA x.den (2^E.toNat);have a2:=ue E.toNat;omega
   refine ae (ab J J (cC J J cn (aI (bU J (aA (ah (bc (ab J J (ab J J (ao (r:=I (k-(b:Int))) J J J (by have e:(k-(b:Int):Int)=k-(b:Int):=(by omega);rw[e];exact bT) (ao (r:=I E) J J J ((by rw[hE];exact aY)) (aa J J (dR (af J J (cc) (ak J J (ai MD J ((x32.trans x39).cell_some (k3_5.cell (i:=1) J))) (ab J J (aa J J (aa J J (aI (aj (i3 (fun p:Value×Value=>[(2,B aw),(6,.pointer (some ⟨g6,0,none⟩)),(8,.pointer (some ⟨g8,0,none⟩)),(12,I E),(13,p.1),(14,p.2)]) (fun p w'=>aH w39 w'∧bH (lb Nn) p.1 w'∧bH (lb Dd) p.2 w') ?_ ?_)))))))))))))))))))))
   ·refine bc (ab J J (ao J J J (cz) (aI ?_)))
    refine ci J (fun h53=>?_) (fun h53=>?_)
    ·obtain⟨n,hn⟩:∃n:Nat,E=n:=⟨E.toNat,by omega⟩
     have hz1:(-E).toNat=0:=by omega
     have hz2:E.toNat=n:=by omega
     refine ae (ab J J (ab J J (aq lU J J ((by have h:=lV (m:=x.den) (k:=n) ((b30.kq m3_5).ext (x32.trans x39)) (by omega) (by omega);rw[←hn] at h;exact h)) ?_)))
     rintro v56 w56 ⟨x56,b56⟩
     refine aa J J (ar ?_)
     exact cW (_,_) ⟨J,J,J,J,J,J,trivial⟩ ⟨x56,by rw[hNn,hz1,Nat.pow_zero,Nat.mul_one];exact((f28_0.kq m3_5).ext ((x32.trans x39).trans x56)),by rw[hDd,hz2];exact b56⟩
    ·obtain⟨n,hn⟩:∃n:Nat,-E=n:=⟨(-E).toNat,by omega⟩
     have hz1:(-E).toNat=n:=by omega
     have hz2:E.toNat=0:=by omega
     refine ae (af J J (cc) (ak J J (ai MD J ((x32.trans x39).cell_some (k3_5.cell (i:=1) J))) (ab J J (cC J J ((y9 (by omega) (by omega))) (aq lU J J ((by have h:=lV (m:=x.num.natAbs) (k:=n) ((f28_0.kq m3_5).ext (x32.trans x39)) (by omega) (by omega);rw[←hn] at h;exact h)) ?_)))))
     rintro v61 w61 ⟨x61,b61⟩
     refine aa J J (ar ?_)
     exact cW (_,_) ⟨J,J,J,J,J,J,trivial⟩ ⟨x61,by rw[hNn,hz1];exact b61,by rw[hDd,hz2,Nat.pow_zero,Nat.mul_one];exact((b30.kq m3_5).ext ((x32.trans x39).trans x61))⟩
   rintro⟨ca,cb⟩ wC ⟨eC,hCa,hCb⟩
   refine ah (bc (ab J J (ab J J (aq jJ J J ((GR hCa hCb (by omega) (by omega) hDp)) ?_))))
   rintro v65 w65 ⟨x65,⟨u65_a,u65_b,_,rfl,b65_a,b65_b,rfl⟩⟩
   refine ab J J (aB J J ey (aB J J ez (aB J J eF (aa J J (aa J J (aa J J (aI (aj (i3 (fun p:Nat×Value=>[(6,.pointer (some ⟨g6,0,none⟩)),(8,.pointer (some ⟨g8,0,none⟩)),(12,I E),(15,p.2)]) (fun p w'=>aH w39 w'∧bH (lb p.1) p.2 w'∧1≤p.1∧p.1≤8∧KM x aw (td x.sg p.1 E)) ?_ ?_)))))))))
   ·refine aj ?_
    have hmd:=Nat.div_add_mod Nn Dd
    have hml:=Nat.mod_lt Nn hDp
    rcases(show aw=false∨(aw=true∧Nn%Dd=0)∨(aw=true∧0<Nn%Dd) by cases aw<;>simp;omega) with rfl|⟨rfl,hr⟩|⟨rfl,hr⟩
    ·refine ae (ab J J (ab J J (bf J J J (bf J J J (bf J J J (aG J J J (aI (bU J (aA ?_)))))))))
     exact cW (Nn/Dd,_) ⟨J,J,J,J,trivial⟩ ⟨(eC.trans x65),b65_a,hq0.1,by omega,LO (x:=x) (q:=Nn/Dd) hx1 (by rw[←hNn,←hDd,Nat.mul_comm];omega)⟩
    ·have hlr:(lb (Nn%Dd)).length=0:=by rw[hr];rfl
     refine ae (ab J J (ab J J (an J (ab J J (an J (bn J J (bR MD b65_b) (an J (ao J J J (be (by omega) bo) (aR J J J (aI (bU J (aA ?_))))))))))))
     exact cW (Nn/Dd,_) ⟨J,J,J,J,trivial⟩ ⟨(eC.trans x65),b65_a,hq0.1,by omega,E7 (x:=x) (q:=Nn/Dd) hx1 (by rw[←hNn,←hDd,Nat.mul_comm];omega)⟩
    ·have hlr:0<(lb (Nn%Dd)).length:=Nat.pos_of_ne_zero fun h=>by have:=gl.1 h;omega
     have hl1:(lb (Nn/Dd)).length≤1099511627776:=by have a1:=mY (Nn/Dd);have a2:=jg (show Nn/Dd≤8 by omega);have a3:bl 8≤4:=by decide
                                                    omega
     have hl2:(lb 1).length≤1099511627776:=by have a1:=mY 1;have a3:bl 1≤1:=by decide
                                              omega
     refine ae (ab J J (ab J J (an J (ab J J (an J (bn J J (bR MD b65_b) (an J (ao J J J (bF (by omega) bo) (aR J J J (aI (cg J (ae (ab J J (aq nB J J ((nD (x:=1))) ?_))))))))))))))
     rintro v76 w76 ⟨x76,b76⟩
     refine aq yk J J ((by have h:=ym (b65_a.ext x76) b76 hl1 hl2;rw[bk,bk] at h;exact h)) ?_
     rintro v77 w77 ⟨x77,b77⟩
     refine aa J J (ar ?_)
     exact cW (Nn/Dd+1,_) ⟨J,J,J,J,trivial⟩ ⟨(((eC.trans x65).trans x76).trans x77),b77,by omega,by omega,E7 (x:=x) (q:=Nn/Dd+1) hx1 (by rw[←hNn,←hDd,Nat.mul_comm,Nat.mul_add];omega)⟩
   rintro⟨q,cq⟩ wD ⟨eD,hq,hq1,hq8,hro⟩
   refine ah (bc (af J J (cS) (ak J J (ai MH J (((x32.trans x39).trans eD).cell_some (k3_5.cell (i:=0) J))) (ab J J (ab J J (aq Av J J ((Ax (hT.ext ((((((x3.trans x6).trans x3_5).trans x32).trans x39).trans eD))) hq hq1 hq8 (by omega) (by omega))) ?_))))))
   rintro v83 w83 ⟨x83,⟨_,_,rfl,⟨x83_a_0,rfl,f83_a_0⟩,rfl⟩⟩
   refine ab J J (aB J J cY (aB J J cZ (ce gV J fun g18 w18 l18 x18 k18=>bD J J k18 J dy (am.cons J (am.cons f83_a_0.one (am.cons J am.nil))) fun w17_9 q17_9 k17_9=>?_)))
   have x17_9:=aH.of_new (x18) q17_9 l18
   refine aa J J (dR (ak J J (k17_9.ld M3 J dy) ?_))
   have e1:=((((x3_5.trans x32).trans x39).trans eD).trans x83).trans x17_9
   refine bD J J (k6.ext e1) J dy (am.cons J (am.cons f83_a_0.one (am.cons J am.nil))) fun w18_1 q18_1 k18_1=>?_
   have x18_1:=aH.of_new (((((((x6.trans x3_5).trans x32).trans x39).trans eD).trans x83).trans x17_9)) q18_1 l6
   have m18_1:=Kq.of1 (p:=[0,3,2]) (k6.ext e1) (ac rfl (ac rfl (ac rfl aT))) q18_1
   refine aa J J (aI (aD (bp J (.cell J (k18_1.ld M3 J dy) (.tmp J .nil)) ?_)))
   have htz:=Aw (q:=q) hq1 hq8
   have hy:td x.sg (q/2^tz q) (E+tz q)=td x.sg q E:=by rw[←GG,htz.2]
   refine⟨_,J,(x3.trans x18_1),0,x.sg,q/2^tz q,E+tz q,⟨_,_,J,⟨_,J,((f83_a_0.ext x17_9).kq m18_1)⟩,J⟩,fun _=>?_⟩
   rw[hy]
   have hbd2:=Mr (s:=x.sg) (q:=q) (e:=E) hq8
   exact⟨hro,by omega,by omega,by omega,Nb (Nat.div_le_self _ _) hq8⟩
end Go.Rl
namespace Go.Rl
open Go.RowKit Go.Proofs
theorem Mt.stable (x:Rat) (aw:Bool):bi (Mt x aw):=fun _ _ _ ⟨e,s,m,ex,⟨a,b,h1,⟨y,h2,h3⟩,h4⟩,h5⟩ hx=>⟨e,s,m,ex,⟨a,b,h1,⟨y,h2,h3.ext hx⟩,h4⟩,h5⟩
theorem DX {w:World} {x:Rat} {b:Nat} {v:Value} (hT:nt w) (hv:QV x v w) (h1:1≤b) (h3:b≤3) (hB:bt x≤2400000000):
 Calls Tryz.prog 216 #[v,I (b:Int)] w (cA fun r w'=>aH w w'∧Mt x (decide (x<0)) r w'):=by
 obtain⟨xa,xb,rfl,ia,ib⟩:=hv
 refine enter (vs:=[.agg #[B x.sg,xa,xb],I (b:Int)]) Tryz.func216 J J J (bc (cj J J fun g2 w2 l2 x2 k2=>ce gV J fun g4 w4 l4 x4 k4=>(aa J J (aI (aj (m5 5 [(8,7),(7,6)] [5,6,7,8,9] [4,6,7,10] (by kernel_rfl) (by kernel_rfl) (by kernel_rfl) J (ap J J (fun w hw=>((k2.ext x4).ext hw).ld MC J ag) (ax J J (ap J J (fun w hw=>((k2.ext x4).ext hw).ld MC J ag) (es (S:=Is (I (gx x))) cw (bi.is _) J J (fun w hw=>ek ((aU.mk (ia.ext (x2.trans x4)) (ib.ext (x2.trans x4))).ext hw) (by omega)) (bC (r:=B (decide (x<0))) J J J (fun w _=>(by rw[←show decide (gx x<0)=decide (x<0) from decide_eq_decide.2 kR];exact aX)) (bA ?_))))))))))))
 rintro wg1 xg1 _ rfl _ rfl _ rfl _ rfl
 have e1:=(x2.trans x4).trans xg1
 refine aq uR J J ((uS (hT.ext (e1)) (aU.mk (ia.ext e1) (ib.ext e1)) h1 h3 hB)) ?_
 rintro v11 w11 ⟨x11,e,s,m,ex,⟨d11,_,rfl,⟨y,rfl,f11⟩,rfl⟩,hro⟩
 refine aB J J (cY) (aB J J (cZ) (bD J J (k4.ext (xg1.trans x11)) J dy (am.cons J (am.cons f11.one (am.cons J am.nil))) fun w1_8 q1_8 k1_8=>?_))
 have x1_8:=aH.of_new (((x4.trans xg1).trans x11)) q1_8 l4
 have m1_8:=Kq.of1 (p:=[0,3,2]) (k4.ext (xg1.trans x11)) (ac rfl (ac rfl (ac rfl aT))) q1_8
 refine aa J J (ar (pO (ah (aD (bp J (.cell J (k1_8.ld M3 J dy) (.tmp J .nil)) ?_)))))
 exact⟨_,J,(x2.trans x1_8),e,s,m,ex,⟨_,_,J,⟨_,J,(f11.kq m1_8)⟩,J⟩,hro⟩
theorem I8 {w:World} {x:Rat} {b:Nat} {v:Value} (hT:nt w) (hv:QV x v w) (h1:1≤b) (h3:b≤3) (hB:bt x≤2400000000):
 Calls Tryz.prog 217 #[v,I (b:Int)] w (cA fun r w'=>aH w w'∧Mt x (decide (0<x)) r w'):=by
 obtain⟨xa,xb,rfl,ia,ib⟩:=hv
 refine enter (vs:=[.agg #[B x.sg,xa,xb],I (b:Int)]) Tryz.func217 J J J (bc (cj J J fun g2 w2 l2 x2 k2=>ce gV J fun g4 w4 l4 x4 k4=>(aa J J (aI (aj (m5 5 [(8,7),(7,6)] [5,6,7,8,9] [4,6,7,10] (by kernel_rfl) (by kernel_rfl) (by kernel_rfl) J (ap J J (fun w hw=>((k2.ext x4).ext hw).ld MC J ag) (ax J J (ap J J (fun w hw=>((k2.ext x4).ext hw).ld MC J ag) (es (S:=Is (I (gx x))) cw (bi.is _) J J (fun w hw=>ek ((aU.mk (ia.ext (x2.trans x4)) (ib.ext (x2.trans x4))).ext hw) (by omega)) (bC (r:=B (decide (0<x))) J J J (fun w _=>(by rw[←show decide (gx x>0)=decide (0<x) from decide_eq_decide.2 iR];exact bo)) (bA ?_))))))))))))
 rintro wg1 xg1 _ rfl _ rfl _ rfl _ rfl
 have e1:=(x2.trans x4).trans xg1
 refine aq uR J J ((uS (hT.ext (e1)) (aU.mk (ia.ext e1) (ib.ext e1)) h1 h3 hB)) ?_
 rintro v11 w11 ⟨x11,e,s,m,ex,⟨d11,_,rfl,⟨y,rfl,f11⟩,rfl⟩,hro⟩
 refine aB J J (cY) (aB J J (cZ) (bD J J (k4.ext (xg1.trans x11)) J dy (am.cons J (am.cons f11.one (am.cons J am.nil))) fun w1_8 q1_8 k1_8=>?_))
 have x1_8:=aH.of_new (((x4.trans xg1).trans x11)) q1_8 l4
 have m1_8:=Kq.of1 (p:=[0,3,2]) (k4.ext (xg1.trans x11)) (ac rfl (ac rfl (ac rfl aT))) q1_8
 refine aa J J (ar (pO (ah (aD (bp J (.cell J (k1_8.ld M3 J dy) (.tmp J .nil)) ?_)))))
 exact⟨_,J,(x2.trans x1_8),e,s,m,ex,⟨_,_,J,⟨_,J,(f11.kq m1_8)⟩,J⟩,hro⟩
theorem yU {w:World} {s:Bool} {m:Nat} {e:Int} {v:Value} (hv:Ms s m e v w) (hm:m≤8) (h0: -1048576≤e) (h1:e≤1048576):
 Calls Tryz.prog 218 #[v] w (cA fun r w'=>aH w w'∧QV (td s m e) r w'):=by
 obtain⟨xa,rfl,ia⟩:=hv
 refine enter (vs:=[.agg #[B s,xa,I e]]) Tryz.func218 J J J (bc (cj J J fun g1 w1 l1 x1 k1=>ce bv J fun g2 w2 l2 x2 k2=>(aI (aj (bc (af J J (lg) (ak J J (ai ME J (x2.cell_some (k1.cell (i:=2) J))) (ao J J J (cz) (aI (ci J (fun h5=>?_) (fun h5=>?_)))))))))))
 ·obtain⟨n,rfl⟩:∃n:Nat,e=n:=⟨e.toNat,by omega⟩
  have hv2:qr (s,lb (m*2^n),[])=td s m n:=by
   unfold qr rq td
   simp only
   rw[bk,Int.toNat_natCast,show(-(n:Int)).toNat=0 by omega,show val (ud [])=1 from rfl,Nat.pow_zero]
  have hln:(lb (m*2^n)).length≤137438953472:=by
   have a1:=mY (m*2^n)
   have a2:=oA m (2^n)
   have a3:=ue n
   have a4:=jg hm
   have a5:bl 8≤4:=by decide
   omega
  refine aj (bj 9 [2,14] (by kernel_rfl) (by kernel_rfl) (al J J (fun w hw=>ph) (ap J J (fun w hw=>ai MH J (hw.cell_some (x2.cell_some (k1.cell (i:=0) J)))) (al J J (fun w hw=>pi) (ap J J (fun w hw=>ai MD J (hw.cell_some (x2.cell_some (k1.cell (i:=1) J)))) (al J J (fun w hw=>lg) (ap J J (fun w hw=>ai ME J (hw.cell_some (x2.cell_some (k1.cell (i:=2) J)))) (ec (S:=bH (lb (m*2^n))) lU (bH.stable _) J J J (fun w hw=>lV (m:=m) (k:=n) ((ia.ext (x1.trans x2)).ext hw) (by have:=jg hm;have a5:bl 8≤4:=(by decide);omega) (by omega)) (et (S:=fun v w=>∃y13_1_0:Value,v=.agg #[B s,y13_1_0,.slice none 0 0]∧bH (lb (m*2^n)) y13_1_0 w) (fun _ _ _ ⟨_,e,g0⟩ hx=>⟨_,e,g0.ext hx⟩) J (fun w hw=>by rintro _ rfl v12 h12;have k13_1_0:=h12;obtain⟨_,_,_,rfl⟩:=k13_1_0.isS;exact⟨_,w,run_build _ _ _ _ (by kernel_rfl),aH.refl _,_,J,k13_1_0⟩) ?_)))))))))
  refine bZ (S:=QV (td s m n)) fO (QV.stable _) J (fun w hw=>by rintro v13 h13;exact(by have h:=nJ (a:=(s,lb (m*2^n),[])) (v:=v13) (w:=w) (by obtain⟨y,rfl,k⟩:=h13;exact aU.mk k (bH.nil _)) ⟨hln,by simp⟩;rw[hv2] at h;exact h)) (bA ?_)
  rintro wg2 xg2 _ rfl _ ⟨x14_0,x14_1,rfl,f14_0,f14_1⟩
  refine bD J J (k2.ext xg2) J ag (am.cons J (am.cons f14_0.one (am.cons f14_1.one am.nil))) fun w2_9 q2_9 k2_9=>?_
  have x2_9:=aH.of_new ((x2.trans xg2)) q2_9 l2
  have m2_9:=Kq.of1 (p:=[0,3,3]) (k2.ext xg2) (ac rfl (ac rfl (ac rfl aT))) q2_9
  refine aI (aD (a0 (bp J (.cell J (k2_9.ld MC J ag) .nil) ?_)))
  exact⟨_,J,(x1.trans x2_9),aU.mk (f14_0.kq m2_9) (f14_1.kq m2_9)⟩
 ·obtain⟨n,rfl⟩:∃n:Nat,e= -(n:Int):=⟨(-e).toNat,by omega⟩
  have hv2:qr (s,lb m,lb (1*2^n))=td s m (-(n:Int)):=by
   unfold qr rq td
   simp only
   rw[bk,Int.neg_neg,Int.toNat_natCast,show(-(n:Int)).toNat=0 by omega,Nat.pow_zero,Nat.mul_one,rU,bk,Nat.one_mul,if_neg (Nat.pos_iff_ne_zero.1 (Nat.pow_pos (by omega)))]
  have hln:(lb m).length≤137438953472:=by
   have a1:=mY m
   have a4:=jg hm
   have a5:bl 8≤4:=by decide
   omega
  have hld:(lb (1*2^n)).length≤137438953472:=by
   have a1:=mY (1*2^n)
   have a3:=ue n
   rw[Nat.one_mul] at a1⊢
   omega
  refine aA (ah (aj (bj 11 [2,25] (by kernel_rfl) (by kernel_rfl) (al J J (fun w hw=>ph) (ap J J (fun w hw=>ai MH J (hw.cell_some (x2.cell_some (k1.cell (i:=0) J)))) (al J J (fun w hw=>pi) (ap J J (fun w hw=>ai MD J (hw.cell_some (x2.cell_some (k1.cell (i:=1) J)))) (es (S:=bH (lb 1)) nB (bH.stable _) J J (fun w hw=>nD (x:=1)) (al J J (fun w hw=>lg) (ap J J (fun w hw=>ai ME J (hw.cell_some (x2.cell_some (k1.cell (i:=2) J)))) (jF J J (fun w _=>(by have h:=y9 (P:=Tryz.prog) (w:=w) (a:= -(n:Int)) (by omega) (by omega);rw[Int.neg_neg] at h;exact h)) (bZ (S:=bH (lb (1*2^n))) lU (bH.stable _) J (fun w hw=>by rintro v19 h19 _ rfl;exact(by have h:=lV (m:=1) (k:=n) h19 (by decide) (by omega);exact h)) ?_))))))))))))
  refine et (S:=fun v w=>∃y24_2_0:Value,v=.agg #[B s,xa,y24_2_0]∧bH (lb (1*2^n)) y24_2_0 w) (fun _ _ _ ⟨_,e,g0⟩ hx=>⟨_,e,g0.ext hx⟩) J (fun w hw=>by rintro _ rfl _ rfl v23 h23;have k24_2_0:=h23;obtain⟨_,_,_,rfl⟩:=ia.isS;obtain⟨_,_,_,rfl⟩:=k24_2_0.isS;exact⟨_,w,run_build _ _ _ _ (by kernel_rfl),aH.refl _,_,J,k24_2_0⟩) (bZ (S:=QV (td s m (-(n:Int)))) fO (QV.stable _) J (fun w hw=>by rintro v24 h24;exact(by have h:=nJ (a:=(s,lb m,lb (1*2^n))) (v:=v24) (w:=w) (by obtain⟨y,rfl,k⟩:=h24;exact aU.mk ((ia.ext (x1.trans x2)).ext hw) k) ⟨hln,hld⟩;rw[hv2] at h;exact h)) (bA ?_))
  rintro wg3 xg3 _ rfl _ ⟨x25_0,x25_1,rfl,f25_0,f25_1⟩
  refine bD J J (k2.ext xg3) J ag (am.cons J (am.cons f25_0.one (am.cons f25_1.one am.nil))) fun w3_11 q3_11 k3_11=>?_
  have x3_11:=aH.of_new ((x2.trans xg3)) q3_11 l2
  have m3_11:=Kq.of1 (p:=[0,3,3]) (k2.ext xg3) (ac rfl (ac rfl (ac rfl aT))) q3_11
  refine aI (aD (bp J (.cell J (k3_11.ld MC J ag) .nil) ?_))
  exact⟨_,J,(x1.trans x3_11),aU.mk (f25_0.kq m3_11) (f25_1.kq m3_11)⟩
end Go.Rl
namespace Go.Rl
open Go.RowKit Go.Proofs
theorem I9 (x:Rat):x.sg=decide (x<0):=by
 unfold Rat.sg
 have h:=Rat.num_nonneg (q:=x)
 exact decide_eq_decide.2 ⟨fun a=>Rat.not_le.1 fun hc=>by have:=h.2 hc;omega,fun a=>Int.not_le.1 fun hc=>absurd (h.1 hc) (Rat.not_le.2 a)⟩
theorem Ja {x y:Rat} (h:KM x (decide (x<0)) y):y≤x:=h.1 (I9 x).symm
theorem LP {x y:Rat} (h:KM x (decide (0<x)) y):x≤y:=by
 by_cases h0:x=0
 ·rw[h.2.2 h0];exact Rat.le_refl
 ·refine h.2.1 fun e=>?_
  rw[I9] at e
  have:=decide_eq_decide.1 e
  grind
def Mw (x:Rat) (up:Bool) (b:Nat) (y:Rat):Prop:=(up=true→x≤y)∧(up=false→y≤x)∧(b=0→y=x)∧bt y≤bt x+20
theorem B7 {w:World} {x:Rat} {up:Bool} {b:Nat} {v:Value} (hT:nt w) (hv:QV x v w) (h3:b≤3) (hB:bt x≤2400000000):
 Calls Tryz.prog 141 #[v,B up,I (b:Int)] w (cA fun r w'=>aH w w'∧qq (Mw x up b) (fun y=>QV y) r w'):=by
 obtain⟨xa,xb,rfl,ia,ib⟩:=hv
 refine enter (vs:=[.agg #[B x.sg,xa,xb],B up,I (b:Int)]) Tryz.func141 J J J (bc (cj J J fun g3 w3 l3 x3 k3=>ce bv J fun g6 w6 l6 x6 k6=>(aI (aj (bc (ab J J (ao J J J (aO) (aI (ci J (fun h11=>?_) (fun h11=>?_))))))))))
 ·refine bc (ak J J ((k3.ext x6).ld MC J ag) ?_)
  refine bD J J k6 J ag (am.cons J (am.cons ia.one (am.cons ib.one am.nil))) fun w2_1 q2_1 k2_1=>?_
  have x2_1:=aH.of_new (x6) q2_1 l6
  refine aI (aD (a0 (bp J (.cell J (k2_1.ld MC J ag) .nil) ?_)))
  have e1:=x3.trans x2_1
  exact⟨_,J,e1,x,⟨fun _=>Rat.le_refl,fun _=>Rat.le_refl,fun _=>rfl,by omega⟩,aU.mk (ia.ext e1) (ib.ext e1)⟩
 ·refine aA (ah (bc (aa J J (aI (aj (aj ?_))))))
  rcases up with _|_
  ·refine ae (ab J J (aI (bU J (aA (ah (bc (ab J J (ak J J ((k3.ext x6).ld MC J ag) ?_))))))))
   refine ab J J (gX J DV J J ((DX (hT.ext ((x3.trans x6))) (aU.mk (ia.ext (x3.trans x6)) (ib.ext (x3.trans x6))) (by omega) h3 hB)) ?_)
   rintro v18 w18 ⟨x18,e,s,m,ex,⟨d18,_,rfl,⟨y,rfl,f18⟩,rfl⟩,hro⟩
   refine ab J J (aB J J (cY) (aB J J (cZ) (ce gV J fun g8 w8 l8 x8 k8=>bD J J k8 J dy (am.cons J (am.cons f18.one (am.cons J am.nil))) fun w6_8 q6_8 k6_8=>?_)))
   have x6_8:=aH.of_new (x8) q6_8 l8
   have m6_8:=Kq.of1 (p:=[0,3,2]) k8 (ac rfl (ac rfl (ac rfl aT))) q6_8
   refine aa J J (aI (aj (bc (ab J J (ao J J J (fg) (aI (ci J (fun h22=>?_) (fun h22=>?_))))))))
   ·refine bc (ak J J ((k3.ext ((x6.trans x18).trans x6_8)).ld MC J ag) ?_)
    refine bD J J (k6.ext (x18.trans x6_8)) J ag (am.cons J (am.cons ia.one (am.cons ib.one am.nil))) fun w8_1 q8_1 k8_1=>?_
    have x8_1:=aH.of_new (((x6.trans x18).trans x6_8)) q8_1 l6
    have m8_1:=Kq.of1 (p:=[0,3,3]) (k6.ext (x18.trans x6_8)) (ac rfl (ac rfl (ac rfl aT))) q8_1
    refine aI (aD (a0 (bp J (.cell J (k8_1.ld MC J ag) .nil) ?_)))
    exact⟨_,J,(x3.trans x8_1),x,⟨fun _=>Rat.le_refl,fun _=>Rat.le_refl,fun _=>rfl,by omega⟩,aU.mk (ia.ext (x3.trans x8_1)) (ib.ext (x3.trans x8_1))⟩
   ·obtain⟨hr1,hr2,hr3,hr4,hr5⟩:=hro (Classical.byContradiction h22)
    refine aA (ah (bc (ak J J (k6_8.ld M3 J dy) (aq yT J J ((yU ⟨_,J,(f18.ext x6_8)⟩ hr5 hr3 hr4)) ?_))))
    rintro v25 w25 ⟨x25,⟨x25_0,x25_1,rfl,f25_0,f25_1⟩⟩
    refine bD J J (k6.ext ((x18.trans x6_8).trans x25)) J ag (am.cons J (am.cons f25_0.one (am.cons f25_1.one am.nil))) fun w9_2 q9_2 k9_2=>?_
    have x9_2:=aH.of_new ((((x6.trans x18).trans x6_8).trans x25)) q9_2 l6
    have m9_2:=Kq.of1 (p:=[0,3,3]) (k6.ext ((x18.trans x6_8).trans x25)) (ac rfl (ac rfl (ac rfl aT))) q9_2
    refine aI (aD (bp J (.cell J (k9_2.ld MC J ag) .nil) ?_))
    exact⟨_,J,(x3.trans x9_2),td s m ex,⟨fun h=>by simp at h,fun _=>Ja hr1,fun h=>by omega,by omega⟩,aU.mk (f25_0.kq m9_2) (f25_1.kq m9_2)⟩
  ·refine ae (ab J J (aI (cg J (ae (aa J J (dR (ab J J (ak J J ((k3.ext x6).ld MC J ag) ?_))))))))
   refine ab J J (gX J I5 J J ((I8 (hT.ext ((x3.trans x6))) (aU.mk (ia.ext (x3.trans x6)) (ib.ext (x3.trans x6))) (by omega) h3 hB)) ?_)
   rintro v18 w18 ⟨x18,e,s,m,ex,⟨d18,_,rfl,⟨y,rfl,f18⟩,rfl⟩,hro⟩
   refine ab J J (aB J J (cY) (aB J J (cZ) (ce gV J fun g8 w8 l8 x8 k8=>bD J J k8 J dy (am.cons J (am.cons f18.one (am.cons J am.nil))) fun w6_8 q6_8 k6_8=>?_)))
   have x6_8:=aH.of_new (x8) q6_8 l8
   have m6_8:=Kq.of1 (p:=[0,3,2]) k8 (ac rfl (ac rfl (ac rfl aT))) q6_8
   refine aa J J (aI (aj (bc (ab J J (ao J J J (fg) (aI (ci J (fun h22=>?_) (fun h22=>?_))))))))
   ·refine bc (ak J J ((k3.ext ((x6.trans x18).trans x6_8)).ld MC J ag) ?_)
    refine bD J J (k6.ext (x18.trans x6_8)) J ag (am.cons J (am.cons ia.one (am.cons ib.one am.nil))) fun w8_1 q8_1 k8_1=>?_
    have x8_1:=aH.of_new (((x6.trans x18).trans x6_8)) q8_1 l6
    have m8_1:=Kq.of1 (p:=[0,3,3]) (k6.ext (x18.trans x6_8)) (ac rfl (ac rfl (ac rfl aT))) q8_1
    refine aI (aD (a0 (bp J (.cell J (k8_1.ld MC J ag) .nil) ?_)))
    exact⟨_,J,(x3.trans x8_1),x,⟨fun _=>Rat.le_refl,fun _=>Rat.le_refl,fun _=>rfl,by omega⟩,aU.mk (ia.ext (x3.trans x8_1)) (ib.ext (x3.trans x8_1))⟩
   ·obtain⟨hr1,hr2,hr3,hr4,hr5⟩:=hro (Classical.byContradiction h22)
    refine aA (ah (bc (ak J J (k6_8.ld M3 J dy) (aq yT J J ((yU ⟨_,J,(f18.ext x6_8)⟩ hr5 hr3 hr4)) ?_))))
    rintro v25 w25 ⟨x25,⟨x25_0,x25_1,rfl,f25_0,f25_1⟩⟩
    refine bD J J (k6.ext ((x18.trans x6_8).trans x25)) J ag (am.cons J (am.cons f25_0.one (am.cons f25_1.one am.nil))) fun w9_2 q9_2 k9_2=>?_
    have x9_2:=aH.of_new ((((x6.trans x18).trans x6_8).trans x25)) q9_2 l6
    have m9_2:=Kq.of1 (p:=[0,3,3]) (k6.ext ((x18.trans x6_8).trans x25)) (ac rfl (ac rfl (ac rfl aT))) q9_2
    refine aI (aD (bp J (.cell J (k9_2.ld MC J ag) .nil) ?_))
    exact⟨_,J,(x3.trans x9_2),td s m ex,⟨fun _=>LP hr1,fun h=>by simp at h,fun h=>by omega,by omega⟩,aU.mk (f25_0.kq m9_2) (f25_1.kq m9_2)⟩
end Go.Rl
namespace Go.Rl
open Go.RowKit Go.Proofs
theorem xj:az Tryz.prog 138:=⟨_,Tryz.func138,by kernel_rfl,rfl⟩
theorem GS:az Tryz.prog 68:=⟨_,Tryz.func68,by kernel_rfl,rfl⟩
theorem Kc {d:Nat} (hd:d≤2) {w:World} {s:eX} {f:dx} {k b:Nat} {v u:Value} (hv:bQ ro s v w) (hu:bQ dZ f u w) (hs:n7 s.q) (hp:∀d∈s.pa,i9 s.q d) (hpl:s.pa.length≤1000) (hk:rz s k b) (ho:KL k b) (hf:i8 f (s.q.g.inp+k)=true) (hB:ew f≤130):
 ∃fn av,(invoke (.fn (.method "Lower") #[]) (#[xC d]++[v,u].toArray)).run Tryz.prog w=.ok (.enter fn av) w∧
  Calls Tryz.prog fn av w (cA fun e w'=>aH w w'∧j1 (QV (rH d s f)) (qq (As s f k) fun m=>cF iI m) (Is (B true)) e w'):=by
 have e:d=0∨d=1∨d=2:=by omega
 rcases e with rfl|rfl|rfl
 ·exact⟨_,_,I2,cA.mono (qz hv hu hs hp hpl hk hf (by omega)) fun _ _ ⟨hx,a,b,c,h1,h2,⟨m,hm,h3⟩,h4⟩=>⟨hx,a,b,c,h1,h2,⟨m,hm.one hf,h3⟩,h4⟩⟩
 ·exact⟨_,_,I3,uQ hv hu hs hp hpl hk ho hf hB⟩
 ·exact⟨_,_,LK,Au hv hu hs hp hpl hk ho hf hB⟩
def G2 (up:Bool) (p:dx):dx:=if up then cN p (-1) else p
def KN (up:Bool) (x:Rat):Rat:=if up then-x else x
def LQ (w0:World) (gS:Nat) (s:eX) (su so sl sh sr st sm sn sp sq:Value) (w:World):Prop:=
 dE gS 57 [I s.q.g.inp,su,so,sl,sh,sr,st,B s.q.go.ct.sg,sm,sn,sp,sq] w∧cF pQ s.pa sp w∧pW w0.heap.size s.lm sq w
set_option maxHeartbeats 1000000 in
theorem xk {w0 w:World} {d j b bits gF gD gS gJ gB:Nat} {s:eX} {p:dx} {up:Bool} {su so sl sh sr st sm sn sp sq fa fb fc:Value} (hd:d≤2) (hbi:bits≤3) (hT:nt w0) (h0:aH w0 w)
 (iu:cF dZ s.q.g.us su w0) (io:cF dZ s.q.g.os so w0) (il:cF dQ s.q.r.lo sl w0) (ih:cF dQ s.q.r.hi sh w0) (ir:cF dZ s.q.r.rs sr w0) (it:cF kW s.q.go.ts st w0) (im:bH s.q.go.ct.nl sm w0) (jn:bH s.q.go.ct.dl sn w0)
 (ja:cF kW p.ts fa w) (jb:bH p.ct.nl fb w) (jc:bH p.ct.dl fc w)
 (hS:LQ w0 gS s su so sl sh sr st sm sn sp sq w) (hS0:w0.heap.size≤gS)
 (kF:dE gF 51 [fa,B p.ct.sg,fb,fc] w) (kD:dE gD 137 [xC d] w) (kJ:dE gJ 3 [I (j:Int)] w) (kB:dE gB 3 [I (bits:Int)] w)
 (hs:n7 s.q) (hp:∀d∈s.pa,i9 s.q d) (hpl:s.pa.length≤1000) (hk:rz s j b) (ho:KL j b) (hf:i8 p (s.q.g.inp+j)=true) (hB:ew p≤100)
 (hl:s.lm.length≤8) (hkn:(if up then(cy s.lm j).2 else(cy s.lm j).1)=0):
 Calls Tryz.prog 138 #[B up,.pointer (some ⟨gF,0,none⟩),.pointer (some ⟨gD,0,none⟩),.pointer (some ⟨gS,0,none⟩),.pointer (some ⟨gJ,0,none⟩),.pointer (some ⟨gB,0,none⟩)] w (cA fun _ w'=>aH w0 w'∧∃(m:ig) (sq':Value),LQ w0 gS ⟨s.q,s.pa,s.lm++[m]⟩ su so sl sh sr st sm sn sp sq' w'∧m.un=j∧m.up=up∧Mw (KN up (rH d s (G2 up p))) up bits m.va∧As s (G2 up p) j m.pf∧
  (∀(g:Nat) (T:TypeId) (l:List Value),dE g T l w→g≠gS→T≠126→dE g T l w')∧cF kW p.ts fa w'∧bH p.ct.nl fb w'∧bH p.ct.dl fc w'):=by
 obtain⟨kS,ip,iq⟩:=hS
 have hi0:=hs.g.i0
 have hi1:=hs.g.i1
 have hku:=hk.ku
 have hj3:=ho.1
 have hlen:=jk hf (by omega)
 obtain⟨F,hF⟩:∃F,F=G2 up p:=⟨_,rfl⟩
 have hfF:i8 F (s.q.g.inp+j)=true:=by
  rw[hF];unfold G2
  split
  ·exact nR hf
  ·exact hf
 have hBF:ew F≤130:=by
  rw[hF];unfold G2
  have h1:=nZ p (-1)
  have h2:bt (-1:Rat)≤3:=by decide
  have h3:=ho.1
  have h4:(p.ts.length+1)*bt (-1:Rat)≤7*3:=Ns (by omega) h2
  split<;>omega
 have hlo:=B2 (d:=d) hs hp hk ho hfF hBF
 have hgk:=(Ar ho.2.1 ho.1 (Ng j) ⟨ho.2.2.1,ho.2.2.2⟩).1
 have hb18:=ho.2.1
 obtain⟨V,hV⟩:∃V,V=KN up (rH d s F):=⟨_,rfl⟩
 have hVB:bt V≤2400000000:=by
  rw[hV];unfold KN
  have:=jN (rH d s F)
  split<;>omega
 have cD:=kD.cell (i:=0) rfl
 have cJ:=kJ.cell (i:=0) rfl
 have cB:=kB.cell (i:=0) rfl
 refine enter Tryz.func138 J J J (bc (ak J J (kF.ld MG J ay) (ce cd J fun g7 w7 l7 x7 k7=>bD J J k7 J ay (am.cons ja.one (am.cons J (am.cons jb.one (am.cons jc.one am.nil)))) fun w0_2 q0_2 k0_2=>?_)))
 have x0_2:=aH.of_new (x7) q0_2 l7
 refine aI (aj (i3 (fun q:Value×Value×Value=>[(0,B up),(2,.pointer (some ⟨gD,0,none⟩)),(3,.pointer (some ⟨gS,0,none⟩)),(4,.pointer (some ⟨gJ,0,none⟩)),(5,.pointer (some ⟨gB,0,none⟩)),(7,.pointer (some ⟨g7,0,none⟩))]) (fun q w'=>aH w w'∧dE g7 51 [q.1,B F.ct.sg,q.2.1,q.2.2] w'∧cF kW F.ts q.1 w'∧bH F.ct.nl q.2.1 w'∧bH F.ct.dl q.2.2 w') ?_ ?_))
 ·refine aj ?_
  rcases up with _|_
  ·have hF1:F=p:=hF
   refine ae (ab J J (aI (bU J (aA ?_))))
   exact cW (_,_,_) ⟨J,J,J,J,J,J,trivial⟩ ⟨x0_2,by rw[hF1];exact k0_2,by rw[hF1];exact(ja.ext x0_2),by rw[hF1];exact(jb.ext x0_2),by rw[hF1];exact(jc.ext x0_2)⟩
  ·have hF1:F=cN p (-1):=hF
   refine ae (ab J J (aI (cg J (bj 3 [0,2,3,4,5,7,19] (by kernel_rfl) (by kernel_rfl) (ap J J (fun w hw=>((kF.ext x0_2).ext hw).ld MG J ay) (es (S:=QV ((-1:Rat))) kM (QV.stable _) J J (fun w hw=>mG (x:= -1) (by omega) (by omega)) (bZ (S:=bQ dZ (cN p (-1))) m7 (bQ.stable _ _) J (fun w hw=>by rintro _ rfl v18 h18;exact(m8 (f:=p) (c:= -1) ((bQ.mk (cv (ja.ext x0_2) (jb.ext x0_2) (jc.ext x0_2))).ext hw) h18 (by have h2:bt (-1:Rat)≤3:=(by decide);omega))) (bA ?_))))))))
   rintro wg2 xg2 _ rfl _ rfl _ rfl _ rfl _ rfl _ rfl _ ⟨_,rfl,r19⟩
   obtain⟨x19_0,x19_1,x19_2,rfl,f19_0,f19_1,f19_2⟩:=cl r19
   refine bD J J (k0_2.ext xg2) J ay (am.cons f19_0.one (am.cons J (am.cons f19_1.one (am.cons f19_2.one am.nil)))) fun w2_3 q2_3 k2_3=>?_
   have x2_3:=aH.of_new ((x0_2.trans xg2)) q2_3 l7
   have m2_3:=Kq.of1 (p:=[3,0,3,3]) (k0_2.ext xg2) (ac ja.kd (ac rfl (ac jb.kd (ac jc.kd aT)))) q2_3
   refine ar ?_
   exact cW (_,_,_) ⟨J,J,J,J,J,J,trivial⟩ ⟨x2_3,by rw[hF1];exact k2_3,by rw[hF1];exact(f19_0.kq m2_3),by rw[hF1];exact(f19_1.kq m2_3),by rw[hF1];exact(f19_2.kq m2_3)⟩
 rintro⟨xa,xb,xc⟩ wC ⟨eC,k7C,ka,kb,kc⟩
 refine ah (aj ?_)
 have cD1:=eC.cell_some cD
 refine ae (ak J J (ai M7 J cD1) (ak J J ((kS.ext eC).ld MM J bg) (ak J J (k7C.ld MG J ay) ?_)))
 have e4:=h0.trans eC
 obtain⟨fn,av,hinv,hcl⟩:=Kc (d:=d) (w:=wC) hd (bQ.mk (dm (iu.ext e4) (io.ext e4) (il.ext e4) (ih.ext e4) (ir.ext e4) (it.ext e4) (im.ext e4) (jn.ext e4) (ip.ext eC) (pW.dsv (iq.ext eC)))) (bQ.mk (cv ka kb kc)) hs hp hpl hk ho hfF hBF
 refine wP J J hinv J (hcl) ?_
 rintro v24 w24 ⟨x24,⟨_,u24_b,_,rfl,⟨x24_a_0,x24_a_1,rfl,f24_a_0,f24_a_1⟩,⟨m24_b,hm24_b,b24_b⟩,rfl⟩⟩
 refine ab J J (aB J J ey (aB J J ez (aB J J eF (ce bv J fun g8 w8 l8 x8 k8=>bD J J k8 J ag (am.cons J (am.cons f24_a_0.one (am.cons f24_a_1.one am.nil))) fun w3_9 q3_9 k3_9=>?_))))
 have x3_9:=aH.of_new (x8) q3_9 l8
 refine aa J J (aa J J (aI (aj (bc (ab J J (cC J J cn (aI (bU J (aA (ah (bc ?_)))))))))))
 have e5:=(eC.trans x24).trans x3_9
 have cJ1:=(e5).cell_some cJ
 refine ak J J ((kS.ext e5).ld MM J bg) (ak J J (ai ME J cJ1) ?_)
 have e1:=(e4.trans x24).trans x3_9
 refine aq mK J J ((mN (u:=j) (bQ.mk (dm (iu.ext e1) (io.ext e1) (il.ext e1) (ih.ext e1) (ir.ext e1) (it.ext e1) (im.ext e1) (jn.ext e1) (ip.ext e5) (pW.dsv (iq.ext e5)))) hk.lm)) ?_
 rintro v33 w33 ⟨x33,⟨_,_,rfl,rfl,rfl⟩⟩
 refine ab J J (aB J J cY (aB J J cZ (aa J J (aa J J (dR (ab J J (aa J J (aa J J (aI (aj (i3 (fun q:Int×Value×Value=>[(0,B up),(3,.pointer (some ⟨gS,0,none⟩)),(4,.pointer (some ⟨gJ,0,none⟩)),(5,.pointer (some ⟨gB,0,none⟩)),(8,.pointer (some ⟨g8,0,none⟩)),(9,u24_b),(13,I 0),(14,I q.1)]) (fun q w'=>aH w w'∧dE g8 49 [B V.sg,q.2.1,q.2.2] w'∧bH V.nl q.2.1 w'∧bH V.dl q.2.2 w'∧cF iI m24_b u24_b w') ?_ ?_)))))))))))
 ·refine aj ?_
  rcases up with _|_
  ·have hV1:V=rH d s F:=hV
   have hkn1:((cy s.lm j).1:Int)=0:=by have:(cy s.lm j).1=0:=hkn;omega
   rw[hkn1]
   refine ae (ab J J (aI (bU J (aA ?_))))
   have e7:=x3_9.trans x33
   exact cW (1,_,_) ⟨J,J,J,J,J,J,J,J,trivial⟩ ⟨(((eC.trans x24).trans x3_9).trans x33),by rw[hV1];exact(k3_9.ext x33),by rw[hV1];exact(f24_a_0.ext e7),by rw[hV1];exact(f24_a_1.ext e7),(b24_b.ext e7)⟩
  ·have hV1:V= -rH d s F:=hV
   have hkn1:((cy s.lm j).2:Int)=0:=by have:(cy s.lm j).2=0:=hkn;omega
   rw[hkn1]
   refine ae (ab J J (aI (cg J (ae (ak J J ((k3_9.ext x33).ld MC J ag) ?_)))))
   have z39_1:=jN (rH d s F)
   have e8:=x3_9.trans x33
   refine aq lS J J (yy (aU.mk (f24_a_0.ext e8) (f24_a_1.ext e8)) (by omega)) ?_
   rintro v39 w39 ⟨x39,⟨x39_0,x39_1,rfl,f39_0,f39_1⟩⟩
   refine ab J J (bD J J (k3_9.ext (x33.trans x39)) J ag (am.cons J (am.cons f39_0.one (am.cons f39_1.one am.nil))) fun w8_3 q8_3 k8_3=>?_)
   have x8_3:=aH.of_new ((e8.trans x39)) q8_3 l8
   have m8_3:=Kq.of1 (p:=[0,3,3]) (k3_9.ext (x33.trans x39)) (ac rfl (ac f24_a_0.kd (ac f24_a_1.kd aT))) q8_3
   refine aa J J (aa J J (ar ?_))
   exact cW (-1,_,_) ⟨J,J,J,J,J,J,J,J,trivial⟩ ⟨((eC.trans x24).trans x8_3),by rw[hV1];exact k8_3,by rw[hV1];exact(f39_0.kq m8_3),by rw[hV1];exact(f39_1.kq m8_3),(b24_b.ext x8_3)⟩
 rintro⟨z,va,vb⟩ wE ⟨eE,k8E,la,lb',hpf⟩
 refine ah (aj ?_)
 have cB1:=eE.cell_some cB
 refine ae (ak J J (k8E.ld MC J ag) (ab J J (ak J J (ai ME J cB1) (aq B4 J J ((B7 (hT.ext ((h0.trans eE))) (aU.mk la lb') hbi hVB)) ?_))))
 rintro v44 w44 ⟨x44,⟨m44,hm44,x44_0,x44_1,rfl,f44_0,f44_1⟩⟩
 refine bD J J (k8E.ext x44) J ag (am.cons J (am.cons f44_0.one (am.cons f44_1.one am.nil))) fun w9_4 q9_4 k9_4=>?_
 have x9_4:=aH.of_new (((h0.trans eE).trans x44)) q9_4 (Nb (((h0.trans eC).trans x24)).size l8)
 have m9_4:=Kq.of1 (p:=[0,3,3]) (k8E.ext x44) (ac rfl (ac la.kd (ac lb'.kd aT))) q9_4
 refine aI (aj (bj 14 [0,3,4,8,9,47,58] (by kernel_rfl) (by kernel_rfl) (ax J J (bC J J J (fun w _=>bF J aO) (ax J J (bu J J J (bu J J J (bu J J J (bu J J J (bu J J J (bu J J J (bu J J J (bu J J J (bu J J J (bu J J J (bu J J J (bA ?_)))))))))))))))))
 rintro wg10 xg10 _ rfl _ rfl _ rfl _ rfl _ hq9
 obtain rfl:=Eq.symm hq9
 rintro _ rfl _ rfl
 refine aR J J J (aI (cg J ?_))
 have e2:=(eC.trans x24)
 have e3:=eE.trans x44
 have cJ2:=(((aH.of_new e3 q9_4 (Nb e2.size l8)).trans xg10)).cell_some cJ
 refine ae (af J J (bO) (ak J J (ai MN J (((aH.of_new e3 q9_4 (Nb e2.size l8)).trans xg10).cell_some (kS.cell (i:=11) J))) (ak J J (ai ME J cJ2) (ab J J (ak J J ((k9_4.ext xg10).ld MC J ag) (ab J J (bV (r:=.agg #[I (↑j),B up,B m44.sg,x44_0,x44_1,u24_b]) J J (by obtain⟨_,_,_,rfl⟩:=f44_0.isS;obtain⟨_,_,_,rfl⟩:=f44_1.isS;obtain⟨_,_,_,rfl⟩:=hpf.isS;exact run_build _ _ _ _ (by kernel_rfl)) ?_)))))))
 obtain⟨v67,w67,hr67,x67,b67⟩:=Lj (w:=wg10) (HV (a:=(⟨↑j,up,m44,m24_b⟩:ig)) ((f44_0.kq m9_4).ext xg10) ((f44_1.kq m9_4).ext xg10) (((hpf.ext x44).kq m9_4).ext xg10))
 refine bN (vs:=[(0,.agg #[I (↑j),B up,B m44.sg,x44_0,x44_1,u24_b])]) J J hr67 ?_
 have oB:pW w0.heap.size s.lm sq w67:=(iq.ext (((aH.of_new e3 q9_4 (Nb e2.size l8)).trans xg10).trans x67))
 have eB:aH w w67:=(((aH.of_new e3 q9_4 (Nb e2.size l8)).trans xg10).trans x67)
 have e6:=((x9_4.trans xg10).trans x67)
 obtain⟨v68,w68,hr68,o68,g68⟩:=HY (ty:=55) (iq.ext (((aH.of_new e3 q9_4 (Nb e2.size l8)).trans xg10).trans x67)) b67 (by simp only[List.length_cons,List.length_nil];omega) e6.size
 refine df J J hr68 ?_
 have x68:=aH.of_grew e6 g68 ((iq.ext (((aH.of_new e3 q9_4 (Nb e2.size l8)).trans xg10).trans x67))).ge
 have m68:=((iq.ext (((aH.of_new e3 q9_4 (Nb e2.size l8)).trans xg10).trans x67))).kqG g68 (by decide)
 have i1_kS:=(((kS.ext (aH.of_new e3 q9_4 (Nb e2.size l8))).ext xg10).ext x67)
 have j2_kS:=(i1_kS.other g68.grown (aN i1_kS (iq.ext (((aH.of_new e3 q9_4 (Nb e2.size l8)).trans xg10).trans x67))))
 refine af J J (bO) (iD J J j2_kS sP o68.one J fun w11_10 q11_10 k11_10=>?_)
 have m11_10:=Kq.of1 (p:=[2,3,3,3,3,3,3,0,3,3,3,3]) j2_kS (ac rfl (ac iu.kd (ac io.kd (ac il.kd (ac ih.kd (ac ir.kd (ac it.kd (ac rfl (ac im.kd (ac jn.kd (ac ip.kd (ac iq.kd aT)))))))))))) q11_10
 refine ar (u9 J ?_)
 have nn:∀{g:Nat},g≠gS→(some g:Option Nat)≠some gS:=fun h e=>h (Nc e)
 exact⟨_,J,aH.of_new x68 q11_10 hS0,⟨j,up,m44,m24_b⟩,_,⟨k11_10,(((ip.ext (((aH.of_new e3 q9_4 (Nb e2.size l8)).trans xg10).trans x67)).kq m68).kq m11_10),(bh.st qS o68 m11_10 q11_10 (aN j2_kS o68).symm (by decide))⟩,J,J,by rw[←hF,←hV];exact hm44,by rw[←hF];exact hm24_b,fun g T l k hg hT=>((k.ext eB).other g68.grown (aN (k.ext eB) oB hT)).other q11_10 (nn hg),((ja.ext eB).kq m68).kq m11_10,((jb.ext eB).kq m68).kq m11_10,((jc.ext eB).kq m68).kq m11_10⟩
end Go.Rl
namespace Go.Rl
open Go.RowKit Go.Proofs
def sv:Nat→Nat
 |0=>300
 |1=>10000
 |2=>1900000
 |_=>2400000020
def bb:Nat→Nat
 |0=>20
 |n+1=>sv n
theorem E8 {j:Nat} (h:j≤3):KL j (bb j):=by
 have e:j=0∨j=1∨j=2∨j=3:=by omega
 rcases e with rfl|rfl|rfl|rfl<;>(unfold KL bb;simp only[sv];omega)
theorem E9 {j:Nat} (h:j≤3):rA (bb j) j+6*bb j+20≤sv j:=by
 have e:j=0∨j=1∨j=2∨j=3:=by omega
 rcases e with rfl|rfl|rfl|rfl<;>simp only[bb,sv,rA]<;>omega
theorem uf {i j:Nat} (h:i≤j) (hj:j≤3):sv i≤sv j:=by
 have e:j=0∨j=1∨j=2∨j=3:=by omega
 have e2:i=0∨i=1∨i=2∨i=3:=by omega
 rcases e with rfl|rfl|rfl|rfl<;>rcases e2 with rfl|rfl|rfl|rfl<;>simp only[sv]<;>omega
structure DY (l:List ig):Prop where
 shp:ns l
 sz:∀(i:Nat) (h:i<l.length),bt l[i].va≤sv (i/2)
theorem DY.snoc {l:List ig} {m:ig} (h:DY l) (h1:m.un=((l.length/2:Nat):Int)) (h2:m.up=decide (l.length%2=1)) (h3:bt m.va≤sv (l.length/2)):DY (l++[m]) where
 shp:=h.shp.snoc h1 h2
 sz:=fun i hi=>by
  by_cases hl:i<l.length
  ·rw[List.getElem_append_left hl];exact h.sz i hl
  ·obtain rfl:i=l.length:=by simp at hi;omega
   simpa using h3
theorem DY.bnd {q:ur} {pa:List nw} {l:List ig} {j:Nat} (h:DY l) (hl:2*j≤l.length) (hl2:l.length≤8) (hj:j≤3) (hu:j≤q.g.us.length):rz ⟨q,pa,l⟩ j (bb j) where
 ku:=hu
 kn:=fun i hi=>by
  show 0<(cy l i).1∧0<(cy l i).2
  rw[h.shp.best]
  simp only
  rw[if_pos (by omega),if_pos (by omega)]
  omega
 bb:=fun i hi=>by
  show bt (dA l (cy l i).1)≤_∧bt (dA l (cy l i).2)≤_
  rw[h.shp.best]
  simp only
  rw[if_pos (by omega),if_pos (by omega),fA (by omega),fA (by omega)]
  have h1:=h.sz (2*i) (by omega)
  have h2:=h.sz (2*i+1) (by omega)
  obtain⟨n,rfl⟩:∃n,j=n+1:=⟨j-1,by omega⟩
  have h3:=uf (show i≤n by omega) (by omega)
  rw[show 2*i/2=i by omega] at h1
  rw[show(2*i+1)/2=i by omega] at h2
  simp only[Nat.add_sub_cancel,show 2*i+2-1=2*i+1 by omega]
  show _≤sv n∧_≤sv n
  omega
 b0:=by
  have e:j=0∨j=1∨j=2∨j=3:=by omega
  rcases e with rfl|rfl|rfl|rfl<;>(simp only[Go.Rl.bb,sv];omega)
 b1:=by
  have e:j=0∨j=1∨j=2∨j=3:=by omega
  rcases e with rfl|rfl|rfl|rfl<;>(simp only[Go.Rl.bb,sv];omega)
 lm:=fun m hm=>by
  obtain⟨i,hi,rfl⟩:=List.getElem_of_mem hm
  have h1:=h.sz i hi
  have hi2:i<l.length:=hi
  have h2:=uf (show i/2≤3 by omega) (Ng 3)
  have h3:sv 3=2400000020:=rfl
  show bt l[i].va≤_
  omega
theorem xd.step {d:Nat} {q:ur} {pa:List nw} {ex:Bool} {n:Nat} {l:List ig} {m m':ig} (h:xd d q pa ex n l) (hn:n<q.g.us.length) (u1:m.un=n) (p1:m.up=false) (u2:m'.un=n) (p2:m'.up=true)
 (h1:m.va≤rH d (xn q pa l) q.g.us[n]∧(ex=true→m.va=rH d (xn q pa l) q.g.us[n]))
 (h2: -rH d (xn q pa (l++[m])) (cN q.g.us[n] (-1))≤m'.va∧(ex=true→m'.va= -rH d (xn q pa (l++[m])) (cN q.g.us[n] (-1)))):xd d q pa ex (n+1) (l++[m]++[m']):=by
 have hl:=h.len
 have e1:(l++[m]).length=2*n+1:=by simp[hl]
 have e2:(l++[m]++[m']).length=2*n+2:=by simp[hl]
 refine⟨by omega,(h.shp.snoc (by rw[u1,hl];omega) (by rw[p1,hl];simp)).snoc (by rw[u2,e1];omega) (by rw[p2,e1];simp),fun j hj hu hjl=>?_,fun j hj hu hjl=>?_⟩
 ·by_cases hjn:j<n
  ·have a:=h.lo j hjn hu (by omega)
   have t1:(l++[m]++[m']).take (2*j)=l.take (2*j):=by rw[List.append_assoc,List.take_append_of_le_length (by omega)]
   have t2:(l++[m]++[m'])[2*j]=l[2*j]'(by omega):=by rw[List.getElem_append_left (by omega),List.getElem_append_left (by omega)]
   rw[t1,t2]
   exact a
  ·obtain rfl:j=n:=by omega
   have t1:(l++[m]++[m']).take (2*j)=l:=by rw[List.append_assoc,List.take_append_of_le_length (by omega),List.take_of_length_le (by omega)]
   have t2:(l++[m]++[m'])[2*j]=m:=by
    rw[List.getElem_append_left (by omega),List.getElem_append_right (by omega)]
    simp[hl]
   rw[t1,t2]
   exact h1
 ·by_cases hjn:j<n
  ·have a:=h.hi j hjn hu (by omega)
   have t1:(l++[m]++[m']).take (2*j+1)=l.take (2*j+1):=by rw[List.append_assoc,List.take_append_of_le_length (by omega)]
   have t2:(l++[m]++[m'])[2*j+1]=l[2*j+1]'(by omega):=by rw[List.getElem_append_left (by omega),List.getElem_append_left (by omega)]
   rw[t1,t2]
   exact a
  ·obtain rfl:j=n:=by omega
   have t1:(l++[m]++[m']).take (2*j+1)=l++[m]:=by rw[List.take_append_of_le_length (by omega),List.take_of_length_le (by omega)]
   have t2:(l++[m]++[m'])[2*j+1]=m':=by
    rw[List.getElem_append_right (by omega)]
    simp[e1]
   rw[t1,t2]
   exact h2
def PfP (s:eX) (l:List ig):Prop:=∀(h:1<l.length) (hu:0<s.q.g.us.length),As s s.q.g.us[0] 0 l[0].pf∧As s (cN s.q.g.us[0] (-1)) 0 l[1].pf
def B8 (d:Nat) (s:eX) (bits i:Nat) (l:List ig):Prop:=xd d s.q s.pa (decide (bits=0)) i l∧DY l∧PfP s l
theorem B8.step1 {d bits i:Nat} {s:eX} {l:List ig} {m:ig} (h:B8 d s bits i l) (hs:n7 s.q) (hp:∀d∈s.pa,i9 s.q d) (hi:i<s.q.g.us.length) (u1:m.un=i) (p1:m.up=false)
 (r1:Mw (KN false (rH d ⟨s.q,s.pa,l⟩ (G2 false s.q.g.us[i]))) false bits m.va):DY (l++[m])∧m.va≤rH d (xn s.q s.pa l) s.q.g.us[i]∧(decide (bits=0)=true→m.va=rH d (xn s.q s.pa l) s.q.g.us[i]):=by
 obtain⟨hr,hl,_⟩:=h
 have hlen:=hr.len
 have hul:=hs.g.ul
 have hu:=hs.g.us i hi
 have hk:=hl.bnd (q:=s.q) (pa:=s.pa) (j:=i) (by omega) (by omega) (by omega) (by omega)
 have hb:=B2 (s:=⟨s.q,s.pa,l⟩) (d:=d) (f:=s.q.g.us[i]) hs hp hk (E8 (by omega)) hu.1 (by omega)
 have hbb:=E9 (show i≤3 by omega)
 have hd:KN false (rH d ⟨s.q,s.pa,l⟩ (G2 false s.q.g.us[i]))=rH d (xn s.q s.pa l) s.q.g.us[i]:=rfl
 rw[hd] at r1
 have h4:=r1.2.2.2
 refine⟨hl.snoc (by rw[u1,hlen];omega) (by rw[p1,hlen];simp) ?_,r1.2.1 J,fun he=>r1.2.2.1 (by simpa using he)⟩
 rw[hlen,show 2*i/2=i by omega]
 have hsc:rH d (xn s.q s.pa l) s.q.g.us[i]=rH d ⟨s.q,s.pa,l⟩ s.q.g.us[i]:=rfl
 rw[hsc] at h4
 omega
theorem B8.step {d bits i:Nat} {s:eX} {l:List ig} {m m':ig} (h:B8 d s bits i l) (hs:n7 s.q) (hp:∀d∈s.pa,i9 s.q d) (hi:i<s.q.g.us.length) (u1:m.un=i) (p1:m.up=false) (u2:m'.un=i) (p2:m'.up=true)
 (r1:Mw (KN false (rH d ⟨s.q,s.pa,l⟩ (G2 false s.q.g.us[i]))) false bits m.va) (r2:Mw (KN true (rH d ⟨s.q,s.pa,l++[m]⟩ (G2 true s.q.g.us[i]))) true bits m'.va)
 (o1:As ⟨s.q,s.pa,l⟩ (G2 false s.q.g.us[i]) i m.pf) (o2:As ⟨s.q,s.pa,l++[m]⟩ (G2 true s.q.g.us[i]) i m'.pf):B8 d s bits (i+1) (l++[m]++[m']):=by
 obtain⟨s1,s2,s3⟩:=h.step1 hs hp hi u1 p1 r1
 obtain⟨hr,hl,hpf⟩:=h
 have hlen:=hr.len
 have hul:=hs.g.ul
 have hu:=hs.g.us i hi
 have e1:(l++[m]).length=2*i+1:=by simp[hlen]
 have hk:=s1.bnd (q:=s.q) (pa:=s.pa) (j:=i) (by omega) (by omega) (by omega) (by omega)
 have hs1:=nZ s.q.g.us[i] (-1)
 have hb3:bt (-1:Rat)≤3:=by decide
 have hln:=jk hu.1 (by have:=hs.g.i0;omega)
 have hi1:=hs.g.i1
 have h21:(s.q.g.us[i].ts.length+1)*bt (-1:Rat)≤7*3:=Ns (by omega) hb3
 have hb:=B2 (s:=⟨s.q,s.pa,l++[m]⟩) (d:=d) (f:=cN s.q.g.us[i] (-1)) hs hp hk (E8 (by omega)) (nR hu.1) (by omega)
 have hbb:=E9 (show i≤3 by omega)
 have hd:KN true (rH d ⟨s.q,s.pa,l++[m]⟩ (G2 true s.q.g.us[i]))= -rH d ⟨s.q,s.pa,l++[m]⟩ (cN s.q.g.us[i] (-1)):=rfl
 rw[hd] at r2
 have h4:=r2.2.2.2
 rw[jN] at h4
 refine⟨hr.step hi u1 p1 u2 p2 ⟨s2,s3⟩ ⟨r2.1 J,fun he=>r2.2.2.1 (by simpa using he)⟩,s1.snoc (by rw[u2,e1];omega) (by rw[p2,e1];simp) ?_,fun h1 hu0=>?_⟩
 ·rw[e1,show(2*i+1)/2=i by omega]
  omega
 ·by_cases h0:i=0
  ·subst h0
   obtain rfl:l=[]:=Nm (by omega)
   exact⟨o1,o2⟩
  ·have t0:(l++[m]++[m'])[0]=l[0]'(by omega):=by rw[List.getElem_append_left (by simp),List.getElem_append_left (by omega)]
   have t1:(l++[m]++[m'])[1]=l[1]'(by omega):=by rw[List.getElem_append_left (by omega),List.getElem_append_left (by omega)]
   rw[t0,t1]
   exact hpf (by omega) hu0
def DZ (d:Nat) (s:eX) (bits:Nat) (t:eX):Prop:=t.q=s.q∧t.pa=s.pa∧B8 d s bits s.q.g.us.length t.lm
end Go.Rl
namespace Go.Rl
open Go.RowKit Go.Proofs
theorem GT {d:Nat} (hd:d≤2):(xC d).cells=[xC d].toArray:=by
 have e:d=0∨d=1∨d=2:=by omega
 rcases e with rfl|rfl|rfl<;>rfl
theorem Kd {w:World} {d:Nat} (hd:d≤2) {x y:Operand}:(bin .eql 137 x y (xC d) .nilIface).run Tryz.prog w=.ok (B false) w:=
 match d,hd with
 |0,_=>by kernel_rfl
 |1,_=>by kernel_rfl
 |2,_=>by kernel_rfl
set_option maxHeartbeats 1000000 in
theorem GU {w:World} {d bits:Nat} {s:eX} {su so sl sh sr st sm sn sp sq:Value} (hd:d≤2) (hbi:bits≤3) (hT:nt w) (iu:cF dZ s.q.g.us su w) (io:cF dZ s.q.g.os so w) (il:cF dQ s.q.r.lo sl w) (ih:cF dQ s.q.r.hi sh w) (ir:cF dZ s.q.r.rs sr w) (it:cF kW s.q.go.ts st w) (im:bH s.q.go.ct.nl sm w) (jn:bH s.q.go.ct.dl sn w) (ip:cF pQ s.pa sp w) (iq:cF vj s.lm sq w) (hs:n7 s.q) (hp:∀d∈s.pa,i9 s.q d) (hpl:s.pa.length≤1000) (hl0:s.lm=[]):
 Calls Tryz.prog 68 #[xC d,.agg #[I s.q.g.inp,su,so,sl,sh,sr,st,B s.q.go.ct.sg,sm,sn,sp,sq],I (bits:Int)] w (cA fun r w'=>aH w w'∧∃(t:eX) (vp vq:Value),DZ d s bits t∧r=.tuple #[.agg #[I s.q.g.inp,su,so,sl,sh,sr,st,B s.q.go.ct.sg,sm,sn,vp,vq],I 0]∧cF pQ s.pa vp w'∧cF vj t.lm vq w'):=by
 have hul:=hs.g.ul
 rw[hl0] at iq
 refine enter (vs:=[xC d,.agg #[I s.q.g.inp,su,so,sl,sh,sr,st,B s.q.go.ct.sg,sm,sn,sp,sq],I (bits:Int)]) Tryz.func68 J J J (bc ?_)
 obtain⟨g3,w3,hr3,l3,x3,k3⟩:=t4 (P:=Tryz.prog) (w:=w) (t:=137) (v:=xC d) (GT hd)
 refine mT J J hr3 (cj J J fun g4 w4 l4 x4 k4=>?_)
 obtain⟨g5,w5,hr5,l5,x5,k5⟩:=t4 (P:=Tryz.prog) (w:=w4) (t:=3) (v:=I (bits:Int)) rfl
 refine mT J J hr5 (ce fp J fun g6 w6 l6 x6 k6=>(aa J J (aI (aj (bc ?_)))))
 have c11:=(k3.ext (((x4.trans x5).trans x6))).cell (i:=0) rfl
 refine ak J J (ai M7 J c11) (ao J J J ((Kd hd)) (ab J J (an J (af J J (bz) (an J (ak J J ((k4.ext (x5.trans x6)).ldO (ms:=[I s.q.g.inp,su,so,sl,sh,sr,st,B s.q.go.ct.sg,sm,sn]) (o:=0) (ef J) MU J cV) ?_))))))
 have e1:=((x3.trans x4).trans x5).trans x6
 refine an J (aq gK J J (gL (bQ.mk (gr (iu.ext e1) (io.ext e1) (il.ext e1) (ih.ext e1) (ir.ext e1) (it.ext e1) (im.ext e1) (jn.ext e1))) hs) ?_)
 rintro v16 w16 ⟨x16,rfl⟩
 refine an J (cC J J cn (aG J J J (ab J J (an J (ak J J (ai ME J ((x6.trans x16).cell_some (k5.cell (i:=0) J))) (an J (ao J J J (be (by omega) aX) (aG J J J (ab J J (an J (ak J J (ai ME J ((x6.trans x16).cell_some (k5.cell (i:=0) J))) (an J (ao J J J (be (by omega) bo) (aG J J J (aI (bU J (aA (ah (aj (bj 7 [3,4,5,6,30,33,34] (by kernel_rfl) (by kernel_rfl) ?_))))))))))))))))))))
 have e3:=(x5.trans x6).trans x16
 refine al J J (fun w hw=>cx) (ap J J (fun w hw=>ai MO J (hw.cell_some (e3.cell_some (k4.cell (i:=10) J)))) ?_)
 have e4:=e1.trans x16
 refine bZ (S:=mB w.heap.size s.pa) xA bh.stable J (fun w1 hw=>by rintro _ rfl;exact cA.mono (Ao (cF.ext (ip.ext e4) hw) (by omega)) fun _ _ ⟨a,b⟩=>⟨a,b.rebase ((e4).trans hw).size⟩) (al J J (fun w hw=>bO) (ap J J (fun w hw=>ai Tryz.underlying55 J (hw.cell_some (e3.cell_some (k4.cell (i:=11) J)))) (bZ (S:=pW w.heap.size []) xB bh.stable J (fun w1 hw=>by rintro _ rfl;exact cA.mono (Ap (cF.ext (iq.ext e4) hw) (by simp)) fun _ _ ⟨a,b⟩=>⟨a,b.rebase ((e4).trans hw).size⟩) (al J J (fun w hw=>cx) (bA ?_)))))
 rintro wg3 xg3 _ rfl _ rfl _ rfl _ rfl vg30 h30 vg33 h33 _ rfl
 have e2:=e3.trans xg3
 refine iD J J (k4.ext e2) pj h30.one J fun w3_7 q3_7 k3_7=>?_
 have x3_7:=aH.of_new (((((x4.trans x5).trans x6).trans x16).trans xg3)) q3_7 l4
 have m3_7:=Kq.of1 (p:=[2,3,3,3,3,3,3,0,3,3,3,3]) (k4.ext e2) (ac rfl (ac iu.kd (ac io.kd (ac il.kd (ac ih.kd (ac ir.kd (ac it.kd (ac rfl (ac im.kd (ac jn.kd (ac ip.kd (ac iq.kd aT)))))))))))) q3_7
 refine af J J (bO) (iD J J k3_7 sP h33.one J fun w3_9 q3_9 k3_9=>?_)
 have x3_9:=aH.of_new (x3_7) q3_9 l4
 have m3_9:=Kq.of1 (p:=[2,3,3,3,3,3,3,0,3,3,3,3]) k3_7 (ac rfl (ac iu.kd (ac io.kd (ac il.kd (ac ih.kd (ac ir.kd (ac it.kd (ac rfl (ac im.kd (ac jn.kd (ac h30.kd (ac iq.kd aT)))))))))))) q3_9
 refine aI (aj (aj ?_))
 have k3z:=k3.ext (x3_9)
 have k5z:=((k5.ext (((x6.trans x16).trans xg3))).other q3_7 (fun e=>by have h1:=k4.lt;have h2:=l5;have h4:=Nc e;omega)).other q3_9 (fun e=>by have h1:=k4.lt;have h2:=l5;have h4:=Nc e;omega)
 refine ae (af J J (bz) (af J J (bG) (af J J (bX) (ak J J (ai MI J (k3_9.cell (i:=1) J)) (bn J J (bB MI (iu.ext (x3.trans x3_9))) (ab J J (aI (aJ ?_))))))))
 have j1_k6:=((((k6.ext x16).ext xg3).other q3_7 fun e=>by have h1:=k4.lt;have h2:=l6;have h3:=(x5).size;have h4:=Nc e;omega).other q3_9 fun e=>by have h1:=k4.lt;have h2:=l6;have h3:=(x5).size;have h4:=Nc e;omega)
 refine fi (fun(i:Nat) (L:List ig) (vq:Value)=>[(3,.pointer (some ⟨g3,0,none⟩)),(4,.pointer (some ⟨g4,0,none⟩)),(5,.pointer (some ⟨g5,0,none⟩)),(6,.pointer (some ⟨g6,0,none⟩)),(39,su),(40,I (s.q.g.us.length:Int)),(41,I (i:Int))]) (fun(i:Nat) (L:List ig) (vq:Value) w'=>aH w w'∧i≤s.q.g.us.length∧B8 d s bits i L∧LQ w g4 ⟨s.q,s.pa,L⟩ su so sl sh sr st sm sn vg30 vq w'∧dE g3 137 [xC d] w'∧dE g5 3 [I (bits:Int)] w'∧dE g6 57 [I 0,.slice none 0 0,.slice none 0 0,.slice none 0 0,.slice none 0 0,.slice none 0 0,.slice none 0 0,B false,.slice none 0 0,.slice none 0 0,.slice none 0 0,.slice none 0 0] w') (fun(i:Nat) (L:List ig) (vq:Value)=>s.q.g.us.length-i) (0) ([]) (vg33) ⟨J,J,J,J,J,J,J,trivial⟩ ⟨(x3.trans x3_9),by omega,⟨⟨J,ns.nil,fun j hj=>by omega,fun j hj=>by omega⟩,⟨ns.nil,fun i h=>by simp at h⟩,fun h=>by simp at h⟩,⟨k3_9,mB.dsv (bh.st cu (bh.st cu h30 m3_7 q3_7 (aN (k4.ext e2) h30).symm (by decide)) m3_9 q3_9 (aN k3_7 (bh.st cu h30 m3_7 q3_7 (aN (k4.ext e2) h30).symm (by decide))).symm (by decide)),(bh.st qS (bh.st qS h33 m3_7 q3_7 (aN (k4.ext e2) h33).symm (by decide)) m3_9 q3_9 (aN k3_7 (bh.st qS h33 m3_7 q3_7 (aN (k4.ext e2) h33).symm (by decide))).symm (by decide))⟩,k3z,k5z,j1_k6⟩ ?_
 rintro i L vq wL ⟨eL,hi,hI,⟨kS,hpa,hLm⟩,k3L,k5L,k6L⟩
 refine aj ?_
 rcases Decidable.em (i<s.q.g.us.length) with hA|hA
 ·refine ae (ao J J J (bF (by omega) aX) (aI (aj (cg J (aA (ah (aj (aJ (bc (ab J J ?_))))))))))
  obtain⟨a44,c44,e44,he44,p44,q44,h44⟩:=eN (iu.ext eL) (i:=i)
  obtain⟨x44_0,x44_1,x44_2,rfl,f44_0,f44_1,f44_2⟩:=cl h44
  refine aE J J J (p44 _) (ak J J (q44.ld MG J ay) ?_)
  obtain⟨g8,w8,hr8,l8,x8,k8⟩:=pB (P:=Tryz.prog) (w:=wL) (t:=3) (z:=I 0) (l:=[I 0]) (by kernel_rfl) rfl
  refine mU J hr8 (ce cd J fun g9 w9 l9 x9 k9=>?_)
  obtain⟨w6_5,s6_5,q6_5,k6_5⟩:=Lw (P:=Tryz.prog) (t:=3) (v:=I (i:Int)) HI rfl (k8.ext x9)
  refine dH J J s6_5 ?_
  have k9a:=k9.other q6_5 fun e=>by have h1:=k8.lt;have h2:=l9;have h4:=Nc e;omega
  refine bD J J k9a J ay (am.cons f44_0.one (am.cons J (am.cons f44_1.one (am.cons f44_2.one am.nil)))) fun w6_6 q6_6 k6_6=>?_
  have x6_6:=aH.of_new ((aH.of_new ((x8.trans x9)) q6_5 l8)) q6_6 (Nb (x8).size l9)
  refine dR (mm (us:=[]) (vs:=[.pointer (some ⟨g9,0,none⟩),.pointer (some ⟨g3,0,none⟩),.pointer (some ⟨g4,0,none⟩),.pointer (some ⟨g8,0,none⟩),.pointer (some ⟨g5,0,none⟩)]) J J J (aa J J (dR (ab J J ?_))))
  have kF9:=k6_6
  have eA:aH wL w6_6:=x6_6
  have n9:g9≠g4:=by have h1:=kS.lt;have h2:=l9;have h3:=x8.size;omega
  have n8:g8≠g4:=by have h1:=kS.lt;have h2:=l8;omega
  have n3:g3≠g4:=by have h1:=k3.lt;have h2:=l4;omega
  have n5:g5≠g4:=by have h1:=k4.lt;have h2:=l5;omega
  have n6:g6≠g4:=by have h1:=k4.lt;have h2:=l6;have h3:=x5.size;omega
  have kJ:=k6_5.other q6_6 fun e=>by have h1:=k8.lt;have h2:=l9;have h4:=Nc e;omega
  have hus:=hs.g.us i hA
  have hLl:=hI.1.len
  have hk0:=hI.2.1.bnd (q:=s.q) (pa:=s.pa) (j:=i) (by omega) (by omega) (by omega) (by omega)
  have kn0:(cy L i).1=0:=by rw[hI.2.1.shp.best];exact if_neg (by omega)
  refine gX J xj J J ((xk (w0:=w) (s:=⟨s.q,s.pa,L⟩) (p:=e44) (up:=false) hd hbi hT (eL.trans x6_6) iu io il ih ir it im jn (f44_0.ext x6_6) (f44_1.ext x6_6) (f44_2.ext x6_6) ⟨kS.ext eA,hpa.ext eA,bh.ext hLm eA⟩ (Nb x3.size l4) kF9 (k3L.ext eA) kJ (k5L.ext eA) hs hp hpl hk0 (E8 (by omega)) (by rw[he44];exact hus.1) (by rw[he44];exact hus.2) (by show L.length≤8;omega) kn0)) ?_
  rintro v48 w48 ⟨e48,m1,vq1,⟨kS1,hpa1,hLm1⟩,hu1,hup1,hv1,hpf1,kp1,ja1,jb1,jc1⟩
  refine aI (ae (ab J J ?_))
  obtain⟨hs1,hs2,hs3⟩:=hI.step1 hs hp hA hu1 hup1 (by rw[←he44];exact hv1)
  have hLl1:(L++[m1]).length=2*i+1:=by simp[hLl]
  have hk1:=hs1.bnd (q:=s.q) (pa:=s.pa) (j:=i) (by omega) (by omega) (by omega) (by omega)
  have kn1:(cy (L++[m1]) i).2=0:=by rw[hs1.shp.best];exact if_neg (by omega)
  refine gX J xj J J ((xk (w0:=w) (s:=⟨s.q,s.pa,L++[m1]⟩) (p:=e44) (up:=true) hd hbi hT e48 iu io il ih ir it im jn ja1 jb1 jc1 ⟨kS1,hpa1,hLm1⟩ (Nb x3.size l4) (kp1 _ _ _ kF9 n9 (by decide)) (kp1 _ _ _ (k3L.ext eA) n3 (by decide)) (kp1 _ _ _ kJ n8 (by decide)) (kp1 _ _ _ (k5L.ext eA) n5 (by decide)) hs hp hpl hk1 (E8 (by omega)) (by rw[he44];exact hus.1) (by rw[he44];exact hus.2) (by show(L++[m1]).length≤8;omega) kn1)) ?_
  rintro v50 w50 ⟨e50,m2,vq2,⟨kS2,hpa2,hLm2⟩,hu2,hup2,hv2,hpf2,kp2,ja2,jb2,jc2⟩
  refine ar (aW (ah (ae (ao (r:=I ((i+1:Nat):Int)) J J J (by have e:((i+1:Nat):Int)=(i:Int)+1:=(by omega);rw[e];exact aY) (ab J J (ar (cK (i+1) (L++[m1]++[m2]) (vq2) ⟨J,J,J,J,J,J,J,trivial⟩ ⟨e50,by omega,hI.step hs hp hA hu1 hup1 hu2 hup2 (by rw[←he44];exact hv1) (by rw[←he44];exact hv2) (by rw[←he44];exact hpf1) (by rw[←he44];exact hpf2),⟨kS2,hpa2,hLm2⟩,kp2 _ _ _ (kp1 _ _ _ (k3L.ext eA) n3 (by decide)) n3 (by decide),kp2 _ _ _ (kp1 _ _ _ (k5L.ext eA) n5 (by decide)) n5 (by decide),kp2 _ _ _ (kp1 _ _ _ (k6L.ext eA) n6 (by decide)) n6 (by decide)⟩ (by omega))))))))
 ·refine ae (ao J J J (be (by omega) aX) (aI (aj (bU J (bJ (aV (aV (bP (ah (aj ?_))))))))))
  obtain rfl:i=s.q.g.us.length:=by omega
  refine ae (ak J J (kS.ld MM J bg) (bD J J k6L J bg (am.cons J (am.cons iu.one (am.cons io.one (am.cons il.one (am.cons ih.one (am.cons ir.one (am.cons it.one (am.cons J (am.cons im.one (am.cons jn.one (am.cons hpa.one (am.cons hLm.one am.nil)))))))))))) fun w11_1 q11_1 k11_1=>?_))
  have x11_1:=aH.of_new (eL) q11_1 (Nb (((x3.trans x4).trans x5)).size l6)
  have m11_1:=Kq.of1 (p:=[2,3,3,3,3,3,3,0,3,3,3,3]) k6L (ac rfl (ac rfl (ac rfl (ac rfl (ac rfl (ac rfl (ac rfl (ac rfl (ac rfl (ac rfl (ac rfl (ac rfl aT)))))))))))) q11_1
  refine aa J J (aI (aD (bp J (.cell J (k11_1.ld MM J bg) (.tmp J .nil)) ?_)))
  exact⟨_,J,x11_1,⟨s.q,s.pa,L⟩,_,_,⟨J,J,hI⟩,J,(hpa.kq m11_1),pW.dsv (bh.st qS hLm m11_1 q11_1 (aN k6L hLm).symm (by decide))⟩
end Go.Rl
namespace Go.Rl
open Go.RowKit Go.Proofs
theorem yV:az Tryz.prog 355:=⟨_,Tryz.func355,by kernel_rfl,rfl⟩
theorem yW:az Tryz.prog 356:=⟨_,Tryz.func356,by kernel_rfl,rfl⟩
theorem B9:az Tryz.prog 354:=⟨_,Tryz.func354,by kernel_rfl,rfl⟩
theorem uT:az Tryz.prog 347:=⟨_,Tryz.func347,by kernel_rfl,rfl⟩
theorem D0:az Tryz.prog 332:=⟨_,Tryz.func332,by kernel_rfl,rfl⟩
theorem yX {w:World} {i:Int}:Calls Tryz.prog 355 #[I i] w (cA fun r w'=>aH w w'∧bQ dZ (⟨[⟨i,1⟩],0⟩:dx) r w'):=by
 refine enter Tryz.func355 J J J (bc (ce cd J fun g2 w2 l2 x2 k2=>(dR (ab J J (aq kM J J (EO) ?_)))))
 rintro v4 w4 ⟨x4,⟨x4_0,x4_1,rfl,f4_0,f4_1⟩⟩
 refine bV (r:=.agg #[I i,B ((1:Rat)).sg,x4_0,x4_1]) J J (by obtain⟨_,_,_,rfl⟩:=f4_0.isS;obtain⟨_,_,_,rfl⟩:=f4_1.isS;exact run_build _ _ _ _ (by kernel_rfl)) ?_
 obtain⟨v6,w6,hr6,x6,b6⟩:=wh (w:=w4) (j7 (a:=(⟨i,(1:Rat)⟩:dU)) f4_0 f4_1)
 refine bN (vs:=[(0,.agg #[I i,B ((1:Rat)).sg,x4_0,x4_1])]) J J hr6 (bV (r:=.agg #[v6,B false,.slice none 0 0,.slice none 0 0]) J J (by obtain⟨_,_,_,rfl⟩:=b6.isS;exact run_build _ _ _ _ (by kernel_rfl)) (bD J J (k2.ext (x4.trans x6)) J ay (am.cons b6.one (am.cons J (am.cons J (am.cons J am.nil)))) fun w1_5 q1_5 k1_5=>?_))
 have x1_5:=aH.of_new (((x2.trans x4).trans x6)) q1_5 l2
 have m1_5:=Kq.of1 (p:=[3,0,3,3]) (k2.ext (x4.trans x6)) (ac rfl (ac rfl (ac rfl (ac rfl aT)))) q1_5
 refine aI (aD (bp J (.cell J (k1_5.ld MG J ay) .nil) ?_))
 exact⟨_,J,x1_5,bQ.mk (cv (a:=⟨[⟨i,1⟩],0⟩) (b6.kq m1_5) (bH.nil _) (bH.nil _))⟩
theorem yY {w:World} {x:Rat} {v:Value} (hv:QV x v w) (hB:bt x≤34359738368):Calls Tryz.prog 356 #[v] w (cA fun r w'=>aH w w'∧bQ dZ (⟨[],x⟩:dx) r w'):=by
 obtain⟨xa,xb,rfl,ia,ib⟩:=hv
 have hnl:=zx x
 have hdl:=zy x
 refine enter (vs:=[.agg #[B x.sg,xa,xb]]) Tryz.func356 J J J (bc (cj J J fun g1 w1 l1 x1 k1=>ce cd J fun g2 w2 l2 x2 k2=>(dR (ak J J ((k1.ext x2).ld MC J ag) (aq fO J J (vu (aU.mk (ia.ext (x1.trans x2)) (ib.ext (x1.trans x2))) (by omega)) ?_)))))
 rintro v4 w4 ⟨x4,⟨x4_0,x4_1,rfl,f4_0,f4_1⟩⟩
 refine bV (r:=.agg #[.slice none 0 0,B x.sg,x4_0,x4_1]) J J (by obtain⟨_,_,_,rfl⟩:=f4_0.isS;obtain⟨_,_,_,rfl⟩:=f4_1.isS;exact run_build _ _ _ _ (by kernel_rfl)) (bD J J (k2.ext x4) J ay (am.cons J (am.cons J (am.cons f4_0.one (am.cons f4_1.one am.nil)))) fun w1_3 q1_3 k1_3=>?_)
 have x1_3:=aH.of_new ((x2.trans x4)) q1_3 l2
 have m1_3:=Kq.of1 (p:=[3,0,3,3]) (k2.ext x4) (ac rfl (ac rfl (ac rfl (ac rfl aT)))) q1_3
 refine aI (aD (bp J (.cell J (k1_3.ld MG J ay) .nil) ?_))
 exact⟨_,J,(x1.trans x1_3),bQ.mk (cv (a:=⟨[],x⟩) (cF.nil _ _) (f4_0.kq m1_3) (f4_1.kq m1_3))⟩
theorem Ca {w:World} {k i:Int}:Calls Tryz.prog 354 #[.agg #[I k,I i,I 0,I 0]] w (cA fun r w'=>aH w w'∧Is (B true) r w'):=by
 refine enter (vs:=[.agg #[I k,I i,I 0,I 0]]) Tryz.func354 J J J (bc (cj J J fun g1 w1 l1 x1 k1=>aa J J (dR (af J J (lH) (ak J J (ai ME J (k1.cell (i:=2) J)) (ao J J J (bF J aO) (ab J J (an J (af J J (lI) (an J (ak J J (ai ME J (k1.cell (i:=3) J)) (an J (ao J J J (bF J aO) (aR J J J (aa J J (aI (aD (aF J J ?_))))))))))))))))))
 exact⟨_,J,x1,J⟩
def rK (s:eX) (k:Int) (i:Nat):dx:=if k=1 then kf ⟨[⟨i,1⟩],0⟩ ⟨[],s.q.r.lo.getD i 0⟩ else kf ⟨[],s.q.r.hi.getD i 0⟩ ⟨[⟨i,1⟩],0⟩
theorem uU {w:World} {s:eX} {k:Int} {i:Nat} {v:Value} (hv:bQ ro s v w) (hs:n7 s.q) (hk:k=1∨k=2) (hi:(i:Int)<s.q.g.inp):
 Calls Tryz.prog 347 #[v,.agg #[I k,I (i:Int),I 0,I 0]] w (cA fun r w'=>aH w w'∧gQ (bQ dZ (rK s k i)) (Is (B true)) r w'):=by
 obtain⟨_,rfl,ra⟩:=hv
 obtain⟨su,so,sl,sh,sr,st,sm,sn,sp,sq,rfl,iu,io,il,ih,ir,it,im,jn,ip,iq⟩:=d7 ra
 have h3:=hs.r.ll
 have h4:=hs.r.hl
 have hbl:bt (s.q.r.lo[i]'(by omega))≤20:=hs.r.lb _ (Nh _)
 have hbh:bt (s.q.r.hi[i]'(by omega))≤20:=hs.r.hb _ (Nh _)
 have hgl:s.q.r.lo.getD i 0=s.q.r.lo[i]'(by omega):=iC _
 have hgh:s.q.r.hi.getD i 0=s.q.r.hi[i]'(by omega):=iC _
 have hb1:∀c:Rat,ew (⟨[],c⟩:dx)=bt c:=fun c=>by simp[ew,gH]
 have hb2:ew (⟨[⟨i,1⟩],0⟩:dx)≤8:=by
  have h1:=pp
  have h0:=tY
  show bt 0+(bt 1+0)≤8
  omega
 refine enter (vs:=[.agg #[I s.q.g.inp,su,so,sl,sh,sr,st,B s.q.go.ct.sg,sm,sn,sp,sq],.agg #[I k,I (i:Int),I 0,I 0]]) Tryz.func347 J J J (bc (cj J J fun g2 w2 l2 x2 k2=>cj J J fun g3 w3 l3 x3 k3=>ce cd J fun g4 w4 l4 x4 k4=>(aa J J (aI (aj (bj 7 [2,3,4,6,7,14] (by kernel_rfl) (by kernel_rfl) (al J J (fun w hw=>oG) (ap J J (fun w hw=>ai ME J (hw.cell_some (x4.cell_some (k3.cell (i:=1) J)))) (al J J (fun w hw=>bz) (al J J (fun w hw=>f8) (ap J J (fun w hw=>((k2.ext (x3.trans x4)).ext hw).ldO (ms:=[sl,sh,sr]) (o:=3) (ef J) M1 J dM) (tL (b:=w4.heap.size) (A9.stable _ _ _) jT J (fun w hw=>hw.size) (gA J J (bA ?_))))))))))))))
 rintro wg1 xg1 _ rfl _ rfl _ rfl _ rfl _ ⟨g7,rfl,l7,k7⟩ _ rfl
 refine bD J J k7 J dM (am.cons il.one (am.cons ih.one (am.cons ir.one am.nil))) fun w1_7 q1_7 k1_7=>?_
 have x1_7:=aH.of_new (xg1) q1_7 l7
 refine aI (aj (bc (ak J J ((k3.ext (x4.trans x1_7)).ld MS J cX) (aq B9 J J (Ca) ?_))))
 rintro v16 w16 ⟨x16,rfl⟩
 refine cC J J cn (ab J J (an J (ab J J (an J (ao J J J (be (by omega) aX) (aG J J J (aI (bU J (aA (ah (aj (aJ (aj ?_)))))))))))))
 rcases hk with rfl|rfl
 ·refine ae (af J J (fK) (ak J J (ai ME J (((x4.trans x1_7).trans x16).cell_some (k3.cell (i:=0) J))) ?_))
  refine ao J J J (bF J aO) (ab J J (an J (ab J J (an J (af J J (cO) ?_)))))
  have e2:=(((x2.trans x3).trans x4).trans x1_7).trans x16
  refine an J (ak J J (ai MK J (x16.cell_some (k1_7.cell (i:=0) J))) (an J (bn J J (bB MK (il.ext e2)) (an J (ao J J J (bF (by omega) aX) (aR J J J (aa J J (aI (cg J (aj (bj 9 [4,42] (by kernel_rfl) (by kernel_rfl) (ax J J (es (S:=bQ dZ ((⟨[⟨(i:Int),1⟩],0⟩:dx))) yV (bQ.stable _ _) J J (fun w hw=>yX) (al J J (fun w hw=>cO) (ap J J (fun w hw=>ai MK J (hw.cell_some (x16.cell_some (k1_7.cell (i:=0) J)))) (ax J J ?_))))))))))))))))
  obtain⟨a39,c39,e39,he39,p39,q39,h39⟩:=dJ (il.ext e2) (i:=i)
  obtain⟨x39_0,x39_1,rfl,f39_0,f39_1⟩:=dO h39
  refine aK J J J (fun w _=>p39 w) (ap J J (fun w hw=>(q39.ext hw).ld Tryz.underlying49 J ag) (es (S:=bQ dZ ((⟨[],e39⟩:dx))) yW (bQ.stable _ _) J J (fun w hw=>yY (x:=e39) ((aU.mk f39_0 f39_1).ext hw) (by rw[he39];omega)) (bZ (S:=bQ dZ (kf ((⟨[⟨(i:Int),1⟩],0⟩:dx)) ((⟨[],e39⟩:dx)))) qZ (bQ.stable _ _) J (fun w hw=>by rintro v35 h35 v41 h41;exact q5 h35 h41 (by have h1:ew (⟨[],e39⟩:dx)=bt e39:=hb1 e39;rw[←he39] at hbl;simp only[List.length_cons,List.length_nil];omega)) (bA ?_))))
  rintro wg5 xg5 _ rfl _ ⟨_,rfl,r42⟩
  obtain⟨x42_0,x42_1,x42_2,rfl,f42_0,f42_1,f42_2⟩:=cl r42
  have e4:=(x1_7.trans x16).trans xg5
  refine bD J J (k4.ext e4) J ay (am.cons f42_0.one (am.cons J (am.cons f42_1.one (am.cons f42_2.one am.nil)))) fun w5_9 q5_9 k5_9=>?_
  have x5_9:=aH.of_new ((((x4.trans x1_7).trans x16).trans xg5)) q5_9 l4
  have m5_9:=Kq.of1 (p:=[3,0,3,3]) (k4.ext e4) (ac rfl (ac rfl (ac rfl (ac rfl aT)))) q5_9
  refine aa J J (aI (aD (bK (a0 (bp J (.cell J (k5_9.ld MG J ay) (.tmp J .nil)) ?_)))))
  have hv:rK s 1 i=kf ⟨[⟨(i:Int),1⟩],0⟩ ⟨[],e39⟩:=by rw[he39,←hgl];rfl
  exact⟨_,J,((x2.trans x3).trans x5_9),_,_,J,by rw[hv];exact bQ.mk (cv (f42_0.kq m5_9) (f42_1.kq m5_9) (f42_2.kq m5_9)),J⟩
 ·refine ae (af J J (fK) (ak J J (ai ME J (((x4.trans x1_7).trans x16).cell_some (k3.cell (i:=0) J))) ?_))
  refine ao J J J (be (by decide) aO) (ab J J (bf J J J (bf J J J (bf J J J (bf J J J (bf J J J (aG J J J (aa J J (aI (bU J (bc (af J J (fK) (ak J J (ai ME J (((x4.trans x1_7).trans x16).cell_some (k3.cell (i:=0) J))) (ao J J J (bF J aO) (ab J J (an J (ab J J (an J (af J J (du) ?_)))))))))))))))))))
  have e3:=(((x2.trans x3).trans x4).trans x1_7).trans x16
  refine an J (ak J J (ai MK J (x16.cell_some (k1_7.cell (i:=1) J))) (an J (bn J J (bB MK (ih.ext e3)) (an J (ao J J J (bF (by omega) aX) (aR J J J (aa J J (aI (cg J (bc (af J J (du) (ak J J (ai MK J (x16.cell_some (k1_7.cell (i:=1) J))) (ab J J ?_)))))))))))))
  obtain⟨a57,c57,e57,he57,p57,q57,h57⟩:=dJ (ih.ext e3) (i:=i)
  obtain⟨x57_0,x57_1,rfl,f57_0,f57_1⟩:=dO h57
  refine aE J J J (p57 _) (ak J J (q57.ld MC J ag) (aq yW J J ((yY (x:=e57) (aU.mk f57_0 f57_1) (by rw[he57];omega))) ?_))
  rintro v59 w59 ⟨x59,⟨_,rfl,r59⟩⟩
  obtain⟨x59_0,x59_1,x59_2,rfl,f59_0,f59_1,f59_2⟩:=cl r59
  refine ab J J (aq yV J J (yX) ?_)
  rintro v61 w61 ⟨x61,⟨_,rfl,r61⟩⟩
  obtain⟨x61_0,x61_1,x61_2,rfl,f61_0,f61_1,f61_2⟩:=cl r61
  refine aq qZ J J (q5 (bQ.mk (cv (f59_0.ext x61) (f59_1.ext x61) (f59_2.ext x61))) (bQ.mk (cv f61_0 f61_1 f61_2)) (by have h1:ew (⟨[],e57⟩:dx)=bt e57:=hb1 e57;rw[←he57] at hbh;simp only[List.length_cons,List.length_nil];omega)) ?_
  rintro v62 w62 ⟨x62,⟨_,rfl,r62⟩⟩
  obtain⟨x62_0,x62_1,x62_2,rfl,f62_0,f62_1,f62_2⟩:=cl r62
  have e1:=(((x1_7.trans x16).trans x59).trans x61).trans x62
  refine bD J J (k4.ext e1) J ay (am.cons f62_0.one (am.cons J (am.cons f62_1.one (am.cons f62_2.one am.nil)))) fun w7_9 q7_9 k7_9=>?_
  have x7_9:=aH.of_new ((((((x4.trans x1_7).trans x16).trans x59).trans x61).trans x62)) q7_9 l4
  have m7_9:=Kq.of1 (p:=[3,0,3,3]) (k4.ext e1) (ac rfl (ac rfl (ac rfl (ac rfl aT)))) q7_9
  refine aa J J (aI (aD (bK (a0 (bp J (.cell J (k7_9.ld MG J ay) (.tmp J .nil)) ?_)))))
  have hv:rK s 2 i=kf ⟨[],e57⟩ ⟨[⟨(i:Int),1⟩],0⟩:=by rw[he57,←hgh];rfl
  exact⟨_,J,((x2.trans x3).trans x7_9),_,_,J,by rw[hv];exact bQ.mk (cv (f62_0.kq m7_9) (f62_1.kq m7_9) (f62_2.kq m7_9)),J⟩
end Go.Rl
namespace Go.Rl
open Go.RowKit Go.Proofs
abbrev fnI:Value:=.func (.func 347) #[] #[]
abbrev Ke:Value:=.func (.func 348) #[] #[]
abbrev fnL:List Value:=[.nilFunc,fnI,fnI,fnI,fnI,Ke,Ke,Ke,Ke,Ke,Ke,Ke,Ke,Ke]
theorem D1 {w:World} {s:eX} {k:Int} {i:Nat} {v:Value} (hv:bQ ro s v w) (hs:n7 s.q) (hk:k=1∨k=2) (hi:(i:Int)<s.q.g.inp):
 Calls Tryz.prog 332 #[v,.agg #[I k,I (i:Int),I 0,I 0]] w (cA fun r w'=>aH w w'∧gQ (bQ dZ (rK s k i)) (Is (B true)) r w'):=by
 obtain⟨_,rfl,ra⟩:=hv
 obtain⟨su,so,sl,sh,sr,st,sm,sn,sp,sq,rfl,iu,io,il,ih,ir,it,im,jn,ip,iq⟩:=d7 ra
 refine enter (vs:=[.agg #[I s.q.g.inp,su,so,sl,sh,sr,st,B s.q.go.ct.sg,sm,sn,sp,sq],.agg #[I k,I (i:Int),I 0,I 0]]) Tryz.func332 J J J (bc (cj J J fun g2 w2 l2 x2 k2=>cj J J fun g3 w3 l3 x3 k3=>ce cd J fun g4 w4 l4 x4 k4=>(aa J J (dR (bV (r:=.agg fnL.toArray) J J (by exact run_build _ _ _ _ (by kernel_rfl)) ?_)))))
 obtain⟨g6,w6,hr6,l6,x6,k6⟩:=pB (P:=Tryz.prog) (w:=w4) (t:=375) (z:=.agg (List.replicate 14 Value.nilFunc).toArray) (l:=List.replicate 14 Value.nilFunc) (by kernel_rfl) rfl
 refine mU J hr6 ?_
 obtain⟨w1_2,s1_2,q1_2,k1_2⟩:=k6.stS (P:=Tryz.prog) (t:=375) (m:=fnL) rfl (by kernel_rfl) (fun u hu=>by simp[fnL] at hu;rcases hu with rfl|rfl|rfl<;>rfl)
 refine dH J J s1_2 (aI (aj (bc (af J J (fK) (ak J J (ai ME J ((x4.trans (aH.of_new x6 q1_2 l6)).cell_some (k3.cell (i:=0) J))) (ao J J J (be (by omega) aX) (ab J J (an J (af J J (fK) (an J (ak J J (ai ME J ((x4.trans (aH.of_new x6 q1_2 l6)).cell_some (k3.cell (i:=0) J))) (an J (ao J J J (be (by omega) cz) (aG J J J (ab J J (an J (af J J (bz) (an J (ak J J ((k2.ext ((x3.trans x4).trans (aH.of_new x6 q1_2 l6))).ldO (ms:=[I s.q.g.inp,su,so,sl,sh,sr,st,B s.q.go.ct.sg,sm,sn]) (o:=0) (ef J) MU J cV) ?_)))))))))))))))))))
 have e1:=(x2.trans x3).trans x4
 refine an J (aq gK J J (gL (bQ.mk (gr (iu.ext (e1.trans (aH.of_new x6 q1_2 l6))) (io.ext (e1.trans (aH.of_new x6 q1_2 l6))) (il.ext (e1.trans (aH.of_new x6 q1_2 l6))) (ih.ext (e1.trans (aH.of_new x6 q1_2 l6))) (ir.ext (e1.trans (aH.of_new x6 q1_2 l6))) (it.ext (e1.trans (aH.of_new x6 q1_2 l6))) (im.ext (e1.trans (aH.of_new x6 q1_2 l6))) (jn.ext (e1.trans (aH.of_new x6 q1_2 l6))))) hs) ?_)
 rintro v19 w19 ⟨x19,rfl⟩
 refine an J (cC J J cn (aG J J J (aI (bU J (aA (ah (aj ?_)))))))
 rcases hk with rfl|rfl
 ·refine m5 6 [(9,8),(8,7)] [6,7,8,9,10] [4,26,27,28] (by kernel_rfl) (by kernel_rfl) (by kernel_rfl) J ?_
  refine al J J (fun w hw=>fK) (ap J J (fun w hw=>ai ME J (hw.cell_some (((x4.trans (aH.of_new x6 q1_2 l6)).trans x19).cell_some (k3.cell (i:=0) J)))) (aK J J J (fun w hw=>(Hx Tryz.underlying375 (by kernel_rfl) (i:=1) (by omega) .i64)) (ap J J (fun w hw=>(ai Tryz.underlying366 J (hw.cell_some ((x19).cell_some (k1_2.cell (i:=1) J))))) (ap J J (fun w hw=>((k2.ext (((x3.trans x4).trans (aH.of_new x6 q1_2 l6)).trans x19)).ext hw).ld MM J bg) (ap J J (fun w hw=>((k3.ext ((x4.trans (aH.of_new x6 q1_2 l6)).trans x19)).ext hw).ld MS J cX) (bA ?_))))))
  rintro wg4 xg4 _ rfl _ rfl _ rfl _ rfl
  have e2:=(x2.trans x3).trans x4
  refine gX J uT J J ((uU (k:=1) (bQ.mk (dm (iu.ext (((e2.trans (aH.of_new x6 q1_2 l6)).trans x19).trans xg4)) (io.ext (((e2.trans (aH.of_new x6 q1_2 l6)).trans x19).trans xg4)) (il.ext (((e2.trans (aH.of_new x6 q1_2 l6)).trans x19).trans xg4)) (ih.ext (((e2.trans (aH.of_new x6 q1_2 l6)).trans x19).trans xg4)) (ir.ext (((e2.trans (aH.of_new x6 q1_2 l6)).trans x19).trans xg4)) (it.ext (((e2.trans (aH.of_new x6 q1_2 l6)).trans x19).trans xg4)) (im.ext (((e2.trans (aH.of_new x6 q1_2 l6)).trans x19).trans xg4)) (jn.ext (((e2.trans (aH.of_new x6 q1_2 l6)).trans x19).trans xg4)) (ip.ext (((e2.trans (aH.of_new x6 q1_2 l6)).trans x19).trans xg4)) (iq.ext (((e2.trans (aH.of_new x6 q1_2 l6)).trans x19).trans xg4)))) hs (.inl J) hi)) ?_
  rintro v29 w29 ⟨x29,⟨_,_,rfl,⟨_,rfl,r29_a⟩,rfl⟩⟩
  obtain⟨x29_a_0,x29_a_1,x29_a_2,rfl,f29_a_0,f29_a_1,f29_a_2⟩:=cl r29_a
  refine aB J J cY (aB J J cZ (bD J J (k4.ext ((((aH.of_new x6 q1_2 l6).trans x19).trans xg4).trans x29)) J ay (am.cons f29_a_0.one (am.cons J (am.cons f29_a_1.one (am.cons f29_a_2.one am.nil)))) fun w4_9 q4_9 k4_9=>?_))
  have x4_9:=aH.of_new (((((x4.trans (aH.of_new x6 q1_2 l6)).trans x19).trans xg4).trans x29)) q4_9 l4
  have m4_9:=Kq.of1 (p:=[3,0,3,3]) (k4.ext ((((aH.of_new x6 q1_2 l6).trans x19).trans xg4).trans x29)) (ac rfl (ac rfl (ac rfl (ac rfl aT)))) q4_9
  refine aa J J (ar (pO (ah (aD (bp J (.cell J (k4_9.ld MG J ay) (.tmp J .nil)) ?_)))))
  exact⟨_,J,((x2.trans x3).trans x4_9),_,_,J,bQ.mk (cv (f29_a_0.kq m4_9) (f29_a_1.kq m4_9) (f29_a_2.kq m4_9)),J⟩
 ·refine m5 6 [(9,8),(8,7)] [6,7,8,9,10] [4,26,27,28] (by kernel_rfl) (by kernel_rfl) (by kernel_rfl) J ?_
  refine al J J (fun w hw=>fK) (ap J J (fun w hw=>ai ME J (hw.cell_some (((x4.trans (aH.of_new x6 q1_2 l6)).trans x19).cell_some (k3.cell (i:=0) J)))) (aK J J J (fun w hw=>(Hx Tryz.underlying375 (by kernel_rfl) (i:=2) (by omega) .i64)) (ap J J (fun w hw=>(ai Tryz.underlying366 J (hw.cell_some ((x19).cell_some (k1_2.cell (i:=2) J))))) (ap J J (fun w hw=>((k2.ext (((x3.trans x4).trans (aH.of_new x6 q1_2 l6)).trans x19)).ext hw).ld MM J bg) (ap J J (fun w hw=>((k3.ext ((x4.trans (aH.of_new x6 q1_2 l6)).trans x19)).ext hw).ld MS J cX) (bA ?_))))))
  rintro wg4 xg4 _ rfl _ rfl _ rfl _ rfl
  have e3:=(x2.trans x3).trans x4
  refine gX J uT J J ((uU (k:=2) (bQ.mk (dm (iu.ext (((e3.trans (aH.of_new x6 q1_2 l6)).trans x19).trans xg4)) (io.ext (((e3.trans (aH.of_new x6 q1_2 l6)).trans x19).trans xg4)) (il.ext (((e3.trans (aH.of_new x6 q1_2 l6)).trans x19).trans xg4)) (ih.ext (((e3.trans (aH.of_new x6 q1_2 l6)).trans x19).trans xg4)) (ir.ext (((e3.trans (aH.of_new x6 q1_2 l6)).trans x19).trans xg4)) (it.ext (((e3.trans (aH.of_new x6 q1_2 l6)).trans x19).trans xg4)) (im.ext (((e3.trans (aH.of_new x6 q1_2 l6)).trans x19).trans xg4)) (jn.ext (((e3.trans (aH.of_new x6 q1_2 l6)).trans x19).trans xg4)) (ip.ext (((e3.trans (aH.of_new x6 q1_2 l6)).trans x19).trans xg4)) (iq.ext (((e3.trans (aH.of_new x6 q1_2 l6)).trans x19).trans xg4)))) hs (.inr J) hi)) ?_
  rintro v29 w29 ⟨x29,⟨_,_,rfl,⟨_,rfl,r29_a⟩,rfl⟩⟩
  obtain⟨x29_a_0,x29_a_1,x29_a_2,rfl,f29_a_0,f29_a_1,f29_a_2⟩:=cl r29_a
  refine aB J J cY (aB J J cZ (bD J J (k4.ext ((((aH.of_new x6 q1_2 l6).trans x19).trans xg4).trans x29)) J ay (am.cons f29_a_0.one (am.cons J (am.cons f29_a_1.one (am.cons f29_a_2.one am.nil)))) fun w4_9 q4_9 k4_9=>?_))
  have x4_9:=aH.of_new (((((x4.trans (aH.of_new x6 q1_2 l6)).trans x19).trans xg4).trans x29)) q4_9 l4
  have m4_9:=Kq.of1 (p:=[3,0,3,3]) (k4.ext ((((aH.of_new x6 q1_2 l6).trans x19).trans xg4).trans x29)) (ac rfl (ac rfl (ac rfl (ac rfl aT)))) q4_9
  refine aa J J (ar (pO (ah (aD (bp J (.cell J (k4_9.ld MG J ay) (.tmp J .nil)) ?_)))))
  exact⟨_,J,((x2.trans x3).trans x4_9),_,_,J,bQ.mk (cv (f29_a_0.kq m4_9) (f29_a_1.kq m4_9) (f29_a_2.kq m4_9)),J⟩
end Go.Rl
namespace Go.Rl
open Go.RowKit Go.Proofs
theorem Cb:az Tryz.prog 331:=⟨_,Tryz.func331,by kernel_rfl,rfl⟩
theorem GV:az Tryz.prog 291:=⟨_,Tryz.func291,by kernel_rfl,rfl⟩
theorem Ay:az Tryz.prog 214:=⟨_,Tryz.func214,by kernel_rfl,rfl⟩
theorem Cc:az Tryz.prog 130:=⟨_,Tryz.func130,by kernel_rfl,rfl⟩
theorem Cd:az Tryz.prog 61:=⟨_,Tryz.func61,by kernel_rfl,rfl⟩
theorem Az:az Tryz.prog 128:=⟨_,Tryz.func128,by kernel_rfl,rfl⟩
theorem Ce {w:World} {a:eh} {v:Value} (hv:cF iI [a] v w) (h0:0<a.co) (hB:bt a.co≤34359738368):
 Calls Tryz.prog 331 #[v] w (cA fun r w'=>aH w w'∧Is (B true) r w'):=by
 refine enter Tryz.func331 J J J (bc (aa J J (aI (aj (bc (ab J J (bn J J (bB MV hv) (ab J J (aI (aJ (dS (α:=Nat) (fun i=>[(0,v),(5,v),(6,I 1),(7,I (i:Int))]) (fun i w'=>aH w w'∧i≤1) (fun i=>1-i) (0) ⟨J,J,J,J,trivial⟩ ⟨aH.refl _,by omega⟩ ?_)))))))))))
 rintro i wL ⟨eL,hi⟩
 refine aj ?_
 rcases(show i=0∨i=1 by omega) with rfl|rfl
 ·refine ae (ao J J J (bF (by decide) aX) (aI (aj (cg J (aA (ah (aj (aJ (bc (ab J J ?_))))))))))
  obtain⟨a10,c10,e10,he10,p10,q10,h10⟩:=gU (hv.ext eL) (i:=0) (by simp)
  obtain⟨x10_0,x10_1,rfl,f10_0,f10_1⟩:=fJ h10
  refine aE J J J (p10 _) ?_
  have he2:e10=a:=he10
  rw[←he2] at h0 hB
  refine ak J J (q10.ld M2 J eO) (ce oH J fun g4 w4 l4 x4 k4=>(aa J J (bD J J k4 J eO (am.cons J (am.cons J (am.cons J (am.cons J (am.cons J (am.cons f10_0.one (am.cons f10_1.one am.nil))))))) fun w3_5 q3_5 k3_5=>?_)))
  have x3_5:=aH.of_new (x4) q3_5 l4
  refine aI (aj (bj 25 [0,5,6,7,22,36] (by kernel_rfl) (by kernel_rfl) (al J J (fun w hw=>i5) (ap J J (fun w hw=>(k3_5.ext hw).ldO (ms:=[B e10.co.sg,x10_0,x10_1]) (o:=4) (ef J) MC J ag) (es (S:=Is (I (gx e10.co))) cw (bi.is _) J J (fun w hw=>ek ((aU.mk (f10_0.ext x3_5) (f10_1.ext x3_5)).ext hw) (by omega)) (bC J J J (fun w _=>be (fun h=>by have:=jY.1 h;grind) iw) (ax (S:=Is (B false)) J J (au J J (al J J (fun w hw=>i5) (au J J (ap J J (fun w hw=>(k3_5.ext hw).ldO (ms:=[B e10.co.sg,x10_0,x10_1]) (o:=4) (ef J) MC J ag) (au J J (es (S:=Is (B true)) gm (bi.is _) J J (fun w hw=>lJ ((aU.mk (f10_0.ext x3_5) (f10_1.ext x3_5)).ext hw) (by omega)) (au J J (jF J J (fun w _=>cn) (cQ (S:=Is (B false)) J J J (ax (S:=Is (B false)) J J (au J J (ax (S:=Is (I 0)) J J (au J J (bC J J J (fun w _=>be (by decide) bo) (au J J (ax (S:=Is (B false)) J J (bu J J J (bu J J J (bu J J J ?_))))))))))))))))))))))))))
  refine bu J J J (bu J J J (bu J J J (bu J J J (bu J J J (bu J J J (bu J J J (au J J (cQ (S:=Is (B false)) J J J (bA ?_)))))))))
  rintro wg4 xg4 _ hq0
  obtain rfl:=Eq.symm hq0
  rintro _ hq5
  obtain rfl:=Eq.symm hq5
  rintro _ rfl _ rfl _ rfl _ rfl
  refine aG J J J (aI (bU J (aA (aW (ah (ae (ao (r:=I ((1:Nat):Int)) J J J (by have e:((1:Nat):Int)=0+1:=(by omega);rw[e];exact aY) (ab J J (ar (dC (1) ⟨J,J,J,J,trivial⟩ ⟨((eL.trans x3_5).trans xg4),by omega⟩ (by omega)))))))))))
 ·refine ae (ao J J J (be (by decide) aX) (aI (aj (bU J (bJ (aV (aV (bP (ah (bc (aa J J (aI (aD ?_)))))))))))))
  refine aF J J ?_
  exact⟨_,J,eL,J⟩
theorem Jb {s:eX} {k:Int} {i:Nat} (hs:n7 s.q):ew (rK s k i)≤60∧(rK s k i).ts.length≤2:=by
 have hbl:bt (s.q.r.lo.getD i 0)≤20:=vv hs.r.lb (by omega) i
 have hbh:bt (s.q.r.hi.getD i 0)≤20:=vv hs.r.hb (by omega) i
 have h1:=pp
 have h0:=tY
 have hm:bt (-1:Rat)≤3:=by decide
 have hv:ew (⟨[⟨(i:Int),1⟩],0⟩:dx)≤8:=by
  show bt 0+(bt 1+0)≤8
  omega
 have hn:∀c:Rat,ew (⟨[],c⟩:dx)=bt c:=fun c=>by simp[ew,gH]
 unfold rK
 split
 ·have a:=iW ⟨[⟨(i:Int),1⟩],0⟩ ⟨[],s.q.r.lo.getD i 0⟩ (-1)
  have b:=kj (-1) [⟨(i:Int),1⟩] []
  have e:=hn (s.q.r.lo.getD i 0)
  simp only[List.length_nil,List.length_cons] at a b
  unfold kf
  exact⟨by omega,by show(dP (-1) [⟨(i:Int),1⟩] []).length≤2;omega⟩
 ·have a:=iW ⟨[],s.q.r.hi.getD i 0⟩ ⟨[⟨(i:Int),1⟩],0⟩ (-1)
  have b:=kj (-1) [] [⟨(i:Int),1⟩]
  have e:=hn (s.q.r.hi.getD i 0)
  simp only[List.length_nil,List.length_cons] at a b
  unfold kf
  exact⟨by omega,by show(dP (-1) [] [⟨(i:Int),1⟩]).length≤2;omega⟩
theorem GW {w:World} {s:eX} {k:Int} {i:Nat} {c:Rat} {v u:Value} (hv:bQ ro s v w) (hu:cF iI [⟨⟨k,i,0,0⟩,c⟩] u w) (hs:n7 s.q) (hk:k=1∨k=2) (hi:(i:Int)<s.q.g.inp) (h0:0<c) (hB:bt c≤100):
 Calls Tryz.prog 291 #[v,u] w (cA fun r w'=>aH w w'∧gQ (bQ dZ (lj zF (cN (rK s k i) c))) (Is (I 0)) r w'):=by
 obtain⟨_,rfl,ra⟩:=hv
 obtain⟨su,so,sl,sh,sr,st,sm,sn,sp,sq,rfl,iu,io,il,ih,ir,it,im,jn,ip,iq⟩:=d7 ra
 obtain⟨A,hA⟩:∃A:eh,A=⟨⟨k,i,0,0⟩,c⟩:=⟨_,rfl⟩
 rw[←hA] at hu
 have hAc:A.co=c:=by rw[hA]
 refine enter (vs:=[.agg #[I s.q.g.inp,su,so,sl,sh,sr,st,B s.q.go.ct.sg,sm,sn,sp,sq],u]) Tryz.func291 J J J (bc (cj J J fun g2 w2 l2 x2 k2=>ce cd J fun g4 w4 l4 x4 k4=>(aa J J (aI (aj (bc (ab J J (aq Cb J J ((Ce (hu.ext (x2.trans x4)) (by rw[hAc];exact h0) (by rw[hAc];omega))) ?_))))))))
 rintro v12 w12 ⟨x12,rfl⟩
 refine cC J J cn (aI (bU J (aA (ah (bc (ce cd J fun g6 w6 l6 x6 k6=>(aI (aj (bc (ab J J (bn J J (bB MV (hu.ext (((x2.trans x4).trans x12).trans x6))) (ab J J (aI (aJ (sH (fun(n:Nat) (g:dx) (ya:Value) (yb:Value) (yc:Value)=>[(2,.pointer (some ⟨g2,0,none⟩)),(4,.pointer (some ⟨g4,0,none⟩)),(6,.pointer (some ⟨g6,0,none⟩)),(15,u),(16,I 1),(17,I (n:Int))]) (fun(n:Nat) (g:dx) (ya:Value) (yb:Value) (yc:Value) w'=>aH w12 w'∧((n=0∧g=zF)∨(n=1∧g=lj zF (cN (rK s k i) c)))∧dE g6 51 [ya,B g.ct.sg,yb,yc] w'∧cF kW g.ts ya w'∧bH g.ct.nl yb w'∧bH g.ct.dl yc w') (fun(n:Nat) (g:dx) (ya:Value) (yb:Value) (yc:Value)=>1-n) (0) (zF) (.slice none 0 0) (.slice none 0 0) (.slice none 0 0) ⟨J,J,J,J,J,J,trivial⟩ ⟨x6,.inl ⟨J,J⟩,k6,cF.nil _ _,bH.nil _,bH.nil _⟩ ?_)))))))))))))))
 rintro n g ya yb yc wL ⟨eL,hcs,k6L,ka,kb,kc⟩
 refine aj ?_
 rcases(show(n=0∧g=zF)∨(n=1∧g=lj zF (cN (rK s k i) c)) from hcs) with⟨rfl,hg⟩|⟨rfl,hg⟩
 ·refine ae (ao J J J (bF (by decide) aX) (aI (aj (cg J (aA (ah (aj (aJ (bc ?_)))))))))
  have e3:=((x2.trans x4).trans x12).trans eL
  obtain⟨a19,c19,e19,he19,p19,q19,h19⟩:=gU (hu.ext e3) (i:=0) (by simp)
  obtain⟨x19_0,x19_1,rfl,f19_0,f19_1⟩:=fJ h19
  refine aE J J J (p19 _) ?_
  have he2:e19=A:=he19
  have hec:e19.co=c:=by rw[he2,hAc]
  refine ak J J (q19.ld M2 J eO) (ce oH J fun g8 w8 l8 x8 k8=>bD J J k8 J eO (am.cons J (am.cons J (am.cons J (am.cons J (am.cons J (am.cons f19_0.one (am.cons f19_1.one am.nil))))))) fun w6_3 q6_3 k6_3=>?_)
  have x6_3:=aH.of_new (x8) q6_3 l8
  refine dR (ak J J ((k2.ext (((x4.trans x12).trans eL).trans x6_3)).ld MM J bg) (af J J (kE) (ak J J (k6_3.ldO (ms:=[I e19.row.kd,I e19.row.ix,I e19.row.lo,I e19.row.hi]) (o:=0) (ef J) MS J cX) ?_)))
  have e1:=e3.trans x6_3
  refine aq D0 J J ((by rw[show e19=⟨⟨k,i,0,0⟩,c⟩ from he2.trans hA];exact D1 (bQ.mk (dm (iu.ext e1) (io.ext e1) (il.ext e1) (ih.ext e1) (ir.ext e1) (it.ext e1) (im.ext e1) (jn.ext e1) (ip.ext e1) (iq.ext e1))) hs hk hi)) ?_
  rintro v25 w25 ⟨x25,⟨_,_,rfl,⟨_,rfl,r25_a⟩,rfl⟩⟩
  obtain⟨x25_a_0,x25_a_1,x25_a_2,rfl,f25_a_0,f25_a_1,f25_a_2⟩:=cl r25_a
  refine ab J J (aB J J cY (aB J J cZ (ce cd J fun g9 w9 l9 x9 k9=>bD J J k9 J ay (am.cons f25_a_0.one (am.cons J (am.cons f25_a_1.one (am.cons f25_a_2.one am.nil)))) fun w7_8 q7_8 k7_8=>?_)))
  have x7_8:=aH.of_new (x9) q7_8 l9
  refine aa J J (aI (aj (bc (ab J J (cC J J cn (aI (bU J (aA (ah ?_)))))))))
  obtain⟨hb1,hb2⟩:=Jb (k:=k) (i:=i) hs
  have hb3:=nZ (rK s k i) c
  have hb4:((rK s k i).ts.length+1)*bt c≤3*100:=Ns (by omega) hB
  have hb5:=kj c zF.ts (rK s k i).ts
  have hb6:ew g=2:=by rw[hg];rfl
  have hb7:g.ts.length=0:=by rw[hg];rfl
  have hb8:(cN (rK s k i) c).ts.length≤2:=by have:(zF.ts).length=0:=rfl;unfold cN gG;simp only;omega
  refine bj 6 [2,4,6,15,16,17,36] (by kernel_rfl) (by kernel_rfl) ?_
  have e2:=(x6_3.trans x25).trans x7_8
  refine ap J J (fun w hw=>((k6L.ext e2).ext hw).ld MG J ay) (ap J J (fun w hw=>(k7_8.ext hw).ld MG J ay) (al J J (fun w hw=>i5) (ap J J (fun w hw=>((k6_3.ext (x25.trans x7_8)).ext hw).ldO (ms:=[B e19.co.sg,x19_0,x19_1]) (o:=4) (ef J) MC J ag) (ec (S:=bQ dZ (cN (rK s k i) e19.co)) m7 (bQ.stable _ _) J J J (fun w hw=>m8 (f:=rK s k i) (c:=e19.co) ((bQ.mk (cv (f25_a_0.ext x7_8) (f25_a_1.ext x7_8) (f25_a_2.ext x7_8))).ext hw) ((aU.mk (f19_0.ext e2) (f19_1.ext e2)).ext hw) (by rw[hec];omega)) (bZ (S:=bQ dZ (lj g (cN (rK s k i) e19.co))) yD (bQ.stable _ _) J (fun w hw=>by rintro _ rfl v35 h35;exact(Gf (f:=g) (g:=cN (rK s k i) e19.co) ((bQ.mk (cv (ka.ext e2) (kb.ext e2) (kc.ext e2))).ext hw) h35 (by rw[hec];omega))) (bA ?_))))))
  rintro wg10 xg10 _ rfl _ rfl _ rfl _ hq15
  obtain rfl:=Eq.symm hq15
  rintro _ rfl _ rfl _ ⟨_,rfl,r36⟩
  obtain⟨x36_0,x36_1,x36_2,rfl,f36_0,f36_1,f36_2⟩:=cl r36
  refine bD J J (k6L.ext (e2.trans xg10)) J ay (am.cons f36_0.one (am.cons J (am.cons f36_1.one (am.cons f36_2.one am.nil)))) fun w10_6 q10_6 k10_6=>?_
  have x10_6:=aH.of_new (((((eL.trans x6_3).trans x25).trans x7_8).trans xg10)) q10_6 l6
  have m10_6:=Kq.of1 (p:=[3,0,3,3]) (k6L.ext (e2.trans xg10)) (ac ka.kd (ac rfl (ac kb.kd (ac kc.kd aT)))) q10_6
  refine ar (aW (ah (ae (ao (r:=I ((1:Nat):Int)) J J J (by have e:((1:Nat):Int)=0+1:=(by omega);rw[e];exact aY) (ab J J (ar (jH (1) (lj g (cN (rK s k i) e19.co)) (_) (_) (_) ⟨J,J,J,J,J,J,trivial⟩ ⟨x10_6,.inr ⟨J,by rw[hg,hec]⟩,k10_6,(f36_0.kq m10_6),(f36_1.kq m10_6),(f36_2.kq m10_6)⟩ (by omega))))))))
 ·refine ae (ao J J J (be (by decide) aX) (aI (aj (bU J (bJ (aV (aV (bP (ah (bc (ak J J (k6L.ld MG J ay) ?_)))))))))))
  refine bD J J (k4.ext (x12.trans eL)) J ay (am.cons ka.one (am.cons J (am.cons kb.one (am.cons kc.one am.nil)))) fun w12_1 q12_1 k12_1=>?_
  have x12_1:=aH.of_new (((x4.trans x12).trans eL)) q12_1 l4
  have m12_1:=Kq.of1 (p:=[3,0,3,3]) (k4.ext (x12.trans eL)) (ac rfl (ac rfl (ac rfl (ac rfl aT)))) q12_1
  refine aa J J (aI (aD (bp J (.cell J (k12_1.ld MG J ay) (.tmp J .nil)) ?_)))
  exact⟨_,J,(x2.trans x12_1),_,_,J,by rw[←hg];exact bQ.mk (cv (ka.kq m12_1) (kb.kq m12_1) (kc.kq m12_1)),J⟩
end Go.Rl
namespace Go.Rl
open Go.RowKit Go.Proofs
def Jc (s:eX) (f:dx) (k:Int) (i:Nat) (c:Rat):Prop:=(k=1∨k=2)∧(i:Int)<s.q.g.inp∧0<c∧bt c≤100∧ew f≤500∧f.ts.length≤100∧i8 f 9223372036854775807=true∧(kf f (lj zF (cN (rK s k i) c))).ts=[]∧0≤(kf f (lj zF (cN (rK s k i) c))).ct
theorem AA {w:World} {s:eX} {f:dx} {k:Int} {i:Nat} {c:Rat} {v u t:Value} (hv:bQ ro s v w) (hf:bQ dZ f t w) (hu:cF iI [⟨⟨k,i,0,0⟩,c⟩] u w) (hs:n7 s.q) (hp:Jc s f k i c):
 Calls Tryz.prog 214 #[v,t,u] w (cA fun r w'=>aH w w'∧Is (B true) r w'):=by
 obtain⟨_,rfl,ra⟩:=hv
 obtain⟨su,so,sl,sh,sr,st,sm,sn,sp,sq,rfl,iu,io,il,ih,ir,it,im,jn,ip,iq⟩:=d7 ra
 obtain⟨_,rfl,rb⟩:=hf
 obtain⟨fa,fb,fc,rfl,ja,jb,jc⟩:=cl rb
 obtain⟨hk,hi,h0,hB,hbf,hln,hok,hr1,hr2⟩:=hp
 obtain⟨G,hG⟩:∃G,G=lj zF (cN (rK s k i) c):=⟨_,rfl⟩
 have hGb:ew G≤800∧G.ts.length≤4:=by
  obtain⟨hb1,hb2⟩:=Jb (k:=k) (i:=i) hs
  have hb3:=nZ (rK s k i) c
  have hb4:((rK s k i).ts.length+1)*bt c≤3*100:=Ns (by omega) hB
  have hb5:=kj c zF.ts (rK s k i).ts
  have hz:(zF.ts).length=0:=rfl
  have hz2:ew zF=2:=rfl
  have hb8:(cN (rK s k i) c).ts.length≤2:=by unfold cN gG;simp only;omega
  have hb9:=iW zF (cN (rK s k i) c) 1
  have hb10:((cN (rK s k i) c).ts.length+1)*bt (1:Rat)≤3*bt (1:Rat):=Ni _ (by omega)
  have h1:=pp
  have hb11:=kj 1 zF.ts (cN (rK s k i) c).ts
  rw[hG];unfold lj
  exact⟨by omega,by show(dP 1 zF.ts (cN (rK s k i) c).ts).length≤4;omega⟩
 rw[←hG] at hr1 hr2
 refine enter (vs:=[.agg #[I s.q.g.inp,su,so,sl,sh,sr,st,B s.q.go.ct.sg,sm,sn,sp,sq],.agg #[fa,B f.ct.sg,fb,fc],u]) Tryz.func214 J J J (bc (cj J J fun g3 w3 l3 x3 k3=>cj J J fun g4 w4 l4 x4 k4=>(aa J J (dR (ak J J ((k3.ext x4).ld MM J bg) (ab J J ?_))))))
 have e2:=x3.trans x4
 refine aq GV J J ((by have h:=GW (bQ.mk (dm (iu.ext e2) (io.ext e2) (il.ext e2) (ih.ext e2) (ir.ext e2) (it.ext e2) (im.ext e2) (jn.ext e2) (ip.ext e2) (iq.ext e2))) (hu.ext e2) hs hk hi h0 hB;rw[←hG] at h;exact h)) ?_
 rintro v13 w13 ⟨x13,⟨_,_,rfl,⟨_,rfl,r13_a⟩,rfl⟩⟩
 obtain⟨x13_a_0,x13_a_1,x13_a_2,rfl,f13_a_0,f13_a_1,f13_a_2⟩:=cl r13_a
 refine ab J J (aB J J cY (aB J J cZ (ce cd J fun g7 w7 l7 x7 k7=>bD J J k7 J ay (am.cons f13_a_0.one (am.cons J (am.cons f13_a_1.one (am.cons f13_a_2.one am.nil)))) fun w1_7 q1_7 k1_7=>?_)))
 have x1_7:=aH.of_new (x7) q1_7 l7
 refine aa J J (aI (aj (bc (ab J J (ao J J J (be (by decide) fg) (ab J J (an J (ak J J ((k4.ext (x13.trans x1_7)).ld MG J ay) ?_))))))))
 have e1:=(e2.trans x13).trans x1_7
 refine an J (aq iP J J ((by have h:=iQ (n:=9223372036854775807) (bQ.mk (cv (ja.ext e1) (jb.ext e1) (jc.ext e1))) (by omega);rw[hok] at h;exact h)) ?_)
 rintro v20 w20 ⟨x20,rfl⟩
 refine an J (cC J J cn (aG J J J (aI (bU J (aA (ah (bc (ak J J ((k4.ext ((x13.trans x1_7).trans x20)).ld MG J ay) ?_))))))))
 have e3:=e1.trans x20
 have e4:=x1_7.trans x20
 refine ak J J ((k1_7.ext x20).ld MG J ay) (aq qZ J J (q5 (bQ.mk (cv (ja.ext e3) (jb.ext e3) (jc.ext e3))) (bQ.mk (cv (f13_a_0.ext e4) (f13_a_1.ext e4) (f13_a_2.ext e4))) (by omega)) ?_)
 rintro v25 w25 ⟨x25,⟨_,rfl,r25⟩⟩
 obtain⟨x25_0,x25_1,x25_2,rfl,f25_0,f25_1,f25_2⟩:=cl r25
 refine ce cd J fun g9 w9 l9 x9 k9=>bD J J k9 J ay (am.cons f25_0.one (am.cons J (am.cons f25_1.one (am.cons f25_2.one am.nil)))) fun w4_4 q4_4 k4_4=>?_
 have x4_4:=aH.of_new (x9) q4_4 l9
 refine aI (aj ?_)
 have hsb:=iW f G (-1)
 have hm3:bt (-1:Rat)≤3:=by decide
 have hsm:(G.ts.length+1)*bt (-1:Rat)≤5*3:=Ns (by omega) hm3
 have hct:bt (kf f G).ct≤ew (kf f G):=by unfold ew;omega
 have hsf:ew (kf f G)=ew (gG f G (-1)):=rfl
 have hl0:((kf f G).ts.length:Int)=0:=by rw[hr1];rfl
 refine ae (af J J (bI) (ak J J (ai ML J (k4_4.cell (i:=0) J)) (bn J J (bB ML (f25_0.ext x4_4)) (ao J J J (bF hl0 aO) (ab J J (an J (af J J (dt) (an J (ak J J (k4_4.ldO (ms:=[B (kf f G).ct.sg,x25_1,x25_2]) (o:=1) (ef J) MC J ag) (an J (aq cw J J (ek (aU.mk (f25_1.ext x4_4) (f25_2.ext x4_4)) (by omega)) ?_)))))))))))
 rintro v33 w33 ⟨x33,rfl⟩
 refine an J (ao J J J (bF (jZ.2 hr2) cz) (aR J J J (aa J J (aI (aD (aF J J ?_))))))
 exact⟨_,J,(((e3.trans x25).trans x4_4).trans x33),J⟩
def qB (m:ig) (p:dx):dx:=if m.up then cN (kf p ⟨[],m.va⟩) (-1) else kf p ⟨[],m.va⟩
theorem Cf {w:World} {s:eX} {m:ig} {j:Nat} {k:Int} {i:Nat} {c:Rat} {v u:Value} (hv:bQ ro s v w) (hu:bQ vj m u w) (hs:n7 s.q) (hj:j<s.q.g.us.length) (hm:m.un=j) (hb:bt m.va≤100) (hpf:m.pf=[⟨⟨k,i,0,0⟩,c⟩]) (hp:Jc s (qB m s.q.g.us[j]) k i c):
 Calls Tryz.prog 130 #[v,u] w (cA fun r w'=>aH w w'∧Is (B true) r w'):=by
 obtain⟨_,rfl,ra⟩:=hv
 obtain⟨su,so,sl,sh,sr,st,sm,sn,sp,sq,rfl,iu,io,il,ih,ir,it,im,jn,ip,iq⟩:=d7 ra
 obtain⟨_,rfl,rb⟩:=hu
 obtain⟨ma,mb,mc,rfl,ja,jb,jc⟩:=eG rb
 rw[hm]
 refine enter (vs:=[.agg #[I s.q.g.inp,su,so,sl,sh,sr,st,B s.q.go.ct.sg,sm,sn,sp,sq],.agg #[I (j:Int),B m.up,B m.va.sg,ma,mb,mc]]) Tryz.func130 J J J (bc (cj J J fun g2 w2 l2 x2 k2=>cj J J fun g3 w3 l3 x3 k3=>aa J J (aI (aj (bc (af J J (iK) (ak J J (ai ME J (k3.cell (i:=0) J)) (ao J J J (be (by omega) aX) (ab J J (an J (af J J (iK) (an J (ak J J (ai ME J (k3.cell (i:=0) J)) (an J (af J J (bz) (an J (af J J (bG) (an J (af J J (bX) ?_)))))))))))))))))))
 have e3:=x2.trans x3
 refine an J (ak J J (ai MI J (x3.cell_some (k2.cell (i:=1) J))) (an J (bn J J (bB MI (iu.ext e3)) (an J (ao J J J (be (by omega) cz) (aG J J J (ab J J (an J (af J J (ej) (an J (ak J J (k3.ldO (ms:=[B m.va.sg,ma,mb]) (o:=2) (ef J) MC J ag) (an J (aq gm J J (lJ (aU.mk (ja.ext e3) (jb.ext e3)) (by omega)) ?_)))))))))))))
 rintro v22 w22 ⟨x22,rfl⟩
 refine an J (cC J J cn (aG J J J (ab J J (an J (af J J (bz) (an J (ak J J ((k2.ext (x3.trans x22)).ldO (ms:=[I s.q.g.inp,su,so,sl,sh,sr,st,B s.q.go.ct.sg,sm,sn]) (o:=0) (ef J) MU J cV) ?_)))))))
 have e2:=e3.trans x22
 refine an J (aq gK J J (gL (bQ.mk (gr (iu.ext e2) (io.ext e2) (il.ext e2) (ih.ext e2) (ir.ext e2) (it.ext e2) (im.ext e2) (jn.ext e2))) hs) ?_)
 rintro v28 w28 ⟨x28,rfl⟩
 refine an J (cC J J cn (aG J J J (aI (bU J (aA (ah (aj ?_)))))))
 have hus:=hs.g.us j hj
 have hn0:ew (⟨[],m.va⟩:dx)=bt m.va:=by simp[ew,gH]
 have hln:=jk hus.1 (by have:=hs.g.i0;omega)
 have hi1:=hs.g.i1
 have hul:=hs.g.ul
 have hsb:=iW s.q.g.us[j] ⟨[],m.va⟩ (-1)
 have hm3:bt (-1:Rat)≤3:=by decide
 have hsf:ew (kf s.q.g.us[j] ⟨[],m.va⟩)=ew (gG s.q.g.us[j] ⟨[],m.va⟩ (-1)):=rfl
 have hsl:=kj (-1) s.q.g.us[j].ts []
 have hsl2:(kf s.q.g.us[j] ⟨[],m.va⟩).ts.length≤10:=by show(dP (-1) s.q.g.us[j].ts []).length≤10;simp only[List.length_nil] at hsl;omega
 simp only[List.length_nil] at hsb
 refine bj 13 [2,3,5,42] (by kernel_rfl) (by kernel_rfl) (al J J (fun w hw=>bz) (al J J (fun w hw=>bG) (al J J (fun w hw=>bX) (ap J J (fun w hw=>ai MI J (hw.cell_some (((x3.trans x22).trans x28).cell_some (k2.cell (i:=1) J)))) (al J J (fun w hw=>iK) (ap J J (fun w hw=>ai ME J (hw.cell_some ((x22.trans x28).cell_some (k3.cell (i:=0) J)))) ?_))))))
 obtain⟨a37,c37,e37,he37,p37,q37,h37⟩:=eN (iu.ext (e2.trans x28)) (i:=j)
 obtain⟨x37_0,x37_1,x37_2,rfl,f37_0,f37_1,f37_2⟩:=cl h37
 refine aK J J J (fun w _=>p37 w) (ap J J (fun w hw=>(q37.ext hw).ld Tryz.underlying51 J ay) (al J J (fun w hw=>ej) (ap J J (fun w hw=>((k3.ext (x22.trans x28)).ext hw).ldO (ms:=[B m.va.sg,ma,mb]) (o:=2) (ef J) Tryz.underlying49 J ag) (et (S:=Is (.agg #[.slice none 0 0,B m.va.sg,ma,mb])) (bi.is _) J (fun w _=>by rintro _ rfl;obtain⟨_,_,_,rfl⟩:=ja.isS;obtain⟨_,_,_,rfl⟩:=jb.isS;exact⟨_,w,run_build _ _ _ _ (by kernel_rfl),aH.refl _,J⟩) (ec (S:=bQ dZ (kf e37 (⟨[],m.va⟩:dx))) qZ (bQ.stable _ _) J J J (fun w hw=>q5 ((bQ.mk (cv f37_0 f37_1 f37_2)).ext hw) ((bQ.mk (cv (cF.nil _ _) (ja.ext (e2.trans x28)) (jb.ext (e2.trans x28)))).ext hw) (by rw[he37];simp only[List.length_nil];omega)) (tL (b:=w28.heap.size) (A9.stable _ _ _) cd J (fun w hw=>hw.size) (bA ?_)))))))
 rintro wg3 xg3 _ rfl _ rfl _ ⟨g5,rfl,l5,k5⟩ _ ⟨_,rfl,r42⟩
 obtain⟨x42_0,x42_1,x42_2,rfl,f42_0,f42_1,f42_2⟩:=cl r42
 refine bD J J k5 J ay (am.cons f42_0.one (am.cons J (am.cons f42_1.one (am.cons f42_2.one am.nil)))) fun w3_13 q3_13 k3_13=>?_
 have x3_13:=aH.of_new (xg3) q3_13 l5
 have m3_13:=Kq.of1 (p:=[3,0,3,3]) k5 (ac rfl (ac rfl (ac rfl (ac rfl aT)))) q3_13
 refine aI (aj (i3 (fun p:Value×Value×Value=>[(2,.pointer (some ⟨g2,0,none⟩)),(3,.pointer (some ⟨g3,0,none⟩)),(5,.pointer (some ⟨g5,0,none⟩))]) (fun p w'=>aH w28 w'∧dE g5 51 [p.1,B (qB m s.q.g.us[j]).ct.sg,p.2.1,p.2.2] w'∧cF kW (qB m s.q.g.us[j]).ts p.1 w'∧bH (qB m s.q.g.us[j]).ct.nl p.2.1 w'∧bH (qB m s.q.g.us[j]).ct.dl p.2.2 w') ?_ ?_))
 ·refine bc (af J J (dD) (ak J J (ai MH J (((x22.trans x28).trans x3_13).cell_some (k3.cell (i:=1) J))) ?_))
  refine aI (j2 J (fun h44=>?_) (fun h44=>?_))
  ·have hl:qB m s.q.g.us[j]=cN (kf e37 ⟨[],m.va⟩) (-1):=by unfold qB;rw[if_pos h44,he37]
   refine bj 3 [2,3,5,47] (by kernel_rfl) (by kernel_rfl) (ap J J (fun w hw=>(k3_13.ext hw).ld MG J ay) (es (S:=QV ((-1:Rat))) kM (QV.stable _) J J (fun w hw=>mG (x:= -1) (by omega) (by omega)) (bZ (S:=bQ dZ (cN (kf e37 ⟨[],m.va⟩) (-1))) m7 (bQ.stable _ _) J (fun w hw=>by rintro _ rfl v46 h46;exact(m8 (f:=kf e37 ⟨[],m.va⟩) (c:= -1) ((bQ.mk (cv (f42_0.kq m3_13) (f42_1.kq m3_13) (f42_2.kq m3_13))).ext hw) h46 (by rw[he37];omega))) (bA ?_))))
   rintro wg5 xg5 _ rfl _ rfl _ rfl _ ⟨_,rfl,r47⟩
   obtain⟨x47_0,x47_1,x47_2,rfl,f47_0,f47_1,f47_2⟩:=cl r47
   refine bD J J (k3_13.ext xg5) J ay (am.cons f47_0.one (am.cons J (am.cons f47_1.one (am.cons f47_2.one am.nil)))) fun w5_3 q5_3 k5_3=>?_
   have x5_3:=aH.of_new ((x3_13.trans xg5)) q5_3 l5
   have m5_3:=Kq.of1 (p:=[3,0,3,3]) (k3_13.ext xg5) (ac f42_0.kd (ac rfl (ac f42_1.kd (ac f42_2.kd aT)))) q5_3
   refine ar ?_
   exact cW (_,_,_) ⟨J,J,J,trivial⟩ ⟨x5_3,by rw[hl];exact k5_3,by rw[hl];exact(f47_0.kq m5_3),by rw[hl];exact(f47_1.kq m5_3),by rw[hl];exact(f47_2.kq m5_3)⟩
  ·have hl:qB m s.q.g.us[j]=kf e37 ⟨[],m.va⟩:=by unfold qB;rw[if_neg (by simp[h44]),he37]
   refine aA ?_
   exact cW (_,_,_) ⟨J,J,J,trivial⟩ ⟨x3_13,by rw[hl];exact k3_13,by rw[hl];exact(f42_0.kq m3_13),by rw[hl];exact(f42_1.kq m3_13),by rw[hl];exact(f42_2.kq m3_13)⟩
 rintro⟨ya,yb,yc⟩ wC ⟨eC,k5C,ka,kb,kc⟩
 refine ah (bc (ak J J ((k2.ext (((x3.trans x22).trans x28).trans eC)).ld MM J bg) (ak J J (k5C.ld MG J ay) (af J J (wk) (ak J J (ai MV J (((x22.trans x28).trans eC).cell_some (k3.cell (i:=5) J))) ?_)))))
 have e1:=(((x2.trans x3).trans x22).trans x28).trans eC
 refine aq Ay J J ((AA (f:=qB m s.q.g.us[j]) (bQ.mk (dm (iu.ext e1) (io.ext e1) (il.ext e1) (ih.ext e1) (ir.ext e1) (it.ext e1) (im.ext e1) (jn.ext e1) (ip.ext e1) (iq.ext e1))) (bQ.mk (cv ka kb kc)) (by rw[←hpf];exact(jc.ext e1)) hs hp)) ?_
 rintro v52 w52 ⟨x52,rfl⟩
 refine aa J J (aI (aD (aF J J ?_)))
 exact⟨_,J,(e1.trans x52),J⟩
end Go.Rl
namespace Go.Rl
open Go.RowKit Go.Proofs
def Mx (s:eX):Prop:=∀(n:Nat) (h:n<s.lm.length),∃(j:Nat) (hj:j<s.q.g.us.length) (k:Int) (i:Nat) (c:Rat),s.lm[n].un=j∧bt s.lm[n].va≤100∧s.lm[n].pf=[⟨⟨k,i,0,0⟩,c⟩]∧Jc s (qB s.lm[n] s.q.g.us[j]) k i c
theorem Cg {w:World} {s:eX} {v:Value} (hv:bQ ro s v w) (hs:n7 s.q) (hpa:s.pa=[]) (hl:s.lm.length≤8) (hp:Mx s):
 Calls Tryz.prog 61 #[v] w (cA fun r w'=>aH w w'∧Is (B true) r w'):=by
 obtain⟨_,rfl,ra⟩:=hv
 obtain⟨su,so,sl,sh,sr,st,sm,sn,sp,sq,rfl,iu,io,il,ih,ir,it,im,jn,ip,iq⟩:=d7 ra
 have ip0:cF pQ [] sp w:=hpa▸ip
 refine enter (vs:=[.agg #[I s.q.g.inp,su,so,sl,sh,sr,st,B s.q.go.ct.sg,sm,sn,sp,sq]]) Tryz.func61 J J J (bc (cj J J fun g1 w1 l1 x1 k1=>(aa J J (aI (aj (bc (af J J (bz) (ak J J (k1.ldO (ms:=[I s.q.g.inp,su,so,sl,sh,sr,st,B s.q.go.ct.sg,sm,sn]) (o:=0) (ef J) MU J cV) (aq gK J J (gL (bQ.mk (gr (iu.ext x1) (io.ext x1) (il.ext x1) (ih.ext x1) (ir.ext x1) (it.ext x1) (im.ext x1) (jn.ext x1))) hs) ?_)))))))))
 rintro v7 w7 ⟨x7,rfl⟩
 refine cC J J cn (ab J J (an J (af J J (cx) (an J (ak J J (ai Tryz.underlying54 J (x7.cell_some (k1.cell (i:=10) J))) (an J (mm (us:=[]) (vs:=[.pointer (some ⟨g1,0,none⟩)]) J J J (an J (aq wz J J ((wA (l:=[]) (g:=fun _=>false) (by have h:=(ip.ext (x1.trans x7));rw[hpa] at h;exact h) Az (cs:=[.pointer (some ⟨g1,0,none⟩)]) (fun f hf=>absurd hf (by simp)))) ?_)))))))))
 rintro v13 w13 ⟨x13,rfl⟩
 refine aG J J J (aI (bU J (aA (ah (aj (bc (af J J (bO) (ak J J (ai MN J ((x7.trans x13).cell_some (k1.cell (i:=11) J))) (bn J J (bB MN (iq.ext ((x1.trans x7).trans x13))) (ab J J (aI (aJ (dS (α:=Nat) (fun i=>[(1,.pointer (some ⟨g1,0,none⟩)),(16,sq),(17,I (s.lm.length:Int)),(18,I (i:Int))]) (fun i w'=>aH w1 w'∧i≤s.lm.length) (fun i=>s.lm.length-i) (0) ⟨J,J,J,J,trivial⟩ ⟨(x7.trans x13),by omega⟩ ?_)))))))))))))
 rintro i wL ⟨eL,hi⟩
 refine aj ?_
 rcases Decidable.em (i<s.lm.length) with hA|hA
 ·refine ae (ao J J J (bF (by omega) aX) (aI (aj (cg J (aA (ah (aj (aJ (bc (ab J J ?_))))))))))
  obtain⟨a21,c21,e21,he21,p21,q21,h21⟩:=kG (iq.ext (x1.trans eL)) (i:=i)
  obtain⟨x21_0,x21_1,x21_2,rfl,f21_0,f21_1,f21_2⟩:=eG h21
  refine aE J J J (p21 _) ?_
  obtain⟨j,hj,k,i',c,h1,h2,h3,h4⟩:=hp i hA
  rw[←he21] at h1 h2 h3 h4
  refine ak J J (q21.ld M4 J iL) (ce p3 J fun g4 w4 l4 x4 k4=>(aa J J (bD J J k4 J iL (am.cons J (am.cons J (am.cons J (am.cons f21_0.one (am.cons f21_1.one (am.cons f21_2.one am.nil)))))) fun w5_5 q5_5 k5_5=>?_)))
  have x5_5:=aH.of_new (x4) q5_5 l4
  refine aI (aj (bj 11 [1,16,17,18,33] (by kernel_rfl) (by kernel_rfl) ?_))
  have e2:=eL.trans x5_5
  refine al J J (fun w hw=>bz) (ap J J (fun w hw=>((k1.ext e2).ext hw).ldO (ms:=[I s.q.g.inp,su,so,sl,sh,sr,st,B s.q.go.ct.sg,sm,sn]) (o:=0) (ef J) MU J cV) (al J J (fun w hw=>cx) (ap J J (fun w hw=>ai MO J (hw.cell_some (e2.cell_some (k1.cell (i:=10) J)))) (al J J (fun w hw=>bO) (ap J J (fun w hw=>ai MN J (hw.cell_some (e2.cell_some (k1.cell (i:=11) J)))) (ax J J ?_))))))
  obtain⟨v30,p30,b30⟩:=Lm (P:=Tryz.prog) (sz:=6) Tryz.underlying55 (by kernel_rfl) er (by omega) iq (hi:=i) (by first|omega|(simp;omega))
  refine y7 J J J J (fun w _=>p30 w) (et (S:=Is (.agg #[I s.q.g.inp,su,so,sl,sh,sr,st,B s.q.go.ct.sg,sm,sn,sp,v30])) (bi.is _) J (fun w _=>by rintro _ rfl _ rfl _ rfl;obtain⟨_,_,_,rfl⟩:=b30.isS;obtain⟨_,_,_,rfl⟩:=ih.isS;obtain⟨_,_,_,rfl⟩:=il.isS;obtain⟨_,_,_,rfl⟩:=im.isS;obtain⟨_,_,_,rfl⟩:=io.isS;obtain⟨_,_,_,rfl⟩:=ip.isS;obtain⟨_,_,_,rfl⟩:=ir.isS;obtain⟨_,_,_,rfl⟩:=it.isS;obtain⟨_,_,_,rfl⟩:=iu.isS;obtain⟨_,_,_,rfl⟩:=jn.isS;exact⟨_,w,run_build _ _ _ _ (by kernel_rfl),aH.refl _,J⟩) (ap J J (fun w hw=>(k5_5.ext hw).ld M4 J iL) ?_))
  have e1:=((x1.trans eL).trans x5_5)
  have hsc:bQ ro (⟨s.q,s.pa,s.lm.take i⟩:eX) (.agg #[I s.q.g.inp,su,so,sl,sh,sr,st,B s.q.go.ct.sg,sm,sn,sp,v30]) w5_5:=bQ.mk (dm (a:=⟨s.q,s.pa,s.lm.take i⟩) (iu.ext e1) (io.ext e1) (il.ext e1) (ih.ext e1) (ir.ext e1) (it.ext e1) (im.ext e1) (jn.ext e1) (ip.ext e1) (b30.ext e1))
  refine ec (S:=Is (B true)) Cc (bi.is _) J J J (fun w hw=>Cf (s:=⟨s.q,s.pa,s.lm.take i⟩) (m:=e21) (bQ.ext hsc hw) ((bQ.mk (HV (f21_0.ext x5_5) (f21_1.ext x5_5) (f21_2.ext x5_5))).ext hw) hs hj h1 h2 h3 h4) (bA ?_)
  rintro wg6 xg6 _ rfl _ hq16
  obtain rfl:=Eq.symm hq16
  rintro _ rfl _ rfl _ rfl
  refine cC J J cn (aI (bU J (aA (aW (ah (ae (ao (r:=I ((i+1:Nat):Int)) J J J (by have e:((i+1:Nat):Int)=(i:Int)+1:=(by omega);rw[e];exact aY) (ab J J (ar (dC (i+1) ⟨J,J,J,J,trivial⟩ ⟨(e2.trans xg6),by omega⟩ (by omega)))))))))))
 ·refine ae (ao J J J (be (by omega) aX) (aI (aj (bU J (bJ (aV (aV (bP (ah (bc (aa J J (aI (aD ?_)))))))))))))
  refine aF J J ?_
  exact⟨_,J,(x1.trans eL),J⟩
end Go.Rl
namespace Go.Rl
open Go.RowKit Go.Proofs
theorem rj:az Tryz.prog 16:=⟨_,Tryz.func16,by kernel_rfl,rfl⟩
theorem uV:az Tryz.prog 14:=⟨_,Tryz.func14,by kernel_rfl,rfl⟩
theorem rk {w:World} {d bits:Nat} {s:eX} {v:Value} (hd:d≤2) (hbi:bits≤3) (hT:nt w) (hv:bQ ro s v w) (hs:n7 s.q) (hp:∀d∈s.pa,i9 s.q d) (hpl:s.pa.length≤1000) (hl0:s.lm=[]):
 Calls Tryz.prog 16 #[I (d:Int),v,I (bits:Int)] w (cA fun r w'=>aH w w'∧gQ (qq (DZ d s bits) fun t=>bQ ro t) (Is (B true)) r w'):=by
 obtain⟨_,rfl,ra⟩:=hv
 obtain⟨su,so,sl,sh,sr,st,sm,sn,sp,sq,rfl,iu,io,il,ih,ir,it,im,jn,ip,iq⟩:=d7 ra
 refine enter (vs:=[I (d:Int),.agg #[I s.q.g.inp,su,so,sl,sh,sr,st,B s.q.go.ct.sg,sm,sn,sp,sq],I (bits:Int)]) Tryz.func16 J J J (bc (cj J J fun g4 w4 l4 x4 k4=>ce fp J fun g6 w6 l6 x6 k6=>(aa J J (dR (ab J J (aq GE J J ((GF hd)) ?_))))))
 rintro v14 _ ⟨rfl,⟨_,_,rfl,rfl,rfl⟩⟩
 refine ab J J (aB J J (cY) (aB J J (cZ) (aa J J (aa J J (aI (aj (bc (ab J J (cC J J cn (aI (bU J (aA (ah (bc (ab J J (ak J J ((k4.ext x6).ld MM J bg) (ab J J ?_)))))))))))))))))
 have e1:=(x4.trans x6)
 refine aq GS J J ((GU hd hbi (hT.ext e1) (iu.ext e1) (io.ext e1) (il.ext e1) (ih.ext e1) (ir.ext e1) (it.ext e1) (im.ext e1) (jn.ext e1) (ip.ext e1) (iq.ext e1) hs hp hpl hl0)) ?_
 rintro v24 w24 ⟨x24,⟨tq,tp,tl⟩,vp,vq,⟨hq,hpa,hI⟩,rfl,lp,lq⟩
 obtain rfl:tq=s.q:=hq
 obtain rfl:tp=s.pa:=hpa
 refine ab J J (aB J J cY (aB J J (cZ) (ce fp J fun g10 w10 l10 x10 k10=>bD J J k10 J bg (am.cons J (am.cons iu.one (am.cons io.one (am.cons il.one (am.cons ih.one (am.cons ir.one (am.cons it.one (am.cons J (am.cons im.one (am.cons jn.one (am.cons lp.one (am.cons lq.one am.nil)))))))))))) fun w4_8 q4_8 k4_8=>?_)))
 have x4_8:=aH.of_new (x10) q4_8 l10
 refine aa J J (dR (ak J J (k4_8.ld MM J bg) (ab J J (ao J J J (aO) (bD J J (k6.ext (x24.trans x4_8)) J bg (am.cons J (am.cons iu.one (am.cons io.one (am.cons il.one (am.cons ih.one (am.cons ir.one (am.cons it.one (am.cons J (am.cons im.one (am.cons jn.one (am.cons lp.one (am.cons lq.one am.nil)))))))))))) fun w5_3 q5_3 k5_3=>?_)))))
 have x5_3:=aH.of_new (((x6.trans x24).trans x4_8)) q5_3 l6
 have m5_3:=Kq.of1 (p:=[2,3,3,3,3,3,3,0,3,3,3,3]) (k6.ext (x24.trans x4_8)) (ac rfl (ac rfl (ac rfl (ac rfl (ac rfl (ac rfl (ac rfl (ac rfl (ac rfl (ac rfl (ac rfl (ac rfl aT)))))))))))) q5_3
 refine aa J J (aI (aD (bp J (.cell J (k5_3.ld MM J bg) (.tmp J .nil)) ?_)))
 have e2:=x4.trans x5_3
 exact⟨_,J,e2,_,_,J,⟨⟨s.q,s.pa,tl⟩,⟨J,J,hI⟩,bQ.mk (dm (a:=⟨s.q,s.pa,tl⟩) (iu.ext e2) (io.ext e2) (il.ext e2) (ih.ext e2) (ir.ext e2) (it.ext e2) (im.ext e2) (jn.ext e2) ((lp.ext x4_8).kq m5_3) ((lq.ext x4_8).kq m5_3))⟩,J⟩
end Go.Rl
namespace Go.Rl
open Go.RowKit Go.Proofs
def aP:dx:=⟨[⟨0,1⟩],-1⟩
def aQ:ur:=⟨⟨1,[aP],[⟨[⟨1,1⟩],0⟩]⟩,⟨[0],[3],[]⟩,⟨[⟨1,1⟩],0⟩⟩
def aS:eX:=⟨aQ,[],[]⟩
theorem aSub:Lu ⟨[⟨0,1⟩],0⟩ ⟨[],1⟩=aP:=by kernel_rfl
theorem aBox (l:List ig):nr ⟨aQ,[],l⟩ aP= -1:=by
 show(-1:Rat)+1*0= -1
 kernel_rfl
theorem My (l:List ig):nr ⟨aQ,[],l⟩ (cN aP (-1))= -2:=by
 have h:cN aP (-1)=⟨[⟨0,-1⟩],1⟩:=by kernel_rfl
 rw[h]
 show(1:Rat)+(-1)*3= -2
 kernel_rfl
theorem Jd:n7 aQ where
 g:=⟨by decide,by decide,by decide,by decide,by decide,fun j hj=>by
  obtain rfl:j=0:=by simpa [aQ] using hj
  exact⟨by kernel_rfl,Nl (by kernel_rfl)⟩,fun f hf=>by
  obtain rfl:f=⟨[⟨1,1⟩],0⟩:=by simpa [aQ] using hf
  exact⟨by kernel_rfl,Nl (by kernel_rfl)⟩⟩
 r:=⟨by decide,by decide,by decide,by decide,by decide,fun i h h'=>by
  obtain rfl:i=0:=by simpa [aQ] using h
  have h1:bt (0:Rat)≤20:=by decide
  have h2:bt (3:Rat)≤20:=by decide
  exact⟨by show(0:Rat)≤3;grind,h1,h2⟩,fun f hf=>by simp[aQ] at hf⟩
 go:=by kernel_rfl
 gb:=Nl (by kernel_rfl)
theorem KO (l:List ig) (f:dx) (h:iz f 1=0):rH 2 ⟨aQ,[],l⟩ f=nr ⟨aQ,[],l⟩ f:=by
 have e:fE ⟨aQ,[],l⟩ 1 f=f:=by
  show iS ⟨aQ,[],l⟩ f 0 aP=f
  unfold iS
  exact if_pos h
 show nX ⟨aQ,[],l⟩ f=_
 unfold nX s6
 rw[show(⟨aQ,[],l⟩:eX).q.g.us.length=1 from rfl,e]
 split<;>rfl
theorem aMax:max (1:Rat) (-1)*1=1:=by kernel_rfl
theorem Mz:max (-1:Rat) (- -1)*1=1:=by kernel_rfl
theorem aRun {L:List ig} (h:B8 2 aS 0 1 L):∃m0 m1:ig,L=[m0,m1]∧(m0.un=0∧m0.up=false∧m0.va= -1∧m0.pf=[⟨⟨1,0,0,0⟩,1⟩])∧(m1.un=0∧m1.up=true∧m1.va=2∧m1.pf=[⟨⟨2,0,0,0⟩,1⟩]):=by
 obtain⟨hr,_,hp⟩:=h
 obtain⟨m0,m1,rfl⟩:∃m0 m1:ig,L=[m0,m1]:=by
  have hl:=hr.len
  match L,hl with
  |[a,b],_=>exact⟨a,b,rfl⟩
 have hl:=hr.len
 have hlo:=(hr.lo 0 (by decide) (by decide) (by omega)).2 rfl
 have hhi:=(hr.hi 0 (by decide) (by decide) (by omega)).2 rfl
 obtain⟨s0,t0⟩:=hr.shp 0 (by omega)
 obtain⟨s1,t1⟩:=hr.shp 1 (by omega)
 obtain⟨p0,p1⟩:=hp (by omega) (by decide)
 refine⟨m0,m1,J,⟨by simpa using s0,by simpa using t0,?_,?_⟩,⟨by simpa using s1,by simpa using t1,?_,?_⟩⟩
 ·exact hlo.trans ((KO _ _ (by kernel_rfl)).trans (aBox _))
 ·have:=p0 rfl ⟨0,1⟩ rfl rfl (by rw[aMax];decide)
  rw[show IT ⟨0,1⟩=(⟨⟨1,0,0,0⟩,1⟩:eh) by kernel_rfl] at this
  exact this
 ·have a:=(KO (([m0,m1]:List ig).take (2*0+1)) (cN aP (-1)) (by kernel_rfl)).trans (My _)
  have b:m1.va= -rH 2 ⟨aQ,[],([m0,m1]:List ig).take (2*0+1)⟩ (cN aP (-1)):=hhi
  exact b.trans ((congrArg Neg.neg a).trans (by kernel_rfl))
 ·have:=p1 rfl ⟨0,-1⟩ (by kernel_rfl) rfl (by rw[Mz];decide)
  rw[show IT ⟨0,-1⟩=(⟨⟨2,0,0,0⟩,1⟩:eh) by kernel_rfl] at this
  exact this
theorem aPrv {m0 m1:ig} (h0:m0.un=0∧m0.up=false∧m0.va= -1∧m0.pf=[⟨⟨1,0,0,0⟩,1⟩]) (h1:m1.un=0∧m1.up=true∧m1.va=2∧m1.pf=[⟨⟨2,0,0,0⟩,1⟩]):Mx ⟨aQ,[],[m0,m1]⟩:=fun n hn=>by
 have e:n=0∨n=1:=by
  have:n<2:=hn
  omega
 rcases e with rfl|rfl
 ·obtain⟨a1,a2,a3,a4⟩:=h0
  have f:qB m0 aP=⟨[⟨0,1⟩],0⟩:=by unfold qB;rw[a2,a3];kernel_rfl
  refine⟨0,(show 0<1 by decide),1,0,1,a1,?_,a4,?_⟩
  ·show bt m0.va≤100
   rw[a3];exact Nat.le_of_ble_eq_true (by kernel_rfl)
  ·show Jc _ (qB m0 aP) 1 0 1
   rw[f]
   exact⟨.inl J,(show(0:Int)<1 by decide),by decide,Nl (by kernel_rfl),Nl (by kernel_rfl),by decide,by kernel_rfl,by kernel_rfl,by rw[show(kf ⟨[⟨0,1⟩],0⟩ (lj zF (cN (rK ⟨aQ,[],[m0,m1]⟩ 1 0) 1))).ct=0 by kernel_rfl];exact Rat.le_refl⟩
 ·obtain⟨a1,a2,a3,a4⟩:=h1
  have f:qB m1 aP=⟨[⟨0,-1⟩],3⟩:=by unfold qB;rw[a2,a3];kernel_rfl
  refine⟨0,(show 0<1 by decide),2,0,1,a1,?_,a4,?_⟩
  ·show bt m1.va≤100
   rw[a3];exact Nat.le_of_ble_eq_true (by kernel_rfl)
  ·show Jc _ (qB m1 aP) 2 0 1
   rw[f]
   exact⟨.inr J,(show(0:Int)<1 by decide),by decide,Nl (by kernel_rfl),Nl (by kernel_rfl),by decide,by kernel_rfl,by kernel_rfl,by rw[show(kf ⟨[⟨0,-1⟩],3⟩ (lj zF (cN (rK ⟨aQ,[],[m0,m1]⟩ 2 0) 1))).ct=0 by kernel_rfl];exact Rat.le_refl⟩
theorem aPh {m0 m1:ig} (h0:m0.un=0∧m0.up=false∧m0.va= -1∧m0.pf=[⟨⟨1,0,0,0⟩,1⟩]) (h1:m1.un=0∧m1.up=true∧m1.va=2∧m1.pf=[⟨⟨2,0,0,0⟩,1⟩]):Cl ⟨aQ,[],[m0,m1]⟩ 0=0:=by
 have hs:ns [m0,m1]:=fun i hi=>by
  have e:i=0∨i=1:=by simp at hi;omega
  rcases e with rfl|rfl
  ·exact⟨h0.1,h0.2.1⟩
  ·exact⟨h1.1,h1.2.1⟩
 have hb:cy [m0,m1] 0=(1,2):=hs.best 0
 have v0:dA [m0,m1] 1= -1:=h0.2.2.1
 have v1:dA [m0,m1] 2=2:=h1.2.2.1
 unfold Cl
 rw[show(⟨aQ,[],[m0,m1]⟩:eX).lm=[m0,m1] from rfl,hb]
 have a:¬nV ⟨aQ,[],[m0,m1]⟩ 0 1=true:=by
  unfold nV
  rw[show(⟨aQ,[],[m0,m1]⟩:eX).lm=[m0,m1] from rfl,v0]
  exact(by decide:¬(false||decide (0<1)&&decide ((0:Rat)≤ -1))=true)
 have b:¬iB ⟨aQ,[],[m0,m1]⟩ 0 2=true:=by
  unfold iB
  rw[show(⟨aQ,[],[m0,m1]⟩:eX).lm=[m0,m1] from rfl,v1]
  exact(by decide:¬(false||decide (0<2)&&decide ((2:Rat)≤0))=true)
 rw[if_neg a,if_neg b]
end Go.Rl
namespace Go.Rl
open Go.RowKit Go.Proofs
theorem GX {w:World} {f g:dx} {v u:Value} (hv:bQ dZ f v w) (hu:bQ dZ g u w) (hB1:ew g+3≤17179869180∧g.ts.length≤137438953472) (hB:∀i≤(ff g (-1)).ts.length,gH (sU f.ts ((ff g (-1)).ts.take i))+bt f.ct+ew (ff g (-1))+bt (f.ct+(ff g (-1)).ct)≤8589934592∧(sU f.ts ((ff g (-1)).ts.take i)).length≤137438953472):
 Calls Tryz.prog 57 #[v,u] w (cA fun r w'=>aH w w'∧bQ dZ (Lu f g) r w'):=by
 obtain⟨_,rfl,ra⟩:=hv
 obtain⟨fa,fb,fc,rfl,ia,ib,ic⟩:=cl ra
 obtain⟨_,rfl,rb⟩:=hu
 obtain⟨ga,gb,gc,rfl,ja,jb,jc⟩:=cl rb
 have hm3:bt (-1:Rat)≤3:=by decide
 refine enter (vs:=[.agg #[fa,B f.ct.sg,fb,fc],.agg #[ga,B g.ct.sg,gb,gc]]) Tryz.func57 J J J (bc (cj J J fun g2 w2 l2 x2 k2=>cj J J fun g3 w3 l3 x3 k3=>ce cd J fun g4 w4 l4 x4 k4=>(aI (aj (bj 5 [4,9] (by kernel_rfl) (by kernel_rfl) (ap J J (fun w hw=>((k2.ext (x3.trans x4)).ext hw).ld MG J ay) (ap J J (fun w hw=>((k3.ext x4).ext hw).ld MG J ay) ?_)))))))
 have e1:=(x2.trans x3).trans x4
 refine es (S:=QV ((-1:Rat))) nK (QV.stable _) J J (fun w hw=>nN (x:= -1) (by omega) (by omega)) (bZ (S:=bQ dZ (ff g (-1))) uD (bQ.stable _ _) J (fun w hw=>by rintro _ rfl v7 h7;exact(uE (f:=g) (c:= -1) ((bQ.mk (cv (ja.ext e1) (jb.ext e1) (jc.ext e1))).ext hw) h7 (by omega))) (bZ (S:=bQ dZ (Bs f (ff g (-1)))) yF (bQ.stable _ _) J (fun w hw=>by rintro _ rfl v8 h8;exact(yG (f:=f) (g:=ff g (-1)) ((bQ.mk (cv (ia.ext e1) (ib.ext e1) (ic.ext e1))).ext hw) h8 hB)) (bA ?_)))
 rintro wg1 xg1 _ rfl _ ⟨_,rfl,r9⟩
 obtain⟨x9_0,x9_1,x9_2,rfl,f9_0,f9_1,f9_2⟩:=cl r9
 refine bD J J (k4.ext xg1) J ay (am.cons f9_0.one (am.cons J (am.cons f9_1.one (am.cons f9_2.one am.nil)))) fun w1_5 q1_5 k1_5=>?_
 have x1_5:=aH.of_new ((x4.trans xg1)) q1_5 l4
 have m1_5:=Kq.of1 (p:=[3,0,3,3]) (k4.ext xg1) (ac rfl (ac rfl (ac rfl (ac rfl aT)))) q1_5
 refine aI (aD (bp J (.cell J (k1_5.ld MG J ay) .nil) ?_))
 exact⟨_,J,((x2.trans x3).trans x1_5),bQ.mk (cv (a:=Lu f g) (f9_0.kq m1_5) (f9_1.kq m1_5) (f9_2.kq m1_5))⟩
theorem MA {v:Value} {w w':World} (h:bH [] v w):bH [] v w':=by
 obtain⟨A,n,c,rfl,h1,h2,h3,_,h5⟩:=h
 obtain rfl:n=0:=by simp at h3;omega
 exact⟨A,0,c,J,h1,h2,J,fun h=>by omega,h5⟩
theorem AB {w1:World} {g:Nat} {T:TypeId} {l:List Value} {ad:Addr} (j:Nat) (hB:dE g T l w1) (hs:ad.spot=none) (hg:ad.block=g):w1.cell? (ad.add j)=l[ad.off+j]? :=by
 have e1:ad.add j=⟨g,ad.off+j,none⟩:=by
  unfold Addr.add
  split
  ·rename_i h0
   subst h0
   cases ad
   simp_all
  ·rw[hg]
 rw[e1,cell_of_row w1 g _ l.toArray T (0,0) hB]
 simp
theorem Je {o:Nat} (h:([2,3,3,3,3,3,3,0,3,3]:List Nat)[o]? =some 0):o=7:=by
 rcases o with _|_|_|_|_|_|_|_|_|_|n<;>simp at h⊢
theorem Kf {w w':World} {g:Nat} {T:TypeId} {as' bs:List Value} {v y z:Value} (h:cF dQ [0] v w) (hb:dE g T as' w) (hk:as'.map kd=[2,3,3,3,3,3,3,0,3,3]) (q:w.grownBy w' (some g)) (hb':dE g T (bs++[B false,y,z]) w') (hl:bs.length=7) (hy:bH [] y w') (hz:bH [] z w'):cF dQ [0] v w':=by
 unfold cF at h⊢
 simp only[Rp,List.map_cons,List.map_nil] at h⊢
 obtain⟨A,n,c,hv,h2,h3,h4,h5,h6⟩:=h
 refine⟨A,n,c,hv,h2,h3,h4,h5,fun hn=>?_⟩
 obtain⟨ad,xs,hA,hc,hr⟩:=h6 hn
 simp only[bm] at hr
 obtain⟨c1,c2,rfl,h7,rfl⟩:=hr
 obtain⟨p,r,rfl,hp,hq⟩:=dO h7
 by_cases hg:ad.block=g
 ·have h8:=hc 0 _ rfl
  have hs:(ad.add 0).spot=none:=World.cell?_spot h8
  have hs':ad.spot=none:=by simpa [Addr.add] using hs
  rw[AB 0 hb hs' hg,Nat.add_zero] at h8
  have hoff:ad.off=7:=Je (by rw[←hk,List.getElem?_map,h8];rfl)
  refine⟨ad,[B false,y,z],hA,fun j u hj=>?_,bm.cons (ly (a:=0) hy hz) bm.nil⟩
  rw[AB j hb' hs' hg,hoff,←hl,List.getElem?_append_right (by omega),Nat.add_sub_cancel_left]
  exact hj
 ·refine⟨ad,[B (0:Rat).sg,p,r],hA,fun j u hj=>q.cell (hc j u hj) fun e=>?_,bm.cons (ly (a:=0) (MA hp) (MA hq)) bm.nil⟩
  rw[gj] at e
  exact hg (Nc e)
theorem Kh {w w':World} {g:Nat} {T:TypeId} {bs:List Value} {c:Rat} {v:Value} (h:cF dQ [c] v w) (hc0:c.nl≠[]) (hb:dE g T (bs++[B false,.slice none 0 0,.slice none 0 0]) w) (hl:bs.length=7) (hk:(bs++[B false,.slice none 0 0,.slice none 0 0]).map kd=[2,3,3,3,3,3,3,0,3,3]) (q:w.grownBy w' (some g)) (m:Kq [2,3,3,3,3,3,3,0,3,3] w w'):cF dQ [c] v w':=by
 unfold cF at h⊢
 simp only[Rp,List.map_cons,List.map_nil] at h⊢
 obtain⟨A,n,k,hv,h2,h3,h4,h5,h6⟩:=h
 refine⟨A,n,k,hv,h2,h3,h4,h5,fun hn=>?_⟩
 obtain⟨ad,xs,hA,hc,hr⟩:=h6 hn
 simp only[bm] at hr
 obtain⟨c1,c2,rfl,h7,rfl⟩:=hr
 obtain⟨p,r,rfl,hp,hq⟩:=dO h7
 refine⟨ad,[B c.sg,p,r],hA,fun j u hj=>q.cell (hc j u hj) fun e=>?_,bm.cons (ly (a:=c) (hp.kq m) (hq.kq m)) bm.nil⟩
 rw[gj] at e
 have hg:ad.block=g:=Nc e
 have h8:=hc 0 _ rfl
 have hs:(ad.add 0).spot=none:=World.cell?_spot h8
 have hs':ad.spot=none:=by simpa [Addr.add] using hs
 rw[AB 0 hb hs' hg,Nat.add_zero] at h8
 have hoff:ad.off=7:=Je (by rw[←hk,List.getElem?_map,h8];rfl)
 have h9:=hc 1 p rfl
 rw[AB 1 hb hs' hg,hoff,←hl,List.getElem?_append_right (by omega),Nat.add_sub_cancel_left] at h9
 obtain rfl:Value.slice none 0 0=p:=by simpa using h9
 obtain⟨A,n,k,e',_,_,hl',_⟩:=hp
 obtain⟨rfl,rfl,rfl⟩:A=none∧n=0∧k=0:=by simp at e';exact⟨e'.1.symm,e'.2.1.symm,e'.2.2.symm⟩
 exact hc0 (by simpa using hl')
theorem uW {w:World} (hT:nt w):Calls Tryz.prog 14 #[] w (cA fun r w'=>aH w w'∧Is (B true) r w'):=by
 refine enter Tryz.func14 J J J (bc (aa J J (dR (aq re J J (rf) ?_))))
 rintro v6 w6 ⟨x6,⟨_,rfl,r6⟩⟩
 obtain⟨x6_0,x6_1,x6_2,rfl,f6_0,f6_1,f6_2⟩:=cl r6
 refine aq nK J J (nN (by omega) (by omega)) ?_
 rintro v7 w7 ⟨x7,⟨x7_0,x7_1,rfl,f7_0,f7_1⟩⟩
 refine aq Gj J J (Gk (aU.mk f7_0 f7_1)) ?_
 rintro v8 w8 ⟨x8,⟨_,rfl,r8⟩⟩
 obtain⟨x8_0,x8_1,x8_2,rfl,f8_0,f8_1,f8_2⟩:=cl r8
 refine aq Gi J J ((by have h:=GX (f:=⟨[⟨0,1⟩],0⟩) (g:=⟨[],1⟩) (bQ.mk (cv (f6_0.ext (x7.trans x8)) (f6_1.ext (x7.trans x8)) (f6_2.ext (x7.trans x8)))) (bQ.mk (cv f8_0 f8_1 f8_2)) ⟨Nl (by kernel_rfl),Nl (by kernel_rfl)⟩ (fun i hi=>by have h0:(ff ⟨[],1⟩ (-1)).ts.length=0:=(by kernel_rfl);obtain rfl:i=0:=(by omega);exact⟨Nl (by kernel_rfl),Nl (by kernel_rfl)⟩);rw[aSub] at h;exact h)) ?_
 rintro v9 w9 ⟨x9,⟨_,rfl,r9⟩⟩
 obtain⟨x9_0,x9_1,x9_2,rfl,f9_0,f9_1,f9_2⟩:=cl r9
 refine ce cd J fun g1 w1 l1 x1 k1=>bD J J k1 J ay (am.cons f9_0.one (am.cons J (am.cons f9_1.one (am.cons f9_2.one am.nil)))) fun w1_5 q1_5 k1_5=>?_
 have x1_5:=aH.of_new (x1) q1_5 l1
 refine aI (aj (bj 6 [2,14] (by kernel_rfl) (by kernel_rfl) (ap J J (fun w hw=>(k1_5.ext hw).ld MG J ay) (dv (S:=cF dZ [aP]) (cF.stable _ _) J (fun w hw=>by rintro _ rfl;exact wi (cv ((f9_0.ext x1_5).ext hw) ((f9_1.ext x1_5).ext hw) ((f9_2.ext x1_5).ext hw))) (es (S:=bQ dZ ((⟨[⟨1,1⟩],0⟩:dx))) re (bQ.stable _ _) J J (fun w hw=>rf) (dv (S:=cF dZ [((⟨[⟨1,1⟩],0⟩:dx))]) (cF.stable _ _) J (fun w hw=>by rintro _ ⟨_,rfl,r⟩;exact wi r) (et (S:=fun v w=>∃y14_1_0 y14_2_0:Value,v=.agg #[I 1,y14_1_0,y14_2_0]∧cF dZ ([aP]) y14_1_0 w∧cF dZ ([((⟨[⟨1,1⟩],0⟩:dx))]) y14_2_0 w) (fun _ _ _ ⟨_,_,e,g0,g1⟩ hx=>⟨_,_,e,g0.ext hx,g1.ext hx⟩) J (fun w hw=>by rintro _ rfl v11 h11 v13 h13;have k14_1_0:=h11;have k14_2_0:=h13;obtain⟨A0,n0,c0,rfl⟩:=k14_1_0.isS;obtain⟨A1,n1,c1,rfl⟩:=k14_2_0.isS;exact⟨_,w,run_build _ _ _ _ (by kernel_rfl),aH.refl _,.slice A0 n0 c0,.slice A1 n1 c1,J,k14_1_0,k14_2_0⟩) (tL (b:=w1_5.heap.size) (A9.stable _ _ _) kK J (fun w hw=>hw.size) (bA ?_)))))))))
 rintro wg2 xg2 _ ⟨g2,rfl,l2,k2⟩ _ ⟨y14_0,y14_1,rfl,k14_0,k14_1⟩
 refine bD J J k2 J dg (am.cons J (am.cons k14_0.one (am.cons k14_1.one am.nil))) fun w2_6 q2_6 k2_6=>?_
 have x2_6:=aH.of_new (xg2) q2_6 l2
 have m2_6:=Kq.of1 (p:=[2,3,3]) k2 (ac rfl (ac rfl (ac rfl aT))) q2_6
 refine aI (aj (bj 9 [3,22] (by kernel_rfl) (by kernel_rfl) (ap J J (fun w hw=>(k2_6.ext hw).ld MX J dg) (et (S:=Is (.agg #[B false,.slice none 0 0,.slice none 0 0])) (bi.is _) J (fun w _=>by exact⟨_,w,run_build _ _ _ _ (by kernel_rfl),aH.refl _,J⟩) (dv (S:=cF dQ [0]) (cF.stable _ _) J (fun w hw=>by rintro _ rfl;exact uu (ly (bH.nil _) (bH.nil _))) (es (S:=QV ((3:Rat))) nK (QV.stable _) J J (fun w hw=>nN (x:=3) (by omega) (by omega)) (dv (S:=cF dQ [((3:Rat))]) (cF.stable _ _) J (fun w hw=>by rintro _ ⟨_,_,rfl,p,q⟩;exact uu (ly p q)) (et (S:=fun v w=>∃y20_0_0 y20_1_0:Value,v=.agg #[y20_0_0,y20_1_0,.slice none 0 0]∧cF dQ ([0]) y20_0_0 w∧cF dQ ([((3:Rat))]) y20_1_0 w) (fun _ _ _ ⟨_,_,e,g0,g1⟩ hx=>⟨_,_,e,g0.ext hx,g1.ext hx⟩) J (fun w hw=>by rintro v17 h17 v19 h19;have k20_0_0:=h17;have k20_1_0:=h19;obtain⟨A0,n0,c0,rfl⟩:=k20_0_0.isS;obtain⟨A1,n1,c1,rfl⟩:=k20_1_0.isS;exact⟨_,w,run_build _ _ _ _ (by kernel_rfl),aH.refl _,.slice A0 n0 c0,.slice A1 n1 c1,J,k20_0_0,k20_1_0⟩) ?_))))))))
 refine es (S:=bQ dZ ((⟨[⟨1,1⟩],0⟩:dx))) re (bQ.stable _ _) J J (fun w hw=>rf) (et (S:=fun v w=>∃y22_3_0 y22_3_1 y22_6_0 y22_6_1 y22_6_2:Value,v=.agg #[I 1,y14_0,y14_1,y22_3_0,y22_3_1,.slice none 0 0,y22_6_0,B ((⟨[⟨1,1⟩],0⟩:dx)).ct.sg,y22_6_1,y22_6_2]∧cF dQ ([0]) y22_3_0 w∧cF dQ ([((3:Rat))]) y22_3_1 w∧cF kW ((⟨[⟨1,1⟩],0⟩:dx)).ts y22_6_0 w∧bH ((⟨[⟨1,1⟩],0⟩:dx)).ct.nl y22_6_1 w∧bH ((⟨[⟨1,1⟩],0⟩:dx)).ct.dl y22_6_2 w) (fun _ _ _ ⟨_,_,_,_,_,e,g0,g1,g2,g3,g4⟩ hx=>⟨_,_,_,_,_,e,g0.ext hx,g1.ext hx,g2.ext hx,g3.ext hx,g4.ext hx⟩) J (fun w hw=>by rintro _ rfl v20 h20 v21 h21;obtain⟨y22_3_0,y22_3_1,rfl,k22_3_0,k22_3_1⟩:=h20;obtain⟨_,rfl,r22_6⟩:=h21;obtain⟨y22_6_0,y22_6_1,y22_6_2,rfl,k22_6_0,k22_6_1,k22_6_2⟩:=cl r22_6;obtain⟨_,_,_,rfl⟩:=k14_0.isS;obtain⟨_,_,_,rfl⟩:=k14_1.isS;obtain⟨A0,n0,c0,rfl⟩:=k22_3_0.isS;obtain⟨A1,n1,c1,rfl⟩:=k22_3_1.isS;obtain⟨A2,n2,c2,rfl⟩:=k22_6_0.isS;obtain⟨A3,n3,c3,rfl⟩:=k22_6_1.isS;obtain⟨A4,n4,c4,rfl⟩:=k22_6_2.isS;exact⟨_,w,run_build _ _ _ _ (by kernel_rfl),aH.refl _,.slice A0 n0 c0,.slice A1 n1 c1,.slice A2 n2 c2,.slice A3 n3 c3,.slice A4 n4 c4,J,k22_3_0,k22_3_1,k22_6_0,k22_6_1,k22_6_2⟩) ?_)
 refine tL (b:=w2_6.heap.size) (A9.stable _ _ _) uv J (fun w hw=>hw.size) (bA ?_)
 rintro wg3 xg3 _ ⟨g3,rfl,l3,k3⟩ _ ⟨y22_0,y22_1,y22_2,y22_3,y22_4,rfl,k22_0,k22_1,k22_2,k22_3,k22_4⟩
 refine bD J J k3 J cV (am.cons J (am.cons k14_0.one (am.cons k14_1.one (am.cons k22_0.one (am.cons k22_1.one (am.cons J (am.cons k22_2.one (am.cons J (am.cons k22_3.one (am.cons k22_4.one am.nil)))))))))) fun w3_9 q3_9 k3_9=>?_
 have x3_9:=aH.of_new (xg3) q3_9 l3
 have m3_9:=Kq.of1 (p:=[2,3,3,3,3,3,3,0,3,3]) k3 (ac rfl (ac rfl (ac rfl (ac rfl (ac rfl (ac rfl (ac rfl (ac rfl (ac rfl (ac rfl aT)))))))))) q3_9
 refine dR (ak J J (k3_9.ld MU J cV) (bV (r:=.agg #[I 1,y14_0,y14_1,y22_0,y22_1,.slice none 0 0,y22_2,B ((⟨[⟨1,1⟩],0⟩:dx)).ct.sg,y22_3,y22_4,.slice none 0 0,.slice none 0 0]) J J (by obtain⟨_,_,_,rfl⟩:=k14_0.isS;obtain⟨_,_,_,rfl⟩:=k14_1.isS;obtain⟨_,_,_,rfl⟩:=k22_0.isS;obtain⟨_,_,_,rfl⟩:=k22_1.isS;obtain⟨_,_,_,rfl⟩:=k22_2.isS;obtain⟨_,_,_,rfl⟩:=k22_3.isS;obtain⟨_,_,_,rfl⟩:=k22_4.isS;exact run_build _ _ _ _ (by kernel_rfl)) ?_))
 have e1:=(((((x6.trans x7).trans x8).trans x9).trans x1_5).trans x2_6).trans x3_9
 refine aq rj J J ((rk (d:=2) (bits:=0) (s:=aS) (by decide) (by decide) (hT.ext (e1)) (bQ.mk (dm (a:=aS) ((k14_0.kq m2_6).ext x3_9) ((k14_1.kq m2_6).ext x3_9) (Kf k22_0 k3 J q3_9 (bs:=[I 1,y14_0,y14_1,y22_0,y22_1,.slice none 0 0,y22_2]) k3_9 J (k22_3.kq m3_9) (k22_4.kq m3_9)) (Kh k22_1 (by rw[show(3:Rat).nl=[3] by kernel_rfl];simp) (bs:=[I 0,.slice none 0 0,.slice none 0 0,.slice none 0 0,.slice none 0 0,.slice none 0 0,.slice none 0 0]) k3 J J q3_9 m3_9) (cF.nil _ _) (k22_2.kq m3_9) (k22_3.kq m3_9) (k22_4.kq m3_9) (cF.nil _ _) (cF.nil _ _))) Jd (fun d hd=>by simp[aS] at hd) (by decide) J)) ?_
 rintro v26 w26 ⟨x26,_,_,rfl,⟨⟨tq,tp,tl⟩,⟨hq,hpa,hI⟩,_,rfl,rt⟩,rfl⟩
 obtain rfl:tq=aQ:=hq
 obtain rfl:tp=[]:=hpa
 obtain⟨m0,m1,rfl,ha0,ha1⟩:=aRun hI
 obtain⟨tu,to,tl,th,tr,tt,tm,tn,tp,tv,rfl,lu,lo,ll,lh,lr,lt,lm',ln,lp,lq⟩:=d7 rt
 refine ab J J (aB J J cY (aB J J (cZ) (ce fp J fun g4 w4 l4 x4 k4=>bD J J k4 J bg (am.cons J (am.cons lu.one (am.cons lo.one (am.cons ll.one (am.cons lh.one (am.cons lr.one (am.cons lt.one (am.cons J (am.cons lm'.one (am.cons ln.one (am.cons lp.one (am.cons lq.one am.nil)))))))))))) fun w4_7 q4_7 k4_7=>?_)))
 have x4_7:=aH.of_new (x4) q4_7 l4
 refine aa J J (aI (aj ?_))
 have hbm:∀m∈[m0,m1],bt m.va≤17179869180:=fun m hm=>by
  rcases List.mem_cons.1 hm with rfl|hm
  ·rw[ha0.2.2.1];exact Nl (by kernel_rfl)
  ·obtain rfl:=List.mem_singleton.1 hm
   rw[ha1.2.2.1];exact Nat.le_of_ble_eq_true (by kernel_rfl)
 refine bj 34 [62] (by kernel_rfl) (by kernel_rfl) (ax (S:=Is (B true)) J J (ax (S:=Is (B true)) J J (au J J (al J J (fun w hw=>bO) (au J J (ap J J (fun w hw=>ai MN J (hw.cell_some (k4_7.cell (i:=11) J))) (au J J (mg (vs:=[tv]) J J (fun w hw=>bB MN ((lq.ext x4_7).ext hw)) (au J J (bC J J J (fun w _=>bF J aO) (dT (S:=Is (B true)) J J J (ax (S:=Is (B true)) J J (au J J (al J J (fun w hw=>bO) (au J J (ap J J (fun w hw=>ai MN J (hw.cell_some (k4_7.cell (i:=11) J))) (au J J ?_)))))))))))))))))
 obtain⟨a39,c39,e39,he39,p39,q39,h39⟩:=kG (lq.ext x4_7) (i:=0) (by simp)
 obtain⟨x39_0,x39_1,x39_2,rfl,f39_0,f39_1,f39_2⟩:=eG h39
 refine aK J J J (fun w _=>p39 w) (au J J (al J J (fun w hw=>cT) (au J J (ap J J (fun w hw=>(q39.ext hw).ldO (ms:=[B e39.va.sg,x39_0,x39_1]) (o:=2) (ef J) MC J ag) (au J J (es (S:=QV ((-1:Rat))) nK (QV.stable _) J J (fun w hw=>nN (x:= -1) (by omega) (by omega)) (au J J (bZ (S:=Is (B true)) mz (bi.is _) J (fun w hw=>by rintro _ rfl v42 h42;exact(by have h:=zX (y:= -1) ((aU.mk f39_0 f39_1).ext hw) h42;rw[show decide (e39.va= -1)=true from decide_eq_true (by rw[he39];exact ha0.2.2.1)] at h;exact h)) (dT (S:=Is (B true)) J J J (ax (S:=Is (B true)) J J (au J J (al J J (fun w hw=>bO) (au J J (ap J J (fun w hw=>ai MN J (hw.cell_some (k4_7.cell (i:=11) J))) (au J J ?_)))))))))))))))
 obtain⟨a48,c48,e48,he48,p48,q48,h48⟩:=kG (lq.ext x4_7) (i:=1) (by simp)
 obtain⟨x48_0,x48_1,x48_2,rfl,f48_0,f48_1,f48_2⟩:=eG h48
 refine aK J J J (fun w _=>p48 w) (au J J (al J J (fun w hw=>cT) (au J J (ap J J (fun w hw=>(q48.ext hw).ldO (ms:=[B e48.va.sg,x48_0,x48_1]) (o:=2) (ef J) MC J ag) (au J J (es (S:=QV ((2:Rat))) nK (QV.stable _) J J (fun w hw=>nN (x:=2) (by omega) (by omega)) (au J J (bZ (S:=Is (B true)) mz (bi.is _) J (fun w hw=>by rintro _ rfl v51 h51;exact(by have h:=zX (y:=2) ((aU.mk f48_0 f48_1).ext hw) h51;rw[show decide (e48.va=2)=true from decide_eq_true (by rw[he48];exact ha1.2.2.1)] at h;exact h)) (dT (S:=Is (B true)) J J J (ax (S:=Is (B true)) J J (au J J (ap J J (fun w hw=>(k4_7.ext hw).ld MM J bg) (au J J (es (S:=Is (B true)) Cd (bi.is _) J J (fun w hw=>Cg (s:=⟨aQ,[],[m0,m1]⟩) ((bQ.mk (dm (lu.ext x4_7) (lo.ext x4_7) (ll.ext x4_7) (lh.ext x4_7) (lr.ext x4_7) (lt.ext x4_7) (lm'.ext x4_7) (ln.ext x4_7) (lp.ext x4_7) (lq.ext x4_7))).ext hw) Jd J (by show 2≤8;omega) (aPrv ha0 ha1)) ?_))))))))))))))
 refine dT (S:=Is (B true)) J J J (ax (S:=Is (B true)) J J (au J J (ap J J (fun w hw=>(k4_7.ext hw).ld Tryz.underlying57 J bg) (au J J (ec (S:=Is (I 0)) uJ (bi.is _) J J J (fun w hw=>by have h:=uK (s:=⟨aQ,[],[m0,m1]⟩) (u:=0) ((bQ.mk (dm (lu.ext x4_7) (lo.ext x4_7) (ll.ext x4_7) (lh.ext x4_7) (lr.ext x4_7) (lt.ext x4_7) (lm'.ext x4_7) (ln.ext x4_7) (lp.ext x4_7) (lq.ext x4_7))).ext hw) ⟨Jd,by show 0≤4;omega,fun d hd=>by simp at hd,by show 2≤8;omega⟩ hbm (by omega) (show(0:Int)<1 by omega);rw[aPh ha0 ha1] at h;exact h) (au J J (bC J J J (fun w _=>bF J aO) (dT (S:=Is (B true)) J J J (bA ?_)))))))))
 rintro wg5 xg5 _ rfl
 refine aa J J (aI (aD (aF J J ?_)))
 exact⟨_,J,(((e1.trans x26).trans x4_7).trans xg5),J⟩
end Go.Rl
namespace Go.Rl
theorem GY (us:List dx) (x:List Rat) (j:Nat):eZ us x=eZ (us.drop j) (eZ (us.take j) x):=by
 unfold eZ
 rw[←List.foldl_append,List.take_append_drop]
theorem AC:∀(us:List dx) (x:List Rat),∃y,eZ us x=x++y
 |[],x=>⟨[],by simp[eZ]⟩
 |f::us,x=>by
  obtain⟨y,hy⟩:=AC us (wQ x f)
  refine⟨[max (sw x f.ts f.ct) 0]++y,?_⟩
  show eZ us (wQ x f)=_
  rw[hy,wQ,List.append_assoc]
theorem Ch {a b:List Rat} {i:Nat} (h:i<a.length):(a++b).getD i 0=a.getD i 0:=by
 rw[List.getD_eq_getElem?_getD,List.getD_eq_getElem?_getD,List.getElem?_append_left h]
theorem Fa {V:List Rat} {X:Int→Rat} (hX:∀v,X v=V.getD v.toNat 0):∀(l:List dU) (c:Rat),sw V l c=c+rx X l
 |[],c=>by simp only[sw,List.foldl_nil,rx];grind
 |t::l,c=>by
  have:=Fa hX l (c+t.co*V.getD t.va.toNat 0)
  unfold sw at this⊢
  rw[List.foldl_cons,this,rx,hX]
  grind
theorem Fb {a b:List Rat} {n:Nat}:∀(l:List dU) (c:Rat),(∀t∈l,t.va.toNat<a.length)→sw (a++b) l c=sw a l c
 |[],_,_=>rfl
 |t::l,c,h=>by
  have ih:=Fb (b:=b) (n:=n) l (c+t.co*a.getD t.va.toNat 0) fun u hu=>h u (List.mem_cons_of_mem _ hu)
  unfold sw at ih⊢
  rw[List.foldl_cons,List.foldl_cons,Ch (h t (by simp)),ih]
theorem Ci {pa:List nw} {kd i:Int} {y:Rat} (up:Bool):∀(b:Rat),(if up then y≤b else b≤y)→(∀d∈pa,d.kd=kd→d.ix=i→if up then y≤d.at_ else d.at_≤y)→
 if up then y≤pa.foldl (xz kd (if up then-1 else 1) i) b else pa.foldl (xz kd (if up then-1 else 1) i) b≤y:=by
 induction pa with
 |nil=>intro b hb _;exact hb
 |cons d pa ih=>
  intro b hb h
  rw[List.foldl_cons]
  refine ih _ ?_ fun e he=>h e (List.mem_cons_of_mem _ he)
  unfold xz
  by_cases hc:d.kd=kd∧d.ix=i∧f6 d.at_ b=(if up then-1 else 1)
  ·rw[if_pos hc];exact h d (by simp) hc.1 hc.2.1
  ·rw[if_neg hc];exact hb
theorem D2 {s:eX} {x:List Rat} (hs:n7 s.q) (hl:(x.length:Int)=s.q.g.inp) (hm:z7 s x=true):
 Gw s.q s.pa (fun v=>(eZ s.q.g.us x).getD v.toNat 0) (fun j=>(nW s.q.g.us (eZ s.q.g.us x)).getD j 0):=by
 unfold z7 at hm
 rw[Bool.and_eq_true,List.all_eq_true] at hm
 obtain⟨hin,hpa⟩:=hm
 unfold KJ at hin
 rw[Bool.and_eq_true,List.all_eq_true] at hin
 have hx:∀i:Nat,(i:Int)<s.q.g.inp→(eZ s.q.g.us x).getD i 0=x.getD i 0:=fun i hi=>by
  obtain⟨y,hy⟩:=AC s.q.g.us x
  rw[hy]
  exact Ch (by omega)
 have hbox:∀i:Nat,(i:Int)<s.q.g.inp→s.q.r.lo.getD i 0≤x.getD i 0∧x.getD i 0≤s.q.r.hi.getD i 0:=fun i hi=>by
  have:=hin.1 i (List.mem_range.2 (by omega))
  unfold Gn at this
  rw[Bool.and_eq_true,decide_eq_true_eq,decide_eq_true_eq] at this
  exact this
 have hfms:∀(j:Nat) (h:j<s.q.g.us.length),(nW s.q.g.us (eZ s.q.g.us x)).getD j 0=sw (eZ s.q.g.us x) s.q.g.us[j].ts s.q.g.us[j].ct:=fun j h=>by
  unfold nW
  rw[List.getD_eq_getElem?_getD,List.getElem?_map,List.getElem?_eq_getElem h];rfl
 refine⟨by have:=hs.g.i0;omega,fun j h=>(hs.g.us j h).1,fun i hi=>?_,fun j hj=>?_,fun j hj=>?_,fun j hj ho=>?_,fun j hj ho=>?_⟩
 ·show uZ (xn s.q s.pa []) i false≤(eZ s.q.g.us x).getD (i:Int).toNat 0∧_
  rw[Int.toNat_natCast,hx i hi]
  have hb:=hbox i hi
  unfold uZ
  refine⟨?_,?_⟩
  ·exact Ci (pa:=s.pa) (kd:=3) (i:=i) (y:=x.getD i 0) false (s.q.r.lo.getD i 0) hb.1 fun d hd h1 h2=>by
    have:=hpa d hd
    unfold kU at this
    rw[if_pos h1,decide_eq_true_eq,h2,Int.toNat_natCast] at this
    exact this
  ·exact Ci (pa:=s.pa) (kd:=4) (i:=i) (y:=x.getD i 0) true (s.q.r.hi.getD i 0) hb.2 fun d hd h1 h2=>by
    have:=hpa d hd
    unfold kU at this
    rw[if_neg (by omega),if_pos h1,decide_eq_true_eq,h2,Int.toNat_natCast] at this
    exact this
 ·show(eZ s.q.g.us x).getD (s.q.g.inp+(j:Int)).toNat 0=max ((nW s.q.g.us (eZ s.q.g.us x)).getD j 0) 0
  rw[hfms j hj]
  have hlen:(eZ (s.q.g.us.take j) x).length=x.length+j:=by rw[z6,List.length_take];omega
  have e1:eZ s.q.g.us x=eZ (s.q.g.us.drop (j+1)) (eZ (s.q.g.us.take (j+1)) x):=GY _ _ _
  have e2:eZ (s.q.g.us.take (j+1)) x=wQ (eZ (s.q.g.us.take j) x) s.q.g.us[j]:=by unfold eZ;rw[jz (by omega)]
  obtain⟨y,hy⟩:=AC (s.q.g.us.drop (j+1)) (eZ (s.q.g.us.take (j+1)) x)
  rw[←e1,e2,wQ,List.append_assoc] at hy
  have hin:(s.q.g.inp+(j:Int)).toNat=(eZ (s.q.g.us.take j) x).length:=by omega
  have e3:sw (eZ s.q.g.us x) s.q.g.us[j].ts s.q.g.us[j].ct=sw (eZ (s.q.g.us.take j) x) s.q.g.us[j].ts s.q.g.us[j].ct:=by
   rw[hy]
   refine Fb (n:=0) _ _ fun t ht=>?_
   have:=ft (hs.g.us j hj).1 t ht
   omega
  rw[e3,hy,hin,List.getD_eq_getElem?_getD,List.getElem?_append_right (Nat.le_refl _),Nat.sub_self];rfl
 ·show qX _ _=(nW s.q.g.us (eZ s.q.g.us x)).getD j 0
  rw[hfms j hj,Fa (X:=fun v=>(eZ s.q.g.us x).getD v.toNat 0) fun _=>rfl]
  rfl
 ·unfold gh at ho
  obtain⟨d,hd,h1⟩:=List.any_eq_true.1 ho
  rw[Bool.and_eq_true,decide_eq_true_eq,decide_eq_true_eq] at h1
  have:=hpa d hd
  unfold kU at this
  rw[if_neg (by omega),if_neg (by omega),if_pos h1.1,decide_eq_true_eq,h1.2,Int.toNat_natCast] at this
  exact this
 ·unfold gh at ho
  obtain⟨d,hd,h1⟩:=List.any_eq_true.1 ho
  rw[Bool.and_eq_true,decide_eq_true_eq,decide_eq_true_eq] at h1
  have:=hpa d hd
  unfold kU at this
  rw[if_neg (by omega),if_neg (by omega),if_neg (by omega),decide_eq_true_eq,h1.2,Int.toNat_natCast] at this
  exact this
end Go.Rl
namespace Go.Rl
open Go.RowKit Go.Proofs
theorem D3 {d bits:Nat} {s t:eX} (h:DZ d s bits t) (hs:zV s.q.g):∀m∈t.lm,bt m.va≤2400000020:=fun m hm=>by
 obtain⟨i,hi,rfl⟩:=List.mem_iff_getElem.1 hm
 have h1:=h.2.2.2.1.sz i hi
 have h2:=h.2.2.1.len
 have h3:=hs.ul
 have h4:=uf (i:=i/2) (j:=3) (by omega) (by omega)
 have h5:sv 3=2400000020:=rfl
 omega
theorem xl {d bits:Nat} {s t:eX} (h:DZ d s bits t) {j:Nat} (hj:j<s.q.g.us.length):cy t.lm j=(2*j+1,2*j+2):=by
 have h2:=h.2.2.1.len
 rw[h.2.2.2.1.shp.best,if_pos (by omega),if_pos (by omega)]
theorem ug {l:List ig} {n:Nat} (h:∀m∈l,bt m.va≤2400000020):bt (dA l n)≤2400000020:=by
 unfold dA
 split
 ·rename_i m hm
  exact h m (List.mem_of_getElem? hm)
 ·rw[tY];omega
theorem MB {s t:eX} {X:Int→Rat} {pre:Nat→Rat} (h:Gw s.q s.pa X pre) (hpa:t.pa=s.pa) {j:Nat} (hj:j<s.q.g.us.length) (hb:cy t.lm j=(2*j+1,2*j+2)) (h1:dA t.lm (2*j+1)≤pre j) (hp:Cl t j=1):0≤pre j:=by
 unfold Cl at hp
 rw[hb] at hp
 dsimp only at hp
 split at hp
 ·rename_i hon
  unfold nV at hon
  rw[Bool.or_eq_true,Bool.and_eq_true,decide_eq_true_eq,decide_eq_true_eq] at hon
  rcases hon with hd|hd
  ·exact h.on j hj (by unfold gh at hd⊢;rw[hpa] at hd;exact hd)
  ·exact Rat.le_trans hd.2 h1
 ·split at hp<;>omega
theorem LR {s t:eX} {X:Int→Rat} {pre:Nat→Rat} (h:Gw s.q s.pa X pre) (hpa:t.pa=s.pa) {j:Nat} (hj:j<s.q.g.us.length) (hb:cy t.lm j=(2*j+1,2*j+2)) (h1:pre j≤dA t.lm (2*j+2)) (hp:Cl t j=2):pre j≤0:=by
 unfold Cl at hp
 rw[hb] at hp
 dsimp only at hp
 split at hp
 ·omega
 ·split at hp
  ·rename_i hoff
   unfold iB at hoff
   rw[Bool.or_eq_true,Bool.and_eq_true,decide_eq_true_eq,decide_eq_true_eq] at hoff
   rcases hoff with hd|hd
   ·exact h.off j hj (by unfold gh at hd⊢;rw[hpa] at hd;exact hd)
   ·exact Rat.le_trans h1 hd.2
  ·omega
theorem Fc {w:World} {raw:List UInt8} {v:Value} (hv:lP raw v w) (hT:nt w):
 Calls Tryz.prog 5 #[v] w (cA fun r w'=>r=B true∧aH w w'):=by
 refine enter Tryz.func5 J J J (bc (aa J J (aI (aj (bc (aq uV J J (uW hT) ?_))))))
 rintro v15 w15 ⟨x15,rfl⟩
 refine cC J J cn (aI (bU J (aA (ah (aj (aj ?_))))))
 rcases(show 400<raw.length∨raw.length≤400 by omega) with hk|hk
 ·refine ae (ab J J (bn J J (og (hv.ext x15)) (ao J J J (bF (by omega) bo) (aI (cg J (bc (aa J J (ar ?_))))))))
  refine ah (aD (a0 (aF J J ?_)))
  exact⟨_,J,J,x15⟩
 ·refine ae (ab J J (bn J J (og (hv.ext x15)) (ao J J J (be (by omega) bo) (aI (bU J (aA (ah (bc (ab J J ?_)))))))))
  refine aq uO J J ((uP (hv.ext x15) (by omega))) ?_
  rintro v21 w21 ⟨x21,⟨q,pa,lm⟩,⟨hs,hlm⟩,_,rfl,rs⟩
  obtain rfl:lm=[]:=hlm
  obtain⟨su,so,sl,sh,sr,st,sm,sn,sp,sq,rfl,iu,io,il,ih,ir,it,im,jn,ip,iq⟩:=d7 rs
  refine ce fp J fun g3 w3 l3 x3 k3=>bD (m:=[I q.g.inp,su,so,sl,sh,sr,st,B q.go.ct.sg,sm,sn,sp,sq]) J J k3 J bg (am.cons J (am.cons iu.one (am.cons io.one (am.cons il.one (am.cons ih.one (am.cons ir.one (am.cons it.one (am.cons J (am.cons im.one (am.cons jn.one (am.cons ip.one (am.cons iq.one am.nil)))))))))))) fun w5_3 q5_3 k5_3=>?_
  have x5_3:=aH.of_new (x3) q5_3 l3
  have e5:=(x15.trans x21).trans x5_3
  refine dR (ak J J (k5_3.ld MM J bg) (aq rj J J ((rk (d:=0) (bits:=0) (s:=⟨q,pa,[]⟩) (by decide) (by decide) (hT.ext (e5)) (bQ.mk (dm (iu.ext x5_3) (io.ext x5_3) (il.ext x5_3) (ih.ext x5_3) (ir.ext x5_3) (it.ext x5_3) (im.ext x5_3) (jn.ext x5_3) (ip.ext x5_3) (iq.ext x5_3))) hs.q hs.pa (Nb hs.pl (by decide)) J)) ?_))
  rintro v24 w24 ⟨x24,_,_,rfl,⟨⟨q1,p1,L⟩,⟨hq1,hp1,hI1⟩,_,rfl,rt⟩,rfl⟩
  obtain rfl:q1=q:=hq1
  obtain rfl:p1=pa:=hp1
  obtain⟨tu,to,tl,th,tr,tt,tm,tn,tp,tv,rfl,lu,lo,ll,lh,lr,lt,lm',ln,lp,lq⟩:=d7 rt
  refine ab J J (aB J J cY (aB J J (cZ) (ce fp J fun g4 w4 l4 x4 k4=>bD (m:=[I q1.g.inp,tu,to,tl,th,tr,tt,B q1.go.ct.sg,tm,tn,tp,tv]) J J k4 J bg (am.cons J (am.cons lu.one (am.cons lo.one (am.cons ll.one (am.cons lh.one (am.cons lr.one (am.cons lt.one (am.cons J (am.cons lm'.one (am.cons ln.one (am.cons lp.one (am.cons lq.one am.nil)))))))))))) fun w6_6 q6_6 k6_6=>?_)))
  have x6_6:=aH.of_new (x4) q6_6 l4
  have e3:=(x5_3.trans x24).trans x6_6
  refine aa J J (dR (ak J J ((k5_3.ext (x24.trans x6_6)).ld MM J bg) (aq rj J J ((rk (d:=2) (bits:=0) (s:=⟨q1,p1,[]⟩) (by decide) (by decide) (hT.ext (((e5.trans x24).trans x6_6))) (bQ.mk (dm (iu.ext e3) (io.ext e3) (il.ext e3) (ih.ext e3) (ir.ext e3) (it.ext e3) (im.ext e3) (jn.ext e3) (ip.ext e3) (iq.ext e3))) hs.q hs.pa (Nb hs.pl (by decide)) J)) ?_)))
  rintro v29 w29 ⟨x29,_,_,rfl,⟨⟨q2,p2,M⟩,⟨hq2,hp2,hI2⟩,_,rfl,ru⟩,rfl⟩
  obtain rfl:q2=q1:=hq2
  obtain rfl:p2=p1:=hp2
  obtain⟨zu,zo,zl,zh,zr,zt,zm,zn,zp,zv,rfl,mu,mo,ml,mh,mr,mt,mm',mn,mp,mq⟩:=d7 ru
  refine ab J J (aB J J cY (aB J J (cZ) (ce fp J fun g6 w6 l6 x6 k6=>bD (m:=[I q2.g.inp,zu,zo,zl,zh,zr,zt,B q2.go.ct.sg,zm,zn,zp,zv]) J J k6 J bg (am.cons J (am.cons mu.one (am.cons mo.one (am.cons ml.one (am.cons mh.one (am.cons mr.one (am.cons mt.one (am.cons J (am.cons mm'.one (am.cons mn.one (am.cons mp.one (am.cons mq.one am.nil)))))))))))) fun w7_6 q7_6 k7_6=>?_)))
  have x7_6:=aH.of_new (x6) q7_6 l6
  refine aa J J (aI (aj (bc (ab J J (cC J J cn (ab J J (an J (ab J J (an J (cC J J cn (aG J J J (aI (bU J (aA (ah (aj (aj ?_)))))))))))))))))
  have hR1:DZ 0 ⟨q2,p2,[]⟩ 0 ⟨q2,p2,L⟩:=⟨rfl,rfl,hI1⟩
  have hR2:DZ 2 ⟨q2,p2,[]⟩ 0 ⟨q2,p2,M⟩:=⟨rfl,rfl,hI2⟩
  have bL:∀m∈L,bt m.va≤2400000020:=D3 hR1 hs.q.g
  have bM:∀m∈M,bt m.va≤2400000020:=D3 hR2 hs.q.g
  have nL:L.length=2*q2.g.us.length:=hI1.1.len
  have nM:M.length=2*q2.g.us.length:=hI2.1.len
  have hul:q2.g.us.length≤4:=hs.q.g.ul
  have htg:=xd.tighter hI1.1 hI2.1 (fun j h=>(hs.q.g.us j h).1) q2.g.us.length (Ng _)
  refine ae (aa J J (aI (aJ (dS (α:=Nat) (fun n=>[(3,.pointer (some ⟨g3,0,none⟩)),(4,.pointer (some ⟨g4,0,none⟩)),(6,.pointer (some ⟨g6,0,none⟩)),(8,I (n:Int))]) (fun n w'=>aH w7_6 w'∧n≤q2.g.us.length) (fun n=>q2.g.us.length-n) (0) ⟨J,J,J,J,trivial⟩ ⟨aH.refl _,by omega⟩ ?_))))
  rintro j wL ⟨eL,hj⟩
  refine aj (bc (ab J J (af J J (bz) (af J J (bG) (af J J (bX) (ak J J (ai MI J (((((x24.trans x6_6).trans x29).trans x7_6).trans eL).cell_some (k5_3.cell (i:=1) J))) (bn J J (bB MI (iu.ext (((e3.trans x29).trans x7_6).trans eL))) (ao J J J (aX) (aI (ci J (fun h44=>?_) (fun h44=>?_)))))))))))
  ·refine aA (ah (aj (aJ (bc (ak J J ((k6_6.ext ((x29.trans x7_6).trans eL)).ld MM J bg) ?_)))))
   refine ab J J ?_
   have hA:j<q2.g.us.length:=by simpa using h44
   have hb1:cy L (j:Int)=_:=xl hR1 hA
   have hb2:cy M (j:Int)=_:=xl hR2 hA
   have hle:=htg j hA
   have v1:=ug (n:=2*j+1) bL
   have v2:=ug (n:=2*j+2) bL
   have v3:=ug (n:=2*j+1) bM
   have v4:=ug (n:=2*j+2) bM
   have e2:=((x6_6.trans x29).trans x7_6).trans eL
   refine aq si J J ((by have h:=sj (s:=⟨q2,p2,L⟩) (u:=(j:Int)) (bQ.mk (dm (lu.ext e2) (lo.ext e2) (ll.ext e2) (lh.ext e2) (lr.ext e2) (lt.ext e2) (lm'.ext e2) (ln.ext e2) (lp.ext e2) (lq.ext e2))) (fun m hm=>Nb (bL m hm) (by decide)) (by show L.length≤_;omega) (by show 0<(cy L (j:Int)).1;rw[hb1];exact Nat.succ_pos _) (by show 0<(cy L (j:Int)).2;rw[hb1];exact Nat.succ_pos _);rw[show cy (eX.mk q2 p2 L).lm (j:Int)=_ from hb1] at h;exact h)) ?_
   rintro v50 w50 ⟨x50,⟨_,_,_,rfl,⟨x50_a_0,x50_a_1,rfl,f50_a_0,f50_a_1⟩,⟨x50_b_0,x50_b_1,rfl,f50_b_0,f50_b_1⟩,rfl⟩⟩
   refine ab J J (aB J J ey (aB J J ez (aB J J eF (ce bv J fun g9 w9 l9 x9 k9=>ce bv J fun g10 w10 l10 x10 k10=>bD (m:=[B (dA L (2*j+1)).sg,x50_a_0,x50_a_1]) J J (k9.ext x10) J ag (am.cons J (am.cons f50_a_0.one (am.cons f50_a_1.one am.nil))) fun w13_9 q13_9 k13_9=>?_))))
   have x13_9:=aH.of_new ((x9.trans x10)) q13_9 l9
   have j1_k10:=(k10.other q13_9 fun e=>by have h1:=k9.lt;have h2:=l10;have h4:=Nc e;omega)
   refine bD (m:=[B (dA L (2*j+2)).sg,x50_b_0,x50_b_1]) J J j1_k10 J ag (am.cons J (am.cons f50_b_0.one (am.cons f50_b_1.one am.nil))) fun w13_10 q13_10 k13_10=>?_
   have x13_10:=aH.of_new (x13_9) q13_10 (Nb (x9).size l10)
   have e6:=(eL.trans x50).trans x13_10
   refine aa J J (dR (ak J J ((k7_6.ext e6).ld MM J bg) ?_))
   have e1:=((x7_6.trans eL).trans x50).trans x13_10
   refine ab J J (aq si J J ((by have h:=sj (s:=⟨q2,p2,M⟩) (u:=(j:Int)) (bQ.mk (dm (mu.ext e1) (mo.ext e1) (ml.ext e1) (mh.ext e1) (mr.ext e1) (mt.ext e1) (mm'.ext e1) (mn.ext e1) (mp.ext e1) (mq.ext e1))) (fun m hm=>Nb (bM m hm) (by decide)) (by show M.length≤_;omega) (by show 0<(cy M (j:Int)).1;rw[hb2];exact Nat.succ_pos _) (by show 0<(cy M (j:Int)).2;rw[hb2];exact Nat.succ_pos _);rw[show cy (eX.mk q2 p2 M).lm (j:Int)=_ from hb2] at h;exact h)) ?_)
   rintro v57 w57 ⟨x57,⟨_,_,_,rfl,⟨x57_a_0,x57_a_1,rfl,f57_a_0,f57_a_1⟩,⟨x57_b_0,x57_b_1,rfl,f57_b_0,f57_b_1⟩,rfl⟩⟩
   refine ab J J (aB J J ey (aB J J ez (aB J J eF (ce bv J fun g12 w12 l12 x12 k12=>ce bv J fun g13 w13 l13 x13 k13=>bD (m:=[B (dA M (2*j+1)).sg,x57_a_0,x57_a_1]) J J (k12.ext x13) J ag (am.cons J (am.cons f57_a_0.one (am.cons f57_a_1.one am.nil))) fun w14_9 q14_9 k14_9=>?_))))
   have x14_9:=aH.of_new ((x12.trans x13)) q14_9 l12
   have j2_k13:=(k13.other q14_9 fun e=>by have h1:=k12.lt;have h2:=l13;have h4:=Nc e;omega)
   refine bD (m:=[B (dA M (2*j+2)).sg,x57_b_0,x57_b_1]) J J j2_k13 J ag (am.cons J (am.cons f57_b_0.one (am.cons f57_b_1.one am.nil))) fun w14_10 q14_10 k14_10=>?_
   have x14_10:=aH.of_new (x14_9) q14_10 (Nb (x12).size l13)
   refine aa J J (dR (ab J J (cC J J cn (ab J J (an J (ab J J (an J (cC J J cn (aG J J J (ab J J (an J ?_)))))))))))
   have j3_k13_9:=(((k13_9.other q13_10 fun e=>by have h1:=k9.lt;have h2:=l10;have h4:=Nc e;omega).ext x57).ext x14_10)
   refine ak J J (j3_k13_9.ld MC J ag) (an J ?_)
   have j4_k14_9:=(k14_9.other q14_10 fun e=>by have h1:=k12.lt;have h2:=l13;have h4:=Nc e;omega)
   have e4:=(x13_10.trans x57).trans x14_10
   refine ak J J (j4_k14_9.ld MC J ag) (an J (aq ee J J (jU (aU.mk (f50_a_0.ext e4) (f50_a_1.ext e4)) (aU.mk (f57_a_0.ext x14_10) (f57_a_1.ext x14_10)) (by omega)) ?_))
   rintro v70 w70 ⟨x70,rfl⟩
   refine an J (ao J J J (be (fun h=>absurd (gd.1 h) (Rat.not_lt.2 hle.1)) bo) (aG J J J (ab J J (an J (ak J J ((k14_10.ext x70).ld MC J ag) (an J (ak J J ((k13_10.ext ((x57.trans x14_10).trans x70)).ld MC J ag) (an J (aq ee J J (jU (aU.mk (f57_b_0.ext (x14_10.trans x70)) (f57_b_1.ext (x14_10.trans x70))) (aU.mk (f50_b_0.ext (e4.trans x70)) (f50_b_1.ext (e4.trans x70))) (by omega)) ?_)))))))))
   rintro v76 w76 ⟨x76,rfl⟩
   refine an J (ao J J J (be (fun h=>absurd (gd.1 h) (Rat.not_lt.2 hle.2)) bo) (aG J J J (aI (bU J (aA (aW (ah (ae (ab J J (ao (r:=I ((j+1:Nat):Int)) J J J (by have e:((j+1:Nat):Int)=(j:Int)+1:=(by omega);rw[e];exact aY) (aa J J (ar (dC (j+1) ⟨J,J,J,J,trivial⟩ ⟨((((e6.trans x57).trans x14_10).trans x70).trans x76),by omega⟩ (by omega))))))))))))))
  ·refine bJ (aV (aV (bP (ah (bc (aa J J (aI (aD (aF J J ?_)))))))))
   exact⟨_,J,J,(((((((x15.trans x21).trans x5_3).trans x24).trans x6_6).trans x29).trans x7_6).trans eL)⟩
end Go.Rl

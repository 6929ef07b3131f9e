/- Part 6 of a proof: plain facts and walks of functions, merged by a program. Conditions: each lemma names its own. -/
import Derived.Test.YtpeidnhjcompmaaGreatDoorJa5
namespace Go.Rl
open Go.RowKit Go.Proofs
theorem B1:aG Tryz.prog 25:=⟨_,Tryz.func25,by kernel_rfl,rfl⟩
theorem t3 {w0:World} (ho:zH w0):∀t:JT,DE w0 t
 |.gap=>rD ho fun s a b h=>by cases h
 |.leaf n=>rD ho fun s a b h=>by cases h
 |.split s' a' b'=>rD ho fun s a b h=>by
  obtain⟨rfl,rfl,rfl⟩:=JT.split.inj h
  exact⟨t3 ho _,t3 ho _⟩
def xF (es:List cc):(aW×List (List bS))×Int:=
 if es.all cK=false then((Ir,[]),1) else
 match jk es .gap with
 |none=>((Ir,[]),11)
 |some t=>if qg t.node=false then((Ir,[]),8) else((t.node,t.miss []),0)
def B7 (es:List cc) (r:Value) (w':World):Prop:=∃cs mv,r=.tuple #[.agg cs.toArray,mv,I (xF es).2]∧au cs∧Rp w' (bG (xF es).1.1) cs∧cA y8 (xF es).1.2 mv w'
def nS:List Value:=[.slice none 0 0,I 0,I 0,B false,.slice none 0 0,.slice none 0 0,.slice none 0 0,B false,.slice none 0 0]
theorem B7.err {es:List cc} {w':World} {c:Int} (h:xF es=((Ir,[]),c)):B7 es (.tuple #[.agg nS.toArray,.slice none 0 0,I c]) w':=by
 unfold B7
 rw[h]
 exact⟨_,_,rfl,au.cons rfl (au.cons rfl (au.cons rfl (au.cons rfl (au.cons rfl (au.cons rfl (au.cons rfl (au.cons rfl (au.cons rfl au.nil)))))))),(uU (X:=fun _=>False)).rp,cA.nil _ _⟩
theorem ta {P:Program} {fn:Func} {R:Ending→World→Prop} {N:Nat} {fr:Fr} {p s1 s2:Tmp} {t T:TypeId} {u1 u2:Value} {l:List Value} {w:World} {g:Nat} {d:TypeDesc} (hr:fn.results= #[.cell p t,.tmp s1,.tmp s2]) (hv:lk fr p=some (.pointer (some ⟨g,0,none⟩))) (h1:lk fr s1=some u1) (h2:lk fr s2=some u2) (hb:ci g T l w) (hu:P.underlying t=some d) (hd:d.isRow=true) (hi:(P.info? t).map (·.size)=some l.length)
 (h:R (.returned (.tuple #[.agg l.toArray,u1,u2])) w):gU (bodyPost P fn R) N [] fr w .ret:=fun a ha=>by
 refine⟨ha.defers,.tuple #[.agg l.toArray,u1,u2],?_,h⟩
 have hp:=ha.at_ p _ hv
 have hp':a.tmps[p]?.getD undef=.pointer (some ⟨g,0,none⟩):=by simpa using hp
 have q1:=ha.at_ s1 _ h1
 have q2:=ha.at_ s2 _ h2
 have hl:=run_loadVar_row w g T t l.toArray (0,0) d hb hu (by cases d<;>first|rfl|exact hd) (by simpa using hi)
 simp[results,hr,hp',asAddr,hl,←q1,←q2]
theorem IC {α:Type} {p:α→Bool} {l:List α} {i:Nat} (hi:i<l.length):(l.take (i+1)).all p=((l.take i).all p&&p l[i]):=by
 rw[List.take_succ_eq_append_getElem hi,List.all_append]
 simp
theorem JP {α:Type} {p:α→Bool} {l:List α} {i:Nat} (hi:i<l.length) (h:p l[i]=false):l.all p=false:=by
 cases hh:l.all p with
 |false=>rfl
 |true=>rw[List.all_eq_true] at hh;have:=hh _ (List.getElem_mem hi);rw[h] at this;cases this
theorem lI:∀(a b:List cc) (t:JT),jk (a++b) t=(jk a t).bind (jk b)
 |[],b,t=>rfl
 |e::a,b,t=>by
  simp only[List.cons_append,jk]
  cases It e t with
  |none=>rfl
  |some t'=>simp only[Option.bind_some];exact lI a b t'
theorem Ca {l:List cc} {i:Nat} (hi:i<l.length) {t:JT} (h:jk (l.take i) .gap=some t):jk (l.take (i+1)) .gap=It l[i] t:=by
 rw[List.take_succ_eq_append_getElem hi,lI,h]
 simp only[Option.bind_some,jk]
 cases It l[i] t<;>rfl
theorem Gm {l:List cc} {i:Nat} (h:jk (l.take i) .gap=none):jk l .gap=none:=by
 rw[←List.take_append_drop i l,lI,h];rfl
theorem DF {u:cc} (h:cK u=true):u.path.length≤2048:=by
 unfold cK at h
 simp only[Bool.and_eq_true,decide_eq_true_eq] at h
 exact h.1.1.1.1
theorem Cb {w:World} {es:List cc} {ev:Value} (hv:cA jv es ev w) (hs:∀u∈es,Kj u) (ho:zH w) (hn:es.length≤1048576):
 Calls Tryz.prog 25 #[ev] w (bE fun r w'=>aK w w'∧B7 es r w'):=by
 refine enter (vs:=[ev]) Tryz.func25 MI MI MI ?_
 refine af (aa ?_)
 obtain⟨g2,w2,hr2,l2,x2,k2⟩:=aY (P:=Tryz.prog) (w:=w) (t:=52) (z:=.agg #[.slice none 0 0,I 0,I 0,B false,.slice none 0 0,.slice none 0 0,.slice none 0 0,B false,.slice none 0 0]) (l:=[.slice none 0 0,I 0,I 0,B false,.slice none 0 0,.slice none 0 0,.slice none 0 0,B false,.slice none 0 0]) (by kernel_rfl) rfl
 refine aV MI hr2 (ac MI MI (ac MI MI (ag (ab (af (af ?_))))))
 have k20:ci g2 52 nS w2:=k2
 have hll:=hv.len
 have s2:=x2.size
 have lg2:=k2.lt
 refine aa (ae MI MI (aP MI MI (bg Mu (hv.ext x2)) (ae MI MI (ag (ab (aF ?_))))))
 refine cg (α:=Nat) (fun x=>[(0,ev),(2,.pointer (some ⟨g2,0,none⟩)),(3,.slice none 0 0),(4,I 0),(12,ev),(13,I ((es.length:Nat):Int)),(14,I (x:Int))]) (fun x w'=>aK w w'∧x≤es.length∧(es.take x).all cK=true∧ci g2 52 nS w') (fun x=>es.length-x) (0) ⟨rfl,rfl,rfl,rfl,rfl,rfl,rfl,trivial⟩ ⟨x2,by omega,rfl,k20⟩ ?_
 rintro i wL ⟨eL,hi,hA,kL⟩
 refine af (aa (al MI MI MI (a9) (ag (ab (af ?_)))))
 refine bw MI (fun h15=>?_) (fun h15=>?_)
 ·refine aA (ab (af (aF (af (aa ?_)))))
  obtain⟨a16,c16,p16,q16,h16⟩:=bZ (P:=Tryz.prog) (sz:=10) Mu (by kernel_rfl) cQ (by omega) hv (i:=i) ((by omega)) .i64
  obtain⟨e16,he16⟩:∃e,e=es[i]'((by omega)):=⟨_,rfl⟩
  rw[←he16] at h16
  obtain⟨x16_0,x16_1,x16_2,x16_3,x16_4,x16_5,rfl,f16_0,f16_1,f16_2,f16_3,f16_4,f16_5⟩:=ii h16
  refine av MI MI MI (p16 _) (ak MI MI ((q16.ext eL).ld Md MI (by kernel_rfl)) ?_)
  obtain⟨g6,w6,hr6,l6,x6,k6⟩:=aY (P:=Tryz.prog) (w:=wL) (t:=54) (z:=.agg #[.slice none 0 0,.slice none 0 0,I 0,I 0,B false,.slice none 0 0,.slice none 0 0,.slice none 0 0,B false,.slice none 0 0]) (l:=[.slice none 0 0,.slice none 0 0,I 0,I 0,B false,.slice none 0 0,.slice none 0 0,.slice none 0 0,B false,.slice none 0 0]) (by kernel_rfl) rfl
  refine aV MI hr6 ?_
  obtain⟨w3_3,s3_3,q3_3,k3_3⟩:=k6.stS (P:=Tryz.prog) (t:=54) (m:=[x16_0,x16_1,I e16.leaf.split.kd,I e16.leaf.split.ix,B e16.leaf.split.at_.1,x16_2,x16_3,x16_4,B e16.leaf.empty,x16_5]) rfl (by kernel_rfl) (au.cons f16_0.one (au.cons f16_1.one (au.cons rfl (au.cons rfl (au.cons rfl (au.cons f16_2.one (au.cons f16_3.one (au.cons f16_4.one (au.cons rfl (au.cons f16_5.one au.nil))))))))))
  refine ar MI MI s3_3 ?_
  have x3_3:=aK.of_new (x6) q3_3 l6
  refine ag (ab (af ?_))
  have hmem:e16∈es:=by rw[he16];exact List.getElem_mem _
  have kL4:=kL.ext (x3_3)
  rcases hval:cK e16
  ·refine aa (ak MI MI (k3_3.ld Md MI (by kernel_rfl)) (am nK MI MI ((by have h:=nN (u:=e16) (f16_0.ext (eL.trans x3_3)) (f16_1.ext (eL.trans x3_3)) (f16_2.ext (eL.trans x3_3)) (f16_3.ext (eL.trans x3_3)) (f16_4.ext (eL.trans x3_3)) (f16_5.ext (eL.trans x3_3)) (hs e16 hmem);rw[hval] at h;exact h)) ?_))
   rintro v19 w19 ⟨x19,rfl⟩
   refine bt MI MI bu (ag (ab (bh MI (af (aa (bz (vs:=[]) (r:=.agg #[.slice none 0 0,I 0,I 0,B false,.slice none 0 0,.slice none 0 0,.slice none 0 0,B false,.slice none 0 0]) MI MI (by exact run_build _ _ _ _ (by kernel_rfl)) ?_))))))
   obtain⟨w5,s5,q5,k5⟩:=(kL4.ext x19).stS (P:=Tryz.prog) (t:=52) (m:=nS) rfl (by kernel_rfl) (au.cons rfl (au.cons rfl (au.cons rfl (au.cons rfl (au.cons rfl (au.cons rfl (au.cons rfl (au.cons rfl (au.cons rfl au.nil)))))))))
   refine ar MI MI s5 ?_
   have e5:=aK.of_new (((eL.trans x3_3).trans x19)) q5 l2
   refine ac MI MI (ac MI MI (ag (ab (aw (aX (ay (ay (aX (ay ?_)))))))))
   refine ta MI MI MI MI k5 L9 MI (by kernel_rfl) ?_
   have hno:es.all cK=false:=JP (i:=i) (by omega) (by rw[←he16];exact hval)
   exact⟨_,rfl,e5,B7.err (c:=1) (by unfold xF;rw[if_pos hno])⟩
  ·refine aa (ak MI MI (k3_3.ld Md MI (by kernel_rfl)) (am nK MI MI ((by have h:=nN (u:=e16) (f16_0.ext (eL.trans x3_3)) (f16_1.ext (eL.trans x3_3)) (f16_2.ext (eL.trans x3_3)) (f16_3.ext (eL.trans x3_3)) (f16_4.ext (eL.trans x3_3)) (f16_5.ext (eL.trans x3_3)) (hs e16 hmem);rw[hval] at h;exact h)) ?_))
   rintro v19 w19 ⟨x19,rfl⟩
   refine bt MI MI bu (ag (ab (cq MI (aA (aS (ab (aa (al (r:=I ((i+1:Nat):Int)) MI MI MI (by have e:((i+1:Nat):Int)=(i:Int)+1:=(by omega);rw[e];exact aN (by omega) (by omega)) ?_))))))))
   refine ae MI MI (ag ?_)
   refine bR (i+1) ⟨rfl,rfl,rfl,rfl,rfl,rfl,rfl,trivial⟩ ⟨((eL.trans x3_3).trans x19),by omega,by rw[IC (by omega),hA,←he16,hval];rfl,kL4.ext x19⟩ (by omega)
 ·refine bc (aJ (aJ (bf (ab (af ?_)))))
  have hall:es.all cK=true:=by rw[List.take_of_length_le (by omega)] at hA;exact hA
  have hvl:∀u∈es,cK u=true:=fun u hu=>List.all_eq_true.1 hall u hu
  refine aa (bz (vs:=[]) (r:=.agg #[I 0,I 0,B false,.slice none 0 0,.slice none 0 0,.pointer none,.pointer none,.pointer none]) MI MI (by exact run_build _ _ _ _ (by kernel_rfl)) ?_)
  obtain⟨g24,w24,hr24,l24,x24,k24⟩:=cC (P:=Tryz.prog) (w:=wL) (T:=114) (cs:=[I 0,I 0,B false,.slice none 0 0,.slice none 0 0,.pointer none,.pointer none,.pointer none])
  refine cG MI MI hr24 (ac MI MI (ag (ab (af (af ?_)))))
  have ng2:g2∉[g24]:=by have:=kL.lt;simp;omega
  have j24:jL w w24 g24 .gap [g24]:=jL.gap k24 (by have:=eL.size;omega)
  refine aa (ae MI MI (aP MI MI (bg Mu (hv.ext (eL.trans x24))) (ae MI MI (ag (ab (aF ?_))))))
  refine jZ (fun(i:Nat) (t:JT) (ids:List Nat)=>[(2,.pointer (some ⟨g2,0,none⟩)),(3,.slice none 0 0),(4,I 0),(7,.pointer (some ⟨g24,0,none⟩)),(25,ev),(26,I ((es.length:Nat):Int)),(27,I (i:Int))]) (fun(i:Nat) (t:JT) (ids:List Nat) w'=>aK w w'∧i≤es.length∧ci g2 52 nS w'∧jL w w' g24 t ids∧g2∉ids∧jk (es.take i) .gap=some t∧t.depth≤2048∧t.gaps≤1+2048*i) (fun(i:Nat) (t:JT) (ids:List Nat)=>es.length-i) (0) (.gap) ([g24]) ⟨rfl,rfl,rfl,rfl,rfl,rfl,rfl,trivial⟩ ⟨eL.trans x24,by omega,kL.ext x24,j24,ng2,rfl,by simp[JT.depth],by simp[JT.gaps]⟩ ?_
  rintro i t ids wM ⟨eM,hi,kM,jM,nM,hT,hdp,hgp⟩
  refine af (aa (al MI MI MI (a9) (ag (ab (af ?_)))))
  refine bw MI (fun h28=>?_) (fun h28=>?_)
  ·refine aA (ab (af (aF (af (aa ?_)))))
   obtain⟨a29,c29,p29,q29,h29⟩:=bZ (P:=Tryz.prog) (sz:=10) Mu (by kernel_rfl) cQ (by omega) hv (i:=i) ((by omega)) .i64
   obtain⟨e29,he29⟩:∃e,e=es[i]'((by omega)):=⟨_,rfl⟩
   rw[←he29] at h29
   obtain⟨x29_0,x29_1,x29_2,x29_3,x29_4,x29_5,rfl,f29_0,f29_1,f29_2,f29_3,f29_4,f29_5⟩:=ii h29
   refine av MI MI MI (p29 _) (ak MI MI ((q29.ext eM).ld Md MI (by kernel_rfl)) ?_)
   obtain⟨g9,w9,hr9,l9,x9,k9⟩:=aY (P:=Tryz.prog) (w:=wM) (t:=54) (z:=.agg #[.slice none 0 0,.slice none 0 0,I 0,I 0,B false,.slice none 0 0,.slice none 0 0,.slice none 0 0,B false,.slice none 0 0]) (l:=[.slice none 0 0,.slice none 0 0,I 0,I 0,B false,.slice none 0 0,.slice none 0 0,.slice none 0 0,B false,.slice none 0 0]) (by kernel_rfl) rfl
   refine aV MI hr9 ?_
   obtain⟨w10_3,s10_3,q10_3,k10_3⟩:=k9.stS (P:=Tryz.prog) (t:=54) (m:=[x29_0,x29_1,I e29.leaf.split.kd,I e29.leaf.split.ix,B e29.leaf.split.at_.1,x29_2,x29_3,x29_4,B e29.leaf.empty,x29_5]) rfl (by kernel_rfl) (au.cons f29_0.one (au.cons f29_1.one (au.cons rfl (au.cons rfl (au.cons rfl (au.cons f29_2.one (au.cons f29_3.one (au.cons f29_4.one (au.cons rfl (au.cons f29_5.one au.nil))))))))))
   refine ar MI MI s10_3 ?_
   have x10_3:=aK.of_new (x9) q10_3 l9
   refine ag (ab (af ?_))
   have hmem:e29∈es:=by rw[he29];exact List.getElem_mem _
   have eN:=x10_3
   have jN:=jM.ext eN
   have kN:=kM.ext eN
   have hTn:=Ca (l:=es) (i:=i) (by omega) hT
   rw[←he29] at hTn
   have hpl:=DF (hvl e29 hmem)
   rcases hadd:It e29 t with _|t2
   ·refine aa (ae rfl rfl (ak rfl rfl (k10_3.ld Tryz.underlying54 rfl (by kernel_rfl)) (am zb rfl rfl ((bE.mono (zc (u:=e29) (eM.trans x10_3) ho jN f29_0 f29_1 f29_2 f29_3 f29_4 f29_5) fun r w' (h:Lj _ _ _ _ _ _ _ _ _)=>show aK w w'∧Mv (fun k=>k∈ids) _ w'∧r=B false from⟨h.1,h.2.1,by rcases h.2.2 with h|⟨_,t',_,h1,_⟩;exact h.2;exact absurd (h1.symm.trans hadd) (by simp)⟩)) ?_)))
    rintro v33 w33 ⟨y33,m33,rfl⟩
    have k33:=m33.blk kN nM
    refine bt MI MI bu (ag (ab (bh MI (af (aa (bz (vs:=[]) (r:=.agg #[.slice none 0 0,I 0,I 0,B false,.slice none 0 0,.slice none 0 0,.slice none 0 0,B false,.slice none 0 0]) MI MI (by exact run_build _ _ _ _ (by kernel_rfl)) ?_))))))
    obtain⟨w12,s12,q12,k12⟩:=k33.stS (P:=Tryz.prog) (t:=52) (m:=nS) rfl (by kernel_rfl) (au.cons rfl (au.cons rfl (au.cons rfl (au.cons rfl (au.cons rfl (au.cons rfl (au.cons rfl (au.cons rfl (au.cons rfl au.nil)))))))))
    refine ar MI MI s12 ?_
    have e12:=aK.of_new y33 q12 l2
    refine ac MI MI (ac MI MI (ag (ab (aw (aX (ay (ay (aX (ay ?_)))))))))
    refine ta MI MI MI MI k12 L9 MI (by kernel_rfl) ?_
    have hno:jk es .gap=none:=Gm (i:=i+1) (by rw[hTn,hadd])
    exact⟨_,rfl,e12,B7.err (c:=11) (by unfold xF;rw[if_neg (by rw[hall];simp),hno])⟩
   ·refine aa (ae rfl rfl (ak rfl rfl (k10_3.ld Tryz.underlying54 rfl (by kernel_rfl)) (am zb rfl rfl ((bE.mono (zc (u:=e29) (eM.trans x10_3) ho jN f29_0 f29_1 f29_2 f29_3 f29_4 f29_5) fun r w' (h:Lj _ _ _ _ _ _ _ _ _)=>show aK w w'∧Mv (fun k=>k∈ids) _ w'∧r=B true∧∃ids',jL w w' g24 t2 ids'∧∀k∈ids',k∈ids∨_≤k from⟨h.1,h.2.1,by rcases h.2.2 with h|⟨h0,t',ids',h1,h2,h3,h4⟩;exact absurd (h.1.symm.trans hadd) (by simp);exact⟨h0,ids',by have:=Option.some.inj (h1.symm.trans hadd);rw[←this];exact h3,h4⟩⟩)) ?_)))
    rintro v33 w33 ⟨y33,m33,rfl,ids',j33,fr33⟩
    have k33:=m33.blk kN nM
    refine bt MI MI bu (ag (ab (cq MI (aA (aS (ab (aa (al (r:=I ((i+1:Nat):Int)) MI MI MI (by have e:((i+1:Nat):Int)=(i:Int)+1:=(by omega);rw[e];exact aN (by omega) (by omega)) ?_))))))))
    refine ae MI MI (ag ?_)
    refine gY (i+1) (t2) (ids') ⟨rfl,rfl,rfl,rfl,rfl,rfl,rfl,trivial⟩ ⟨y33,by omega,k33,j33,fun h=>(fr33 _ h).elim nM fun h=>by have:=kN.lt;omega,by rw[hTn,hadd],Nat.le_trans (ru _ _ hadd) (by omega),Nat.le_trans (tZ _ _ hadd) (by omega)⟩ (by omega)
  ·refine bc (aJ (aJ (bf (ab (af (aa ?_))))))
   obtain⟨g10,w10,hr10,l10,x10,k10⟩:=aY (P:=Tryz.prog) (w:=wM) (t:=59) (z:=.slice none 0 0) (l:=[.slice none 0 0]) (by kernel_rfl) rfl
   refine aV MI hr10 ?_
   have hle:=List.take_of_length_le (l:=es) (i:=i) (by omega)
   rw[hle] at hT
   have lM:=kM.lt
   have sM:=eM.size
   have sX:=x10.size
   have lg10:=k10.lt
   have hC:za w w10 (fun k=>k=g2) g10 (.slice none 0 0) []:=⟨k10,fz.nil _,(by intro h;cases h),(by omega)⟩
   have hdj:∀k∈ids,¬YM g10 (.slice none 0 0) k:=fun k hk h=>by
    rcases h with h|h
    ·have:=jM.lt k hk;omega
    ·cases h
   refine ag (ab (af (aa (ae MI MI (am iy MI MI ((t3 ho t (fun k=>k=g2) w10 g24 ids [] (.slice none 0 0) g10 (.slice none 0 0) [] (fun k hk=>by have:k=g2:=hk;omega) ((eM.trans x10)) (jM.ext x10) hC hdj cH.nilSl (by simp;omega) (by simp;omega))) ?_)))))
   rintro v38 w38 ⟨cs,mv1,rfl,h1,hr,hst,hm,hoo⟩
   obtain⟨vl,x,y,vk,vp,rfl,hlN,hxN,hyN,hkN,hpN⟩:=dW hr.rp
   have y38:=hm.ext_from (eM.trans x10) fun k hk=>(hC.ym_young hk).1
   have k238:=hm.blk (kM.ext x10) (fun h=>by rcases h with h|h;omega;cases h)
   obtain⟨g11,w11,hr11,l11,x11,k11⟩:=aY (P:=Tryz.prog) (w:=w38) (t:=52) (z:=.agg #[.slice none 0 0,I 0,I 0,B false,.slice none 0 0,.slice none 0 0,.slice none 0 0,B false,.slice none 0 0]) (l:=[.slice none 0 0,I 0,I 0,B false,.slice none 0 0,.slice none 0 0,.slice none 0 0,B false,.slice none 0 0]) (by kernel_rfl) rfl
   refine aV MI hr11 ?_
   obtain⟨w15_3,s15_3,q15_3,k15_3⟩:=k11.stS (P:=Tryz.prog) (t:=52) (m:=[vl,I t.node.split.kd,I t.node.split.ix,B t.node.split.at_.1,x,y,vk,B t.node.empty,vp]) rfl (by kernel_rfl) (au.cons hlN.one (au.cons rfl (au.cons rfl (au.cons rfl (au.cons hxN.one (au.cons hyN.one (au.cons hkN.one (au.cons rfl (au.cons hpN.one au.nil)))))))))
   refine ar MI MI s15_3 ?_
   have x15_3:=aK.of_new (x11) q15_3 l11
   refine ag (ab (af (af ?_)))
   rcases hvn:qg t.node
   ·refine aa (ak MI MI (k15_3.ld L9 MI (by kernel_rfl)) (am gu MI MI ((by have h:=mr (hlN.ext x15_3) (hxN.ext x15_3) (hyN.ext x15_3) (hkN.ext x15_3) (hpN.ext x15_3);rw[hvn] at h;exact h)) ?_))
    rintro v40 w40 ⟨x40,rfl⟩
    refine bt MI MI bu (ag (ab (bh MI (af (aa (bz (vs:=[]) (r:=.agg #[.slice none 0 0,I 0,I 0,B false,.slice none 0 0,.slice none 0 0,.slice none 0 0,B false,.slice none 0 0]) MI MI (by exact run_build _ _ _ _ (by kernel_rfl)) ?_))))))
    obtain⟨w17,s17,q17,k17⟩:=(k238.ext ((x15_3.trans x40))).stS (P:=Tryz.prog) (t:=52) (m:=nS) rfl (by kernel_rfl) (au.cons rfl (au.cons rfl (au.cons rfl (au.cons rfl (au.cons rfl (au.cons rfl (au.cons rfl (au.cons rfl (au.cons rfl au.nil)))))))))
    refine ar MI MI s17 ?_
    have e17:=aK.of_new (((y38.trans x15_3).trans x40)) q17 l2
    refine ac MI MI (ac MI MI (ag (ab (aw (ay ?_)))))
    refine ta MI MI MI MI k17 L9 MI (by kernel_rfl) ?_
    exact⟨_,rfl,e17,B7.err (c:=8) (by unfold xF;rw[if_neg (by rw[hall];simp),hT];simp only[];rw[if_pos hvn])⟩
   ·refine aa (ak MI MI (k15_3.ld L9 MI (by kernel_rfl)) (am gu MI MI ((by have h:=mr (hlN.ext x15_3) (hxN.ext x15_3) (hyN.ext x15_3) (hkN.ext x15_3) (hpN.ext x15_3);rw[hvn] at h;exact h)) ?_))
    rintro v40 w40 ⟨x40,rfl⟩
    refine bt MI MI bu (ag (ab (cq MI (aA (ab (af ?_))))))
    have eH:aK w38 w40:=x15_3.trans x40
    have eHd:aK w40 w40.drew:=(aK.refl w40).drew
    have k11d:ci g11 52 [vl,I t.node.split.kd,I t.node.split.ix,B t.node.split.at_.1,x,y,vk,B t.node.empty,vp] w40.drew:=(k15_3.ext x40).ext eHd
    have k10d:ci g10 59 [mv1] w40.drew:=(hst.cell.ext eH).ext eHd
    refine gO (fun w1=>ci g11 52 [vl,I t.node.split.kd,I t.node.split.ix,B t.node.split.at_.1,x,y,vk,B t.node.empty,vp] w1∧ci g10 59 [mv1] w1) 5 MI (by kernel_rfl) ?_
    refine fU 0 MI MI (by kernel_rfl) MI ⟨k11d,k10d⟩ (fun _ hw=>hw.1.ld L9 MI (by kernel_rfl)) ?_
    refine fU 1 MI MI (by kernel_rfl) MI ⟨k11d,k10d⟩ (fun _ hw=>ai ME MI hw.2.k0) ?_
    obtain⟨w18,s18,q18,k18⟩:=((k238.ext eH).ext eHd).stS (P:=Tryz.prog) (t:=52) (m:=[vl,I t.node.split.kd,I t.node.split.ix,B t.node.split.at_.1,x,y,vk,B t.node.empty,vp]) rfl (by kernel_rfl) h1
    have l2b:g2<w10.heap.size:=by have:=(kM.ext x10).lt;omega
    have m18:Mv (fun k=>k=g2) w40.drew w18:=Mv.of_grown q18 fun k hk _=>(Option.some.inj hk).symm
    have l11b:=hm.size
    have hS18:ci g11 52 [vl,I t.node.split.kd,I t.node.split.ix,B t.node.split.at_.1,x,y,vk,B t.node.empty,vp] w18∧ci g10 59 [mv1] w18:=⟨m18.blk k11d (fun e=>by omega),m18.blk k10d (fun e=>by omega)⟩
    have e18:aK w w18:=aK.of_new ((y38.trans eH).trans eHd) q18 l2
    have rpF:=(((hr.ext eH).ext eHd).mv (m18.weak fun k hk _=>.inr (by have e:k=g2:=hk;omega)) fun _ h=>.inl h).rp
    have stF:=(((hst.ext eH).ext eHd).sto m18 rfl (fun h=>by
     rcases h with h|h
     ·omega
     ·rcases hoo _ h with h|h
      ·cases h
      ·omega)).own.rpx (Y:=fun _=>False) rC (by omega) (fun _ h=>h.elim) (fun _ _ h=>h)
    refine aQ 2 (by kernel_rfl) MI (ar MI MI s18 (aH hS18 ?_))
    refine aQ 3 (by kernel_rfl) MI (ac MI MI (aH hS18 ?_))
    refine aQ 4 (by kernel_rfl) MI (ac MI MI (aH hS18 (gQ (by kernel_rfl) ?_)))
    refine ab (aw ?_)
    refine ta MI MI MI MI k18 L9 MI (by kernel_rfl) ?_
    have hb:xF es=((t.node,t.miss []),0):=by unfold xF;rw[if_neg (by rw[hall];simp),hT];simp only[];rw[if_neg (by rw[hvn];simp)]
    refine⟨_,rfl,e18,?_⟩
    unfold B7
    rw[hb]
    exact⟨_,mv1,rfl,h1,rpF,(by simpa using stF.rp:Rp w18 (.sl ((t.miss []).map y8)) [mv1])⟩
end Go.Rl
namespace Go.Rl
open Go.RowKit Go.Proofs
theorem xG:aG Tryz.prog 17:=⟨_,Tryz.func17,by kernel_rfl,rfl⟩
def pl (d:List UInt8) (ws:List cc):List Int:=(List.range (ws.length+1)).map fun i=>((nJ (fA d) (ws.take i)).length:Int)
theorem ID (b:List UInt8) (ws:List cc) (u:cc):nJ b (ws++[u])=j8 (nJ b ws) (dh u):=by
 unfold nJ
 rw[List.map_append]
 exact Iq _ _ _
theorem Cc (d:List UInt8) (ws:List cc) (u:cc):pl d (ws++[u])=pl d ws++[((nJ (fA d) (ws++[u])).length:Int)]:=by
 unfold pl
 rw[List.length_append,List.length_singleton,List.range_succ,List.map_append]
 have e:(List.range (ws.length+1)).map (fun i=>((nJ (fA d) ((ws++[u]).take i)).length:Int))=(List.range (ws.length+1)).map (fun i=>((nJ (fA d) (ws.take i)).length:Int)):=List.map_congr_left fun i hi=>by
  have:=List.mem_range.1 hi
  rw[List.take_append_of_le_length (by omega)]
 rw[e]
 simp only[List.map_cons,List.map_nil]
 rw[List.take_of_length_le (by simp)]
theorem IE (b:List UInt8) (ws vs:List cc):(nJ b ws).length≤(nJ b (ws++vs)).length:=by
 unfold nJ
 rw[List.map_append,Dk]
 obtain⟨s,h⟩:=uT (vs.map dh) (ED b (ws.map dh))
 rw[h,List.length_append];omega
theorem Cd {l:List cc} {i:Nat} (hi:i<l.length) (p:cc→Bool):(l.take (i+1)).filter p=(l.take i).filter p++(if p l[i]=true then[l[i]] else[]):=by
 have e:l.take (i+1)=l.take i++[l[i]]:=by rw[List.take_add_one,List.getElem?_eq_getElem hi];rfl
 rw[e,List.filter_append]
 congr 1
 by_cases h:p l[i]=true
 ·rw[if_pos h];simp[h]
 ·rw[if_neg h];simp[h]
theorem Ce (l:List cc) (i:Nat) (p:cc→Bool):∃vs,l.filter p=(l.take i).filter p++vs:=⟨(l.drop i).filter p,by rw[←List.filter_append,List.take_append_drop]⟩
section
variable {α:Type} {e t:TypeId} {sz base:Nat} {f:α→Dt} {l:List α} {v:Value} {w w':World}
def oe (e:TypeId) (sz base:Nat) (f:α→Dt) (l:List α) (v:Value) (w:World):Prop:=∃n xs,w.ownsRow base e sz v n xs∧aR (fun k=>base≤k) w (l.map f) xs
theorem oe.nil (w:World):oe e sz base f ([]:List α) (.slice none 0 0) w:=⟨0,[],World.ownsRow_nil _ _ _ _,aR.nil⟩
theorem oe.lt (h:oe e sz base f l v w):∀k,v.ownBlock=some k→base≤k∧k<w.heap.size:=fun k hk=>by
 obtain⟨n,xs,h,_⟩:=h
 exact World.ownsRow.lt h k hk
theorem oe.ds (h:oe e sz base f l v w) (hs:∀a,(f a).size=sz) (h0:0<sz):cA f l v w:=by
 obtain⟨n,xs,h1,h2⟩:=h
 exact Rp.ofSl (Sl.of_own h1) h2.rp (by simp[hs]) h0
theorem oe.ext (h:oe e sz base f l v w) (hx:aK w w'):oe e sz base f l v w':=by
 obtain⟨n,xs,h1,h2⟩:=h
 exact⟨n,xs,iD h1 hx,h2.ext hx⟩
theorem oe.mv {X:Nat→Prop} (h:oe e sz base f l v w) (hm:Mv X w w') (hX:∀k,X k→base≤k) (hne:∀k,v.ownBlock=some k→¬X k):oe e sz base f l v w':=by
 obtain⟨n,xs,h1,h2⟩:=h
 refine⟨n,xs,⟨h1.1,?_⟩,aR.mv (hm.weak fun k hk _=>hX k hk) (fun k hk=>.inl hk) h2⟩
 rcases h1.2 with h3|⟨g,cap,cur,rfl,h3,h4,h5⟩
 ·exact .inl h3
 ·refine .inr ⟨g,cap,cur,rfl,h3,?_,h5⟩
  rw[hm.keep g (Array.getElem?_eq_some_iff.1 h4).1 (hne g rfl)]
  exact h4
theorem oe.push {P:Program} {ty:TypeId} {z:Value} {bytes:Nat} (ht:P.underlying t=some (.slice e)) (hi:(P.info? e).map (fun i=>(i.zero,i.size,i.bytes))=some (some z,sz,bytes)) (hzs:z.cells.size=sz) (hsz:0<sz) (hsb:sz≤16777216) (hb0:0<bytes)
 (h:oe e sz base f l v w) {a:α} {cs:List Value} (h1:au cs) (ha:cH (fun k=>base≤k) w (f a) cs) (hs:∀a,(f a).size=sz) (hb:(l.length+1)*bytes≤140737488355328) (hbase:base≤w.heap.size):
 ∃x w0 r w1,(Instr.buildSlice t 1 (eu 0 [Value.agg cs.toArray]).toArray).run P w=.ok x w0∧(Builtin.append_ #[t,t] ty #[v,x]).run P w0=.ok r w1∧oe e sz base f (l++[a]) r w1∧Mv (fun k=>v.ownBlock=some k) w w1∧∀k,r.ownBlock=some k→v.ownBlock=some k∨w.heap.size≤k:=by
 have hcl:cs.length=sz:=by rw[ha.len,hs]
 have hi2:(P.info? e).map (fun i=>(i.zero,i.size))=some (some z,sz):=by
  obtain⟨i,hi',h2⟩:=Option.map_eq_some_iff.1 hi
  simp only[Prod.mk.injEq] at h2
  rw[hi']
  simp[h2.1,h2.2.1]
 obtain⟨x,w0,h3,h4,h5,h6⟩:=ym (w:=w) ht hi2 hzs hsz [cs] (by simp[hcl]) (by simp) (by simpa using hsb)
 have hlt:=h.lt
 obtain⟨n,xs,g2,g3⟩:=h.ext h4
 have hxl:xs.length=l.length*sz:=by rw[g3.len,cS (sz:=sz) (by simp[hs]),List.length_map]
 obtain⟨r,w1,n',k4,k5,k6⟩:=lQ (P:=P) (ty:=ty) ht hi hzs hsz g2 (xs:=xs) (news:=cs) (by simpa using h5) h1 (by
  rw[hxl,hcl]
  have:(l.length*sz+sz)*bytes=(l.length+1)*bytes*sz:=by rw[←Nat.succ_mul,Nat.mul_right_comm]
  rw[this]
  exact Nat.mul_le_mul_right _ hb) hb0 (Nat.le_trans hbase h4.size)
 have hm:Mv (fun k=>v.ownBlock=some k) w0 w1:=Mv.of_grown k6.grown fun k hk _=>hk
 refine⟨x,w0,r,w1,by simpa using h3,k4,⟨n',_,k5,?_⟩,(Mv.of_ext h4).trans hm fun _ hk _=>hk,fun k hk=>?_⟩
 ·rw[List.map_append]
  have hmw:=hm.weak (Y:=fun k=>base≤k) fun k hk _=>(hlt k hk).1
  refine aR.append (aR.mv hmw (fun k hk=>.inl hk) g3) (aR.mv hmw (fun k hk=>.inl hk) ?_)
  simpa using aR.cons (b:=[]) (ha.ext h4) aR.nil
 ·rcases k6.own with h7|h7
  ·rw[h7] at hk;exact .inl hk
  ·exact .inr (Nat.le_trans h4.size (h7 k hk))
end
def D3 (a b c:Value):Prop:=∀k,(a.ownBlock=some k→b.ownBlock≠some k∧c.ownBlock≠some k)∧(b.ownBlock=some k→c.ownBlock≠some k)
theorem AA {w:World} {d:List UInt8} {es:List cc} {ev:Value} (hd:d.length=32) (hv:cA jv es ev w) (hs:∀u∈es,Kj u) (hw:∀u∈es,BQ u) (hlen:(nJ (fA d) (es.filter cK)).length≤1073741824) (hn:es.length≤1073741824):
 Calls Tryz.prog 17 #[.agg (d.map U8).toArray,ev] w (bE fun r w'=>aK w w'∧∃base bv vv mv,w.heap.size≤base∧r=.tuple #[bv,vv,mv]∧cW base (nJ (fA d) (es.filter cK)) bv w'∧oe 54 10 base jv (es.filter cK) vv w'∧na base (pl d (es.filter cK)) mv w'∧D3 bv vv mv):=by
 refine enter (vs:=[.agg (d.map U8).toArray,ev]) Tryz.func17 MI MI MI ?_
 refine af (aa ?_)
 obtain⟨g2,w2,hr2,l2,x2,k2⟩:=cC (P:=Tryz.prog) (w:=w) (T:=24) (cs:=d.map U8)
 refine cG MI MI hr2 ?_
 have hv2:=hv.ext x2
 have hll:=hv.len
 refine ac MI MI (ac MI MI (ac MI MI (ag (ab (af (aa ?_))))))
 refine ak MI MI (k2.ld Mo MI (by rw[List.length_map,hd];exact ir)) ?_
 refine am Dl MI MI ((Dn hd)) ?_
 rintro v12 w12 ⟨x12,o12⟩
 refine ac MI MI (ag (ab (af (aa (ac MI MI (ag (ab (af (aa (ae MI MI ?_))))))))))
 have b12:=o12.bts
 have lt12:=o12.lt
 refine aP MI MI (cN b12) ?_
 obtain⟨v15,w15,hr15,x15,o15,ob15⟩:=AU (w:=w12) w2.heap.size [((fA d).length:Int)] (by simp) x12.size
 refine aI (vs:=[(0,I ((fA d).length:Int))]) MI MI hr15 ?_
 refine ac MI MI (ag (ab (af (af (aa (ac MI MI (ag (ab (aF ?_)))))))))
 refine iW (fun(i:Nat) (bv:Value) (vv:Value) (mv:Value)=>[(1,ev),(7,bv),(8,vv),(9,mv),(10,I (i:Int))]) (fun(i:Nat) (bv:Value) (vv:Value) (mv:Value) w'=>aK w2 w'∧i≤es.length∧cW w2.heap.size (nJ (fA d) ((es.take i).filter cK)) bv w'∧oe 54 10 w2.heap.size jv ((es.take i).filter cK) vv w'∧na w2.heap.size (pl d ((es.take i).filter cK)) mv w'∧D3 bv vv mv∧∀k,bv.ownBlock=some k→k<w'.heap.size) (fun(i:Nat) (bv:Value) (vv:Value) (mv:Value)=>es.length-i) (0) (v12) (.slice none 0 0) (v15) ⟨rfl,rfl,rfl,rfl,rfl,trivial⟩ ⟨x12.trans x15,by omega,o12.ext x15,oe.nil _,o15,(fun k=>⟨fun hk=>⟨fun h=>(by cases h),fun h=>by rw[ob15] at h;have:=lt12 k hk;have:=Option.some.inj h;omega⟩,fun h=>(by cases h)⟩),fun k hk=>by have:=lt12 k hk;have:=x15.size;omega⟩ ?_
 rintro i bv vv mv wL ⟨eL,hi,hB,oQ,oI,h3,ltB⟩
 refine af (af (aa (ae MI MI (ae MI MI (aP MI MI (bg Mu (hv2.ext eL)) (al MI MI MI (a9) (ag (ab ?_))))))))
 refine bw MI (fun h19=>?_) (fun h19=>?_)
 ·refine aA (ab (af (aF (af ?_))))
  obtain⟨em,hem⟩:∃em,em=es[i]'(by omega):=⟨_,rfl⟩
  have hmem:em∈es:=by rw[hem];exact List.getElem_mem _
  have hfs:=Cd (l:=es) (i:=i) (by omega) cK
  rw[←hem] at hfs
  rcases hval:cK em
  ·rw[if_neg (by rw[hval];simp),List.append_nil] at hfs
   refine aa (ae MI MI (ae MI MI ?_))
   obtain⟨a24,c24,p24,q24,h24⟩:=bZ (P:=Tryz.prog) (sz:=10) Mu (by kernel_rfl) cQ (by omega) hv2 (i:=i) (by omega) .i64
   rw[←hem] at h24
   obtain⟨x24_0,x24_1,x24_2,x24_3,x24_4,x24_5,rfl,f24_0,f24_1,f24_2,f24_3,f24_4,f24_5⟩:=ii h24
   refine av MI MI MI (p24 _) (ak MI MI ((q24.ext eL).ld Md MI (by kernel_rfl)) (am rl MI MI ((by have h:=ro (u:=em) (f24_0.ext eL) (f24_1.ext eL) (f24_2.ext eL) (f24_3.ext eL) (f24_4.ext eL) (f24_5.ext eL) (hs em hmem);rw[hval] at h;exact h)) ?_))
   rintro v26 w26 ⟨x26,rfl⟩
   refine ag (ab (cq MI (aA (aS (ab (aa (ae MI MI (al (r:=I ((i+1:Nat):Int)) MI MI MI (by have e:((i+1:Nat):Int)=(i:Int)+1:=(by omega);rw[e];exact aN (by omega) (by omega)) ?_))))))))
   refine ac MI MI (ag ?_)
   refine fb (i+1) (bv) (vv) (mv) ⟨rfl,rfl,rfl,rfl,rfl,trivial⟩ ⟨(eL.trans x26),by omega,by rw[hfs];exact hB.ext (x26),by rw[hfs];exact oQ.ext (x26),by rw[hfs];exact oI.ext (x26),h3,fun k hk=>by have:=ltB k hk;have:=(x26).size;omega⟩ (by omega)
  ·rw[if_pos hval] at hfs
   obtain⟨vs,hvs⟩:=Ce es (i+1) cK
   have hsn:=ID (fA d) ((es.take i).filter cK) em
   have hmo:=IE (fA d) ((es.take (i+1)).filter cK) vs
   rw[←hvs,hfs,hsn,xm] at hmo
   have hel:(jY (dh em)).length=(uv (dh em).length).length+(dh em).length:=by unfold jY;rw[List.length_append]
   have hwl:((es.take i).filter cK).length≤1073741824:=Nat.le_trans (List.length_filter_le _ _) (by rw[List.length_take];omega)
   have hml:(pl d ((es.take i).filter cK)).length=((es.take i).filter cK).length+1:=by unfold pl;simp
   refine aa (ae MI MI (ae MI MI ?_))
   obtain⟨a24,c24,p24,q24,h24⟩:=bZ (P:=Tryz.prog) (sz:=10) Mu (by kernel_rfl) cQ (by omega) hv2 (i:=i) (by omega) .i64
   rw[←hem] at h24
   obtain⟨x24_0,x24_1,x24_2,x24_3,x24_4,x24_5,rfl,f24_0,f24_1,f24_2,f24_3,f24_4,f24_5⟩:=ii h24
   refine av MI MI MI (p24 _) (ak MI MI ((q24.ext eL).ld Md MI (by kernel_rfl)) (am rl MI MI ((by have h:=ro (u:=em) (f24_0.ext eL) (f24_1.ext eL) (f24_2.ext eL) (f24_3.ext eL) (f24_4.ext eL) (f24_5.ext eL) (hs em hmem);rw[hval] at h;exact h)) ?_))
   rintro v26 w26 ⟨x26,rfl⟩
   refine ag (ab (bh MI (af (aa (ae MI MI (ae MI MI (ae MI MI ?_)))))))
   obtain⟨a30,c30,p30,q30,h30⟩:=bZ (P:=Tryz.prog) (sz:=10) Mu (by kernel_rfl) cQ (by omega) hv2 (i:=i) (by omega) .i64
   rw[←hem] at h30
   obtain⟨x30_0,x30_1,x30_2,x30_3,x30_4,x30_5,rfl,f30_0,f30_1,f30_2,f30_3,f30_4,f30_5⟩:=ii h30
   refine av MI MI MI (p30 _) (ak MI MI ((q30.ext (eL.trans x26)).ld Md MI (by kernel_rfl)) (am Ga MI MI ((Gc (u:=em) (f30_0.ext (eL.trans x26)) (f30_1.ext (eL.trans x26)) (f30_2.ext (eL.trans x26)) (f30_3.ext (eL.trans x26)) (f30_4.ext (eL.trans x26)) (f30_5.ext (eL.trans x26)) (hw em hmem) (by omega))) ?_))
   rintro v32 w32 ⟨x32,b32⟩
   refine am Ak MI MI ((Al (hB.bts.ext ((x26.trans x32))) b32 (by omega))) ?_
   rintro v33 w33 ⟨x33,o33⟩
   refine ac MI MI (ag (ab (af (aa (ae MI MI (ae MI MI (ae MI MI ?_)))))))
   obtain⟨a37,c37,p37,q37,h37⟩:=bZ (P:=Tryz.prog) (sz:=10) Mu (by kernel_rfl) cQ (by omega) hv2 (i:=i) (by omega) .i64
   rw[←hem] at h37
   obtain⟨x37_0,x37_1,x37_2,x37_3,x37_4,x37_5,rfl,f37_0,f37_1,f37_2,f37_3,f37_4,f37_5⟩:=ii h37
   refine av MI MI MI (p37 _) (ak MI MI ((q37.ext (((eL.trans x26).trans x32).trans x33)).ld Md MI (by kernel_rfl)) ?_)
   have eL33:=((x26.trans x32).trans x33)
   have e233:=(((eL.trans x26).trans x32).trans x33)
   have oQ33:=oQ.ext eL33
   have ltQ:=oQ.lt
   have ltI:=oI.lt
   have lt33:=o33.lt
   have ge33:=o33.ge
   have s32:=(x26.trans x32).size
   have h1e:au [x37_0,x37_1,I em.leaf.split.kd,I em.leaf.split.ix,B em.leaf.split.at_.1,x37_2,x37_3,x37_4,B em.leaf.empty,x37_5]:=au.cons f37_0.one (au.cons f37_1.one (au.cons rfl (au.cons rfl (au.cons rfl (au.cons f37_2.one (au.cons f37_3.one (au.cons f37_4.one (au.cons rfl (au.cons f37_5.one au.nil)))))))))
   obtain⟨x39,w39,v40,w40,hr39,hr40,o40,m40,n40⟩:=oQ33.push (ty:=25) (t:=25) Mu xq rfl (by omega) (by omega) (by omega) h1e (h37.x.ext e233) cQ (by omega) e233.size
   have b33:cW w2.heap.size (nJ (fA d) ((es.take i).filter cK++[em])) v33 w33:=by rw[hsn];exact o33.low (by have:=(((x26.trans x32).trans x33)).size;have:=eL.size;omega)
   have hB40:cW w2.heap.size _ v33 w40:=m40.ownB b33 fun k hk hx=>by have:=ge33 k hk;have:=(ltQ k hx).2;omega
   have oI40:=m40.ownI (oI.ext eL33) fun k hk hx=>(h3 k).2 hx hk
   have s40:=m40.size
   obtain⟨v44,w44,hr44,x44,o44,ob44⟩:=AU (w:=w40) w2.heap.size [((nJ (fA d) ((es.take i).filter cK++[em])).length:Int)] (by simp) (Nat.le_trans e233.size s40)
   obtain⟨v45,w45,hr45,o45,g45⟩:=Ks (ty:=32) (oI40.ext x44) o44.its (by rw[hml];simp;omega) (Nat.le_trans (Nat.le_trans e233.size s40) x44.size)
   have m45:Mv (fun k=>mv.ownBlock=some k) w44 w45:=Mv.of_grown g45.grown fun k hk _=>hk
   have s44:=x44.size
   have sL:=eL33.size
   have eB:aK w2 w45:=Mv.ext_from m45 ((Mv.ext_from m40 e233 fun k hk=>(ltQ k hk).1).trans x44) fun k hk=>(ltI k hk).1
   have lt40:=o40.lt
   have d1:∀k,v40.ownBlock=some k→¬mv.ownBlock=some k:=fun k hk hx=>by
    rcases n40 k hk with h|h
    ·exact(h3 k).2 h hx
    ·have:=(ltI k hx).2;omega
   have hB45:cW w2.heap.size _ v33 w45:=m45.ownB (hB40.ext x44) fun k hk hx=>by have:=ge33 k hk;have:=(ltI k hx).2;omega
   have oQ45:=(o40.ext x44).mv m45 (fun k hk=>(ltI k hk).1) d1
   have n45:∀k,v45.ownBlock=some k→mv.ownBlock=some k∨w44.heap.size≤k:=fun k hk=>by
    rcases g45.own with h|h
    ·rw[h] at hk;exact .inl hk
    ·exact .inr (h k hk)
   have h3':D3 v33 v40 v45:=fun k=>⟨fun hk=>⟨fun h=>by
    have a1:=ge33 k hk
    have a2:=lt33 k hk
    rcases n40 k h with h'|h'
    ·have:=(ltQ k h').2;omega
    ·omega,fun h=>by
    have a1:=ge33 k hk
    have a2:=lt33 k hk
    rcases n45 k h with h'|h'
    ·have:=(ltI k h').2;omega
    ·omega⟩,fun hk h=>by
    rcases n45 k h with h'|h'
    ·exact d1 k hk h'
    ·have:=(lt40 k hk).2;omega⟩
   refine aI (vs:=[(0,.agg #[x37_0,x37_1,I em.leaf.split.kd,I em.leaf.split.ix,B em.leaf.split.at_.1,x37_2,x37_3,x37_4,B em.leaf.empty,x37_5])]) MI MI hr39 ?_
   refine a6 MI MI hr40 ?_
   refine ac MI MI (ag (ab (aa (ae MI MI (ae MI MI ?_)))))
   refine aP MI MI (cN hB40.bts) ?_
   refine aI (vs:=[(0,I ((nJ (fA d) ((es.take i).filter cK++[em])).length:Int))]) MI MI hr44 ?_
   refine a6 MI MI hr45 ?_
   refine ac MI MI (ag (aS (ab (aa (ae MI MI (al (r:=I ((i+1:Nat):Int)) MI MI MI (by have e:((i+1:Nat):Int)=(i:Int)+1:=(by omega);rw[e];exact aN (by omega) (by omega)) ?_))))))
   refine ac MI MI (ag ?_)
   refine fb (i+1) (v33) (v40) (v45) ⟨rfl,rfl,rfl,rfl,rfl,trivial⟩ ⟨eB,by omega,by rw[hfs];exact hB45,by rw[hfs];exact oQ45,by rw[hfs,Cc];exact o45,h3',fun k hk=>by have:=lt33 k hk;have:=m45.size;omega⟩ (by omega)
 ·refine bc (aJ (aJ (bf (ab (af (aa (ae MI MI (ae MI MI (ae MI MI (ac MI MI (ac MI MI (ac MI MI (ag (ab (aw (jR MI MI MI MI ?_))))))))))))))))
  exact⟨_,rfl,x2.trans eL,w2.heap.size,bv,vv,mv,x2.size,rfl,by rw[List.take_of_length_le (by omega)] at hB;exact hB,by rw[List.take_of_length_le (by omega)] at oQ;exact oQ,by rw[List.take_of_length_le (by omega)] at oI;exact oI,h3⟩
theorem xH {w:World} {d:List UInt8} {es:List cc} {ev:Value} (hd:d.length=32) (hv:cA jv es ev w) (hs:∀u∈es,Kj u) (hw:∀u∈es,BQ u) (hlen:(nJ (fA d) (es.filter cK)).length≤1073741824) (hn:es.length≤1073741824):
 Calls Tryz.prog 17 #[.agg (d.map U8).toArray,ev] w (bE fun r w'=>aK w w'∧∃bv vv mv,r=.tuple #[bv,vv,mv]∧cz (nJ (fA d) (es.filter cK)) bv w'∧cA jv (es.filter cK) vv w'∧Its (pl d (es.filter cK)) mv w'):=
 bE.mono (AA hd hv hs hw hlen hn) fun r w' ⟨e,_,bv,vv,mv,_,h1,h2,h3,h4,_⟩=>⟨e,bv,vv,mv,h1,h2.bts,h3.ds cQ (by omega),h4.its⟩
end Go.Rl
namespace Go.Rl
open Go.RowKit Go.Proofs
theorem ki:aG Tryz.prog 12:=⟨_,Tryz.func12,by kernel_rfl,rfl⟩
def AB:Prop:=∀{w:World},zH w→Calls Tryz.prog 12 #[] w (bE fun r w'=>aK w w'∧r=B true)
theorem Gs (ha:AB) {w:World} {b:List UInt8} {v:Value} (hv:cz b v w) (ho:zH w):
 Calls Tryz.prog 3 #[v] w (bE fun r w'=>r=B true∧aK w w'):=by
 refine enter (vs:=[v]) Tryz.func3 MI MI MI ?_
 refine af (aa (ac MI MI (ag (ab (af (af (aa (am ki MI MI ((ha ho)) ?_))))))))
 rintro v11 w11 ⟨x11,rfl⟩
 refine bt MI MI bu (ae MI MI (aj MI (ae MI MI (aj MI (aP MI MI (cN (hv.ext x11)) (aj MI (al MI MI MI (bV) (aD MI MI MI ?_))))))))
 refine ag (ab ?_)
 refine bw MI (fun h17=>?_) (fun h17=>?_)
 ·refine af (aa (am ki MI MI ((ha (ho.ext x11))) ?_))
  rintro v18 w18 ⟨x18,rfl⟩
  refine ac MI MI (ag (ab (aw (ay (az MI MI ?_)))))
  exact⟨_,rfl,rfl,(x11.trans x18)⟩
 ·refine aA (ab (af (aa (ae MI MI (am tY MI MI ((yZ (hv.ext x11) (by omega))) ?_)))))
  rintro v21 w21 ⟨x21,ve,rfl,rp21⟩
  refine ae MI MI (ao MI MI (sT) (ao MI MI (sU) (ao MI MI (sV) (ao MI MI (sY) ?_))))
  obtain⟨g3,w3,hr3,l3,x3,k3⟩:=aY (P:=Tryz.prog) (w:=w21) (t:=24) (l:=pJ.map U8) iq rfl
  refine aV MI hr3 ?_
  obtain⟨w4,s4,q4,k4⟩:=k3.stS (P:=Tryz.prog) (t:=24) (m:=(ll b).1.1.map U8) (by rw[List.length_map,List.length_map,kx];rfl) (by rw[List.length_map,kx];exact ir) (ew _)
  refine ar MI MI s4 ?_
  have x4:=aK.of_new x3 q4 l3
  refine ac MI MI (ac MI MI (ac MI MI (ag (ab (af (aa (ae MI MI (am Gf MI MI ((Gg (hv.ext ((x11.trans x21).trans x4)) (by omega))) ?_))))))))
  rintro v28 w28 ⟨x28,vf,rfl,rp28⟩
  refine ae MI MI (ao MI MI (sT) (ao MI MI (sU) (ao MI MI (sV) (ao MI MI (sY) ?_))))
  obtain⟨g7,w7,hr7,l7,x7,k7⟩:=aY (P:=Tryz.prog) (w:=w28) (t:=24) (l:=pJ.map U8) iq rfl
  refine aV MI hr7 ?_
  obtain⟨w8,s8,q8,k8⟩:=k7.stS (P:=Tryz.prog) (t:=24) (m:=(ll b).1.1.map U8) (by rw[List.length_map,List.length_map,kx];rfl) (by rw[List.length_map,kx];exact ir) (ew _)
  refine ar MI MI s8 ?_
  have x8:=aK.of_new x7 q8 l7
  refine ac MI MI (ac MI MI (ac MI MI (ag (ab (af ?_)))))
  have s32:(Tryz.prog.info? 24).map (·.size)=some ((ll b).1.1.map U8).length:=by rw[List.length_map,kx];exact ir
  have dv:cA jv (ll b).1.2.1 ve w8:=(rp21.ext (x4.trans (x28.trans x8))).rp
  have df:cA jv (ll b).1.2.1 vf w8:=(rp28.ext x8).rp
  refine aa ?_
  refine ak MI MI ((k4.ext (x28.trans x8)).ld Mo MI s32) ?_
  refine ak MI MI (k8.ld Mo MI s32) ?_
  refine al MI MI MI ((HY (kx b))) (ae MI MI (aj MI (ae MI MI (aj MI (ae MI MI (aj MI (al MI MI MI (cJ MI bo) (ap MI MI MI ?_))))))))
  refine ae MI MI (aj MI (ae MI MI (aj MI (ae MI MI (aj MI (al MI MI MI (cJ MI bo) (ap MI MI MI (ae MI MI (aj MI (ae MI MI ?_))))))))))
  refine aj MI (ae MI MI (aj MI (am uB MI MI ((uC dv df)) ?_)))
  rintro v49 w49 ⟨x49,rfl⟩
  refine ap MI MI MI (ac MI MI (ag (ab (aw (az MI MI ?_)))))
  exact⟨_,rfl,rfl,(((((x11.trans x21).trans x4).trans x28).trans x8).trans x49)⟩
end Go.Rl
namespace Go.Rl
open Go.RowKit
theorem rE {α:Type} {f:α→Dt} {e:α→List UInt8} {k:α→Nat} (l:List α) (h:∀a∈l,(e a).length≤4*(f a).bulk+k a):(l.flatMap e).length≤4*Dt.bulkAll (l.map f)+(l.map k).sum:=by
 induction l with
 |nil=>simp
 |cons a l ih=>
  have h1:=h a (by simp)
  have h2:=ih fun x hx=>h x (by simp[hx])
  simp only[List.flatMap_cons,List.length_append,List.map_cons,List.sum_cons,Dt.bulkAll]
  omega
theorem zd {α:Type} (l:List α) (c:Nat):(l.map fun _=>c).sum=c*l.length:=by
 induction l with
 |nil=>simp
 |cons a l ih=>simp only[List.map_cons,List.sum_cons,List.length_cons,ih,Nat.mul_add];omega
theorem IF {m:cb} (hb:(bN m).bulk≤1048576) (hw:Lp m):(fg m).length≤4*(bN m).bulk+21:=by
 rw[iK] at hb⊢
 have:=gi hw.1;have:=gi hw.2.1;have:=gi hw.2.2.1;have:=gi hw.2.2.2
 have:=pO (q:=m.co) (by omega) (by omega)
 simp only[fg,List.length_append];omega
theorem JQ {m:bS} (hb:(dy m).bulk≤1048576) (hw:wD m):(fJ m).length≤4*(dy m).bulk+21:=by
 rw[sG] at hb⊢
 have:=gi hw.1;have:=gi hw.2
 have:=pO (q:=m.at_) (by omega) (by omega)
 simp only[fJ,List.length_append];omega
theorem pm {α:Type} {f:α→Dt} {l:List α} {a:α} (h:a∈l):(f a).bulk≤Dt.bulkAll (l.map f):=by
 induction l with
 |nil=>cases h
 |cons b l ih=>
  simp only[List.map_cons,Dt.bulkAll]
  rcases List.mem_cons.1 h with rfl|h
  ·omega
  ·have:=ih h;omega
theorem EK {l:List cb} (hb:Dt.bulkAll (l.map bN)≤1048576) (hw:wP l):(iZ l).length≤4*Dt.bulkAll (l.map bN)+21*l.length+10:=by
 have h1:=en (l.map bN)
 rw[List.length_map] at h1
 have h2:=fR (n:=l.length) (by omega)
 have h3:=rE (f:=bN) (e:=fg) (k:=fun _=>21) l fun a ha=>IF (Nat.le_trans (pm ha) hb) (hw a ha)
 rw[zd] at h3
 simp only[iZ,List.length_append];omega
theorem IG {m:dI} (hb:(cY m).bulk≤1048576) (hw:HN m):(dY m).length≤4*(cY m).bulk+(10+21*m.pf.length):=by
 rw[jE] at hb⊢
 have:=gi hw.1
 have:=pO (q:=m.va) (by omega) (by omega)
 have:=EK (l:=m.pf) (by omega) hw.2
 have hbit:(vU m.up).length=1:=by cases m.up<;>rfl
 simp only[dY,List.length_append,hbit];omega
theorem JS {l:List dI}:(l.map fun m=>10+21*m.pf.length).sum=10*l.length+21*y5 l:=by
 unfold y5
 induction l with
 |nil=>rfl
 |cons a l ih=>simp only[List.map_cons,List.sum_cons,List.length_cons,ih];omega
theorem AC (u:cc):(jv u).bulk=Dt.bulkAll (u.path.map dy)+(bG u.leaf).bulk+2:=by
 simp only[jv,Dt.bulk,Dt.bulkAll];omega
theorem Cf {u:cc} (hb:(jv u).bulk≤1048576) (hw:BQ u) (h0:u.leaf.kids.length=0):(dh u).length≤4*(jv u).bulk+21*sZ u+31:=by
 rw[AC] at hb⊢
 obtain⟨wl,wd,wp,_⟩:=(tN u.leaf).1 hw.2
 have hbn:=tW u.leaf
 have hen:=mC u.leaf
 rw[if_pos h0] at hen
 have hp:=EK (l:=u.leaf.pf) (by omega) wp
 have h1:=en (u.path.map dy)
 rw[List.length_map] at h1
 have h2:=en (u.leaf.lems.map cY)
 rw[List.length_map] at h2
 have u1:=fR (n:=u.path.length) (by omega)
 have u2:=fR (n:=u.leaf.lems.length) (by omega)
 have h3:=rE (f:=dy) (e:=fJ) (k:=fun _=>21) u.path fun a ha=>JQ (Nat.le_trans (pm ha) (by omega)) (hw.1 a ha)
 rw[zd] at h3
 have h4:=rE (f:=cY) (e:=dY) (k:=fun m=>10+21*m.pf.length) u.leaf.lems fun a ha=>IG (Nat.le_trans (pm ha) (by omega)) (wl a ha)
 rw[JS] at h4
 have hz:sZ u=1+u.path.length+u.leaf.lems.length+u.leaf.pf.length+u.leaf.kids.length+y5 u.leaf.lems:=rfl
 unfold dh
 rw[hen]
 simp only[ey,List.length_append,pb]
 omega
theorem IH (u:cc):1≤sZ u:=by unfold sZ;omega
theorem II:∀(ws:List cc) (b:List UInt8),(∀u∈ws,(jv u).bulk≤1048576∧BQ u∧u.leaf.kids.length=0)→jm ws≤1048576→(nJ b ws).length≤b.length+4*Dt.bulkAll (ws.map jv)+70*jm ws
 |[],b,_,_=>by
  show b.length≤_
  omega
 |u::ws,b,h,hz=>by
  obtain⟨h1,h2,h3⟩:=h u (by simp)
  have hz':jm (u::ws)=sZ u+jm ws:=by simp[jm]
  have hp:=IH u
  have he:=Cf h1 h2 h3
  have ih:=II ws (j8 b (dh u)) (fun x hx=>h x (by simp[hx])) (by omega)
  have hr:=xm b (dh u)
  have hu:=fR (n:=(dh u).length) (by omega)
  have hB:(jY (dh u)).length=(uv (dh u).length).length+(dh u).length:=by unfold jY;rw[List.length_append]
  show(nJ (j8 b (dh u)) ws).length≤_
  simp only[List.map_cons,Dt.bulkAll]
  omega
theorem Cg {u:cc} (hb:(jv u).bulk≤1048576) (hw:BQ u):Kj u:=by
 rw[AC] at hb
 refine⟨fun m hm=>?_,(EC _ (Nat.le_refl _) (n:=u.leaf) (by omega) hw.2).2.2⟩
 have h1:=pm (f:=dy) hm
 have h2:=sG m
 exact⟨by omega,by omega⟩
theorem IJ (l:List dI):l.length+y5 l≤Dt.bulkAll (l.map cY):=by
 unfold y5
 induction l with
 |nil=>simp[Dt.bulkAll]
 |cons a l ih=>
  have h1:=jE a
  have h2:=en (a.pf.map bN)
  rw[List.length_map] at h2
  simp only[List.map_cons,List.sum_cons,List.length_cons,Dt.bulkAll]
  omega
theorem ze (u:cc):sZ u≤(jv u).bulk:=by
 rw[AC]
 have h1:=tW u.leaf
 have h2:=IJ u.leaf.lems
 have h3:=en (u.path.map dy)
 have h4:=en (u.leaf.pf.map bN)
 have h5:=en (u.leaf.kids.map bG)
 rw[List.length_map] at h3 h4 h5
 unfold sZ
 omega
theorem Gn (es:List cc):jm es≤Dt.bulkAll (es.map jv):=by
 have:=mH (f:=jv) (m:=sZ) (c:=1) es fun a _=>by have:=ze a;omega
 unfold jm
 omega
theorem IK {ws:List cc} (h:∀u∈ws,cK u=true∧BQ u∧(dh u).length<18446744073709551616):BV ws:=fun u hu=>
 ⟨Ik (h u hu).1 (h u hu).2.1 (h u hu).2.2,(h u hu).2.2⟩
end Go.Rl
namespace Go.Rl
open Go.RowKit Go.Proofs
theorem jF.is {base n:Nat} {b d:List UInt8} {ws:List cc} {r:Value} {w':World} (h:jF base b r w') (e:ll b=((d,ws,n),0)):∃ve,r=.tuple #[.agg (d.map U8).toArray,ve,I (n:Int),I 0]∧cH (fun k=>k<base) w' (.sl (ws.map jv)) [ve]:=by
 unfold jF at h
 rw[e] at h
 exact h
structure Lk (d:List UInt8) (es:List cc):Prop where
 short:∀u∈es,Kj u
 few:es.length≤1073741824
 enc:(nJ (fA d) (es.filter cK)).length≤7340032
 backs:BV (es.filter cK)
theorem xu (es:List cc) (p:cc→Bool):Dt.bulkAll ((es.filter p).map jv)≤Dt.bulkAll (es.map jv)∧jm (es.filter p)≤jm es:=by
 induction es with
 |nil=>exact⟨Nat.le_refl _,Nat.le_refl _⟩
 |cons a l ih=>
  by_cases h:p a=true
  ·rw[List.filter_cons_of_pos h]
   simp only[List.map_cons,Dt.bulkAll,jm,List.sum_cons] at ih⊢
   omega
  ·rw[List.filter_cons_of_neg h]
   simp only[List.map_cons,Dt.bulkAll,jm,List.sum_cons] at ih⊢
   omega
theorem xv {u:cc} (h:cK u=true):u.leaf.kids.length=0:=by
 cases hk:decide (u.leaf.kids.length=0) with
 |true=>exact of_decide_eq_true hk
 |false=>
  have:=cv (u:=u) (.inr (.inl (by have:=of_decide_eq_false hk;omega)))
  rw[h] at this
  cases this
theorem Lk.mk' {d:List UInt8} {es:List cc} (hd:d.length=32) (hb:Dt.bulkAll (es.map jv)≤1048576) (hw:∀u∈es,BQ u) (hf:jm es≤120):Lk d es:=by
 have hm:∀u∈es,(jv u).bulk≤1048576:=fun u hu=>Nat.le_trans (pm hu) hb
 obtain⟨f1,f2⟩:=xu es cK
 have hin:∀u∈es.filter cK,u∈es∧cK u=true:=fun u hu=>List.mem_filter.1 hu
 have hj:=II (es.filter cK) (fA d) (fun u hu=>⟨hm u (hin u hu).1,hw u (hin u hu).1,xv (hin u hu).2⟩) (by omega)
 rw[mJ hd] at hj
 have hl:=en (es.map jv)
 rw[List.length_map] at hl
 refine⟨fun u hu=>Cg (hm u hu) (hw u hu),by omega,by omega,IK fun u hu=>⟨(hin u hu).2,hw u (hin u hu).1,?_⟩⟩
 have he:=Cf (hm u (hin u hu).1) (hw u (hin u hu).1) (xv (hin u hu).2)
 have:=hm u (hin u hu).1
 have hz:=ze u
 omega
theorem EL {w:World} {b d:List UInt8} {ws:List cc} {n:Nat} {v:Value} (hv:cz b v w) (hl:b.length≤7340032) (e:ll b=((d,ws,n),0)):
 Calls Tryz.prog 13 #[v] w (bE fun r w'=>aK w w'∧∃ve,r=.tuple #[.agg (d.map U8).toArray,ve,I (n:Int),I 0]∧cH (fun k=>k<w.heap.size) w' (.sl (ws.map jv)) [ve]):=
 bE.mono (yZ hv hl) fun _ _ h=>⟨h.1,h.2.is e⟩
theorem Ch (ha:AB) {w:World} {d:List UInt8} {es:List cc} {ev:Value} (hd:d.length=32) (hv:cA jv es ev w) (hw:∀u∈es,BQ u) (hb:Dt.bulkAll (es.map jv)≤1048576) (ho:zH w):
 Calls Tryz.prog 4 #[.agg (d.map U8).toArray,ev] w (bE fun r w'=>r=B true∧aK w w'):=by
 refine enter (vs:=[.agg (d.map U8).toArray,ev]) Tryz.func4 MI MI MI ?_
 refine af (aa ?_)
 obtain⟨g2,w2,hr2,l2,x2,k2⟩:=cC (P:=Tryz.prog) (w:=w) (T:=24) (cs:=d.map U8)
 refine cG MI MI hr2 ?_
 have s32:(Tryz.prog.info? 24).map (·.size)=some (d.map U8).length:=by rw[List.length_map,hd];exact ir
 have hzb:=Gn es
 refine ac MI MI (ag (ab (af (af (aa (am ki MI MI ((ha (ho.ext x2))) ?_))))))
 rintro v12 w12 ⟨x12,rfl⟩
 refine bt MI MI bu (ae MI MI (aj MI (ae MI MI (aj MI (am Aw MI MI ((Ay (hv.ext (x2.trans x12)) (by omega))) ?_)))))
 rintro v16 w16 ⟨x16,rfl⟩
 refine aj MI (bt MI MI DO (aD MI MI MI (ag (ab ?_))))
 refine bw MI (fun h18=>?_) (fun h18=>?_)
 ·refine af (aa (am ki MI MI ((ha (ho.ext ((x2.trans x12).trans x16)))) ?_))
  rintro v19 w19 ⟨x19,rfl⟩
  refine ac MI MI (ag (ab (aw (ay (az MI MI ?_)))))
  exact⟨_,rfl,rfl,(((x2.trans x12).trans x16).trans x19)⟩
 ·refine aA (ab (af ?_))
  have hE:=Lk.mk' hd hb hw (by simpa using h18)
  refine aa ?_
  refine ak MI MI ((k2.ext ((x12.trans x16))).ld Mo MI s32) ?_
  refine ae MI MI (am xG MI MI ((xH hd (hv.ext ((x2.trans x12).trans x16)) hE.short hw (Nat.le_trans hE.enc (by omega)) hE.few)) ?_)
  rintro v23 w23 ⟨x23,bv,vv,mv,rfl,bB,dV,iM⟩
  refine ae MI MI (ao MI MI (fX) (ao MI MI (fY) (ao MI MI (fZ) (ac MI MI (ac MI MI (ac MI MI (ag ?_)))))))
  refine ab (af (aa (ae MI MI (am tY MI MI ((EL bB hE.enc (xo hd hE.backs))) ?_))))
  rintro v29 w29 ⟨x29,ve,rfl,rp29⟩
  refine ae MI MI (ao MI MI (sT) (ao MI MI (sU) (ao MI MI (sV) (ao MI MI (sY) ?_))))
  obtain⟨g8,w8,hr8,l8,x8,k8⟩:=aY (P:=Tryz.prog) (w:=w29) (t:=24) (l:=pJ.map U8) iq rfl
  refine aV MI hr8 ?_
  obtain⟨w9,s9,q9,k9⟩:=k8.stS (P:=Tryz.prog) (t:=24) (m:=d.map U8) (by rw[List.length_map,List.length_map,hd];rfl) s32 (ew _)
  refine ar MI MI s9 ?_
  have x9:=aK.of_new x8 q9 l8
  refine ac MI MI (ac MI MI (ac MI MI (ag (ab (af ?_)))))
  have d1:cA jv (es.filter cK) ve w9:=(rp29.ext x9).rp
  have d2:cA jv (es.filter cK) vv w9:=cA.ext dV ((x29.trans x9))
  have bb:=bB.ext ((x29.trans x9))
  refine aa ?_
  refine ak MI MI (k9.ld Mo MI s32) ?_
  refine ak MI MI ((k2.ext (((((x12.trans x16).trans x23).trans x29).trans x9))).ld Mo MI s32) ?_
  refine al MI MI MI ((HY hd)) (ae MI MI (aj MI (ae MI MI (aj MI (ae MI MI (aj MI ?_))))))
  refine aP MI MI (cN bb) ?_
  refine aj MI (al MI MI MI (cJ MI bo) (ap MI MI MI (ae MI MI (aj MI (ae MI MI (aj MI (al MI MI MI (cJ MI bo) (ap MI MI MI ?_))))))))
  refine ae MI MI (aj MI (ae MI MI (aj MI (ae MI MI (aj MI (am uB MI MI ((uC d1 d2)) ?_))))))
  rintro v50 w50 ⟨x50,rfl⟩
  refine ap MI MI MI (ac MI MI (ag (ab (aw (az MI MI ?_)))))
  exact⟨_,rfl,rfl,((((((x2.trans x12).trans x16).trans x23).trans x29).trans x9).trans x50)⟩
end Go.Rl
namespace Go.Rl
open Go.RowKit Go.Proofs
def IL:bS:=⟨2,0,KN⟩
def L6:bS:=⟨1,0,KN⟩
def DG:cc:=⟨[IL],Ir⟩
theorem Gp:(Tryz.prog.info? 54).map (fun i=>(i.zero,i.size))=some (some (.agg #[.slice none 0 0,.slice none 0 0,I 0,I 0,B false,.slice none 0 0,.slice none 0 0,.slice none 0 0,B false,.slice none 0 0]),10):=by kernel_rfl
theorem L7:lB 2:=by unfold lB;omega
theorem IM:lB 0:=by unfold lB;omega
theorem JU:BQ DG:=⟨fun d hd=>by
 simp only[DG,List.mem_singleton] at hd
 subst hd
 exact⟨L7,IM⟩,(tN Ir).2 ⟨fun m hm=>(nomatch hm),⟨IM,IM⟩,fun m hm=>(nomatch hm),fun m hm=>(nomatch hm)⟩⟩
theorem JV:xF [DG]=((.mk [] L6 [Ir,Ir] false [],[[L6]]),0):=by kernel_rfl
theorem JW:ll (fA pJ)=((pJ,[],44),0):=by
 have h:=xo (d:=pJ) (es:=[]) rfl fun e he=>by cases he
 rw[show(nJ (fA pJ) []).length=44 from mJ rfl] at h
 exact h
theorem DH {w:World} {v:Value} (hv:cA jv [DG] v w) (ho:zH w):
 Calls Tryz.prog 25 #[v] w (bE fun r w'=>aK w w'∧∃vl x y vk vp mv,r=.tuple #[.agg #[vl,I 1,I 0,B false,x,y,vk,B false,vp],mv,I 0]∧au [vl,I 1,I 0,B false,x,y,vk,B false,vp]∧cA y8 [[L6]] mv w'):=by
 refine bE.mono (Cb hv (fun u hu=>?_) ho (by simp)) fun r w' h=>⟨h.1,?_⟩
 ·simp only[List.mem_singleton] at hu
  subst hu
  exact Cg (by decide) JU
 ·obtain⟨cs,mv,h1,h2,h3,h4⟩:=h.2
  rw[JV] at h1 h3 h4
  obtain⟨vl,x,y,vk,vp,rfl,_⟩:=dW h3
  exact⟨vl,x,y,vk,vp,mv,h1,h2,h4⟩
theorem Awake47:AB:=by
 intro w ho
 refine enter (vs:=[]) Tryz.func12 MI MI MI ?_
 refine af (aa (ac MI MI (ag (ab (af (aa (bz (vs:=[(0,I 2)]) (r:=.agg #[I 2,I 0,B false,.slice none 0 0,.slice none 0 0]) MI MI (by exact run_build _ _ _ _ (by kernel_rfl)) ?_)))))))
 obtain⟨v11,w11,hr11,x11,b11⟩:=ju (w:=w) (d:=IL) (x:=.slice none 0 0) (y:=.slice none 0 0)
 have d11:cA dy [IL] v11 w11:=Rp.ofSl (sz:=5) (xs:=[I 2,I 0,B false,.slice none 0 0,.slice none 0 0]) b11 (by simpa using bD.cons (b:=[]) (show Rp w11 (dy IL) [I 2,I 0,B false,.slice none 0 0,.slice none 0 0] from Ad (d:=IL) (Sl.nil _ _) (Sl.nil _ _)) bD.nil) (by simp[ce]) (by omega)
 obtain⟨A11,n11,c11,rfl⟩:=d11.isS
 refine aI (vs:=[(0,.agg #[I 2,I 0,B false,.slice none 0 0,.slice none 0 0])]) MI MI hr11 ?_
 refine bz (vs:=[(0,.slice A11 n11 c11)]) (r:=.agg #[.slice A11 n11 c11,.slice none 0 0,I 0,I 0,B false,.slice none 0 0,.slice none 0 0,.slice none 0 0,B false,.slice none 0 0]) MI MI (run_build _ _ _ #[.slice A11 n11 c11,.slice none 0 0,I 0,I 0,B false,.slice none 0 0,.slice none 0 0,.slice none 0 0,B false,.slice none 0 0] (by kernel_rfl)) ?_
 obtain⟨v13,w13,hr13,x13,b13,_⟩:=ym (P:=Tryz.prog) (w:=w11) (t:=25) Tryz.underlying25 Gp rfl (by omega) [[.slice A11 n11 c11,.slice none 0 0,I 0,I 0,B false,.slice none 0 0,.slice none 0 0,.slice none 0 0,B false,.slice none 0 0]] (by simp) (by simp) (by simp)
 have r13:cH (fun _=>False) w13 (jv DG) [.slice A11 n11 c11,.slice none 0 0,I 0,I 0,B false,.slice none 0 0,.slice none 0 0,.slice none 0 0,B false,.slice none 0 0]:=j9 (u:=DG) ((Rp.x (d11.ext x13)).weak fun _ h=>h.elim) uU
 have d13:cA jv [DG] v13 w13:=Rp.ofSl (sz:=10) b13 (by simpa using bD.cons (b:=[]) r13.rp bD.nil) (by simp[cQ]) (by omega)
 refine aI (vs:=[(0,.agg #[.slice A11 n11 c11,.slice none 0 0,I 0,I 0,B false,.slice none 0 0,.slice none 0 0,.slice none 0 0,B false,.slice none 0 0])]) MI MI hr13 ?_
 refine am B1 MI MI ((DH d13 (ho.ext (x11.trans x13)))) ?_
 rintro v14 w14 ⟨x14,vl,x,y,vk,vp,mv,rfl,h1,hm⟩
 refine ae MI MI (ao MI MI (fX) (ao MI MI (fY) (ao MI MI (fZ) ?_)))
 obtain⟨g1,w1,hr1,l1,x1,k1⟩:=aY (P:=Tryz.prog) (w:=w14) (t:=52) (z:=.agg #[.slice none 0 0,I 0,I 0,B false,.slice none 0 0,.slice none 0 0,.slice none 0 0,B false,.slice none 0 0]) (l:=[.slice none 0 0,I 0,I 0,B false,.slice none 0 0,.slice none 0 0,.slice none 0 0,B false,.slice none 0 0]) (by kernel_rfl) rfl
 refine aV MI hr1 ?_
 obtain⟨w2,s2,q2,k2⟩:=k1.stS (P:=Tryz.prog) (t:=52) (m:=[vl,I 1,I 0,B false,x,y,vk,B false,vp]) rfl (by kernel_rfl) h1
 refine ar MI MI s2 ?_
 have x2:=aK.of_new x1 q2 l1
 refine ac MI MI (ac MI MI (ag (ab (af (aa ?_)))))
 refine bz (vs:=[]) (r:=.agg (pJ.map U8).toArray) MI MI (run_build _ _ _ (pJ.map U8).toArray (by kernel_rfl)) ?_
 refine am Dm MI MI ((Do (d:=pJ) MI)) ?_
 rintro v19 w19 ⟨x19,o19⟩
 have b19:=o19.bts
 refine ac MI MI (ag (ab (af (aa (ae MI MI (am tY MI MI ((EL b19 (by rw[mJ rfl];omega) JW)) ?_))))))
 rintro v22 w22 ⟨x22,ve,rfl,rp22⟩
 refine ae MI MI (ao MI MI (sT) (ao MI MI (sU) (ao MI MI (sV) (ao MI MI (sY) ?_))))
 obtain⟨g5,w5,hr5,l5,x5,k5⟩:=aY (P:=Tryz.prog) (w:=w22) (t:=24) (l:=pJ.map U8) iq rfl
 refine aV MI hr5 ?_
 obtain⟨w6,s6,q6,k6⟩:=k5.stS (P:=Tryz.prog) (t:=24) (m:=pJ.map U8) rfl (by kernel_rfl) (ew _)
 refine ar MI MI s6 ?_
 have x6:=aK.of_new x5 q6 l5
 refine ac MI MI (ac MI MI (ac MI MI (ag (ab (af ?_)))))
 have hmW:=hm.ext ((((x2.trans x19).trans x22).trans x6))
 have hlW:cA jv [] ve w6:=(rp22.ext x6).rp
 have b19W:=b19.ext ((x22.trans x6))
 obtain⟨a42,c42,p42,q42,h42⟩:=bZ (P:=Tryz.prog) (sz:=1) Tryz.underlying59 (by kernel_rfl) rC (by omega) hmW (i:=0) (by simp) .i64
 obtain⟨v43,rfl,d43,_⟩:=Rp.isSlice h42
 obtain⟨a51,c51,p51,q51,h51⟩:=bZ (P:=Tryz.prog) (sz:=5) Tryz.underlying41 (by kernel_rfl) ce (by omega) (show cA dy [L6] v43 w6 from d43) (i:=0) (by simp) .i64
 obtain⟨x51,y51,rfl,_,_⟩:=gw h51
 refine aa (ae MI MI (al MI MI MI (cJ MI bo) (ae MI MI (aj MI (ah MI MI (aq (o:=1) L9 MI (by kernel_rfl) MI) ?_)))))
 refine aj MI (ah MI MI (cD (b:=1) (o:=0) Mc MI (by kernel_rfl) MI) (aj MI (ak MI MI (ai Me MI (((x19.trans x22).trans x6).cell_some (k2.cell (i:=1) MI))) ?_)))
 refine aj MI (al MI MI MI (cJ MI bo) (ap MI MI MI (ae MI MI (aj MI (ae MI MI (aj MI ?_))))))
 refine aP MI MI (bg ME hmW) ?_
 refine aj MI (al MI MI MI (cJ MI bo) (ap MI MI MI (ae MI MI (aj MI (ae MI MI (aj MI ?_))))))
 refine av MI MI MI (p42 _) ?_
 refine aj MI ?_
 refine ak MI MI (ai Mj MI (by have h:=q42 0 v43 rfl;rwa [jw] at h)) ?_
 refine aj MI ?_
 refine aP MI MI (bg Mj (show cA dy [L6] v43 w6 from d43)) ?_
 refine aj MI (al MI MI MI (cJ MI bo) (ap MI MI MI (ae MI MI (aj MI (ae MI MI (aj MI ?_))))))
 refine av MI MI MI (p42 _) ?_
 refine aj MI ?_
 refine ak MI MI (ai Mj MI (by have h:=q42 0 v43 rfl;rwa [jw] at h)) ?_
 refine aj MI ?_
 refine av MI MI MI (p51 _) ?_
 refine aj MI ?_
 refine ah MI MI (gR (o:=0) Mc MI (by kernel_rfl) MI) ?_
 refine aj MI (ak MI MI (ai Me MI (q51.at (j:=0) MI)) (aj MI (al MI MI MI (cJ MI bo) (ap MI MI MI (ae MI MI ?_)))))
 refine aj MI (ae MI MI (aj MI ?_))
 refine aP MI MI (cN b19W) ?_
 refine aj MI (al MI MI MI (cJ (by rw[mJ rfl];rfl) bo) (ap MI MI MI (ae MI MI (aj MI (ae MI MI (aj MI ?_))))))
 refine aP MI MI (bg Mu hlW) ?_
 refine aj MI (al MI MI MI (cJ MI bo) (ap MI MI MI (ae MI MI (aj MI (ae MI MI (aj MI (al MI MI MI (cJ MI bo) (ap MI MI MI ?_))))))))
 refine ae MI MI (aj MI (ae MI MI (aj MI (al MI MI MI (cJ MI bo) (ap MI MI MI (ac MI MI (ag (ab (aw (az MI MI ?_))))))))))
 exact⟨_,rfl,((((((x11.trans x13).trans x14).trans x2).trans x19).trans x22).trans x6),rfl⟩
end Go.Rl
namespace Go.Rl
open Go.RowKit Go.Proofs
theorem Ll {d:Dt} (h:Ty Tryz.prog 54 d):∃u:cc,d=jv u∧BQ u:=by
 obtain⟨l,rfl,hl,hf⟩:=h.inv_st Md
 obtain⟨d0,d1,rfl⟩:=LY (show l.length=2 from hl)
 obtain⟨ds,rfl,hw⟩:=(hf 0 _ d0 rfl rfl).inv_slP Mj fun _ hx=>Ib hx
 obtain⟨n,rfl,hn⟩:=Ex _ (Nat.le_refl _) (hf 1 _ d1 rfl rfl)
 exact⟨⟨ds,n⟩,rfl,hw,hn⟩
theorem ty_ents {d:Dt} (h:Ty Tryz.prog 25 d):∃es:List cc,d=.sl (es.map jv)∧∀u∈es,BQ u:=
 h.inv_slP Mu fun _ hx=>Ll hx
end Go.Rl

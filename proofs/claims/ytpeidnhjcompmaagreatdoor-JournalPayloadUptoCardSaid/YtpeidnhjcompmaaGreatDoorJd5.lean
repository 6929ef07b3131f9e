/- Part 5 of a proof: plain facts and walks of functions, merged by a program. Conditions: each lemma names its own. -/
import Derived.Test.YtpeidnhjcompmaaGreatDoorJd4
namespace Go.Rl
open Go.RowKit Go.Proofs
theorem ua:aG Tryz.prog 14:=⟨_,Tryz.func14,by kernel_rfl,rfl⟩
theorem Cm:(Tryz.prog.info? 54).map (fun i=>(i.zero,i.size,i.bytes))=some (some (.agg #[.slice none 0 0,.slice none 0 0,I 0,I 0,B false,.slice none 0 0,.slice none 0 0,.slice none 0 0,B false,.slice none 0 0]),10,176):=by kernel_rfl
theorem fe {P:Program} {fn:Func} {R:Ending→World→Prop} {N:Nat} {fr:Fr} {p s1 s2 s3:Tmp} {t T:TypeId} {u1 u2 u3:Value} {l:List Value} {w:World} {g:Nat} {d:TypeDesc} (hr:fn.results= #[.cell p t,.tmp s1,.tmp s2,.tmp s3]) (hv:lk fr p=some (.pointer (some ⟨g,0,none⟩))) (h1:lk fr s1=some u1) (h2:lk fr s2=some u2) (h3:lk fr s3=some u3) (hb:cr g T l w) (hu:P.underlying t=some d) (hd:d.isRow=true) (hi:(P.info? t).map (·.size)=some l.length)
 (h:R (.returned (.tuple #[.agg l.toArray,u1,u2,u3])) w):gX (bodyPost P fn R) N [] fr w .ret:=fun a ha=>by
 refine⟨ha.defers,.tuple #[.agg l.toArray,u1,u2,u3],?_,h⟩
 have hp:=ha.at_ p _ hv
 have hp':a.tmps[p]?.getD undef=.pointer (some ⟨g,0,none⟩):=by simpa using hp
 have q1:=ha.at_ s1 _ h1
 have q2:=ha.at_ s2 _ h2
 have q3:=ha.at_ s3 _ h3
 have hl:=run_loadVar_row w g T t l.toArray (0,0) d hb hu (by cases d<;>first|rfl|exact hd) (by simpa using hi)
 simp[results,hr,hp',asAddr,hl,←q1,←q2,←q3]
def jO (base:Nat) (b:List UInt8) (r:Value) (w':World):Prop:=∃ve,r=.tuple #[.agg ((ib b).1.1.map U8).toArray,ve,I (((ib b).1.2.2:Nat):Int),I (ib b).2]∧cL (fun k=>k<base) w' (.sl ((ib b).1.2.1.map i0)) [ve]
theorem jO.err {base:Nat} {b:List UInt8} {w':World} (h:b.length<44∨b.take 4≠kX∨eU b 36=false):jO base b (.tuple #[.agg (oo.map U8).toArray,.slice none 0 0,I 0,I 5]) w':=by
 have e:ib b=((oo,[],0),5):=by unfold ib;rw[if_pos h]
 unfold jO
 rw[e]
 exact⟨_,rfl,jT⟩
theorem jO.ok {base k:Nat} {b:List UInt8} {es:List bR} {ve:Value} {w':World} (h:¬(b.length<44∨b.take 4≠kX∨eU b 36=false)) (hj:fJ b 44=(es,k)) (hr:cL (fun k=>k<base) w' (.sl (es.map i0)) [ve]):jO base b (.tuple #[.agg (((b.take 36).drop 4).map U8).toArray,ve,I (k:Int),I 0]) w':=by
 have e:ib b=(((b.take 36).drop 4,es,k),0):=by unfold ib;rw[if_neg h,hj]
 unfold jO
 rw[e]
 exact⟨_,rfl,hr⟩
theorem xM {b:List UInt8} {k:Nat} (h:ql (b.drop k)=none):ia b k=none:=by unfold ia;rw[h];rfl
theorem po {b p t:List UInt8} {k:Nat} (h:ql (b.drop k)=some (p,t)) (hc:eU b (b.length-t.length)=false):ia b k=none:=by
 unfold ia;rw[h];show(if eU b (b.length-t.length)=true then _ else _)=_;rw[hc];rfl
theorem Cn {b p t:List UInt8} {k:Nat} (h:ql (b.drop k)=some (p,t)) (hc:eU b (b.length-t.length)=true) (he:iy p=none):ia b k=none:=by
 unfold ia;rw[h];show(if eU b (b.length-t.length)=true then _ else _)=_;rw[if_pos hc,he];rfl
theorem EQ {b p t:List UInt8} {k:Nat} {u:bR} (h:ql (b.drop k)=some (p,t)) (hc:eU b (b.length-t.length)=true) (he:iy p=some u):ia b k=some (u,b.length-t.length+8):=by
 unfold ia;rw[h];show(if eU b (b.length-t.length)=true then _ else _)=_;rw[if_pos hc,he];rfl
theorem DJ {b:List UInt8} {k:Nat} {es:List bR} (hJ:fJ b 44=(es++(fJ b k).1,(fJ b k).2)) (h:ia b k=none):fJ b 44=(es,k):=by
 rw[hJ,rD h,List.append_nil]
theorem eh:(Tryz.prog.info? 24).map (·.size)=some (oo.map U8).length:=by rw[List.length_map,u7];exact iZ
theorem AK {w:World} {g:Nat} {st:Option (List UInt8)} (hr:cv g st w):Calls Tryz.prog 49 #[.pointer (some ⟨g,0,none⟩)] w (bE fun r w'=>w=w'∧r=I ((st.getD []).length:Nat)):=(C3 hr).mono fun _ _ ⟨v,h,h1,h2⟩=>⟨v,h,h2.symm,h1⟩
theorem zr {w:World} {b:List UInt8} {v:Value} (hv:cn b v w) (hl:b.length≤4294967296):
 Calls Tryz.prog 14 #[v] w (bE fun r w'=>aN w w'∧jO w.heap.size b r w'):=by
 refine enter (vs:=[v]) Tryz.func14 E E E ?_
 refine af (aa ?_)
 obtain⟨g2,w2,hr2,l2,x2,k2⟩:=aX (P:=Tryz.prog) (w:=w) (t:=24) (l:=oo.map U8) fW rfl
 refine aV E hr2 ?_
 refine ac E E (ac E E (ac E E (ag (ab (af (aa ?_))))))
 obtain⟨g6,w6,hr6,l6,x6,k6⟩:=aX (P:=Tryz.prog) (w:=w2) (t:=24) (l:=oo.map U8) fW rfl
 refine aV E hr6 ?_
 have g26:g2<g6:=by have:=k2.lt;omega
 refine ag (ab (af (af ?_)))
 rcases hC:eU b 36
 ·refine aa (ae E E (aQ E E (cM (hv.ext (x2.trans x6))) (al E E E (bc) (ae E E ?_))))
  refine cb (fun h19=>?_) (fun h19=>?_)
  ·refine ao E E E (ao E E E (ao E E E (ao E E E (ap E E E (ae E E (ao E E E (ao E E E (ao E E E (ap E E E ?_)))))))))
   refine ag (ab (bf E (af (aa ?_))))
   refine ak E E ((k6.ext (aN.refl _)).ld Mm E eh) ?_
   obtain⟨wR,sR,qR,kR⟩:=(k2.ext (x6)).stS (P:=Tryz.prog) (t:=24) (m:=oo.map U8) rfl eh (dJ _)
   refine aq E E sR ?_
   have xR:=aN.of_new ((x2.trans x6)) qR l2
   refine ac E E (ac E E (ac E E (ag (ab (au (az ?_))))))
   refine fe E E E E E kR Mm E eh ?_
   exact⟨_,rfl,xR,jO.err (by
    first
    |exact .inl (by omega)
    |exact .inr (.inl (by assumption))
    |exact .inr (.inr hC))⟩
  ·refine ai E (ae E E (ai E ?_))
   obtain⟨v21,p21,b21⟩:=iU (hv.ext (x2.trans x6)) (hi:=4) (by omega) .i64
   refine cJ E E E E E (p21 _) (ai E (aY E E (mi b21) (ai E (al (v:=S [82,76,85,74]) E E E (rY) (aE E E E ?_)))))
   refine ae E E ?_
   refine cb (fun h25=>?_) (fun h25=>?_)
   ·refine ao E E E (ao E E E (ao E E E (ap E E E (ag (ab (bf E (af (aa ?_))))))))
    refine ak E E ((k6.ext (aN.refl _)).ld Mm E eh) ?_
    obtain⟨wR,sR,qR,kR⟩:=(k2.ext (x6)).stS (P:=Tryz.prog) (t:=24) (m:=oo.map U8) rfl eh (dJ _)
    refine aq E E sR ?_
    have xR:=aN.of_new ((x2.trans x6)) qR l2
    refine ac E E (ac E E (ac E E (ag (ab (au (az ?_))))))
    refine fe E E E E E kR Mm E eh ?_
    exact⟨_,rfl,xR,jO.err (by
     first
     |exact .inl (by omega)
     |exact .inr (.inl (by assumption))
     |exact .inr (.inr hC))⟩
   ·refine ai E (ae E E (ai E (an pY E E ((by have h:=pZ (k:=36) (hv.ext (x2.trans x6)) (by omega);rw[hC] at h;exact h)) ?_)))
    rintro v27 w27 ⟨x27,rfl⟩
    refine ai E (bo E E bu (aE E E E (ag (ab (bf E (af (aa ?_)))))))
    refine ak E E ((k6.ext (x27)).ld Mm E eh) ?_
    obtain⟨wR,sR,qR,kR⟩:=(k2.ext ((x6.trans x27))).stS (P:=Tryz.prog) (t:=24) (m:=oo.map U8) rfl eh (dJ _)
    refine aq E E sR ?_
    have xR:=aN.of_new (((x2.trans x6).trans x27)) qR l2
    refine ac E E (ac E E (ac E E (ag (ab (au (az ?_))))))
    refine fe E E E E E kR Mm E eh ?_
    exact⟨_,rfl,xR,jO.err (by
     first
     |exact .inl (by omega)
     |exact .inr (.inl (by assumption))
     |exact .inr (.inr hC))⟩
 ·refine aa (ae E E (aQ E E (cM (hv.ext (x2.trans x6))) (al E E E (bc) (ae E E ?_))))
  refine cb (fun h19=>?_) (fun h19=>?_)
  ·refine ao E E E (ao E E E (ao E E E (ao E E E (ap E E E (ae E E (ao E E E (ao E E E (ao E E E (ap E E E ?_)))))))))
   refine ag (ab (bf E (af (aa ?_))))
   refine ak E E ((k6.ext (aN.refl _)).ld Mm E eh) ?_
   obtain⟨wR,sR,qR,kR⟩:=(k2.ext (x6)).stS (P:=Tryz.prog) (t:=24) (m:=oo.map U8) rfl eh (dJ _)
   refine aq E E sR ?_
   have xR:=aN.of_new ((x2.trans x6)) qR l2
   refine ac E E (ac E E (ac E E (ag (ab (au (az ?_))))))
   refine fe E E E E E kR Mm E eh ?_
   exact⟨_,rfl,xR,jO.err (by
    first
    |exact .inl (by omega)
    |exact .inr (.inl (by assumption))
    |exact .inr (.inr hC))⟩
  ·refine ai E (ae E E (ai E ?_))
   obtain⟨v21,p21,b21⟩:=iU (hv.ext (x2.trans x6)) (hi:=4) (by omega) .i64
   refine cJ E E E E E (p21 _) (ai E (aY E E (mi b21) (ai E (al (v:=S [82,76,85,74]) E E E (rY) (aE E E E ?_)))))
   refine ae E E ?_
   refine cb (fun h25=>?_) (fun h25=>?_)
   ·refine ao E E E (ao E E E (ao E E E (ap E E E (ag (ab (bf E (af (aa ?_))))))))
    refine ak E E ((k6.ext (aN.refl _)).ld Mm E eh) ?_
    obtain⟨wR,sR,qR,kR⟩:=(k2.ext (x6)).stS (P:=Tryz.prog) (t:=24) (m:=oo.map U8) rfl eh (dJ _)
    refine aq E E sR ?_
    have xR:=aN.of_new ((x2.trans x6)) qR l2
    refine ac E E (ac E E (ac E E (ag (ab (au (az ?_))))))
    refine fe E E E E E kR Mm E eh ?_
    exact⟨_,rfl,xR,jO.err (by
     first
     |exact .inl (by omega)
     |exact .inr (.inl (by assumption))
     |exact .inr (.inr hC))⟩
   ·refine ai E (ae E E (ai E (an pY E E ((by have h:=pZ (k:=36) (hv.ext (x2.trans x6)) (by omega);rw[hC] at h;exact h)) ?_)))
    rintro v27 w27 ⟨x27,rfl⟩
    refine ai E (bo E E bu (aE E E E (ag (ab (cp E (aC (ab (af (af ?_)))))))))
    have hOK:¬(b.length<44∨b.take 4≠kX∨eU b 36=false):=by
     rintro(h|h|h)
     ·omega
     ·exact h25 h
     ·rw[hC] at h;cases h
    have l73:((b.take 36).drop 4).length=32:=by rw[List.length_drop,List.length_take];omega
    have e27:=((x2.trans x6).trans x27)
    have e227:=(x6.trans x27)
    have k6L:=k6.ext (x27)
    have k2L:=k2.ext ((x6.trans x27))
    refine aa (ac E E (ag (ab (aH ?_))))
    refine cm (α:=Nat) (fun j=>[(0,v),(2,.pointer (some ⟨g2,0,none⟩)),(6,.pointer (some ⟨g6,0,none⟩)),(7,I (j:Int))]) (fun j w'=>Mv (fun k=>k=g6) w27 w'∧cr g6 24 ((((b.take 36).drop 4).take j++oo.drop j).map U8) w'∧j≤32) (fun j=>32-j) (0) ⟨rfl,rfl,rfl,rfl,trivial⟩ ⟨Mv.refl _ _,k6L,by omega⟩ ?_
    rintro j wM ⟨mM,kM,hj⟩
    refine af (af (aa (ae E E (al E E E (bc) (ag (ab ?_))))))
    refine bw E (fun h32=>?_) (fun h32=>?_)
    ·have eM:aN w wM:=Mv.ext_from mM e27 fun k hk=>by have:k=g6:=hk;omega
     refine aC (ab (af (aH (aa (ae E E (ae E E (ae E E (al (r:=I ((4+j:Nat):Int)) E E E (by have e:((4+j:Nat):Int)=4+(j:Int):=(by omega);rw[e];exact aP (by omega) (by omega)) ?_))))))))
     obtain⟨a39,p39,q39⟩:=gR (hv.ext eM) (i:=4+j) (by omega) .i64
     refine ax E E E (p39 _) (ak E E (aj Mf E q39) ?_)
     refine ax E E E (iH Mm fC (i:=j) (by omega) .i64) ?_
     obtain⟨wN,sN,qN,kN⟩:=kM.stC (P:=Tryz.prog) (t:=5) (i:=0+j) (v:=U8 (b[4+j]'(by omega))) fC rfl (by rw[List.length_map,Ji l73 u7 (by omega)];omega)
     refine aq E E sN ?_
     have mN:=mM.trans (Mv.of_grown qN fun k hk _=>(Option.some.inj hk).symm) fun _ hk _=>hk
     rw[Nat.zero_add,←List.map_set,H5 l73 u7 (by omega) (by simp[List.getElem_drop,List.getElem_take])] at kN
     refine ag (aS (ab (aa (ae E E (al (r:=I ((j+1:Nat):Int)) E E E (by have e:((j+1:Nat):Int)=(j:Int)+1:=(by omega);rw[e];exact aP (by omega) (by omega)) ?_)))))
     refine ac E E (ag ?_)
     refine bT (j+1) ⟨rfl,rfl,rfl,rfl,trivial⟩ ⟨mN,kN,by omega⟩ (by omega)
    ·refine bg (aJ (aJ (bh (ab (af ?_)))))
     have hj32:j=32:=by omega
     subst hj32
     have e32:((b.take 36).drop 4).take 32++oo.drop 32=(b.take 36).drop 4:=by rw[List.take_of_length_le (Nat.le_of_eq l73),show oo.drop 32=[] from rfl,List.append_nil]
     rw[e32] at kM
     have eM:aN w wM:=Mv.ext_from mM e27 fun k hk=>by have:k=g6:=hk;omega
     have k2M:=mM.blk k2L (fun h=>by have:g2=g6:=h;omega)
     have s32:(Tryz.prog.info? 24).map (·.size)=some ((((b.take 36).drop 4)).map U8).length:=by rw[List.length_map,l73];exact iZ
     have g2M:=k2M.lt
     have g6M:=kM.lt
     refine aa (ac E E (ag (ab (af (aa (ac E E (ag (ab (aH ?_)))))))))
     refine ju (fun(k:Nat) (ve:Value) (es:List bR)=>[(0,v),(2,.pointer (some ⟨g2,0,none⟩)),(6,.pointer (some ⟨g6,0,none⟩)),(8,ve),(9,I (k:Int))]) (fun(k:Nat) (ve:Value) (es:List bR) w'=>aN wM w'∧f9 54 10 wM.heap.size i0 es ve w'∧44≤k∧k≤b.length∧fJ b 44=(es++(fJ b k).1,(fJ b k).2)∧es.length≤k) (fun(k:Nat) (ve:Value) (es:List bR)=>b.length-k) (44) (.slice none 0 0) ([]) ⟨rfl,rfl,rfl,rfl,rfl,trivial⟩ ⟨aN.refl _,f9.nil _,by omega,by omega,by simp,by simp⟩ ?_
     rintro k ve es wL ⟨eL,oL,hk1,hk2,hJ,hel⟩
     refine aH (af ?_)
     have sL:=eL.size
     have hwL:aN w wL:=eM.trans eL
     have sW:=hwL.size
     rcases hB:ql (b.drop k) with _|⟨p,t⟩
     rotate_left
     have hbl:p.length+t.length≤b.length:=by
      have:=HV hB
      rw[List.length_drop] at this
      omega
     rcases hC2:eU b (b.length-t.length)
     ·refine aa (ae E E (ae E E ?_))
      obtain⟨v44,p44,b44⟩:=gt (hv.ext (eM.trans eL)) (lo:=k) (by omega) .i64
      refine cJ E E E E E (p44 _) (an pE E E ((pG b44 (by rw[List.length_drop];omega))) ?_)
      rintro v45 w45 ⟨x45,g,lg,rfl,hr45⟩
      refine ac rfl rfl (ag (ab (af (aa (ae rfl rfl (an oT rfl rfl ((uB hr45 (fun l e=>by cases e;rw[List.length_drop];omega) hB)) ?_))))))
      rintro v48 w48 ⟨g48,vp,rfl,bp,hr48⟩
      have x48:=aN.of_new x45 g48 lg
      refine ae E E (am E E (bj) (am E E (bk) (ac E E (ac E E (ag (ab (af (aa (ae E E (aQ E E (cM (hv.ext ((eM.trans eL).trans x48))) ?_))))))))))
      refine ae E E (an qY E E ((AK hr48)) ?_)
      rintro v54 _ ⟨rfl,rfl⟩
      refine al (r:=I ((b.length-t.length:Nat):Int)) E E E ((by have e:((b.length-t.length:Nat):Int)=(b.length:Int)-(t.length:Int):=(by omega);rw[e];exact bG (a:=(b.length:Int)) (b:=(t.length:Int)) (by omega) (by omega))) ?_
      refine ac E E (ag (ab (af (af (aa (ae E E (al E E E (cW (by decide) cC) (ae E E (ai E (ae E E (ai E (ae E E ?_))))))))))))
      refine ai E (an pY E E ((by have h:=pZ (k:=b.length-t.length) (hv.ext ((eM.trans eL).trans x48)) (by omega);rw[hC2] at h;exact h)) ?_)
      rintro v61 w61 ⟨x61,rfl⟩
      refine ai E (bo E E bu (aE E E E (ag (ab (bf E (af ?_))))))
      have hfin:=DJ hJ (by first|exact xM hB|exact po hB hC2)
      refine aa ?_
      refine ak E E ((kM.ext (((eL.trans x48).trans x61))).ld Mm E s32) ?_
      refine ae E E (ae E E ?_)
      obtain⟨wR,sR,qR,kR⟩:=(k2M.ext (((eL.trans x48).trans x61))).stS (P:=Tryz.prog) (t:=24) (m:=((b.take 36).drop 4).map U8) (by rw[List.length_map,List.length_map,l73];rfl) s32 (dJ _)
      refine aq E E sR ?_
      have xR:=aN.of_new ((((eM.trans eL).trans x48).trans x61)) qR l2
      have oR:=(oL.mv (Mv.of_ext (X:=fun k=>k=g2) (x48.trans x61)) fun j hj=>by have:j=g2:=hj;omega).mv (Mv.of_grown (X:=fun k=>k=g2) qR fun k hk _=>(Option.some.inj hk).symm) fun j hj=>by have:j=g2:=hj;omega
      refine ac E E (ac E E (ac E E (ag (ab (au (az (a6 (az (a6 ?_)))))))))
      refine fe E E E E E kR Mm E s32 ?_
      exact⟨_,rfl,xR,jO.ok hOK hfin ((oR.rpx cR (by omega)).weak fun j hj=>.inl (by show j<wM.heap.size;have:=eM.size;omega))⟩
     ·refine aa (ae E E (ae E E ?_))
      obtain⟨v44,p44,b44⟩:=gt (hv.ext (eM.trans eL)) (lo:=k) (by omega) .i64
      refine cJ E E E E E (p44 _) (an pE E E ((pG b44 (by rw[List.length_drop];omega))) ?_)
      rintro v45 w45 ⟨x45,g,lg,rfl,hr45⟩
      refine ac rfl rfl (ag (ab (af (aa (ae rfl rfl (an oT rfl rfl ((uB hr45 (fun l e=>by cases e;rw[List.length_drop];omega) hB)) ?_))))))
      rintro v48 w48 ⟨g48,vp,rfl,bp,hr48⟩
      have x48:=aN.of_new x45 g48 lg
      refine ae E E (am E E (bj) (am E E (bk) (ac E E (ac E E (ag (ab (af (aa (ae E E (aQ E E (cM (hv.ext ((eM.trans eL).trans x48))) ?_))))))))))
      refine ae E E (an qY E E ((AK hr48)) ?_)
      rintro v54 _ ⟨rfl,rfl⟩
      refine al (r:=I ((b.length-t.length:Nat):Int)) E E E ((by have e:((b.length-t.length:Nat):Int)=(b.length:Int)-(t.length:Int):=(by omega);rw[e];exact bG (a:=(b.length:Int)) (b:=(t.length:Int)) (by omega) (by omega))) ?_
      refine ac E E (ag (ab (af (af (aa (ae E E (al E E E (cW (by decide) cC) (ae E E (ai E (ae E E (ai E (ae E E ?_))))))))))))
      refine ai E (an pY E E ((by have h:=pZ (k:=b.length-t.length) (hv.ext ((eM.trans eL).trans x48)) (by omega);rw[hC2] at h;exact h)) ?_)
      rintro v61 w61 ⟨x61,rfl⟩
      refine ai E (bo E E bu (aE E E E (ag (ab (cp E (aC (ab (af (aa (ae E E (an Ci E E ((Cl (bp.ext x61) (by omega))) ?_)))))))))))
      rintro v69 w69 ⟨x69,u,cs,ok,rfl,rp69,h1cs,hok1,hok2⟩
      refine ae E E (am E E (bj) (am E E (bk) ?_))
      obtain⟨g14,w14,hr14,l14,x14,k14⟩:=aX (P:=Tryz.prog) (w:=w69) (t:=54) (z:=.agg #[.slice none 0 0,.slice none 0 0,I 0,I 0,B false,.slice none 0 0,.slice none 0 0,.slice none 0 0,B false,.slice none 0 0]) (l:=[.slice none 0 0,.slice none 0 0,I 0,I 0,B false,.slice none 0 0,.slice none 0 0,.slice none 0 0,B false,.slice none 0 0]) (by kernel_rfl) rfl
      refine aV E hr14 ?_
      have hcs:cs.length=10:=rp69.len.trans (cR u)
      obtain⟨wE,sE,qE,kE⟩:=k14.stS (P:=Tryz.prog) (t:=54) (m:=cs) (by rw[hcs];rfl) (by rw[hcs];kernel_rfl) h1cs
      refine aq E E sE ?_
      have xE:=aN.of_new x14 qE l14
      refine ac E E (ag (ab (af (af (aa (ae E E (bo E E bu (ag (ab ?_)))))))))
      refine fQ E (fun h73=>?_) (fun h73=>?_)
      ·have hno:ok=false:=by simpa using h73
       have hfin:=DJ hJ (Cn hB hC2 (hok2 hno))
       refine af (aa ?_)
       refine ak E E ((kM.ext (((((eL.trans x48).trans x61).trans x69).trans xE))).ld Mm E s32) ?_
       refine ae E E (ae E E ?_)
       obtain⟨wR,sR,qR,kR⟩:=(k2M.ext (((((eL.trans x48).trans x61).trans x69).trans xE))).stS (P:=Tryz.prog) (t:=24) (m:=((b.take 36).drop 4).map U8) (by rw[List.length_map,List.length_map,l73];rfl) s32 (dJ _)
       refine aq E E sR ?_
       have xR:=aN.of_new ((((((eM.trans eL).trans x48).trans x61).trans x69).trans xE)) qR l2
       have oR:=(oL.mv (Mv.of_ext (X:=fun k=>k=g2) (((x48.trans x61).trans x69).trans xE)) fun j hj=>by have:j=g2:=hj;omega).mv (Mv.of_grown (X:=fun k=>k=g2) qR fun k hk _=>(Option.some.inj hk).symm) fun j hj=>by have:j=g2:=hj;omega
       refine ac E E (ac E E (ac E E (ag (ab (au (az (a6 (az (a6 ?_)))))))))
       refine fe E E E E E kR Mm E s32 ?_
       exact⟨_,rfl,xR,jO.ok hOK hfin ((oR.rpx cR (by omega)).weak fun j hj=>.inl (by show j<wM.heap.size;have:=eM.size;omega))⟩
      ·have hyes:ok=true:=by simpa using h73
       have hst:=EQ hB hC2 (hok1 hyes)
       obtain⟨_,_,_,_,_,hk',hk9,hkb⟩:=pW hst
       have eLE:=(((x48.trans x61).trans x69).trans xE)
       have own:∀j,ve.ownBlock=some j→wM.heap.size≤j∧j<wL.heap.size:=oL.lt
       have oE:=oL.mv (Mv.of_ext (X:=fun _=>False) eLE) fun _ h=>h.elim
       have s61:=((((x48.trans x61).trans x69).trans xE)).size
       obtain⟨x79,w79,v80,w80,hr79,hr80,o80,m80,n80⟩:=oE.push (ty:=25) (t:=25) Mp Cm rfl (by omega) (by omega) (by omega) h1cs ((rp69.mv (Mv.of_ext xE) fun _ h=>.inl h).weak fun j hj=>.inl (by
        have h61:=x61.size
        have h48:=(aN.of_new x45 g48 lg).size
        show j<w61.heap.size
        rcases hj with hj|hj
        ·omega
        ·have:=(own j hj).2;omega)) cR (by omega) (Nat.le_trans sL eLE.size)
       have eME:aN wM wE:=eL.trans eLE
       have x80:aN wM w80:=Mv.ext_from m80 eME fun j hj=>(own j hj).1
       refine aC (ab (aa (ae E E ?_)))
       refine ak E E (kE.ld L8 E (by rw[hcs];kernel_rfl)) ?_
       refine aK (vs:=[(0,.agg cs.toArray)]) E E hr79 ?_
       refine ba E E hr80 ?_
       refine ae E E (al (r:=I ((b.length-t.length+8:Nat):Int)) E E E (by have e:((b.length-t.length+8:Nat):Int)=((b.length-t.length:Nat):Int)+8:=(by omega);rw[e];exact aP (by omega) (by omega)) ?_)
       refine ac E E (ac E E (ag (aS ?_)))
       refine fZ (b.length-t.length+8) (v80) (es++[u]) ⟨rfl,rfl,rfl,rfl,rfl,trivial⟩ ⟨x80,o80,by omega,by omega,by rw[hJ,rC hst];simp,by simp;omega⟩ (by omega)
     ·refine aa (ae E E (ae E E ?_))
      obtain⟨v44,p44,b44⟩:=gt (hv.ext (eM.trans eL)) (lo:=k) (by omega) .i64
      refine cJ E E E E E (p44 _) (an pE E E ((pG b44 (by rw[List.length_drop];omega))) ?_)
      rintro v45 w45 ⟨x45,g,lg,rfl,hr45⟩
      refine ac rfl rfl (ag (ab (af (aa (ae rfl rfl (an oT rfl rfl ((BF hr45 (fun l e=>by cases e;rw[List.length_drop];omega) hB)) ?_))))))
      rintro v48 w48 ⟨g48,rfl,hr48⟩
      have x48:=aN.of_new x45 g48 lg
      refine ae E E (am E E (bj) (am E E (bk) (ac E E (ac E E (ag (ab (af (aa (ae E E (aQ E E (cM (hv.ext ((eM.trans eL).trans x48))) ?_))))))))))
      refine ae E E (an qY E E ((AK hr48)) ?_)
      rintro v54 _ ⟨rfl,rfl⟩
      refine al (r:=I ((b.length:Int)-((0:Nat):Int))) E E E ((bG (a:=(b.length:Int)) (b:=((0:Nat):Int)) (by omega) (by omega))) (ac E E ?_)
      refine ag (ab (af (af (aa (ae E E (al E E E (cw (by decide) cC) (ae E E (ao E E E (ao E E E (ao E E E (ao E E E ?_)))))))))))
      refine ap E E E (ag (ab (bf E (af ?_))))
      have hfin:=DJ hJ (by first|exact xM hB|exact po hB hC2)
      refine aa ?_
      refine ak E E ((kM.ext ((eL.trans x48))).ld Mm E s32) ?_
      refine ae E E (ae E E ?_)
      obtain⟨wR,sR,qR,kR⟩:=(k2M.ext ((eL.trans x48))).stS (P:=Tryz.prog) (t:=24) (m:=((b.take 36).drop 4).map U8) (by rw[List.length_map,List.length_map,l73];rfl) s32 (dJ _)
      refine aq E E sR ?_
      have xR:=aN.of_new (((eM.trans eL).trans x48)) qR l2
      have oR:=(oL.mv (Mv.of_ext (X:=fun k=>k=g2) x48) fun j hj=>by have:j=g2:=hj;omega).mv (Mv.of_grown (X:=fun k=>k=g2) qR fun k hk _=>(Option.some.inj hk).symm) fun j hj=>by have:j=g2:=hj;omega
      refine ac E E (ac E E (ac E E (ag (ab (au (az (a6 (az (a6 ?_)))))))))
      refine fe E E E E E kR Mm E s32 ?_
      exact⟨_,rfl,xR,jO.ok hOK hfin ((oR.rpx cR (by omega)).weak fun j hj=>.inl (by show j<wM.heap.size;have:=eM.size;omega))⟩
end Go.Rl
namespace Go.Rl
open Go.RowKit Go.Proofs
theorem lE:aG Tryz.prog 126:=⟨_,Tryz.func126,by kernel_rfl,rfl⟩
theorem lF:aG Tryz.prog 127:=⟨_,Tryz.func127,by kernel_rfl,rfl⟩
theorem vi:aG Tryz.prog 128:=⟨_,Tryz.func128,by kernel_rfl,rfl⟩
structure jQ (h g:Nat) (st:Option (List UInt8)) (ok:Bool) (w:World):Prop where
 blk:cr h 163 [.pointer (some ⟨g,0,none⟩),B ok] w
 rd:cQ g st w
 lt:g<h
theorem nS:(Tryz.prog.info? 4).map (·.size)=some 1:=by kernel_rfl
theorem jQ.flag {h g:Nat} {st s1:Option (List UInt8)} {ok:Bool} {w w1:World} (hm:jQ h g st ok w) (hg:w.grownBy w1 (some g)) (hr:cQ g s1 w1) (b:Bool):
 ∃w2,(Instr.storeAt 4 (.pointer (some ⟨h,1,none⟩)) (B b)).run Tryz.prog w1=.ok () w2∧Mv (lS h g) w w2∧jQ h g s1 b w2∧w1.grownBy w2 (some h):=by
 obtain⟨w2,h1,h2,h3,h4,h5⟩:=eo.put (P:=Tryz.prog) (t:=4) (v:=B b) hm.blk hg hr hm.lt (i:=1) nS rfl (by simp)
 exact⟨w2,h1,h2.weak (fun k hk _=>hk.elim .inr .inl),⟨h3,h4,hm.lt⟩,h5⟩
theorem jQ.mv {h g:Nat} {st:Option (List UInt8)} {ok:Bool} {X:Nat→Prop} {w w':World} (hm:jQ h g st ok w) (m:Mv X w w') (hX:∀k,X k→h<k):jQ h g st ok w':=
 ⟨m.blk hm.blk (fun hx=>by have:=hX h hx;omega),eo.mv hm.rd m fun k hk=>by have:=hX k hk;have:=hm.lt;omega,hm.lt⟩
theorem jQ.ext {h g:Nat} {st:Option (List UInt8)} {ok:Bool} {w w':World} (hm:jQ h g st ok w) (e:aN w w'):jQ h g st ok w':=hm.mv (Mv.of_ext (X:=fun _=>False) e) fun _ h=>h.elim
theorem jQ.set {h g:Nat} {st:Option (List UInt8)} {ok:Bool} {w:World} (hm:jQ h g st ok w) (b:Bool):
 ∃w2,(Instr.storeAt 4 (.pointer (some ⟨h,1,none⟩)) (B b)).run Tryz.prog w=.ok () w2∧Mv (fun k=>k=h) w w2∧jQ h g st b w2:=by
 obtain⟨w2,h1,h2,h3⟩:=hm.blk.stC (P:=Tryz.prog) (t:=4) (i:=1) (v:=B b) nS rfl (by simp)
 have m:Mv (fun k=>k=h) w w2:=Mv.of_grown h2 fun k hk _=>(Option.some.inj hk).symm
 exact⟨w2,h1,m,h3,eo.mv hm.rd m fun k hk=>by have:=hm.lt;have:k=h:=hk;omega,hm.lt⟩
theorem jQ.step {h g:Nat} {st s1:Option (List UInt8)} {ok:Bool} {w w1:World} (hm:jQ h g st ok w) (hg:w.grownBy w1 (some g)) (hr:cQ g s1 w1):jQ h g s1 ok w1:=
 ⟨hm.blk.other hg (fun e=>by have:=Option.some.inj e;have:=hm.lt;omega),hr,hm.lt⟩
theorem leN {n m:Nat} (hn:n<18446744073709551616) (hm:m<18446744073709551616):UInt64.ofNat n≤UInt64.ofNat m↔n≤m:=by
 rw[UInt64.le_iff_toNat_le,UInt64.toNat_ofNat',UInt64.toNat_ofNat']
 omega
theorem Jr {w:World} {h g n0 most:Nat} {st s1:Option (List UInt8)} {ok:Bool} (hm:jQ h g st ok w) (hn:n0<18446744073709551616) (hmo:most<18446744073709551616)
 (c:Calls Tryz.prog 89 #[.pointer (some ⟨g,0,none⟩)] w (bE fun r w'=>w.grownBy w' (some g)∧r=.tuple #[bI (UInt64.ofNat n0),I (if s1.isSome=true then 0 else 5)]∧cQ g s1 w')):
 Calls Tryz.prog 126 #[.pointer (some ⟨h,0,none⟩),bI (UInt64.ofNat most)] w (bE fun r w'=>Mv (lS h g) w w'∧r=bI (UInt64.ofNat (if (ok&&s1.isSome&&decide (n0≤most))=true then n0 else 0))∧jQ h g s1 (ok&&s1.isSome&&decide (n0≤most)) w'):=by
 refine enter (vs:=[.pointer (some ⟨h,0,none⟩),bI (UInt64.ofNat most)]) Tryz.func126 E E E ?_
 have kb:=hm.blk
 refine af (aa (ac E E (ag (ab (af ?_)))))
 rcases ok with _|_
 rotate_left
 rcases s1 with _|l1
 rotate_left
 rcases Nat.lt_or_ge most n0 with hlt|hle
 ·refine aa (ae E E (ay E E (ah E E (ar (o:=0) Ml E (by kernel_rfl) E) (ak E E (aj Mx E (kb.cell (i:=0) E)) ?_))))
  refine an gJ E E (c) ?_
  rintro v12 w12 ⟨g12,rfl,rs⟩
  have m12:=(hm.rd.rdT).kp g12
  have kb1:=kb.other g12 (fun e=>by have:=Option.some.inj e;have:=hm.lt;omega)
  obtain⟨w2,s2,m2,h2,_⟩:=hm.flag g12 rs false
  refine ae E E (am E E (bj) (am E E (bk) (ac E E (ac E E (ag (ab (af (aa (ae E E (ae E E (ay E E ?_)))))))))))
  refine ah E E (ar (o:=1) Ml E (by kernel_rfl) E) (ak E E (aj Me E (kb1.cell (i:=1) E)) ?_)
  refine ae E E (ai E (ae E E (ai E (al E E E (cw E bi) (ap E E E (ae E E (ai E (ae E E (ai E (ae E E ?_))))))))))
  refine ai E (al E E E (cW (mt (leN hn hmo).1 (by omega)) py) (ap E E E (ay E E (ah E E (ar (o:=1) Ml E (by kernel_rfl) E) ?_))))
  refine aq E E s2 ?_
  refine ag (ab (af (af (aa (ae E E (ay E E (ah E E (ar (o:=1) Ml E (by kernel_rfl) E) ?_)))))))
  refine ak E E (aj Me E (h2.blk.cell (i:=1) E)) (bo E E bu (ag (ab (bf E (af (aa (ac E E (ag ?_))))))))
  refine ab (au (az (aA E E ?_)))
  exact⟨_,rfl,m2,by simp[show ¬n0≤most by omega];rfl,by simpa [show ¬n0≤most by omega] using h2⟩
 ·refine aa (ae E E (ay E E (ah E E (ar (o:=0) Ml E (by kernel_rfl) E) (ak E E (aj Mx E (kb.cell (i:=0) E)) ?_))))
  refine an gJ E E (c) ?_
  rintro v12 w12 ⟨g12,rfl,rs⟩
  have m12:=(hm.rd.rdT).kp g12
  have kb1:=kb.other g12 (fun e=>by have:=Option.some.inj e;have:=hm.lt;omega)
  obtain⟨w2,s2,m2,h2,_⟩:=hm.flag g12 rs true
  refine ae E E (am E E (bj) (am E E (bk) (ac E E (ac E E (ag (ab (af (aa (ae E E (ae E E (ay E E ?_)))))))))))
  refine ah E E (ar (o:=1) Ml E (by kernel_rfl) E) (ak E E (aj Me E (kb1.cell (i:=1) E)) ?_)
  refine ae E E (ai E (ae E E (ai E (al E E E (cw E bi) (ap E E E (ae E E (ai E (ae E E (ai E (ae E E ?_))))))))))
  refine ai E (al E E E (cw ((leN hn hmo).2 hle) py) (ap E E E (ay E E (ah E E (ar (o:=1) Ml E (by kernel_rfl) E) ?_))))
  refine aq E E s2 ?_
  refine ag (ab (af (af (aa (ae E E (ay E E (ah E E (ar (o:=1) Ml E (by kernel_rfl) E) ?_)))))))
  refine ak E E (aj Me E (h2.blk.cell (i:=1) E)) (bo E E bu (ag (ab (cp E (aC (ab (af (aa (ae E E ?_)))))))))
  refine ac E E (ag (ab (au (aA E E ?_))))
  exact⟨_,rfl,m2,by simp[hle],by simpa [hle] using h2⟩
 ·refine aa (ae E E (ay E E (ah E E (ar (o:=0) Ml E (by kernel_rfl) E) (ak E E (aj Mx E (kb.cell (i:=0) E)) ?_))))
  refine an gJ E E (c) ?_
  rintro v12 w12 ⟨g12,rfl,rs⟩
  have m12:=(hm.rd.rdT).kp g12
  have kb1:=kb.other g12 (fun e=>by have:=Option.some.inj e;have:=hm.lt;omega)
  obtain⟨w2,s2,m2,h2,_⟩:=hm.flag g12 rs false
  refine ae E E (am E E (bj) (am E E (bk) (ac E E (ac E E (ag (ab (af (aa (ae E E (ae E E (ay E E ?_)))))))))))
  refine ah E E (ar (o:=1) Ml E (by kernel_rfl) E) (ak E E (aj Me E (kb1.cell (i:=1) E)) ?_)
  refine ae E E (ao E E E (ao E E E (aE E E E (ae E E (ao E E E (ao E E E (ao E E E (aE E E E (ay E E ?_)))))))))
  refine ah E E (ar (o:=1) Ml E (by kernel_rfl) E) ?_
  refine aq E E s2 ?_
  refine ag (ab (af (af (aa (ae E E (ay E E (ah E E (ar (o:=1) Ml E (by kernel_rfl) E) ?_)))))))
  refine ak E E (aj Me E (h2.blk.cell (i:=1) E)) (bo E E bu (ag (ab (bf E (af (aa (ac E E (ag ?_))))))))
  refine ab (au (az (aA E E ?_)))
  exact⟨_,rfl,m2,rfl,h2⟩
 ·refine aa (ae E E (ay E E (ah E E (ar (o:=0) Ml E (by kernel_rfl) E) (ak E E (aj Mx E (kb.cell (i:=0) E)) ?_))))
  refine an gJ E E (c) ?_
  rintro v12 w12 ⟨g12,rfl,rs⟩
  have m12:=(hm.rd.rdT).kp g12
  have kb1:=kb.other g12 (fun e=>by have:=Option.some.inj e;have:=hm.lt;omega)
  obtain⟨w2,s2,m2,h2,_⟩:=hm.flag g12 rs false
  refine ae E E (am E E (bj) (am E E (bk) (ac E E (ac E E (ag (ab (af (aa (ae E E (ae E E (ay E E ?_)))))))))))
  refine ah E E (ar (o:=1) Ml E (by kernel_rfl) E) (ak E E (aj Me E (kb1.cell (i:=1) E)) ?_)
  refine ae E E (ai E (ae E E (ai E (al E E E (cW (by decide) bi) (ap E E E (ae E E (ao E E E (ao E E E ?_))))))))
  refine ao E E E (aE E E E (ay E E (ah E E (ar (o:=1) Ml E (by kernel_rfl) E) ?_)))
  refine aq E E s2 ?_
  refine ag (ab (af (af (aa (ae E E (ay E E (ah E E (ar (o:=1) Ml E (by kernel_rfl) E) ?_)))))))
  refine ak E E (aj Me E (h2.blk.cell (i:=1) E)) (bo E E bu (ag (ab (bf E (af (aa (ac E E (ag ?_))))))))
  refine ab (au (az (aA E E ?_)))
  exact⟨_,rfl,m2,rfl,h2⟩
theorem pp (st:Option (List UInt8)) (ok:Bool) {most:Nat} (hmo:most<18446744073709551616):∃n s1 ok1,JR (jW most) st ok n s1 ok1∧n≤most∧(∀k,tL k st→tL k s1)∧∀{w:World} {h g:Nat},jQ h g st ok w→
 Calls Tryz.prog 126 #[.pointer (some ⟨h,0,none⟩),bI (UInt64.ofNat most)] w (bE fun r w'=>Mv (lS h g) w w'∧r=bI (UInt64.ofNat n)∧jQ h g s1 ok1 w'):=by
 obtain⟨n0,s1,q,hn,c⟩:=KJ st
 refine⟨_,s1,_,?_,?_,fun k hk=>q.atM lL.le hk,fun hm=>Jr hm hn hmo (c hm.rd)⟩
 ·have q':st.bind eJ=s1.map fun t=>(n0,t):=q
  have e:st.bind (jW most)=(st.bind eJ).bind fun p=>if p.1≤most then some p else none:=by cases st<;>rfl
  cases s1 with
  |none=>exact⟨by rw[e,q'];cases ok<;>rfl,fun h=>by simp at h⟩
  |some l1=>
   by_cases hle:n0≤most
   ·refine⟨?_,fun h=>?_⟩
    ·rw[e,q'];simp[hle]
    ·rw[e,q',if_pos h];simp[hle]
   ·refine⟨?_,fun h=>?_⟩
    ·rw[e,q'];simp[hle]
    ·simp[hle] at h
 ·split
  ·rename_i h
   simp only[Bool.and_eq_true,decide_eq_true_eq] at h
   exact h.2
  ·exact Nat.zero_le _
theorem Js {w:World} {h g:Nat} {n:Int} {st s1:Option (List UInt8)} {ok:Bool} (hm:jQ h g st ok w)
 (c:Calls Tryz.prog 158 #[.pointer (some ⟨g,0,none⟩)] w (bE fun r w'=>w.grownBy w' (some g)∧r=.tuple #[I n,I (if s1.isSome=true then 0 else 5)]∧cQ g s1 w')):
 Calls Tryz.prog 127 #[.pointer (some ⟨h,0,none⟩)] w (bE fun r w'=>Mv (lS h g) w w'∧r=I n∧jQ h g s1 (ok&&s1.isSome) w'):=by
 refine enter (vs:=[.pointer (some ⟨h,0,none⟩)]) Tryz.func127 E E E ?_
 have kb:=hm.blk
 refine af (aa (ac E E (ag (ab (af ?_)))))
 rcases ok with _|_
 rotate_left
 ·refine aa (ae E E (ay E E (ah E E (ar (o:=0) Ml E (by kernel_rfl) E) (ak E E (aj Mx E (kb.cell (i:=0) E)) ?_))))
  refine an yB E E (c) ?_
  rintro v10 w10 ⟨g10,rfl,rs⟩
  have m10:=(hm.rd.rdT).kp g10
  have kb1:=kb.other g10 (fun e=>by have:=Option.some.inj e;have:=hm.lt;omega)
  obtain⟨w2,s2,m2,h2,_⟩:=hm.flag g10 rs s1.isSome
  refine ae E E (am E E (bj) (am E E (bk) (ac E E (ac E E (ag (ab (af (aa (ae E E (ae E E (ay E E ?_)))))))))))
  refine ah E E (ar (o:=1) Ml E (by kernel_rfl) E) (ak E E (aj Me E (kb1.cell (i:=1) E)) ?_)
  refine ae E E (ai E (ae E E (ai E (al (r:=B s1.isSome) E E E (Ai) (ap E E E (ay E E (ah E E (ar (o:=1) Ml E (by kernel_rfl) E) ?_)))))))
  refine aq E E s2 ?_
  refine ag (ab (af (aa (ae E E (ac E E (ag (ab (au (aA E E ?_)))))))))
  exact⟨_,rfl,m2,rfl,by simpa using h2⟩
 ·refine aa (ae E E (ay E E (ah E E (ar (o:=0) Ml E (by kernel_rfl) E) (ak E E (aj Mx E (kb.cell (i:=0) E)) ?_))))
  refine an yB E E (c) ?_
  rintro v10 w10 ⟨g10,rfl,rs⟩
  have m10:=(hm.rd.rdT).kp g10
  have kb1:=kb.other g10 (fun e=>by have:=Option.some.inj e;have:=hm.lt;omega)
  obtain⟨w2,s2,m2,h2,_⟩:=hm.flag g10 rs false
  refine ae E E (am E E (bj) (am E E (bk) (ac E E (ac E E (ag (ab (af (aa (ae E E (ae E E (ay E E ?_)))))))))))
  refine ah E E (ar (o:=1) Ml E (by kernel_rfl) E) (ak E E (aj Me E (kb1.cell (i:=1) E)) ?_)
  refine ae E E (ao E E E (ao E E E (aE E E E (ay E E (ah E E (ar (o:=1) Ml E (by kernel_rfl) E) ?_)))))
  refine aq E E s2 ?_
  refine ag (ab (af (aa (ae E E (ac E E (ag (ab (au (aA E E ?_)))))))))
  exact⟨_,rfl,m2,rfl,h2⟩
theorem pq (st:Option (List UInt8)) (ok:Bool):∃n s1 ok1,JR jy st ok n s1 ok1∧lK n∧(∀k,tL k st→tL k s1)∧∀{w:World} {h g:Nat},jQ h g st ok w→
 Calls Tryz.prog 127 #[.pointer (some ⟨h,0,none⟩)] w (bE fun r w'=>Mv (lS h g) w w'∧r=I n∧jQ h g s1 ok1 w'):=by
 obtain⟨n,s1,q,hn,c⟩:=KK st
 exact⟨n,s1,_,JR.of_rdE q,hn,fun k hk=>q.atM eO.le hk,fun hm=>Js hm (c hm.rd)⟩
theorem Jt {w:World} {h g:Nat} {q:fj} {st s1:Option (List UInt8)} {ok:Bool} (hm:jQ h g st ok w)
 (c:∀{w:World},cQ g st w→Calls Tryz.prog 159 #[.pointer (some ⟨g,0,none⟩)] w (bE fun r w'=>w.grownBy w' (some g)∧LO w.heap.size q (if s1.isSome=true then 0 else 5) r w'∧cQ g s1 w')):
 Calls Tryz.prog 128 #[.pointer (some ⟨h,0,none⟩)] w (bE fun r w'=>Mv (lS h g) w w'∧wT w.heap.size q r w'∧jQ h g s1 (ok&&s1.isSome) w'):=by
 refine enter (vs:=[.pointer (some ⟨h,0,none⟩)]) Tryz.func128 E E E ?_
 have hlt:=hm.blk.lt
 refine af ?_
 rcases ok with _|_
 rotate_left
 ·refine aa ?_
  obtain⟨g2,w2,hr2,l2,x2,k2⟩:=aX (P:=Tryz.prog) (w:=w) (t:=46) (z:=.agg #[B false,.slice none 0 0,.slice none 0 0]) (l:=[B false,.slice none 0 0,.slice none 0 0]) (by kernel_rfl) rfl
  refine aV E hr2 ?_
  have hm2:=hm.ext x2
  refine ag (ab (af (aa (ae E E (ay E E (ah E E (ar (o:=0) Ml E (by kernel_rfl) E) ?_))))))
  refine ak E E (aj Mx E (x2.cell_some (hm.blk.cell (i:=0) E))) (an yA E E ((c hm2.rd)) ?_)
  rintro v10 w10 ⟨g10,⟨x,y,rfl,rq⟩,rs⟩
  have m10:=(hm2.rd.rdT).kp g10
  have hm10:=hm2.step g10 rs
  obtain⟨x',y',eq',hx,hy⟩:=mJ rq.rp
  cases eq'
  have k210:=k2.other g10 (fun e=>by have:=Option.some.inj e;have:=hm.lt;have:=k2.lt;omega)
  refine ae E E (am E E (bj) (am E E (bk) ?_))
  obtain⟨g3,w3,hr3,l3,x3,k3⟩:=aX (P:=Tryz.prog) (w:=w10) (t:=46) (z:=.agg #[B false,.slice none 0 0,.slice none 0 0]) (l:=[B false,.slice none 0 0,.slice none 0 0]) (by kernel_rfl) rfl
  refine aV E hr3 ?_
  obtain⟨w1_9,s1_9,q1_9,k1_9⟩:=k3.stS (P:=Tryz.prog) (t:=46) (m:=[B q.1,x,y]) rfl (by kernel_rfl) (aw.cons rfl (aw.cons hx.one (aw.cons hy.one aw.nil)))
  refine aq E E s1_9 ?_
  have x1_9:=aN.of_new (x3) q1_9 l3
  refine ac E E (ag (ab (af ?_)))
  have hm3:=hm10.ext x1_9
  obtain⟨w4,s4,m4,h4⟩:=hm3.set s1.isSome
  have hn3:g3≠h:=by have:=g10.size;have:=x2.size;omega
  have hn2:g2≠h:=by omega
  have k34:=m4.blk k1_9 (fun e=>hn3 e)
  have k24:=m4.blk (k210.ext x1_9) (fun e=>hn2 e)
  have o3:aw [B q.1,x,y]:=aw.cons rfl (aw.cons hx.one (aw.cons hy.one aw.nil))
  obtain⟨w5,s5,q5,k5⟩:=k24.stS (P:=Tryz.prog) (t:=46) (m:=[B q.1,x,y]) rfl (by kernel_rfl) o3
  have m5:Mv (fun k=>k=g2) w4 w5:=Mv.of_grown q5 fun k hk _=>(Option.some.inj hk).symm
  refine aa (ae E E (ae E E (ay E E (ah E E (ar (o:=1) Ml E (by kernel_rfl) E) ?_))))
  refine ak E E (aj Me E (hm3.blk.cell (i:=1) E)) (ae E E (ai E (ae E E (ai E (al (r:=B s1.isSome) E E E (Ai) ?_)))))
  refine ap E E E (ay E E (ah E E (ar (o:=1) Ml E (by kernel_rfl) E) ?_))
  refine aq E E s4 ?_
  refine ag (ab (af ?_))
  have mA:Mv (lS h g) w w1_9:=((Mv.of_ext x2).trans (Mv.of_grown g10 fun k hk _=>.inr (Option.some.inj hk).symm) fun _ hk _=>hk).trans (Mv.of_ext x1_9) fun _ hk _=>hk
  have mB:Mv (lS h g) w w5:=(mA.trans (m4.weak fun k hk _=>(.inl hk:lS h g k)) fun _ hk _=>hk).trans m5 fun k hk hlt=>by omega
  have sz2:=x2.size
  have szA:=mA.size
  have rA:=(rq.mv (Mv.of_ext x1_9) fun _ hk=>.inl hk).mv (m4.weak fun k hk _=>by show k<w2.heap.size;omega) fun _ hk=>.inl hk
  have g2lt:=k2.lt
  have rB:=(rA.mv (Y:=fun k=>k<w2.heap.size) (m5.weak fun k hk _=>by show k<w2.heap.size;omega) fun _ hk=>.inl hk).weak (Y:=fun k=>k<w.heap.size) fun k hk=>.inl (by show k<w2.heap.size;omega)
  refine aa ?_
  refine ak E E (k34.ld L9 E (by kernel_rfl)) ?_
  refine aq E E s5 ?_
  refine ag (ab (au ?_))
  refine dv E E k5 L9 E (by kernel_rfl) ?_
  exact⟨_,rfl,mB,⟨x,y,rfl,rB⟩,h4.mv m5 fun k hk=>by omega⟩
 ·refine aa ?_
  obtain⟨g2,w2,hr2,l2,x2,k2⟩:=aX (P:=Tryz.prog) (w:=w) (t:=46) (z:=.agg #[B false,.slice none 0 0,.slice none 0 0]) (l:=[B false,.slice none 0 0,.slice none 0 0]) (by kernel_rfl) rfl
  refine aV E hr2 ?_
  have hm2:=hm.ext x2
  refine ag (ab (af (aa (ae E E (ay E E (ah E E (ar (o:=0) Ml E (by kernel_rfl) E) ?_))))))
  refine ak E E (aj Mx E (x2.cell_some (hm.blk.cell (i:=0) E))) (an yA E E ((c hm2.rd)) ?_)
  rintro v10 w10 ⟨g10,⟨x,y,rfl,rq⟩,rs⟩
  have m10:=(hm2.rd.rdT).kp g10
  have hm10:=hm2.step g10 rs
  obtain⟨x',y',eq',hx,hy⟩:=mJ rq.rp
  cases eq'
  have k210:=k2.other g10 (fun e=>by have:=Option.some.inj e;have:=hm.lt;have:=k2.lt;omega)
  refine ae E E (am E E (bj) (am E E (bk) ?_))
  obtain⟨g3,w3,hr3,l3,x3,k3⟩:=aX (P:=Tryz.prog) (w:=w10) (t:=46) (z:=.agg #[B false,.slice none 0 0,.slice none 0 0]) (l:=[B false,.slice none 0 0,.slice none 0 0]) (by kernel_rfl) rfl
  refine aV E hr3 ?_
  obtain⟨w1_9,s1_9,q1_9,k1_9⟩:=k3.stS (P:=Tryz.prog) (t:=46) (m:=[B q.1,x,y]) rfl (by kernel_rfl) (aw.cons rfl (aw.cons hx.one (aw.cons hy.one aw.nil)))
  refine aq E E s1_9 ?_
  have x1_9:=aN.of_new (x3) q1_9 l3
  refine ac E E (ag (ab (af ?_)))
  have hm3:=hm10.ext x1_9
  obtain⟨w4,s4,m4,h4⟩:=hm3.set false
  have hn3:g3≠h:=by have:=g10.size;have:=x2.size;omega
  have hn2:g2≠h:=by omega
  have k34:=m4.blk k1_9 (fun e=>hn3 e)
  have k24:=m4.blk (k210.ext x1_9) (fun e=>hn2 e)
  have o3:aw [B q.1,x,y]:=aw.cons rfl (aw.cons hx.one (aw.cons hy.one aw.nil))
  obtain⟨w5,s5,q5,k5⟩:=k24.stS (P:=Tryz.prog) (t:=46) (m:=[B q.1,x,y]) rfl (by kernel_rfl) o3
  have m5:Mv (fun k=>k=g2) w4 w5:=Mv.of_grown q5 fun k hk _=>(Option.some.inj hk).symm
  refine aa (ae E E (ae E E (ay E E (ah E E (ar (o:=1) Ml E (by kernel_rfl) E) ?_))))
  refine ak E E (aj Me E (hm3.blk.cell (i:=1) E)) (ae E E (ao E E E (ao E E E (aE E E E (ay E E ?_)))))
  refine ah E E (ar (o:=1) Ml E (by kernel_rfl) E) ?_
  refine aq E E s4 ?_
  refine ag (ab (af ?_))
  have mA:Mv (lS h g) w w1_9:=((Mv.of_ext x2).trans (Mv.of_grown g10 fun k hk _=>.inr (Option.some.inj hk).symm) fun _ hk _=>hk).trans (Mv.of_ext x1_9) fun _ hk _=>hk
  have mB:Mv (lS h g) w w5:=(mA.trans (m4.weak fun k hk _=>(.inl hk:lS h g k)) fun _ hk _=>hk).trans m5 fun k hk hlt=>by omega
  have sz2:=x2.size
  have szA:=mA.size
  have rA:=(rq.mv (Mv.of_ext x1_9) fun _ hk=>.inl hk).mv (m4.weak fun k hk _=>by show k<w2.heap.size;omega) fun _ hk=>.inl hk
  have g2lt:=k2.lt
  have rB:=(rA.mv (Y:=fun k=>k<w2.heap.size) (m5.weak fun k hk _=>by show k<w2.heap.size;omega) fun _ hk=>.inl hk).weak (Y:=fun k=>k<w.heap.size) fun k hk=>.inl (by show k<w2.heap.size;omega)
  refine aa ?_
  refine ak E E (k34.ld L9 E (by kernel_rfl)) ?_
  refine aq E E s5 ?_
  refine ag (ab (au ?_))
  refine dv E E k5 L9 E (by kernel_rfl) ?_
  exact⟨_,rfl,mB,⟨x,y,rfl,rB⟩,h4.mv m5 fun k hk=>by omega⟩
theorem AL (st:Option (List UInt8)) (ok:Bool) (hl:iL st):∃q s1 ok1,JR jb st ok q s1 ok1∧(∀k,tL k st→tL k s1)∧∀{w:World} {h g:Nat},jQ h g st ok w→
 Calls Tryz.prog 128 #[.pointer (some ⟨h,0,none⟩)] w (bE fun r w'=>Mv (lS h g) w w'∧wT w.heap.size q r w'∧jQ h g s1 ok1 w'):=by
 obtain⟨q,s1,hq,c⟩:=KL st
 exact⟨q,s1,_,JR.of_rdE hq,fun k hk=>hq.atM tM.le hk,fun hm=>Jt hm (c hl)⟩
end Go.Rl
namespace Go.Rl
open Go.RowKit Go.Proofs
theorem p9:aG Tryz.prog 129:=⟨_,Tryz.func129,by kernel_rfl,rfl⟩
structure FL {α:Type} (f:List UInt8→Option (α×List UInt8)) (ok:Bool) (X:Option (List α×List UInt8)) (so:Option (List UInt8)) (oko:Bool) (k:Nat) (ps:List α):Prop where
 t:oko=true→ok=true∧so.isSome=true∧X=so.bind fun l=>(bS f k l).map fun p=>(ps++p.1,p.2)
 f:oko=false→(ok&&X.isSome)=false
section
variable {α:Type} {f:List UInt8→Option (α×List UInt8)} {ok oko okE:Bool} {X:Option (List α×List UInt8)} {st so s0 sE:Option (List UInt8)} {k N most:Nat} {ps:List α} {m:α}
theorem FL.start (hU:JR (jW most) st ok N s0 oko):FL f ok (st.bind (ov most f)) s0 oko N []:=by
 have e:st.bind (ov most f)=(st.bind (jW most)).bind fun p=>bS f p.1 p.2:=by cases st<;>rfl
 refine⟨fun h=>?_,fun h=>?_⟩
 ·obtain⟨h1,h2⟩:=hU.ok_le h
  refine⟨h1,h2,?_⟩
  rw[e,hU.val h]
  cases s0 with
  |none=>rfl
  |some l=>show bS f N l=(bS f N l).map fun p=>([]++p.1,p.2);cases bS f N l<;>rfl
 ·have hi:=hU.iff
  rw[h] at hi
  rw[e]
  cases ok with
  |false=>rfl
  |true=>
   simp only[Bool.true_and] at hi⊢
   have:st.bind (jW most)=none:=Option.not_isSome_iff_eq_none.1 (by rw[←hi];simp)
   rw[this];rfl
theorem FL.step (h:FL f ok X so true (k+1) ps) (q:JR f so true m sE okE):FL f ok X sE okE k (ps++[m]):=by
 obtain⟨h1,h2,h3⟩:=h.t rfl
 refine⟨fun e=>⟨h1,(q.ok_le e).2,pJ h3 (q.val e)⟩,fun e=>?_⟩
 have hi:=q.iff
 rw[e] at hi
 simp only[Bool.true_and] at hi
 have hn:so.bind f=none:=Option.not_isSome_iff_eq_none.1 (by rw[←hi];simp)
 have hX:X=none:=by
  rw[h3]
  cases so with
  |none=>rfl
  |some l=>
   have hl:f l=none:=hn
   show(bS f (k+1) l).map _=none
   have:bS f (k+1) l=none:=by simp only[bS,hl,Option.bind_none]
   rw[this];rfl
 rw[hX];cases ok<;>rfl
theorem FL.jr {g:List UInt8→Option (List α×List UInt8)} (h:FL f ok (st.bind g) so oko k ps) (hk:oko=true→k=0):JR g st ok ps so oko:=by
 cases oko with
 |false=>exact⟨(h.f rfl).symm,fun e=>by cases e⟩
 |true=>
  obtain⟨h1,h2,h3⟩:=h.t rfl
  obtain rfl:=hk rfl
  cases so with
  |none=>cases h2
  |some l=>
   have e:st.bind g=some (ps,l):=by rw[h3];simp[bS]
   exact⟨by rw[e,h1];rfl,fun _=>e⟩
end
theorem Ju {so sA sB sC sD sE:Option (List UInt8)} {ok okA nt okC okD okE:Bool} {n1 n2 n3 n4:Int} {q:fj} (q1:JR jy so ok n1 sA okA) (q2:JR jy sA okA n2 sB nt) (q3:JR jy sB nt n3 sC okC) (q4:JR jy sC okC n4 sD okD) (q5:JR jb sD okD q sE okE):JR ri so ok ⟨n1,n2,n3,n4,q⟩ sE okE:=
 JR.bind (g:=fun a l=>(jy l).bind fun b=>(jy b.2).bind fun c=>(jy c.2).bind fun d=>(jb d.2).bind fun e=>some ((⟨a,b.1,c.1,d.1,e.1⟩:cg),e.2)) q1
  (JR.bind (g:=fun b l=>(jy l).bind fun c=>(jy c.2).bind fun d=>(jb d.2).bind fun e=>some ((⟨n1,b,c.1,d.1,e.1⟩:cg),e.2)) q2
    (JR.bind (g:=fun c l=>(jy l).bind fun d=>(jb d.2).bind fun e=>some ((⟨n1,n2,c,d.1,e.1⟩:cg),e.2)) q3
      (JR.bind (g:=fun d l=>(jb l).bind fun e=>some ((⟨n1,n2,n3,d,e.1⟩:cg),e.2)) q4 (q5.map fun e=>(⟨n1,n2,n3,n4,e⟩:cg)))))
theorem wT.stableX {b:Nat} {q:fj} {X:Nat→Prop} (hX:∀k,X k→k<b):cS (Mv X) (wT b q):=fun _ _ _ ⟨x,y,h,h2⟩ hm=>⟨x,y,h,h2.mv (hm.weak fun j hj _=>hX j hj) fun _ hk=>.inl hk⟩
theorem wT.up {b c:Nat} {q:fj} {v:Value} {w:World} (hc:b≤c) (h:wT c q v w):wT b q v w:=by
 obtain⟨x,y,h1,h2⟩:=h
 exact⟨x,y,h1,h2.weak fun j hj=>.inl (by show j<c;omega)⟩
theorem wU.stableX {α:Type} {b sz:Nat} {f:α→Dt} {l:List α} {X:Nat→Prop} (hX:∀k,X k→k<b):cS (Mv X) (wU b sz f l):=fun _ _ _ ⟨cs,h1,h2,h3,h4⟩ hm=>
 ⟨cs,h1.mv hm fun k hk hx=>by have:=h2 k hk;have:=hX k hx;omega,h2,h3,aT.mv (hm.weak fun j hj _=>hX j hj) (fun _ hk=>.inl hk) h4⟩
theorem jQ.stableZ {h g:Nat} {st:Option (List UInt8)} {ok:Bool}:d6 (jQ h g st ok):=fun _ _ hm hx=>hm.ext hx
theorem im {k:Nat} (hk:k<18446744073709551616):(0:UInt64)<UInt64.ofNat k↔0<k:=by
 rw[UInt64.lt_iff_toNat_lt,UInt64.toNat_ofNat',show(0:UInt64).toNat=0 from rfl]
 omega
theorem vj {k:Nat} (hk:k+1<18446744073709551616):UInt64.ofNat (k+1)-1=UInt64.ofNat k:=by
 have hkn:(UInt64.ofNat (k+1)).toNat=k+1:=by rw[UInt64.toNat_ofNat'];omega
 refine UInt64.toNat_inj.1 ?_
 rw[UInt64.toNat_sub_of_le _ _ (UInt64.le_iff_toNat_le.2 (by rw[hkn];show 1≤_;omega)),hkn,UInt64.toNat_ofNat',show(1:UInt64).toNat=1 from rfl]
 omega
theorem qa {w:World} {h g:Nat} {st:Option (List UInt8)} {ok:Bool} (hm:jQ h g st ok w) (hl:iL st):
 Calls Tryz.prog 129 #[.pointer (some ⟨h,0,none⟩)] w (bE fun r w'=>Mv (lS h g) w w'∧∃ps s1 ok1,cL (fun k=>k<w.heap.size) w' (gV ps) [r]∧r.oneCell'=true∧jQ h g s1 ok1 w'∧JR gP st ok ps s1 ok1∧∀k,tL k st→tL k s1):=by
 refine enter (vs:=[.pointer (some ⟨h,0,none⟩)]) Tryz.func129 E E E ?_
 have hlt:=hm.blk.lt
 have hgh:=hm.lt
 have hX:∀k,lS h g k→k<w.heap.size:=fun k hk=>by rcases hk with rfl|rfl<;>omega
 obtain⟨N,s0,ok0,qU,hN,aU,cU⟩:=pp st ok (most:=1048576) (by omega)
 refine af (aa (ac E E (ag (ab (af (aa (ac E E (ag (ab (af (af (aa (ae E E (an lE E E ((cU hm)) ?_))))))))))))))
 rintro v7 w7 ⟨m7,rfl,hm7⟩
 have m7:=m7
 refine ac E E (ag (ab (aH ?_)))
 refine rZ (fun(k:Nat) (v:Value) (so:Option (List UInt8)) (oko:Bool) (ps:List cg)=>[(0,.pointer (some ⟨h,0,none⟩)),(3,v),(4,bI (UInt64.ofNat k))]) (fun(k:Nat) (v:Value) (so:Option (List UInt8)) (oko:Bool) (ps:List cg) w'=>Mv (lS h g) w w'∧jQ h g so oko w'∧f9 187 7 w.heap.size bK ps v w'∧FL ri ok (st.bind gP) so oko k ps∧k+ps.length≤1048576∧∀j,tL j st→tL j so) (fun(k:Nat) (v:Value) (so:Option (List UInt8)) (oko:Bool) (ps:List cg)=>k) (N) (.slice none 0 0) (s0) (ok0) ([]) ⟨rfl,rfl,rfl,trivial⟩ ⟨m7,hm7,f9.nil _,FL.start qU,by simpa using hN,aU⟩ ?_
 rintro k v so oko ps wL ⟨mL,hmL,oL,hF,hk,aL⟩
 refine af (af ?_)
 have szL:=mL.size
 have hvo:v.oneCell'=true:=by obtain⟨_,_,_,rfl⟩:=oL.isS;rfl
 rcases Nat.eq_zero_or_pos k with h0|h0
 rotate_left
 rcases oko with _|_
 rotate_left
 ·refine aa (ae E E (al (v:=bI 0) E E E (cw ((im (by omega)).2 h0) cO) (ae E E (ai E (ae E E (ai E (ay E E ?_)))))))
  refine ai E (ah E E (ar (o:=1) Ml E (by kernel_rfl) E) (ai E (ak E E (aj Me E (hmL.blk.cell (i:=1) E)) ?_)))
  refine ap E E E (ag (ab (bf E (aC (ab (af (aH (af ?_))))))))
  obtain⟨k',rfl⟩:∃k',k=k'+1:=⟨k-1,by omega⟩
  obtain⟨n1,sA,okA,q1,i1,a1,c1⟩:=pq so true
  obtain⟨n2,sB,nt,q2,i2,a2,c2⟩:=pq sA okA
  obtain⟨n3,sC,okC,q3,i3,a3,c3⟩:=pq sB nt
  obtain⟨n4,sD,okD,q4,i4,a4,c4⟩:=pq sC okC
  obtain⟨q,sE,okE,q5,a5,c5⟩:=AL sD okD (a4 _ (a3 _ (a2 _ (a1 _ (aL _ hl)))))
  have qM:=Ju q1 q2 q3 q4 q5
  refine aa (ae E E (an lF E E ((c1 hmL)) ?_))
  rintro v19 w19 ⟨m19,rfl,hm19⟩
  have m19:=m19
  refine ae E E (an lF E E ((c2 hm19)) ?_)
  rintro v21 w21 ⟨m21,rfl,hm21⟩
  have m21:=m21
  refine ae E E (an lF E E ((c3 hm21)) ?_)
  rintro v23 w23 ⟨m23,rfl,hm23⟩
  have m23:=m23
  refine ae E E (an lF E E ((c4 hm23)) ?_)
  rintro v25 w25 ⟨m25,rfl,hm25⟩
  have m25:=m25
  have m4:Mv (lS h g) wL w25:=((m19.trans m21 fun _ h _=>h).trans m23 fun _ h _=>h).trans m25 fun _ h _=>h
  refine bC (vs:=[(0,I n1),(1,I n2),(2,I n3),(3,I n4)]) (r:=.agg #[I n1,I n2,I n3,I n4]) E E (run_build _ _ _ _ (by kernel_rfl)) ?_
  obtain⟨g5,w5,hr5,l5,x5,k5⟩:=aX (P:=Tryz.prog) (w:=w25) (t:=185) (z:=.agg #[I 0,I 0,I 0,I 0]) (l:=[I 0,I 0,I 0,I 0]) (by kernel_rfl) rfl
  refine aV E hr5 ?_
  obtain⟨wd,sd,qd,kd⟩:=k5.stS (P:=Tryz.prog) (t:=185) (m:=[I n1,I n2,I n3,I n4]) rfl (by kernel_rfl) (aw.cons rfl (aw.cons rfl (aw.cons rfl (aw.cons rfl aw.nil))))
  refine aq E E sd ?_
  have xd:=aN.of_new x5 qd l5
  refine ag (ab ?_)
  have hmd:=hm25.ext xd
  have mLd:Mv (lS h g) wL wd:=m4.trans (Mv.of_ext xd) fun _ h _=>h
  have szd:=mLd.size
  have hXd:∀k,lS h g k→k<wd.heap.size:=fun k hk=>by have:=hX k hk;omega
  have nX5:¬lS h g g5:=fun hh=>by have:=m4.size;have:=hX g5 hh;omega
  refine rS 6 [0,4,27,32] (Mv (lS h g) wd) (Mv (lS h g)) true Kg (jQ h g sD okD) (kD.mv _ _) (Mv.refl _ _) jQ.stableZ hmd (fun _ _ _ _ h=>h.elim) (fun _=>by kernel_rfl) (by kernel_rfl) (by kernel_rfl) ?_
  refine aD rfl rfl (aO rfl rfl (fun w hw=>(hw.blk kd nX5).ld Mt rfl (by kernel_rfl)) (aD rfl rfl (uS (S:=wT wd.heap.size q) (Z':=jQ h g sE okE) vi rfl (wT.stableX hXd) (jQ.stableZ) rfl (fun w hw hz=>by rintro _ rfl;exact(c5 hz).mono fun _ _ ⟨r,he,h1,h2,h3⟩=>.inl ⟨r,he,h1,h2.up hw.size,h3⟩) ?_)))
  refine uR (S:=fun v w'=>∃x y,v=.agg #[I n1,I n2,I n3,I n4,B q.1,x,y]∧cL (fun k=>k<wd.heap.size) w' (iX q) [B q.1,x,y]) (fun _ _ _ ⟨x,y,h,h2⟩ hm=>⟨x,y,h,h2.mv (hm.weak fun j hj _=>hXd j hj) fun _ hk=>.inl hk⟩) E (fun w' hw=>by
 rintro _ rfl _ ⟨x,y,rfl,h⟩
 exact⟨_,w',run_build _ _ _ _ (by kernel_rfl),aN.refl _,x,y,rfl,h⟩) ?_
  refine fR (S:=wU wd.heap.size 7 bK [⟨n1,n2,n3,n4,q⟩]) (wU.stableX hXd) E (fun w' hw=>by
 rintro _ ⟨x,y,rfl,h⟩
 exact HI (cs:=[I n1,I n2,I n3,I n4,B q.1,x,y]) Mj tR rfl (by omega) (by omega) hw.size (aw.cons rfl (aw.cons rfl (aw.cons rfl (aw.cons rfl (aw.cons rfl (aw.cons (ku h).1 (aw.cons (ku h).2 aw.nil))))))) (yM (m:=⟨n1,n2,n3,n4,q⟩) h) (dB _)) ?_
  refine cq ?_
  intro wg6 xg6 zg6
  rintro _ rfl
  rintro _ rfl
  rintro _ hq27
  obtain rfl:=Eq.symm hq27
  intro vg32 b32
  obtain⟨cs,hcs,hown,h1cs,hall⟩:=b32
  have mAll:Mv (lS h g) wL wg6:=mLd.trans xg6 fun _ hj _=>hj
  have oG:=oL.mv mAll hX
  have own:∀j,v.ownBlock=some j→w.heap.size≤j∧j<wL.heap.size:=oL.lt
  have hM:=(aT.one hall).weak (Y:=fun k=>k<w.heap.size∨v.ownBlock=some k) fun j hj=>.inl (by
   rcases hj with hj|hj
   ·show j<wd.heap.size;omega
   ·have:=(own j hj).2;show j<wd.heap.size;omega)
  obtain⟨v33,w33,hr33,o33,g33⟩:=oG.app (t:=50) (ty:=50) Mj tR rfl (by omega) (by omega) hcs h1cs hM dB (by omega) (Nat.le_trans szL mAll.size)
  have m33:Mv (fun k=>v.ownBlock=some k) wg6 w33:=Mv.of_grown g33.grown fun k hk _=>hk
  have h33:jQ h g sE okE w33:=zg6.mv m33 fun j hj=>by have:=own j hj;omega
  refine ba E E hr33 ?_
  refine ac E E (ag (aS (ab (aa (ae E E (al (v:=bI 1) (r:=bI (UInt64.ofNat k')) E E E ((by rw[←vj (k:=k') (by omega)];exact dQ)) ?_))))))
  refine ac E E (ag ?_)
  refine oB (k') (v33) (sE) (okE) (ps++[⟨n1,n2,n3,n4,q⟩]) ⟨rfl,rfl,rfl,trivial⟩ ⟨(mL.trans mAll fun _ hj _=>hj).trans m33 fun j hj hlt=>by have:=(own j hj).1;omega,h33,o33,hF.step qM,by simp;omega,fun j hj=>a5 _ (a4 _ (a3 _ (a2 _ (a1 _ (aL _ hj)))))⟩ (by omega)
 ·refine aa (ae E E (al (v:=bI 0) E E E (cW (mt (im (by omega)).1 (by omega)) cO) (ae E E (ao E E E (ao E E E ?_)))))
  refine ao E E E (ao E E E (aE E E E (ag (ab (cp E (bg (aJ (aJ (bh (ab (af (aa (ae E E (ac E E (ag (ab ?_))))))))))))))))
  refine au (aA E E ?_)
  exact⟨_,rfl,mL,ps,so,oko,oL.rpx dB (by omega),hvo,hmL,hF.jr (fun _=>h0),aL⟩
 ·refine aa (ae E E (al (v:=bI 0) E E E (cw ((im (by omega)).2 h0) cO) (ae E E (ai E (ae E E (ai E (ay E E ?_)))))))
  refine ai E (ah E E (ar (o:=1) Ml E (by kernel_rfl) E) (ai E (ak E E (aj Me E (hmL.blk.cell (i:=1) E)) ?_)))
  refine ap E E E (ag (ab (cp E (bg (aJ (aJ (bh (ab (af (aa (ae E E (ac E E (ag (ab (au (aA E E ?_))))))))))))))))
  exact⟨_,rfl,mL,ps,so,false,oL.rpx dB (by omega),hvo,hmL,hF.jr (fun h=>by cases h),aL⟩
end Go.Rl
namespace Go.Rl
open Go.RowKit Go.Proofs
theorem Jv:aG Tryz.prog 91:=⟨_,Tryz.func91,by kernel_rfl,rfl⟩
theorem K4 {so sA sB sC:Option (List UInt8)} {ok okA nt okC:Bool} {n1 n2:Int} {q:fj} (q1:JR jy so ok n1 sA okA) (q2:JR jy sA okA n2 sB nt) (q3:JR jb sB nt q sC okC):JR oh so ok ⟨n1,n2,q⟩ sC okC:=
 JR.bind (g:=fun a l=>(jy l).bind fun b=>(jb b.2).bind fun c=>some ((⟨a,b.1,c.1⟩:bV),c.2)) q1
  (JR.bind (g:=fun b l=>(jb l).bind fun c=>some ((⟨n1,b,c.1⟩:bV),c.2)) q2 (q3.map fun c=>(⟨n1,n2,c⟩:bV)))
theorem It {so sA sB sC sD:Option (List UInt8)} {ok okA nt okC okD:Bool} {n:Int} {nb:Nat} {q:fj} {ps:List cg} (q1:JR jy so ok n sA okA) (q2:JR (jW 1) sA okA nb sB nt) (q3:JR jb sB nt q sC okC) (q4:JR gP sC okC ps sD okD):JR EI so ok ⟨n,bW nb,q,ps⟩ sD okD:=
 JR.bind (g:=fun a l=>(jW 1 l).bind fun b=>(jb b.2).bind fun c=>(gP c.2).bind fun d=>some ((⟨a,bW b.1,c.1,d.1⟩:dI),d.2)) q1
  (JR.bind (g:=fun b l=>(jb l).bind fun c=>(gP c.2).bind fun d=>some ((⟨n,bW b,c.1,d.1⟩:dI),d.2)) q2
    (JR.bind (g:=fun c l=>(gP l).bind fun d=>some ((⟨n,bW nb,c,d.1⟩:dI),d.2)) q3 (q4.map fun d=>(⟨n,bW nb,q,d⟩:dI))))
theorem AM {so sA sB sC sD:Option (List UInt8)} {ok okA nt okC okD:Bool} {ds:List bV} {nb:Nat} {ls:List dI} {ps:List cg} (q1:JR (ov 2048 oh) so ok ds sA okA) (q2:JR (jW 1) sA okA nb sB nt) (q3:JR (ov 1073741824 EI) sB nt ls sC okC) (q4:JR gP sC okC ps sD okD):JR Gs so ok ⟨ds,.mk ls lq [] (bW nb) ps⟩ sD okD:=
 JR.bind (g:=fun a l=>(jW 1 l).bind fun b=>(ov 1073741824 EI b.2).bind fun c=>(gP c.2).bind fun d=>some ((⟨a,.mk c.1 lq [] (bW b.1) d.1⟩:bR),d.2)) q1
  (JR.bind (g:=fun b l=>(ov 1073741824 EI l).bind fun c=>(gP c.2).bind fun d=>some ((⟨ds,.mk c.1 lq [] (bW b) d.1⟩:bR),d.2)) q2
    (JR.bind (g:=fun c l=>(gP l).bind fun d=>some ((⟨ds,.mk c lq [] (bW nb) d.1⟩:bR),d.2)) q3 (q4.map fun d=>(⟨ds,.mk ls lq [] (bW nb) d⟩:bR))))
theorem vm {P:Program} {w:World} {t:TypeId} {x y:Operand} {n:Nat} (hn:n≤1):(bin .eql t x y (bI (UInt64.ofNat n)) (bI 1)).run P w=.ok (B (bW n)) w:=by
 rcases(by omega:n=0∨n=1) with rfl|rfl<;>exact gI
def AN (h g g3:Nat):Nat→Prop:=fun k=>lS h g k∨k=g3
theorem Jw {w:World} {h g:Nat} {st:Option (List UInt8)} {ok:Bool} (hm:jQ h g st ok w) (hl:iL st):
 Calls Tryz.prog 91 #[.pointer (some ⟨h,0,none⟩)] w (bE fun r w'=>Mv (lS h g) w w'∧∃u cs s1 ok1,r=.agg cs.toArray∧cL (fun k=>k<w.heap.size) w' (i0 u) cs∧aw cs∧jQ h g s1 ok1 w'∧JR Gs st ok u s1 ok1):=by
 refine enter (vs:=[.pointer (some ⟨h,0,none⟩)]) Tryz.func91 E E E ?_
 have hlt:=hm.blk.lt
 have hgh:=hm.lt
 have hX:∀k,lS h g k→k<w.heap.size:=fun k hk=>by rcases hk with rfl|rfl<;>omega
 obtain⟨N,s0,ok0,qU,hN,aU,cU⟩:=pp st ok (most:=2048) (by omega)
 refine af (aa ?_)
 obtain⟨g2,w2,hr2,l2,x2,k2⟩:=aX (P:=Tryz.prog) (w:=w) (t:=54) (z:=.agg #[.slice none 0 0,.slice none 0 0,I 0,I 0,B false,.slice none 0 0,.slice none 0 0,.slice none 0 0,B false,.slice none 0 0]) (l:=[.slice none 0 0,.slice none 0 0,I 0,I 0,B false,.slice none 0 0,.slice none 0 0,.slice none 0 0,B false,.slice none 0 0]) (by kernel_rfl) rfl
 refine aV E hr2 (ag (ab (af (aa ?_))))
 obtain⟨g3,w3,hr3,l3,x3,k3⟩:=aX (P:=Tryz.prog) (w:=w2) (t:=54) (z:=.agg #[.slice none 0 0,.slice none 0 0,I 0,I 0,B false,.slice none 0 0,.slice none 0 0,.slice none 0 0,B false,.slice none 0 0]) (l:=[.slice none 0 0,.slice none 0 0,I 0,I 0,B false,.slice none 0 0,.slice none 0 0,.slice none 0 0,B false,.slice none 0 0]) (by kernel_rfl) rfl
 refine aV E hr3 ?_
 have e3:=(x2.trans x3)
 have hm3:=hm.ext e3
 have k23:=k2.ext x3
 have g23:g2<g3:=by have:=k2.lt;omega
 have g3lt:=k3.lt
 have sz3:=e3.size
 have hX3:∀k,lS h g k→k<g3:=fun k hk=>by have:=hX k hk;have:=x2.size;omega
 refine ag (ab (af (af (aa (ae E E (an lE E E ((cU hm3)) ?_))))))
 rintro v8 w8 ⟨m8,rfl,hm8⟩
 have m8:=m8
 refine ac E E (ag (ab (aH ?_)))
 refine rZ (fun(k:Nat) (vd:Value) (so:Option (List UInt8)) (oko:Bool) (ds:List bV)=>[(0,.pointer (some ⟨h,0,none⟩)),(2,.pointer (some ⟨g2,0,none⟩)),(3,.pointer (some ⟨g3,0,none⟩)),(4,bI (UInt64.ofNat k))]) (fun(k:Nat) (vd:Value) (so:Option (List UInt8)) (oko:Bool) (ds:List bV) w'=>Mv (AN h g g3) w3 w'∧jQ h g so oko w'∧cr g3 54 (vd::Cj) w'∧f9 48 5 w3.heap.size dm ds vd w'∧FL oh ok (st.bind (ov 2048 oh)) so oko k ds∧k+ds.length≤2048∧∀j,tL j st→tL j so) (fun(k:Nat) (vd:Value) (so:Option (List UInt8)) (oko:Bool) (ds:List bV)=>k) (N) (.slice none 0 0) (s0) (ok0) ([]) ⟨rfl,rfl,rfl,rfl,trivial⟩ ⟨m8.weak fun _ hk _=>.inl hk,hm8,m8.blk k3 (fun hk=>by have:=hX3 _ hk;omega),f9.nil _,FL.start qU,by simpa using hN,aU⟩ ?_
 rintro k vd so oko ds wL ⟨mL,hmL,kL,oL,hF,hk,aL⟩
 refine af (af ?_)
 have szL:=mL.size
 have hvd:vd.oneCell'=true:=by obtain⟨_,_,_,rfl⟩:=oL.isS;rfl
 have k2L:=mL.blk k23 (fun hk=>hk.elim (fun hk=>by rcases hk with rfl|rfl<;>omega) (fun hk=>by omega))
 rcases Nat.eq_zero_or_pos k with h0|h0
 rotate_left
 rcases oko with _|_
 rotate_left
 ·refine aa (ae E E (al (v:=bI 0) E E E (cw ((im (by omega)).2 h0) cO) (ae E E (ai E (ae E E (ai E (ay E E ?_)))))))
  refine ai E (ah E E (ar (o:=1) Ml E (by kernel_rfl) E) (ai E (ak E E (aj Me E (hmL.blk.cell (i:=1) E)) ?_)))
  refine ap E E E (ag (ab (bf E (aC (ab (af (aH ?_)))))))
  obtain⟨k',rfl⟩:∃k',k=k'+1:=⟨k-1,by omega⟩
  obtain⟨n1,sA,okA,q1,i1,a1,c1⟩:=pq so true
  obtain⟨n2,sB,nt,q2,i2,a2,c2⟩:=pq sA okA
  obtain⟨q,sC,okC,q3,a3,c3⟩:=AL sB nt (a2 _ (a1 _ (aL _ hl)))
  have qM:=K4 q1 q2 q3
  have hXL:∀k,lS h g k→k<wL.heap.size:=fun k hk=>by have:=hX k hk;omega
  refine rS 10 [0,2,3,4,20,28] (Mv (lS h g) wL) (Mv (lS h g)) true Kg (jQ h g so true) (kD.mv _ _) (Mv.refl _ _) jQ.stableZ hmL (fun _ _ _ _ h=>h.elim) (fun _=>by kernel_rfl) (by kernel_rfl) (by kernel_rfl) ?_
  refine aW E E (fun w hw=>ar (o:=0) L8 E (by kernel_rfl) E) (aO E E (fun w hw=>aj Mg E ((hw.blk kL (fun hk=>by have:=hX3 _ hk;omega)).cell (i:=0) E)) ?_)
  refine aD rfl rfl (uS (S:=Is (I n1)) (Z':=jQ h g sA okA) lF rfl (cd.is _) (jQ.stableZ) rfl (fun w hw hz=>by rintro _ rfl;exact(c1 hz).mono fun _ _ ⟨r,he,h1,h2,h3⟩=>.inl ⟨r,he,h1,h2,h3⟩) ?_)
  refine aD rfl rfl (uS (S:=Is (I n2)) (Z':=jQ h g sB nt) lF rfl (cd.is _) (jQ.stableZ) rfl (fun w hw hz=>by rintro _ rfl;exact(c2 hz).mono fun _ _ ⟨r,he,h1,h2,h3⟩=>.inl ⟨r,he,h1,h2,h3⟩) ?_)
  refine aD rfl rfl (uS (S:=wT wL.heap.size q) (Z':=jQ h g sC okC) vi rfl (wT.stableX hXL) (jQ.stableZ) rfl (fun w hw hz=>by rintro _ rfl;exact(c3 hz).mono fun _ _ ⟨r,he,h1,h2,h3⟩=>.inl ⟨r,he,h1,h2.up hw.size,h3⟩) ?_)
  refine uR (S:=fun v w'=>∃x y,v=.agg #[I n1,I n2,B q.1,x,y]∧cL (fun k=>k<wL.heap.size) w' (iX q) [B q.1,x,y]) (fun _ _ _ ⟨x,y,h,h2⟩ hm=>⟨x,y,h,h2.mv (hm.weak fun j hj _=>hXL j hj) fun _ hk=>.inl hk⟩) E (fun w' hw=>by
 rintro _ rfl _ rfl _ ⟨x,y,rfl,h⟩
 exact⟨_,w',run_build _ _ _ _ (by kernel_rfl),aN.refl _,x,y,rfl,h⟩) ?_
  refine fR (S:=wU wL.heap.size 5 dm [⟨n1,n2,q⟩]) (wU.stableX hXL) E (fun w' hw=>by
 rintro _ ⟨x,y,rfl,h⟩
 exact HI (cs:=[I n1,I n2,B q.1,x,y]) Mg pg rfl (by omega) (by omega) hw.size (aw.cons rfl (aw.cons rfl (aw.cons rfl (aw.cons (ku h).1 (aw.cons (ku h).2 aw.nil))))) (wO (d:=⟨n1,n2,q⟩) h) (ci _)) ?_
  refine cq ?_
  intro wg5 xg5 zg5
  rintro _ rfl
  rintro _ rfl
  rintro _ rfl
  rintro _ rfl
  rintro _ hq20
  obtain rfl:=Eq.symm hq20
  intro vg28 b28
  obtain⟨cs,hcs,hown,h1cs,hall⟩:=b28
  have oG:=oL.mv xg5 fun k hk=>by have:=hX k hk;omega
  have own:∀j,vd.ownBlock=some j→w3.heap.size≤j∧j<wL.heap.size:=oL.lt
  have hM:=(aT.one hall).weak (Y:=fun k=>k<w3.heap.size∨vd.ownBlock=some k) fun j hj=>.inl (by
   rcases hj with hj|hj
   ·show j<wL.heap.size;omega
   ·have:=(own j hj).2;show j<wL.heap.size;omega)
  obtain⟨v29,w29,hr29,o29,g29⟩:=oG.app (t:=41) (ty:=41) Mg pg rfl (by omega) (by omega) hcs h1cs hM ci (by omega) (Nat.le_trans szL xg5.size)
  have m29:Mv (fun k=>vd.ownBlock=some k) wg5 w29:=Mv.of_grown g29.grown fun k hk _=>hk
  have h29:jQ h g sC okC w29:=zg5.mv m29 fun j hj=>by have:=own j hj;omega
  have k29:=m29.blk (xg5.blk kL (fun hk=>by have:=hX3 _ hk;omega)) (fun e=>by have:=own g3 e;omega)
  have hv29:v29.oneCell'=true:=by obtain⟨_,_,_,rfl⟩:=o29.isS;rfl
  obtain⟨wz,sz,qz,kz⟩:=k29.stC (P:=Tryz.prog) (t:=41) (i:=0) (v:=v29) (by kernel_rfl) hv29 (by simp)
  have mz:Mv (fun k=>k=g3) w29 wz:=Mv.of_grown qz fun k hk _=>(Option.some.inj hk).symm
  refine ba E E hr29 ?_
  refine ah E E (ar (o:=0) L8 E (by kernel_rfl) E) ?_
  refine aq E E sz ?_
  refine ag (aS (ab (aa (ae E E (al (v:=bI 1) (r:=bI (UInt64.ofNat k')) E E E ((by rw[←vj (k:=k') (by omega)];exact dQ)) ?_)))))
  refine ac E E (ag ?_)
  refine oB (k') (v29) (sC) (okC) (ds++[⟨n1,n2,q⟩]) ⟨rfl,rfl,rfl,rfl,trivial⟩ ⟨((mL.trans (xg5.weak fun j hj _=>.inl hj) fun _ hj _=>hj).trans m29 fun j hj hlt=>by have:=(own j hj).1;omega).trans (mz.weak fun j hj _=>.inr hj) fun _ hj _=>hj,h29.mv mz fun j hj=>by have:=hX3 h (.inl E);omega,kz,o29.mv mz (fun j hj=>by omega),hF.step qM,by simp;omega,fun j hj=>a3 _ (a2 _ (a1 _ (aL _ hj)))⟩ (by omega)
 ·have hJ:=hF.jr (fun _=>h0)
  have hmL':=hmL
  refine aa (ae E E (al (v:=bI 0) E E E (cW (mt (im (by omega)).1 (by omega)) cO) (ae E E (ao E E E (ao E E E ?_)))))
  refine ao E E E (ao E E E (aE E E E (ag (ab (cp E (bg (aJ (aJ (bh (ab (af ?_)))))))))))
  obtain⟨nb,s5,ok5,qB,hB1,aB,cB⟩:=pp so oko (most:=1) (by omega)
  obtain⟨N2,s6,ok6,qU2,hN2,aU2,cU2⟩:=pp s5 ok5 (most:=1073741824) (by omega)
  refine aa (ae E E (an lE E E ((cB hmL')) ?_))
  rintro v32 w32 ⟨m32,rfl,hm32⟩
  have m32:=m32
  have k32:=m32.blk kL (fun hk=>by have:=hX3 _ hk;omega)
  obtain⟨wb,sb,qb,kb⟩:=k32.stC (P:=Tryz.prog) (t:=4) (i:=8) (v:=B (bW nb)) nS rfl (by simp)
  have mb:Mv (fun k=>k=g3) w32 wb:=Mv.of_grown qb fun k hk _=>(Option.some.inj hk).symm
  have hmb:=hm32.mv mb fun j hj=>by have:=hX3 h (.inl rfl);omega
  have mLb:Mv (AN h g g3) wL wb:=(m32.weak fun j hj _=>.inl hj).trans (mb.weak fun j hj _=>.inr hj) fun _ hj _=>hj
  have hJX:∀k,AN h g g3 k→k≤g3:=fun k hk=>hk.elim (fun hk=>by have:=hX3 k hk;omega) (fun hk=>by omega)
  have oDb:=oL.mv mLb fun k hk=>by have:=hJX k hk;omega
  have k2b:=mLb.blk k2L (fun hk=>hk.elim (fun hk=>by rcases hk with rfl|rfl<;>omega) (fun hk=>by omega))
  have kb:cr g3 54 [vd,.slice none 0 0,I 0,I 0,B false,.slice none 0 0,.slice none 0 0,.slice none 0 0,B (bW nb),.slice none 0 0] wb:=kb
  refine al (v:=bI 1) (r:=B (bW nb)) E E E ((vm hB1)) ?_
  refine ah E E (ar (o:=1) L8 E (by kernel_rfl) E) ?_
  refine ah E E (cK (b:=1) (o:=7) L6 E (by kernel_rfl) E) ?_
  refine aq E E sb ?_
  refine ag (ab (af (af (aa (ae E E (an lE E E ((cU2 hmb)) ?_))))))
  rintro v37 w37 ⟨m37,rfl,hm37⟩
  have m37:=m37
  have k37:=m37.blk kb (fun hk=>by have:=hX3 _ hk;omega)
  have k2c:=m37.blk k2b (by rintro(rfl|rfl)<;>omega)
  have oDc:=oDb.mv m37 fun k hk=>by have:=hX k hk;omega
  have szb:=mLb.size
  have sz37:=m37.size
  refine ac E E (ag (ab (aH ?_)))
  refine rZ (fun(k2:Nat) (vl:Value) (so2:Option (List UInt8)) (oko2:Bool) (ls:List dI)=>[(0,.pointer (some ⟨h,0,none⟩)),(2,.pointer (some ⟨g2,0,none⟩)),(3,.pointer (some ⟨g3,0,none⟩)),(5,bI (UInt64.ofNat k2))]) (fun(k2:Nat) (vl:Value) (so2:Option (List UInt8)) (oko2:Bool) (ls:List dI) w'=>Mv (AN h g g3) w37 w'∧jQ h g so2 oko2 w'∧cr g3 54 [vd,vl,I 0,I 0,B false,.slice none 0 0,.slice none 0 0,.slice none 0 0,B (bW nb),.slice none 0 0] w'∧f9 173 6 w37.heap.size cV ls vl w'∧FL EI ok5 (s5.bind (ov 1073741824 EI)) so2 oko2 k2 ls∧k2+ls.length≤1073741824∧∀j,tL j st→tL j so2) (fun(k2:Nat) (vl:Value) (so2:Option (List UInt8)) (oko2:Bool) (ls:List dI)=>k2) (N2) (.slice none 0 0) (s6) (ok6) ([]) ⟨rfl,rfl,rfl,rfl,trivial⟩ ⟨Mv.refl _ _,hm37,k37,f9.nil _,FL.start qU2,by simpa using hN2,fun j hj=>aU2 _ (aB _ (aL _ hj))⟩ ?_
  rintro k2 vl so2 oko2 ls wM ⟨mM,hmM,kM,oM,hF2,hk2,aM⟩
  refine af (af ?_)
  have szM:=mM.size
  have hvl:vl.oneCell'=true:=by obtain⟨_,_,_,rfl⟩:=oM.isS;rfl
  have k2M:=mM.blk k2c (fun hk=>hk.elim (fun hk=>by rcases hk with rfl|rfl<;>omega) (fun hk=>by omega))
  have oDM:=oDc.mv mM fun k hk=>by have:=hJX k hk;omega
  rcases Nat.eq_zero_or_pos k2 with h0'|h0'
  rotate_left
  rcases oko2 with _|_
  rotate_left
  ·refine aa (ae E E (al (v:=bI 0) E E E (cw ((im (by omega)).2 h0') cO) (ae E E (ai E (ae E E (ai E (ay E E ?_)))))))
   refine ai E (ah E E (ar (o:=1) Ml E (by kernel_rfl) E) (ai E (ak E E (aj Me E (hmM.blk.cell (i:=1) E)) ?_)))
   refine ap E E E (ag (ab (bf E (aC (ab (af (aH (af ?_))))))))
   obtain⟨k',rfl⟩:∃k',k2=k'+1:=⟨k2-1,by omega⟩
   obtain⟨n1,sA,okA,q1,i1,a1,c1⟩:=pq so2 true
   obtain⟨nc,sB,nt,q2,hc1,a2,c2⟩:=pp sA okA (most:=1) (by omega)
   obtain⟨q,sC,okC,q3,a3,c3⟩:=AL sB nt (a2 _ (a1 _ (aM _ hl)))
   refine aa (ae E E (an lF E E ((c1 hmM)) ?_))
   rintro v49 w49 ⟨m49,rfl,hm49⟩
   have m49:=m49
   refine ae E E (an lE E E ((c2 hm49)) ?_)
   rintro v51 w51 ⟨m51,rfl,hm51⟩
   have m51:=m51
   refine al (v:=bI 1) (r:=B (bW nc)) E E E ((vm hc1)) (ae E E (an vi E E ((c3 hm51)) ?_))
   rintro v54 w54 ⟨m54,⟨x,y,rfl,rq⟩,hm54⟩
   have m54:=m54
   have m3:Mv (lS h g) wM w54:=(m49.trans m51 fun _ hj _=>hj).trans m54 fun _ hj _=>hj
   have hxy:=ku rq
   refine bC (vs:=[(0,I n1),(1,B (bW nc)),(2,.agg #[B q.1,x,y])]) (r:=.agg #[I n1,B (bW nc),B q.1,x,y,.slice none 0 0]) E E (run_build _ _ _ _ (by kernel_rfl)) ?_
   obtain⟨g6,w6,hr6,l6,x6,k6⟩:=aX (P:=Tryz.prog) (w:=w54) (t:=173) (z:=.agg #[I 0,B false,B false,.slice none 0 0,.slice none 0 0,.slice none 0 0]) (l:=[I 0,B false,B false,.slice none 0 0,.slice none 0 0,.slice none 0 0]) (by kernel_rfl) rfl
   refine aV E hr6 ?_
   obtain⟨wd,sd,qd,kd⟩:=k6.stS (P:=Tryz.prog) (t:=173) (m:=[I n1,B (bW nc),B q.1,x,y,.slice none 0 0]) rfl (by kernel_rfl) (aw.cons rfl (aw.cons rfl (aw.cons rfl (aw.cons hxy.1 (aw.cons hxy.2 (aw.cons rfl aw.nil))))))
   refine aq E E sd ?_
   have xd:=aN.of_new x6 qd l6
   have hmd:=hm54.ext xd
   have mMd:Mv (lS h g) wM wd:=m3.trans (Mv.of_ext xd) fun _ hj _=>hj
   have g6M:wM.heap.size≤g6:=by have:=m3.size;omega
   refine ag (ab (af (aa (ae E E (an p9 E E ((qa hmd (a3 _ (a2 _ (a1 _ (aM _ hl)))))) ?_)))))
   rintro v57 w57 ⟨m57,ps,s4,ok4,rp57,h1p,hm57,q4,a4⟩
   have m57:=m57
   have qM:=It q1 q2 q3 q4
   have k6a:=m57.blk kd (fun hk=>by have:=hX _ hk;omega)
   obtain⟨we,se,qe,ke⟩:=k6a.stC (P:=Tryz.prog) (t:=50) (i:=5) (v:=v57) (by kernel_rfl) h1p (by simp)
   have me:Mv (fun k=>k=g6) w57 we:=Mv.of_grown qe fun k hk _=>(Option.some.inj hk).symm
   have ke:cr g6 173 [I n1,B (bW nc),B q.1,x,y,v57] we:=ke
   have hme:=hm57.mv me fun j hj=>by omega
   have mMe:Mv (lS h g) wM we:=(mMd.trans m57 fun _ hj _=>hj).trans me fun j hj hlt=>by omega
   have k3e:=mMe.blk kM (fun hk=>by have:=hX3 _ hk;omega)
   have oMe:=oM.mv mMe fun k hk=>by have:=hX k hk;omega
   have own:∀j,vl.ownBlock=some j→w37.heap.size≤j∧j<wM.heap.size:=oM.lt
   have szd:=mMd.size
   have sz54:=m51.size
   have sz49:=m49.size
   have g6d:g6<wd.heap.size:=kd.lt
   have rq0:=(rq.weak (Y:=fun k=>k<wM.heap.size∨k=g6) fun j hj=>hj.elim (fun hj=>.inl (by show j<w51.heap.size;omega)) (fun hj=>.inr (by omega))).ext xd
   have rqe:cL (fun k=>k<wM.heap.size) we (iX q) [B q.1,x,y]:=(((rq0.mv (m57.weak fun j hj _=>.inl (by have:=hX j hj;omega)) fun _ hj=>.inl hj).mv (me.weak fun j hj _=>.inr hj) fun _ hj=>.inl hj).weak fun _ hj=>.inl (.inl hj))
   have rpe:cL (fun k=>k<wM.heap.size) we (gV ps) [v57]:=(rp57.mv (me.weak fun j hj _=>by show j<wd.heap.size;omega) fun _ hj=>.inl hj).weak fun j hj=>.inl (by show j<wd.heap.size;omega)
   have h1L:aw [I n1,B (bW nc),B q.1,x,y,v57]:=aw.cons rfl (aw.cons rfl (aw.cons rfl (aw.cons hxy.1 (aw.cons hxy.2 (aw.cons h1p aw.nil)))))
   obtain⟨x63,w63,v64,w64,hr63,hr64,o64,m64,n64⟩:=oMe.push (ty:=42) (t:=42) Mi wQ rfl (by omega) (by omega) (by omega) h1L ((wS (l:=⟨n1,bW nc,q,ps⟩) rqe rpe).weak fun j hj=>.inl (by
    rcases hj with hj|hj
    ·show j<wM.heap.size;omega
    ·have:=(own j hj).2;show j<wM.heap.size;omega)) cG (by omega) (Nat.le_trans szM mMe.size)
   have k3f:=m64.blk k3e (fun e=>by have:=own g3 e;omega)
   have hv64:v64.oneCell'=true:=by obtain⟨_,_,_,rfl⟩:=o64.isS;rfl
   obtain⟨wz,sz,qz,kz⟩:=k3f.stC (P:=Tryz.prog) (t:=42) (i:=1) (v:=v64) (by kernel_rfl) hv64 (by simp)
   have mz:Mv (fun k=>k=g3) w64 wz:=Mv.of_grown qz fun k hk _=>(Option.some.inj hk).symm
   refine ah E E (ar (o:=5) Mk E (by kernel_rfl) E) ?_
   refine aq E E se ?_
   refine ag (ab (aa ?_))
   refine ah E E (ar (o:=1) L8 E (by kernel_rfl) E) ?_
   refine ah E E (cK (b:=1) (o:=0) L6 E (by kernel_rfl) E) ?_
   refine ak E E (aj Mi E (k3e.cell (i:=1) E)) ?_
   refine ak E E (ke.ld Mk E (by kernel_rfl)) ?_
   refine aK (vs:=[(0,.agg #[I n1,B (bW nc),B q.1,x,y,v57])]) E E hr63 ?_
   refine ba E E hr64 ?_
   refine ah E E (ar (o:=1) L8 E (by kernel_rfl) E) ?_
   refine ah E E (cK (b:=1) (o:=0) L6 E (by kernel_rfl) E) ?_
   refine aq E E sz ?_
   refine ag (aS (ab (aa (ae E E (al (v:=bI 1) (r:=bI (UInt64.ofNat k')) E E E ((by rw[←vj (k:=k') (by omega)];exact dQ)) ?_)))))
   refine ac E E (ag ?_)
   refine oB (k') (v64) (s4) (ok4) (ls++[⟨n1,bW nc,q,ps⟩]) ⟨rfl,rfl,rfl,rfl,trivial⟩ ⟨((mM.trans (mMe.weak fun j hj _=>.inl hj) fun _ hj _=>hj).trans m64 fun j hj hlt=>by have:=(own j hj).1;omega).trans (mz.weak fun j hj _=>.inr hj) fun _ hj _=>hj,(hme.mv m64 fun j hj=>by have:=own j hj;omega).mv mz fun j hj=>by have:=hX3 h (.inl E);omega,kz,o64.mv mz (fun j hj=>by omega),hF2.step qM,by simp;omega,fun j hj=>a4 _ (a3 _ (a2 _ (a1 _ (aM _ hj))))⟩ (by omega)
  ·have hJ2:=hF2.jr (fun _=>h0')
   have hmM':=hmM
   refine aa (ae E E (al (v:=bI 0) E E E (cW (mt (im (by omega)).1 (by omega)) cO) (ae E E (ao E E E (ao E E E ?_)))))
   refine ao E E E (ao E E E (aE E E E (ag (ab (cp E (bg (aJ (aJ (bh (ab (af (aa (ae E E (an p9 E E ((qa hmM' (aM _ hl))) ?_))))))))))))))
   rintro v68 w68 ⟨m68,ps,s7,ok7,rp68,h1p,hm68,q7,a7⟩
   have m68:=m68
   have k68:=m68.blk kM (fun hk=>by have:=hX3 _ hk;omega)
   obtain⟨wy,sy,qy,ky⟩:=k68.stC (P:=Tryz.prog) (t:=50) (i:=9) (v:=v68) (by kernel_rfl) h1p (by simp)
   have my:Mv (fun k=>k=g3) w68 wy:=Mv.of_grown qy fun k hk _=>(Option.some.inj hk).symm
   have ky:cr g3 54 [vd,vl,I 0,I 0,B false,.slice none 0 0,.slice none 0 0,.slice none 0 0,B (bW nb),v68] wy:=ky
   have hO:aw [vd,vl,I 0,I 0,B false,.slice none 0 0,.slice none 0 0,.slice none 0 0,B (bW nb),v68]:=aw.cons hvd (aw.cons hvl (aw.cons rfl (aw.cons rfl (aw.cons rfl (aw.cons rfl (aw.cons rfl (aw.cons rfl (aw.cons rfl (aw.cons h1p aw.nil)))))))))
   have mMy:Mv (AN h g g3) wM wy:=(m68.weak fun j hj _=>.inl hj).trans (my.weak fun j hj _=>.inr hj) fun _ hj _=>hj
   have k2y:=mMy.blk k2M (fun hk=>hk.elim (fun hk=>by rcases hk with rfl|rfl<;>omega) (fun hk=>by omega))
   obtain⟨wR,sR,qR,kR⟩:=k2y.stS (P:=Tryz.prog) (t:=54) (m:=[vd,vl,I 0,I 0,B false,.slice none 0 0,.slice none 0 0,.slice none 0 0,B (bW nb),v68]) rfl (by kernel_rfl) hO
   have mR:Mv (fun k=>k=g2) wy wR:=Mv.of_grown qR fun k hk _=>(Option.some.inj hk).symm
   have mw3:Mv (fun k=>AN h g g3 k∨k=g2) w3 wR:=(((((mL.trans mLb fun _ hj _=>hj).trans (m37.weak fun j hj _=>(.inl hj:AN h g g3 j)) fun _ hj _=>hj).trans mM fun _ hj _=>hj).trans mMy fun _ hj _=>hj).weak fun j hj _=>.inl hj).trans (mR.weak fun j hj _=>.inr hj) fun _ hj _=>hj
   have hfin:Mv (lS h g) w wR:=(Mv.of_ext e3).trans mw3 fun j hj hlt=>by
    rcases hj with(hj|hj)|hj
    ·exact hj
    ·omega
    ·omega
   have oDR:=(oDM.mv mMy fun k hk=>by have:=hJX k hk;omega).mv mR fun k hk=>by omega
   have oMR:=(oM.mv mMy fun k hk=>by have:=hJX k hk;omega).mv mR fun k hk=>by omega
   have rpR:cL (fun k=>k<w.heap.size) wR (gV ps) [v68]:=((rp68.mv (my.weak fun j hj _=>by show j<wM.heap.size;omega) fun _ hj=>.inl hj).mv (mR.weak fun j hj _=>by show j<wM.heap.size;omega) fun _ hj=>.inl hj).weak fun j hj=>.inl (by show j<wM.heap.size;omega)
   have hrp:=i5 (u:=⟨ds,.mk ls lq [] (bW nb) ps⟩) ((oDR.rpx ci (by omega)).weak (Y:=fun k=>k<w.heap.size) fun j hj=>.inl (by show j<w3.heap.size;omega)) (er (ls:=ls) (d:=lq) (ks:=[]) (em:=bW nb) (ps:=ps) ((oMR.rpx cG (by omega)).weak (Y:=fun k=>k<w.heap.size) fun j hj=>.inl (by show j<w37.heap.size;omega)) jz jT rpR)
   refine ah E E (ar (o:=1) L8 E (by kernel_rfl) E) ?_
   refine ah E E (cK (b:=1) (o:=8) L6 E (by kernel_rfl) E) ?_
   refine aq E E sy ?_
   refine ag (ab (af (aa ?_)))
   refine ak E E (ky.ld L8 E (by kernel_rfl)) ?_
   refine aq E E sR ?_
   refine ag (ab (au ?_))
   refine dv E E kR L8 E (by kernel_rfl) ?_
   exact⟨_,rfl,hfin,⟨ds,.mk ls lq [] (bW nb) ps⟩,_,s7,ok7,rfl,hrp,hO,(hm68.mv my fun j hj=>by have:=hX3 h (.inl rfl);omega).mv mR fun j hj=>by omega,AM hJ qB hJ2 q7⟩
  ·obtain⟨oko2,ho2⟩:∃o:Bool,o=false:=⟨_,rfl⟩
   have hJ2:=hF2.jr (fun hk=>by cases hk)
   have hmM':=hmM
   rw[←ho2] at hJ2 hmM'
   refine aa (ae E E (al (v:=bI 0) E E E (cw ((im (by omega)).2 h0') cO) (ae E E (ai E (ae E E (ai E (ay E E ?_)))))))
   refine ai E (ah E E (ar (o:=1) Ml E (by kernel_rfl) E) (ai E (ak E E (aj Me E (hmM.blk.cell (i:=1) E)) ?_)))
   refine ap E E E (ag (ab (cp E (bg (aJ (aJ (bh (ab (af (aa (ae E E (an p9 E E ((qa hmM' (aM _ hl))) ?_))))))))))))
   rintro v68 w68 ⟨m68,ps,s7,ok7,rp68,h1p,hm68,q7,a7⟩
   have m68:=m68
   have k68:=m68.blk kM (fun hk=>by have:=hX3 _ hk;omega)
   obtain⟨wy,sy,qy,ky⟩:=k68.stC (P:=Tryz.prog) (t:=50) (i:=9) (v:=v68) (by kernel_rfl) h1p (by simp)
   have my:Mv (fun k=>k=g3) w68 wy:=Mv.of_grown qy fun k hk _=>(Option.some.inj hk).symm
   have ky:cr g3 54 [vd,vl,I 0,I 0,B false,.slice none 0 0,.slice none 0 0,.slice none 0 0,B (bW nb),v68] wy:=ky
   have hO:aw [vd,vl,I 0,I 0,B false,.slice none 0 0,.slice none 0 0,.slice none 0 0,B (bW nb),v68]:=aw.cons hvd (aw.cons hvl (aw.cons rfl (aw.cons rfl (aw.cons rfl (aw.cons rfl (aw.cons rfl (aw.cons rfl (aw.cons rfl (aw.cons h1p aw.nil)))))))))
   have mMy:Mv (AN h g g3) wM wy:=(m68.weak fun j hj _=>.inl hj).trans (my.weak fun j hj _=>.inr hj) fun _ hj _=>hj
   have k2y:=mMy.blk k2M (fun hk=>hk.elim (fun hk=>by rcases hk with rfl|rfl<;>omega) (fun hk=>by omega))
   obtain⟨wR,sR,qR,kR⟩:=k2y.stS (P:=Tryz.prog) (t:=54) (m:=[vd,vl,I 0,I 0,B false,.slice none 0 0,.slice none 0 0,.slice none 0 0,B (bW nb),v68]) rfl (by kernel_rfl) hO
   have mR:Mv (fun k=>k=g2) wy wR:=Mv.of_grown qR fun k hk _=>(Option.some.inj hk).symm
   have mw3:Mv (fun k=>AN h g g3 k∨k=g2) w3 wR:=(((((mL.trans mLb fun _ hj _=>hj).trans (m37.weak fun j hj _=>(.inl hj:AN h g g3 j)) fun _ hj _=>hj).trans mM fun _ hj _=>hj).trans mMy fun _ hj _=>hj).weak fun j hj _=>.inl hj).trans (mR.weak fun j hj _=>.inr hj) fun _ hj _=>hj
   have hfin:Mv (lS h g) w wR:=(Mv.of_ext e3).trans mw3 fun j hj hlt=>by
    rcases hj with(hj|hj)|hj
    ·exact hj
    ·omega
    ·omega
   have oDR:=(oDM.mv mMy fun k hk=>by have:=hJX k hk;omega).mv mR fun k hk=>by omega
   have oMR:=(oM.mv mMy fun k hk=>by have:=hJX k hk;omega).mv mR fun k hk=>by omega
   have rpR:cL (fun k=>k<w.heap.size) wR (gV ps) [v68]:=((rp68.mv (my.weak fun j hj _=>by show j<wM.heap.size;omega) fun _ hj=>.inl hj).mv (mR.weak fun j hj _=>by show j<wM.heap.size;omega) fun _ hj=>.inl hj).weak fun j hj=>.inl (by show j<wM.heap.size;omega)
   have hrp:=i5 (u:=⟨ds,.mk ls lq [] (bW nb) ps⟩) ((oDR.rpx ci (by omega)).weak (Y:=fun k=>k<w.heap.size) fun j hj=>.inl (by show j<w3.heap.size;omega)) (er (ls:=ls) (d:=lq) (ks:=[]) (em:=bW nb) (ps:=ps) ((oMR.rpx cG (by omega)).weak (Y:=fun k=>k<w.heap.size) fun j hj=>.inl (by show j<w37.heap.size;omega)) jz jT rpR)
   refine ah E E (ar (o:=1) L8 E (by kernel_rfl) E) ?_
   refine ah E E (cK (b:=1) (o:=8) L6 E (by kernel_rfl) E) ?_
   refine aq E E sy ?_
   refine ag (ab (af (aa ?_)))
   refine ak E E (ky.ld L8 E (by kernel_rfl)) ?_
   refine aq E E sR ?_
   refine ag (ab (au ?_))
   refine dv E E kR L8 E (by kernel_rfl) ?_
   exact⟨_,rfl,hfin,⟨ds,.mk ls lq [] (bW nb) ps⟩,_,s7,ok7,rfl,hrp,hO,(hm68.mv my fun j hj=>by have:=hX3 h (.inl rfl);omega).mv mR fun j hj=>by omega,AM hJ qB hJ2 q7⟩
 ·obtain⟨oko,ho⟩:∃o:Bool,o=false:=⟨_,rfl⟩
  have hJ:=hF.jr (fun hk=>by cases hk)
  have hmL':=hmL
  rw[←ho] at hJ hmL'
  refine aa (ae E E (al (v:=bI 0) E E E (cw ((im (by omega)).2 h0) cO) (ae E E (ai E (ae E E (ai E (ay E E ?_)))))))
  refine ai E (ah E E (ar (o:=1) Ml E (by kernel_rfl) E) (ai E (ak E E (aj Me E (hmL.blk.cell (i:=1) E)) ?_)))
  refine ap E E E (ag (ab (cp E (bg (aJ (aJ (bh (ab (af ?_)))))))))
  obtain⟨nb,s5,ok5,qB,hB1,aB,cB⟩:=pp so oko (most:=1) (by omega)
  obtain⟨N2,s6,ok6,qU2,hN2,aU2,cU2⟩:=pp s5 ok5 (most:=1073741824) (by omega)
  refine aa (ae E E (an lE E E ((cB hmL')) ?_))
  rintro v32 w32 ⟨m32,rfl,hm32⟩
  have m32:=m32
  have k32:=m32.blk kL (fun hk=>by have:=hX3 _ hk;omega)
  obtain⟨wb,sb,qb,kb⟩:=k32.stC (P:=Tryz.prog) (t:=4) (i:=8) (v:=B (bW nb)) nS rfl (by simp)
  have mb:Mv (fun k=>k=g3) w32 wb:=Mv.of_grown qb fun k hk _=>(Option.some.inj hk).symm
  have hmb:=hm32.mv mb fun j hj=>by have:=hX3 h (.inl rfl);omega
  have mLb:Mv (AN h g g3) wL wb:=(m32.weak fun j hj _=>.inl hj).trans (mb.weak fun j hj _=>.inr hj) fun _ hj _=>hj
  have hJX:∀k,AN h g g3 k→k≤g3:=fun k hk=>hk.elim (fun hk=>by have:=hX3 k hk;omega) (fun hk=>by omega)
  have oDb:=oL.mv mLb fun k hk=>by have:=hJX k hk;omega
  have k2b:=mLb.blk k2L (fun hk=>hk.elim (fun hk=>by rcases hk with rfl|rfl<;>omega) (fun hk=>by omega))
  have kb:cr g3 54 [vd,.slice none 0 0,I 0,I 0,B false,.slice none 0 0,.slice none 0 0,.slice none 0 0,B (bW nb),.slice none 0 0] wb:=kb
  refine al (v:=bI 1) (r:=B (bW nb)) E E E ((vm hB1)) ?_
  refine ah E E (ar (o:=1) L8 E (by kernel_rfl) E) ?_
  refine ah E E (cK (b:=1) (o:=7) L6 E (by kernel_rfl) E) ?_
  refine aq E E sb ?_
  refine ag (ab (af (af (aa (ae E E (an lE E E ((cU2 hmb)) ?_))))))
  rintro v37 w37 ⟨m37,rfl,hm37⟩
  have m37:=m37
  have k37:=m37.blk kb (fun hk=>by have:=hX3 _ hk;omega)
  have k2c:=m37.blk k2b (by rintro(rfl|rfl)<;>omega)
  have oDc:=oDb.mv m37 fun k hk=>by have:=hX k hk;omega
  have szb:=mLb.size
  have sz37:=m37.size
  refine ac E E (ag (ab (aH ?_)))
  refine rZ (fun(k2:Nat) (vl:Value) (so2:Option (List UInt8)) (oko2:Bool) (ls:List dI)=>[(0,.pointer (some ⟨h,0,none⟩)),(2,.pointer (some ⟨g2,0,none⟩)),(3,.pointer (some ⟨g3,0,none⟩)),(5,bI (UInt64.ofNat k2))]) (fun(k2:Nat) (vl:Value) (so2:Option (List UInt8)) (oko2:Bool) (ls:List dI) w'=>Mv (AN h g g3) w37 w'∧jQ h g so2 oko2 w'∧cr g3 54 [vd,vl,I 0,I 0,B false,.slice none 0 0,.slice none 0 0,.slice none 0 0,B (bW nb),.slice none 0 0] w'∧f9 173 6 w37.heap.size cV ls vl w'∧FL EI ok5 (s5.bind (ov 1073741824 EI)) so2 oko2 k2 ls∧k2+ls.length≤1073741824∧∀j,tL j st→tL j so2) (fun(k2:Nat) (vl:Value) (so2:Option (List UInt8)) (oko2:Bool) (ls:List dI)=>k2) (N2) (.slice none 0 0) (s6) (ok6) ([]) ⟨rfl,rfl,rfl,rfl,trivial⟩ ⟨Mv.refl _ _,hm37,k37,f9.nil _,FL.start qU2,by simpa using hN2,fun j hj=>aU2 _ (aB _ (aL _ hj))⟩ ?_
  rintro k2 vl so2 oko2 ls wM ⟨mM,hmM,kM,oM,hF2,hk2,aM⟩
  refine af (af ?_)
  have szM:=mM.size
  have hvl:vl.oneCell'=true:=by obtain⟨_,_,_,rfl⟩:=oM.isS;rfl
  have k2M:=mM.blk k2c (fun hk=>hk.elim (fun hk=>by rcases hk with rfl|rfl<;>omega) (fun hk=>by omega))
  have oDM:=oDc.mv mM fun k hk=>by have:=hJX k hk;omega
  rcases Nat.eq_zero_or_pos k2 with h0'|h0'
  rotate_left
  rcases oko2 with _|_
  rotate_left
  ·refine aa (ae E E (al (v:=bI 0) E E E (cw ((im (by omega)).2 h0') cO) (ae E E (ai E (ae E E (ai E (ay E E ?_)))))))
   refine ai E (ah E E (ar (o:=1) Ml E (by kernel_rfl) E) (ai E (ak E E (aj Me E (hmM.blk.cell (i:=1) E)) ?_)))
   refine ap E E E (ag (ab (bf E (aC (ab (af (aH (af ?_))))))))
   obtain⟨k',rfl⟩:∃k',k2=k'+1:=⟨k2-1,by omega⟩
   obtain⟨n1,sA,okA,q1,i1,a1,c1⟩:=pq so2 true
   obtain⟨nc,sB,nt,q2,hc1,a2,c2⟩:=pp sA okA (most:=1) (by omega)
   obtain⟨q,sC,okC,q3,a3,c3⟩:=AL sB nt (a2 _ (a1 _ (aM _ hl)))
   refine aa (ae E E (an lF E E ((c1 hmM)) ?_))
   rintro v49 w49 ⟨m49,rfl,hm49⟩
   have m49:=m49
   refine ae E E (an lE E E ((c2 hm49)) ?_)
   rintro v51 w51 ⟨m51,rfl,hm51⟩
   have m51:=m51
   refine al (v:=bI 1) (r:=B (bW nc)) E E E ((vm hc1)) (ae E E (an vi E E ((c3 hm51)) ?_))
   rintro v54 w54 ⟨m54,⟨x,y,rfl,rq⟩,hm54⟩
   have m54:=m54
   have m3:Mv (lS h g) wM w54:=(m49.trans m51 fun _ hj _=>hj).trans m54 fun _ hj _=>hj
   have hxy:=ku rq
   refine bC (vs:=[(0,I n1),(1,B (bW nc)),(2,.agg #[B q.1,x,y])]) (r:=.agg #[I n1,B (bW nc),B q.1,x,y,.slice none 0 0]) E E (run_build _ _ _ _ (by kernel_rfl)) ?_
   obtain⟨g6,w6,hr6,l6,x6,k6⟩:=aX (P:=Tryz.prog) (w:=w54) (t:=173) (z:=.agg #[I 0,B false,B false,.slice none 0 0,.slice none 0 0,.slice none 0 0]) (l:=[I 0,B false,B false,.slice none 0 0,.slice none 0 0,.slice none 0 0]) (by kernel_rfl) rfl
   refine aV E hr6 ?_
   obtain⟨wd,sd,qd,kd⟩:=k6.stS (P:=Tryz.prog) (t:=173) (m:=[I n1,B (bW nc),B q.1,x,y,.slice none 0 0]) rfl (by kernel_rfl) (aw.cons rfl (aw.cons rfl (aw.cons rfl (aw.cons hxy.1 (aw.cons hxy.2 (aw.cons rfl aw.nil))))))
   refine aq E E sd ?_
   have xd:=aN.of_new x6 qd l6
   have hmd:=hm54.ext xd
   have mMd:Mv (lS h g) wM wd:=m3.trans (Mv.of_ext xd) fun _ hj _=>hj
   have g6M:wM.heap.size≤g6:=by have:=m3.size;omega
   refine ag (ab (af (aa (ae E E (an p9 E E ((qa hmd (a3 _ (a2 _ (a1 _ (aM _ hl)))))) ?_)))))
   rintro v57 w57 ⟨m57,ps,s4,ok4,rp57,h1p,hm57,q4,a4⟩
   have m57:=m57
   have qM:=It q1 q2 q3 q4
   have k6a:=m57.blk kd (fun hk=>by have:=hX _ hk;omega)
   obtain⟨we,se,qe,ke⟩:=k6a.stC (P:=Tryz.prog) (t:=50) (i:=5) (v:=v57) (by kernel_rfl) h1p (by simp)
   have me:Mv (fun k=>k=g6) w57 we:=Mv.of_grown qe fun k hk _=>(Option.some.inj hk).symm
   have ke:cr g6 173 [I n1,B (bW nc),B q.1,x,y,v57] we:=ke
   have hme:=hm57.mv me fun j hj=>by omega
   have mMe:Mv (lS h g) wM we:=(mMd.trans m57 fun _ hj _=>hj).trans me fun j hj hlt=>by omega
   have k3e:=mMe.blk kM (fun hk=>by have:=hX3 _ hk;omega)
   have oMe:=oM.mv mMe fun k hk=>by have:=hX k hk;omega
   have own:∀j,vl.ownBlock=some j→w37.heap.size≤j∧j<wM.heap.size:=oM.lt
   have szd:=mMd.size
   have sz54:=m51.size
   have sz49:=m49.size
   have g6d:g6<wd.heap.size:=kd.lt
   have rq0:=(rq.weak (Y:=fun k=>k<wM.heap.size∨k=g6) fun j hj=>hj.elim (fun hj=>.inl (by show j<w51.heap.size;omega)) (fun hj=>.inr (by omega))).ext xd
   have rqe:cL (fun k=>k<wM.heap.size) we (iX q) [B q.1,x,y]:=(((rq0.mv (m57.weak fun j hj _=>.inl (by have:=hX j hj;omega)) fun _ hj=>.inl hj).mv (me.weak fun j hj _=>.inr hj) fun _ hj=>.inl hj).weak fun _ hj=>.inl (.inl hj))
   have rpe:cL (fun k=>k<wM.heap.size) we (gV ps) [v57]:=(rp57.mv (me.weak fun j hj _=>by show j<wd.heap.size;omega) fun _ hj=>.inl hj).weak fun j hj=>.inl (by show j<wd.heap.size;omega)
   have h1L:aw [I n1,B (bW nc),B q.1,x,y,v57]:=aw.cons rfl (aw.cons rfl (aw.cons rfl (aw.cons hxy.1 (aw.cons hxy.2 (aw.cons h1p aw.nil)))))
   obtain⟨x63,w63,v64,w64,hr63,hr64,o64,m64,n64⟩:=oMe.push (ty:=42) (t:=42) Mi wQ rfl (by omega) (by omega) (by omega) h1L ((wS (l:=⟨n1,bW nc,q,ps⟩) rqe rpe).weak fun j hj=>.inl (by
    rcases hj with hj|hj
    ·show j<wM.heap.size;omega
    ·have:=(own j hj).2;show j<wM.heap.size;omega)) cG (by omega) (Nat.le_trans szM mMe.size)
   have k3f:=m64.blk k3e (fun e=>by have:=own g3 e;omega)
   have hv64:v64.oneCell'=true:=by obtain⟨_,_,_,rfl⟩:=o64.isS;rfl
   obtain⟨wz,sz,qz,kz⟩:=k3f.stC (P:=Tryz.prog) (t:=42) (i:=1) (v:=v64) (by kernel_rfl) hv64 (by simp)
   have mz:Mv (fun k=>k=g3) w64 wz:=Mv.of_grown qz fun k hk _=>(Option.some.inj hk).symm
   refine ah E E (ar (o:=5) Mk E (by kernel_rfl) E) ?_
   refine aq E E se ?_
   refine ag (ab (aa ?_))
   refine ah E E (ar (o:=1) L8 E (by kernel_rfl) E) ?_
   refine ah E E (cK (b:=1) (o:=0) L6 E (by kernel_rfl) E) ?_
   refine ak E E (aj Mi E (k3e.cell (i:=1) E)) ?_
   refine ak E E (ke.ld Mk E (by kernel_rfl)) ?_
   refine aK (vs:=[(0,.agg #[I n1,B (bW nc),B q.1,x,y,v57])]) E E hr63 ?_
   refine ba E E hr64 ?_
   refine ah E E (ar (o:=1) L8 E (by kernel_rfl) E) ?_
   refine ah E E (cK (b:=1) (o:=0) L6 E (by kernel_rfl) E) ?_
   refine aq E E sz ?_
   refine ag (aS (ab (aa (ae E E (al (v:=bI 1) (r:=bI (UInt64.ofNat k')) E E E ((by rw[←vj (k:=k') (by omega)];exact dQ)) ?_)))))
   refine ac E E (ag ?_)
   refine oB (k') (v64) (s4) (ok4) (ls++[⟨n1,bW nc,q,ps⟩]) ⟨rfl,rfl,rfl,rfl,trivial⟩ ⟨((mM.trans (mMe.weak fun j hj _=>.inl hj) fun _ hj _=>hj).trans m64 fun j hj hlt=>by have:=(own j hj).1;omega).trans (mz.weak fun j hj _=>.inr hj) fun _ hj _=>hj,(hme.mv m64 fun j hj=>by have:=own j hj;omega).mv mz fun j hj=>by have:=hX3 h (.inl E);omega,kz,o64.mv mz (fun j hj=>by omega),hF2.step qM,by simp;omega,fun j hj=>a4 _ (a3 _ (a2 _ (a1 _ (aM _ hj))))⟩ (by omega)
  ·have hJ2:=hF2.jr (fun _=>h0')
   have hmM':=hmM
   refine aa (ae E E (al (v:=bI 0) E E E (cW (mt (im (by omega)).1 (by omega)) cO) (ae E E (ao E E E (ao E E E ?_)))))
   refine ao E E E (ao E E E (aE E E E (ag (ab (cp E (bg (aJ (aJ (bh (ab (af (aa (ae E E (an p9 E E ((qa hmM' (aM _ hl))) ?_))))))))))))))
   rintro v68 w68 ⟨m68,ps,s7,ok7,rp68,h1p,hm68,q7,a7⟩
   have m68:=m68
   have k68:=m68.blk kM (fun hk=>by have:=hX3 _ hk;omega)
   obtain⟨wy,sy,qy,ky⟩:=k68.stC (P:=Tryz.prog) (t:=50) (i:=9) (v:=v68) (by kernel_rfl) h1p (by simp)
   have my:Mv (fun k=>k=g3) w68 wy:=Mv.of_grown qy fun k hk _=>(Option.some.inj hk).symm
   have ky:cr g3 54 [vd,vl,I 0,I 0,B false,.slice none 0 0,.slice none 0 0,.slice none 0 0,B (bW nb),v68] wy:=ky
   have hO:aw [vd,vl,I 0,I 0,B false,.slice none 0 0,.slice none 0 0,.slice none 0 0,B (bW nb),v68]:=aw.cons hvd (aw.cons hvl (aw.cons rfl (aw.cons rfl (aw.cons rfl (aw.cons rfl (aw.cons rfl (aw.cons rfl (aw.cons rfl (aw.cons h1p aw.nil)))))))))
   have mMy:Mv (AN h g g3) wM wy:=(m68.weak fun j hj _=>.inl hj).trans (my.weak fun j hj _=>.inr hj) fun _ hj _=>hj
   have k2y:=mMy.blk k2M (fun hk=>hk.elim (fun hk=>by rcases hk with rfl|rfl<;>omega) (fun hk=>by omega))
   obtain⟨wR,sR,qR,kR⟩:=k2y.stS (P:=Tryz.prog) (t:=54) (m:=[vd,vl,I 0,I 0,B false,.slice none 0 0,.slice none 0 0,.slice none 0 0,B (bW nb),v68]) rfl (by kernel_rfl) hO
   have mR:Mv (fun k=>k=g2) wy wR:=Mv.of_grown qR fun k hk _=>(Option.some.inj hk).symm
   have mw3:Mv (fun k=>AN h g g3 k∨k=g2) w3 wR:=(((((mL.trans mLb fun _ hj _=>hj).trans (m37.weak fun j hj _=>(.inl hj:AN h g g3 j)) fun _ hj _=>hj).trans mM fun _ hj _=>hj).trans mMy fun _ hj _=>hj).weak fun j hj _=>.inl hj).trans (mR.weak fun j hj _=>.inr hj) fun _ hj _=>hj
   have hfin:Mv (lS h g) w wR:=(Mv.of_ext e3).trans mw3 fun j hj hlt=>by
    rcases hj with(hj|hj)|hj
    ·exact hj
    ·omega
    ·omega
   have oDR:=(oDM.mv mMy fun k hk=>by have:=hJX k hk;omega).mv mR fun k hk=>by omega
   have oMR:=(oM.mv mMy fun k hk=>by have:=hJX k hk;omega).mv mR fun k hk=>by omega
   have rpR:cL (fun k=>k<w.heap.size) wR (gV ps) [v68]:=((rp68.mv (my.weak fun j hj _=>by show j<wM.heap.size;omega) fun _ hj=>.inl hj).mv (mR.weak fun j hj _=>by show j<wM.heap.size;omega) fun _ hj=>.inl hj).weak fun j hj=>.inl (by show j<wM.heap.size;omega)
   have hrp:=i5 (u:=⟨ds,.mk ls lq [] (bW nb) ps⟩) ((oDR.rpx ci (by omega)).weak (Y:=fun k=>k<w.heap.size) fun j hj=>.inl (by show j<w3.heap.size;omega)) (er (ls:=ls) (d:=lq) (ks:=[]) (em:=bW nb) (ps:=ps) ((oMR.rpx cG (by omega)).weak (Y:=fun k=>k<w.heap.size) fun j hj=>.inl (by show j<w37.heap.size;omega)) jz jT rpR)
   refine ah E E (ar (o:=1) L8 E (by kernel_rfl) E) ?_
   refine ah E E (cK (b:=1) (o:=8) L6 E (by kernel_rfl) E) ?_
   refine aq E E sy ?_
   refine ag (ab (af (aa ?_)))
   refine ak E E (ky.ld L8 E (by kernel_rfl)) ?_
   refine aq E E sR ?_
   refine ag (ab (au ?_))
   refine dv E E kR L8 E (by kernel_rfl) ?_
   exact⟨_,rfl,hfin,⟨ds,.mk ls lq [] (bW nb) ps⟩,_,s7,ok7,rfl,hrp,hO,(hm68.mv my fun j hj=>by have:=hX3 h (.inl rfl);omega).mv mR fun j hj=>by omega,AM hJ qB hJ2 q7⟩
  ·obtain⟨oko2,ho2⟩:∃o:Bool,o=false:=⟨_,rfl⟩
   have hJ2:=hF2.jr (fun hk=>by cases hk)
   have hmM':=hmM
   rw[←ho2] at hJ2 hmM'
   refine aa (ae E E (al (v:=bI 0) E E E (cw ((im (by omega)).2 h0') cO) (ae E E (ai E (ae E E (ai E (ay E E ?_)))))))
   refine ai E (ah E E (ar (o:=1) Ml E (by kernel_rfl) E) (ai E (ak E E (aj Me E (hmM.blk.cell (i:=1) E)) ?_)))
   refine ap E E E (ag (ab (cp E (bg (aJ (aJ (bh (ab (af (aa (ae E E (an p9 E E ((qa hmM' (aM _ hl))) ?_))))))))))))
   rintro v68 w68 ⟨m68,ps,s7,ok7,rp68,h1p,hm68,q7,a7⟩
   have m68:=m68
   have k68:=m68.blk kM (fun hk=>by have:=hX3 _ hk;omega)
   obtain⟨wy,sy,qy,ky⟩:=k68.stC (P:=Tryz.prog) (t:=50) (i:=9) (v:=v68) (by kernel_rfl) h1p (by simp)
   have my:Mv (fun k=>k=g3) w68 wy:=Mv.of_grown qy fun k hk _=>(Option.some.inj hk).symm
   have ky:cr g3 54 [vd,vl,I 0,I 0,B false,.slice none 0 0,.slice none 0 0,.slice none 0 0,B (bW nb),v68] wy:=ky
   have hO:aw [vd,vl,I 0,I 0,B false,.slice none 0 0,.slice none 0 0,.slice none 0 0,B (bW nb),v68]:=aw.cons hvd (aw.cons hvl (aw.cons rfl (aw.cons rfl (aw.cons rfl (aw.cons rfl (aw.cons rfl (aw.cons rfl (aw.cons rfl (aw.cons h1p aw.nil)))))))))
   have mMy:Mv (AN h g g3) wM wy:=(m68.weak fun j hj _=>.inl hj).trans (my.weak fun j hj _=>.inr hj) fun _ hj _=>hj
   have k2y:=mMy.blk k2M (fun hk=>hk.elim (fun hk=>by rcases hk with rfl|rfl<;>omega) (fun hk=>by omega))
   obtain⟨wR,sR,qR,kR⟩:=k2y.stS (P:=Tryz.prog) (t:=54) (m:=[vd,vl,I 0,I 0,B false,.slice none 0 0,.slice none 0 0,.slice none 0 0,B (bW nb),v68]) rfl (by kernel_rfl) hO
   have mR:Mv (fun k=>k=g2) wy wR:=Mv.of_grown qR fun k hk _=>(Option.some.inj hk).symm
   have mw3:Mv (fun k=>AN h g g3 k∨k=g2) w3 wR:=(((((mL.trans mLb fun _ hj _=>hj).trans (m37.weak fun j hj _=>(.inl hj:AN h g g3 j)) fun _ hj _=>hj).trans mM fun _ hj _=>hj).trans mMy fun _ hj _=>hj).weak fun j hj _=>.inl hj).trans (mR.weak fun j hj _=>.inr hj) fun _ hj _=>hj
   have hfin:Mv (lS h g) w wR:=(Mv.of_ext e3).trans mw3 fun j hj hlt=>by
    rcases hj with(hj|hj)|hj
    ·exact hj
    ·omega
    ·omega
   have oDR:=(oDM.mv mMy fun k hk=>by have:=hJX k hk;omega).mv mR fun k hk=>by omega
   have oMR:=(oM.mv mMy fun k hk=>by have:=hJX k hk;omega).mv mR fun k hk=>by omega
   have rpR:cL (fun k=>k<w.heap.size) wR (gV ps) [v68]:=((rp68.mv (my.weak fun j hj _=>by show j<wM.heap.size;omega) fun _ hj=>.inl hj).mv (mR.weak fun j hj _=>by show j<wM.heap.size;omega) fun _ hj=>.inl hj).weak fun j hj=>.inl (by show j<wM.heap.size;omega)
   have hrp:=i5 (u:=⟨ds,.mk ls lq [] (bW nb) ps⟩) ((oDR.rpx ci (by omega)).weak (Y:=fun k=>k<w.heap.size) fun j hj=>.inl (by show j<w3.heap.size;omega)) (er (ls:=ls) (d:=lq) (ks:=[]) (em:=bW nb) (ps:=ps) ((oMR.rpx cG (by omega)).weak (Y:=fun k=>k<w.heap.size) fun j hj=>.inl (by show j<w37.heap.size;omega)) jz jT rpR)
   refine ah E E (ar (o:=1) L8 E (by kernel_rfl) E) ?_
   refine ah E E (cK (b:=1) (o:=8) L6 E (by kernel_rfl) E) ?_
   refine aq E E sy ?_
   refine ag (ab (af (aa ?_)))
   refine ak E E (ky.ld L8 E (by kernel_rfl)) ?_
   refine aq E E sR ?_
   refine ag (ab (au ?_))
   refine dv E E kR L8 E (by kernel_rfl) ?_
   exact⟨_,rfl,hfin,⟨ds,.mk ls lq [] (bW nb) ps⟩,_,s7,ok7,rfl,hrp,hO,(hm68.mv my fun j hj=>by have:=hX3 h (.inl rfl);omega).mv mR fun j hj=>by omega,AM hJ qB hJ2 q7⟩
end Go.Rl
namespace Go.Rl
open Go.RowKit Go.Proofs
theorem DK:aG Tryz.prog 45:=⟨_,Tryz.func45,by kernel_rfl,rfl⟩
section
variable {P:Program} {ops:Array Oper} {Q:iR} {N:Nat} {D:List Deferred} {S:World→Prop} {fuel:Nat} {listed:Array Bool} {l:Fr} {w:World} {d:Nat} {ty:TypeId} {pos:String} {aft:Array Edge} {op:Op}
theorem Jx (i:Nat) {x:Operand} {v:Value} {j:Nat} {b:Bool} (hi:ops[i]? =some ⟨some d,.move x,ty,pos,aft,some (j,b)⟩) (hg:gv ops l j=some (.bool b)) (hx:ev l x=some v) (hB:nt ops listed i=true) (hd:Nat.blt d N=true) (hS:S w)
 (k:dx P ops Q N D S fuel (listed.setIfInBounds i true) ((d,v)::l) w):dx P ops Q N D S (fuel+1) listed l w:=fun a ha=>by
 simp only[nt,Bool.and_eq_true] at hB
 exact wpAnyH_take hi hB.1.1 hB.1.2 hB.2 (fun c a w h=>by obtain⟨h,_⟩:=h;cases h) (.inl ⟨by simp[Region.wanted,ng ha hg],fun w' _=>by simp[execOp,ha.ev hx]⟩) hS (k _ (ha.put hd v))
theorem zt (i:Nat) {j:Nat} {b b':Bool} (hi:ops[i]? =some ⟨some d,op,ty,pos,aft,some (j,b)⟩) (hg:gv ops l j=some (.bool b')) (hb:b'= !b) (hB:nt ops listed i=true) (hd:Nat.blt d N=true) (hS:S w)
 (k:dx P ops Q N D S fuel (listed.setIfInBounds i true) ((d,undef)::l) w):dx P ops Q N D S (fuel+1) listed l w:=fun a ha=>by
 simp only[nt,Bool.and_eq_true] at hB
 exact wpAnyH_take hi hB.1.1 hB.1.2 hB.2 (fun c a w h=>by obtain⟨h,_⟩:=h;cases h) (.inr ⟨by subst hb;simp[Region.wanted,ng ha hg],rfl⟩) hS (k _ (ha.put hd undef))
end
theorem AO {w:World} {g:Nat} {st:Option (List UInt8)} (hr:cQ g st w):Calls Tryz.prog 92 #[.pointer (some ⟨g,0,none⟩)] w (bE fun r w'=>w=w'∧r=I (if st=some [] then 0 else 5)):=(FI hr).mono fun _ _ ⟨v,h,h1,h2⟩=>⟨v,h,h2.symm,h1⟩
theorem K7 {p:List UInt8} {u:bR} {s1:Option (List UInt8)} (hl:p.length≤7340032) (h:JR Gs (some p) true u s1 false):iy p=none:=by
 cases he:iy p with
 |none=>rfl
 |some e=>
  have h1:=EJ he hl
  have h2:=h.iff
  have h3:(some p).bind Gs=some (e,[]):=h1
  rw[h3] at h2
  cases h2
theorem K8 {p l:List UInt8} {u:bR} {c:UInt8} (hl:p.length≤7340032) (h:JR Gs (some p) true u (some (c::l)) true):iy p=none:=by
 cases he:iy p with
 |none=>rfl
 |some e=>
  have h1:=EJ he hl
  have h2:Gs p=some (u,c::l):=h.val rfl
  rw[h1] at h2
  cases h2
theorem K9 {p:List UInt8} {u:bR} (h:JR Gs (some p) true u (some []) true):lr p=some (u,[]):=KZ (h.val rfl)
theorem DL {w:World} {p:List UInt8} {v:Value} (hv:cn p v w) (hl:p.length≤7340032):
 Calls Tryz.prog 45 #[v] w (bE fun r w'=>aN w w'∧LZ w.heap.size p r w'):=by
 refine enter (vs:=[v]) Tryz.func45 E E E ?_
 refine af (aa ?_)
 obtain⟨g2,w2,hr2,l2,x2,k2⟩:=aX (P:=Tryz.prog) (w:=w) (t:=54) (z:=.agg #[.slice none 0 0,.slice none 0 0,I 0,I 0,B false,.slice none 0 0,.slice none 0 0,.slice none 0 0,B false,.slice none 0 0]) (l:=[.slice none 0 0,.slice none 0 0,I 0,I 0,B false,.slice none 0 0,.slice none 0 0,.slice none 0 0,B false,.slice none 0 0]) (by kernel_rfl) rfl
 refine aV E hr2 (ac E E (ag (ab (af (aa (ae E E (an A3 E E ((A6 (hv.ext x2) (by omega))) ?_)))))))
 rintro v7 w7 ⟨x7,g,lg,rfl,hr7⟩
 refine bC (vs:=[(0,.pointer (some ⟨g,0,none⟩)),(1,B true)]) (r:=.agg #[.pointer (some ⟨g,0,none⟩),B true]) E E (run_build _ _ _ _ (by kernel_rfl)) ?_
 obtain⟨h,w9,hr9,l9,x9,k9⟩:=cD (P:=Tryz.prog) (w:=w7) (T:=163) (cs:=[.pointer (some ⟨g,0,none⟩),B true])
 refine cI E E hr9 ?_
 have hgh:g<h:=by have:=cQ.lt hr7;omega
 have hm9:jQ h g (some p) true w9:=⟨k9,hr7.ext x9,hgh⟩
 have g2g:g2<g:=by have:=k2.lt;omega
 refine ac rfl rfl (ag (ab (af (aa (ae rfl rfl (an Jv rfl rfl ((Jw hm9 (fun l e=>by cases e;omega))) ?_))))))
 rintro v11 w11 ⟨m11,u,cs,s1,okr,rfl,rp11,h1cs,hm11,hJ⟩
 have m11:=m11
 have e9:aN w w9:=(x2.trans x7).trans x9
 have hX:∀k,lS h g k→w2.heap.size≤k∧k<w9.heap.size:=fun k hk=>by
  have:=hm9.blk.lt
  have:=x2.size
  rcases hk with rfl|rfl<;>constructor<;>omega
 have hcs:cs.length=10:=rp11.len.trans (cR u)
 have k2y:=m11.blk ((k2.ext x7).ext x9) (fun hk=>by have:=(hX _ hk).1;have:=k2.lt;omega)
 obtain⟨g5,w5,hr5,l5,x5,k5⟩:=aX (P:=Tryz.prog) (w:=w11) (t:=54) (z:=.agg #[.slice none 0 0,.slice none 0 0,I 0,I 0,B false,.slice none 0 0,.slice none 0 0,.slice none 0 0,B false,.slice none 0 0]) (l:=[.slice none 0 0,.slice none 0 0,I 0,I 0,B false,.slice none 0 0,.slice none 0 0,.slice none 0 0,B false,.slice none 0 0]) (by kernel_rfl) rfl
 refine aV E hr5 ?_
 obtain⟨wy,sy,qy,ky⟩:=k5.stS (P:=Tryz.prog) (t:=54) (m:=cs) (by rw[hcs];rfl) (by rw[hcs];kernel_rfl) h1cs
 refine aq E E sy ?_
 have xy:=aN.of_new x5 qy l5
 have hmy:=hm11.ext xy
 have k2y:=k2y.ext xy
 have rpy:=rp11.ext xy
 have sz9:=e9.size
 have g29:g2<w9.heap.size:=by have:=k2.lt;have:=x7.size;have:=x9.size;omega
 have m2y:Mv (lS h g) w9 wy:=m11.trans (Mv.of_ext xy) fun _ hj _=>hj
 have eY:aN w wy:=Mv.ext_from m2y e9 fun k hk=>by have:=(hX k hk).1;have:=x2.size;omega
 have bpy:=hv.ext eY
 have g25:g2<g5:=by have:=m11.size;have:=k2.lt;have:=x7.size;have:=x9.size;omega
 refine ag (ab (af ?_))
 obtain⟨vd,vl,x,y,vk,vp,rfl,n0,n1,n2,n3,n4,n5⟩:=gQ rpy.rp
 rcases okr with _|_
 rotate_left
 rcases s1 with _|l1
 ·exact absurd (hJ.ok_le rfl).2 (by simp)
 rcases l1 with _|⟨c1,l1⟩
 have hE:=K9 hJ
 rcases hV:cX u
 ·have hS:Mv (fun k=>k=g2) wy wy.drew:=Mv.of_ext ((aN.refl wy).drew)
  have e11:aN wy wy.drew:=(aN.refl wy).drew
  refine gS (Mv (fun k=>k=g2) wy) 25 E (by kernel_rfl) ?_
  refine fU 0 E E (by kernel_rfl) E hS (fun w' hw'=>(hw'.blk ky (fun e=>by omega)).ld L8 E (by kernel_rfl)) ?_
  refine aR 1 (by kernel_rfl) E (ae E E (aI hS ?_))
  refine aR 2 (by kernel_rfl) E (ay E E (aI hS ?_))
  refine aR 3 (by kernel_rfl) E (ah E E (ar (o:=1) Ml E (by kernel_rfl) E) (aI hS ?_))
  refine aR 4 (by kernel_rfl) E (ak E E (aj Me E ((hmy.blk.ext e11).cell (i:=1) E)) (aI hS ?_))
  refine aR 5 (by kernel_rfl) E (ae E E (aI hS ?_))
  refine aR 6 (by kernel_rfl) E (ai E (ae E E (aI hS ?_)))
  refine aR 7 (by kernel_rfl) E (ai E (ay E E (aI hS ?_)))
  refine aR 8 (by kernel_rfl) E (ai E (ah E E (ar (o:=0) Ml E (by kernel_rfl) E) (aI hS ?_)))
  refine aR 9 (by kernel_rfl) E (ai E (ak E E (aj Mx E ((hmy.blk.ext e11).cell (i:=0) E)) (aI hS ?_)))
  refine aR 10 (by kernel_rfl) E (ai E (an tG E E (AO (hmy.rd.ext e11)) ?_))
  rintro _ _ ⟨rfl,rfl⟩
  refine aI hS ?_
  refine aR 11 (by kernel_rfl) E (ai E (al (r:=B true) E E E AJ (aI hS ?_)))
  refine aR 12 (by kernel_rfl) E (ap E E E (aI hS ?_))
  refine aR 13 (by kernel_rfl) E (ae E E (aI hS ?_))
  refine aR 14 (by kernel_rfl) E (ai E (ak E E ((ky.ext e11).ld L8 E (by kernel_rfl)) (aI hS ?_)))
  refine aR 15 (by kernel_rfl) E (ai E (an jn E E (by have h:=jo (u:=u) (cu.ext n0 e11) (cu.ext n1 e11) (n2.ext e11) (n3.ext e11) (cu.ext n4 e11) (cu.ext n5 e11) (rG hE (by omega));rw[hV] at h;exact h) ?_))
  rintro _ w27 ⟨x27,rfl⟩
  have e11:aN wy w27:=e11.trans x27
  have hS:Mv (fun k=>k=g2) wy w27:=Mv.of_ext e11
  refine aI hS ?_
  refine aR 16 (by kernel_rfl) E (ap E E E (aI hS ?_))
  refine aR 17 (by kernel_rfl) E (ae E E (aI hS ?_))
  refine zt 18 E E E (by kernel_rfl) E hS ?_
  refine zt 20 E E E (by kernel_rfl) E hS ?_
  refine aR 19 (by kernel_rfl) E (ao E E E (aI hS ?_))
  refine aR 21 (by kernel_rfl) E (ao E E E (aI hS ?_))
  refine p7 22 E E E (by kernel_rfl) E hS ?_
  have k2g:=k2y.ext e11
  obtain⟨wd,sd,qd,kd⟩:=k2g.stS (P:=Tryz.prog) (t:=54) (m:=[vd,vl,I u.leaf.split.kd,I u.leaf.split.ix,B u.leaf.split.at_.1,x,y,vk,B u.leaf.empty,vp]) rfl (by kernel_rfl) h1cs
  have md:Mv (fun k=>k=g2) w27 wd:=Mv.of_grown qd fun k hk _=>(Option.some.inj hk).symm
  have hSd:Mv (fun k=>k=g2) wy wd:=(Mv.of_ext e11).trans md fun _ hj _=>hj
  have eF:aN w wd:=Mv.ext_from hSd eY (fun k hk=>by have:k=g2:=hk;omega)
  have rF:=(rpy.mv (hSd.weak fun j hj _=>by have:j=g2:=hj;show j<w9.heap.size;omega) fun _ hj=>.inl hj).weak (Y:=fun k=>k<w.heap.size) fun j hj=>.inl (by show j<w9.heap.size;omega)
  refine aR 23 (by kernel_rfl) E (aq E E sd (aI hSd ?_))
  refine aR 24 (by kernel_rfl) E (ac E E (aI hSd (gT (by kernel_rfl) ?_)))
  refine ab (au ?_)
  refine cz E E E kd L8 E (by kernel_rfl) ?_
  exact⟨_,rfl,eF,u,_,false,rfl,rF,h1cs,(fun e=>nomatch e),fun _=>Ck hE hV⟩
 ·have hpe:cc u=p:=by have:=(xx hE).1;simpa using this.symm
  have hS:Mv (fun k=>k=g2) wy wy.drew:=Mv.of_ext ((aN.refl wy).drew)
  have e11:aN wy wy.drew:=(aN.refl wy).drew
  refine gS (Mv (fun k=>k=g2) wy) 25 E (by kernel_rfl) ?_
  refine fU 0 E E (by kernel_rfl) E hS (fun w' hw'=>(hw'.blk ky (fun e=>by omega)).ld L8 E (by kernel_rfl)) ?_
  refine aR 1 (by kernel_rfl) E (ae E E (aI hS ?_))
  refine aR 2 (by kernel_rfl) E (ay E E (aI hS ?_))
  refine aR 3 (by kernel_rfl) E (ah E E (ar (o:=1) Ml E (by kernel_rfl) E) (aI hS ?_))
  refine aR 4 (by kernel_rfl) E (ak E E (aj Me E ((hmy.blk.ext e11).cell (i:=1) E)) (aI hS ?_))
  refine aR 5 (by kernel_rfl) E (ae E E (aI hS ?_))
  refine aR 6 (by kernel_rfl) E (ai E (ae E E (aI hS ?_)))
  refine aR 7 (by kernel_rfl) E (ai E (ay E E (aI hS ?_)))
  refine aR 8 (by kernel_rfl) E (ai E (ah E E (ar (o:=0) Ml E (by kernel_rfl) E) (aI hS ?_)))
  refine aR 9 (by kernel_rfl) E (ai E (ak E E (aj Mx E ((hmy.blk.ext e11).cell (i:=0) E)) (aI hS ?_)))
  refine aR 10 (by kernel_rfl) E (ai E (an tG E E (AO (hmy.rd.ext e11)) ?_))
  rintro _ _ ⟨rfl,rfl⟩
  refine aI hS ?_
  refine aR 11 (by kernel_rfl) E (ai E (al (r:=B true) E E E AJ (aI hS ?_)))
  refine aR 12 (by kernel_rfl) E (ap E E E (aI hS ?_))
  refine aR 13 (by kernel_rfl) E (ae E E (aI hS ?_))
  refine aR 14 (by kernel_rfl) E (ai E (ak E E ((ky.ext e11).ld L8 E (by kernel_rfl)) (aI hS ?_)))
  refine aR 15 (by kernel_rfl) E (ai E (an jn E E (by have h:=jo (u:=u) (cu.ext n0 e11) (cu.ext n1 e11) (n2.ext e11) (n3.ext e11) (cu.ext n4 e11) (cu.ext n5 e11) (rG hE (by omega));rw[hV] at h;exact h) ?_))
  rintro _ w27 ⟨x27,rfl⟩
  have e11:aN wy w27:=e11.trans x27
  have hS:Mv (fun k=>k=g2) wy w27:=Mv.of_ext e11
  refine aI hS ?_
  refine aR 16 (by kernel_rfl) E (ap E E E (aI hS ?_))
  refine aR 17 (by kernel_rfl) E (ae E E (aI hS ?_))
  refine Jx 20 E E E (by kernel_rfl) E hS ?_
  refine aR 18 (by kernel_rfl) E (ai E (ak E E ((ky.ext e11).ld L8 E (by kernel_rfl)) (aI hS ?_)))
  refine aR 19 (by kernel_rfl) E (ai E (an zk E E (zl (u:=u) (cu.ext n0 e11) (cu.ext n1 e11) (n2.ext e11) (n3.ext e11) (cu.ext n4 e11) (cu.ext n5 e11) (xx hE).2.1 (by rw[hpe];omega)) ?_))
  rintro v31 w31 ⟨x31,b31⟩
  have e11:aN wy w31:=e11.trans x31
  have hS:Mv (fun k=>k=g2) wy w31:=Mv.of_ext e11
  refine aI hS ?_
  refine aR 21 (by kernel_rfl) E (ai E (an BN E E (by have h:=BO b31 (bpy.ext e11);rw[decide_eq_true hpe] at h;exact h) ?_))
  rintro _ w33 ⟨x33,rfl⟩
  have e11:aN wy w33:=e11.trans x33
  have hS:Mv (fun k=>k=g2) wy w33:=Mv.of_ext e11
  refine aI hS ?_
  refine EO 22 E E E (by kernel_rfl) E hS ?_
  have k2g:=k2y.ext e11
  obtain⟨wd,sd,qd,kd⟩:=k2g.stS (P:=Tryz.prog) (t:=54) (m:=[vd,vl,I u.leaf.split.kd,I u.leaf.split.ix,B u.leaf.split.at_.1,x,y,vk,B u.leaf.empty,vp]) rfl (by kernel_rfl) h1cs
  have md:Mv (fun k=>k=g2) w33 wd:=Mv.of_grown qd fun k hk _=>(Option.some.inj hk).symm
  have hSd:Mv (fun k=>k=g2) wy wd:=(Mv.of_ext e11).trans md fun _ hj _=>hj
  have eF:aN w wd:=Mv.ext_from hSd eY (fun k hk=>by have:k=g2:=hk;omega)
  have rF:=(rpy.mv (hSd.weak fun j hj _=>by have:j=g2:=hj;show j<w9.heap.size;omega) fun _ hj=>.inl hj).weak (Y:=fun k=>k<w.heap.size) fun j hj=>.inl (by show j<w9.heap.size;omega)
  refine aR 23 (by kernel_rfl) E (aq E E sd (aI hSd ?_))
  refine aR 24 (by kernel_rfl) E (ac E E (aI hSd (gT (by kernel_rfl) ?_)))
  refine ab (au ?_)
  refine cz E E E kd L8 E (by kernel_rfl) ?_
  exact⟨_,rfl,eF,u,_,true,rfl,rF,h1cs,(fun _=>AD hE hV),fun e=>nomatch e⟩
 ·have hS:Mv (fun k=>k=g2) wy wy.drew:=Mv.of_ext ((aN.refl wy).drew)
  have e11:aN wy wy.drew:=(aN.refl wy).drew
  refine gS (Mv (fun k=>k=g2) wy) 25 E (by kernel_rfl) ?_
  refine fU 0 E E (by kernel_rfl) E hS (fun w' hw'=>(hw'.blk ky (fun e=>by omega)).ld L8 E (by kernel_rfl)) ?_
  refine aR 1 (by kernel_rfl) E (ae E E (aI hS ?_))
  refine aR 2 (by kernel_rfl) E (ay E E (aI hS ?_))
  refine aR 3 (by kernel_rfl) E (ah E E (ar (o:=1) Ml E (by kernel_rfl) E) (aI hS ?_))
  refine aR 4 (by kernel_rfl) E (ak E E (aj Me E ((hmy.blk.ext e11).cell (i:=1) E)) (aI hS ?_))
  refine aR 5 (by kernel_rfl) E (ae E E (aI hS ?_))
  refine aR 6 (by kernel_rfl) E (ai E (ae E E (aI hS ?_)))
  refine aR 7 (by kernel_rfl) E (ai E (ay E E (aI hS ?_)))
  refine aR 8 (by kernel_rfl) E (ai E (ah E E (ar (o:=0) Ml E (by kernel_rfl) E) (aI hS ?_)))
  refine aR 9 (by kernel_rfl) E (ai E (ak E E (aj Mx E ((hmy.blk.ext e11).cell (i:=0) E)) (aI hS ?_)))
  refine aR 10 (by kernel_rfl) E (ai E (an tG E E (AO (hmy.rd.ext e11)) ?_))
  rintro _ _ ⟨rfl,rfl⟩
  refine aI hS ?_
  refine aR 11 (by kernel_rfl) E (ai E (al (r:=B false) E E E EP (aI hS ?_)))
  refine aR 12 (by kernel_rfl) E (ap E E E (aI hS ?_))
  refine aR 13 (by kernel_rfl) E (ae E E (aI hS ?_))
  refine aR 14 (by kernel_rfl) E (ao E E E (aI hS ?_))
  refine aR 15 (by kernel_rfl) E (ao E E E (aI hS ?_))
  refine aR 16 (by kernel_rfl) E (aE E E E (aI hS ?_))
  refine aR 17 (by kernel_rfl) E (ae E E (aI hS ?_))
  refine zt 18 E E E (by kernel_rfl) E hS ?_
  refine zt 20 E E E (by kernel_rfl) E hS ?_
  refine aR 19 (by kernel_rfl) E (ao E E E (aI hS ?_))
  refine aR 21 (by kernel_rfl) E (ao E E E (aI hS ?_))
  refine p7 22 E E E (by kernel_rfl) E hS ?_
  have k2g:=k2y.ext e11
  obtain⟨wd,sd,qd,kd⟩:=k2g.stS (P:=Tryz.prog) (t:=54) (m:=[vd,vl,I u.leaf.split.kd,I u.leaf.split.ix,B u.leaf.split.at_.1,x,y,vk,B u.leaf.empty,vp]) rfl (by kernel_rfl) h1cs
  have md:Mv (fun k=>k=g2) wy.drew wd:=Mv.of_grown qd fun k hk _=>(Option.some.inj hk).symm
  have hSd:Mv (fun k=>k=g2) wy wd:=(Mv.of_ext e11).trans md fun _ hj _=>hj
  have eF:aN w wd:=Mv.ext_from hSd eY (fun k hk=>by have:k=g2:=hk;omega)
  have rF:=(rpy.mv (hSd.weak fun j hj _=>by have:j=g2:=hj;show j<w9.heap.size;omega) fun _ hj=>.inl hj).weak (Y:=fun k=>k<w.heap.size) fun j hj=>.inl (by show j<w9.heap.size;omega)
  refine aR 23 (by kernel_rfl) E (aq E E sd (aI hSd ?_))
  refine aR 24 (by kernel_rfl) E (ac E E (aI hSd (gT (by kernel_rfl) ?_)))
  refine ab (au ?_)
  refine cz E E E kd L8 E (by kernel_rfl) ?_
  exact⟨_,rfl,eF,u,_,false,rfl,rF,h1cs,(fun e=>nomatch e),fun _=>K8 hl hJ⟩
 ·have hS:Mv (fun k=>k=g2) wy wy.drew:=Mv.of_ext ((aN.refl wy).drew)
  have e11:aN wy wy.drew:=(aN.refl wy).drew
  refine gS (Mv (fun k=>k=g2) wy) 25 E (by kernel_rfl) ?_
  refine fU 0 E E (by kernel_rfl) E hS (fun w' hw'=>(hw'.blk ky (fun e=>by omega)).ld L8 E (by kernel_rfl)) ?_
  refine aR 1 (by kernel_rfl) E (ae E E (aI hS ?_))
  refine aR 2 (by kernel_rfl) E (ay E E (aI hS ?_))
  refine aR 3 (by kernel_rfl) E (ah E E (ar (o:=1) Ml E (by kernel_rfl) E) (aI hS ?_))
  refine aR 4 (by kernel_rfl) E (ak E E (aj Me E ((hmy.blk.ext e11).cell (i:=1) E)) (aI hS ?_))
  refine aR 5 (by kernel_rfl) E (ae E E (aI hS ?_))
  refine aR 6 (by kernel_rfl) E (ao E E E (aI hS ?_))
  refine aR 7 (by kernel_rfl) E (ao E E E (aI hS ?_))
  refine aR 8 (by kernel_rfl) E (ao E E E (aI hS ?_))
  refine aR 9 (by kernel_rfl) E (ao E E E (aI hS ?_))
  refine aR 10 (by kernel_rfl) E (ao E E E (aI hS ?_))
  refine aR 11 (by kernel_rfl) E (ao E E E (aI hS ?_))
  refine aR 12 (by kernel_rfl) E (aE E E E (aI hS ?_))
  refine aR 13 (by kernel_rfl) E (ae E E (aI hS ?_))
  refine aR 14 (by kernel_rfl) E (ao E E E (aI hS ?_))
  refine aR 15 (by kernel_rfl) E (ao E E E (aI hS ?_))
  refine aR 16 (by kernel_rfl) E (aE E E E (aI hS ?_))
  refine aR 17 (by kernel_rfl) E (ae E E (aI hS ?_))
  refine zt 18 E E E (by kernel_rfl) E hS ?_
  refine zt 20 E E E (by kernel_rfl) E hS ?_
  refine aR 19 (by kernel_rfl) E (ao E E E (aI hS ?_))
  refine aR 21 (by kernel_rfl) E (ao E E E (aI hS ?_))
  refine p7 22 E E E (by kernel_rfl) E hS ?_
  have k2g:=k2y.ext e11
  obtain⟨wd,sd,qd,kd⟩:=k2g.stS (P:=Tryz.prog) (t:=54) (m:=[vd,vl,I u.leaf.split.kd,I u.leaf.split.ix,B u.leaf.split.at_.1,x,y,vk,B u.leaf.empty,vp]) rfl (by kernel_rfl) h1cs
  have md:Mv (fun k=>k=g2) wy.drew wd:=Mv.of_grown qd fun k hk _=>(Option.some.inj hk).symm
  have hSd:Mv (fun k=>k=g2) wy wd:=(Mv.of_ext e11).trans md fun _ hj _=>hj
  have eF:aN w wd:=Mv.ext_from hSd eY (fun k hk=>by have:k=g2:=hk;omega)
  have rF:=(rpy.mv (hSd.weak fun j hj _=>by have:j=g2:=hj;show j<w9.heap.size;omega) fun _ hj=>.inl hj).weak (Y:=fun k=>k<w.heap.size) fun j hj=>.inl (by show j<w9.heap.size;omega)
  refine aR 23 (by kernel_rfl) E (aq E E sd (aI hSd ?_))
  refine aR 24 (by kernel_rfl) E (ac E E (aI hSd (gT (by kernel_rfl) ?_)))
  refine ab (au ?_)
  refine cz E E E kd L8 E (by kernel_rfl) ?_
  exact⟨_,rfl,eF,u,_,false,rfl,rF,h1cs,(fun e=>nomatch e),fun _=>K7 hl hJ⟩
end Go.Rl
namespace Go.Rl
open Go.RowKit Go.Proofs
theorem rI:aG Tryz.prog 44:=⟨_,Tryz.func44,by kernel_rfl,rfl⟩
def xN (l:List UInt8) (r:Value) (w:World):Prop:=match ql l with
 |some (p,t)=>∃vp,r=.tuple #[I ((l.length-t.length:Nat):Int),vp,B (decide (8≤t.length))]∧cn p vp w
 |none=>r=.tuple #[I 0,.slice none 0 0,B false]
theorem Jy {l:List UInt8} (h:eJ l=none):ql l=none:=by unfold ql;rw[h];rfl
theorem Jz {l:List UInt8} {n:Nat} (h:eJ l=some (n,l.drop (uv n).length)) (hn:l.length-(uv n).length<n):ql l=none:=by
 unfold ql;rw[h]
 show(if n≤(l.drop (uv n).length).length then _ else _)=_
 rw[if_neg (by rw[List.length_drop];omega)]
theorem JA {l:List UInt8} {n:Nat} (h:eJ l=some (n,l.drop (uv n).length)) (hn:n≤l.length-(uv n).length):ql l=some ((l.drop (uv n).length).take n,l.drop ((uv n).length+n)):=by
 unfold ql;rw[h]
 show(if n≤(l.drop (uv n).length).length then _ else _)=_
 rw[if_pos (by rw[List.length_drop];omega),List.drop_drop]
theorem DM {w:World} {l:List UInt8} {v:Value} (hv:cn l v w) (hl:l.length≤4294967296):
 Calls Tryz.prog 44 #[v] w (bE fun r w'=>aN w w'∧xN l r w):=by
 refine enter (vs:=[v]) Tryz.func44 E E E ?_
 refine af (aa (ac E E (ac E E (ac E E (ag (ab (af (aa (ae E E (ae E E (aQ E E (cM hv) ?_)))))))))))
 refine Lp (vs:=[I (l.length:Int),I 10]) E E Jb ?_
 obtain⟨v15,p15,b15⟩:=iU hv (hi:=min l.length 10) (by omega) .i64
 refine cJ E E E E E (p15 _) ?_
 have b15:cn (l.take 10) v15 w:=by
  have e:l.take (min l.length 10)=l.take 10:=by rw[Nat.min_comm,←List.take_take,List.take_length]
  rw[e] at b15;exact b15
 refine ac E E (ag (ab (af (aa (ae E E (an A3 E E ((A6 b15 (by rw[List.length_take];omega))) ?_))))))
 rintro v17 w17 ⟨x17,g,lg,rfl,rr⟩
 refine ac E E (ag (ab (af ?_)))
 rcases hU:eJ (l.take 10) with _|⟨n,t⟩
 rotate_left
 obtain⟨hs,hlen⟩:=Av hU
 have hn64:=(gd hU).2
 rcases Nat.lt_or_ge (l.length-(uv n).length) n with hlt|hge
 ·refine aa (ae E E (an gJ E E ((Hs (st:=some (l.take 10)) rr hU)) ?_))
  rintro v20 w20 ⟨g16,rfl,r1⟩
  have x20:=(x17).of_new g16 lg
  refine ae E E (am E E (bj) (am E E (bk) (ac E E (ac E E (ag (ab (af (af (aa (ae E E (al E E E (cW (by decide) cC) ?_)))))))))))
  refine ag (ab (cp E (aC (ab (af (aa (ae E E (aQ E E (cM (b15.ext x20)) (ae E E (an yz E E ((HT r1)) ?_))))))))))
  rintro v28 _ ⟨rfl,rfl⟩
  refine al (r:=I (((uv n).length:Nat):Int)) E E E ((HU (a:=(l.take 10).length) (b:=t.length) (by rw[List.length_take];omega) (by rw[List.length_take];omega))) ?_
  have hcl:(uv n).length≤l.length:=by omega
  refine ac E E (ag (ab (af (af (aa (ae E E (ae E E (aQ E E (cM (hv.ext x20)) (ae E E (al (r:=I ((l.length-(uv n).length:Nat):Int)) E E E ((by have e:((l.length-(uv n).length:Nat):Int)=(l.length:Int)-((uv n).length:Int):=(by omega);rw[e];exact bG (by omega) (by omega))) ?_))))))))))
  refine aY E E (ff Mb Mc) (al E E E (cw ((IN (by omega) hn64).2 hlt) cO) (ag (ab (bf E ?_))))
  refine af (aa (ac E E (ac E E (ac E E (ag (ab (au (az (lx E E E E ?_)))))))))
  exact⟨_,rfl,x20,by unfold xN;rw[Jz hs hlt];exact rfl⟩
 ·refine aa (ae E E (an gJ E E ((Hs (st:=some (l.take 10)) rr hU)) ?_))
  rintro v20 w20 ⟨g16,rfl,r1⟩
  have x20:=(x17).of_new g16 lg
  refine ae E E (am E E (bj) (am E E (bk) (ac E E (ac E E (ag (ab (af (af (aa (ae E E (al E E E (cW (by decide) cC) ?_)))))))))))
  refine ag (ab (cp E (aC (ab (af (aa (ae E E (aQ E E (cM (b15.ext x20)) (ae E E (an yz E E ((HT r1)) ?_))))))))))
  rintro v28 _ ⟨rfl,rfl⟩
  refine al (r:=I (((uv n).length:Nat):Int)) E E E ((HU (a:=(l.take 10).length) (b:=t.length) (by rw[List.length_take];omega) (by rw[List.length_take];omega))) ?_
  have hcl:(uv n).length≤l.length:=by omega
  refine ac E E (ag (ab (af (af (aa (ae E E (ae E E (aQ E E (cM (hv.ext x20)) (ae E E (al (r:=I ((l.length-(uv n).length:Nat):Int)) E E E ((by have e:((l.length-(uv n).length:Nat):Int)=(l.length:Int)-((uv n).length:Int):=(by omega);rw[e];exact bG (by omega) (by omega))) ?_))))))))))
  refine aY E E (ff Mb Mc) (al E E E (cW (mt (IN (by omega) hn64).1 (by omega)) cO) (ag ?_))
  refine ab (cp E (aC (ab (af (aa (ae E E (ae E E (aY E E (En Mc Mb (by omega)) ?_))))))))
  refine al (r:=I (((uv n).length+n:Nat):Int)) E E E (by have e:(((uv n).length+n:Nat):Int)=(((uv n).length:Nat):Int)+(n:Int):=(by omega);rw[e];exact aP (by omega) (by omega)) ?_
  refine ac E E (ag (ab (af ?_)))
  have hd:aN w20 w20.drew:=(aN.refl w20).drew
  obtain⟨v45,p45,b45⟩:=um hv (lo:=(uv n).length) (hi:=(uv n).length+n) (by omega) (by omega) .i64 .i64
  refine gS (aN w20) 13 E (by kernel_rfl) ?_
  refine fv 0 E E (by kernel_rfl) E hd ?_
  refine fv 1 E E (by kernel_rfl) E hd ?_
  refine fv 2 E E (by kernel_rfl) E hd ?_
  refine fv 3 E E (by kernel_rfl) E hd ?_
  refine EN 4 E E E E E (by kernel_rfl) E hd (fun w' _=>p45 w') ?_
  refine fv 5 E E (by kernel_rfl) E hd ?_
  refine J4 6 (r:=I (l.length:Int)) E E (by kernel_rfl) E hd (fun w' hw'=>cM (hv.ext (x20.trans hw'))) ?_
  refine fv 7 E E (by kernel_rfl) E hd ?_
  refine J3 8 (r:=I ((l.length-((uv n).length+n):Nat):Int)) E E E (by kernel_rfl) E hd (fun w' _=>by
   have e:((l.length-((uv n).length+n):Nat):Int)=(l.length:Int)-(((uv n).length+n:Nat):Int):=by omega
   rw[e];exact bG (by omega) (by omega)) ?_
  refine J3 9 (r:=B (decide (((l.length-((uv n).length+n):Nat):Int)≥8))) E E E (by kernel_rfl) E hd (fun w' _=>iS) ?_
  refine aR 10 (by kernel_rfl) E (ac E E (aI hd ?_))
  refine aR 11 (by kernel_rfl) E (ac E E (aI hd ?_))
  refine aR 12 (by kernel_rfl) E (ac E E (aI hd (gT (by kernel_rfl) ?_)))
  refine ab (au (lx E E E E ?_))
  exact⟨_,rfl,x20.drew,by
   unfold xN
   rw[JA hs hge]
   refine⟨v45,?_,?_⟩
   ·have e1:l.length-(l.drop ((uv n).length+n)).length=(uv n).length+n:=by rw[List.length_drop];omega
    have e2:decide (((l.length-((uv n).length+n):Nat):Int)≥8)=decide (8≤(l.drop ((uv n).length+n)).length):=decide_eq_decide.2 (by rw[List.length_drop];omega)
    rw[e1,e2]
   ·have e3:(l.take ((uv n).length+n)).drop (uv n).length=(l.drop (uv n).length).take n:=by rw[List.drop_take];congr 1;omega
    exact e3▸b45⟩
 ·refine aa (ae E E (an gJ E E ((J6 (st:=some (l.take 10)) rr hU)) ?_))
  rintro v20 w20 ⟨g16,rfl,r1⟩
  have x20:=(x17).of_new g16 lg
  refine ae E E (am E E (bj) (am E E (bk) (ac E E (ac E E (ag (ab (af (af (aa (ae E E (al E E E (cw (by decide) cC) ?_)))))))))))
  refine ag (ab (bf E (af (aa (ac E E (ac E E (ac E E (ag (ab (au (az (lx E E E E ?_))))))))))))
  exact⟨_,rfl,x20,by unfold xN;rw[Jy (Aw hU)];exact rfl⟩
end Go.Rl
namespace Go.Rl
open Go.RowKit Go.Proofs
theorem qg:aG Tryz.prog 41:=⟨_,Tryz.func41,by kernel_rfl,rfl⟩
theorem Gh {b:List UInt8} {k:Nat} (hk:k+8≤b.length):eU b k=decide ((jx (b.take k)).take 8=(b.take (k+8)).drop k):=by
 unfold eU
 rw[decide_eq_true hk,Bool.true_and]
 refine decide_eq_decide.2 ?_
 have e:b.take (k+8)=b.take k++(b.take (k+8)).drop k:=by
  have h:=List.take_append_drop k (b.take (k+8))
  rw[List.take_take,Nat.min_eq_left (by omega)] at h
  exact h.symm
 unfold Cf
 constructor
 ·intro h
  rw[e] at h
  exact List.append_cancel_left h
 ·intro h
  rw[h,←e]
theorem Gi {b:List UInt8} {k:Nat}:b.take k++(b.take (k+8)).drop k=b.take (k+8):=by
 have h:=List.take_append_drop k (b.take (k+8))
 rw[List.take_take,Nat.min_eq_left (by omega)] at h
 exact h
theorem qh {w:World} {b:List UInt8} {v:Value} {k gh g7 g1:Nat} (hb:cn b v w) (k7:cr g7 88 [.pointer (some ⟨gh,0,none⟩)] w) (k1:cr g1 22 [v] w) (hh:HA gh (b.take k) (UInt64.ofNat k) w) (hk:k+8≤b.length) (hl:b.length≤4294967296) (hloc:∀A n c,v=.slice A n c→qH A gh):
 Calls Tryz.prog 41 #[I (k:Int),.pointer (some ⟨g7,0,none⟩),.pointer (some ⟨g1,0,none⟩)] w (bE fun r w'=>Mv (fun j=>j=gh) w w'∧r=B (eU b k)∧HA gh (b.take (k+8)) (UInt64.ofNat (k+8)) w'):=by
 refine enter (vs:=[I (k:Int),.pointer (some ⟨g7,0,none⟩),.pointer (some ⟨g1,0,none⟩)]) Tryz.func41 E E E ?_
 have hhl:=hh.lt
 have hh0:HA gh (b.take k) (UInt64.ofNat (b.take k).length) w:=by rw[List.length_take,Nat.min_eq_left (by omega)];exact hh
 refine af (aa (ac E E (ag (ab (af (aa ?_))))))
 refine ak E E (aj MA E k7.k0) ?_
 refine an yY E E ((yZ hh0)) ?_
 rintro v8 w8 ⟨x8,rfl⟩
 obtain⟨g5,w5,hr5,l5,x5,k5⟩:=aX (P:=Tryz.prog) (w:=w8) (t:=24) (l:=(List.replicate 32 0).map U8) fW rfl
 refine aV E hr5 ?_
 obtain⟨w6,s6,q6,k6⟩:=k5.stS (P:=Tryz.prog) (t:=24) (m:=(jx (b.take k)).map U8) (by simp[dg]) (by rw[List.length_map,dg];exact iZ) (dJ _)
 refine aq E E s6 ?_
 have x6:=x5.of_new q6 l5
 have b32:cn (jx (b.take k)) (.slice (some ⟨g5,0,none⟩) 32 32) w6:=by
  have:=k6.bts (by rw[dg];omega)
  rwa [dg] at this
 have b8:=b32.front (k:=8) (by omega) (by omega)
 have e6:aN w w6:=x8.trans x6
 have hb6:=hb.ext e6
 obtain⟨v14,p14,b14⟩:=um hb6 (lo:=k) (hi:=k+8) (by omega) (by omega) .i64 .i64
 have haw:AA gh v14:=by
  obtain⟨A,n,c,hveq,_⟩:=hb
  subst hveq
  intro a n' c' e he
  have h:=tu (p14 w) (hloc _ _ _ rfl) _ _ _ e a rfl
  omega
 refine ag (ab (af (bO 7 [0,1,2,15] (by kernel_rfl) (by kernel_rfl) ?_)))
 refine jt (a:=none) (b:=some (I 8)) E E E E (fun w _=>vg) ?_
 refine aO E E (fun w' hw=>aj Md E ((k1.ext e6).ext hw).k0) (aD E E (aD E E (bb (r:=I ((k+8:Nat):Int)) E E E (fun w _=>by have e:((k+8:Nat):Int)=(k:Int)+8:=(by omega);rw[e];exact aP (by omega) (by omega)) ?_)))
 refine jt (a:=some (I (k:Int))) (b:=some (I ((k+8:Nat):Int))) E E E E (fun w _=>p14 w) ?_
 refine ca (S:=Is (B (eU b k))) BN (cd.is _) rfl (fun w hw=>by rintro _ rfl _ rfl;exact bE.mono (BO (b8.ext hw) (b14.ext hw)) fun v w' h=>⟨h.1,by rw[Gh hk];exact h.2⟩) ?_
 refine cq ?_
 intro wg2 xg2
 rintro _ rfl
 rintro _ rfl
 rintro _ rfl
 rintro _ rfl
 refine ac E E (ag (ab (af (bO 6 [6,16,21] (by kernel_rfl) (by kernel_rfl) ?_))))
 refine aO E E (fun w' hw=>aj MA E (((k7.ext e6).ext xg2).ext hw).k0) (aO E E (fun w' hw=>aj Md E (((k1.ext e6).ext xg2).ext hw).k0) ?_)
 refine aD E E (aD E E (bb (r:=I ((k+8:Nat):Int)) E E E (fun w _=>by have e:((k+8:Nat):Int)=(k:Int)+8:=(by omega);rw[e];exact aP (by omega) (by omega)) ?_))
 refine jt (a:=some (I (k:Int))) (b:=some (I ((k+8:Nat):Int))) E E E E (fun w _=>p14 w) ?_
 refine cq ?_
 intro wg3 xg3
 rintro _ rfl
 rintro _ rfl
 rintro _ hq21
 obtain rfl:=Eq.symm hq21
 refine an gC E E ((gD (hh.ext ((e6.trans xg2).trans xg3)) (b14.ext (xg2.trans xg3)) fun _=>haw)) ?_
 rintro v22 w22 ⟨g22,h22⟩
 refine ag (ab (af (aa (ae E E (ac E E (ag (ab (au (aA E E ?_)))))))))
 exact⟨_,rfl,(Mv.of_ext ((e6.trans xg2).trans xg3)).trans (Mv.of_grown g22 fun j hj _=>(Option.some.inj hj).symm) fun _ h _=>h,rfl,by
  rw[Gi] at h22
  have e:UInt64.ofNat k+UInt64.ofNat ((b.take (k+8)).drop k).length=UInt64.ofNat (k+8):=by
   have:((b.take (k+8)).drop k).length=8:=by rw[List.length_drop,List.length_take];omega
   rw[this,←UInt64.ofNat_add]
  rw[e] at h22
  exact h22⟩
end Go.Rl
namespace Go.Rl
open Go.RowKit Go.Proofs
theorem qi:aG Tryz.prog 13:=⟨_,Tryz.func13,by kernel_rfl,rfl⟩
theorem JB {b:List UInt8} {k n:Nat}:b.take k++(b.take (k+n)).drop k=b.take (k+n):=by
 have h:=List.take_append_drop k (b.take (k+n))
 rw[List.take_take,Nat.min_eq_left (by omega)] at h
 exact h
theorem HA.on {g k n:Nat} {b:List UInt8} {w:World} (hk:k+n≤b.length) (h:HA g (b.take k++(b.take (k+n)).drop k) (UInt64.ofNat k+UInt64.ofNat ((b.take (k+n)).drop k).length) w):HA g (b.take (k+n)) (UInt64.ofNat (k+n)) w:=by
 rw[JB] at h
 have e:UInt64.ofNat k+UInt64.ofNat ((b.take (k+n)).drop k).length=UInt64.ofNat (k+n):=by
  have:((b.take (k+n)).drop k).length=n:=by rw[List.length_drop,List.length_take];omega
  rw[this,←UInt64.ofNat_add]
 rw[e] at h
 exact h
theorem Iu {b p t:List UInt8} {k:Nat} (h:ql (b.drop k)=some (p,t)) (he:iy p=none):ia b k=none:=by
 cases hc:eU b (b.length-t.length) with
 |false=>exact po h hc
 |true=>exact Cn h hc he
theorem Iv {b:List UInt8} {k:Nat} (h:b.length<k+8):eU b k=false:=by
 unfold eU;rw[decide_eq_false (by omega)];rfl
theorem AP {b x:List UInt8} {v r:Value} {g:Nat} {w:World} {lo hi mx:Option Value} (hb:cn b v w) (hloc:∀A n c,v=.slice A n c→qH A g) (hrun:(Instr.sliceAt 22 v lo hi mx).run Tryz.prog w=.ok r w):0<x.length→AA g r:=by
 obtain⟨A,n,c,hveq,_⟩:=hb
 subst hveq
 intro _ a n' c' e he
 have h:=tu hrun (hloc _ _ _ rfl) _ _ _ e a rfl
 omega
theorem JC {b:List UInt8} {v:Value} {w:World} {g:Nat} (hb:cn b v w) (h0:0<b.length) (hg:w.heap.size≤g):∀A n c,v=.slice A n c→qH A g:=by
 obtain⟨A,n,c,rfl,h1,h2,h3,h4,h5⟩:=hb
 intro A' n' c' e ad hA
 cases e
 obtain⟨ad',e',hc⟩:=h4 (by simp at h3;omega)
 rw[hA] at e'
 cases e'
 have:=hc.block_lt (by intro e;simp at e;simp[e] at h0)
 omega
theorem L0 {g:Nat} {m:List UInt8} {tot:UInt64} {w w':World} {X:Nat→Prop} (h:HA g m tot w) (hm:Mv X w w') (hx:¬X g):HA g m tot w':=by
 obtain⟨blk,hc,ht⟩:=h
 exact⟨blk,⟨hm.blk hc.hb hx,hc.ls,hc.lb⟩,ht⟩
theorem zu {w:World} {b:List UInt8} {v:Value} (hv:cn b v w) (hl:b.length≤7340032):
 Calls Tryz.prog 13 #[v] w (bE fun r w'=>aN w w'∧jO w.heap.size b r w'):=by
 refine enter (vs:=[v]) Tryz.func13 E E E ?_
 refine af (aa ?_)
 have hvc:v.cells=[v].toArray:=by obtain⟨A,n,c,rfl,_⟩:=hv;rfl
 obtain⟨g1,w1,hr1,l1,x1,k1⟩:=Dk (P:=Tryz.prog) (w:=w) (t:=22) (l:=[v]) hvc
 refine cI E E hr1 ?_
 obtain⟨g2,w2,hr2,l2,x2,k2⟩:=aX (P:=Tryz.prog) (w:=w1) (t:=24) (l:=oo.map U8) fW rfl
 refine aV E hr2 ?_
 have g12:g1<g2:=by have:=k1.lt;omega
 have e2:aN w w2:=x1.trans x2
 have k12:=k1.ext x2
 have hv2:=hv.ext e2
 refine ac E E (ac E E (ac E E (ag (ab (af (aa (ac E E (ag (ab (af (af (aa ?_))))))))))))
 refine ak E E (aj Md E k12.k0) ?_
 refine aQ E E (cM hv2) (ae E E (al (r:=I ((44:Nat):Int)) E E E (by have e:((44:Nat):Int)=36+8:=(by omega);rw[e];exact aP (by omega) (by omega)) ?_))
 refine al E E E (bc) (ae E E ?_)
 refine cb (fun h20=>?_) (fun h20=>?_)
 ·refine ao E E E (ao E E E (ao E E E (ao E E E (ap E E E (ag (ab (bf E (af (aa ?_)))))))))
  refine bC (vs:=[]) (r:=.agg (oo.map U8).toArray) E E (run_build _ _ _ _ (by kernel_rfl)) ?_
  obtain⟨wR,sR,qR,kR⟩:=k2.stS (P:=Tryz.prog) (t:=24) (m:=oo.map U8) rfl eh (dJ _)
  refine aq E E sR ?_
  have xR:=aN.of_new e2 qR (Nat.le_trans x1.size l2)
  refine ac E E (ac E E (ac E E (ag (ab (au (az ?_))))))
  refine fe E E E E E kR Mm E eh ?_
  exact⟨_,rfl,xR,jO.err (by
   first
   |exact .inl (by omega)
   |exact .inr (.inl (by assumption)))⟩
 ·refine ai E ?_
  refine ak E E (aj Md E k12.k0) ?_
  refine ai E ?_
  obtain⟨v22,p22,b22⟩:=iU hv2 (hi:=4) (by omega) .i64
  refine cJ E E E E E (p22 _) (ai E (aY E E (mi b22) (ai E (al (v:=S [82,76,85,74]) E E E (rY) (aE E E E ?_)))))
  refine ag (ab ?_)
  refine bw E (fun h25=>?_) (fun h25=>?_)
  ·refine af (aa ?_)
   refine bC (vs:=[]) (r:=.agg (oo.map U8).toArray) E E (run_build _ _ _ _ (by kernel_rfl)) ?_
   obtain⟨wR,sR,qR,kR⟩:=k2.stS (P:=Tryz.prog) (t:=24) (m:=oo.map U8) rfl eh (dJ _)
   refine aq E E sR ?_
   have xR:=aN.of_new e2 qR (Nat.le_trans x1.size l2)
   refine ac E E (ac E E (ac E E (ag (ab (au (az ?_))))))
   refine fe E E E E E kR Mm E eh ?_
   exact⟨_,rfl,xR,jO.err (by
    first
    |exact .inl (by omega)
    |exact .inr (.inl (by assumption)))⟩
  ·refine aC (ab (af ?_))
   have h44:44≤b.length:=by omega
   refine aa (an yW E E ((yX _)) ?_)
   rintro v27 w27 ⟨x27,gh,lgh,rfl,hh27⟩
   obtain⟨g7,w7,hr7,l7,x7,k7⟩:=aX (P:=Tryz.prog) (w:=w27) (t:=88) (z:=.pointer none) (l:=[.pointer none]) (by kernel_rfl) rfl
   refine aV E hr7 ?_
   obtain⟨w8,s8,q8,k8⟩:=k7.stC (P:=Tryz.prog) (t:=88) (i:=0) (v:=.pointer (some ⟨gh,0,none⟩)) (by kernel_rfl) rfl (by simp)
   refine aq E E s8 ?_
   have x8:=aN.of_new x7 q8 l7
   have k8:cr g7 88 [.pointer (some ⟨gh,0,none⟩)] w8:=k8
   have hh8:=hh27.ext x8
   have e8:aN w w8:=(e2.trans x27).trans x8
   have hv8:=hv.ext e8
   have k18:=(k12.ext x27).ext x8
   have k28:=(k2.ext x27).ext x8
   have ghlt:=hh27.lt
   have g2lt:=k2.lt
   have g17:g7≠gh:=by omega
   have g1h:g1≠gh:=by omega
   have g2h:g2≠gh:=by omega
   have hgh:w.heap.size≤gh:=by have:=e2.size;omega
   have hloc:=JC hv (by omega) hgh
   obtain⟨v31,p31,b31⟩:=iU hv8 (hi:=36) (by omega) .i64
   refine ag (ab (af (bO 4 [1,2,6,7,28,31] (by kernel_rfl) (by kernel_rfl) ?_)))
   refine aO E E (fun w' hw=>aj MA E (k8.ext hw).k0) (aO E E (fun w' hw=>aj Md E (k18.ext hw).k0) ?_)
   refine aD E E ?_
   refine jt (a:=none) (b:=some (I 36)) E E E E (fun w _=>p31 w) ?_
   refine cq ?_
   intro wg5 xg5
   rintro _ rfl
   rintro _ rfl
   rintro _ rfl
   rintro _ rfl
   rintro _ rfl
   rintro _ hq31
   obtain rfl:=Eq.symm hq31
   refine an gC E E ((gD (hh8.ext xg5) (b31.ext xg5) (AP hv8 hloc (p31 _)))) ?_
   rintro v32 w32 ⟨g32,h32⟩
   have hh32:HA gh (b.take 36) (UInt64.ofNat 36) w32:=by
    have e:(0:UInt64)+UInt64.ofNat (b.take 36).length=UInt64.ofNat 36:=by rw[List.length_take,Nat.min_eq_left (by omega)];rfl
    rw[e] at h32
    exact h32
   have m32:Mv (fun j=>j=gh) w8 w32:=(Mv.of_ext xg5).trans (Mv.of_grown g32 fun j hj _=>(Option.some.inj hj).symm) fun _ hj _=>hj
   have k732:=m32.blk k8 g17
   have k132:=m32.blk k18 g1h
   have k232:=m32.blk k28 g2h
   have hv32:=hv.ext (Mv.ext_from m32 e8 fun j hj=>by have:j=gh:=hj;omega)
   refine ag (ab (af (aa ?_)))
   refine CI (us:=[]) (vs:=[.pointer (some ⟨g7,0,none⟩),.pointer (some ⟨g1,0,none⟩)]) E E E ?_
   refine ac E E (ag (ab (af (af ?_))))
   rcases hC:eU b 36
   ·refine aa (ae E E (ae E E (mj E qg E E ((by have h:=qh (k:=36) hv32 k732 k132 hh32 (by omega) (by omega) hloc;rw[hC] at h;exact h)) ?_)))
    rintro v36 w36 ⟨m36,rfl,hh36⟩
    have m836:=m32.trans m36 fun _ hj _=>hj
    have k236:=m36.blk k232 g2h
    refine bo E E bu (ag (ab (bf E (af (aa ?_)))))
    refine bC (vs:=[]) (r:=.agg (oo.map U8).toArray) E E (run_build _ _ _ _ (by kernel_rfl)) ?_
    obtain⟨wR,sR,qR,kR⟩:=k236.stS (P:=Tryz.prog) (t:=24) (m:=oo.map U8) rfl eh (dJ _)
    refine aq E E sR ?_
    have xR:=aN.of_new (Mv.ext_from m836 e8 fun j hj=>by have:j=gh:=hj;omega) qR (Nat.le_trans x1.size l2)
    refine ac E E (ac E E (ac E E (ag (ab (au (az ?_))))))
    refine fe E E E E E kR Mm E eh ?_
    exact⟨_,rfl,xR,jO.err (.inr (.inr hC))⟩
   ·refine aa (ae E E (ae E E (mj E qg E E ((by have h:=qh (k:=36) hv32 k732 k132 hh32 (by omega) (by omega) hloc;rw[hC] at h;exact h)) ?_)))
    rintro v36 w36 ⟨m36,rfl,hh36⟩
    have m836:=m32.trans m36 fun _ hj _=>hj
    have k236:=m36.blk k232 g2h
    have k136:=m36.blk k132 g1h
    have k736:=m36.blk k732 g17
    have e36:aN w w36:=Mv.ext_from m836 e8 fun j hj=>by have:j=gh:=hj;omega
    have gh36:=hh36.lt
    refine bo E E bu (ag (ab (cp E (aC (ab (af (aa (ae E E (al (r:=I ((44:Nat):Int)) E E E (by have e:((44:Nat):Int)=36+8:=(by omega);rw[e];exact aP (by omega) (by omega)) ?_)))))))))
    refine ac E E (ag (ab (af ?_)))
    have hOK:¬(b.length<44∨b.take 4≠kX∨eU b 36=false):=by
     rintro(h|h|h)
     ·omega
     ·exact h25 h
     ·rw[hC] at h;cases h
    have s32:(Tryz.prog.info? 24).map (·.size)=some ((((b.take 36).drop 4)).map U8).length:=by rw[List.length_map,List.length_drop,List.length_take,Nat.min_eq_left (by omega)];exact iZ
    refine aa (ac E E (ag (ab (af (aH ?_)))))
    refine ju (fun(k:Nat) (ve:Value) (es:List bR)=>[(1,.pointer (some ⟨g1,0,none⟩)),(2,.pointer (some ⟨g2,0,none⟩)),(6,I 36),(7,.pointer (some ⟨g7,0,none⟩)),(8,.func (.func 41) #[] #[.pointer (some ⟨g7,0,none⟩),.pointer (some ⟨g1,0,none⟩)]),(9,I (k:Int)),(10,ve)]) (fun(k:Nat) (ve:Value) (es:List bR) w'=>Mv (fun j=>j=gh) w36 w'∧HA gh (b.take k) (UInt64.ofNat k) w'∧f9 54 10 w36.heap.size i0 es ve w'∧44≤k∧k≤b.length∧fJ b 44=(es++(fJ b k).1,(fJ b k).2)∧es.length≤k) (fun(k:Nat) (ve:Value) (es:List bR)=>b.length-k) (44) (.slice none 0 0) ([]) ⟨rfl,rfl,rfl,rfl,rfl,rfl,rfl,trivial⟩ ⟨Mv.refl _ _,hh36,f9.nil _,by omega,by omega,by simp,by simp⟩ ?_
    rintro k ve es wL ⟨mL,hhL,oL,hk1,hk2,hJ,hel⟩
    refine aH (af ?_)
    have szL:=mL.size
    have k1L:=mL.blk k136 g1h
    have k2L:=mL.blk k236 g2h
    have k7L:=mL.blk k736 g17
    have eL:aN w wL:=Mv.ext_from mL e36 fun j hj=>by have:j=gh:=hj;omega
    have hvL:=hv.ext eL
    have hdl:(b.drop k).length=b.length-k:=List.length_drop
    obtain⟨v44,p44,b44⟩:=gt hvL (lo:=k) (by omega) .i64
    have hrec:=DM b44 (by omega)
    rcases hB:ql (b.drop k) with _|⟨p,t⟩
    rotate_left
    have hbl:=HV hB
    rcases Nat.lt_or_ge t.length 8 with h8|h8
    ·simp only[xN,hB,decide_eq_false (Nat.not_le.2 h8)] at hrec
     refine aa ?_
     refine ak E E (aj Md E k1L.k0) ?_
     refine ae E E ?_
     refine cJ E E E E E (p44 _) ?_
     refine an rI E E (hrec) ?_
     rintro v45 w45 ⟨x45,vp,rfl,bp⟩
     refine ae E E (am E E (gn) (am E E (gp) (am E E (gq) (ac E E (ac E E (ac E E (ag ?_)))))))
     refine ab (af (af (aa (ae E E (bo E E bu (ag (ab (bf E (bg (aJ (yb E (aJ (bh (ab (af ?_)))))))))))))))
     have mX:=Mv.of_ext (X:=fun j=>j=gh) x45
     have hfin:=DJ hJ (po hB (Iv (by omega)))
     have k1X:=mX.blk k1L g1h
     have k2X:=mX.blk k2L g2h
     have eX:=Mv.ext_from mX eL fun j hj=>by have:j=gh:=hj;omega
     obtain⟨v84,p84,b84⟩:=um (hv.ext eX) (lo:=4) (hi:=36) (by omega) (by omega) .i64 .i64
     have l84:((b.take 36).drop 4).length=32:=by rw[List.length_drop,List.length_take];omega
     obtain⟨ad,p85,c85⟩:=EC b84 l84
     obtain⟨wR,sR,qR,kR⟩:=k2X.stS (P:=Tryz.prog) (t:=24) (m:=((b.take 36).drop 4).map U8) (by rw[List.length_map,List.length_map,l84];rfl) s32 (dJ _)
     have eR:=aN.of_new eX qR (Nat.le_trans x1.size l2)
     have oR:=(oL.mv mX fun j hj=>by have:j=gh:=hj;omega).mv (Mv.of_grown (X:=fun j=>j=g2) qR fun j hj _=>(Option.some.inj hj).symm) fun j hj=>by have:j=g2:=hj;have:=k236.lt;omega
     refine aa ?_
     refine ak E E (aj Md E k1X.k0) ?_
     refine ae E E ?_
     refine cJ E E E E E (p84 _) ?_
     refine pr E E (p85 _) ?_
     refine ak E E (u5 c85 l84) ?_
     refine ae E E (ae E E ?_)
     refine aq E E sR ?_
     refine ac E E (ac E E (ac E E (ag (ab (au ?_)))))
     refine fe E E E E E kR Mm E s32 ?_
     exact⟨_,rfl,eR,jO.ok hOK hfin ((oR.rpx cR (by omega)).weak fun j hj=>.inl (by show j<w36.heap.size;have:=e36.size;omega))⟩
    ·simp only[xN,hB,decide_eq_true h8] at hrec
     have ekn:k+((b.drop k).length-t.length)=b.length-t.length:=by omega
     refine aa ?_
     refine ak E E (aj Md E k1L.k0) ?_
     refine ae E E ?_
     refine cJ E E E E E (p44 _) ?_
     refine an rI E E (hrec) ?_
     rintro v45 w45 ⟨x45,vp,rfl,bp⟩
     refine ae E E (am E E (gn) (am E E (gp) (am E E (gq) (ac E E (ac E E (ac E E (ag ?_)))))))
     refine ab (af (af (aa (ae E E (bo E E bu (ag (ab (cp E (aC (ab (af (aa (ae E E (an DK E E ((DL (bp.ext x45) (by omega))) ?_))))))))))))))
     rintro v53 w53 ⟨x53,u,cs,ok,rfl,rp53,h1cs,hok1,hok2⟩
     refine ae E E (am E E (bj) (am E E (bk) ?_))
     obtain⟨g14,w14,hr14,l14,x14,k14⟩:=aX (P:=Tryz.prog) (w:=w53) (t:=54) (z:=.agg #[.slice none 0 0,.slice none 0 0,I 0,I 0,B false,.slice none 0 0,.slice none 0 0,.slice none 0 0,B false,.slice none 0 0]) (l:=[.slice none 0 0,.slice none 0 0,I 0,I 0,B false,.slice none 0 0,.slice none 0 0,.slice none 0 0,B false,.slice none 0 0]) (by kernel_rfl) rfl
     refine aV E hr14 ?_
     have hcs:cs.length=10:=rp53.len.trans (cR u)
     obtain⟨wE,sE,qE,kE⟩:=k14.stS (P:=Tryz.prog) (t:=54) (m:=cs) (by rw[hcs];rfl) (by rw[hcs];kernel_rfl) h1cs
     refine aq E E sE ?_
     have xE:=aN.of_new x14 qE l14
     have eLE:aN wL wE:=(x45.trans x53).trans xE
     have rpE:=rp53.ext xE
     have k7E:=k7L.ext eLE
     have k1E:=k1L.ext eLE
     have hhE:=hhL.ext eLE
     have hvE:=hvL.ext eLE
     have s45:=x45.size
     have g14h:g14≠gh:=by have:=x53.size;have:=mL.size;omega
     obtain⟨v62,p62,b62⟩:=um hvE (lo:=k) (hi:=k+((b.drop k).length-t.length)) (by omega) (by omega) .i64 .i64
     refine ac E E (ag (ab (af ?_)))
     rcases hok:ok
     ·subst hok
      refine bO 7 [1,2,6,7,8,9,10,11,13,14,56,62] (by kernel_rfl) (by kernel_rfl) ?_
      refine aO E E (fun w' hw=>aj MA E (k7E.ext hw).k0) (aO E E (fun w' hw=>aj Md E (k1E.ext hw).k0) ?_)
      refine aD E E (aD E E (aD E E (bb (r:=I ((k+((b.drop k).length-t.length):Nat):Int)) E E E (fun w _=>by have e:((k+((b.drop k).length-t.length):Nat):Int)=(k:Int)+(((b.drop k).length-t.length):Nat):=(by omega);rw[e];exact aP (by omega) (by omega)) ?_)))
      refine jt (a:=some (I (k:Int))) (b:=some (I ((k+((b.drop k).length-t.length):Nat):Int))) E E E E (fun w _=>p62 w) ?_
      refine cq ?_
      intro wg14 xg14
      rintro _ rfl
      rintro _ rfl
      rintro _ rfl
      rintro _ rfl
      rintro _ rfl
      rintro _ rfl
      rintro _ hq10
      obtain rfl:=Eq.symm hq10
      rintro _ rfl
      rintro _ rfl
      rintro _ rfl
      rintro _ rfl
      rintro _ hq62
      obtain rfl:=Eq.symm hq62
      refine an gC E E ((gD (hhE.ext xg14) (b62.ext xg14) (AP hvE hloc (p62 _)))) ?_
      rintro v63 w63 ⟨g63,h63⟩
      have hh63:=HA.on (by omega) h63
      have m63:Mv (fun j=>j=gh) wL w63:=(Mv.of_ext (eLE.trans xg14)).trans (Mv.of_grown g63 fun j hj _=>(Option.some.inj hj).symm) fun _ hj _=>hj
      have mE63:Mv (fun j=>j=gh) wE w63:=(Mv.of_ext xg14).trans (Mv.of_grown g63 fun j hj _=>(Option.some.inj hj).symm) fun _ hj _=>hj
      have k763:=m63.blk k7L g17
      have k163:=m63.blk k1L g1h
      have hv63:=hv.ext (Mv.ext_from m63 eL fun j hj=>by have:j=gh:=hj;omega)
      refine ag (ab (af (af (aa (ae E E (bo E E bu (ae E E (ao E E E (ao E E E (ao E E E (ao E E E (ao E E E ?_))))))))))))
      refine ao E E E (ap E E E (ag (ab (bf E (bg (aJ (yb E (aJ (bh (ab (af ?_)))))))))))
      have mX:=m63
      have hfin:=DJ hJ (Iu hB (hok2 rfl))
      have k1X:=mX.blk k1L g1h
      have k2X:=mX.blk k2L g2h
      have eX:=Mv.ext_from mX eL fun j hj=>by have:j=gh:=hj;omega
      obtain⟨v84,p84,b84⟩:=um (hv.ext eX) (lo:=4) (hi:=36) (by omega) (by omega) .i64 .i64
      have l84:((b.take 36).drop 4).length=32:=by rw[List.length_drop,List.length_take];omega
      obtain⟨ad,p85,c85⟩:=EC b84 l84
      obtain⟨wR,sR,qR,kR⟩:=k2X.stS (P:=Tryz.prog) (t:=24) (m:=((b.take 36).drop 4).map U8) (by rw[List.length_map,List.length_map,l84];rfl) s32 (dJ _)
      have eR:=aN.of_new eX qR (Nat.le_trans x1.size l2)
      have oR:=(oL.mv mX fun j hj=>by have:j=gh:=hj;omega).mv (Mv.of_grown (X:=fun j=>j=g2) qR fun j hj _=>(Option.some.inj hj).symm) fun j hj=>by have:j=g2:=hj;have:=k236.lt;omega
      refine aa ?_
      refine ak E E (aj Md E k1X.k0) ?_
      refine ae E E ?_
      refine cJ E E E E E (p84 _) ?_
      refine pr E E (p85 _) ?_
      refine ak E E (u5 c85 l84) ?_
      refine ae E E (ae E E ?_)
      refine aq E E sR ?_
      refine ac E E (ac E E (ac E E (ag (ab (au ?_)))))
      refine fe E E E E E kR Mm E s32 ?_
      exact⟨_,rfl,eR,jO.ok hOK hfin ((oR.rpx cR (by omega)).weak fun j hj=>.inl (by show j<w36.heap.size;have:=e36.size;omega))⟩
     ·subst hok
      have hent:=hok1 rfl
      refine bO 7 [1,2,6,7,8,9,10,11,13,14,56,62] (by kernel_rfl) (by kernel_rfl) ?_
      refine aO E E (fun w' hw=>aj MA E (k7E.ext hw).k0) (aO E E (fun w' hw=>aj Md E (k1E.ext hw).k0) ?_)
      refine aD E E (aD E E (aD E E (bb (r:=I ((k+((b.drop k).length-t.length):Nat):Int)) E E E (fun w _=>by have e:((k+((b.drop k).length-t.length):Nat):Int)=(k:Int)+(((b.drop k).length-t.length):Nat):=(by omega);rw[e];exact aP (by omega) (by omega)) ?_)))
      refine jt (a:=some (I (k:Int))) (b:=some (I ((k+((b.drop k).length-t.length):Nat):Int))) E E E E (fun w _=>p62 w) ?_
      refine cq ?_
      intro wg14 xg14
      rintro _ rfl
      rintro _ rfl
      rintro _ rfl
      rintro _ rfl
      rintro _ rfl
      rintro _ rfl
      rintro _ hq10
      obtain rfl:=Eq.symm hq10
      rintro _ rfl
      rintro _ rfl
      rintro _ rfl
      rintro _ rfl
      rintro _ hq62
      obtain rfl:=Eq.symm hq62
      refine an gC E E ((gD (hhE.ext xg14) (b62.ext xg14) (AP hvE hloc (p62 _)))) ?_
      rintro v63 w63 ⟨g63,h63⟩
      have hh63:=HA.on (by omega) h63
      have m63:Mv (fun j=>j=gh) wL w63:=(Mv.of_ext (eLE.trans xg14)).trans (Mv.of_grown g63 fun j hj _=>(Option.some.inj hj).symm) fun _ hj _=>hj
      have mE63:Mv (fun j=>j=gh) wE w63:=(Mv.of_ext xg14).trans (Mv.of_grown g63 fun j hj _=>(Option.some.inj hj).symm) fun _ hj _=>hj
      have k763:=m63.blk k7L g17
      have k163:=m63.blk k1L g1h
      have hv63:=hv.ext (Mv.ext_from m63 eL fun j hj=>by have:j=gh:=hj;omega)
      refine ag (ab (af (af ?_)))
      rcases hC2:eU b (b.length-t.length)
      ·refine aa (ae E E (bo E E bu (ae E E (ai E (ae E E (ai E (ae E E (ai E (ae E E (ai E (al (r:=I ((k+((b.drop k).length-t.length):Nat):Int)) E E E (by have e:((k+((b.drop k).length-t.length):Nat):Int)=(k:Int)+(((b.drop k).length-t.length):Nat):=(by omega);rw[e];exact aP (by omega) (by omega)) ?_)))))))))))
       refine ai E (mj E qg E E ((by have h:=qh (k:=k+((b.drop k).length-t.length)) hv63 k763 k163 hh63 (by omega) (by omega) hloc;rw[ekn,hC2] at h;rw[ekn];exact h)) ?_)
       rintro v71 w71 ⟨m71,rfl,hh71⟩
       refine ai E (bo E E bu (aE E E E (ag (ab (bf E (bg (aJ (yb E (aJ (bh (ab (af ?_))))))))))))
       have mX:=m63.trans m71 fun _ hj _=>hj
       have hfin:=DJ hJ (po hB hC2)
       have k1X:=mX.blk k1L g1h
       have k2X:=mX.blk k2L g2h
       have eX:=Mv.ext_from mX eL fun j hj=>by have:j=gh:=hj;omega
       obtain⟨v84,p84,b84⟩:=um (hv.ext eX) (lo:=4) (hi:=36) (by omega) (by omega) .i64 .i64
       have l84:((b.take 36).drop 4).length=32:=by rw[List.length_drop,List.length_take];omega
       obtain⟨ad,p85,c85⟩:=EC b84 l84
       obtain⟨wR,sR,qR,kR⟩:=k2X.stS (P:=Tryz.prog) (t:=24) (m:=((b.take 36).drop 4).map U8) (by rw[List.length_map,List.length_map,l84];rfl) s32 (dJ _)
       have eR:=aN.of_new eX qR (Nat.le_trans x1.size l2)
       have oR:=(oL.mv mX fun j hj=>by have:j=gh:=hj;omega).mv (Mv.of_grown (X:=fun j=>j=g2) qR fun j hj _=>(Option.some.inj hj).symm) fun j hj=>by have:j=g2:=hj;have:=k236.lt;omega
       refine aa ?_
       refine ak E E (aj Md E k1X.k0) ?_
       refine ae E E ?_
       refine cJ E E E E E (p84 _) ?_
       refine pr E E (p85 _) ?_
       refine ak E E (u5 c85 l84) ?_
       refine ae E E (ae E E ?_)
       refine aq E E sR ?_
       refine ac E E (ac E E (ac E E (ag (ab (au ?_)))))
       refine fe E E E E E kR Mm E s32 ?_
       exact⟨_,rfl,eR,jO.ok hOK hfin ((oR.rpx cR (by omega)).weak fun j hj=>.inl (by show j<w36.heap.size;have:=e36.size;omega))⟩
      ·refine aa (ae E E (bo E E bu (ae E E (ai E (ae E E (ai E (ae E E (ai E (ae E E (ai E (al (r:=I ((k+((b.drop k).length-t.length):Nat):Int)) E E E (by have e:((k+((b.drop k).length-t.length):Nat):Int)=(k:Int)+(((b.drop k).length-t.length):Nat):=(by omega);rw[e];exact aP (by omega) (by omega)) ?_)))))))))))
       refine ai E (mj E qg E E ((by have h:=qh (k:=k+((b.drop k).length-t.length)) hv63 k763 k163 hh63 (by omega) (by omega) hloc;rw[ekn,hC2] at h;rw[ekn];exact h)) ?_)
       rintro v71 w71 ⟨m71,rfl,hh71⟩
       refine ai E (bo E E bu (aE E E E (ag (ab (cp E (aC (ab (af ?_))))))))
       have hst:=EQ hB hC2 hent
       obtain⟨_,_,_,_,_,_,hk9,hkb⟩:=pW hst
       have mE71:=mE63.trans m71 fun _ hj _=>hj
       have m71L:=m63.trans m71 fun _ hj _=>hj
       have kE71:=mE71.blk kE g14h
       have oE:=oL.mv m71L fun j hj=>by have:j=gh:=hj;omega
       have own:∀j,ve.ownBlock=some j→w36.heap.size≤j∧j<wL.heap.size:=oL.lt
       have rp71:=rpE.mv (mE71.weak fun j hj _=>by have:j=gh:=hj;show j<w45.heap.size;have:=mL.size;omega) fun _ hj=>.inl hj
       obtain⟨x76,w76,v77,w77,hr76,hr77,o77,m77,n77⟩:=oE.push (ty:=25) (t:=25) Mp Cm rfl (by omega) (by omega) (by omega) h1cs (rp71.weak fun j hj=>.inl (by
        show j<w45.heap.size
        rcases hj with hj|hj
        ·have:=mL.size;omega
        ·have:=(own j hj).2;omega)) cR (by omega) (Nat.le_trans szL m71L.size)
       refine aa (ae E E ?_)
       refine ak E E (kE71.ld L8 E (by rw[hcs];kernel_rfl)) ?_
       refine aK (vs:=[(0,.agg cs.toArray)]) E E hr76 ?_
       refine ba E E hr77 ?_
       refine ac E E (ag (ab (aa (ae E E (ae E E (al (r:=I ((((b.drop k).length-t.length)+8:Nat):Int)) E E E (by have e:((((b.drop k).length-t.length)+8:Nat):Int)=(((b.drop k).length-t.length):Nat)+8:=(by omega);rw[e];exact aP (by omega) (by omega)) ?_))))))
       refine al (r:=I ((k+(((b.drop k).length-t.length)+8):Nat):Int)) E E E (by have e:((k+(((b.drop k).length-t.length)+8):Nat):Int)=(k:Int)+((((b.drop k).length-t.length)+8:Nat):Int):=(by omega);rw[e];exact aP (by omega) (by omega)) ?_
       refine ac E E (ag (aS ?_))
       refine fZ (k+(((b.drop k).length-t.length)+8)) (v77) (es++[u]) ⟨rfl,rfl,rfl,rfl,rfl,rfl,rfl,trivial⟩ ⟨(mL.trans m71L fun _ hj _=>hj).trans m77 fun j hj hlt=>by have:=(own j hj).1;omega,(by
        have e:k+(((b.drop k).length-t.length)+8)=b.length-t.length+8:=by omega
        rw[e]
        exact L0 hh71 m77 fun hj=>by have:=(own gh hj).1;omega),o77,by omega,by omega,by
        have e:k+(((b.drop k).length-t.length)+8)=b.length-t.length+8:=by omega
        rw[hJ,e,rC hst];simp,by simp;omega⟩ (by omega)
    ·simp only[xN,hB] at hrec
     refine aa ?_
     refine ak E E (aj Md E k1L.k0) ?_
     refine ae E E ?_
     refine cJ E E E E E (p44 _) ?_
     refine an rI E E (hrec) ?_
     rintro v45 w45 ⟨x45,rfl⟩
     refine ae E E (am E E (gn) (am E E (gp) (am E E (gq) (ac E E (ac E E (ac E E (ag ?_)))))))
     refine ab (af (af (aa (ae E E (bo E E bu (ag (ab (bf E (bg (aJ (yb E (aJ (bh (ab (af ?_)))))))))))))))
     have mX:=Mv.of_ext (X:=fun j=>j=gh) x45
     have hfin:=DJ hJ (xM hB)
     have k1X:=mX.blk k1L g1h
     have k2X:=mX.blk k2L g2h
     have eX:=Mv.ext_from mX eL fun j hj=>by have:j=gh:=hj;omega
     obtain⟨v84,p84,b84⟩:=um (hv.ext eX) (lo:=4) (hi:=36) (by omega) (by omega) .i64 .i64
     have l84:((b.take 36).drop 4).length=32:=by rw[List.length_drop,List.length_take];omega
     obtain⟨ad,p85,c85⟩:=EC b84 l84
     obtain⟨wR,sR,qR,kR⟩:=k2X.stS (P:=Tryz.prog) (t:=24) (m:=((b.take 36).drop 4).map U8) (by rw[List.length_map,List.length_map,l84];rfl) s32 (dJ _)
     have eR:=aN.of_new eX qR (Nat.le_trans x1.size l2)
     have oR:=(oL.mv mX fun j hj=>by have:j=gh:=hj;omega).mv (Mv.of_grown (X:=fun j=>j=g2) qR fun j hj _=>(Option.some.inj hj).symm) fun j hj=>by have:j=g2:=hj;have:=k236.lt;omega
     refine aa ?_
     refine ak E E (aj Md E k1X.k0) ?_
     refine ae E E ?_
     refine cJ E E E E E (p84 _) ?_
     refine pr E E (p85 _) ?_
     refine ak E E (u5 c85 l84) ?_
     refine ae E E (ae E E ?_)
     refine aq E E sR ?_
     refine ac E E (ac E E (ac E E (ag (ab (au ?_)))))
     refine fe E E E E E kR Mm E s32 ?_
     exact⟨_,rfl,eR,jO.ok hOK hfin ((oR.rpx cR (by omega)).weak fun j hj=>.inl (by show j<w36.heap.size;have:=e36.size;omega))⟩
end Go.Rl
namespace Go.Rl
open Go.RowKit Go.Proofs
theorem zv:aG Tryz.prog 21:=⟨_,Tryz.func21,by kernel_rfl,rfl⟩
theorem qj:aG Tryz.prog 20:=⟨_,Tryz.func20,by kernel_rfl,rfl⟩
theorem lh {P:Program} {w:World} {a b c d:Value}:(Instr.extract (.tuple #[a,b,c,d]) 0).run P w=.ok a w:=rfl
theorem li {P:Program} {w:World} {a b c d:Value}:(Instr.extract (.tuple #[a,b,c,d]) 1).run P w=.ok b w:=rfl
theorem lj {P:Program} {w:World} {a b c d:Value}:(Instr.extract (.tuple #[a,b,c,d]) 2).run P w=.ok c w:=rfl
theorem ll {P:Program} {w:World} {a b c d:Value}:(Instr.extract (.tuple #[a,b,c,d]) 3).run P w=.ok d w:=rfl
theorem qk (b:List UInt8):(ib b).1.1.length=32:=by
 unfold ib
 split
 ·exact u7
 ·rename_i h
  show((b.take 36).drop 4).length=32
  rw[List.length_drop,List.length_take];omega
def lu (b:List UInt8) (u:bR) (r:Value) (w':World):Prop:=∃v,r=.tuple #[v,I (nP b u).2]∧cn (nP b u).1 v w'
theorem lu.no1 {b:List UInt8} {u:bR} {w':World} (h:cX u=false):lu b u (.tuple #[.slice none 0 0,I 1]) w':=by
 have e:nP b u=([],1):=by unfold nP;rw[if_pos h]
 unfold lu
 rw[e]
 exact⟨_,rfl,cn.nil _⟩
theorem lu.no2 {b:List UInt8} {u:bR} {w':World} (hv:cX u=true) (h:(ib b).2≠0∨(ib b).1.2.2≠b.length):lu b u (.tuple #[.slice none 0 0,I 5]) w':=by
 have e:nP b u=([],5):=by unfold nP;rw[if_neg (by rw[hv];simp),if_pos h]
 unfold lu
 rw[e]
 exact⟨_,rfl,cn.nil _⟩
theorem lu.yes {b:List UInt8} {u:bR} {v:Value} {w':World} (hv:cX u=true) (h:¬((ib b).2≠0∨(ib b).1.2.2≠b.length)) (hb:cn (fA b (cc u)) v w'):lu b u (.tuple #[v,I 0]) w':=by
 have e:nP b u=(fA b (cc u),0):=by unfold nP;rw[if_neg (by rw[hv];simp),if_neg h]
 unfold lu
 rw[e]
 exact⟨_,rfl,hb⟩
theorem Gj {w:World} {b:List UInt8} {bv:Value} {u:bR} {vd vl x y vk vp:Value} (hb:cn b bv w) (hd:cu dm u.path vd w) (hl:cu cV u.leaf.lems vl w) (hx:bt u.leaf.split.at_.2.1 x w) (hy:bt u.leaf.split.at_.2.2 y w) (hk:cu bH u.leaf.kids vk w) (hp:cu bK u.leaf.pf vp w) (hs:Ip u) (hw:xY u) (hbl:b.length≤4294967296) (hlen:(cc u).length≤4294967296):
 Calls Tryz.prog 21 #[bv,.agg #[vd,vl,I u.leaf.split.kd,I u.leaf.split.ix,B u.leaf.split.at_.1,x,y,vk,B u.leaf.empty,vp]] w (bE fun r w'=>aN w w'∧lu b u r w'):=by
 refine enter (vs:=[bv,.agg #[vd,vl,I u.leaf.split.kd,I u.leaf.split.ix,B u.leaf.split.at_.1,x,y,vk,B u.leaf.empty,vp]]) Tryz.func21 E E E ?_
 refine af (aa ?_)
 obtain⟨g3,w3,hr3,l3,x3,k3⟩:=cD (P:=Tryz.prog) (w:=w) (T:=54) (cs:=[vd,vl,I u.leaf.split.kd,I u.leaf.split.ix,B u.leaf.split.at_.1,x,y,vk,B u.leaf.empty,vp])
 refine cI E E hr3 (ac E E (ac E E (ag (ab (af (af ?_))))))
 rcases hv:cX u
 ·refine aa (ak E E (k3.ld L8 E (by kernel_rfl)) (an kZ E E ((by have h:=la (u:=u) (hd.ext x3) (hl.ext x3) (hx.ext x3) (hy.ext x3) (hk.ext x3) (hp.ext x3) hs;rw[hv] at h;exact h)) ?_))
  rintro v11 w11 ⟨x11,rfl⟩
  refine bo E E bu (ag (ab (bf E (af (aa (ac E E (ac E E (ag (ab (au (az (a9 E E E ?_))))))))))))
  exact⟨_,rfl,(x3.trans x11),lu.no1 hv⟩
 ·refine aa (ak E E (k3.ld L8 E (by kernel_rfl)) (an kZ E E ((by have h:=la (u:=u) (hd.ext x3) (hl.ext x3) (hx.ext x3) (hy.ext x3) (hk.ext x3) (hp.ext x3) hs;rw[hv] at h;exact h)) ?_))
  rintro v11 w11 ⟨x11,rfl⟩
  refine bo E E bu (ag (ab (cp E (aC (ab (af (aa (ae E E (an ua E E ((zr (hb.ext (x3.trans x11)) hbl)) ?_)))))))))
  rintro v15 w15 ⟨x15,ve,rfl,rp15⟩
  refine ae E E (am E E (lh) (am E E (li) (am E E (lj) (am E E (ll) ?_))))
  obtain⟨g6,w6,hr6,l6,x6,k6⟩:=aX (P:=Tryz.prog) (w:=w15) (t:=24) (l:=oo.map U8) fW rfl
  refine aV E hr6 ?_
  obtain⟨w7,s7,q7,k7⟩:=k6.stS (P:=Tryz.prog) (t:=24) (m:=(ib b).1.1.map U8) (by rw[List.length_map,List.length_map,qk];rfl) (by rw[List.length_map,qk];exact iZ) (dJ _)
  refine aq E E s7 ?_
  have x7:=aN.of_new x6 q7 l6
  refine ac E E (ac E E (ac E E (ag (ab (af (af (aa (ae E E (al E E E (cC) (ae E E ?_))))))))))
  refine cb (fun h22=>?_) (fun h22=>?_)
  ·refine ao E E E (ao E E E (ao E E E (ao E E E (ap E E E (ag (ab (bf E (af (aa (ac E E (ac E E (ag ?_))))))))))))
   refine ab (au (az (a9 E E E ?_)))
   exact⟨_,rfl,(((x3.trans x11).trans x15).trans x7),lu.no2 hv (by
    first
    |exact .inl (by assumption)
    |exact .inr (by omega))⟩
  ·refine ai E (ae E E (ai E (ae E E (ai E (aQ E E (cM (hb.ext (((x3.trans x11).trans x15).trans x7))) (ai E (al E E E (cC) ?_)))))))
   refine aE E E E (ag (ab ?_))
   refine bw E (fun h27=>?_) (fun h27=>?_)
   ·refine af (aa (ac E E (ac E E (ag (ab (au (az (a9 E E E ?_))))))))
    exact⟨_,rfl,(((x3.trans x11).trans x15).trans x7),lu.no2 hv (by
     first
     |exact .inl (by assumption)
     |exact .inr (by omega))⟩
   ·refine aC (ab (af (aa (ae E E (ak E E ((k3.ext ((x11.trans x15).trans x7)).ld L8 E (by kernel_rfl)) ?_)))))
    refine an t7 E E ((t8 (hd.ext (((x3.trans x11).trans x15).trans x7)) (hl.ext (((x3.trans x11).trans x15).trans x7)) (hx.ext (((x3.trans x11).trans x15).trans x7)) (hy.ext (((x3.trans x11).trans x15).trans x7)) (hk.ext (((x3.trans x11).trans x15).trans x7)) (hp.ext (((x3.trans x11).trans x15).trans x7)) hw (by omega))) ?_
    rintro v30 w30 ⟨x30,b30⟩
    refine an nQ E E ((nR ((hb.ext ((((x3.trans x11).trans x15).trans x7).trans x30))) b30 (by omega))) ?_
    rintro v31 w31 ⟨x31,o31⟩
    refine ac E E (ac E E (ag (ab (au (a9 E E E ?_)))))
    exact⟨_,rfl,(((((x3.trans x11).trans x15).trans x7).trans x30).trans x31),lu.yes hv (by
     rintro(h|h)
     ·omega
     ·omega) o31.bts⟩
theorem Gk {w:World} {b:List UInt8} {bv:Value} {u:bR} {vd vl x y vk vp:Value} (hb:cn b bv w) (hd:cu dm u.path vd w) (hl:cu cV u.leaf.lems vl w) (hx:bt u.leaf.split.at_.2.1 x w) (hy:bt u.leaf.split.at_.2.2 y w) (hk:cu bH u.leaf.kids vk w) (hp:cu bK u.leaf.pf vp w) (hs:Ip u) (hw:xY u) (hbl:b.length≤7340032) (hlen:(cc u).length≤4294967296):
 Calls Tryz.prog 20 #[bv,.agg #[vd,vl,I u.leaf.split.kd,I u.leaf.split.ix,B u.leaf.split.at_.1,x,y,vk,B u.leaf.empty,vp]] w (bE fun r w'=>aN w w'∧lu b u r w'):=by
 refine enter (vs:=[bv,.agg #[vd,vl,I u.leaf.split.kd,I u.leaf.split.ix,B u.leaf.split.at_.1,x,y,vk,B u.leaf.empty,vp]]) Tryz.func20 E E E ?_
 have hw0:=hw
 refine af (aa ?_)
 obtain⟨g3,w3,hr3,l3,x3,k3⟩:=cD (P:=Tryz.prog) (w:=w) (T:=54) (cs:=[vd,vl,I u.leaf.split.kd,I u.leaf.split.ix,B u.leaf.split.at_.1,x,y,vk,B u.leaf.empty,vp])
 refine cI E E hr3 (ac E E (ac E E (ag (ab (af (af ?_))))))
 rcases hv:cX u
 ·refine aa (ak E E (k3.ld L8 E (by kernel_rfl)) (an jn E E ((by have h:=jo (u:=u) (hd.ext x3) (hl.ext x3) (hx.ext x3) (hy.ext x3) (hk.ext x3) (hp.ext x3) hs;rw[hv] at h;exact h)) ?_))
  rintro v13 w13 ⟨x13,rfl⟩
  refine bo E E bu (ag (ab (bf E (af (aa (ac E E (ac E E (ag (ab (au (az (a9 E E E ?_))))))))))))
  exact⟨_,rfl,(x3.trans x13),lu.no1 hv⟩
 ·refine aa (ak E E (k3.ld L8 E (by kernel_rfl)) (an jn E E ((by have h:=jo (u:=u) (hd.ext x3) (hl.ext x3) (hx.ext x3) (hy.ext x3) (hk.ext x3) (hp.ext x3) hs;rw[hv] at h;exact h)) ?_))
  rintro v13 w13 ⟨x13,rfl⟩
  refine bo E E bu (ag (ab (cp E (aC (ab (af (af (aa (ae E E (an qi E E ((zu (hb.ext (x3.trans x13)) hbl)) ?_))))))))))
  rintro v17 w17 ⟨x17,ve,rfl,rp17⟩
  refine ae E E (am E E (lh) (am E E (li) (am E E (lj) (am E E (ll) ?_))))
  obtain⟨g6,w6,hr6,l6,x6,k6⟩:=aX (P:=Tryz.prog) (w:=w17) (t:=24) (l:=oo.map U8) fW rfl
  refine aV E hr6 ?_
  obtain⟨w7,s7,q7,k7⟩:=k6.stS (P:=Tryz.prog) (t:=24) (m:=(ib b).1.1.map U8) (by rw[List.length_map,List.length_map,qk];rfl) (by rw[List.length_map,qk];exact iZ) (dJ _)
  refine aq E E s7 ?_
  have x7:=aN.of_new x6 q7 l6
  have e7:aN w w7:=(((x3.trans x13).trans x17)).trans x7
  refine ac E E (ac E E (ac E E (ag (ab (af (aa (ae E E (al E E E (cC) (ae E E ?_)))))))))
  refine cb (fun h24=>?_) (fun h24=>?_)
  ·refine ao E E E (ao E E E (ao E E E (ao E E E (ap E E E (ag (ab (bf E (af (aa (ac E E (ac E E (ag ?_))))))))))))
   refine ab (au (az (a9 E E E ?_)))
   exact⟨_,rfl,(((x3.trans x13).trans x17).trans x7),lu.no2 hv (by
    first
    |exact .inl (by assumption)
    |exact .inr (by omega))⟩
  ·refine ai E (ae E E (ai E (ae E E (ai E (aQ E E (cM (hb.ext (((x3.trans x13).trans x17).trans x7))) (ai E (al E E E (cC) ?_)))))))
   refine aE E E E (ag (ab ?_))
   refine bw E (fun h29=>?_) (fun h29=>?_)
   ·refine af (aa (ac E E (ac E E (ag (ab (au (az (a9 E E E ?_))))))))
    exact⟨_,rfl,(((x3.trans x13).trans x17).trans x7),lu.no2 hv (by
     first
     |exact .inl (by assumption)
     |exact .inr (by omega))⟩
   ·refine aC (ab (af ?_))
    have huv:=et (n:=(cc u).length) (by omega)
    refine bO 5 [31,34] (by kernel_rfl) (by kernel_rfl) ?_
    refine aD rfl rfl (ca (S:=df w7.heap.size b) ip (df.stable _ _) rfl (fun w hw=>by rintro _ rfl;exact bE.mono (iq (hb.ext (e7.trans hw)) (by omega)) fun v w' h=>⟨h.1,h.2.low hw.size⟩) ?_)
    refine aO rfl rfl (fun w hw=>((k3.ext ((x13.trans x17).trans x7)).ext hw).ld L8 rfl (by kernel_rfl)) (ca (S:=cn (cc u)) zk (cn.stable _) rfl (fun w hw=>by rintro _ rfl;exact zl (u:=u) (cu.ext hd (e7.trans hw)) (cu.ext hl (e7.trans hw)) (hx.ext (e7.trans hw)) (hy.ext (e7.trans hw)) (cu.ext hk (e7.trans hw)) (cu.ext hp (e7.trans hw)) hw0 (by omega)) ?_)
    refine ca (S:=cn (fh (cc u))) tv (cn.stable _) rfl (fun w hw=>by rintro _ rfl _ h33;exact bE.mono (tw (l:=[]) (cn.nil _) h33 (by simp;omega)) fun v w' h=>⟨h.1,h.2.bts⟩) ?_
    refine cq ?_
    intro wg6 xg6
    intro vg31 o31
    intro vg34 b34
    have xg:aN w7 wg6:=xg6
    obtain⟨v35,w35,hr35,o35,g35⟩:=c6 (ty:=22) o31 b34 (by simp only[fh,List.length_append];omega) xg.size
    have x35:=aN.of_grew xg g35 o31.ge
    refine ba E E hr35 ?_
    have b35:cn (b++fh (cc u)) v35 w35:=o35.bts
    refine ac E E (ag (ab (af (aa (ae E E (an y5 E E ((y8 b35)) ?_))))))
    rintro v37 w37 ⟨x37,rfl⟩
    obtain⟨g11,w11,hr11,l11,x11,k11⟩:=aX (P:=Tryz.prog) (w:=w37) (t:=24) (l:=(List.replicate 32 0).map U8) fW rfl
    refine aV E hr11 ?_
    obtain⟨w12,s12,q12,k12⟩:=k11.stS (P:=Tryz.prog) (t:=24) (m:=(jx (b++fh (cc u))).map U8) (by simp[dg]) (by rw[List.length_map,dg];exact iZ) (dJ _)
    refine aq E E s12 ?_
    have x12:=x11.of_new q12 l11
    have b32:cn (jx (b++fh (cc u))) (.slice (some ⟨g11,0,none⟩) 32 32) w12:=by
     have:=k12.bts (by rw[dg];omega)
     rwa [dg] at this
    have b13:=b32.front (k:=8) (by omega) (by omega)
    have d8:((jx (b++fh (cc u))).take 8).length=8:=by rw[List.length_take,dg];omega
    have e712:aN w7 w12:=(x35.trans x37).trans x12
    have o12:=(o35.ext x37).ext x12
    obtain⟨v40,w40,hr40,o40,g40⟩:=c6 (ty:=22) o12 b13 (by rw[d8];simp only[fh,List.length_append];omega) e712.size
    have x40:=aN.of_grew e712 g40 o12.ge
    refine ag (ab (af (aa (ae E E ?_))))
    refine cJ E E E E E vg ?_
    refine ba E E hr40 ?_
    refine ac E E (ac E E (ag (ab (au (a9 E E E ?_)))))
    exact⟨_,rfl,e7.trans x40,lu.yes hv (by
     rintro(h|h)
     ·omega
     ·omega) (by have h:cn (b++fh (cc u)++(jx (b++fh (cc u))).take 8) v40 w40:=o40.bts;exact h)⟩
end Go.Rl
namespace Go.Rl
open Go.RowKit Go.Proofs
theorem nT:aG Tryz.prog 143:=⟨_,Tryz.func143,by kernel_rfl,rfl⟩
theorem AQ:aG Tryz.prog 51:=⟨_,Tryz.func51,by kernel_rfl,rfl⟩
theorem nU:aG Tryz.prog 16:=⟨_,Tryz.func16,by kernel_rfl,rfl⟩
theorem nV {w:World} {a b:bV} {x y p q:Value} (ha:bt a.at_.2.1 x w) (ha':bt a.at_.2.2 y w) (hb:bt b.at_.2.1 p w) (hb':bt b.at_.2.2 q w):
 Calls Tryz.prog 143 #[.agg #[I a.kd,I a.ix,B a.at_.1,x,y],.agg #[I b.kd,I b.ix,B b.at_.1,p,q]] w (bE fun r w'=>aN w w'∧r=B (decide (a=b))):=by
 refine enter (vs:=[.agg #[I a.kd,I a.ix,B a.at_.1,x,y],.agg #[I b.kd,I b.ix,B b.at_.1,p,q]]) Tryz.func143 E E E ?_
 refine af (aa ?_)
 obtain⟨g2,w2,hr2,l2,x2,k2⟩:=cD (P:=Tryz.prog) (w:=w) (T:=48) (cs:=[I a.kd,I a.ix,B a.at_.1,x,y])
 refine cI E E hr2 ?_
 obtain⟨g3,w3,hr3,l3,x3,k3⟩:=cD (P:=Tryz.prog) (w:=w2) (T:=48) (cs:=[I b.kd,I b.ix,B b.at_.1,p,q])
 refine cI E E hr3 (ac E E (ag (ab (af (aa (ah E E (ar (o:=0) Ma E (by kernel_rfl) E) ?_))))))
 refine ak E E (aj Mb E (x3.cell_some (k2.cell (i:=0) E))) (ah E E (ar (o:=0) Ma E (by kernel_rfl) E) ?_)
 refine ak E E (aj Mb E (k3.cell (i:=0) E)) (al E E E (bi) (ae E E ?_))
 refine cb (fun h10=>?_) (fun h10=>?_)
 ·refine ai E (ah E E (ar (o:=1) Ma E (by kernel_rfl) E) (ai E (ak E E (aj Mb E (x3.cell_some (k2.cell (i:=1) E))) ?_)))
  refine ai E (ah E E (ar (o:=1) Ma E (by kernel_rfl) E) (ai E (ak E E (aj Mb E (k3.cell (i:=1) E)) ?_)))
  refine ai E (al E E E (bi) (ap E E E (ae E E ?_)))
  refine cb (fun h17=>?_) (fun h17=>?_)
  ·refine ai E (ah E E (ar (o:=2) Ma E (by kernel_rfl) E) (ai E (ah E E (cK (b:=2) (o:=0) L9 E (by kernel_rfl) E) ?_)))
   refine ai E (ak E E (aj Me E (x3.cell_some (k2.cell (i:=2) E))) (ai E (ah E E (ar (o:=2) Ma E (by kernel_rfl) E) ?_)))
   refine ai E (ah E E (cK (b:=2) (o:=0) L9 E (by kernel_rfl) E) (ai E (ak E E (aj Me E (k3.cell (i:=2) E)) ?_)))
   refine ai E (al E E E (uZ Me) (ap E E E (ae E E ?_)))
   refine cb (fun h26=>?_) (fun h26=>?_)
   ·refine ai E (ah E E (ar (o:=2) Ma E (by kernel_rfl) E) (ai E (ah E E (cK (b:=2) (o:=1) L9 E (by kernel_rfl) E) ?_)))
    refine ai E (ak E E (aj L5 E (x3.cell_some (k2.cell (i:=3) E))) (ai E (ah E E (ar (o:=2) Ma E (by kernel_rfl) E) ?_)))
    refine ai E (ah E E (cK (b:=2) (o:=1) L9 E (by kernel_rfl) E) (ai E (ak E E (aj L5 E (k3.cell (i:=3) E)) ?_)))
    refine ai E (an sK E E (sO (ha.ext (x2.trans x3)) (hb.ext (x2.trans x3))) ?_)
    rintro v33 w33 ⟨x33,rfl⟩
    refine ap E E E (ae E E ?_)
    refine cb (fun h35=>?_) (fun h35=>?_)
    ·refine ai E (ah E E (ar (o:=2) Ma E (by kernel_rfl) E) (ai E (ah E E (cK (b:=2) (o:=2) L9 E (by kernel_rfl) E) ?_)))
     refine ai E (ak E E (aj L5 E ((x3.trans x33).cell_some (k2.cell (i:=4) E))) (ai E (ah E E (ar (o:=2) Ma E (by kernel_rfl) E) ?_)))
     refine ai E (ah E E (cK (b:=2) (o:=2) L9 E (by kernel_rfl) E) (ai E (ak E E (aj L5 E (x33.cell_some (k3.cell (i:=4) E))) ?_)))
     refine ai E (an sK E E (sO (ha'.ext ((x2.trans x3).trans x33)) (hb'.ext ((x2.trans x3).trans x33))) ?_)
     rintro v42 w42 ⟨x42,rfl⟩
     refine ap E E E (ac E E (ag (ab (au (aA E E ?_)))))
     exact⟨_,rfl,(((x2.trans x3).trans x33).trans x42),by
      first
      |exact congrArg B (decide_eq_decide.2 ⟨fun h=>bV.ext' h10 h17 (Prod.ext h26 (Prod.ext h35 h)),fun h=>by rw[h]⟩)
      |exact congrArg B (decide_eq_false fun h=>h35 (by rw[h])).symm
      |exact congrArg B (decide_eq_false fun h=>h26 (by rw[h])).symm
      |exact congrArg B (decide_eq_false fun h=>h17 (by rw[h])).symm
      |exact congrArg B (decide_eq_false fun h=>h10 (by rw[h])).symm⟩
    ·refine ao E E E (ao E E E (ao E E E (ao E E E (ao E E E (ao E E E (ao E E E (aE E E E (ac E E (ag ?_)))))))))
     refine ab (au (aA E E ?_))
     exact⟨_,rfl,((x2.trans x3).trans x33),by
      first
      |exact congrArg B (decide_eq_decide.2 ⟨fun h=>bV.ext' h10 h17 (Prod.ext h26 (Prod.ext h35 h)),fun h=>by rw[h]⟩)
      |exact congrArg B (decide_eq_false fun h=>h35 (by rw[h])).symm
      |exact congrArg B (decide_eq_false fun h=>h26 (by rw[h])).symm
      |exact congrArg B (decide_eq_false fun h=>h17 (by rw[h])).symm
      |exact congrArg B (decide_eq_false fun h=>h10 (by rw[h])).symm⟩
   ·refine ao E E E (ao E E E (ao E E E (ao E E E (ao E E E (ao E E E (ao E E E (aE E E E (ae E E (ao E E E ?_)))))))))
    refine ao E E E (ao E E E (ao E E E (ao E E E (ao E E E (ao E E E (aE E E E (ac E E (ag (ab (au (aA E E ?_)))))))))))
    exact⟨_,rfl,(x2.trans x3),by
     first
     |exact congrArg B (decide_eq_decide.2 ⟨fun h=>bV.ext' h10 h17 (Prod.ext h26 (Prod.ext h35 h)),fun h=>by rw[h]⟩)
     |exact congrArg B (decide_eq_false fun h=>h35 (by rw[h])).symm
     |exact congrArg B (decide_eq_false fun h=>h26 (by rw[h])).symm
     |exact congrArg B (decide_eq_false fun h=>h17 (by rw[h])).symm
     |exact congrArg B (decide_eq_false fun h=>h10 (by rw[h])).symm⟩
  ·refine ao E E E (ao E E E (ao E E E (ao E E E (ao E E E (ao E E E (ao E E E (aE E E E (ae E E (ao E E E ?_)))))))))
   refine ao E E E (ao E E E (ao E E E (ao E E E (ao E E E (ao E E E (aE E E E (ae E E (ao E E E (ao E E E ?_)))))))))
   refine ao E E E (ao E E E (ao E E E (ao E E E (ao E E E (aE E E E (ac E E (ag (ab (au (aA E E ?_))))))))))
   exact⟨_,rfl,(x2.trans x3),by
    first
    |exact congrArg B (decide_eq_decide.2 ⟨fun h=>bV.ext' h10 h17 (Prod.ext h26 (Prod.ext h35 h)),fun h=>by rw[h]⟩)
    |exact congrArg B (decide_eq_false fun h=>h35 (by rw[h])).symm
    |exact congrArg B (decide_eq_false fun h=>h26 (by rw[h])).symm
    |exact congrArg B (decide_eq_false fun h=>h17 (by rw[h])).symm
    |exact congrArg B (decide_eq_false fun h=>h10 (by rw[h])).symm⟩
 ·refine ao E E E (ao E E E (ao E E E (ao E E E (ao E E E (aE E E E (ae E E (ao E E E (ao E E E (ao E E E ?_)))))))))
  refine ao E E E (ao E E E (ao E E E (ao E E E (aE E E E (ae E E (ao E E E (ao E E E (ao E E E (ao E E E ?_)))))))))
  refine ao E E E (ao E E E (ao E E E (aE E E E (ae E E (ao E E E (ao E E E (ao E E E (ao E E E (ao E E E ?_)))))))))
  refine ao E E E (ao E E E (aE E E E (ac E E (ag (ab (au (aA E E ?_)))))))
  exact⟨_,rfl,(x2.trans x3),by
   first
   |exact congrArg B (decide_eq_decide.2 ⟨fun h=>bV.ext' h10 h17 (Prod.ext h26 (Prod.ext h35 h)),fun h=>by rw[h]⟩)
   |exact congrArg B (decide_eq_false fun h=>h35 (by rw[h])).symm
   |exact congrArg B (decide_eq_false fun h=>h26 (by rw[h])).symm
   |exact congrArg B (decide_eq_false fun h=>h17 (by rw[h])).symm
   |exact congrArg B (decide_eq_false fun h=>h10 (by rw[h])).symm⟩
def zw (l:List dI):Nat:=(l.map fun m=>m.pf.length).sum
def ow (u:bR):Nat:=1+u.path.length+u.leaf.lems.length+u.leaf.pf.length+u.leaf.kids.length+zw u.leaf.lems
theorem Iw {l:List dI} {i:Nat} (hi:i<l.length):zw (l.take (i+1))=zw (l.take i)+l[i].pf.length:=by
 have e:l.take (i+1)=l.take i++[l[i]]:=by rw[List.take_add_one,List.getElem?_eq_getElem hi];rfl
 unfold zw
 rw[e,List.map_append,List.sum_append]
 simp
theorem Iy (l:List dI) (i:Nat):zw (l.take i)≤zw l:=by
 have h:zw l=zw (l.take i)+zw (l.drop i):=by
  conv=>lhs;rw[←List.take_append_drop i l]
  unfold zw
  rw[List.map_append,List.sum_append]
 omega
theorem AR {w:World} {u:bR} {vd vl x y vk vp:Value} (hd:cu dm u.path vd w) (hl:cu cV u.leaf.lems vl w) (_hx:bt u.leaf.split.at_.2.1 x w) (_hy:bt u.leaf.split.at_.2.2 y w) (hk:cu bH u.leaf.kids vk w) (hp:cu bK u.leaf.pf vp w) (hz:ow u≤4611686018427387904):
 Calls Tryz.prog 51 #[.agg #[vd,vl,I u.leaf.split.kd,I u.leaf.split.ix,B u.leaf.split.at_.1,x,y,vk,B u.leaf.empty,vp]] w (bE fun r w'=>aN w w'∧r=I ((ow u:Nat):Int)):=by
 refine enter (vs:=[.agg #[vd,vl,I u.leaf.split.kd,I u.leaf.split.ix,B u.leaf.split.at_.1,x,y,vk,B u.leaf.empty,vp]]) Tryz.func51 E E E ?_
 have hzz:ow u=1+u.path.length+u.leaf.lems.length+u.leaf.pf.length+u.leaf.kids.length+zw u.leaf.lems:=rfl
 refine af (aa ?_)
 obtain⟨g1,w1,hr1,l1,x1,k1⟩:=cD (P:=Tryz.prog) (w:=w) (T:=54) (cs:=[vd,vl,I u.leaf.split.kd,I u.leaf.split.ix,B u.leaf.split.at_.1,x,y,vk,B u.leaf.empty,vp])
 refine cI E E hr1 (ac E E (ag (ab (af (aa (ah E E (ar (o:=0) L8 E (by kernel_rfl) E) ?_))))))
 refine ak E E (aj Mg E (k1.cell (i:=0) E)) (aQ E E (be Mg (hd.ext x1)) ?_)
 refine al (r:=I ((1+u.path.length:Nat):Int)) E E E (by have e:((1+u.path.length:Nat):Int)=1+(u.path.length:Int):=(by omega);rw[e];exact aP (by omega) (by omega)) ?_
 refine ah E E (ar (o:=1) L8 E (by kernel_rfl) E) (ah E E (cK (b:=1) (o:=0) L6 E (by kernel_rfl) E) ?_)
 refine ak E E (aj Mi E (k1.cell (i:=1) E)) (aQ E E (be Mi (hl.ext x1)) (al (r:=I ((1+u.path.length+u.leaf.lems.length:Nat):Int)) E E E (by have e:((1+u.path.length+u.leaf.lems.length:Nat):Int)=((1+u.path.length:Nat):Int)+(u.leaf.lems.length:Int):=(by omega);rw[e];exact aP (by omega) (by omega)) ?_))
 refine ah E E (ar (o:=1) L8 E (by kernel_rfl) E) (ah E E (cK (b:=1) (o:=8) L6 E (by kernel_rfl) E) ?_)
 refine ak E E (aj Mj E (k1.cell (i:=9) E)) (aQ E E (be Mj (hp.ext x1)) (al (r:=I ((1+u.path.length+u.leaf.lems.length+u.leaf.pf.length:Nat):Int)) E E E (by have e:((1+u.path.length+u.leaf.lems.length+u.leaf.pf.length:Nat):Int)=((1+u.path.length+u.leaf.lems.length:Nat):Int)+(u.leaf.pf.length:Int):=(by omega);rw[e];exact aP (by omega) (by omega)) ?_))
 refine ah E E (ar (o:=1) L8 E (by kernel_rfl) E) (ah E E (cK (b:=1) (o:=6) L6 E (by kernel_rfl) E) ?_)
 refine ak E E (aj Mh E (k1.cell (i:=7) E)) (aQ E E (be Mh (hk.ext x1)) (al (r:=I ((1+u.path.length+u.leaf.lems.length+u.leaf.pf.length+u.leaf.kids.length:Nat):Int)) E E E (by have e:((1+u.path.length+u.leaf.lems.length+u.leaf.pf.length+u.leaf.kids.length:Nat):Int)=((1+u.path.length+u.leaf.lems.length+u.leaf.pf.length:Nat):Int)+(u.leaf.kids.length:Int):=(by omega);rw[e];exact aP (by omega) (by omega)) ?_))
 refine ac E E (ag (ab (af (af (aa (ac E E (ag (ab (aH ?_)))))))))
 refine cm (α:=Nat) (fun i=>[(1,.pointer (some ⟨g1,0,none⟩)),(3,I ((1+u.path.length+u.leaf.lems.length+u.leaf.pf.length+u.leaf.kids.length+zw (u.leaf.lems.take i):Nat):Int)),(4,I (i:Int))]) (fun i w'=>aN w w'∧aN w1 w'∧i≤u.leaf.lems.length) (fun i=>u.leaf.lems.length-i) (0) ⟨rfl,rfl,rfl,trivial⟩ ⟨x1,aN.refl _,by omega⟩ ?_
 rintro i wL ⟨eL,e1L,hi⟩
 refine af (af (aa (ae E E (ah E E (ar (o:=1) L8 E (by kernel_rfl) E) (ah E E (cK (b:=1) (o:=0) L6 E (by kernel_rfl) E) ?_)))))
 refine ak E E (aj Mi E (e1L.cell_some (k1.cell (i:=1) E))) (aQ E E (be Mi (hl.ext eL)) ?_)
 refine al E E E (bc) (ag (ab ?_))
 refine bw E (fun h29=>?_) (fun h29=>?_)
 ·refine aC (ab (af (aH ?_)))
  have hst:=Iw (l:=u.leaf.lems) (i:=i) (by omega)
  have htk:=Iy u.leaf.lems (i+1)
  refine aa (ae E E (ah E E (ar (o:=1) L8 E (by kernel_rfl) E) (ah E E (cK (b:=1) (o:=0) L6 E (by kernel_rfl) E) ?_)))
  refine ak E E (aj Mi E (e1L.cell_some (k1.cell (i:=1) E))) (ae E E ?_)
  obtain⟨a37,c37,p37,q37,h37⟩:=cf (P:=Tryz.prog) (sz:=6) Mi (by kernel_rfl) cG (by omega) (hl.ext eL) (i:=i) (by omega) .i64
  obtain⟨e37,he37⟩:∃e,e=u.leaf.lems[i]'(by omega):=⟨_,rfl⟩
  rw[←he37] at h37
  obtain⟨x37_0,x37_1,x37_2,rfl,f37_0,f37_1,f37_2⟩:=fH h37
  refine ax E E E (p37 _) ?_
  rw[←he37] at hst
  refine ah E E (gU (o:=5) Mk E (by kernel_rfl) E) (ak E E (aj Mj E (q37.at (j:=5) E)) ?_)
  refine aQ E E (be Mj f37_2) (al (r:=I ((1+u.path.length+u.leaf.lems.length+u.leaf.pf.length+u.leaf.kids.length+zw (u.leaf.lems.take (i+1)):Nat):Int)) E E E (by have e:((1+u.path.length+u.leaf.lems.length+u.leaf.pf.length+u.leaf.kids.length+zw (u.leaf.lems.take (i+1)):Nat):Int)=((1+u.path.length+u.leaf.lems.length+u.leaf.pf.length+u.leaf.kids.length+zw (u.leaf.lems.take i):Nat):Int)+(e37.pf.length:Int):=(by omega);rw[e];exact aP (by omega) (by omega)) ?_)
  refine ac E E (ag (aS (ab (aa (ae E E (al (r:=I ((i+1:Nat):Int)) E E E (by have e:((i+1:Nat):Int)=(i:Int)+1:=(by omega);rw[e];exact aP (by omega) (by omega)) ?_))))))
  refine ac E E (ag ?_)
  refine bT (i+1) ⟨rfl,rfl,rfl,trivial⟩ ⟨eL,e1L,by omega⟩ (by omega)
 ·refine bg (aJ (aJ (bh (ab (af (aa (ae E E (ac E E (ag (ab (au (aA E E ?_))))))))))))
  exact⟨_,rfl,eL,by rw[List.take_of_length_le (by omega),←hzz]⟩
def i9 (l:List bR):Nat:=(l.map ow).sum
theorem Gl {l:List bR} {i:Nat} (hi:i<l.length):i9 (l.take (i+1))=i9 (l.take i)+ow l[i]:=by
 have e:l.take (i+1)=l.take i++[l[i]]:=by rw[List.take_add_one,List.getElem?_eq_getElem hi];rfl
 unfold i9
 rw[e,List.map_append,List.sum_append]
 simp
theorem Gm (l:List bR) (i:Nat):i9 (l.take i)≤i9 l:=by
 have h:i9 l=i9 (l.take i)+i9 (l.drop i):=by
  conv=>lhs;rw[←List.take_append_drop i l]
  unfold i9
  rw[List.map_append,List.sum_append]
 omega
theorem nW {w:World} {es:List bR} {v:Value} (hv:cu i0 es v w) (hz:i9 es≤4611686018427387904):
 Calls Tryz.prog 16 #[v] w (bE fun r w'=>aN w w'∧r=B (decide (i9 es≤120))):=by
 refine enter (vs:=[v]) Tryz.func16 E E E ?_
 have hll:=hv.len
 refine af (aa (ac E E (ag (ab (af (aa (ac E E (ag (ab (af (af (aa (ac E E (ag (ab (aH ?_))))))))))))))))
 refine cm (α:=Nat) (fun i=>[(0,v),(3,I ((i9 (es.take i):Nat):Int)),(4,I (i:Int))]) (fun i w'=>aN w w'∧i≤es.length) (fun i=>es.length-i) (0) ⟨rfl,rfl,rfl,trivial⟩ ⟨aN.refl _,by omega⟩ ?_
 rintro i wL ⟨eL,hi⟩
 refine af (af (aa (ae E E (ae E E (aQ E E (be Mp (hv.ext eL)) (al E E E (bc) (ag (ab ?_))))))))
 refine bw E (fun h8=>?_) (fun h8=>?_)
 ·refine aC (ab (af (aH ?_)))
  have hst:=Gl (l:=es) (i:=i) (by omega)
  have htk:=Gm es (i+1)
  refine aa (ae E E (ae E E (ae E E ?_)))
  obtain⟨a14,c14,p14,q14,h14⟩:=cf (P:=Tryz.prog) (sz:=10) Mp (by kernel_rfl) cR (by omega) (hv.ext eL) (i:=i) (by omega) .i64
  obtain⟨e14,he14⟩:∃e,e=es[i]'(by omega):=⟨_,rfl⟩
  rw[←he14] at h14
  obtain⟨x14_0,x14_1,x14_2,x14_3,x14_4,x14_5,rfl,f14_0,f14_1,f14_2,f14_3,f14_4,f14_5⟩:=gQ h14
  refine ax E E E (p14 _) ?_
  rw[←he14] at hst
  refine ak E E (q14.ld L8 E (by kernel_rfl)) (an AQ E E ((AR (u:=e14) f14_0 f14_1 f14_2 f14_3 f14_4 f14_5 (by omega))) ?_)
  rintro v16 w16 ⟨x16,rfl⟩
  refine al (r:=I ((i9 (es.take (i+1)):Nat):Int)) E E E (by have e:((i9 (es.take (i+1)):Nat):Int)=((i9 (es.take i):Nat):Int)+((ow e14:Nat):Int):=(by omega);rw[e];exact aP (by omega) (by omega)) ?_
  refine ac E E (ag (aS (ab (aa (ae E E (al (r:=I ((i+1:Nat):Int)) E E E (by have e:((i+1:Nat):Int)=(i:Int)+1:=(by omega);rw[e];exact aP (by omega) (by omega)) ?_))))))
  refine ac E E (ag ?_)
  refine bT (i+1) ⟨rfl,rfl,rfl,trivial⟩ ⟨(eL.trans x16),by omega⟩ (by omega)
 ·refine bg (aJ (aJ (bh (ab (af (aa (ae E E (al E E E (DY) (ac E E (ag (ab (au (aA E E ?_)))))))))))))
  exact⟨_,rfl,eL,by
   rw[List.take_of_length_le (by omega)]
   exact congrArg B (decide_eq_decide.2 (by omega))⟩
end Go.Rl
namespace Go.Rl
open Go.RowKit Go.Proofs
theorem rJ:aG Tryz.prog 108:=⟨_,Tryz.func108,by kernel_rfl,rfl⟩
structure mZ (w0 w:World) (g:Nat) (ids:List Nat) (s:bV) (a b:JT) (x y:Value) (g1 g2:Nat) (i1 i2:List Nat) (w':World):Prop where
 mv:Mv (fun k=>k=g) w w'
 hx:bt s.at_.2.1 x w0
 hy:bt s.at_.2.2 y w0
 blk:cr g 114 (jq s x y (t9 g1) (t9 g2) iP) w'
 k1:jU w0 w' g1 a i1
 k2:jU w0 w' g2 b i2
 n1:g∉i1
 n2:g∉i2
 n3:∀k∈i1,k∉i2
 fresh:∀k,k∈i1∨k∈i2→k∈ids∨w.heap.size≤k
 young:w0.heap.size≤g
theorem mZ.ext {w0 w w' w'':World} {g:Nat} {ids:List Nat} {s:bV} {a b:JT} {x y:Value} {g1 g2:Nat} {i1 i2:List Nat} (h:mZ w0 w g ids s a b x y g1 g2 i1 i2 w') (e:aN w' w''):mZ w0 w g ids s a b x y g1 g2 i1 i2 w'':=
 ⟨h.mv.trans (Mv.of_ext (X:=fun k=>k=g) e) fun _ hk _=>hk,h.hx,h.hy,h.blk.ext e,h.k1.mv (Mv.of_ext (X:=fun _=>False) e) (fun _ _ h=>h),h.k2.mv (Mv.of_ext (X:=fun _=>False) e) (fun _ _ h=>h),h.n1,h.n2,h.n3,h.fresh,h.young⟩
def L1 (w0 w:World) (g:Nat) (d:bV) (t:JT) (ids:List Nat) (r:Value) (w':World):Prop:=
 (∃n,t=.leaf n∧aN w w'∧r=.tuple #[iP,B false])∨
 ∃s a b x y g1 g2 i1 i2,tf d t=.split s a b∧mZ w0 w g ids s a b x y g1 g2 i1 i2 w'∧r=if s=d then .tuple #[t9 g1,B true] else if dG s=d then .tuple #[t9 g2,B true] else .tuple #[iP,B false]
theorem AS {w0 w:World} {g:Nat} {ids:List Nat} (h:jU w0 w g .gap ids):ids=[g]∧cr g 114 (jq lq (.slice none 0 0) (.slice none 0 0) iP iP iP) w:=h.at_
theorem vn {w0 w:World} {g:Nat} {ids:List Nat} {n:aZ} (h:jU w0 w g (.leaf n) ids):∃k cs,ids=[g,k]∧cr g 114 (jq lq (.slice none 0 0) (.slice none 0 0) iP iP (t9 k)) w∧cr k 52 cs w∧Rp w0 (bH n) cs:=h.at_
theorem jU.root {w0 w:World} {g:Nat} {t:JT} {ids:List Nat} (h:jU w0 w g t ids):g∈ids:=by
 cases t with
 |gap=>rw[(AS h).1];simp
 |leaf n=>obtain⟨_,_,h1,_⟩:=vn h;rw[h1];simp
 |split s a b=>obtain⟨_,_,_,_,_,_,h1,_⟩:=h.split_inv;rw[h1];simp
theorem JT.shape (t:JT):t=.gap∨(∃n,t=.leaf n)∨∃s a b,t=.split s a b:=by
 cases t with
 |gap=>exact .inl rfl
 |leaf n=>exact .inr (.inl ⟨n,rfl⟩)
 |split s a b=>exact .inr (.inr ⟨s,a,b,rfl⟩)
theorem La {w:World} {d:bV} {p q:Value} {k i:Int} (hp:bt d.at_.2.1 p w) (hq:bt d.at_.2.2 q w):aw [I k,I i,B d.at_.1,p,q]:=aw.cons rfl (aw.cons rfl (aw.cons rfl (aw.cons hp.one (aw.cons hq.one aw.nil))))
theorem rK {w0 w:World} {g:Nat} {t:JT} {ids:List Nat} {d:bV} {p q:Value} (e0:aN w0 w) (ho:z8 w0) (hJ:jU w0 w g t ids) (hp:bt d.at_.2.1 p w0) (hq:bt d.at_.2.2 q w0):
 Calls Tryz.prog 108 #[.pointer (some ⟨g,0,none⟩),.agg #[I d.kd,I d.ix,B d.at_.1,p,q]] w (bE fun r w'=>L1 w0 w g d t ids r w'):=by
 have hg:w0.heap.size≤g:=hJ.young g hJ.root
 have hgl:g<w.heap.size:=hJ.lt g hJ.root
 refine enter (vs:=[.pointer (some ⟨g,0,none⟩),.agg #[I d.kd,I d.ix,B d.at_.1,p,q]]) Tryz.func108 E E E ?_
 refine af (aa ?_)
 obtain⟨g3,w3,hr3,l3,x3,k3⟩:=cD (P:=Tryz.prog) (w:=w) (T:=48) (cs:=[I d.kd,I d.ix,B d.at_.1,p,q])
 refine cI E E hr3 (ac E E (ac E E (ag (ab (af (af ?_))))))
 have hg3:g≠g3:=by omega
 have hJ2:=hJ
 rcases t.shape with ht|⟨n,ht⟩|⟨s,a,b,ht⟩
 ·rw[ht] at hJ2
  obtain⟨hid,kg⟩:=AS hJ2
  have kg3:=kg.ext x3
  refine aa (ae E E (ay E E (ah E E (ar (o:=7) Mn E (by kernel_rfl) E) (ak E E (aj Mu E (kg3.cell (i:=7) E)) ?_))))
  refine al E E E (gZ Mu) (ag (ab (cp E (aC (ab (af ?_))))))
  refine eZ (fun(x:bV×JT×JT×Value×Value×Nat×Nat×List Nat×List Nat)=>[(0,.pointer (some ⟨g,0,none⟩)),(3,.pointer (some ⟨g3,0,none⟩))]) (fun x w'=>tf d t=.split x.1 x.2.1 x.2.2.1∧mZ w0 w g ids x.1 x.2.1 x.2.2.1 x.2.2.2.1 x.2.2.2.2.1 x.2.2.2.2.2.1 x.2.2.2.2.2.2.1 x.2.2.2.2.2.2.2.1 x.2.2.2.2.2.2.2.2 w'∧cr g3 48 [I d.kd,I d.ix,B d.at_.1,p,q] w'∧aN w0 w') ?_ ?_
  ·refine af (aa (ae E E (ay E E (ah E E (ar (o:=5) Mn E (by kernel_rfl) E) ?_))))
   refine ax E E E (iH My (by kernel_rfl) (i:=0) (by omega) .i64) ?_
   refine ak E E (aj Ms E (kg3.cell (i:=5) E)) (al E E E (gr Ms) (ag ?_))
   refine ab (bf E (af (aa (ae E E (ak E E (k3.ld Ma E (by kernel_rfl)) (ay E E (ah E E (ar (o:=0) Mn E (by kernel_rfl) E) ?_)))))))
   obtain⟨w4,s4,q4,k4⟩:=cr.stO (P:=Tryz.prog) (t:=48) (m:=[I d.kd,I d.ix,B d.at_.1,p,q]) kg3 0 (by show 0+5≤8;omega) (by kernel_rfl) (La hp hq)
   refine aq E E s4 ?_
   have y4:=aN.of_new (e0.trans x3) q4 hg
   have m4:=(Mv.of_ext (X:=fun k=>k=g) x3).trans (Mv.of_grown (X:=fun k=>k=g) q4 fun k hk _=>(Option.some.inj hk).symm) fun _ hk _=>hk
   have k3b:=k3.other q4 (fun e=>hg3 (Option.some.inj e).symm)
   refine ag (ab (af (af (aa (ah E E (ar (o:=0) Ma E (by kernel_rfl) E) (ak E E (aj Mb E (k3b.cell (i:=0) E)) ?_))))))
   refine al E E E (bi) (ae E E ?_)
   refine cb (fun h24=>?_) (fun h24=>?_)
   ·refine ao E E E (ao E E E (ao E E E (ap E E E (ag (ab (bf E (aa (ae E E (ak E E (k3b.ld Ma E (by kernel_rfl)) ?_)))))))))
    refine an jl E E ((jm (ho.ext y4) (hp.ext y4) (hq.ext y4))) ?_
    rintro v31 w31 ⟨x31,rfl⟩
    refine ay E E (ah E E (ar (o:=0) Mn E (by kernel_rfl) E) ?_)
    obtain⟨w6,s6,q6,k6⟩:=cr.stO (P:=Tryz.prog) (t:=48) (m:=[I (dG d).kd,I (dG d).ix,B (dG d).at_.1,p,q]) (k4.ext x31) 0 (by show 0+5≤8;omega) (by kernel_rfl) (La hp hq)
    refine aq E E s6 ?_
    have y6:=aN.of_new (y4.trans x31) q6 hg
    have m6:=(m4.trans (Mv.of_ext (X:=fun k=>k=g) x31) fun _ hk _=>hk).trans (Mv.of_grown (X:=fun k=>k=g) q6 fun k hk _=>(Option.some.inj hk).symm) fun _ hk _=>hk
    have k3c:=(k3b.ext x31).other q6 (fun e=>hg3 (Option.some.inj e).symm)
    have hn:xZ d=dG d:=if_pos (by first|exact .inl h24|exact .inr h28)
    have kS:cr g 114 (jq (xZ d) p q iP iP iP) w6:=by rw[hn];exact k6
    refine ag (ab (aa (ae E E (bC (vs:=[]) (r:=.agg #[I 0,I 0,B false,.slice none 0 0,.slice none 0 0,.pointer none,.pointer none,.pointer none]) E E (by exact run_build _ _ _ _ (by kernel_rfl)) ?_))))
    obtain⟨g36,w36,hr36,l36,x36,k36⟩:=cD (P:=Tryz.prog) (w:=w6) (T:=114) (cs:=[I 0,I 0,B false,.slice none 0 0,.slice none 0 0,.pointer none,.pointer none,.pointer none])
    refine cI E E hr36 (bC (vs:=[]) (r:=.agg #[I 0,I 0,B false,.slice none 0 0,.slice none 0 0,.pointer none,.pointer none,.pointer none]) E E (by exact run_build _ _ _ _ (by kernel_rfl)) ?_)
    obtain⟨g38,w38,hr38,l38,x38,k38⟩:=cD (P:=Tryz.prog) (w:=w36) (T:=114) (cs:=[I 0,I 0,B false,.slice none 0 0,.slice none 0 0,.pointer none,.pointer none,.pointer none])
    refine cI E E hr38 ?_
    refine bC (vs:=[(0,.pointer (some ⟨g36,0,none⟩)),(1,.pointer (some ⟨g38,0,none⟩))]) (r:=.agg #[.pointer (some ⟨g36,0,none⟩),.pointer (some ⟨g38,0,none⟩)]) E E (run_build _ _ _ #[.pointer (some ⟨g36,0,none⟩),.pointer (some ⟨g38,0,none⟩)] (by kernel_rfl)) ?_
    refine ay E E (ah E E (ar (o:=5) Mn E (by kernel_rfl) E) ?_)
    obtain⟨w7,s7,q7,k7⟩:=cr.stO (P:=Tryz.prog) (t:=111) (m:=[.pointer (some ⟨g36,0,none⟩),.pointer (some ⟨g38,0,none⟩)]) (kS.ext (x36.trans x38)) 5 (by show 5+2≤8;omega) (by kernel_rfl) (aw.cons rfl (aw.cons rfl aw.nil))
    refine aq E E s7 ?_
    have y7:=aN.of_new (y6.trans (x36.trans x38)) q7 hg
    have m7:=(m6.trans (Mv.of_ext (X:=fun k=>k=g) (x36.trans x38)) fun _ hk _=>hk).trans (Mv.of_grown (X:=fun k=>k=g) q7 fun k hk _=>(Option.some.inj hk).symm) fun _ hk _=>hk
    have sz6:=m6.size
    have sz0:=e0.size
    have lt36:=k36.lt
    have G1:w0.heap.size≤g36:=by omega
    have G2:w0.heap.size≤g38:=by omega
    have N1:g∉[g36]:=by simp;omega
    have N2:g∉[g38]:=by simp;omega
    have N3:∀k∈[g36],k∉[g38]:=by simp;omega
    have FR:∀k,k∈[g36]∨k∈[g38]→k∈ids∨w.heap.size≤k:=fun k hk=>.inr (by simp at hk;omega)
    have k3d:=(k3c.ext (x36.trans x38)).other q7 (fun e=>hg3 (Option.some.inj e).symm)
    have k36b:=(k36.ext x38).other q7 (fun e=>by have:=Option.some.inj e;omega)
    have k38b:=k38.other q7 (fun e=>by have:=Option.some.inj e;omega)
    refine ag ?_
    exact ct (xZ d,.gap,.gap,p,q,g36,g38,[g36],[g38]) ⟨rfl,rfl,trivial⟩ ⟨by rw[ht];rfl,⟨m7,by rw[hn];exact hp,by rw[hn];exact hq,k7,jU.gap k36b G1,jU.gap k38b G2,N1,N2,N3,FR,hg⟩,k3d,y7⟩
   ·refine ai E (ah E E (ar (o:=0) Ma E (by kernel_rfl) E) (ai E (ak E E (aj Mb E (k3b.cell (i:=0) E)) ?_)))
    refine ai E (al E E E (bi) (aE E E E (ag (ab ?_))))
    refine bw E (fun h28=>?_) (fun h28=>?_)
    ·refine aa (ae E E (ak E E (k3b.ld Ma E (by kernel_rfl)) (an jl E E ((jm (ho.ext y4) (hp.ext y4) (hq.ext y4))) ?_)))
     rintro v31 w31 ⟨x31,rfl⟩
     refine ay E E (ah E E (ar (o:=0) Mn E (by kernel_rfl) E) ?_)
     obtain⟨w6,s6,q6,k6⟩:=cr.stO (P:=Tryz.prog) (t:=48) (m:=[I (dG d).kd,I (dG d).ix,B (dG d).at_.1,p,q]) (k4.ext x31) 0 (by show 0+5≤8;omega) (by kernel_rfl) (La hp hq)
     refine aq E E s6 ?_
     have y6:=aN.of_new (y4.trans x31) q6 hg
     have m6:=(m4.trans (Mv.of_ext (X:=fun k=>k=g) x31) fun _ hk _=>hk).trans (Mv.of_grown (X:=fun k=>k=g) q6 fun k hk _=>(Option.some.inj hk).symm) fun _ hk _=>hk
     have k3c:=(k3b.ext x31).other q6 (fun e=>hg3 (Option.some.inj e).symm)
     have hn:xZ d=dG d:=if_pos (by first|exact .inl h24|exact .inr h28)
     have kS:cr g 114 (jq (xZ d) p q iP iP iP) w6:=by rw[hn];exact k6
     refine ag (ab (aa (ae E E (bC (vs:=[]) (r:=.agg #[I 0,I 0,B false,.slice none 0 0,.slice none 0 0,.pointer none,.pointer none,.pointer none]) E E (by exact run_build _ _ _ _ (by kernel_rfl)) ?_))))
     obtain⟨g36,w36,hr36,l36,x36,k36⟩:=cD (P:=Tryz.prog) (w:=w6) (T:=114) (cs:=[I 0,I 0,B false,.slice none 0 0,.slice none 0 0,.pointer none,.pointer none,.pointer none])
     refine cI E E hr36 (bC (vs:=[]) (r:=.agg #[I 0,I 0,B false,.slice none 0 0,.slice none 0 0,.pointer none,.pointer none,.pointer none]) E E (by exact run_build _ _ _ _ (by kernel_rfl)) ?_)
     obtain⟨g38,w38,hr38,l38,x38,k38⟩:=cD (P:=Tryz.prog) (w:=w36) (T:=114) (cs:=[I 0,I 0,B false,.slice none 0 0,.slice none 0 0,.pointer none,.pointer none,.pointer none])
     refine cI E E hr38 ?_
     refine bC (vs:=[(0,.pointer (some ⟨g36,0,none⟩)),(1,.pointer (some ⟨g38,0,none⟩))]) (r:=.agg #[.pointer (some ⟨g36,0,none⟩),.pointer (some ⟨g38,0,none⟩)]) E E (run_build _ _ _ #[.pointer (some ⟨g36,0,none⟩),.pointer (some ⟨g38,0,none⟩)] (by kernel_rfl)) ?_
     refine ay E E (ah E E (ar (o:=5) Mn E (by kernel_rfl) E) ?_)
     obtain⟨w7,s7,q7,k7⟩:=cr.stO (P:=Tryz.prog) (t:=111) (m:=[.pointer (some ⟨g36,0,none⟩),.pointer (some ⟨g38,0,none⟩)]) (kS.ext (x36.trans x38)) 5 (by show 5+2≤8;omega) (by kernel_rfl) (aw.cons rfl (aw.cons rfl aw.nil))
     refine aq E E s7 ?_
     have y7:=aN.of_new (y6.trans (x36.trans x38)) q7 hg
     have m7:=(m6.trans (Mv.of_ext (X:=fun k=>k=g) (x36.trans x38)) fun _ hk _=>hk).trans (Mv.of_grown (X:=fun k=>k=g) q7 fun k hk _=>(Option.some.inj hk).symm) fun _ hk _=>hk
     have sz6:=m6.size
     have sz0:=e0.size
     have lt36:=k36.lt
     have G1:w0.heap.size≤g36:=by omega
     have G2:w0.heap.size≤g38:=by omega
     have N1:g∉[g36]:=by simp;omega
     have N2:g∉[g38]:=by simp;omega
     have N3:∀k∈[g36],k∉[g38]:=by simp;omega
     have FR:∀k,k∈[g36]∨k∈[g38]→k∈ids∨w.heap.size≤k:=fun k hk=>.inr (by simp at hk;omega)
     have k3d:=(k3c.ext (x36.trans x38)).other q7 (fun e=>hg3 (Option.some.inj e).symm)
     have k36b:=(k36.ext x38).other q7 (fun e=>by have:=Option.some.inj e;omega)
     have k38b:=k38.other q7 (fun e=>by have:=Option.some.inj e;omega)
     refine ag ?_
     exact ct (xZ d,.gap,.gap,p,q,g36,g38,[g36],[g38]) ⟨rfl,rfl,trivial⟩ ⟨by rw[ht];rfl,⟨m7,by rw[hn];exact hp,by rw[hn];exact hq,k7,jU.gap k36b G1,jU.gap k38b G2,N1,N2,N3,FR,hg⟩,k3d,y7⟩
    ·have hn:xZ d=d:=if_neg (by rintro(h|h);exact h24 h;exact h28 h)
     have kS:cr g 114 (jq (xZ d) p q iP iP iP) w4:=by rw[hn];exact k4
     have y6:=y4
     have m6:=m4
     have k3c:=k3b
     refine aC (ab (aa (ae E E (bC (vs:=[]) (r:=.agg #[I 0,I 0,B false,.slice none 0 0,.slice none 0 0,.pointer none,.pointer none,.pointer none]) E E (by exact run_build _ _ _ _ (by kernel_rfl)) ?_))))
     obtain⟨g36,w36,hr36,l36,x36,k36⟩:=cD (P:=Tryz.prog) (w:=w4) (T:=114) (cs:=[I 0,I 0,B false,.slice none 0 0,.slice none 0 0,.pointer none,.pointer none,.pointer none])
     refine cI E E hr36 (bC (vs:=[]) (r:=.agg #[I 0,I 0,B false,.slice none 0 0,.slice none 0 0,.pointer none,.pointer none,.pointer none]) E E (by exact run_build _ _ _ _ (by kernel_rfl)) ?_)
     obtain⟨g38,w38,hr38,l38,x38,k38⟩:=cD (P:=Tryz.prog) (w:=w36) (T:=114) (cs:=[I 0,I 0,B false,.slice none 0 0,.slice none 0 0,.pointer none,.pointer none,.pointer none])
     refine cI E E hr38 ?_
     refine bC (vs:=[(0,.pointer (some ⟨g36,0,none⟩)),(1,.pointer (some ⟨g38,0,none⟩))]) (r:=.agg #[.pointer (some ⟨g36,0,none⟩),.pointer (some ⟨g38,0,none⟩)]) E E (run_build _ _ _ #[.pointer (some ⟨g36,0,none⟩),.pointer (some ⟨g38,0,none⟩)] (by kernel_rfl)) ?_
     refine ay E E (ah E E (ar (o:=5) Mn E (by kernel_rfl) E) ?_)
     obtain⟨w7,s7,q7,k7⟩:=cr.stO (P:=Tryz.prog) (t:=111) (m:=[.pointer (some ⟨g36,0,none⟩),.pointer (some ⟨g38,0,none⟩)]) (kS.ext (x36.trans x38)) 5 (by show 5+2≤8;omega) (by kernel_rfl) (aw.cons rfl (aw.cons rfl aw.nil))
     refine aq E E s7 ?_
     have y7:=aN.of_new (y6.trans (x36.trans x38)) q7 hg
     have m7:=(m6.trans (Mv.of_ext (X:=fun k=>k=g) (x36.trans x38)) fun _ hk _=>hk).trans (Mv.of_grown (X:=fun k=>k=g) q7 fun k hk _=>(Option.some.inj hk).symm) fun _ hk _=>hk
     have sz6:=m6.size
     have sz0:=e0.size
     have lt36:=k36.lt
     have G1:w0.heap.size≤g36:=by omega
     have G2:w0.heap.size≤g38:=by omega
     have N1:g∉[g36]:=by simp;omega
     have N2:g∉[g38]:=by simp;omega
     have N3:∀k∈[g36],k∉[g38]:=by simp;omega
     have FR:∀k,k∈[g36]∨k∈[g38]→k∈ids∨w.heap.size≤k:=fun k hk=>.inr (by simp at hk;omega)
     have k3d:=(k3c.ext (x36.trans x38)).other q7 (fun e=>hg3 (Option.some.inj e).symm)
     have k36b:=(k36.ext x38).other q7 (fun e=>by have:=Option.some.inj e;omega)
     have k38b:=k38.other q7 (fun e=>by have:=Option.some.inj e;omega)
     refine ag ?_
     exact ct (xZ d,.gap,.gap,p,q,g36,g38,[g36],[g38]) ⟨rfl,rfl,trivial⟩ ⟨by rw[ht];rfl,⟨m7,by rw[hn];exact hp,by rw[hn];exact hq,k7,jU.gap k36b G1,jU.gap k38b G2,N1,N2,N3,FR,hg⟩,k3d,y7⟩
  rintro⟨s,a,b,x,y,g1,g2,i1,i2⟩ wC ⟨hop,hM,k3C,eC⟩
  refine ab (af (aH (af ?_)))
  have hm0:=hM.mv
  dsimp only at hop hM k3C
  have kC:cr g 114 [I s.kd,I s.ix,B s.at_.1,x,y,.pointer (some ⟨g1,0,none⟩),.pointer (some ⟨g2,0,none⟩),.pointer none] wC:=hM.blk
  have sx:=hM.hx
  have sy:=hM.hy
  refine bO 6 [0,3,48] (by kernel_rfl) (by kernel_rfl) ?_
  refine aD rfl rfl (dh rfl rfl (aW rfl rfl (fun w hw=>ar (o:=0) Tryz.underlying114 rfl (by kernel_rfl) rfl) (aO rfl rfl (fun w hw=>(kC.ext hw).ldO (ms:=[I s.kd,I s.ix,B s.at_.1,x,y]) (o:=0) (fun j v hj=>by rcases j with _|_|_|_|_|_|_|_|_|j<;>simp_all) Tryz.underlying48 rfl (by kernel_rfl)) ?_)))
  refine aO rfl rfl (fun w hw=>(k3C.ext hw).ld Ma rfl (by kernel_rfl)) (ca (S:=Is (B (decide (s=d)))) nT (cd.is _) rfl (fun w hw=>by rintro _ rfl _ rfl;exact bE.mono (nV (a:=s) (b:=d) ((sx.ext eC).ext hw) ((sy.ext eC).ext hw) ((hp.ext eC).ext hw) ((hq.ext eC).ext hw)) fun v w' h=>⟨h.1,h.2⟩) ?_)
  refine cq ?_
  intro wg8 xg8
  rintro _ rfl
  rintro _ rfl
  rintro _ rfl
  refine ac E E (ag (ab ?_))
  refine fQ E (fun h42=>?_) (fun h42=>?_)
  ·refine af (aa (ae E E (ay E E (ah E E (ar (o:=5) Mn E (by kernel_rfl) E) ?_))))
   refine ax E E E (iH My (by kernel_rfl) (i:=0) (by omega) .i64) ?_
   refine ak E E (aj Ms E ((kC.ext xg8).cell (i:=5) E)) (ac E E (ac E E (ag (ab (au (a6 (az ?_)))))))
   refine a9 E E E ?_
   exact⟨_,rfl,.inr ⟨s,a,b,x,y,g1,g2,i1,i2,hop,hM.ext xg8,by rw[if_pos (of_decide_eq_true h42)];rfl⟩⟩
  ·refine af (bO 7 [0,61] (by kernel_rfl) (by kernel_rfl) ?_)
   refine aD rfl rfl (dh rfl rfl (aW rfl rfl (fun w hw=>ar (o:=0) Tryz.underlying114 rfl (by kernel_rfl) rfl) (aO rfl rfl (fun w hw=>((kC.ext xg8).ext hw).ldO (ms:=[I s.kd,I s.ix,B s.at_.1,x,y]) (o:=0) (fun j v hj=>by rcases j with _|_|_|_|_|_|_|_|_|j<;>simp_all) Tryz.underlying48 rfl (by kernel_rfl)) ?_)))
   refine ca (S:=Is (.agg #[I (dG s).kd,I (dG s).ix,B (dG s).at_.1,x,y])) jl (cd.is _) rfl (fun w hw=>by rintro _ rfl;exact bE.mono (jm (d:=s) ((ho.ext (eC.trans xg8)).ext hw) ((sx.ext (eC.trans xg8)).ext hw) ((sy.ext (eC.trans xg8)).ext hw)) fun v w' h=>⟨h.1,h.2⟩) ?_
   refine aO rfl rfl (fun w hw=>((k3C.ext xg8).ext hw).ld Ma rfl (by kernel_rfl)) (ca (S:=Is (B (decide (dG s=d)))) nT (cd.is _) rfl (fun w hw=>by rintro _ rfl _ rfl;exact bE.mono (nV (a:=dG s) (b:=d) ((sx.ext (eC.trans xg8)).ext hw) ((sy.ext (eC.trans xg8)).ext hw) ((hp.ext (eC.trans xg8)).ext hw) ((hq.ext (eC.trans xg8)).ext hw)) fun v w' h=>⟨h.1,h.2⟩) ?_)
   refine cq ?_
   intro wg10 xg10
   rintro _ rfl
   rintro _ rfl
   refine ac E E (ag (ab ?_))
   refine fQ E (fun h54=>?_) (fun h54=>?_)
   ·refine af (aa (ae E E (ay E E (ah E E (ar (o:=5) Mn E (by kernel_rfl) E) ?_))))
    refine ax E E E (iH My (by kernel_rfl) (i:=1) (by omega) .i64) ?_
    refine ak E E (aj Ms E ((kC.ext (xg8.trans xg10)).cell (i:=6) E)) (ac E E (ac E E (ag (ab (au ?_)))))
    refine a6 (az (a9 E E E ?_))
    exact⟨_,rfl,.inr ⟨s,a,b,x,y,g1,g2,i1,i2,hop,hM.ext (xg8.trans xg10),by rw[if_neg (of_decide_eq_false h42),if_pos (of_decide_eq_true h54)];rfl⟩⟩
   ·refine aC (aS (ab (af (aa (ac E E (ac E E (ag (ab (au (a9 E E E ?_))))))))))
    exact⟨_,rfl,.inr ⟨s,a,b,x,y,g1,g2,i1,i2,hop,hM.ext (xg8.trans xg10),by rw[if_neg (of_decide_eq_false h42),if_neg (of_decide_eq_false h54)];rfl⟩⟩
 ·rw[ht] at hJ2
  obtain⟨gl,cl,hid,kg,kl,hrl⟩:=vn hJ2
  have kg3:=kg.ext x3
  refine aa (ae E E (ay E E (ah E E (ar (o:=7) Mn E (by kernel_rfl) E) (ak E E (aj Mu E (kg3.cell (i:=7) E)) ?_))))
  refine al E E E (gZ Mu) (ag (ab (bf E (af (aa (ac E E (ac E E (ag (ab (au (az (a9 E E E ?_))))))))))))
  exact⟨_,rfl,.inl ⟨n,ht,x3,rfl⟩⟩
 ·obtain⟨x,y,g1,g2,i1,i2,hid,hx,hy,kg,j1,j2,_,n1,n2,n3⟩:=(show jU w0 w g (.split s a b) ids from ht▸hJ2).split_inv
  have kg3:=kg.ext x3
  refine aa (ae E E (ay E E (ah E E (ar (o:=7) Mn E (by kernel_rfl) E) (ak E E (aj Mu E (kg3.cell (i:=7) E)) ?_))))
  refine al E E E (gZ Mu) (ag (ab (cp E (aC (ab (af ?_))))))
  refine eZ (fun(x:bV×JT×JT×Value×Value×Nat×Nat×List Nat×List Nat)=>[(0,.pointer (some ⟨g,0,none⟩)),(3,.pointer (some ⟨g3,0,none⟩))]) (fun x w'=>tf d t=.split x.1 x.2.1 x.2.2.1∧mZ w0 w g ids x.1 x.2.1 x.2.2.1 x.2.2.2.1 x.2.2.2.2.1 x.2.2.2.2.2.1 x.2.2.2.2.2.2.1 x.2.2.2.2.2.2.2.1 x.2.2.2.2.2.2.2.2 w'∧cr g3 48 [I d.kd,I d.ix,B d.at_.1,p,q] w'∧aN w0 w') ?_ ?_
  ·refine af (aa (ae E E (ay E E (ah E E (ar (o:=5) Mn E (by kernel_rfl) E) ?_))))
   refine ax E E E (iH My (by kernel_rfl) (i:=0) (by omega) .i64) ?_
   refine ak E E (aj Ms E (kg3.cell (i:=5) E)) (al E E E (gr Ms) (ag ?_))
   refine ab (cp E (aC ?_))
   exact ct (s,a,b,x,y,g1,g2,i1,i2) ⟨rfl,rfl,trivial⟩ ⟨by rw[ht];rfl,mZ.ext ⟨Mv.refl _ _,hx,hy,kg,j1,j2,n1,n2,n3,fun k hk=>.inl (by rw[hid];simp only[List.mem_cons,List.mem_append];exact .inr hk),hg⟩ x3,k3,e0.trans x3⟩
  rintro⟨s,a,b,x,y,g1,g2,i1,i2⟩ wC ⟨hop,hM,k3C,eC⟩
  refine ab (af (aH (af ?_)))
  have hm0:=hM.mv
  dsimp only at hop hM k3C
  have kC:cr g 114 [I s.kd,I s.ix,B s.at_.1,x,y,.pointer (some ⟨g1,0,none⟩),.pointer (some ⟨g2,0,none⟩),.pointer none] wC:=hM.blk
  have sx:=hM.hx
  have sy:=hM.hy
  refine bO 6 [0,3,48] (by kernel_rfl) (by kernel_rfl) ?_
  refine aD rfl rfl (dh rfl rfl (aW rfl rfl (fun w hw=>ar (o:=0) Tryz.underlying114 rfl (by kernel_rfl) rfl) (aO rfl rfl (fun w hw=>(kC.ext hw).ldO (ms:=[I s.kd,I s.ix,B s.at_.1,x,y]) (o:=0) (fun j v hj=>by rcases j with _|_|_|_|_|_|_|_|_|j<;>simp_all) Tryz.underlying48 rfl (by kernel_rfl)) ?_)))
  refine aO rfl rfl (fun w hw=>(k3C.ext hw).ld Ma rfl (by kernel_rfl)) (ca (S:=Is (B (decide (s=d)))) nT (cd.is _) rfl (fun w hw=>by rintro _ rfl _ rfl;exact bE.mono (nV (a:=s) (b:=d) ((sx.ext eC).ext hw) ((sy.ext eC).ext hw) ((hp.ext eC).ext hw) ((hq.ext eC).ext hw)) fun v w' h=>⟨h.1,h.2⟩) ?_)
  refine cq ?_
  intro wg8 xg8
  rintro _ rfl
  rintro _ rfl
  rintro _ rfl
  refine ac E E (ag (ab ?_))
  refine fQ E (fun h42=>?_) (fun h42=>?_)
  ·refine af (aa (ae E E (ay E E (ah E E (ar (o:=5) Mn E (by kernel_rfl) E) ?_))))
   refine ax E E E (iH My (by kernel_rfl) (i:=0) (by omega) .i64) ?_
   refine ak E E (aj Ms E ((kC.ext xg8).cell (i:=5) E)) (ac E E (ac E E (ag (ab (au (a6 (az ?_)))))))
   refine a9 E E E ?_
   exact⟨_,rfl,.inr ⟨s,a,b,x,y,g1,g2,i1,i2,hop,hM.ext xg8,by rw[if_pos (of_decide_eq_true h42)];rfl⟩⟩
  ·refine af (bO 7 [0,61] (by kernel_rfl) (by kernel_rfl) ?_)
   refine aD rfl rfl (dh rfl rfl (aW rfl rfl (fun w hw=>ar (o:=0) Tryz.underlying114 rfl (by kernel_rfl) rfl) (aO rfl rfl (fun w hw=>((kC.ext xg8).ext hw).ldO (ms:=[I s.kd,I s.ix,B s.at_.1,x,y]) (o:=0) (fun j v hj=>by rcases j with _|_|_|_|_|_|_|_|_|j<;>simp_all) Tryz.underlying48 rfl (by kernel_rfl)) ?_)))
   refine ca (S:=Is (.agg #[I (dG s).kd,I (dG s).ix,B (dG s).at_.1,x,y])) jl (cd.is _) rfl (fun w hw=>by rintro _ rfl;exact bE.mono (jm (d:=s) ((ho.ext (eC.trans xg8)).ext hw) ((sx.ext (eC.trans xg8)).ext hw) ((sy.ext (eC.trans xg8)).ext hw)) fun v w' h=>⟨h.1,h.2⟩) ?_
   refine aO rfl rfl (fun w hw=>((k3C.ext xg8).ext hw).ld Ma rfl (by kernel_rfl)) (ca (S:=Is (B (decide (dG s=d)))) nT (cd.is _) rfl (fun w hw=>by rintro _ rfl _ rfl;exact bE.mono (nV (a:=dG s) (b:=d) ((sx.ext (eC.trans xg8)).ext hw) ((sy.ext (eC.trans xg8)).ext hw) ((hp.ext (eC.trans xg8)).ext hw) ((hq.ext (eC.trans xg8)).ext hw)) fun v w' h=>⟨h.1,h.2⟩) ?_)
   refine cq ?_
   intro wg10 xg10
   rintro _ rfl
   rintro _ rfl
   refine ac E E (ag (ab ?_))
   refine fQ E (fun h54=>?_) (fun h54=>?_)
   ·refine af (aa (ae E E (ay E E (ah E E (ar (o:=5) Mn E (by kernel_rfl) E) ?_))))
    refine ax E E E (iH My (by kernel_rfl) (i:=1) (by omega) .i64) ?_
    refine ak E E (aj Ms E ((kC.ext (xg8.trans xg10)).cell (i:=6) E)) (ac E E (ac E E (ag (ab (au ?_)))))
    refine a6 (az (a9 E E E ?_))
    exact⟨_,rfl,.inr ⟨s,a,b,x,y,g1,g2,i1,i2,hop,hM.ext (xg8.trans xg10),by rw[if_neg (of_decide_eq_false h42),if_pos (of_decide_eq_true h54)];rfl⟩⟩
   ·refine aC (aS (ab (af (aa (ac E E (ac E E (ag (ab (au (a9 E E E ?_))))))))))
    exact⟨_,rfl,.inr ⟨s,a,b,x,y,g1,g2,i1,i2,hop,hM.ext (xg8.trans xg10),by rw[if_neg (of_decide_eq_false h42),if_neg (of_decide_eq_false h54)];rfl⟩⟩
end Go.Rl
namespace Go.Rl
open Go.RowKit Go.Proofs
def JT.gaps:JT→Nat
 |.gap=>1
 |.leaf _=>0
 |.split _ a b=>a.gaps+b.gaps
theorem jP:∀(t:JT) (p:List bV),(t.miss p).length=t.gaps
 |.gap,p=>rfl
 |.leaf n,p=>rfl
 |.split s a b,p=>by simp only[JT.miss,JT.gaps,List.length_append,jP a,jP b]
theorem ub (n:aZ):∀(p:List bV) {t t':JT},iA n p t=some t'→t'.gaps≤t.gaps+p.length
 |[],.gap,t',h=>by simp only[iA,Option.some.injEq] at h;subst h;simp[JT.gaps]
 |[],.leaf m,t',h=>by simp only[iA,Option.some.injEq] at h;subst h;simp[JT.gaps]
 |[],.split _ _ _,t',h=>by simp[iA] at h
 |d::p,t,t',h=>by
  have key:∀s a b,tf d t=.split s a b→t'.gaps≤(tf d t).gaps+p.length:=fun s a b ho=>by
   simp only[iA,ho] at h
   rw[ho]
   split at h
   ·obtain⟨a',h1,rfl⟩:=Option.map_eq_some_iff.1 h
    have:=ub n p h1
    simp only[JT.gaps];omega
   ·split at h
    ·obtain⟨b',h1,rfl⟩:=Option.map_eq_some_iff.1 h
     have:=ub n p h1
     simp only[JT.gaps];omega
    ·cases h
  cases t with
  |gap=>
   have:=key _ _ _ rfl
   simp only[tf,JT.gaps] at this
   simp only[JT.gaps,List.length_cons];omega
  |leaf m=>simp[iA,tf] at h
  |split s a b=>
   have:=key _ _ _ rfl
   simp only[tf] at this
   simp only[List.length_cons];omega
def zx (p:List bV):Dt:=.sl (p.map dm)
theorem rM (p:List bV):(zx p).size=1:=rfl
theorem zy:(Tryz.prog.info? 41).map (fun i=>(i.zero,i.size,i.bytes))=some (some (.slice none 0 0),1,24):=by kernel_rfl
theorem DN:(Tryz.prog.info? 52).map (fun i=>(i.zero,i.size))=some (some (.agg #[.slice none 0 0,I 0,I 0,B false,.slice none 0 0,.slice none 0 0,.slice none 0 0,B false,.slice none 0 0]),9):=by kernel_rfl
def YM (gm:Nat) (mv:Value) (k:Nat):Prop:=k=gm∨mv.ownBlock=some k
def AV (w0:World) (n gm:Nat) (mv:Value) (k:Nat):Prop:=YM gm mv k∨(w0.heap.size≤k∧k<n)
structure zA (w0 w:World) (F:Nat→Prop) (gm:Nat) (mv:Value) (ms:List (List bV)):Prop where
 cell:cr gm 59 [mv] w
 own:fz 41 1 w0.heap.size (fun k=>k=gm∨F k) zx ms mv w
 ne:mv.ownBlock≠some gm
 young:w0.heap.size≤gm
section
variable {w0 w w':World} {gm g:Nat} {mv mv':Value} {ms:List (List bV)} {t:JT} {ids:List Nat} {F G:Nat→Prop}
theorem zA.ext (h:zA w0 w F gm mv ms) (e:aN w w'):zA w0 w' F gm mv ms:=⟨h.cell.ext e,h.own.ext e,h.ne,h.young⟩
theorem zA.weak (h:zA w0 w F gm mv ms) (hG:∀k,G k→F k∨w.heap.size≤k):zA w0 w G gm mv ms:=by
 obtain⟨h1,⟨n,xs,h2,h3⟩,h4,h5⟩:=h
 refine⟨h1,⟨n,xs,h2,h3.weak fun k hk=>?_⟩,h4,h5⟩
 rcases hk with(hk|hk)|hk
 ·exact .inl (.inl (.inl hk))
 ·exact(hG k hk).imp (fun h=>.inl (.inr h)) id
 ·exact .inl (.inr hk)
theorem zA.ym_young (h:zA w0 w F gm mv ms) {k:Nat} (hk:YM gm mv k):w0.heap.size≤k∧k<w.heap.size:=by
 rcases hk with rfl|hk
 ·exact⟨h.young,h.cell.lt⟩
 ·exact h.own.lt k hk
theorem zA.sto (h:zA w0 w F gm mv ms) (hm:Mv (fun k=>k=g) w w') (hg:F g) (hn:¬YM gm mv g):zA w0 w' F gm mv ms:=
 ⟨hm.blk h.cell fun e=>hn (.inl (Eq.symm e)),h.own.mv hm (fun k hk=>by have e:k=g:=hk;rw[e];exact .inr hg) fun k hk e=>hn (by have e':k=g:=e;rw[←e'];exact .inr hk),h.ne,h.young⟩
theorem jU.ext (h:jU w0 w g t ids) (e:aN w w'):jU w0 w' g t ids:=h.mv (Mv.of_ext (X:=fun _=>False) e) fun _ _ h=>h
def CvR (w0 w:World) (F:Nat→Prop) (gm:Nat) (mv:Value) (ms:List (List bV)) (t:JT) (path:List bV) (r:Value) (w':World):Prop:=
 ∃cs mv',r=.agg cs.toArray∧aw cs∧cL (AV w0 w.heap.size gm mv') w' (bH t.node) cs∧zA w0 w' F gm mv' (ms++t.miss path)∧Mv (YM gm mv) w w'∧(∀k,mv'.ownBlock=some k→mv.ownBlock=some k∨w.heap.size≤k)
def DO (w0:World) (t:JT):Prop:=∀(F:Nat→Prop) (w:World) (g:Nat) (ids:List Nat) (path:List bV) (pv:Value) (gm:Nat) (mv:Value) (ms:List (List bV)),(∀k,F k→w0.heap.size≤k∧k<w.heap.size)→aN w0 w→jU w0 w g t ids→zA w0 w F gm mv ms→(∀k∈ids,¬YM gm mv k)→cL (fun k=>YM gm mv k∨F k) w (.sl (path.map dm)) [pv]→path.length+t.depth≤1073741824→ms.length+t.gaps≤1099511627776→
 Calls Tryz.prog 65 #[.pointer (some ⟨g,0,none⟩),pv,.pointer (some ⟨gm,0,none⟩)] w (bE fun r w'=>CvR w0 w F gm mv ms t path r w')
theorem JD {X:Nat→Prop} {a1 a2:aZ} {c1 c2:List Value} (ha1:cL X w (bH a1) c1) (ha2:cL X w (bH a2) c2) (hX:∀k,X k→k<w.heap.size):
 ∃r w',(Instr.buildSlice 49 2 (eI 0 [Value.agg c1.toArray,Value.agg c2.toArray]).toArray).run Tryz.prog w=.ok r w'∧aN w w'∧cL X w' (.sl ([a1,a2].map bH)) [r]∧r.oneCell'=true:=by
 have hl1:c1.length=9:=by rw[ha1.len,cE]
 have hl2:c2.length=9:=by rw[ha2.len,cE]
 obtain⟨x,w1,h3,h4,h5,h6⟩:=wo (P:=Tryz.prog) (w:=w) (t:=49) Tryz.underlying49 DN rfl (by omega) [c1,c2] (by simp[hl1,hl2]) (by simp) (by simp)
 have h7:cL X w1 (.sl ([a1,a2].map bH)) [x]:=cL.ofSl (sz:=9) (xs:=c1++c2) (by simpa using h5) (by simpa using aT.cons (ha1.ext h4) (aT.cons (b:=[]) (ha2.ext h4) aT.nil)) (by simp[cE]) (by omega) fun k hk hx=>by
  rw[h6] at hk
  have:=Option.some.inj hk
  have:=hX k hx
  omega
 obtain⟨A,n,c,rfl⟩:=h7.isSl
 exact⟨_,w1,by simpa using h3,h4,h7,rfl⟩
structure uP (w0 w:World) (F:Nat→Prop) (g7 gm:Nat) (mv mv1:Value) (ms:List (List bV)) (n:aZ) (cs:List Value) (w':World):Prop where
 m:Mv (YM gm mv) w w'
 k7:cr g7 52 cs w'
 ones:aw cs
 rp:cL (AV w0 w.heap.size gm mv1) w' (bH n) cs
 st:zA w0 w' F gm mv1 ms
 own:∀k,mv1.ownBlock=some k→mv.ownBlock=some k∨w.heap.size≤k
 f7:w.heap.size≤g7
 n7:¬YM gm mv1 g7
variable {P:Program} {wc wd we:World} {g7:Nat} {cs z:List Value} {a:JT} {path:List bV} {mv1:Value} {r:Value}
theorem cs9 {X:Nat→Prop} {n:aZ} (h:cL X w (bH n) cs):(Tryz.prog.info? 52).map (·.size)=some cs.length:=by
 rw[h.len,cE];kernel_rfl
theorem uP.late (e:aN w wc) (h1:aw cs) (hr:cL (AV w0 wc.heap.size gm mv1) wd (bH a.node) cs) (hs:zA w0 wd F gm mv1 (ms++a.miss path)) (hm:Mv (YM gm mv) wc wd) (ho:∀k,mv1.ownBlock=some k→mv.ownBlock=some k∨wc.heap.size≤k) (ee:aN wd we) (l7:wd.heap.size≤g7) (k7:cr g7 52 z we) (hz:z.length=9):
 ∃w',(Instr.storeAt 52 (.pointer (some ⟨g7,0,none⟩)) (.agg cs.toArray)).run Tryz.prog we=.ok () w'∧uP w0 w F g7 gm mv mv1 (ms++a.miss path) a.node cs w':=by
 obtain⟨w',s,q,k⟩:=k7.stS (P:=Tryz.prog) (t:=52) (m:=cs) (by rw[hz,hr.len,cE]) (cs9 hr) h1
 have mq:Mv (fun k=>k=g7) we w':=Mv.of_grown q fun k hk _=>(Option.some.inj hk).symm
 have md:aN wd w':=(Mv.of_ext (X:=fun k=>k=g7) ee|>.trans mq fun _ h _=>h).ext fun k hk=>by have e:k=g7:=hk;omega
 have s1:=hm.size
 have s0:=e.size
 refine⟨w',s,((Mv.of_ext (X:=YM gm mv) e).trans hm fun _ h _=>h).trans (Mv.of_ext (X:=YM gm mv) md) fun _ h _=>h,k,h1,(hr.ext md).weak fun k hk=>.inl ?_,hs.ext md,fun k hk=>(ho k hk).imp id fun h=>Nat.le_trans s0 h,by omega,fun hy=>?_⟩
 ·rcases hk with hk|⟨hk1,hk2⟩
  ·exact .inl hk
  ·exact .inr ⟨hk1,by omega⟩
 ·have:=(hs.ym_young hy).2;omega
theorem uP.early (e:aN w wc) (h1:aw cs) (hr:cL (AV w0 wc.heap.size gm mv1) wd (bH a.node) cs) (hs:zA w0 wd (fun k=>F k∨k=g7) gm mv1 (ms++a.miss path)) (hm:Mv (YM gm mv) wc wd) (ho:∀k,mv1.ownBlock=some k→mv.ownBlock=some k∨wc.heap.size≤k) (h0:w0.heap.size≤w.heap.size) (l7:w.heap.size≤g7) (hy:∀k,YM gm mv k→k<w.heap.size) (k7:cr g7 52 z wc) (hz:z.length=9):
 ∃w',(Instr.storeAt 52 (.pointer (some ⟨g7,0,none⟩)) (.agg cs.toArray)).run Tryz.prog wd=.ok () w'∧uP w0 w F g7 gm mv mv1 (ms++a.miss path) a.node cs w':=by
 have hg7:=k7.lt
 have nm:¬YM gm mv g7:=fun h=>by have:=hy _ h;omega
 have n1:¬YM gm mv1 g7:=fun h=>by
  rcases h with h|h
  ·exact nm (.inl h)
  ·rcases ho _ h with h'|h'
   ·exact nm (.inr h')
   ·omega
 have k7d:=hm.blk k7 nm
 obtain⟨w',s,q,k⟩:=k7d.stS (P:=Tryz.prog) (t:=52) (m:=cs) (by rw[hz,hr.len,cE]) (cs9 hr) h1
 have mq:Mv (fun k=>k=g7) wd w':=Mv.of_grown q fun k hk _=>(Option.some.inj hk).symm
 have s1:=hm.size
 have s0:=e.size
 have e7:∀k,(fun k=>k=g7) k→AV w0 wc.heap.size gm mv1 k:=fun k hk=>.inr (by have e:k=g7:=hk;omega)
 refine⟨w',s,((Mv.of_ext (X:=YM gm mv) e).trans hm fun _ h _=>h).trans mq fun k hk hlt=>?_,k,h1,?_,(hs.sto mq (.inr E) n1).weak fun k hk=>.inl (.inl hk),fun k hk=>(ho k hk).imp id fun h=>Nat.le_trans s0 h,l7,n1⟩
 ·have e:k=g7:=hk
  omega
 ·exact(hr.mv (mq.weak fun k hk _=>e7 k hk) fun _ h=>.inl h).weak fun k hk=>.inl (hk.imp id fun h=>⟨h.1,by omega⟩)
end
end Go.Rl
namespace Go.Rl
open Go.RowKit Go.Proofs
theorem iB:aG Tryz.prog 65:=⟨_,Tryz.func65,by kernel_rfl,rfl⟩
theorem fz.low {e:TypeId} {sz base b2:Nat} {X:Nat→Prop} {α:Type} {f:α→Dt} {l:List α} {v:Value} {w:World} (h:fz e sz base X f l v w) (hb:b2≤base):fz e sz b2 X f l v w:=by
 obtain⟨n,xs,h1,h2⟩:=h
 exact⟨n,xs,j3 h1 fun k hk=>Nat.le_trans hb (World.ownsRow.lt h1 k hk).1,h2⟩
theorem fP {w:World} {X:Nat→Prop} {l:List bV} {v:Value} (hv:cL X w (.sl (l.map dm)) [v]) (hl:l.length≤1099511627776):
 Calls Tryz.prog 109 #[v] w (bE fun r w'=>aN w w'∧fz 48 5 w.heap.size X dm l r w'):=by
 obtain⟨A,n,c,rfl⟩:=hv.isSl
 refine enter (vs:=[.slice A n c]) Tryz.func109 E E E ?_
 refine af (aa (ac E E (ag (ab (af (af (aa (ae E E (al E E E (zP Mg) (ag (ab ?_)))))))))))
 refine fQ E (fun h4=>?_) (fun h4=>?_)
 ·refine af (aa (ac E E (ag (ab (au (az (aA E E ?_)))))))
  have hA:A=none:=by simpa using h4
  have hnil:l=[]:=by
   have h:=hv.rp
   simp only[Rp,List.cons.injEq,Value.slice.injEq,and_true] at h
   obtain⟨_,n',c',⟨rfl,rfl,rfl⟩,h1,h2,_,h3,_⟩:=h
   have:=h3 hA
   exact List.eq_nil_of_length_eq_zero (by rw[List.length_map] at h1;omega)
  subst hnil
  exact⟨_,rfl,aN.refl _,fz.nil _⟩
 ·refine aC (ab (af (aa ?_)))
  obtain⟨v5,w5,hr5,x5,o5,ob5⟩:=KC (P:=Tryz.prog) (w:=w) (f:=dm) (X:=X) Mg y9
  obtain⟨cs,hcs,hall⟩:=cL.toSl (sz:=5) hv (by simp[ci])
  obtain⟨v7,w7,hr7,o7,g7⟩:=o5.app (P:=Tryz.prog) (t:=41) (ty:=41) (m:=l) Tryz.underlying41 pg rfl (by omega) (by omega) (hcs.ext x5) (qX hall.rp) ((hall.weak fun k hk=>hk.imp id fun h=>by rw[ob5] at h;have:=Option.some.inj h;omega).ext x5) ci (by simp;omega) x5.size
  have x7:=aN.of_grew x5 g7 (fun k hk=>(o5.lt k hk).1)
  refine aK (vs:=[]) E E hr5 ?_
  refine ae E E ?_
  refine ba E E hr7 ?_
  refine ac E E (ag (ab (au (aA E E ?_))))
  exact⟨_,rfl,x7,by simpa using o7⟩
end Go.Rl
namespace Go.Rl
open Go.RowKit Go.Proofs
theorem uQ {w0 w:World} {X:Nat→Prop} {n:aZ} {cs:List Value} (h:Rp w0 (bH n) cs) (e:aN w0 w) (hX:∀k,X k→w0.heap.size≤k):cL X w (bH n) cs:=(h.x.ext e).weak fun k hk=>.inl (hX k hk)
theorem YM.grow {w:World} {gm:Nat} {mv mv1:Value} (ho:∀k,mv1.ownBlock=some k→mv.ownBlock=some k∨w.heap.size≤k) {k:Nat} (h:YM gm mv1 k):YM gm mv k∨w.heap.size≤k:=by
 rcases h with h|h
 ·exact .inl (.inl h)
 ·exact(ho k h).imp .inr id
theorem m0 {w0 w6 wx:World} {F F':Nat→Prop} {gk gm:Nat} {ik:List Nat} {mv v48:Value} {ms:List (List bV)} {t:JT} {path:List bV} (hat:DO w0 t) (hF:∀k,F k→w0.heap.size≤k∧k<w6.heap.size) (e0:aN w0 w6) (ex:aN w6 wx) (hJ:jU w0 w6 gk t ik) (hC:zA w0 w6 F gm mv ms) (hd:∀k∈ik,¬YM gm mv k) (hl:path.length+t.depth≤1073741824) (hm:ms.length+t.gaps≤1099511627776)
 (o48:fz 48 5 w6.heap.size (fun k=>YM gm mv k∨F' k) dm path v48 wx) (hF':∀k,F' k→F k∨(w6.heap.size≤k∧k<wx.heap.size)) (hne:∀k,v48.ownBlock=some k→¬F' k):
 Calls Tryz.prog 65 #[.pointer (some ⟨gk,0,none⟩),v48,.pointer (some ⟨gm,0,none⟩)] wx (bE fun r w'=>CvR w0 wx F' gm mv ms t path r w'):=by
 have s0:=e0.size
 have sx:=ex.size
 refine hat F' wx gk ik path v48 gm mv ms (fun k hk=>?_) (e0.trans ex) (hJ.ext ex) ((hC.weak fun k hk=>(hF' k hk).imp id fun h=>h.1).ext ex) hd (o48.rpx ci (by omega) (fun _ h=>h) fun k hk hk'=>?_) hl hm
 ·rcases hF' k hk with h|h
  ·exact⟨(hF k h).1,by have:=(hF k h).2;omega⟩
  ·exact⟨by omega,h.2⟩
 ·have h1:=(o48.lt k hk).1
  rcases hk' with h|h
  ·have:=(hC.ym_young h).2;omega
  ·exact hne k hk h
theorem ER {w0 w6 wg w1:World} {X:Nat→Prop} {path:List bV} {d:bV} {x y v42 v47:Value} (e0:aN w0 w6) (eg:aN w6 wg) (e1:aN wg w1) (hX:∀k,X k→w0.heap.size≤k) (hx:bt d.at_.2.1 x w0) (hy:bt d.at_.2.2 y w0) (o42:fz 48 5 w6.heap.size X dm path v42 w1) (b47:Sl 5 [I d.kd,I d.ix,B d.at_.1,x,y] v47 wg) (hl:path.length≤1099511627776):
 ∃r w2,(Builtin.append_ #[41,41] 41 #[v42,v47]).run Tryz.prog w1=.ok r w2∧fz 48 5 w6.heap.size X dm (path++[d]) r w2∧aN w6 w2∧Mv (fun k=>v42.ownBlock=some k) w1 w2∧∀k,r.ownBlock=some k→v42.ownBlock=some k∨w1.heap.size≤k:=by
 have hlt:=o42.lt
 have s1:=(eg.trans e1).size
 obtain⟨r,w2,h1,h2,h3⟩:=o42.app (P:=Tryz.prog) (t:=41) (ty:=41) (m:=[d]) Mg pg rfl (by omega) (by omega) (b47.ext e1) (aw.cons rfl (aw.cons rfl (aw.cons rfl (aw.cons hx.one (aw.cons hy.one aw.nil))))) (by
  have:=(((AB hx hy).x.ext (e0.trans (eg.trans e1))).weak (Y:=fun k=>X k∨v42.ownBlock=some k) fun k hk=>by
   rcases hk with hk|hk
   ·exact .inl (hX k hk)
   ·exact .inl (Nat.le_trans e0.size (hlt k hk).1))
  simpa using aT.cons this aT.nil) ci (by simp;omega) s1
 have hm:Mv (fun k=>v42.ownBlock=some k) w1 w2:=Mv.of_grown h3.grown fun k hk _=>hk
 refine⟨r,w2,h1,h2,hm.ext_from (eg.trans e1) fun k hk=>(hlt k hk).1,hm,fun k hk=>?_⟩
 rcases h3.own with h|h
 ·rw[h] at hk;exact .inl hk
 ·exact .inr (h k hk)
section
variable {P:Program} {ops:Array Oper} {Q:iR} {N:Nat} {D:List Deferred} {S:World→Prop} {fuel:Nat} {listed:Array Bool} {l:Fr} {w:World} {d:Tmp} {ty:TypeId} {pos:String} {aft:Array Edge}
theorem nX (i:Nat) {x:Operand} {a:Addr} (hi:ops[i]? =some ⟨some d,.nilCheck x,ty,pos,aft,none⟩) (hx:ev l x=some (.pointer (some a))) (hB:nt ops listed i=true) (hd:Nat.blt d N=true) (hS:S w)
 (k:dx P ops Q N D S fuel (listed.setIfInBounds i true) ((d,.pointer (some a))::l) w):dx P ops Q N D S (fuel+1) listed l w:=
 yx i hi hB hd hS (fun ρ w' hρ _=>by simp[execOp,hρ x _ hx]) k
theorem JE (i j m:Nat) {o u z:Oper} (hr:Region.ready .any ops listed=[i,j,m]) (hi:ops[i]? =some o) (hj:ops[j]? =some u) (hm:ops[m]? =some z) (h:cH P ops (uw P ops Q S fuel (listed.setIfInBounds i true)) N D l w [o])
 (h':cH P ops (uw P ops Q S fuel (listed.setIfInBounds j true)) N D l w [u]) (h'':cH P ops (uw P ops Q S fuel (listed.setIfInBounds m true)) N D l w [z]):dx P ops Q N D S (fuel+1) listed l w:=fun a ha=>
 wpAnyH_all hr (by simp) fun k hk=>by
  rcases(by simpa using hk:k=i∨k=j∨k=m) with rfl|rfl|rfl
  ·exact gM hi (h a ha)
  ·exact gM hj (h' a ha)
  ·exact gM hm (h'' a ha)
end
theorem ew {w:World}:∃g w',(Instr.alloc 52 true (.tuple #[])).run Tryz.prog w=.ok (.pointer (some ⟨g,0,none⟩)) w'∧w.heap.size≤g∧aN w w'∧cr g 52 [.slice none 0 0,I 0,I 0,B false,.slice none 0 0,.slice none 0 0,.slice none 0 0,B false,.slice none 0 0] w':=
 aX (P:=Tryz.prog) (w:=w) (t:=52) (z:=.agg #[.slice none 0 0,I 0,I 0,B false,.slice none 0 0,.slice none 0 0,.slice none 0 0,B false,.slice none 0 0]) (l:=[.slice none 0 0,I 0,I 0,B false,.slice none 0 0,.slice none 0 0,.slice none 0 0,B false,.slice none 0 0]) (by kernel_rfl) rfl
end Go.Rl
namespace Go.Rl
open Go.RowKit Go.Proofs
theorem rN {w0:World} (ho:z8 w0) {t:JT} (ih:∀s a b,t=.split s a b→DO w0 a∧DO w0 b):DO w0 t:=by
 intro F w g ids path pv gm mv ms hF e0 hJ hC hd hp hpl hml
 have hg:w0.heap.size≤g:=hJ.young g hJ.root
 have hgl:g<w.heap.size:=hJ.lt g hJ.root
 have hny:¬YM gm mv g:=hd g hJ.root
 refine enter (vs:=[.pointer (some ⟨g,0,none⟩),pv,.pointer (some ⟨gm,0,none⟩)]) Tryz.func65 E E E ?_
 refine af (aa ?_)
 obtain⟨g6,w6,hr6,l6,x6,k6⟩:=aX (P:=Tryz.prog) (w:=w) (t:=52) (z:=.agg #[.slice none 0 0,I 0,I 0,B false,.slice none 0 0,.slice none 0 0,.slice none 0 0,B false,.slice none 0 0]) (l:=[.slice none 0 0,I 0,I 0,B false,.slice none 0 0,.slice none 0 0,.slice none 0 0,B false,.slice none 0 0]) (by kernel_rfl) rfl
 refine aV E hr6 (ag (ab (af (af ?_))))
 have hg6:g≠g6:=by omega
 have s6:=x6.size
 have lg6:=k6.lt
 have hgm:=hC.cell.lt
 have hmvl:=hC.own.lt
 have n6:¬YM gm mv g6:=fun h=>by have:=(hC.ym_young h).2;omega
 have hFF:∀k,(F k∨k=g6)→w0.heap.size≤k∧k<w6.heap.size:=fun k hk=>by
  have:=e0.size
  rcases hk with hk|hk
  ·have:=hF k hk;exact⟨this.1,by omega⟩
  ·omega
 have hC6:zA w0 w6 (fun k=>F k∨k=g6) gm mv ms:=(hC.weak fun k hk=>hk.imp id fun h=>by omega).ext x6
 have hp6:cL (fun k=>YM gm mv k∨(F k∨k=g6)) w6 (.sl (path.map dm)) [pv]:=(hp.weak fun k hk=>by rcases hk with hk|hk|hk;exact .inl (.inl hk);exact .inl (.inr hk);exact .inr (by omega)).ext x6
 have hJ2:=hJ
 rcases t.shape with ht|⟨n,ht⟩|⟨s,a,b,ht⟩
 ·rw[ht] at hJ2
  obtain⟨hid,kg⟩:=AS hJ2
  have kg6:cr g 114 [I 0,I 0,B false,.slice none 0 0,.slice none 0 0,.pointer none,.pointer none,.pointer none] w6:=kg.ext x6
  refine aa (ae E E (ay E E (ah E E (ar (o:=7) Mn E (by kernel_rfl) E) (ak E E (aj Mu E (kg6.cell (i:=7) E)) ?_))))
  refine al E E E (gZ Mu) (ag (ab (cp E (aC (ab (af (af (aa (ae E E (ay E E (ah E E (ar (o:=5) Mn E (by kernel_rfl) E) ?_)))))))))))
  refine ax E E E (iH My (by kernel_rfl) (i:=0) (by omega) .i64) ?_
  refine ak E E (aj Ms E (kg6.cell (i:=5) E)) (al E E E (gr Ms) (ag ?_))
  refine ab (bf E (af ?_))
  have hpl':path.length≤1099511627776:=by omega
  have hg1:t.gaps=1:=by rw[ht];rfl
  refine u6 7 [7,8,9] [6,26,29,32] (by kernel_rfl) (by kernel_rfl) E E E ?_
  refine aD rfl rfl (dh rfl rfl (aO rfl rfl (fun w' hw=>aj MB rfl (hC6.cell.ext hw).k0) (aD rfl rfl (ca (S:=fz 48 5 w6.heap.size (fun k=>YM gm mv k∨(F k∨k=g6)) dm path) fN (fz.stable) rfl (fun w hw=>by rintro _ rfl;exact bE.mono (fP (hp6.ext hw) hpl') fun v w' h=>⟨h.1,h.2.low hw.size⟩) ?_))))
  refine fR (S:=fun v w'=>∃pv1,fz 48 5 w6.heap.size (fun k=>YM gm mv k∨(F k∨k=g6)) dm path pv1 w'∧Sl 1 [pv1] v w') (fun _ _ _ ⟨pv1,h1,h2⟩ hx=>⟨pv1,h1.ext hx,h2.ext hx⟩) E (fun w' hw=>by
 intro pv1 h1
 obtain⟨r,w2,a1,a2,a3,_⟩:=j4 (P:=Tryz.prog) (w:=w') (base:=0) Tryz.underlying59 zy [pv1] (aw.cons h1.one aw.nil) (by simp) (Nat.zero_le _)
 exact⟨r,w2,a1,a2,pv1,h1.ext a2,Sl.of_own a3⟩) ?_
  refine cq ?_
  intro wg4 xg4
  rintro _ rfl
  rintro _ rfl
  rintro _ hq29
  obtain rfl:=Eq.symm hq29
  intro vg32 b32
  obtain⟨pv1,o1,sl1⟩:=b32
  have sg4:=xg4.size
  have own1:=o1.lt
  have hC4:=hC6.ext xg4
  have rp1:cL (fun k=>(k=gm∨(F k∨k=g6))∨mv.ownBlock=some k) wg4 (zx path) [pv1]:=(o1.rpx ci (by omega) (fun _ h=>h) fun k hk hk'=>by
   have h1:=(own1 k hk).1
   rcases hk' with h|h
   ·have:=(hC.ym_young h).2;omega
   ·have:=(hFF k h).2;omega).weak fun k hk=>by
   rcases hk with(hk|hk)|hk
   ·exact .inl (.inl (.inl hk))
   ·exact .inl (.inr hk)
   ·exact .inl (.inl (.inr hk))
  obtain⟨v33,w33,hr33,o33,gr33⟩:=hC4.own.app (P:=Tryz.prog) (t:=59) (ty:=59) (m:=[path]) Tryz.underlying59 zy rfl (by omega) (by omega) sl1 (aw.cons o1.one aw.nil) (by simpa using aT.cons (b:=[]) rp1 aT.nil) rM (by simp;omega) (by have:=e0.size;omega)
  have m33:Mv (fun k=>mv.ownBlock=some k) wg4 w33:=Mv.of_grown gr33.grown fun k hk _=>hk
  have n33:∀k,v33.ownBlock=some k→mv.ownBlock=some k∨wg4.heap.size≤k:=fun k hk=>by
   rcases gr33.own with h|h
   ·rw[h] at hk;exact .inl hk
   ·exact .inr (h k hk)
  have c33:=m33.blk hC4.cell fun h=>hC.ne h
  have l33:=c33.lt
  have ne33:v33.ownBlock≠some gm:=fun h=>by
   rcases n33 gm h with h'|h'
   ·exact hC.ne h'
   ·omega
  obtain⟨w34,s34,q34,k34⟩:=c33.stC (P:=Tryz.prog) (t:=59) (i:=0) (v:=v33) (by kernel_rfl) o33.one (by simp)
  have m34:Mv (fun k=>k=gm) w33 w34:=Mv.of_grown q34 fun k hk _=>(Option.some.inj hk).symm
  have mm:Mv (YM gm mv) w w34:=(((Mv.of_ext (X:=YM gm mv) (x6.trans xg4)).trans m33 fun k hk _=>.inr hk).trans m34 fun k hk _=>.inl hk)
  have m64:Mv (YM gm mv) w6 w34:=(((Mv.of_ext (X:=YM gm mv) xg4).trans m33 fun k hk _=>.inr hk).trans m34 fun k hk _=>.inl hk)
  have k6b:=m64.blk k6 n6
  have o34:=o33.mv m34 (fun k hk=>.inl hk) fun k hk h=>ne33 (by have e:k=gm:=h;rw[←e];exact hk)
  refine ba E E hr33 ?_
  refine ay E E ?_
  refine aq E E s34 ?_
  refine ag (Ag (ab (af (aa (bC (vs:=[]) (r:=.agg #[.slice none 0 0,I 0,I 0,B false,.slice none 0 0,.slice none 0 0,.slice none 0 0,B false,.slice none 0 0]) E E (by exact run_build _ _ _ _ (by kernel_rfl)) ?_)))))
  obtain⟨w5,s5,q5,k5⟩:=k6b.stS (P:=Tryz.prog) (t:=52) (m:=[.slice none 0 0,I 0,I 0,B false,.slice none 0 0,.slice none 0 0,.slice none 0 0,B false,.slice none 0 0]) rfl (by kernel_rfl) (aw.cons rfl (aw.cons rfl (aw.cons rfl (aw.cons rfl (aw.cons rfl (aw.cons rfl (aw.cons rfl (aw.cons rfl (aw.cons rfl aw.nil)))))))))
  refine aq E E s5 ?_
  refine ag (ab (au (az ?_)))
  refine dv E E k5 L6 E (by kernel_rfl) ?_
  have m5:Mv (fun k=>k=g6) w34 w5:=Mv.of_grown q5 fun k hk _=>(Option.some.inj hk).symm
  have n65:¬YM gm v33 g6:=fun h=>(YM.grow n33 h).elim n6 fun h=>by omega
  have st5:zA w0 w34 (fun k=>F k∨k=g6) gm v33 (ms++[path]):=⟨k34,o34,ne33,hC.young⟩
  refine⟨_,rfl,[.slice none 0 0,I 0,I 0,B false,.slice none 0 0,.slice none 0 0,.slice none 0 0,B false,.slice none 0 0],v33,rfl,(aw.cons E (aw.cons E (aw.cons E (aw.cons E (aw.cons E (aw.cons E (aw.cons E (aw.cons E (aw.cons E aw.nil))))))))),?_,?_,mm.trans m5 fun k hk hlt=>by have e:k=g6:=hk;omega,fun k hk=>(n33 k hk).imp id fun h=>by omega⟩
  ·rw[ht]
   exact vh
  ·rw[ht]
   exact(st5.sto m5 (.inr rfl) n65).weak fun k hk=>.inl (.inl hk)
 ·rw[ht] at hJ2
  obtain⟨gl,cl,hid,kg,kl,hrl⟩:=vn hJ2
  have kg6:cr g 114 [I 0,I 0,B false,.slice none 0 0,.slice none 0 0,.pointer none,.pointer none,.pointer (some ⟨gl,0,none⟩)] w6:=kg.ext x6
  obtain⟨vl,x,y,vk,vp,rfl,hl0,hx0,hy0,hk0,hp0⟩:=dW hrl
  have kl6:=kl.ext x6
  refine aa (ae E E (ay E E (ah E E (ar (o:=7) Mn E (by kernel_rfl) E) (ak E E (aj Mu E (kg6.cell (i:=7) E)) ?_))))
  refine al E E E (gZ Mu) (ag (ab (bf E (af (aa (ae E E (ay E E (ah E E (ar (o:=7) Mn E (by kernel_rfl) E) ?_))))))))
  refine ak E E (aj Mu E (kg6.cell (i:=7) E)) (ay E E ?_)
  refine ak E E (kl6.ld L6 E (by kernel_rfl)) ?_
  obtain⟨w2_6,s2_6,q2_6,k2_6⟩:=k6.stS (P:=Tryz.prog) (t:=52) (m:=[vl,I n.split.kd,I n.split.ix,B n.split.at_.1,x,y,vk,B n.empty,vp]) rfl (by kernel_rfl) (aw.cons hl0.one (aw.cons rfl (aw.cons rfl (aw.cons rfl (aw.cons hx0.one (aw.cons hy0.one (aw.cons hk0.one (aw.cons rfl (aw.cons hp0.one aw.nil)))))))))
  refine aq E E s2_6 ?_
  have x2_6:=aN.of_new (x6) q2_6 l6
  refine ag (ab (au (az ?_)))
  refine dv E E k2_6 L6 E (by kernel_rfl) ?_
  have e2:=x2_6
  refine⟨_,rfl,[vl,I n.split.kd,I n.split.ix,B n.split.at_.1,x,y,vk,B n.empty,vp],mv,rfl,Em hrl,?_,?_,Mv.of_ext (X:=YM gm mv) e2,fun k hk=>.inl hk⟩
  ·rw[ht]
   exact uQ hrl (e0.trans e2) fun k hk=>hk.elim (fun h=>(hC.ym_young h).1) fun h=>h.1
  ·rw[ht]
   simpa [JT.miss] using hC.ext e2
 ·rw[ht] at hJ2
  obtain⟨x,y,g1,g2,i1,i2,hid,hsx,hsy,kg,j1,j2,_,n1,n2,n3⟩:=hJ2.split_inv
  have kg6:cr g 114 [I s.kd,I s.ix,B s.at_.1,x,y,.pointer (some ⟨g1,0,none⟩),.pointer (some ⟨g2,0,none⟩),.pointer none] w6:=kg.ext x6
  refine aa (ae E E (ay E E (ah E E (ar (o:=7) Mn E (by kernel_rfl) E) (ak E E (aj Mu E (kg6.cell (i:=7) E)) ?_))))
  refine al E E E (gZ Mu) (ag (ab (cp E (aC (ab (af (af (aa (ae E E (ay E E (ah E E (ar (o:=5) Mn E (by kernel_rfl) E) ?_)))))))))))
  refine ax E E E (iH My (by kernel_rfl) (i:=0) (by omega) .i64) ?_
  refine ak E E (aj Ms E (kg6.cell (i:=5) E)) (al E E E (gr Ms) (ag ?_))
  refine ab (cp E (aC (ab (af ?_))))
  have hA:DO w0 a:=(ih s a b ht).1
  have hB:DO w0 b:=(ih s a b ht).2
  have hdep:t.depth=1+max a.depth b.depth:=by rw[ht];rfl
  have hgap:t.gaps=a.gaps+b.gaps:=by rw[ht];rfl
  have hFF2:=hFF
  have hdA:∀k∈i1,¬YM gm mv k:=fun k hk=>hd k (by rw[hid];simp[hk])
  have hdB:∀k∈i2,¬YM gm mv k:=fun k hk=>hd k (by rw[hid];simp[hk])
  have hd6:=hdA
  have j1:=j1.ext x6
  have s0:=e0.size
  have sW:w0.heap.size≤w6.heap.size:=(e0.trans x6).size
  have hpl:path.length≤1099511627776:=by omega
  have hXy:∀k,(YM gm mv k∨(F k∨k=g6))→w0.heap.size≤k:=fun k hk=>hk.elim (fun h=>(hC6.ym_young h).1) fun h=>(hFF k h).1
  have hYw:∀k,YM gm mv k→k<w6.heap.size:=fun k h=>(hC6.ym_young h).2
  have hFl:∀k,(F k∨k=g6)→k<w6.heap.size:=fun k h=>(hFF2 k h).2
  have hS:cr g 114 [I s.kd,I s.ix,B s.at_.1,x,y,.pointer (some ⟨g1,0,none⟩),.pointer (some ⟨g2,0,none⟩),.pointer none] w6.drew:=kg6.ext (aN.refl w6).drew
  have eD:aN w6 w6.drew:=(aN.refl w6).drew
  refine gS (fun w1=>cr g 114 [I s.kd,I s.ix,B s.at_.1,x,y,.pointer (some ⟨g1,0,none⟩),.pointer (some ⟨g2,0,none⟩),.pointer none] w1) 17 E (by kernel_rfl) ?_
  refine fv 0 E E (by kernel_rfl) E hS ?_
  refine nX 1 E E (by kernel_rfl) E hS ?_
  refine fo 2 E E (by kernel_rfl) E hS (fun _ _=>ar (o:=5) Mn E (by kernel_rfl) E) ?_
  refine ux 3 E E E (by kernel_rfl) E hS (fun _ _=>iH My (by kernel_rfl) (i:=0) (by omega) .i64) ?_
  refine fU 4 E E (by kernel_rfl) E hS (fun _ hw=>aj Ms E (hw.cell (i:=5) E)) ?_
  refine fv 5 E E (by kernel_rfl) E hS ?_
  refine fv 7 E E (by kernel_rfl) E hS ?_
  refine nX 8 E E (by kernel_rfl) E hS ?_
  refine fo 9 E E (by kernel_rfl) E hS (fun _ _=>ar (o:=0) Mn E (by kernel_rfl) E) ?_
  refine fU 10 rfl rfl (by kernel_rfl) rfl hS (fun _ hw=>hw.ldO (ms:=[I s.kd,I s.ix,B s.at_.1,x,y]) (o:=0) (fun j v hj=>by rcases j with _|_|_|_|_|j<;>simp_all) Tryz.underlying48 rfl (by kernel_rfl)) ?_
  refine fv 13 E E (by kernel_rfl) E hS ?_
  refine nu (fun z=>[(0,.pointer (some ⟨g,0,none⟩)),(1,pv),(2,.pointer (some ⟨gm,0,none⟩)),(6,.pointer (some ⟨g6,0,none⟩)),(7,.pointer (some ⟨z.2.2,0,none⟩))]) (fun(z:Value×List Value×Nat) w1=>uP w0 w6 (fun k=>F k∨k=g6) z.2.2 gm mv z.1 (ms++a.miss (path++[s])) a.node z.2.1 w1) #[true,true,true,true,true,true,true,true,true,true,true,true,true,true,true,true,true] 0 ?_ (fun hk=>?_)
  rotate_left
  ·refine nu (fun z=>[(0,.pointer (some ⟨g,0,none⟩)),(1,pv),(2,.pointer (some ⟨gm,0,none⟩)),(6,.pointer (some ⟨g6,0,none⟩)),(40,.pointer (some ⟨g1,0,none⟩)),(49,.pointer (some ⟨gm,0,none⟩)),(42,z.1),(47,z.2.1),(7,.pointer (some ⟨z.2.2,0,none⟩))]) (fun(z:Value×Value×Nat) w1=>aN w6 w1∧fz 48 5 w6.heap.size (fun k=>YM gm mv k∨((F k∨k=g6)∨k=z.2.2)) dm path z.1 w1∧Sl 5 [I (s).kd,I (s).ix,B (s).at_.1,x,y] z.2.1 w1∧cr z.2.2 52 [.slice none 0 0,I 0,I 0,B false,.slice none 0 0,.slice none 0 0,.slice none 0 0,B false,.slice none 0 0] w1∧w6.heap.size≤z.2.2∧z.1.ownBlock≠some z.2.2) #[true,true,true,true,true,true,true,true,true,true,true,true,false,true,false,true,false] 3 ?_ (fun hk2=>?_)
   ·rintro⟨v42,v47,gc⟩ wg ⟨xg,b42,b47,k7,l7,ne42⟩
    have l7b:=k7.lt
    have own42:=b42.lt
    obtain⟨v48,w48,hr48,o48,e48,m48,n48⟩:=ER (X:=(fun k=>YM gm mv k∨((F k∨k=g6)∨k=gc))) (d:=s) (e0.trans x6) xg (aN.refl _) (fun k hk=>by rcases hk with hk|hk|hk;exact hXy k (.inl hk);exact hXy k (.inr hk);(have:k=gc:=hk;dsimp only at l7;omega)) hsx hsy b42 b47 hpl
    have own48:=o48.lt
    have s48:=m48.size
    refine aR 12 (by kernel_rfl) E (ba E E hr48 (aI (kg6.ext e48) ?_))
    refine aR 14 (by kernel_rfl) rfl (an iB rfl rfl (m0 (F':=fun k=>(F k∨k=g6)∨k=gc) hA hFF2 (e0.trans x6) e48 j1 hC6 hd6 (by simp;omega) (by omega) o48 (fun k hk=>hk.imp id fun h=>by dsimp only at l7 l7b;omega) (fun k hk hk2=>by rcases hk2 with hk2|hk2;(have:=(own48 k hk).1;have:=hFl k hk2;omega);(rcases n48 k hk with h|h;exact ne42 (hk2▸h);(dsimp only at l7b;omega)))) ?_)
    rintro v50 w50 ⟨cs,mvk,rfl,h1,hr,hs,hm,hoo⟩
    refine aI (hm.blk (kg6.ext e48) hny) ?_
    obtain⟨w8,hs8,K⟩:=uP.early e48 h1 hr hs hm hoo sW l7 hYw (m48.blk k7 ne42) rfl
    refine aR 16 (by kernel_rfl) E (aq E E hs8 (aI (K.m.blk kg6 hny) ?_))
    exact hk _ _ ⟨(mvk,cs,gc),⟨rfl,rfl,rfl,rfl,rfl,trivial⟩,K⟩
   ·refine nu (fun z=>[(0,.pointer (some ⟨g,0,none⟩)),(1,pv),(2,.pointer (some ⟨gm,0,none⟩)),(6,.pointer (some ⟨g6,0,none⟩)),(40,.pointer (some ⟨g1,0,none⟩)),(49,.pointer (some ⟨gm,0,none⟩)),(42,z.1),(47,z.2)]) (fun(z:Value×Value) w1=>aN w6 w1∧fz 48 5 w6.heap.size (fun k=>YM gm mv k∨(F k∨k=g6)) dm path z.1 w1∧Sl 5 [I (s).kd,I (s).ix,B (s).at_.1,x,y] z.2 w1) #[true,true,true,true,true,true,true,true,true,true,true,true,false,true,false,false,false] 4 ?_ (fun hk1=>?_)
    ·rintro⟨v42,v47⟩ wg ⟨xg,b42,b47⟩
     have own42:=b42.lt
     have sg:=xg.size
     refine kQ 12 15 (by kernel_rfl) E E ?_ ?_
     ·obtain⟨v48,w48,hr48,o48,e48,m48,n48⟩:=ER (d:=s) (e0.trans x6) xg (aN.refl _) hXy hsx hsy b42 b47 hpl
      have own48:=o48.lt
      refine ba E E hr48 (aI (kg6.ext e48) ?_)
      refine kQ 14 15 (by kernel_rfl) E E ?_ ?_
      ·have zz:=e48.size
       refine an iB E E (m0 hA hFF2 (e0.trans x6) e48 j1 hC6 hd6 (by simp;omega) (by omega) o48 (fun k hk=>.inl hk) (fun k hk hk2=>by have:=(own48 k hk).1;have:=hFl k hk2;omega)) ?_
       rintro v50 w50 ⟨cs,mvk,rfl,h1,hr,hs,hm,hoo⟩
       refine aI (hm.blk (kg6.ext e48) hny) ?_
       obtain⟨gc,w7,hr7,l7,x7,k7⟩:=ew (w:=w50)
       refine aR 15 (by kernel_rfl) E (aV E hr7 (aI ((hm.blk (kg6.ext e48) hny).ext x7) ?_))
       obtain⟨w8,hs8,K⟩:=uP.late e48 h1 hr hs hm hoo x7 l7 k7 rfl
       refine aR 16 (by kernel_rfl) E (aq E E hs8 (aI (K.m.blk kg6 hny) ?_))
       exact hk _ _ ⟨(mvk,cs,gc),⟨rfl,rfl,rfl,rfl,rfl,trivial⟩,K⟩
      ·obtain⟨gc,w7,hr7,l7,x7,k7⟩:=ew (w:=w48)
       have s48:=e48.size
       have l7b:=k7.lt
       refine aV E hr7 (aI (kg6.ext (e48.trans x7)) ?_)
       refine aR 14 (by kernel_rfl) rfl (an iB rfl rfl (m0 (F':=fun k=>(F k∨k=g6)∨k=gc) hA hFF2 (e0.trans x6) (e48.trans x7) j1 hC6 hd6 (by simp;omega) (by omega) ((o48.weak (fun k hk=>by rcases hk with hk|hk|hk;exact .inl (.inl hk);exact .inl (.inr hk);exact .inr (by omega))).ext x7) (fun k hk=>hk.imp id fun h=>by omega) (fun k hk hk2=>by rcases hk2 with hk2|hk2;(have:=(own48 k hk).1;have:=hFl k hk2;omega);(have:=(own48 k hk).2;omega))) ?_)
       rintro v50 w50 ⟨cs,mvk,rfl,h1,hr,hs,hm,hoo⟩
       refine aI (hm.blk (kg6.ext (e48.trans x7)) hny) ?_
       obtain⟨w8,hs8,K⟩:=uP.early (e48.trans x7) h1 hr hs hm hoo sW (by omega) hYw k7 rfl
       refine aR 16 (by kernel_rfl) E (aq E E hs8 (aI (K.m.blk kg6 hny) ?_))
       exact hk _ _ ⟨(mvk,cs,gc),⟨rfl,rfl,rfl,rfl,rfl,trivial⟩,K⟩
     ·obtain⟨gc,w7,hr7,l7,x7,k7⟩:=ew (w:=wg)
      refine aV E hr7 (aI (kg6.ext (xg.trans x7)) ?_)
      exact hk2 _ _ ⟨(v42,v47,gc),⟨rfl,rfl,rfl,rfl,rfl,rfl,rfl,rfl,rfl,trivial⟩,xg.trans x7,(b42.weak (fun k hk=>by rcases hk with hk|hk|hk;exact .inl (.inl hk);exact .inl (.inr hk);(have:k=gc:=hk;exact .inr (by omega)))).ext x7,b47.ext x7,k7,(show w6.heap.size≤gc by omega),fun h=>by have:=(own42 gc h).2;omega⟩
    ·refine JE 6 11 15 (by kernel_rfl) E E E ?_ ?_ ?_
     ·refine an fN E E (fP (hp6.ext eD) hpl) ?_
      rintro va1 wz1 ⟨x1,oo1⟩
      have oz1:=oo1.low (eD).size
      have ez1:aN w6 wz1:=eD.trans x1
      refine aI (kg6.ext ez1) ?_
      refine kQ 11 15 (by kernel_rfl) E E ?_ ?_
      ·obtain⟨vr2,wz2,hr2,x2,bz2⟩:=jB (w:=wz1) (d:=s) (x:=x) (y:=y)
       have ez2:aN w6 wz2:=ez1.trans x2
       refine aK (vs:=[(0,.agg #[I (s).kd,I (s).ix,B (s).at_.1,x,y])]) E E hr2 (aI (kg6.ext ez2) ?_)
       have oz2:=oz1.ext x2
       exact hk1 _ _ ⟨(va1,vr2),⟨rfl,rfl,rfl,rfl,rfl,rfl,rfl,rfl,trivial⟩,ez2,oz2,bz2⟩
      ·obtain⟨gc3,wz3,hr3,l3,x3,k3⟩:=ew (w:=wz1)
       have la3:=ez1.size
       have lb3:=k3.lt
       refine aV E hr3 (aI (kg6.ext (ez1.trans x3)) ?_)
       have ez3:aN w6 wz3:=(ez1.trans x3)
       have oz3:=(oz1.weak (Y:=(fun k=>YM gm mv k∨((F k∨k=g6)∨k=gc3))) (fun k hk=>by rcases hk with hk|hk|hk;exact .inl (.inl hk);exact .inl (.inr hk);(have:k=gc3:=hk;exact .inr (by omega)))).ext x3
       have nz3:va1.ownBlock≠some gc3:=fun h=>by have:=(oz1.lt gc3 h).2;omega
       obtain⟨vr4,wz4,hr4,x4,bz4⟩:=jB (w:=wz3) (d:=s) (x:=x) (y:=y)
       have ez4:aN w6 wz4:=ez3.trans x4
       refine aR 11 (by kernel_rfl) E (aK (vs:=[(0,.agg #[I (s).kd,I (s).ix,B (s).at_.1,x,y])]) E E hr4 (aI (kg6.ext ez4) ?_))
       have oz4:=oz3.ext x4
       have kz4:=k3.ext x4
       exact hk2 _ _ ⟨(va1,vr4,gc3),⟨rfl,rfl,rfl,rfl,rfl,rfl,rfl,rfl,rfl,trivial⟩,ez4,oz4,bz4,kz4,(show w6.heap.size≤gc3 by omega),nz3⟩
     ·obtain⟨vr5,wz5,hr5,x5,bz5⟩:=jB (w:=w6.drew) (d:=s) (x:=x) (y:=y)
      have ez5:aN w6 wz5:=eD.trans x5
      refine aK (vs:=[(0,.agg #[I (s).kd,I (s).ix,B (s).at_.1,x,y])]) E E hr5 (aI (kg6.ext ez5) ?_)
      refine kQ 6 15 (by kernel_rfl) E E ?_ ?_
      ·refine an fN E E (fP (hp6.ext ez5) hpl) ?_
       rintro va6 wz6 ⟨x6,oo6⟩
       have oz6:=oo6.low (ez5).size
       have ez6:aN w6 wz6:=ez5.trans x6
       refine aI (kg6.ext ez6) ?_
       have bz6:=bz5.ext x6
       exact hk1 _ _ ⟨(va6,vr5),⟨rfl,rfl,rfl,rfl,rfl,rfl,rfl,rfl,trivial⟩,ez6,oz6,bz6⟩
      ·obtain⟨gc7,wz7,hr7,l7,x7,k7⟩:=ew (w:=wz5)
       have la7:=ez5.size
       have lb7:=k7.lt
       refine aV E hr7 (aI (kg6.ext (ez5.trans x7)) ?_)
       have ez7:aN w6 wz7:=(ez5.trans x7)
       have bz7:=bz5.ext x7
       refine aR 6 (by kernel_rfl) rfl (an fN rfl rfl (fP ((hp6.weak (Y:=(fun k=>YM gm mv k∨((F k∨k=g6)∨k=gc7))) (fun k hk=>by rcases hk with hk|hk|hk;exact .inl (.inl hk);exact .inl (.inr hk);(have:k=gc7:=hk;have:=(show w6.heap.size≤gc7 by omega);exact .inr (by omega)))).ext ez7) hpl) ?_)
       rintro va8 wz8 ⟨x8,oo8⟩
       have oz8:=oo8.low (ez7).size
       have ez8:aN w6 wz8:=ez7.trans x8
       refine aI (kg6.ext ez8) ?_
       have nz8:va8.ownBlock≠some gc7:=fun h=>by have:=(oo8.lt gc7 h).1;have:=k7.lt;omega
       have kz8:=k7.ext x8
       have bz8:=bz7.ext x8
       exact hk2 _ _ ⟨(va8,vr5,gc7),⟨rfl,rfl,rfl,rfl,rfl,rfl,rfl,rfl,rfl,trivial⟩,ez8,oz8,bz8,kz8,(show w6.heap.size≤gc7 by omega),nz8⟩
     ·obtain⟨gc9,wz9,hr9,l9,x9,k9⟩:=ew (w:=w6.drew)
      have la9:=eD.size
      have lb9:=k9.lt
      refine aV E hr9 (aI (kg6.ext (eD.trans x9)) ?_)
      have ez9:aN w6 wz9:=(eD.trans x9)
      refine kQ 6 11 (by kernel_rfl) E E ?_ ?_
      ·refine an fN rfl rfl (fP ((hp6.weak (Y:=(fun k=>YM gm mv k∨((F k∨k=g6)∨k=gc9))) (fun k hk=>by rcases hk with hk|hk|hk;exact .inl (.inl hk);exact .inl (.inr hk);(have:k=gc9:=hk;have:=(show w6.heap.size≤gc9 by omega);exact .inr (by omega)))).ext ez9) hpl) ?_
       rintro va10 wz10 ⟨x10,oo10⟩
       have oz10:=oo10.low (ez9).size
       have ez10:aN w6 wz10:=ez9.trans x10
       refine aI (kg6.ext ez10) ?_
       have nz10:va10.ownBlock≠some gc9:=fun h=>by have:=(oo10.lt gc9 h).1;have:=k9.lt;omega
       have kz10:=k9.ext x10
       obtain⟨vr11,wz11,hr11,x11,bz11⟩:=jB (w:=wz10) (d:=s) (x:=x) (y:=y)
       have ez11:aN w6 wz11:=ez10.trans x11
       refine aR 11 (by kernel_rfl) E (aK (vs:=[(0,.agg #[I (s).kd,I (s).ix,B (s).at_.1,x,y])]) E E hr11 (aI (kg6.ext ez11) ?_))
       have oz11:=oz10.ext x11
       have kz11:=kz10.ext x11
       exact hk2 _ _ ⟨(va10,vr11,gc9),⟨rfl,rfl,rfl,rfl,rfl,rfl,rfl,rfl,rfl,trivial⟩,ez11,oz11,bz11,kz11,(show w6.heap.size≤gc9 by omega),nz10⟩
      ·obtain⟨vr12,wz12,hr12,x12,bz12⟩:=jB (w:=wz9) (d:=s) (x:=x) (y:=y)
       have ez12:aN w6 wz12:=ez9.trans x12
       refine aK (vs:=[(0,.agg #[I (s).kd,I (s).ix,B (s).at_.1,x,y])]) E E hr12 (aI (kg6.ext ez12) ?_)
       have kz12:=k9.ext x12
       refine aR 6 (by kernel_rfl) rfl (an fN rfl rfl (fP ((hp6.weak (Y:=(fun k=>YM gm mv k∨((F k∨k=g6)∨k=gc9))) (fun k hk=>by rcases hk with hk|hk|hk;exact .inl (.inl hk);exact .inl (.inr hk);(have:k=gc9:=hk;have:=(show w6.heap.size≤gc9 by omega);exact .inr (by omega)))).ext ez12) hpl) ?_)
       rintro va13 wz13 ⟨x13,oo13⟩
       have oz13:=oo13.low (ez12).size
       have ez13:aN w6 wz13:=ez12.trans x13
       refine aI (kg6.ext ez13) ?_
       have nz13:va13.ownBlock≠some gc9:=fun h=>by have:=(oo13.lt gc9 h).1;have:=kz12.lt;omega
       have kz13:=kz12.ext x13
       have bz13:=bz12.ext x13
       exact hk2 _ _ ⟨(va13,vr12,gc9),⟨rfl,rfl,rfl,rfl,rfl,rfl,rfl,rfl,rfl,trivial⟩,ez13,oz13,bz13,kz13,(show w6.heap.size≤gc9 by omega),nz13⟩
  rintro⟨mv1,csA,g7⟩ w9 K1
  refine gT (by kernel_rfl) ?_
  refine ab (af ?_)
  have e9:aN w0 w9:=K1.m.ext_from (e0.trans x6) fun k hk=>(hC.ym_young hk).1
  have kg9:=K1.m.blk kg6 hny
  have hny1:¬YM gm mv1 g:=fun h=>(YM.grow K1.own h).elim hny fun h=>by omega
  have j29:jU w0 w9 g2 b i2:=(j2.ext x6).mv K1.m hdB
  have hy1:∀k,YM gm mv1 k→YM gm mv k∨w6.heap.size≤k:=fun k hk=>YM.grow K1.own hk
  have hd7:∀k∈i2,¬YM gm mv1 k:=fun k hk h=>by
   rcases hy1 k h with h|h
   ·exact hdB k hk h
   ·have:=j2.lt k hk;omega
  have hp9:cL (fun k=>YM gm mv1 k∨(F k∨k=g6)) w9 (.sl (path.map dm)) [pv]:=hp6.mv (K1.m.weak fun k hk _=>.inl hk) fun k hk=>by
   rcases hk with hk|hk
   ·exact(hy1 k hk).imp .inl id
   ·exact .inl (.inr hk)
  have hFF2:∀k,(F k∨k=g6)→w0.heap.size≤k∧k<w9.heap.size:=fun k hk=>by have:=hFF k hk;have:=K1.m.size;omega
  have s0:=e0.size
  have sW:w0.heap.size≤w9.heap.size:=e9.size
  have hpl:path.length≤1099511627776:=by omega
  have hXy:∀k,(YM gm mv1 k∨(F k∨k=g6))→w0.heap.size≤k:=fun k hk=>hk.elim (fun h=>(K1.st.ym_young h).1) fun h=>(hFF k h).1
  have hYw:∀k,YM gm mv1 k→k<w9.heap.size:=fun k h=>(K1.st.ym_young h).2
  have hFl:∀k,(F k∨k=g6)→k<w9.heap.size:=fun k h=>(hFF2 k h).2
  have hS:cr g 114 [I s.kd,I s.ix,B s.at_.1,x,y,.pointer (some ⟨g1,0,none⟩),.pointer (some ⟨g2,0,none⟩),.pointer none] w9.drew:=kg9.ext (aN.refl w9).drew
  have eD:aN w9 w9.drew:=(aN.refl w9).drew
  refine gS (fun w1=>cr g 114 [I s.kd,I s.ix,B s.at_.1,x,y,.pointer (some ⟨g1,0,none⟩),.pointer (some ⟨g2,0,none⟩),.pointer none] w1) 18 E (by kernel_rfl) ?_
  refine fv 0 E E (by kernel_rfl) E hS ?_
  refine nX 1 E E (by kernel_rfl) E hS ?_
  refine fo 2 E E (by kernel_rfl) E hS (fun _ _=>ar (o:=5) Mn E (by kernel_rfl) E) ?_
  refine ux 3 E E E (by kernel_rfl) E hS (fun _ _=>iH My (by kernel_rfl) (i:=1) (by omega) .i64) ?_
  refine fU 4 E E (by kernel_rfl) E hS (fun _ hw=>aj Ms E (hw.cell (i:=6) E)) ?_
  refine fv 5 E E (by kernel_rfl) E hS ?_
  refine fv 7 E E (by kernel_rfl) E hS ?_
  refine nX 8 E E (by kernel_rfl) E hS ?_
  refine fo 9 E E (by kernel_rfl) E hS (fun _ _=>ar (o:=0) Mn E (by kernel_rfl) E) ?_
  refine fU 10 rfl rfl (by kernel_rfl) rfl hS (fun _ hw=>hw.ldO (ms:=[I s.kd,I s.ix,B s.at_.1,x,y]) (o:=0) (fun j v hj=>by rcases j with _|_|_|_|_|j<;>simp_all) Tryz.underlying48 rfl (by kernel_rfl)) ?_
  refine fv 14 E E (by kernel_rfl) E hS ?_
  refine nu (fun z=>[(0,.pointer (some ⟨g,0,none⟩)),(1,pv),(2,.pointer (some ⟨gm,0,none⟩)),(6,.pointer (some ⟨g6,0,none⟩)),(7,.pointer (some ⟨g7,0,none⟩)),(8,.pointer (some ⟨z.2.2,0,none⟩))]) (fun(z:Value×List Value×Nat) w1=>uP w0 w9 (fun k=>F k∨k=g6) z.2.2 gm mv1 z.1 ((ms++a.miss (path++[s]))++b.miss (path++[dG s])) b.node z.2.1 w1) #[true,true,true,true,true,true,true,true,true,true,true,true,true,true,true,true,true,true] 0 ?_ (fun hk=>?_)
  rotate_left
  ·refine nu (fun z=>[(0,.pointer (some ⟨g,0,none⟩)),(1,pv),(2,.pointer (some ⟨gm,0,none⟩)),(6,.pointer (some ⟨g6,0,none⟩)),(7,.pointer (some ⟨g7,0,none⟩)),(55,.pointer (some ⟨g2,0,none⟩)),(65,.pointer (some ⟨gm,0,none⟩)),(57,z.1),(63,z.2.1),(8,.pointer (some ⟨z.2.2,0,none⟩))]) (fun(z:Value×Value×Nat) w1=>aN w9 w1∧fz 48 5 w9.heap.size (fun k=>YM gm mv1 k∨((F k∨k=g6)∨k=z.2.2)) dm path z.1 w1∧Sl 5 [I (dG s).kd,I (dG s).ix,B (dG s).at_.1,x,y] z.2.1 w1∧cr z.2.2 52 [.slice none 0 0,I 0,I 0,B false,.slice none 0 0,.slice none 0 0,.slice none 0 0,B false,.slice none 0 0] w1∧w9.heap.size≤z.2.2∧z.1.ownBlock≠some z.2.2) #[true,true,true,true,true,true,true,true,true,true,true,true,true,false,true,false,true,false] 3 ?_ (fun hk2=>?_)
   ·rintro⟨v42,v47,gc⟩ wg ⟨xg,b42,b47,k7,l7,ne42⟩
    have l7b:=k7.lt
    have own42:=b42.lt
    obtain⟨v48,w48,hr48,o48,e48,m48,n48⟩:=ER (X:=(fun k=>YM gm mv1 k∨((F k∨k=g6)∨k=gc))) (d:=dG s) e9 xg (aN.refl _) (fun k hk=>by rcases hk with hk|hk|hk;exact hXy k (.inl hk);exact hXy k (.inr hk);(have:k=gc:=hk;dsimp only at l7;omega)) hsx hsy b42 b47 hpl
    have own48:=o48.lt
    have s48:=m48.size
    refine aR 13 (by kernel_rfl) E (ba E E hr48 (aI (kg9.ext e48) ?_))
    refine aR 15 (by kernel_rfl) rfl (an iB rfl rfl (m0 (F':=fun k=>(F k∨k=g6)∨k=gc) hB hFF2 e9 e48 j29 K1.st hd7 (by simp;omega) (by simp only[List.length_append,jP] at*;omega) o48 (fun k hk=>hk.imp id fun h=>by dsimp only at l7 l7b;omega) (fun k hk hk2=>by rcases hk2 with hk2|hk2;(have:=(own48 k hk).1;have:=hFl k hk2;omega);(rcases n48 k hk with h|h;exact ne42 (hk2▸h);(dsimp only at l7b;omega)))) ?_)
    rintro v50 w50 ⟨cs,mvk,rfl,h1,hr,hs,hm,hoo⟩
    refine aI (hm.blk (kg9.ext e48) hny1) ?_
    obtain⟨w8,hs8,K⟩:=uP.early e48 h1 hr hs hm hoo sW l7 hYw (m48.blk k7 ne42) rfl
    refine aR 17 (by kernel_rfl) E (aq E E hs8 (aI (K.m.blk kg9 hny1) ?_))
    exact hk _ _ ⟨(mvk,cs,gc),⟨rfl,rfl,rfl,rfl,rfl,rfl,trivial⟩,K⟩
   ·refine nu (fun z=>[(0,.pointer (some ⟨g,0,none⟩)),(1,pv),(2,.pointer (some ⟨gm,0,none⟩)),(6,.pointer (some ⟨g6,0,none⟩)),(7,.pointer (some ⟨g7,0,none⟩)),(55,.pointer (some ⟨g2,0,none⟩)),(65,.pointer (some ⟨gm,0,none⟩)),(57,z.1),(63,z.2)]) (fun(z:Value×Value) w1=>aN w9 w1∧fz 48 5 w9.heap.size (fun k=>YM gm mv1 k∨(F k∨k=g6)) dm path z.1 w1∧Sl 5 [I (dG s).kd,I (dG s).ix,B (dG s).at_.1,x,y] z.2 w1) #[true,true,true,true,true,true,true,true,true,true,true,true,true,false,true,false,false,false] 4 ?_ (fun hk1=>?_)
    ·rintro⟨v42,v47⟩ wg ⟨xg,b42,b47⟩
     have own42:=b42.lt
     have sg:=xg.size
     refine kQ 13 16 (by kernel_rfl) E E ?_ ?_
     ·obtain⟨v48,w48,hr48,o48,e48,m48,n48⟩:=ER (d:=dG s) e9 xg (aN.refl _) hXy hsx hsy b42 b47 hpl
      have own48:=o48.lt
      refine ba E E hr48 (aI (kg9.ext e48) ?_)
      refine kQ 15 16 (by kernel_rfl) E E ?_ ?_
      ·have zz:=e48.size
       refine an iB E E (m0 hB hFF2 e9 e48 j29 K1.st hd7 (by simp;omega) (by simp only[List.length_append,jP] at*;omega) o48 (fun k hk=>.inl hk) (fun k hk hk2=>by have:=(own48 k hk).1;have:=hFl k hk2;omega)) ?_
       rintro v50 w50 ⟨cs,mvk,rfl,h1,hr,hs,hm,hoo⟩
       refine aI (hm.blk (kg9.ext e48) hny1) ?_
       obtain⟨gc,w7,hr7,l7,x7,k7⟩:=ew (w:=w50)
       refine aR 16 (by kernel_rfl) E (aV E hr7 (aI ((hm.blk (kg9.ext e48) hny1).ext x7) ?_))
       obtain⟨w8,hs8,K⟩:=uP.late e48 h1 hr hs hm hoo x7 l7 k7 rfl
       refine aR 17 (by kernel_rfl) E (aq E E hs8 (aI (K.m.blk kg9 hny1) ?_))
       exact hk _ _ ⟨(mvk,cs,gc),⟨rfl,rfl,rfl,rfl,rfl,rfl,trivial⟩,K⟩
      ·obtain⟨gc,w7,hr7,l7,x7,k7⟩:=ew (w:=w48)
       have s48:=e48.size
       have l7b:=k7.lt
       refine aV E hr7 (aI (kg9.ext (e48.trans x7)) ?_)
       refine aR 15 (by kernel_rfl) rfl (an iB rfl rfl (m0 (F':=fun k=>(F k∨k=g6)∨k=gc) hB hFF2 e9 (e48.trans x7) j29 K1.st hd7 (by simp;omega) (by simp only[List.length_append,jP] at*;omega) ((o48.weak (fun k hk=>by rcases hk with hk|hk|hk;exact .inl (.inl hk);exact .inl (.inr hk);exact .inr (by omega))).ext x7) (fun k hk=>hk.imp id fun h=>by omega) (fun k hk hk2=>by rcases hk2 with hk2|hk2;(have:=(own48 k hk).1;have:=hFl k hk2;omega);(have:=(own48 k hk).2;omega))) ?_)
       rintro v50 w50 ⟨cs,mvk,rfl,h1,hr,hs,hm,hoo⟩
       refine aI (hm.blk (kg9.ext (e48.trans x7)) hny1) ?_
       obtain⟨w8,hs8,K⟩:=uP.early (e48.trans x7) h1 hr hs hm hoo sW (by omega) hYw k7 rfl
       refine aR 17 (by kernel_rfl) E (aq E E hs8 (aI (K.m.blk kg9 hny1) ?_))
       exact hk _ _ ⟨(mvk,cs,gc),⟨rfl,rfl,rfl,rfl,rfl,rfl,trivial⟩,K⟩
     ·obtain⟨gc,w7,hr7,l7,x7,k7⟩:=ew (w:=wg)
      refine aV E hr7 (aI (kg9.ext (xg.trans x7)) ?_)
      exact hk2 _ _ ⟨(v42,v47,gc),⟨rfl,rfl,rfl,rfl,rfl,rfl,rfl,rfl,rfl,rfl,trivial⟩,xg.trans x7,(b42.weak (fun k hk=>by rcases hk with hk|hk|hk;exact .inl (.inl hk);exact .inl (.inr hk);(have:k=gc:=hk;exact .inr (by omega)))).ext x7,b47.ext x7,k7,(show w9.heap.size≤gc by omega),fun h=>by have:=(own42 gc h).2;omega⟩
    ·refine kQ 6 16 (by kernel_rfl) E E ?_ ?_
     ·refine an fN E E (fP (hp9.ext eD) hpl) ?_
      rintro va1 wz1 ⟨x1,oo1⟩
      have oz1:=oo1.low (eD).size
      have ez1:aN w9 wz1:=eD.trans x1
      refine aI (kg9.ext ez1) ?_
      refine kQ 11 16 (by kernel_rfl) E E ?_ ?_
      ·refine an jl E E (jm (d:=s) (ho.ext (e9.trans ez1)) (hsx.ext (e9.trans ez1)) (hsy.ext (e9.trans ez1))) ?_
       rintro vb2 wz2 ⟨x2,rfl⟩
       have ez2:aN w9 wz2:=ez1.trans x2
       refine aI (kg9.ext ez2) ?_
       have oz2:=oz1.ext x2
       refine kQ 12 16 (by kernel_rfl) E E ?_ ?_
       ·obtain⟨vr3,wz3,hr3,x3,bz3⟩:=jB (w:=wz2) (d:=dG s) (x:=x) (y:=y)
        have ez3:aN w9 wz3:=ez2.trans x3
        refine aK (vs:=[(0,.agg #[I (dG s).kd,I (dG s).ix,B (dG s).at_.1,x,y])]) E E hr3 (aI (kg9.ext ez3) ?_)
        have oz3:=oz2.ext x3
        exact hk1 _ _ ⟨(va1,vr3),⟨rfl,rfl,rfl,rfl,rfl,rfl,rfl,rfl,rfl,trivial⟩,ez3,oz3,bz3⟩
       ·obtain⟨gc4,wz4,hr4,l4,x4,k4⟩:=ew (w:=wz2)
        have la4:=ez2.size
        have lb4:=k4.lt
        refine aV E hr4 (aI (kg9.ext (ez2.trans x4)) ?_)
        have ez4:aN w9 wz4:=(ez2.trans x4)
        have oz4:=(oz2.weak (Y:=(fun k=>YM gm mv1 k∨((F k∨k=g6)∨k=gc4))) (fun k hk=>by rcases hk with hk|hk|hk;exact .inl (.inl hk);exact .inl (.inr hk);(have:k=gc4:=hk;exact .inr (by omega)))).ext x4
        have nz4:va1.ownBlock≠some gc4:=fun h=>by have:=(oz2.lt gc4 h).2;omega
        obtain⟨vr5,wz5,hr5,x5,bz5⟩:=jB (w:=wz4) (d:=dG s) (x:=x) (y:=y)
        have ez5:aN w9 wz5:=ez4.trans x5
        refine aR 12 (by kernel_rfl) E (aK (vs:=[(0,.agg #[I (dG s).kd,I (dG s).ix,B (dG s).at_.1,x,y])]) E E hr5 (aI (kg9.ext ez5) ?_))
        have oz5:=oz4.ext x5
        have kz5:=k4.ext x5
        exact hk2 _ _ ⟨(va1,vr5,gc4),⟨rfl,rfl,rfl,rfl,rfl,rfl,rfl,rfl,rfl,rfl,trivial⟩,ez5,oz5,bz5,kz5,(show w9.heap.size≤gc4 by omega),nz4⟩
      ·obtain⟨gc6,wz6,hr6,l6,x6,k6⟩:=ew (w:=wz1)
       have la6:=ez1.size
       have lb6:=k6.lt
       refine aV E hr6 (aI (kg9.ext (ez1.trans x6)) ?_)
       have ez6:aN w9 wz6:=(ez1.trans x6)
       have oz6:=(oz1.weak (Y:=(fun k=>YM gm mv1 k∨((F k∨k=g6)∨k=gc6))) (fun k hk=>by rcases hk with hk|hk|hk;exact .inl (.inl hk);exact .inl (.inr hk);(have:k=gc6:=hk;exact .inr (by omega)))).ext x6
       have nz6:va1.ownBlock≠some gc6:=fun h=>by have:=(oz1.lt gc6 h).2;omega
       refine aR 11 (by kernel_rfl) E (an jl E E (jm (d:=s) (ho.ext (e9.trans ez6)) (hsx.ext (e9.trans ez6)) (hsy.ext (e9.trans ez6))) ?_)
       rintro vb7 wz7 ⟨x7,rfl⟩
       have ez7:aN w9 wz7:=ez6.trans x7
       refine aI (kg9.ext ez7) ?_
       have oz7:=oz6.ext x7
       have kz7:=k6.ext x7
       obtain⟨vr8,wz8,hr8,x8,bz8⟩:=jB (w:=wz7) (d:=dG s) (x:=x) (y:=y)
       have ez8:aN w9 wz8:=ez7.trans x8
       refine aR 12 (by kernel_rfl) E (aK (vs:=[(0,.agg #[I (dG s).kd,I (dG s).ix,B (dG s).at_.1,x,y])]) E E hr8 (aI (kg9.ext ez8) ?_))
       have oz8:=oz7.ext x8
       have kz8:=kz7.ext x8
       exact hk2 _ _ ⟨(va1,vr8,gc6),⟨rfl,rfl,rfl,rfl,rfl,rfl,rfl,rfl,rfl,rfl,trivial⟩,ez8,oz8,bz8,kz8,(show w9.heap.size≤gc6 by omega),nz6⟩
     ·obtain⟨gc9,wz9,hr9,l9,x9,k9⟩:=ew (w:=w9.drew)
      have la9:=eD.size
      have lb9:=k9.lt
      refine aV E hr9 (aI (kg9.ext (eD.trans x9)) ?_)
      have ez9:aN w9 wz9:=(eD.trans x9)
      refine aR 6 (by kernel_rfl) rfl (an fN rfl rfl (fP ((hp9.weak (Y:=(fun k=>YM gm mv1 k∨((F k∨k=g6)∨k=gc9))) (fun k hk=>by rcases hk with hk|hk|hk;exact .inl (.inl hk);exact .inl (.inr hk);(have:k=gc9:=hk;have:=(show w9.heap.size≤gc9 by omega);exact .inr (by omega)))).ext ez9) hpl) ?_)
      rintro va10 wz10 ⟨x10,oo10⟩
      have oz10:=oo10.low (ez9).size
      have ez10:aN w9 wz10:=ez9.trans x10
      refine aI (kg9.ext ez10) ?_
      have nz10:va10.ownBlock≠some gc9:=fun h=>by have:=(oo10.lt gc9 h).1;have:=k9.lt;omega
      have kz10:=k9.ext x10
      refine aR 11 (by kernel_rfl) E (an jl E E (jm (d:=s) (ho.ext (e9.trans ez10)) (hsx.ext (e9.trans ez10)) (hsy.ext (e9.trans ez10))) ?_)
      rintro vb11 wz11 ⟨x11,rfl⟩
      have ez11:aN w9 wz11:=ez10.trans x11
      refine aI (kg9.ext ez11) ?_
      have oz11:=oz10.ext x11
      have kz11:=kz10.ext x11
      obtain⟨vr12,wz12,hr12,x12,bz12⟩:=jB (w:=wz11) (d:=dG s) (x:=x) (y:=y)
      have ez12:aN w9 wz12:=ez11.trans x12
      refine aR 12 (by kernel_rfl) E (aK (vs:=[(0,.agg #[I (dG s).kd,I (dG s).ix,B (dG s).at_.1,x,y])]) E E hr12 (aI (kg9.ext ez12) ?_))
      have oz12:=oz11.ext x12
      have kz12:=kz11.ext x12
      exact hk2 _ _ ⟨(va10,vr12,gc9),⟨rfl,rfl,rfl,rfl,rfl,rfl,rfl,rfl,rfl,rfl,trivial⟩,ez12,oz12,bz12,kz12,(show w9.heap.size≤gc9 by omega),nz10⟩
  rintro⟨mv2,csB,g8⟩ w14 K2
  refine gT (by kernel_rfl) ?_
  refine ab (af ?_)
  have hs9:=K1.m.size
  have hs14:=K2.m.size
  have kg14:=K2.m.blk kg9 hny1
  have k714:=K2.m.blk K1.k7 K1.n7
  have n61:¬YM gm mv1 g6:=fun h=>(hy1 g6 h).elim n6 (fun h=>by omega)
  have k614:=K2.m.blk (K1.m.blk k6 n6) n61
  have rpA:cL (AV w0 w6.heap.size gm mv2) w14 (bH a.node) csA:=K1.rp.mv (K2.m.weak fun k hk _=>.inl hk) fun k hk=>by
   rcases hk with hk|hk
   ·exact(YM.grow K2.own hk).imp .inl id
   ·exact .inl (.inr hk)
  have rpB:cL (AV w0 w6.heap.size gm mv2) w14 (bH b.node) csB:=K2.rp.weak fun k hk=>.inl (hk.imp id fun h=>⟨h.1,by omega⟩)
  have n62:¬YM gm mv2 g6:=fun h=>(YM.grow K2.own h).elim n61 fun h=>by omega
  have hAV:∀k,AV w0 w6.heap.size gm mv2 k→k<w14.heap.size:=fun k hk=>by
   rcases hk with hk|hk
   ·exact(K2.st.ym_young hk).2
   ·omega
  have e14:aN w0 w14:=K2.m.ext_from e9 fun k hk=>(K1.st.ym_young hk).1
  refine bO 8 [6,74] (by kernel_rfl) (by kernel_rfl) ?_
  refine aD rfl rfl (dh rfl rfl (aW rfl rfl (fun w hw=>ar (o:=0) Tryz.underlying114 rfl (by kernel_rfl) rfl) (aO rfl rfl (fun w hw=>(kg14.ext hw).ldO (ms:=[I s.kd,I s.ix,B s.at_.1,x,y]) (o:=0) (fun j v hj=>by rcases j with _|_|_|_|_|_|_|_|_|j<;>simp_all) Tryz.underlying48 rfl (by kernel_rfl)) ?_)))
  refine aO E E (fun w' hw=>(k714.ext hw).ld L6 E (cs9 rpA)) ?_
  refine aO E E (fun w' hw=>(K2.k7.ext hw).ld L6 E (cs9 rpB)) ?_
  refine fR (S:=fun v w'=>cL (AV w0 w6.heap.size gm mv2) w' (.sl ([a.node,b.node].map bH)) [v]∧v.oneCell'=true) (fun _ _ _ h hx=>⟨h.1.ext hx,h.2⟩) rfl (fun w' hw=>by rintro _ rfl _ rfl;exact JD (rpA.ext hw) (rpB.ext hw) fun k hk=>Nat.lt_of_lt_of_le (hAV k hk) hw.size) ?_
  refine uR (S:=fun v w'=>∃kv,v=.agg #[.slice none 0 0,I s.kd,I s.ix,B s.at_.1,x,y,kv,B false,.slice none 0 0]∧cL (AV w0 w6.heap.size gm mv2) w' (.sl ([a.node,b.node].map bH)) [kv]∧kv.oneCell'=true) (fun _ _ _ ⟨kv,h1,h2,h3⟩ hx=>⟨kv,h1,h2.ext hx,h3⟩) E (fun w' hw=>by
 rintro _ rfl kv ⟨h1,h2⟩
 obtain⟨A,n,c,rfl⟩:=h1.isSl
 obtain⟨_,_,_,rfl⟩:=hsx.isS
 obtain⟨_,_,_,rfl⟩:=hsy.isS
 exact⟨_,w',run_build _ _ _ #[.slice none 0 0,I s.kd,I s.ix,B s.at_.1,_,_,.slice A n c,B false,.slice none 0 0] (by kernel_rfl),aN.refl _,_,rfl,h1,rfl⟩) ?_
  refine cq ?_
  intro wg8 xg8
  rintro _ rfl
  intro vg74 b74
  obtain⟨kv,rfl,hkv,hk1⟩:=b74
  obtain⟨w15,s15,q15,k15⟩:=(k614.ext xg8).stS (P:=Tryz.prog) (t:=52) (m:=[.slice none 0 0,I s.kd,I s.ix,B s.at_.1,x,y,kv,B false,.slice none 0 0]) rfl (by kernel_rfl) (aw.cons rfl (aw.cons rfl (aw.cons rfl (aw.cons rfl (aw.cons hsx.one (aw.cons hsy.one (aw.cons hk1 (aw.cons rfl (aw.cons rfl aw.nil)))))))))
  have m15:Mv (fun k=>k=g6) wg8 w15:=Mv.of_grown q15 fun k hk _=>(Option.some.inj hk).symm
  refine aq E E s15 ?_
  refine ag (ab (au ?_))
  refine dv E E k15 L6 E (by kernel_rfl) ?_
  have hx8:=xg8.size
  refine⟨_,rfl,[.slice none 0 0,I s.kd,I s.ix,B s.at_.1,x,y,kv,B false,.slice none 0 0],mv2,rfl,aw.cons E (aw.cons E (aw.cons E (aw.cons E (aw.cons hsx.one (aw.cons hsy.one (aw.cons hk1 (aw.cons E (aw.cons E aw.nil)))))))),?_,?_,?_,fun k hk=>(K2.own k hk).elim (fun h=>(K1.own k h).imp id fun h=>by omega) fun h=>.inr (by omega)⟩
  ·rw[ht]
   have h1:cL (AV w0 w6.heap.size gm mv2) wg8 (bH (.mk [] s [a.node,b.node] false [])) [.slice none 0 0,I s.kd,I s.ix,B s.at_.1,x,y,kv,B false,.slice none 0 0]:=er jT (((AB hsx hsy).x.ext (e14.trans xg8)).weak fun k hk=>.inl (hk.elim (fun h=>(K2.st.ym_young h).1) fun h=>h.1)) hkv jT
   have h2:=h1.mv (m15.weak (Y:=AV w0 w6.heap.size gm mv2) fun k hk _=>.inr (by have e:k=g6:=hk;omega)) fun _ h=>.inl h
   exact h2.weak fun k hk=>.inl (hk.imp id fun h=>⟨h.1,by omega⟩)
  ·have h1:=((K2.st.ext xg8).sto m15 (.inr rfl) n62).weak (G:=F) fun k hk=>.inl (.inl hk)
   rw[ht]
   simpa only[JT.miss,List.append_assoc] using h1
  ·exact((((Mv.of_ext (X:=YM gm mv) x6).trans K1.m fun _ h _=>h).trans K2.m fun k hk hlt=>(hy1 k hk).resolve_right (by omega)).trans (Mv.of_ext (X:=YM gm mv) xg8) fun _ h _=>h).trans m15 fun k hk hlt=>by have e:k=g6:=hk;omega
end Go.Rl
namespace Go.Rl
open Go.RowKit Go.Proofs
theorem zB:aG Tryz.prog 64:=⟨_,Tryz.func64,by kernel_rfl,rfl⟩
section
variable {w0 w w' w1:World} {g gc g1 g2:Nat} {t tc a b:JT} {ids ic i1 i2:List Nat} {n:aZ} {pt ps:List bV} {d s:bV} {x y p q:Value}
def L2 (w0 w:World) (g:Nat) (t:JT) (ids:List Nat) (n:aZ) (pt:List bV) (w':World):Prop:=
 ∃t' ids',iA n pt t=some t'∧Mv (fun k=>k∈ids) w w'∧jU w0 w' g t' ids'∧∀k∈ids',k∈ids∨w.heap.size≤k
def uc (w0 w:World) (g:Nat) (t:JT) (ids:List Nat) (n:aZ) (pt ps:List bV) (gc:Nat) (tc:JT) (ic:List Nat) (w':World):Prop:=
 (∀w'' t'' i'',Mv (fun k=>k∈ic) w' w''→iA n ps tc=some t''→jU w0 w'' gc t'' i''→(∀k∈i'',k∈ic∨w'.heap.size≤k)→L2 w0 w g t ids n pt w'')∧(iA n ps tc=none→iA n pt t=none)
theorem uc.start (e:aN w w'):uc w0 w g t ids n pt pt g t ids w':=
 ⟨fun _ t'' i'' m h1 h2 h3=>⟨t'',i'',h1,(Mv.of_ext (X:=fun k=>k∈ids) e).trans m fun _ hk _=>hk,h2,fun k hk=>(h3 k hk).imp id fun h=>Nat.le_trans e.size h⟩,id⟩
theorem Iz (hop:tf d t=.split s a b) (hs:s=d):iA n (d::ps) t=(iA n ps a).map fun a'=>.split s a' b:=by
 show(match tf d t with
  |.split s a b=>if s=d then(iA n ps a).map fun a'=>JT.split s a' b else if dG s=d then(iA n ps b).map fun b'=>.split s a b' else none
  |.leaf _=>none
  |.gap=>none)=_
 rw[hop]
 simp only[]
 rw[if_pos hs]
theorem IA (hop:tf d t=.split s a b) (hs:¬s=d) (ho:dG s=d):iA n (d::ps) t=(iA n ps b).map fun b'=>.split s a b':=by
 show(match tf d t with
  |.split s a b=>if s=d then(iA n ps a).map fun a'=>JT.split s a' b else if dG s=d then(iA n ps b).map fun b'=>.split s a b' else none
  |.leaf _=>none
  |.gap=>none)=_
 rw[hop]
 simp only[]
 rw[if_neg hs,if_pos ho]
def ES (d:bV) (t:JT):Prop:=(∃m,t=.leaf m)∨∃s a b,tf d t=.split s a b∧s≠d∧dG s≠d
theorem Lb (h:ES d t):iA n (d::ps) t=none:=by
 show(match tf d t with
  |.split s a b=>if s=d then(iA n ps a).map fun a'=>JT.split s a' b else if dG s=d then(iA n ps b).map fun b'=>.split s a b' else none
  |.leaf _=>none
  |.gap=>none)=_
 rcases h with⟨m,rfl⟩|⟨s,a,b,hop,h1,h2⟩
 ·rfl
 ·rw[hop]
  simp only[]
  rw[if_neg h1,if_neg h2]
theorem Gn (d:bV) (t:JT):(∃s a b,tf d t=.split s a b∧s=d)∨(∃s a b,tf d t=.split s a b∧(¬s=d)∧dG s=d)∨ES d t:=by
 have key:∀s a b,tf d t=.split s a b→(∃s a b,tf d t=.split s a b∧s=d)∨(∃s a b,tf d t=.split s a b∧(¬s=d)∧dG s=d)∨ES d t:=fun s a b h=>by
  by_cases h1:s=d
  ·exact .inl ⟨s,a,b,h,h1⟩
  ·by_cases h2:dG s=d
   ·exact .inr (.inl ⟨s,a,b,h,h1,h2⟩)
   ·exact .inr (.inr (.inr ⟨s,a,b,h,h1,h2⟩))
 cases t with
 |gap=>exact key _ _ _ rfl
 |leaf m=>exact .inr (.inr (.inl ⟨m,rfl⟩))
 |split s a b=>exact key _ _ _ rfl
theorem mZ.swap (h:mZ w0 w g ids s a b x y g1 g2 i1 i2 w'):aN w0 w→aN w0 w':=fun e=>h.mv.ext_from e fun k hk=>by have:=h.young;omega
theorem uc.ext (h:uc w0 w g t ids n pt ps gc tc ic w') (e:aN w' w1):uc w0 w g t ids n pt ps gc tc ic w1:=
 ⟨fun w'' t'' i'' m h1 h2 h3=>h.1 w'' t'' i'' ((Mv.of_ext (X:=fun k=>k∈ic) e).trans m fun _ hk _=>hk) h1 h2 fun k hk=>(h3 k hk).imp id fun h=>Nat.le_trans e.size h,h.2⟩
theorem uc.go1 (h:uc w0 w g t ids n pt (d::ps) gc tc ic w') (hin:gc∈ic) (hM:mZ w0 w' gc ic s a b x y g1 g2 i1 i2 w1) (hop:tf d tc=.split s a b) (hs:s=d):uc w0 w g t ids n pt ps g1 a i1 w1:=by
 have sz:=hM.mv.size
 refine⟨fun w'' t'' i'' m h1 h2 h3=>?_,fun h1=>h.2 (by rw[Iz hop hs,h1];rfl)⟩
 have gl:=hM.blk.lt
 have m1:Mv (fun k=>k∈ic) w' w1:=hM.mv.weak fun k hk _=>by have e:k=gc:=hk;rw[e];exact hin
 have hf:∀k∈i'',k∈i1∨w1.heap.size≤k:=h3
 have j2:=hM.k2.mv m fun k hk hk'=>hM.n3 k hk' hk
 refine h.1 w'' (.split s t'' b) (gc::(i''++i2)) (m1.trans m fun k hk hkl=>(hM.fresh k (.inl hk)).resolve_right (by omega)) (by rw[Iz hop hs,h1];rfl) (jU.split hM.hx hM.hy (m.blk hM.blk hM.n1) h2 j2 hM.young (fun hk=>?_) hM.n2 fun k hk hk2=>?_) fun k hk=>?_
 ·rcases hf _ hk with h4|h4
  ·exact hM.n1 h4
  ·omega
 ·rcases hf _ hk with h4|h4
  ·exact hM.n3 k h4 hk2
  ·have:=hM.k2.lt k hk2;omega
 ·simp only[List.mem_cons,List.mem_append] at hk
  rcases hk with rfl|hk|hk
  ·exact .inl hin
  ·rcases hf _ hk with h4|h4
   ·exact hM.fresh k (.inl h4)
   ·exact .inr (by omega)
  ·exact hM.fresh k (.inr hk)
theorem uc.go2 (h:uc w0 w g t ids n pt (d::ps) gc tc ic w') (hin:gc∈ic) (hM:mZ w0 w' gc ic s a b x y g1 g2 i1 i2 w1) (hop:tf d tc=.split s a b) (hs:¬s=d) (ho:dG s=d):uc w0 w g t ids n pt ps g2 b i2 w1:=by
 have sz:=hM.mv.size
 refine⟨fun w'' t'' i'' m h1 h2 h3=>?_,fun h1=>h.2 (by rw[IA hop hs ho,h1];rfl)⟩
 have gl:=hM.blk.lt
 have m1:Mv (fun k=>k∈ic) w' w1:=hM.mv.weak fun k hk _=>by have e:k=gc:=hk;rw[e];exact hin
 have hf:∀k∈i'',k∈i2∨w1.heap.size≤k:=h3
 have j1:=hM.k1.mv m fun k hk hk'=>hM.n3 k hk hk'
 refine h.1 w'' (.split s a t'') (gc::(i1++i'')) (m1.trans m fun k hk hkl=>(hM.fresh k (.inr hk)).resolve_right (by omega)) (by rw[IA hop hs ho,h1];rfl) (jU.split hM.hx hM.hy (m.blk hM.blk hM.n2) j1 h2 hM.young hM.n1 (fun hk=>?_) fun k hk1 hk=>?_) fun k hk=>?_
 ·rcases hf _ hk with h4|h4
  ·exact hM.n2 h4
  ·omega
 ·rcases hf _ hk with h4|h4
  ·exact hM.n3 k hk1 h4
  ·have:=hM.k1.lt k hk1;omega
 ·simp only[List.mem_cons,List.mem_append] at hk
  rcases hk with rfl|hk|hk
  ·exact .inl hin
  ·exact hM.fresh k (.inl hk)
  ·rcases hf _ hk with h4|h4
   ·exact hM.fresh k (.inr h4)
   ·exact .inr (by omega)
end
section
variable {w0 w:World} {g:Nat} {t a b:JT} {ids:List Nat} {d s:bV} {p q:Value}
theorem JF (e0:aN w0 w) (ho:z8 w0) (hJ:jU w0 w g t ids) (hp:bt d.at_.2.1 p w0) (hq:bt d.at_.2.2 q w0) (hop:tf d t=.split s a b) (hs:s=d):
 Calls Tryz.prog 108 #[.pointer (some ⟨g,0,none⟩),.agg #[I d.kd,I d.ix,B d.at_.1,p,q]] w (bE fun r w'=>aN w0 w'∧∃x y g1 g2 i1 i2,mZ w0 w g ids s a b x y g1 g2 i1 i2 w'∧r=.tuple #[.pointer (some ⟨g1,0,none⟩),B true]):=by
 refine bE.mono (rK e0 ho hJ hp hq) fun r w' h=>?_
 rcases h with⟨m,rfl,_⟩|⟨s',a',b',x,y,g1,g2,i1,i2,h1,h2,h3⟩
 ·cases hop
 ·rw[hop] at h1
  obtain⟨rfl,rfl,rfl⟩:=JT.split.inj h1
  rw[if_pos hs] at h3
  exact⟨h2.swap e0,x,y,g1,g2,i1,i2,h2,h3⟩
theorem JG (e0:aN w0 w) (ho:z8 w0) (hJ:jU w0 w g t ids) (hp:bt d.at_.2.1 p w0) (hq:bt d.at_.2.2 q w0) (hop:tf d t=.split s a b) (hs:¬s=d) (h0:dG s=d):
 Calls Tryz.prog 108 #[.pointer (some ⟨g,0,none⟩),.agg #[I d.kd,I d.ix,B d.at_.1,p,q]] w (bE fun r w'=>aN w0 w'∧∃x y g1 g2 i1 i2,mZ w0 w g ids s a b x y g1 g2 i1 i2 w'∧r=.tuple #[.pointer (some ⟨g2,0,none⟩),B true]):=by
 refine bE.mono (rK e0 ho hJ hp hq) fun r w' h=>?_
 rcases h with⟨m,rfl,_⟩|⟨s',a',b',x,y,g1,g2,i1,i2,h1,h2,h3⟩
 ·cases hop
 ·rw[hop] at h1
  obtain⟨rfl,rfl,rfl⟩:=JT.split.inj h1
  rw[if_neg hs,if_pos h0] at h3
  exact⟨h2.swap e0,x,y,g1,g2,i1,i2,h2,h3⟩
theorem JH (e0:aN w0 w) (ho:z8 w0) (hJ:jU w0 w g t ids) (hp:bt d.at_.2.1 p w0) (hq:bt d.at_.2.2 q w0) (hn:ES d t):
 Calls Tryz.prog 108 #[.pointer (some ⟨g,0,none⟩),.agg #[I d.kd,I d.ix,B d.at_.1,p,q]] w (bE fun r w'=>aN w0 w'∧Mv (fun k=>k=g) w w'∧r=.tuple #[.pointer none,B false]):=by
 refine bE.mono (rK e0 ho hJ hp hq) fun r w' h=>?_
 rcases h with⟨m,rfl,h1,h2⟩|⟨s',a',b',x,y,g1,g2,i1,i2,h1,h2,h3⟩
 ·exact⟨e0.trans h1,Mv.of_ext h1,h2⟩
 ·refine⟨h2.swap e0,h2.mv,?_⟩
  rcases hn with⟨m,rfl⟩|⟨s,a,b,hop,n1,n2⟩
  ·cases h1
  ·rw[hop] at h1
   obtain⟨rfl,rfl,rfl⟩:=JT.split.inj h1
   rw[if_neg n1,if_neg n2] at h3
   exact h3
end
theorem AT {w:World} {n:aZ} {vl x y vk vp:Value} (hl:cu cV n.lems vl w) (hx:bt n.split.at_.2.1 x w) (hy:bt n.split.at_.2.2 y w) (hk:cu bH n.kids vk w) (hp:cu bK n.pf vp w):Rp w (bH n) [vl,I n.split.kd,I n.split.ix,B n.split.at_.1,x,y,vk,B n.empty,vp]:=by
 cases n with
 |mk ls s ks em pf=>exact(er (Rp.x hl) (AB hx hy).x (Rp.x hk) (Rp.x hp)).rp
def Lc (w0 w:World) (g:Nat) (t:JT) (ids:List Nat) (n:aZ) (pt:List bV) (r:Value) (w':World):Prop:=aN w0 w'∧Mv (fun k=>k∈ids) w w'∧((iA n pt t=none∧r=B false)∨(r=B true∧L2 w0 w g t ids n pt w'))
theorem zC {w0 w:World} {g:Nat} {t:JT} {ids:List Nat} {u:bR} {vd vl x y vk vp:Value} (e0:aN w0 w) (ho:z8 w0) (hJ:jU w0 w g t ids) (hd:cu dm u.path vd w0) (hl:cu cV u.leaf.lems vl w0) (hx:bt u.leaf.split.at_.2.1 x w0) (hy:bt u.leaf.split.at_.2.2 y w0) (hk:cu bH u.leaf.kids vk w0) (hp:cu bK u.leaf.pf vp w0):
 Calls Tryz.prog 64 #[.pointer (some ⟨g,0,none⟩),.agg #[vd,vl,I u.leaf.split.kd,I u.leaf.split.ix,B u.leaf.split.at_.1,x,y,vk,B u.leaf.empty,vp]] w (bE fun r w'=>Lc w0 w g t ids u.leaf u.path r w'):=by
 refine enter (vs:=[.pointer (some ⟨g,0,none⟩),.agg #[vd,vl,I u.leaf.split.kd,I u.leaf.split.ix,B u.leaf.split.at_.1,x,y,vk,B u.leaf.empty,vp]]) Tryz.func64 E E E ?_
 refine af (aa ?_)
 obtain⟨g3,w3,hr3,l3,x3,k3⟩:=cD (P:=Tryz.prog) (w:=w) (T:=54) (cs:=[vd,vl,I u.leaf.split.kd,I u.leaf.split.ix,B u.leaf.split.at_.1,x,y,vk,B u.leaf.empty,vp])
 refine cI E E hr3 (ac E E (ag (ab (af (af ?_)))))
 have hll:=hd.len
 have hg3:∀k∈ids,k<g3:=fun k hk=>Nat.lt_of_lt_of_le (hJ.lt k hk) l3
 refine aa (ah E E (ar (o:=0) L8 E (by kernel_rfl) E) (ak E E (aj Mg E (k3.cell (i:=0) E)) ?_))
 refine aQ E E (be Mg (hd.ext (e0.trans x3))) (ae E E (ag (ab (aH ?_))))
 refine jv (fun(i:Nat) (gc:Nat) (tc:JT) (ic:List Nat)=>[(0,.pointer (some ⟨gc,0,none⟩)),(3,.pointer (some ⟨g3,0,none⟩)),(4,B false),(11,vd),(12,I ((u.path.length:Nat):Int)),(13,I (i:Int))]) (fun(i:Nat) (gc:Nat) (tc:JT) (ic:List Nat) w'=>aN w0 w'∧i≤u.path.length∧jU w0 w' gc tc ic∧cr g3 54 [vd,vl,I u.leaf.split.kd,I u.leaf.split.ix,B u.leaf.split.at_.1,x,y,vk,B u.leaf.empty,vp] w'∧g3∉ic∧uc w0 w g t ids u.leaf u.path (u.path.drop i) gc tc ic w'∧Mv (fun k=>k∈ids) w w'∧∀k∈ic,k∈ids∨w.heap.size≤k) (fun(i:Nat) (gc:Nat) (tc:JT) (ic:List Nat)=>u.path.length-i) (0) (g) (t) (ids) ⟨rfl,rfl,rfl,rfl,rfl,rfl,trivial⟩ ⟨e0.trans x3,by omega,hJ.mv (Mv.of_ext (X:=fun _=>False) x3) (fun _ _ h=>h),k3,fun h=>by have:=hg3 _ h;omega,uc.start x3,Mv.of_ext x3,fun k hk=>.inl hk⟩ ?_
 rintro i gc tc ic wL ⟨eL,hi,hjL,kL,nL,hC,mL,frL⟩
 refine af (aa (al E E E (bc) (ag (ab (af ?_)))))
 refine bw E (fun h14=>?_) (fun h14=>?_)
 ·refine aC (ab (af (aH (af (aa ?_)))))
  obtain⟨a15,c15,p15,q15,h15⟩:=cf (P:=Tryz.prog) (sz:=5) Mg (by kernel_rfl) ci (by omega) hd (i:=i) ((by omega)) .i64
  obtain⟨e15,he15⟩:∃e,e=u.path[i]'((by omega)):=⟨_,rfl⟩
  rw[←he15] at h15
  obtain⟨x15_0,x15_1,rfl,f15_0,f15_1⟩:=gy h15
  refine ax E E E (p15 _) (ak E E ((q15.ext eL).ld Ma E (by kernel_rfl)) ?_)
  obtain⟨g6,w6,hr6,l6,x6,k6⟩:=aX (P:=Tryz.prog) (w:=wL) (t:=48) (z:=.agg #[I 0,I 0,B false,.slice none 0 0,.slice none 0 0]) (l:=[I 0,I 0,B false,.slice none 0 0,.slice none 0 0]) (by kernel_rfl) rfl
  refine aV E hr6 ?_
  obtain⟨w3_3,s3_3,q3_3,k3_3⟩:=k6.stS (P:=Tryz.prog) (t:=48) (m:=[I e15.kd,I e15.ix,B e15.at_.1,x15_0,x15_1]) rfl (by kernel_rfl) (aw.cons rfl (aw.cons rfl (aw.cons rfl (aw.cons f15_0.one (aw.cons f15_1.one aw.nil)))))
  refine aq E E s3_3 ?_
  have x3_3:=aN.of_new (x6) q3_3 l6
  refine ag (ab (af ?_))
  have hdr:u.path.drop i=e15::u.path.drop (i+1):=by rw[he15];exact List.drop_eq_getElem_cons (by omega)
  rw[hdr] at hC
  have hCN:=hC.ext (x3_3)
  have hjN:=hjL.mv (Mv.of_ext (X:=fun _=>False) (x3_3)) (fun _ _ h=>h)
  have hroot:=hjL.root
  have kN:=kL.ext (x3_3)
  have frc:∀k,k=gc→k<w.heap.size→k∈ids:=fun k hk hlt=>(frL k (hk▸hroot)).resolve_right (by omega)
  have mN:Mv (fun k=>k∈ids) w _:=mL.trans (Mv.of_ext (X:=fun k=>k∈ids) (x3_3)) fun _ h _=>h
  have szL:=mL.size
  have hgc:g3≠gc:=fun h=>nL (h▸hroot)
  rcases Gn e15 tc with⟨s,a,b,hop,hs⟩|⟨s,a,b,hop,hs,hs2⟩|hno
  ·refine aa (ae E E (ak E E (k3_3.ld Ma E (by kernel_rfl)) (an rJ E E ((JF (ids:=ic) (eL.trans x3_3) ho hjN f15_0 f15_1 hop hs)) ?_)))
   rintro v20 w20 ⟨y20,x1,y1,g1,g2,i1,i2,hM,rfl⟩
   refine ae E E (am E E (bj) (am E E (bk) (ac E E (ac E E (ag (ab (af (af (aa (ae E E (bo E E bu ?_)))))))))))
   refine ag (ab (cp E (aC (ab (aa (ae E E (ac E E (ag (aS (ab (aa (al (r:=I ((i+1:Nat):Int)) E E E (by have e:((i+1:Nat):Int)=(i:Int)+1:=(by omega);rw[e];exact aP (by omega) (by omega)) ?_))))))))))))
   refine ae E E (ag ?_)
   refine fF (i+1) (g1) (a) (i1) ⟨rfl,rfl,rfl,rfl,rfl,rfl,trivial⟩ ⟨y20,by omega,hM.k1,hM.mv.blk kN hgc,fun h=>(hM.fresh _ (.inl h)).elim nL fun h=>by have:=kN.lt;omega,hCN.go1 hroot hM hop hs,mN.trans hM.mv frc,fun k hk=>(hM.fresh k (.inl hk)).elim (frL k) fun h=>.inr (by have:=mN.size;omega)⟩ (by omega)
  ·refine aa (ae E E (ak E E (k3_3.ld Ma E (by kernel_rfl)) (an rJ E E ((JG (ids:=ic) (eL.trans x3_3) ho hjN f15_0 f15_1 hop hs hs2)) ?_)))
   rintro v20 w20 ⟨y20,x1,y1,g1,g2,i1,i2,hM,rfl⟩
   refine ae E E (am E E (bj) (am E E (bk) (ac E E (ac E E (ag (ab (af (af (aa (ae E E (bo E E bu ?_)))))))))))
   refine ag (ab (cp E (aC (ab (aa (ae E E (ac E E (ag (aS (ab (aa (al (r:=I ((i+1:Nat):Int)) E E E (by have e:((i+1:Nat):Int)=(i:Int)+1:=(by omega);rw[e];exact aP (by omega) (by omega)) ?_))))))))))))
   refine ae E E (ag ?_)
   refine fF (i+1) (g2) (b) (i2) ⟨rfl,rfl,rfl,rfl,rfl,rfl,trivial⟩ ⟨y20,by omega,hM.k2,hM.mv.blk kN hgc,fun h=>(hM.fresh _ (.inr h)).elim nL fun h=>by have:=kN.lt;omega,hCN.go2 hroot hM hop hs hs2,mN.trans hM.mv frc,fun k hk=>(hM.fresh k (.inr hk)).elim (frL k) fun h=>.inr (by have:=mN.size;omega)⟩ (by omega)
  ·refine aa (ae E E (ak E E (k3_3.ld Ma E (by kernel_rfl)) (an rJ E E ((JH (ids:=ic) (eL.trans x3_3) ho hjN f15_0 f15_1 hno)) ?_)))
   rintro v20 w20 ⟨y20,m20,rfl⟩
   refine ae E E (am E E (bj) (am E E (bk) (ac E E (ac E E (ag (ab (af (af (aa (ae E E (bo E E bu ?_)))))))))))
   refine ag (ab (bf E (af (aa (ac E E (ag (ab (au (az (a6 (az (az (a6 (az (aA E E ?_)))))))))))))))
   exact⟨_,rfl,y20,mN.trans m20 frc,.inl ⟨hC.2 (Lb hno),rfl⟩⟩
 ·refine bg (aJ (aJ (bh (ab (af (af ?_))))))
  have hgL:w0.heap.size≤gc:=hjL.young gc hjL.root
  rw[List.drop_eq_nil_of_le (by omega)] at hC
  rcases tc with _|m|⟨s,a,b⟩
  ·obtain⟨hid,kg⟩:=AS hjL
   refine aa (ae E E (ay E E (ah E E (ar (o:=5) Mn E (by kernel_rfl) E) ?_)))
   refine ax E E E (iH My (by kernel_rfl) (i:=0) (by omega) .i64) ?_
   refine ak E E (aj Ms E (kg.cell (i:=5) E)) (al E E E (gZ Ms) (ag (ab ?_)))
   refine cp E (aC (ab (af (af (aa (ae E E (ay E E (ah E E (ar (o:=7) Mn E (by kernel_rfl) E) ?_))))))))
   refine ak E E (aj Mu E (kg.cell (i:=7) E)) (al E E E (gr Mu) (ag (ab (bf E ?_))))
   refine af ?_
   have hlL:=hl.ext eL
   have hxL:=hx.ext eL
   have hyL:=hy.ext eL
   have hkL:=hk.ext eL
   have hpL:=hp.ext eL
   refine aa (ah rfl rfl (ar (o:=1) Tryz.underlying54 rfl (by kernel_rfl) rfl) (ak rfl rfl (kL.ldO (ms:=[vl,I u.leaf.split.kd,I u.leaf.split.ix,B u.leaf.split.at_.1,x,y,vk,B u.leaf.empty,vp]) (o:=1) (fun j v hj=>by rcases j with _|_|_|_|_|_|_|_|_|j<;>simp_all) Tryz.underlying52 rfl (by kernel_rfl)) ?_))
   obtain⟨g9,w9,hr9,l9,x9,k9⟩:=aX (P:=Tryz.prog) (w:=wL) (t:=52) (z:=.agg #[.slice none 0 0,I 0,I 0,B false,.slice none 0 0,.slice none 0 0,.slice none 0 0,B false,.slice none 0 0]) (l:=[.slice none 0 0,I 0,I 0,B false,.slice none 0 0,.slice none 0 0,.slice none 0 0,B false,.slice none 0 0]) (by kernel_rfl) rfl
   refine aV E hr9 ?_
   obtain⟨w12_3,s12_3,q12_3,k12_3⟩:=k9.stS (P:=Tryz.prog) (t:=52) (m:=[vl,I u.leaf.split.kd,I u.leaf.split.ix,B u.leaf.split.at_.1,x,y,vk,B u.leaf.empty,vp]) rfl (by kernel_rfl) (aw.cons hlL.one (aw.cons rfl (aw.cons rfl (aw.cons rfl (aw.cons hxL.one (aw.cons hyL.one (aw.cons hkL.one (aw.cons rfl (aw.cons hpL.one aw.nil)))))))))
   refine aq E E s12_3 ?_
   have x12_3:=aN.of_new (x9) q12_3 l9
   refine ag (ab (aa (ae E E (ay E E (ah E E (ar (o:=7) Mn E (by kernel_rfl) E) ?_)))))
   obtain⟨w13,s13,q13,k13⟩:=(kg.ext (x12_3)).stC (P:=Tryz.prog) (t:=112) (i:=7) (v:=.pointer (some ⟨g9,0,none⟩)) (by kernel_rfl) rfl (by decide)
   refine aq E E s13 ?_
   have y13:=aN.of_new ((eL.trans x12_3)) q13 hgL
   have m13:=(Mv.of_ext (X:=fun k=>k∈ic) (x12_3)).trans (Mv.of_grown (X:=fun k=>k=gc) q13 fun k hk _=>(Option.some.inj hk).symm) fun k hk _=>by have e:k=gc:=hk;rw[hid,e];simp
   refine ag (ab (af (aa (ac E E (ag (ab (au (aA E E ?_))))))))
   exact⟨_,rfl,y13,mL.trans m13 (fun k hk hlt=>(frL k hk).resolve_right (by omega)),.inr ⟨rfl,hC.1 w13 (.leaf u.leaf) [gc,g9] m13 rfl (jU.leaf k13 (k12_3.other q13 (fun e=>by have:=Option.some.inj e;have:=kg.lt;omega)) (AT hl hx hy hk hp) hgL (by have:=eL.size;omega) (by have:=kg.lt;omega)) fun k hk=>by
    have:=kg.lt
    simp only[List.mem_cons,List.not_mem_nil,or_false] at hk
    rcases hk with rfl|rfl
    ·exact .inl (by rw[hid];simp)
    ·exact .inr (by omega)⟩⟩
  ·obtain⟨gl,cl,hid,kg,kl,hrl⟩:=vn hjL
   refine aa (ae E E (ay E E (ah E E (ar (o:=5) Mn E (by kernel_rfl) E) ?_)))
   refine ax E E E (iH My (by kernel_rfl) (i:=0) (by omega) .i64) ?_
   refine ak E E (aj Ms E (kg.cell (i:=5) E)) (al E E E (gZ Ms) (ag (ab ?_)))
   refine cp E (aC (ab (af (af (aa (ae E E (ay E E (ah E E (ar (o:=7) Mn E (by kernel_rfl) E) ?_))))))))
   refine ak E E (aj Mu E (kg.cell (i:=7) E)) (al E E E (gr Mu) (ag (ab (cp E ?_))))
   refine aC (ab (af (aa (ac E E (ag (ab (au (aA E E ?_))))))))
   exact⟨_,rfl,eL,mL,.inr ⟨rfl,hC.1 wL (.leaf m) ic (Mv.refl _ _) rfl hjL fun k hk=>.inl hk⟩⟩
  ·obtain⟨x1,y1,g1,g2,i1,i2,hid,hx1,hy1,kg,j1,j2,_,n1,n2,n3⟩:=hjL.split_inv
   refine aa (ae E E (ay E E (ah E E (ar (o:=5) Mn E (by kernel_rfl) E) ?_)))
   refine ax E E E (iH My (by kernel_rfl) (i:=0) (by omega) .i64) ?_
   refine ak E E (aj Ms E (kg.cell (i:=5) E)) (al E E E (gZ Ms) (ag (ab ?_)))
   refine bf E (af (aa (ac E E (ag (ab (au (az (aA E E ?_))))))))
   exact⟨_,rfl,eL,mL,.inl ⟨hC.2 rfl,rfl⟩⟩
end Go.Rl
namespace Go.Rl
open Go.RowKit Go.Proofs
theorem Co:aG Tryz.prog 25:=⟨_,Tryz.func25,by kernel_rfl,rfl⟩
theorem ue {w0:World} (ho:z8 w0):∀t:JT,DO w0 t
 |.gap=>rN ho fun s a b h=>by cases h
 |.leaf n=>rN ho fun s a b h=>by cases h
 |.split s' a' b'=>rN ho fun s a b h=>by
  obtain⟨rfl,rfl,rfl⟩:=JT.split.inj h
  exact⟨ue ho _,ue ho _⟩
def ya (es:List bR):(aZ×List (List bV))×Int:=
 if es.all cX=false then((Iq,[]),1) else
 match jp es .gap with
 |none=>((Iq,[]),11)
 |some t=>if qo t.node=false then((Iq,[]),8) else((t.node,t.miss []),0)
def Cp (es:List bR) (r:Value) (w':World):Prop:=∃cs mv,r=.tuple #[.agg cs.toArray,mv,I (ya es).2]∧aw cs∧Rp w' (bH (ya es).1.1) cs∧cu zx (ya es).1.2 mv w'
def nY:List Value:=[.slice none 0 0,I 0,I 0,B false,.slice none 0 0,.slice none 0 0,.slice none 0 0,B false,.slice none 0 0]
theorem Cp.err {es:List bR} {w':World} {c:Int} (h:ya es=((Iq,[]),c)):Cp es (.tuple #[.agg nY.toArray,.slice none 0 0,I c]) w':=by
 unfold Cp
 rw[h]
 exact⟨_,_,rfl,aw.cons rfl (aw.cons rfl (aw.cons rfl (aw.cons rfl (aw.cons rfl (aw.cons rfl (aw.cons rfl (aw.cons rfl (aw.cons rfl aw.nil)))))))),(vh (X:=fun _=>False)).rp,cu.nil _ _⟩
theorem th {P:Program} {fn:Func} {R:Ending→World→Prop} {N:Nat} {fr:Fr} {p s1 s2:Tmp} {t T:TypeId} {u1 u2:Value} {l:List Value} {w:World} {g:Nat} {d:TypeDesc} (hr:fn.results= #[.cell p t,.tmp s1,.tmp s2]) (hv:lk fr p=some (.pointer (some ⟨g,0,none⟩))) (h1:lk fr s1=some u1) (h2:lk fr s2=some u2) (hb:cr g T l w) (hu:P.underlying t=some d) (hd:d.isRow=true) (hi:(P.info? t).map (·.size)=some l.length)
 (h:R (.returned (.tuple #[.agg l.toArray,u1,u2])) w):gX (bodyPost P fn R) N [] fr w .ret:=fun a ha=>by
 refine⟨ha.defers,.tuple #[.agg l.toArray,u1,u2],?_,h⟩
 have hp:=ha.at_ p _ hv
 have hp':a.tmps[p]?.getD undef=.pointer (some ⟨g,0,none⟩):=by simpa using hp
 have q1:=ha.at_ s1 _ h1
 have q2:=ha.at_ s2 _ h2
 have hl:=run_loadVar_row w g T t l.toArray (0,0) d hb hu (by cases d<;>first|rfl|exact hd) (by simpa using hi)
 simp[results,hr,hp',asAddr,hl,←q1,←q2]
theorem IB {α:Type} {p:α→Bool} {l:List α} {i:Nat} (hi:i<l.length):(l.take (i+1)).all p=((l.take i).all p&&p l[i]):=by
 rw[List.take_succ_eq_append_getElem hi,List.all_append]
 simp
theorem JI {α:Type} {p:α→Bool} {l:List α} {i:Nat} (hi:i<l.length) (h:p l[i]=false):l.all p=false:=by
 cases hh:l.all p with
 |false=>rfl
 |true=>rw[List.all_eq_true] at hh;have:=hh _ (List.getElem_mem hi);rw[h] at this;cases this
theorem lR:∀(a b:List bR) (t:JT),jp (a++b) t=(jp a t).bind (jp b)
 |[],b,t=>rfl
 |e::a,b,t=>by
  simp only[List.cons_append,jp]
  cases Ir e t with
  |none=>rfl
  |some t'=>simp only[Option.bind_some];exact lR a b t'
theorem Cq {l:List bR} {i:Nat} (hi:i<l.length) {t:JT} (h:jp (l.take i) .gap=some t):jp (l.take (i+1)) .gap=Ir l[i] t:=by
 rw[List.take_succ_eq_append_getElem hi,lR,h]
 simp only[Option.bind_some,jp]
 cases Ir l[i] t<;>rfl
theorem Gp {l:List bR} {i:Nat} (h:jp (l.take i) .gap=none):jp l .gap=none:=by
 rw[←List.take_append_drop i l,lR,h];rfl
theorem DP {u:bR} (h:cX u=true):u.path.length≤2048:=by
 unfold cX at h
 simp only[Bool.and_eq_true,decide_eq_true_eq] at h
 exact h.1.1.1.1
theorem Cr {w:World} {es:List bR} {ev:Value} (hv:cu i0 es ev w) (hs:∀u∈es,Ip u) (ho:z8 w) (hn:es.length≤1048576):
 Calls Tryz.prog 25 #[ev] w (bE fun r w'=>aN w w'∧Cp es r w'):=by
 refine enter (vs:=[ev]) Tryz.func25 E E E ?_
 refine af (aa ?_)
 obtain⟨g2,w2,hr2,l2,x2,k2⟩:=aX (P:=Tryz.prog) (w:=w) (t:=52) (z:=.agg #[.slice none 0 0,I 0,I 0,B false,.slice none 0 0,.slice none 0 0,.slice none 0 0,B false,.slice none 0 0]) (l:=[.slice none 0 0,I 0,I 0,B false,.slice none 0 0,.slice none 0 0,.slice none 0 0,B false,.slice none 0 0]) (by kernel_rfl) rfl
 refine aV E hr2 (ac E E (ac E E (ag (ab (af (af ?_))))))
 have k20:cr g2 52 nY w2:=k2
 have hll:=hv.len
 have s2:=x2.size
 have lg2:=k2.lt
 refine aa (ae E E (aQ E E (be Mp (hv.ext x2)) (ae E E (ag (ab (aH ?_))))))
 refine cm (α:=Nat) (fun x=>[(0,ev),(2,.pointer (some ⟨g2,0,none⟩)),(3,.slice none 0 0),(4,I 0),(12,ev),(13,I ((es.length:Nat):Int)),(14,I (x:Int))]) (fun x w'=>aN w w'∧x≤es.length∧(es.take x).all cX=true∧cr g2 52 nY w') (fun x=>es.length-x) (0) ⟨rfl,rfl,rfl,rfl,rfl,rfl,rfl,trivial⟩ ⟨x2,by omega,rfl,k20⟩ ?_
 rintro i wL ⟨eL,hi,hA,kL⟩
 refine af (aa (al E E E (bc) (ag (ab (af ?_)))))
 refine bw E (fun h15=>?_) (fun h15=>?_)
 ·refine aC (ab (af (aH (af (aa ?_)))))
  obtain⟨a16,c16,p16,q16,h16⟩:=cf (P:=Tryz.prog) (sz:=10) Mp (by kernel_rfl) cR (by omega) hv (i:=i) ((by omega)) .i64
  obtain⟨e16,he16⟩:∃e,e=es[i]'((by omega)):=⟨_,rfl⟩
  rw[←he16] at h16
  obtain⟨x16_0,x16_1,x16_2,x16_3,x16_4,x16_5,rfl,f16_0,f16_1,f16_2,f16_3,f16_4,f16_5⟩:=gQ h16
  refine ax E E E (p16 _) (ak E E ((q16.ext eL).ld L8 E (by kernel_rfl)) ?_)
  obtain⟨g6,w6,hr6,l6,x6,k6⟩:=aX (P:=Tryz.prog) (w:=wL) (t:=54) (z:=.agg #[.slice none 0 0,.slice none 0 0,I 0,I 0,B false,.slice none 0 0,.slice none 0 0,.slice none 0 0,B false,.slice none 0 0]) (l:=[.slice none 0 0,.slice none 0 0,I 0,I 0,B false,.slice none 0 0,.slice none 0 0,.slice none 0 0,B false,.slice none 0 0]) (by kernel_rfl) rfl
  refine aV E hr6 ?_
  obtain⟨w3_3,s3_3,q3_3,k3_3⟩:=k6.stS (P:=Tryz.prog) (t:=54) (m:=[x16_0,x16_1,I e16.leaf.split.kd,I e16.leaf.split.ix,B e16.leaf.split.at_.1,x16_2,x16_3,x16_4,B e16.leaf.empty,x16_5]) rfl (by kernel_rfl) (aw.cons f16_0.one (aw.cons f16_1.one (aw.cons rfl (aw.cons rfl (aw.cons rfl (aw.cons f16_2.one (aw.cons f16_3.one (aw.cons f16_4.one (aw.cons rfl (aw.cons f16_5.one aw.nil))))))))))
  refine aq E E s3_3 ?_
  have x3_3:=aN.of_new (x6) q3_3 l6
  refine ag (ab (af ?_))
  have hmem:e16∈es:=by rw[he16];exact List.getElem_mem _
  have kL4:=kL.ext (x3_3)
  rcases hval:cX e16
  ·refine aa (ak E E (k3_3.ld L8 E (by kernel_rfl)) (an jn E E ((by have h:=jo (u:=e16) (f16_0.ext (eL.trans x3_3)) (f16_1.ext (eL.trans x3_3)) (f16_2.ext (eL.trans x3_3)) (f16_3.ext (eL.trans x3_3)) (f16_4.ext (eL.trans x3_3)) (f16_5.ext (eL.trans x3_3)) (hs e16 hmem);rw[hval] at h;exact h)) ?_))
   rintro v19 w19 ⟨x19,rfl⟩
   refine bo E E bu (ag (ab (bf E (af (aa (bC (vs:=[]) (r:=.agg #[.slice none 0 0,I 0,I 0,B false,.slice none 0 0,.slice none 0 0,.slice none 0 0,B false,.slice none 0 0]) E E (by exact run_build _ _ _ _ (by kernel_rfl)) ?_))))))
   obtain⟨w5,s5,q5,k5⟩:=(kL4.ext x19).stS (P:=Tryz.prog) (t:=52) (m:=nY) rfl (by kernel_rfl) (aw.cons rfl (aw.cons rfl (aw.cons rfl (aw.cons rfl (aw.cons rfl (aw.cons rfl (aw.cons rfl (aw.cons rfl (aw.cons rfl aw.nil)))))))))
   refine aq E E s5 ?_
   have e5:=aN.of_new (((eL.trans x3_3).trans x19)) q5 l2
   refine ac E E (ac E E (ag (ab (au (a6 (az (az (a6 (az ?_)))))))))
   refine th E E E E k5 L6 E (by kernel_rfl) ?_
   have hno:es.all cX=false:=JI (i:=i) (by omega) (by rw[←he16];exact hval)
   exact⟨_,rfl,e5,Cp.err (c:=1) (by unfold ya;rw[if_pos hno])⟩
  ·refine aa (ak E E (k3_3.ld L8 E (by kernel_rfl)) (an jn E E ((by have h:=jo (u:=e16) (f16_0.ext (eL.trans x3_3)) (f16_1.ext (eL.trans x3_3)) (f16_2.ext (eL.trans x3_3)) (f16_3.ext (eL.trans x3_3)) (f16_4.ext (eL.trans x3_3)) (f16_5.ext (eL.trans x3_3)) (hs e16 hmem);rw[hval] at h;exact h)) ?_))
   rintro v19 w19 ⟨x19,rfl⟩
   refine bo E E bu (ag (ab (cp E (aC (aS (ab (aa (al (r:=I ((i+1:Nat):Int)) E E E (by have e:((i+1:Nat):Int)=(i:Int)+1:=(by omega);rw[e];exact aP (by omega) (by omega)) ?_))))))))
   refine ae E E (ag ?_)
   refine bT (i+1) ⟨rfl,rfl,rfl,rfl,rfl,rfl,rfl,trivial⟩ ⟨((eL.trans x3_3).trans x19),by omega,by rw[IB (by omega),hA,←he16,hval];rfl,kL4.ext x19⟩ (by omega)
 ·refine bg (aJ (aJ (bh (ab (af ?_)))))
  have hall:es.all cX=true:=by rw[List.take_of_length_le (by omega)] at hA;exact hA
  have hvl:∀u∈es,cX u=true:=fun u hu=>List.all_eq_true.1 hall u hu
  refine aa (bC (vs:=[]) (r:=.agg #[I 0,I 0,B false,.slice none 0 0,.slice none 0 0,.pointer none,.pointer none,.pointer none]) E E (by exact run_build _ _ _ _ (by kernel_rfl)) ?_)
  obtain⟨g24,w24,hr24,l24,x24,k24⟩:=cD (P:=Tryz.prog) (w:=wL) (T:=114) (cs:=[I 0,I 0,B false,.slice none 0 0,.slice none 0 0,.pointer none,.pointer none,.pointer none])
  refine cI E E hr24 (ac E E (ag (ab (af (af ?_)))))
  have ng2:g2∉[g24]:=by have:=kL.lt;simp;omega
  have j24:jU w w24 g24 .gap [g24]:=jU.gap k24 (by have:=eL.size;omega)
  refine aa (ae E E (aQ E E (be Mp (hv.ext (eL.trans x24))) (ae E E (ag (ab (aH ?_))))))
  refine ju (fun(i:Nat) (t:JT) (ids:List Nat)=>[(2,.pointer (some ⟨g2,0,none⟩)),(3,.slice none 0 0),(4,I 0),(7,.pointer (some ⟨g24,0,none⟩)),(25,ev),(26,I ((es.length:Nat):Int)),(27,I (i:Int))]) (fun(i:Nat) (t:JT) (ids:List Nat) w'=>aN w w'∧i≤es.length∧cr g2 52 nY w'∧jU w w' g24 t ids∧g2∉ids∧jp (es.take i) .gap=some t∧t.depth≤2048∧t.gaps≤1+2048*i) (fun(i:Nat) (t:JT) (ids:List Nat)=>es.length-i) (0) (.gap) ([g24]) ⟨rfl,rfl,rfl,rfl,rfl,rfl,rfl,trivial⟩ ⟨eL.trans x24,by omega,kL.ext x24,j24,ng2,rfl,by simp[JT.depth],by simp[JT.gaps]⟩ ?_
  rintro i t ids wM ⟨eM,hi,kM,jM,nM,hT,hdp,hgp⟩
  refine af (aa (al E E E (bc) (ag (ab (af ?_)))))
  refine bw E (fun h28=>?_) (fun h28=>?_)
  ·refine aC (ab (af (aH (af (aa ?_)))))
   obtain⟨a29,c29,p29,q29,h29⟩:=cf (P:=Tryz.prog) (sz:=10) Mp (by kernel_rfl) cR (by omega) hv (i:=i) ((by omega)) .i64
   obtain⟨e29,he29⟩:∃e,e=es[i]'((by omega)):=⟨_,rfl⟩
   rw[←he29] at h29
   obtain⟨x29_0,x29_1,x29_2,x29_3,x29_4,x29_5,rfl,f29_0,f29_1,f29_2,f29_3,f29_4,f29_5⟩:=gQ h29
   refine ax E E E (p29 _) (ak E E ((q29.ext eM).ld L8 E (by kernel_rfl)) ?_)
   obtain⟨g9,w9,hr9,l9,x9,k9⟩:=aX (P:=Tryz.prog) (w:=wM) (t:=54) (z:=.agg #[.slice none 0 0,.slice none 0 0,I 0,I 0,B false,.slice none 0 0,.slice none 0 0,.slice none 0 0,B false,.slice none 0 0]) (l:=[.slice none 0 0,.slice none 0 0,I 0,I 0,B false,.slice none 0 0,.slice none 0 0,.slice none 0 0,B false,.slice none 0 0]) (by kernel_rfl) rfl
   refine aV E hr9 ?_
   obtain⟨w10_3,s10_3,q10_3,k10_3⟩:=k9.stS (P:=Tryz.prog) (t:=54) (m:=[x29_0,x29_1,I e29.leaf.split.kd,I e29.leaf.split.ix,B e29.leaf.split.at_.1,x29_2,x29_3,x29_4,B e29.leaf.empty,x29_5]) rfl (by kernel_rfl) (aw.cons f29_0.one (aw.cons f29_1.one (aw.cons rfl (aw.cons rfl (aw.cons rfl (aw.cons f29_2.one (aw.cons f29_3.one (aw.cons f29_4.one (aw.cons rfl (aw.cons f29_5.one aw.nil))))))))))
   refine aq E E s10_3 ?_
   have x10_3:=aN.of_new (x9) q10_3 l9
   refine ag (ab (af ?_))
   have hmem:e29∈es:=by rw[he29];exact List.getElem_mem _
   have eN:=x10_3
   have jN:=jM.ext eN
   have kN:=kM.ext eN
   have hTn:=Cq (l:=es) (i:=i) (by omega) hT
   rw[←he29] at hTn
   have hpl:=DP (hvl e29 hmem)
   rcases hadd:Ir e29 t with _|t2
   ·refine aa (ae rfl rfl (ak rfl rfl (k10_3.ld Tryz.underlying54 rfl (by kernel_rfl)) (an zB rfl rfl ((bE.mono (zC (u:=e29) (eM.trans x10_3) ho jN f29_0 f29_1 f29_2 f29_3 f29_4 f29_5) fun r w' (h:Lc _ _ _ _ _ _ _ _ _)=>show aN w w'∧Mv (fun k=>k∈ids) _ w'∧r=B false from⟨h.1,h.2.1,by rcases h.2.2 with h|⟨_,t',_,h1,_⟩;exact h.2;exact absurd (h1.symm.trans hadd) (by simp)⟩)) ?_)))
    rintro v33 w33 ⟨y33,m33,rfl⟩
    have k33:=m33.blk kN nM
    refine bo E E bu (ag (ab (bf E (af (aa (bC (vs:=[]) (r:=.agg #[.slice none 0 0,I 0,I 0,B false,.slice none 0 0,.slice none 0 0,.slice none 0 0,B false,.slice none 0 0]) E E (by exact run_build _ _ _ _ (by kernel_rfl)) ?_))))))
    obtain⟨w12,s12,q12,k12⟩:=k33.stS (P:=Tryz.prog) (t:=52) (m:=nY) rfl (by kernel_rfl) (aw.cons rfl (aw.cons rfl (aw.cons rfl (aw.cons rfl (aw.cons rfl (aw.cons rfl (aw.cons rfl (aw.cons rfl (aw.cons rfl aw.nil)))))))))
    refine aq E E s12 ?_
    have e12:=aN.of_new y33 q12 l2
    refine ac E E (ac E E (ag (ab (au (a6 (az (az (a6 (az ?_)))))))))
    refine th E E E E k12 L6 E (by kernel_rfl) ?_
    have hno:jp es .gap=none:=Gp (i:=i+1) (by rw[hTn,hadd])
    exact⟨_,rfl,e12,Cp.err (c:=11) (by unfold ya;rw[if_neg (by rw[hall];simp),hno])⟩
   ·refine aa (ae rfl rfl (ak rfl rfl (k10_3.ld Tryz.underlying54 rfl (by kernel_rfl)) (an zB rfl rfl ((bE.mono (zC (u:=e29) (eM.trans x10_3) ho jN f29_0 f29_1 f29_2 f29_3 f29_4 f29_5) fun r w' (h:Lc _ _ _ _ _ _ _ _ _)=>show aN w w'∧Mv (fun k=>k∈ids) _ w'∧r=B true∧∃ids',jU w w' g24 t2 ids'∧∀k∈ids',k∈ids∨_≤k from⟨h.1,h.2.1,by rcases h.2.2 with h|⟨h0,t',ids',h1,h2,h3,h4⟩;exact absurd (h.1.symm.trans hadd) (by simp);exact⟨h0,ids',by have:=Option.some.inj (h1.symm.trans hadd);rw[←this];exact h3,h4⟩⟩)) ?_)))
    rintro v33 w33 ⟨y33,m33,rfl,ids',j33,fr33⟩
    have k33:=m33.blk kN nM
    refine bo E E bu (ag (ab (cp E (aC (aS (ab (aa (al (r:=I ((i+1:Nat):Int)) E E E (by have e:((i+1:Nat):Int)=(i:Int)+1:=(by omega);rw[e];exact aP (by omega) (by omega)) ?_))))))))
    refine ae E E (ag ?_)
    refine fZ (i+1) (t2) (ids') ⟨rfl,rfl,rfl,rfl,rfl,rfl,rfl,trivial⟩ ⟨y33,by omega,k33,j33,fun h=>(fr33 _ h).elim nM fun h=>by have:=kN.lt;omega,by rw[hTn,hadd],Nat.le_trans (rH _ _ hadd) (by omega),Nat.le_trans (ub _ _ hadd) (by omega)⟩ (by omega)
  ·refine bg (aJ (aJ (bh (ab (af (aa ?_))))))
   obtain⟨g10,w10,hr10,l10,x10,k10⟩:=aX (P:=Tryz.prog) (w:=wM) (t:=59) (z:=.slice none 0 0) (l:=[.slice none 0 0]) (by kernel_rfl) rfl
   refine aV E hr10 ?_
   have hle:=List.take_of_length_le (l:=es) (i:=i) (by omega)
   rw[hle] at hT
   have lM:=kM.lt
   have sM:=eM.size
   have sX:=x10.size
   have lg10:=k10.lt
   have hC:zA w w10 (fun k=>k=g2) g10 (.slice none 0 0) []:=⟨k10,fz.nil _,(by intro h;cases h),(by omega)⟩
   have hdj:∀k∈ids,¬YM g10 (.slice none 0 0) k:=fun k hk h=>by
    rcases h with h|h
    ·have:=jM.lt k hk;omega
    ·cases h
   refine ag (ab (af (aa (ae E E (an iB E E ((ue ho t (fun k=>k=g2) w10 g24 ids [] (.slice none 0 0) g10 (.slice none 0 0) [] (fun k hk=>by have:k=g2:=hk;omega) ((eM.trans x10)) (jM.ext x10) hC hdj cL.nilSl (by simp;omega) (by simp;omega))) ?_)))))
   rintro v38 w38 ⟨cs,mv1,rfl,h1,hr,hst,hm,hoo⟩
   obtain⟨vl,x,y,vk,vp,rfl,hlN,hxN,hyN,hkN,hpN⟩:=dW hr.rp
   have y38:=hm.ext_from (eM.trans x10) fun k hk=>(hC.ym_young hk).1
   have k238:=hm.blk (kM.ext x10) (fun h=>by rcases h with h|h;omega;cases h)
   obtain⟨g11,w11,hr11,l11,x11,k11⟩:=aX (P:=Tryz.prog) (w:=w38) (t:=52) (z:=.agg #[.slice none 0 0,I 0,I 0,B false,.slice none 0 0,.slice none 0 0,.slice none 0 0,B false,.slice none 0 0]) (l:=[.slice none 0 0,I 0,I 0,B false,.slice none 0 0,.slice none 0 0,.slice none 0 0,B false,.slice none 0 0]) (by kernel_rfl) rfl
   refine aV E hr11 ?_
   obtain⟨w15_3,s15_3,q15_3,k15_3⟩:=k11.stS (P:=Tryz.prog) (t:=52) (m:=[vl,I t.node.split.kd,I t.node.split.ix,B t.node.split.at_.1,x,y,vk,B t.node.empty,vp]) rfl (by kernel_rfl) (aw.cons hlN.one (aw.cons rfl (aw.cons rfl (aw.cons rfl (aw.cons hxN.one (aw.cons hyN.one (aw.cons hkN.one (aw.cons rfl (aw.cons hpN.one aw.nil)))))))))
   refine aq E E s15_3 ?_
   have x15_3:=aN.of_new (x11) q15_3 l11
   refine ag (ab (af (af ?_)))
   rcases hvn:qo t.node
   ·refine aa (ak E E (k15_3.ld L6 E (by kernel_rfl)) (an gx E E ((by have h:=mS (hlN.ext x15_3) (hxN.ext x15_3) (hyN.ext x15_3) (hkN.ext x15_3) (hpN.ext x15_3);rw[hvn] at h;exact h)) ?_))
    rintro v40 w40 ⟨x40,rfl⟩
    refine bo E E bu (ag (ab (bf E (af (aa (bC (vs:=[]) (r:=.agg #[.slice none 0 0,I 0,I 0,B false,.slice none 0 0,.slice none 0 0,.slice none 0 0,B false,.slice none 0 0]) E E (by exact run_build _ _ _ _ (by kernel_rfl)) ?_))))))
    obtain⟨w17,s17,q17,k17⟩:=(k238.ext ((x15_3.trans x40))).stS (P:=Tryz.prog) (t:=52) (m:=nY) rfl (by kernel_rfl) (aw.cons rfl (aw.cons rfl (aw.cons rfl (aw.cons rfl (aw.cons rfl (aw.cons rfl (aw.cons rfl (aw.cons rfl (aw.cons rfl aw.nil)))))))))
    refine aq E E s17 ?_
    have e17:=aN.of_new (((y38.trans x15_3).trans x40)) q17 l2
    refine ac E E (ac E E (ag (ab (au (az ?_)))))
    refine th E E E E k17 L6 E (by kernel_rfl) ?_
    exact⟨_,rfl,e17,Cp.err (c:=8) (by unfold ya;rw[if_neg (by rw[hall];simp),hT];simp only[];rw[if_pos hvn])⟩
   ·refine aa (ak E E (k15_3.ld L6 E (by kernel_rfl)) (an gx E E ((by have h:=mS (hlN.ext x15_3) (hxN.ext x15_3) (hyN.ext x15_3) (hkN.ext x15_3) (hpN.ext x15_3);rw[hvn] at h;exact h)) ?_))
    rintro v40 w40 ⟨x40,rfl⟩
    refine bo E E bu (ag (ab (cp E (aC (ab (af ?_))))))
    have eH:aN w38 w40:=x15_3.trans x40
    have eHd:aN w40 w40.drew:=(aN.refl w40).drew
    have k11d:cr g11 52 [vl,I t.node.split.kd,I t.node.split.ix,B t.node.split.at_.1,x,y,vk,B t.node.empty,vp] w40.drew:=(k15_3.ext x40).ext eHd
    have k10d:cr g10 59 [mv1] w40.drew:=(hst.cell.ext eH).ext eHd
    refine gS (fun w1=>cr g11 52 [vl,I t.node.split.kd,I t.node.split.ix,B t.node.split.at_.1,x,y,vk,B t.node.empty,vp] w1∧cr g10 59 [mv1] w1) 5 E (by kernel_rfl) ?_
    refine fU 0 E E (by kernel_rfl) E ⟨k11d,k10d⟩ (fun _ hw=>hw.1.ld L6 E (by kernel_rfl)) ?_
    refine fU 1 E E (by kernel_rfl) E ⟨k11d,k10d⟩ (fun _ hw=>aj MB E hw.2.k0) ?_
    obtain⟨w18,s18,q18,k18⟩:=((k238.ext eH).ext eHd).stS (P:=Tryz.prog) (t:=52) (m:=[vl,I t.node.split.kd,I t.node.split.ix,B t.node.split.at_.1,x,y,vk,B t.node.empty,vp]) rfl (by kernel_rfl) h1
    have l2b:g2<w10.heap.size:=by have:=(kM.ext x10).lt;omega
    have m18:Mv (fun k=>k=g2) w40.drew w18:=Mv.of_grown q18 fun k hk _=>(Option.some.inj hk).symm
    have l11b:=hm.size
    have hS18:cr g11 52 [vl,I t.node.split.kd,I t.node.split.ix,B t.node.split.at_.1,x,y,vk,B t.node.empty,vp] w18∧cr g10 59 [mv1] w18:=⟨m18.blk k11d (fun e=>by omega),m18.blk k10d (fun e=>by omega)⟩
    have e18:aN w w18:=aN.of_new ((y38.trans eH).trans eHd) q18 l2
    have rpF:=(((hr.ext eH).ext eHd).mv (m18.weak fun k hk _=>.inr (by have e:k=g2:=hk;omega)) fun _ h=>.inl h).rp
    have stF:=(((hst.ext eH).ext eHd).sto m18 rfl (fun h=>by
     rcases h with h|h
     ·omega
     ·rcases hoo _ h with h|h
      ·cases h
      ·omega)).own.rpx (Y:=fun _=>False) rM (by omega) (fun _ h=>h.elim) (fun _ _ h=>h)
    refine aR 2 (by kernel_rfl) E (aq E E s18 (aI hS18 ?_))
    refine aR 3 (by kernel_rfl) E (ac E E (aI hS18 ?_))
    refine aR 4 (by kernel_rfl) E (ac E E (aI hS18 (gT (by kernel_rfl) ?_)))
    refine ab (au ?_)
    refine th E E E E k18 L6 E (by kernel_rfl) ?_
    have hb:ya es=((t.node,t.miss []),0):=by unfold ya;rw[if_neg (by rw[hall];simp),hT];simp only[];rw[if_neg (by rw[hvn];simp)]
    refine⟨_,rfl,e18,?_⟩
    unfold Cp
    rw[hb]
    exact⟨_,mv1,rfl,h1,rpF,(by simpa using stF.rp:Rp w18 (.sl ((t.miss []).map zx)) [mv1])⟩
end Go.Rl
namespace Go.Rl
open Go.RowKit Go.Proofs
theorem IC (b:List UInt8) (ws:List bR) (u:bR):qv b (ws++[u])=fA (qv b ws) (cc u):=by
 unfold qv
 rw[List.map_append]
 exact In _ _ _
theorem ID (b:List UInt8) (ws vs:List bR):(qv b ws).length≤(qv b (ws++vs)).length:=by
 unfold qv
 rw[List.map_append,Dz]
 obtain⟨s,h⟩:=vc (vs.map cc) (EM b (ws.map cc))
 rw[h,List.length_append];omega
theorem Cs {l:List bR} {i:Nat} (hi:i<l.length) (p:bR→Bool):(l.take (i+1)).filter p=(l.take i).filter p++(if p l[i]=true then[l[i]] else[]):=by
 have e:l.take (i+1)=l.take i++[l[i]]:=by rw[List.take_add_one,List.getElem?_eq_getElem hi];rfl
 rw[e,List.filter_append]
 congr 1
 by_cases h:p l[i]=true
 ·rw[if_pos h];simp[h]
 ·rw[if_neg h];simp[h]
theorem Ct (l:List bR) (i:Nat) (p:bR→Bool):∃vs,l.filter p=(l.take i).filter p++vs:=⟨(l.drop i).filter p,by rw[←List.filter_append,List.take_append_drop]⟩
end Go.Rl
namespace Go.Rl
open Go.RowKit Go.Proofs
theorem eP:aG Tryz.prog 12:=⟨_,Tryz.func12,by kernel_rfl,rfl⟩
def AU:Prop:=∀{w:World},z8 w→Calls Tryz.prog 12 #[] w (bE fun r w'=>aN w w'∧r=B true)
end Go.Rl
namespace Go.Rl
open Go.RowKit
theorem rO {α:Type} {f:α→Dt} {e:α→List UInt8} {k:α→Nat} (l:List α) (h:∀a∈l,(e a).length≤4*(f a).bulk+k a):(l.flatMap e).length≤4*Dt.bulkAll (l.map f)+(l.map k).sum:=by
 induction l with
 |nil=>simp
 |cons a l ih=>
  have h1:=h a (by simp)
  have h2:=ih fun x hx=>h x (by simp[hx])
  simp only[List.flatMap_cons,List.length_append,List.map_cons,List.sum_cons,Dt.bulkAll]
  omega
theorem zD {α:Type} (l:List α) (c:Nat):(l.map fun _=>c).sum=c*l.length:=by
 induction l with
 |nil=>simp
 |cons a l ih=>simp only[List.map_cons,List.sum_cons,List.length_cons,ih,Nat.mul_add];omega
theorem IE {m:cg} (hb:(bK m).bulk≤1048576) (hw:Ll m):(fg m).length≤4*(bK m).bulk+21:=by
 rw[iM] at hb⊢
 have:=gi hw.1;have:=gi hw.2.1;have:=gi hw.2.2.1;have:=gi hw.2.2.2
 have:=pT (q:=m.co) (by omega) (by omega)
 simp only[fg,List.length_append];omega
theorem JJ {m:bV} (hb:(dm m).bulk≤1048576) (hw:wD m):(fG m).length≤4*(dm m).bulk+21:=by
 rw[sY] at hb⊢
 have:=gi hw.1;have:=gi hw.2
 have:=pT (q:=m.at_) (by omega) (by omega)
 simp only[fG,List.length_append];omega
theorem lm {α:Type} {f:α→Dt} {l:List α} {a:α} (h:a∈l):(f a).bulk≤Dt.bulkAll (l.map f):=by
 induction l with
 |nil=>cases h
 |cons b l ih=>
  simp only[List.map_cons,Dt.bulkAll]
  rcases List.mem_cons.1 h with rfl|h
  ·omega
  ·have:=ih h;omega
theorem ET {l:List cg} (hb:Dt.bulkAll (l.map bK)≤1048576) (hw:wP l):(iY l).length≤4*Dt.bulkAll (l.map bK)+21*l.length+10:=by
 have h1:=dM (l.map bK)
 rw[List.length_map] at h1
 have h2:=et (n:=l.length) (by omega)
 have h3:=rO (f:=bK) (e:=fg) (k:=fun _=>21) l fun a ha=>IE (Nat.le_trans (lm ha) hb) (hw a ha)
 rw[zD] at h3
 simp only[iY,List.length_append];omega
theorem IF {m:dI} (hb:(cV m).bulk≤1048576) (hw:HO m):(dY m).length≤4*(cV m).bulk+(10+21*m.pf.length):=by
 rw[jK] at hb⊢
 have:=gi hw.1
 have:=pT (q:=m.va) (by omega) (by omega)
 have:=ET (l:=m.pf) (by omega) hw.2
 have hbit:(wv m.up).length=1:=by cases m.up<;>rfl
 simp only[dY,List.length_append,hbit];omega
theorem JK {l:List dI}:(l.map fun m=>10+21*m.pf.length).sum=10*l.length+21*zw l:=by
 unfold zw
 induction l with
 |nil=>rfl
 |cons a l ih=>simp only[List.map_cons,List.sum_cons,List.length_cons,ih];omega
theorem vq (u:bR):(i0 u).bulk=Dt.bulkAll (u.path.map dm)+(bH u.leaf).bulk+2:=by
 simp only[i0,Dt.bulk,Dt.bulkAll];omega
theorem xO {u:bR} (hb:(i0 u).bulk≤1048576) (hw:xY u) (h0:u.leaf.kids.length=0):(cc u).length≤4*(i0 u).bulk+21*ow u+31:=by
 rw[vq] at hb⊢
 obtain⟨wl,wd,wp,_⟩:=(tX u.leaf).1 hw.2
 have hbn:=t6 u.leaf
 have hen:=mV u.leaf
 rw[if_pos h0] at hen
 have hp:=ET (l:=u.leaf.pf) (by omega) wp
 have h1:=dM (u.path.map dm)
 rw[List.length_map] at h1
 have h2:=dM (u.leaf.lems.map cV)
 rw[List.length_map] at h2
 have u1:=et (n:=u.path.length) (by omega)
 have u2:=et (n:=u.leaf.lems.length) (by omega)
 have h3:=rO (f:=dm) (e:=fG) (k:=fun _=>21) u.path fun a ha=>JJ (Nat.le_trans (lm ha) (by omega)) (hw.1 a ha)
 rw[zD] at h3
 have h4:=rO (f:=cV) (e:=dY) (k:=fun m=>10+21*m.pf.length) u.leaf.lems fun a ha=>IF (Nat.le_trans (lm ha) (by omega)) (wl a ha)
 rw[JK] at h4
 have hz:ow u=1+u.path.length+u.leaf.lems.length+u.leaf.pf.length+u.leaf.kids.length+zw u.leaf.lems:=rfl
 unfold cc
 rw[hen]
 simp only[eu,List.length_append,pj]
 omega
theorem IG (u:bR):1≤ow u:=by unfold ow;omega
theorem IH:∀(ws:List bR) (b:List UInt8),(∀u∈ws,(i0 u).bulk≤1048576∧xY u∧u.leaf.kids.length=0)→i9 ws≤1048576→(qv b ws).length≤b.length+4*Dt.bulkAll (ws.map i0)+70*i9 ws
 |[],b,_,_=>by
  show b.length≤_
  omega
 |u::ws,b,h,hz=>by
  obtain⟨h1,h2,h3⟩:=h u (by simp)
  have hz':i9 (u::ws)=ow u+i9 ws:=by simp[i9]
  have hp:=IG u
  have he:=xO h1 h2 h3
  have ih:=IH ws (fA b (cc u)) (fun x hx=>h x (by simp[hx])) (by omega)
  have hr:=sZ b (cc u)
  have hu:=et (n:=(cc u).length) (by omega)
  have hB:(fh (cc u)).length=(uv (cc u).length).length+(cc u).length:=by unfold fh;rw[List.length_append]
  show(qv (fA b (cc u)) ws).length≤_
  simp only[List.map_cons,Dt.bulkAll]
  omega
theorem xP {u:bR} (hb:(i0 u).bulk≤1048576) (hw:xY u):Ip u:=by
 rw[vq] at hb
 refine⟨fun m hm=>?_,(AG _ (Nat.le_refl _) (n:=u.leaf) (by omega) hw.2).2.2⟩
 have h1:=lm (f:=dm) hm
 have h2:=sY m
 exact⟨by omega,by omega⟩
theorem II (l:List dI):l.length+zw l≤Dt.bulkAll (l.map cV):=by
 unfold zw
 induction l with
 |nil=>simp[Dt.bulkAll]
 |cons a l ih=>
  have h1:=jK a
  have h2:=dM (a.pf.map bK)
  rw[List.length_map] at h2
  simp only[List.map_cons,List.sum_cons,List.length_cons,Dt.bulkAll]
  omega
theorem uf (u:bR):ow u≤(i0 u).bulk:=by
 rw[vq]
 have h1:=t6 u.leaf
 have h2:=II u.leaf.lems
 have h3:=dM (u.path.map dm)
 have h4:=dM (u.leaf.pf.map bK)
 have h5:=dM (u.leaf.kids.map bH)
 rw[List.length_map] at h3 h4 h5
 unfold ow
 omega
theorem Gq (es:List bR):i9 es≤Dt.bulkAll (es.map i0):=by
 have:=mY (f:=i0) (m:=ow) (c:=1) es fun a _=>by have:=uf a;omega
 unfold i9
 omega
theorem IJ {ws:List bR} (h:∀u∈ws,cX u=true∧xY u∧(cc u).length<18446744073709551616):xF ws:=fun u hu=>
 ⟨Cd (h u hu).1 (h u hu).2.1 (h u hu).2.2,(h u hu).2.2⟩
end Go.Rl
namespace Go.Rl
open Go.RowKit Go.Proofs
theorem jO.is {base n:Nat} {b d:List UInt8} {ws:List bR} {r:Value} {w':World} (h:jO base b r w') (e:ib b=((d,ws,n),0)):∃ve,r=.tuple #[.agg (d.map U8).toArray,ve,I (n:Int),I 0]∧cL (fun k=>k<base) w' (.sl (ws.map i0)) [ve]:=by
 unfold jO at h
 rw[e] at h
 exact h
structure Ld (d:List UInt8) (es:List bR):Prop where
 short:∀u∈es,Ip u
 few:es.length≤1073741824
 enc:(qv (eG d) (es.filter cX)).length≤7340032
 backs:xF (es.filter cX)
theorem xQ (es:List bR) (p:bR→Bool):Dt.bulkAll ((es.filter p).map i0)≤Dt.bulkAll (es.map i0)∧i9 (es.filter p)≤i9 es:=by
 induction es with
 |nil=>exact⟨Nat.le_refl _,Nat.le_refl _⟩
 |cons a l ih=>
  by_cases h:p a=true
  ·rw[List.filter_cons_of_pos h]
   simp only[List.map_cons,Dt.bulkAll,i9,List.sum_cons] at ih⊢
   omega
  ·rw[List.filter_cons_of_neg h]
   simp only[List.map_cons,Dt.bulkAll,i9,List.sum_cons] at ih⊢
   omega
theorem rP {u:bR} (h:cX u=true):u.leaf.kids.length=0:=by
 cases hk:decide (u.leaf.kids.length=0) with
 |true=>exact of_decide_eq_true hk
 |false=>
  have:=cA (u:=u) (.inr (.inl (by have:=of_decide_eq_false hk;omega)))
  rw[h] at this
  cases this
theorem Ld.mk' {d:List UInt8} {es:List bR} (hd:d.length=32) (hb:Dt.bulkAll (es.map i0)≤1048576) (hw:∀u∈es,xY u) (hf:i9 es≤120):Ld d es:=by
 have hm:∀u∈es,(i0 u).bulk≤1048576:=fun u hu=>Nat.le_trans (lm hu) hb
 obtain⟨f1,f2⟩:=xQ es cX
 have hin:∀u∈es.filter cX,u∈es∧cX u=true:=fun u hu=>List.mem_filter.1 hu
 have hj:=IH (es.filter cX) (eG d) (fun u hu=>⟨hm u (hin u hu).1,hw u (hin u hu).1,rP (hin u hu).2⟩) (by omega)
 rw[jL hd] at hj
 have hl:=dM (es.map i0)
 rw[List.length_map] at hl
 refine⟨fun u hu=>xP (hm u hu) (hw u hu),by omega,by omega,IJ fun u hu=>⟨(hin u hu).2,hw u (hin u hu).1,?_⟩⟩
 have he:=xO (hm u (hin u hu).1) (hw u (hin u hu).1) (rP (hin u hu).2)
 have:=hm u (hin u hu).1
 have hz:=uf u
 omega
theorem AW {w:World} {b d:List UInt8} {ws:List bR} {n:Nat} {v:Value} (hv:cn b v w) (hl:b.length≤7340032) (e:ib b=((d,ws,n),0)):
 Calls Tryz.prog 13 #[v] w (bE fun r w'=>aN w w'∧∃ve,r=.tuple #[.agg (d.map U8).toArray,ve,I (n:Int),I 0]∧cL (fun k=>k<w.heap.size) w' (.sl (ws.map i0)) [ve]):=
 bE.mono (zu hv hl) fun _ _ h=>⟨h.1,h.2.is e⟩
end Go.Rl

/- Part 5 of a proof: plain facts and walks of functions, merged by a program. Conditions: each lemma names its own. -/
import Derived.Test.YtpeidnhjcompmaaGreatDoorJc4
namespace Go.Rl
open Go.RowKit Go.Proofs
theorem GH:aG Tryz.prog 14:=⟨_,Tryz.func14,by kernel_rfl,rfl⟩
theorem xY:(Tryz.prog.info? 54).map (fun i=>(i.zero,i.size,i.bytes))=some (some (.agg #[.slice none 0 0,.slice none 0 0,I 0,I 0,B false,.slice none 0 0,.slice none 0 0,.slice none 0 0,B false,.slice none 0 0]),10,176):=by kernel_rfl
theorem fm {P:Program} {fn:Func} {R:Ending→World→Prop} {N:Nat} {fr:Fr} {p s1 s2 s3:Tmp} {t T:TypeId} {u1 u2 u3:Value} {l:List Value} {w:World} {g:Nat} {d:TypeDesc} (hr:fn.results= #[.cell p t,.tmp s1,.tmp s2,.tmp s3]) (hv:lk fr p=some (.pointer (some ⟨g,0,none⟩))) (h1:lk fr s1=some u1) (h2:lk fr s2=some u2) (h3:lk fr s3=some u3) (hb:ct g T l w) (hu:P.underlying t=some d) (hd:d.isRow=true) (hi:(P.info? t).map (·.size)=some l.length)
 (h:R (.returned (.tuple #[.agg l.toArray,u1,u2,u3])) w):ir (bodyPost P fn R) N [] fr w .ret:=fun a ha=>by
 refine⟨ha.defers,.tuple #[.agg l.toArray,u1,u2,u3],?_,h⟩
 have hp:=ha.at_ p _ hv
 have hp':a.tmps[p]?.getD undef=.pointer (some ⟨g,0,none⟩):=by simpa using hp
 have q1:=ha.at_ s1 _ h1
 have q2:=ha.at_ s2 _ h2
 have q3:=ha.at_ s3 _ h3
 have hl:=run_loadVar_row w g T t l.toArray (0,0) d hb hu (by cases d<;>first|rfl|exact hd) (by simpa using hi)
 simp[results,hr,hp',asAddr,hl,←q1,←q2,←q3]
def jG (base:Nat) (b:List UInt8) (r:Value) (w':World):Prop:=∃ve,r=.tuple #[.agg ((iL b).1.1.map U8).toArray,ve,I (((iL b).1.2.2:Nat):Int),I (iL b).2]∧cN (fun k=>k<base) w' (.sl ((iL b).1.2.1.map i7)) [ve]
theorem jG.err {base:Nat} {b:List UInt8} {w':World} (h:b.length<44∨b.take 4≠lz∨eV b 36=false):jG base b (.tuple #[.agg (oC.map U8).toArray,.slice none 0 0,I 0,I 5]) w':=by
 have e:iL b=((oC,[],0),5):=by unfold iL;rw[if_pos h]
 unfold jG
 rw[e]
 exact⟨_,rfl,j7⟩
theorem jG.ok {base k:Nat} {b:List UInt8} {es:List bZ} {ve:Value} {w':World} (h:¬(b.length<44∨b.take 4≠lz∨eV b 36=false)) (hj:fQ b 44=(es,k)) (hr:cN (fun k=>k<base) w' (.sl (es.map i7)) [ve]):jG base b (.tuple #[.agg (((b.take 36).drop 4).map U8).toArray,ve,I (k:Int),I 0]) w':=by
 have e:iL b=(((b.take 36).drop 4,es,k),0):=by unfold iL;rw[if_neg h,hj]
 unfold jG
 rw[e]
 exact⟨_,rfl,hr⟩
theorem xZ {b:List UInt8} {k:Nat} (h:oA (b.drop k)=none):gA b k=none:=by unfold gA;rw[h];rfl
theorem pG {b p t:List UInt8} {k:Nat} (h:oA (b.drop k)=some (p,t)) (hc:eV b (b.length-t.length)=false):gA b k=none:=by
 unfold gA;rw[h];show(if eV b (b.length-t.length)=true then _ else _)=_;rw[hc];rfl
theorem Cw {b p t:List UInt8} {k:Nat} (h:oA (b.drop k)=some (p,t)) (hc:eV b (b.length-t.length)=true) (he:jC p=none):gA b k=none:=by
 unfold gA;rw[h];show(if eV b (b.length-t.length)=true then _ else _)=_;rw[if_pos hc,he];rfl
theorem Fe {b p t:List UInt8} {k:Nat} {u:bZ} (h:oA (b.drop k)=some (p,t)) (hc:eV b (b.length-t.length)=true) (he:jC p=some u):gA b k=some (u,b.length-t.length+8):=by
 unfold gA;rw[h];show(if eV b (b.length-t.length)=true then _ else _)=_;rw[if_pos hc,he];rfl
theorem DZ {b:List UInt8} {k:Nat} {es:List bZ} (hJ:fQ b 44=(es++(fQ b k).1,(fQ b k).2)) (h:gA b k=none):fQ b 44=(es,k):=by
 rw[hJ,sm h,List.append_nil]
theorem en:(Tryz.prog.info? 24).map (·.size)=some (oC.map U8).length:=by rw[List.length_map,vG];exact jj
theorem AS {w:World} {g:Nat} {st:Option (List UInt8)} (hr:cv g st w):Calls Tryz.prog 49 #[.pointer (some ⟨g,0,none⟩)] w (bE fun r w'=>w=w'∧r=I ((st.getD []).length:Nat)):=(Dg hr).mono fun _ _ ⟨v,h,h1,h2⟩=>⟨v,h,h2.symm,h1⟩
theorem GI {w:World} {b:List UInt8} {v:Value} (hv:cJ b v w) (hl:b.length≤4294967296):
 Calls Tryz.prog 14 #[v] w (bE fun r w'=>aK w w'∧jG w.heap.size b r w'):=by
 refine enter (vs:=[v]) Tryz.func14 E E E ?_
 refine af (aa ?_)
 obtain⟨g2,w2,hr2,l2,x2,k2⟩:=aX (P:=Tryz.prog) (w:=w) (t:=24) (l:=oC.map U8) ip rfl
 refine aT E hr2 ?_
 refine ae E E (ae E E (ae E E (ag (ab (af (aa ?_))))))
 obtain⟨g6,w6,hr6,l6,x6,k6⟩:=aX (P:=Tryz.prog) (w:=w2) (t:=24) (l:=oC.map U8) ip rfl
 refine aT E hr6 ?_
 have g26:g2<g6:=by have:=k2.lt;omega
 refine ag (ab (af (af ?_)))
 rcases hC:eV b 36
 ·refine aa (ac E E (aO E E (cT (hv.ext (x2.trans x6))) (al E E E (aV) (ac E E ?_))))
  refine ce (fun h19=>?_) (fun h19=>?_)
  ·refine an E E E (an E E E (an E E E (an E E E (ap E E E (ac E E (an E E E (an E E E (an E E E (ap E E E ?_)))))))))
   refine ag (ab (bg E (af (aa ?_))))
   refine ak E E ((k6.ext (aK.refl _)).ld MK E en) ?_
   obtain⟨wR,sR,qR,kR⟩:=(k2.ext (x6)).stS (P:=Tryz.prog) (t:=24) (m:=oC.map U8) rfl en (ep _)
   refine au E E sR ?_
   have xR:=aK.of_new ((x2.trans x6)) qR l2
   refine ae E E (ae E E (ae E E (ag (ab (aw (ay ?_))))))
   refine fm E E E E E kR MK E en ?_
   exact⟨_,rfl,xR,jG.err (by
    first
    |exact .inl (by omega)
    |exact .inr (.inl (by assumption))
    |exact .inr (.inr hC))⟩
  ·refine ai E (ac E E (ai E ?_))
   obtain⟨v21,p21,b21⟩:=iw (hv.ext (x2.trans x6)) (hi:=4) (by omega) .i64
   refine cx E E E E E (p21 _) (ai E (a9 E E (Ba b21) (ai E (al (v:=S [82,76,85,74]) E E E (zU) (aD E E E ?_)))))
   refine ac E E ?_
   refine ce (fun h25=>?_) (fun h25=>?_)
   ·refine an E E E (an E E E (an E E E (ap E E E (ag (ab (bg E (af (aa ?_))))))))
    refine ak E E ((k6.ext (aK.refl _)).ld MK E en) ?_
    obtain⟨wR,sR,qR,kR⟩:=(k2.ext (x6)).stS (P:=Tryz.prog) (t:=24) (m:=oC.map U8) rfl en (ep _)
    refine au E E sR ?_
    have xR:=aK.of_new ((x2.trans x6)) qR l2
    refine ae E E (ae E E (ae E E (ag (ab (aw (ay ?_))))))
    refine fm E E E E E kR MK E en ?_
    exact⟨_,rfl,xR,jG.err (by
     first
     |exact .inl (by omega)
     |exact .inr (.inl (by assumption))
     |exact .inr (.inr hC))⟩
   ·refine ai E (ac E E (ai E (am qA E E ((by have h:=qC (k:=36) (hv.ext (x2.trans x6)) (by omega);rw[hC] at h;exact h)) ?_)))
    rintro v27 w27 ⟨x27,rfl⟩
    refine ai E (bt E E bu (aD E E E (ag (ab (bg E (af (aa ?_)))))))
    refine ak E E ((k6.ext (x27)).ld MK E en) ?_
    obtain⟨wR,sR,qR,kR⟩:=(k2.ext ((x6.trans x27))).stS (P:=Tryz.prog) (t:=24) (m:=oC.map U8) rfl en (ep _)
    refine au E E sR ?_
    have xR:=aK.of_new (((x2.trans x6).trans x27)) qR l2
    refine ae E E (ae E E (ae E E (ag (ab (aw (ay ?_))))))
    refine fm E E E E E kR MK E en ?_
    exact⟨_,rfl,xR,jG.err (by
     first
     |exact .inl (by omega)
     |exact .inr (.inl (by assumption))
     |exact .inr (.inr hC))⟩
 ·refine aa (ac E E (aO E E (cT (hv.ext (x2.trans x6))) (al E E E (aV) (ac E E ?_))))
  refine ce (fun h19=>?_) (fun h19=>?_)
  ·refine an E E E (an E E E (an E E E (an E E E (ap E E E (ac E E (an E E E (an E E E (an E E E (ap E E E ?_)))))))))
   refine ag (ab (bg E (af (aa ?_))))
   refine ak E E ((k6.ext (aK.refl _)).ld MK E en) ?_
   obtain⟨wR,sR,qR,kR⟩:=(k2.ext (x6)).stS (P:=Tryz.prog) (t:=24) (m:=oC.map U8) rfl en (ep _)
   refine au E E sR ?_
   have xR:=aK.of_new ((x2.trans x6)) qR l2
   refine ae E E (ae E E (ae E E (ag (ab (aw (ay ?_))))))
   refine fm E E E E E kR MK E en ?_
   exact⟨_,rfl,xR,jG.err (by
    first
    |exact .inl (by omega)
    |exact .inr (.inl (by assumption))
    |exact .inr (.inr hC))⟩
  ·refine ai E (ac E E (ai E ?_))
   obtain⟨v21,p21,b21⟩:=iw (hv.ext (x2.trans x6)) (hi:=4) (by omega) .i64
   refine cx E E E E E (p21 _) (ai E (a9 E E (Ba b21) (ai E (al (v:=S [82,76,85,74]) E E E (zU) (aD E E E ?_)))))
   refine ac E E ?_
   refine ce (fun h25=>?_) (fun h25=>?_)
   ·refine an E E E (an E E E (an E E E (ap E E E (ag (ab (bg E (af (aa ?_))))))))
    refine ak E E ((k6.ext (aK.refl _)).ld MK E en) ?_
    obtain⟨wR,sR,qR,kR⟩:=(k2.ext (x6)).stS (P:=Tryz.prog) (t:=24) (m:=oC.map U8) rfl en (ep _)
    refine au E E sR ?_
    have xR:=aK.of_new ((x2.trans x6)) qR l2
    refine ae E E (ae E E (ae E E (ag (ab (aw (ay ?_))))))
    refine fm E E E E E kR MK E en ?_
    exact⟨_,rfl,xR,jG.err (by
     first
     |exact .inl (by omega)
     |exact .inr (.inl (by assumption))
     |exact .inr (.inr hC))⟩
   ·refine ai E (ac E E (ai E (am qA E E ((by have h:=qC (k:=36) (hv.ext (x2.trans x6)) (by omega);rw[hC] at h;exact h)) ?_)))
    rintro v27 w27 ⟨x27,rfl⟩
    refine ai E (bt E E bu (aD E E E (ag (ab (cr E (aC (ab (af (af ?_)))))))))
    have hOK:¬(b.length<44∨b.take 4≠lz∨eV b 36=false):=by
     rintro(h|h|h)
     ·omega
     ·exact h25 h
     ·rw[hC] at h;cases h
    have l73:((b.take 36).drop 4).length=32:=by rw[List.length_drop,List.length_take];omega
    have e27:=((x2.trans x6).trans x27)
    have e227:=(x6.trans x27)
    have k6L:=k6.ext (x27)
    have k2L:=k2.ext ((x6.trans x27))
    refine aa (ae E E (ag (ab (aE ?_))))
    refine cf (α:=Nat) (fun j=>[(0,v),(2,.pointer (some ⟨g2,0,none⟩)),(6,.pointer (some ⟨g6,0,none⟩)),(7,I (j:Int))]) (fun j w'=>Mv (fun k=>k=g6) w27 w'∧ct g6 24 ((((b.take 36).drop 4).take j++oC.drop j).map U8) w'∧j≤32) (fun j=>32-j) (0) ⟨rfl,rfl,rfl,rfl,trivial⟩ ⟨Mv.refl _ _,k6L,by omega⟩ ?_
    rintro j wM ⟨mM,kM,hj⟩
    refine af (af (aa (ac E E (al E E E (aV) (ag (ab ?_))))))
    refine bz E (fun h32=>?_) (fun h32=>?_)
    ·have eM:aK w wM:=Mv.ext_from mM e27 fun k hk=>by have:k=g6:=hk;omega
     refine aC (ab (af (aE (aa (ac E E (ac E E (ac E E (al (r:=I ((4+j:Nat):Int)) E E E (by have e:((4+j:Nat):Int)=4+(j:Int):=(by omega);rw[e];exact aN (by omega) (by omega)) ?_))))))))
     obtain⟨a39,p39,q39⟩:=gH (hv.ext eM) (i:=4+j) (by omega) .i64
     refine aq E E E (p39 _) (ak E E (aj MC E q39) ?_)
     refine aq E E E (iW MK fo (i:=j) (by omega) .i64) ?_
     obtain⟨wN,sN,qN,kN⟩:=kM.stC (P:=Tryz.prog) (t:=5) (i:=0+j) (v:=U8 (b[4+j]'(by omega))) fo rfl (by rw[List.length_map,JI l73 vG (by omega)];omega)
     refine au E E sN ?_
     have mN:=mM.trans (Mv.of_grown qN fun k hk _=>(Option.some.inj hk).symm) fun _ hk _=>hk
     rw[Nat.zero_add,←List.map_set,Iy l73 vG (by omega) (by simp[List.getElem_drop,List.getElem_take])] at kN
     refine ag (aS (ab (aa (ac E E (al (r:=I ((j+1:Nat):Int)) E E E (by have e:((j+1:Nat):Int)=(j:Int)+1:=(by omega);rw[e];exact aN (by omega) (by omega)) ?_)))))
     refine ae E E (ag ?_)
     refine bR (j+1) ⟨rfl,rfl,rfl,rfl,trivial⟩ ⟨mN,kN,by omega⟩ (by omega)
    ·refine bc (aI (aI (be (ab (af ?_)))))
     have hj32:j=32:=by omega
     subst hj32
     have e32:((b.take 36).drop 4).take 32++oC.drop 32=(b.take 36).drop 4:=by rw[List.take_of_length_le (Nat.le_of_eq l73),show oC.drop 32=[] from rfl,List.append_nil]
     rw[e32] at kM
     have eM:aK w wM:=Mv.ext_from mM e27 fun k hk=>by have:k=g6:=hk;omega
     have k2M:=mM.blk k2L (fun h=>by have:g2=g6:=h;omega)
     have s32:(Tryz.prog.info? 24).map (·.size)=some ((((b.take 36).drop 4)).map U8).length:=by rw[List.length_map,l73];exact jj
     have g2M:=k2M.lt
     have g6M:=kM.lt
     refine aa (ae E E (ag (ab (af (aa (ae E E (ag (ab (aE ?_)))))))))
     refine kA (fun(k:Nat) (ve:Value) (es:List bZ)=>[(0,v),(2,.pointer (some ⟨g2,0,none⟩)),(6,.pointer (some ⟨g6,0,none⟩)),(8,ve),(9,I (k:Int))]) (fun(k:Nat) (ve:Value) (es:List bZ) w'=>aK wM w'∧gq 54 10 wM.heap.size i7 es ve w'∧44≤k∧k≤b.length∧fQ b 44=(es++(fQ b k).1,(fQ b k).2)∧es.length≤k) (fun(k:Nat) (ve:Value) (es:List bZ)=>b.length-k) (44) (.slice none 0 0) ([]) ⟨rfl,rfl,rfl,rfl,rfl,trivial⟩ ⟨aK.refl _,gq.nil _,by omega,by omega,by simp,by simp⟩ ?_
     rintro k ve es wL ⟨eL,oL,hk1,hk2,hJ,hel⟩
     refine aE (af ?_)
     have sL:=eL.size
     have hwL:aK w wL:=eM.trans eL
     have sW:=hwL.size
     rcases hB:oA (b.drop k) with _|⟨p,t⟩
     rotate_left
     have hbl:p.length+t.length≤b.length:=by
      have:=Il hB
      rw[List.length_drop] at this
      omega
     rcases hC2:eV b (b.length-t.length)
     ·refine aa (ac E E (ac E E ?_))
      obtain⟨v44,p44,b44⟩:=gG (hv.ext (eM.trans eL)) (lo:=k) (by omega) .i64
      refine cx E E E E E (p44 _) (am qk E E ((ql b44 (by rw[List.length_drop];omega))) ?_)
      rintro v45 w45 ⟨x45,g,lg,rfl,hr45⟩
      refine ae rfl rfl (ag (ab (af (aa (ac rfl rfl (am pi rfl rfl ((uW hr45 (fun l e=>by cases e;rw[List.length_drop];omega) hB)) ?_))))))
      rintro v48 w48 ⟨g48,vp,rfl,bp,hr48⟩
      have x48:=aK.of_new x45 g48 lg
      refine ac E E (ao E E (bj) (ao E E (bk) (ae E E (ae E E (ag (ab (af (aa (ac E E (aO E E (cT (hv.ext ((eM.trans eL).trans x48))) ?_))))))))))
      refine ac E E (am rM E E ((AS hr48)) ?_)
      rintro v54 _ ⟨rfl,rfl⟩
      refine al (r:=I ((b.length-t.length:Nat):Int)) E E E ((by have e:((b.length-t.length:Nat):Int)=(b.length:Int)-(t.length:Int):=(by omega);rw[e];exact bD (a:=(b.length:Int)) (b:=(t.length:Int)) (by omega) (by omega))) ?_
      refine ae E E (ag (ab (af (af (aa (ac E E (al E E E (cY (by decide) cX) (ac E E (ai E (ac E E (ai E (ac E E ?_))))))))))))
      refine ai E (am qA E E ((by have h:=qC (k:=b.length-t.length) (hv.ext ((eM.trans eL).trans x48)) (by omega);rw[hC2] at h;exact h)) ?_)
      rintro v61 w61 ⟨x61,rfl⟩
      refine ai E (bt E E bu (aD E E E (ag (ab (bg E (af ?_))))))
      have hfin:=DZ hJ (by first|exact xZ hB|exact pG hB hC2)
      refine aa ?_
      refine ak E E ((kM.ext (((eL.trans x48).trans x61))).ld MK E s32) ?_
      refine ac E E (ac E E ?_)
      obtain⟨wR,sR,qR,kR⟩:=(k2M.ext (((eL.trans x48).trans x61))).stS (P:=Tryz.prog) (t:=24) (m:=((b.take 36).drop 4).map U8) (by rw[List.length_map,List.length_map,l73];rfl) s32 (ep _)
      refine au E E sR ?_
      have xR:=aK.of_new ((((eM.trans eL).trans x48).trans x61)) qR l2
      have oR:=(oL.mv (Mv.of_ext (X:=fun k=>k=g2) (x48.trans x61)) fun j hj=>by have:j=g2:=hj;omega).mv (Mv.of_grown (X:=fun k=>k=g2) qR fun k hk _=>(Option.some.inj hk).symm) fun j hj=>by have:j=g2:=hj;omega
      refine ae E E (ae E E (ae E E (ag (ab (aw (ay (aZ (ay (aZ ?_)))))))))
      refine fm E E E E E kR MK E s32 ?_
      exact⟨_,rfl,xR,jG.ok hOK hfin ((oR.rpx cw (by omega)).weak fun j hj=>.inl (by show j<wM.heap.size;have:=eM.size;omega))⟩
     ·refine aa (ac E E (ac E E ?_))
      obtain⟨v44,p44,b44⟩:=gG (hv.ext (eM.trans eL)) (lo:=k) (by omega) .i64
      refine cx E E E E E (p44 _) (am qk E E ((ql b44 (by rw[List.length_drop];omega))) ?_)
      rintro v45 w45 ⟨x45,g,lg,rfl,hr45⟩
      refine ae rfl rfl (ag (ab (af (aa (ac rfl rfl (am pi rfl rfl ((uW hr45 (fun l e=>by cases e;rw[List.length_drop];omega) hB)) ?_))))))
      rintro v48 w48 ⟨g48,vp,rfl,bp,hr48⟩
      have x48:=aK.of_new x45 g48 lg
      refine ac E E (ao E E (bj) (ao E E (bk) (ae E E (ae E E (ag (ab (af (aa (ac E E (aO E E (cT (hv.ext ((eM.trans eL).trans x48))) ?_))))))))))
      refine ac E E (am rM E E ((AS hr48)) ?_)
      rintro v54 _ ⟨rfl,rfl⟩
      refine al (r:=I ((b.length-t.length:Nat):Int)) E E E ((by have e:((b.length-t.length:Nat):Int)=(b.length:Int)-(t.length:Int):=(by omega);rw[e];exact bD (a:=(b.length:Int)) (b:=(t.length:Int)) (by omega) (by omega))) ?_
      refine ae E E (ag (ab (af (af (aa (ac E E (al E E E (cY (by decide) cX) (ac E E (ai E (ac E E (ai E (ac E E ?_))))))))))))
      refine ai E (am qA E E ((by have h:=qC (k:=b.length-t.length) (hv.ext ((eM.trans eL).trans x48)) (by omega);rw[hC2] at h;exact h)) ?_)
      rintro v61 w61 ⟨x61,rfl⟩
      refine ai E (bt E E bu (aD E E E (ag (ab (cr E (aC (ab (af (aa (ac E E (am Cs E E ((Cv (bp.ext x61) (by omega))) ?_)))))))))))
      rintro v69 w69 ⟨x69,u,cs,ok,rfl,rp69,h1cs,hok1,hok2⟩
      refine ac E E (ao E E (bj) (ao E E (bk) ?_))
      obtain⟨g14,w14,hr14,l14,x14,k14⟩:=aX (P:=Tryz.prog) (w:=w69) (t:=54) (z:=.agg #[.slice none 0 0,.slice none 0 0,I 0,I 0,B false,.slice none 0 0,.slice none 0 0,.slice none 0 0,B false,.slice none 0 0]) (l:=[.slice none 0 0,.slice none 0 0,I 0,I 0,B false,.slice none 0 0,.slice none 0 0,.slice none 0 0,B false,.slice none 0 0]) (by kernel_rfl) rfl
      refine aT E hr14 ?_
      have hcs:cs.length=10:=rp69.len.trans (cw u)
      obtain⟨wE,sE,qE,kE⟩:=k14.stS (P:=Tryz.prog) (t:=54) (m:=cs) (by rw[hcs];rfl) (by rw[hcs];kernel_rfl) h1cs
      refine au E E sE ?_
      have xE:=aK.of_new x14 qE l14
      refine ae E E (ag (ab (af (af (aa (ac E E (bt E E bu (ag (ab ?_)))))))))
      refine fY E (fun h73=>?_) (fun h73=>?_)
      ·have hno:ok=false:=by simpa using h73
       have hfin:=DZ hJ (Cw hB hC2 (hok2 hno))
       refine af (aa ?_)
       refine ak E E ((kM.ext (((((eL.trans x48).trans x61).trans x69).trans xE))).ld MK E s32) ?_
       refine ac E E (ac E E ?_)
       obtain⟨wR,sR,qR,kR⟩:=(k2M.ext (((((eL.trans x48).trans x61).trans x69).trans xE))).stS (P:=Tryz.prog) (t:=24) (m:=((b.take 36).drop 4).map U8) (by rw[List.length_map,List.length_map,l73];rfl) s32 (ep _)
       refine au E E sR ?_
       have xR:=aK.of_new ((((((eM.trans eL).trans x48).trans x61).trans x69).trans xE)) qR l2
       have oR:=(oL.mv (Mv.of_ext (X:=fun k=>k=g2) (((x48.trans x61).trans x69).trans xE)) fun j hj=>by have:j=g2:=hj;omega).mv (Mv.of_grown (X:=fun k=>k=g2) qR fun k hk _=>(Option.some.inj hk).symm) fun j hj=>by have:j=g2:=hj;omega
       refine ae E E (ae E E (ae E E (ag (ab (aw (ay (aZ (ay (aZ ?_)))))))))
       refine fm E E E E E kR MK E s32 ?_
       exact⟨_,rfl,xR,jG.ok hOK hfin ((oR.rpx cw (by omega)).weak fun j hj=>.inl (by show j<wM.heap.size;have:=eM.size;omega))⟩
      ·have hyes:ok=true:=by simpa using h73
       have hst:=Fe hB hC2 (hok1 hyes)
       obtain⟨_,_,_,_,_,hk',hk9,hkb⟩:=qx hst
       have eLE:=(((x48.trans x61).trans x69).trans xE)
       have own:∀j,ve.ownBlock=some j→wM.heap.size≤j∧j<wL.heap.size:=oL.lt
       have oE:=oL.mv (Mv.of_ext (X:=fun _=>False) eLE) fun _ h=>h.elim
       have s61:=((((x48.trans x61).trans x69).trans xE)).size
       obtain⟨x79,w79,v80,w80,hr79,hr80,o80,m80,n80⟩:=oE.push (ty:=25) (t:=25) ML xY rfl (by omega) (by omega) (by omega) h1cs ((rp69.mv (Mv.of_ext xE) fun _ h=>.inl h).weak fun j hj=>.inl (by
        have h61:=x61.size
        have h48:=(aK.of_new x45 g48 lg).size
        show j<w61.heap.size
        rcases hj with hj|hj
        ·omega
        ·have:=(own j hj).2;omega)) cw (by omega) (Nat.le_trans sL eLE.size)
       have eME:aK wM wE:=eL.trans eLE
       have x80:aK wM w80:=Mv.ext_from m80 eME fun j hj=>(own j hj).1
       refine aC (ab (aa (ac E E ?_)))
       refine ak E E (kE.ld Mz E (by rw[hcs];kernel_rfl)) ?_
       refine aJ (vs:=[(0,.agg cs.toArray)]) E E hr79 ?_
       refine ba E E hr80 ?_
       refine ac E E (al (r:=I ((b.length-t.length+8:Nat):Int)) E E E (by have e:((b.length-t.length+8:Nat):Int)=((b.length-t.length:Nat):Int)+8:=(by omega);rw[e];exact aN (by omega) (by omega)) ?_)
       refine ae E E (ae E E (ag (aS ?_)))
       refine iz (b.length-t.length+8) (v80) (es++[u]) ⟨rfl,rfl,rfl,rfl,rfl,trivial⟩ ⟨x80,o80,by omega,by omega,by rw[hJ,sj hst];simp,by simp;omega⟩ (by omega)
     ·refine aa (ac E E (ac E E ?_))
      obtain⟨v44,p44,b44⟩:=gG (hv.ext (eM.trans eL)) (lo:=k) (by omega) .i64
      refine cx E E E E E (p44 _) (am qk E E ((ql b44 (by rw[List.length_drop];omega))) ?_)
      rintro v45 w45 ⟨x45,g,lg,rfl,hr45⟩
      refine ae rfl rfl (ag (ab (af (aa (ac rfl rfl (am pi rfl rfl ((BR hr45 (fun l e=>by cases e;rw[List.length_drop];omega) hB)) ?_))))))
      rintro v48 w48 ⟨g48,rfl,hr48⟩
      have x48:=aK.of_new x45 g48 lg
      refine ac E E (ao E E (bj) (ao E E (bk) (ae E E (ae E E (ag (ab (af (aa (ac E E (aO E E (cT (hv.ext ((eM.trans eL).trans x48))) ?_))))))))))
      refine ac E E (am rM E E ((AS hr48)) ?_)
      rintro v54 _ ⟨rfl,rfl⟩
      refine al (r:=I ((b.length:Int)-((0:Nat):Int))) E E E ((bD (a:=(b.length:Int)) (b:=((0:Nat):Int)) (by omega) (by omega))) (ae E E ?_)
      refine ag (ab (af (af (aa (ac E E (al E E E (ci (by decide) cX) (ac E E (an E E E (an E E E (an E E E (an E E E ?_)))))))))))
      refine ap E E E (ag (ab (bg E (af ?_))))
      have hfin:=DZ hJ (by first|exact xZ hB|exact pG hB hC2)
      refine aa ?_
      refine ak E E ((kM.ext ((eL.trans x48))).ld MK E s32) ?_
      refine ac E E (ac E E ?_)
      obtain⟨wR,sR,qR,kR⟩:=(k2M.ext ((eL.trans x48))).stS (P:=Tryz.prog) (t:=24) (m:=((b.take 36).drop 4).map U8) (by rw[List.length_map,List.length_map,l73];rfl) s32 (ep _)
      refine au E E sR ?_
      have xR:=aK.of_new (((eM.trans eL).trans x48)) qR l2
      have oR:=(oL.mv (Mv.of_ext (X:=fun k=>k=g2) x48) fun j hj=>by have:j=g2:=hj;omega).mv (Mv.of_grown (X:=fun k=>k=g2) qR fun k hk _=>(Option.some.inj hk).symm) fun j hj=>by have:j=g2:=hj;omega
      refine ae E E (ae E E (ae E E (ag (ab (aw (ay (aZ (ay (aZ ?_)))))))))
      refine fm E E E E E kR MK E s32 ?_
      exact⟨_,rfl,xR,jG.ok hOK hfin ((oR.rpx cw (by omega)).weak fun j hj=>.inl (by show j<wM.heap.size;have:=eM.size;omega))⟩
end Go.Rl
namespace Go.Rl
open Go.RowKit Go.Proofs
theorem lK:aG Tryz.prog 126:=⟨_,Tryz.func126,by kernel_rfl,rfl⟩
theorem lL:aG Tryz.prog 127:=⟨_,Tryz.func127,by kernel_rfl,rfl⟩
theorem vJ:aG Tryz.prog 128:=⟨_,Tryz.func128,by kernel_rfl,rfl⟩
structure j4 (h g:Nat) (st:Option (List UInt8)) (ok:Bool) (w:World):Prop where
 blk:ct h 163 [.pointer (some ⟨g,0,none⟩),B ok] w
 rd:cV g st w
 lt:g<h
theorem oc:(Tryz.prog.info? 4).map (·.size)=some 1:=by kernel_rfl
theorem j4.flag {h g:Nat} {st s1:Option (List UInt8)} {ok:Bool} {w w1:World} (hm:j4 h g st ok w) (hg:w.grownBy w1 (some g)) (hr:cV g s1 w1) (b:Bool):
 ∃w2,(Instr.storeAt 4 (.pointer (some ⟨h,1,none⟩)) (B b)).run Tryz.prog w1=.ok () w2∧Mv (lY h g) w w2∧j4 h g s1 b w2∧w1.grownBy w2 (some h):=by
 obtain⟨w2,h1,h2,h3,h4,h5⟩:=eA.put (P:=Tryz.prog) (t:=4) (v:=B b) hm.blk hg hr hm.lt (i:=1) oc rfl (by simp)
 exact⟨w2,h1,h2.weak (fun k hk _=>hk.elim .inr .inl),⟨h3,h4,hm.lt⟩,h5⟩
theorem j4.mv {h g:Nat} {st:Option (List UInt8)} {ok:Bool} {X:Nat→Prop} {w w':World} (hm:j4 h g st ok w) (m:Mv X w w') (hX:∀k,X k→h<k):j4 h g st ok w':=
 ⟨m.blk hm.blk (fun hx=>by have:=hX h hx;omega),eA.mv hm.rd m fun k hk=>by have:=hX k hk;have:=hm.lt;omega,hm.lt⟩
theorem j4.ext {h g:Nat} {st:Option (List UInt8)} {ok:Bool} {w w':World} (hm:j4 h g st ok w) (e:aK w w'):j4 h g st ok w':=hm.mv (Mv.of_ext (X:=fun _=>False) e) fun _ h=>h.elim
theorem j4.set {h g:Nat} {st:Option (List UInt8)} {ok:Bool} {w:World} (hm:j4 h g st ok w) (b:Bool):
 ∃w2,(Instr.storeAt 4 (.pointer (some ⟨h,1,none⟩)) (B b)).run Tryz.prog w=.ok () w2∧Mv (fun k=>k=h) w w2∧j4 h g st b w2:=by
 obtain⟨w2,h1,h2,h3⟩:=hm.blk.stC (P:=Tryz.prog) (t:=4) (i:=1) (v:=B b) oc rfl (by simp)
 have m:Mv (fun k=>k=h) w w2:=Mv.of_grown h2 fun k hk _=>(Option.some.inj hk).symm
 exact⟨w2,h1,m,h3,eA.mv hm.rd m fun k hk=>by have:=hm.lt;have:k=h:=hk;omega,hm.lt⟩
theorem j4.step {h g:Nat} {st s1:Option (List UInt8)} {ok:Bool} {w w1:World} (hm:j4 h g st ok w) (hg:w.grownBy w1 (some g)) (hr:cV g s1 w1):j4 h g s1 ok w1:=
 ⟨hm.blk.other hg (fun e=>by have:=Option.some.inj e;have:=hm.lt;omega),hr,hm.lt⟩
theorem leN {n m:Nat} (hn:n<18446744073709551616) (hm:m<18446744073709551616):UInt64.ofNat n≤UInt64.ofNat m↔n≤m:=by
 rw[UInt64.le_iff_toNat_le,UInt64.toNat_ofNat',UInt64.toNat_ofNat']
 omega
theorem JS {w:World} {h g n0 most:Nat} {st s1:Option (List UInt8)} {ok:Bool} (hm:j4 h g st ok w) (hn:n0<18446744073709551616) (hmo:most<18446744073709551616)
 (c:Calls Tryz.prog 89 #[.pointer (some ⟨g,0,none⟩)] w (bE fun r w'=>w.grownBy w' (some g)∧r=.tuple #[bF (UInt64.ofNat n0),I (if s1.isSome=true then 0 else 5)]∧cV g s1 w')):
 Calls Tryz.prog 126 #[.pointer (some ⟨h,0,none⟩),bF (UInt64.ofNat most)] w (bE fun r w'=>Mv (lY h g) w w'∧r=bF (UInt64.ofNat (if (ok&&s1.isSome&&decide (n0≤most))=true then n0 else 0))∧j4 h g s1 (ok&&s1.isSome&&decide (n0≤most)) w'):=by
 refine enter (vs:=[.pointer (some ⟨h,0,none⟩),bF (UInt64.ofNat most)]) Tryz.func126 E E E ?_
 have kb:=hm.blk
 refine af (aa (ae E E (ag (ab (af ?_)))))
 rcases ok with _|_
 rotate_left
 rcases s1 with _|l1
 rotate_left
 rcases Nat.lt_or_ge most n0 with hlt|hle
 ·refine aa (ac E E (ax E E (ah E E (ar (o:=0) MJ E (by kernel_rfl) E) (ak E E (aj MU E (kb.cell (i:=0) E)) ?_))))
  refine am gW E E (c) ?_
  rintro v12 w12 ⟨g12,rfl,rs⟩
  have m12:=(hm.rd.rdT).kp g12
  have kb1:=kb.other g12 (fun e=>by have:=Option.some.inj e;have:=hm.lt;omega)
  obtain⟨w2,s2,m2,h2,_⟩:=hm.flag g12 rs false
  refine ac E E (ao E E (bj) (ao E E (bk) (ae E E (ae E E (ag (ab (af (aa (ac E E (ac E E (ax E E ?_)))))))))))
  refine ah E E (ar (o:=1) MJ E (by kernel_rfl) E) (ak E E (aj MD E (kb1.cell (i:=1) E)) ?_)
  refine ac E E (ai E (ac E E (ai E (al E E E (ci E bi) (ap E E E (ac E E (ai E (ac E E (ai E (ac E E ?_))))))))))
  refine ai E (al E E E (cY (mt (leN hn hmo).1 (by omega)) p9) (ap E E E (ax E E (ah E E (ar (o:=1) MJ E (by kernel_rfl) E) ?_))))
  refine au E E s2 ?_
  refine ag (ab (af (af (aa (ac E E (ax E E (ah E E (ar (o:=1) MJ E (by kernel_rfl) E) ?_)))))))
  refine ak E E (aj MD E (h2.blk.cell (i:=1) E)) (bt E E bu (ag (ab (bg E (af (aa (ae E E (ag ?_))))))))
  refine ab (aw (ay (az E E ?_)))
  exact⟨_,rfl,m2,by simp[show ¬n0≤most by omega];rfl,by simpa [show ¬n0≤most by omega] using h2⟩
 ·refine aa (ac E E (ax E E (ah E E (ar (o:=0) MJ E (by kernel_rfl) E) (ak E E (aj MU E (kb.cell (i:=0) E)) ?_))))
  refine am gW E E (c) ?_
  rintro v12 w12 ⟨g12,rfl,rs⟩
  have m12:=(hm.rd.rdT).kp g12
  have kb1:=kb.other g12 (fun e=>by have:=Option.some.inj e;have:=hm.lt;omega)
  obtain⟨w2,s2,m2,h2,_⟩:=hm.flag g12 rs true
  refine ac E E (ao E E (bj) (ao E E (bk) (ae E E (ae E E (ag (ab (af (aa (ac E E (ac E E (ax E E ?_)))))))))))
  refine ah E E (ar (o:=1) MJ E (by kernel_rfl) E) (ak E E (aj MD E (kb1.cell (i:=1) E)) ?_)
  refine ac E E (ai E (ac E E (ai E (al E E E (ci E bi) (ap E E E (ac E E (ai E (ac E E (ai E (ac E E ?_))))))))))
  refine ai E (al E E E (ci ((leN hn hmo).2 hle) p9) (ap E E E (ax E E (ah E E (ar (o:=1) MJ E (by kernel_rfl) E) ?_))))
  refine au E E s2 ?_
  refine ag (ab (af (af (aa (ac E E (ax E E (ah E E (ar (o:=1) MJ E (by kernel_rfl) E) ?_)))))))
  refine ak E E (aj MD E (h2.blk.cell (i:=1) E)) (bt E E bu (ag (ab (cr E (aC (ab (af (aa (ac E E ?_)))))))))
  refine ae E E (ag (ab (aw (az E E ?_))))
  exact⟨_,rfl,m2,by simp[hle],by simpa [hle] using h2⟩
 ·refine aa (ac E E (ax E E (ah E E (ar (o:=0) MJ E (by kernel_rfl) E) (ak E E (aj MU E (kb.cell (i:=0) E)) ?_))))
  refine am gW E E (c) ?_
  rintro v12 w12 ⟨g12,rfl,rs⟩
  have m12:=(hm.rd.rdT).kp g12
  have kb1:=kb.other g12 (fun e=>by have:=Option.some.inj e;have:=hm.lt;omega)
  obtain⟨w2,s2,m2,h2,_⟩:=hm.flag g12 rs false
  refine ac E E (ao E E (bj) (ao E E (bk) (ae E E (ae E E (ag (ab (af (aa (ac E E (ac E E (ax E E ?_)))))))))))
  refine ah E E (ar (o:=1) MJ E (by kernel_rfl) E) (ak E E (aj MD E (kb1.cell (i:=1) E)) ?_)
  refine ac E E (an E E E (an E E E (aD E E E (ac E E (an E E E (an E E E (an E E E (aD E E E (ax E E ?_)))))))))
  refine ah E E (ar (o:=1) MJ E (by kernel_rfl) E) ?_
  refine au E E s2 ?_
  refine ag (ab (af (af (aa (ac E E (ax E E (ah E E (ar (o:=1) MJ E (by kernel_rfl) E) ?_)))))))
  refine ak E E (aj MD E (h2.blk.cell (i:=1) E)) (bt E E bu (ag (ab (bg E (af (aa (ae E E (ag ?_))))))))
  refine ab (aw (ay (az E E ?_)))
  exact⟨_,rfl,m2,rfl,h2⟩
 ·refine aa (ac E E (ax E E (ah E E (ar (o:=0) MJ E (by kernel_rfl) E) (ak E E (aj MU E (kb.cell (i:=0) E)) ?_))))
  refine am gW E E (c) ?_
  rintro v12 w12 ⟨g12,rfl,rs⟩
  have m12:=(hm.rd.rdT).kp g12
  have kb1:=kb.other g12 (fun e=>by have:=Option.some.inj e;have:=hm.lt;omega)
  obtain⟨w2,s2,m2,h2,_⟩:=hm.flag g12 rs false
  refine ac E E (ao E E (bj) (ao E E (bk) (ae E E (ae E E (ag (ab (af (aa (ac E E (ac E E (ax E E ?_)))))))))))
  refine ah E E (ar (o:=1) MJ E (by kernel_rfl) E) (ak E E (aj MD E (kb1.cell (i:=1) E)) ?_)
  refine ac E E (ai E (ac E E (ai E (al E E E (cY (by decide) bi) (ap E E E (ac E E (an E E E (an E E E ?_))))))))
  refine an E E E (aD E E E (ax E E (ah E E (ar (o:=1) MJ E (by kernel_rfl) E) ?_)))
  refine au E E s2 ?_
  refine ag (ab (af (af (aa (ac E E (ax E E (ah E E (ar (o:=1) MJ E (by kernel_rfl) E) ?_)))))))
  refine ak E E (aj MD E (h2.blk.cell (i:=1) E)) (bt E E bu (ag (ab (bg E (af (aa (ae E E (ag ?_))))))))
  refine ab (aw (ay (az E E ?_)))
  exact⟨_,rfl,m2,rfl,h2⟩
theorem pH (st:Option (List UInt8)) (ok:Bool) {most:Nat} (hmo:most<18446744073709551616):∃n s1 ok1,JR (ki most) st ok n s1 ok1∧n≤most∧(∀k,uc k st→uc k s1)∧∀{w:World} {h g:Nat},j4 h g st ok w→
 Calls Tryz.prog 126 #[.pointer (some ⟨h,0,none⟩),bF (UInt64.ofNat most)] w (bE fun r w'=>Mv (lY h g) w w'∧r=bF (UInt64.ofNat n)∧j4 h g s1 ok1 w'):=by
 obtain⟨n0,s1,q,hn,c⟩:=Lg st
 refine⟨_,s1,_,?_,?_,fun k hk=>q.atM lS.le hk,fun hm=>JS hm hn hmo (c hm.rd)⟩
 ·have q':st.bind eW=s1.map fun t=>(n0,t):=q
  have e:st.bind (ki most)=(st.bind eW).bind fun p=>if p.1≤most then some p else none:=by cases st<;>rfl
  cases s1 with
  |none=>exact⟨by rw[e,q'];cases ok<;>rfl,fun h=>by simp at h⟩
  |some l1=>
   by_cases hle:n0≤most
   ·refine⟨?_,fun h=>?_⟩
    ·rw[e,q'];simp[hle]
    ·rw[e,q',if_pos h];simp[hle]
   ·refine⟨?_,fun h=>?_⟩
    ·rw[e,q'];simp[hle]
    ·simp[hle] at h
 ·split
  ·rename_i h
   simp only[Bool.and_eq_true,decide_eq_true_eq] at h
   exact h.2
  ·exact Nat.zero_le _
theorem JU {w:World} {h g:Nat} {n:Int} {st s1:Option (List UInt8)} {ok:Bool} (hm:j4 h g st ok w)
 (c:Calls Tryz.prog 158 #[.pointer (some ⟨g,0,none⟩)] w (bE fun r w'=>w.grownBy w' (some g)∧r=.tuple #[I n,I (if s1.isSome=true then 0 else 5)]∧cV g s1 w')):
 Calls Tryz.prog 127 #[.pointer (some ⟨h,0,none⟩)] w (bE fun r w'=>Mv (lY h g) w w'∧r=I n∧j4 h g s1 (ok&&s1.isSome) w'):=by
 refine enter (vs:=[.pointer (some ⟨h,0,none⟩)]) Tryz.func127 E E E ?_
 have kb:=hm.blk
 refine af (aa (ae E E (ag (ab (af ?_)))))
 rcases ok with _|_
 rotate_left
 ·refine aa (ac E E (ax E E (ah E E (ar (o:=0) MJ E (by kernel_rfl) E) (ak E E (aj MU E (kb.cell (i:=0) E)) ?_))))
  refine am yN E E (c) ?_
  rintro v10 w10 ⟨g10,rfl,rs⟩
  have m10:=(hm.rd.rdT).kp g10
  have kb1:=kb.other g10 (fun e=>by have:=Option.some.inj e;have:=hm.lt;omega)
  obtain⟨w2,s2,m2,h2,_⟩:=hm.flag g10 rs s1.isSome
  refine ac E E (ao E E (bj) (ao E E (bk) (ae E E (ae E E (ag (ab (af (aa (ac E E (ac E E (ax E E ?_)))))))))))
  refine ah E E (ar (o:=1) MJ E (by kernel_rfl) E) (ak E E (aj MD E (kb1.cell (i:=1) E)) ?_)
  refine ac E E (ai E (ac E E (ai E (al (r:=B s1.isSome) E E E (Ao) (ap E E E (ax E E (ah E E (ar (o:=1) MJ E (by kernel_rfl) E) ?_)))))))
  refine au E E s2 ?_
  refine ag (ab (af (aa (ac E E (ae E E (ag (ab (aw (az E E ?_)))))))))
  exact⟨_,rfl,m2,rfl,by simpa using h2⟩
 ·refine aa (ac E E (ax E E (ah E E (ar (o:=0) MJ E (by kernel_rfl) E) (ak E E (aj MU E (kb.cell (i:=0) E)) ?_))))
  refine am yN E E (c) ?_
  rintro v10 w10 ⟨g10,rfl,rs⟩
  have m10:=(hm.rd.rdT).kp g10
  have kb1:=kb.other g10 (fun e=>by have:=Option.some.inj e;have:=hm.lt;omega)
  obtain⟨w2,s2,m2,h2,_⟩:=hm.flag g10 rs false
  refine ac E E (ao E E (bj) (ao E E (bk) (ae E E (ae E E (ag (ab (af (aa (ac E E (ac E E (ax E E ?_)))))))))))
  refine ah E E (ar (o:=1) MJ E (by kernel_rfl) E) (ak E E (aj MD E (kb1.cell (i:=1) E)) ?_)
  refine ac E E (an E E E (an E E E (aD E E E (ax E E (ah E E (ar (o:=1) MJ E (by kernel_rfl) E) ?_)))))
  refine au E E s2 ?_
  refine ag (ab (af (aa (ac E E (ae E E (ag (ab (aw (az E E ?_)))))))))
  exact⟨_,rfl,m2,rfl,h2⟩
theorem pI (st:Option (List UInt8)) (ok:Bool):∃n s1 ok1,JR jK st ok n s1 ok1∧lR n∧(∀k,uc k st→uc k s1)∧∀{w:World} {h g:Nat},j4 h g st ok w→
 Calls Tryz.prog 127 #[.pointer (some ⟨h,0,none⟩)] w (bE fun r w'=>Mv (lY h g) w w'∧r=I n∧j4 h g s1 ok1 w'):=by
 obtain⟨n,s1,q,hn,c⟩:=Lh st
 exact⟨n,s1,_,JR.of_rdE q,hn,fun k hk=>q.atM eZ.le hk,fun hm=>JU hm (c hm.rd)⟩
theorem JV {w:World} {h g:Nat} {q:ft} {st s1:Option (List UInt8)} {ok:Bool} (hm:j4 h g st ok w)
 (c:∀{w:World},cV g st w→Calls Tryz.prog 159 #[.pointer (some ⟨g,0,none⟩)] w (bE fun r w'=>w.grownBy w' (some g)∧Mb w.heap.size q (if s1.isSome=true then 0 else 5) r w'∧cV g s1 w')):
 Calls Tryz.prog 128 #[.pointer (some ⟨h,0,none⟩)] w (bE fun r w'=>Mv (lY h g) w w'∧xn w.heap.size q r w'∧j4 h g s1 (ok&&s1.isSome) w'):=by
 refine enter (vs:=[.pointer (some ⟨h,0,none⟩)]) Tryz.func128 E E E ?_
 have hlt:=hm.blk.lt
 refine af ?_
 rcases ok with _|_
 rotate_left
 ·refine aa ?_
  obtain⟨g2,w2,hr2,l2,x2,k2⟩:=aX (P:=Tryz.prog) (w:=w) (t:=46) (z:=.agg #[B false,.slice none 0 0,.slice none 0 0]) (l:=[B false,.slice none 0 0,.slice none 0 0]) (by kernel_rfl) rfl
  refine aT E hr2 ?_
  have hm2:=hm.ext x2
  refine ag (ab (af (aa (ac E E (ax E E (ah E E (ar (o:=0) MJ E (by kernel_rfl) E) ?_))))))
  refine ak E E (aj MU E (x2.cell_some (hm.blk.cell (i:=0) E))) (am yM E E ((c hm2.rd)) ?_)
  rintro v10 w10 ⟨g10,⟨x,y,rfl,rq⟩,rs⟩
  have m10:=(hm2.rd.rdT).kp g10
  have hm10:=hm2.step g10 rs
  obtain⟨x',y',eq',hx,hy⟩:=mV rq.rp
  cases eq'
  have k210:=k2.other g10 (fun e=>by have:=Option.some.inj e;have:=hm.lt;have:=k2.lt;omega)
  refine ac E E (ao E E (bj) (ao E E (bk) ?_))
  obtain⟨g3,w3,hr3,l3,x3,k3⟩:=aX (P:=Tryz.prog) (w:=w10) (t:=46) (z:=.agg #[B false,.slice none 0 0,.slice none 0 0]) (l:=[B false,.slice none 0 0,.slice none 0 0]) (by kernel_rfl) rfl
  refine aT E hr3 ?_
  obtain⟨w1_9,s1_9,q1_9,k1_9⟩:=k3.stS (P:=Tryz.prog) (t:=46) (m:=[B q.1,x,y]) rfl (by kernel_rfl) (av.cons rfl (av.cons hx.one (av.cons hy.one av.nil)))
  refine au E E s1_9 ?_
  have x1_9:=aK.of_new (x3) q1_9 l3
  refine ae E E (ag (ab (af ?_)))
  have hm3:=hm10.ext x1_9
  obtain⟨w4,s4,m4,h4⟩:=hm3.set s1.isSome
  have hn3:g3≠h:=by have:=g10.size;have:=x2.size;omega
  have hn2:g2≠h:=by omega
  have k34:=m4.blk k1_9 (fun e=>hn3 e)
  have k24:=m4.blk (k210.ext x1_9) (fun e=>hn2 e)
  have o3:av [B q.1,x,y]:=av.cons rfl (av.cons hx.one (av.cons hy.one av.nil))
  obtain⟨w5,s5,q5,k5⟩:=k24.stS (P:=Tryz.prog) (t:=46) (m:=[B q.1,x,y]) rfl (by kernel_rfl) o3
  have m5:Mv (fun k=>k=g2) w4 w5:=Mv.of_grown q5 fun k hk _=>(Option.some.inj hk).symm
  refine aa (ac E E (ac E E (ax E E (ah E E (ar (o:=1) MJ E (by kernel_rfl) E) ?_))))
  refine ak E E (aj MD E (hm3.blk.cell (i:=1) E)) (ac E E (ai E (ac E E (ai E (al (r:=B s1.isSome) E E E (Ao) ?_)))))
  refine ap E E E (ax E E (ah E E (ar (o:=1) MJ E (by kernel_rfl) E) ?_))
  refine au E E s4 ?_
  refine ag (ab (af ?_))
  have mA:Mv (lY h g) w w1_9:=((Mv.of_ext x2).trans (Mv.of_grown g10 fun k hk _=>.inr (Option.some.inj hk).symm) fun _ hk _=>hk).trans (Mv.of_ext x1_9) fun _ hk _=>hk
  have mB:Mv (lY h g) w w5:=(mA.trans (m4.weak fun k hk _=>(.inl hk:lY h g k)) fun _ hk _=>hk).trans m5 fun k hk hlt=>by omega
  have sz2:=x2.size
  have szA:=mA.size
  have rA:=(rq.mv (Mv.of_ext x1_9) fun _ hk=>.inl hk).mv (m4.weak fun k hk _=>by show k<w2.heap.size;omega) fun _ hk=>.inl hk
  have g2lt:=k2.lt
  have rB:=(rA.mv (Y:=fun k=>k<w2.heap.size) (m5.weak fun k hk _=>by show k<w2.heap.size;omega) fun _ hk=>.inl hk).weak (Y:=fun k=>k<w.heap.size) fun k hk=>.inl (by show k<w2.heap.size;omega)
  refine aa ?_
  refine ak E E (k34.ld Mw E (by kernel_rfl)) ?_
  refine au E E s5 ?_
  refine ag (ab (aw ?_))
  refine dx E E k5 Mw E (by kernel_rfl) ?_
  exact⟨_,rfl,mB,⟨x,y,rfl,rB⟩,h4.mv m5 fun k hk=>by omega⟩
 ·refine aa ?_
  obtain⟨g2,w2,hr2,l2,x2,k2⟩:=aX (P:=Tryz.prog) (w:=w) (t:=46) (z:=.agg #[B false,.slice none 0 0,.slice none 0 0]) (l:=[B false,.slice none 0 0,.slice none 0 0]) (by kernel_rfl) rfl
  refine aT E hr2 ?_
  have hm2:=hm.ext x2
  refine ag (ab (af (aa (ac E E (ax E E (ah E E (ar (o:=0) MJ E (by kernel_rfl) E) ?_))))))
  refine ak E E (aj MU E (x2.cell_some (hm.blk.cell (i:=0) E))) (am yM E E ((c hm2.rd)) ?_)
  rintro v10 w10 ⟨g10,⟨x,y,rfl,rq⟩,rs⟩
  have m10:=(hm2.rd.rdT).kp g10
  have hm10:=hm2.step g10 rs
  obtain⟨x',y',eq',hx,hy⟩:=mV rq.rp
  cases eq'
  have k210:=k2.other g10 (fun e=>by have:=Option.some.inj e;have:=hm.lt;have:=k2.lt;omega)
  refine ac E E (ao E E (bj) (ao E E (bk) ?_))
  obtain⟨g3,w3,hr3,l3,x3,k3⟩:=aX (P:=Tryz.prog) (w:=w10) (t:=46) (z:=.agg #[B false,.slice none 0 0,.slice none 0 0]) (l:=[B false,.slice none 0 0,.slice none 0 0]) (by kernel_rfl) rfl
  refine aT E hr3 ?_
  obtain⟨w1_9,s1_9,q1_9,k1_9⟩:=k3.stS (P:=Tryz.prog) (t:=46) (m:=[B q.1,x,y]) rfl (by kernel_rfl) (av.cons rfl (av.cons hx.one (av.cons hy.one av.nil)))
  refine au E E s1_9 ?_
  have x1_9:=aK.of_new (x3) q1_9 l3
  refine ae E E (ag (ab (af ?_)))
  have hm3:=hm10.ext x1_9
  obtain⟨w4,s4,m4,h4⟩:=hm3.set false
  have hn3:g3≠h:=by have:=g10.size;have:=x2.size;omega
  have hn2:g2≠h:=by omega
  have k34:=m4.blk k1_9 (fun e=>hn3 e)
  have k24:=m4.blk (k210.ext x1_9) (fun e=>hn2 e)
  have o3:av [B q.1,x,y]:=av.cons rfl (av.cons hx.one (av.cons hy.one av.nil))
  obtain⟨w5,s5,q5,k5⟩:=k24.stS (P:=Tryz.prog) (t:=46) (m:=[B q.1,x,y]) rfl (by kernel_rfl) o3
  have m5:Mv (fun k=>k=g2) w4 w5:=Mv.of_grown q5 fun k hk _=>(Option.some.inj hk).symm
  refine aa (ac E E (ac E E (ax E E (ah E E (ar (o:=1) MJ E (by kernel_rfl) E) ?_))))
  refine ak E E (aj MD E (hm3.blk.cell (i:=1) E)) (ac E E (an E E E (an E E E (aD E E E (ax E E ?_)))))
  refine ah E E (ar (o:=1) MJ E (by kernel_rfl) E) ?_
  refine au E E s4 ?_
  refine ag (ab (af ?_))
  have mA:Mv (lY h g) w w1_9:=((Mv.of_ext x2).trans (Mv.of_grown g10 fun k hk _=>.inr (Option.some.inj hk).symm) fun _ hk _=>hk).trans (Mv.of_ext x1_9) fun _ hk _=>hk
  have mB:Mv (lY h g) w w5:=(mA.trans (m4.weak fun k hk _=>(.inl hk:lY h g k)) fun _ hk _=>hk).trans m5 fun k hk hlt=>by omega
  have sz2:=x2.size
  have szA:=mA.size
  have rA:=(rq.mv (Mv.of_ext x1_9) fun _ hk=>.inl hk).mv (m4.weak fun k hk _=>by show k<w2.heap.size;omega) fun _ hk=>.inl hk
  have g2lt:=k2.lt
  have rB:=(rA.mv (Y:=fun k=>k<w2.heap.size) (m5.weak fun k hk _=>by show k<w2.heap.size;omega) fun _ hk=>.inl hk).weak (Y:=fun k=>k<w.heap.size) fun k hk=>.inl (by show k<w2.heap.size;omega)
  refine aa ?_
  refine ak E E (k34.ld Mw E (by kernel_rfl)) ?_
  refine au E E s5 ?_
  refine ag (ab (aw ?_))
  refine dx E E k5 Mw E (by kernel_rfl) ?_
  exact⟨_,rfl,mB,⟨x,y,rfl,rB⟩,h4.mv m5 fun k hk=>by omega⟩
theorem AT (st:Option (List UInt8)) (ok:Bool) (hl:i0 st):∃q s1 ok1,JR jp st ok q s1 ok1∧(∀k,uc k st→uc k s1)∧∀{w:World} {h g:Nat},j4 h g st ok w→
 Calls Tryz.prog 128 #[.pointer (some ⟨h,0,none⟩)] w (bE fun r w'=>Mv (lY h g) w w'∧xn w.heap.size q r w'∧j4 h g s1 ok1 w'):=by
 obtain⟨q,s1,hq,c⟩:=Li st
 exact⟨q,s1,_,JR.of_rdE hq,fun k hk=>hq.atM ue.le hk,fun hm=>JV hm (c hl)⟩
end Go.Rl
namespace Go.Rl
open Go.RowKit Go.Proofs
theorem qH:aG Tryz.prog 129:=⟨_,Tryz.func129,by kernel_rfl,rfl⟩
structure FL {α:Type} (f:List UInt8→Option (α×List UInt8)) (ok:Bool) (X:Option (List α×List UInt8)) (so:Option (List UInt8)) (oko:Bool) (k:Nat) (ps:List α):Prop where
 t:oko=true→ok=true∧so.isSome=true∧X=so.bind fun l=>(bT f k l).map fun p=>(ps++p.1,p.2)
 f:oko=false→(ok&&X.isSome)=false
section
variable {α:Type} {f:List UInt8→Option (α×List UInt8)} {ok oko okE:Bool} {X:Option (List α×List UInt8)} {st so s0 sE:Option (List UInt8)} {k N most:Nat} {ps:List α} {m:α}
theorem FL.start (hU:JR (ki most) st ok N s0 oko):FL f ok (st.bind (oJ most f)) s0 oko N []:=by
 have e:st.bind (oJ most f)=(st.bind (ki most)).bind fun p=>bT f p.1 p.2:=by cases st<;>rfl
 refine⟨fun h=>?_,fun h=>?_⟩
 ·obtain⟨h1,h2⟩:=hU.ok_le h
  refine⟨h1,h2,?_⟩
  rw[e,hU.val h]
  cases s0 with
  |none=>rfl
  |some l=>show bT f N l=(bT f N l).map fun p=>([]++p.1,p.2);cases bT f N l<;>rfl
 ·have hi:=hU.iff
  rw[h] at hi
  rw[e]
  cases ok with
  |false=>rfl
  |true=>
   simp only[Bool.true_and] at hi⊢
   have:st.bind (ki most)=none:=Option.not_isSome_iff_eq_none.1 (by rw[←hi];simp)
   rw[this];rfl
theorem FL.step (h:FL f ok X so true (k+1) ps) (q:JR f so true m sE okE):FL f ok X sE okE k (ps++[m]):=by
 obtain⟨h1,h2,h3⟩:=h.t rfl
 refine⟨fun e=>⟨h1,(q.ok_le e).2,qp h3 (q.val e)⟩,fun e=>?_⟩
 have hi:=q.iff
 rw[e] at hi
 simp only[Bool.true_and] at hi
 have hn:so.bind f=none:=Option.not_isSome_iff_eq_none.1 (by rw[←hi];simp)
 have hX:X=none:=by
  rw[h3]
  cases so with
  |none=>rfl
  |some l=>
   have hl:f l=none:=hn
   show(bT f (k+1) l).map _=none
   have:bT f (k+1) l=none:=by simp only[bT,hl,Option.bind_none]
   rw[this];rfl
 rw[hX];cases ok<;>rfl
theorem FL.jr {g:List UInt8→Option (List α×List UInt8)} (h:FL f ok (st.bind g) so oko k ps) (hk:oko=true→k=0):JR g st ok ps so oko:=by
 cases oko with
 |false=>exact⟨(h.f rfl).symm,fun e=>by cases e⟩
 |true=>
  obtain⟨h1,h2,h3⟩:=h.t rfl
  obtain rfl:=hk rfl
  cases so with
  |none=>cases h2
  |some l=>
   have e:st.bind g=some (ps,l):=by rw[h3];simp[bT]
   exact⟨by rw[e,h1];rfl,fun _=>e⟩
end
theorem JW {so sA sB sC sD sE:Option (List UInt8)} {ok okA nE okC okD okE:Bool} {n1 n2 n3 n4:Int} {q:ft} (q1:JR jK so ok n1 sA okA) (q2:JR jK sA okA n2 sB nE) (q3:JR jK sB nE n3 sC okC) (q4:JR jK sC okC n4 sD okD) (q5:JR jp sD okD q sE okE):JR rR so ok ⟨n1,n2,n3,n4,q⟩ sE okE:=
 JR.bind (g:=fun a l=>(jK l).bind fun b=>(jK b.2).bind fun c=>(jK c.2).bind fun d=>(jp d.2).bind fun e=>some ((⟨a,b.1,c.1,d.1,e.1⟩:cg),e.2)) q1
  (JR.bind (g:=fun b l=>(jK l).bind fun c=>(jK c.2).bind fun d=>(jp d.2).bind fun e=>some ((⟨n1,b,c.1,d.1,e.1⟩:cg),e.2)) q2
    (JR.bind (g:=fun c l=>(jK l).bind fun d=>(jp d.2).bind fun e=>some ((⟨n1,n2,c,d.1,e.1⟩:cg),e.2)) q3
      (JR.bind (g:=fun d l=>(jp l).bind fun e=>some ((⟨n1,n2,n3,d,e.1⟩:cg),e.2)) q4 (q5.map fun e=>(⟨n1,n2,n3,n4,e⟩:cg)))))
theorem xn.stableX {b:Nat} {q:ft} {X:Nat→Prop} (hX:∀k,X k→k<b):cW (Mv X) (xn b q):=fun _ _ _ ⟨x,y,h,h2⟩ hm=>⟨x,y,h,h2.mv (hm.weak fun j hj _=>hX j hj) fun _ hk=>.inl hk⟩
theorem xn.up {b c:Nat} {q:ft} {v:Value} {w:World} (hc:b≤c) (h:xn c q v w):xn b q v w:=by
 obtain⟨x,y,h1,h2⟩:=h
 exact⟨x,y,h1,h2.weak fun j hj=>.inl (by show j<c;omega)⟩
theorem xo.stableX {α:Type} {b sz:Nat} {f:α→Dt} {l:List α} {X:Nat→Prop} (hX:∀k,X k→k<b):cW (Mv X) (xo b sz f l):=fun _ _ _ ⟨cs,h1,h2,h3,h4⟩ hm=>
 ⟨cs,h1.mv hm fun k hk hx=>by have:=h2 k hk;have:=hX k hx;omega,h2,h3,aR.mv (hm.weak fun j hj _=>hX j hj) (fun _ hk=>.inl hk) h4⟩
theorem j4.stableZ {h g:Nat} {st:Option (List UInt8)} {ok:Bool}:ek (j4 h g st ok):=fun _ _ hm hx=>hm.ext hx
theorem iF {k:Nat} (hk:k<18446744073709551616):(0:UInt64)<UInt64.ofNat k↔0<k:=by
 rw[UInt64.lt_iff_toNat_lt,UInt64.toNat_ofNat',show(0:UInt64).toNat=0 from rfl]
 omega
theorem vK {k:Nat} (hk:k+1<18446744073709551616):UInt64.ofNat (k+1)-1=UInt64.ofNat k:=by
 have hkn:(UInt64.ofNat (k+1)).toNat=k+1:=by rw[UInt64.toNat_ofNat'];omega
 refine UInt64.toNat_inj.1 ?_
 rw[UInt64.toNat_sub_of_le _ _ (UInt64.le_iff_toNat_le.2 (by rw[hkn];show 1≤_;omega)),hkn,UInt64.toNat_ofNat',show(1:UInt64).toNat=1 from rfl]
 omega
theorem qI {w:World} {h g:Nat} {st:Option (List UInt8)} {ok:Bool} (hm:j4 h g st ok w) (hl:i0 st):
 Calls Tryz.prog 129 #[.pointer (some ⟨h,0,none⟩)] w (bE fun r w'=>Mv (lY h g) w w'∧∃ps s1 ok1,cN (fun k=>k<w.heap.size) w' (il ps) [r]∧r.oneCell'=true∧j4 h g s1 ok1 w'∧JR gP st ok ps s1 ok1∧∀k,uc k st→uc k s1):=by
 refine enter (vs:=[.pointer (some ⟨h,0,none⟩)]) Tryz.func129 E E E ?_
 have hlt:=hm.blk.lt
 have hgh:=hm.lt
 have hX:∀k,lY h g k→k<w.heap.size:=fun k hk=>by rcases hk with rfl|rfl<;>omega
 obtain⟨N,s0,ok0,qU,hN,aU,cU⟩:=pH st ok (most:=1048576) (by omega)
 refine af (aa (ae E E (ag (ab (af (aa (ae E E (ag (ab (af (af (aa (ac E E (am lK E E ((cU hm)) ?_))))))))))))))
 rintro v7 w7 ⟨m7,rfl,hm7⟩
 have m7:=m7
 refine ae E E (ag (ab (aE ?_)))
 refine ta (fun(k:Nat) (v:Value) (so:Option (List UInt8)) (oko:Bool) (ps:List cg)=>[(0,.pointer (some ⟨h,0,none⟩)),(3,v),(4,bF (UInt64.ofNat k))]) (fun(k:Nat) (v:Value) (so:Option (List UInt8)) (oko:Bool) (ps:List cg) w'=>Mv (lY h g) w w'∧j4 h g so oko w'∧gq 187 7 w.heap.size bP ps v w'∧FL rR ok (st.bind gP) so oko k ps∧k+ps.length≤1048576∧∀j,uc j st→uc j so) (fun(k:Nat) (v:Value) (so:Option (List UInt8)) (oko:Bool) (ps:List cg)=>k) (N) (.slice none 0 0) (s0) (ok0) ([]) ⟨rfl,rfl,rfl,trivial⟩ ⟨m7,hm7,gq.nil _,FL.start qU,by simpa using hN,aU⟩ ?_
 rintro k v so oko ps wL ⟨mL,hmL,oL,hF,hk,aL⟩
 refine af (af ?_)
 have szL:=mL.size
 have hvo:v.oneCell'=true:=by obtain⟨_,_,_,rfl⟩:=oL.isS;rfl
 rcases Nat.eq_zero_or_pos k with h0|h0
 rotate_left
 rcases oko with _|_
 rotate_left
 ·refine aa (ac E E (al (v:=bF 0) E E E (ci ((iF (by omega)).2 h0) cQ) (ac E E (ai E (ac E E (ai E (ax E E ?_)))))))
  refine ai E (ah E E (ar (o:=1) MJ E (by kernel_rfl) E) (ai E (ak E E (aj MD E (hmL.blk.cell (i:=1) E)) ?_)))
  refine ap E E E (ag (ab (bg E (aC (ab (af (aE (af ?_))))))))
  obtain⟨k',rfl⟩:∃k',k=k'+1:=⟨k-1,by omega⟩
  obtain⟨n1,sA,okA,q1,i1,a1,c1⟩:=pI so true
  obtain⟨n2,sB,nE,q2,i2,a2,c2⟩:=pI sA okA
  obtain⟨n3,sC,okC,q3,i3,a3,c3⟩:=pI sB nE
  obtain⟨n4,sD,okD,q4,i4,a4,c4⟩:=pI sC okC
  obtain⟨q,sE,okE,q5,a5,c5⟩:=AT sD okD (a4 _ (a3 _ (a2 _ (a1 _ (aL _ hl)))))
  have qM:=JW q1 q2 q3 q4 q5
  refine aa (ac E E (am lL E E ((c1 hmL)) ?_))
  rintro v19 w19 ⟨m19,rfl,hm19⟩
  have m19:=m19
  refine ac E E (am lL E E ((c2 hm19)) ?_)
  rintro v21 w21 ⟨m21,rfl,hm21⟩
  have m21:=m21
  refine ac E E (am lL E E ((c3 hm21)) ?_)
  rintro v23 w23 ⟨m23,rfl,hm23⟩
  have m23:=m23
  refine ac E E (am lL E E ((c4 hm23)) ?_)
  rintro v25 w25 ⟨m25,rfl,hm25⟩
  have m25:=m25
  have m4:Mv (lY h g) wL w25:=((m19.trans m21 fun _ h _=>h).trans m23 fun _ h _=>h).trans m25 fun _ h _=>h
  refine bA (vs:=[(0,I n1),(1,I n2),(2,I n3),(3,I n4)]) (r:=.agg #[I n1,I n2,I n3,I n4]) E E (run_build _ _ _ _ (by kernel_rfl)) ?_
  obtain⟨g5,w5,hr5,l5,x5,k5⟩:=aX (P:=Tryz.prog) (w:=w25) (t:=185) (z:=.agg #[I 0,I 0,I 0,I 0]) (l:=[I 0,I 0,I 0,I 0]) (by kernel_rfl) rfl
  refine aT E hr5 ?_
  obtain⟨wd,sd,qd,kd⟩:=k5.stS (P:=Tryz.prog) (t:=185) (m:=[I n1,I n2,I n3,I n4]) rfl (by kernel_rfl) (av.cons rfl (av.cons rfl (av.cons rfl (av.cons rfl av.nil))))
  refine au E E sd ?_
  have xd:=aK.of_new x5 qd l5
  refine ag (ab ?_)
  have hmd:=hm25.ext xd
  have mLd:Mv (lY h g) wL wd:=m4.trans (Mv.of_ext xd) fun _ h _=>h
  have szd:=mLd.size
  have hXd:∀k,lY h g k→k<wd.heap.size:=fun k hk=>by have:=hX k hk;omega
  have nX5:¬lY h g g5:=fun hh=>by have:=m4.size;have:=hX g5 hh;omega
  refine sV 6 [0,4,27,32] (Mv (lY h g) wd) (Mv (lY h g)) true KI (j4 h g sD okD) (kW.mv _ _) (Mv.refl _ _) j4.stableZ hmd (fun _ _ _ _ h=>h.elim) (fun _=>by kernel_rfl) (by kernel_rfl) (by kernel_rfl) ?_
  refine aA rfl rfl (aP rfl rfl (fun w hw=>(hw.blk kd nX5).ld MR rfl (by kernel_rfl)) (aA rfl rfl (vw (S:=xn wd.heap.size q) (Z':=j4 h g sE okE) vJ rfl (xn.stableX hXd) (j4.stableZ) rfl (fun w hw hz=>by rintro _ rfl;exact(c5 hz).mono fun _ _ ⟨r,he,h1,h2,h3⟩=>.inl ⟨r,he,h1,h2.up hw.size,h3⟩) ?_)))
  refine vu (S:=fun v w'=>∃x y,v=.agg #[I n1,I n2,I n3,I n4,B q.1,x,y]∧cN (fun k=>k<wd.heap.size) w' (jh q) [B q.1,x,y]) (fun _ _ _ ⟨x,y,h,h2⟩ hm=>⟨x,y,h,h2.mv (hm.weak fun j hj _=>hXd j hj) fun _ hk=>.inl hk⟩) E (fun w' hw=>by
 rintro _ rfl _ ⟨x,y,rfl,h⟩
 exact⟨_,w',run_build _ _ _ _ (by kernel_rfl),aK.refl _,x,y,rfl,h⟩) ?_
  refine f4 (S:=xo wd.heap.size 7 bP [⟨n1,n2,n3,n4,q⟩]) (xo.stableX hXd) E (fun w' hw=>by
 rintro _ ⟨x,y,rfl,h⟩
 exact H7 (cs:=[I n1,I n2,I n3,I n4,B q.1,x,y]) MH uj rfl (by omega) (by omega) hw.size (av.cons rfl (av.cons rfl (av.cons rfl (av.cons rfl (av.cons rfl (av.cons (kQ h).1 (av.cons (kQ h).2 av.nil))))))) (yZ (m:=⟨n1,n2,n3,n4,q⟩) h) (dD _)) ?_
  refine cq ?_
  intro wg6 xg6 zg6
  rintro _ rfl
  rintro _ rfl
  rintro _ hq27
  obtain rfl:=Eq.symm hq27
  intro vg32 b32
  obtain⟨cs,hcs,hown,h1cs,hall⟩:=b32
  have mAll:Mv (lY h g) wL wg6:=mLd.trans xg6 fun _ hj _=>hj
  have oG:=oL.mv mAll hX
  have own:∀j,v.ownBlock=some j→w.heap.size≤j∧j<wL.heap.size:=oL.lt
  have hM:=(aR.one hall).weak (Y:=fun k=>k<w.heap.size∨v.ownBlock=some k) fun j hj=>.inl (by
   rcases hj with hj|hj
   ·show j<wd.heap.size;omega
   ·have:=(own j hj).2;show j<wd.heap.size;omega)
  obtain⟨v33,w33,hr33,o33,g33⟩:=oG.app (t:=50) (ty:=50) MH uj rfl (by omega) (by omega) hcs h1cs hM dD (by omega) (Nat.le_trans szL mAll.size)
  have m33:Mv (fun k=>v.ownBlock=some k) wg6 w33:=Mv.of_grown g33.grown fun k hk _=>hk
  have h33:j4 h g sE okE w33:=zg6.mv m33 fun j hj=>by have:=own j hj;omega
  refine ba E E hr33 ?_
  refine ae E E (ag (aS (ab (aa (ac E E (al (v:=bF 1) (r:=bF (UInt64.ofNat k')) E E E ((by rw[←vK (k:=k') (by omega)];exact dU)) ?_))))))
  refine ae E E (ag ?_)
  refine oY (k') (v33) (sE) (okE) (ps++[⟨n1,n2,n3,n4,q⟩]) ⟨rfl,rfl,rfl,trivial⟩ ⟨(mL.trans mAll fun _ hj _=>hj).trans m33 fun j hj hlt=>by have:=(own j hj).1;omega,h33,o33,hF.step qM,by simp;omega,fun j hj=>a5 _ (a4 _ (a3 _ (a2 _ (a1 _ (aL _ hj)))))⟩ (by omega)
 ·refine aa (ac E E (al (v:=bF 0) E E E (cY (mt (iF (by omega)).1 (by omega)) cQ) (ac E E (an E E E (an E E E ?_)))))
  refine an E E E (an E E E (aD E E E (ag (ab (cr E (bc (aI (aI (be (ab (af (aa (ac E E (ae E E (ag (ab ?_))))))))))))))))
  refine aw (az E E ?_)
  exact⟨_,rfl,mL,ps,so,oko,oL.rpx dD (by omega),hvo,hmL,hF.jr (fun _=>h0),aL⟩
 ·refine aa (ac E E (al (v:=bF 0) E E E (ci ((iF (by omega)).2 h0) cQ) (ac E E (ai E (ac E E (ai E (ax E E ?_)))))))
  refine ai E (ah E E (ar (o:=1) MJ E (by kernel_rfl) E) (ai E (ak E E (aj MD E (hmL.blk.cell (i:=1) E)) ?_)))
  refine ap E E E (ag (ab (cr E (bc (aI (aI (be (ab (af (aa (ac E E (ae E E (ag (ab (aw (az E E ?_))))))))))))))))
  exact⟨_,rfl,mL,ps,so,false,oL.rpx dD (by omega),hvo,hmL,hF.jr (fun h=>by cases h),aL⟩
end Go.Rl
namespace Go.Rl
open Go.RowKit Go.Proofs
theorem JX:aG Tryz.prog 91:=⟨_,Tryz.func91,by kernel_rfl,rfl⟩
theorem LB {so sA sB sC:Option (List UInt8)} {ok okA nE okC:Bool} {n1 n2:Int} {q:ft} (q1:JR jK so ok n1 sA okA) (q2:JR jK sA okA n2 sB nE) (q3:JR jp sB nE q sC okC):JR oB so ok ⟨n1,n2,q⟩ sC okC:=
 JR.bind (g:=fun a l=>(jK l).bind fun b=>(jp b.2).bind fun c=>some ((⟨a,b.1,c.1⟩:bU),c.2)) q1
  (JR.bind (g:=fun b l=>(jp l).bind fun c=>some ((⟨n1,b,c.1⟩:bU),c.2)) q2 (q3.map fun c=>(⟨n1,n2,c⟩:bU)))
theorem IW {so sA sB sC sD:Option (List UInt8)} {ok okA nE okC okD:Bool} {n:Int} {nb:Nat} {q:ft} {ps:List cg} (q1:JR jK so ok n sA okA) (q2:JR (ki 1) sA okA nb sB nE) (q3:JR jp sB nE q sC okC) (q4:JR gP sC okC ps sD okD):JR E0 so ok ⟨n,bV nb,q,ps⟩ sD okD:=
 JR.bind (g:=fun a l=>(ki 1 l).bind fun b=>(jp b.2).bind fun c=>(gP c.2).bind fun d=>some ((⟨a,bV b.1,c.1,d.1⟩:dN),d.2)) q1
  (JR.bind (g:=fun b l=>(jp l).bind fun c=>(gP c.2).bind fun d=>some ((⟨n,bV b,c.1,d.1⟩:dN),d.2)) q2
    (JR.bind (g:=fun c l=>(gP l).bind fun d=>some ((⟨n,bV nb,c,d.1⟩:dN),d.2)) q3 (q4.map fun d=>(⟨n,bV nb,q,d⟩:dN))))
theorem AU {so sA sB sC sD:Option (List UInt8)} {ok okA nE okC okD:Bool} {ds:List bU} {nb:Nat} {ls:List dN} {ps:List cg} (q1:JR (oJ 2048 oB) so ok ds sA okA) (q2:JR (ki 1) sA okA nb sB nE) (q3:JR (oJ 1073741824 E0) sB nE ls sC okC) (q4:JR gP sC okC ps sD okD):JR GS so ok ⟨ds,.mk ls lC [] (bV nb) ps⟩ sD okD:=
 JR.bind (g:=fun a l=>(ki 1 l).bind fun b=>(oJ 1073741824 E0 b.2).bind fun c=>(gP c.2).bind fun d=>some ((⟨a,.mk c.1 lC [] (bV b.1) d.1⟩:bZ),d.2)) q1
  (JR.bind (g:=fun b l=>(oJ 1073741824 E0 l).bind fun c=>(gP c.2).bind fun d=>some ((⟨ds,.mk c.1 lC [] (bV b) d.1⟩:bZ),d.2)) q2
    (JR.bind (g:=fun c l=>(gP l).bind fun d=>some ((⟨ds,.mk c lC [] (bV nb) d.1⟩:bZ),d.2)) q3 (q4.map fun d=>(⟨ds,.mk ls lC [] (bV nb) d⟩:bZ))))
theorem vL {P:Program} {w:World} {t:TypeId} {x y:Operand} {n:Nat} (hn:n≤1):(bin .eql t x y (bF (UInt64.ofNat n)) (bF 1)).run P w=.ok (B (bV n)) w:=by
 rcases(by omega:n=0∨n=1) with rfl|rfl<;>exact gV
def AW (h g g3:Nat):Nat→Prop:=fun k=>lY h g k∨k=g3
theorem JY {w:World} {h g:Nat} {st:Option (List UInt8)} {ok:Bool} (hm:j4 h g st ok w) (hl:i0 st):
 Calls Tryz.prog 91 #[.pointer (some ⟨h,0,none⟩)] w (bE fun r w'=>Mv (lY h g) w w'∧∃u cs s1 ok1,r=.agg cs.toArray∧cN (fun k=>k<w.heap.size) w' (i7 u) cs∧av cs∧j4 h g s1 ok1 w'∧JR GS st ok u s1 ok1):=by
 refine enter (vs:=[.pointer (some ⟨h,0,none⟩)]) Tryz.func91 E E E ?_
 have hlt:=hm.blk.lt
 have hgh:=hm.lt
 have hX:∀k,lY h g k→k<w.heap.size:=fun k hk=>by rcases hk with rfl|rfl<;>omega
 obtain⟨N,s0,ok0,qU,hN,aU,cU⟩:=pH st ok (most:=2048) (by omega)
 refine af (aa ?_)
 obtain⟨g2,w2,hr2,l2,x2,k2⟩:=aX (P:=Tryz.prog) (w:=w) (t:=54) (z:=.agg #[.slice none 0 0,.slice none 0 0,I 0,I 0,B false,.slice none 0 0,.slice none 0 0,.slice none 0 0,B false,.slice none 0 0]) (l:=[.slice none 0 0,.slice none 0 0,I 0,I 0,B false,.slice none 0 0,.slice none 0 0,.slice none 0 0,B false,.slice none 0 0]) (by kernel_rfl) rfl
 refine aT E hr2 (ag (ab (af (aa ?_))))
 obtain⟨g3,w3,hr3,l3,x3,k3⟩:=aX (P:=Tryz.prog) (w:=w2) (t:=54) (z:=.agg #[.slice none 0 0,.slice none 0 0,I 0,I 0,B false,.slice none 0 0,.slice none 0 0,.slice none 0 0,B false,.slice none 0 0]) (l:=[.slice none 0 0,.slice none 0 0,I 0,I 0,B false,.slice none 0 0,.slice none 0 0,.slice none 0 0,B false,.slice none 0 0]) (by kernel_rfl) rfl
 refine aT E hr3 ?_
 have e3:=(x2.trans x3)
 have hm3:=hm.ext e3
 have k23:=k2.ext x3
 have g23:g2<g3:=by have:=k2.lt;omega
 have g3lt:=k3.lt
 have sz3:=e3.size
 have hX3:∀k,lY h g k→k<g3:=fun k hk=>by have:=hX k hk;have:=x2.size;omega
 refine ag (ab (af (af (aa (ac E E (am lK E E ((cU hm3)) ?_))))))
 rintro v8 w8 ⟨m8,rfl,hm8⟩
 have m8:=m8
 refine ae E E (ag (ab (aE ?_)))
 refine ta (fun(k:Nat) (vd:Value) (so:Option (List UInt8)) (oko:Bool) (ds:List bU)=>[(0,.pointer (some ⟨h,0,none⟩)),(2,.pointer (some ⟨g2,0,none⟩)),(3,.pointer (some ⟨g3,0,none⟩)),(4,bF (UInt64.ofNat k))]) (fun(k:Nat) (vd:Value) (so:Option (List UInt8)) (oko:Bool) (ds:List bU) w'=>Mv (AW h g g3) w3 w'∧j4 h g so oko w'∧ct g3 54 (vd::Ct) w'∧gq 48 5 w3.heap.size dC ds vd w'∧FL oB ok (st.bind (oJ 2048 oB)) so oko k ds∧k+ds.length≤2048∧∀j,uc j st→uc j so) (fun(k:Nat) (vd:Value) (so:Option (List UInt8)) (oko:Bool) (ds:List bU)=>k) (N) (.slice none 0 0) (s0) (ok0) ([]) ⟨rfl,rfl,rfl,rfl,trivial⟩ ⟨m8.weak fun _ hk _=>.inl hk,hm8,m8.blk k3 (fun hk=>by have:=hX3 _ hk;omega),gq.nil _,FL.start qU,by simpa using hN,aU⟩ ?_
 rintro k vd so oko ds wL ⟨mL,hmL,kL,oL,hF,hk,aL⟩
 refine af (af ?_)
 have szL:=mL.size
 have hvd:vd.oneCell'=true:=by obtain⟨_,_,_,rfl⟩:=oL.isS;rfl
 have k2L:=mL.blk k23 (fun hk=>hk.elim (fun hk=>by rcases hk with rfl|rfl<;>omega) (fun hk=>by omega))
 rcases Nat.eq_zero_or_pos k with h0|h0
 rotate_left
 rcases oko with _|_
 rotate_left
 ·refine aa (ac E E (al (v:=bF 0) E E E (ci ((iF (by omega)).2 h0) cQ) (ac E E (ai E (ac E E (ai E (ax E E ?_)))))))
  refine ai E (ah E E (ar (o:=1) MJ E (by kernel_rfl) E) (ai E (ak E E (aj MD E (hmL.blk.cell (i:=1) E)) ?_)))
  refine ap E E E (ag (ab (bg E (aC (ab (af (aE ?_)))))))
  obtain⟨k',rfl⟩:∃k',k=k'+1:=⟨k-1,by omega⟩
  obtain⟨n1,sA,okA,q1,i1,a1,c1⟩:=pI so true
  obtain⟨n2,sB,nE,q2,i2,a2,c2⟩:=pI sA okA
  obtain⟨q,sC,okC,q3,a3,c3⟩:=AT sB nE (a2 _ (a1 _ (aL _ hl)))
  have qM:=LB q1 q2 q3
  have hXL:∀k,lY h g k→k<wL.heap.size:=fun k hk=>by have:=hX k hk;omega
  refine sV 10 [0,2,3,4,20,28] (Mv (lY h g) wL) (Mv (lY h g)) true KI (j4 h g so true) (kW.mv _ _) (Mv.refl _ _) j4.stableZ hmL (fun _ _ _ _ h=>h.elim) (fun _=>by kernel_rfl) (by kernel_rfl) (by kernel_rfl) ?_
  refine aW E E (fun w hw=>ar (o:=0) Mz E (by kernel_rfl) E) (aP E E (fun w hw=>aj ME E ((hw.blk kL (fun hk=>by have:=hX3 _ hk;omega)).cell (i:=0) E)) ?_)
  refine aA rfl rfl (vw (S:=Is (I n1)) (Z':=j4 h g sA okA) lL rfl (cb.is _) (j4.stableZ) rfl (fun w hw hz=>by rintro _ rfl;exact(c1 hz).mono fun _ _ ⟨r,he,h1,h2,h3⟩=>.inl ⟨r,he,h1,h2,h3⟩) ?_)
  refine aA rfl rfl (vw (S:=Is (I n2)) (Z':=j4 h g sB nE) lL rfl (cb.is _) (j4.stableZ) rfl (fun w hw hz=>by rintro _ rfl;exact(c2 hz).mono fun _ _ ⟨r,he,h1,h2,h3⟩=>.inl ⟨r,he,h1,h2,h3⟩) ?_)
  refine aA rfl rfl (vw (S:=xn wL.heap.size q) (Z':=j4 h g sC okC) vJ rfl (xn.stableX hXL) (j4.stableZ) rfl (fun w hw hz=>by rintro _ rfl;exact(c3 hz).mono fun _ _ ⟨r,he,h1,h2,h3⟩=>.inl ⟨r,he,h1,h2.up hw.size,h3⟩) ?_)
  refine vu (S:=fun v w'=>∃x y,v=.agg #[I n1,I n2,B q.1,x,y]∧cN (fun k=>k<wL.heap.size) w' (jh q) [B q.1,x,y]) (fun _ _ _ ⟨x,y,h,h2⟩ hm=>⟨x,y,h,h2.mv (hm.weak fun j hj _=>hXL j hj) fun _ hk=>.inl hk⟩) E (fun w' hw=>by
 rintro _ rfl _ rfl _ ⟨x,y,rfl,h⟩
 exact⟨_,w',run_build _ _ _ _ (by kernel_rfl),aK.refl _,x,y,rfl,h⟩) ?_
  refine f4 (S:=xo wL.heap.size 5 dC [⟨n1,n2,q⟩]) (xo.stableX hXL) E (fun w' hw=>by
 rintro _ ⟨x,y,rfl,h⟩
 exact H7 (cs:=[I n1,I n2,B q.1,x,y]) ME py rfl (by omega) (by omega) hw.size (av.cons rfl (av.cons rfl (av.cons rfl (av.cons (kQ h).1 (av.cons (kQ h).2 av.nil))))) (xk (d:=⟨n1,n2,q⟩) h) (ck _)) ?_
  refine cq ?_
  intro wg5 xg5 zg5
  rintro _ rfl
  rintro _ rfl
  rintro _ rfl
  rintro _ rfl
  rintro _ hq20
  obtain rfl:=Eq.symm hq20
  intro vg28 b28
  obtain⟨cs,hcs,hown,h1cs,hall⟩:=b28
  have oG:=oL.mv xg5 fun k hk=>by have:=hX k hk;omega
  have own:∀j,vd.ownBlock=some j→w3.heap.size≤j∧j<wL.heap.size:=oL.lt
  have hM:=(aR.one hall).weak (Y:=fun k=>k<w3.heap.size∨vd.ownBlock=some k) fun j hj=>.inl (by
   rcases hj with hj|hj
   ·show j<wL.heap.size;omega
   ·have:=(own j hj).2;show j<wL.heap.size;omega)
  obtain⟨v29,w29,hr29,o29,g29⟩:=oG.app (t:=41) (ty:=41) ME py rfl (by omega) (by omega) hcs h1cs hM ck (by omega) (Nat.le_trans szL xg5.size)
  have m29:Mv (fun k=>vd.ownBlock=some k) wg5 w29:=Mv.of_grown g29.grown fun k hk _=>hk
  have h29:j4 h g sC okC w29:=zg5.mv m29 fun j hj=>by have:=own j hj;omega
  have k29:=m29.blk (xg5.blk kL (fun hk=>by have:=hX3 _ hk;omega)) (fun e=>by have:=own g3 e;omega)
  have hv29:v29.oneCell'=true:=by obtain⟨_,_,_,rfl⟩:=o29.isS;rfl
  obtain⟨wz,sz,qz,kz⟩:=k29.stC (P:=Tryz.prog) (t:=41) (i:=0) (v:=v29) (by kernel_rfl) hv29 (by simp)
  have mz:Mv (fun k=>k=g3) w29 wz:=Mv.of_grown qz fun k hk _=>(Option.some.inj hk).symm
  refine ba E E hr29 ?_
  refine ah E E (ar (o:=0) Mz E (by kernel_rfl) E) ?_
  refine au E E sz ?_
  refine ag (aS (ab (aa (ac E E (al (v:=bF 1) (r:=bF (UInt64.ofNat k')) E E E ((by rw[←vK (k:=k') (by omega)];exact dU)) ?_)))))
  refine ae E E (ag ?_)
  refine oY (k') (v29) (sC) (okC) (ds++[⟨n1,n2,q⟩]) ⟨rfl,rfl,rfl,rfl,trivial⟩ ⟨((mL.trans (xg5.weak fun j hj _=>.inl hj) fun _ hj _=>hj).trans m29 fun j hj hlt=>by have:=(own j hj).1;omega).trans (mz.weak fun j hj _=>.inr hj) fun _ hj _=>hj,h29.mv mz fun j hj=>by have:=hX3 h (.inl E);omega,kz,o29.mv mz (fun j hj=>by omega),hF.step qM,by simp;omega,fun j hj=>a3 _ (a2 _ (a1 _ (aL _ hj)))⟩ (by omega)
 ·have hJ:=hF.jr (fun _=>h0)
  have hmL':=hmL
  refine aa (ac E E (al (v:=bF 0) E E E (cY (mt (iF (by omega)).1 (by omega)) cQ) (ac E E (an E E E (an E E E ?_)))))
  refine an E E E (an E E E (aD E E E (ag (ab (cr E (bc (aI (aI (be (ab (af ?_)))))))))))
  obtain⟨nb,s5,ok5,qB,hB1,aB,cB⟩:=pH so oko (most:=1) (by omega)
  obtain⟨N2,s6,ok6,qU2,hN2,aU2,cU2⟩:=pH s5 ok5 (most:=1073741824) (by omega)
  refine aa (ac E E (am lK E E ((cB hmL')) ?_))
  rintro v32 w32 ⟨m32,rfl,hm32⟩
  have m32:=m32
  have k32:=m32.blk kL (fun hk=>by have:=hX3 _ hk;omega)
  obtain⟨wb,sb,qb,kb⟩:=k32.stC (P:=Tryz.prog) (t:=4) (i:=8) (v:=B (bV nb)) oc rfl (by simp)
  have mb:Mv (fun k=>k=g3) w32 wb:=Mv.of_grown qb fun k hk _=>(Option.some.inj hk).symm
  have hmb:=hm32.mv mb fun j hj=>by have:=hX3 h (.inl rfl);omega
  have mLb:Mv (AW h g g3) wL wb:=(m32.weak fun j hj _=>.inl hj).trans (mb.weak fun j hj _=>.inr hj) fun _ hj _=>hj
  have hJX:∀k,AW h g g3 k→k≤g3:=fun k hk=>hk.elim (fun hk=>by have:=hX3 k hk;omega) (fun hk=>by omega)
  have oDb:=oL.mv mLb fun k hk=>by have:=hJX k hk;omega
  have k2b:=mLb.blk k2L (fun hk=>hk.elim (fun hk=>by rcases hk with rfl|rfl<;>omega) (fun hk=>by omega))
  have kb:ct g3 54 [vd,.slice none 0 0,I 0,I 0,B false,.slice none 0 0,.slice none 0 0,.slice none 0 0,B (bV nb),.slice none 0 0] wb:=kb
  refine al (v:=bF 1) (r:=B (bV nb)) E E E ((vL hB1)) ?_
  refine ah E E (ar (o:=1) Mz E (by kernel_rfl) E) ?_
  refine ah E E (cL (b:=1) (o:=7) Mt E (by kernel_rfl) E) ?_
  refine au E E sb ?_
  refine ag (ab (af (af (aa (ac E E (am lK E E ((cU2 hmb)) ?_))))))
  rintro v37 w37 ⟨m37,rfl,hm37⟩
  have m37:=m37
  have k37:=m37.blk kb (fun hk=>by have:=hX3 _ hk;omega)
  have k2c:=m37.blk k2b (by rintro(rfl|rfl)<;>omega)
  have oDc:=oDb.mv m37 fun k hk=>by have:=hX k hk;omega
  have szb:=mLb.size
  have sz37:=m37.size
  refine ae E E (ag (ab (aE ?_)))
  refine ta (fun(k2:Nat) (vl:Value) (so2:Option (List UInt8)) (oko2:Bool) (ls:List dN)=>[(0,.pointer (some ⟨h,0,none⟩)),(2,.pointer (some ⟨g2,0,none⟩)),(3,.pointer (some ⟨g3,0,none⟩)),(5,bF (UInt64.ofNat k2))]) (fun(k2:Nat) (vl:Value) (so2:Option (List UInt8)) (oko2:Bool) (ls:List dN) w'=>Mv (AW h g g3) w37 w'∧j4 h g so2 oko2 w'∧ct g3 54 [vd,vl,I 0,I 0,B false,.slice none 0 0,.slice none 0 0,.slice none 0 0,B (bV nb),.slice none 0 0] w'∧gq 173 6 w37.heap.size dc ls vl w'∧FL E0 ok5 (s5.bind (oJ 1073741824 E0)) so2 oko2 k2 ls∧k2+ls.length≤1073741824∧∀j,uc j st→uc j so2) (fun(k2:Nat) (vl:Value) (so2:Option (List UInt8)) (oko2:Bool) (ls:List dN)=>k2) (N2) (.slice none 0 0) (s6) (ok6) ([]) ⟨rfl,rfl,rfl,rfl,trivial⟩ ⟨Mv.refl _ _,hm37,k37,gq.nil _,FL.start qU2,by simpa using hN2,fun j hj=>aU2 _ (aB _ (aL _ hj))⟩ ?_
  rintro k2 vl so2 oko2 ls wM ⟨mM,hmM,kM,oM,hF2,hk2,aM⟩
  refine af (af ?_)
  have szM:=mM.size
  have hvl:vl.oneCell'=true:=by obtain⟨_,_,_,rfl⟩:=oM.isS;rfl
  have k2M:=mM.blk k2c (fun hk=>hk.elim (fun hk=>by rcases hk with rfl|rfl<;>omega) (fun hk=>by omega))
  have oDM:=oDc.mv mM fun k hk=>by have:=hJX k hk;omega
  rcases Nat.eq_zero_or_pos k2 with h0'|h0'
  rotate_left
  rcases oko2 with _|_
  rotate_left
  ·refine aa (ac E E (al (v:=bF 0) E E E (ci ((iF (by omega)).2 h0') cQ) (ac E E (ai E (ac E E (ai E (ax E E ?_)))))))
   refine ai E (ah E E (ar (o:=1) MJ E (by kernel_rfl) E) (ai E (ak E E (aj MD E (hmM.blk.cell (i:=1) E)) ?_)))
   refine ap E E E (ag (ab (bg E (aC (ab (af (aE (af ?_))))))))
   obtain⟨k',rfl⟩:∃k',k2=k'+1:=⟨k2-1,by omega⟩
   obtain⟨n1,sA,okA,q1,i1,a1,c1⟩:=pI so2 true
   obtain⟨nc,sB,nE,q2,hc1,a2,c2⟩:=pH sA okA (most:=1) (by omega)
   obtain⟨q,sC,okC,q3,a3,c3⟩:=AT sB nE (a2 _ (a1 _ (aM _ hl)))
   refine aa (ac E E (am lL E E ((c1 hmM)) ?_))
   rintro v49 w49 ⟨m49,rfl,hm49⟩
   have m49:=m49
   refine ac E E (am lK E E ((c2 hm49)) ?_)
   rintro v51 w51 ⟨m51,rfl,hm51⟩
   have m51:=m51
   refine al (v:=bF 1) (r:=B (bV nc)) E E E ((vL hc1)) (ac E E (am vJ E E ((c3 hm51)) ?_))
   rintro v54 w54 ⟨m54,⟨x,y,rfl,rq⟩,hm54⟩
   have m54:=m54
   have m3:Mv (lY h g) wM w54:=(m49.trans m51 fun _ hj _=>hj).trans m54 fun _ hj _=>hj
   have hxy:=kQ rq
   refine bA (vs:=[(0,I n1),(1,B (bV nc)),(2,.agg #[B q.1,x,y])]) (r:=.agg #[I n1,B (bV nc),B q.1,x,y,.slice none 0 0]) E E (run_build _ _ _ _ (by kernel_rfl)) ?_
   obtain⟨g6,w6,hr6,l6,x6,k6⟩:=aX (P:=Tryz.prog) (w:=w54) (t:=173) (z:=.agg #[I 0,B false,B false,.slice none 0 0,.slice none 0 0,.slice none 0 0]) (l:=[I 0,B false,B false,.slice none 0 0,.slice none 0 0,.slice none 0 0]) (by kernel_rfl) rfl
   refine aT E hr6 ?_
   obtain⟨wd,sd,qd,kd⟩:=k6.stS (P:=Tryz.prog) (t:=173) (m:=[I n1,B (bV nc),B q.1,x,y,.slice none 0 0]) rfl (by kernel_rfl) (av.cons rfl (av.cons rfl (av.cons rfl (av.cons hxy.1 (av.cons hxy.2 (av.cons rfl av.nil))))))
   refine au E E sd ?_
   have xd:=aK.of_new x6 qd l6
   have hmd:=hm54.ext xd
   have mMd:Mv (lY h g) wM wd:=m3.trans (Mv.of_ext xd) fun _ hj _=>hj
   have g6M:wM.heap.size≤g6:=by have:=m3.size;omega
   refine ag (ab (af (aa (ac E E (am qH E E ((qI hmd (a3 _ (a2 _ (a1 _ (aM _ hl)))))) ?_)))))
   rintro v57 w57 ⟨m57,ps,s4,ok4,rp57,h1p,hm57,q4,a4⟩
   have m57:=m57
   have qM:=IW q1 q2 q3 q4
   have k6a:=m57.blk kd (fun hk=>by have:=hX _ hk;omega)
   obtain⟨we,se,qe,ke⟩:=k6a.stC (P:=Tryz.prog) (t:=50) (i:=5) (v:=v57) (by kernel_rfl) h1p (by simp)
   have me:Mv (fun k=>k=g6) w57 we:=Mv.of_grown qe fun k hk _=>(Option.some.inj hk).symm
   have ke:ct g6 173 [I n1,B (bV nc),B q.1,x,y,v57] we:=ke
   have hme:=hm57.mv me fun j hj=>by omega
   have mMe:Mv (lY h g) wM we:=(mMd.trans m57 fun _ hj _=>hj).trans me fun j hj hlt=>by omega
   have k3e:=mMe.blk kM (fun hk=>by have:=hX3 _ hk;omega)
   have oMe:=oM.mv mMe fun k hk=>by have:=hX k hk;omega
   have own:∀j,vl.ownBlock=some j→w37.heap.size≤j∧j<wM.heap.size:=oM.lt
   have szd:=mMd.size
   have sz54:=m51.size
   have sz49:=m49.size
   have g6d:g6<wd.heap.size:=kd.lt
   have rq0:=(rq.weak (Y:=fun k=>k<wM.heap.size∨k=g6) fun j hj=>hj.elim (fun hj=>.inl (by show j<w51.heap.size;omega)) (fun hj=>.inr (by omega))).ext xd
   have rqe:cN (fun k=>k<wM.heap.size) we (jh q) [B q.1,x,y]:=(((rq0.mv (m57.weak fun j hj _=>.inl (by have:=hX j hj;omega)) fun _ hj=>.inl hj).mv (me.weak fun j hj _=>.inr hj) fun _ hj=>.inl hj).weak fun _ hj=>.inl (.inl hj))
   have rpe:cN (fun k=>k<wM.heap.size) we (il ps) [v57]:=(rp57.mv (me.weak fun j hj _=>by show j<wd.heap.size;omega) fun _ hj=>.inl hj).weak fun j hj=>.inl (by show j<wd.heap.size;omega)
   have h1L:av [I n1,B (bV nc),B q.1,x,y,v57]:=av.cons rfl (av.cons rfl (av.cons rfl (av.cons hxy.1 (av.cons hxy.2 (av.cons h1p av.nil)))))
   obtain⟨x63,w63,v64,w64,hr63,hr64,o64,m64,n64⟩:=oMe.push (ty:=42) (t:=42) MG xl rfl (by omega) (by omega) (by omega) h1L ((xm (l:=⟨n1,bV nc,q,ps⟩) rqe rpe).weak fun j hj=>.inl (by
    rcases hj with hj|hj
    ·show j<wM.heap.size;omega
    ·have:=(own j hj).2;show j<wM.heap.size;omega)) cH (by omega) (Nat.le_trans szM mMe.size)
   have k3f:=m64.blk k3e (fun e=>by have:=own g3 e;omega)
   have hv64:v64.oneCell'=true:=by obtain⟨_,_,_,rfl⟩:=o64.isS;rfl
   obtain⟨wz,sz,qz,kz⟩:=k3f.stC (P:=Tryz.prog) (t:=42) (i:=1) (v:=v64) (by kernel_rfl) hv64 (by simp)
   have mz:Mv (fun k=>k=g3) w64 wz:=Mv.of_grown qz fun k hk _=>(Option.some.inj hk).symm
   refine ah E E (ar (o:=5) MI E (by kernel_rfl) E) ?_
   refine au E E se ?_
   refine ag (ab (aa ?_))
   refine ah E E (ar (o:=1) Mz E (by kernel_rfl) E) ?_
   refine ah E E (cL (b:=1) (o:=0) Mt E (by kernel_rfl) E) ?_
   refine ak E E (aj MG E (k3e.cell (i:=1) E)) ?_
   refine ak E E (ke.ld MI E (by kernel_rfl)) ?_
   refine aJ (vs:=[(0,.agg #[I n1,B (bV nc),B q.1,x,y,v57])]) E E hr63 ?_
   refine ba E E hr64 ?_
   refine ah E E (ar (o:=1) Mz E (by kernel_rfl) E) ?_
   refine ah E E (cL (b:=1) (o:=0) Mt E (by kernel_rfl) E) ?_
   refine au E E sz ?_
   refine ag (aS (ab (aa (ac E E (al (v:=bF 1) (r:=bF (UInt64.ofNat k')) E E E ((by rw[←vK (k:=k') (by omega)];exact dU)) ?_)))))
   refine ae E E (ag ?_)
   refine oY (k') (v64) (s4) (ok4) (ls++[⟨n1,bV nc,q,ps⟩]) ⟨rfl,rfl,rfl,rfl,trivial⟩ ⟨((mM.trans (mMe.weak fun j hj _=>.inl hj) fun _ hj _=>hj).trans m64 fun j hj hlt=>by have:=(own j hj).1;omega).trans (mz.weak fun j hj _=>.inr hj) fun _ hj _=>hj,(hme.mv m64 fun j hj=>by have:=own j hj;omega).mv mz fun j hj=>by have:=hX3 h (.inl E);omega,kz,o64.mv mz (fun j hj=>by omega),hF2.step qM,by simp;omega,fun j hj=>a4 _ (a3 _ (a2 _ (a1 _ (aM _ hj))))⟩ (by omega)
  ·have hJ2:=hF2.jr (fun _=>h0')
   have hmM':=hmM
   refine aa (ac E E (al (v:=bF 0) E E E (cY (mt (iF (by omega)).1 (by omega)) cQ) (ac E E (an E E E (an E E E ?_)))))
   refine an E E E (an E E E (aD E E E (ag (ab (cr E (bc (aI (aI (be (ab (af (aa (ac E E (am qH E E ((qI hmM' (aM _ hl))) ?_))))))))))))))
   rintro v68 w68 ⟨m68,ps,s7,ok7,rp68,h1p,hm68,q7,a7⟩
   have m68:=m68
   have k68:=m68.blk kM (fun hk=>by have:=hX3 _ hk;omega)
   obtain⟨wy,sy,qy,ky⟩:=k68.stC (P:=Tryz.prog) (t:=50) (i:=9) (v:=v68) (by kernel_rfl) h1p (by simp)
   have my:Mv (fun k=>k=g3) w68 wy:=Mv.of_grown qy fun k hk _=>(Option.some.inj hk).symm
   have ky:ct g3 54 [vd,vl,I 0,I 0,B false,.slice none 0 0,.slice none 0 0,.slice none 0 0,B (bV nb),v68] wy:=ky
   have hO:av [vd,vl,I 0,I 0,B false,.slice none 0 0,.slice none 0 0,.slice none 0 0,B (bV nb),v68]:=av.cons hvd (av.cons hvl (av.cons rfl (av.cons rfl (av.cons rfl (av.cons rfl (av.cons rfl (av.cons rfl (av.cons rfl (av.cons h1p av.nil)))))))))
   have mMy:Mv (AW h g g3) wM wy:=(m68.weak fun j hj _=>.inl hj).trans (my.weak fun j hj _=>.inr hj) fun _ hj _=>hj
   have k2y:=mMy.blk k2M (fun hk=>hk.elim (fun hk=>by rcases hk with rfl|rfl<;>omega) (fun hk=>by omega))
   obtain⟨wR,sR,qR,kR⟩:=k2y.stS (P:=Tryz.prog) (t:=54) (m:=[vd,vl,I 0,I 0,B false,.slice none 0 0,.slice none 0 0,.slice none 0 0,B (bV nb),v68]) rfl (by kernel_rfl) hO
   have mR:Mv (fun k=>k=g2) wy wR:=Mv.of_grown qR fun k hk _=>(Option.some.inj hk).symm
   have mw3:Mv (fun k=>AW h g g3 k∨k=g2) w3 wR:=(((((mL.trans mLb fun _ hj _=>hj).trans (m37.weak fun j hj _=>(.inl hj:AW h g g3 j)) fun _ hj _=>hj).trans mM fun _ hj _=>hj).trans mMy fun _ hj _=>hj).weak fun j hj _=>.inl hj).trans (mR.weak fun j hj _=>.inr hj) fun _ hj _=>hj
   have hfin:Mv (lY h g) w wR:=(Mv.of_ext e3).trans mw3 fun j hj hlt=>by
    rcases hj with(hj|hj)|hj
    ·exact hj
    ·omega
    ·omega
   have oDR:=(oDM.mv mMy fun k hk=>by have:=hJX k hk;omega).mv mR fun k hk=>by omega
   have oMR:=(oM.mv mMy fun k hk=>by have:=hJX k hk;omega).mv mR fun k hk=>by omega
   have rpR:cN (fun k=>k<w.heap.size) wR (il ps) [v68]:=((rp68.mv (my.weak fun j hj _=>by show j<wM.heap.size;omega) fun _ hj=>.inl hj).mv (mR.weak fun j hj _=>by show j<wM.heap.size;omega) fun _ hj=>.inl hj).weak fun j hj=>.inl (by show j<wM.heap.size;omega)
   have hrp:=kJ (u:=⟨ds,.mk ls lC [] (bV nb) ps⟩) ((oDR.rpx ck (by omega)).weak (Y:=fun k=>k<w.heap.size) fun j hj=>.inl (by show j<w3.heap.size;omega)) (eG (ls:=ls) (d:=lC) (ks:=[]) (em:=bV nb) (ps:=ps) ((oMR.rpx cH (by omega)).weak (Y:=fun k=>k<w.heap.size) fun j hj=>.inl (by show j<w37.heap.size;omega)) jL j7 rpR)
   refine ah E E (ar (o:=1) Mz E (by kernel_rfl) E) ?_
   refine ah E E (cL (b:=1) (o:=8) Mt E (by kernel_rfl) E) ?_
   refine au E E sy ?_
   refine ag (ab (af (aa ?_)))
   refine ak E E (ky.ld Mz E (by kernel_rfl)) ?_
   refine au E E sR ?_
   refine ag (ab (aw ?_))
   refine dx E E kR Mz E (by kernel_rfl) ?_
   exact⟨_,rfl,hfin,⟨ds,.mk ls lC [] (bV nb) ps⟩,_,s7,ok7,rfl,hrp,hO,(hm68.mv my fun j hj=>by have:=hX3 h (.inl rfl);omega).mv mR fun j hj=>by omega,AU hJ qB hJ2 q7⟩
  ·obtain⟨oko2,ho2⟩:∃o:Bool,o=false:=⟨_,rfl⟩
   have hJ2:=hF2.jr (fun hk=>by cases hk)
   have hmM':=hmM
   rw[←ho2] at hJ2 hmM'
   refine aa (ac E E (al (v:=bF 0) E E E (ci ((iF (by omega)).2 h0') cQ) (ac E E (ai E (ac E E (ai E (ax E E ?_)))))))
   refine ai E (ah E E (ar (o:=1) MJ E (by kernel_rfl) E) (ai E (ak E E (aj MD E (hmM.blk.cell (i:=1) E)) ?_)))
   refine ap E E E (ag (ab (cr E (bc (aI (aI (be (ab (af (aa (ac E E (am qH E E ((qI hmM' (aM _ hl))) ?_))))))))))))
   rintro v68 w68 ⟨m68,ps,s7,ok7,rp68,h1p,hm68,q7,a7⟩
   have m68:=m68
   have k68:=m68.blk kM (fun hk=>by have:=hX3 _ hk;omega)
   obtain⟨wy,sy,qy,ky⟩:=k68.stC (P:=Tryz.prog) (t:=50) (i:=9) (v:=v68) (by kernel_rfl) h1p (by simp)
   have my:Mv (fun k=>k=g3) w68 wy:=Mv.of_grown qy fun k hk _=>(Option.some.inj hk).symm
   have ky:ct g3 54 [vd,vl,I 0,I 0,B false,.slice none 0 0,.slice none 0 0,.slice none 0 0,B (bV nb),v68] wy:=ky
   have hO:av [vd,vl,I 0,I 0,B false,.slice none 0 0,.slice none 0 0,.slice none 0 0,B (bV nb),v68]:=av.cons hvd (av.cons hvl (av.cons rfl (av.cons rfl (av.cons rfl (av.cons rfl (av.cons rfl (av.cons rfl (av.cons rfl (av.cons h1p av.nil)))))))))
   have mMy:Mv (AW h g g3) wM wy:=(m68.weak fun j hj _=>.inl hj).trans (my.weak fun j hj _=>.inr hj) fun _ hj _=>hj
   have k2y:=mMy.blk k2M (fun hk=>hk.elim (fun hk=>by rcases hk with rfl|rfl<;>omega) (fun hk=>by omega))
   obtain⟨wR,sR,qR,kR⟩:=k2y.stS (P:=Tryz.prog) (t:=54) (m:=[vd,vl,I 0,I 0,B false,.slice none 0 0,.slice none 0 0,.slice none 0 0,B (bV nb),v68]) rfl (by kernel_rfl) hO
   have mR:Mv (fun k=>k=g2) wy wR:=Mv.of_grown qR fun k hk _=>(Option.some.inj hk).symm
   have mw3:Mv (fun k=>AW h g g3 k∨k=g2) w3 wR:=(((((mL.trans mLb fun _ hj _=>hj).trans (m37.weak fun j hj _=>(.inl hj:AW h g g3 j)) fun _ hj _=>hj).trans mM fun _ hj _=>hj).trans mMy fun _ hj _=>hj).weak fun j hj _=>.inl hj).trans (mR.weak fun j hj _=>.inr hj) fun _ hj _=>hj
   have hfin:Mv (lY h g) w wR:=(Mv.of_ext e3).trans mw3 fun j hj hlt=>by
    rcases hj with(hj|hj)|hj
    ·exact hj
    ·omega
    ·omega
   have oDR:=(oDM.mv mMy fun k hk=>by have:=hJX k hk;omega).mv mR fun k hk=>by omega
   have oMR:=(oM.mv mMy fun k hk=>by have:=hJX k hk;omega).mv mR fun k hk=>by omega
   have rpR:cN (fun k=>k<w.heap.size) wR (il ps) [v68]:=((rp68.mv (my.weak fun j hj _=>by show j<wM.heap.size;omega) fun _ hj=>.inl hj).mv (mR.weak fun j hj _=>by show j<wM.heap.size;omega) fun _ hj=>.inl hj).weak fun j hj=>.inl (by show j<wM.heap.size;omega)
   have hrp:=kJ (u:=⟨ds,.mk ls lC [] (bV nb) ps⟩) ((oDR.rpx ck (by omega)).weak (Y:=fun k=>k<w.heap.size) fun j hj=>.inl (by show j<w3.heap.size;omega)) (eG (ls:=ls) (d:=lC) (ks:=[]) (em:=bV nb) (ps:=ps) ((oMR.rpx cH (by omega)).weak (Y:=fun k=>k<w.heap.size) fun j hj=>.inl (by show j<w37.heap.size;omega)) jL j7 rpR)
   refine ah E E (ar (o:=1) Mz E (by kernel_rfl) E) ?_
   refine ah E E (cL (b:=1) (o:=8) Mt E (by kernel_rfl) E) ?_
   refine au E E sy ?_
   refine ag (ab (af (aa ?_)))
   refine ak E E (ky.ld Mz E (by kernel_rfl)) ?_
   refine au E E sR ?_
   refine ag (ab (aw ?_))
   refine dx E E kR Mz E (by kernel_rfl) ?_
   exact⟨_,rfl,hfin,⟨ds,.mk ls lC [] (bV nb) ps⟩,_,s7,ok7,rfl,hrp,hO,(hm68.mv my fun j hj=>by have:=hX3 h (.inl rfl);omega).mv mR fun j hj=>by omega,AU hJ qB hJ2 q7⟩
 ·obtain⟨oko,ho⟩:∃o:Bool,o=false:=⟨_,rfl⟩
  have hJ:=hF.jr (fun hk=>by cases hk)
  have hmL':=hmL
  rw[←ho] at hJ hmL'
  refine aa (ac E E (al (v:=bF 0) E E E (ci ((iF (by omega)).2 h0) cQ) (ac E E (ai E (ac E E (ai E (ax E E ?_)))))))
  refine ai E (ah E E (ar (o:=1) MJ E (by kernel_rfl) E) (ai E (ak E E (aj MD E (hmL.blk.cell (i:=1) E)) ?_)))
  refine ap E E E (ag (ab (cr E (bc (aI (aI (be (ab (af ?_)))))))))
  obtain⟨nb,s5,ok5,qB,hB1,aB,cB⟩:=pH so oko (most:=1) (by omega)
  obtain⟨N2,s6,ok6,qU2,hN2,aU2,cU2⟩:=pH s5 ok5 (most:=1073741824) (by omega)
  refine aa (ac E E (am lK E E ((cB hmL')) ?_))
  rintro v32 w32 ⟨m32,rfl,hm32⟩
  have m32:=m32
  have k32:=m32.blk kL (fun hk=>by have:=hX3 _ hk;omega)
  obtain⟨wb,sb,qb,kb⟩:=k32.stC (P:=Tryz.prog) (t:=4) (i:=8) (v:=B (bV nb)) oc rfl (by simp)
  have mb:Mv (fun k=>k=g3) w32 wb:=Mv.of_grown qb fun k hk _=>(Option.some.inj hk).symm
  have hmb:=hm32.mv mb fun j hj=>by have:=hX3 h (.inl rfl);omega
  have mLb:Mv (AW h g g3) wL wb:=(m32.weak fun j hj _=>.inl hj).trans (mb.weak fun j hj _=>.inr hj) fun _ hj _=>hj
  have hJX:∀k,AW h g g3 k→k≤g3:=fun k hk=>hk.elim (fun hk=>by have:=hX3 k hk;omega) (fun hk=>by omega)
  have oDb:=oL.mv mLb fun k hk=>by have:=hJX k hk;omega
  have k2b:=mLb.blk k2L (fun hk=>hk.elim (fun hk=>by rcases hk with rfl|rfl<;>omega) (fun hk=>by omega))
  have kb:ct g3 54 [vd,.slice none 0 0,I 0,I 0,B false,.slice none 0 0,.slice none 0 0,.slice none 0 0,B (bV nb),.slice none 0 0] wb:=kb
  refine al (v:=bF 1) (r:=B (bV nb)) E E E ((vL hB1)) ?_
  refine ah E E (ar (o:=1) Mz E (by kernel_rfl) E) ?_
  refine ah E E (cL (b:=1) (o:=7) Mt E (by kernel_rfl) E) ?_
  refine au E E sb ?_
  refine ag (ab (af (af (aa (ac E E (am lK E E ((cU2 hmb)) ?_))))))
  rintro v37 w37 ⟨m37,rfl,hm37⟩
  have m37:=m37
  have k37:=m37.blk kb (fun hk=>by have:=hX3 _ hk;omega)
  have k2c:=m37.blk k2b (by rintro(rfl|rfl)<;>omega)
  have oDc:=oDb.mv m37 fun k hk=>by have:=hX k hk;omega
  have szb:=mLb.size
  have sz37:=m37.size
  refine ae E E (ag (ab (aE ?_)))
  refine ta (fun(k2:Nat) (vl:Value) (so2:Option (List UInt8)) (oko2:Bool) (ls:List dN)=>[(0,.pointer (some ⟨h,0,none⟩)),(2,.pointer (some ⟨g2,0,none⟩)),(3,.pointer (some ⟨g3,0,none⟩)),(5,bF (UInt64.ofNat k2))]) (fun(k2:Nat) (vl:Value) (so2:Option (List UInt8)) (oko2:Bool) (ls:List dN) w'=>Mv (AW h g g3) w37 w'∧j4 h g so2 oko2 w'∧ct g3 54 [vd,vl,I 0,I 0,B false,.slice none 0 0,.slice none 0 0,.slice none 0 0,B (bV nb),.slice none 0 0] w'∧gq 173 6 w37.heap.size dc ls vl w'∧FL E0 ok5 (s5.bind (oJ 1073741824 E0)) so2 oko2 k2 ls∧k2+ls.length≤1073741824∧∀j,uc j st→uc j so2) (fun(k2:Nat) (vl:Value) (so2:Option (List UInt8)) (oko2:Bool) (ls:List dN)=>k2) (N2) (.slice none 0 0) (s6) (ok6) ([]) ⟨rfl,rfl,rfl,rfl,trivial⟩ ⟨Mv.refl _ _,hm37,k37,gq.nil _,FL.start qU2,by simpa using hN2,fun j hj=>aU2 _ (aB _ (aL _ hj))⟩ ?_
  rintro k2 vl so2 oko2 ls wM ⟨mM,hmM,kM,oM,hF2,hk2,aM⟩
  refine af (af ?_)
  have szM:=mM.size
  have hvl:vl.oneCell'=true:=by obtain⟨_,_,_,rfl⟩:=oM.isS;rfl
  have k2M:=mM.blk k2c (fun hk=>hk.elim (fun hk=>by rcases hk with rfl|rfl<;>omega) (fun hk=>by omega))
  have oDM:=oDc.mv mM fun k hk=>by have:=hJX k hk;omega
  rcases Nat.eq_zero_or_pos k2 with h0'|h0'
  rotate_left
  rcases oko2 with _|_
  rotate_left
  ·refine aa (ac E E (al (v:=bF 0) E E E (ci ((iF (by omega)).2 h0') cQ) (ac E E (ai E (ac E E (ai E (ax E E ?_)))))))
   refine ai E (ah E E (ar (o:=1) MJ E (by kernel_rfl) E) (ai E (ak E E (aj MD E (hmM.blk.cell (i:=1) E)) ?_)))
   refine ap E E E (ag (ab (bg E (aC (ab (af (aE (af ?_))))))))
   obtain⟨k',rfl⟩:∃k',k2=k'+1:=⟨k2-1,by omega⟩
   obtain⟨n1,sA,okA,q1,i1,a1,c1⟩:=pI so2 true
   obtain⟨nc,sB,nE,q2,hc1,a2,c2⟩:=pH sA okA (most:=1) (by omega)
   obtain⟨q,sC,okC,q3,a3,c3⟩:=AT sB nE (a2 _ (a1 _ (aM _ hl)))
   refine aa (ac E E (am lL E E ((c1 hmM)) ?_))
   rintro v49 w49 ⟨m49,rfl,hm49⟩
   have m49:=m49
   refine ac E E (am lK E E ((c2 hm49)) ?_)
   rintro v51 w51 ⟨m51,rfl,hm51⟩
   have m51:=m51
   refine al (v:=bF 1) (r:=B (bV nc)) E E E ((vL hc1)) (ac E E (am vJ E E ((c3 hm51)) ?_))
   rintro v54 w54 ⟨m54,⟨x,y,rfl,rq⟩,hm54⟩
   have m54:=m54
   have m3:Mv (lY h g) wM w54:=(m49.trans m51 fun _ hj _=>hj).trans m54 fun _ hj _=>hj
   have hxy:=kQ rq
   refine bA (vs:=[(0,I n1),(1,B (bV nc)),(2,.agg #[B q.1,x,y])]) (r:=.agg #[I n1,B (bV nc),B q.1,x,y,.slice none 0 0]) E E (run_build _ _ _ _ (by kernel_rfl)) ?_
   obtain⟨g6,w6,hr6,l6,x6,k6⟩:=aX (P:=Tryz.prog) (w:=w54) (t:=173) (z:=.agg #[I 0,B false,B false,.slice none 0 0,.slice none 0 0,.slice none 0 0]) (l:=[I 0,B false,B false,.slice none 0 0,.slice none 0 0,.slice none 0 0]) (by kernel_rfl) rfl
   refine aT E hr6 ?_
   obtain⟨wd,sd,qd,kd⟩:=k6.stS (P:=Tryz.prog) (t:=173) (m:=[I n1,B (bV nc),B q.1,x,y,.slice none 0 0]) rfl (by kernel_rfl) (av.cons rfl (av.cons rfl (av.cons rfl (av.cons hxy.1 (av.cons hxy.2 (av.cons rfl av.nil))))))
   refine au E E sd ?_
   have xd:=aK.of_new x6 qd l6
   have hmd:=hm54.ext xd
   have mMd:Mv (lY h g) wM wd:=m3.trans (Mv.of_ext xd) fun _ hj _=>hj
   have g6M:wM.heap.size≤g6:=by have:=m3.size;omega
   refine ag (ab (af (aa (ac E E (am qH E E ((qI hmd (a3 _ (a2 _ (a1 _ (aM _ hl)))))) ?_)))))
   rintro v57 w57 ⟨m57,ps,s4,ok4,rp57,h1p,hm57,q4,a4⟩
   have m57:=m57
   have qM:=IW q1 q2 q3 q4
   have k6a:=m57.blk kd (fun hk=>by have:=hX _ hk;omega)
   obtain⟨we,se,qe,ke⟩:=k6a.stC (P:=Tryz.prog) (t:=50) (i:=5) (v:=v57) (by kernel_rfl) h1p (by simp)
   have me:Mv (fun k=>k=g6) w57 we:=Mv.of_grown qe fun k hk _=>(Option.some.inj hk).symm
   have ke:ct g6 173 [I n1,B (bV nc),B q.1,x,y,v57] we:=ke
   have hme:=hm57.mv me fun j hj=>by omega
   have mMe:Mv (lY h g) wM we:=(mMd.trans m57 fun _ hj _=>hj).trans me fun j hj hlt=>by omega
   have k3e:=mMe.blk kM (fun hk=>by have:=hX3 _ hk;omega)
   have oMe:=oM.mv mMe fun k hk=>by have:=hX k hk;omega
   have own:∀j,vl.ownBlock=some j→w37.heap.size≤j∧j<wM.heap.size:=oM.lt
   have szd:=mMd.size
   have sz54:=m51.size
   have sz49:=m49.size
   have g6d:g6<wd.heap.size:=kd.lt
   have rq0:=(rq.weak (Y:=fun k=>k<wM.heap.size∨k=g6) fun j hj=>hj.elim (fun hj=>.inl (by show j<w51.heap.size;omega)) (fun hj=>.inr (by omega))).ext xd
   have rqe:cN (fun k=>k<wM.heap.size) we (jh q) [B q.1,x,y]:=(((rq0.mv (m57.weak fun j hj _=>.inl (by have:=hX j hj;omega)) fun _ hj=>.inl hj).mv (me.weak fun j hj _=>.inr hj) fun _ hj=>.inl hj).weak fun _ hj=>.inl (.inl hj))
   have rpe:cN (fun k=>k<wM.heap.size) we (il ps) [v57]:=(rp57.mv (me.weak fun j hj _=>by show j<wd.heap.size;omega) fun _ hj=>.inl hj).weak fun j hj=>.inl (by show j<wd.heap.size;omega)
   have h1L:av [I n1,B (bV nc),B q.1,x,y,v57]:=av.cons rfl (av.cons rfl (av.cons rfl (av.cons hxy.1 (av.cons hxy.2 (av.cons h1p av.nil)))))
   obtain⟨x63,w63,v64,w64,hr63,hr64,o64,m64,n64⟩:=oMe.push (ty:=42) (t:=42) MG xl rfl (by omega) (by omega) (by omega) h1L ((xm (l:=⟨n1,bV nc,q,ps⟩) rqe rpe).weak fun j hj=>.inl (by
    rcases hj with hj|hj
    ·show j<wM.heap.size;omega
    ·have:=(own j hj).2;show j<wM.heap.size;omega)) cH (by omega) (Nat.le_trans szM mMe.size)
   have k3f:=m64.blk k3e (fun e=>by have:=own g3 e;omega)
   have hv64:v64.oneCell'=true:=by obtain⟨_,_,_,rfl⟩:=o64.isS;rfl
   obtain⟨wz,sz,qz,kz⟩:=k3f.stC (P:=Tryz.prog) (t:=42) (i:=1) (v:=v64) (by kernel_rfl) hv64 (by simp)
   have mz:Mv (fun k=>k=g3) w64 wz:=Mv.of_grown qz fun k hk _=>(Option.some.inj hk).symm
   refine ah E E (ar (o:=5) MI E (by kernel_rfl) E) ?_
   refine au E E se ?_
   refine ag (ab (aa ?_))
   refine ah E E (ar (o:=1) Mz E (by kernel_rfl) E) ?_
   refine ah E E (cL (b:=1) (o:=0) Mt E (by kernel_rfl) E) ?_
   refine ak E E (aj MG E (k3e.cell (i:=1) E)) ?_
   refine ak E E (ke.ld MI E (by kernel_rfl)) ?_
   refine aJ (vs:=[(0,.agg #[I n1,B (bV nc),B q.1,x,y,v57])]) E E hr63 ?_
   refine ba E E hr64 ?_
   refine ah E E (ar (o:=1) Mz E (by kernel_rfl) E) ?_
   refine ah E E (cL (b:=1) (o:=0) Mt E (by kernel_rfl) E) ?_
   refine au E E sz ?_
   refine ag (aS (ab (aa (ac E E (al (v:=bF 1) (r:=bF (UInt64.ofNat k')) E E E ((by rw[←vK (k:=k') (by omega)];exact dU)) ?_)))))
   refine ae E E (ag ?_)
   refine oY (k') (v64) (s4) (ok4) (ls++[⟨n1,bV nc,q,ps⟩]) ⟨rfl,rfl,rfl,rfl,trivial⟩ ⟨((mM.trans (mMe.weak fun j hj _=>.inl hj) fun _ hj _=>hj).trans m64 fun j hj hlt=>by have:=(own j hj).1;omega).trans (mz.weak fun j hj _=>.inr hj) fun _ hj _=>hj,(hme.mv m64 fun j hj=>by have:=own j hj;omega).mv mz fun j hj=>by have:=hX3 h (.inl E);omega,kz,o64.mv mz (fun j hj=>by omega),hF2.step qM,by simp;omega,fun j hj=>a4 _ (a3 _ (a2 _ (a1 _ (aM _ hj))))⟩ (by omega)
  ·have hJ2:=hF2.jr (fun _=>h0')
   have hmM':=hmM
   refine aa (ac E E (al (v:=bF 0) E E E (cY (mt (iF (by omega)).1 (by omega)) cQ) (ac E E (an E E E (an E E E ?_)))))
   refine an E E E (an E E E (aD E E E (ag (ab (cr E (bc (aI (aI (be (ab (af (aa (ac E E (am qH E E ((qI hmM' (aM _ hl))) ?_))))))))))))))
   rintro v68 w68 ⟨m68,ps,s7,ok7,rp68,h1p,hm68,q7,a7⟩
   have m68:=m68
   have k68:=m68.blk kM (fun hk=>by have:=hX3 _ hk;omega)
   obtain⟨wy,sy,qy,ky⟩:=k68.stC (P:=Tryz.prog) (t:=50) (i:=9) (v:=v68) (by kernel_rfl) h1p (by simp)
   have my:Mv (fun k=>k=g3) w68 wy:=Mv.of_grown qy fun k hk _=>(Option.some.inj hk).symm
   have ky:ct g3 54 [vd,vl,I 0,I 0,B false,.slice none 0 0,.slice none 0 0,.slice none 0 0,B (bV nb),v68] wy:=ky
   have hO:av [vd,vl,I 0,I 0,B false,.slice none 0 0,.slice none 0 0,.slice none 0 0,B (bV nb),v68]:=av.cons hvd (av.cons hvl (av.cons rfl (av.cons rfl (av.cons rfl (av.cons rfl (av.cons rfl (av.cons rfl (av.cons rfl (av.cons h1p av.nil)))))))))
   have mMy:Mv (AW h g g3) wM wy:=(m68.weak fun j hj _=>.inl hj).trans (my.weak fun j hj _=>.inr hj) fun _ hj _=>hj
   have k2y:=mMy.blk k2M (fun hk=>hk.elim (fun hk=>by rcases hk with rfl|rfl<;>omega) (fun hk=>by omega))
   obtain⟨wR,sR,qR,kR⟩:=k2y.stS (P:=Tryz.prog) (t:=54) (m:=[vd,vl,I 0,I 0,B false,.slice none 0 0,.slice none 0 0,.slice none 0 0,B (bV nb),v68]) rfl (by kernel_rfl) hO
   have mR:Mv (fun k=>k=g2) wy wR:=Mv.of_grown qR fun k hk _=>(Option.some.inj hk).symm
   have mw3:Mv (fun k=>AW h g g3 k∨k=g2) w3 wR:=(((((mL.trans mLb fun _ hj _=>hj).trans (m37.weak fun j hj _=>(.inl hj:AW h g g3 j)) fun _ hj _=>hj).trans mM fun _ hj _=>hj).trans mMy fun _ hj _=>hj).weak fun j hj _=>.inl hj).trans (mR.weak fun j hj _=>.inr hj) fun _ hj _=>hj
   have hfin:Mv (lY h g) w wR:=(Mv.of_ext e3).trans mw3 fun j hj hlt=>by
    rcases hj with(hj|hj)|hj
    ·exact hj
    ·omega
    ·omega
   have oDR:=(oDM.mv mMy fun k hk=>by have:=hJX k hk;omega).mv mR fun k hk=>by omega
   have oMR:=(oM.mv mMy fun k hk=>by have:=hJX k hk;omega).mv mR fun k hk=>by omega
   have rpR:cN (fun k=>k<w.heap.size) wR (il ps) [v68]:=((rp68.mv (my.weak fun j hj _=>by show j<wM.heap.size;omega) fun _ hj=>.inl hj).mv (mR.weak fun j hj _=>by show j<wM.heap.size;omega) fun _ hj=>.inl hj).weak fun j hj=>.inl (by show j<wM.heap.size;omega)
   have hrp:=kJ (u:=⟨ds,.mk ls lC [] (bV nb) ps⟩) ((oDR.rpx ck (by omega)).weak (Y:=fun k=>k<w.heap.size) fun j hj=>.inl (by show j<w3.heap.size;omega)) (eG (ls:=ls) (d:=lC) (ks:=[]) (em:=bV nb) (ps:=ps) ((oMR.rpx cH (by omega)).weak (Y:=fun k=>k<w.heap.size) fun j hj=>.inl (by show j<w37.heap.size;omega)) jL j7 rpR)
   refine ah E E (ar (o:=1) Mz E (by kernel_rfl) E) ?_
   refine ah E E (cL (b:=1) (o:=8) Mt E (by kernel_rfl) E) ?_
   refine au E E sy ?_
   refine ag (ab (af (aa ?_)))
   refine ak E E (ky.ld Mz E (by kernel_rfl)) ?_
   refine au E E sR ?_
   refine ag (ab (aw ?_))
   refine dx E E kR Mz E (by kernel_rfl) ?_
   exact⟨_,rfl,hfin,⟨ds,.mk ls lC [] (bV nb) ps⟩,_,s7,ok7,rfl,hrp,hO,(hm68.mv my fun j hj=>by have:=hX3 h (.inl rfl);omega).mv mR fun j hj=>by omega,AU hJ qB hJ2 q7⟩
  ·obtain⟨oko2,ho2⟩:∃o:Bool,o=false:=⟨_,rfl⟩
   have hJ2:=hF2.jr (fun hk=>by cases hk)
   have hmM':=hmM
   rw[←ho2] at hJ2 hmM'
   refine aa (ac E E (al (v:=bF 0) E E E (ci ((iF (by omega)).2 h0') cQ) (ac E E (ai E (ac E E (ai E (ax E E ?_)))))))
   refine ai E (ah E E (ar (o:=1) MJ E (by kernel_rfl) E) (ai E (ak E E (aj MD E (hmM.blk.cell (i:=1) E)) ?_)))
   refine ap E E E (ag (ab (cr E (bc (aI (aI (be (ab (af (aa (ac E E (am qH E E ((qI hmM' (aM _ hl))) ?_))))))))))))
   rintro v68 w68 ⟨m68,ps,s7,ok7,rp68,h1p,hm68,q7,a7⟩
   have m68:=m68
   have k68:=m68.blk kM (fun hk=>by have:=hX3 _ hk;omega)
   obtain⟨wy,sy,qy,ky⟩:=k68.stC (P:=Tryz.prog) (t:=50) (i:=9) (v:=v68) (by kernel_rfl) h1p (by simp)
   have my:Mv (fun k=>k=g3) w68 wy:=Mv.of_grown qy fun k hk _=>(Option.some.inj hk).symm
   have ky:ct g3 54 [vd,vl,I 0,I 0,B false,.slice none 0 0,.slice none 0 0,.slice none 0 0,B (bV nb),v68] wy:=ky
   have hO:av [vd,vl,I 0,I 0,B false,.slice none 0 0,.slice none 0 0,.slice none 0 0,B (bV nb),v68]:=av.cons hvd (av.cons hvl (av.cons rfl (av.cons rfl (av.cons rfl (av.cons rfl (av.cons rfl (av.cons rfl (av.cons rfl (av.cons h1p av.nil)))))))))
   have mMy:Mv (AW h g g3) wM wy:=(m68.weak fun j hj _=>.inl hj).trans (my.weak fun j hj _=>.inr hj) fun _ hj _=>hj
   have k2y:=mMy.blk k2M (fun hk=>hk.elim (fun hk=>by rcases hk with rfl|rfl<;>omega) (fun hk=>by omega))
   obtain⟨wR,sR,qR,kR⟩:=k2y.stS (P:=Tryz.prog) (t:=54) (m:=[vd,vl,I 0,I 0,B false,.slice none 0 0,.slice none 0 0,.slice none 0 0,B (bV nb),v68]) rfl (by kernel_rfl) hO
   have mR:Mv (fun k=>k=g2) wy wR:=Mv.of_grown qR fun k hk _=>(Option.some.inj hk).symm
   have mw3:Mv (fun k=>AW h g g3 k∨k=g2) w3 wR:=(((((mL.trans mLb fun _ hj _=>hj).trans (m37.weak fun j hj _=>(.inl hj:AW h g g3 j)) fun _ hj _=>hj).trans mM fun _ hj _=>hj).trans mMy fun _ hj _=>hj).weak fun j hj _=>.inl hj).trans (mR.weak fun j hj _=>.inr hj) fun _ hj _=>hj
   have hfin:Mv (lY h g) w wR:=(Mv.of_ext e3).trans mw3 fun j hj hlt=>by
    rcases hj with(hj|hj)|hj
    ·exact hj
    ·omega
    ·omega
   have oDR:=(oDM.mv mMy fun k hk=>by have:=hJX k hk;omega).mv mR fun k hk=>by omega
   have oMR:=(oM.mv mMy fun k hk=>by have:=hJX k hk;omega).mv mR fun k hk=>by omega
   have rpR:cN (fun k=>k<w.heap.size) wR (il ps) [v68]:=((rp68.mv (my.weak fun j hj _=>by show j<wM.heap.size;omega) fun _ hj=>.inl hj).mv (mR.weak fun j hj _=>by show j<wM.heap.size;omega) fun _ hj=>.inl hj).weak fun j hj=>.inl (by show j<wM.heap.size;omega)
   have hrp:=kJ (u:=⟨ds,.mk ls lC [] (bV nb) ps⟩) ((oDR.rpx ck (by omega)).weak (Y:=fun k=>k<w.heap.size) fun j hj=>.inl (by show j<w3.heap.size;omega)) (eG (ls:=ls) (d:=lC) (ks:=[]) (em:=bV nb) (ps:=ps) ((oMR.rpx cH (by omega)).weak (Y:=fun k=>k<w.heap.size) fun j hj=>.inl (by show j<w37.heap.size;omega)) jL j7 rpR)
   refine ah E E (ar (o:=1) Mz E (by kernel_rfl) E) ?_
   refine ah E E (cL (b:=1) (o:=8) Mt E (by kernel_rfl) E) ?_
   refine au E E sy ?_
   refine ag (ab (af (aa ?_)))
   refine ak E E (ky.ld Mz E (by kernel_rfl)) ?_
   refine au E E sR ?_
   refine ag (ab (aw ?_))
   refine dx E E kR Mz E (by kernel_rfl) ?_
   exact⟨_,rfl,hfin,⟨ds,.mk ls lC [] (bV nb) ps⟩,_,s7,ok7,rfl,hrp,hO,(hm68.mv my fun j hj=>by have:=hX3 h (.inl rfl);omega).mv mR fun j hj=>by omega,AU hJ qB hJ2 q7⟩
end Go.Rl
namespace Go.Rl
open Go.RowKit Go.Proofs
theorem D0:aG Tryz.prog 45:=⟨_,Tryz.func45,by kernel_rfl,rfl⟩
section
variable {P:Program} {ops:Array Oper} {Q:ja} {N:Nat} {D:List Deferred} {S:World→Prop} {fuel:Nat} {listed:Array Bool} {l:Fr} {w:World} {d:Nat} {ty:TypeId} {pos:String} {aft:Array Edge} {op:Op}
theorem JZ (i:Nat) {x:Operand} {v:Value} {j:Nat} {b:Bool} (hi:ops[i]? =some ⟨some d,.move x,ty,pos,aft,some (j,b)⟩) (hg:gv ops l j=some (.bool b)) (hx:ev l x=some v) (hB:nE ops listed i=true) (hd:Nat.blt d N=true) (hS:S w)
 (k:dA P ops Q N D S fuel (listed.setIfInBounds i true) ((d,v)::l) w):dA P ops Q N D S (fuel+1) listed l w:=fun a ha=>by
 simp only[nE,Bool.and_eq_true] at hB
 exact wpAnyH_take hi hB.1.1 hB.1.2 hB.2 (fun c a w h=>by obtain⟨h,_⟩:=h;cases h) (.inl ⟨by simp[Region.wanted,np ha hg],fun w' _=>by simp[execOp,ha.ev hx]⟩) hS (k _ (ha.put hd v))
theorem zy (i:Nat) {j:Nat} {b b':Bool} (hi:ops[i]? =some ⟨some d,op,ty,pos,aft,some (j,b)⟩) (hg:gv ops l j=some (.bool b')) (hb:b'= !b) (hB:nE ops listed i=true) (hd:Nat.blt d N=true) (hS:S w)
 (k:dA P ops Q N D S fuel (listed.setIfInBounds i true) ((d,undef)::l) w):dA P ops Q N D S (fuel+1) listed l w:=fun a ha=>by
 simp only[nE,Bool.and_eq_true] at hB
 exact wpAnyH_take hi hB.1.1 hB.1.2 hB.2 (fun c a w h=>by obtain⟨h,_⟩:=h;cases h) (.inr ⟨by subst hb;simp[Region.wanted,np ha hg],rfl⟩) hS (k _ (ha.put hd undef))
end
theorem AX {w:World} {g:Nat} {st:Option (List UInt8)} (hr:cV g st w):Calls Tryz.prog 92 #[.pointer (some ⟨g,0,none⟩)] w (bE fun r w'=>w=w'∧r=I (if st=some [] then 0 else 5)):=(F1 hr).mono fun _ _ ⟨v,h,h1,h2⟩=>⟨v,h,h2.symm,h1⟩
theorem LC {p:List UInt8} {u:bZ} {s1:Option (List UInt8)} (hl:p.length≤7340032) (h:JR GS (some p) true u s1 false):jC p=none:=by
 cases he:jC p with
 |none=>rfl
 |some e=>
  have h1:=E1 he hl
  have h2:=h.iff
  have h3:(some p).bind GS=some (e,[]):=h1
  rw[h3] at h2
  cases h2
theorem LD {p l:List UInt8} {u:bZ} {c:UInt8} (hl:p.length≤7340032) (h:JR GS (some p) true u (some (c::l)) true):jC p=none:=by
 cases he:jC p with
 |none=>rfl
 |some e=>
  have h1:=E1 he hl
  have h2:GS p=some (u,c::l):=h.val rfl
  rw[h1] at h2
  cases h2
theorem LE {p:List UInt8} {u:bZ} (h:JR GS (some p) true u (some []) true):lE p=some (u,[]):=Ly (h.val rfl)
theorem D1 {w:World} {p:List UInt8} {v:Value} (hv:cJ p v w) (hl:p.length≤7340032):
 Calls Tryz.prog 45 #[v] w (bE fun r w'=>aK w w'∧Mm w.heap.size p r w'):=by
 refine enter (vs:=[v]) Tryz.func45 E E E ?_
 refine af (aa ?_)
 obtain⟨g2,w2,hr2,l2,x2,k2⟩:=aX (P:=Tryz.prog) (w:=w) (t:=54) (z:=.agg #[.slice none 0 0,.slice none 0 0,I 0,I 0,B false,.slice none 0 0,.slice none 0 0,.slice none 0 0,B false,.slice none 0 0]) (l:=[.slice none 0 0,.slice none 0 0,I 0,I 0,B false,.slice none 0 0,.slice none 0 0,.slice none 0 0,B false,.slice none 0 0]) (by kernel_rfl) rfl
 refine aT E hr2 (ae E E (ag (ab (af (aa (ac E E (am Bf E E ((Bh (hv.ext x2) (by omega))) ?_)))))))
 rintro v7 w7 ⟨x7,g,lg,rfl,hr7⟩
 refine bA (vs:=[(0,.pointer (some ⟨g,0,none⟩)),(1,B true)]) (r:=.agg #[.pointer (some ⟨g,0,none⟩),B true]) E E (run_build _ _ _ _ (by kernel_rfl)) ?_
 obtain⟨h,w9,hr9,l9,x9,k9⟩:=cK (P:=Tryz.prog) (w:=w7) (T:=163) (cs:=[.pointer (some ⟨g,0,none⟩),B true])
 refine cM E E hr9 ?_
 have hgh:g<h:=by have:=cV.lt hr7;omega
 have hm9:j4 h g (some p) true w9:=⟨k9,hr7.ext x9,hgh⟩
 have g2g:g2<g:=by have:=k2.lt;omega
 refine ae rfl rfl (ag (ab (af (aa (ac rfl rfl (am JX rfl rfl ((JY hm9 (fun l e=>by cases e;omega))) ?_))))))
 rintro v11 w11 ⟨m11,u,cs,s1,okr,rfl,rp11,h1cs,hm11,hJ⟩
 have m11:=m11
 have e9:aK w w9:=(x2.trans x7).trans x9
 have hX:∀k,lY h g k→w2.heap.size≤k∧k<w9.heap.size:=fun k hk=>by
  have:=hm9.blk.lt
  have:=x2.size
  rcases hk with rfl|rfl<;>constructor<;>omega
 have hcs:cs.length=10:=rp11.len.trans (cw u)
 have k2y:=m11.blk ((k2.ext x7).ext x9) (fun hk=>by have:=(hX _ hk).1;have:=k2.lt;omega)
 obtain⟨g5,w5,hr5,l5,x5,k5⟩:=aX (P:=Tryz.prog) (w:=w11) (t:=54) (z:=.agg #[.slice none 0 0,.slice none 0 0,I 0,I 0,B false,.slice none 0 0,.slice none 0 0,.slice none 0 0,B false,.slice none 0 0]) (l:=[.slice none 0 0,.slice none 0 0,I 0,I 0,B false,.slice none 0 0,.slice none 0 0,.slice none 0 0,B false,.slice none 0 0]) (by kernel_rfl) rfl
 refine aT E hr5 ?_
 obtain⟨wy,sy,qy,ky⟩:=k5.stS (P:=Tryz.prog) (t:=54) (m:=cs) (by rw[hcs];rfl) (by rw[hcs];kernel_rfl) h1cs
 refine au E E sy ?_
 have xy:=aK.of_new x5 qy l5
 have hmy:=hm11.ext xy
 have k2y:=k2y.ext xy
 have rpy:=rp11.ext xy
 have sz9:=e9.size
 have g29:g2<w9.heap.size:=by have:=k2.lt;have:=x7.size;have:=x9.size;omega
 have m2y:Mv (lY h g) w9 wy:=m11.trans (Mv.of_ext xy) fun _ hj _=>hj
 have eY:aK w wy:=Mv.ext_from m2y e9 fun k hk=>by have:=(hX k hk).1;have:=x2.size;omega
 have bpy:=hv.ext eY
 have g25:g2<g5:=by have:=m11.size;have:=k2.lt;have:=x7.size;have:=x9.size;omega
 refine ag (ab (af ?_))
 obtain⟨vd,vl,x,y,vk,vp,rfl,n0,n1,n2,n3,n4,n5⟩:=iE rpy.rp
 rcases okr with _|_
 rotate_left
 rcases s1 with _|l1
 ·exact absurd (hJ.ok_le rfl).2 (by simp)
 rcases l1 with _|⟨c1,l1⟩
 have hE:=LE hJ
 rcases hV:bQ u
 ·have hS:Mv (fun k=>k=g2) wy wy.drew:=Mv.of_ext ((aK.refl wy).drew)
  have e11:aK wy wy.drew:=(aK.refl wy).drew
  refine ig (Mv (fun k=>k=g2) wy) 25 E (by kernel_rfl) ?_
  refine gd 0 E E (by kernel_rfl) E hS (fun w' hw'=>(hw'.blk ky (fun e=>by omega)).ld Mz E (by kernel_rfl)) ?_
  refine aQ 1 (by kernel_rfl) E (ac E E (aH hS ?_))
  refine aQ 2 (by kernel_rfl) E (ax E E (aH hS ?_))
  refine aQ 3 (by kernel_rfl) E (ah E E (ar (o:=1) MJ E (by kernel_rfl) E) (aH hS ?_))
  refine aQ 4 (by kernel_rfl) E (ak E E (aj MD E ((hmy.blk.ext e11).cell (i:=1) E)) (aH hS ?_))
  refine aQ 5 (by kernel_rfl) E (ac E E (aH hS ?_))
  refine aQ 6 (by kernel_rfl) E (ai E (ac E E (aH hS ?_)))
  refine aQ 7 (by kernel_rfl) E (ai E (ax E E (aH hS ?_)))
  refine aQ 8 (by kernel_rfl) E (ai E (ah E E (ar (o:=0) MJ E (by kernel_rfl) E) (aH hS ?_)))
  refine aQ 9 (by kernel_rfl) E (ai E (ak E E (aj MU E ((hmy.blk.ext e11).cell (i:=0) E)) (aH hS ?_)))
  refine aQ 10 (by kernel_rfl) E (ai E (am t7 E E (AX (hmy.rd.ext e11)) ?_))
  rintro _ _ ⟨rfl,rfl⟩
  refine aH hS ?_
  refine aQ 11 (by kernel_rfl) E (ai E (al (r:=B true) E E E AR (aH hS ?_)))
  refine aQ 12 (by kernel_rfl) E (ap E E E (aH hS ?_))
  refine aQ 13 (by kernel_rfl) E (ac E E (aH hS ?_))
  refine aQ 14 (by kernel_rfl) E (ai E (ak E E ((ky.ext e11).ld Mz E (by kernel_rfl)) (aH hS ?_)))
  refine aQ 15 (by kernel_rfl) E (ai E (am oa E E (by have h:=ob (u:=u) (cC.ext n0 e11) (cC.ext n1 e11) (n2.ext e11) (n3.ext e11) (cC.ext n4 e11) (cC.ext n5 e11) (sw hE (by omega));rw[hV] at h;exact h) ?_))
  rintro _ w27 ⟨x27,rfl⟩
  have e11:aK wy w27:=e11.trans x27
  have hS:Mv (fun k=>k=g2) wy w27:=Mv.of_ext e11
  refine aH hS ?_
  refine aQ 16 (by kernel_rfl) E (ap E E E (aH hS ?_))
  refine aQ 17 (by kernel_rfl) E (ac E E (aH hS ?_))
  refine zy 18 E E E (by kernel_rfl) E hS ?_
  refine zy 20 E E E (by kernel_rfl) E hS ?_
  refine aQ 19 (by kernel_rfl) E (an E E E (aH hS ?_))
  refine aQ 21 (by kernel_rfl) E (an E E E (aH hS ?_))
  refine qG 22 E E E (by kernel_rfl) E hS ?_
  have k2g:=k2y.ext e11
  obtain⟨wd,sd,qd,kd⟩:=k2g.stS (P:=Tryz.prog) (t:=54) (m:=[vd,vl,I u.leaf.split.kd,I u.leaf.split.ix,B u.leaf.split.at_.1,x,y,vk,B u.leaf.empty,vp]) rfl (by kernel_rfl) h1cs
  have md:Mv (fun k=>k=g2) w27 wd:=Mv.of_grown qd fun k hk _=>(Option.some.inj hk).symm
  have hSd:Mv (fun k=>k=g2) wy wd:=(Mv.of_ext e11).trans md fun _ hj _=>hj
  have eF:aK w wd:=Mv.ext_from hSd eY (fun k hk=>by have:k=g2:=hk;omega)
  have rF:=(rpy.mv (hSd.weak fun j hj _=>by have:j=g2:=hj;show j<w9.heap.size;omega) fun _ hj=>.inl hj).weak (Y:=fun k=>k<w.heap.size) fun j hj=>.inl (by show j<w9.heap.size;omega)
  refine aQ 23 (by kernel_rfl) E (au E E sd (aH hSd ?_))
  refine aQ 24 (by kernel_rfl) E (ae E E (aH hSd (ii (by kernel_rfl) ?_)))
  refine ab (aw ?_)
  refine cD E E E kd Mz E (by kernel_rfl) ?_
  exact⟨_,rfl,eF,u,_,false,rfl,rF,h1cs,(fun e=>nomatch e),fun _=>Cu hE hV⟩
 ·have hpe:cy u=p:=by have:=(xQ hE).1;simpa using this.symm
  have hS:Mv (fun k=>k=g2) wy wy.drew:=Mv.of_ext ((aK.refl wy).drew)
  have e11:aK wy wy.drew:=(aK.refl wy).drew
  refine ig (Mv (fun k=>k=g2) wy) 25 E (by kernel_rfl) ?_
  refine gd 0 E E (by kernel_rfl) E hS (fun w' hw'=>(hw'.blk ky (fun e=>by omega)).ld Mz E (by kernel_rfl)) ?_
  refine aQ 1 (by kernel_rfl) E (ac E E (aH hS ?_))
  refine aQ 2 (by kernel_rfl) E (ax E E (aH hS ?_))
  refine aQ 3 (by kernel_rfl) E (ah E E (ar (o:=1) MJ E (by kernel_rfl) E) (aH hS ?_))
  refine aQ 4 (by kernel_rfl) E (ak E E (aj MD E ((hmy.blk.ext e11).cell (i:=1) E)) (aH hS ?_))
  refine aQ 5 (by kernel_rfl) E (ac E E (aH hS ?_))
  refine aQ 6 (by kernel_rfl) E (ai E (ac E E (aH hS ?_)))
  refine aQ 7 (by kernel_rfl) E (ai E (ax E E (aH hS ?_)))
  refine aQ 8 (by kernel_rfl) E (ai E (ah E E (ar (o:=0) MJ E (by kernel_rfl) E) (aH hS ?_)))
  refine aQ 9 (by kernel_rfl) E (ai E (ak E E (aj MU E ((hmy.blk.ext e11).cell (i:=0) E)) (aH hS ?_)))
  refine aQ 10 (by kernel_rfl) E (ai E (am t7 E E (AX (hmy.rd.ext e11)) ?_))
  rintro _ _ ⟨rfl,rfl⟩
  refine aH hS ?_
  refine aQ 11 (by kernel_rfl) E (ai E (al (r:=B true) E E E AR (aH hS ?_)))
  refine aQ 12 (by kernel_rfl) E (ap E E E (aH hS ?_))
  refine aQ 13 (by kernel_rfl) E (ac E E (aH hS ?_))
  refine aQ 14 (by kernel_rfl) E (ai E (ak E E ((ky.ext e11).ld Mz E (by kernel_rfl)) (aH hS ?_)))
  refine aQ 15 (by kernel_rfl) E (ai E (am oa E E (by have h:=ob (u:=u) (cC.ext n0 e11) (cC.ext n1 e11) (n2.ext e11) (n3.ext e11) (cC.ext n4 e11) (cC.ext n5 e11) (sw hE (by omega));rw[hV] at h;exact h) ?_))
  rintro _ w27 ⟨x27,rfl⟩
  have e11:aK wy w27:=e11.trans x27
  have hS:Mv (fun k=>k=g2) wy w27:=Mv.of_ext e11
  refine aH hS ?_
  refine aQ 16 (by kernel_rfl) E (ap E E E (aH hS ?_))
  refine aQ 17 (by kernel_rfl) E (ac E E (aH hS ?_))
  refine JZ 20 E E E (by kernel_rfl) E hS ?_
  refine aQ 18 (by kernel_rfl) E (ai E (ak E E ((ky.ext e11).ld Mz E (by kernel_rfl)) (aH hS ?_)))
  refine aQ 19 (by kernel_rfl) E (ai E (am GD E E (GF (u:=u) (cC.ext n0 e11) (cC.ext n1 e11) (n2.ext e11) (n3.ext e11) (cC.ext n4 e11) (cC.ext n5 e11) (xQ hE).2.1 (by rw[hpe];omega)) ?_))
  rintro v31 w31 ⟨x31,b31⟩
  have e11:aK wy w31:=e11.trans x31
  have hS:Mv (fun k=>k=g2) wy w31:=Mv.of_ext e11
  refine aH hS ?_
  refine aQ 21 (by kernel_rfl) E (ai E (am BZ E E (by have h:=B0 b31 (bpy.ext e11);rw[decide_eq_true hpe] at h;exact h) ?_))
  rintro _ w33 ⟨x33,rfl⟩
  have e11:aK wy w33:=e11.trans x33
  have hS:Mv (fun k=>k=g2) wy w33:=Mv.of_ext e11
  refine aH hS ?_
  refine Fc 22 E E E (by kernel_rfl) E hS ?_
  have k2g:=k2y.ext e11
  obtain⟨wd,sd,qd,kd⟩:=k2g.stS (P:=Tryz.prog) (t:=54) (m:=[vd,vl,I u.leaf.split.kd,I u.leaf.split.ix,B u.leaf.split.at_.1,x,y,vk,B u.leaf.empty,vp]) rfl (by kernel_rfl) h1cs
  have md:Mv (fun k=>k=g2) w33 wd:=Mv.of_grown qd fun k hk _=>(Option.some.inj hk).symm
  have hSd:Mv (fun k=>k=g2) wy wd:=(Mv.of_ext e11).trans md fun _ hj _=>hj
  have eF:aK w wd:=Mv.ext_from hSd eY (fun k hk=>by have:k=g2:=hk;omega)
  have rF:=(rpy.mv (hSd.weak fun j hj _=>by have:j=g2:=hj;show j<w9.heap.size;omega) fun _ hj=>.inl hj).weak (Y:=fun k=>k<w.heap.size) fun j hj=>.inl (by show j<w9.heap.size;omega)
  refine aQ 23 (by kernel_rfl) E (au E E sd (aH hSd ?_))
  refine aQ 24 (by kernel_rfl) E (ae E E (aH hSd (ii (by kernel_rfl) ?_)))
  refine ab (aw ?_)
  refine cD E E E kd Mz E (by kernel_rfl) ?_
  exact⟨_,rfl,eF,u,_,true,rfl,rF,h1cs,(fun _=>AJ hE hV),fun e=>nomatch e⟩
 ·have hS:Mv (fun k=>k=g2) wy wy.drew:=Mv.of_ext ((aK.refl wy).drew)
  have e11:aK wy wy.drew:=(aK.refl wy).drew
  refine ig (Mv (fun k=>k=g2) wy) 25 E (by kernel_rfl) ?_
  refine gd 0 E E (by kernel_rfl) E hS (fun w' hw'=>(hw'.blk ky (fun e=>by omega)).ld Mz E (by kernel_rfl)) ?_
  refine aQ 1 (by kernel_rfl) E (ac E E (aH hS ?_))
  refine aQ 2 (by kernel_rfl) E (ax E E (aH hS ?_))
  refine aQ 3 (by kernel_rfl) E (ah E E (ar (o:=1) MJ E (by kernel_rfl) E) (aH hS ?_))
  refine aQ 4 (by kernel_rfl) E (ak E E (aj MD E ((hmy.blk.ext e11).cell (i:=1) E)) (aH hS ?_))
  refine aQ 5 (by kernel_rfl) E (ac E E (aH hS ?_))
  refine aQ 6 (by kernel_rfl) E (ai E (ac E E (aH hS ?_)))
  refine aQ 7 (by kernel_rfl) E (ai E (ax E E (aH hS ?_)))
  refine aQ 8 (by kernel_rfl) E (ai E (ah E E (ar (o:=0) MJ E (by kernel_rfl) E) (aH hS ?_)))
  refine aQ 9 (by kernel_rfl) E (ai E (ak E E (aj MU E ((hmy.blk.ext e11).cell (i:=0) E)) (aH hS ?_)))
  refine aQ 10 (by kernel_rfl) E (ai E (am t7 E E (AX (hmy.rd.ext e11)) ?_))
  rintro _ _ ⟨rfl,rfl⟩
  refine aH hS ?_
  refine aQ 11 (by kernel_rfl) E (ai E (al (r:=B false) E E E Fd (aH hS ?_)))
  refine aQ 12 (by kernel_rfl) E (ap E E E (aH hS ?_))
  refine aQ 13 (by kernel_rfl) E (ac E E (aH hS ?_))
  refine aQ 14 (by kernel_rfl) E (an E E E (aH hS ?_))
  refine aQ 15 (by kernel_rfl) E (an E E E (aH hS ?_))
  refine aQ 16 (by kernel_rfl) E (aD E E E (aH hS ?_))
  refine aQ 17 (by kernel_rfl) E (ac E E (aH hS ?_))
  refine zy 18 E E E (by kernel_rfl) E hS ?_
  refine zy 20 E E E (by kernel_rfl) E hS ?_
  refine aQ 19 (by kernel_rfl) E (an E E E (aH hS ?_))
  refine aQ 21 (by kernel_rfl) E (an E E E (aH hS ?_))
  refine qG 22 E E E (by kernel_rfl) E hS ?_
  have k2g:=k2y.ext e11
  obtain⟨wd,sd,qd,kd⟩:=k2g.stS (P:=Tryz.prog) (t:=54) (m:=[vd,vl,I u.leaf.split.kd,I u.leaf.split.ix,B u.leaf.split.at_.1,x,y,vk,B u.leaf.empty,vp]) rfl (by kernel_rfl) h1cs
  have md:Mv (fun k=>k=g2) wy.drew wd:=Mv.of_grown qd fun k hk _=>(Option.some.inj hk).symm
  have hSd:Mv (fun k=>k=g2) wy wd:=(Mv.of_ext e11).trans md fun _ hj _=>hj
  have eF:aK w wd:=Mv.ext_from hSd eY (fun k hk=>by have:k=g2:=hk;omega)
  have rF:=(rpy.mv (hSd.weak fun j hj _=>by have:j=g2:=hj;show j<w9.heap.size;omega) fun _ hj=>.inl hj).weak (Y:=fun k=>k<w.heap.size) fun j hj=>.inl (by show j<w9.heap.size;omega)
  refine aQ 23 (by kernel_rfl) E (au E E sd (aH hSd ?_))
  refine aQ 24 (by kernel_rfl) E (ae E E (aH hSd (ii (by kernel_rfl) ?_)))
  refine ab (aw ?_)
  refine cD E E E kd Mz E (by kernel_rfl) ?_
  exact⟨_,rfl,eF,u,_,false,rfl,rF,h1cs,(fun e=>nomatch e),fun _=>LD hl hJ⟩
 ·have hS:Mv (fun k=>k=g2) wy wy.drew:=Mv.of_ext ((aK.refl wy).drew)
  have e11:aK wy wy.drew:=(aK.refl wy).drew
  refine ig (Mv (fun k=>k=g2) wy) 25 E (by kernel_rfl) ?_
  refine gd 0 E E (by kernel_rfl) E hS (fun w' hw'=>(hw'.blk ky (fun e=>by omega)).ld Mz E (by kernel_rfl)) ?_
  refine aQ 1 (by kernel_rfl) E (ac E E (aH hS ?_))
  refine aQ 2 (by kernel_rfl) E (ax E E (aH hS ?_))
  refine aQ 3 (by kernel_rfl) E (ah E E (ar (o:=1) MJ E (by kernel_rfl) E) (aH hS ?_))
  refine aQ 4 (by kernel_rfl) E (ak E E (aj MD E ((hmy.blk.ext e11).cell (i:=1) E)) (aH hS ?_))
  refine aQ 5 (by kernel_rfl) E (ac E E (aH hS ?_))
  refine aQ 6 (by kernel_rfl) E (an E E E (aH hS ?_))
  refine aQ 7 (by kernel_rfl) E (an E E E (aH hS ?_))
  refine aQ 8 (by kernel_rfl) E (an E E E (aH hS ?_))
  refine aQ 9 (by kernel_rfl) E (an E E E (aH hS ?_))
  refine aQ 10 (by kernel_rfl) E (an E E E (aH hS ?_))
  refine aQ 11 (by kernel_rfl) E (an E E E (aH hS ?_))
  refine aQ 12 (by kernel_rfl) E (aD E E E (aH hS ?_))
  refine aQ 13 (by kernel_rfl) E (ac E E (aH hS ?_))
  refine aQ 14 (by kernel_rfl) E (an E E E (aH hS ?_))
  refine aQ 15 (by kernel_rfl) E (an E E E (aH hS ?_))
  refine aQ 16 (by kernel_rfl) E (aD E E E (aH hS ?_))
  refine aQ 17 (by kernel_rfl) E (ac E E (aH hS ?_))
  refine zy 18 E E E (by kernel_rfl) E hS ?_
  refine zy 20 E E E (by kernel_rfl) E hS ?_
  refine aQ 19 (by kernel_rfl) E (an E E E (aH hS ?_))
  refine aQ 21 (by kernel_rfl) E (an E E E (aH hS ?_))
  refine qG 22 E E E (by kernel_rfl) E hS ?_
  have k2g:=k2y.ext e11
  obtain⟨wd,sd,qd,kd⟩:=k2g.stS (P:=Tryz.prog) (t:=54) (m:=[vd,vl,I u.leaf.split.kd,I u.leaf.split.ix,B u.leaf.split.at_.1,x,y,vk,B u.leaf.empty,vp]) rfl (by kernel_rfl) h1cs
  have md:Mv (fun k=>k=g2) wy.drew wd:=Mv.of_grown qd fun k hk _=>(Option.some.inj hk).symm
  have hSd:Mv (fun k=>k=g2) wy wd:=(Mv.of_ext e11).trans md fun _ hj _=>hj
  have eF:aK w wd:=Mv.ext_from hSd eY (fun k hk=>by have:k=g2:=hk;omega)
  have rF:=(rpy.mv (hSd.weak fun j hj _=>by have:j=g2:=hj;show j<w9.heap.size;omega) fun _ hj=>.inl hj).weak (Y:=fun k=>k<w.heap.size) fun j hj=>.inl (by show j<w9.heap.size;omega)
  refine aQ 23 (by kernel_rfl) E (au E E sd (aH hSd ?_))
  refine aQ 24 (by kernel_rfl) E (ae E E (aH hSd (ii (by kernel_rfl) ?_)))
  refine ab (aw ?_)
  refine cD E E E kd Mz E (by kernel_rfl) ?_
  exact⟨_,rfl,eF,u,_,false,rfl,rF,h1cs,(fun e=>nomatch e),fun _=>LC hl hJ⟩
end Go.Rl
namespace Go.Rl
open Go.RowKit Go.Proofs
theorem sG:aG Tryz.prog 44:=⟨_,Tryz.func44,by kernel_rfl,rfl⟩
def ya (l:List UInt8) (r:Value) (w:World):Prop:=match oA l with
 |some (p,t)=>∃vp,r=.tuple #[I ((l.length-t.length:Nat):Int),vp,B (decide (8≤t.length))]∧cJ p vp w
 |none=>r=.tuple #[I 0,.slice none 0 0,B false]
theorem J0 {l:List UInt8} (h:eW l=none):oA l=none:=by unfold oA;rw[h];rfl
theorem J1 {l:List UInt8} {n:Nat} (h:eW l=some (n,l.drop (uv n).length)) (hn:l.length-(uv n).length<n):oA l=none:=by
 unfold oA;rw[h]
 show(if n≤(l.drop (uv n).length).length then _ else _)=_
 rw[if_neg (by rw[List.length_drop];omega)]
theorem J2 {l:List UInt8} {n:Nat} (h:eW l=some (n,l.drop (uv n).length)) (hn:n≤l.length-(uv n).length):oA l=some ((l.drop (uv n).length).take n,l.drop ((uv n).length+n)):=by
 unfold oA;rw[h]
 show(if n≤(l.drop (uv n).length).length then _ else _)=_
 rw[if_pos (by rw[List.length_drop];omega),List.drop_drop]
theorem D7 {w:World} {l:List UInt8} {v:Value} (hv:cJ l v w) (hl:l.length≤4294967296):
 Calls Tryz.prog 44 #[v] w (bE fun r w'=>aK w w'∧ya l r w):=by
 refine enter (vs:=[v]) Tryz.func44 E E E ?_
 refine af (aa (ae E E (ae E E (ae E E (ag (ab (af (aa (ac E E (ac E E (aO E E (cT hv) ?_)))))))))))
 refine LQ (vs:=[I (l.length:Int),I 10]) E E JB ?_
 obtain⟨v15,p15,b15⟩:=iw hv (hi:=min l.length 10) (by omega) .i64
 refine cx E E E E E (p15 _) ?_
 have b15:cJ (l.take 10) v15 w:=by
  have e:l.take (min l.length 10)=l.take 10:=by rw[Nat.min_comm,←List.take_take,List.take_length]
  rw[e] at b15;exact b15
 refine ae E E (ag (ab (af (aa (ac E E (am Bf E E ((Bh b15 (by rw[List.length_take];omega))) ?_))))))
 rintro v17 w17 ⟨x17,g,lg,rfl,rr⟩
 refine ae E E (ag (ab (af ?_)))
 rcases hU:eW (l.take 10) with _|⟨n,t⟩
 rotate_left
 obtain⟨hs,hlen⟩:=AB hU
 have hn64:=(f9 hU).2
 rcases Nat.lt_or_ge (l.length-(uv n).length) n with hlt|hge
 ·refine aa (ac E E (am gW E E ((HT (st:=some (l.take 10)) rr hU)) ?_))
  rintro v20 w20 ⟨g16,rfl,r1⟩
  have x20:=(x17).of_new g16 lg
  refine ac E E (ao E E (bj) (ao E E (bk) (ae E E (ae E E (ag (ab (af (af (aa (ac E E (al E E E (cY (by decide) cX) ?_)))))))))))
  refine ag (ab (cr E (aC (ab (af (aa (ac E E (aO E E (cT (b15.ext x20)) (ac E E (am yL E E ((Ij r1)) ?_))))))))))
  rintro v28 _ ⟨rfl,rfl⟩
  refine al (r:=I (((uv n).length:Nat):Int)) E E E ((Ik (a:=(l.take 10).length) (b:=t.length) (by rw[List.length_take];omega) (by rw[List.length_take];omega))) ?_
  have hcl:(uv n).length≤l.length:=by omega
  refine ae E E (ag (ab (af (af (aa (ac E E (ac E E (aO E E (cT (hv.ext x20)) (ac E E (al (r:=I ((l.length-(uv n).length:Nat):Int)) E E E ((by have e:((l.length-(uv n).length:Nat):Int)=(l.length:Int)-((uv n).length:Int):=(by omega);rw[e];exact bD (by omega) (by omega))) ?_))))))))))
  refine a9 E E (fv Mx MA) (al E E E (ci ((Je (by omega) hn64).2 hlt) cQ) (ag (ab (bg E ?_))))
  refine af (aa (ae E E (ae E E (ae E E (ag (ab (aw (ay (km E E E E ?_)))))))))
  exact⟨_,rfl,x20,by unfold ya;rw[J1 hs hlt];exact rfl⟩
 ·refine aa (ac E E (am gW E E ((HT (st:=some (l.take 10)) rr hU)) ?_))
  rintro v20 w20 ⟨g16,rfl,r1⟩
  have x20:=(x17).of_new g16 lg
  refine ac E E (ao E E (bj) (ao E E (bk) (ae E E (ae E E (ag (ab (af (af (aa (ac E E (al E E E (cY (by decide) cX) ?_)))))))))))
  refine ag (ab (cr E (aC (ab (af (aa (ac E E (aO E E (cT (b15.ext x20)) (ac E E (am yL E E ((Ij r1)) ?_))))))))))
  rintro v28 _ ⟨rfl,rfl⟩
  refine al (r:=I (((uv n).length:Nat):Int)) E E E ((Ik (a:=(l.take 10).length) (b:=t.length) (by rw[List.length_take];omega) (by rw[List.length_take];omega))) ?_
  have hcl:(uv n).length≤l.length:=by omega
  refine ae E E (ag (ab (af (af (aa (ac E E (ac E E (aO E E (cT (hv.ext x20)) (ac E E (al (r:=I ((l.length-(uv n).length:Nat):Int)) E E E ((by have e:((l.length-(uv n).length:Nat):Int)=(l.length:Int)-((uv n).length:Int):=(by omega);rw[e];exact bD (by omega) (by omega))) ?_))))))))))
  refine a9 E E (fv Mx MA) (al E E E (cY (mt (Je (by omega) hn64).1 (by omega)) cQ) (ag ?_))
  refine ab (cr E (aC (ab (af (aa (ac E E (ac E E (a9 E E (EF MA Mx (by omega)) ?_))))))))
  refine al (r:=I (((uv n).length+n:Nat):Int)) E E E (by have e:(((uv n).length+n:Nat):Int)=(((uv n).length:Nat):Int)+(n:Int):=(by omega);rw[e];exact aN (by omega) (by omega)) ?_
  refine ae E E (ag (ab (af ?_)))
  have hd:aK w20 w20.drew:=(aK.refl w20).drew
  obtain⟨v45,p45,b45⟩:=uM hv (lo:=(uv n).length) (hi:=(uv n).length+n) (by omega) (by omega) .i64 .i64
  refine ig (aK w20) 13 E (by kernel_rfl) ?_
  refine fD 0 E E (by kernel_rfl) E hd ?_
  refine fD 1 E E (by kernel_rfl) E hd ?_
  refine fD 2 E E (by kernel_rfl) E hd ?_
  refine fD 3 E E (by kernel_rfl) E hd ?_
  refine Fb 4 E E E E E (by kernel_rfl) E hd (fun w' _=>p45 w') ?_
  refine fD 5 E E (by kernel_rfl) E hd ?_
  refine Kv 6 (r:=I (l.length:Int)) E E (by kernel_rfl) E hd (fun w' hw'=>cT (hv.ext (x20.trans hw'))) ?_
  refine fD 7 E E (by kernel_rfl) E hd ?_
  refine Ku 8 (r:=I ((l.length-((uv n).length+n):Nat):Int)) E E E (by kernel_rfl) E hd (fun w' _=>by
   have e:((l.length-((uv n).length+n):Nat):Int)=(l.length:Int)-(((uv n).length+n:Nat):Int):=by omega
   rw[e];exact bD (by omega) (by omega)) ?_
  refine Ku 9 (r:=B (decide (((l.length-((uv n).length+n):Nat):Int)≥8))) E E E (by kernel_rfl) E hd (fun w' _=>gx) ?_
  refine aQ 10 (by kernel_rfl) E (ae E E (aH hd ?_))
  refine aQ 11 (by kernel_rfl) E (ae E E (aH hd ?_))
  refine aQ 12 (by kernel_rfl) E (ae E E (aH hd (ii (by kernel_rfl) ?_)))
  refine ab (aw (km E E E E ?_))
  exact⟨_,rfl,x20.drew,by
   unfold ya
   rw[J2 hs hge]
   refine⟨v45,?_,?_⟩
   ·have e1:l.length-(l.drop ((uv n).length+n)).length=(uv n).length+n:=by rw[List.length_drop];omega
    have e2:decide (((l.length-((uv n).length+n):Nat):Int)≥8)=decide (8≤(l.drop ((uv n).length+n)).length):=decide_eq_decide.2 (by rw[List.length_drop];omega)
    rw[e1,e2]
   ·have e3:(l.take ((uv n).length+n)).drop (uv n).length=(l.drop (uv n).length).take n:=by rw[List.drop_take];congr 1;omega
    exact e3▸b45⟩
 ·refine aa (ac E E (am gW E E ((Kx (st:=some (l.take 10)) rr hU)) ?_))
  rintro v20 w20 ⟨g16,rfl,r1⟩
  have x20:=(x17).of_new g16 lg
  refine ac E E (ao E E (bj) (ao E E (bk) (ae E E (ae E E (ag (ab (af (af (aa (ac E E (al E E E (ci (by decide) cX) ?_)))))))))))
  refine ag (ab (bg E (af (aa (ae E E (ae E E (ae E E (ag (ab (aw (ay (km E E E E ?_))))))))))))
  exact⟨_,rfl,x20,by unfold ya;rw[J0 (AC hU)];exact rfl⟩
end Go.Rl
namespace Go.Rl
open Go.RowKit Go.Proofs
theorem qJ:aG Tryz.prog 41:=⟨_,Tryz.func41,by kernel_rfl,rfl⟩
theorem GJ {b:List UInt8} {k:Nat} (hk:k+8≤b.length):eV b k=decide ((j3 (b.take k)).take 8=(b.take (k+8)).drop k):=by
 unfold eV
 rw[decide_eq_true hk,Bool.true_and]
 refine decide_eq_decide.2 ?_
 have e:b.take (k+8)=b.take k++(b.take (k+8)).drop k:=by
  have h:=List.take_append_drop k (b.take (k+8))
  rw[List.take_take,Nat.min_eq_left (by omega)] at h
  exact h.symm
 unfold Cq
 constructor
 ·intro h
  rw[e] at h
  exact List.append_cancel_left h
 ·intro h
  rw[h,←e]
theorem GK {b:List UInt8} {k:Nat}:b.take k++(b.take (k+8)).drop k=b.take (k+8):=by
 have h:=List.take_append_drop k (b.take (k+8))
 rw[List.take_take,Nat.min_eq_left (by omega)] at h
 exact h
theorem qK {w:World} {b:List UInt8} {v:Value} {k gh g7 g1:Nat} (hb:cJ b v w) (k7:ct g7 88 [.pointer (some ⟨gh,0,none⟩)] w) (k1:ct g1 22 [v] w) (hh:HA gh (b.take k) (UInt64.ofNat k) w) (hk:k+8≤b.length) (hl:b.length≤4294967296) (hloc:∀A n c,v=.slice A n c→ru A gh):
 Calls Tryz.prog 41 #[I (k:Int),.pointer (some ⟨g7,0,none⟩),.pointer (some ⟨g1,0,none⟩)] w (bE fun r w'=>Mv (fun j=>j=gh) w w'∧r=B (eV b k)∧HA gh (b.take (k+8)) (UInt64.ofNat (k+8)) w'):=by
 refine enter (vs:=[I (k:Int),.pointer (some ⟨g7,0,none⟩),.pointer (some ⟨g1,0,none⟩)]) Tryz.func41 E E E ?_
 have hhl:=hh.lt
 have hh0:HA gh (b.take k) (UInt64.ofNat (b.take k).length) w:=by rw[List.length_take,Nat.min_eq_left (by omega)];exact hh
 refine af (aa (ae E E (ag (ab (af (aa ?_))))))
 refine ak E E (aj MX E k7.k0) ?_
 refine am zi E E ((zj hh0)) ?_
 rintro v8 w8 ⟨x8,rfl⟩
 obtain⟨g5,w5,hr5,l5,x5,k5⟩:=aX (P:=Tryz.prog) (w:=w8) (t:=24) (l:=(List.replicate 32 0).map U8) ip rfl
 refine aT E hr5 ?_
 obtain⟨w6,s6,q6,k6⟩:=k5.stS (P:=Tryz.prog) (t:=24) (m:=(j3 (b.take k)).map U8) (by simp[dJ]) (by rw[List.length_map,dJ];exact jj) (ep _)
 refine au E E s6 ?_
 have x6:=x5.of_new q6 l5
 have b32:cJ (j3 (b.take k)) (.slice (some ⟨g5,0,none⟩) 32 32) w6:=by
  have:=k6.bts (by rw[dJ];omega)
  rwa [dJ] at this
 have b8:=b32.front (k:=8) (by omega) (by omega)
 have e6:aK w w6:=x8.trans x6
 have hb6:=hb.ext e6
 obtain⟨v14,p14,b14⟩:=uM hb6 (lo:=k) (hi:=k+8) (by omega) (by omega) .i64 .i64
 have haw:AG gh v14:=by
  obtain⟨A,n,c,hveq,_⟩:=hb
  subst hveq
  intro a n' c' e he
  have h:=tT (p14 w) (hloc _ _ _ rfl) _ _ _ e a rfl
  omega
 refine ag (ab (af (bI 7 [0,1,2,15] (by kernel_rfl) (by kernel_rfl) ?_)))
 refine gw (a:=none) (b:=some (I 8)) E E E E (fun w _=>AN) ?_
 refine aP E E (fun w' hw=>aj MB E ((k1.ext e6).ext hw).k0) (aA E E (aA E E (bb (r:=I ((k+8:Nat):Int)) E E E (fun w _=>by have e:((k+8:Nat):Int)=(k:Int)+8:=(by omega);rw[e];exact aN (by omega) (by omega)) ?_)))
 refine gw (a:=some (I (k:Int))) (b:=some (I ((k+8:Nat):Int))) E E E E (fun w _=>p14 w) ?_
 refine cn (S:=Is (B (eV b k))) BZ (cb.is _) rfl (fun w hw=>by rintro _ rfl _ rfl;exact bE.mono (B0 (b8.ext hw) (b14.ext hw)) fun v w' h=>⟨h.1,by rw[GJ hk];exact h.2⟩) ?_
 refine cq ?_
 intro wg2 xg2
 rintro _ rfl
 rintro _ rfl
 rintro _ rfl
 rintro _ rfl
 refine ae E E (ag (ab (af (bI 6 [6,16,21] (by kernel_rfl) (by kernel_rfl) ?_))))
 refine aP E E (fun w' hw=>aj MX E (((k7.ext e6).ext xg2).ext hw).k0) (aP E E (fun w' hw=>aj MB E (((k1.ext e6).ext xg2).ext hw).k0) ?_)
 refine aA E E (aA E E (bb (r:=I ((k+8:Nat):Int)) E E E (fun w _=>by have e:((k+8:Nat):Int)=(k:Int)+8:=(by omega);rw[e];exact aN (by omega) (by omega)) ?_))
 refine gw (a:=some (I (k:Int))) (b:=some (I ((k+8:Nat):Int))) E E E E (fun w _=>p14 w) ?_
 refine cq ?_
 intro wg3 xg3
 rintro _ rfl
 rintro _ rfl
 rintro _ hq21
 obtain rfl:=Eq.symm hq21
 refine am gN E E ((gO (hh.ext ((e6.trans xg2).trans xg3)) (b14.ext (xg2.trans xg3)) fun _=>haw)) ?_
 rintro v22 w22 ⟨g22,h22⟩
 refine ag (ab (af (aa (ac E E (ae E E (ag (ab (aw (az E E ?_)))))))))
 exact⟨_,rfl,(Mv.of_ext ((e6.trans xg2).trans xg3)).trans (Mv.of_grown g22 fun j hj _=>(Option.some.inj hj).symm) fun _ h _=>h,rfl,by
  rw[GK] at h22
  have e:UInt64.ofNat k+UInt64.ofNat ((b.take (k+8)).drop k).length=UInt64.ofNat (k+8):=by
   have:((b.take (k+8)).drop k).length=8:=by rw[List.length_drop,List.length_take];omega
   rw[this,←UInt64.ofNat_add]
  rw[e] at h22
  exact h22⟩
end Go.Rl
namespace Go.Rl
open Go.RowKit Go.Proofs
theorem qL:aG Tryz.prog 13:=⟨_,Tryz.func13,by kernel_rfl,rfl⟩
theorem J3 {b:List UInt8} {k n:Nat}:b.take k++(b.take (k+n)).drop k=b.take (k+n):=by
 have h:=List.take_append_drop k (b.take (k+n))
 rw[List.take_take,Nat.min_eq_left (by omega)] at h
 exact h
theorem HA.on {g k n:Nat} {b:List UInt8} {w:World} (hk:k+n≤b.length) (h:HA g (b.take k++(b.take (k+n)).drop k) (UInt64.ofNat k+UInt64.ofNat ((b.take (k+n)).drop k).length) w):HA g (b.take (k+n)) (UInt64.ofNat (k+n)) w:=by
 rw[J3] at h
 have e:UInt64.ofNat k+UInt64.ofNat ((b.take (k+n)).drop k).length=UInt64.ofNat (k+n):=by
  have:((b.take (k+n)).drop k).length=n:=by rw[List.length_drop,List.length_take];omega
  rw[this,←UInt64.ofNat_add]
 rw[e] at h
 exact h
theorem IX {b p t:List UInt8} {k:Nat} (h:oA (b.drop k)=some (p,t)) (he:jC p=none):gA b k=none:=by
 cases hc:eV b (b.length-t.length) with
 |false=>exact pG h hc
 |true=>exact Cw h hc he
theorem IY {b:List UInt8} {k:Nat} (h:b.length<k+8):eV b k=false:=by
 unfold eV;rw[decide_eq_false (by omega)];rfl
theorem AY {b x:List UInt8} {v r:Value} {g:Nat} {w:World} {lo hi mx:Option Value} (hb:cJ b v w) (hloc:∀A n c,v=.slice A n c→ru A g) (hrun:(Instr.sliceAt 22 v lo hi mx).run Tryz.prog w=.ok r w):0<x.length→AG g r:=by
 obtain⟨A,n,c,hveq,_⟩:=hb
 subst hveq
 intro _ a n' c' e he
 have h:=tT hrun (hloc _ _ _ rfl) _ _ _ e a rfl
 omega
theorem J4 {b:List UInt8} {v:Value} {w:World} {g:Nat} (hb:cJ b v w) (h0:0<b.length) (hg:w.heap.size≤g):∀A n c,v=.slice A n c→ru A g:=by
 obtain⟨A,n,c,rfl,h1,h2,h3,h4,h5⟩:=hb
 intro A' n' c' e ad hA
 cases e
 obtain⟨ad',e',hc⟩:=h4 (by simp at h3;omega)
 rw[hA] at e'
 cases e'
 have:=hc.block_lt (by intro e;simp at e;simp[e] at h0)
 omega
theorem Mn {g:Nat} {m:List UInt8} {tot:UInt64} {w w':World} {X:Nat→Prop} (h:HA g m tot w) (hm:Mv X w w') (hx:¬X g):HA g m tot w':=by
 obtain⟨blk,hc,ht⟩:=h
 exact⟨blk,⟨hm.blk hc.hb hx,hc.ls,hc.lb⟩,ht⟩
theorem uF {w:World} {b:List UInt8} {v:Value} (hv:cJ b v w) (hl:b.length≤7340032):
 Calls Tryz.prog 13 #[v] w (bE fun r w'=>aK w w'∧jG w.heap.size b r w'):=by
 refine enter (vs:=[v]) Tryz.func13 E E E ?_
 refine af (aa ?_)
 have hvc:v.cells=[v].toArray:=by obtain⟨A,n,c,rfl,_⟩:=hv;rfl
 obtain⟨g1,w1,hr1,l1,x1,k1⟩:=Dv (P:=Tryz.prog) (w:=w) (t:=22) (l:=[v]) hvc
 refine cM E E hr1 ?_
 obtain⟨g2,w2,hr2,l2,x2,k2⟩:=aX (P:=Tryz.prog) (w:=w1) (t:=24) (l:=oC.map U8) ip rfl
 refine aT E hr2 ?_
 have g12:g1<g2:=by have:=k1.lt;omega
 have e2:aK w w2:=x1.trans x2
 have k12:=k1.ext x2
 have hv2:=hv.ext e2
 refine ae E E (ae E E (ae E E (ag (ab (af (aa (ae E E (ag (ab (af (af (aa ?_))))))))))))
 refine ak E E (aj MB E k12.k0) ?_
 refine aO E E (cT hv2) (ac E E (al (r:=I ((44:Nat):Int)) E E E (by have e:((44:Nat):Int)=36+8:=(by omega);rw[e];exact aN (by omega) (by omega)) ?_))
 refine al E E E (aV) (ac E E ?_)
 refine ce (fun h20=>?_) (fun h20=>?_)
 ·refine an E E E (an E E E (an E E E (an E E E (ap E E E (ag (ab (bg E (af (aa ?_)))))))))
  refine bA (vs:=[]) (r:=.agg (oC.map U8).toArray) E E (run_build _ _ _ _ (by kernel_rfl)) ?_
  obtain⟨wR,sR,qR,kR⟩:=k2.stS (P:=Tryz.prog) (t:=24) (m:=oC.map U8) rfl en (ep _)
  refine au E E sR ?_
  have xR:=aK.of_new e2 qR (Nat.le_trans x1.size l2)
  refine ae E E (ae E E (ae E E (ag (ab (aw (ay ?_))))))
  refine fm E E E E E kR MK E en ?_
  exact⟨_,rfl,xR,jG.err (by
   first
   |exact .inl (by omega)
   |exact .inr (.inl (by assumption)))⟩
 ·refine ai E ?_
  refine ak E E (aj MB E k12.k0) ?_
  refine ai E ?_
  obtain⟨v22,p22,b22⟩:=iw hv2 (hi:=4) (by omega) .i64
  refine cx E E E E E (p22 _) (ai E (a9 E E (Ba b22) (ai E (al (v:=S [82,76,85,74]) E E E (zU) (aD E E E ?_)))))
  refine ag (ab ?_)
  refine bz E (fun h25=>?_) (fun h25=>?_)
  ·refine af (aa ?_)
   refine bA (vs:=[]) (r:=.agg (oC.map U8).toArray) E E (run_build _ _ _ _ (by kernel_rfl)) ?_
   obtain⟨wR,sR,qR,kR⟩:=k2.stS (P:=Tryz.prog) (t:=24) (m:=oC.map U8) rfl en (ep _)
   refine au E E sR ?_
   have xR:=aK.of_new e2 qR (Nat.le_trans x1.size l2)
   refine ae E E (ae E E (ae E E (ag (ab (aw (ay ?_))))))
   refine fm E E E E E kR MK E en ?_
   exact⟨_,rfl,xR,jG.err (by
    first
    |exact .inl (by omega)
    |exact .inr (.inl (by assumption)))⟩
  ·refine aC (ab (af ?_))
   have h44:44≤b.length:=by omega
   refine aa (am zg E E ((zh _)) ?_)
   rintro v27 w27 ⟨x27,gh,lgh,rfl,hh27⟩
   obtain⟨g7,w7,hr7,l7,x7,k7⟩:=aX (P:=Tryz.prog) (w:=w27) (t:=88) (z:=.pointer none) (l:=[.pointer none]) (by kernel_rfl) rfl
   refine aT E hr7 ?_
   obtain⟨w8,s8,q8,k8⟩:=k7.stC (P:=Tryz.prog) (t:=88) (i:=0) (v:=.pointer (some ⟨gh,0,none⟩)) (by kernel_rfl) rfl (by simp)
   refine au E E s8 ?_
   have x8:=aK.of_new x7 q8 l7
   have k8:ct g7 88 [.pointer (some ⟨gh,0,none⟩)] w8:=k8
   have hh8:=hh27.ext x8
   have e8:aK w w8:=(e2.trans x27).trans x8
   have hv8:=hv.ext e8
   have k18:=(k12.ext x27).ext x8
   have k28:=(k2.ext x27).ext x8
   have ghlt:=hh27.lt
   have g2lt:=k2.lt
   have g17:g7≠gh:=by omega
   have g1h:g1≠gh:=by omega
   have g2h:g2≠gh:=by omega
   have hgh:w.heap.size≤gh:=by have:=e2.size;omega
   have hloc:=J4 hv (by omega) hgh
   obtain⟨v31,p31,b31⟩:=iw hv8 (hi:=36) (by omega) .i64
   refine ag (ab (af (bI 4 [1,2,6,7,28,31] (by kernel_rfl) (by kernel_rfl) ?_)))
   refine aP E E (fun w' hw=>aj MX E (k8.ext hw).k0) (aP E E (fun w' hw=>aj MB E (k18.ext hw).k0) ?_)
   refine aA E E ?_
   refine gw (a:=none) (b:=some (I 36)) E E E E (fun w _=>p31 w) ?_
   refine cq ?_
   intro wg5 xg5
   rintro _ rfl
   rintro _ rfl
   rintro _ rfl
   rintro _ rfl
   rintro _ rfl
   rintro _ hq31
   obtain rfl:=Eq.symm hq31
   refine am gN E E ((gO (hh8.ext xg5) (b31.ext xg5) (AY hv8 hloc (p31 _)))) ?_
   rintro v32 w32 ⟨g32,h32⟩
   have hh32:HA gh (b.take 36) (UInt64.ofNat 36) w32:=by
    have e:(0:UInt64)+UInt64.ofNat (b.take 36).length=UInt64.ofNat 36:=by rw[List.length_take,Nat.min_eq_left (by omega)];rfl
    rw[e] at h32
    exact h32
   have m32:Mv (fun j=>j=gh) w8 w32:=(Mv.of_ext xg5).trans (Mv.of_grown g32 fun j hj _=>(Option.some.inj hj).symm) fun _ hj _=>hj
   have k732:=m32.blk k8 g17
   have k132:=m32.blk k18 g1h
   have k232:=m32.blk k28 g2h
   have hv32:=hv.ext (Mv.ext_from m32 e8 fun j hj=>by have:j=gh:=hj;omega)
   refine ag (ab (af (aa ?_)))
   refine CT (us:=[]) (vs:=[.pointer (some ⟨g7,0,none⟩),.pointer (some ⟨g1,0,none⟩)]) E E E ?_
   refine ae E E (ag (ab (af (af ?_))))
   rcases hC:eV b 36
   ·refine aa (ac E E (ac E E (mC E qJ E E ((by have h:=qK (k:=36) hv32 k732 k132 hh32 (by omega) (by omega) hloc;rw[hC] at h;exact h)) ?_)))
    rintro v36 w36 ⟨m36,rfl,hh36⟩
    have m836:=m32.trans m36 fun _ hj _=>hj
    have k236:=m36.blk k232 g2h
    refine bt E E bu (ag (ab (bg E (af (aa ?_)))))
    refine bA (vs:=[]) (r:=.agg (oC.map U8).toArray) E E (run_build _ _ _ _ (by kernel_rfl)) ?_
    obtain⟨wR,sR,qR,kR⟩:=k236.stS (P:=Tryz.prog) (t:=24) (m:=oC.map U8) rfl en (ep _)
    refine au E E sR ?_
    have xR:=aK.of_new (Mv.ext_from m836 e8 fun j hj=>by have:j=gh:=hj;omega) qR (Nat.le_trans x1.size l2)
    refine ae E E (ae E E (ae E E (ag (ab (aw (ay ?_))))))
    refine fm E E E E E kR MK E en ?_
    exact⟨_,rfl,xR,jG.err (.inr (.inr hC))⟩
   ·refine aa (ac E E (ac E E (mC E qJ E E ((by have h:=qK (k:=36) hv32 k732 k132 hh32 (by omega) (by omega) hloc;rw[hC] at h;exact h)) ?_)))
    rintro v36 w36 ⟨m36,rfl,hh36⟩
    have m836:=m32.trans m36 fun _ hj _=>hj
    have k236:=m36.blk k232 g2h
    have k136:=m36.blk k132 g1h
    have k736:=m36.blk k732 g17
    have e36:aK w w36:=Mv.ext_from m836 e8 fun j hj=>by have:j=gh:=hj;omega
    have gh36:=hh36.lt
    refine bt E E bu (ag (ab (cr E (aC (ab (af (aa (ac E E (al (r:=I ((44:Nat):Int)) E E E (by have e:((44:Nat):Int)=36+8:=(by omega);rw[e];exact aN (by omega) (by omega)) ?_)))))))))
    refine ae E E (ag (ab (af ?_)))
    have hOK:¬(b.length<44∨b.take 4≠lz∨eV b 36=false):=by
     rintro(h|h|h)
     ·omega
     ·exact h25 h
     ·rw[hC] at h;cases h
    have s32:(Tryz.prog.info? 24).map (·.size)=some ((((b.take 36).drop 4)).map U8).length:=by rw[List.length_map,List.length_drop,List.length_take,Nat.min_eq_left (by omega)];exact jj
    refine aa (ae E E (ag (ab (af (aE ?_)))))
    refine kA (fun(k:Nat) (ve:Value) (es:List bZ)=>[(1,.pointer (some ⟨g1,0,none⟩)),(2,.pointer (some ⟨g2,0,none⟩)),(6,I 36),(7,.pointer (some ⟨g7,0,none⟩)),(8,.func (.func 41) #[] #[.pointer (some ⟨g7,0,none⟩),.pointer (some ⟨g1,0,none⟩)]),(9,I (k:Int)),(10,ve)]) (fun(k:Nat) (ve:Value) (es:List bZ) w'=>Mv (fun j=>j=gh) w36 w'∧HA gh (b.take k) (UInt64.ofNat k) w'∧gq 54 10 w36.heap.size i7 es ve w'∧44≤k∧k≤b.length∧fQ b 44=(es++(fQ b k).1,(fQ b k).2)∧es.length≤k) (fun(k:Nat) (ve:Value) (es:List bZ)=>b.length-k) (44) (.slice none 0 0) ([]) ⟨rfl,rfl,rfl,rfl,rfl,rfl,rfl,trivial⟩ ⟨Mv.refl _ _,hh36,gq.nil _,by omega,by omega,by simp,by simp⟩ ?_
    rintro k ve es wL ⟨mL,hhL,oL,hk1,hk2,hJ,hel⟩
    refine aE (af ?_)
    have szL:=mL.size
    have k1L:=mL.blk k136 g1h
    have k2L:=mL.blk k236 g2h
    have k7L:=mL.blk k736 g17
    have eL:aK w wL:=Mv.ext_from mL e36 fun j hj=>by have:j=gh:=hj;omega
    have hvL:=hv.ext eL
    have hdl:(b.drop k).length=b.length-k:=List.length_drop
    obtain⟨v44,p44,b44⟩:=gG hvL (lo:=k) (by omega) .i64
    have hrec:=D7 b44 (by omega)
    rcases hB:oA (b.drop k) with _|⟨p,t⟩
    rotate_left
    have hbl:=Il hB
    rcases Nat.lt_or_ge t.length 8 with h8|h8
    ·simp only[ya,hB,decide_eq_false (Nat.not_le.2 h8)] at hrec
     refine aa ?_
     refine ak E E (aj MB E k1L.k0) ?_
     refine ac E E ?_
     refine cx E E E E E (p44 _) ?_
     refine am sG E E (hrec) ?_
     rintro v45 w45 ⟨x45,vp,rfl,bp⟩
     refine ac E E (ao E E (fL) (ao E E (fM) (ao E E (fN) (ae E E (ae E E (ae E E (ag ?_)))))))
     refine ab (af (af (aa (ac E E (bt E E bu (ag (ab (bg E (bc (aI (yn E (aI (be (ab (af ?_)))))))))))))))
     have mX:=Mv.of_ext (X:=fun j=>j=gh) x45
     have hfin:=DZ hJ (pG hB (IY (by omega)))
     have k1X:=mX.blk k1L g1h
     have k2X:=mX.blk k2L g2h
     have eX:=Mv.ext_from mX eL fun j hj=>by have:j=gh:=hj;omega
     obtain⟨v84,p84,b84⟩:=uM (hv.ext eX) (lo:=4) (hi:=36) (by omega) (by omega) .i64 .i64
     have l84:((b.take 36).drop 4).length=32:=by rw[List.length_drop,List.length_take];omega
     obtain⟨ad,p85,c85⟩:=EU b84 l84
     obtain⟨wR,sR,qR,kR⟩:=k2X.stS (P:=Tryz.prog) (t:=24) (m:=((b.take 36).drop 4).map U8) (by rw[List.length_map,List.length_map,l84];rfl) s32 (ep _)
     have eR:=aK.of_new eX qR (Nat.le_trans x1.size l2)
     have oR:=(oL.mv mX fun j hj=>by have:j=gh:=hj;omega).mv (Mv.of_grown (X:=fun j=>j=g2) qR fun j hj _=>(Option.some.inj hj).symm) fun j hj=>by have:j=g2:=hj;have:=k236.lt;omega
     refine aa ?_
     refine ak E E (aj MB E k1X.k0) ?_
     refine ac E E ?_
     refine cx E E E E E (p84 _) ?_
     refine pV E E (p85 _) ?_
     refine ak E E (vE c85 l84) ?_
     refine ac E E (ac E E ?_)
     refine au E E sR ?_
     refine ae E E (ae E E (ae E E (ag (ab (aw ?_)))))
     refine fm E E E E E kR MK E s32 ?_
     exact⟨_,rfl,eR,jG.ok hOK hfin ((oR.rpx cw (by omega)).weak fun j hj=>.inl (by show j<w36.heap.size;have:=e36.size;omega))⟩
    ·simp only[ya,hB,decide_eq_true h8] at hrec
     have ekn:k+((b.drop k).length-t.length)=b.length-t.length:=by omega
     refine aa ?_
     refine ak E E (aj MB E k1L.k0) ?_
     refine ac E E ?_
     refine cx E E E E E (p44 _) ?_
     refine am sG E E (hrec) ?_
     rintro v45 w45 ⟨x45,vp,rfl,bp⟩
     refine ac E E (ao E E (fL) (ao E E (fM) (ao E E (fN) (ae E E (ae E E (ae E E (ag ?_)))))))
     refine ab (af (af (aa (ac E E (bt E E bu (ag (ab (cr E (aC (ab (af (aa (ac E E (am D0 E E ((D1 (bp.ext x45) (by omega))) ?_))))))))))))))
     rintro v53 w53 ⟨x53,u,cs,ok,rfl,rp53,h1cs,hok1,hok2⟩
     refine ac E E (ao E E (bj) (ao E E (bk) ?_))
     obtain⟨g14,w14,hr14,l14,x14,k14⟩:=aX (P:=Tryz.prog) (w:=w53) (t:=54) (z:=.agg #[.slice none 0 0,.slice none 0 0,I 0,I 0,B false,.slice none 0 0,.slice none 0 0,.slice none 0 0,B false,.slice none 0 0]) (l:=[.slice none 0 0,.slice none 0 0,I 0,I 0,B false,.slice none 0 0,.slice none 0 0,.slice none 0 0,B false,.slice none 0 0]) (by kernel_rfl) rfl
     refine aT E hr14 ?_
     have hcs:cs.length=10:=rp53.len.trans (cw u)
     obtain⟨wE,sE,qE,kE⟩:=k14.stS (P:=Tryz.prog) (t:=54) (m:=cs) (by rw[hcs];rfl) (by rw[hcs];kernel_rfl) h1cs
     refine au E E sE ?_
     have xE:=aK.of_new x14 qE l14
     have eLE:aK wL wE:=(x45.trans x53).trans xE
     have rpE:=rp53.ext xE
     have k7E:=k7L.ext eLE
     have k1E:=k1L.ext eLE
     have hhE:=hhL.ext eLE
     have hvE:=hvL.ext eLE
     have s45:=x45.size
     have g14h:g14≠gh:=by have:=x53.size;have:=mL.size;omega
     obtain⟨v62,p62,b62⟩:=uM hvE (lo:=k) (hi:=k+((b.drop k).length-t.length)) (by omega) (by omega) .i64 .i64
     refine ae E E (ag (ab (af ?_)))
     rcases hok:ok
     ·subst hok
      refine bI 7 [1,2,6,7,8,9,10,11,13,14,56,62] (by kernel_rfl) (by kernel_rfl) ?_
      refine aP E E (fun w' hw=>aj MX E (k7E.ext hw).k0) (aP E E (fun w' hw=>aj MB E (k1E.ext hw).k0) ?_)
      refine aA E E (aA E E (aA E E (bb (r:=I ((k+((b.drop k).length-t.length):Nat):Int)) E E E (fun w _=>by have e:((k+((b.drop k).length-t.length):Nat):Int)=(k:Int)+(((b.drop k).length-t.length):Nat):=(by omega);rw[e];exact aN (by omega) (by omega)) ?_)))
      refine gw (a:=some (I (k:Int))) (b:=some (I ((k+((b.drop k).length-t.length):Nat):Int))) E E E E (fun w _=>p62 w) ?_
      refine cq ?_
      intro wg14 xg14
      rintro _ rfl
      rintro _ rfl
      rintro _ rfl
      rintro _ rfl
      rintro _ rfl
      rintro _ rfl
      rintro _ hq10
      obtain rfl:=Eq.symm hq10
      rintro _ rfl
      rintro _ rfl
      rintro _ rfl
      rintro _ rfl
      rintro _ hq62
      obtain rfl:=Eq.symm hq62
      refine am gN E E ((gO (hhE.ext xg14) (b62.ext xg14) (AY hvE hloc (p62 _)))) ?_
      rintro v63 w63 ⟨g63,h63⟩
      have hh63:=HA.on (by omega) h63
      have m63:Mv (fun j=>j=gh) wL w63:=(Mv.of_ext (eLE.trans xg14)).trans (Mv.of_grown g63 fun j hj _=>(Option.some.inj hj).symm) fun _ hj _=>hj
      have mE63:Mv (fun j=>j=gh) wE w63:=(Mv.of_ext xg14).trans (Mv.of_grown g63 fun j hj _=>(Option.some.inj hj).symm) fun _ hj _=>hj
      have k763:=m63.blk k7L g17
      have k163:=m63.blk k1L g1h
      have hv63:=hv.ext (Mv.ext_from m63 eL fun j hj=>by have:j=gh:=hj;omega)
      refine ag (ab (af (af (aa (ac E E (bt E E bu (ac E E (an E E E (an E E E (an E E E (an E E E (an E E E ?_))))))))))))
      refine an E E E (ap E E E (ag (ab (bg E (bc (aI (yn E (aI (be (ab (af ?_)))))))))))
      have mX:=m63
      have hfin:=DZ hJ (IX hB (hok2 rfl))
      have k1X:=mX.blk k1L g1h
      have k2X:=mX.blk k2L g2h
      have eX:=Mv.ext_from mX eL fun j hj=>by have:j=gh:=hj;omega
      obtain⟨v84,p84,b84⟩:=uM (hv.ext eX) (lo:=4) (hi:=36) (by omega) (by omega) .i64 .i64
      have l84:((b.take 36).drop 4).length=32:=by rw[List.length_drop,List.length_take];omega
      obtain⟨ad,p85,c85⟩:=EU b84 l84
      obtain⟨wR,sR,qR,kR⟩:=k2X.stS (P:=Tryz.prog) (t:=24) (m:=((b.take 36).drop 4).map U8) (by rw[List.length_map,List.length_map,l84];rfl) s32 (ep _)
      have eR:=aK.of_new eX qR (Nat.le_trans x1.size l2)
      have oR:=(oL.mv mX fun j hj=>by have:j=gh:=hj;omega).mv (Mv.of_grown (X:=fun j=>j=g2) qR fun j hj _=>(Option.some.inj hj).symm) fun j hj=>by have:j=g2:=hj;have:=k236.lt;omega
      refine aa ?_
      refine ak E E (aj MB E k1X.k0) ?_
      refine ac E E ?_
      refine cx E E E E E (p84 _) ?_
      refine pV E E (p85 _) ?_
      refine ak E E (vE c85 l84) ?_
      refine ac E E (ac E E ?_)
      refine au E E sR ?_
      refine ae E E (ae E E (ae E E (ag (ab (aw ?_)))))
      refine fm E E E E E kR MK E s32 ?_
      exact⟨_,rfl,eR,jG.ok hOK hfin ((oR.rpx cw (by omega)).weak fun j hj=>.inl (by show j<w36.heap.size;have:=e36.size;omega))⟩
     ·subst hok
      have hent:=hok1 rfl
      refine bI 7 [1,2,6,7,8,9,10,11,13,14,56,62] (by kernel_rfl) (by kernel_rfl) ?_
      refine aP E E (fun w' hw=>aj MX E (k7E.ext hw).k0) (aP E E (fun w' hw=>aj MB E (k1E.ext hw).k0) ?_)
      refine aA E E (aA E E (aA E E (bb (r:=I ((k+((b.drop k).length-t.length):Nat):Int)) E E E (fun w _=>by have e:((k+((b.drop k).length-t.length):Nat):Int)=(k:Int)+(((b.drop k).length-t.length):Nat):=(by omega);rw[e];exact aN (by omega) (by omega)) ?_)))
      refine gw (a:=some (I (k:Int))) (b:=some (I ((k+((b.drop k).length-t.length):Nat):Int))) E E E E (fun w _=>p62 w) ?_
      refine cq ?_
      intro wg14 xg14
      rintro _ rfl
      rintro _ rfl
      rintro _ rfl
      rintro _ rfl
      rintro _ rfl
      rintro _ rfl
      rintro _ hq10
      obtain rfl:=Eq.symm hq10
      rintro _ rfl
      rintro _ rfl
      rintro _ rfl
      rintro _ rfl
      rintro _ hq62
      obtain rfl:=Eq.symm hq62
      refine am gN E E ((gO (hhE.ext xg14) (b62.ext xg14) (AY hvE hloc (p62 _)))) ?_
      rintro v63 w63 ⟨g63,h63⟩
      have hh63:=HA.on (by omega) h63
      have m63:Mv (fun j=>j=gh) wL w63:=(Mv.of_ext (eLE.trans xg14)).trans (Mv.of_grown g63 fun j hj _=>(Option.some.inj hj).symm) fun _ hj _=>hj
      have mE63:Mv (fun j=>j=gh) wE w63:=(Mv.of_ext xg14).trans (Mv.of_grown g63 fun j hj _=>(Option.some.inj hj).symm) fun _ hj _=>hj
      have k763:=m63.blk k7L g17
      have k163:=m63.blk k1L g1h
      have hv63:=hv.ext (Mv.ext_from m63 eL fun j hj=>by have:j=gh:=hj;omega)
      refine ag (ab (af (af ?_)))
      rcases hC2:eV b (b.length-t.length)
      ·refine aa (ac E E (bt E E bu (ac E E (ai E (ac E E (ai E (ac E E (ai E (ac E E (ai E (al (r:=I ((k+((b.drop k).length-t.length):Nat):Int)) E E E (by have e:((k+((b.drop k).length-t.length):Nat):Int)=(k:Int)+(((b.drop k).length-t.length):Nat):=(by omega);rw[e];exact aN (by omega) (by omega)) ?_)))))))))))
       refine ai E (mC E qJ E E ((by have h:=qK (k:=k+((b.drop k).length-t.length)) hv63 k763 k163 hh63 (by omega) (by omega) hloc;rw[ekn,hC2] at h;rw[ekn];exact h)) ?_)
       rintro v71 w71 ⟨m71,rfl,hh71⟩
       refine ai E (bt E E bu (aD E E E (ag (ab (bg E (bc (aI (yn E (aI (be (ab (af ?_))))))))))))
       have mX:=m63.trans m71 fun _ hj _=>hj
       have hfin:=DZ hJ (pG hB hC2)
       have k1X:=mX.blk k1L g1h
       have k2X:=mX.blk k2L g2h
       have eX:=Mv.ext_from mX eL fun j hj=>by have:j=gh:=hj;omega
       obtain⟨v84,p84,b84⟩:=uM (hv.ext eX) (lo:=4) (hi:=36) (by omega) (by omega) .i64 .i64
       have l84:((b.take 36).drop 4).length=32:=by rw[List.length_drop,List.length_take];omega
       obtain⟨ad,p85,c85⟩:=EU b84 l84
       obtain⟨wR,sR,qR,kR⟩:=k2X.stS (P:=Tryz.prog) (t:=24) (m:=((b.take 36).drop 4).map U8) (by rw[List.length_map,List.length_map,l84];rfl) s32 (ep _)
       have eR:=aK.of_new eX qR (Nat.le_trans x1.size l2)
       have oR:=(oL.mv mX fun j hj=>by have:j=gh:=hj;omega).mv (Mv.of_grown (X:=fun j=>j=g2) qR fun j hj _=>(Option.some.inj hj).symm) fun j hj=>by have:j=g2:=hj;have:=k236.lt;omega
       refine aa ?_
       refine ak E E (aj MB E k1X.k0) ?_
       refine ac E E ?_
       refine cx E E E E E (p84 _) ?_
       refine pV E E (p85 _) ?_
       refine ak E E (vE c85 l84) ?_
       refine ac E E (ac E E ?_)
       refine au E E sR ?_
       refine ae E E (ae E E (ae E E (ag (ab (aw ?_)))))
       refine fm E E E E E kR MK E s32 ?_
       exact⟨_,rfl,eR,jG.ok hOK hfin ((oR.rpx cw (by omega)).weak fun j hj=>.inl (by show j<w36.heap.size;have:=e36.size;omega))⟩
      ·refine aa (ac E E (bt E E bu (ac E E (ai E (ac E E (ai E (ac E E (ai E (ac E E (ai E (al (r:=I ((k+((b.drop k).length-t.length):Nat):Int)) E E E (by have e:((k+((b.drop k).length-t.length):Nat):Int)=(k:Int)+(((b.drop k).length-t.length):Nat):=(by omega);rw[e];exact aN (by omega) (by omega)) ?_)))))))))))
       refine ai E (mC E qJ E E ((by have h:=qK (k:=k+((b.drop k).length-t.length)) hv63 k763 k163 hh63 (by omega) (by omega) hloc;rw[ekn,hC2] at h;rw[ekn];exact h)) ?_)
       rintro v71 w71 ⟨m71,rfl,hh71⟩
       refine ai E (bt E E bu (aD E E E (ag (ab (cr E (aC (ab (af ?_))))))))
       have hst:=Fe hB hC2 hent
       obtain⟨_,_,_,_,_,_,hk9,hkb⟩:=qx hst
       have mE71:=mE63.trans m71 fun _ hj _=>hj
       have m71L:=m63.trans m71 fun _ hj _=>hj
       have kE71:=mE71.blk kE g14h
       have oE:=oL.mv m71L fun j hj=>by have:j=gh:=hj;omega
       have own:∀j,ve.ownBlock=some j→w36.heap.size≤j∧j<wL.heap.size:=oL.lt
       have rp71:=rpE.mv (mE71.weak fun j hj _=>by have:j=gh:=hj;show j<w45.heap.size;have:=mL.size;omega) fun _ hj=>.inl hj
       obtain⟨x76,w76,v77,w77,hr76,hr77,o77,m77,n77⟩:=oE.push (ty:=25) (t:=25) ML xY rfl (by omega) (by omega) (by omega) h1cs (rp71.weak fun j hj=>.inl (by
        show j<w45.heap.size
        rcases hj with hj|hj
        ·have:=mL.size;omega
        ·have:=(own j hj).2;omega)) cw (by omega) (Nat.le_trans szL m71L.size)
       refine aa (ac E E ?_)
       refine ak E E (kE71.ld Mz E (by rw[hcs];kernel_rfl)) ?_
       refine aJ (vs:=[(0,.agg cs.toArray)]) E E hr76 ?_
       refine ba E E hr77 ?_
       refine ae E E (ag (ab (aa (ac E E (ac E E (al (r:=I ((((b.drop k).length-t.length)+8:Nat):Int)) E E E (by have e:((((b.drop k).length-t.length)+8:Nat):Int)=(((b.drop k).length-t.length):Nat)+8:=(by omega);rw[e];exact aN (by omega) (by omega)) ?_))))))
       refine al (r:=I ((k+(((b.drop k).length-t.length)+8):Nat):Int)) E E E (by have e:((k+(((b.drop k).length-t.length)+8):Nat):Int)=(k:Int)+((((b.drop k).length-t.length)+8:Nat):Int):=(by omega);rw[e];exact aN (by omega) (by omega)) ?_
       refine ae E E (ag (aS ?_))
       refine iz (k+(((b.drop k).length-t.length)+8)) (v77) (es++[u]) ⟨rfl,rfl,rfl,rfl,rfl,rfl,rfl,trivial⟩ ⟨(mL.trans m71L fun _ hj _=>hj).trans m77 fun j hj hlt=>by have:=(own j hj).1;omega,(by
        have e:k+(((b.drop k).length-t.length)+8)=b.length-t.length+8:=by omega
        rw[e]
        exact Mn hh71 m77 fun hj=>by have:=(own gh hj).1;omega),o77,by omega,by omega,by
        have e:k+(((b.drop k).length-t.length)+8)=b.length-t.length+8:=by omega
        rw[hJ,e,sj hst];simp,by simp;omega⟩ (by omega)
    ·simp only[ya,hB] at hrec
     refine aa ?_
     refine ak E E (aj MB E k1L.k0) ?_
     refine ac E E ?_
     refine cx E E E E E (p44 _) ?_
     refine am sG E E (hrec) ?_
     rintro v45 w45 ⟨x45,rfl⟩
     refine ac E E (ao E E (fL) (ao E E (fM) (ao E E (fN) (ae E E (ae E E (ae E E (ag ?_)))))))
     refine ab (af (af (aa (ac E E (bt E E bu (ag (ab (bg E (bc (aI (yn E (aI (be (ab (af ?_)))))))))))))))
     have mX:=Mv.of_ext (X:=fun j=>j=gh) x45
     have hfin:=DZ hJ (xZ hB)
     have k1X:=mX.blk k1L g1h
     have k2X:=mX.blk k2L g2h
     have eX:=Mv.ext_from mX eL fun j hj=>by have:j=gh:=hj;omega
     obtain⟨v84,p84,b84⟩:=uM (hv.ext eX) (lo:=4) (hi:=36) (by omega) (by omega) .i64 .i64
     have l84:((b.take 36).drop 4).length=32:=by rw[List.length_drop,List.length_take];omega
     obtain⟨ad,p85,c85⟩:=EU b84 l84
     obtain⟨wR,sR,qR,kR⟩:=k2X.stS (P:=Tryz.prog) (t:=24) (m:=((b.take 36).drop 4).map U8) (by rw[List.length_map,List.length_map,l84];rfl) s32 (ep _)
     have eR:=aK.of_new eX qR (Nat.le_trans x1.size l2)
     have oR:=(oL.mv mX fun j hj=>by have:j=gh:=hj;omega).mv (Mv.of_grown (X:=fun j=>j=g2) qR fun j hj _=>(Option.some.inj hj).symm) fun j hj=>by have:j=g2:=hj;have:=k236.lt;omega
     refine aa ?_
     refine ak E E (aj MB E k1X.k0) ?_
     refine ac E E ?_
     refine cx E E E E E (p84 _) ?_
     refine pV E E (p85 _) ?_
     refine ak E E (vE c85 l84) ?_
     refine ac E E (ac E E ?_)
     refine au E E sR ?_
     refine ae E E (ae E E (ae E E (ag (ab (aw ?_)))))
     refine fm E E E E E kR MK E s32 ?_
     exact⟨_,rfl,eR,jG.ok hOK hfin ((oR.rpx cw (by omega)).weak fun j hj=>.inl (by show j<w36.heap.size;have:=e36.size;omega))⟩
end Go.Rl
namespace Go.Rl
open Go.RowKit Go.Proofs
theorem pJ {P:Program} {w:World} {a b c d:Value}:(Instr.extract (.tuple #[a,b,c,d]) 0).run P w=.ok a w:=rfl
theorem pL {P:Program} {w:World} {a b c d:Value}:(Instr.extract (.tuple #[a,b,c,d]) 1).run P w=.ok b w:=rfl
theorem pO {P:Program} {w:World} {a b c d:Value}:(Instr.extract (.tuple #[a,b,c,d]) 2).run P w=.ok c w:=rfl
theorem pQ {P:Program} {w:World} {a b c d:Value}:(Instr.extract (.tuple #[a,b,c,d]) 3).run P w=.ok d w:=rfl
theorem qO (b:List UInt8):(iL b).1.1.length=32:=by
 unfold iL
 split
 ·exact vG
 ·rename_i h
  show((b.take 36).drop 4).length=32
  rw[List.length_drop,List.length_take];omega
end Go.Rl
namespace Go.Rl
open Go.RowKit Go.Proofs
theorem od:aG Tryz.prog 143:=⟨_,Tryz.func143,by kernel_rfl,rfl⟩
theorem AZ:aG Tryz.prog 51:=⟨_,Tryz.func51,by kernel_rfl,rfl⟩
theorem tJ:aG Tryz.prog 16:=⟨_,Tryz.func16,by kernel_rfl,rfl⟩
theorem oe {w:World} {a b:bU} {x y p q:Value} (ha:bm a.at_.2.1 x w) (ha':bm a.at_.2.2 y w) (hb:bm b.at_.2.1 p w) (hb':bm b.at_.2.2 q w):
 Calls Tryz.prog 143 #[.agg #[I a.kd,I a.ix,B a.at_.1,x,y],.agg #[I b.kd,I b.ix,B b.at_.1,p,q]] w (bE fun r w'=>aK w w'∧r=B (decide (a=b))):=by
 refine enter (vs:=[.agg #[I a.kd,I a.ix,B a.at_.1,x,y],.agg #[I b.kd,I b.ix,B b.at_.1,p,q]]) Tryz.func143 E E E ?_
 refine af (aa ?_)
 obtain⟨g2,w2,hr2,l2,x2,k2⟩:=cK (P:=Tryz.prog) (w:=w) (T:=48) (cs:=[I a.kd,I a.ix,B a.at_.1,x,y])
 refine cM E E hr2 ?_
 obtain⟨g3,w3,hr3,l3,x3,k3⟩:=cK (P:=Tryz.prog) (w:=w2) (T:=48) (cs:=[I b.kd,I b.ix,B b.at_.1,p,q])
 refine cM E E hr3 (ae E E (ag (ab (af (aa (ah E E (ar (o:=0) My E (by kernel_rfl) E) ?_))))))
 refine ak E E (aj Mx E (x3.cell_some (k2.cell (i:=0) E))) (ah E E (ar (o:=0) My E (by kernel_rfl) E) ?_)
 refine ak E E (aj Mx E (k3.cell (i:=0) E)) (al E E E (bi) (ac E E ?_))
 refine ce (fun h10=>?_) (fun h10=>?_)
 ·refine ai E (ah E E (ar (o:=1) My E (by kernel_rfl) E) (ai E (ak E E (aj Mx E (x3.cell_some (k2.cell (i:=1) E))) ?_)))
  refine ai E (ah E E (ar (o:=1) My E (by kernel_rfl) E) (ai E (ak E E (aj Mx E (k3.cell (i:=1) E)) ?_)))
  refine ai E (al E E E (bi) (ap E E E (ac E E ?_)))
  refine ce (fun h17=>?_) (fun h17=>?_)
  ·refine ai E (ah E E (ar (o:=2) My E (by kernel_rfl) E) (ai E (ah E E (cL (b:=2) (o:=0) Mw E (by kernel_rfl) E) ?_)))
   refine ai E (ak E E (aj MD E (x3.cell_some (k2.cell (i:=2) E))) (ai E (ah E E (ar (o:=2) My E (by kernel_rfl) E) ?_)))
   refine ai E (ah E E (cL (b:=2) (o:=0) Mw E (by kernel_rfl) E) (ai E (ak E E (aj MD E (k3.cell (i:=2) E)) ?_)))
   refine ai E (al E E E (vC MD) (ap E E E (ac E E ?_)))
   refine ce (fun h26=>?_) (fun h26=>?_)
   ·refine ai E (ah E E (ar (o:=2) My E (by kernel_rfl) E) (ai E (ah E E (cL (b:=2) (o:=1) Mw E (by kernel_rfl) E) ?_)))
    refine ai E (ak E E (aj Ms E (x3.cell_some (k2.cell (i:=3) E))) (ai E (ah E E (ar (o:=2) My E (by kernel_rfl) E) ?_)))
    refine ai E (ah E E (cL (b:=2) (o:=1) Mw E (by kernel_rfl) E) (ai E (ak E E (aj Ms E (k3.cell (i:=3) E)) ?_)))
    refine ai E (am tt E E (tu (ha.ext (x2.trans x3)) (hb.ext (x2.trans x3))) ?_)
    rintro v33 w33 ⟨x33,rfl⟩
    refine ap E E E (ac E E ?_)
    refine ce (fun h35=>?_) (fun h35=>?_)
    ·refine ai E (ah E E (ar (o:=2) My E (by kernel_rfl) E) (ai E (ah E E (cL (b:=2) (o:=2) Mw E (by kernel_rfl) E) ?_)))
     refine ai E (ak E E (aj Ms E ((x3.trans x33).cell_some (k2.cell (i:=4) E))) (ai E (ah E E (ar (o:=2) My E (by kernel_rfl) E) ?_)))
     refine ai E (ah E E (cL (b:=2) (o:=2) Mw E (by kernel_rfl) E) (ai E (ak E E (aj Ms E (x33.cell_some (k3.cell (i:=4) E))) ?_)))
     refine ai E (am tt E E (tu (ha'.ext ((x2.trans x3).trans x33)) (hb'.ext ((x2.trans x3).trans x33))) ?_)
     rintro v42 w42 ⟨x42,rfl⟩
     refine ap E E E (ae E E (ag (ab (aw (az E E ?_)))))
     exact⟨_,rfl,(((x2.trans x3).trans x33).trans x42),by
      first
      |exact congrArg B (decide_eq_decide.2 ⟨fun h=>bU.ext' h10 h17 (Prod.ext h26 (Prod.ext h35 h)),fun h=>by rw[h]⟩)
      |exact congrArg B (decide_eq_false fun h=>h35 (by rw[h])).symm
      |exact congrArg B (decide_eq_false fun h=>h26 (by rw[h])).symm
      |exact congrArg B (decide_eq_false fun h=>h17 (by rw[h])).symm
      |exact congrArg B (decide_eq_false fun h=>h10 (by rw[h])).symm⟩
    ·refine an E E E (an E E E (an E E E (an E E E (an E E E (an E E E (an E E E (aD E E E (ae E E (ag ?_)))))))))
     refine ab (aw (az E E ?_))
     exact⟨_,rfl,((x2.trans x3).trans x33),by
      first
      |exact congrArg B (decide_eq_decide.2 ⟨fun h=>bU.ext' h10 h17 (Prod.ext h26 (Prod.ext h35 h)),fun h=>by rw[h]⟩)
      |exact congrArg B (decide_eq_false fun h=>h35 (by rw[h])).symm
      |exact congrArg B (decide_eq_false fun h=>h26 (by rw[h])).symm
      |exact congrArg B (decide_eq_false fun h=>h17 (by rw[h])).symm
      |exact congrArg B (decide_eq_false fun h=>h10 (by rw[h])).symm⟩
   ·refine an E E E (an E E E (an E E E (an E E E (an E E E (an E E E (an E E E (aD E E E (ac E E (an E E E ?_)))))))))
    refine an E E E (an E E E (an E E E (an E E E (an E E E (an E E E (aD E E E (ae E E (ag (ab (aw (az E E ?_)))))))))))
    exact⟨_,rfl,(x2.trans x3),by
     first
     |exact congrArg B (decide_eq_decide.2 ⟨fun h=>bU.ext' h10 h17 (Prod.ext h26 (Prod.ext h35 h)),fun h=>by rw[h]⟩)
     |exact congrArg B (decide_eq_false fun h=>h35 (by rw[h])).symm
     |exact congrArg B (decide_eq_false fun h=>h26 (by rw[h])).symm
     |exact congrArg B (decide_eq_false fun h=>h17 (by rw[h])).symm
     |exact congrArg B (decide_eq_false fun h=>h10 (by rw[h])).symm⟩
  ·refine an E E E (an E E E (an E E E (an E E E (an E E E (an E E E (an E E E (aD E E E (ac E E (an E E E ?_)))))))))
   refine an E E E (an E E E (an E E E (an E E E (an E E E (an E E E (aD E E E (ac E E (an E E E (an E E E ?_)))))))))
   refine an E E E (an E E E (an E E E (an E E E (an E E E (aD E E E (ae E E (ag (ab (aw (az E E ?_))))))))))
   exact⟨_,rfl,(x2.trans x3),by
    first
    |exact congrArg B (decide_eq_decide.2 ⟨fun h=>bU.ext' h10 h17 (Prod.ext h26 (Prod.ext h35 h)),fun h=>by rw[h]⟩)
    |exact congrArg B (decide_eq_false fun h=>h35 (by rw[h])).symm
    |exact congrArg B (decide_eq_false fun h=>h26 (by rw[h])).symm
    |exact congrArg B (decide_eq_false fun h=>h17 (by rw[h])).symm
    |exact congrArg B (decide_eq_false fun h=>h10 (by rw[h])).symm⟩
 ·refine an E E E (an E E E (an E E E (an E E E (an E E E (aD E E E (ac E E (an E E E (an E E E (an E E E ?_)))))))))
  refine an E E E (an E E E (an E E E (an E E E (aD E E E (ac E E (an E E E (an E E E (an E E E (an E E E ?_)))))))))
  refine an E E E (an E E E (an E E E (aD E E E (ac E E (an E E E (an E E E (an E E E (an E E E (an E E E ?_)))))))))
  refine an E E E (an E E E (aD E E E (ae E E (ag (ab (aw (az E E ?_)))))))
  exact⟨_,rfl,(x2.trans x3),by
   first
   |exact congrArg B (decide_eq_decide.2 ⟨fun h=>bU.ext' h10 h17 (Prod.ext h26 (Prod.ext h35 h)),fun h=>by rw[h]⟩)
   |exact congrArg B (decide_eq_false fun h=>h35 (by rw[h])).symm
   |exact congrArg B (decide_eq_false fun h=>h26 (by rw[h])).symm
   |exact congrArg B (decide_eq_false fun h=>h17 (by rw[h])).symm
   |exact congrArg B (decide_eq_false fun h=>h10 (by rw[h])).symm⟩
def zA (l:List dN):Nat:=(l.map fun m=>m.pf.length).sum
def tK (u:bZ):Nat:=1+u.path.length+u.leaf.lems.length+u.leaf.pf.length+u.leaf.kids.length+zA u.leaf.lems
theorem IZ {l:List dN} {i:Nat} (hi:i<l.length):zA (l.take (i+1))=zA (l.take i)+l[i].pf.length:=by
 have e:l.take (i+1)=l.take i++[l[i]]:=by rw[List.take_add_one,List.getElem?_eq_getElem hi];rfl
 unfold zA
 rw[e,List.map_append,List.sum_append]
 simp
theorem I0 (l:List dN) (i:Nat):zA (l.take i)≤zA l:=by
 have h:zA l=zA (l.take i)+zA (l.drop i):=by
  conv=>lhs;rw[←List.take_append_drop i l]
  unfold zA
  rw[List.map_append,List.sum_append]
 omega
theorem A0 {w:World} {u:bZ} {vd vl x y vk vp:Value} (hd:cC dC u.path vd w) (hl:cC dc u.leaf.lems vl w) (_hx:bm u.leaf.split.at_.2.1 x w) (_hy:bm u.leaf.split.at_.2.2 y w) (hk:cC bG u.leaf.kids vk w) (hp:cC bP u.leaf.pf vp w) (hz:tK u≤4611686018427387904):
 Calls Tryz.prog 51 #[.agg #[vd,vl,I u.leaf.split.kd,I u.leaf.split.ix,B u.leaf.split.at_.1,x,y,vk,B u.leaf.empty,vp]] w (bE fun r w'=>aK w w'∧r=I ((tK u:Nat):Int)):=by
 refine enter (vs:=[.agg #[vd,vl,I u.leaf.split.kd,I u.leaf.split.ix,B u.leaf.split.at_.1,x,y,vk,B u.leaf.empty,vp]]) Tryz.func51 E E E ?_
 have hzz:tK u=1+u.path.length+u.leaf.lems.length+u.leaf.pf.length+u.leaf.kids.length+zA u.leaf.lems:=rfl
 refine af (aa ?_)
 obtain⟨g1,w1,hr1,l1,x1,k1⟩:=cK (P:=Tryz.prog) (w:=w) (T:=54) (cs:=[vd,vl,I u.leaf.split.kd,I u.leaf.split.ix,B u.leaf.split.at_.1,x,y,vk,B u.leaf.empty,vp])
 refine cM E E hr1 (ae E E (ag (ab (af (aa (ah E E (ar (o:=0) Mz E (by kernel_rfl) E) ?_))))))
 refine ak E E (aj ME E (k1.cell (i:=0) E)) (aO E E (a6 ME (hd.ext x1)) ?_)
 refine al (r:=I ((1+u.path.length:Nat):Int)) E E E (by have e:((1+u.path.length:Nat):Int)=1+(u.path.length:Int):=(by omega);rw[e];exact aN (by omega) (by omega)) ?_
 refine ah E E (ar (o:=1) Mz E (by kernel_rfl) E) (ah E E (cL (b:=1) (o:=0) Mt E (by kernel_rfl) E) ?_)
 refine ak E E (aj MG E (k1.cell (i:=1) E)) (aO E E (a6 MG (hl.ext x1)) (al (r:=I ((1+u.path.length+u.leaf.lems.length:Nat):Int)) E E E (by have e:((1+u.path.length+u.leaf.lems.length:Nat):Int)=((1+u.path.length:Nat):Int)+(u.leaf.lems.length:Int):=(by omega);rw[e];exact aN (by omega) (by omega)) ?_))
 refine ah E E (ar (o:=1) Mz E (by kernel_rfl) E) (ah E E (cL (b:=1) (o:=8) Mt E (by kernel_rfl) E) ?_)
 refine ak E E (aj MH E (k1.cell (i:=9) E)) (aO E E (a6 MH (hp.ext x1)) (al (r:=I ((1+u.path.length+u.leaf.lems.length+u.leaf.pf.length:Nat):Int)) E E E (by have e:((1+u.path.length+u.leaf.lems.length+u.leaf.pf.length:Nat):Int)=((1+u.path.length+u.leaf.lems.length:Nat):Int)+(u.leaf.pf.length:Int):=(by omega);rw[e];exact aN (by omega) (by omega)) ?_))
 refine ah E E (ar (o:=1) Mz E (by kernel_rfl) E) (ah E E (cL (b:=1) (o:=6) Mt E (by kernel_rfl) E) ?_)
 refine ak E E (aj MF E (k1.cell (i:=7) E)) (aO E E (a6 MF (hk.ext x1)) (al (r:=I ((1+u.path.length+u.leaf.lems.length+u.leaf.pf.length+u.leaf.kids.length:Nat):Int)) E E E (by have e:((1+u.path.length+u.leaf.lems.length+u.leaf.pf.length+u.leaf.kids.length:Nat):Int)=((1+u.path.length+u.leaf.lems.length+u.leaf.pf.length:Nat):Int)+(u.leaf.kids.length:Int):=(by omega);rw[e];exact aN (by omega) (by omega)) ?_))
 refine ae E E (ag (ab (af (af (aa (ae E E (ag (ab (aE ?_)))))))))
 refine cf (α:=Nat) (fun i=>[(1,.pointer (some ⟨g1,0,none⟩)),(3,I ((1+u.path.length+u.leaf.lems.length+u.leaf.pf.length+u.leaf.kids.length+zA (u.leaf.lems.take i):Nat):Int)),(4,I (i:Int))]) (fun i w'=>aK w w'∧aK w1 w'∧i≤u.leaf.lems.length) (fun i=>u.leaf.lems.length-i) (0) ⟨rfl,rfl,rfl,trivial⟩ ⟨x1,aK.refl _,by omega⟩ ?_
 rintro i wL ⟨eL,e1L,hi⟩
 refine af (af (aa (ac E E (ah E E (ar (o:=1) Mz E (by kernel_rfl) E) (ah E E (cL (b:=1) (o:=0) Mt E (by kernel_rfl) E) ?_)))))
 refine ak E E (aj MG E (e1L.cell_some (k1.cell (i:=1) E))) (aO E E (a6 MG (hl.ext eL)) ?_)
 refine al E E E (aV) (ag (ab ?_))
 refine bz E (fun h29=>?_) (fun h29=>?_)
 ·refine aC (ab (af (aE ?_)))
  have hst:=IZ (l:=u.leaf.lems) (i:=i) (by omega)
  have htk:=I0 u.leaf.lems (i+1)
  refine aa (ac E E (ah E E (ar (o:=1) Mz E (by kernel_rfl) E) (ah E E (cL (b:=1) (o:=0) Mt E (by kernel_rfl) E) ?_)))
  refine ak E E (aj MG E (e1L.cell_some (k1.cell (i:=1) E))) (ac E E ?_)
  obtain⟨a37,c37,p37,q37,h37⟩:=cd (P:=Tryz.prog) (sz:=6) MG (by kernel_rfl) cH (by omega) (hl.ext eL) (i:=i) (by omega) .i64
  obtain⟨e37,he37⟩:∃e,e=u.leaf.lems[i]'(by omega):=⟨_,rfl⟩
  rw[←he37] at h37
  obtain⟨x37_0,x37_1,x37_2,rfl,f37_0,f37_1,f37_2⟩:=fO h37
  refine aq E E E (p37 _) ?_
  rw[←he37] at hst
  refine ah E E (ij (o:=5) MI E (by kernel_rfl) E) (ak E E (aj MH E (q37.at (j:=5) E)) ?_)
  refine aO E E (a6 MH f37_2) (al (r:=I ((1+u.path.length+u.leaf.lems.length+u.leaf.pf.length+u.leaf.kids.length+zA (u.leaf.lems.take (i+1)):Nat):Int)) E E E (by have e:((1+u.path.length+u.leaf.lems.length+u.leaf.pf.length+u.leaf.kids.length+zA (u.leaf.lems.take (i+1)):Nat):Int)=((1+u.path.length+u.leaf.lems.length+u.leaf.pf.length+u.leaf.kids.length+zA (u.leaf.lems.take i):Nat):Int)+(e37.pf.length:Int):=(by omega);rw[e];exact aN (by omega) (by omega)) ?_)
  refine ae E E (ag (aS (ab (aa (ac E E (al (r:=I ((i+1:Nat):Int)) E E E (by have e:((i+1:Nat):Int)=(i:Int)+1:=(by omega);rw[e];exact aN (by omega) (by omega)) ?_))))))
  refine ae E E (ag ?_)
  refine bR (i+1) ⟨rfl,rfl,rfl,trivial⟩ ⟨eL,e1L,by omega⟩ (by omega)
 ·refine bc (aI (aI (be (ab (af (aa (ac E E (ae E E (ag (ab (aw (az E E ?_))))))))))))
  exact⟨_,rfl,eL,by rw[List.take_of_length_le (by omega),←hzz]⟩
def jH (l:List bZ):Nat:=(l.map tK).sum
theorem GL {l:List bZ} {i:Nat} (hi:i<l.length):jH (l.take (i+1))=jH (l.take i)+tK l[i]:=by
 have e:l.take (i+1)=l.take i++[l[i]]:=by rw[List.take_add_one,List.getElem?_eq_getElem hi];rfl
 unfold jH
 rw[e,List.map_append,List.sum_append]
 simp
theorem GM (l:List bZ) (i:Nat):jH (l.take i)≤jH l:=by
 have h:jH l=jH (l.take i)+jH (l.drop i):=by
  conv=>lhs;rw[←List.take_append_drop i l]
  unfold jH
  rw[List.map_append,List.sum_append]
 omega
theorem tL {w:World} {es:List bZ} {v:Value} (hv:cC i7 es v w) (hz:jH es≤4611686018427387904):
 Calls Tryz.prog 16 #[v] w (bE fun r w'=>aK w w'∧r=B (decide (jH es≤120))):=by
 refine enter (vs:=[v]) Tryz.func16 E E E ?_
 have hll:=hv.len
 refine af (aa (ae E E (ag (ab (af (aa (ae E E (ag (ab (af (af (aa (ae E E (ag (ab (aE ?_))))))))))))))))
 refine cf (α:=Nat) (fun i=>[(0,v),(3,I ((jH (es.take i):Nat):Int)),(4,I (i:Int))]) (fun i w'=>aK w w'∧i≤es.length) (fun i=>es.length-i) (0) ⟨rfl,rfl,rfl,trivial⟩ ⟨aK.refl _,by omega⟩ ?_
 rintro i wL ⟨eL,hi⟩
 refine af (af (aa (ac E E (ac E E (aO E E (a6 ML (hv.ext eL)) (al E E E (aV) (ag (ab ?_))))))))
 refine bz E (fun h8=>?_) (fun h8=>?_)
 ·refine aC (ab (af (aE ?_)))
  have hst:=GL (l:=es) (i:=i) (by omega)
  have htk:=GM es (i+1)
  refine aa (ac E E (ac E E (ac E E ?_)))
  obtain⟨a14,c14,p14,q14,h14⟩:=cd (P:=Tryz.prog) (sz:=10) ML (by kernel_rfl) cw (by omega) (hv.ext eL) (i:=i) (by omega) .i64
  obtain⟨e14,he14⟩:∃e,e=es[i]'(by omega):=⟨_,rfl⟩
  rw[←he14] at h14
  obtain⟨x14_0,x14_1,x14_2,x14_3,x14_4,x14_5,rfl,f14_0,f14_1,f14_2,f14_3,f14_4,f14_5⟩:=iE h14
  refine aq E E E (p14 _) ?_
  rw[←he14] at hst
  refine ak E E (q14.ld Mz E (by kernel_rfl)) (am AZ E E ((A0 (u:=e14) f14_0 f14_1 f14_2 f14_3 f14_4 f14_5 (by omega))) ?_)
  rintro v16 w16 ⟨x16,rfl⟩
  refine al (r:=I ((jH (es.take (i+1)):Nat):Int)) E E E (by have e:((jH (es.take (i+1)):Nat):Int)=((jH (es.take i):Nat):Int)+((tK e14:Nat):Int):=(by omega);rw[e];exact aN (by omega) (by omega)) ?_
  refine ae E E (ag (aS (ab (aa (ac E E (al (r:=I ((i+1:Nat):Int)) E E E (by have e:((i+1:Nat):Int)=(i:Int)+1:=(by omega);rw[e];exact aN (by omega) (by omega)) ?_))))))
  refine ae E E (ag ?_)
  refine bR (i+1) ⟨rfl,rfl,rfl,trivial⟩ ⟨(eL.trans x16),by omega⟩ (by omega)
 ·refine bc (aI (aI (be (ab (af (aa (ac E E (al E E E (pZ) (ae E E (ag (ab (aw (az E E ?_)))))))))))))
  exact⟨_,rfl,eL,by
   rw[List.take_of_length_le (by omega)]
   exact congrArg B (decide_eq_decide.2 (by omega))⟩
end Go.Rl
namespace Go.Rl
open Go.RowKit Go.Proofs
theorem sH:aG Tryz.prog 108:=⟨_,Tryz.func108,by kernel_rfl,rfl⟩
structure nh (w0 w:World) (g:Nat) (ids:List Nat) (s:bU) (a b:JT) (x y:Value) (g1 g2:Nat) (i1 i2:List Nat) (w':World):Prop where
 mv:Mv (fun k=>k=g) w w'
 hx:bm s.at_.2.1 x w0
 hy:bm s.at_.2.2 y w0
 blk:ct g 114 (jF s x y (uE g1) (uE g2) i8) w'
 k1:j8 w0 w' g1 a i1
 k2:j8 w0 w' g2 b i2
 n1:g∉i1
 n2:g∉i2
 n3:∀k∈i1,k∉i2
 fresh:∀k,k∈i1∨k∈i2→k∈ids∨w.heap.size≤k
 young:w0.heap.size≤g
theorem nh.ext {w0 w w' w'':World} {g:Nat} {ids:List Nat} {s:bU} {a b:JT} {x y:Value} {g1 g2:Nat} {i1 i2:List Nat} (h:nh w0 w g ids s a b x y g1 g2 i1 i2 w') (e:aK w' w''):nh w0 w g ids s a b x y g1 g2 i1 i2 w'':=
 ⟨h.mv.trans (Mv.of_ext (X:=fun k=>k=g) e) fun _ hk _=>hk,h.hx,h.hy,h.blk.ext e,h.k1.mv (Mv.of_ext (X:=fun _=>False) e) (fun _ _ h=>h),h.k2.mv (Mv.of_ext (X:=fun _=>False) e) (fun _ _ h=>h),h.n1,h.n2,h.n3,h.fresh,h.young⟩
def Mo (w0 w:World) (g:Nat) (d:bU) (t:JT) (ids:List Nat) (r:Value) (w':World):Prop:=
 (∃n,t=.leaf n∧aK w w'∧r=.tuple #[i8,B false])∨
 ∃s a b x y g1 g2 i1 i2,tH d t=.split s a b∧nh w0 w g ids s a b x y g1 g2 i1 i2 w'∧r=if s=d then .tuple #[uE g1,B true] else if dI s=d then .tuple #[uE g2,B true] else .tuple #[i8,B false]
theorem A1 {w0 w:World} {g:Nat} {ids:List Nat} (h:j8 w0 w g .gap ids):ids=[g]∧ct g 114 (jF lC (.slice none 0 0) (.slice none 0 0) i8 i8 i8) w:=h.at_
theorem vM {w0 w:World} {g:Nat} {ids:List Nat} {n:aY} (h:j8 w0 w g (.leaf n) ids):∃k cs,ids=[g,k]∧ct g 114 (jF lC (.slice none 0 0) (.slice none 0 0) i8 i8 (uE k)) w∧ct k 52 cs w∧Rp w0 (bG n) cs:=h.at_
theorem j8.root {w0 w:World} {g:Nat} {t:JT} {ids:List Nat} (h:j8 w0 w g t ids):g∈ids:=by
 cases t with
 |gap=>rw[(A1 h).1];simp
 |leaf n=>obtain⟨_,_,h1,_⟩:=vM h;rw[h1];simp
 |split s a b=>obtain⟨_,_,_,_,_,_,h1,_⟩:=h.split_inv;rw[h1];simp
theorem JT.shape (t:JT):t=.gap∨(∃n,t=.leaf n)∨∃s a b,t=.split s a b:=by
 cases t with
 |gap=>exact .inl rfl
 |leaf n=>exact .inr (.inl ⟨n,rfl⟩)
 |split s a b=>exact .inr (.inr ⟨s,a,b,rfl⟩)
theorem LF {w:World} {d:bU} {p q:Value} {k i:Int} (hp:bm d.at_.2.1 p w) (hq:bm d.at_.2.2 q w):av [I k,I i,B d.at_.1,p,q]:=av.cons rfl (av.cons rfl (av.cons rfl (av.cons hp.one (av.cons hq.one av.nil))))
theorem sI {w0 w:World} {g:Nat} {t:JT} {ids:List Nat} {d:bU} {p q:Value} (e0:aK w0 w) (ho:Ae w0) (hJ:j8 w0 w g t ids) (hp:bm d.at_.2.1 p w0) (hq:bm d.at_.2.2 q w0):
 Calls Tryz.prog 108 #[.pointer (some ⟨g,0,none⟩),.agg #[I d.kd,I d.ix,B d.at_.1,p,q]] w (bE fun r w'=>Mo w0 w g d t ids r w'):=by
 have hg:w0.heap.size≤g:=hJ.young g hJ.root
 have hgl:g<w.heap.size:=hJ.lt g hJ.root
 refine enter (vs:=[.pointer (some ⟨g,0,none⟩),.agg #[I d.kd,I d.ix,B d.at_.1,p,q]]) Tryz.func108 E E E ?_
 refine af (aa ?_)
 obtain⟨g3,w3,hr3,l3,x3,k3⟩:=cK (P:=Tryz.prog) (w:=w) (T:=48) (cs:=[I d.kd,I d.ix,B d.at_.1,p,q])
 refine cM E E hr3 (ae E E (ae E E (ag (ab (af (af ?_))))))
 have hg3:g≠g3:=by omega
 have hJ2:=hJ
 rcases t.shape with ht|⟨n,ht⟩|⟨s,a,b,ht⟩
 ·rw[ht] at hJ2
  obtain⟨hid,kg⟩:=A1 hJ2
  have kg3:=kg.ext x3
  refine aa (ac E E (ax E E (ah E E (ar (o:=7) MM E (by kernel_rfl) E) (ak E E (aj MS E (kg3.cell (i:=7) E)) ?_))))
  refine al E E E (iu MS) (ag (ab (cr E (aC (ab (af ?_))))))
  refine fg (fun(x:bU×JT×JT×Value×Value×Nat×Nat×List Nat×List Nat)=>[(0,.pointer (some ⟨g,0,none⟩)),(3,.pointer (some ⟨g3,0,none⟩))]) (fun x w'=>tH d t=.split x.1 x.2.1 x.2.2.1∧nh w0 w g ids x.1 x.2.1 x.2.2.1 x.2.2.2.1 x.2.2.2.2.1 x.2.2.2.2.2.1 x.2.2.2.2.2.2.1 x.2.2.2.2.2.2.2.1 x.2.2.2.2.2.2.2.2 w'∧ct g3 48 [I d.kd,I d.ix,B d.at_.1,p,q] w'∧aK w0 w') ?_ ?_
  ·refine af (aa (ac E E (ax E E (ah E E (ar (o:=5) MM E (by kernel_rfl) E) ?_))))
   refine aq E E E (iW MV (by kernel_rfl) (i:=0) (by omega) .i64) ?_
   refine ak E E (aj MQ E (kg3.cell (i:=5) E)) (al E E E (gF MQ) (ag ?_))
   refine ab (bg E (af (aa (ac E E (ak E E (k3.ld My E (by kernel_rfl)) (ax E E (ah E E (ar (o:=0) MM E (by kernel_rfl) E) ?_)))))))
   obtain⟨w4,s4,q4,k4⟩:=ct.stO (P:=Tryz.prog) (t:=48) (m:=[I d.kd,I d.ix,B d.at_.1,p,q]) kg3 0 (by show 0+5≤8;omega) (by kernel_rfl) (LF hp hq)
   refine au E E s4 ?_
   have y4:=aK.of_new (e0.trans x3) q4 hg
   have m4:=(Mv.of_ext (X:=fun k=>k=g) x3).trans (Mv.of_grown (X:=fun k=>k=g) q4 fun k hk _=>(Option.some.inj hk).symm) fun _ hk _=>hk
   have k3b:=k3.other q4 (fun e=>hg3 (Option.some.inj e).symm)
   refine ag (ab (af (af (aa (ah E E (ar (o:=0) My E (by kernel_rfl) E) (ak E E (aj Mx E (k3b.cell (i:=0) E)) ?_))))))
   refine al E E E (bi) (ac E E ?_)
   refine ce (fun h24=>?_) (fun h24=>?_)
   ·refine an E E E (an E E E (an E E E (ap E E E (ag (ab (bg E (aa (ac E E (ak E E (k3b.ld My E (by kernel_rfl)) ?_)))))))))
    refine am jA E E ((jB (ho.ext y4) (hp.ext y4) (hq.ext y4))) ?_
    rintro v31 w31 ⟨x31,rfl⟩
    refine ax E E (ah E E (ar (o:=0) MM E (by kernel_rfl) E) ?_)
    obtain⟨w6,s6,q6,k6⟩:=ct.stO (P:=Tryz.prog) (t:=48) (m:=[I (dI d).kd,I (dI d).ix,B (dI d).at_.1,p,q]) (k4.ext x31) 0 (by show 0+5≤8;omega) (by kernel_rfl) (LF hp hq)
    refine au E E s6 ?_
    have y6:=aK.of_new (y4.trans x31) q6 hg
    have m6:=(m4.trans (Mv.of_ext (X:=fun k=>k=g) x31) fun _ hk _=>hk).trans (Mv.of_grown (X:=fun k=>k=g) q6 fun k hk _=>(Option.some.inj hk).symm) fun _ hk _=>hk
    have k3c:=(k3b.ext x31).other q6 (fun e=>hg3 (Option.some.inj e).symm)
    have hn:yk d=dI d:=if_pos (by first|exact .inl h24|exact .inr h28)
    have kS:ct g 114 (jF (yk d) p q i8 i8 i8) w6:=by rw[hn];exact k6
    refine ag (ab (aa (ac E E (bA (vs:=[]) (r:=.agg #[I 0,I 0,B false,.slice none 0 0,.slice none 0 0,.pointer none,.pointer none,.pointer none]) E E (by exact run_build _ _ _ _ (by kernel_rfl)) ?_))))
    obtain⟨g36,w36,hr36,l36,x36,k36⟩:=cK (P:=Tryz.prog) (w:=w6) (T:=114) (cs:=[I 0,I 0,B false,.slice none 0 0,.slice none 0 0,.pointer none,.pointer none,.pointer none])
    refine cM E E hr36 (bA (vs:=[]) (r:=.agg #[I 0,I 0,B false,.slice none 0 0,.slice none 0 0,.pointer none,.pointer none,.pointer none]) E E (by exact run_build _ _ _ _ (by kernel_rfl)) ?_)
    obtain⟨g38,w38,hr38,l38,x38,k38⟩:=cK (P:=Tryz.prog) (w:=w36) (T:=114) (cs:=[I 0,I 0,B false,.slice none 0 0,.slice none 0 0,.pointer none,.pointer none,.pointer none])
    refine cM E E hr38 ?_
    refine bA (vs:=[(0,.pointer (some ⟨g36,0,none⟩)),(1,.pointer (some ⟨g38,0,none⟩))]) (r:=.agg #[.pointer (some ⟨g36,0,none⟩),.pointer (some ⟨g38,0,none⟩)]) E E (run_build _ _ _ #[.pointer (some ⟨g36,0,none⟩),.pointer (some ⟨g38,0,none⟩)] (by kernel_rfl)) ?_
    refine ax E E (ah E E (ar (o:=5) MM E (by kernel_rfl) E) ?_)
    obtain⟨w7,s7,q7,k7⟩:=ct.stO (P:=Tryz.prog) (t:=111) (m:=[.pointer (some ⟨g36,0,none⟩),.pointer (some ⟨g38,0,none⟩)]) (kS.ext (x36.trans x38)) 5 (by show 5+2≤8;omega) (by kernel_rfl) (av.cons rfl (av.cons rfl av.nil))
    refine au E E s7 ?_
    have y7:=aK.of_new (y6.trans (x36.trans x38)) q7 hg
    have m7:=(m6.trans (Mv.of_ext (X:=fun k=>k=g) (x36.trans x38)) fun _ hk _=>hk).trans (Mv.of_grown (X:=fun k=>k=g) q7 fun k hk _=>(Option.some.inj hk).symm) fun _ hk _=>hk
    have sz6:=m6.size
    have sz0:=e0.size
    have lt36:=k36.lt
    have G1:w0.heap.size≤g36:=by omega
    have G2:w0.heap.size≤g38:=by omega
    have N1:g∉[g36]:=by simp;omega
    have N2:g∉[g38]:=by simp;omega
    have N3:∀k∈[g36],k∉[g38]:=by simp;omega
    have FR:∀k,k∈[g36]∨k∈[g38]→k∈ids∨w.heap.size≤k:=fun k hk=>.inr (by simp at hk;omega)
    have k3d:=(k3c.ext (x36.trans x38)).other q7 (fun e=>hg3 (Option.some.inj e).symm)
    have k36b:=(k36.ext x38).other q7 (fun e=>by have:=Option.some.inj e;omega)
    have k38b:=k38.other q7 (fun e=>by have:=Option.some.inj e;omega)
    refine ag ?_
    exact cu (yk d,.gap,.gap,p,q,g36,g38,[g36],[g38]) ⟨rfl,rfl,trivial⟩ ⟨by rw[ht];rfl,⟨m7,by rw[hn];exact hp,by rw[hn];exact hq,k7,j8.gap k36b G1,j8.gap k38b G2,N1,N2,N3,FR,hg⟩,k3d,y7⟩
   ·refine ai E (ah E E (ar (o:=0) My E (by kernel_rfl) E) (ai E (ak E E (aj Mx E (k3b.cell (i:=0) E)) ?_)))
    refine ai E (al E E E (bi) (aD E E E (ag (ab ?_))))
    refine bz E (fun h28=>?_) (fun h28=>?_)
    ·refine aa (ac E E (ak E E (k3b.ld My E (by kernel_rfl)) (am jA E E ((jB (ho.ext y4) (hp.ext y4) (hq.ext y4))) ?_)))
     rintro v31 w31 ⟨x31,rfl⟩
     refine ax E E (ah E E (ar (o:=0) MM E (by kernel_rfl) E) ?_)
     obtain⟨w6,s6,q6,k6⟩:=ct.stO (P:=Tryz.prog) (t:=48) (m:=[I (dI d).kd,I (dI d).ix,B (dI d).at_.1,p,q]) (k4.ext x31) 0 (by show 0+5≤8;omega) (by kernel_rfl) (LF hp hq)
     refine au E E s6 ?_
     have y6:=aK.of_new (y4.trans x31) q6 hg
     have m6:=(m4.trans (Mv.of_ext (X:=fun k=>k=g) x31) fun _ hk _=>hk).trans (Mv.of_grown (X:=fun k=>k=g) q6 fun k hk _=>(Option.some.inj hk).symm) fun _ hk _=>hk
     have k3c:=(k3b.ext x31).other q6 (fun e=>hg3 (Option.some.inj e).symm)
     have hn:yk d=dI d:=if_pos (by first|exact .inl h24|exact .inr h28)
     have kS:ct g 114 (jF (yk d) p q i8 i8 i8) w6:=by rw[hn];exact k6
     refine ag (ab (aa (ac E E (bA (vs:=[]) (r:=.agg #[I 0,I 0,B false,.slice none 0 0,.slice none 0 0,.pointer none,.pointer none,.pointer none]) E E (by exact run_build _ _ _ _ (by kernel_rfl)) ?_))))
     obtain⟨g36,w36,hr36,l36,x36,k36⟩:=cK (P:=Tryz.prog) (w:=w6) (T:=114) (cs:=[I 0,I 0,B false,.slice none 0 0,.slice none 0 0,.pointer none,.pointer none,.pointer none])
     refine cM E E hr36 (bA (vs:=[]) (r:=.agg #[I 0,I 0,B false,.slice none 0 0,.slice none 0 0,.pointer none,.pointer none,.pointer none]) E E (by exact run_build _ _ _ _ (by kernel_rfl)) ?_)
     obtain⟨g38,w38,hr38,l38,x38,k38⟩:=cK (P:=Tryz.prog) (w:=w36) (T:=114) (cs:=[I 0,I 0,B false,.slice none 0 0,.slice none 0 0,.pointer none,.pointer none,.pointer none])
     refine cM E E hr38 ?_
     refine bA (vs:=[(0,.pointer (some ⟨g36,0,none⟩)),(1,.pointer (some ⟨g38,0,none⟩))]) (r:=.agg #[.pointer (some ⟨g36,0,none⟩),.pointer (some ⟨g38,0,none⟩)]) E E (run_build _ _ _ #[.pointer (some ⟨g36,0,none⟩),.pointer (some ⟨g38,0,none⟩)] (by kernel_rfl)) ?_
     refine ax E E (ah E E (ar (o:=5) MM E (by kernel_rfl) E) ?_)
     obtain⟨w7,s7,q7,k7⟩:=ct.stO (P:=Tryz.prog) (t:=111) (m:=[.pointer (some ⟨g36,0,none⟩),.pointer (some ⟨g38,0,none⟩)]) (kS.ext (x36.trans x38)) 5 (by show 5+2≤8;omega) (by kernel_rfl) (av.cons rfl (av.cons rfl av.nil))
     refine au E E s7 ?_
     have y7:=aK.of_new (y6.trans (x36.trans x38)) q7 hg
     have m7:=(m6.trans (Mv.of_ext (X:=fun k=>k=g) (x36.trans x38)) fun _ hk _=>hk).trans (Mv.of_grown (X:=fun k=>k=g) q7 fun k hk _=>(Option.some.inj hk).symm) fun _ hk _=>hk
     have sz6:=m6.size
     have sz0:=e0.size
     have lt36:=k36.lt
     have G1:w0.heap.size≤g36:=by omega
     have G2:w0.heap.size≤g38:=by omega
     have N1:g∉[g36]:=by simp;omega
     have N2:g∉[g38]:=by simp;omega
     have N3:∀k∈[g36],k∉[g38]:=by simp;omega
     have FR:∀k,k∈[g36]∨k∈[g38]→k∈ids∨w.heap.size≤k:=fun k hk=>.inr (by simp at hk;omega)
     have k3d:=(k3c.ext (x36.trans x38)).other q7 (fun e=>hg3 (Option.some.inj e).symm)
     have k36b:=(k36.ext x38).other q7 (fun e=>by have:=Option.some.inj e;omega)
     have k38b:=k38.other q7 (fun e=>by have:=Option.some.inj e;omega)
     refine ag ?_
     exact cu (yk d,.gap,.gap,p,q,g36,g38,[g36],[g38]) ⟨rfl,rfl,trivial⟩ ⟨by rw[ht];rfl,⟨m7,by rw[hn];exact hp,by rw[hn];exact hq,k7,j8.gap k36b G1,j8.gap k38b G2,N1,N2,N3,FR,hg⟩,k3d,y7⟩
    ·have hn:yk d=d:=if_neg (by rintro(h|h);exact h24 h;exact h28 h)
     have kS:ct g 114 (jF (yk d) p q i8 i8 i8) w4:=by rw[hn];exact k4
     have y6:=y4
     have m6:=m4
     have k3c:=k3b
     refine aC (ab (aa (ac E E (bA (vs:=[]) (r:=.agg #[I 0,I 0,B false,.slice none 0 0,.slice none 0 0,.pointer none,.pointer none,.pointer none]) E E (by exact run_build _ _ _ _ (by kernel_rfl)) ?_))))
     obtain⟨g36,w36,hr36,l36,x36,k36⟩:=cK (P:=Tryz.prog) (w:=w4) (T:=114) (cs:=[I 0,I 0,B false,.slice none 0 0,.slice none 0 0,.pointer none,.pointer none,.pointer none])
     refine cM E E hr36 (bA (vs:=[]) (r:=.agg #[I 0,I 0,B false,.slice none 0 0,.slice none 0 0,.pointer none,.pointer none,.pointer none]) E E (by exact run_build _ _ _ _ (by kernel_rfl)) ?_)
     obtain⟨g38,w38,hr38,l38,x38,k38⟩:=cK (P:=Tryz.prog) (w:=w36) (T:=114) (cs:=[I 0,I 0,B false,.slice none 0 0,.slice none 0 0,.pointer none,.pointer none,.pointer none])
     refine cM E E hr38 ?_
     refine bA (vs:=[(0,.pointer (some ⟨g36,0,none⟩)),(1,.pointer (some ⟨g38,0,none⟩))]) (r:=.agg #[.pointer (some ⟨g36,0,none⟩),.pointer (some ⟨g38,0,none⟩)]) E E (run_build _ _ _ #[.pointer (some ⟨g36,0,none⟩),.pointer (some ⟨g38,0,none⟩)] (by kernel_rfl)) ?_
     refine ax E E (ah E E (ar (o:=5) MM E (by kernel_rfl) E) ?_)
     obtain⟨w7,s7,q7,k7⟩:=ct.stO (P:=Tryz.prog) (t:=111) (m:=[.pointer (some ⟨g36,0,none⟩),.pointer (some ⟨g38,0,none⟩)]) (kS.ext (x36.trans x38)) 5 (by show 5+2≤8;omega) (by kernel_rfl) (av.cons rfl (av.cons rfl av.nil))
     refine au E E s7 ?_
     have y7:=aK.of_new (y6.trans (x36.trans x38)) q7 hg
     have m7:=(m6.trans (Mv.of_ext (X:=fun k=>k=g) (x36.trans x38)) fun _ hk _=>hk).trans (Mv.of_grown (X:=fun k=>k=g) q7 fun k hk _=>(Option.some.inj hk).symm) fun _ hk _=>hk
     have sz6:=m6.size
     have sz0:=e0.size
     have lt36:=k36.lt
     have G1:w0.heap.size≤g36:=by omega
     have G2:w0.heap.size≤g38:=by omega
     have N1:g∉[g36]:=by simp;omega
     have N2:g∉[g38]:=by simp;omega
     have N3:∀k∈[g36],k∉[g38]:=by simp;omega
     have FR:∀k,k∈[g36]∨k∈[g38]→k∈ids∨w.heap.size≤k:=fun k hk=>.inr (by simp at hk;omega)
     have k3d:=(k3c.ext (x36.trans x38)).other q7 (fun e=>hg3 (Option.some.inj e).symm)
     have k36b:=(k36.ext x38).other q7 (fun e=>by have:=Option.some.inj e;omega)
     have k38b:=k38.other q7 (fun e=>by have:=Option.some.inj e;omega)
     refine ag ?_
     exact cu (yk d,.gap,.gap,p,q,g36,g38,[g36],[g38]) ⟨rfl,rfl,trivial⟩ ⟨by rw[ht];rfl,⟨m7,by rw[hn];exact hp,by rw[hn];exact hq,k7,j8.gap k36b G1,j8.gap k38b G2,N1,N2,N3,FR,hg⟩,k3d,y7⟩
  rintro⟨s,a,b,x,y,g1,g2,i1,i2⟩ wC ⟨hop,hM,k3C,eC⟩
  refine ab (af (aE (af ?_)))
  have hm0:=hM.mv
  dsimp only at hop hM k3C
  have kC:ct g 114 [I s.kd,I s.ix,B s.at_.1,x,y,.pointer (some ⟨g1,0,none⟩),.pointer (some ⟨g2,0,none⟩),.pointer none] wC:=hM.blk
  have sx:=hM.hx
  have sy:=hM.hy
  refine bI 6 [0,3,48] (by kernel_rfl) (by kernel_rfl) ?_
  refine aA rfl rfl (dj rfl rfl (aW rfl rfl (fun w hw=>ar (o:=0) Tryz.underlying114 rfl (by kernel_rfl) rfl) (aP rfl rfl (fun w hw=>(kC.ext hw).ldO (ms:=[I s.kd,I s.ix,B s.at_.1,x,y]) (o:=0) (fun j v hj=>by rcases j with _|_|_|_|_|_|_|_|_|j<;>simp_all) Tryz.underlying48 rfl (by kernel_rfl)) ?_)))
  refine aP rfl rfl (fun w hw=>(k3C.ext hw).ld My rfl (by kernel_rfl)) (cn (S:=Is (B (decide (s=d)))) od (cb.is _) rfl (fun w hw=>by rintro _ rfl _ rfl;exact bE.mono (oe (a:=s) (b:=d) ((sx.ext eC).ext hw) ((sy.ext eC).ext hw) ((hp.ext eC).ext hw) ((hq.ext eC).ext hw)) fun v w' h=>⟨h.1,h.2⟩) ?_)
  refine cq ?_
  intro wg8 xg8
  rintro _ rfl
  rintro _ rfl
  rintro _ rfl
  refine ae E E (ag (ab ?_))
  refine fY E (fun h42=>?_) (fun h42=>?_)
  ·refine af (aa (ac E E (ax E E (ah E E (ar (o:=5) MM E (by kernel_rfl) E) ?_))))
   refine aq E E E (iW MV (by kernel_rfl) (i:=0) (by omega) .i64) ?_
   refine ak E E (aj MQ E ((kC.ext xg8).cell (i:=5) E)) (ae E E (ae E E (ag (ab (aw (aZ (ay ?_)))))))
   refine bf E E E ?_
   exact⟨_,rfl,.inr ⟨s,a,b,x,y,g1,g2,i1,i2,hop,hM.ext xg8,by rw[if_pos (of_decide_eq_true h42)];rfl⟩⟩
  ·refine af (bI 7 [0,61] (by kernel_rfl) (by kernel_rfl) ?_)
   refine aA rfl rfl (dj rfl rfl (aW rfl rfl (fun w hw=>ar (o:=0) Tryz.underlying114 rfl (by kernel_rfl) rfl) (aP rfl rfl (fun w hw=>((kC.ext xg8).ext hw).ldO (ms:=[I s.kd,I s.ix,B s.at_.1,x,y]) (o:=0) (fun j v hj=>by rcases j with _|_|_|_|_|_|_|_|_|j<;>simp_all) Tryz.underlying48 rfl (by kernel_rfl)) ?_)))
   refine cn (S:=Is (.agg #[I (dI s).kd,I (dI s).ix,B (dI s).at_.1,x,y])) jA (cb.is _) rfl (fun w hw=>by rintro _ rfl;exact bE.mono (jB (d:=s) ((ho.ext (eC.trans xg8)).ext hw) ((sx.ext (eC.trans xg8)).ext hw) ((sy.ext (eC.trans xg8)).ext hw)) fun v w' h=>⟨h.1,h.2⟩) ?_
   refine aP rfl rfl (fun w hw=>((k3C.ext xg8).ext hw).ld My rfl (by kernel_rfl)) (cn (S:=Is (B (decide (dI s=d)))) od (cb.is _) rfl (fun w hw=>by rintro _ rfl _ rfl;exact bE.mono (oe (a:=dI s) (b:=d) ((sx.ext (eC.trans xg8)).ext hw) ((sy.ext (eC.trans xg8)).ext hw) ((hp.ext (eC.trans xg8)).ext hw) ((hq.ext (eC.trans xg8)).ext hw)) fun v w' h=>⟨h.1,h.2⟩) ?_)
   refine cq ?_
   intro wg10 xg10
   rintro _ rfl
   rintro _ rfl
   refine ae E E (ag (ab ?_))
   refine fY E (fun h54=>?_) (fun h54=>?_)
   ·refine af (aa (ac E E (ax E E (ah E E (ar (o:=5) MM E (by kernel_rfl) E) ?_))))
    refine aq E E E (iW MV (by kernel_rfl) (i:=1) (by omega) .i64) ?_
    refine ak E E (aj MQ E ((kC.ext (xg8.trans xg10)).cell (i:=6) E)) (ae E E (ae E E (ag (ab (aw ?_)))))
    refine aZ (ay (bf E E E ?_))
    exact⟨_,rfl,.inr ⟨s,a,b,x,y,g1,g2,i1,i2,hop,hM.ext (xg8.trans xg10),by rw[if_neg (of_decide_eq_false h42),if_pos (of_decide_eq_true h54)];rfl⟩⟩
   ·refine aC (aS (ab (af (aa (ae E E (ae E E (ag (ab (aw (bf E E E ?_))))))))))
    exact⟨_,rfl,.inr ⟨s,a,b,x,y,g1,g2,i1,i2,hop,hM.ext (xg8.trans xg10),by rw[if_neg (of_decide_eq_false h42),if_neg (of_decide_eq_false h54)];rfl⟩⟩
 ·rw[ht] at hJ2
  obtain⟨gl,cl,hid,kg,kl,hrl⟩:=vM hJ2
  have kg3:=kg.ext x3
  refine aa (ac E E (ax E E (ah E E (ar (o:=7) MM E (by kernel_rfl) E) (ak E E (aj MS E (kg3.cell (i:=7) E)) ?_))))
  refine al E E E (iu MS) (ag (ab (bg E (af (aa (ae E E (ae E E (ag (ab (aw (ay (bf E E E ?_))))))))))))
  exact⟨_,rfl,.inl ⟨n,ht,x3,rfl⟩⟩
 ·obtain⟨x,y,g1,g2,i1,i2,hid,hx,hy,kg,j1,j2,_,n1,n2,n3⟩:=(show j8 w0 w g (.split s a b) ids from ht▸hJ2).split_inv
  have kg3:=kg.ext x3
  refine aa (ac E E (ax E E (ah E E (ar (o:=7) MM E (by kernel_rfl) E) (ak E E (aj MS E (kg3.cell (i:=7) E)) ?_))))
  refine al E E E (iu MS) (ag (ab (cr E (aC (ab (af ?_))))))
  refine fg (fun(x:bU×JT×JT×Value×Value×Nat×Nat×List Nat×List Nat)=>[(0,.pointer (some ⟨g,0,none⟩)),(3,.pointer (some ⟨g3,0,none⟩))]) (fun x w'=>tH d t=.split x.1 x.2.1 x.2.2.1∧nh w0 w g ids x.1 x.2.1 x.2.2.1 x.2.2.2.1 x.2.2.2.2.1 x.2.2.2.2.2.1 x.2.2.2.2.2.2.1 x.2.2.2.2.2.2.2.1 x.2.2.2.2.2.2.2.2 w'∧ct g3 48 [I d.kd,I d.ix,B d.at_.1,p,q] w'∧aK w0 w') ?_ ?_
  ·refine af (aa (ac E E (ax E E (ah E E (ar (o:=5) MM E (by kernel_rfl) E) ?_))))
   refine aq E E E (iW MV (by kernel_rfl) (i:=0) (by omega) .i64) ?_
   refine ak E E (aj MQ E (kg3.cell (i:=5) E)) (al E E E (gF MQ) (ag ?_))
   refine ab (cr E (aC ?_))
   exact cu (s,a,b,x,y,g1,g2,i1,i2) ⟨rfl,rfl,trivial⟩ ⟨by rw[ht];rfl,nh.ext ⟨Mv.refl _ _,hx,hy,kg,j1,j2,n1,n2,n3,fun k hk=>.inl (by rw[hid];simp only[List.mem_cons,List.mem_append];exact .inr hk),hg⟩ x3,k3,e0.trans x3⟩
  rintro⟨s,a,b,x,y,g1,g2,i1,i2⟩ wC ⟨hop,hM,k3C,eC⟩
  refine ab (af (aE (af ?_)))
  have hm0:=hM.mv
  dsimp only at hop hM k3C
  have kC:ct g 114 [I s.kd,I s.ix,B s.at_.1,x,y,.pointer (some ⟨g1,0,none⟩),.pointer (some ⟨g2,0,none⟩),.pointer none] wC:=hM.blk
  have sx:=hM.hx
  have sy:=hM.hy
  refine bI 6 [0,3,48] (by kernel_rfl) (by kernel_rfl) ?_
  refine aA rfl rfl (dj rfl rfl (aW rfl rfl (fun w hw=>ar (o:=0) Tryz.underlying114 rfl (by kernel_rfl) rfl) (aP rfl rfl (fun w hw=>(kC.ext hw).ldO (ms:=[I s.kd,I s.ix,B s.at_.1,x,y]) (o:=0) (fun j v hj=>by rcases j with _|_|_|_|_|_|_|_|_|j<;>simp_all) Tryz.underlying48 rfl (by kernel_rfl)) ?_)))
  refine aP rfl rfl (fun w hw=>(k3C.ext hw).ld My rfl (by kernel_rfl)) (cn (S:=Is (B (decide (s=d)))) od (cb.is _) rfl (fun w hw=>by rintro _ rfl _ rfl;exact bE.mono (oe (a:=s) (b:=d) ((sx.ext eC).ext hw) ((sy.ext eC).ext hw) ((hp.ext eC).ext hw) ((hq.ext eC).ext hw)) fun v w' h=>⟨h.1,h.2⟩) ?_)
  refine cq ?_
  intro wg8 xg8
  rintro _ rfl
  rintro _ rfl
  rintro _ rfl
  refine ae E E (ag (ab ?_))
  refine fY E (fun h42=>?_) (fun h42=>?_)
  ·refine af (aa (ac E E (ax E E (ah E E (ar (o:=5) MM E (by kernel_rfl) E) ?_))))
   refine aq E E E (iW MV (by kernel_rfl) (i:=0) (by omega) .i64) ?_
   refine ak E E (aj MQ E ((kC.ext xg8).cell (i:=5) E)) (ae E E (ae E E (ag (ab (aw (aZ (ay ?_)))))))
   refine bf E E E ?_
   exact⟨_,rfl,.inr ⟨s,a,b,x,y,g1,g2,i1,i2,hop,hM.ext xg8,by rw[if_pos (of_decide_eq_true h42)];rfl⟩⟩
  ·refine af (bI 7 [0,61] (by kernel_rfl) (by kernel_rfl) ?_)
   refine aA rfl rfl (dj rfl rfl (aW rfl rfl (fun w hw=>ar (o:=0) Tryz.underlying114 rfl (by kernel_rfl) rfl) (aP rfl rfl (fun w hw=>((kC.ext xg8).ext hw).ldO (ms:=[I s.kd,I s.ix,B s.at_.1,x,y]) (o:=0) (fun j v hj=>by rcases j with _|_|_|_|_|_|_|_|_|j<;>simp_all) Tryz.underlying48 rfl (by kernel_rfl)) ?_)))
   refine cn (S:=Is (.agg #[I (dI s).kd,I (dI s).ix,B (dI s).at_.1,x,y])) jA (cb.is _) rfl (fun w hw=>by rintro _ rfl;exact bE.mono (jB (d:=s) ((ho.ext (eC.trans xg8)).ext hw) ((sx.ext (eC.trans xg8)).ext hw) ((sy.ext (eC.trans xg8)).ext hw)) fun v w' h=>⟨h.1,h.2⟩) ?_
   refine aP rfl rfl (fun w hw=>((k3C.ext xg8).ext hw).ld My rfl (by kernel_rfl)) (cn (S:=Is (B (decide (dI s=d)))) od (cb.is _) rfl (fun w hw=>by rintro _ rfl _ rfl;exact bE.mono (oe (a:=dI s) (b:=d) ((sx.ext (eC.trans xg8)).ext hw) ((sy.ext (eC.trans xg8)).ext hw) ((hp.ext (eC.trans xg8)).ext hw) ((hq.ext (eC.trans xg8)).ext hw)) fun v w' h=>⟨h.1,h.2⟩) ?_)
   refine cq ?_
   intro wg10 xg10
   rintro _ rfl
   rintro _ rfl
   refine ae E E (ag (ab ?_))
   refine fY E (fun h54=>?_) (fun h54=>?_)
   ·refine af (aa (ac E E (ax E E (ah E E (ar (o:=5) MM E (by kernel_rfl) E) ?_))))
    refine aq E E E (iW MV (by kernel_rfl) (i:=1) (by omega) .i64) ?_
    refine ak E E (aj MQ E ((kC.ext (xg8.trans xg10)).cell (i:=6) E)) (ae E E (ae E E (ag (ab (aw ?_)))))
    refine aZ (ay (bf E E E ?_))
    exact⟨_,rfl,.inr ⟨s,a,b,x,y,g1,g2,i1,i2,hop,hM.ext (xg8.trans xg10),by rw[if_neg (of_decide_eq_false h42),if_pos (of_decide_eq_true h54)];rfl⟩⟩
   ·refine aC (aS (ab (af (aa (ae E E (ae E E (ag (ab (aw (bf E E E ?_))))))))))
    exact⟨_,rfl,.inr ⟨s,a,b,x,y,g1,g2,i1,i2,hop,hM.ext (xg8.trans xg10),by rw[if_neg (of_decide_eq_false h42),if_neg (of_decide_eq_false h54)];rfl⟩⟩
end Go.Rl
namespace Go.Rl
open Go.RowKit Go.Proofs
def JT.gaps:JT→Nat
 |.gap=>1
 |.leaf _=>0
 |.split _ a b=>a.gaps+b.gaps
theorem j0:∀(t:JT) (p:List bU),(t.miss p).length=t.gaps
 |.gap,p=>rfl
 |.leaf n,p=>rfl
 |.split s a b,p=>by simp only[JT.miss,JT.gaps,List.length_append,j0 a,j0 b]
theorem uG (n:aY):∀(p:List bU) {t t':JT},iN n p t=some t'→t'.gaps≤t.gaps+p.length
 |[],.gap,t',h=>by simp only[iN,Option.some.injEq] at h;subst h;simp[JT.gaps]
 |[],.leaf m,t',h=>by simp only[iN,Option.some.injEq] at h;subst h;simp[JT.gaps]
 |[],.split _ _ _,t',h=>by simp[iN] at h
 |d::p,t,t',h=>by
  have key:∀s a b,tH d t=.split s a b→t'.gaps≤(tH d t).gaps+p.length:=fun s a b ho=>by
   simp only[iN,ho] at h
   rw[ho]
   split at h
   ·obtain⟨a',h1,rfl⟩:=Option.map_eq_some_iff.1 h
    have:=uG n p h1
    simp only[JT.gaps];omega
   ·split at h
    ·obtain⟨b',h1,rfl⟩:=Option.map_eq_some_iff.1 h
     have:=uG n p h1
     simp only[JT.gaps];omega
    ·cases h
  cases t with
  |gap=>
   have:=key _ _ _ rfl
   simp only[tH,JT.gaps] at this
   simp only[JT.gaps,List.length_cons];omega
  |leaf m=>simp[iN,tH] at h
  |split s a b=>
   have:=key _ _ _ rfl
   simp only[tH] at this
   simp only[List.length_cons];omega
def zB (p:List bU):Dt:=.sl (p.map dC)
theorem sJ (p:List bU):(zB p).size=1:=rfl
theorem zC:(Tryz.prog.info? 41).map (fun i=>(i.zero,i.size,i.bytes))=some (some (.slice none 0 0),1,24):=by kernel_rfl
theorem D8:(Tryz.prog.info? 52).map (fun i=>(i.zero,i.size))=some (some (.agg #[.slice none 0 0,I 0,I 0,B false,.slice none 0 0,.slice none 0 0,.slice none 0 0,B false,.slice none 0 0]),9):=by kernel_rfl
def YM (gm:Nat) (mv:Value) (k:Nat):Prop:=k=gm∨mv.ownBlock=some k
def AV (w0:World) (n gm:Nat) (mv:Value) (k:Nat):Prop:=YM gm mv k∨(w0.heap.size≤k∧k<n)
structure zD (w0 w:World) (F:Nat→Prop) (gm:Nat) (mv:Value) (ms:List (List bU)):Prop where
 cell:ct gm 59 [mv] w
 own:fH 41 1 w0.heap.size (fun k=>k=gm∨F k) zB ms mv w
 ne:mv.ownBlock≠some gm
 young:w0.heap.size≤gm
section
variable {w0 w w':World} {gm g:Nat} {mv mv':Value} {ms:List (List bU)} {t:JT} {ids:List Nat} {F G:Nat→Prop}
theorem zD.ext (h:zD w0 w F gm mv ms) (e:aK w w'):zD w0 w' F gm mv ms:=⟨h.cell.ext e,h.own.ext e,h.ne,h.young⟩
theorem zD.weak (h:zD w0 w F gm mv ms) (hG:∀k,G k→F k∨w.heap.size≤k):zD w0 w G gm mv ms:=by
 obtain⟨h1,⟨n,xs,h2,h3⟩,h4,h5⟩:=h
 refine⟨h1,⟨n,xs,h2,h3.weak fun k hk=>?_⟩,h4,h5⟩
 rcases hk with(hk|hk)|hk
 ·exact .inl (.inl (.inl hk))
 ·exact(hG k hk).imp (fun h=>.inl (.inr h)) id
 ·exact .inl (.inr hk)
theorem zD.ym_young (h:zD w0 w F gm mv ms) {k:Nat} (hk:YM gm mv k):w0.heap.size≤k∧k<w.heap.size:=by
 rcases hk with rfl|hk
 ·exact⟨h.young,h.cell.lt⟩
 ·exact h.own.lt k hk
theorem zD.sto (h:zD w0 w F gm mv ms) (hm:Mv (fun k=>k=g) w w') (hg:F g) (hn:¬YM gm mv g):zD w0 w' F gm mv ms:=
 ⟨hm.blk h.cell fun e=>hn (.inl (Eq.symm e)),h.own.mv hm (fun k hk=>by have e:k=g:=hk;rw[e];exact .inr hg) fun k hk e=>hn (by have e':k=g:=e;rw[←e'];exact .inr hk),h.ne,h.young⟩
theorem j8.ext (h:j8 w0 w g t ids) (e:aK w w'):j8 w0 w' g t ids:=h.mv (Mv.of_ext (X:=fun _=>False) e) fun _ _ h=>h
def CvR (w0 w:World) (F:Nat→Prop) (gm:Nat) (mv:Value) (ms:List (List bU)) (t:JT) (path:List bU) (r:Value) (w':World):Prop:=
 ∃cs mv',r=.agg cs.toArray∧av cs∧cN (AV w0 w.heap.size gm mv') w' (bG t.node) cs∧zD w0 w' F gm mv' (ms++t.miss path)∧Mv (YM gm mv) w w'∧(∀k,mv'.ownBlock=some k→mv.ownBlock=some k∨w.heap.size≤k)
def D9 (w0:World) (t:JT):Prop:=∀(F:Nat→Prop) (w:World) (g:Nat) (ids:List Nat) (path:List bU) (pv:Value) (gm:Nat) (mv:Value) (ms:List (List bU)),(∀k,F k→w0.heap.size≤k∧k<w.heap.size)→aK w0 w→j8 w0 w g t ids→zD w0 w F gm mv ms→(∀k∈ids,¬YM gm mv k)→cN (fun k=>YM gm mv k∨F k) w (.sl (path.map dC)) [pv]→path.length+t.depth≤1073741824→ms.length+t.gaps≤1099511627776→
 Calls Tryz.prog 65 #[.pointer (some ⟨g,0,none⟩),pv,.pointer (some ⟨gm,0,none⟩)] w (bE fun r w'=>CvR w0 w F gm mv ms t path r w')
theorem J5 {X:Nat→Prop} {a1 a2:aY} {c1 c2:List Value} (ha1:cN X w (bG a1) c1) (ha2:cN X w (bG a2) c2) (hX:∀k,X k→k<w.heap.size):
 ∃r w',(Instr.buildSlice 49 2 (eI 0 [Value.agg c1.toArray,Value.agg c2.toArray]).toArray).run Tryz.prog w=.ok r w'∧aK w w'∧cN X w' (.sl ([a1,a2].map bG)) [r]∧r.oneCell'=true:=by
 have hl1:c1.length=9:=by rw[ha1.len,cG]
 have hl2:c2.length=9:=by rw[ha2.len,cG]
 obtain⟨x,w1,h3,h4,h5,h6⟩:=yR (P:=Tryz.prog) (w:=w) (t:=49) Tryz.underlying49 D8 rfl (by omega) [c1,c2] (by simp[hl1,hl2]) (by simp) (by simp)
 have h7:cN X w1 (.sl ([a1,a2].map bG)) [x]:=cN.ofSl (sz:=9) (xs:=c1++c2) (by simpa using h5) (by simpa using aR.cons (ha1.ext h4) (aR.cons (b:=[]) (ha2.ext h4) aR.nil)) (by simp[cG]) (by omega) fun k hk hx=>by
  rw[h6] at hk
  have:=Option.some.inj hk
  have:=hX k hx
  omega
 obtain⟨A,n,c,rfl⟩:=h7.isSl
 exact⟨_,w1,by simpa using h3,h4,h7,rfl⟩
structure vq (w0 w:World) (F:Nat→Prop) (g7 gm:Nat) (mv mv1:Value) (ms:List (List bU)) (n:aY) (cs:List Value) (w':World):Prop where
 m:Mv (YM gm mv) w w'
 k7:ct g7 52 cs w'
 ones:av cs
 rp:cN (AV w0 w.heap.size gm mv1) w' (bG n) cs
 st:zD w0 w' F gm mv1 ms
 own:∀k,mv1.ownBlock=some k→mv.ownBlock=some k∨w.heap.size≤k
 f7:w.heap.size≤g7
 n7:¬YM gm mv1 g7
variable {P:Program} {wc wd we:World} {g7:Nat} {cs z:List Value} {a:JT} {path:List bU} {mv1:Value} {r:Value}
theorem cs9 {X:Nat→Prop} {n:aY} (h:cN X w (bG n) cs):(Tryz.prog.info? 52).map (·.size)=some cs.length:=by
 rw[h.len,cG];kernel_rfl
theorem vq.late (e:aK w wc) (h1:av cs) (hr:cN (AV w0 wc.heap.size gm mv1) wd (bG a.node) cs) (hs:zD w0 wd F gm mv1 (ms++a.miss path)) (hm:Mv (YM gm mv) wc wd) (ho:∀k,mv1.ownBlock=some k→mv.ownBlock=some k∨wc.heap.size≤k) (ee:aK wd we) (l7:wd.heap.size≤g7) (k7:ct g7 52 z we) (hz:z.length=9):
 ∃w',(Instr.storeAt 52 (.pointer (some ⟨g7,0,none⟩)) (.agg cs.toArray)).run Tryz.prog we=.ok () w'∧vq w0 w F g7 gm mv mv1 (ms++a.miss path) a.node cs w':=by
 obtain⟨w',s,q,k⟩:=k7.stS (P:=Tryz.prog) (t:=52) (m:=cs) (by rw[hz,hr.len,cG]) (cs9 hr) h1
 have mq:Mv (fun k=>k=g7) we w':=Mv.of_grown q fun k hk _=>(Option.some.inj hk).symm
 have md:aK wd w':=(Mv.of_ext (X:=fun k=>k=g7) ee|>.trans mq fun _ h _=>h).ext fun k hk=>by have e:k=g7:=hk;omega
 have s1:=hm.size
 have s0:=e.size
 refine⟨w',s,((Mv.of_ext (X:=YM gm mv) e).trans hm fun _ h _=>h).trans (Mv.of_ext (X:=YM gm mv) md) fun _ h _=>h,k,h1,(hr.ext md).weak fun k hk=>.inl ?_,hs.ext md,fun k hk=>(ho k hk).imp id fun h=>Nat.le_trans s0 h,by omega,fun hy=>?_⟩
 ·rcases hk with hk|⟨hk1,hk2⟩
  ·exact .inl hk
  ·exact .inr ⟨hk1,by omega⟩
 ·have:=(hs.ym_young hy).2;omega
theorem vq.early (e:aK w wc) (h1:av cs) (hr:cN (AV w0 wc.heap.size gm mv1) wd (bG a.node) cs) (hs:zD w0 wd (fun k=>F k∨k=g7) gm mv1 (ms++a.miss path)) (hm:Mv (YM gm mv) wc wd) (ho:∀k,mv1.ownBlock=some k→mv.ownBlock=some k∨wc.heap.size≤k) (h0:w0.heap.size≤w.heap.size) (l7:w.heap.size≤g7) (hy:∀k,YM gm mv k→k<w.heap.size) (k7:ct g7 52 z wc) (hz:z.length=9):
 ∃w',(Instr.storeAt 52 (.pointer (some ⟨g7,0,none⟩)) (.agg cs.toArray)).run Tryz.prog wd=.ok () w'∧vq w0 w F g7 gm mv mv1 (ms++a.miss path) a.node cs w':=by
 have hg7:=k7.lt
 have nm:¬YM gm mv g7:=fun h=>by have:=hy _ h;omega
 have n1:¬YM gm mv1 g7:=fun h=>by
  rcases h with h|h
  ·exact nm (.inl h)
  ·rcases ho _ h with h'|h'
   ·exact nm (.inr h')
   ·omega
 have k7d:=hm.blk k7 nm
 obtain⟨w',s,q,k⟩:=k7d.stS (P:=Tryz.prog) (t:=52) (m:=cs) (by rw[hz,hr.len,cG]) (cs9 hr) h1
 have mq:Mv (fun k=>k=g7) wd w':=Mv.of_grown q fun k hk _=>(Option.some.inj hk).symm
 have s1:=hm.size
 have s0:=e.size
 have e7:∀k,(fun k=>k=g7) k→AV w0 wc.heap.size gm mv1 k:=fun k hk=>.inr (by have e:k=g7:=hk;omega)
 refine⟨w',s,((Mv.of_ext (X:=YM gm mv) e).trans hm fun _ h _=>h).trans mq fun k hk hlt=>?_,k,h1,?_,(hs.sto mq (.inr E) n1).weak fun k hk=>.inl (.inl hk),fun k hk=>(ho k hk).imp id fun h=>Nat.le_trans s0 h,l7,n1⟩
 ·have e:k=g7:=hk
  omega
 ·exact(hr.mv (mq.weak fun k hk _=>e7 k hk) fun _ h=>.inl h).weak fun k hk=>.inl (hk.imp id fun h=>⟨h.1,by omega⟩)
end
end Go.Rl
namespace Go.Rl
open Go.RowKit Go.Proofs
theorem iP:aG Tryz.prog 65:=⟨_,Tryz.func65,by kernel_rfl,rfl⟩
theorem fH.low {e:TypeId} {sz base b2:Nat} {X:Nat→Prop} {α:Type} {f:α→Dt} {l:List α} {v:Value} {w:World} (h:fH e sz base X f l v w) (hb:b2≤base):fH e sz b2 X f l v w:=by
 obtain⟨n,xs,h1,h2⟩:=h
 exact⟨n,xs,kt h1 fun k hk=>Nat.le_trans hb (World.ownsRow.lt h1 k hk).1,h2⟩
theorem fX {w:World} {X:Nat→Prop} {l:List bU} {v:Value} (hv:cN X w (.sl (l.map dC)) [v]) (hl:l.length≤1099511627776):
 Calls Tryz.prog 109 #[v] w (bE fun r w'=>aK w w'∧fH 48 5 w.heap.size X dC l r w'):=by
 obtain⟨A,n,c,rfl⟩:=hv.isSl
 refine enter (vs:=[.slice A n c]) Tryz.func109 E E E ?_
 refine af (aa (ae E E (ag (ab (af (af (aa (ac E E (al E E E (zV ME) (ag (ab ?_)))))))))))
 refine fY E (fun h4=>?_) (fun h4=>?_)
 ·refine af (aa (ae E E (ag (ab (aw (ay (az E E ?_)))))))
  have hA:A=none:=by simpa using h4
  have hnil:l=[]:=by
   have h:=hv.rp
   simp only[Rp,List.cons.injEq,Value.slice.injEq,and_true] at h
   obtain⟨_,n',c',⟨rfl,rfl,rfl⟩,h1,h2,_,h3,_⟩:=h
   have:=h3 hA
   exact List.eq_nil_of_length_eq_zero (by rw[List.length_map] at h1;omega)
  subst hnil
  exact⟨_,rfl,aK.refl _,fH.nil _⟩
 ·refine aC (ab (af (aa ?_)))
  obtain⟨v5,w5,hr5,x5,o5,ob5⟩:=K8 (P:=Tryz.prog) (w:=w) (f:=dC) (X:=X) ME zk
  obtain⟨cs,hcs,hall⟩:=cN.toSl (sz:=5) hv (by simp[ck])
  obtain⟨v7,w7,hr7,o7,g7⟩:=o5.app (P:=Tryz.prog) (t:=41) (ty:=41) (m:=l) Tryz.underlying41 py rfl (by omega) (by omega) (hcs.ext x5) (rK hall.rp) ((hall.weak fun k hk=>hk.imp id fun h=>by rw[ob5] at h;have:=Option.some.inj h;omega).ext x5) ck (by simp;omega) x5.size
  have x7:=aK.of_grew x5 g7 (fun k hk=>(o5.lt k hk).1)
  refine aJ (vs:=[]) E E hr5 ?_
  refine ac E E ?_
  refine ba E E hr7 ?_
  refine ae E E (ag (ab (aw (az E E ?_))))
  exact⟨_,rfl,x7,by simpa using o7⟩
end Go.Rl
namespace Go.Rl
open Go.RowKit Go.Proofs
theorem vt {w0 w:World} {X:Nat→Prop} {n:aY} {cs:List Value} (h:Rp w0 (bG n) cs) (e:aK w0 w) (hX:∀k,X k→w0.heap.size≤k):cN X w (bG n) cs:=(h.x.ext e).weak fun k hk=>.inl (hX k hk)
theorem YM.grow {w:World} {gm:Nat} {mv mv1:Value} (ho:∀k,mv1.ownBlock=some k→mv.ownBlock=some k∨w.heap.size≤k) {k:Nat} (h:YM gm mv1 k):YM gm mv k∨w.heap.size≤k:=by
 rcases h with h|h
 ·exact .inl (.inl h)
 ·exact(ho k h).imp .inr id
theorem ni {w0 w6 wx:World} {F F':Nat→Prop} {gk gm:Nat} {ik:List Nat} {mv v48:Value} {ms:List (List bU)} {t:JT} {path:List bU} (hat:D9 w0 t) (hF:∀k,F k→w0.heap.size≤k∧k<w6.heap.size) (e0:aK w0 w6) (ex:aK w6 wx) (hJ:j8 w0 w6 gk t ik) (hC:zD w0 w6 F gm mv ms) (hd:∀k∈ik,¬YM gm mv k) (hl:path.length+t.depth≤1073741824) (hm:ms.length+t.gaps≤1099511627776)
 (o48:fH 48 5 w6.heap.size (fun k=>YM gm mv k∨F' k) dC path v48 wx) (hF':∀k,F' k→F k∨(w6.heap.size≤k∧k<wx.heap.size)) (hne:∀k,v48.ownBlock=some k→¬F' k):
 Calls Tryz.prog 65 #[.pointer (some ⟨gk,0,none⟩),v48,.pointer (some ⟨gm,0,none⟩)] wx (bE fun r w'=>CvR w0 wx F' gm mv ms t path r w'):=by
 have s0:=e0.size
 have sx:=ex.size
 refine hat F' wx gk ik path v48 gm mv ms (fun k hk=>?_) (e0.trans ex) (hJ.ext ex) ((hC.weak fun k hk=>(hF' k hk).imp id fun h=>h.1).ext ex) hd (o48.rpx ck (by omega) (fun _ h=>h) fun k hk hk'=>?_) hl hm
 ·rcases hF' k hk with h|h
  ·exact⟨(hF k h).1,by have:=(hF k h).2;omega⟩
  ·exact⟨by omega,h.2⟩
 ·have h1:=(o48.lt k hk).1
  rcases hk' with h|h
  ·have:=(hC.ym_young h).2;omega
  ·exact hne k hk h
theorem Ff {w0 w6 wg w1:World} {X:Nat→Prop} {path:List bU} {d:bU} {x y v42 v47:Value} (e0:aK w0 w6) (eg:aK w6 wg) (e1:aK wg w1) (hX:∀k,X k→w0.heap.size≤k) (hx:bm d.at_.2.1 x w0) (hy:bm d.at_.2.2 y w0) (o42:fH 48 5 w6.heap.size X dC path v42 w1) (b47:Sl 5 [I d.kd,I d.ix,B d.at_.1,x,y] v47 wg) (hl:path.length≤1099511627776):
 ∃r w2,(Builtin.append_ #[41,41] 41 #[v42,v47]).run Tryz.prog w1=.ok r w2∧fH 48 5 w6.heap.size X dC (path++[d]) r w2∧aK w6 w2∧Mv (fun k=>v42.ownBlock=some k) w1 w2∧∀k,r.ownBlock=some k→v42.ownBlock=some k∨w1.heap.size≤k:=by
 have hlt:=o42.lt
 have s1:=(eg.trans e1).size
 obtain⟨r,w2,h1,h2,h3⟩:=o42.app (P:=Tryz.prog) (t:=41) (ty:=41) (m:=[d]) ME py rfl (by omega) (by omega) (b47.ext e1) (av.cons rfl (av.cons rfl (av.cons rfl (av.cons hx.one (av.cons hy.one av.nil))))) (by
  have:=(((AH hx hy).x.ext (e0.trans (eg.trans e1))).weak (Y:=fun k=>X k∨v42.ownBlock=some k) fun k hk=>by
   rcases hk with hk|hk
   ·exact .inl (hX k hk)
   ·exact .inl (Nat.le_trans e0.size (hlt k hk).1))
  simpa using aR.cons this aR.nil) ck (by simp;omega) s1
 have hm:Mv (fun k=>v42.ownBlock=some k) w1 w2:=Mv.of_grown h3.grown fun k hk _=>hk
 refine⟨r,w2,h1,h2,hm.ext_from (eg.trans e1) fun k hk=>(hlt k hk).1,hm,fun k hk=>?_⟩
 rcases h3.own with h|h
 ·rw[h] at hk;exact .inl hk
 ·exact .inr (h k hk)
section
variable {P:Program} {ops:Array Oper} {Q:ja} {N:Nat} {D:List Deferred} {S:World→Prop} {fuel:Nat} {listed:Array Bool} {l:Fr} {w:World} {d:Tmp} {ty:TypeId} {pos:String} {aft:Array Edge}
theorem og (i:Nat) {x:Operand} {a:Addr} (hi:ops[i]? =some ⟨some d,.nilCheck x,ty,pos,aft,none⟩) (hx:ev l x=some (.pointer (some a))) (hB:nE ops listed i=true) (hd:Nat.blt d N=true) (hS:S w)
 (k:dA P ops Q N D S fuel (listed.setIfInBounds i true) ((d,.pointer (some a))::l) w):dA P ops Q N D S (fuel+1) listed l w:=
 yJ i hi hB hd hS (fun ρ w' hρ _=>by simp[execOp,hρ x _ hx]) k
theorem J6 (i j m:Nat) {o u z:Oper} (hr:Region.ready .any ops listed=[i,j,m]) (hi:ops[i]? =some o) (hj:ops[j]? =some u) (hm:ops[m]? =some z) (h:cI P ops (uS P ops Q S fuel (listed.setIfInBounds i true)) N D l w [o])
 (h':cI P ops (uS P ops Q S fuel (listed.setIfInBounds j true)) N D l w [u]) (h'':cI P ops (uS P ops Q S fuel (listed.setIfInBounds m true)) N D l w [z]):dA P ops Q N D S (fuel+1) listed l w:=fun a ha=>
 wpAnyH_all hr (by simp) fun k hk=>by
  rcases(by simpa using hk:k=i∨k=j∨k=m) with rfl|rfl|rfl
  ·exact g0 hi (h a ha)
  ·exact g0 hj (h' a ha)
  ·exact g0 hm (h'' a ha)
end
theorem eK {w:World}:∃g w',(Instr.alloc 52 true (.tuple #[])).run Tryz.prog w=.ok (.pointer (some ⟨g,0,none⟩)) w'∧w.heap.size≤g∧aK w w'∧ct g 52 [.slice none 0 0,I 0,I 0,B false,.slice none 0 0,.slice none 0 0,.slice none 0 0,B false,.slice none 0 0] w':=
 aX (P:=Tryz.prog) (w:=w) (t:=52) (z:=.agg #[.slice none 0 0,I 0,I 0,B false,.slice none 0 0,.slice none 0 0,.slice none 0 0,B false,.slice none 0 0]) (l:=[.slice none 0 0,I 0,I 0,B false,.slice none 0 0,.slice none 0 0,.slice none 0 0,B false,.slice none 0 0]) (by kernel_rfl) rfl
end Go.Rl
namespace Go.Rl
open Go.RowKit Go.Proofs
theorem sK {w0:World} (ho:Ae w0) {t:JT} (ih:∀s a b,t=.split s a b→D9 w0 a∧D9 w0 b):D9 w0 t:=by
 intro F w g ids path pv gm mv ms hF e0 hJ hC hd hp hpl hml
 have hg:w0.heap.size≤g:=hJ.young g hJ.root
 have hgl:g<w.heap.size:=hJ.lt g hJ.root
 have hny:¬YM gm mv g:=hd g hJ.root
 refine enter (vs:=[.pointer (some ⟨g,0,none⟩),pv,.pointer (some ⟨gm,0,none⟩)]) Tryz.func65 E E E ?_
 refine af (aa ?_)
 obtain⟨g6,w6,hr6,l6,x6,k6⟩:=aX (P:=Tryz.prog) (w:=w) (t:=52) (z:=.agg #[.slice none 0 0,I 0,I 0,B false,.slice none 0 0,.slice none 0 0,.slice none 0 0,B false,.slice none 0 0]) (l:=[.slice none 0 0,I 0,I 0,B false,.slice none 0 0,.slice none 0 0,.slice none 0 0,B false,.slice none 0 0]) (by kernel_rfl) rfl
 refine aT E hr6 (ag (ab (af (af ?_))))
 have hg6:g≠g6:=by omega
 have s6:=x6.size
 have lg6:=k6.lt
 have hgm:=hC.cell.lt
 have hmvl:=hC.own.lt
 have n6:¬YM gm mv g6:=fun h=>by have:=(hC.ym_young h).2;omega
 have hFF:∀k,(F k∨k=g6)→w0.heap.size≤k∧k<w6.heap.size:=fun k hk=>by
  have:=e0.size
  rcases hk with hk|hk
  ·have:=hF k hk;exact⟨this.1,by omega⟩
  ·omega
 have hC6:zD w0 w6 (fun k=>F k∨k=g6) gm mv ms:=(hC.weak fun k hk=>hk.imp id fun h=>by omega).ext x6
 have hp6:cN (fun k=>YM gm mv k∨(F k∨k=g6)) w6 (.sl (path.map dC)) [pv]:=(hp.weak fun k hk=>by rcases hk with hk|hk|hk;exact .inl (.inl hk);exact .inl (.inr hk);exact .inr (by omega)).ext x6
 have hJ2:=hJ
 rcases t.shape with ht|⟨n,ht⟩|⟨s,a,b,ht⟩
 ·rw[ht] at hJ2
  obtain⟨hid,kg⟩:=A1 hJ2
  have kg6:ct g 114 [I 0,I 0,B false,.slice none 0 0,.slice none 0 0,.pointer none,.pointer none,.pointer none] w6:=kg.ext x6
  refine aa (ac E E (ax E E (ah E E (ar (o:=7) MM E (by kernel_rfl) E) (ak E E (aj MS E (kg6.cell (i:=7) E)) ?_))))
  refine al E E E (iu MS) (ag (ab (cr E (aC (ab (af (af (aa (ac E E (ax E E (ah E E (ar (o:=5) MM E (by kernel_rfl) E) ?_)))))))))))
  refine aq E E E (iW MV (by kernel_rfl) (i:=0) (by omega) .i64) ?_
  refine ak E E (aj MQ E (kg6.cell (i:=5) E)) (al E E E (gF MQ) (ag ?_))
  refine ab (bg E (af ?_))
  have hpl':path.length≤1099511627776:=by omega
  have hg1:t.gaps=1:=by rw[ht];rfl
  refine vF 7 [7,8,9] [6,26,29,32] (by kernel_rfl) (by kernel_rfl) E E E ?_
  refine aA rfl rfl (dj rfl rfl (aP rfl rfl (fun w' hw=>aj MY rfl (hC6.cell.ext hw).k0) (aA rfl rfl (cn (S:=fH 48 5 w6.heap.size (fun k=>YM gm mv k∨(F k∨k=g6)) dC path) fV (fH.stable) rfl (fun w hw=>by rintro _ rfl;exact bE.mono (fX (hp6.ext hw) hpl') fun v w' h=>⟨h.1,h.2.low hw.size⟩) ?_))))
  refine f4 (S:=fun v w'=>∃pv1,fH 48 5 w6.heap.size (fun k=>YM gm mv k∨(F k∨k=g6)) dC path pv1 w'∧Sl 1 [pv1] v w') (fun _ _ _ ⟨pv1,h1,h2⟩ hx=>⟨pv1,h1.ext hx,h2.ext hx⟩) E (fun w' hw=>by
 intro pv1 h1
 obtain⟨r,w2,a1,a2,a3,_⟩:=ku (P:=Tryz.prog) (w:=w') (base:=0) Tryz.underlying59 zC [pv1] (av.cons h1.one av.nil) (by simp) (Nat.zero_le _)
 exact⟨r,w2,a1,a2,pv1,h1.ext a2,Sl.of_own a3⟩) ?_
  refine cq ?_
  intro wg4 xg4
  rintro _ rfl
  rintro _ rfl
  rintro _ hq29
  obtain rfl:=Eq.symm hq29
  intro vg32 b32
  obtain⟨pv1,o1,sl1⟩:=b32
  have sg4:=xg4.size
  have own1:=o1.lt
  have hC4:=hC6.ext xg4
  have rp1:cN (fun k=>(k=gm∨(F k∨k=g6))∨mv.ownBlock=some k) wg4 (zB path) [pv1]:=(o1.rpx ck (by omega) (fun _ h=>h) fun k hk hk'=>by
   have h1:=(own1 k hk).1
   rcases hk' with h|h
   ·have:=(hC.ym_young h).2;omega
   ·have:=(hFF k h).2;omega).weak fun k hk=>by
   rcases hk with(hk|hk)|hk
   ·exact .inl (.inl (.inl hk))
   ·exact .inl (.inr hk)
   ·exact .inl (.inl (.inr hk))
  obtain⟨v33,w33,hr33,o33,gr33⟩:=hC4.own.app (P:=Tryz.prog) (t:=59) (ty:=59) (m:=[path]) Tryz.underlying59 zC rfl (by omega) (by omega) sl1 (av.cons o1.one av.nil) (by simpa using aR.cons (b:=[]) rp1 aR.nil) sJ (by simp;omega) (by have:=e0.size;omega)
  have m33:Mv (fun k=>mv.ownBlock=some k) wg4 w33:=Mv.of_grown gr33.grown fun k hk _=>hk
  have n33:∀k,v33.ownBlock=some k→mv.ownBlock=some k∨wg4.heap.size≤k:=fun k hk=>by
   rcases gr33.own with h|h
   ·rw[h] at hk;exact .inl hk
   ·exact .inr (h k hk)
  have c33:=m33.blk hC4.cell fun h=>hC.ne h
  have l33:=c33.lt
  have ne33:v33.ownBlock≠some gm:=fun h=>by
   rcases n33 gm h with h'|h'
   ·exact hC.ne h'
   ·omega
  obtain⟨w34,s34,q34,k34⟩:=c33.stC (P:=Tryz.prog) (t:=59) (i:=0) (v:=v33) (by kernel_rfl) o33.one (by simp)
  have m34:Mv (fun k=>k=gm) w33 w34:=Mv.of_grown q34 fun k hk _=>(Option.some.inj hk).symm
  have mm:Mv (YM gm mv) w w34:=(((Mv.of_ext (X:=YM gm mv) (x6.trans xg4)).trans m33 fun k hk _=>.inr hk).trans m34 fun k hk _=>.inl hk)
  have m64:Mv (YM gm mv) w6 w34:=(((Mv.of_ext (X:=YM gm mv) xg4).trans m33 fun k hk _=>.inr hk).trans m34 fun k hk _=>.inl hk)
  have k6b:=m64.blk k6 n6
  have o34:=o33.mv m34 (fun k hk=>.inl hk) fun k hk h=>ne33 (by have e:k=gm:=h;rw[←e];exact hk)
  refine ba E E hr33 ?_
  refine ax E E ?_
  refine au E E s34 ?_
  refine ag (Am (ab (af (aa (bA (vs:=[]) (r:=.agg #[.slice none 0 0,I 0,I 0,B false,.slice none 0 0,.slice none 0 0,.slice none 0 0,B false,.slice none 0 0]) E E (by exact run_build _ _ _ _ (by kernel_rfl)) ?_)))))
  obtain⟨w5,s5,q5,k5⟩:=k6b.stS (P:=Tryz.prog) (t:=52) (m:=[.slice none 0 0,I 0,I 0,B false,.slice none 0 0,.slice none 0 0,.slice none 0 0,B false,.slice none 0 0]) rfl (by kernel_rfl) (av.cons rfl (av.cons rfl (av.cons rfl (av.cons rfl (av.cons rfl (av.cons rfl (av.cons rfl (av.cons rfl (av.cons rfl av.nil)))))))))
  refine au E E s5 ?_
  refine ag (ab (aw (ay ?_)))
  refine dx E E k5 Mt E (by kernel_rfl) ?_
  have m5:Mv (fun k=>k=g6) w34 w5:=Mv.of_grown q5 fun k hk _=>(Option.some.inj hk).symm
  have n65:¬YM gm v33 g6:=fun h=>(YM.grow n33 h).elim n6 fun h=>by omega
  have st5:zD w0 w34 (fun k=>F k∨k=g6) gm v33 (ms++[path]):=⟨k34,o34,ne33,hC.young⟩
  refine⟨_,rfl,[.slice none 0 0,I 0,I 0,B false,.slice none 0 0,.slice none 0 0,.slice none 0 0,B false,.slice none 0 0],v33,rfl,(av.cons E (av.cons E (av.cons E (av.cons E (av.cons E (av.cons E (av.cons E (av.cons E (av.cons E av.nil))))))))),?_,?_,mm.trans m5 fun k hk hlt=>by have e:k=g6:=hk;omega,fun k hk=>(n33 k hk).imp id fun h=>by omega⟩
  ·rw[ht]
   exact vI
  ·rw[ht]
   exact(st5.sto m5 (.inr rfl) n65).weak fun k hk=>.inl (.inl hk)
 ·rw[ht] at hJ2
  obtain⟨gl,cl,hid,kg,kl,hrl⟩:=vM hJ2
  have kg6:ct g 114 [I 0,I 0,B false,.slice none 0 0,.slice none 0 0,.pointer none,.pointer none,.pointer (some ⟨gl,0,none⟩)] w6:=kg.ext x6
  obtain⟨vl,x,y,vk,vp,rfl,hl0,hx0,hy0,hk0,hp0⟩:=d9 hrl
  have kl6:=kl.ext x6
  refine aa (ac E E (ax E E (ah E E (ar (o:=7) MM E (by kernel_rfl) E) (ak E E (aj MS E (kg6.cell (i:=7) E)) ?_))))
  refine al E E E (iu MS) (ag (ab (bg E (af (aa (ac E E (ax E E (ah E E (ar (o:=7) MM E (by kernel_rfl) E) ?_))))))))
  refine ak E E (aj MS E (kg6.cell (i:=7) E)) (ax E E ?_)
  refine ak E E (kl6.ld Mt E (by kernel_rfl)) ?_
  obtain⟨w2_6,s2_6,q2_6,k2_6⟩:=k6.stS (P:=Tryz.prog) (t:=52) (m:=[vl,I n.split.kd,I n.split.ix,B n.split.at_.1,x,y,vk,B n.empty,vp]) rfl (by kernel_rfl) (av.cons hl0.one (av.cons rfl (av.cons rfl (av.cons rfl (av.cons hx0.one (av.cons hy0.one (av.cons hk0.one (av.cons rfl (av.cons hp0.one av.nil)))))))))
  refine au E E s2_6 ?_
  have x2_6:=aK.of_new (x6) q2_6 l6
  refine ag (ab (aw (ay ?_)))
  refine dx E E k2_6 Mt E (by kernel_rfl) ?_
  have e2:=x2_6
  refine⟨_,rfl,[vl,I n.split.kd,I n.split.ix,B n.split.at_.1,x,y,vk,B n.empty,vp],mv,rfl,EE hrl,?_,?_,Mv.of_ext (X:=YM gm mv) e2,fun k hk=>.inl hk⟩
  ·rw[ht]
   exact vt hrl (e0.trans e2) fun k hk=>hk.elim (fun h=>(hC.ym_young h).1) fun h=>h.1
  ·rw[ht]
   simpa [JT.miss] using hC.ext e2
 ·rw[ht] at hJ2
  obtain⟨x,y,g1,g2,i1,i2,hid,hsx,hsy,kg,j1,j2,_,n1,n2,n3⟩:=hJ2.split_inv
  have kg6:ct g 114 [I s.kd,I s.ix,B s.at_.1,x,y,.pointer (some ⟨g1,0,none⟩),.pointer (some ⟨g2,0,none⟩),.pointer none] w6:=kg.ext x6
  refine aa (ac E E (ax E E (ah E E (ar (o:=7) MM E (by kernel_rfl) E) (ak E E (aj MS E (kg6.cell (i:=7) E)) ?_))))
  refine al E E E (iu MS) (ag (ab (cr E (aC (ab (af (af (aa (ac E E (ax E E (ah E E (ar (o:=5) MM E (by kernel_rfl) E) ?_)))))))))))
  refine aq E E E (iW MV (by kernel_rfl) (i:=0) (by omega) .i64) ?_
  refine ak E E (aj MQ E (kg6.cell (i:=5) E)) (al E E E (gF MQ) (ag ?_))
  refine ab (cr E (aC (ab (af ?_))))
  have hA:D9 w0 a:=(ih s a b ht).1
  have hB:D9 w0 b:=(ih s a b ht).2
  have hdep:t.depth=1+max a.depth b.depth:=by rw[ht];rfl
  have hgap:t.gaps=a.gaps+b.gaps:=by rw[ht];rfl
  have hFF2:=hFF
  have hdA:∀k∈i1,¬YM gm mv k:=fun k hk=>hd k (by rw[hid];simp[hk])
  have hdB:∀k∈i2,¬YM gm mv k:=fun k hk=>hd k (by rw[hid];simp[hk])
  have hd6:=hdA
  have j1:=j1.ext x6
  have s0:=e0.size
  have sW:w0.heap.size≤w6.heap.size:=(e0.trans x6).size
  have hpl:path.length≤1099511627776:=by omega
  have hXy:∀k,(YM gm mv k∨(F k∨k=g6))→w0.heap.size≤k:=fun k hk=>hk.elim (fun h=>(hC6.ym_young h).1) fun h=>(hFF k h).1
  have hYw:∀k,YM gm mv k→k<w6.heap.size:=fun k h=>(hC6.ym_young h).2
  have hFl:∀k,(F k∨k=g6)→k<w6.heap.size:=fun k h=>(hFF2 k h).2
  have hS:ct g 114 [I s.kd,I s.ix,B s.at_.1,x,y,.pointer (some ⟨g1,0,none⟩),.pointer (some ⟨g2,0,none⟩),.pointer none] w6.drew:=kg6.ext (aK.refl w6).drew
  have eD:aK w6 w6.drew:=(aK.refl w6).drew
  refine ig (fun w1=>ct g 114 [I s.kd,I s.ix,B s.at_.1,x,y,.pointer (some ⟨g1,0,none⟩),.pointer (some ⟨g2,0,none⟩),.pointer none] w1) 17 E (by kernel_rfl) ?_
  refine fD 0 E E (by kernel_rfl) E hS ?_
  refine og 1 E E (by kernel_rfl) E hS ?_
  refine fy 2 E E (by kernel_rfl) E hS (fun _ _=>ar (o:=5) MM E (by kernel_rfl) E) ?_
  refine uT 3 E E E (by kernel_rfl) E hS (fun _ _=>iW MV (by kernel_rfl) (i:=0) (by omega) .i64) ?_
  refine gd 4 E E (by kernel_rfl) E hS (fun _ hw=>aj MQ E (hw.cell (i:=5) E)) ?_
  refine fD 5 E E (by kernel_rfl) E hS ?_
  refine fD 7 E E (by kernel_rfl) E hS ?_
  refine og 8 E E (by kernel_rfl) E hS ?_
  refine fy 9 E E (by kernel_rfl) E hS (fun _ _=>ar (o:=0) MM E (by kernel_rfl) E) ?_
  refine gd 10 rfl rfl (by kernel_rfl) rfl hS (fun _ hw=>hw.ldO (ms:=[I s.kd,I s.ix,B s.at_.1,x,y]) (o:=0) (fun j v hj=>by rcases j with _|_|_|_|_|j<;>simp_all) Tryz.underlying48 rfl (by kernel_rfl)) ?_
  refine fD 13 E E (by kernel_rfl) E hS ?_
  refine nG (fun z=>[(0,.pointer (some ⟨g,0,none⟩)),(1,pv),(2,.pointer (some ⟨gm,0,none⟩)),(6,.pointer (some ⟨g6,0,none⟩)),(7,.pointer (some ⟨z.2.2,0,none⟩))]) (fun(z:Value×List Value×Nat) w1=>vq w0 w6 (fun k=>F k∨k=g6) z.2.2 gm mv z.1 (ms++a.miss (path++[s])) a.node z.2.1 w1) #[true,true,true,true,true,true,true,true,true,true,true,true,true,true,true,true,true] 0 ?_ (fun hk=>?_)
  rotate_left
  ·refine nG (fun z=>[(0,.pointer (some ⟨g,0,none⟩)),(1,pv),(2,.pointer (some ⟨gm,0,none⟩)),(6,.pointer (some ⟨g6,0,none⟩)),(40,.pointer (some ⟨g1,0,none⟩)),(49,.pointer (some ⟨gm,0,none⟩)),(42,z.1),(47,z.2.1),(7,.pointer (some ⟨z.2.2,0,none⟩))]) (fun(z:Value×Value×Nat) w1=>aK w6 w1∧fH 48 5 w6.heap.size (fun k=>YM gm mv k∨((F k∨k=g6)∨k=z.2.2)) dC path z.1 w1∧Sl 5 [I (s).kd,I (s).ix,B (s).at_.1,x,y] z.2.1 w1∧ct z.2.2 52 [.slice none 0 0,I 0,I 0,B false,.slice none 0 0,.slice none 0 0,.slice none 0 0,B false,.slice none 0 0] w1∧w6.heap.size≤z.2.2∧z.1.ownBlock≠some z.2.2) #[true,true,true,true,true,true,true,true,true,true,true,true,false,true,false,true,false] 3 ?_ (fun hk2=>?_)
   ·rintro⟨v42,v47,gc⟩ wg ⟨xg,b42,b47,k7,l7,ne42⟩
    have l7b:=k7.lt
    have own42:=b42.lt
    obtain⟨v48,w48,hr48,o48,e48,m48,n48⟩:=Ff (X:=(fun k=>YM gm mv k∨((F k∨k=g6)∨k=gc))) (d:=s) (e0.trans x6) xg (aK.refl _) (fun k hk=>by rcases hk with hk|hk|hk;exact hXy k (.inl hk);exact hXy k (.inr hk);(have:k=gc:=hk;dsimp only at l7;omega)) hsx hsy b42 b47 hpl
    have own48:=o48.lt
    have s48:=m48.size
    refine aQ 12 (by kernel_rfl) E (ba E E hr48 (aH (kg6.ext e48) ?_))
    refine aQ 14 (by kernel_rfl) rfl (am iP rfl rfl (ni (F':=fun k=>(F k∨k=g6)∨k=gc) hA hFF2 (e0.trans x6) e48 j1 hC6 hd6 (by simp;omega) (by omega) o48 (fun k hk=>hk.imp id fun h=>by dsimp only at l7 l7b;omega) (fun k hk hk2=>by rcases hk2 with hk2|hk2;(have:=(own48 k hk).1;have:=hFl k hk2;omega);(rcases n48 k hk with h|h;exact ne42 (hk2▸h);(dsimp only at l7b;omega)))) ?_)
    rintro v50 w50 ⟨cs,mvk,rfl,h1,hr,hs,hm,hoo⟩
    refine aH (hm.blk (kg6.ext e48) hny) ?_
    obtain⟨w8,hs8,K⟩:=vq.early e48 h1 hr hs hm hoo sW l7 hYw (m48.blk k7 ne42) rfl
    refine aQ 16 (by kernel_rfl) E (au E E hs8 (aH (K.m.blk kg6 hny) ?_))
    exact hk _ _ ⟨(mvk,cs,gc),⟨rfl,rfl,rfl,rfl,rfl,trivial⟩,K⟩
   ·refine nG (fun z=>[(0,.pointer (some ⟨g,0,none⟩)),(1,pv),(2,.pointer (some ⟨gm,0,none⟩)),(6,.pointer (some ⟨g6,0,none⟩)),(40,.pointer (some ⟨g1,0,none⟩)),(49,.pointer (some ⟨gm,0,none⟩)),(42,z.1),(47,z.2)]) (fun(z:Value×Value) w1=>aK w6 w1∧fH 48 5 w6.heap.size (fun k=>YM gm mv k∨(F k∨k=g6)) dC path z.1 w1∧Sl 5 [I (s).kd,I (s).ix,B (s).at_.1,x,y] z.2 w1) #[true,true,true,true,true,true,true,true,true,true,true,true,false,true,false,false,false] 4 ?_ (fun hk1=>?_)
    ·rintro⟨v42,v47⟩ wg ⟨xg,b42,b47⟩
     have own42:=b42.lt
     have sg:=xg.size
     refine lr 12 15 (by kernel_rfl) E E ?_ ?_
     ·obtain⟨v48,w48,hr48,o48,e48,m48,n48⟩:=Ff (d:=s) (e0.trans x6) xg (aK.refl _) hXy hsx hsy b42 b47 hpl
      have own48:=o48.lt
      refine ba E E hr48 (aH (kg6.ext e48) ?_)
      refine lr 14 15 (by kernel_rfl) E E ?_ ?_
      ·have zz:=e48.size
       refine am iP E E (ni hA hFF2 (e0.trans x6) e48 j1 hC6 hd6 (by simp;omega) (by omega) o48 (fun k hk=>.inl hk) (fun k hk hk2=>by have:=(own48 k hk).1;have:=hFl k hk2;omega)) ?_
       rintro v50 w50 ⟨cs,mvk,rfl,h1,hr,hs,hm,hoo⟩
       refine aH (hm.blk (kg6.ext e48) hny) ?_
       obtain⟨gc,w7,hr7,l7,x7,k7⟩:=eK (w:=w50)
       refine aQ 15 (by kernel_rfl) E (aT E hr7 (aH ((hm.blk (kg6.ext e48) hny).ext x7) ?_))
       obtain⟨w8,hs8,K⟩:=vq.late e48 h1 hr hs hm hoo x7 l7 k7 rfl
       refine aQ 16 (by kernel_rfl) E (au E E hs8 (aH (K.m.blk kg6 hny) ?_))
       exact hk _ _ ⟨(mvk,cs,gc),⟨rfl,rfl,rfl,rfl,rfl,trivial⟩,K⟩
      ·obtain⟨gc,w7,hr7,l7,x7,k7⟩:=eK (w:=w48)
       have s48:=e48.size
       have l7b:=k7.lt
       refine aT E hr7 (aH (kg6.ext (e48.trans x7)) ?_)
       refine aQ 14 (by kernel_rfl) rfl (am iP rfl rfl (ni (F':=fun k=>(F k∨k=g6)∨k=gc) hA hFF2 (e0.trans x6) (e48.trans x7) j1 hC6 hd6 (by simp;omega) (by omega) ((o48.weak (fun k hk=>by rcases hk with hk|hk|hk;exact .inl (.inl hk);exact .inl (.inr hk);exact .inr (by omega))).ext x7) (fun k hk=>hk.imp id fun h=>by omega) (fun k hk hk2=>by rcases hk2 with hk2|hk2;(have:=(own48 k hk).1;have:=hFl k hk2;omega);(have:=(own48 k hk).2;omega))) ?_)
       rintro v50 w50 ⟨cs,mvk,rfl,h1,hr,hs,hm,hoo⟩
       refine aH (hm.blk (kg6.ext (e48.trans x7)) hny) ?_
       obtain⟨w8,hs8,K⟩:=vq.early (e48.trans x7) h1 hr hs hm hoo sW (by omega) hYw k7 rfl
       refine aQ 16 (by kernel_rfl) E (au E E hs8 (aH (K.m.blk kg6 hny) ?_))
       exact hk _ _ ⟨(mvk,cs,gc),⟨rfl,rfl,rfl,rfl,rfl,trivial⟩,K⟩
     ·obtain⟨gc,w7,hr7,l7,x7,k7⟩:=eK (w:=wg)
      refine aT E hr7 (aH (kg6.ext (xg.trans x7)) ?_)
      exact hk2 _ _ ⟨(v42,v47,gc),⟨rfl,rfl,rfl,rfl,rfl,rfl,rfl,rfl,rfl,trivial⟩,xg.trans x7,(b42.weak (fun k hk=>by rcases hk with hk|hk|hk;exact .inl (.inl hk);exact .inl (.inr hk);(have:k=gc:=hk;exact .inr (by omega)))).ext x7,b47.ext x7,k7,(show w6.heap.size≤gc by omega),fun h=>by have:=(own42 gc h).2;omega⟩
    ·refine J6 6 11 15 (by kernel_rfl) E E E ?_ ?_ ?_
     ·refine am fV E E (fX (hp6.ext eD) hpl) ?_
      rintro va1 wz1 ⟨x1,oo1⟩
      have oz1:=oo1.low (eD).size
      have ez1:aK w6 wz1:=eD.trans x1
      refine aH (kg6.ext ez1) ?_
      refine lr 11 15 (by kernel_rfl) E E ?_ ?_
      ·obtain⟨vr2,wz2,hr2,x2,bz2⟩:=jP (w:=wz1) (d:=s) (x:=x) (y:=y)
       have ez2:aK w6 wz2:=ez1.trans x2
       refine aJ (vs:=[(0,.agg #[I (s).kd,I (s).ix,B (s).at_.1,x,y])]) E E hr2 (aH (kg6.ext ez2) ?_)
       have oz2:=oz1.ext x2
       exact hk1 _ _ ⟨(va1,vr2),⟨rfl,rfl,rfl,rfl,rfl,rfl,rfl,rfl,trivial⟩,ez2,oz2,bz2⟩
      ·obtain⟨gc3,wz3,hr3,l3,x3,k3⟩:=eK (w:=wz1)
       have la3:=ez1.size
       have lb3:=k3.lt
       refine aT E hr3 (aH (kg6.ext (ez1.trans x3)) ?_)
       have ez3:aK w6 wz3:=(ez1.trans x3)
       have oz3:=(oz1.weak (Y:=(fun k=>YM gm mv k∨((F k∨k=g6)∨k=gc3))) (fun k hk=>by rcases hk with hk|hk|hk;exact .inl (.inl hk);exact .inl (.inr hk);(have:k=gc3:=hk;exact .inr (by omega)))).ext x3
       have nz3:va1.ownBlock≠some gc3:=fun h=>by have:=(oz1.lt gc3 h).2;omega
       obtain⟨vr4,wz4,hr4,x4,bz4⟩:=jP (w:=wz3) (d:=s) (x:=x) (y:=y)
       have ez4:aK w6 wz4:=ez3.trans x4
       refine aQ 11 (by kernel_rfl) E (aJ (vs:=[(0,.agg #[I (s).kd,I (s).ix,B (s).at_.1,x,y])]) E E hr4 (aH (kg6.ext ez4) ?_))
       have oz4:=oz3.ext x4
       have kz4:=k3.ext x4
       exact hk2 _ _ ⟨(va1,vr4,gc3),⟨rfl,rfl,rfl,rfl,rfl,rfl,rfl,rfl,rfl,trivial⟩,ez4,oz4,bz4,kz4,(show w6.heap.size≤gc3 by omega),nz3⟩
     ·obtain⟨vr5,wz5,hr5,x5,bz5⟩:=jP (w:=w6.drew) (d:=s) (x:=x) (y:=y)
      have ez5:aK w6 wz5:=eD.trans x5
      refine aJ (vs:=[(0,.agg #[I (s).kd,I (s).ix,B (s).at_.1,x,y])]) E E hr5 (aH (kg6.ext ez5) ?_)
      refine lr 6 15 (by kernel_rfl) E E ?_ ?_
      ·refine am fV E E (fX (hp6.ext ez5) hpl) ?_
       rintro va6 wz6 ⟨x6,oo6⟩
       have oz6:=oo6.low (ez5).size
       have ez6:aK w6 wz6:=ez5.trans x6
       refine aH (kg6.ext ez6) ?_
       have bz6:=bz5.ext x6
       exact hk1 _ _ ⟨(va6,vr5),⟨rfl,rfl,rfl,rfl,rfl,rfl,rfl,rfl,trivial⟩,ez6,oz6,bz6⟩
      ·obtain⟨gc7,wz7,hr7,l7,x7,k7⟩:=eK (w:=wz5)
       have la7:=ez5.size
       have lb7:=k7.lt
       refine aT E hr7 (aH (kg6.ext (ez5.trans x7)) ?_)
       have ez7:aK w6 wz7:=(ez5.trans x7)
       have bz7:=bz5.ext x7
       refine aQ 6 (by kernel_rfl) rfl (am fV rfl rfl (fX ((hp6.weak (Y:=(fun k=>YM gm mv k∨((F k∨k=g6)∨k=gc7))) (fun k hk=>by rcases hk with hk|hk|hk;exact .inl (.inl hk);exact .inl (.inr hk);(have:k=gc7:=hk;have:=(show w6.heap.size≤gc7 by omega);exact .inr (by omega)))).ext ez7) hpl) ?_)
       rintro va8 wz8 ⟨x8,oo8⟩
       have oz8:=oo8.low (ez7).size
       have ez8:aK w6 wz8:=ez7.trans x8
       refine aH (kg6.ext ez8) ?_
       have nz8:va8.ownBlock≠some gc7:=fun h=>by have:=(oo8.lt gc7 h).1;have:=k7.lt;omega
       have kz8:=k7.ext x8
       have bz8:=bz7.ext x8
       exact hk2 _ _ ⟨(va8,vr5,gc7),⟨rfl,rfl,rfl,rfl,rfl,rfl,rfl,rfl,rfl,trivial⟩,ez8,oz8,bz8,kz8,(show w6.heap.size≤gc7 by omega),nz8⟩
     ·obtain⟨gc9,wz9,hr9,l9,x9,k9⟩:=eK (w:=w6.drew)
      have la9:=eD.size
      have lb9:=k9.lt
      refine aT E hr9 (aH (kg6.ext (eD.trans x9)) ?_)
      have ez9:aK w6 wz9:=(eD.trans x9)
      refine lr 6 11 (by kernel_rfl) E E ?_ ?_
      ·refine am fV rfl rfl (fX ((hp6.weak (Y:=(fun k=>YM gm mv k∨((F k∨k=g6)∨k=gc9))) (fun k hk=>by rcases hk with hk|hk|hk;exact .inl (.inl hk);exact .inl (.inr hk);(have:k=gc9:=hk;have:=(show w6.heap.size≤gc9 by omega);exact .inr (by omega)))).ext ez9) hpl) ?_
       rintro va10 wz10 ⟨x10,oo10⟩
       have oz10:=oo10.low (ez9).size
       have ez10:aK w6 wz10:=ez9.trans x10
       refine aH (kg6.ext ez10) ?_
       have nz10:va10.ownBlock≠some gc9:=fun h=>by have:=(oo10.lt gc9 h).1;have:=k9.lt;omega
       have kz10:=k9.ext x10
       obtain⟨vr11,wz11,hr11,x11,bz11⟩:=jP (w:=wz10) (d:=s) (x:=x) (y:=y)
       have ez11:aK w6 wz11:=ez10.trans x11
       refine aQ 11 (by kernel_rfl) E (aJ (vs:=[(0,.agg #[I (s).kd,I (s).ix,B (s).at_.1,x,y])]) E E hr11 (aH (kg6.ext ez11) ?_))
       have oz11:=oz10.ext x11
       have kz11:=kz10.ext x11
       exact hk2 _ _ ⟨(va10,vr11,gc9),⟨rfl,rfl,rfl,rfl,rfl,rfl,rfl,rfl,rfl,trivial⟩,ez11,oz11,bz11,kz11,(show w6.heap.size≤gc9 by omega),nz10⟩
      ·obtain⟨vr12,wz12,hr12,x12,bz12⟩:=jP (w:=wz9) (d:=s) (x:=x) (y:=y)
       have ez12:aK w6 wz12:=ez9.trans x12
       refine aJ (vs:=[(0,.agg #[I (s).kd,I (s).ix,B (s).at_.1,x,y])]) E E hr12 (aH (kg6.ext ez12) ?_)
       have kz12:=k9.ext x12
       refine aQ 6 (by kernel_rfl) rfl (am fV rfl rfl (fX ((hp6.weak (Y:=(fun k=>YM gm mv k∨((F k∨k=g6)∨k=gc9))) (fun k hk=>by rcases hk with hk|hk|hk;exact .inl (.inl hk);exact .inl (.inr hk);(have:k=gc9:=hk;have:=(show w6.heap.size≤gc9 by omega);exact .inr (by omega)))).ext ez12) hpl) ?_)
       rintro va13 wz13 ⟨x13,oo13⟩
       have oz13:=oo13.low (ez12).size
       have ez13:aK w6 wz13:=ez12.trans x13
       refine aH (kg6.ext ez13) ?_
       have nz13:va13.ownBlock≠some gc9:=fun h=>by have:=(oo13.lt gc9 h).1;have:=kz12.lt;omega
       have kz13:=kz12.ext x13
       have bz13:=bz12.ext x13
       exact hk2 _ _ ⟨(va13,vr12,gc9),⟨rfl,rfl,rfl,rfl,rfl,rfl,rfl,rfl,rfl,trivial⟩,ez13,oz13,bz13,kz13,(show w6.heap.size≤gc9 by omega),nz13⟩
  rintro⟨mv1,csA,g7⟩ w9 K1
  refine ii (by kernel_rfl) ?_
  refine ab (af ?_)
  have e9:aK w0 w9:=K1.m.ext_from (e0.trans x6) fun k hk=>(hC.ym_young hk).1
  have kg9:=K1.m.blk kg6 hny
  have hny1:¬YM gm mv1 g:=fun h=>(YM.grow K1.own h).elim hny fun h=>by omega
  have j29:j8 w0 w9 g2 b i2:=(j2.ext x6).mv K1.m hdB
  have hy1:∀k,YM gm mv1 k→YM gm mv k∨w6.heap.size≤k:=fun k hk=>YM.grow K1.own hk
  have hd7:∀k∈i2,¬YM gm mv1 k:=fun k hk h=>by
   rcases hy1 k h with h|h
   ·exact hdB k hk h
   ·have:=j2.lt k hk;omega
  have hp9:cN (fun k=>YM gm mv1 k∨(F k∨k=g6)) w9 (.sl (path.map dC)) [pv]:=hp6.mv (K1.m.weak fun k hk _=>.inl hk) fun k hk=>by
   rcases hk with hk|hk
   ·exact(hy1 k hk).imp .inl id
   ·exact .inl (.inr hk)
  have hFF2:∀k,(F k∨k=g6)→w0.heap.size≤k∧k<w9.heap.size:=fun k hk=>by have:=hFF k hk;have:=K1.m.size;omega
  have s0:=e0.size
  have sW:w0.heap.size≤w9.heap.size:=e9.size
  have hpl:path.length≤1099511627776:=by omega
  have hXy:∀k,(YM gm mv1 k∨(F k∨k=g6))→w0.heap.size≤k:=fun k hk=>hk.elim (fun h=>(K1.st.ym_young h).1) fun h=>(hFF k h).1
  have hYw:∀k,YM gm mv1 k→k<w9.heap.size:=fun k h=>(K1.st.ym_young h).2
  have hFl:∀k,(F k∨k=g6)→k<w9.heap.size:=fun k h=>(hFF2 k h).2
  have hS:ct g 114 [I s.kd,I s.ix,B s.at_.1,x,y,.pointer (some ⟨g1,0,none⟩),.pointer (some ⟨g2,0,none⟩),.pointer none] w9.drew:=kg9.ext (aK.refl w9).drew
  have eD:aK w9 w9.drew:=(aK.refl w9).drew
  refine ig (fun w1=>ct g 114 [I s.kd,I s.ix,B s.at_.1,x,y,.pointer (some ⟨g1,0,none⟩),.pointer (some ⟨g2,0,none⟩),.pointer none] w1) 18 E (by kernel_rfl) ?_
  refine fD 0 E E (by kernel_rfl) E hS ?_
  refine og 1 E E (by kernel_rfl) E hS ?_
  refine fy 2 E E (by kernel_rfl) E hS (fun _ _=>ar (o:=5) MM E (by kernel_rfl) E) ?_
  refine uT 3 E E E (by kernel_rfl) E hS (fun _ _=>iW MV (by kernel_rfl) (i:=1) (by omega) .i64) ?_
  refine gd 4 E E (by kernel_rfl) E hS (fun _ hw=>aj MQ E (hw.cell (i:=6) E)) ?_
  refine fD 5 E E (by kernel_rfl) E hS ?_
  refine fD 7 E E (by kernel_rfl) E hS ?_
  refine og 8 E E (by kernel_rfl) E hS ?_
  refine fy 9 E E (by kernel_rfl) E hS (fun _ _=>ar (o:=0) MM E (by kernel_rfl) E) ?_
  refine gd 10 rfl rfl (by kernel_rfl) rfl hS (fun _ hw=>hw.ldO (ms:=[I s.kd,I s.ix,B s.at_.1,x,y]) (o:=0) (fun j v hj=>by rcases j with _|_|_|_|_|j<;>simp_all) Tryz.underlying48 rfl (by kernel_rfl)) ?_
  refine fD 14 E E (by kernel_rfl) E hS ?_
  refine nG (fun z=>[(0,.pointer (some ⟨g,0,none⟩)),(1,pv),(2,.pointer (some ⟨gm,0,none⟩)),(6,.pointer (some ⟨g6,0,none⟩)),(7,.pointer (some ⟨g7,0,none⟩)),(8,.pointer (some ⟨z.2.2,0,none⟩))]) (fun(z:Value×List Value×Nat) w1=>vq w0 w9 (fun k=>F k∨k=g6) z.2.2 gm mv1 z.1 ((ms++a.miss (path++[s]))++b.miss (path++[dI s])) b.node z.2.1 w1) #[true,true,true,true,true,true,true,true,true,true,true,true,true,true,true,true,true,true] 0 ?_ (fun hk=>?_)
  rotate_left
  ·refine nG (fun z=>[(0,.pointer (some ⟨g,0,none⟩)),(1,pv),(2,.pointer (some ⟨gm,0,none⟩)),(6,.pointer (some ⟨g6,0,none⟩)),(7,.pointer (some ⟨g7,0,none⟩)),(55,.pointer (some ⟨g2,0,none⟩)),(65,.pointer (some ⟨gm,0,none⟩)),(57,z.1),(63,z.2.1),(8,.pointer (some ⟨z.2.2,0,none⟩))]) (fun(z:Value×Value×Nat) w1=>aK w9 w1∧fH 48 5 w9.heap.size (fun k=>YM gm mv1 k∨((F k∨k=g6)∨k=z.2.2)) dC path z.1 w1∧Sl 5 [I (dI s).kd,I (dI s).ix,B (dI s).at_.1,x,y] z.2.1 w1∧ct z.2.2 52 [.slice none 0 0,I 0,I 0,B false,.slice none 0 0,.slice none 0 0,.slice none 0 0,B false,.slice none 0 0] w1∧w9.heap.size≤z.2.2∧z.1.ownBlock≠some z.2.2) #[true,true,true,true,true,true,true,true,true,true,true,true,true,false,true,false,true,false] 3 ?_ (fun hk2=>?_)
   ·rintro⟨v42,v47,gc⟩ wg ⟨xg,b42,b47,k7,l7,ne42⟩
    have l7b:=k7.lt
    have own42:=b42.lt
    obtain⟨v48,w48,hr48,o48,e48,m48,n48⟩:=Ff (X:=(fun k=>YM gm mv1 k∨((F k∨k=g6)∨k=gc))) (d:=dI s) e9 xg (aK.refl _) (fun k hk=>by rcases hk with hk|hk|hk;exact hXy k (.inl hk);exact hXy k (.inr hk);(have:k=gc:=hk;dsimp only at l7;omega)) hsx hsy b42 b47 hpl
    have own48:=o48.lt
    have s48:=m48.size
    refine aQ 13 (by kernel_rfl) E (ba E E hr48 (aH (kg9.ext e48) ?_))
    refine aQ 15 (by kernel_rfl) rfl (am iP rfl rfl (ni (F':=fun k=>(F k∨k=g6)∨k=gc) hB hFF2 e9 e48 j29 K1.st hd7 (by simp;omega) (by simp only[List.length_append,j0] at*;omega) o48 (fun k hk=>hk.imp id fun h=>by dsimp only at l7 l7b;omega) (fun k hk hk2=>by rcases hk2 with hk2|hk2;(have:=(own48 k hk).1;have:=hFl k hk2;omega);(rcases n48 k hk with h|h;exact ne42 (hk2▸h);(dsimp only at l7b;omega)))) ?_)
    rintro v50 w50 ⟨cs,mvk,rfl,h1,hr,hs,hm,hoo⟩
    refine aH (hm.blk (kg9.ext e48) hny1) ?_
    obtain⟨w8,hs8,K⟩:=vq.early e48 h1 hr hs hm hoo sW l7 hYw (m48.blk k7 ne42) rfl
    refine aQ 17 (by kernel_rfl) E (au E E hs8 (aH (K.m.blk kg9 hny1) ?_))
    exact hk _ _ ⟨(mvk,cs,gc),⟨rfl,rfl,rfl,rfl,rfl,rfl,trivial⟩,K⟩
   ·refine nG (fun z=>[(0,.pointer (some ⟨g,0,none⟩)),(1,pv),(2,.pointer (some ⟨gm,0,none⟩)),(6,.pointer (some ⟨g6,0,none⟩)),(7,.pointer (some ⟨g7,0,none⟩)),(55,.pointer (some ⟨g2,0,none⟩)),(65,.pointer (some ⟨gm,0,none⟩)),(57,z.1),(63,z.2)]) (fun(z:Value×Value) w1=>aK w9 w1∧fH 48 5 w9.heap.size (fun k=>YM gm mv1 k∨(F k∨k=g6)) dC path z.1 w1∧Sl 5 [I (dI s).kd,I (dI s).ix,B (dI s).at_.1,x,y] z.2 w1) #[true,true,true,true,true,true,true,true,true,true,true,true,true,false,true,false,false,false] 4 ?_ (fun hk1=>?_)
    ·rintro⟨v42,v47⟩ wg ⟨xg,b42,b47⟩
     have own42:=b42.lt
     have sg:=xg.size
     refine lr 13 16 (by kernel_rfl) E E ?_ ?_
     ·obtain⟨v48,w48,hr48,o48,e48,m48,n48⟩:=Ff (d:=dI s) e9 xg (aK.refl _) hXy hsx hsy b42 b47 hpl
      have own48:=o48.lt
      refine ba E E hr48 (aH (kg9.ext e48) ?_)
      refine lr 15 16 (by kernel_rfl) E E ?_ ?_
      ·have zz:=e48.size
       refine am iP E E (ni hB hFF2 e9 e48 j29 K1.st hd7 (by simp;omega) (by simp only[List.length_append,j0] at*;omega) o48 (fun k hk=>.inl hk) (fun k hk hk2=>by have:=(own48 k hk).1;have:=hFl k hk2;omega)) ?_
       rintro v50 w50 ⟨cs,mvk,rfl,h1,hr,hs,hm,hoo⟩
       refine aH (hm.blk (kg9.ext e48) hny1) ?_
       obtain⟨gc,w7,hr7,l7,x7,k7⟩:=eK (w:=w50)
       refine aQ 16 (by kernel_rfl) E (aT E hr7 (aH ((hm.blk (kg9.ext e48) hny1).ext x7) ?_))
       obtain⟨w8,hs8,K⟩:=vq.late e48 h1 hr hs hm hoo x7 l7 k7 rfl
       refine aQ 17 (by kernel_rfl) E (au E E hs8 (aH (K.m.blk kg9 hny1) ?_))
       exact hk _ _ ⟨(mvk,cs,gc),⟨rfl,rfl,rfl,rfl,rfl,rfl,trivial⟩,K⟩
      ·obtain⟨gc,w7,hr7,l7,x7,k7⟩:=eK (w:=w48)
       have s48:=e48.size
       have l7b:=k7.lt
       refine aT E hr7 (aH (kg9.ext (e48.trans x7)) ?_)
       refine aQ 15 (by kernel_rfl) rfl (am iP rfl rfl (ni (F':=fun k=>(F k∨k=g6)∨k=gc) hB hFF2 e9 (e48.trans x7) j29 K1.st hd7 (by simp;omega) (by simp only[List.length_append,j0] at*;omega) ((o48.weak (fun k hk=>by rcases hk with hk|hk|hk;exact .inl (.inl hk);exact .inl (.inr hk);exact .inr (by omega))).ext x7) (fun k hk=>hk.imp id fun h=>by omega) (fun k hk hk2=>by rcases hk2 with hk2|hk2;(have:=(own48 k hk).1;have:=hFl k hk2;omega);(have:=(own48 k hk).2;omega))) ?_)
       rintro v50 w50 ⟨cs,mvk,rfl,h1,hr,hs,hm,hoo⟩
       refine aH (hm.blk (kg9.ext (e48.trans x7)) hny1) ?_
       obtain⟨w8,hs8,K⟩:=vq.early (e48.trans x7) h1 hr hs hm hoo sW (by omega) hYw k7 rfl
       refine aQ 17 (by kernel_rfl) E (au E E hs8 (aH (K.m.blk kg9 hny1) ?_))
       exact hk _ _ ⟨(mvk,cs,gc),⟨rfl,rfl,rfl,rfl,rfl,rfl,trivial⟩,K⟩
     ·obtain⟨gc,w7,hr7,l7,x7,k7⟩:=eK (w:=wg)
      refine aT E hr7 (aH (kg9.ext (xg.trans x7)) ?_)
      exact hk2 _ _ ⟨(v42,v47,gc),⟨rfl,rfl,rfl,rfl,rfl,rfl,rfl,rfl,rfl,rfl,trivial⟩,xg.trans x7,(b42.weak (fun k hk=>by rcases hk with hk|hk|hk;exact .inl (.inl hk);exact .inl (.inr hk);(have:k=gc:=hk;exact .inr (by omega)))).ext x7,b47.ext x7,k7,(show w9.heap.size≤gc by omega),fun h=>by have:=(own42 gc h).2;omega⟩
    ·refine lr 6 16 (by kernel_rfl) E E ?_ ?_
     ·refine am fV E E (fX (hp9.ext eD) hpl) ?_
      rintro va1 wz1 ⟨x1,oo1⟩
      have oz1:=oo1.low (eD).size
      have ez1:aK w9 wz1:=eD.trans x1
      refine aH (kg9.ext ez1) ?_
      refine lr 11 16 (by kernel_rfl) E E ?_ ?_
      ·refine am jA E E (jB (d:=s) (ho.ext (e9.trans ez1)) (hsx.ext (e9.trans ez1)) (hsy.ext (e9.trans ez1))) ?_
       rintro vb2 wz2 ⟨x2,rfl⟩
       have ez2:aK w9 wz2:=ez1.trans x2
       refine aH (kg9.ext ez2) ?_
       have oz2:=oz1.ext x2
       refine lr 12 16 (by kernel_rfl) E E ?_ ?_
       ·obtain⟨vr3,wz3,hr3,x3,bz3⟩:=jP (w:=wz2) (d:=dI s) (x:=x) (y:=y)
        have ez3:aK w9 wz3:=ez2.trans x3
        refine aJ (vs:=[(0,.agg #[I (dI s).kd,I (dI s).ix,B (dI s).at_.1,x,y])]) E E hr3 (aH (kg9.ext ez3) ?_)
        have oz3:=oz2.ext x3
        exact hk1 _ _ ⟨(va1,vr3),⟨rfl,rfl,rfl,rfl,rfl,rfl,rfl,rfl,rfl,trivial⟩,ez3,oz3,bz3⟩
       ·obtain⟨gc4,wz4,hr4,l4,x4,k4⟩:=eK (w:=wz2)
        have la4:=ez2.size
        have lb4:=k4.lt
        refine aT E hr4 (aH (kg9.ext (ez2.trans x4)) ?_)
        have ez4:aK w9 wz4:=(ez2.trans x4)
        have oz4:=(oz2.weak (Y:=(fun k=>YM gm mv1 k∨((F k∨k=g6)∨k=gc4))) (fun k hk=>by rcases hk with hk|hk|hk;exact .inl (.inl hk);exact .inl (.inr hk);(have:k=gc4:=hk;exact .inr (by omega)))).ext x4
        have nz4:va1.ownBlock≠some gc4:=fun h=>by have:=(oz2.lt gc4 h).2;omega
        obtain⟨vr5,wz5,hr5,x5,bz5⟩:=jP (w:=wz4) (d:=dI s) (x:=x) (y:=y)
        have ez5:aK w9 wz5:=ez4.trans x5
        refine aQ 12 (by kernel_rfl) E (aJ (vs:=[(0,.agg #[I (dI s).kd,I (dI s).ix,B (dI s).at_.1,x,y])]) E E hr5 (aH (kg9.ext ez5) ?_))
        have oz5:=oz4.ext x5
        have kz5:=k4.ext x5
        exact hk2 _ _ ⟨(va1,vr5,gc4),⟨rfl,rfl,rfl,rfl,rfl,rfl,rfl,rfl,rfl,rfl,trivial⟩,ez5,oz5,bz5,kz5,(show w9.heap.size≤gc4 by omega),nz4⟩
      ·obtain⟨gc6,wz6,hr6,l6,x6,k6⟩:=eK (w:=wz1)
       have la6:=ez1.size
       have lb6:=k6.lt
       refine aT E hr6 (aH (kg9.ext (ez1.trans x6)) ?_)
       have ez6:aK w9 wz6:=(ez1.trans x6)
       have oz6:=(oz1.weak (Y:=(fun k=>YM gm mv1 k∨((F k∨k=g6)∨k=gc6))) (fun k hk=>by rcases hk with hk|hk|hk;exact .inl (.inl hk);exact .inl (.inr hk);(have:k=gc6:=hk;exact .inr (by omega)))).ext x6
       have nz6:va1.ownBlock≠some gc6:=fun h=>by have:=(oz1.lt gc6 h).2;omega
       refine aQ 11 (by kernel_rfl) E (am jA E E (jB (d:=s) (ho.ext (e9.trans ez6)) (hsx.ext (e9.trans ez6)) (hsy.ext (e9.trans ez6))) ?_)
       rintro vb7 wz7 ⟨x7,rfl⟩
       have ez7:aK w9 wz7:=ez6.trans x7
       refine aH (kg9.ext ez7) ?_
       have oz7:=oz6.ext x7
       have kz7:=k6.ext x7
       obtain⟨vr8,wz8,hr8,x8,bz8⟩:=jP (w:=wz7) (d:=dI s) (x:=x) (y:=y)
       have ez8:aK w9 wz8:=ez7.trans x8
       refine aQ 12 (by kernel_rfl) E (aJ (vs:=[(0,.agg #[I (dI s).kd,I (dI s).ix,B (dI s).at_.1,x,y])]) E E hr8 (aH (kg9.ext ez8) ?_))
       have oz8:=oz7.ext x8
       have kz8:=kz7.ext x8
       exact hk2 _ _ ⟨(va1,vr8,gc6),⟨rfl,rfl,rfl,rfl,rfl,rfl,rfl,rfl,rfl,rfl,trivial⟩,ez8,oz8,bz8,kz8,(show w9.heap.size≤gc6 by omega),nz6⟩
     ·obtain⟨gc9,wz9,hr9,l9,x9,k9⟩:=eK (w:=w9.drew)
      have la9:=eD.size
      have lb9:=k9.lt
      refine aT E hr9 (aH (kg9.ext (eD.trans x9)) ?_)
      have ez9:aK w9 wz9:=(eD.trans x9)
      refine aQ 6 (by kernel_rfl) rfl (am fV rfl rfl (fX ((hp9.weak (Y:=(fun k=>YM gm mv1 k∨((F k∨k=g6)∨k=gc9))) (fun k hk=>by rcases hk with hk|hk|hk;exact .inl (.inl hk);exact .inl (.inr hk);(have:k=gc9:=hk;have:=(show w9.heap.size≤gc9 by omega);exact .inr (by omega)))).ext ez9) hpl) ?_)
      rintro va10 wz10 ⟨x10,oo10⟩
      have oz10:=oo10.low (ez9).size
      have ez10:aK w9 wz10:=ez9.trans x10
      refine aH (kg9.ext ez10) ?_
      have nz10:va10.ownBlock≠some gc9:=fun h=>by have:=(oo10.lt gc9 h).1;have:=k9.lt;omega
      have kz10:=k9.ext x10
      refine aQ 11 (by kernel_rfl) E (am jA E E (jB (d:=s) (ho.ext (e9.trans ez10)) (hsx.ext (e9.trans ez10)) (hsy.ext (e9.trans ez10))) ?_)
      rintro vb11 wz11 ⟨x11,rfl⟩
      have ez11:aK w9 wz11:=ez10.trans x11
      refine aH (kg9.ext ez11) ?_
      have oz11:=oz10.ext x11
      have kz11:=kz10.ext x11
      obtain⟨vr12,wz12,hr12,x12,bz12⟩:=jP (w:=wz11) (d:=dI s) (x:=x) (y:=y)
      have ez12:aK w9 wz12:=ez11.trans x12
      refine aQ 12 (by kernel_rfl) E (aJ (vs:=[(0,.agg #[I (dI s).kd,I (dI s).ix,B (dI s).at_.1,x,y])]) E E hr12 (aH (kg9.ext ez12) ?_))
      have oz12:=oz11.ext x12
      have kz12:=kz11.ext x12
      exact hk2 _ _ ⟨(va10,vr12,gc9),⟨rfl,rfl,rfl,rfl,rfl,rfl,rfl,rfl,rfl,rfl,trivial⟩,ez12,oz12,bz12,kz12,(show w9.heap.size≤gc9 by omega),nz10⟩
  rintro⟨mv2,csB,g8⟩ w14 K2
  refine ii (by kernel_rfl) ?_
  refine ab (af ?_)
  have hs9:=K1.m.size
  have hs14:=K2.m.size
  have kg14:=K2.m.blk kg9 hny1
  have k714:=K2.m.blk K1.k7 K1.n7
  have n61:¬YM gm mv1 g6:=fun h=>(hy1 g6 h).elim n6 (fun h=>by omega)
  have k614:=K2.m.blk (K1.m.blk k6 n6) n61
  have rpA:cN (AV w0 w6.heap.size gm mv2) w14 (bG a.node) csA:=K1.rp.mv (K2.m.weak fun k hk _=>.inl hk) fun k hk=>by
   rcases hk with hk|hk
   ·exact(YM.grow K2.own hk).imp .inl id
   ·exact .inl (.inr hk)
  have rpB:cN (AV w0 w6.heap.size gm mv2) w14 (bG b.node) csB:=K2.rp.weak fun k hk=>.inl (hk.imp id fun h=>⟨h.1,by omega⟩)
  have n62:¬YM gm mv2 g6:=fun h=>(YM.grow K2.own h).elim n61 fun h=>by omega
  have hAV:∀k,AV w0 w6.heap.size gm mv2 k→k<w14.heap.size:=fun k hk=>by
   rcases hk with hk|hk
   ·exact(K2.st.ym_young hk).2
   ·omega
  have e14:aK w0 w14:=K2.m.ext_from e9 fun k hk=>(K1.st.ym_young hk).1
  refine bI 8 [6,74] (by kernel_rfl) (by kernel_rfl) ?_
  refine aA rfl rfl (dj rfl rfl (aW rfl rfl (fun w hw=>ar (o:=0) Tryz.underlying114 rfl (by kernel_rfl) rfl) (aP rfl rfl (fun w hw=>(kg14.ext hw).ldO (ms:=[I s.kd,I s.ix,B s.at_.1,x,y]) (o:=0) (fun j v hj=>by rcases j with _|_|_|_|_|_|_|_|_|j<;>simp_all) Tryz.underlying48 rfl (by kernel_rfl)) ?_)))
  refine aP E E (fun w' hw=>(k714.ext hw).ld Mt E (cs9 rpA)) ?_
  refine aP E E (fun w' hw=>(K2.k7.ext hw).ld Mt E (cs9 rpB)) ?_
  refine f4 (S:=fun v w'=>cN (AV w0 w6.heap.size gm mv2) w' (.sl ([a.node,b.node].map bG)) [v]∧v.oneCell'=true) (fun _ _ _ h hx=>⟨h.1.ext hx,h.2⟩) rfl (fun w' hw=>by rintro _ rfl _ rfl;exact J5 (rpA.ext hw) (rpB.ext hw) fun k hk=>Nat.lt_of_lt_of_le (hAV k hk) hw.size) ?_
  refine vu (S:=fun v w'=>∃kv,v=.agg #[.slice none 0 0,I s.kd,I s.ix,B s.at_.1,x,y,kv,B false,.slice none 0 0]∧cN (AV w0 w6.heap.size gm mv2) w' (.sl ([a.node,b.node].map bG)) [kv]∧kv.oneCell'=true) (fun _ _ _ ⟨kv,h1,h2,h3⟩ hx=>⟨kv,h1,h2.ext hx,h3⟩) E (fun w' hw=>by
 rintro _ rfl kv ⟨h1,h2⟩
 obtain⟨A,n,c,rfl⟩:=h1.isSl
 obtain⟨_,_,_,rfl⟩:=hsx.isS
 obtain⟨_,_,_,rfl⟩:=hsy.isS
 exact⟨_,w',run_build _ _ _ #[.slice none 0 0,I s.kd,I s.ix,B s.at_.1,_,_,.slice A n c,B false,.slice none 0 0] (by kernel_rfl),aK.refl _,_,rfl,h1,rfl⟩) ?_
  refine cq ?_
  intro wg8 xg8
  rintro _ rfl
  intro vg74 b74
  obtain⟨kv,rfl,hkv,hk1⟩:=b74
  obtain⟨w15,s15,q15,k15⟩:=(k614.ext xg8).stS (P:=Tryz.prog) (t:=52) (m:=[.slice none 0 0,I s.kd,I s.ix,B s.at_.1,x,y,kv,B false,.slice none 0 0]) rfl (by kernel_rfl) (av.cons rfl (av.cons rfl (av.cons rfl (av.cons rfl (av.cons hsx.one (av.cons hsy.one (av.cons hk1 (av.cons rfl (av.cons rfl av.nil)))))))))
  have m15:Mv (fun k=>k=g6) wg8 w15:=Mv.of_grown q15 fun k hk _=>(Option.some.inj hk).symm
  refine au E E s15 ?_
  refine ag (ab (aw ?_))
  refine dx E E k15 Mt E (by kernel_rfl) ?_
  have hx8:=xg8.size
  refine⟨_,rfl,[.slice none 0 0,I s.kd,I s.ix,B s.at_.1,x,y,kv,B false,.slice none 0 0],mv2,rfl,av.cons E (av.cons E (av.cons E (av.cons E (av.cons hsx.one (av.cons hsy.one (av.cons hk1 (av.cons E (av.cons E av.nil)))))))),?_,?_,?_,fun k hk=>(K2.own k hk).elim (fun h=>(K1.own k h).imp id fun h=>by omega) fun h=>.inr (by omega)⟩
  ·rw[ht]
   have h1:cN (AV w0 w6.heap.size gm mv2) wg8 (bG (.mk [] s [a.node,b.node] false [])) [.slice none 0 0,I s.kd,I s.ix,B s.at_.1,x,y,kv,B false,.slice none 0 0]:=eG j7 (((AH hsx hsy).x.ext (e14.trans xg8)).weak fun k hk=>.inl (hk.elim (fun h=>(K2.st.ym_young h).1) fun h=>h.1)) hkv j7
   have h2:=h1.mv (m15.weak (Y:=AV w0 w6.heap.size gm mv2) fun k hk _=>.inr (by have e:k=g6:=hk;omega)) fun _ h=>.inl h
   exact h2.weak fun k hk=>.inl (hk.imp id fun h=>⟨h.1,by omega⟩)
  ·have h1:=((K2.st.ext xg8).sto m15 (.inr rfl) n62).weak (G:=F) fun k hk=>.inl (.inl hk)
   rw[ht]
   simpa only[JT.miss,List.append_assoc] using h1
  ·exact((((Mv.of_ext (X:=YM gm mv) x6).trans K1.m fun _ h _=>h).trans K2.m fun k hk hlt=>(hy1 k hk).resolve_right (by omega)).trans (Mv.of_ext (X:=YM gm mv) xg8) fun _ h _=>h).trans m15 fun k hk hlt=>by have e:k=g6:=hk;omega
end Go.Rl
namespace Go.Rl
open Go.RowKit Go.Proofs
theorem zE:aG Tryz.prog 64:=⟨_,Tryz.func64,by kernel_rfl,rfl⟩
section
variable {w0 w w' w1:World} {g gc g1 g2:Nat} {t tc a b:JT} {ids ic i1 i2:List Nat} {n:aY} {pt ps:List bU} {d s:bU} {x y p q:Value}
def Mp (w0 w:World) (g:Nat) (t:JT) (ids:List Nat) (n:aY) (pt:List bU) (w':World):Prop:=
 ∃t' ids',iN n pt t=some t'∧Mv (fun k=>k∈ids) w w'∧j8 w0 w' g t' ids'∧∀k∈ids',k∈ids∨w.heap.size≤k
def uH (w0 w:World) (g:Nat) (t:JT) (ids:List Nat) (n:aY) (pt ps:List bU) (gc:Nat) (tc:JT) (ic:List Nat) (w':World):Prop:=
 (∀w'' t'' i'',Mv (fun k=>k∈ic) w' w''→iN n ps tc=some t''→j8 w0 w'' gc t'' i''→(∀k∈i'',k∈ic∨w'.heap.size≤k)→Mp w0 w g t ids n pt w'')∧(iN n ps tc=none→iN n pt t=none)
theorem uH.start (e:aK w w'):uH w0 w g t ids n pt pt g t ids w':=
 ⟨fun _ t'' i'' m h1 h2 h3=>⟨t'',i'',h1,(Mv.of_ext (X:=fun k=>k∈ids) e).trans m fun _ hk _=>hk,h2,fun k hk=>(h3 k hk).imp id fun h=>Nat.le_trans e.size h⟩,id⟩
theorem I1 (hop:tH d t=.split s a b) (hs:s=d):iN n (d::ps) t=(iN n ps a).map fun a'=>.split s a' b:=by
 show(match tH d t with
  |.split s a b=>if s=d then(iN n ps a).map fun a'=>JT.split s a' b else if dI s=d then(iN n ps b).map fun b'=>.split s a b' else none
  |.leaf _=>none
  |.gap=>none)=_
 rw[hop]
 simp only[]
 rw[if_pos hs]
theorem I2 (hop:tH d t=.split s a b) (hs:¬s=d) (ho:dI s=d):iN n (d::ps) t=(iN n ps b).map fun b'=>.split s a b':=by
 show(match tH d t with
  |.split s a b=>if s=d then(iN n ps a).map fun a'=>JT.split s a' b else if dI s=d then(iN n ps b).map fun b'=>.split s a b' else none
  |.leaf _=>none
  |.gap=>none)=_
 rw[hop]
 simp only[]
 rw[if_neg hs,if_pos ho]
def Fg (d:bU) (t:JT):Prop:=(∃m,t=.leaf m)∨∃s a b,tH d t=.split s a b∧s≠d∧dI s≠d
theorem LG (h:Fg d t):iN n (d::ps) t=none:=by
 show(match tH d t with
  |.split s a b=>if s=d then(iN n ps a).map fun a'=>JT.split s a' b else if dI s=d then(iN n ps b).map fun b'=>.split s a b' else none
  |.leaf _=>none
  |.gap=>none)=_
 rcases h with⟨m,rfl⟩|⟨s,a,b,hop,h1,h2⟩
 ·rfl
 ·rw[hop]
  simp only[]
  rw[if_neg h1,if_neg h2]
theorem GN (d:bU) (t:JT):(∃s a b,tH d t=.split s a b∧s=d)∨(∃s a b,tH d t=.split s a b∧(¬s=d)∧dI s=d)∨Fg d t:=by
 have key:∀s a b,tH d t=.split s a b→(∃s a b,tH d t=.split s a b∧s=d)∨(∃s a b,tH d t=.split s a b∧(¬s=d)∧dI s=d)∨Fg d t:=fun s a b h=>by
  by_cases h1:s=d
  ·exact .inl ⟨s,a,b,h,h1⟩
  ·by_cases h2:dI s=d
   ·exact .inr (.inl ⟨s,a,b,h,h1,h2⟩)
   ·exact .inr (.inr (.inr ⟨s,a,b,h,h1,h2⟩))
 cases t with
 |gap=>exact key _ _ _ rfl
 |leaf m=>exact .inr (.inr (.inl ⟨m,rfl⟩))
 |split s a b=>exact key _ _ _ rfl
theorem nh.swap (h:nh w0 w g ids s a b x y g1 g2 i1 i2 w'):aK w0 w→aK w0 w':=fun e=>h.mv.ext_from e fun k hk=>by have:=h.young;omega
theorem uH.ext (h:uH w0 w g t ids n pt ps gc tc ic w') (e:aK w' w1):uH w0 w g t ids n pt ps gc tc ic w1:=
 ⟨fun w'' t'' i'' m h1 h2 h3=>h.1 w'' t'' i'' ((Mv.of_ext (X:=fun k=>k∈ic) e).trans m fun _ hk _=>hk) h1 h2 fun k hk=>(h3 k hk).imp id fun h=>Nat.le_trans e.size h,h.2⟩
theorem uH.go1 (h:uH w0 w g t ids n pt (d::ps) gc tc ic w') (hin:gc∈ic) (hM:nh w0 w' gc ic s a b x y g1 g2 i1 i2 w1) (hop:tH d tc=.split s a b) (hs:s=d):uH w0 w g t ids n pt ps g1 a i1 w1:=by
 have sz:=hM.mv.size
 refine⟨fun w'' t'' i'' m h1 h2 h3=>?_,fun h1=>h.2 (by rw[I1 hop hs,h1];rfl)⟩
 have gl:=hM.blk.lt
 have m1:Mv (fun k=>k∈ic) w' w1:=hM.mv.weak fun k hk _=>by have e:k=gc:=hk;rw[e];exact hin
 have hf:∀k∈i'',k∈i1∨w1.heap.size≤k:=h3
 have j2:=hM.k2.mv m fun k hk hk'=>hM.n3 k hk' hk
 refine h.1 w'' (.split s t'' b) (gc::(i''++i2)) (m1.trans m fun k hk hkl=>(hM.fresh k (.inl hk)).resolve_right (by omega)) (by rw[I1 hop hs,h1];rfl) (j8.split hM.hx hM.hy (m.blk hM.blk hM.n1) h2 j2 hM.young (fun hk=>?_) hM.n2 fun k hk hk2=>?_) fun k hk=>?_
 ·rcases hf _ hk with h4|h4
  ·exact hM.n1 h4
  ·omega
 ·rcases hf _ hk with h4|h4
  ·exact hM.n3 k h4 hk2
  ·have:=hM.k2.lt k hk2;omega
 ·simp only[List.mem_cons,List.mem_append] at hk
  rcases hk with rfl|hk|hk
  ·exact .inl hin
  ·rcases hf _ hk with h4|h4
   ·exact hM.fresh k (.inl h4)
   ·exact .inr (by omega)
  ·exact hM.fresh k (.inr hk)
theorem uH.go2 (h:uH w0 w g t ids n pt (d::ps) gc tc ic w') (hin:gc∈ic) (hM:nh w0 w' gc ic s a b x y g1 g2 i1 i2 w1) (hop:tH d tc=.split s a b) (hs:¬s=d) (ho:dI s=d):uH w0 w g t ids n pt ps g2 b i2 w1:=by
 have sz:=hM.mv.size
 refine⟨fun w'' t'' i'' m h1 h2 h3=>?_,fun h1=>h.2 (by rw[I2 hop hs ho,h1];rfl)⟩
 have gl:=hM.blk.lt
 have m1:Mv (fun k=>k∈ic) w' w1:=hM.mv.weak fun k hk _=>by have e:k=gc:=hk;rw[e];exact hin
 have hf:∀k∈i'',k∈i2∨w1.heap.size≤k:=h3
 have j1:=hM.k1.mv m fun k hk hk'=>hM.n3 k hk hk'
 refine h.1 w'' (.split s a t'') (gc::(i1++i'')) (m1.trans m fun k hk hkl=>(hM.fresh k (.inr hk)).resolve_right (by omega)) (by rw[I2 hop hs ho,h1];rfl) (j8.split hM.hx hM.hy (m.blk hM.blk hM.n2) j1 h2 hM.young hM.n1 (fun hk=>?_) fun k hk1 hk=>?_) fun k hk=>?_
 ·rcases hf _ hk with h4|h4
  ·exact hM.n2 h4
  ·omega
 ·rcases hf _ hk with h4|h4
  ·exact hM.n3 k hk1 h4
  ·have:=hM.k1.lt k hk1;omega
 ·simp only[List.mem_cons,List.mem_append] at hk
  rcases hk with rfl|hk|hk
  ·exact .inl hin
  ·exact hM.fresh k (.inl hk)
  ·rcases hf _ hk with h4|h4
   ·exact hM.fresh k (.inr h4)
   ·exact .inr (by omega)
end
section
variable {w0 w:World} {g:Nat} {t a b:JT} {ids:List Nat} {d s:bU} {p q:Value}
theorem J7 (e0:aK w0 w) (ho:Ae w0) (hJ:j8 w0 w g t ids) (hp:bm d.at_.2.1 p w0) (hq:bm d.at_.2.2 q w0) (hop:tH d t=.split s a b) (hs:s=d):
 Calls Tryz.prog 108 #[.pointer (some ⟨g,0,none⟩),.agg #[I d.kd,I d.ix,B d.at_.1,p,q]] w (bE fun r w'=>aK w0 w'∧∃x y g1 g2 i1 i2,nh w0 w g ids s a b x y g1 g2 i1 i2 w'∧r=.tuple #[.pointer (some ⟨g1,0,none⟩),B true]):=by
 refine bE.mono (sI e0 ho hJ hp hq) fun r w' h=>?_
 rcases h with⟨m,rfl,_⟩|⟨s',a',b',x,y,g1,g2,i1,i2,h1,h2,h3⟩
 ·cases hop
 ·rw[hop] at h1
  obtain⟨rfl,rfl,rfl⟩:=JT.split.inj h1
  rw[if_pos hs] at h3
  exact⟨h2.swap e0,x,y,g1,g2,i1,i2,h2,h3⟩
theorem J8 (e0:aK w0 w) (ho:Ae w0) (hJ:j8 w0 w g t ids) (hp:bm d.at_.2.1 p w0) (hq:bm d.at_.2.2 q w0) (hop:tH d t=.split s a b) (hs:¬s=d) (h0:dI s=d):
 Calls Tryz.prog 108 #[.pointer (some ⟨g,0,none⟩),.agg #[I d.kd,I d.ix,B d.at_.1,p,q]] w (bE fun r w'=>aK w0 w'∧∃x y g1 g2 i1 i2,nh w0 w g ids s a b x y g1 g2 i1 i2 w'∧r=.tuple #[.pointer (some ⟨g2,0,none⟩),B true]):=by
 refine bE.mono (sI e0 ho hJ hp hq) fun r w' h=>?_
 rcases h with⟨m,rfl,_⟩|⟨s',a',b',x,y,g1,g2,i1,i2,h1,h2,h3⟩
 ·cases hop
 ·rw[hop] at h1
  obtain⟨rfl,rfl,rfl⟩:=JT.split.inj h1
  rw[if_neg hs,if_pos h0] at h3
  exact⟨h2.swap e0,x,y,g1,g2,i1,i2,h2,h3⟩
theorem J9 (e0:aK w0 w) (ho:Ae w0) (hJ:j8 w0 w g t ids) (hp:bm d.at_.2.1 p w0) (hq:bm d.at_.2.2 q w0) (hn:Fg d t):
 Calls Tryz.prog 108 #[.pointer (some ⟨g,0,none⟩),.agg #[I d.kd,I d.ix,B d.at_.1,p,q]] w (bE fun r w'=>aK w0 w'∧Mv (fun k=>k=g) w w'∧r=.tuple #[.pointer none,B false]):=by
 refine bE.mono (sI e0 ho hJ hp hq) fun r w' h=>?_
 rcases h with⟨m,rfl,h1,h2⟩|⟨s',a',b',x,y,g1,g2,i1,i2,h1,h2,h3⟩
 ·exact⟨e0.trans h1,Mv.of_ext h1,h2⟩
 ·refine⟨h2.swap e0,h2.mv,?_⟩
  rcases hn with⟨m,rfl⟩|⟨s,a,b,hop,n1,n2⟩
  ·cases h1
  ·rw[hop] at h1
   obtain⟨rfl,rfl,rfl⟩:=JT.split.inj h1
   rw[if_neg n1,if_neg n2] at h3
   exact h3
end
theorem Ka {w:World} {n:aY} {vl x y vk vp:Value} (hl:cC dc n.lems vl w) (hx:bm n.split.at_.2.1 x w) (hy:bm n.split.at_.2.2 y w) (hk:cC bG n.kids vk w) (hp:cC bP n.pf vp w):Rp w (bG n) [vl,I n.split.kd,I n.split.ix,B n.split.at_.1,x,y,vk,B n.empty,vp]:=by
 cases n with
 |mk ls s ks em pf=>exact(eG (Rp.x hl) (AH hx hy).x (Rp.x hk) (Rp.x hp)).rp
def LH (w0 w:World) (g:Nat) (t:JT) (ids:List Nat) (n:aY) (pt:List bU) (r:Value) (w':World):Prop:=aK w0 w'∧Mv (fun k=>k∈ids) w w'∧((iN n pt t=none∧r=B false)∨(r=B true∧Mp w0 w g t ids n pt w'))
theorem zF {w0 w:World} {g:Nat} {t:JT} {ids:List Nat} {u:bZ} {vd vl x y vk vp:Value} (e0:aK w0 w) (ho:Ae w0) (hJ:j8 w0 w g t ids) (hd:cC dC u.path vd w0) (hl:cC dc u.leaf.lems vl w0) (hx:bm u.leaf.split.at_.2.1 x w0) (hy:bm u.leaf.split.at_.2.2 y w0) (hk:cC bG u.leaf.kids vk w0) (hp:cC bP u.leaf.pf vp w0):
 Calls Tryz.prog 64 #[.pointer (some ⟨g,0,none⟩),.agg #[vd,vl,I u.leaf.split.kd,I u.leaf.split.ix,B u.leaf.split.at_.1,x,y,vk,B u.leaf.empty,vp]] w (bE fun r w'=>LH w0 w g t ids u.leaf u.path r w'):=by
 refine enter (vs:=[.pointer (some ⟨g,0,none⟩),.agg #[vd,vl,I u.leaf.split.kd,I u.leaf.split.ix,B u.leaf.split.at_.1,x,y,vk,B u.leaf.empty,vp]]) Tryz.func64 E E E ?_
 refine af (aa ?_)
 obtain⟨g3,w3,hr3,l3,x3,k3⟩:=cK (P:=Tryz.prog) (w:=w) (T:=54) (cs:=[vd,vl,I u.leaf.split.kd,I u.leaf.split.ix,B u.leaf.split.at_.1,x,y,vk,B u.leaf.empty,vp])
 refine cM E E hr3 (ae E E (ag (ab (af (af ?_)))))
 have hll:=hd.len
 have hg3:∀k∈ids,k<g3:=fun k hk=>Nat.lt_of_lt_of_le (hJ.lt k hk) l3
 refine aa (ah E E (ar (o:=0) Mz E (by kernel_rfl) E) (ak E E (aj ME E (k3.cell (i:=0) E)) ?_))
 refine aO E E (a6 ME (hd.ext (e0.trans x3))) (ac E E (ag (ab (aE ?_))))
 refine jf (fun(i:Nat) (gc:Nat) (tc:JT) (ic:List Nat)=>[(0,.pointer (some ⟨gc,0,none⟩)),(3,.pointer (some ⟨g3,0,none⟩)),(4,B false),(11,vd),(12,I ((u.path.length:Nat):Int)),(13,I (i:Int))]) (fun(i:Nat) (gc:Nat) (tc:JT) (ic:List Nat) w'=>aK w0 w'∧i≤u.path.length∧j8 w0 w' gc tc ic∧ct g3 54 [vd,vl,I u.leaf.split.kd,I u.leaf.split.ix,B u.leaf.split.at_.1,x,y,vk,B u.leaf.empty,vp] w'∧g3∉ic∧uH w0 w g t ids u.leaf u.path (u.path.drop i) gc tc ic w'∧Mv (fun k=>k∈ids) w w'∧∀k∈ic,k∈ids∨w.heap.size≤k) (fun(i:Nat) (gc:Nat) (tc:JT) (ic:List Nat)=>u.path.length-i) (0) (g) (t) (ids) ⟨rfl,rfl,rfl,rfl,rfl,rfl,trivial⟩ ⟨e0.trans x3,by omega,hJ.mv (Mv.of_ext (X:=fun _=>False) x3) (fun _ _ h=>h),k3,fun h=>by have:=hg3 _ h;omega,uH.start x3,Mv.of_ext x3,fun k hk=>.inl hk⟩ ?_
 rintro i gc tc ic wL ⟨eL,hi,hjL,kL,nL,hC,mL,frL⟩
 refine af (aa (al E E E (aV) (ag (ab (af ?_)))))
 refine bz E (fun h14=>?_) (fun h14=>?_)
 ·refine aC (ab (af (aE (af (aa ?_)))))
  obtain⟨a15,c15,p15,q15,h15⟩:=cd (P:=Tryz.prog) (sz:=5) ME (by kernel_rfl) ck (by omega) hd (i:=i) ((by omega)) .i64
  obtain⟨e15,he15⟩:∃e,e=u.path[i]'((by omega)):=⟨_,rfl⟩
  rw[←he15] at h15
  obtain⟨x15_0,x15_1,rfl,f15_0,f15_1⟩:=gK h15
  refine aq E E E (p15 _) (ak E E ((q15.ext eL).ld My E (by kernel_rfl)) ?_)
  obtain⟨g6,w6,hr6,l6,x6,k6⟩:=aX (P:=Tryz.prog) (w:=wL) (t:=48) (z:=.agg #[I 0,I 0,B false,.slice none 0 0,.slice none 0 0]) (l:=[I 0,I 0,B false,.slice none 0 0,.slice none 0 0]) (by kernel_rfl) rfl
  refine aT E hr6 ?_
  obtain⟨w3_3,s3_3,q3_3,k3_3⟩:=k6.stS (P:=Tryz.prog) (t:=48) (m:=[I e15.kd,I e15.ix,B e15.at_.1,x15_0,x15_1]) rfl (by kernel_rfl) (av.cons rfl (av.cons rfl (av.cons rfl (av.cons f15_0.one (av.cons f15_1.one av.nil)))))
  refine au E E s3_3 ?_
  have x3_3:=aK.of_new (x6) q3_3 l6
  refine ag (ab (af ?_))
  have hdr:u.path.drop i=e15::u.path.drop (i+1):=by rw[he15];exact List.drop_eq_getElem_cons (by omega)
  rw[hdr] at hC
  have hCN:=hC.ext (x3_3)
  have hjN:=hjL.mv (Mv.of_ext (X:=fun _=>False) (x3_3)) (fun _ _ h=>h)
  have hroot:=hjL.root
  have kN:=kL.ext (x3_3)
  have frc:∀k,k=gc→k<w.heap.size→k∈ids:=fun k hk hlt=>(frL k (hk▸hroot)).resolve_right (by omega)
  have mN:Mv (fun k=>k∈ids) w _:=mL.trans (Mv.of_ext (X:=fun k=>k∈ids) (x3_3)) fun _ h _=>h
  have szL:=mL.size
  have hgc:g3≠gc:=fun h=>nL (h▸hroot)
  rcases GN e15 tc with⟨s,a,b,hop,hs⟩|⟨s,a,b,hop,hs,hs2⟩|hno
  ·refine aa (ac E E (ak E E (k3_3.ld My E (by kernel_rfl)) (am sH E E ((J7 (ids:=ic) (eL.trans x3_3) ho hjN f15_0 f15_1 hop hs)) ?_)))
   rintro v20 w20 ⟨y20,x1,y1,g1,g2,i1,i2,hM,rfl⟩
   refine ac E E (ao E E (bj) (ao E E (bk) (ae E E (ae E E (ag (ab (af (af (aa (ac E E (bt E E bu ?_)))))))))))
   refine ag (ab (cr E (aC (ab (aa (ac E E (ae E E (ag (aS (ab (aa (al (r:=I ((i+1:Nat):Int)) E E E (by have e:((i+1:Nat):Int)=(i:Int)+1:=(by omega);rw[e];exact aN (by omega) (by omega)) ?_))))))))))))
   refine ac E E (ag ?_)
   refine fj (i+1) (g1) (a) (i1) ⟨rfl,rfl,rfl,rfl,rfl,rfl,trivial⟩ ⟨y20,by omega,hM.k1,hM.mv.blk kN hgc,fun h=>(hM.fresh _ (.inl h)).elim nL fun h=>by have:=kN.lt;omega,hCN.go1 hroot hM hop hs,mN.trans hM.mv frc,fun k hk=>(hM.fresh k (.inl hk)).elim (frL k) fun h=>.inr (by have:=mN.size;omega)⟩ (by omega)
  ·refine aa (ac E E (ak E E (k3_3.ld My E (by kernel_rfl)) (am sH E E ((J8 (ids:=ic) (eL.trans x3_3) ho hjN f15_0 f15_1 hop hs hs2)) ?_)))
   rintro v20 w20 ⟨y20,x1,y1,g1,g2,i1,i2,hM,rfl⟩
   refine ac E E (ao E E (bj) (ao E E (bk) (ae E E (ae E E (ag (ab (af (af (aa (ac E E (bt E E bu ?_)))))))))))
   refine ag (ab (cr E (aC (ab (aa (ac E E (ae E E (ag (aS (ab (aa (al (r:=I ((i+1:Nat):Int)) E E E (by have e:((i+1:Nat):Int)=(i:Int)+1:=(by omega);rw[e];exact aN (by omega) (by omega)) ?_))))))))))))
   refine ac E E (ag ?_)
   refine fj (i+1) (g2) (b) (i2) ⟨rfl,rfl,rfl,rfl,rfl,rfl,trivial⟩ ⟨y20,by omega,hM.k2,hM.mv.blk kN hgc,fun h=>(hM.fresh _ (.inr h)).elim nL fun h=>by have:=kN.lt;omega,hCN.go2 hroot hM hop hs hs2,mN.trans hM.mv frc,fun k hk=>(hM.fresh k (.inr hk)).elim (frL k) fun h=>.inr (by have:=mN.size;omega)⟩ (by omega)
  ·refine aa (ac E E (ak E E (k3_3.ld My E (by kernel_rfl)) (am sH E E ((J9 (ids:=ic) (eL.trans x3_3) ho hjN f15_0 f15_1 hno)) ?_)))
   rintro v20 w20 ⟨y20,m20,rfl⟩
   refine ac E E (ao E E (bj) (ao E E (bk) (ae E E (ae E E (ag (ab (af (af (aa (ac E E (bt E E bu ?_)))))))))))
   refine ag (ab (bg E (af (aa (ae E E (ag (ab (aw (ay (aZ (ay (ay (aZ (ay (az E E ?_)))))))))))))))
   exact⟨_,rfl,y20,mN.trans m20 frc,.inl ⟨hC.2 (LG hno),rfl⟩⟩
 ·refine bc (aI (aI (be (ab (af (af ?_))))))
  have hgL:w0.heap.size≤gc:=hjL.young gc hjL.root
  rw[List.drop_eq_nil_of_le (by omega)] at hC
  rcases tc with _|m|⟨s,a,b⟩
  ·obtain⟨hid,kg⟩:=A1 hjL
   refine aa (ac E E (ax E E (ah E E (ar (o:=5) MM E (by kernel_rfl) E) ?_)))
   refine aq E E E (iW MV (by kernel_rfl) (i:=0) (by omega) .i64) ?_
   refine ak E E (aj MQ E (kg.cell (i:=5) E)) (al E E E (iu MQ) (ag (ab ?_)))
   refine cr E (aC (ab (af (af (aa (ac E E (ax E E (ah E E (ar (o:=7) MM E (by kernel_rfl) E) ?_))))))))
   refine ak E E (aj MS E (kg.cell (i:=7) E)) (al E E E (gF MS) (ag (ab (bg E ?_))))
   refine af ?_
   have hlL:=hl.ext eL
   have hxL:=hx.ext eL
   have hyL:=hy.ext eL
   have hkL:=hk.ext eL
   have hpL:=hp.ext eL
   refine aa (ah rfl rfl (ar (o:=1) Tryz.underlying54 rfl (by kernel_rfl) rfl) (ak rfl rfl (kL.ldO (ms:=[vl,I u.leaf.split.kd,I u.leaf.split.ix,B u.leaf.split.at_.1,x,y,vk,B u.leaf.empty,vp]) (o:=1) (fun j v hj=>by rcases j with _|_|_|_|_|_|_|_|_|j<;>simp_all) Tryz.underlying52 rfl (by kernel_rfl)) ?_))
   obtain⟨g9,w9,hr9,l9,x9,k9⟩:=aX (P:=Tryz.prog) (w:=wL) (t:=52) (z:=.agg #[.slice none 0 0,I 0,I 0,B false,.slice none 0 0,.slice none 0 0,.slice none 0 0,B false,.slice none 0 0]) (l:=[.slice none 0 0,I 0,I 0,B false,.slice none 0 0,.slice none 0 0,.slice none 0 0,B false,.slice none 0 0]) (by kernel_rfl) rfl
   refine aT E hr9 ?_
   obtain⟨w12_3,s12_3,q12_3,k12_3⟩:=k9.stS (P:=Tryz.prog) (t:=52) (m:=[vl,I u.leaf.split.kd,I u.leaf.split.ix,B u.leaf.split.at_.1,x,y,vk,B u.leaf.empty,vp]) rfl (by kernel_rfl) (av.cons hlL.one (av.cons rfl (av.cons rfl (av.cons rfl (av.cons hxL.one (av.cons hyL.one (av.cons hkL.one (av.cons rfl (av.cons hpL.one av.nil)))))))))
   refine au E E s12_3 ?_
   have x12_3:=aK.of_new (x9) q12_3 l9
   refine ag (ab (aa (ac E E (ax E E (ah E E (ar (o:=7) MM E (by kernel_rfl) E) ?_)))))
   obtain⟨w13,s13,q13,k13⟩:=(kg.ext (x12_3)).stC (P:=Tryz.prog) (t:=112) (i:=7) (v:=.pointer (some ⟨g9,0,none⟩)) (by kernel_rfl) rfl (by decide)
   refine au E E s13 ?_
   have y13:=aK.of_new ((eL.trans x12_3)) q13 hgL
   have m13:=(Mv.of_ext (X:=fun k=>k∈ic) (x12_3)).trans (Mv.of_grown (X:=fun k=>k=gc) q13 fun k hk _=>(Option.some.inj hk).symm) fun k hk _=>by have e:k=gc:=hk;rw[hid,e];simp
   refine ag (ab (af (aa (ae E E (ag (ab (aw (az E E ?_))))))))
   exact⟨_,rfl,y13,mL.trans m13 (fun k hk hlt=>(frL k hk).resolve_right (by omega)),.inr ⟨rfl,hC.1 w13 (.leaf u.leaf) [gc,g9] m13 rfl (j8.leaf k13 (k12_3.other q13 (fun e=>by have:=Option.some.inj e;have:=kg.lt;omega)) (Ka hl hx hy hk hp) hgL (by have:=eL.size;omega) (by have:=kg.lt;omega)) fun k hk=>by
    have:=kg.lt
    simp only[List.mem_cons,List.not_mem_nil,or_false] at hk
    rcases hk with rfl|rfl
    ·exact .inl (by rw[hid];simp)
    ·exact .inr (by omega)⟩⟩
  ·obtain⟨gl,cl,hid,kg,kl,hrl⟩:=vM hjL
   refine aa (ac E E (ax E E (ah E E (ar (o:=5) MM E (by kernel_rfl) E) ?_)))
   refine aq E E E (iW MV (by kernel_rfl) (i:=0) (by omega) .i64) ?_
   refine ak E E (aj MQ E (kg.cell (i:=5) E)) (al E E E (iu MQ) (ag (ab ?_)))
   refine cr E (aC (ab (af (af (aa (ac E E (ax E E (ah E E (ar (o:=7) MM E (by kernel_rfl) E) ?_))))))))
   refine ak E E (aj MS E (kg.cell (i:=7) E)) (al E E E (gF MS) (ag (ab (cr E ?_))))
   refine aC (ab (af (aa (ae E E (ag (ab (aw (az E E ?_))))))))
   exact⟨_,rfl,eL,mL,.inr ⟨rfl,hC.1 wL (.leaf m) ic (Mv.refl _ _) rfl hjL fun k hk=>.inl hk⟩⟩
  ·obtain⟨x1,y1,g1,g2,i1,i2,hid,hx1,hy1,kg,j1,j2,_,n1,n2,n3⟩:=hjL.split_inv
   refine aa (ac E E (ax E E (ah E E (ar (o:=5) MM E (by kernel_rfl) E) ?_)))
   refine aq E E E (iW MV (by kernel_rfl) (i:=0) (by omega) .i64) ?_
   refine ak E E (aj MQ E (kg.cell (i:=5) E)) (al E E E (iu MQ) (ag (ab ?_)))
   refine bg E (af (aa (ae E E (ag (ab (aw (ay (az E E ?_))))))))
   exact⟨_,rfl,eL,mL,.inl ⟨hC.2 rfl,rfl⟩⟩
end Go.Rl
namespace Go.Rl
open Go.RowKit Go.Proofs
theorem Cx:aG Tryz.prog 25:=⟨_,Tryz.func25,by kernel_rfl,rfl⟩
theorem uI {w0:World} (ho:Ae w0):∀t:JT,D9 w0 t
 |.gap=>sK ho fun s a b h=>by cases h
 |.leaf n=>sK ho fun s a b h=>by cases h
 |.split s' a' b'=>sK ho fun s a b h=>by
  obtain⟨rfl,rfl,rfl⟩:=JT.split.inj h
  exact⟨uI ho _,uI ho _⟩
def yl (es:List bZ):(aY×List (List bU))×Int:=
 if es.all bQ=false then((IU,[]),1) else
 match jE es .gap with
 |none=>((IU,[]),11)
 |some t=>if qT t.node=false then((IU,[]),8) else((t.node,t.miss []),0)
def Cy (es:List bZ) (r:Value) (w':World):Prop:=∃cs mv,r=.tuple #[.agg cs.toArray,mv,I (yl es).2]∧av cs∧Rp w' (bG (yl es).1.1) cs∧cC zB (yl es).1.2 mv w'
def oh:List Value:=[.slice none 0 0,I 0,I 0,B false,.slice none 0 0,.slice none 0 0,.slice none 0 0,B false,.slice none 0 0]
theorem Cy.err {es:List bZ} {w':World} {c:Int} (h:yl es=((IU,[]),c)):Cy es (.tuple #[.agg oh.toArray,.slice none 0 0,I c]) w':=by
 unfold Cy
 rw[h]
 exact⟨_,_,rfl,av.cons rfl (av.cons rfl (av.cons rfl (av.cons rfl (av.cons rfl (av.cons rfl (av.cons rfl (av.cons rfl (av.cons rfl av.nil)))))))),(vI (X:=fun _=>False)).rp,cC.nil _ _⟩
theorem tM {P:Program} {fn:Func} {R:Ending→World→Prop} {N:Nat} {fr:Fr} {p s1 s2:Tmp} {t T:TypeId} {u1 u2:Value} {l:List Value} {w:World} {g:Nat} {d:TypeDesc} (hr:fn.results= #[.cell p t,.tmp s1,.tmp s2]) (hv:lk fr p=some (.pointer (some ⟨g,0,none⟩))) (h1:lk fr s1=some u1) (h2:lk fr s2=some u2) (hb:ct g T l w) (hu:P.underlying t=some d) (hd:d.isRow=true) (hi:(P.info? t).map (·.size)=some l.length)
 (h:R (.returned (.tuple #[.agg l.toArray,u1,u2])) w):ir (bodyPost P fn R) N [] fr w .ret:=fun a ha=>by
 refine⟨ha.defers,.tuple #[.agg l.toArray,u1,u2],?_,h⟩
 have hp:=ha.at_ p _ hv
 have hp':a.tmps[p]?.getD undef=.pointer (some ⟨g,0,none⟩):=by simpa using hp
 have q1:=ha.at_ s1 _ h1
 have q2:=ha.at_ s2 _ h2
 have hl:=run_loadVar_row w g T t l.toArray (0,0) d hb hu (by cases d<;>first|rfl|exact hd) (by simpa using hi)
 simp[results,hr,hp',asAddr,hl,←q1,←q2]
theorem I3 {α:Type} {p:α→Bool} {l:List α} {i:Nat} (hi:i<l.length):(l.take (i+1)).all p=((l.take i).all p&&p l[i]):=by
 rw[List.take_succ_eq_append_getElem hi,List.all_append]
 simp
theorem Kb {α:Type} {p:α→Bool} {l:List α} {i:Nat} (hi:i<l.length) (h:p l[i]=false):l.all p=false:=by
 cases hh:l.all p with
 |false=>rfl
 |true=>rw[List.all_eq_true] at hh;have:=hh _ (List.getElem_mem hi);rw[h] at this;cases this
theorem lX:∀(a b:List bZ) (t:JT),jE (a++b) t=(jE a t).bind (jE b)
 |[],b,t=>rfl
 |e::a,b,t=>by
  simp only[List.cons_append,jE]
  cases IV e t with
  |none=>rfl
  |some t'=>simp only[Option.bind_some];exact lX a b t'
theorem Cz {l:List bZ} {i:Nat} (hi:i<l.length) {t:JT} (h:jE (l.take i) .gap=some t):jE (l.take (i+1)) .gap=IV l[i] t:=by
 rw[List.take_succ_eq_append_getElem hi,lX,h]
 simp only[Option.bind_some,jE]
 cases IV l[i] t<;>rfl
theorem GO {l:List bZ} {i:Nat} (h:jE (l.take i) .gap=none):jE l .gap=none:=by
 rw[←List.take_append_drop i l,lX,h];rfl
theorem Ea {u:bZ} (h:bQ u=true):u.path.length≤2048:=by
 unfold bQ at h
 simp only[Bool.and_eq_true,decide_eq_true_eq] at h
 exact h.1.1.1.1
theorem CA {w:World} {es:List bZ} {ev:Value} (hv:cC i7 es ev w) (hs:∀u∈es,KG u) (ho:Ae w) (hn:es.length≤1048576):
 Calls Tryz.prog 25 #[ev] w (bE fun r w'=>aK w w'∧Cy es r w'):=by
 refine enter (vs:=[ev]) Tryz.func25 E E E ?_
 refine af (aa ?_)
 obtain⟨g2,w2,hr2,l2,x2,k2⟩:=aX (P:=Tryz.prog) (w:=w) (t:=52) (z:=.agg #[.slice none 0 0,I 0,I 0,B false,.slice none 0 0,.slice none 0 0,.slice none 0 0,B false,.slice none 0 0]) (l:=[.slice none 0 0,I 0,I 0,B false,.slice none 0 0,.slice none 0 0,.slice none 0 0,B false,.slice none 0 0]) (by kernel_rfl) rfl
 refine aT E hr2 (ae E E (ae E E (ag (ab (af (af ?_))))))
 have k20:ct g2 52 oh w2:=k2
 have hll:=hv.len
 have s2:=x2.size
 have lg2:=k2.lt
 refine aa (ac E E (aO E E (a6 ML (hv.ext x2)) (ac E E (ag (ab (aE ?_))))))
 refine cf (α:=Nat) (fun x=>[(0,ev),(2,.pointer (some ⟨g2,0,none⟩)),(3,.slice none 0 0),(4,I 0),(12,ev),(13,I ((es.length:Nat):Int)),(14,I (x:Int))]) (fun x w'=>aK w w'∧x≤es.length∧(es.take x).all bQ=true∧ct g2 52 oh w') (fun x=>es.length-x) (0) ⟨rfl,rfl,rfl,rfl,rfl,rfl,rfl,trivial⟩ ⟨x2,by omega,rfl,k20⟩ ?_
 rintro i wL ⟨eL,hi,hA,kL⟩
 refine af (aa (al E E E (aV) (ag (ab (af ?_)))))
 refine bz E (fun h15=>?_) (fun h15=>?_)
 ·refine aC (ab (af (aE (af (aa ?_)))))
  obtain⟨a16,c16,p16,q16,h16⟩:=cd (P:=Tryz.prog) (sz:=10) ML (by kernel_rfl) cw (by omega) hv (i:=i) ((by omega)) .i64
  obtain⟨e16,he16⟩:∃e,e=es[i]'((by omega)):=⟨_,rfl⟩
  rw[←he16] at h16
  obtain⟨x16_0,x16_1,x16_2,x16_3,x16_4,x16_5,rfl,f16_0,f16_1,f16_2,f16_3,f16_4,f16_5⟩:=iE h16
  refine aq E E E (p16 _) (ak E E ((q16.ext eL).ld Mz E (by kernel_rfl)) ?_)
  obtain⟨g6,w6,hr6,l6,x6,k6⟩:=aX (P:=Tryz.prog) (w:=wL) (t:=54) (z:=.agg #[.slice none 0 0,.slice none 0 0,I 0,I 0,B false,.slice none 0 0,.slice none 0 0,.slice none 0 0,B false,.slice none 0 0]) (l:=[.slice none 0 0,.slice none 0 0,I 0,I 0,B false,.slice none 0 0,.slice none 0 0,.slice none 0 0,B false,.slice none 0 0]) (by kernel_rfl) rfl
  refine aT E hr6 ?_
  obtain⟨w3_3,s3_3,q3_3,k3_3⟩:=k6.stS (P:=Tryz.prog) (t:=54) (m:=[x16_0,x16_1,I e16.leaf.split.kd,I e16.leaf.split.ix,B e16.leaf.split.at_.1,x16_2,x16_3,x16_4,B e16.leaf.empty,x16_5]) rfl (by kernel_rfl) (av.cons f16_0.one (av.cons f16_1.one (av.cons rfl (av.cons rfl (av.cons rfl (av.cons f16_2.one (av.cons f16_3.one (av.cons f16_4.one (av.cons rfl (av.cons f16_5.one av.nil))))))))))
  refine au E E s3_3 ?_
  have x3_3:=aK.of_new (x6) q3_3 l6
  refine ag (ab (af ?_))
  have hmem:e16∈es:=by rw[he16];exact List.getElem_mem _
  have kL4:=kL.ext (x3_3)
  rcases hval:bQ e16
  ·refine aa (ak E E (k3_3.ld Mz E (by kernel_rfl)) (am oa E E ((by have h:=ob (u:=e16) (f16_0.ext (eL.trans x3_3)) (f16_1.ext (eL.trans x3_3)) (f16_2.ext (eL.trans x3_3)) (f16_3.ext (eL.trans x3_3)) (f16_4.ext (eL.trans x3_3)) (f16_5.ext (eL.trans x3_3)) (hs e16 hmem);rw[hval] at h;exact h)) ?_))
   rintro v19 w19 ⟨x19,rfl⟩
   refine bt E E bu (ag (ab (bg E (af (aa (bA (vs:=[]) (r:=.agg #[.slice none 0 0,I 0,I 0,B false,.slice none 0 0,.slice none 0 0,.slice none 0 0,B false,.slice none 0 0]) E E (by exact run_build _ _ _ _ (by kernel_rfl)) ?_))))))
   obtain⟨w5,s5,q5,k5⟩:=(kL4.ext x19).stS (P:=Tryz.prog) (t:=52) (m:=oh) rfl (by kernel_rfl) (av.cons rfl (av.cons rfl (av.cons rfl (av.cons rfl (av.cons rfl (av.cons rfl (av.cons rfl (av.cons rfl (av.cons rfl av.nil)))))))))
   refine au E E s5 ?_
   have e5:=aK.of_new (((eL.trans x3_3).trans x19)) q5 l2
   refine ae E E (ae E E (ag (ab (aw (aZ (ay (ay (aZ (ay ?_)))))))))
   refine tM E E E E k5 Mt E (by kernel_rfl) ?_
   have hno:es.all bQ=false:=Kb (i:=i) (by omega) (by rw[←he16];exact hval)
   exact⟨_,rfl,e5,Cy.err (c:=1) (by unfold yl;rw[if_pos hno])⟩
  ·refine aa (ak E E (k3_3.ld Mz E (by kernel_rfl)) (am oa E E ((by have h:=ob (u:=e16) (f16_0.ext (eL.trans x3_3)) (f16_1.ext (eL.trans x3_3)) (f16_2.ext (eL.trans x3_3)) (f16_3.ext (eL.trans x3_3)) (f16_4.ext (eL.trans x3_3)) (f16_5.ext (eL.trans x3_3)) (hs e16 hmem);rw[hval] at h;exact h)) ?_))
   rintro v19 w19 ⟨x19,rfl⟩
   refine bt E E bu (ag (ab (cr E (aC (aS (ab (aa (al (r:=I ((i+1:Nat):Int)) E E E (by have e:((i+1:Nat):Int)=(i:Int)+1:=(by omega);rw[e];exact aN (by omega) (by omega)) ?_))))))))
   refine ac E E (ag ?_)
   refine bR (i+1) ⟨rfl,rfl,rfl,rfl,rfl,rfl,rfl,trivial⟩ ⟨((eL.trans x3_3).trans x19),by omega,by rw[I3 (by omega),hA,←he16,hval];rfl,kL4.ext x19⟩ (by omega)
 ·refine bc (aI (aI (be (ab (af ?_)))))
  have hall:es.all bQ=true:=by rw[List.take_of_length_le (by omega)] at hA;exact hA
  have hvl:∀u∈es,bQ u=true:=fun u hu=>List.all_eq_true.1 hall u hu
  refine aa (bA (vs:=[]) (r:=.agg #[I 0,I 0,B false,.slice none 0 0,.slice none 0 0,.pointer none,.pointer none,.pointer none]) E E (by exact run_build _ _ _ _ (by kernel_rfl)) ?_)
  obtain⟨g24,w24,hr24,l24,x24,k24⟩:=cK (P:=Tryz.prog) (w:=wL) (T:=114) (cs:=[I 0,I 0,B false,.slice none 0 0,.slice none 0 0,.pointer none,.pointer none,.pointer none])
  refine cM E E hr24 (ae E E (ag (ab (af (af ?_)))))
  have ng2:g2∉[g24]:=by have:=kL.lt;simp;omega
  have j24:j8 w w24 g24 .gap [g24]:=j8.gap k24 (by have:=eL.size;omega)
  refine aa (ac E E (aO E E (a6 ML (hv.ext (eL.trans x24))) (ac E E (ag (ab (aE ?_))))))
  refine kA (fun(i:Nat) (t:JT) (ids:List Nat)=>[(2,.pointer (some ⟨g2,0,none⟩)),(3,.slice none 0 0),(4,I 0),(7,.pointer (some ⟨g24,0,none⟩)),(25,ev),(26,I ((es.length:Nat):Int)),(27,I (i:Int))]) (fun(i:Nat) (t:JT) (ids:List Nat) w'=>aK w w'∧i≤es.length∧ct g2 52 oh w'∧j8 w w' g24 t ids∧g2∉ids∧jE (es.take i) .gap=some t∧t.depth≤2048∧t.gaps≤1+2048*i) (fun(i:Nat) (t:JT) (ids:List Nat)=>es.length-i) (0) (.gap) ([g24]) ⟨rfl,rfl,rfl,rfl,rfl,rfl,rfl,trivial⟩ ⟨eL.trans x24,by omega,kL.ext x24,j24,ng2,rfl,by simp[JT.depth],by simp[JT.gaps]⟩ ?_
  rintro i t ids wM ⟨eM,hi,kM,jM,nM,hT,hdp,hgp⟩
  refine af (aa (al E E E (aV) (ag (ab (af ?_)))))
  refine bz E (fun h28=>?_) (fun h28=>?_)
  ·refine aC (ab (af (aE (af (aa ?_)))))
   obtain⟨a29,c29,p29,q29,h29⟩:=cd (P:=Tryz.prog) (sz:=10) ML (by kernel_rfl) cw (by omega) hv (i:=i) ((by omega)) .i64
   obtain⟨e29,he29⟩:∃e,e=es[i]'((by omega)):=⟨_,rfl⟩
   rw[←he29] at h29
   obtain⟨x29_0,x29_1,x29_2,x29_3,x29_4,x29_5,rfl,f29_0,f29_1,f29_2,f29_3,f29_4,f29_5⟩:=iE h29
   refine aq E E E (p29 _) (ak E E ((q29.ext eM).ld Mz E (by kernel_rfl)) ?_)
   obtain⟨g9,w9,hr9,l9,x9,k9⟩:=aX (P:=Tryz.prog) (w:=wM) (t:=54) (z:=.agg #[.slice none 0 0,.slice none 0 0,I 0,I 0,B false,.slice none 0 0,.slice none 0 0,.slice none 0 0,B false,.slice none 0 0]) (l:=[.slice none 0 0,.slice none 0 0,I 0,I 0,B false,.slice none 0 0,.slice none 0 0,.slice none 0 0,B false,.slice none 0 0]) (by kernel_rfl) rfl
   refine aT E hr9 ?_
   obtain⟨w10_3,s10_3,q10_3,k10_3⟩:=k9.stS (P:=Tryz.prog) (t:=54) (m:=[x29_0,x29_1,I e29.leaf.split.kd,I e29.leaf.split.ix,B e29.leaf.split.at_.1,x29_2,x29_3,x29_4,B e29.leaf.empty,x29_5]) rfl (by kernel_rfl) (av.cons f29_0.one (av.cons f29_1.one (av.cons rfl (av.cons rfl (av.cons rfl (av.cons f29_2.one (av.cons f29_3.one (av.cons f29_4.one (av.cons rfl (av.cons f29_5.one av.nil))))))))))
   refine au E E s10_3 ?_
   have x10_3:=aK.of_new (x9) q10_3 l9
   refine ag (ab (af ?_))
   have hmem:e29∈es:=by rw[he29];exact List.getElem_mem _
   have eN:=x10_3
   have jN:=jM.ext eN
   have kN:=kM.ext eN
   have hTn:=Cz (l:=es) (i:=i) (by omega) hT
   rw[←he29] at hTn
   have hpl:=Ea (hvl e29 hmem)
   rcases hadd:IV e29 t with _|t2
   ·refine aa (ac rfl rfl (ak rfl rfl (k10_3.ld Tryz.underlying54 rfl (by kernel_rfl)) (am zE rfl rfl ((bE.mono (zF (u:=e29) (eM.trans x10_3) ho jN f29_0 f29_1 f29_2 f29_3 f29_4 f29_5) fun r w' (h:LH _ _ _ _ _ _ _ _ _)=>show aK w w'∧Mv (fun k=>k∈ids) _ w'∧r=B false from⟨h.1,h.2.1,by rcases h.2.2 with h|⟨_,t',_,h1,_⟩;exact h.2;exact absurd (h1.symm.trans hadd) (by simp)⟩)) ?_)))
    rintro v33 w33 ⟨y33,m33,rfl⟩
    have k33:=m33.blk kN nM
    refine bt E E bu (ag (ab (bg E (af (aa (bA (vs:=[]) (r:=.agg #[.slice none 0 0,I 0,I 0,B false,.slice none 0 0,.slice none 0 0,.slice none 0 0,B false,.slice none 0 0]) E E (by exact run_build _ _ _ _ (by kernel_rfl)) ?_))))))
    obtain⟨w12,s12,q12,k12⟩:=k33.stS (P:=Tryz.prog) (t:=52) (m:=oh) rfl (by kernel_rfl) (av.cons rfl (av.cons rfl (av.cons rfl (av.cons rfl (av.cons rfl (av.cons rfl (av.cons rfl (av.cons rfl (av.cons rfl av.nil)))))))))
    refine au E E s12 ?_
    have e12:=aK.of_new y33 q12 l2
    refine ae E E (ae E E (ag (ab (aw (aZ (ay (ay (aZ (ay ?_)))))))))
    refine tM E E E E k12 Mt E (by kernel_rfl) ?_
    have hno:jE es .gap=none:=GO (i:=i+1) (by rw[hTn,hadd])
    exact⟨_,rfl,e12,Cy.err (c:=11) (by unfold yl;rw[if_neg (by rw[hall];simp),hno])⟩
   ·refine aa (ac rfl rfl (ak rfl rfl (k10_3.ld Tryz.underlying54 rfl (by kernel_rfl)) (am zE rfl rfl ((bE.mono (zF (u:=e29) (eM.trans x10_3) ho jN f29_0 f29_1 f29_2 f29_3 f29_4 f29_5) fun r w' (h:LH _ _ _ _ _ _ _ _ _)=>show aK w w'∧Mv (fun k=>k∈ids) _ w'∧r=B true∧∃ids',j8 w w' g24 t2 ids'∧∀k∈ids',k∈ids∨_≤k from⟨h.1,h.2.1,by rcases h.2.2 with h|⟨h0,t',ids',h1,h2,h3,h4⟩;exact absurd (h.1.symm.trans hadd) (by simp);exact⟨h0,ids',by have:=Option.some.inj (h1.symm.trans hadd);rw[←this];exact h3,h4⟩⟩)) ?_)))
    rintro v33 w33 ⟨y33,m33,rfl,ids',j33,fr33⟩
    have k33:=m33.blk kN nM
    refine bt E E bu (ag (ab (cr E (aC (aS (ab (aa (al (r:=I ((i+1:Nat):Int)) E E E (by have e:((i+1:Nat):Int)=(i:Int)+1:=(by omega);rw[e];exact aN (by omega) (by omega)) ?_))))))))
    refine ac E E (ag ?_)
    refine iz (i+1) (t2) (ids') ⟨rfl,rfl,rfl,rfl,rfl,rfl,rfl,trivial⟩ ⟨y33,by omega,k33,j33,fun h=>(fr33 _ h).elim nM fun h=>by have:=kN.lt;omega,by rw[hTn,hadd],Nat.le_trans (sF _ _ hadd) (by omega),Nat.le_trans (uG _ _ hadd) (by omega)⟩ (by omega)
  ·refine bc (aI (aI (be (ab (af (aa ?_))))))
   obtain⟨g10,w10,hr10,l10,x10,k10⟩:=aX (P:=Tryz.prog) (w:=wM) (t:=59) (z:=.slice none 0 0) (l:=[.slice none 0 0]) (by kernel_rfl) rfl
   refine aT E hr10 ?_
   have hle:=List.take_of_length_le (l:=es) (i:=i) (by omega)
   rw[hle] at hT
   have lM:=kM.lt
   have sM:=eM.size
   have sX:=x10.size
   have lg10:=k10.lt
   have hC:zD w w10 (fun k=>k=g2) g10 (.slice none 0 0) []:=⟨k10,fH.nil _,(by intro h;cases h),(by omega)⟩
   have hdj:∀k∈ids,¬YM g10 (.slice none 0 0) k:=fun k hk h=>by
    rcases h with h|h
    ·have:=jM.lt k hk;omega
    ·cases h
   refine ag (ab (af (aa (ac E E (am iP E E ((uI ho t (fun k=>k=g2) w10 g24 ids [] (.slice none 0 0) g10 (.slice none 0 0) [] (fun k hk=>by have:k=g2:=hk;omega) ((eM.trans x10)) (jM.ext x10) hC hdj cN.nilSl (by simp;omega) (by simp;omega))) ?_)))))
   rintro v38 w38 ⟨cs,mv1,rfl,h1,hr,hst,hm,hoo⟩
   obtain⟨vl,x,y,vk,vp,rfl,hlN,hxN,hyN,hkN,hpN⟩:=d9 hr.rp
   have y38:=hm.ext_from (eM.trans x10) fun k hk=>(hC.ym_young hk).1
   have k238:=hm.blk (kM.ext x10) (fun h=>by rcases h with h|h;omega;cases h)
   obtain⟨g11,w11,hr11,l11,x11,k11⟩:=aX (P:=Tryz.prog) (w:=w38) (t:=52) (z:=.agg #[.slice none 0 0,I 0,I 0,B false,.slice none 0 0,.slice none 0 0,.slice none 0 0,B false,.slice none 0 0]) (l:=[.slice none 0 0,I 0,I 0,B false,.slice none 0 0,.slice none 0 0,.slice none 0 0,B false,.slice none 0 0]) (by kernel_rfl) rfl
   refine aT E hr11 ?_
   obtain⟨w15_3,s15_3,q15_3,k15_3⟩:=k11.stS (P:=Tryz.prog) (t:=52) (m:=[vl,I t.node.split.kd,I t.node.split.ix,B t.node.split.at_.1,x,y,vk,B t.node.empty,vp]) rfl (by kernel_rfl) (av.cons hlN.one (av.cons rfl (av.cons rfl (av.cons rfl (av.cons hxN.one (av.cons hyN.one (av.cons hkN.one (av.cons rfl (av.cons hpN.one av.nil)))))))))
   refine au E E s15_3 ?_
   have x15_3:=aK.of_new (x11) q15_3 l11
   refine ag (ab (af (af ?_)))
   rcases hvn:qT t.node
   ·refine aa (ak E E (k15_3.ld Mt E (by kernel_rfl)) (am gJ E E ((by have h:=mZ (hlN.ext x15_3) (hxN.ext x15_3) (hyN.ext x15_3) (hkN.ext x15_3) (hpN.ext x15_3);rw[hvn] at h;exact h)) ?_))
    rintro v40 w40 ⟨x40,rfl⟩
    refine bt E E bu (ag (ab (bg E (af (aa (bA (vs:=[]) (r:=.agg #[.slice none 0 0,I 0,I 0,B false,.slice none 0 0,.slice none 0 0,.slice none 0 0,B false,.slice none 0 0]) E E (by exact run_build _ _ _ _ (by kernel_rfl)) ?_))))))
    obtain⟨w17,s17,q17,k17⟩:=(k238.ext ((x15_3.trans x40))).stS (P:=Tryz.prog) (t:=52) (m:=oh) rfl (by kernel_rfl) (av.cons rfl (av.cons rfl (av.cons rfl (av.cons rfl (av.cons rfl (av.cons rfl (av.cons rfl (av.cons rfl (av.cons rfl av.nil)))))))))
    refine au E E s17 ?_
    have e17:=aK.of_new (((y38.trans x15_3).trans x40)) q17 l2
    refine ae E E (ae E E (ag (ab (aw (ay ?_)))))
    refine tM E E E E k17 Mt E (by kernel_rfl) ?_
    exact⟨_,rfl,e17,Cy.err (c:=8) (by unfold yl;rw[if_neg (by rw[hall];simp),hT];simp only[];rw[if_pos hvn])⟩
   ·refine aa (ak E E (k15_3.ld Mt E (by kernel_rfl)) (am gJ E E ((by have h:=mZ (hlN.ext x15_3) (hxN.ext x15_3) (hyN.ext x15_3) (hkN.ext x15_3) (hpN.ext x15_3);rw[hvn] at h;exact h)) ?_))
    rintro v40 w40 ⟨x40,rfl⟩
    refine bt E E bu (ag (ab (cr E (aC (ab (af ?_))))))
    have eH:aK w38 w40:=x15_3.trans x40
    have eHd:aK w40 w40.drew:=(aK.refl w40).drew
    have k11d:ct g11 52 [vl,I t.node.split.kd,I t.node.split.ix,B t.node.split.at_.1,x,y,vk,B t.node.empty,vp] w40.drew:=(k15_3.ext x40).ext eHd
    have k10d:ct g10 59 [mv1] w40.drew:=(hst.cell.ext eH).ext eHd
    refine ig (fun w1=>ct g11 52 [vl,I t.node.split.kd,I t.node.split.ix,B t.node.split.at_.1,x,y,vk,B t.node.empty,vp] w1∧ct g10 59 [mv1] w1) 5 E (by kernel_rfl) ?_
    refine gd 0 E E (by kernel_rfl) E ⟨k11d,k10d⟩ (fun _ hw=>hw.1.ld Mt E (by kernel_rfl)) ?_
    refine gd 1 E E (by kernel_rfl) E ⟨k11d,k10d⟩ (fun _ hw=>aj MY E hw.2.k0) ?_
    obtain⟨w18,s18,q18,k18⟩:=((k238.ext eH).ext eHd).stS (P:=Tryz.prog) (t:=52) (m:=[vl,I t.node.split.kd,I t.node.split.ix,B t.node.split.at_.1,x,y,vk,B t.node.empty,vp]) rfl (by kernel_rfl) h1
    have l2b:g2<w10.heap.size:=by have:=(kM.ext x10).lt;omega
    have m18:Mv (fun k=>k=g2) w40.drew w18:=Mv.of_grown q18 fun k hk _=>(Option.some.inj hk).symm
    have l11b:=hm.size
    have hS18:ct g11 52 [vl,I t.node.split.kd,I t.node.split.ix,B t.node.split.at_.1,x,y,vk,B t.node.empty,vp] w18∧ct g10 59 [mv1] w18:=⟨m18.blk k11d (fun e=>by omega),m18.blk k10d (fun e=>by omega)⟩
    have e18:aK w w18:=aK.of_new ((y38.trans eH).trans eHd) q18 l2
    have rpF:=(((hr.ext eH).ext eHd).mv (m18.weak fun k hk _=>.inr (by have e:k=g2:=hk;omega)) fun _ h=>.inl h).rp
    have stF:=(((hst.ext eH).ext eHd).sto m18 rfl (fun h=>by
     rcases h with h|h
     ·omega
     ·rcases hoo _ h with h|h
      ·cases h
      ·omega)).own.rpx (Y:=fun _=>False) sJ (by omega) (fun _ h=>h.elim) (fun _ _ h=>h)
    refine aQ 2 (by kernel_rfl) E (au E E s18 (aH hS18 ?_))
    refine aQ 3 (by kernel_rfl) E (ae E E (aH hS18 ?_))
    refine aQ 4 (by kernel_rfl) E (ae E E (aH hS18 (ii (by kernel_rfl) ?_)))
    refine ab (aw ?_)
    refine tM E E E E k18 Mt E (by kernel_rfl) ?_
    have hb:yl es=((t.node,t.miss []),0):=by unfold yl;rw[if_neg (by rw[hall];simp),hT];simp only[];rw[if_neg (by rw[hvn];simp)]
    refine⟨_,rfl,e18,?_⟩
    unfold Cy
    rw[hb]
    exact⟨_,mv1,rfl,h1,rpF,(by simpa using stF.rp:Rp w18 (.sl ((t.miss []).map zB)) [mv1])⟩
end Go.Rl
namespace Go.Rl
open Go.RowKit Go.Proofs
theorem rf:aG Tryz.prog 17:=⟨_,Tryz.func17,by kernel_rfl,rfl⟩
def iq (d:List UInt8) (ws:List bZ):List Int:=(List.range (ws.length+1)).map fun i=>((fc (cp d) (ws.take i)).length:Int)
theorem I4 (b:List UInt8) (ws:List bZ) (u:bZ):fc b (ws++[u])=jD (fc b ws) (cy u):=by
 unfold fc
 rw[List.map_append]
 exact Cr _ _ _
theorem CB (d:List UInt8) (ws:List bZ) (u:bZ):iq d (ws++[u])=iq d ws++[((fc (cp d) (ws++[u])).length:Int)]:=by
 unfold iq
 rw[List.length_append,List.length_singleton,List.range_succ,List.map_append]
 have e:(List.range (ws.length+1)).map (fun i=>((fc (cp d) ((ws++[u]).take i)).length:Int))=(List.range (ws.length+1)).map (fun i=>((fc (cp d) (ws.take i)).length:Int)):=List.map_congr_left fun i hi=>by
  have:=List.mem_range.1 hi
  rw[List.take_append_of_le_length (by omega)]
 rw[e]
 simp only[List.map_cons,List.map_nil]
 rw[List.take_of_length_le (by simp)]
theorem CC (b:List UInt8) (ws vs:List bZ):(fc b ws).length≤(fc b (ws++vs)).length:=by
 unfold fc
 rw[List.map_append,sq]
 obtain⟨s,h⟩:=nZ (vs.map cy) (vn b (ws.map cy))
 rw[h,List.length_append];omega
theorem CD {l:List bZ} {i:Nat} (hi:i<l.length) (p:bZ→Bool):(l.take (i+1)).filter p=(l.take i).filter p++(if p l[i]=true then[l[i]] else[]):=by
 have e:l.take (i+1)=l.take i++[l[i]]:=by rw[List.take_add_one,List.getElem?_eq_getElem hi];rfl
 rw[e,List.filter_append]
 congr 1
 by_cases h:p l[i]=true
 ·rw[if_pos h];simp[h]
 ·rw[if_neg h];simp[h]
theorem CE (l:List bZ) (i:Nat) (p:bZ→Bool):∃vs,l.filter p=(l.take i).filter p++vs:=⟨(l.drop i).filter p,by rw[←List.filter_append,List.take_append_drop]⟩
section
variable {α:Type} {e t:TypeId} {sz base:Nat} {f:α→Dt} {l:List α} {v:Value} {w w':World}
def oK (e:TypeId) (sz base:Nat) (f:α→Dt) (l:List α) (v:Value) (w:World):Prop:=∃n xs,w.ownsRow base e sz v n xs∧aR (fun k=>base≤k) w (l.map f) xs
theorem oK.nil (w:World):oK e sz base f ([]:List α) (.slice none 0 0) w:=⟨0,[],World.ownsRow_nil _ _ _ _,aR.nil⟩
theorem oK.lt (h:oK e sz base f l v w):∀k,v.ownBlock=some k→base≤k∧k<w.heap.size:=fun k hk=>by
 obtain⟨n,xs,h,_⟩:=h
 exact World.ownsRow.lt h k hk
theorem oK.ds (h:oK e sz base f l v w) (hs:∀a,(f a).size=sz) (h0:0<sz):cC f l v w:=by
 obtain⟨n,xs,h1,h2⟩:=h
 exact Rp.ofSl (Sl.of_own h1) h2.rp (by simp[hs]) h0
theorem oK.ext (h:oK e sz base f l v w) (hx:aK w w'):oK e sz base f l v w':=by
 obtain⟨n,xs,h1,h2⟩:=h
 exact⟨n,xs,iU h1 hx,h2.ext hx⟩
theorem oK.mv {X:Nat→Prop} (h:oK e sz base f l v w) (hm:Mv X w w') (hX:∀k,X k→base≤k) (hne:∀k,v.ownBlock=some k→¬X k):oK e sz base f l v w':=by
 obtain⟨n,xs,h1,h2⟩:=h
 refine⟨n,xs,⟨h1.1,?_⟩,aR.mv (hm.weak fun k hk _=>hX k hk) (fun k hk=>.inl hk) h2⟩
 rcases h1.2 with h3|⟨g,cap,cur,rfl,h3,h4,h5⟩
 ·exact .inl h3
 ·refine .inr ⟨g,cap,cur,rfl,h3,?_,h5⟩
  rw[hm.keep g (Array.getElem?_eq_some_iff.1 h4).1 (hne g rfl)]
  exact h4
theorem oK.push {P:Program} {ty:TypeId} {z:Value} {bytes:Nat} (ht:P.underlying t=some (.slice e)) (hi:(P.info? e).map (fun i=>(i.zero,i.size,i.bytes))=some (some z,sz,bytes)) (hzs:z.cells.size=sz) (hsz:0<sz) (hsb:sz≤16777216) (hb0:0<bytes)
 (h:oK e sz base f l v w) {a:α} {cs:List Value} (h1:av cs) (ha:cN (fun k=>base≤k) w (f a) cs) (hs:∀a,(f a).size=sz) (hb:(l.length+1)*bytes≤140737488355328) (hbase:base≤w.heap.size):
 ∃x w0 r w1,(Instr.buildSlice t 1 (eI 0 [Value.agg cs.toArray]).toArray).run P w=.ok x w0∧(Builtin.append_ #[t,t] ty #[v,x]).run P w0=.ok r w1∧oK e sz base f (l++[a]) r w1∧Mv (fun k=>v.ownBlock=some k) w w1∧∀k,r.ownBlock=some k→v.ownBlock=some k∨w.heap.size≤k:=by
 have hcl:cs.length=sz:=by rw[ha.len,hs]
 have hi2:(P.info? e).map (fun i=>(i.zero,i.size))=some (some z,sz):=by
  obtain⟨i,hi',h2⟩:=Option.map_eq_some_iff.1 hi
  simp only[Prod.mk.injEq] at h2
  rw[hi']
  simp[h2.1,h2.2.1]
 obtain⟨x,w0,h3,h4,h5,h6⟩:=yR (w:=w) ht hi2 hzs hsz [cs] (by simp[hcl]) (by simp) (by simpa using hsb)
 have hlt:=h.lt
 obtain⟨n,xs,g2,g3⟩:=h.ext h4
 have hxl:xs.length=l.length*sz:=by rw[g3.len,cP (sz:=sz) (by simp[hs]),List.length_map]
 obtain⟨r,w1,n',k4,k5,k6⟩:=mj (P:=P) (ty:=ty) ht hi hzs hsz g2 (xs:=xs) (news:=cs) (by simpa using h5) h1 (by
  rw[hxl,hcl]
  have:(l.length*sz+sz)*bytes=(l.length+1)*bytes*sz:=by rw[←Nat.succ_mul,Nat.mul_right_comm]
  rw[this]
  exact Nat.mul_le_mul_right _ hb) hb0 (Nat.le_trans hbase h4.size)
 have hm:Mv (fun k=>v.ownBlock=some k) w0 w1:=Mv.of_grown k6.grown fun k hk _=>hk
 refine⟨x,w0,r,w1,by simpa using h3,k4,⟨n',_,k5,?_⟩,(Mv.of_ext h4).trans hm fun _ hk _=>hk,fun k hk=>?_⟩
 ·rw[List.map_append]
  have hmw:=hm.weak (Y:=fun k=>base≤k) fun k hk _=>(hlt k hk).1
  refine aR.append (aR.mv hmw (fun k hk=>.inl hk) g3) (aR.mv hmw (fun k hk=>.inl hk) ?_)
  simpa using aR.cons (b:=[]) (ha.ext h4) aR.nil
 ·rcases k6.own with h7|h7
  ·rw[h7] at hk;exact .inl hk
  ·exact .inr (Nat.le_trans h4.size (h7 k hk))
end
def D3 (a b c:Value):Prop:=∀k,(a.ownBlock=some k→b.ownBlock≠some k∧c.ownBlock≠some k)∧(b.ownBlock=some k→c.ownBlock≠some k)
theorem tN {w:World} {d:List UInt8} {es:List bZ} {ev:Value} (hd:d.length=32) (hv:cC i7 es ev w) (hs:∀u∈es,KG u) (hw:∀u∈es,A6 u) (hlen:(fc (cp d) (es.filter bQ)).length≤1073741824) (hn:es.length≤1073741824):
 Calls Tryz.prog 17 #[.agg (d.map U8).toArray,ev] w (bE fun r w'=>aK w w'∧∃base bv vv mv,w.heap.size≤base∧r=.tuple #[bv,vv,mv]∧c6 base (fc (cp d) (es.filter bQ)) bv w'∧oK 54 10 base i7 (es.filter bQ) vv w'∧nw base (iq d (es.filter bQ)) mv w'∧D3 bv vv mv):=by
 refine enter (vs:=[.agg (d.map U8).toArray,ev]) Tryz.func17 E E E ?_
 refine af (aa ?_)
 obtain⟨g2,w2,hr2,l2,x2,k2⟩:=cK (P:=Tryz.prog) (w:=w) (T:=24) (cs:=d.map U8)
 refine cM E E hr2 ?_
 have hv2:=hv.ext x2
 have hll:=hv.len
 refine ae E E (ae E E (ae E E (ag (ab (af (aa ?_))))))
 refine ak E E (k2.ld MK E (by rw[List.length_map,hd];exact jj)) ?_
 refine am DM E E ((DO hd)) ?_
 rintro v12 w12 ⟨x12,o12⟩
 refine ae E E (ag (ab (af (aa (ae E E (ag (ab (af (aa (ac E E ?_))))))))))
 have b12:=o12.bts
 have lt12:=o12.lt
 refine aO E E (cT b12) ?_
 obtain⟨v15,w15,hr15,x15,o15,ob15⟩:=Bp (w:=w12) w2.heap.size [((cp d).length:Int)] (by simp) x12.size
 refine aJ (vs:=[(0,I ((cp d).length:Int))]) E E hr15 ?_
 refine ae E E (ag (ab (af (af (aa (ae E E (ag (ab (aE ?_)))))))))
 refine jf (fun(i:Nat) (bv:Value) (vv:Value) (mv:Value)=>[(1,ev),(7,bv),(8,vv),(9,mv),(10,I (i:Int))]) (fun(i:Nat) (bv:Value) (vv:Value) (mv:Value) w'=>aK w2 w'∧i≤es.length∧c6 w2.heap.size (fc (cp d) ((es.take i).filter bQ)) bv w'∧oK 54 10 w2.heap.size i7 ((es.take i).filter bQ) vv w'∧nw w2.heap.size (iq d ((es.take i).filter bQ)) mv w'∧D3 bv vv mv∧∀k,bv.ownBlock=some k→k<w'.heap.size) (fun(i:Nat) (bv:Value) (vv:Value) (mv:Value)=>es.length-i) (0) (v12) (.slice none 0 0) (v15) ⟨rfl,rfl,rfl,rfl,rfl,trivial⟩ ⟨x12.trans x15,by omega,o12.ext x15,oK.nil _,o15,(fun k=>⟨fun hk=>⟨fun h=>(by cases h),fun h=>by rw[ob15] at h;have:=lt12 k hk;have:=Option.some.inj h;omega⟩,fun h=>(by cases h)⟩),fun k hk=>by have:=lt12 k hk;have:=x15.size;omega⟩ ?_
 rintro i bv vv mv wL ⟨eL,hi,hB,oQ,oI,h3,ltB⟩
 refine af (af (aa (ac E E (ac E E (aO E E (a6 ML (hv2.ext eL)) (al E E E (aV) (ag (ab ?_))))))))
 refine bz E (fun h19=>?_) (fun h19=>?_)
 ·refine aC (ab (af (aE (af ?_))))
  obtain⟨em,hem⟩:∃em,em=es[i]'(by omega):=⟨_,rfl⟩
  have hmem:em∈es:=by rw[hem];exact List.getElem_mem _
  have hfs:=CD (l:=es) (i:=i) (by omega) bQ
  rw[←hem] at hfs
  rcases hval:bQ em
  ·rw[if_neg (by rw[hval];simp),List.append_nil] at hfs
   refine aa (ac E E (ac E E ?_))
   obtain⟨a24,c24,p24,q24,h24⟩:=cd (P:=Tryz.prog) (sz:=10) ML (by kernel_rfl) cw (by omega) hv2 (i:=i) (by omega) .i64
   rw[←hem] at h24
   obtain⟨x24_0,x24_1,x24_2,x24_3,x24_4,x24_5,rfl,f24_0,f24_1,f24_2,f24_3,f24_4,f24_5⟩:=iE h24
   refine aq E E E (p24 _) (ak E E ((q24.ext eL).ld Mz E (by kernel_rfl)) (am su E E ((by have h:=sv (u:=em) (f24_0.ext eL) (f24_1.ext eL) (f24_2.ext eL) (f24_3.ext eL) (f24_4.ext eL) (f24_5.ext eL) (hs em hmem);rw[hval] at h;exact h)) ?_))
   rintro v26 w26 ⟨x26,rfl⟩
   refine ag (ab (cr E (aC (aS (ab (aa (ac E E (al (r:=I ((i+1:Nat):Int)) E E E (by have e:((i+1:Nat):Int)=(i:Int)+1:=(by omega);rw[e];exact aN (by omega) (by omega)) ?_))))))))
   refine ae E E (ag ?_)
   refine fj (i+1) (bv) (vv) (mv) ⟨rfl,rfl,rfl,rfl,rfl,trivial⟩ ⟨(eL.trans x26),by omega,by rw[hfs];exact hB.ext (x26),by rw[hfs];exact oQ.ext (x26),by rw[hfs];exact oI.ext (x26),h3,fun k hk=>by have:=ltB k hk;have:=(x26).size;omega⟩ (by omega)
  ·rw[if_pos hval] at hfs
   obtain⟨vs,hvs⟩:=CE es (i+1) bQ
   have hsn:=I4 (cp d) ((es.take i).filter bQ) em
   have hmo:=CC (cp d) ((es.take (i+1)).filter bQ) vs
   rw[←hvs,hfs,hsn,tB] at hmo
   have hel:(gY (cy em)).length=(uv (cy em).length).length+(cy em).length:=by unfold gY;rw[List.length_append]
   have hwl:((es.take i).filter bQ).length≤1073741824:=Nat.le_trans (List.length_filter_le _ _) (by rw[List.length_take];omega)
   have hml:(iq d ((es.take i).filter bQ)).length=((es.take i).filter bQ).length+1:=by unfold iq;simp
   refine aa (ac E E (ac E E ?_))
   obtain⟨a24,c24,p24,q24,h24⟩:=cd (P:=Tryz.prog) (sz:=10) ML (by kernel_rfl) cw (by omega) hv2 (i:=i) (by omega) .i64
   rw[←hem] at h24
   obtain⟨x24_0,x24_1,x24_2,x24_3,x24_4,x24_5,rfl,f24_0,f24_1,f24_2,f24_3,f24_4,f24_5⟩:=iE h24
   refine aq E E E (p24 _) (ak E E ((q24.ext eL).ld Mz E (by kernel_rfl)) (am su E E ((by have h:=sv (u:=em) (f24_0.ext eL) (f24_1.ext eL) (f24_2.ext eL) (f24_3.ext eL) (f24_4.ext eL) (f24_5.ext eL) (hs em hmem);rw[hval] at h;exact h)) ?_))
   rintro v26 w26 ⟨x26,rfl⟩
   refine ag (ab (bg E (af (aa (ac E E (ac E E (ac E E ?_)))))))
   obtain⟨a30,c30,p30,q30,h30⟩:=cd (P:=Tryz.prog) (sz:=10) ML (by kernel_rfl) cw (by omega) hv2 (i:=i) (by omega) .i64
   rw[←hem] at h30
   obtain⟨x30_0,x30_1,x30_2,x30_3,x30_4,x30_5,rfl,f30_0,f30_1,f30_2,f30_3,f30_4,f30_5⟩:=iE h30
   refine aq E E E (p30 _) (ak E E ((q30.ext (eL.trans x26)).ld Mz E (by kernel_rfl)) (am GC E E ((GE (u:=em) (f30_0.ext (eL.trans x26)) (f30_1.ext (eL.trans x26)) (f30_2.ext (eL.trans x26)) (f30_3.ext (eL.trans x26)) (f30_4.ext (eL.trans x26)) (f30_5.ext (eL.trans x26)) (hw em hmem) (by omega))) ?_))
   rintro v32 w32 ⟨x32,b32⟩
   refine am AO E E ((AP (hB.bts.ext ((x26.trans x32))) b32 (by omega))) ?_
   rintro v33 w33 ⟨x33,o33⟩
   refine ae E E (ag (ab (af (aa (ac E E (ac E E (ac E E ?_)))))))
   obtain⟨a37,c37,p37,q37,h37⟩:=cd (P:=Tryz.prog) (sz:=10) ML (by kernel_rfl) cw (by omega) hv2 (i:=i) (by omega) .i64
   rw[←hem] at h37
   obtain⟨x37_0,x37_1,x37_2,x37_3,x37_4,x37_5,rfl,f37_0,f37_1,f37_2,f37_3,f37_4,f37_5⟩:=iE h37
   refine aq E E E (p37 _) (ak E E ((q37.ext (((eL.trans x26).trans x32).trans x33)).ld Mz E (by kernel_rfl)) ?_)
   have eL33:=((x26.trans x32).trans x33)
   have e233:=(((eL.trans x26).trans x32).trans x33)
   have oQ33:=oQ.ext eL33
   have ltQ:=oQ.lt
   have ltI:=oI.lt
   have lt33:=o33.lt
   have ge33:=o33.ge
   have s32:=(x26.trans x32).size
   have h1e:av [x37_0,x37_1,I em.leaf.split.kd,I em.leaf.split.ix,B em.leaf.split.at_.1,x37_2,x37_3,x37_4,B em.leaf.empty,x37_5]:=av.cons f37_0.one (av.cons f37_1.one (av.cons rfl (av.cons rfl (av.cons rfl (av.cons f37_2.one (av.cons f37_3.one (av.cons f37_4.one (av.cons rfl (av.cons f37_5.one av.nil)))))))))
   obtain⟨x39,w39,v40,w40,hr39,hr40,o40,m40,n40⟩:=oQ33.push (ty:=25) (t:=25) ML xY rfl (by omega) (by omega) (by omega) h1e (h37.x.ext e233) cw (by omega) e233.size
   have b33:c6 w2.heap.size (fc (cp d) ((es.take i).filter bQ++[em])) v33 w33:=by rw[hsn];exact o33.low (by have:=(((x26.trans x32).trans x33)).size;have:=eL.size;omega)
   have hB40:c6 w2.heap.size _ v33 w40:=m40.ownB b33 fun k hk hx=>by have:=ge33 k hk;have:=(ltQ k hx).2;omega
   have oI40:=m40.ownI (oI.ext eL33) fun k hk hx=>(h3 k).2 hx hk
   have s40:=m40.size
   obtain⟨v44,w44,hr44,x44,o44,ob44⟩:=Bp (w:=w40) w2.heap.size [((fc (cp d) ((es.take i).filter bQ++[em])).length:Int)] (by simp) (Nat.le_trans e233.size s40)
   obtain⟨v45,w45,hr45,o45,g45⟩:=KO (ty:=32) (oI40.ext x44) o44.its (by rw[hml];simp;omega) (Nat.le_trans (Nat.le_trans e233.size s40) x44.size)
   have m45:Mv (fun k=>mv.ownBlock=some k) w44 w45:=Mv.of_grown g45.grown fun k hk _=>hk
   have s44:=x44.size
   have sL:=eL33.size
   have eB:aK w2 w45:=Mv.ext_from m45 ((Mv.ext_from m40 e233 fun k hk=>(ltQ k hk).1).trans x44) fun k hk=>(ltI k hk).1
   have lt40:=o40.lt
   have d1:∀k,v40.ownBlock=some k→¬mv.ownBlock=some k:=fun k hk hx=>by
    rcases n40 k hk with h|h
    ·exact(h3 k).2 h hx
    ·have:=(ltI k hx).2;omega
   have hB45:c6 w2.heap.size _ v33 w45:=m45.ownB (hB40.ext x44) fun k hk hx=>by have:=ge33 k hk;have:=(ltI k hx).2;omega
   have oQ45:=(o40.ext x44).mv m45 (fun k hk=>(ltI k hk).1) d1
   have n45:∀k,v45.ownBlock=some k→mv.ownBlock=some k∨w44.heap.size≤k:=fun k hk=>by
    rcases g45.own with h|h
    ·rw[h] at hk;exact .inl hk
    ·exact .inr (h k hk)
   have h3':D3 v33 v40 v45:=fun k=>⟨fun hk=>⟨fun h=>by
    have a1:=ge33 k hk
    have a2:=lt33 k hk
    rcases n40 k h with h'|h'
    ·have:=(ltQ k h').2;omega
    ·omega,fun h=>by
    have a1:=ge33 k hk
    have a2:=lt33 k hk
    rcases n45 k h with h'|h'
    ·have:=(ltI k h').2;omega
    ·omega⟩,fun hk h=>by
    rcases n45 k h with h'|h'
    ·exact d1 k hk h'
    ·have:=(lt40 k hk).2;omega⟩
   refine aJ (vs:=[(0,.agg #[x37_0,x37_1,I em.leaf.split.kd,I em.leaf.split.ix,B em.leaf.split.at_.1,x37_2,x37_3,x37_4,B em.leaf.empty,x37_5])]) E E hr39 ?_
   refine ba E E hr40 ?_
   refine ae E E (ag (ab (aa (ac E E (ac E E ?_)))))
   refine aO E E (cT hB40.bts) ?_
   refine aJ (vs:=[(0,I ((fc (cp d) ((es.take i).filter bQ++[em])).length:Int))]) E E hr44 ?_
   refine ba E E hr45 ?_
   refine ae E E (ag (aS (ab (aa (ac E E (al (r:=I ((i+1:Nat):Int)) E E E (by have e:((i+1:Nat):Int)=(i:Int)+1:=(by omega);rw[e];exact aN (by omega) (by omega)) ?_))))))
   refine ae E E (ag ?_)
   refine fj (i+1) (v33) (v40) (v45) ⟨rfl,rfl,rfl,rfl,rfl,trivial⟩ ⟨eB,by omega,by rw[hfs];exact hB45,by rw[hfs];exact oQ45,by rw[hfs,CB];exact o45,h3',fun k hk=>by have:=lt33 k hk;have:=m45.size;omega⟩ (by omega)
 ·refine bc (aI (aI (be (ab (af (aa (ac E E (ac E E (ac E E (ae E E (ae E E (ae E E (ag (ab (aw (km E E E E ?_))))))))))))))))
  exact⟨_,rfl,x2.trans eL,w2.heap.size,bv,vv,mv,x2.size,rfl,by rw[List.take_of_length_le (by omega)] at hB;exact hB,by rw[List.take_of_length_le (by omega)] at oQ;exact oQ,by rw[List.take_of_length_le (by omega)] at oI;exact oI,h3⟩
theorem ym {w:World} {d:List UInt8} {es:List bZ} {ev:Value} (hd:d.length=32) (hv:cC i7 es ev w) (hs:∀u∈es,KG u) (hw:∀u∈es,A6 u) (hlen:(fc (cp d) (es.filter bQ)).length≤1073741824) (hn:es.length≤1073741824):
 Calls Tryz.prog 17 #[.agg (d.map U8).toArray,ev] w (bE fun r w'=>aK w w'∧∃bv vv mv,r=.tuple #[bv,vv,mv]∧cJ (fc (cp d) (es.filter bQ)) bv w'∧cC i7 (es.filter bQ) vv w'∧KN (iq d (es.filter bQ)) mv w'):=
 bE.mono (tN hd hv hs hw hlen hn) fun r w' ⟨e,_,bv,vv,mv,_,h1,h2,h3,h4,_⟩=>⟨e,bv,vv,mv,h1,h2.bts,h3.ds cw (by omega),h4.its⟩
end Go.Rl
namespace Go.Rl
open Go.RowKit Go.Proofs
theorem jl:aG Tryz.prog 12:=⟨_,Tryz.func12,by kernel_rfl,rfl⟩
def A2:Prop:=∀{w:World},Ae w→Calls Tryz.prog 12 #[] w (bE fun r w'=>aK w w'∧r=B true)
end Go.Rl
namespace Go.Rl
open Go.RowKit
theorem sO {α:Type} {f:α→Dt} {e:α→List UInt8} {k:α→Nat} (l:List α) (h:∀a∈l,(e a).length≤4*(f a).bulk+k a):(l.flatMap e).length≤4*Dt.bulkAll (l.map f)+(l.map k).sum:=by
 induction l with
 |nil=>simp
 |cons a l ih=>
  have h1:=h a (by simp)
  have h2:=ih fun x hx=>h x (by simp[hx])
  simp only[List.flatMap_cons,List.length_append,List.map_cons,List.sum_cons,Dt.bulkAll]
  omega
theorem zG {α:Type} (l:List α) (c:Nat):(l.map fun _=>c).sum=c*l.length:=by
 induction l with
 |nil=>simp
 |cons a l ih=>simp only[List.map_cons,List.sum_cons,List.length_cons,ih,Nat.mul_add];omega
theorem I5 {m:cg} (hb:(bP m).bulk≤1048576) (hw:LM m):(fp m).length≤4*(bP m).bulk+21:=by
 rw[i5] at hb⊢
 have:=gz hw.1;have:=gz hw.2.1;have:=gz hw.2.2.1;have:=gz hw.2.2.2
 have:=qv (q:=m.co) (by omega) (by omega)
 simp only[fp,List.length_append];omega
theorem Kc {m:bU} (hb:(dC m).bulk≤1048576) (hw:wD m):(fS m).length≤4*(dC m).bulk+21:=by
 rw[tA] at hb⊢
 have:=gz hw.1;have:=gz hw.2
 have:=qv (q:=m.at_) (by omega) (by omega)
 simp only[fS,List.length_append];omega
theorem pR {α:Type} {f:α→Dt} {l:List α} {a:α} (h:a∈l):(f a).bulk≤Dt.bulkAll (l.map f):=by
 induction l with
 |nil=>cases h
 |cons b l ih=>
  simp only[List.map_cons,Dt.bulkAll]
  rcases List.mem_cons.1 h with rfl|h
  ·omega
  ·have:=ih h;omega
theorem Fh {l:List cg} (hb:Dt.bulkAll (l.map bP)≤1048576) (hw:wP l):(ji l).length≤4*Dt.bulkAll (l.map bP)+21*l.length+10:=by
 have h1:=ew (l.map bP)
 rw[List.length_map] at h1
 have h2:=f8 (n:=l.length) (by omega)
 have h3:=sO (f:=bP) (e:=fp) (k:=fun _=>21) l fun a ha=>I5 (Nat.le_trans (pR ha) hb) (hw a ha)
 rw[zG] at h3
 simp only[ji,List.length_append];omega
theorem I6 {m:dN} (hb:(dc m).bulk≤1048576) (hw:Ie m):(ei m).length≤4*(dc m).bulk+(10+21*m.pf.length):=by
 rw[jX] at hb⊢
 have:=gz hw.1
 have:=qv (q:=m.va) (by omega) (by omega)
 have:=Fh (l:=m.pf) (by omega) hw.2
 have hbit:(wZ m.up).length=1:=by cases m.up<;>rfl
 simp only[ei,List.length_append,hbit];omega
theorem Kd {l:List dN}:(l.map fun m=>10+21*m.pf.length).sum=10*l.length+21*zA l:=by
 unfold zA
 induction l with
 |nil=>rfl
 |cons a l ih=>simp only[List.map_cons,List.sum_cons,List.length_cons,ih];omega
theorem A3 (u:bZ):(i7 u).bulk=Dt.bulkAll (u.path.map dC)+(bG u.leaf).bulk+2:=by
 simp only[i7,Dt.bulk,Dt.bulkAll];omega
theorem CF {u:bZ} (hb:(i7 u).bulk≤1048576) (hw:A6 u) (h0:u.leaf.kids.length=0):(cy u).length≤4*(i7 u).bulk+21*tK u+31:=by
 rw[A3] at hb⊢
 obtain⟨wl,wd,wp,_⟩:=(ur u.leaf).1 hw.2
 have hbn:=uB u.leaf
 have hen:=na u.leaf
 rw[if_pos h0] at hen
 have hp:=Fh (l:=u.leaf.pf) (by omega) wp
 have h1:=ew (u.path.map dC)
 rw[List.length_map] at h1
 have h2:=ew (u.leaf.lems.map dc)
 rw[List.length_map] at h2
 have u1:=f8 (n:=u.path.length) (by omega)
 have u2:=f8 (n:=u.leaf.lems.length) (by omega)
 have h3:=sO (f:=dC) (e:=fS) (k:=fun _=>21) u.path fun a ha=>Kc (Nat.le_trans (pR ha) (by omega)) (hw.1 a ha)
 rw[zG] at h3
 have h4:=sO (f:=dc) (e:=ei) (k:=fun m=>10+21*m.pf.length) u.leaf.lems fun a ha=>I6 (Nat.le_trans (pR ha) (by omega)) (wl a ha)
 rw[Kd] at h4
 have hz:tK u=1+u.path.length+u.leaf.lems.length+u.leaf.pf.length+u.leaf.kids.length+zA u.leaf.lems:=rfl
 unfold cy
 rw[hen]
 simp only[eJ,List.length_append,pB]
 omega
theorem I7 (u:bZ):1≤tK u:=by unfold tK;omega
theorem I8:∀(ws:List bZ) (b:List UInt8),(∀u∈ws,(i7 u).bulk≤1048576∧A6 u∧u.leaf.kids.length=0)→jH ws≤1048576→(fc b ws).length≤b.length+4*Dt.bulkAll (ws.map i7)+70*jH ws
 |[],b,_,_=>by
  show b.length≤_
  omega
 |u::ws,b,h,hz=>by
  obtain⟨h1,h2,h3⟩:=h u (by simp)
  have hz':jH (u::ws)=tK u+jH ws:=by simp[jH]
  have hp:=I7 u
  have he:=CF h1 h2 h3
  have ih:=I8 ws (jD b (cy u)) (fun x hx=>h x (by simp[hx])) (by omega)
  have hr:=tB b (cy u)
  have hu:=f8 (n:=(cy u).length) (by omega)
  have hB:(gY (cy u)).length=(uv (cy u).length).length+(cy u).length:=by unfold gY;rw[List.length_append]
  show(fc (jD b (cy u)) ws).length≤_
  simp only[List.map_cons,Dt.bulkAll]
  omega
theorem CG {u:bZ} (hb:(i7 u).bulk≤1048576) (hw:A6 u):KG u:=by
 rw[A3] at hb
 refine⟨fun m hm=>?_,(E4 _ (Nat.le_refl _) (n:=u.leaf) (by omega) hw.2).2.2⟩
 have h1:=pR (f:=dC) hm
 have h2:=tA m
 exact⟨by omega,by omega⟩
theorem I9 (l:List dN):l.length+zA l≤Dt.bulkAll (l.map dc):=by
 unfold zA
 induction l with
 |nil=>simp[Dt.bulkAll]
 |cons a l ih=>
  have h1:=jX a
  have h2:=ew (a.pf.map bP)
  rw[List.length_map] at h2
  simp only[List.map_cons,List.sum_cons,List.length_cons,Dt.bulkAll]
  omega
theorem zH (u:bZ):tK u≤(i7 u).bulk:=by
 rw[A3]
 have h1:=uB u.leaf
 have h2:=I9 u.leaf.lems
 have h3:=ew (u.path.map dC)
 have h4:=ew (u.leaf.pf.map bP)
 have h5:=ew (u.leaf.kids.map bG)
 rw[List.length_map] at h3 h4 h5
 unfold tK
 omega
theorem zI (es:List bZ):jH es≤Dt.bulkAll (es.map i7):=by
 have:=ng (f:=i7) (m:=tK) (c:=1) es fun a _=>by have:=zH a;omega
 unfold jH
 omega
theorem Ja {ws:List bZ} (h:∀u∈ws,bQ u=true∧A6 u∧(cy u).length<18446744073709551616):tC ws:=fun u hu=>
 ⟨IM (h u hu).1 (h u hu).2.1 (h u hu).2.2,(h u hu).2.2⟩
end Go.Rl

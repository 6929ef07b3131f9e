/- Part 5 of a proof: plain facts and walks of functions, merged by a program. Conditions: each lemma names its own. -/
import Derived.Test.YtpeidnhjcompmaaGreatDoorJf4
namespace Go.Rl
open Go.RowKit Go.Proofs
theorem ni:aH Tryz.prog 143:=⟨_,Tryz.func143,by kernel_rfl,rfl⟩
theorem zf:aH Tryz.prog 51:=⟨_,Tryz.func51,by kernel_rfl,rfl⟩
theorem zg:aH Tryz.prog 16:=⟨_,Tryz.func16,by kernel_rfl,rfl⟩
theorem nj {w:World} {a b:bz} {x y p q:Value} (ha:bi a.at_.2.1 x w) (ha':bi a.at_.2.2 y w) (hb:bi b.at_.2.1 p w) (hb':bi b.at_.2.2 q w):
 Calls Tryz.prog 143 #[.agg #[I a.kd,I a.ix,B a.at_.1,x,y],.agg #[I b.kd,I b.ix,B b.at_.1,p,q]] w (bH fun r w'=>aJ w w'∧r=B (decide (a=b))):=by
 refine enter (vs:=[.agg #[I a.kd,I a.ix,B a.at_.1,x,y],.agg #[I b.kd,I b.ix,B b.at_.1,p,q]]) Tryz.func143 E E E ?_
 refine af (aa ?_)
 obtain⟨g2,w2,hr2,l2,x2,k2⟩:=ca (P:=Tryz.prog) (w:=w) (T:=48) (cs:=[I a.kd,I a.ix,B a.at_.1,x,y])
 refine cm E E hr2 ?_
 obtain⟨g3,w3,hr3,l3,x3,k3⟩:=ca (P:=Tryz.prog) (w:=w2) (T:=48) (cs:=[I b.kd,I b.ix,B b.at_.1,p,q])
 refine cm E E hr3 (ac E E (ag (ab (af (aa (ah E E (ap (o:=0) KH E (by kernel_rfl) E) ?_))))))
 refine aj E E (ai KI E (x3.cell_some (k2.cell (i:=0) E))) (ah E E (ap (o:=0) KH E (by kernel_rfl) E) ?_)
 refine aj E E (ai KI E (k3.cell (i:=0) E)) (ak E E E (a6) (ae E E ?_))
 refine cq (fun h10=>?_) (fun h10=>?_)
 ·refine al E (ah E E (ap (o:=1) KH E (by kernel_rfl) E) (al E (aj E E (ai KI E (x3.cell_some (k2.cell (i:=1) E))) ?_)))
  refine al E (ah E E (ap (o:=1) KH E (by kernel_rfl) E) (al E (aj E E (ai KI E (k3.cell (i:=1) E)) ?_)))
  refine al E (ak E E E (a6) (ar E E E (ae E E ?_)))
  refine cq (fun h17=>?_) (fun h17=>?_)
  ·refine al E (ah E E (ap (o:=2) KH E (by kernel_rfl) E) (al E (ah E E (cx (b:=2) (o:=0) KJ E (by kernel_rfl) E) ?_)))
   refine al E (aj E E (ai KQ E (x3.cell_some (k2.cell (i:=2) E))) (al E (ah E E (ap (o:=2) KH E (by kernel_rfl) E) ?_)))
   refine al E (ah E E (cx (b:=2) (o:=0) KJ E (by kernel_rfl) E) (al E (aj E E (ai KQ E (k3.cell (i:=2) E)) ?_)))
   refine al E (ak E E E (tx KQ) (ar E E E (ae E E ?_)))
   refine cq (fun h26=>?_) (fun h26=>?_)
   ·refine al E (ah E E (ap (o:=2) KH E (by kernel_rfl) E) (al E (ah E E (cx (b:=2) (o:=1) KJ E (by kernel_rfl) E) ?_)))
    refine al E (aj E E (ai KE E (x3.cell_some (k2.cell (i:=3) E))) (al E (ah E E (ap (o:=2) KH E (by kernel_rfl) E) ?_)))
    refine al E (ah E E (cx (b:=2) (o:=1) KJ E (by kernel_rfl) E) (al E (aj E E (ai KE E (k3.cell (i:=3) E)) ?_)))
    refine al E (an qO E E (qP (ha.ext (x2.trans x3)) (hb.ext (x2.trans x3))) ?_)
    rintro v33 w33 ⟨x33,rfl⟩
    refine ar E E E (ae E E ?_)
    refine cq (fun h35=>?_) (fun h35=>?_)
    ·refine al E (ah E E (ap (o:=2) KH E (by kernel_rfl) E) (al E (ah E E (cx (b:=2) (o:=2) KJ E (by kernel_rfl) E) ?_)))
     refine al E (aj E E (ai KE E ((x3.trans x33).cell_some (k2.cell (i:=4) E))) (al E (ah E E (ap (o:=2) KH E (by kernel_rfl) E) ?_)))
     refine al E (ah E E (cx (b:=2) (o:=2) KJ E (by kernel_rfl) E) (al E (aj E E (ai KE E (x33.cell_some (k3.cell (i:=4) E))) ?_)))
     refine al E (an qO E E (qP (ha'.ext ((x2.trans x3).trans x33)) (hb'.ext ((x2.trans x3).trans x33))) ?_)
     rintro v42 w42 ⟨x42,rfl⟩
     refine ar E E E (ac E E (ag (ab (aw (av E E ?_)))))
     exact⟨_,rfl,(((x2.trans x3).trans x33).trans x42),by
      first
      |exact congrArg B (decide_eq_decide.2 ⟨fun h=>bz.ext' h10 h17 (Prod.ext h26 (Prod.ext h35 h)),fun h=>by rw[h]⟩)
      |exact congrArg B (decide_eq_false fun h=>h35 (by rw[h])).symm
      |exact congrArg B (decide_eq_false fun h=>h26 (by rw[h])).symm
      |exact congrArg B (decide_eq_false fun h=>h17 (by rw[h])).symm
      |exact congrArg B (decide_eq_false fun h=>h10 (by rw[h])).symm⟩
    ·refine am E E E (am E E E (am E E E (am E E E (am E E E (am E E E (am E E E (aI E E E (ac E E (ag ?_)))))))))
     refine ab (aw (av E E ?_))
     exact⟨_,rfl,((x2.trans x3).trans x33),by
      first
      |exact congrArg B (decide_eq_decide.2 ⟨fun h=>bz.ext' h10 h17 (Prod.ext h26 (Prod.ext h35 h)),fun h=>by rw[h]⟩)
      |exact congrArg B (decide_eq_false fun h=>h35 (by rw[h])).symm
      |exact congrArg B (decide_eq_false fun h=>h26 (by rw[h])).symm
      |exact congrArg B (decide_eq_false fun h=>h17 (by rw[h])).symm
      |exact congrArg B (decide_eq_false fun h=>h10 (by rw[h])).symm⟩
   ·refine am E E E (am E E E (am E E E (am E E E (am E E E (am E E E (am E E E (aI E E E (ae E E (am E E E ?_)))))))))
    refine am E E E (am E E E (am E E E (am E E E (am E E E (am E E E (aI E E E (ac E E (ag (ab (aw (av E E ?_)))))))))))
    exact⟨_,rfl,(x2.trans x3),by
     first
     |exact congrArg B (decide_eq_decide.2 ⟨fun h=>bz.ext' h10 h17 (Prod.ext h26 (Prod.ext h35 h)),fun h=>by rw[h]⟩)
     |exact congrArg B (decide_eq_false fun h=>h35 (by rw[h])).symm
     |exact congrArg B (decide_eq_false fun h=>h26 (by rw[h])).symm
     |exact congrArg B (decide_eq_false fun h=>h17 (by rw[h])).symm
     |exact congrArg B (decide_eq_false fun h=>h10 (by rw[h])).symm⟩
  ·refine am E E E (am E E E (am E E E (am E E E (am E E E (am E E E (am E E E (aI E E E (ae E E (am E E E ?_)))))))))
   refine am E E E (am E E E (am E E E (am E E E (am E E E (am E E E (aI E E E (ae E E (am E E E (am E E E ?_)))))))))
   refine am E E E (am E E E (am E E E (am E E E (am E E E (aI E E E (ac E E (ag (ab (aw (av E E ?_))))))))))
   exact⟨_,rfl,(x2.trans x3),by
    first
    |exact congrArg B (decide_eq_decide.2 ⟨fun h=>bz.ext' h10 h17 (Prod.ext h26 (Prod.ext h35 h)),fun h=>by rw[h]⟩)
    |exact congrArg B (decide_eq_false fun h=>h35 (by rw[h])).symm
    |exact congrArg B (decide_eq_false fun h=>h26 (by rw[h])).symm
    |exact congrArg B (decide_eq_false fun h=>h17 (by rw[h])).symm
    |exact congrArg B (decide_eq_false fun h=>h10 (by rw[h])).symm⟩
 ·refine am E E E (am E E E (am E E E (am E E E (am E E E (aI E E E (ae E E (am E E E (am E E E (am E E E ?_)))))))))
  refine am E E E (am E E E (am E E E (am E E E (aI E E E (ae E E (am E E E (am E E E (am E E E (am E E E ?_)))))))))
  refine am E E E (am E E E (am E E E (aI E E E (ae E E (am E E E (am E E E (am E E E (am E E E (am E E E ?_)))))))))
  refine am E E E (am E E E (aI E E E (ac E E (ag (ab (aw (av E E ?_)))))))
  exact⟨_,rfl,(x2.trans x3),by
   first
   |exact congrArg B (decide_eq_decide.2 ⟨fun h=>bz.ext' h10 h17 (Prod.ext h26 (Prod.ext h35 h)),fun h=>by rw[h]⟩)
   |exact congrArg B (decide_eq_false fun h=>h35 (by rw[h])).symm
   |exact congrArg B (decide_eq_false fun h=>h26 (by rw[h])).symm
   |exact congrArg B (decide_eq_false fun h=>h17 (by rw[h])).symm
   |exact congrArg B (decide_eq_false fun h=>h10 (by rw[h])).symm⟩
def xD (l:List er):Nat:=(l.map fun m=>m.pf.length).sum
def pc (u:cn):Nat:=1+u.path.length+u.leaf.lems.length+u.leaf.pf.length+u.leaf.kids.length+xD u.leaf.lems
theorem GR {l:List er} {i:Nat} (hi:i<l.length):xD (l.take (i+1))=xD (l.take i)+l[i].pf.length:=by
 have e:l.take (i+1)=l.take i++[l[i]]:=by rw[List.take_add_one,List.getElem?_eq_getElem hi];rfl
 unfold xD
 rw[e,List.map_append,List.sum_append]
 simp
theorem GS (l:List er) (i:Nat):xD (l.take i)≤xD l:=by
 have h:xD l=xD (l.take i)+xD (l.drop i):=by
  conv=>lhs;rw[←List.take_append_drop i l]
  unfold xD
  rw[List.map_append,List.sum_append]
 omega
theorem zh {w:World} {u:cn} {vd vl x y vk vp:Value} (hd:ct cQ u.path vd w) (hl:ct cP u.leaf.lems vl w) (_hx:bi u.leaf.split.at_.2.1 x w) (_hy:bi u.leaf.split.at_.2.2 y w) (hk:ct bm u.leaf.kids vk w) (hp:ct bI u.leaf.pf vp w) (hz:pc u≤4611686018427387904):
 Calls Tryz.prog 51 #[.agg #[vd,vl,I u.leaf.split.kd,I u.leaf.split.ix,B u.leaf.split.at_.1,x,y,vk,B u.leaf.empty,vp]] w (bH fun r w'=>aJ w w'∧r=I ((pc u:Nat):Int)):=by
 refine enter (vs:=[.agg #[vd,vl,I u.leaf.split.kd,I u.leaf.split.ix,B u.leaf.split.at_.1,x,y,vk,B u.leaf.empty,vp]]) Tryz.func51 E E E ?_
 have hzz:pc u=1+u.path.length+u.leaf.lems.length+u.leaf.pf.length+u.leaf.kids.length+xD u.leaf.lems:=rfl
 refine af (aa ?_)
 obtain⟨g1,w1,hr1,l1,x1,k1⟩:=ca (P:=Tryz.prog) (w:=w) (T:=54) (cs:=[vd,vl,I u.leaf.split.kd,I u.leaf.split.ix,B u.leaf.split.at_.1,x,y,vk,B u.leaf.empty,vp])
 refine cm E E hr1 (ac E E (ag (ab (af (aa (ah E E (ap (o:=0) KK E (by kernel_rfl) E) ?_))))))
 refine aj E E (ai KN E (k1.cell (i:=0) E)) (aS E E (a9 KN (hd.ext x1)) ?_)
 refine ak (r:=I ((1+u.path.length:Nat):Int)) E E E (by have e:((1+u.path.length:Nat):Int)=1+(u.path.length:Int):=(by omega);rw[e];exact aP (by omega) (by omega)) ?_
 refine ah E E (ap (o:=1) KK E (by kernel_rfl) E) (ah E E (cx (b:=1) (o:=0) KF E (by kernel_rfl) E) ?_)
 refine aj E E (ai KT E (k1.cell (i:=1) E)) (aS E E (a9 KT (hl.ext x1)) (ak (r:=I ((1+u.path.length+u.leaf.lems.length:Nat):Int)) E E E (by have e:((1+u.path.length+u.leaf.lems.length:Nat):Int)=((1+u.path.length:Nat):Int)+(u.leaf.lems.length:Int):=(by omega);rw[e];exact aP (by omega) (by omega)) ?_))
 refine ah E E (ap (o:=1) KK E (by kernel_rfl) E) (ah E E (cx (b:=1) (o:=8) KF E (by kernel_rfl) E) ?_)
 refine aj E E (ai KS E (k1.cell (i:=9) E)) (aS E E (a9 KS (hp.ext x1)) (ak (r:=I ((1+u.path.length+u.leaf.lems.length+u.leaf.pf.length:Nat):Int)) E E E (by have e:((1+u.path.length+u.leaf.lems.length+u.leaf.pf.length:Nat):Int)=((1+u.path.length+u.leaf.lems.length:Nat):Int)+(u.leaf.pf.length:Int):=(by omega);rw[e];exact aP (by omega) (by omega)) ?_))
 refine ah E E (ap (o:=1) KK E (by kernel_rfl) E) (ah E E (cx (b:=1) (o:=6) KF E (by kernel_rfl) E) ?_)
 refine aj E E (ai KO E (k1.cell (i:=7) E)) (aS E E (a9 KO (hk.ext x1)) (ak (r:=I ((1+u.path.length+u.leaf.lems.length+u.leaf.pf.length+u.leaf.kids.length:Nat):Int)) E E E (by have e:((1+u.path.length+u.leaf.lems.length+u.leaf.pf.length+u.leaf.kids.length:Nat):Int)=((1+u.path.length+u.leaf.lems.length+u.leaf.pf.length:Nat):Int)+(u.leaf.kids.length:Int):=(by omega);rw[e];exact aP (by omega) (by omega)) ?_))
 refine ac E E (ag (ab (af (af (aa (ac E E (ag (ab (aE ?_)))))))))
 refine bZ (α:=Nat) (fun i=>[(1,.pointer (some ⟨g1,0,none⟩)),(3,I ((1+u.path.length+u.leaf.lems.length+u.leaf.pf.length+u.leaf.kids.length+xD (u.leaf.lems.take i):Nat):Int)),(4,I (i:Int))]) (fun i w'=>aJ w w'∧aJ w1 w'∧i≤u.leaf.lems.length) (fun i=>u.leaf.lems.length-i) (0) ⟨rfl,rfl,rfl,trivial⟩ ⟨x1,aJ.refl _,by omega⟩ ?_
 rintro i wL ⟨eL,e1L,hi⟩
 refine af (af (aa (ae E E (ah E E (ap (o:=1) KK E (by kernel_rfl) E) (ah E E (cx (b:=1) (o:=0) KF E (by kernel_rfl) E) ?_)))))
 refine aj E E (ai KT E (e1L.cell_some (k1.cell (i:=1) E))) (aS E E (a9 KT (hl.ext eL)) ?_)
 refine ak E E E (bb) (ag (ab ?_))
 refine bt E (fun h29=>?_) (fun h29=>?_)
 ·refine aC (ab (af (aE ?_)))
  have hst:=GR (l:=u.leaf.lems) (i:=i) (by omega)
  have htk:=GS u.leaf.lems (i+1)
  refine aa (ae E E (ah E E (ap (o:=1) KK E (by kernel_rfl) E) (ah E E (cx (b:=1) (o:=0) KF E (by kernel_rfl) E) ?_)))
  refine aj E E (ai KT E (e1L.cell_some (k1.cell (i:=1) E))) (ae E E ?_)
  obtain⟨a37,c37,p37,q37,h37⟩:=bR (P:=Tryz.prog) (sz:=6) KT (by kernel_rfl) cV (by omega) (hl.ext eL) (i:=i) (by omega) .i64
  obtain⟨e37,he37⟩:∃e,e=u.leaf.lems[i]'(by omega):=⟨_,rfl⟩
  rw[←he37] at h37
  obtain⟨x37_0,x37_1,x37_2,rfl,f37_0,f37_1,f37_2⟩:=fk h37
  refine au E E E (p37 _) ?_
  rw[←he37] at hst
  refine ah E E (gr (o:=5) KV E (by kernel_rfl) E) (aj E E (ai KS E (q37.at (j:=5) E)) ?_)
  refine aS E E (a9 KS f37_2) (ak (r:=I ((1+u.path.length+u.leaf.lems.length+u.leaf.pf.length+u.leaf.kids.length+xD (u.leaf.lems.take (i+1)):Nat):Int)) E E E (by have e:((1+u.path.length+u.leaf.lems.length+u.leaf.pf.length+u.leaf.kids.length+xD (u.leaf.lems.take (i+1)):Nat):Int)=((1+u.path.length+u.leaf.lems.length+u.leaf.pf.length+u.leaf.kids.length+xD (u.leaf.lems.take i):Nat):Int)+(e37.pf.length:Int):=(by omega);rw[e];exact aP (by omega) (by omega)) ?_)
  refine ac E E (ag (aR (ab (aa (ae E E (ak (r:=I ((i+1:Nat):Int)) E E E (by have e:((i+1:Nat):Int)=(i:Int)+1:=(by omega);rw[e];exact aP (by omega) (by omega)) ?_))))))
  refine ac E E (ag ?_)
  refine bJ (i+1) ⟨rfl,rfl,rfl,trivial⟩ ⟨eL,e1L,by omega⟩ (by omega)
 ·refine be (aK (aK (bf (ab (af (aa (ae E E (ac E E (ag (ab (aw (av E E ?_))))))))))))
  exact⟨_,rfl,eL,by rw[List.take_of_length_le (by omega),←hzz]⟩
def ii (l:List cn):Nat:=(l.map pc).sum
theorem Ez {l:List cn} {i:Nat} (hi:i<l.length):ii (l.take (i+1))=ii (l.take i)+pc l[i]:=by
 have e:l.take (i+1)=l.take i++[l[i]]:=by rw[List.take_add_one,List.getElem?_eq_getElem hi];rfl
 unfold ii
 rw[e,List.map_append,List.sum_append]
 simp
theorem EA (l:List cn) (i:Nat):ii (l.take i)≤ii l:=by
 have h:ii l=ii (l.take i)+ii (l.drop i):=by
  conv=>lhs;rw[←List.take_append_drop i l]
  unfold ii
  rw[List.map_append,List.sum_append]
 omega
theorem zi {w:World} {es:List cn} {v:Value} (hv:ct mW es v w) (hz:ii es≤4611686018427387904):
 Calls Tryz.prog 16 #[v] w (bH fun r w'=>aJ w w'∧r=B (decide (ii es≤120))):=by
 refine enter (vs:=[v]) Tryz.func16 E E E ?_
 have hll:=hv.len
 refine af (aa (ac E E (ag (ab (af (aa (ac E E (ag (ab (af (af (aa (ac E E (ag (ab (aE ?_))))))))))))))))
 refine bZ (α:=Nat) (fun i=>[(0,v),(3,I ((ii (es.take i):Nat):Int)),(4,I (i:Int))]) (fun i w'=>aJ w w'∧i≤es.length) (fun i=>es.length-i) (0) ⟨rfl,rfl,rfl,trivial⟩ ⟨aJ.refl _,by omega⟩ ?_
 rintro i wL ⟨eL,hi⟩
 refine af (af (aa (ae E E (ae E E (aS E E (a9 K3 (hv.ext eL)) (ak E E E (bb) (ag (ab ?_))))))))
 refine bt E (fun h8=>?_) (fun h8=>?_)
 ·refine aC (ab (af (aE ?_)))
  have hst:=Ez (l:=es) (i:=i) (by omega)
  have htk:=EA es (i+1)
  refine aa (ae E E (ae E E (ae E E ?_)))
  obtain⟨a14,c14,p14,q14,h14⟩:=bR (P:=Tryz.prog) (sz:=10) K3 (by kernel_rfl) dN (by omega) (hv.ext eL) (i:=i) (by omega) .i64
  obtain⟨e14,he14⟩:∃e,e=es[i]'(by omega):=⟨_,rfl⟩
  rw[←he14] at h14
  obtain⟨x14_0,x14_1,x14_2,x14_3,x14_4,x14_5,rfl,f14_0,f14_1,f14_2,f14_3,f14_4,f14_5⟩:=iZ h14
  refine au E E E (p14 _) ?_
  rw[←he14] at hst
  refine aj E E (q14.ld KK E (by kernel_rfl)) (an zf E E ((zh (u:=e14) f14_0 f14_1 f14_2 f14_3 f14_4 f14_5 (by omega))) ?_)
  rintro v16 w16 ⟨x16,rfl⟩
  refine ak (r:=I ((ii (es.take (i+1)):Nat):Int)) E E E (by have e:((ii (es.take (i+1)):Nat):Int)=((ii (es.take i):Nat):Int)+((pc e14:Nat):Int):=(by omega);rw[e];exact aP (by omega) (by omega)) ?_
  refine ac E E (ag (aR (ab (aa (ae E E (ak (r:=I ((i+1:Nat):Int)) E E E (by have e:((i+1:Nat):Int)=(i:Int)+1:=(by omega);rw[e];exact aP (by omega) (by omega)) ?_))))))
  refine ac E E (ag ?_)
  refine bJ (i+1) ⟨rfl,rfl,rfl,trivial⟩ ⟨(eL.trans x16),by omega⟩ (by omega)
 ·refine be (aK (aK (bf (ab (af (aa (ae E E (ak E E E (Ch) (ac E E (ag (ab (aw (av E E ?_)))))))))))))
  exact⟨_,rfl,eL,by
   rw[List.take_of_length_le (by omega)]
   exact congrArg B (decide_eq_decide.2 (by omega))⟩
end Go.Rl
namespace Go.Rl
open Go.RowKit Go.Proofs
theorem qa:aH Tryz.prog 108:=⟨_,Tryz.func108,by kernel_rfl,rfl⟩
structure lP (w0 w:World) (g:Nat) (ids:List Nat) (s:bz) (a b:JT) (x y:Value) (g1 g2:Nat) (i1 i2:List Nat) (w':World):Prop where
 mv:Mv (fun k=>k=g) w w'
 hx:bi s.at_.2.1 x w0
 hy:bi s.at_.2.2 y w0
 blk:bA g 114 (iS s x y (kX g1) (kX g2) dY) w'
 k1:jp w0 w' g1 a i1
 k2:jp w0 w' g2 b i2
 n1:g∉i1
 n2:g∉i2
 n3:∀k∈i1,k∉i2
 fresh:∀k,k∈i1∨k∈i2→k∈ids∨w.heap.size≤k
 young:w0.heap.size≤g
theorem lP.ext {w0 w w' w'':World} {g:Nat} {ids:List Nat} {s:bz} {a b:JT} {x y:Value} {g1 g2:Nat} {i1 i2:List Nat} (h:lP w0 w g ids s a b x y g1 g2 i1 i2 w') (e:aJ w' w''):lP w0 w g ids s a b x y g1 g2 i1 i2 w'':=
 ⟨h.mv.trans (Mv.of_ext (X:=fun k=>k=g) e) fun _ hk _=>hk,h.hx,h.hy,h.blk.ext e,h.k1.mv (Mv.of_ext (X:=fun _=>False) e) (fun _ _ h=>h),h.k2.mv (Mv.of_ext (X:=fun _=>False) e) (fun _ _ h=>h),h.n1,h.n2,h.n3,h.fresh,h.young⟩
def Kz (w0 w:World) (g:Nat) (d:bz) (t:JT) (ids:List Nat) (r:Value) (w':World):Prop:=
 (∃n,t=.leaf n∧aJ w w'∧r=.tuple #[dY,B false])∨
 ∃s a b x y g1 g2 i1 i2,pj d t=.split s a b∧lP w0 w g ids s a b x y g1 g2 i1 i2 w'∧r=if s=d then .tuple #[kX g1,B true] else if bT s=d then .tuple #[kX g2,B true] else .tuple #[dY,B false]
theorem zj {w0 w:World} {g:Nat} {ids:List Nat} (h:jp w0 w g .gap ids):ids=[g]∧bA g 114 (iS kI (.slice none 0 0) (.slice none 0 0) dY dY dY) w:=h.at_
theorem tH {w0 w:World} {g:Nat} {ids:List Nat} {n:aV} (h:jp w0 w g (.leaf n) ids):∃k cs,ids=[g,k]∧bA g 114 (iS kI (.slice none 0 0) (.slice none 0 0) dY dY (kX k)) w∧bA k 52 cs w∧Rp w0 (bm n) cs:=h.at_
theorem jp.root {w0 w:World} {g:Nat} {t:JT} {ids:List Nat} (h:jp w0 w g t ids):g∈ids:=by
 cases t with
 |gap=>rw[(zj h).1];simp
 |leaf n=>obtain⟨_,_,h1,_⟩:=tH h;rw[h1];simp
 |split s a b=>obtain⟨_,_,_,_,_,_,h1,_⟩:=h.split_inv;rw[h1];simp
theorem JT.shape (t:JT):t=.gap∨(∃n,t=.leaf n)∨∃s a b,t=.split s a b:=by
 cases t with
 |gap=>exact .inl rfl
 |leaf n=>exact .inr (.inl ⟨n,rfl⟩)
 |split s a b=>exact .inr (.inr ⟨s,a,b,rfl⟩)
theorem EB {w:World} {d:bz} {p q:Value} {k i:Int} (hp:bi d.at_.2.1 p w) (hq:bi d.at_.2.2 q w):ao [I k,I i,B d.at_.1,p,q]:=ao.cons rfl (ao.cons rfl (ao.cons rfl (ao.cons hp.one (ao.cons hq.one ao.nil))))
theorem qc {w0 w:World} {g:Nat} {t:JT} {ids:List Nat} {d:bz} {p q:Value} (e0:aJ w0 w) (ho:zp w0) (hJ:jp w0 w g t ids) (hp:bi d.at_.2.1 p w0) (hq:bi d.at_.2.2 q w0):
 Calls Tryz.prog 108 #[.pointer (some ⟨g,0,none⟩),.agg #[I d.kd,I d.ix,B d.at_.1,p,q]] w (bH fun r w'=>Kz w0 w g d t ids r w'):=by
 have hg:w0.heap.size≤g:=hJ.young g hJ.root
 have hgl:g<w.heap.size:=hJ.lt g hJ.root
 refine enter (vs:=[.pointer (some ⟨g,0,none⟩),.agg #[I d.kd,I d.ix,B d.at_.1,p,q]]) Tryz.func108 E E E ?_
 refine af (aa ?_)
 obtain⟨g3,w3,hr3,l3,x3,k3⟩:=ca (P:=Tryz.prog) (w:=w) (T:=48) (cs:=[I d.kd,I d.ix,B d.at_.1,p,q])
 refine cm E E hr3 (ac E E (ac E E (ag (ab (af (af ?_))))))
 have hg3:g≠g3:=by omega
 have hJ2:=hJ
 rcases t.shape with ht|⟨n,ht⟩|⟨s,a,b,ht⟩
 ·rw[ht] at hJ2
  obtain⟨hid,kg⟩:=zj hJ2
  have kg3:=kg.ext x3
  refine aa (ae E E (aq E E (ah E E (ap (o:=7) KW E (by kernel_rfl) E) (aj E E (ai K8 E (kg3.cell (i:=7) E)) ?_))))
  refine ak E E E (gx K8) (ag (ab (cy E (aC (ab (af ?_))))))
  refine ei (fun(x:bz×JT×JT×Value×Value×Nat×Nat×List Nat×List Nat)=>[(0,.pointer (some ⟨g,0,none⟩)),(3,.pointer (some ⟨g3,0,none⟩))]) (fun x w'=>pj d t=.split x.1 x.2.1 x.2.2.1∧lP w0 w g ids x.1 x.2.1 x.2.2.1 x.2.2.2.1 x.2.2.2.2.1 x.2.2.2.2.2.1 x.2.2.2.2.2.2.1 x.2.2.2.2.2.2.2.1 x.2.2.2.2.2.2.2.2 w'∧bA g3 48 [I d.kd,I d.ix,B d.at_.1,p,q] w'∧aJ w0 w') ?_ ?_
  ·refine af (aa (ae E E (aq E E (ah E E (ap (o:=5) KW E (by kernel_rfl) E) ?_))))
   refine au E E E (gq Lc (by kernel_rfl) (i:=0) (by omega) .i64) ?_
   refine aj E E (ai K0 E (kg3.cell (i:=5) E)) (ak E E E (fP K0) (ag ?_))
   refine ab (bg E (af (aa (ae E E (aj E E (k3.ld KH E (by kernel_rfl)) (aq E E (ah E E (ap (o:=0) KW E (by kernel_rfl) E) ?_)))))))
   obtain⟨w4,s4,q4,k4⟩:=bA.stO (P:=Tryz.prog) (t:=48) (m:=[I d.kd,I d.ix,B d.at_.1,p,q]) kg3 0 (by show 0+5≤8;omega) (by kernel_rfl) (EB hp hq)
   refine ax E E s4 ?_
   have y4:=aJ.of_new (e0.trans x3) q4 hg
   have m4:=(Mv.of_ext (X:=fun k=>k=g) x3).trans (Mv.of_grown (X:=fun k=>k=g) q4 fun k hk _=>(Option.some.inj hk).symm) fun _ hk _=>hk
   have k3b:=k3.other q4 (fun e=>hg3 (Option.some.inj e).symm)
   refine ag (ab (af (af (aa (ah E E (ap (o:=0) KH E (by kernel_rfl) E) (aj E E (ai KI E (k3b.cell (i:=0) E)) ?_))))))
   refine ak E E E (a6) (ae E E ?_)
   refine cq (fun h24=>?_) (fun h24=>?_)
   ·refine am E E E (am E E E (am E E E (ar E E E (ag (ab (bg E (aa (ae E E (aj E E (k3b.ld KH E (by kernel_rfl)) ?_)))))))))
    refine an iQ E E ((iR (ho.ext y4) (hp.ext y4) (hq.ext y4))) ?_
    rintro v31 w31 ⟨x31,rfl⟩
    refine aq E E (ah E E (ap (o:=0) KW E (by kernel_rfl) E) ?_)
    obtain⟨w6,s6,q6,k6⟩:=bA.stO (P:=Tryz.prog) (t:=48) (m:=[I (bT d).kd,I (bT d).ix,B (bT d).at_.1,p,q]) (k4.ext x31) 0 (by show 0+5≤8;omega) (by kernel_rfl) (EB hp hq)
    refine ax E E s6 ?_
    have y6:=aJ.of_new (y4.trans x31) q6 hg
    have m6:=(m4.trans (Mv.of_ext (X:=fun k=>k=g) x31) fun _ hk _=>hk).trans (Mv.of_grown (X:=fun k=>k=g) q6 fun k hk _=>(Option.some.inj hk).symm) fun _ hk _=>hk
    have k3c:=(k3b.ext x31).other q6 (fun e=>hg3 (Option.some.inj e).symm)
    have hn:m0 d=bT d:=if_pos (by first|exact .inl h24|exact .inr h28)
    have kS:bA g 114 (iS (m0 d) p q dY dY dY) w6:=by rw[hn];exact k6
    refine ag (ab (aa (ae E E (bj (vs:=[]) (r:=.agg #[I 0,I 0,B false,.slice none 0 0,.slice none 0 0,.pointer none,.pointer none,.pointer none]) E E (by exact run_build _ _ _ _ (by kernel_rfl)) ?_))))
    obtain⟨g36,w36,hr36,l36,x36,k36⟩:=ca (P:=Tryz.prog) (w:=w6) (T:=114) (cs:=[I 0,I 0,B false,.slice none 0 0,.slice none 0 0,.pointer none,.pointer none,.pointer none])
    refine cm E E hr36 (bj (vs:=[]) (r:=.agg #[I 0,I 0,B false,.slice none 0 0,.slice none 0 0,.pointer none,.pointer none,.pointer none]) E E (by exact run_build _ _ _ _ (by kernel_rfl)) ?_)
    obtain⟨g38,w38,hr38,l38,x38,k38⟩:=ca (P:=Tryz.prog) (w:=w36) (T:=114) (cs:=[I 0,I 0,B false,.slice none 0 0,.slice none 0 0,.pointer none,.pointer none,.pointer none])
    refine cm E E hr38 ?_
    refine bj (vs:=[(0,.pointer (some ⟨g36,0,none⟩)),(1,.pointer (some ⟨g38,0,none⟩))]) (r:=.agg #[.pointer (some ⟨g36,0,none⟩),.pointer (some ⟨g38,0,none⟩)]) E E (run_build _ _ _ #[.pointer (some ⟨g36,0,none⟩),.pointer (some ⟨g38,0,none⟩)] (by kernel_rfl)) ?_
    refine aq E E (ah E E (ap (o:=5) KW E (by kernel_rfl) E) ?_)
    obtain⟨w7,s7,q7,k7⟩:=bA.stO (P:=Tryz.prog) (t:=111) (m:=[.pointer (some ⟨g36,0,none⟩),.pointer (some ⟨g38,0,none⟩)]) (kS.ext (x36.trans x38)) 5 (by show 5+2≤8;omega) (by kernel_rfl) (ao.cons rfl (ao.cons rfl ao.nil))
    refine ax E E s7 ?_
    have y7:=aJ.of_new (y6.trans (x36.trans x38)) q7 hg
    have m7:=(m6.trans (Mv.of_ext (X:=fun k=>k=g) (x36.trans x38)) fun _ hk _=>hk).trans (Mv.of_grown (X:=fun k=>k=g) q7 fun k hk _=>(Option.some.inj hk).symm) fun _ hk _=>hk
    have sz6:=m6.size
    have sz0:=e0.size
    have lt36:=k36.lt
    have G1:w0.heap.size≤g36:=by omega
    have G2:w0.heap.size≤g38:=by omega
    have N1:g∉[g36]:=by simp;omega
    have N2:g∉[g38]:=by simp;omega
    have N3:∀k∈[g36],k∉[g38]:=by simp;omega
    have FR:∀k,k∈[g36]∨k∈[g38]→k∈ids∨w.heap.size≤k:=fun k hk=>.inr (by simp at hk;omega)
    have k3d:=(k3c.ext (x36.trans x38)).other q7 (fun e=>hg3 (Option.some.inj e).symm)
    have k36b:=(k36.ext x38).other q7 (fun e=>by have:=Option.some.inj e;omega)
    have k38b:=k38.other q7 (fun e=>by have:=Option.some.inj e;omega)
    refine ag ?_
    exact bP (m0 d,.gap,.gap,p,q,g36,g38,[g36],[g38]) ⟨rfl,rfl,trivial⟩ ⟨by rw[ht];rfl,⟨m7,by rw[hn];exact hp,by rw[hn];exact hq,k7,jp.gap k36b G1,jp.gap k38b G2,N1,N2,N3,FR,hg⟩,k3d,y7⟩
   ·refine al E (ah E E (ap (o:=0) KH E (by kernel_rfl) E) (al E (aj E E (ai KI E (k3b.cell (i:=0) E)) ?_)))
    refine al E (ak E E E (a6) (aI E E E (ag (ab ?_))))
    refine bt E (fun h28=>?_) (fun h28=>?_)
    ·refine aa (ae E E (aj E E (k3b.ld KH E (by kernel_rfl)) (an iQ E E ((iR (ho.ext y4) (hp.ext y4) (hq.ext y4))) ?_)))
     rintro v31 w31 ⟨x31,rfl⟩
     refine aq E E (ah E E (ap (o:=0) KW E (by kernel_rfl) E) ?_)
     obtain⟨w6,s6,q6,k6⟩:=bA.stO (P:=Tryz.prog) (t:=48) (m:=[I (bT d).kd,I (bT d).ix,B (bT d).at_.1,p,q]) (k4.ext x31) 0 (by show 0+5≤8;omega) (by kernel_rfl) (EB hp hq)
     refine ax E E s6 ?_
     have y6:=aJ.of_new (y4.trans x31) q6 hg
     have m6:=(m4.trans (Mv.of_ext (X:=fun k=>k=g) x31) fun _ hk _=>hk).trans (Mv.of_grown (X:=fun k=>k=g) q6 fun k hk _=>(Option.some.inj hk).symm) fun _ hk _=>hk
     have k3c:=(k3b.ext x31).other q6 (fun e=>hg3 (Option.some.inj e).symm)
     have hn:m0 d=bT d:=if_pos (by first|exact .inl h24|exact .inr h28)
     have kS:bA g 114 (iS (m0 d) p q dY dY dY) w6:=by rw[hn];exact k6
     refine ag (ab (aa (ae E E (bj (vs:=[]) (r:=.agg #[I 0,I 0,B false,.slice none 0 0,.slice none 0 0,.pointer none,.pointer none,.pointer none]) E E (by exact run_build _ _ _ _ (by kernel_rfl)) ?_))))
     obtain⟨g36,w36,hr36,l36,x36,k36⟩:=ca (P:=Tryz.prog) (w:=w6) (T:=114) (cs:=[I 0,I 0,B false,.slice none 0 0,.slice none 0 0,.pointer none,.pointer none,.pointer none])
     refine cm E E hr36 (bj (vs:=[]) (r:=.agg #[I 0,I 0,B false,.slice none 0 0,.slice none 0 0,.pointer none,.pointer none,.pointer none]) E E (by exact run_build _ _ _ _ (by kernel_rfl)) ?_)
     obtain⟨g38,w38,hr38,l38,x38,k38⟩:=ca (P:=Tryz.prog) (w:=w36) (T:=114) (cs:=[I 0,I 0,B false,.slice none 0 0,.slice none 0 0,.pointer none,.pointer none,.pointer none])
     refine cm E E hr38 ?_
     refine bj (vs:=[(0,.pointer (some ⟨g36,0,none⟩)),(1,.pointer (some ⟨g38,0,none⟩))]) (r:=.agg #[.pointer (some ⟨g36,0,none⟩),.pointer (some ⟨g38,0,none⟩)]) E E (run_build _ _ _ #[.pointer (some ⟨g36,0,none⟩),.pointer (some ⟨g38,0,none⟩)] (by kernel_rfl)) ?_
     refine aq E E (ah E E (ap (o:=5) KW E (by kernel_rfl) E) ?_)
     obtain⟨w7,s7,q7,k7⟩:=bA.stO (P:=Tryz.prog) (t:=111) (m:=[.pointer (some ⟨g36,0,none⟩),.pointer (some ⟨g38,0,none⟩)]) (kS.ext (x36.trans x38)) 5 (by show 5+2≤8;omega) (by kernel_rfl) (ao.cons rfl (ao.cons rfl ao.nil))
     refine ax E E s7 ?_
     have y7:=aJ.of_new (y6.trans (x36.trans x38)) q7 hg
     have m7:=(m6.trans (Mv.of_ext (X:=fun k=>k=g) (x36.trans x38)) fun _ hk _=>hk).trans (Mv.of_grown (X:=fun k=>k=g) q7 fun k hk _=>(Option.some.inj hk).symm) fun _ hk _=>hk
     have sz6:=m6.size
     have sz0:=e0.size
     have lt36:=k36.lt
     have G1:w0.heap.size≤g36:=by omega
     have G2:w0.heap.size≤g38:=by omega
     have N1:g∉[g36]:=by simp;omega
     have N2:g∉[g38]:=by simp;omega
     have N3:∀k∈[g36],k∉[g38]:=by simp;omega
     have FR:∀k,k∈[g36]∨k∈[g38]→k∈ids∨w.heap.size≤k:=fun k hk=>.inr (by simp at hk;omega)
     have k3d:=(k3c.ext (x36.trans x38)).other q7 (fun e=>hg3 (Option.some.inj e).symm)
     have k36b:=(k36.ext x38).other q7 (fun e=>by have:=Option.some.inj e;omega)
     have k38b:=k38.other q7 (fun e=>by have:=Option.some.inj e;omega)
     refine ag ?_
     exact bP (m0 d,.gap,.gap,p,q,g36,g38,[g36],[g38]) ⟨rfl,rfl,trivial⟩ ⟨by rw[ht];rfl,⟨m7,by rw[hn];exact hp,by rw[hn];exact hq,k7,jp.gap k36b G1,jp.gap k38b G2,N1,N2,N3,FR,hg⟩,k3d,y7⟩
    ·have hn:m0 d=d:=if_neg (by rintro(h|h);exact h24 h;exact h28 h)
     have kS:bA g 114 (iS (m0 d) p q dY dY dY) w4:=by rw[hn];exact k4
     have y6:=y4
     have m6:=m4
     have k3c:=k3b
     refine aC (ab (aa (ae E E (bj (vs:=[]) (r:=.agg #[I 0,I 0,B false,.slice none 0 0,.slice none 0 0,.pointer none,.pointer none,.pointer none]) E E (by exact run_build _ _ _ _ (by kernel_rfl)) ?_))))
     obtain⟨g36,w36,hr36,l36,x36,k36⟩:=ca (P:=Tryz.prog) (w:=w4) (T:=114) (cs:=[I 0,I 0,B false,.slice none 0 0,.slice none 0 0,.pointer none,.pointer none,.pointer none])
     refine cm E E hr36 (bj (vs:=[]) (r:=.agg #[I 0,I 0,B false,.slice none 0 0,.slice none 0 0,.pointer none,.pointer none,.pointer none]) E E (by exact run_build _ _ _ _ (by kernel_rfl)) ?_)
     obtain⟨g38,w38,hr38,l38,x38,k38⟩:=ca (P:=Tryz.prog) (w:=w36) (T:=114) (cs:=[I 0,I 0,B false,.slice none 0 0,.slice none 0 0,.pointer none,.pointer none,.pointer none])
     refine cm E E hr38 ?_
     refine bj (vs:=[(0,.pointer (some ⟨g36,0,none⟩)),(1,.pointer (some ⟨g38,0,none⟩))]) (r:=.agg #[.pointer (some ⟨g36,0,none⟩),.pointer (some ⟨g38,0,none⟩)]) E E (run_build _ _ _ #[.pointer (some ⟨g36,0,none⟩),.pointer (some ⟨g38,0,none⟩)] (by kernel_rfl)) ?_
     refine aq E E (ah E E (ap (o:=5) KW E (by kernel_rfl) E) ?_)
     obtain⟨w7,s7,q7,k7⟩:=bA.stO (P:=Tryz.prog) (t:=111) (m:=[.pointer (some ⟨g36,0,none⟩),.pointer (some ⟨g38,0,none⟩)]) (kS.ext (x36.trans x38)) 5 (by show 5+2≤8;omega) (by kernel_rfl) (ao.cons rfl (ao.cons rfl ao.nil))
     refine ax E E s7 ?_
     have y7:=aJ.of_new (y6.trans (x36.trans x38)) q7 hg
     have m7:=(m6.trans (Mv.of_ext (X:=fun k=>k=g) (x36.trans x38)) fun _ hk _=>hk).trans (Mv.of_grown (X:=fun k=>k=g) q7 fun k hk _=>(Option.some.inj hk).symm) fun _ hk _=>hk
     have sz6:=m6.size
     have sz0:=e0.size
     have lt36:=k36.lt
     have G1:w0.heap.size≤g36:=by omega
     have G2:w0.heap.size≤g38:=by omega
     have N1:g∉[g36]:=by simp;omega
     have N2:g∉[g38]:=by simp;omega
     have N3:∀k∈[g36],k∉[g38]:=by simp;omega
     have FR:∀k,k∈[g36]∨k∈[g38]→k∈ids∨w.heap.size≤k:=fun k hk=>.inr (by simp at hk;omega)
     have k3d:=(k3c.ext (x36.trans x38)).other q7 (fun e=>hg3 (Option.some.inj e).symm)
     have k36b:=(k36.ext x38).other q7 (fun e=>by have:=Option.some.inj e;omega)
     have k38b:=k38.other q7 (fun e=>by have:=Option.some.inj e;omega)
     refine ag ?_
     exact bP (m0 d,.gap,.gap,p,q,g36,g38,[g36],[g38]) ⟨rfl,rfl,trivial⟩ ⟨by rw[ht];rfl,⟨m7,by rw[hn];exact hp,by rw[hn];exact hq,k7,jp.gap k36b G1,jp.gap k38b G2,N1,N2,N3,FR,hg⟩,k3d,y7⟩
  rintro⟨s,a,b,x,y,g1,g2,i1,i2⟩ wC ⟨hop,hM,k3C,eC⟩
  refine ab (af (aE (af ?_)))
  have hm0:=hM.mv
  dsimp only at hop hM k3C
  have kC:bA g 114 [I s.kd,I s.ix,B s.at_.1,x,y,.pointer (some ⟨g1,0,none⟩),.pointer (some ⟨g2,0,none⟩),.pointer none] wC:=hM.blk
  have sx:=hM.hx
  have sy:=hM.hy
  refine bD 6 [0,3,48] (by kernel_rfl) (by kernel_rfl) ?_
  refine ay rfl rfl (cN rfl rfl (aT rfl rfl (fun w hw=>ap (o:=0) Tryz.underlying114 rfl (by kernel_rfl) rfl) (aN rfl rfl (fun w hw=>(kC.ext hw).ldO (ms:=[I s.kd,I s.ix,B s.at_.1,x,y]) (o:=0) (fun j v hj=>by rcases j with _|_|_|_|_|_|_|_|_|j<;>simp_all) Tryz.underlying48 rfl (by kernel_rfl)) ?_)))
  refine aN rfl rfl (fun w hw=>(k3C.ext hw).ld KH rfl (by kernel_rfl)) (cd (S:=Is (B (decide (s=d)))) ni (bG.is _) rfl (fun w hw=>by rintro _ rfl _ rfl;exact bH.mono (nj (a:=s) (b:=d) ((sx.ext eC).ext hw) ((sy.ext eC).ext hw) ((hp.ext eC).ext hw) ((hq.ext eC).ext hw)) fun v w' h=>⟨h.1,h.2⟩) ?_)
  refine cb ?_
  intro wg8 xg8
  rintro _ rfl
  rintro _ rfl
  rintro _ rfl
  refine ac E E (ag (ab ?_))
  refine fc E (fun h42=>?_) (fun h42=>?_)
  ·refine af (aa (ae E E (aq E E (ah E E (ap (o:=5) KW E (by kernel_rfl) E) ?_))))
   refine au E E E (gq Lc (by kernel_rfl) (i:=0) (by omega) .i64) ?_
   refine aj E E (ai K0 E ((kC.ext xg8).cell (i:=5) E)) (ac E E (ac E E (ag (ab (aw (aY (aD ?_)))))))
   refine bn E E E ?_
   exact⟨_,rfl,.inr ⟨s,a,b,x,y,g1,g2,i1,i2,hop,hM.ext xg8,by rw[if_pos (of_decide_eq_true h42)];rfl⟩⟩
  ·refine af (bD 7 [0,61] (by kernel_rfl) (by kernel_rfl) ?_)
   refine ay rfl rfl (cN rfl rfl (aT rfl rfl (fun w hw=>ap (o:=0) Tryz.underlying114 rfl (by kernel_rfl) rfl) (aN rfl rfl (fun w hw=>((kC.ext xg8).ext hw).ldO (ms:=[I s.kd,I s.ix,B s.at_.1,x,y]) (o:=0) (fun j v hj=>by rcases j with _|_|_|_|_|_|_|_|_|j<;>simp_all) Tryz.underlying48 rfl (by kernel_rfl)) ?_)))
   refine cd (S:=Is (.agg #[I (bT s).kd,I (bT s).ix,B (bT s).at_.1,x,y])) iQ (bG.is _) rfl (fun w hw=>by rintro _ rfl;exact bH.mono (iR (d:=s) ((ho.ext (eC.trans xg8)).ext hw) ((sx.ext (eC.trans xg8)).ext hw) ((sy.ext (eC.trans xg8)).ext hw)) fun v w' h=>⟨h.1,h.2⟩) ?_
   refine aN rfl rfl (fun w hw=>((k3C.ext xg8).ext hw).ld KH rfl (by kernel_rfl)) (cd (S:=Is (B (decide (bT s=d)))) ni (bG.is _) rfl (fun w hw=>by rintro _ rfl _ rfl;exact bH.mono (nj (a:=bT s) (b:=d) ((sx.ext (eC.trans xg8)).ext hw) ((sy.ext (eC.trans xg8)).ext hw) ((hp.ext (eC.trans xg8)).ext hw) ((hq.ext (eC.trans xg8)).ext hw)) fun v w' h=>⟨h.1,h.2⟩) ?_)
   refine cb ?_
   intro wg10 xg10
   rintro _ rfl
   rintro _ rfl
   refine ac E E (ag (ab ?_))
   refine fc E (fun h54=>?_) (fun h54=>?_)
   ·refine af (aa (ae E E (aq E E (ah E E (ap (o:=5) KW E (by kernel_rfl) E) ?_))))
    refine au E E E (gq Lc (by kernel_rfl) (i:=1) (by omega) .i64) ?_
    refine aj E E (ai K0 E ((kC.ext (xg8.trans xg10)).cell (i:=6) E)) (ac E E (ac E E (ag (ab (aw ?_)))))
    refine aY (aD (bn E E E ?_))
    exact⟨_,rfl,.inr ⟨s,a,b,x,y,g1,g2,i1,i2,hop,hM.ext (xg8.trans xg10),by rw[if_neg (of_decide_eq_false h42),if_pos (of_decide_eq_true h54)];rfl⟩⟩
   ·refine aC (aR (ab (af (aa (ac E E (ac E E (ag (ab (aw (bn E E E ?_))))))))))
    exact⟨_,rfl,.inr ⟨s,a,b,x,y,g1,g2,i1,i2,hop,hM.ext (xg8.trans xg10),by rw[if_neg (of_decide_eq_false h42),if_neg (of_decide_eq_false h54)];rfl⟩⟩
 ·rw[ht] at hJ2
  obtain⟨gl,cl,hid,kg,kl,hrl⟩:=tH hJ2
  have kg3:=kg.ext x3
  refine aa (ae E E (aq E E (ah E E (ap (o:=7) KW E (by kernel_rfl) E) (aj E E (ai K8 E (kg3.cell (i:=7) E)) ?_))))
  refine ak E E E (gx K8) (ag (ab (bg E (af (aa (ac E E (ac E E (ag (ab (aw (aD (bn E E E ?_))))))))))))
  exact⟨_,rfl,.inl ⟨n,ht,x3,rfl⟩⟩
 ·obtain⟨x,y,g1,g2,i1,i2,hid,hx,hy,kg,j1,j2,_,n1,n2,n3⟩:=(show jp w0 w g (.split s a b) ids from ht▸hJ2).split_inv
  have kg3:=kg.ext x3
  refine aa (ae E E (aq E E (ah E E (ap (o:=7) KW E (by kernel_rfl) E) (aj E E (ai K8 E (kg3.cell (i:=7) E)) ?_))))
  refine ak E E E (gx K8) (ag (ab (cy E (aC (ab (af ?_))))))
  refine ei (fun(x:bz×JT×JT×Value×Value×Nat×Nat×List Nat×List Nat)=>[(0,.pointer (some ⟨g,0,none⟩)),(3,.pointer (some ⟨g3,0,none⟩))]) (fun x w'=>pj d t=.split x.1 x.2.1 x.2.2.1∧lP w0 w g ids x.1 x.2.1 x.2.2.1 x.2.2.2.1 x.2.2.2.2.1 x.2.2.2.2.2.1 x.2.2.2.2.2.2.1 x.2.2.2.2.2.2.2.1 x.2.2.2.2.2.2.2.2 w'∧bA g3 48 [I d.kd,I d.ix,B d.at_.1,p,q] w'∧aJ w0 w') ?_ ?_
  ·refine af (aa (ae E E (aq E E (ah E E (ap (o:=5) KW E (by kernel_rfl) E) ?_))))
   refine au E E E (gq Lc (by kernel_rfl) (i:=0) (by omega) .i64) ?_
   refine aj E E (ai K0 E (kg3.cell (i:=5) E)) (ak E E E (fP K0) (ag ?_))
   refine ab (cy E (aC ?_))
   exact bP (s,a,b,x,y,g1,g2,i1,i2) ⟨rfl,rfl,trivial⟩ ⟨by rw[ht];rfl,lP.ext ⟨Mv.refl _ _,hx,hy,kg,j1,j2,n1,n2,n3,fun k hk=>.inl (by rw[hid];simp only[List.mem_cons,List.mem_append];exact .inr hk),hg⟩ x3,k3,e0.trans x3⟩
  rintro⟨s,a,b,x,y,g1,g2,i1,i2⟩ wC ⟨hop,hM,k3C,eC⟩
  refine ab (af (aE (af ?_)))
  have hm0:=hM.mv
  dsimp only at hop hM k3C
  have kC:bA g 114 [I s.kd,I s.ix,B s.at_.1,x,y,.pointer (some ⟨g1,0,none⟩),.pointer (some ⟨g2,0,none⟩),.pointer none] wC:=hM.blk
  have sx:=hM.hx
  have sy:=hM.hy
  refine bD 6 [0,3,48] (by kernel_rfl) (by kernel_rfl) ?_
  refine ay rfl rfl (cN rfl rfl (aT rfl rfl (fun w hw=>ap (o:=0) Tryz.underlying114 rfl (by kernel_rfl) rfl) (aN rfl rfl (fun w hw=>(kC.ext hw).ldO (ms:=[I s.kd,I s.ix,B s.at_.1,x,y]) (o:=0) (fun j v hj=>by rcases j with _|_|_|_|_|_|_|_|_|j<;>simp_all) Tryz.underlying48 rfl (by kernel_rfl)) ?_)))
  refine aN rfl rfl (fun w hw=>(k3C.ext hw).ld KH rfl (by kernel_rfl)) (cd (S:=Is (B (decide (s=d)))) ni (bG.is _) rfl (fun w hw=>by rintro _ rfl _ rfl;exact bH.mono (nj (a:=s) (b:=d) ((sx.ext eC).ext hw) ((sy.ext eC).ext hw) ((hp.ext eC).ext hw) ((hq.ext eC).ext hw)) fun v w' h=>⟨h.1,h.2⟩) ?_)
  refine cb ?_
  intro wg8 xg8
  rintro _ rfl
  rintro _ rfl
  rintro _ rfl
  refine ac E E (ag (ab ?_))
  refine fc E (fun h42=>?_) (fun h42=>?_)
  ·refine af (aa (ae E E (aq E E (ah E E (ap (o:=5) KW E (by kernel_rfl) E) ?_))))
   refine au E E E (gq Lc (by kernel_rfl) (i:=0) (by omega) .i64) ?_
   refine aj E E (ai K0 E ((kC.ext xg8).cell (i:=5) E)) (ac E E (ac E E (ag (ab (aw (aY (aD ?_)))))))
   refine bn E E E ?_
   exact⟨_,rfl,.inr ⟨s,a,b,x,y,g1,g2,i1,i2,hop,hM.ext xg8,by rw[if_pos (of_decide_eq_true h42)];rfl⟩⟩
  ·refine af (bD 7 [0,61] (by kernel_rfl) (by kernel_rfl) ?_)
   refine ay rfl rfl (cN rfl rfl (aT rfl rfl (fun w hw=>ap (o:=0) Tryz.underlying114 rfl (by kernel_rfl) rfl) (aN rfl rfl (fun w hw=>((kC.ext xg8).ext hw).ldO (ms:=[I s.kd,I s.ix,B s.at_.1,x,y]) (o:=0) (fun j v hj=>by rcases j with _|_|_|_|_|_|_|_|_|j<;>simp_all) Tryz.underlying48 rfl (by kernel_rfl)) ?_)))
   refine cd (S:=Is (.agg #[I (bT s).kd,I (bT s).ix,B (bT s).at_.1,x,y])) iQ (bG.is _) rfl (fun w hw=>by rintro _ rfl;exact bH.mono (iR (d:=s) ((ho.ext (eC.trans xg8)).ext hw) ((sx.ext (eC.trans xg8)).ext hw) ((sy.ext (eC.trans xg8)).ext hw)) fun v w' h=>⟨h.1,h.2⟩) ?_
   refine aN rfl rfl (fun w hw=>((k3C.ext xg8).ext hw).ld KH rfl (by kernel_rfl)) (cd (S:=Is (B (decide (bT s=d)))) ni (bG.is _) rfl (fun w hw=>by rintro _ rfl _ rfl;exact bH.mono (nj (a:=bT s) (b:=d) ((sx.ext (eC.trans xg8)).ext hw) ((sy.ext (eC.trans xg8)).ext hw) ((hp.ext (eC.trans xg8)).ext hw) ((hq.ext (eC.trans xg8)).ext hw)) fun v w' h=>⟨h.1,h.2⟩) ?_)
   refine cb ?_
   intro wg10 xg10
   rintro _ rfl
   rintro _ rfl
   refine ac E E (ag (ab ?_))
   refine fc E (fun h54=>?_) (fun h54=>?_)
   ·refine af (aa (ae E E (aq E E (ah E E (ap (o:=5) KW E (by kernel_rfl) E) ?_))))
    refine au E E E (gq Lc (by kernel_rfl) (i:=1) (by omega) .i64) ?_
    refine aj E E (ai K0 E ((kC.ext (xg8.trans xg10)).cell (i:=6) E)) (ac E E (ac E E (ag (ab (aw ?_)))))
    refine aY (aD (bn E E E ?_))
    exact⟨_,rfl,.inr ⟨s,a,b,x,y,g1,g2,i1,i2,hop,hM.ext (xg8.trans xg10),by rw[if_neg (of_decide_eq_false h42),if_pos (of_decide_eq_true h54)];rfl⟩⟩
   ·refine aC (aR (ab (af (aa (ac E E (ac E E (ag (ab (aw (bn E E E ?_))))))))))
    exact⟨_,rfl,.inr ⟨s,a,b,x,y,g1,g2,i1,i2,hop,hM.ext (xg8.trans xg10),by rw[if_neg (of_decide_eq_false h42),if_neg (of_decide_eq_false h54)];rfl⟩⟩
end Go.Rl
namespace Go.Rl
open Go.RowKit Go.Proofs
def JT.gaps:JT→Nat
 |.gap=>1
 |.leaf _=>0
 |.split _ a b=>a.gaps+b.gaps
theorem f6:∀(t:JT) (p:List bz),(t.miss p).length=t.gaps
 |.gap,p=>rfl
 |.leaf n,p=>rfl
 |.split s a b,p=>by simp only[JT.miss,JT.gaps,List.length_append,f6 a,f6 b]
theorem oT (n:aV):∀(p:List bz) {t t':JT},gt n p t=some t'→t'.gaps≤t.gaps+p.length
 |[],.gap,t',h=>by simp only[gt,Option.some.injEq] at h;subst h;simp[JT.gaps]
 |[],.leaf m,t',h=>by simp only[gt,Option.some.injEq] at h;subst h;simp[JT.gaps]
 |[],.split _ _ _,t',h=>by simp[gt] at h
 |d::p,t,t',h=>by
  have key:∀s a b,pj d t=.split s a b→t'.gaps≤(pj d t).gaps+p.length:=fun s a b ho=>by
   simp only[gt,ho] at h
   rw[ho]
   split at h
   ·obtain⟨a',h1,rfl⟩:=Option.map_eq_some_iff.1 h
    have:=oT n p h1
    simp only[JT.gaps];omega
   ·split at h
    ·obtain⟨b',h1,rfl⟩:=Option.map_eq_some_iff.1 h
     have:=oT n p h1
     simp only[JT.gaps];omega
    ·cases h
  cases t with
  |gap=>
   have:=key _ _ _ rfl
   simp only[pj,JT.gaps] at this
   simp only[JT.gaps,List.length_cons];omega
  |leaf m=>simp[gt,pj] at h
  |split s a b=>
   have:=key _ _ _ rfl
   simp only[pj] at this
   simp only[List.length_cons];omega
def ie (p:List bz):Dt:=.sl (p.map cQ)
theorem fy (p:List bz):(ie p).size=1:=rfl
theorem oW:(Tryz.prog.info? 41).map (fun i=>(i.zero,i.size,i.bytes))=some (some (.slice none 0 0),1,24):=by kernel_rfl
theorem vv:(Tryz.prog.info? 52).map (fun i=>(i.zero,i.size))=some (some (.agg #[.slice none 0 0,I 0,I 0,B false,.slice none 0 0,.slice none 0 0,.slice none 0 0,B false,.slice none 0 0]),9):=by kernel_rfl
def YM (gm:Nat) (mv:Value) (k:Nat):Prop:=k=gm∨mv.ownBlock=some k
def AV (w0:World) (n gm:Nat) (mv:Value) (k:Nat):Prop:=YM gm mv k∨(w0.heap.size≤k∧k<n)
structure xF (w0 w:World) (F:Nat→Prop) (gm:Nat) (mv:Value) (ms:List (List bz)):Prop where
 cell:bA gm 59 [mv] w
 own:eu 41 1 w0.heap.size (fun k=>k=gm∨F k) ie ms mv w
 ne:mv.ownBlock≠some gm
 young:w0.heap.size≤gm
section
variable {w0 w w':World} {gm g:Nat} {mv mv':Value} {ms:List (List bz)} {t:JT} {ids:List Nat} {F G:Nat→Prop}
theorem xF.ext (h:xF w0 w F gm mv ms) (e:aJ w w'):xF w0 w' F gm mv ms:=⟨h.cell.ext e,h.own.ext e,h.ne,h.young⟩
theorem xF.weak (h:xF w0 w F gm mv ms) (hG:∀k,G k→F k∨w.heap.size≤k):xF w0 w G gm mv ms:=by
 obtain⟨h1,⟨n,xs,h2,h3⟩,h4,h5⟩:=h
 refine⟨h1,⟨n,xs,h2,h3.weak fun k hk=>?_⟩,h4,h5⟩
 rcases hk with(hk|hk)|hk
 ·exact .inl (.inl (.inl hk))
 ·exact(hG k hk).imp (fun h=>.inl (.inr h)) id
 ·exact .inl (.inr hk)
theorem xF.ym_young (h:xF w0 w F gm mv ms) {k:Nat} (hk:YM gm mv k):w0.heap.size≤k∧k<w.heap.size:=by
 rcases hk with rfl|hk
 ·exact⟨h.young,h.cell.lt⟩
 ·exact h.own.lt k hk
theorem xF.sto (h:xF w0 w F gm mv ms) (hm:Mv (fun k=>k=g) w w') (hg:F g) (hn:¬YM gm mv g):xF w0 w' F gm mv ms:=
 ⟨hm.blk h.cell fun e=>hn (.inl (Eq.symm e)),h.own.mv hm (fun k hk=>by have e:k=g:=hk;rw[e];exact .inr hg) fun k hk e=>hn (by have e':k=g:=e;rw[←e'];exact .inr hk),h.ne,h.young⟩
theorem jp.ext (h:jp w0 w g t ids) (e:aJ w w'):jp w0 w' g t ids:=h.mv (Mv.of_ext (X:=fun _=>False) e) fun _ _ h=>h
def CvR (w0 w:World) (F:Nat→Prop) (gm:Nat) (mv:Value) (ms:List (List bz)) (t:JT) (path:List bz) (r:Value) (w':World):Prop:=
 ∃cs mv',r=.agg cs.toArray∧ao cs∧cv (AV w0 w.heap.size gm mv') w' (bm t.node) cs∧xF w0 w' F gm mv' (ms++t.miss path)∧Mv (YM gm mv) w w'∧(∀k,mv'.ownBlock=some k→mv.ownBlock=some k∨w.heap.size≤k)
def B1 (w0:World) (t:JT):Prop:=∀(F:Nat→Prop) (w:World) (g:Nat) (ids:List Nat) (path:List bz) (pv:Value) (gm:Nat) (mv:Value) (ms:List (List bz)),(∀k,F k→w0.heap.size≤k∧k<w.heap.size)→aJ w0 w→jp w0 w g t ids→xF w0 w F gm mv ms→(∀k∈ids,¬YM gm mv k)→cv (fun k=>YM gm mv k∨F k) w (.sl (path.map cQ)) [pv]→path.length+t.depth≤1073741824→ms.length+t.gaps≤1099511627776→
 Calls Tryz.prog 65 #[.pointer (some ⟨g,0,none⟩),pv,.pointer (some ⟨gm,0,none⟩)] w (bH fun r w'=>CvR w0 w F gm mv ms t path r w')
theorem H6 {X:Nat→Prop} {a1 a2:aV} {c1 c2:List Value} (ha1:cv X w (bm a1) c1) (ha2:cv X w (bm a2) c2) (hX:∀k,X k→k<w.heap.size):
 ∃r w',(Instr.buildSlice 49 2 (dG 0 [Value.agg c1.toArray,Value.agg c2.toArray]).toArray).run Tryz.prog w=.ok r w'∧aJ w w'∧cv X w' (.sl ([a1,a2].map bm)) [r]∧r.oneCell'=true:=by
 have hl1:c1.length=9:=by rw[ha1.len,cg]
 have hl2:c2.length=9:=by rw[ha2.len,cg]
 obtain⟨x,w1,h3,h4,h5,h6⟩:=ur (P:=Tryz.prog) (w:=w) (t:=49) Tryz.underlying49 vv rfl (by omega) [c1,c2] (by simp[hl1,hl2]) (by simp) (by simp)
 have h7:cv X w1 (.sl ([a1,a2].map bm)) [x]:=cv.ofSl (sz:=9) (xs:=c1++c2) (by simpa using h5) (by simpa using aO.cons (ha1.ext h4) (aO.cons (b:=[]) (ha2.ext h4) aO.nil)) (by simp[cg]) (by omega) fun k hk hx=>by
  rw[h6] at hk
  have:=Option.some.inj hk
  have:=hX k hx
  omega
 obtain⟨A,n,c,rfl⟩:=h7.isSl
 exact⟨_,w1,by simpa using h3,h4,h7,rfl⟩
structure th (w0 w:World) (F:Nat→Prop) (g7 gm:Nat) (mv mv1:Value) (ms:List (List bz)) (n:aV) (cs:List Value) (w':World):Prop where
 m:Mv (YM gm mv) w w'
 k7:bA g7 52 cs w'
 ones:ao cs
 rp:cv (AV w0 w.heap.size gm mv1) w' (bm n) cs
 st:xF w0 w' F gm mv1 ms
 own:∀k,mv1.ownBlock=some k→mv.ownBlock=some k∨w.heap.size≤k
 f7:w.heap.size≤g7
 n7:¬YM gm mv1 g7
variable {P:Program} {wc wd we:World} {g7:Nat} {cs z:List Value} {a:JT} {path:List bz} {mv1:Value} {r:Value}
theorem JW {X:Nat→Prop} {n:aV} (h:cv X w (bm n) cs):(Tryz.prog.info? 52).map (·.size)=some cs.length:=by
 rw[h.len,cg];kernel_rfl
theorem th.late (e:aJ w wc) (h1:ao cs) (hr:cv (AV w0 wc.heap.size gm mv1) wd (bm a.node) cs) (hs:xF w0 wd F gm mv1 (ms++a.miss path)) (hm:Mv (YM gm mv) wc wd) (ho:∀k,mv1.ownBlock=some k→mv.ownBlock=some k∨wc.heap.size≤k) (ee:aJ wd we) (l7:wd.heap.size≤g7) (k7:bA g7 52 z we) (hz:z.length=9):
 ∃w',(Instr.storeAt 52 (.pointer (some ⟨g7,0,none⟩)) (.agg cs.toArray)).run Tryz.prog we=.ok () w'∧th w0 w F g7 gm mv mv1 (ms++a.miss path) a.node cs w':=by
 obtain⟨w',s,q,k⟩:=k7.stS (P:=Tryz.prog) (t:=52) (m:=cs) (by rw[hz,hr.len,cg]) (JW hr) h1
 have mq:Mv (fun k=>k=g7) we w':=Mv.of_grown q fun k hk _=>(Option.some.inj hk).symm
 have md:aJ wd w':=(Mv.of_ext (X:=fun k=>k=g7) ee|>.trans mq fun _ h _=>h).ext fun k hk=>by have e:k=g7:=hk;omega
 have s1:=hm.size
 have s0:=e.size
 refine⟨w',s,((Mv.of_ext (X:=YM gm mv) e).trans hm fun _ h _=>h).trans (Mv.of_ext (X:=YM gm mv) md) fun _ h _=>h,k,h1,(hr.ext md).weak fun k hk=>.inl ?_,hs.ext md,fun k hk=>(ho k hk).imp id fun h=>Nat.le_trans s0 h,by omega,fun hy=>?_⟩
 ·rcases hk with hk|⟨hk1,hk2⟩
  ·exact .inl hk
  ·exact .inr ⟨hk1,by omega⟩
 ·have:=(hs.ym_young hy).2;omega
theorem th.early (e:aJ w wc) (h1:ao cs) (hr:cv (AV w0 wc.heap.size gm mv1) wd (bm a.node) cs) (hs:xF w0 wd (fun k=>F k∨k=g7) gm mv1 (ms++a.miss path)) (hm:Mv (YM gm mv) wc wd) (ho:∀k,mv1.ownBlock=some k→mv.ownBlock=some k∨wc.heap.size≤k) (h0:w0.heap.size≤w.heap.size) (l7:w.heap.size≤g7) (hy:∀k,YM gm mv k→k<w.heap.size) (k7:bA g7 52 z wc) (hz:z.length=9):
 ∃w',(Instr.storeAt 52 (.pointer (some ⟨g7,0,none⟩)) (.agg cs.toArray)).run Tryz.prog wd=.ok () w'∧th w0 w F g7 gm mv mv1 (ms++a.miss path) a.node cs w':=by
 have hg7:=k7.lt
 have nm:¬YM gm mv g7:=fun h=>by have:=hy _ h;omega
 have n1:¬YM gm mv1 g7:=fun h=>by
  rcases h with h|h
  ·exact nm (.inl h)
  ·rcases ho _ h with h'|h'
   ·exact nm (.inr h')
   ·omega
 have k7d:=hm.blk k7 nm
 obtain⟨w',s,q,k⟩:=k7d.stS (P:=Tryz.prog) (t:=52) (m:=cs) (by rw[hz,hr.len,cg]) (JW hr) h1
 have mq:Mv (fun k=>k=g7) wd w':=Mv.of_grown q fun k hk _=>(Option.some.inj hk).symm
 have s1:=hm.size
 have s0:=e.size
 have e7:∀k,(fun k=>k=g7) k→AV w0 wc.heap.size gm mv1 k:=fun k hk=>.inr (by have e:k=g7:=hk;omega)
 refine⟨w',s,((Mv.of_ext (X:=YM gm mv) e).trans hm fun _ h _=>h).trans mq fun k hk hlt=>?_,k,h1,?_,(hs.sto mq (.inr E) n1).weak fun k hk=>.inl (.inl hk),fun k hk=>(ho k hk).imp id fun h=>Nat.le_trans s0 h,l7,n1⟩
 ·have e:k=g7:=hk
  omega
 ·exact(hr.mv (mq.weak fun k hk _=>e7 k hk) fun _ h=>.inl h).weak fun k hk=>.inl (hk.imp id fun h=>⟨h.1,by omega⟩)
end
end Go.Rl
namespace Go.Rl
open Go.RowKit Go.Proofs
theorem gT:aH Tryz.prog 65:=⟨_,Tryz.func65,by kernel_rfl,rfl⟩
theorem eu.low {e:TypeId} {sz base b2:Nat} {X:Nat→Prop} {α:Type} {f:α→Dt} {l:List α} {v:Value} {w:World} (h:eu e sz base X f l v w) (hb:b2≤base):eu e sz b2 X f l v w:=by
 obtain⟨n,xs,h1,h2⟩:=h
 exact⟨n,xs,ip h1 fun k hk=>Nat.le_trans hb (World.ownsRow.lt h1 k hk).1,h2⟩
theorem fv {w:World} {X:Nat→Prop} {l:List bz} {v:Value} (hv:cv X w (.sl (l.map cQ)) [v]) (hl:l.length≤1099511627776):
 Calls Tryz.prog 109 #[v] w (bH fun r w'=>aJ w w'∧eu 48 5 w.heap.size X cQ l r w'):=by
 obtain⟨A,n,c,rfl⟩:=hv.isSl
 refine enter (vs:=[.slice A n c]) Tryz.func109 E E E ?_
 refine af (aa (ac E E (ag (ab (af (af (aa (ae E E (ak E E E (yb KN) (ag (ab ?_)))))))))))
 refine fc E (fun h4=>?_) (fun h4=>?_)
 ·refine af (aa (ac E E (ag (ab (aw (aD (av E E ?_)))))))
  have hA:A=none:=by simpa using h4
  have hnil:l=[]:=by
   have h:=hv.rp
   simp only[Rp,List.cons.injEq,Value.slice.injEq,and_true] at h
   obtain⟨_,n',c',⟨rfl,rfl,rfl⟩,h1,h2,_,h3,_⟩:=h
   have:=h3 hA
   exact List.eq_nil_of_length_eq_zero (by rw[List.length_map] at h1;omega)
  subst hnil
  exact⟨_,rfl,aJ.refl _,eu.nil _⟩
 ·refine aC (ab (af (aa ?_)))
  obtain⟨v5,w5,hr5,x5,o5,ob5⟩:=rG (P:=Tryz.prog) (w:=w) (f:=cQ) (X:=X) KN ia
  obtain⟨cs,hcs,hall⟩:=cv.toSl (sz:=5) hv (by simp[bN])
  obtain⟨v7,w7,hr7,o7,g7⟩:=o5.app (P:=Tryz.prog) (t:=41) (ty:=41) (m:=l) Tryz.underlying41 f4 rfl (by omega) (by omega) (hcs.ext x5) (eo hall.rp) ((hall.weak fun k hk=>hk.imp id fun h=>by rw[ob5] at h;have:=Option.some.inj h;omega).ext x5) bN (by simp;omega) x5.size
  have x7:=aJ.of_grew x5 g7 (fun k hk=>(o5.lt k hk).1)
  refine aG (vs:=[]) E E hr5 ?_
  refine ae E E ?_
  refine aW E E hr7 ?_
  refine ac E E (ag (ab (aw (av E E ?_))))
  exact⟨_,rfl,x7,by simpa using o7⟩
end Go.Rl
namespace Go.Rl
open Go.RowKit Go.Proofs
theorem nz {w0 w:World} {X:Nat→Prop} {n:aV} {cs:List Value} (h:Rp w0 (bm n) cs) (e:aJ w0 w) (hX:∀k,X k→w0.heap.size≤k):cv X w (bm n) cs:=(h.x.ext e).weak fun k hk=>.inl (hX k hk)
theorem YM.grow {w:World} {gm:Nat} {mv mv1:Value} (ho:∀k,mv1.ownBlock=some k→mv.ownBlock=some k∨w.heap.size≤k) {k:Nat} (h:YM gm mv1 k):YM gm mv k∨w.heap.size≤k:=by
 rcases h with h|h
 ·exact .inl (.inl h)
 ·exact(ho k h).imp .inr id
theorem lQ {w0 w6 wx:World} {F F':Nat→Prop} {gk gm:Nat} {ik:List Nat} {mv v48:Value} {ms:List (List bz)} {t:JT} {path:List bz} (hat:B1 w0 t) (hF:∀k,F k→w0.heap.size≤k∧k<w6.heap.size) (e0:aJ w0 w6) (ex:aJ w6 wx) (hJ:jp w0 w6 gk t ik) (hC:xF w0 w6 F gm mv ms) (hd:∀k∈ik,¬YM gm mv k) (hl:path.length+t.depth≤1073741824) (hm:ms.length+t.gaps≤1099511627776)
 (o48:eu 48 5 w6.heap.size (fun k=>YM gm mv k∨F' k) cQ path v48 wx) (hF':∀k,F' k→F k∨(w6.heap.size≤k∧k<wx.heap.size)) (hne:∀k,v48.ownBlock=some k→¬F' k):
 Calls Tryz.prog 65 #[.pointer (some ⟨gk,0,none⟩),v48,.pointer (some ⟨gm,0,none⟩)] wx (bH fun r w'=>CvR w0 wx F' gm mv ms t path r w'):=by
 have s0:=e0.size
 have sx:=ex.size
 refine hat F' wx gk ik path v48 gm mv ms (fun k hk=>?_) (e0.trans ex) (hJ.ext ex) ((hC.weak fun k hk=>(hF' k hk).imp id fun h=>h.1).ext ex) hd (o48.rpx bN (by omega) (fun _ h=>h) fun k hk hk'=>?_) hl hm
 ·rcases hF' k hk with h|h
  ·exact⟨(hF k h).1,by have:=(hF k h).2;omega⟩
  ·exact⟨by omega,h.2⟩
 ·have h1:=(o48.lt k hk).1
  rcases hk' with h|h
  ·have:=(hC.ym_young h).2;omega
  ·exact hne k hk h
theorem pl {w0 w6 wg w1:World} {X:Nat→Prop} {path:List bz} {d:bz} {x y v42 v47:Value} (e0:aJ w0 w6) (eg:aJ w6 wg) (e1:aJ wg w1) (hX:∀k,X k→w0.heap.size≤k) (hx:bi d.at_.2.1 x w0) (hy:bi d.at_.2.2 y w0) (o42:eu 48 5 w6.heap.size X cQ path v42 w1) (b47:Sl 5 [I d.kd,I d.ix,B d.at_.1,x,y] v47 wg) (hl:path.length≤1099511627776):
 ∃r w2,(Builtin.append_ #[41,41] 41 #[v42,v47]).run Tryz.prog w1=.ok r w2∧eu 48 5 w6.heap.size X cQ (path++[d]) r w2∧aJ w6 w2∧Mv (fun k=>v42.ownBlock=some k) w1 w2∧∀k,r.ownBlock=some k→v42.ownBlock=some k∨w1.heap.size≤k:=by
 have hlt:=o42.lt
 have s1:=(eg.trans e1).size
 obtain⟨r,w2,h1,h2,h3⟩:=o42.app (P:=Tryz.prog) (t:=41) (ty:=41) (m:=[d]) KN f4 rfl (by omega) (by omega) (b47.ext e1) (ao.cons rfl (ao.cons rfl (ao.cons rfl (ao.cons hx.one (ao.cons hy.one ao.nil))))) (by
  have:=(((uS hx hy).x.ext (e0.trans (eg.trans e1))).weak (Y:=fun k=>X k∨v42.ownBlock=some k) fun k hk=>by
   rcases hk with hk|hk
   ·exact .inl (hX k hk)
   ·exact .inl (Nat.le_trans e0.size (hlt k hk).1))
  simpa using aO.cons this aO.nil) bN (by simp;omega) s1
 have hm:Mv (fun k=>v42.ownBlock=some k) w1 w2:=Mv.of_grown h3.grown fun k hk _=>hk
 refine⟨r,w2,h1,h2,hm.ext_from (eg.trans e1) fun k hk=>(hlt k hk).1,hm,fun k hk=>?_⟩
 rcases h3.own with h|h
 ·rw[h] at hk;exact .inl hk
 ·exact .inr (h k hk)
section
variable {P:Program} {ops:Array Oper} {Q:im} {N:Nat} {D:List Deferred} {S:World→Prop} {fuel:Nat} {listed:Array Bool} {l:Fr} {w:World} {d:Tmp} {ty:TypeId} {pos:String} {aft:Array Edge}
theorem fz (i:Nat) {x:Operand} {a:Addr} (hi:ops[i]? =some ⟨some d,.nilCheck x,ty,pos,aft,none⟩) (hx:ev l x=some (.pointer (some a))) (hB:mr ops listed i=true) (hd:Nat.blt d N=true) (hS:S w)
 (k:db P ops Q N D S fuel (listed.setIfInBounds i true) ((d,.pointer (some a))::l) w):db P ops Q N D S (fuel+1) listed l w:=
 ww i hi hB hd hS (fun ρ w' hρ _=>by simp[execOp,hρ x _ hx]) k
theorem H7 (i j m:Nat) {o u z:Oper} (hr:Region.ready .any ops listed=[i,j,m]) (hi:ops[i]? =some o) (hj:ops[j]? =some u) (hm:ops[m]? =some z) (h:cu P ops (sH P ops Q S fuel (listed.setIfInBounds i true)) N D l w [o])
 (h':cu P ops (sH P ops Q S fuel (listed.setIfInBounds j true)) N D l w [u]) (h'':cu P ops (sH P ops Q S fuel (listed.setIfInBounds m true)) N D l w [z]):db P ops Q N D S (fuel+1) listed l w:=fun a ha=>
 wpAnyH_all hr (by simp) fun k hk=>by
  rcases(by simpa using hk:k=i∨k=j∨k=m) with rfl|rfl|rfl
  ·exact gf hi (h a ha)
  ·exact gf hj (h' a ha)
  ·exact gf hm (h'' a ha)
end
theorem di {w:World}:∃g w',(Instr.alloc 52 true (.tuple #[])).run Tryz.prog w=.ok (.pointer (some ⟨g,0,none⟩)) w'∧w.heap.size≤g∧aJ w w'∧bA g 52 [.slice none 0 0,I 0,I 0,B false,.slice none 0 0,.slice none 0 0,.slice none 0 0,B false,.slice none 0 0] w':=
 aZ (P:=Tryz.prog) (w:=w) (t:=52) (z:=.agg #[.slice none 0 0,I 0,I 0,B false,.slice none 0 0,.slice none 0 0,.slice none 0 0,B false,.slice none 0 0]) (l:=[.slice none 0 0,I 0,I 0,B false,.slice none 0 0,.slice none 0 0,.slice none 0 0,B false,.slice none 0 0]) (by kernel_rfl) rfl
end Go.Rl
namespace Go.Rl
open Go.RowKit Go.Proofs
def z9:List Value:=[.slice none 0 0,I 0,I 0,B false,.slice none 0 0,.slice none 0 0,.slice none 0 0,B false,.slice none 0 0]
def iE (k:Int) (lf:List Value) (d:bz) (x y k1 k2:Value):List Value:=I k::(lf++[I d.kd,I d.ix,B d.at_.1,x,y,k1,k2])
def re (w0 w:World):Nat→JT→List Nat→Prop
 |g,.gap,ids=>ids=[g]∧bA g 120 (iE 0 z9 kI (.slice none 0 0) (.slice none 0 0) dY dY) w
 |g,.leaf n,ids=>∃cs,ids=[g]∧bA g 120 (iE 1 cs kI (.slice none 0 0) (.slice none 0 0) dY dY) w∧Rp w0 (bm n) cs
 |g,.split d a b,ids=>∃x y g1 g2 i1 i2,ids=g::(i1++i2)∧bi d.at_.2.1 x w0∧bi d.at_.2.2 y w0∧bA g 120 (iE 2 z9 d x y (kX g1) (kX g2)) w∧re w0 w g1 a i1∧re w0 w g2 b i2
theorem re.mv {w0 w w':World} {X:Nat→Prop} (hm:Mv X w w'):∀{t:JT} {g:Nat} {ids:List Nat},re w0 w g t ids→(∀k∈ids,¬X k)→re w0 w' g t ids
 |.gap,g,ids,h,hX=>by
  simp only[re] at h⊢
  obtain⟨rfl,h1⟩:=h
  exact⟨rfl,hm.blk h1 (hX g (by simp))⟩
 |.leaf n,g,ids,h,hX=>by
  simp only[re] at h⊢
  obtain⟨cs,rfl,h1,h3⟩:=h
  exact⟨cs,rfl,hm.blk h1 (hX g (by simp)),h3⟩
 |.split d a b,g,ids,h,hX=>by
  simp only[re] at h⊢
  obtain⟨x,y,g1,g2,i1,i2,rfl,hx,hy,h1,h2,h3⟩:=h
  exact⟨x,y,g1,g2,i1,i2,rfl,hx,hy,hm.blk h1 (hX g (by simp)),h2.mv hm fun k hk=>hX k (by simp[hk]),h3.mv hm fun k hk=>hX k (by simp[hk])⟩
theorem re.lt {w0 w:World}:∀{t:JT} {g:Nat} {ids:List Nat},re w0 w g t ids→∀k∈ids,k<w.heap.size
 |.gap,g,ids,h,k,hk=>by
  simp only[re] at h
  obtain⟨rfl,h1⟩:=h
  simp only[List.mem_singleton] at hk
  subst hk
  exact h1.lt
 |.leaf n,g,ids,h,k,hk=>by
  simp only[re] at h
  obtain⟨cs,rfl,h1,_⟩:=h
  simp only[List.mem_singleton] at hk
  subst hk
  exact h1.lt
 |.split d a b,g,ids,h,k,hk=>by
  simp only[re] at h
  obtain⟨x,y,g1,g2,i1,i2,rfl,hx,hy,h1,h2,h3⟩:=h
  simp only[List.mem_cons,List.mem_append] at hk
  rcases hk with rfl|hk|hk
  ·exact h1.lt
  ·exact h2.lt k hk
  ·exact h3.lt k hk
structure kY (w0 w:World) (g:Nat) (t:JT) (ids:List Nat):Prop where
 at_:re w0 w g t ids
 nodup:ids.Nodup
 young:∀k∈ids,w0.heap.size≤k
section
variable {w0 w w':World} {g g1 g2:Nat} {t a b:JT} {ids i1 i2:List Nat} {d:bz} {x y:Value} {cs:List Value} {n:aV}
theorem kY.mv {X:Nat→Prop} (h:kY w0 w g t ids) (hm:Mv X w w') (hX:∀k∈ids,¬X k):kY w0 w' g t ids:=⟨h.at_.mv hm hX,h.nodup,h.young⟩
theorem kY.ext (h:kY w0 w g t ids) (e:aJ w w'):kY w0 w' g t ids:=h.mv (Mv.of_ext (X:=fun _=>False) e) fun _ _ h=>h
theorem kY.lt (h:kY w0 w g t ids):∀k∈ids,k<w.heap.size:=h.at_.lt
theorem kY.gap (k:bA g 120 (iE 0 z9 kI (.slice none 0 0) (.slice none 0 0) dY dY) w) (hg:w0.heap.size≤g):kY w0 w g .gap [g]:=
 ⟨⟨rfl,k⟩,by simp,fun j hj=>by simp only[List.mem_singleton] at hj;omega⟩
theorem kY.leaf (k:bA g 120 (iE 1 cs kI (.slice none 0 0) (.slice none 0 0) dY dY) w) (hr:Rp w0 (bm n) cs) (hg:w0.heap.size≤g):kY w0 w g (.leaf n) [g]:=
 ⟨⟨cs,rfl,k,hr⟩,by simp,fun j hj=>by simp only[List.mem_singleton] at hj;omega⟩
theorem kY.split_inv (h:kY w0 w g (.split d a b) ids):∃x y g1 g2 i1 i2,ids=g::(i1++i2)∧bi d.at_.2.1 x w0∧bi d.at_.2.2 y w0∧bA g 120 (iE 2 z9 d x y (kX g1) (kX g2)) w∧kY w0 w g1 a i1∧kY w0 w g2 b i2∧w0.heap.size≤g∧g∉i1∧g∉i2∧(∀k∈i1,k∉i2):=by
 obtain⟨⟨x,y,g1,g2,i1,i2,rfl,hx,hy,h1,h2,h3⟩,hn,hy2⟩:=h
 rw[List.nodup_cons,List.nodup_append] at hn
 obtain⟨n1,n2,n3,n4⟩:=hn
 refine⟨x,y,g1,g2,i1,i2,rfl,hx,hy,h1,⟨h2,n2,fun k hk=>hy2 k (by simp[hk])⟩,⟨h3,n3,fun k hk=>hy2 k (by simp[hk])⟩,hy2 g (by simp),fun hg=>n1 (by simp[hg]),fun hg=>n1 (by simp[hg]),fun k hk hk'=>n4 k hk k hk' rfl⟩
theorem kY.split (hx:bi d.at_.2.1 x w0) (hy:bi d.at_.2.2 y w0) (k:bA g 120 (iE 2 z9 d x y (kX g1) (kX g2)) w) (h1:kY w0 w g1 a i1) (h2:kY w0 w g2 b i2) (hg:w0.heap.size≤g) (n1:g∉i1) (n2:g∉i2) (n3:∀k∈i1,k∉i2):kY w0 w g (.split d a b) (g::(i1++i2)):=by
 refine⟨⟨x,y,g1,g2,i1,i2,rfl,hx,hy,k,h1.at_,h2.at_⟩,?_,fun j hj=>?_⟩
 ·rw[List.nodup_cons,List.nodup_append]
  exact⟨by simp[n1,n2],h1.nodup,h2.nodup,fun k hk j hj e=>n3 k hk (e▸hj)⟩
 ·simp only[List.mem_cons,List.mem_append] at hj
  rcases hj with rfl|hj|hj
  ·exact hg
  ·exact h1.young j hj
  ·exact h2.young j hj
theorem zk (h:kY w0 w g .gap ids):ids=[g]∧bA g 120 (iE 0 z9 kI (.slice none 0 0) (.slice none 0 0) dY dY) w:=h.at_
theorem tI (h:kY w0 w g (.leaf n) ids):∃cs,ids=[g]∧bA g 120 (iE 1 cs kI (.slice none 0 0) (.slice none 0 0) dY dY) w∧Rp w0 (bm n) cs:=h.at_
theorem kY.root (h:kY w0 w g t ids):g∈ids:=by
 cases t with
 |gap=>rw[(zk h).1];simp
 |leaf n=>obtain⟨_,h1,_⟩:=tI h;rw[h1];simp
 |split s a b=>obtain⟨_,_,_,_,_,_,h1,_⟩:=h.split_inv;rw[h1];simp
def iT (w0:World) (p:List bz) (v:Value) (w:World):Prop:=∃xs,Sl 5 xs v w∧aO (fun k=>w0.heap.size≤k) w (p.map cQ) xs
theorem iT.ext {p:List bz} {v:Value} (h:iT w0 p v w) (e:aJ w w'):iT w0 p v w':=by
 obtain⟨xs,h1,h2⟩:=h
 exact⟨xs,h1.ext e,h2.ext e⟩
theorem iT.stable {p:List bz}:bG (iT w0 p):=fun _ _ _ h hx=>h.ext hx
theorem iT.nil:iT w0 [] (.slice none 0 0) w:=⟨[],Sl.nil _ _,aO.nil⟩
end
end Go.Rl
namespace Go.Rl
open Go.RowKit Go.Proofs
theorem oX:aH Tryz.prog 73:=⟨_,Tryz.func73,by kernel_rfl,rfl⟩
theorem xG:aH Tryz.prog 112:=⟨_,Tryz.func112,by kernel_rfl,rfl⟩
theorem oY {w:World} {d:bz} {x y:Value} (hx:bi d.at_.2.1 x w) (hy:bi d.at_.2.2 y w):
 Calls Tryz.prog 73 #[.agg #[I d.kd,I d.ix,B d.at_.1,x,y]] w (bH fun r w'=>aJ w w'∧r=.agg #[I (bT d).kd,I (bT d).ix,B (bT d).at_.1,x,y]):=by
 refine enter (vs:=[.agg #[I d.kd,I d.ix,B d.at_.1,x,y]]) Tryz.func73 E E E ?_
 refine af (aa ?_)
 obtain⟨g1,w1,hr1,l1,x1,k1⟩:=ca (P:=Tryz.prog) (w:=w) (T:=48) (cs:=[I d.kd,I d.ix,B d.at_.1,x,y])
 refine cm E E hr1 ?_
 obtain⟨g2,w2,hr2,l2,x2,k2⟩:=aZ (P:=Tryz.prog) (w:=w1) (t:=48) (z:=.agg #[I 0,I 0,B false,.slice none 0 0,.slice none 0 0]) (l:=[I 0,I 0,B false,.slice none 0 0,.slice none 0 0]) (by kernel_rfl) rfl
 refine aX E hr2 (ag (ab (af ?_)))
 refine ei (fun(_:Unit)=>[(1,.pointer (some ⟨g1,0,none⟩)),(2,.pointer (some ⟨g2,0,none⟩))]) (fun _ w'=>aJ w w'∧bA g1 48 [I (bT d).kd,I (bT d).ix,B (bT d).at_.1,x,y] w'∧bA g2 48 [I 0,I 0,B false,.slice none 0 0,.slice none 0 0] w') ?_ ?_
 ·refine af (aa (ah E E (ap (o:=0) KH E (by kernel_rfl) E) (aj E E (ai KI E (x2.cell_some (k1.cell (i:=0) E))) ?_)))
  refine ag (ab (aE (af (aa (ak E E E (a6) (ac E E (ag (ab ?_))))))))
  refine bt E (fun h5=>?_) (fun h5=>?_)
  ·have hk:kU d.kd=2:=by unfold kU;rw[if_pos h5]
   refine aa (ah E E (ap (o:=0) KH E (by kernel_rfl) E) ?_)
   obtain⟨w3,s3,q3,k3⟩:=(k1.ext x2).stC (P:=Tryz.prog) (t:=3) (i:=0) (v:=I 2) (by kernel_rfl) rfl (by simp)
   refine ax E E s3 ?_
   have e3:=aJ.of_new (x1.trans x2) q3 l1
   refine ag (aR ?_)
   have k3a:bA g1 48 [I (bT d).kd,I (bT d).ix,B (bT d).at_.1,x,y] w3:=by show bA g1 _ [I (kU d.kd),_,_,_,_] w3;rw[hk];exact k3
   exact bP () ⟨rfl,rfl,trivial⟩ ⟨e3,k3a,k2.other q3 (fun e=>by have:=Option.some.inj e;have:=k1.lt;omega)⟩
  ·refine af (aa (ak E E E (a6) (ac E E (ag (ab ?_)))))
   refine bt E (fun h8=>?_) (fun h8=>?_)
   ·have hk:kU d.kd=1:=by unfold kU;rw[if_neg h5,if_pos h8]
    refine aa (ah E E (ap (o:=0) KH E (by kernel_rfl) E) ?_)
    obtain⟨w3,s3,q3,k3⟩:=(k1.ext x2).stC (P:=Tryz.prog) (t:=3) (i:=0) (v:=I 1) (by kernel_rfl) rfl (by simp)
    refine ax E E s3 ?_
    have e3:=aJ.of_new (x1.trans x2) q3 l1
    refine ag (aR ?_)
    have k3a:bA g1 48 [I (bT d).kd,I (bT d).ix,B (bT d).at_.1,x,y] w3:=by show bA g1 _ [I (kU d.kd),_,_,_,_] w3;rw[hk];exact k3
    exact bP () ⟨rfl,rfl,trivial⟩ ⟨e3,k3a,k2.other q3 (fun e=>by have:=Option.some.inj e;have:=k1.lt;omega)⟩
   ·refine af (aa (ak E E E (a6) (ac E E (ag (ab ?_)))))
    refine bt E (fun h11=>?_) (fun h11=>?_)
    ·have hk:kU d.kd=4:=by unfold kU;rw[if_neg h5,if_neg h8,if_pos h11]
     refine aa (ah E E (ap (o:=0) KH E (by kernel_rfl) E) ?_)
     obtain⟨w3,s3,q3,k3⟩:=(k1.ext x2).stC (P:=Tryz.prog) (t:=3) (i:=0) (v:=I 4) (by kernel_rfl) rfl (by simp)
     refine ax E E s3 ?_
     have e3:=aJ.of_new (x1.trans x2) q3 l1
     refine ag (aR ?_)
     have k3a:bA g1 48 [I (bT d).kd,I (bT d).ix,B (bT d).at_.1,x,y] w3:=by show bA g1 _ [I (kU d.kd),_,_,_,_] w3;rw[hk];exact k3
     exact bP () ⟨rfl,rfl,trivial⟩ ⟨e3,k3a,k2.other q3 (fun e=>by have:=Option.some.inj e;have:=k1.lt;omega)⟩
    ·refine af (aa (ak E E E (a6) (ac E E (ag (ab ?_)))))
     refine bt E (fun h14=>?_) (fun h14=>?_)
     ·have hk:kU d.kd=3:=by unfold kU;rw[if_neg h5,if_neg h8,if_neg h11,if_pos h14]
      refine aa (ah E E (ap (o:=0) KH E (by kernel_rfl) E) ?_)
      obtain⟨w3,s3,q3,k3⟩:=(k1.ext x2).stC (P:=Tryz.prog) (t:=3) (i:=0) (v:=I 3) (by kernel_rfl) rfl (by simp)
      refine ax E E s3 ?_
      have e3:=aJ.of_new (x1.trans x2) q3 l1
      refine ag (aR ?_)
      have k3a:bA g1 48 [I (bT d).kd,I (bT d).ix,B (bT d).at_.1,x,y] w3:=by show bA g1 _ [I (kU d.kd),_,_,_,_] w3;rw[hk];exact k3
      exact bP () ⟨rfl,rfl,trivial⟩ ⟨e3,k3a,k2.other q3 (fun e=>by have:=Option.some.inj e;have:=k1.lt;omega)⟩
     ·refine aC (aR ?_)
      have hk:kU d.kd=d.kd:=by unfold kU;rw[if_neg h5,if_neg h8,if_neg h11,if_neg h14]
      have e3:=x1.trans x2
      have k3a:bA g1 48 [I (bT d).kd,I (bT d).ix,B (bT d).at_.1,x,y] w2:=by show bA g1 _ [I (kU d.kd),_,_,_,_] w2;rw[hk];exact k1.ext x2
      exact bP () ⟨rfl,rfl,trivial⟩ ⟨e3,k3a,k2⟩
 rintro _ wC ⟨eC,k1C,k2C⟩
 refine ab (af (aa (aj E E (k1C.ld KH E (by kernel_rfl)) ?_)))
 obtain⟨w4,s4,q4,k4⟩:=k2C.stS (P:=Tryz.prog) (t:=48) (m:=[I (bT d).kd,I (bT d).ix,B (bT d).at_.1,x,y]) rfl (by kernel_rfl) (ao.cons rfl (ao.cons rfl (ao.cons rfl (ao.cons hx.one (ao.cons hy.one ao.nil)))))
 refine ax E E s4 ?_
 have e4:=aJ.of_new eC q4 (Nat.le_trans x1.size l2)
 refine ag (ab (aw ?_))
 refine cZ E E k4 KH E (by kernel_rfl) ?_
 exact⟨_,rfl,e4,rfl⟩
end Go.Rl
namespace Go.Rl
open Go.RowKit Go.Proofs
theorem Sl.own_lt {sz:Nat} {xs:List Value} {v:Value} {w:World} (h:Sl sz xs v w) (hx:xs≠[]):∀k,v.ownBlock=some k→k<w.heap.size:=fun k hk=>by
 obtain⟨A,n,c,rfl,h3,h4,h5,h6,h7⟩:=h
 have hn:0<n:=by
  rcases Nat.eq_zero_or_pos n with h0|h0
  ·subst h0
   rw[Nat.zero_mul] at h5
   exact absurd (List.eq_nil_of_length_eq_zero h5) hx
  ·exact h0
 obtain⟨ad,rfl,hc⟩:=h6 hn
 have:=Option.some.inj hk
 have h8:=hc.block_lt hx
 omega
theorem lR {w:World} {d:bz} {x y:Value}:∃r w',(Instr.buildSlice 41 1 (dG 0 [Value.agg #[I d.kd,I d.ix,B d.at_.1,x,y]]).toArray).run Tryz.prog w=.ok r w'∧aJ w w'∧Sl 5 [I d.kd,I d.ix,B d.at_.1,x,y] r w'∧r.ownBlock=some w.heap.size:=by
 obtain⟨r,w',a,b,c,e⟩:=ur (P:=Tryz.prog) (w:=w) Tryz.underlying41 ia rfl (by omega) [[I d.kd,I d.ix,B d.at_.1,x,y]] (by simp) (by simp) (by simp)
 exact⟨r,w',a,b,c,e⟩
theorem xH {w0 w:World} {n:aV} {path:List bz} {i:Int} {pv vl x y vk vp:Value} (e0:aJ w0 w) (hpa:iT w0 path pv w) (hpl:path.length≤1073741824) (hx:bi n.split.at_.2.1 x w0) (hy:bi n.split.at_.2.2 y w0):
 Calls Tryz.prog 112 #[pv,.agg #[vl,I n.split.kd,I n.split.ix,B n.split.at_.1,x,y,vk,B n.empty,vp],I i] w (bH fun r w'=>aJ w w'∧iT w0 (path++[dk n i]) r w'∧∀k,r.ownBlock=some k→w.heap.size≤k):=by
 have hxw:=hx.ext e0
 have hyw:=hy.ext e0
 refine enter (vs:=[pv,.agg #[vl,I n.split.kd,I n.split.ix,B n.split.at_.1,x,y,vk,B n.empty,vp],I i]) Tryz.func112 E E E ?_
 refine af (aa ?_)
 obtain⟨g4,w4,hr4,l4,x4,k4⟩:=ca (P:=Tryz.prog) (w:=w) (T:=52) (cs:=[vl,I n.split.kd,I n.split.ix,B n.split.at_.1,x,y,vk,B n.empty,vp])
 refine cm E E hr4 (ac E E (ag (ab (af (aa (ah E E (ap (o:=1) KF E (by kernel_rfl) E) ?_))))))
 refine aj rfl rfl (k4.ldO (ms:=[I n.split.kd,I n.split.ix,B n.split.at_.1,x,y]) (o:=1) (fun j v hj=>by rcases j with _|_|_|_|_|_|_|_|_|j<;>simp_all) Tryz.underlying48 rfl (by kernel_rfl)) ?_
 obtain⟨g7,w7,hr7,l7,x7,k7⟩:=aZ (P:=Tryz.prog) (w:=w4) (t:=48) (z:=.agg #[I 0,I 0,B false,.slice none 0 0,.slice none 0 0]) (l:=[I 0,I 0,B false,.slice none 0 0,.slice none 0 0]) (by kernel_rfl) rfl
 refine aX E hr7 ?_
 obtain⟨w1_3,s1_3,q1_3,k1_3⟩:=k7.stS (P:=Tryz.prog) (t:=48) (m:=[I n.split.kd,I n.split.ix,B n.split.at_.1,x,y]) rfl (by kernel_rfl) (ao.cons rfl (ao.cons rfl (ao.cons rfl (ao.cons hxw.one (ao.cons hyw.one ao.nil)))))
 refine ax E E s1_3 ?_
 have x1_3:=aJ.of_new (x7) q1_3 l7
 refine ag (ab (af (af (aa (ae E E (ak E E E (a6) (ag (ab ?_))))))))
 refine bt E (fun h11=>?_) (fun h11=>?_)
 ·refine aa (aj E E (k1_3.ld KH E (by kernel_rfl)) (an oX E E ((oY (hxw.ext (x4.trans x1_3)) (hyw.ext (x4.trans x1_3)))) ?_))
  rintro v13 w13 ⟨x13,rfl⟩
  obtain⟨wT,sT,qT,kT⟩:=(k1_3.ext x13).stS (P:=Tryz.prog) (t:=48) (m:=[I (bT n.split).kd,I (bT n.split).ix,B (bT n.split).at_.1,x,y]) rfl (by kernel_rfl) (ao.cons rfl (ao.cons rfl (ao.cons rfl (ao.cons hx.one (ao.cons hy.one ao.nil)))))
  refine ax E E sT ?_
  have eT:aJ w wT:=aJ.of_new (((x4.trans x1_3).trans x13)) qT (Nat.le_trans x4.size l7)
  have kD:bA g7 48 [I (dk n i).kd,I (dk n i).ix,B (dk n i).at_.1,x,y] wT:=by rw[show dk n i=bT n.split from if_pos h11];exact kT
  refine ag (ab (af ?_))
  have eD:aJ wT wT.drew:=(aJ.refl wT).drew
  have eW0:aJ w wT:=eT
  have e0D:aJ w0 wT.drew:=e0.trans (eW0.trans eD)
  have hS:bA g7 48 [I (dk n i).kd,I (dk n i).ix,B (dk n i).at_.1,x,y] wT.drew:=kD.ext eD
  refine fR (fun w1=>bA g7 48 [I (dk n i).kd,I (dk n i).ix,B (dk n i).at_.1,x,y] w1) 7 E (by kernel_rfl) ?_
  refine cT 1 E E (by kernel_rfl) E hS ?_
  refine eQ 3 E E (by kernel_rfl) E hS (fun _ hw=>hw.ld KH E (by kernel_rfl)) ?_
  have hdx:bi (dk n i).at_.2.1 x w0:=by unfold dk;split<;>exact hx
  have hdy:bi (dk n i).at_.2.2 y w0:=by unfold dk;split<;>exact hy
  refine jm (fun(z:Value)=>[(6,z)]) (fun(z:Value) w1=>aJ w w1∧iT w0 (path++[(dk n i)]) z w1∧∀k,z.ownBlock=some k→w.heap.size≤k) #[true,true,true,true,true,true,true] 0 ?_ (fun hk=>?_)
  rotate_left
  ·refine gC 0 4 (by kernel_rfl) E E ?_ ?_
   ·obtain⟨v1,wz1,hr1,x1,oo1,ob1⟩:=rG (P:=Tryz.prog) (w:=wT.drew) (f:=cQ) (X:=(fun k=>w0.heap.size≤k)) KN ia
    have ez1:aJ wT.drew wz1:=(aJ.refl wT.drew).trans x1
    have oz1:=oo1.low ((aJ.refl wT.drew)).size
    refine aG (vs:=[]) E E hr1 (aF (hS.ext ez1) ?_)
    refine gC 2 4 (by kernel_rfl) E E ?_ ?_
    ·obtain⟨xs2,sl2,al2⟩:=hpa
     have sz2:=(eW0.trans (eD.trans ez1)).size
     have sa2:=(ez1).size
     have lt2:=oz1.lt
     obtain⟨va2,wz2,hr2,oz2,gr2⟩:=oz1.app (P:=Tryz.prog) (t:=41) (ty:=41) (m:=path) KN f4 rfl (by omega) (by omega) (sl2.ext (eW0.trans (eD.trans ez1))) (eo al2.rp) ((al2.ext (eW0.trans (eD.trans ez1))).weak fun k hk=>by
      rcases hk with hk|hk
      ·exact .inl hk
      ·exact .inl (by have:=(lt2 k hk).1;have:=e0D.size;show w0.heap.size≤k;omega)) bN (by simp;omega) (by have:=(ez1).size;omega)
     have ez2:aJ wT.drew wz2:=aJ.of_grew ez1 gr2 fun k hk=>(lt2 k hk).1
     refine aW E E hr2 (aF (hS.ext ez2) ?_)
     obtain⟨vr3,wz3,hr3,x3,bz3,ob3⟩:=lR (w:=wz2) (d:=(dk n i)) (x:=x) (y:=y)
     have ez3:aJ wT.drew wz3:=ez2.trans x3
     refine aQ 4 (by kernel_rfl) E (aG (vs:=[(0,.agg #[I (dk n i).kd,I (dk n i).ix,B (dk n i).at_.1,x,y])]) E E hr3 (aF (hS.ext ez3) ?_))
     have oz3:=oz2.ext x3
     obtain⟨vf,wf,hrf,of,ef,_,nf⟩:=pl (w0:=w0) (w6:=wT.drew) (X:=(fun k=>w0.heap.size≤k)) (d:=(dk n i)) e0D ez3 (aJ.refl _) (fun _ h=>h) hdx hdy oz3 bz3 (by simp;omega)
     refine aQ 5 (by kernel_rfl) E (aW E E hrf (aF (hS.ext ef) ?_))
     refine aQ 6 (by kernel_rfl) E (ac E E (aF (hS.ext ef) ?_))
     refine hk _ _ ⟨vf,⟨rfl,trivial⟩,eW0.trans (eD.trans ef),?_,fun k hk=>by have:=(of.lt k hk).1;have:=(eW0.trans eD).size;omega⟩
     obtain⟨nn,xs,h1,h2⟩:=of
     exact⟨xs,Sl.of_own h1,h2.weak fun k hk=>.inl (.inl hk)⟩
    ·obtain⟨vr4,wz4,hr4,x4,bz4,ob4⟩:=lR (w:=wz1) (d:=(dk n i)) (x:=x) (y:=y)
     have ez4:aJ wT.drew wz4:=ez1.trans x4
     refine aG (vs:=[(0,.agg #[I (dk n i).kd,I (dk n i).ix,B (dk n i).at_.1,x,y])]) E E hr4 (aF (hS.ext ez4) ?_)
     have oz4:=oz1.ext x4
     have nr4:∀k,vr4.ownBlock=some k→¬v1.ownBlock=some k:=fun k hk hx=>by rw[ob4] at hk;have:=Option.some.inj hk;have:=(oz1.lt k hx).2;omega
     obtain⟨xs5,sl5,al5⟩:=hpa
     have sz5:=(eW0.trans (eD.trans ez4)).size
     have sa5:=(ez4).size
     have lt5:=oz4.lt
     obtain⟨va5,wz5,hr5,oz5,gr5⟩:=oz4.app (P:=Tryz.prog) (t:=41) (ty:=41) (m:=path) KN f4 rfl (by omega) (by omega) (sl5.ext (eW0.trans (eD.trans ez4))) (eo al5.rp) ((al5.ext (eW0.trans (eD.trans ez4))).weak fun k hk=>by
      rcases hk with hk|hk
      ·exact .inl hk
      ·exact .inl (by have:=(lt5 k hk).1;have:=e0D.size;show w0.heap.size≤k;omega)) bN (by simp;omega) (by have:=(ez4).size;omega)
     have ez5:aJ wT.drew wz5:=aJ.of_grew ez4 gr5 fun k hk=>(lt5 k hk).1
     refine aQ 2 (by kernel_rfl) E (aW E E hr5 (aF (hS.ext ez5) ?_))
     have bz5:=Sl.mv bz4 (Mv.of_grown (X:=fun k=>v1.ownBlock=some k) gr5.grown fun k hk _=>hk) (fun k hk hx=>nr4 k hk hx)
     obtain⟨vf,wf,hrf,of,ef,_,nf⟩:=pl (w0:=w0) (w6:=wT.drew) (X:=(fun k=>w0.heap.size≤k)) (d:=(dk n i)) e0D ez5 (aJ.refl _) (fun _ h=>h) hdx hdy oz5 bz5 (by simp;omega)
     refine aQ 5 (by kernel_rfl) E (aW E E hrf (aF (hS.ext ef) ?_))
     refine aQ 6 (by kernel_rfl) E (ac E E (aF (hS.ext ef) ?_))
     refine hk _ _ ⟨vf,⟨rfl,trivial⟩,eW0.trans (eD.trans ef),?_,fun k hk=>by have:=(of.lt k hk).1;have:=(eW0.trans eD).size;omega⟩
     obtain⟨nn,xs,h1,h2⟩:=of
     exact⟨xs,Sl.of_own h1,h2.weak fun k hk=>.inl (.inl hk)⟩
   ·obtain⟨vr6,wz6,hr6,x6,bz6,ob6⟩:=lR (w:=wT.drew) (d:=(dk n i)) (x:=x) (y:=y)
    have ez6:aJ wT.drew wz6:=(aJ.refl wT.drew).trans x6
    refine aG (vs:=[(0,.agg #[I (dk n i).kd,I (dk n i).ix,B (dk n i).at_.1,x,y])]) E E hr6 (aF (hS.ext ez6) ?_)
    obtain⟨v7,wz7,hr7,x7,oo7,ob7⟩:=rG (P:=Tryz.prog) (w:=wz6) (f:=cQ) (X:=(fun k=>w0.heap.size≤k)) KN ia
    have ez7:aJ wT.drew wz7:=ez6.trans x7
    have oz7:=oo7.low (ez6).size
    refine aQ 0 (by kernel_rfl) E (aG (vs:=[]) E E hr7 (aF (hS.ext ez7) ?_))
    have bz7:=bz6.ext x7
    have nr7:∀k,vr6.ownBlock=some k→¬v7.ownBlock=some k:=fun k hk hx=>by have:=bz6.own_lt (by simp) k hk;have:=(oo7.lt k hx).1;omega
    obtain⟨xs8,sl8,al8⟩:=hpa
    have sz8:=(eW0.trans (eD.trans ez7)).size
    have sa8:=(ez7).size
    have lt8:=oz7.lt
    obtain⟨va8,wz8,hr8,oz8,gr8⟩:=oz7.app (P:=Tryz.prog) (t:=41) (ty:=41) (m:=path) KN f4 rfl (by omega) (by omega) (sl8.ext (eW0.trans (eD.trans ez7))) (eo al8.rp) ((al8.ext (eW0.trans (eD.trans ez7))).weak fun k hk=>by
     rcases hk with hk|hk
     ·exact .inl hk
     ·exact .inl (by have:=(lt8 k hk).1;have:=e0D.size;show w0.heap.size≤k;omega)) bN (by simp;omega) (by have:=(ez7).size;omega)
    have ez8:aJ wT.drew wz8:=aJ.of_grew ez7 gr8 fun k hk=>(lt8 k hk).1
    refine aQ 2 (by kernel_rfl) E (aW E E hr8 (aF (hS.ext ez8) ?_))
    have bz8:=Sl.mv bz7 (Mv.of_grown (X:=fun k=>v7.ownBlock=some k) gr8.grown fun k hk _=>hk) (fun k hk hx=>nr7 k hk hx)
    obtain⟨vf,wf,hrf,of,ef,_,nf⟩:=pl (w0:=w0) (w6:=wT.drew) (X:=(fun k=>w0.heap.size≤k)) (d:=(dk n i)) e0D ez8 (aJ.refl _) (fun _ h=>h) hdx hdy oz8 bz8 (by simp;omega)
    refine aQ 5 (by kernel_rfl) E (aW E E hrf (aF (hS.ext ef) ?_))
    refine aQ 6 (by kernel_rfl) E (ac E E (aF (hS.ext ef) ?_))
    refine hk _ _ ⟨vf,⟨rfl,trivial⟩,eW0.trans (eD.trans ef),?_,fun k hk=>by have:=(of.lt k hk).1;have:=(eW0.trans eD).size;omega⟩
    obtain⟨nn,xs,h1,h2⟩:=of
    exact⟨xs,Sl.of_own h1,h2.weak fun k hk=>.inl (.inl hk)⟩
  rintro vf wf ⟨ef,pf,nf⟩
  refine fS (by kernel_rfl) ?_
  refine ab (aw (av E E ?_))
  exact⟨_,rfl,ef,pf,nf⟩
 ·have kD:bA g7 48 [I (dk n i).kd,I (dk n i).ix,B (dk n i).at_.1,x,y] w1_3:=by rw[show dk n i=n.split from if_neg h11];exact k1_3
  refine aC (ab (af ?_))
  have eD:aJ w1_3 w1_3.drew:=(aJ.refl w1_3).drew
  have eW0:aJ w w1_3:=x4.trans x1_3
  have e0D:aJ w0 w1_3.drew:=e0.trans (eW0.trans eD)
  have hS:bA g7 48 [I (dk n i).kd,I (dk n i).ix,B (dk n i).at_.1,x,y] w1_3.drew:=kD.ext eD
  refine fR (fun w1=>bA g7 48 [I (dk n i).kd,I (dk n i).ix,B (dk n i).at_.1,x,y] w1) 7 E (by kernel_rfl) ?_
  refine cT 1 E E (by kernel_rfl) E hS ?_
  refine eQ 3 E E (by kernel_rfl) E hS (fun _ hw=>hw.ld KH E (by kernel_rfl)) ?_
  have hdx:bi (dk n i).at_.2.1 x w0:=by unfold dk;split<;>exact hx
  have hdy:bi (dk n i).at_.2.2 y w0:=by unfold dk;split<;>exact hy
  refine jm (fun(z:Value)=>[(6,z)]) (fun(z:Value) w1=>aJ w w1∧iT w0 (path++[(dk n i)]) z w1∧∀k,z.ownBlock=some k→w.heap.size≤k) #[true,true,true,true,true,true,true] 0 ?_ (fun hk=>?_)
  rotate_left
  ·refine gC 0 4 (by kernel_rfl) E E ?_ ?_
   ·obtain⟨v1,wz1,hr1,x1,oo1,ob1⟩:=rG (P:=Tryz.prog) (w:=w1_3.drew) (f:=cQ) (X:=(fun k=>w0.heap.size≤k)) KN ia
    have ez1:aJ w1_3.drew wz1:=(aJ.refl w1_3.drew).trans x1
    have oz1:=oo1.low ((aJ.refl w1_3.drew)).size
    refine aG (vs:=[]) E E hr1 (aF (hS.ext ez1) ?_)
    refine gC 2 4 (by kernel_rfl) E E ?_ ?_
    ·obtain⟨xs2,sl2,al2⟩:=hpa
     have sz2:=(eW0.trans (eD.trans ez1)).size
     have sa2:=(ez1).size
     have lt2:=oz1.lt
     obtain⟨va2,wz2,hr2,oz2,gr2⟩:=oz1.app (P:=Tryz.prog) (t:=41) (ty:=41) (m:=path) KN f4 rfl (by omega) (by omega) (sl2.ext (eW0.trans (eD.trans ez1))) (eo al2.rp) ((al2.ext (eW0.trans (eD.trans ez1))).weak fun k hk=>by
      rcases hk with hk|hk
      ·exact .inl hk
      ·exact .inl (by have:=(lt2 k hk).1;have:=e0D.size;show w0.heap.size≤k;omega)) bN (by simp;omega) (by have:=(ez1).size;omega)
     have ez2:aJ w1_3.drew wz2:=aJ.of_grew ez1 gr2 fun k hk=>(lt2 k hk).1
     refine aW E E hr2 (aF (hS.ext ez2) ?_)
     obtain⟨vr3,wz3,hr3,x3,bz3,ob3⟩:=lR (w:=wz2) (d:=(dk n i)) (x:=x) (y:=y)
     have ez3:aJ w1_3.drew wz3:=ez2.trans x3
     refine aQ 4 (by kernel_rfl) E (aG (vs:=[(0,.agg #[I (dk n i).kd,I (dk n i).ix,B (dk n i).at_.1,x,y])]) E E hr3 (aF (hS.ext ez3) ?_))
     have oz3:=oz2.ext x3
     obtain⟨vf,wf,hrf,of,ef,_,nf⟩:=pl (w0:=w0) (w6:=w1_3.drew) (X:=(fun k=>w0.heap.size≤k)) (d:=(dk n i)) e0D ez3 (aJ.refl _) (fun _ h=>h) hdx hdy oz3 bz3 (by simp;omega)
     refine aQ 5 (by kernel_rfl) E (aW E E hrf (aF (hS.ext ef) ?_))
     refine aQ 6 (by kernel_rfl) E (ac E E (aF (hS.ext ef) ?_))
     refine hk _ _ ⟨vf,⟨rfl,trivial⟩,eW0.trans (eD.trans ef),?_,fun k hk=>by have:=(of.lt k hk).1;have:=(eW0.trans eD).size;omega⟩
     obtain⟨nn,xs,h1,h2⟩:=of
     exact⟨xs,Sl.of_own h1,h2.weak fun k hk=>.inl (.inl hk)⟩
    ·obtain⟨vr4,wz4,hr4,x4,bz4,ob4⟩:=lR (w:=wz1) (d:=(dk n i)) (x:=x) (y:=y)
     have ez4:aJ w1_3.drew wz4:=ez1.trans x4
     refine aG (vs:=[(0,.agg #[I (dk n i).kd,I (dk n i).ix,B (dk n i).at_.1,x,y])]) E E hr4 (aF (hS.ext ez4) ?_)
     have oz4:=oz1.ext x4
     have nr4:∀k,vr4.ownBlock=some k→¬v1.ownBlock=some k:=fun k hk hx=>by rw[ob4] at hk;have:=Option.some.inj hk;have:=(oz1.lt k hx).2;omega
     obtain⟨xs5,sl5,al5⟩:=hpa
     have sz5:=(eW0.trans (eD.trans ez4)).size
     have sa5:=(ez4).size
     have lt5:=oz4.lt
     obtain⟨va5,wz5,hr5,oz5,gr5⟩:=oz4.app (P:=Tryz.prog) (t:=41) (ty:=41) (m:=path) KN f4 rfl (by omega) (by omega) (sl5.ext (eW0.trans (eD.trans ez4))) (eo al5.rp) ((al5.ext (eW0.trans (eD.trans ez4))).weak fun k hk=>by
      rcases hk with hk|hk
      ·exact .inl hk
      ·exact .inl (by have:=(lt5 k hk).1;have:=e0D.size;show w0.heap.size≤k;omega)) bN (by simp;omega) (by have:=(ez4).size;omega)
     have ez5:aJ w1_3.drew wz5:=aJ.of_grew ez4 gr5 fun k hk=>(lt5 k hk).1
     refine aQ 2 (by kernel_rfl) E (aW E E hr5 (aF (hS.ext ez5) ?_))
     have bz5:=Sl.mv bz4 (Mv.of_grown (X:=fun k=>v1.ownBlock=some k) gr5.grown fun k hk _=>hk) (fun k hk hx=>nr4 k hk hx)
     obtain⟨vf,wf,hrf,of,ef,_,nf⟩:=pl (w0:=w0) (w6:=w1_3.drew) (X:=(fun k=>w0.heap.size≤k)) (d:=(dk n i)) e0D ez5 (aJ.refl _) (fun _ h=>h) hdx hdy oz5 bz5 (by simp;omega)
     refine aQ 5 (by kernel_rfl) E (aW E E hrf (aF (hS.ext ef) ?_))
     refine aQ 6 (by kernel_rfl) E (ac E E (aF (hS.ext ef) ?_))
     refine hk _ _ ⟨vf,⟨rfl,trivial⟩,eW0.trans (eD.trans ef),?_,fun k hk=>by have:=(of.lt k hk).1;have:=(eW0.trans eD).size;omega⟩
     obtain⟨nn,xs,h1,h2⟩:=of
     exact⟨xs,Sl.of_own h1,h2.weak fun k hk=>.inl (.inl hk)⟩
   ·obtain⟨vr6,wz6,hr6,x6,bz6,ob6⟩:=lR (w:=w1_3.drew) (d:=(dk n i)) (x:=x) (y:=y)
    have ez6:aJ w1_3.drew wz6:=(aJ.refl w1_3.drew).trans x6
    refine aG (vs:=[(0,.agg #[I (dk n i).kd,I (dk n i).ix,B (dk n i).at_.1,x,y])]) E E hr6 (aF (hS.ext ez6) ?_)
    obtain⟨v7,wz7,hr7,x7,oo7,ob7⟩:=rG (P:=Tryz.prog) (w:=wz6) (f:=cQ) (X:=(fun k=>w0.heap.size≤k)) KN ia
    have ez7:aJ w1_3.drew wz7:=ez6.trans x7
    have oz7:=oo7.low (ez6).size
    refine aQ 0 (by kernel_rfl) E (aG (vs:=[]) E E hr7 (aF (hS.ext ez7) ?_))
    have bz7:=bz6.ext x7
    have nr7:∀k,vr6.ownBlock=some k→¬v7.ownBlock=some k:=fun k hk hx=>by have:=bz6.own_lt (by simp) k hk;have:=(oo7.lt k hx).1;omega
    obtain⟨xs8,sl8,al8⟩:=hpa
    have sz8:=(eW0.trans (eD.trans ez7)).size
    have sa8:=(ez7).size
    have lt8:=oz7.lt
    obtain⟨va8,wz8,hr8,oz8,gr8⟩:=oz7.app (P:=Tryz.prog) (t:=41) (ty:=41) (m:=path) KN f4 rfl (by omega) (by omega) (sl8.ext (eW0.trans (eD.trans ez7))) (eo al8.rp) ((al8.ext (eW0.trans (eD.trans ez7))).weak fun k hk=>by
     rcases hk with hk|hk
     ·exact .inl hk
     ·exact .inl (by have:=(lt8 k hk).1;have:=e0D.size;show w0.heap.size≤k;omega)) bN (by simp;omega) (by have:=(ez7).size;omega)
    have ez8:aJ w1_3.drew wz8:=aJ.of_grew ez7 gr8 fun k hk=>(lt8 k hk).1
    refine aQ 2 (by kernel_rfl) E (aW E E hr8 (aF (hS.ext ez8) ?_))
    have bz8:=Sl.mv bz7 (Mv.of_grown (X:=fun k=>v7.ownBlock=some k) gr8.grown fun k hk _=>hk) (fun k hk hx=>nr7 k hk hx)
    obtain⟨vf,wf,hrf,of,ef,_,nf⟩:=pl (w0:=w0) (w6:=w1_3.drew) (X:=(fun k=>w0.heap.size≤k)) (d:=(dk n i)) e0D ez8 (aJ.refl _) (fun _ h=>h) hdx hdy oz8 bz8 (by simp;omega)
    refine aQ 5 (by kernel_rfl) E (aW E E hrf (aF (hS.ext ef) ?_))
    refine aQ 6 (by kernel_rfl) E (ac E E (aF (hS.ext ef) ?_))
    refine hk _ _ ⟨vf,⟨rfl,trivial⟩,eW0.trans (eD.trans ef),?_,fun k hk=>by have:=(of.lt k hk).1;have:=(eW0.trans eD).size;omega⟩
    obtain⟨nn,xs,h1,h2⟩:=of
    exact⟨xs,Sl.of_own h1,h2.weak fun k hk=>.inl (.inl hk)⟩
  rintro vf wf ⟨ef,pf,nf⟩
  refine fS (by kernel_rfl) ?_
  refine ab (aw (av E E ?_))
  exact⟨_,rfl,ef,pf,nf⟩
end Go.Rl
namespace Go.Rl
open Go.RowKit Go.Proofs
theorem xI:aH Tryz.prog 64:=⟨_,Tryz.func64,by kernel_rfl,rfl⟩
section
variable {w0 w w' w1:World} {g gc g1 g2:Nat} {t tc a b:JT} {ids ic i1 i2:List Nat} {n:aV} {pt ps:List bz} {d s:bz} {x y p q:Value}
def KA (w0 w:World) (g:Nat) (t:JT) (ids:List Nat) (n:aV) (pt:List bz) (w':World):Prop:=
 ∃t' ids',gt n pt t=some t'∧Mv (fun k=>k∈ids) w w'∧jp w0 w' g t' ids'∧∀k∈ids',k∈ids∨w.heap.size≤k
def sa (w0 w:World) (g:Nat) (t:JT) (ids:List Nat) (n:aV) (pt ps:List bz) (gc:Nat) (tc:JT) (ic:List Nat) (w':World):Prop:=
 (∀w'' t'' i'',Mv (fun k=>k∈ic) w' w''→gt n ps tc=some t''→jp w0 w'' gc t'' i''→(∀k∈i'',k∈ic∨w'.heap.size≤k)→KA w0 w g t ids n pt w'')∧(gt n ps tc=none→gt n pt t=none)
theorem sa.start (e:aJ w w'):sa w0 w g t ids n pt pt g t ids w':=
 ⟨fun _ t'' i'' m h1 h2 h3=>⟨t'',i'',h1,(Mv.of_ext (X:=fun k=>k∈ids) e).trans m fun _ hk _=>hk,h2,fun k hk=>(h3 k hk).imp id fun h=>Nat.le_trans e.size h⟩,id⟩
theorem zl (hop:pj d t=.split s a b) (hs:s=d):gt n (d::ps) t=(gt n ps a).map fun a'=>.split s a' b:=by
 show(match pj d t with
  |.split s a b=>if s=d then(gt n ps a).map fun a'=>JT.split s a' b else if bT s=d then(gt n ps b).map fun b'=>.split s a b' else none
  |.leaf _=>none
  |.gap=>none)=_
 rw[hop]
 simp only[]
 rw[if_pos hs]
theorem zm (hop:pj d t=.split s a b) (hs:¬s=d) (ho:bT s=d):gt n (d::ps) t=(gt n ps b).map fun b'=>.split s a b':=by
 show(match pj d t with
  |.split s a b=>if s=d then(gt n ps a).map fun a'=>JT.split s a' b else if bT s=d then(gt n ps b).map fun b'=>.split s a b' else none
  |.leaf _=>none
  |.gap=>none)=_
 rw[hop]
 simp only[]
 rw[if_neg hs,if_pos ho]
def C3 (d:bz) (t:JT):Prop:=(∃m,t=.leaf m)∨∃s a b,pj d t=.split s a b∧s≠d∧bT s≠d
theorem B7 (h:C3 d t):gt n (d::ps) t=none:=by
 show(match pj d t with
  |.split s a b=>if s=d then(gt n ps a).map fun a'=>JT.split s a' b else if bT s=d then(gt n ps b).map fun b'=>.split s a b' else none
  |.leaf _=>none
  |.gap=>none)=_
 rcases h with⟨m,rfl⟩|⟨s,a,b,hop,h1,h2⟩
 ·rfl
 ·rw[hop]
  simp only[]
  rw[if_neg h1,if_neg h2]
theorem EC (d:bz) (t:JT):(∃s a b,pj d t=.split s a b∧s=d)∨(∃s a b,pj d t=.split s a b∧(¬s=d)∧bT s=d)∨C3 d t:=by
 have key:∀s a b,pj d t=.split s a b→(∃s a b,pj d t=.split s a b∧s=d)∨(∃s a b,pj d t=.split s a b∧(¬s=d)∧bT s=d)∨C3 d t:=fun s a b h=>by
  by_cases h1:s=d
  ·exact .inl ⟨s,a,b,h,h1⟩
  ·by_cases h2:bT s=d
   ·exact .inr (.inl ⟨s,a,b,h,h1,h2⟩)
   ·exact .inr (.inr (.inr ⟨s,a,b,h,h1,h2⟩))
 cases t with
 |gap=>exact key _ _ _ rfl
 |leaf m=>exact .inr (.inr (.inl ⟨m,rfl⟩))
 |split s a b=>exact key _ _ _ rfl
theorem lP.swap (h:lP w0 w g ids s a b x y g1 g2 i1 i2 w'):aJ w0 w→aJ w0 w':=fun e=>h.mv.ext_from e fun k hk=>by have:=h.young;omega
theorem sa.ext (h:sa w0 w g t ids n pt ps gc tc ic w') (e:aJ w' w1):sa w0 w g t ids n pt ps gc tc ic w1:=
 ⟨fun w'' t'' i'' m h1 h2 h3=>h.1 w'' t'' i'' ((Mv.of_ext (X:=fun k=>k∈ic) e).trans m fun _ hk _=>hk) h1 h2 fun k hk=>(h3 k hk).imp id fun h=>Nat.le_trans e.size h,h.2⟩
theorem sa.go1 (h:sa w0 w g t ids n pt (d::ps) gc tc ic w') (hin:gc∈ic) (hM:lP w0 w' gc ic s a b x y g1 g2 i1 i2 w1) (hop:pj d tc=.split s a b) (hs:s=d):sa w0 w g t ids n pt ps g1 a i1 w1:=by
 have sz:=hM.mv.size
 refine⟨fun w'' t'' i'' m h1 h2 h3=>?_,fun h1=>h.2 (by rw[zl hop hs,h1];rfl)⟩
 have gl:=hM.blk.lt
 have m1:Mv (fun k=>k∈ic) w' w1:=hM.mv.weak fun k hk _=>by have e:k=gc:=hk;rw[e];exact hin
 have hf:∀k∈i'',k∈i1∨w1.heap.size≤k:=h3
 have j2:=hM.k2.mv m fun k hk hk'=>hM.n3 k hk' hk
 refine h.1 w'' (.split s t'' b) (gc::(i''++i2)) (m1.trans m fun k hk hkl=>(hM.fresh k (.inl hk)).resolve_right (by omega)) (by rw[zl hop hs,h1];rfl) (jp.split hM.hx hM.hy (m.blk hM.blk hM.n1) h2 j2 hM.young (fun hk=>?_) hM.n2 fun k hk hk2=>?_) fun k hk=>?_
 ·rcases hf _ hk with h4|h4
  ·exact hM.n1 h4
  ·omega
 ·rcases hf _ hk with h4|h4
  ·exact hM.n3 k h4 hk2
  ·have:=hM.k2.lt k hk2;omega
 ·simp only[List.mem_cons,List.mem_append] at hk
  rcases hk with rfl|hk|hk
  ·exact .inl hin
  ·rcases hf _ hk with h4|h4
   ·exact hM.fresh k (.inl h4)
   ·exact .inr (by omega)
  ·exact hM.fresh k (.inr hk)
theorem sa.go2 (h:sa w0 w g t ids n pt (d::ps) gc tc ic w') (hin:gc∈ic) (hM:lP w0 w' gc ic s a b x y g1 g2 i1 i2 w1) (hop:pj d tc=.split s a b) (hs:¬s=d) (ho:bT s=d):sa w0 w g t ids n pt ps g2 b i2 w1:=by
 have sz:=hM.mv.size
 refine⟨fun w'' t'' i'' m h1 h2 h3=>?_,fun h1=>h.2 (by rw[zm hop hs ho,h1];rfl)⟩
 have gl:=hM.blk.lt
 have m1:Mv (fun k=>k∈ic) w' w1:=hM.mv.weak fun k hk _=>by have e:k=gc:=hk;rw[e];exact hin
 have hf:∀k∈i'',k∈i2∨w1.heap.size≤k:=h3
 have j1:=hM.k1.mv m fun k hk hk'=>hM.n3 k hk hk'
 refine h.1 w'' (.split s a t'') (gc::(i1++i'')) (m1.trans m fun k hk hkl=>(hM.fresh k (.inr hk)).resolve_right (by omega)) (by rw[zm hop hs ho,h1];rfl) (jp.split hM.hx hM.hy (m.blk hM.blk hM.n2) j1 h2 hM.young hM.n1 (fun hk=>?_) fun k hk1 hk=>?_) fun k hk=>?_
 ·rcases hf _ hk with h4|h4
  ·exact hM.n2 h4
  ·omega
 ·rcases hf _ hk with h4|h4
  ·exact hM.n3 k hk1 h4
  ·have:=hM.k1.lt k hk1;omega
 ·simp only[List.mem_cons,List.mem_append] at hk
  rcases hk with rfl|hk|hk
  ·exact .inl hin
  ·exact hM.fresh k (.inl hk)
  ·rcases hf _ hk with h4|h4
   ·exact hM.fresh k (.inr h4)
   ·exact .inr (by omega)
end
section
variable {w0 w:World} {g:Nat} {t a b:JT} {ids:List Nat} {d s:bz} {p q:Value}
theorem H8 (e0:aJ w0 w) (ho:zp w0) (hJ:jp w0 w g t ids) (hp:bi d.at_.2.1 p w0) (hq:bi d.at_.2.2 q w0) (hop:pj d t=.split s a b) (hs:s=d):
 Calls Tryz.prog 108 #[.pointer (some ⟨g,0,none⟩),.agg #[I d.kd,I d.ix,B d.at_.1,p,q]] w (bH fun r w'=>aJ w0 w'∧∃x y g1 g2 i1 i2,lP w0 w g ids s a b x y g1 g2 i1 i2 w'∧r=.tuple #[.pointer (some ⟨g1,0,none⟩),B true]):=by
 refine bH.mono (qc e0 ho hJ hp hq) fun r w' h=>?_
 rcases h with⟨m,rfl,_⟩|⟨s',a',b',x,y,g1,g2,i1,i2,h1,h2,h3⟩
 ·cases hop
 ·rw[hop] at h1
  obtain⟨rfl,rfl,rfl⟩:=JT.split.inj h1
  rw[if_pos hs] at h3
  exact⟨h2.swap e0,x,y,g1,g2,i1,i2,h2,h3⟩
theorem H9 (e0:aJ w0 w) (ho:zp w0) (hJ:jp w0 w g t ids) (hp:bi d.at_.2.1 p w0) (hq:bi d.at_.2.2 q w0) (hop:pj d t=.split s a b) (hs:¬s=d) (h0:bT s=d):
 Calls Tryz.prog 108 #[.pointer (some ⟨g,0,none⟩),.agg #[I d.kd,I d.ix,B d.at_.1,p,q]] w (bH fun r w'=>aJ w0 w'∧∃x y g1 g2 i1 i2,lP w0 w g ids s a b x y g1 g2 i1 i2 w'∧r=.tuple #[.pointer (some ⟨g2,0,none⟩),B true]):=by
 refine bH.mono (qc e0 ho hJ hp hq) fun r w' h=>?_
 rcases h with⟨m,rfl,_⟩|⟨s',a',b',x,y,g1,g2,i1,i2,h1,h2,h3⟩
 ·cases hop
 ·rw[hop] at h1
  obtain⟨rfl,rfl,rfl⟩:=JT.split.inj h1
  rw[if_neg hs,if_pos h0] at h3
  exact⟨h2.swap e0,x,y,g1,g2,i1,i2,h2,h3⟩
theorem Ia (e0:aJ w0 w) (ho:zp w0) (hJ:jp w0 w g t ids) (hp:bi d.at_.2.1 p w0) (hq:bi d.at_.2.2 q w0) (hn:C3 d t):
 Calls Tryz.prog 108 #[.pointer (some ⟨g,0,none⟩),.agg #[I d.kd,I d.ix,B d.at_.1,p,q]] w (bH fun r w'=>aJ w0 w'∧Mv (fun k=>k=g) w w'∧r=.tuple #[.pointer none,B false]):=by
 refine bH.mono (qc e0 ho hJ hp hq) fun r w' h=>?_
 rcases h with⟨m,rfl,h1,h2⟩|⟨s',a',b',x,y,g1,g2,i1,i2,h1,h2,h3⟩
 ·exact⟨e0.trans h1,Mv.of_ext h1,h2⟩
 ·refine⟨h2.swap e0,h2.mv,?_⟩
  rcases hn with⟨m,rfl⟩|⟨s,a,b,hop,n1,n2⟩
  ·cases h1
  ·rw[hop] at h1
   obtain⟨rfl,rfl,rfl⟩:=JT.split.inj h1
   rw[if_neg n1,if_neg n2] at h3
   exact h3
end
theorem C6 {w:World} {n:aV} {vl x y vk vp:Value} (hl:ct cP n.lems vl w) (hx:bi n.split.at_.2.1 x w) (hy:bi n.split.at_.2.2 y w) (hk:ct bm n.kids vk w) (hp:ct bI n.pf vp w):Rp w (bm n) [vl,I n.split.kd,I n.split.ix,B n.split.at_.1,x,y,vk,B n.empty,vp]:=by
 cases n with
 |mk ls s ks em pf=>exact(g0 (Rp.x hl) (uS hx hy).x (Rp.x hk) (Rp.x hp)).rp
def JI (w0 w:World) (g:Nat) (t:JT) (ids:List Nat) (n:aV) (pt:List bz) (r:Value) (w':World):Prop:=aJ w0 w'∧Mv (fun k=>k∈ids) w w'∧((gt n pt t=none∧r=B false)∨(r=B true∧KA w0 w g t ids n pt w'))
theorem xJ {w0 w:World} {g:Nat} {t:JT} {ids:List Nat} {u:cn} {vd vl x y vk vp:Value} (e0:aJ w0 w) (ho:zp w0) (hJ:jp w0 w g t ids) (hd:ct cQ u.path vd w0) (hl:ct cP u.leaf.lems vl w0) (hx:bi u.leaf.split.at_.2.1 x w0) (hy:bi u.leaf.split.at_.2.2 y w0) (hk:ct bm u.leaf.kids vk w0) (hp:ct bI u.leaf.pf vp w0):
 Calls Tryz.prog 64 #[.pointer (some ⟨g,0,none⟩),.agg #[vd,vl,I u.leaf.split.kd,I u.leaf.split.ix,B u.leaf.split.at_.1,x,y,vk,B u.leaf.empty,vp]] w (bH fun r w'=>JI w0 w g t ids u.leaf u.path r w'):=by
 refine enter (vs:=[.pointer (some ⟨g,0,none⟩),.agg #[vd,vl,I u.leaf.split.kd,I u.leaf.split.ix,B u.leaf.split.at_.1,x,y,vk,B u.leaf.empty,vp]]) Tryz.func64 E E E ?_
 refine af (aa ?_)
 obtain⟨g3,w3,hr3,l3,x3,k3⟩:=ca (P:=Tryz.prog) (w:=w) (T:=54) (cs:=[vd,vl,I u.leaf.split.kd,I u.leaf.split.ix,B u.leaf.split.at_.1,x,y,vk,B u.leaf.empty,vp])
 refine cm E E hr3 (ac E E (ag (ab (af (af ?_)))))
 have hll:=hd.len
 have hg3:∀k∈ids,k<g3:=fun k hk=>Nat.lt_of_lt_of_le (hJ.lt k hk) l3
 refine aa (ah E E (ap (o:=0) KK E (by kernel_rfl) E) (aj E E (ai KN E (k3.cell (i:=0) E)) ?_))
 refine aS E E (a9 KN (hd.ext (e0.trans x3))) (ae E E (ag (ab (aE ?_))))
 refine mf (fun(i:Nat) (gc:Nat) (tc:JT) (ic:List Nat)=>[(0,.pointer (some ⟨gc,0,none⟩)),(3,.pointer (some ⟨g3,0,none⟩)),(4,B false),(11,vd),(12,I ((u.path.length:Nat):Int)),(13,I (i:Int))]) (fun(i:Nat) (gc:Nat) (tc:JT) (ic:List Nat) w'=>aJ w0 w'∧i≤u.path.length∧jp w0 w' gc tc ic∧bA g3 54 [vd,vl,I u.leaf.split.kd,I u.leaf.split.ix,B u.leaf.split.at_.1,x,y,vk,B u.leaf.empty,vp] w'∧g3∉ic∧sa w0 w g t ids u.leaf u.path (u.path.drop i) gc tc ic w'∧Mv (fun k=>k∈ids) w w'∧∀k∈ic,k∈ids∨w.heap.size≤k) (fun(i:Nat) (gc:Nat) (tc:JT) (ic:List Nat)=>u.path.length-i) (0) (g) (t) (ids) ⟨rfl,rfl,rfl,rfl,rfl,rfl,trivial⟩ ⟨e0.trans x3,by omega,hJ.mv (Mv.of_ext (X:=fun _=>False) x3) (fun _ _ h=>h),k3,fun h=>by have:=hg3 _ h;omega,sa.start x3,Mv.of_ext x3,fun k hk=>.inl hk⟩ ?_
 rintro i gc tc ic wL ⟨eL,hi,hjL,kL,nL,hC,mL,frL⟩
 refine af (aa (ak E E E (bb) (ag (ab (af ?_)))))
 refine bt E (fun h14=>?_) (fun h14=>?_)
 ·refine aC (ab (af (aE (af (aa ?_)))))
  obtain⟨a15,c15,p15,q15,h15⟩:=bR (P:=Tryz.prog) (sz:=5) KN (by kernel_rfl) bN (by omega) hd (i:=i) ((by omega)) .i64
  obtain⟨e15,he15⟩:∃e,e=u.path[i]'((by omega)):=⟨_,rfl⟩
  rw[←he15] at h15
  obtain⟨x15_0,x15_1,rfl,f15_0,f15_1⟩:=fE h15
  refine au E E E (p15 _) (aj E E ((q15.ext eL).ld KH E (by kernel_rfl)) ?_)
  obtain⟨g6,w6,hr6,l6,x6,k6⟩:=aZ (P:=Tryz.prog) (w:=wL) (t:=48) (z:=.agg #[I 0,I 0,B false,.slice none 0 0,.slice none 0 0]) (l:=[I 0,I 0,B false,.slice none 0 0,.slice none 0 0]) (by kernel_rfl) rfl
  refine aX E hr6 ?_
  obtain⟨w3_3,s3_3,q3_3,k3_3⟩:=k6.stS (P:=Tryz.prog) (t:=48) (m:=[I e15.kd,I e15.ix,B e15.at_.1,x15_0,x15_1]) rfl (by kernel_rfl) (ao.cons rfl (ao.cons rfl (ao.cons rfl (ao.cons f15_0.one (ao.cons f15_1.one ao.nil)))))
  refine ax E E s3_3 ?_
  have x3_3:=aJ.of_new (x6) q3_3 l6
  refine ag (ab (af ?_))
  have hdr:u.path.drop i=e15::u.path.drop (i+1):=by rw[he15];exact List.drop_eq_getElem_cons (by omega)
  rw[hdr] at hC
  have hCN:=hC.ext (x3_3)
  have hjN:=hjL.mv (Mv.of_ext (X:=fun _=>False) (x3_3)) (fun _ _ h=>h)
  have hroot:=hjL.root
  have kN:=kL.ext (x3_3)
  have frc:∀k,k=gc→k<w.heap.size→k∈ids:=fun k hk hlt=>(frL k (hk▸hroot)).resolve_right (by omega)
  have mN:Mv (fun k=>k∈ids) w _:=mL.trans (Mv.of_ext (X:=fun k=>k∈ids) (x3_3)) fun _ h _=>h
  have szL:=mL.size
  have hgc:g3≠gc:=fun h=>nL (h▸hroot)
  rcases EC e15 tc with⟨s,a,b,hop,hs⟩|⟨s,a,b,hop,hs,hs2⟩|hno
  ·refine aa (ae E E (aj E E (k3_3.ld KH E (by kernel_rfl)) (an qa E E ((H8 (ids:=ic) (eL.trans x3_3) ho hjN f15_0 f15_1 hop hs)) ?_)))
   rintro v20 w20 ⟨y20,x1,y1,g1,g2,i1,i2,hM,rfl⟩
   refine ae E E (az E E (ce) (az E E (cf) (ac E E (ac E E (ag (ab (af (af (aa (ae E E (bo E E bu ?_)))))))))))
   refine ag (ab (cy E (aC (ab (aa (ae E E (ac E E (ag (aR (ab (aa (ak (r:=I ((i+1:Nat):Int)) E E E (by have e:((i+1:Nat):Int)=(i:Int)+1:=(by omega);rw[e];exact aP (by omega) (by omega)) ?_))))))))))))
   refine ae E E (ag ?_)
   refine gA (i+1) (g1) (a) (i1) ⟨rfl,rfl,rfl,rfl,rfl,rfl,trivial⟩ ⟨y20,by omega,hM.k1,hM.mv.blk kN hgc,fun h=>(hM.fresh _ (.inl h)).elim nL fun h=>by have:=kN.lt;omega,hCN.go1 hroot hM hop hs,mN.trans hM.mv frc,fun k hk=>(hM.fresh k (.inl hk)).elim (frL k) fun h=>.inr (by have:=mN.size;omega)⟩ (by omega)
  ·refine aa (ae E E (aj E E (k3_3.ld KH E (by kernel_rfl)) (an qa E E ((H9 (ids:=ic) (eL.trans x3_3) ho hjN f15_0 f15_1 hop hs hs2)) ?_)))
   rintro v20 w20 ⟨y20,x1,y1,g1,g2,i1,i2,hM,rfl⟩
   refine ae E E (az E E (ce) (az E E (cf) (ac E E (ac E E (ag (ab (af (af (aa (ae E E (bo E E bu ?_)))))))))))
   refine ag (ab (cy E (aC (ab (aa (ae E E (ac E E (ag (aR (ab (aa (ak (r:=I ((i+1:Nat):Int)) E E E (by have e:((i+1:Nat):Int)=(i:Int)+1:=(by omega);rw[e];exact aP (by omega) (by omega)) ?_))))))))))))
   refine ae E E (ag ?_)
   refine gA (i+1) (g2) (b) (i2) ⟨rfl,rfl,rfl,rfl,rfl,rfl,trivial⟩ ⟨y20,by omega,hM.k2,hM.mv.blk kN hgc,fun h=>(hM.fresh _ (.inr h)).elim nL fun h=>by have:=kN.lt;omega,hCN.go2 hroot hM hop hs hs2,mN.trans hM.mv frc,fun k hk=>(hM.fresh k (.inr hk)).elim (frL k) fun h=>.inr (by have:=mN.size;omega)⟩ (by omega)
  ·refine aa (ae E E (aj E E (k3_3.ld KH E (by kernel_rfl)) (an qa E E ((Ia (ids:=ic) (eL.trans x3_3) ho hjN f15_0 f15_1 hno)) ?_)))
   rintro v20 w20 ⟨y20,m20,rfl⟩
   refine ae E E (az E E (ce) (az E E (cf) (ac E E (ac E E (ag (ab (af (af (aa (ae E E (bo E E bu ?_)))))))))))
   refine ag (ab (bg E (af (aa (ac E E (ag (ab (aw (aD (aY (aD (aD (aY (aD (av E E ?_)))))))))))))))
   exact⟨_,rfl,y20,mN.trans m20 frc,.inl ⟨hC.2 (B7 hno),rfl⟩⟩
 ·refine be (aK (aK (bf (ab (af (af ?_))))))
  have hgL:w0.heap.size≤gc:=hjL.young gc hjL.root
  rw[List.drop_eq_nil_of_le (by omega)] at hC
  rcases tc with _|m|⟨s,a,b⟩
  ·obtain⟨hid,kg⟩:=zj hjL
   refine aa (ae E E (aq E E (ah E E (ap (o:=5) KW E (by kernel_rfl) E) ?_)))
   refine au E E E (gq Lc (by kernel_rfl) (i:=0) (by omega) .i64) ?_
   refine aj E E (ai K0 E (kg.cell (i:=5) E)) (ak E E E (gx K0) (ag (ab ?_)))
   refine cy E (aC (ab (af (af (aa (ae E E (aq E E (ah E E (ap (o:=7) KW E (by kernel_rfl) E) ?_))))))))
   refine aj E E (ai K8 E (kg.cell (i:=7) E)) (ak E E E (fP K8) (ag (ab (bg E ?_))))
   refine af ?_
   have hlL:=hl.ext eL
   have hxL:=hx.ext eL
   have hyL:=hy.ext eL
   have hkL:=hk.ext eL
   have hpL:=hp.ext eL
   refine aa (ah rfl rfl (ap (o:=1) Tryz.underlying54 rfl (by kernel_rfl) rfl) (aj rfl rfl (kL.ldO (ms:=[vl,I u.leaf.split.kd,I u.leaf.split.ix,B u.leaf.split.at_.1,x,y,vk,B u.leaf.empty,vp]) (o:=1) (fun j v hj=>by rcases j with _|_|_|_|_|_|_|_|_|j<;>simp_all) Tryz.underlying52 rfl (by kernel_rfl)) ?_))
   obtain⟨g9,w9,hr9,l9,x9,k9⟩:=aZ (P:=Tryz.prog) (w:=wL) (t:=52) (z:=.agg #[.slice none 0 0,I 0,I 0,B false,.slice none 0 0,.slice none 0 0,.slice none 0 0,B false,.slice none 0 0]) (l:=[.slice none 0 0,I 0,I 0,B false,.slice none 0 0,.slice none 0 0,.slice none 0 0,B false,.slice none 0 0]) (by kernel_rfl) rfl
   refine aX E hr9 ?_
   obtain⟨w12_3,s12_3,q12_3,k12_3⟩:=k9.stS (P:=Tryz.prog) (t:=52) (m:=[vl,I u.leaf.split.kd,I u.leaf.split.ix,B u.leaf.split.at_.1,x,y,vk,B u.leaf.empty,vp]) rfl (by kernel_rfl) (ao.cons hlL.one (ao.cons rfl (ao.cons rfl (ao.cons rfl (ao.cons hxL.one (ao.cons hyL.one (ao.cons hkL.one (ao.cons rfl (ao.cons hpL.one ao.nil)))))))))
   refine ax E E s12_3 ?_
   have x12_3:=aJ.of_new (x9) q12_3 l9
   refine ag (ab (aa (ae E E (aq E E (ah E E (ap (o:=7) KW E (by kernel_rfl) E) ?_)))))
   obtain⟨w13,s13,q13,k13⟩:=(kg.ext (x12_3)).stC (P:=Tryz.prog) (t:=112) (i:=7) (v:=.pointer (some ⟨g9,0,none⟩)) (by kernel_rfl) rfl (by decide)
   refine ax E E s13 ?_
   have y13:=aJ.of_new ((eL.trans x12_3)) q13 hgL
   have m13:=(Mv.of_ext (X:=fun k=>k∈ic) (x12_3)).trans (Mv.of_grown (X:=fun k=>k=gc) q13 fun k hk _=>(Option.some.inj hk).symm) fun k hk _=>by have e:k=gc:=hk;rw[hid,e];simp
   refine ag (ab (af (aa (ac E E (ag (ab (aw (av E E ?_))))))))
   exact⟨_,rfl,y13,mL.trans m13 (fun k hk hlt=>(frL k hk).resolve_right (by omega)),.inr ⟨rfl,hC.1 w13 (.leaf u.leaf) [gc,g9] m13 rfl (jp.leaf k13 (k12_3.other q13 (fun e=>by have:=Option.some.inj e;have:=kg.lt;omega)) (C6 hl hx hy hk hp) hgL (by have:=eL.size;omega) (by have:=kg.lt;omega)) fun k hk=>by
    have:=kg.lt
    simp only[List.mem_cons,List.not_mem_nil,or_false] at hk
    rcases hk with rfl|rfl
    ·exact .inl (by rw[hid];simp)
    ·exact .inr (by omega)⟩⟩
  ·obtain⟨gl,cl,hid,kg,kl,hrl⟩:=tH hjL
   refine aa (ae E E (aq E E (ah E E (ap (o:=5) KW E (by kernel_rfl) E) ?_)))
   refine au E E E (gq Lc (by kernel_rfl) (i:=0) (by omega) .i64) ?_
   refine aj E E (ai K0 E (kg.cell (i:=5) E)) (ak E E E (gx K0) (ag (ab ?_)))
   refine cy E (aC (ab (af (af (aa (ae E E (aq E E (ah E E (ap (o:=7) KW E (by kernel_rfl) E) ?_))))))))
   refine aj E E (ai K8 E (kg.cell (i:=7) E)) (ak E E E (fP K8) (ag (ab (cy E ?_))))
   refine aC (ab (af (aa (ac E E (ag (ab (aw (av E E ?_))))))))
   exact⟨_,rfl,eL,mL,.inr ⟨rfl,hC.1 wL (.leaf m) ic (Mv.refl _ _) rfl hjL fun k hk=>.inl hk⟩⟩
  ·obtain⟨x1,y1,g1,g2,i1,i2,hid,hx1,hy1,kg,j1,j2,_,n1,n2,n3⟩:=hjL.split_inv
   refine aa (ae E E (aq E E (ah E E (ap (o:=5) KW E (by kernel_rfl) E) ?_)))
   refine au E E E (gq Lc (by kernel_rfl) (i:=0) (by omega) .i64) ?_
   refine aj E E (ai K0 E (kg.cell (i:=5) E)) (ak E E E (gx K0) (ag (ab ?_)))
   refine bg E (af (aa (ac E E (ag (ab (aw (aD (av E E ?_))))))))
   exact⟨_,rfl,eL,mL,.inl ⟨hC.2 rfl,rfl⟩⟩
end Go.Rl
namespace Go.Rl
open Go.RowKit Go.Proofs
theorem qf {w0:World} (ho:zp w0) {t:JT} (ih:∀s a b,t=.split s a b→B1 w0 a∧B1 w0 b):B1 w0 t:=by
 intro F w g ids path pv gm mv ms hF e0 hJ hC hd hp hpl hml
 have hg:w0.heap.size≤g:=hJ.young g hJ.root
 have hgl:g<w.heap.size:=hJ.lt g hJ.root
 have hny:¬YM gm mv g:=hd g hJ.root
 refine enter (vs:=[.pointer (some ⟨g,0,none⟩),pv,.pointer (some ⟨gm,0,none⟩)]) Tryz.func65 E E E ?_
 refine af (aa ?_)
 obtain⟨g6,w6,hr6,l6,x6,k6⟩:=aZ (P:=Tryz.prog) (w:=w) (t:=52) (z:=.agg #[.slice none 0 0,I 0,I 0,B false,.slice none 0 0,.slice none 0 0,.slice none 0 0,B false,.slice none 0 0]) (l:=[.slice none 0 0,I 0,I 0,B false,.slice none 0 0,.slice none 0 0,.slice none 0 0,B false,.slice none 0 0]) (by kernel_rfl) rfl
 refine aX E hr6 (ag (ab (af (af ?_))))
 have hg6:g≠g6:=by omega
 have s6:=x6.size
 have lg6:=k6.lt
 have hgm:=hC.cell.lt
 have hmvl:=hC.own.lt
 have n6:¬YM gm mv g6:=fun h=>by have:=(hC.ym_young h).2;omega
 have hFF:∀k,(F k∨k=g6)→w0.heap.size≤k∧k<w6.heap.size:=fun k hk=>by
  have:=e0.size
  rcases hk with hk|hk
  ·have:=hF k hk;exact⟨this.1,by omega⟩
  ·omega
 have hC6:xF w0 w6 (fun k=>F k∨k=g6) gm mv ms:=(hC.weak fun k hk=>hk.imp id fun h=>by omega).ext x6
 have hp6:cv (fun k=>YM gm mv k∨(F k∨k=g6)) w6 (.sl (path.map cQ)) [pv]:=(hp.weak fun k hk=>by rcases hk with hk|hk|hk;exact .inl (.inl hk);exact .inl (.inr hk);exact .inr (by omega)).ext x6
 have hJ2:=hJ
 rcases t.shape with ht|⟨n,ht⟩|⟨s,a,b,ht⟩
 ·rw[ht] at hJ2
  obtain⟨hid,kg⟩:=zj hJ2
  have kg6:bA g 114 [I 0,I 0,B false,.slice none 0 0,.slice none 0 0,.pointer none,.pointer none,.pointer none] w6:=kg.ext x6
  refine aa (ae E E (aq E E (ah E E (ap (o:=7) KW E (by kernel_rfl) E) (aj E E (ai K8 E (kg6.cell (i:=7) E)) ?_))))
  refine ak E E E (gx K8) (ag (ab (cy E (aC (ab (af (af (aa (ae E E (aq E E (ah E E (ap (o:=5) KW E (by kernel_rfl) E) ?_)))))))))))
  refine au E E E (gq Lc (by kernel_rfl) (i:=0) (by omega) .i64) ?_
  refine aj E E (ai K0 E (kg6.cell (i:=5) E)) (ak E E E (fP K0) (ag ?_))
  refine ab (bg E (af ?_))
  have hpl':path.length≤1099511627776:=by omega
  have hg1:t.gaps=1:=by rw[ht];rfl
  refine tB 7 [7,8,9] [6,26,29,32] (by kernel_rfl) (by kernel_rfl) E E E ?_
  refine ay rfl rfl (cN rfl rfl (aN rfl rfl (fun w' hw=>ai Ld rfl (hC6.cell.ext hw).k0) (ay rfl rfl (cd (S:=eu 48 5 w6.heap.size (fun k=>YM gm mv k∨(F k∨k=g6)) cQ path) ft (eu.stable) rfl (fun w hw=>by rintro _ rfl;exact bH.mono (fv (hp6.ext hw) hpl') fun v w' h=>⟨h.1,h.2.low hw.size⟩) ?_))))
  refine f8 (S:=fun v w'=>∃pv1,eu 48 5 w6.heap.size (fun k=>YM gm mv k∨(F k∨k=g6)) cQ path pv1 w'∧Sl 1 [pv1] v w') (fun _ _ _ ⟨pv1,h1,h2⟩ hx=>⟨pv1,h1.ext hx,h2.ext hx⟩) E (fun w' hw=>by
 intro pv1 h1
 obtain⟨r,w2,a1,a2,a3,_⟩:=ir (P:=Tryz.prog) (w:=w') (base:=0) Tryz.underlying59 oW [pv1] (ao.cons h1.one ao.nil) (by simp) (Nat.zero_le _)
 exact⟨r,w2,a1,a2,pv1,h1.ext a2,Sl.of_own a3⟩) ?_
  refine cb ?_
  intro wg4 xg4
  rintro _ rfl
  rintro _ rfl
  rintro _ hq29
  obtain rfl:=Eq.symm hq29
  intro vg32 b32
  obtain⟨pv1,o1,sl1⟩:=b32
  have sg4:=xg4.size
  have own1:=o1.lt
  have hC4:=hC6.ext xg4
  have rp1:cv (fun k=>(k=gm∨(F k∨k=g6))∨mv.ownBlock=some k) wg4 (ie path) [pv1]:=(o1.rpx bN (by omega) (fun _ h=>h) fun k hk hk'=>by
   have h1:=(own1 k hk).1
   rcases hk' with h|h
   ·have:=(hC.ym_young h).2;omega
   ·have:=(hFF k h).2;omega).weak fun k hk=>by
   rcases hk with(hk|hk)|hk
   ·exact .inl (.inl (.inl hk))
   ·exact .inl (.inr hk)
   ·exact .inl (.inl (.inr hk))
  obtain⟨v33,w33,hr33,o33,gr33⟩:=hC4.own.app (P:=Tryz.prog) (t:=59) (ty:=59) (m:=[path]) Tryz.underlying59 oW rfl (by omega) (by omega) sl1 (ao.cons o1.one ao.nil) (by simpa using aO.cons (b:=[]) rp1 aO.nil) fy (by simp;omega) (by have:=e0.size;omega)
  have m33:Mv (fun k=>mv.ownBlock=some k) wg4 w33:=Mv.of_grown gr33.grown fun k hk _=>hk
  have n33:∀k,v33.ownBlock=some k→mv.ownBlock=some k∨wg4.heap.size≤k:=fun k hk=>by
   rcases gr33.own with h|h
   ·rw[h] at hk;exact .inl hk
   ·exact .inr (h k hk)
  have c33:=m33.blk hC4.cell fun h=>hC.ne h
  have l33:=c33.lt
  have ne33:v33.ownBlock≠some gm:=fun h=>by
   rcases n33 gm h with h'|h'
   ·exact hC.ne h'
   ·omega
  obtain⟨w34,s34,q34,k34⟩:=c33.stC (P:=Tryz.prog) (t:=59) (i:=0) (v:=v33) (by kernel_rfl) o33.one (by simp)
  have m34:Mv (fun k=>k=gm) w33 w34:=Mv.of_grown q34 fun k hk _=>(Option.some.inj hk).symm
  have mm:Mv (YM gm mv) w w34:=(((Mv.of_ext (X:=YM gm mv) (x6.trans xg4)).trans m33 fun k hk _=>.inr hk).trans m34 fun k hk _=>.inl hk)
  have m64:Mv (YM gm mv) w6 w34:=(((Mv.of_ext (X:=YM gm mv) xg4).trans m33 fun k hk _=>.inr hk).trans m34 fun k hk _=>.inl hk)
  have k6b:=m64.blk k6 n6
  have o34:=o33.mv m34 (fun k hk=>.inl hk) fun k hk h=>ne33 (by have e:k=gm:=h;rw[←e];exact hk)
  refine aW E E hr33 ?_
  refine aq E E ?_
  refine ax E E s34 ?_
  refine ag (yw (ab (af (aa (bj (vs:=[]) (r:=.agg #[.slice none 0 0,I 0,I 0,B false,.slice none 0 0,.slice none 0 0,.slice none 0 0,B false,.slice none 0 0]) E E (by exact run_build _ _ _ _ (by kernel_rfl)) ?_)))))
  obtain⟨w5,s5,q5,k5⟩:=k6b.stS (P:=Tryz.prog) (t:=52) (m:=[.slice none 0 0,I 0,I 0,B false,.slice none 0 0,.slice none 0 0,.slice none 0 0,B false,.slice none 0 0]) rfl (by kernel_rfl) (ao.cons rfl (ao.cons rfl (ao.cons rfl (ao.cons rfl (ao.cons rfl (ao.cons rfl (ao.cons rfl (ao.cons rfl (ao.cons rfl ao.nil)))))))))
  refine ax E E s5 ?_
  refine ag (ab (aw (aD ?_)))
  refine cZ E E k5 KF E (by kernel_rfl) ?_
  have m5:Mv (fun k=>k=g6) w34 w5:=Mv.of_grown q5 fun k hk _=>(Option.some.inj hk).symm
  have n65:¬YM gm v33 g6:=fun h=>(YM.grow n33 h).elim n6 fun h=>by omega
  have st5:xF w0 w34 (fun k=>F k∨k=g6) gm v33 (ms++[path]):=⟨k34,o34,ne33,hC.young⟩
  refine⟨_,rfl,[.slice none 0 0,I 0,I 0,B false,.slice none 0 0,.slice none 0 0,.slice none 0 0,B false,.slice none 0 0],v33,rfl,(ao.cons E (ao.cons E (ao.cons E (ao.cons E (ao.cons E (ao.cons E (ao.cons E (ao.cons E (ao.cons E ao.nil))))))))),?_,?_,mm.trans m5 fun k hk hlt=>by have e:k=g6:=hk;omega,fun k hk=>(n33 k hk).imp id fun h=>by omega⟩
  ·rw[ht]
   exact tD
  ·rw[ht]
   exact(st5.sto m5 (.inr rfl) n65).weak fun k hk=>.inl (.inl hk)
 ·rw[ht] at hJ2
  obtain⟨gl,cl,hid,kg,kl,hrl⟩:=tH hJ2
  have kg6:bA g 114 [I 0,I 0,B false,.slice none 0 0,.slice none 0 0,.pointer none,.pointer none,.pointer (some ⟨gl,0,none⟩)] w6:=kg.ext x6
  obtain⟨vl,x,y,vk,vp,rfl,hl0,hx0,hy0,hk0,hp0⟩:=cW hrl
  have kl6:=kl.ext x6
  refine aa (ae E E (aq E E (ah E E (ap (o:=7) KW E (by kernel_rfl) E) (aj E E (ai K8 E (kg6.cell (i:=7) E)) ?_))))
  refine ak E E E (gx K8) (ag (ab (bg E (af (aa (ae E E (aq E E (ah E E (ap (o:=7) KW E (by kernel_rfl) E) ?_))))))))
  refine aj E E (ai K8 E (kg6.cell (i:=7) E)) (aq E E ?_)
  refine aj E E (kl6.ld KF E (by kernel_rfl)) ?_
  obtain⟨w2_6,s2_6,q2_6,k2_6⟩:=k6.stS (P:=Tryz.prog) (t:=52) (m:=[vl,I n.split.kd,I n.split.ix,B n.split.at_.1,x,y,vk,B n.empty,vp]) rfl (by kernel_rfl) (ao.cons hl0.one (ao.cons rfl (ao.cons rfl (ao.cons rfl (ao.cons hx0.one (ao.cons hy0.one (ao.cons hk0.one (ao.cons rfl (ao.cons hp0.one ao.nil)))))))))
  refine ax E E s2_6 ?_
  have x2_6:=aJ.of_new (x6) q2_6 l6
  refine ag (ab (aw (aD ?_)))
  refine cZ E E k2_6 KF E (by kernel_rfl) ?_
  have e2:=x2_6
  refine⟨_,rfl,[vl,I n.split.kd,I n.split.ix,B n.split.at_.1,x,y,vk,B n.empty,vp],mv,rfl,yq hrl,?_,?_,Mv.of_ext (X:=YM gm mv) e2,fun k hk=>.inl hk⟩
  ·rw[ht]
   exact nz hrl (e0.trans e2) fun k hk=>hk.elim (fun h=>(hC.ym_young h).1) fun h=>h.1
  ·rw[ht]
   simpa [JT.miss] using hC.ext e2
 ·rw[ht] at hJ2
  obtain⟨x,y,g1,g2,i1,i2,hid,hsx,hsy,kg,j1,j2,_,n1,n2,n3⟩:=hJ2.split_inv
  have kg6:bA g 114 [I s.kd,I s.ix,B s.at_.1,x,y,.pointer (some ⟨g1,0,none⟩),.pointer (some ⟨g2,0,none⟩),.pointer none] w6:=kg.ext x6
  refine aa (ae E E (aq E E (ah E E (ap (o:=7) KW E (by kernel_rfl) E) (aj E E (ai K8 E (kg6.cell (i:=7) E)) ?_))))
  refine ak E E E (gx K8) (ag (ab (cy E (aC (ab (af (af (aa (ae E E (aq E E (ah E E (ap (o:=5) KW E (by kernel_rfl) E) ?_)))))))))))
  refine au E E E (gq Lc (by kernel_rfl) (i:=0) (by omega) .i64) ?_
  refine aj E E (ai K0 E (kg6.cell (i:=5) E)) (ak E E E (fP K0) (ag ?_))
  refine ab (cy E (aC (ab (af ?_))))
  have hA:B1 w0 a:=(ih s a b ht).1
  have hB:B1 w0 b:=(ih s a b ht).2
  have hdep:t.depth=1+max a.depth b.depth:=by rw[ht];rfl
  have hgap:t.gaps=a.gaps+b.gaps:=by rw[ht];rfl
  have hFF2:=hFF
  have hdA:∀k∈i1,¬YM gm mv k:=fun k hk=>hd k (by rw[hid];simp[hk])
  have hdB:∀k∈i2,¬YM gm mv k:=fun k hk=>hd k (by rw[hid];simp[hk])
  have hd6:=hdA
  have j1:=j1.ext x6
  have s0:=e0.size
  have sW:w0.heap.size≤w6.heap.size:=(e0.trans x6).size
  have hpl:path.length≤1099511627776:=by omega
  have hXy:∀k,(YM gm mv k∨(F k∨k=g6))→w0.heap.size≤k:=fun k hk=>hk.elim (fun h=>(hC6.ym_young h).1) fun h=>(hFF k h).1
  have hYw:∀k,YM gm mv k→k<w6.heap.size:=fun k h=>(hC6.ym_young h).2
  have hFl:∀k,(F k∨k=g6)→k<w6.heap.size:=fun k h=>(hFF2 k h).2
  have hS:bA g 114 [I s.kd,I s.ix,B s.at_.1,x,y,.pointer (some ⟨g1,0,none⟩),.pointer (some ⟨g2,0,none⟩),.pointer none] w6.drew:=kg6.ext (aJ.refl w6).drew
  have eD:aJ w6 w6.drew:=(aJ.refl w6).drew
  refine fR (fun w1=>bA g 114 [I s.kd,I s.ix,B s.at_.1,x,y,.pointer (some ⟨g1,0,none⟩),.pointer (some ⟨g2,0,none⟩),.pointer none] w1) 17 E (by kernel_rfl) ?_
  refine cT 0 E E (by kernel_rfl) E hS ?_
  refine fz 1 E E (by kernel_rfl) E hS ?_
  refine c6 2 E E (by kernel_rfl) E hS (fun _ _=>ap (o:=5) KW E (by kernel_rfl) E) ?_
  refine nN 3 E E E (by kernel_rfl) E hS (fun _ _=>gq Lc (by kernel_rfl) (i:=0) (by omega) .i64) ?_
  refine eQ 4 E E (by kernel_rfl) E hS (fun _ hw=>ai K0 E (hw.cell (i:=5) E)) ?_
  refine cT 5 E E (by kernel_rfl) E hS ?_
  refine cT 7 E E (by kernel_rfl) E hS ?_
  refine fz 8 E E (by kernel_rfl) E hS ?_
  refine c6 9 E E (by kernel_rfl) E hS (fun _ _=>ap (o:=0) KW E (by kernel_rfl) E) ?_
  refine eQ 10 rfl rfl (by kernel_rfl) rfl hS (fun _ hw=>hw.ldO (ms:=[I s.kd,I s.ix,B s.at_.1,x,y]) (o:=0) (fun j v hj=>by rcases j with _|_|_|_|_|j<;>simp_all) Tryz.underlying48 rfl (by kernel_rfl)) ?_
  refine cT 13 E E (by kernel_rfl) E hS ?_
  refine jm (fun z=>[(0,.pointer (some ⟨g,0,none⟩)),(1,pv),(2,.pointer (some ⟨gm,0,none⟩)),(6,.pointer (some ⟨g6,0,none⟩)),(7,.pointer (some ⟨z.2.2,0,none⟩))]) (fun(z:Value×List Value×Nat) w1=>th w0 w6 (fun k=>F k∨k=g6) z.2.2 gm mv z.1 (ms++a.miss (path++[s])) a.node z.2.1 w1) #[true,true,true,true,true,true,true,true,true,true,true,true,true,true,true,true,true] 0 ?_ (fun hk=>?_)
  rotate_left
  ·refine jm (fun z=>[(0,.pointer (some ⟨g,0,none⟩)),(1,pv),(2,.pointer (some ⟨gm,0,none⟩)),(6,.pointer (some ⟨g6,0,none⟩)),(40,.pointer (some ⟨g1,0,none⟩)),(49,.pointer (some ⟨gm,0,none⟩)),(42,z.1),(47,z.2.1),(7,.pointer (some ⟨z.2.2,0,none⟩))]) (fun(z:Value×Value×Nat) w1=>aJ w6 w1∧eu 48 5 w6.heap.size (fun k=>YM gm mv k∨((F k∨k=g6)∨k=z.2.2)) cQ path z.1 w1∧Sl 5 [I (s).kd,I (s).ix,B (s).at_.1,x,y] z.2.1 w1∧bA z.2.2 52 [.slice none 0 0,I 0,I 0,B false,.slice none 0 0,.slice none 0 0,.slice none 0 0,B false,.slice none 0 0] w1∧w6.heap.size≤z.2.2∧z.1.ownBlock≠some z.2.2) #[true,true,true,true,true,true,true,true,true,true,true,true,false,true,false,true,false] 3 ?_ (fun hk2=>?_)
   ·rintro⟨v42,v47,gc⟩ wg ⟨xg,b42,b47,k7,l7,ne42⟩
    have l7b:=k7.lt
    have own42:=b42.lt
    obtain⟨v48,w48,hr48,o48,e48,m48,n48⟩:=pl (X:=(fun k=>YM gm mv k∨((F k∨k=g6)∨k=gc))) (d:=s) (e0.trans x6) xg (aJ.refl _) (fun k hk=>by rcases hk with hk|hk|hk;exact hXy k (.inl hk);exact hXy k (.inr hk);(have:k=gc:=hk;dsimp only at l7;omega)) hsx hsy b42 b47 hpl
    have own48:=o48.lt
    have s48:=m48.size
    refine aQ 12 (by kernel_rfl) E (aW E E hr48 (aF (kg6.ext e48) ?_))
    refine aQ 14 (by kernel_rfl) rfl (an gT rfl rfl (lQ (F':=fun k=>(F k∨k=g6)∨k=gc) hA hFF2 (e0.trans x6) e48 j1 hC6 hd6 (by simp;omega) (by omega) o48 (fun k hk=>hk.imp id fun h=>by dsimp only at l7 l7b;omega) (fun k hk hk2=>by rcases hk2 with hk2|hk2;(have:=(own48 k hk).1;have:=hFl k hk2;omega);(rcases n48 k hk with h|h;exact ne42 (hk2▸h);(dsimp only at l7b;omega)))) ?_)
    rintro v50 w50 ⟨cs,mvk,rfl,h1,hr,hs,hm,hoo⟩
    refine aF (hm.blk (kg6.ext e48) hny) ?_
    obtain⟨w8,hs8,K⟩:=th.early e48 h1 hr hs hm hoo sW l7 hYw (m48.blk k7 ne42) rfl
    refine aQ 16 (by kernel_rfl) E (ax E E hs8 (aF (K.m.blk kg6 hny) ?_))
    exact hk _ _ ⟨(mvk,cs,gc),⟨rfl,rfl,rfl,rfl,rfl,trivial⟩,K⟩
   ·refine jm (fun z=>[(0,.pointer (some ⟨g,0,none⟩)),(1,pv),(2,.pointer (some ⟨gm,0,none⟩)),(6,.pointer (some ⟨g6,0,none⟩)),(40,.pointer (some ⟨g1,0,none⟩)),(49,.pointer (some ⟨gm,0,none⟩)),(42,z.1),(47,z.2)]) (fun(z:Value×Value) w1=>aJ w6 w1∧eu 48 5 w6.heap.size (fun k=>YM gm mv k∨(F k∨k=g6)) cQ path z.1 w1∧Sl 5 [I (s).kd,I (s).ix,B (s).at_.1,x,y] z.2 w1) #[true,true,true,true,true,true,true,true,true,true,true,true,false,true,false,false,false] 4 ?_ (fun hk1=>?_)
    ·rintro⟨v42,v47⟩ wg ⟨xg,b42,b47⟩
     have own42:=b42.lt
     have sg:=xg.size
     refine gC 12 15 (by kernel_rfl) E E ?_ ?_
     ·obtain⟨v48,w48,hr48,o48,e48,m48,n48⟩:=pl (d:=s) (e0.trans x6) xg (aJ.refl _) hXy hsx hsy b42 b47 hpl
      have own48:=o48.lt
      refine aW E E hr48 (aF (kg6.ext e48) ?_)
      refine gC 14 15 (by kernel_rfl) E E ?_ ?_
      ·have zz:=e48.size
       refine an gT E E (lQ hA hFF2 (e0.trans x6) e48 j1 hC6 hd6 (by simp;omega) (by omega) o48 (fun k hk=>.inl hk) (fun k hk hk2=>by have:=(own48 k hk).1;have:=hFl k hk2;omega)) ?_
       rintro v50 w50 ⟨cs,mvk,rfl,h1,hr,hs,hm,hoo⟩
       refine aF (hm.blk (kg6.ext e48) hny) ?_
       obtain⟨gc,w7,hr7,l7,x7,k7⟩:=di (w:=w50)
       refine aQ 15 (by kernel_rfl) E (aX E hr7 (aF ((hm.blk (kg6.ext e48) hny).ext x7) ?_))
       obtain⟨w8,hs8,K⟩:=th.late e48 h1 hr hs hm hoo x7 l7 k7 rfl
       refine aQ 16 (by kernel_rfl) E (ax E E hs8 (aF (K.m.blk kg6 hny) ?_))
       exact hk _ _ ⟨(mvk,cs,gc),⟨rfl,rfl,rfl,rfl,rfl,trivial⟩,K⟩
      ·obtain⟨gc,w7,hr7,l7,x7,k7⟩:=di (w:=w48)
       have s48:=e48.size
       have l7b:=k7.lt
       refine aX E hr7 (aF (kg6.ext (e48.trans x7)) ?_)
       refine aQ 14 (by kernel_rfl) rfl (an gT rfl rfl (lQ (F':=fun k=>(F k∨k=g6)∨k=gc) hA hFF2 (e0.trans x6) (e48.trans x7) j1 hC6 hd6 (by simp;omega) (by omega) ((o48.weak (fun k hk=>by rcases hk with hk|hk|hk;exact .inl (.inl hk);exact .inl (.inr hk);exact .inr (by omega))).ext x7) (fun k hk=>hk.imp id fun h=>by omega) (fun k hk hk2=>by rcases hk2 with hk2|hk2;(have:=(own48 k hk).1;have:=hFl k hk2;omega);(have:=(own48 k hk).2;omega))) ?_)
       rintro v50 w50 ⟨cs,mvk,rfl,h1,hr,hs,hm,hoo⟩
       refine aF (hm.blk (kg6.ext (e48.trans x7)) hny) ?_
       obtain⟨w8,hs8,K⟩:=th.early (e48.trans x7) h1 hr hs hm hoo sW (by omega) hYw k7 rfl
       refine aQ 16 (by kernel_rfl) E (ax E E hs8 (aF (K.m.blk kg6 hny) ?_))
       exact hk _ _ ⟨(mvk,cs,gc),⟨rfl,rfl,rfl,rfl,rfl,trivial⟩,K⟩
     ·obtain⟨gc,w7,hr7,l7,x7,k7⟩:=di (w:=wg)
      refine aX E hr7 (aF (kg6.ext (xg.trans x7)) ?_)
      exact hk2 _ _ ⟨(v42,v47,gc),⟨rfl,rfl,rfl,rfl,rfl,rfl,rfl,rfl,rfl,trivial⟩,xg.trans x7,(b42.weak (fun k hk=>by rcases hk with hk|hk|hk;exact .inl (.inl hk);exact .inl (.inr hk);(have:k=gc:=hk;exact .inr (by omega)))).ext x7,b47.ext x7,k7,(show w6.heap.size≤gc by omega),fun h=>by have:=(own42 gc h).2;omega⟩
    ·refine H7 6 11 15 (by kernel_rfl) E E E ?_ ?_ ?_
     ·refine an ft E E (fv (hp6.ext eD) hpl) ?_
      rintro va1 wz1 ⟨x1,oo1⟩
      have oz1:=oo1.low (eD).size
      have ez1:aJ w6 wz1:=eD.trans x1
      refine aF (kg6.ext ez1) ?_
      refine gC 11 15 (by kernel_rfl) E E ?_ ?_
      ·obtain⟨vr2,wz2,hr2,x2,bz2⟩:=iY (w:=wz1) (d:=s) (x:=x) (y:=y)
       have ez2:aJ w6 wz2:=ez1.trans x2
       refine aG (vs:=[(0,.agg #[I (s).kd,I (s).ix,B (s).at_.1,x,y])]) E E hr2 (aF (kg6.ext ez2) ?_)
       have oz2:=oz1.ext x2
       exact hk1 _ _ ⟨(va1,vr2),⟨rfl,rfl,rfl,rfl,rfl,rfl,rfl,rfl,trivial⟩,ez2,oz2,bz2⟩
      ·obtain⟨gc3,wz3,hr3,l3,x3,k3⟩:=di (w:=wz1)
       have la3:=ez1.size
       have lb3:=k3.lt
       refine aX E hr3 (aF (kg6.ext (ez1.trans x3)) ?_)
       have ez3:aJ w6 wz3:=(ez1.trans x3)
       have oz3:=(oz1.weak (Y:=(fun k=>YM gm mv k∨((F k∨k=g6)∨k=gc3))) (fun k hk=>by rcases hk with hk|hk|hk;exact .inl (.inl hk);exact .inl (.inr hk);(have:k=gc3:=hk;exact .inr (by omega)))).ext x3
       have nz3:va1.ownBlock≠some gc3:=fun h=>by have:=(oz1.lt gc3 h).2;omega
       obtain⟨vr4,wz4,hr4,x4,bz4⟩:=iY (w:=wz3) (d:=s) (x:=x) (y:=y)
       have ez4:aJ w6 wz4:=ez3.trans x4
       refine aQ 11 (by kernel_rfl) E (aG (vs:=[(0,.agg #[I (s).kd,I (s).ix,B (s).at_.1,x,y])]) E E hr4 (aF (kg6.ext ez4) ?_))
       have oz4:=oz3.ext x4
       have kz4:=k3.ext x4
       exact hk2 _ _ ⟨(va1,vr4,gc3),⟨rfl,rfl,rfl,rfl,rfl,rfl,rfl,rfl,rfl,trivial⟩,ez4,oz4,bz4,kz4,(show w6.heap.size≤gc3 by omega),nz3⟩
     ·obtain⟨vr5,wz5,hr5,x5,bz5⟩:=iY (w:=w6.drew) (d:=s) (x:=x) (y:=y)
      have ez5:aJ w6 wz5:=eD.trans x5
      refine aG (vs:=[(0,.agg #[I (s).kd,I (s).ix,B (s).at_.1,x,y])]) E E hr5 (aF (kg6.ext ez5) ?_)
      refine gC 6 15 (by kernel_rfl) E E ?_ ?_
      ·refine an ft E E (fv (hp6.ext ez5) hpl) ?_
       rintro va6 wz6 ⟨x6,oo6⟩
       have oz6:=oo6.low (ez5).size
       have ez6:aJ w6 wz6:=ez5.trans x6
       refine aF (kg6.ext ez6) ?_
       have bz6:=bz5.ext x6
       exact hk1 _ _ ⟨(va6,vr5),⟨rfl,rfl,rfl,rfl,rfl,rfl,rfl,rfl,trivial⟩,ez6,oz6,bz6⟩
      ·obtain⟨gc7,wz7,hr7,l7,x7,k7⟩:=di (w:=wz5)
       have la7:=ez5.size
       have lb7:=k7.lt
       refine aX E hr7 (aF (kg6.ext (ez5.trans x7)) ?_)
       have ez7:aJ w6 wz7:=(ez5.trans x7)
       have bz7:=bz5.ext x7
       refine aQ 6 (by kernel_rfl) rfl (an ft rfl rfl (fv ((hp6.weak (Y:=(fun k=>YM gm mv k∨((F k∨k=g6)∨k=gc7))) (fun k hk=>by rcases hk with hk|hk|hk;exact .inl (.inl hk);exact .inl (.inr hk);(have:k=gc7:=hk;have:=(show w6.heap.size≤gc7 by omega);exact .inr (by omega)))).ext ez7) hpl) ?_)
       rintro va8 wz8 ⟨x8,oo8⟩
       have oz8:=oo8.low (ez7).size
       have ez8:aJ w6 wz8:=ez7.trans x8
       refine aF (kg6.ext ez8) ?_
       have nz8:va8.ownBlock≠some gc7:=fun h=>by have:=(oo8.lt gc7 h).1;have:=k7.lt;omega
       have kz8:=k7.ext x8
       have bz8:=bz7.ext x8
       exact hk2 _ _ ⟨(va8,vr5,gc7),⟨rfl,rfl,rfl,rfl,rfl,rfl,rfl,rfl,rfl,trivial⟩,ez8,oz8,bz8,kz8,(show w6.heap.size≤gc7 by omega),nz8⟩
     ·obtain⟨gc9,wz9,hr9,l9,x9,k9⟩:=di (w:=w6.drew)
      have la9:=eD.size
      have lb9:=k9.lt
      refine aX E hr9 (aF (kg6.ext (eD.trans x9)) ?_)
      have ez9:aJ w6 wz9:=(eD.trans x9)
      refine gC 6 11 (by kernel_rfl) E E ?_ ?_
      ·refine an ft rfl rfl (fv ((hp6.weak (Y:=(fun k=>YM gm mv k∨((F k∨k=g6)∨k=gc9))) (fun k hk=>by rcases hk with hk|hk|hk;exact .inl (.inl hk);exact .inl (.inr hk);(have:k=gc9:=hk;have:=(show w6.heap.size≤gc9 by omega);exact .inr (by omega)))).ext ez9) hpl) ?_
       rintro va10 wz10 ⟨x10,oo10⟩
       have oz10:=oo10.low (ez9).size
       have ez10:aJ w6 wz10:=ez9.trans x10
       refine aF (kg6.ext ez10) ?_
       have nz10:va10.ownBlock≠some gc9:=fun h=>by have:=(oo10.lt gc9 h).1;have:=k9.lt;omega
       have kz10:=k9.ext x10
       obtain⟨vr11,wz11,hr11,x11,bz11⟩:=iY (w:=wz10) (d:=s) (x:=x) (y:=y)
       have ez11:aJ w6 wz11:=ez10.trans x11
       refine aQ 11 (by kernel_rfl) E (aG (vs:=[(0,.agg #[I (s).kd,I (s).ix,B (s).at_.1,x,y])]) E E hr11 (aF (kg6.ext ez11) ?_))
       have oz11:=oz10.ext x11
       have kz11:=kz10.ext x11
       exact hk2 _ _ ⟨(va10,vr11,gc9),⟨rfl,rfl,rfl,rfl,rfl,rfl,rfl,rfl,rfl,trivial⟩,ez11,oz11,bz11,kz11,(show w6.heap.size≤gc9 by omega),nz10⟩
      ·obtain⟨vr12,wz12,hr12,x12,bz12⟩:=iY (w:=wz9) (d:=s) (x:=x) (y:=y)
       have ez12:aJ w6 wz12:=ez9.trans x12
       refine aG (vs:=[(0,.agg #[I (s).kd,I (s).ix,B (s).at_.1,x,y])]) E E hr12 (aF (kg6.ext ez12) ?_)
       have kz12:=k9.ext x12
       refine aQ 6 (by kernel_rfl) rfl (an ft rfl rfl (fv ((hp6.weak (Y:=(fun k=>YM gm mv k∨((F k∨k=g6)∨k=gc9))) (fun k hk=>by rcases hk with hk|hk|hk;exact .inl (.inl hk);exact .inl (.inr hk);(have:k=gc9:=hk;have:=(show w6.heap.size≤gc9 by omega);exact .inr (by omega)))).ext ez12) hpl) ?_)
       rintro va13 wz13 ⟨x13,oo13⟩
       have oz13:=oo13.low (ez12).size
       have ez13:aJ w6 wz13:=ez12.trans x13
       refine aF (kg6.ext ez13) ?_
       have nz13:va13.ownBlock≠some gc9:=fun h=>by have:=(oo13.lt gc9 h).1;have:=kz12.lt;omega
       have kz13:=kz12.ext x13
       have bz13:=bz12.ext x13
       exact hk2 _ _ ⟨(va13,vr12,gc9),⟨rfl,rfl,rfl,rfl,rfl,rfl,rfl,rfl,rfl,trivial⟩,ez13,oz13,bz13,kz13,(show w6.heap.size≤gc9 by omega),nz13⟩
  rintro⟨mv1,csA,g7⟩ w9 K1
  refine fS (by kernel_rfl) ?_
  refine ab (af ?_)
  have e9:aJ w0 w9:=K1.m.ext_from (e0.trans x6) fun k hk=>(hC.ym_young hk).1
  have kg9:=K1.m.blk kg6 hny
  have hny1:¬YM gm mv1 g:=fun h=>(YM.grow K1.own h).elim hny fun h=>by omega
  have j29:jp w0 w9 g2 b i2:=(j2.ext x6).mv K1.m hdB
  have hy1:∀k,YM gm mv1 k→YM gm mv k∨w6.heap.size≤k:=fun k hk=>YM.grow K1.own hk
  have hd7:∀k∈i2,¬YM gm mv1 k:=fun k hk h=>by
   rcases hy1 k h with h|h
   ·exact hdB k hk h
   ·have:=j2.lt k hk;omega
  have hp9:cv (fun k=>YM gm mv1 k∨(F k∨k=g6)) w9 (.sl (path.map cQ)) [pv]:=hp6.mv (K1.m.weak fun k hk _=>.inl hk) fun k hk=>by
   rcases hk with hk|hk
   ·exact(hy1 k hk).imp .inl id
   ·exact .inl (.inr hk)
  have hFF2:∀k,(F k∨k=g6)→w0.heap.size≤k∧k<w9.heap.size:=fun k hk=>by have:=hFF k hk;have:=K1.m.size;omega
  have s0:=e0.size
  have sW:w0.heap.size≤w9.heap.size:=e9.size
  have hpl:path.length≤1099511627776:=by omega
  have hXy:∀k,(YM gm mv1 k∨(F k∨k=g6))→w0.heap.size≤k:=fun k hk=>hk.elim (fun h=>(K1.st.ym_young h).1) fun h=>(hFF k h).1
  have hYw:∀k,YM gm mv1 k→k<w9.heap.size:=fun k h=>(K1.st.ym_young h).2
  have hFl:∀k,(F k∨k=g6)→k<w9.heap.size:=fun k h=>(hFF2 k h).2
  have hS:bA g 114 [I s.kd,I s.ix,B s.at_.1,x,y,.pointer (some ⟨g1,0,none⟩),.pointer (some ⟨g2,0,none⟩),.pointer none] w9.drew:=kg9.ext (aJ.refl w9).drew
  have eD:aJ w9 w9.drew:=(aJ.refl w9).drew
  refine fR (fun w1=>bA g 114 [I s.kd,I s.ix,B s.at_.1,x,y,.pointer (some ⟨g1,0,none⟩),.pointer (some ⟨g2,0,none⟩),.pointer none] w1) 18 E (by kernel_rfl) ?_
  refine cT 0 E E (by kernel_rfl) E hS ?_
  refine fz 1 E E (by kernel_rfl) E hS ?_
  refine c6 2 E E (by kernel_rfl) E hS (fun _ _=>ap (o:=5) KW E (by kernel_rfl) E) ?_
  refine nN 3 E E E (by kernel_rfl) E hS (fun _ _=>gq Lc (by kernel_rfl) (i:=1) (by omega) .i64) ?_
  refine eQ 4 E E (by kernel_rfl) E hS (fun _ hw=>ai K0 E (hw.cell (i:=6) E)) ?_
  refine cT 5 E E (by kernel_rfl) E hS ?_
  refine cT 7 E E (by kernel_rfl) E hS ?_
  refine fz 8 E E (by kernel_rfl) E hS ?_
  refine c6 9 E E (by kernel_rfl) E hS (fun _ _=>ap (o:=0) KW E (by kernel_rfl) E) ?_
  refine eQ 10 rfl rfl (by kernel_rfl) rfl hS (fun _ hw=>hw.ldO (ms:=[I s.kd,I s.ix,B s.at_.1,x,y]) (o:=0) (fun j v hj=>by rcases j with _|_|_|_|_|j<;>simp_all) Tryz.underlying48 rfl (by kernel_rfl)) ?_
  refine cT 14 E E (by kernel_rfl) E hS ?_
  refine jm (fun z=>[(0,.pointer (some ⟨g,0,none⟩)),(1,pv),(2,.pointer (some ⟨gm,0,none⟩)),(6,.pointer (some ⟨g6,0,none⟩)),(7,.pointer (some ⟨g7,0,none⟩)),(8,.pointer (some ⟨z.2.2,0,none⟩))]) (fun(z:Value×List Value×Nat) w1=>th w0 w9 (fun k=>F k∨k=g6) z.2.2 gm mv1 z.1 ((ms++a.miss (path++[s]))++b.miss (path++[bT s])) b.node z.2.1 w1) #[true,true,true,true,true,true,true,true,true,true,true,true,true,true,true,true,true,true] 0 ?_ (fun hk=>?_)
  rotate_left
  ·refine jm (fun z=>[(0,.pointer (some ⟨g,0,none⟩)),(1,pv),(2,.pointer (some ⟨gm,0,none⟩)),(6,.pointer (some ⟨g6,0,none⟩)),(7,.pointer (some ⟨g7,0,none⟩)),(55,.pointer (some ⟨g2,0,none⟩)),(65,.pointer (some ⟨gm,0,none⟩)),(57,z.1),(63,z.2.1),(8,.pointer (some ⟨z.2.2,0,none⟩))]) (fun(z:Value×Value×Nat) w1=>aJ w9 w1∧eu 48 5 w9.heap.size (fun k=>YM gm mv1 k∨((F k∨k=g6)∨k=z.2.2)) cQ path z.1 w1∧Sl 5 [I (bT s).kd,I (bT s).ix,B (bT s).at_.1,x,y] z.2.1 w1∧bA z.2.2 52 [.slice none 0 0,I 0,I 0,B false,.slice none 0 0,.slice none 0 0,.slice none 0 0,B false,.slice none 0 0] w1∧w9.heap.size≤z.2.2∧z.1.ownBlock≠some z.2.2) #[true,true,true,true,true,true,true,true,true,true,true,true,true,false,true,false,true,false] 3 ?_ (fun hk2=>?_)
   ·rintro⟨v42,v47,gc⟩ wg ⟨xg,b42,b47,k7,l7,ne42⟩
    have l7b:=k7.lt
    have own42:=b42.lt
    obtain⟨v48,w48,hr48,o48,e48,m48,n48⟩:=pl (X:=(fun k=>YM gm mv1 k∨((F k∨k=g6)∨k=gc))) (d:=bT s) e9 xg (aJ.refl _) (fun k hk=>by rcases hk with hk|hk|hk;exact hXy k (.inl hk);exact hXy k (.inr hk);(have:k=gc:=hk;dsimp only at l7;omega)) hsx hsy b42 b47 hpl
    have own48:=o48.lt
    have s48:=m48.size
    refine aQ 13 (by kernel_rfl) E (aW E E hr48 (aF (kg9.ext e48) ?_))
    refine aQ 15 (by kernel_rfl) rfl (an gT rfl rfl (lQ (F':=fun k=>(F k∨k=g6)∨k=gc) hB hFF2 e9 e48 j29 K1.st hd7 (by simp;omega) (by simp only[List.length_append,f6] at*;omega) o48 (fun k hk=>hk.imp id fun h=>by dsimp only at l7 l7b;omega) (fun k hk hk2=>by rcases hk2 with hk2|hk2;(have:=(own48 k hk).1;have:=hFl k hk2;omega);(rcases n48 k hk with h|h;exact ne42 (hk2▸h);(dsimp only at l7b;omega)))) ?_)
    rintro v50 w50 ⟨cs,mvk,rfl,h1,hr,hs,hm,hoo⟩
    refine aF (hm.blk (kg9.ext e48) hny1) ?_
    obtain⟨w8,hs8,K⟩:=th.early e48 h1 hr hs hm hoo sW l7 hYw (m48.blk k7 ne42) rfl
    refine aQ 17 (by kernel_rfl) E (ax E E hs8 (aF (K.m.blk kg9 hny1) ?_))
    exact hk _ _ ⟨(mvk,cs,gc),⟨rfl,rfl,rfl,rfl,rfl,rfl,trivial⟩,K⟩
   ·refine jm (fun z=>[(0,.pointer (some ⟨g,0,none⟩)),(1,pv),(2,.pointer (some ⟨gm,0,none⟩)),(6,.pointer (some ⟨g6,0,none⟩)),(7,.pointer (some ⟨g7,0,none⟩)),(55,.pointer (some ⟨g2,0,none⟩)),(65,.pointer (some ⟨gm,0,none⟩)),(57,z.1),(63,z.2)]) (fun(z:Value×Value) w1=>aJ w9 w1∧eu 48 5 w9.heap.size (fun k=>YM gm mv1 k∨(F k∨k=g6)) cQ path z.1 w1∧Sl 5 [I (bT s).kd,I (bT s).ix,B (bT s).at_.1,x,y] z.2 w1) #[true,true,true,true,true,true,true,true,true,true,true,true,true,false,true,false,false,false] 4 ?_ (fun hk1=>?_)
    ·rintro⟨v42,v47⟩ wg ⟨xg,b42,b47⟩
     have own42:=b42.lt
     have sg:=xg.size
     refine gC 13 16 (by kernel_rfl) E E ?_ ?_
     ·obtain⟨v48,w48,hr48,o48,e48,m48,n48⟩:=pl (d:=bT s) e9 xg (aJ.refl _) hXy hsx hsy b42 b47 hpl
      have own48:=o48.lt
      refine aW E E hr48 (aF (kg9.ext e48) ?_)
      refine gC 15 16 (by kernel_rfl) E E ?_ ?_
      ·have zz:=e48.size
       refine an gT E E (lQ hB hFF2 e9 e48 j29 K1.st hd7 (by simp;omega) (by simp only[List.length_append,f6] at*;omega) o48 (fun k hk=>.inl hk) (fun k hk hk2=>by have:=(own48 k hk).1;have:=hFl k hk2;omega)) ?_
       rintro v50 w50 ⟨cs,mvk,rfl,h1,hr,hs,hm,hoo⟩
       refine aF (hm.blk (kg9.ext e48) hny1) ?_
       obtain⟨gc,w7,hr7,l7,x7,k7⟩:=di (w:=w50)
       refine aQ 16 (by kernel_rfl) E (aX E hr7 (aF ((hm.blk (kg9.ext e48) hny1).ext x7) ?_))
       obtain⟨w8,hs8,K⟩:=th.late e48 h1 hr hs hm hoo x7 l7 k7 rfl
       refine aQ 17 (by kernel_rfl) E (ax E E hs8 (aF (K.m.blk kg9 hny1) ?_))
       exact hk _ _ ⟨(mvk,cs,gc),⟨rfl,rfl,rfl,rfl,rfl,rfl,trivial⟩,K⟩
      ·obtain⟨gc,w7,hr7,l7,x7,k7⟩:=di (w:=w48)
       have s48:=e48.size
       have l7b:=k7.lt
       refine aX E hr7 (aF (kg9.ext (e48.trans x7)) ?_)
       refine aQ 15 (by kernel_rfl) rfl (an gT rfl rfl (lQ (F':=fun k=>(F k∨k=g6)∨k=gc) hB hFF2 e9 (e48.trans x7) j29 K1.st hd7 (by simp;omega) (by simp only[List.length_append,f6] at*;omega) ((o48.weak (fun k hk=>by rcases hk with hk|hk|hk;exact .inl (.inl hk);exact .inl (.inr hk);exact .inr (by omega))).ext x7) (fun k hk=>hk.imp id fun h=>by omega) (fun k hk hk2=>by rcases hk2 with hk2|hk2;(have:=(own48 k hk).1;have:=hFl k hk2;omega);(have:=(own48 k hk).2;omega))) ?_)
       rintro v50 w50 ⟨cs,mvk,rfl,h1,hr,hs,hm,hoo⟩
       refine aF (hm.blk (kg9.ext (e48.trans x7)) hny1) ?_
       obtain⟨w8,hs8,K⟩:=th.early (e48.trans x7) h1 hr hs hm hoo sW (by omega) hYw k7 rfl
       refine aQ 17 (by kernel_rfl) E (ax E E hs8 (aF (K.m.blk kg9 hny1) ?_))
       exact hk _ _ ⟨(mvk,cs,gc),⟨rfl,rfl,rfl,rfl,rfl,rfl,trivial⟩,K⟩
     ·obtain⟨gc,w7,hr7,l7,x7,k7⟩:=di (w:=wg)
      refine aX E hr7 (aF (kg9.ext (xg.trans x7)) ?_)
      exact hk2 _ _ ⟨(v42,v47,gc),⟨rfl,rfl,rfl,rfl,rfl,rfl,rfl,rfl,rfl,rfl,trivial⟩,xg.trans x7,(b42.weak (fun k hk=>by rcases hk with hk|hk|hk;exact .inl (.inl hk);exact .inl (.inr hk);(have:k=gc:=hk;exact .inr (by omega)))).ext x7,b47.ext x7,k7,(show w9.heap.size≤gc by omega),fun h=>by have:=(own42 gc h).2;omega⟩
    ·refine gC 6 16 (by kernel_rfl) E E ?_ ?_
     ·refine an ft E E (fv (hp9.ext eD) hpl) ?_
      rintro va1 wz1 ⟨x1,oo1⟩
      have oz1:=oo1.low (eD).size
      have ez1:aJ w9 wz1:=eD.trans x1
      refine aF (kg9.ext ez1) ?_
      refine gC 11 16 (by kernel_rfl) E E ?_ ?_
      ·refine an iQ E E (iR (d:=s) (ho.ext (e9.trans ez1)) (hsx.ext (e9.trans ez1)) (hsy.ext (e9.trans ez1))) ?_
       rintro vb2 wz2 ⟨x2,rfl⟩
       have ez2:aJ w9 wz2:=ez1.trans x2
       refine aF (kg9.ext ez2) ?_
       have oz2:=oz1.ext x2
       refine gC 12 16 (by kernel_rfl) E E ?_ ?_
       ·obtain⟨vr3,wz3,hr3,x3,bz3⟩:=iY (w:=wz2) (d:=bT s) (x:=x) (y:=y)
        have ez3:aJ w9 wz3:=ez2.trans x3
        refine aG (vs:=[(0,.agg #[I (bT s).kd,I (bT s).ix,B (bT s).at_.1,x,y])]) E E hr3 (aF (kg9.ext ez3) ?_)
        have oz3:=oz2.ext x3
        exact hk1 _ _ ⟨(va1,vr3),⟨rfl,rfl,rfl,rfl,rfl,rfl,rfl,rfl,rfl,trivial⟩,ez3,oz3,bz3⟩
       ·obtain⟨gc4,wz4,hr4,l4,x4,k4⟩:=di (w:=wz2)
        have la4:=ez2.size
        have lb4:=k4.lt
        refine aX E hr4 (aF (kg9.ext (ez2.trans x4)) ?_)
        have ez4:aJ w9 wz4:=(ez2.trans x4)
        have oz4:=(oz2.weak (Y:=(fun k=>YM gm mv1 k∨((F k∨k=g6)∨k=gc4))) (fun k hk=>by rcases hk with hk|hk|hk;exact .inl (.inl hk);exact .inl (.inr hk);(have:k=gc4:=hk;exact .inr (by omega)))).ext x4
        have nz4:va1.ownBlock≠some gc4:=fun h=>by have:=(oz2.lt gc4 h).2;omega
        obtain⟨vr5,wz5,hr5,x5,bz5⟩:=iY (w:=wz4) (d:=bT s) (x:=x) (y:=y)
        have ez5:aJ w9 wz5:=ez4.trans x5
        refine aQ 12 (by kernel_rfl) E (aG (vs:=[(0,.agg #[I (bT s).kd,I (bT s).ix,B (bT s).at_.1,x,y])]) E E hr5 (aF (kg9.ext ez5) ?_))
        have oz5:=oz4.ext x5
        have kz5:=k4.ext x5
        exact hk2 _ _ ⟨(va1,vr5,gc4),⟨rfl,rfl,rfl,rfl,rfl,rfl,rfl,rfl,rfl,rfl,trivial⟩,ez5,oz5,bz5,kz5,(show w9.heap.size≤gc4 by omega),nz4⟩
      ·obtain⟨gc6,wz6,hr6,l6,x6,k6⟩:=di (w:=wz1)
       have la6:=ez1.size
       have lb6:=k6.lt
       refine aX E hr6 (aF (kg9.ext (ez1.trans x6)) ?_)
       have ez6:aJ w9 wz6:=(ez1.trans x6)
       have oz6:=(oz1.weak (Y:=(fun k=>YM gm mv1 k∨((F k∨k=g6)∨k=gc6))) (fun k hk=>by rcases hk with hk|hk|hk;exact .inl (.inl hk);exact .inl (.inr hk);(have:k=gc6:=hk;exact .inr (by omega)))).ext x6
       have nz6:va1.ownBlock≠some gc6:=fun h=>by have:=(oz1.lt gc6 h).2;omega
       refine aQ 11 (by kernel_rfl) E (an iQ E E (iR (d:=s) (ho.ext (e9.trans ez6)) (hsx.ext (e9.trans ez6)) (hsy.ext (e9.trans ez6))) ?_)
       rintro vb7 wz7 ⟨x7,rfl⟩
       have ez7:aJ w9 wz7:=ez6.trans x7
       refine aF (kg9.ext ez7) ?_
       have oz7:=oz6.ext x7
       have kz7:=k6.ext x7
       obtain⟨vr8,wz8,hr8,x8,bz8⟩:=iY (w:=wz7) (d:=bT s) (x:=x) (y:=y)
       have ez8:aJ w9 wz8:=ez7.trans x8
       refine aQ 12 (by kernel_rfl) E (aG (vs:=[(0,.agg #[I (bT s).kd,I (bT s).ix,B (bT s).at_.1,x,y])]) E E hr8 (aF (kg9.ext ez8) ?_))
       have oz8:=oz7.ext x8
       have kz8:=kz7.ext x8
       exact hk2 _ _ ⟨(va1,vr8,gc6),⟨rfl,rfl,rfl,rfl,rfl,rfl,rfl,rfl,rfl,rfl,trivial⟩,ez8,oz8,bz8,kz8,(show w9.heap.size≤gc6 by omega),nz6⟩
     ·obtain⟨gc9,wz9,hr9,l9,x9,k9⟩:=di (w:=w9.drew)
      have la9:=eD.size
      have lb9:=k9.lt
      refine aX E hr9 (aF (kg9.ext (eD.trans x9)) ?_)
      have ez9:aJ w9 wz9:=(eD.trans x9)
      refine aQ 6 (by kernel_rfl) rfl (an ft rfl rfl (fv ((hp9.weak (Y:=(fun k=>YM gm mv1 k∨((F k∨k=g6)∨k=gc9))) (fun k hk=>by rcases hk with hk|hk|hk;exact .inl (.inl hk);exact .inl (.inr hk);(have:k=gc9:=hk;have:=(show w9.heap.size≤gc9 by omega);exact .inr (by omega)))).ext ez9) hpl) ?_)
      rintro va10 wz10 ⟨x10,oo10⟩
      have oz10:=oo10.low (ez9).size
      have ez10:aJ w9 wz10:=ez9.trans x10
      refine aF (kg9.ext ez10) ?_
      have nz10:va10.ownBlock≠some gc9:=fun h=>by have:=(oo10.lt gc9 h).1;have:=k9.lt;omega
      have kz10:=k9.ext x10
      refine aQ 11 (by kernel_rfl) E (an iQ E E (iR (d:=s) (ho.ext (e9.trans ez10)) (hsx.ext (e9.trans ez10)) (hsy.ext (e9.trans ez10))) ?_)
      rintro vb11 wz11 ⟨x11,rfl⟩
      have ez11:aJ w9 wz11:=ez10.trans x11
      refine aF (kg9.ext ez11) ?_
      have oz11:=oz10.ext x11
      have kz11:=kz10.ext x11
      obtain⟨vr12,wz12,hr12,x12,bz12⟩:=iY (w:=wz11) (d:=bT s) (x:=x) (y:=y)
      have ez12:aJ w9 wz12:=ez11.trans x12
      refine aQ 12 (by kernel_rfl) E (aG (vs:=[(0,.agg #[I (bT s).kd,I (bT s).ix,B (bT s).at_.1,x,y])]) E E hr12 (aF (kg9.ext ez12) ?_))
      have oz12:=oz11.ext x12
      have kz12:=kz11.ext x12
      exact hk2 _ _ ⟨(va10,vr12,gc9),⟨rfl,rfl,rfl,rfl,rfl,rfl,rfl,rfl,rfl,rfl,trivial⟩,ez12,oz12,bz12,kz12,(show w9.heap.size≤gc9 by omega),nz10⟩
  rintro⟨mv2,csB,g8⟩ w14 K2
  refine fS (by kernel_rfl) ?_
  refine ab (af ?_)
  have hs9:=K1.m.size
  have hs14:=K2.m.size
  have kg14:=K2.m.blk kg9 hny1
  have k714:=K2.m.blk K1.k7 K1.n7
  have n61:¬YM gm mv1 g6:=fun h=>(hy1 g6 h).elim n6 (fun h=>by omega)
  have k614:=K2.m.blk (K1.m.blk k6 n6) n61
  have rpA:cv (AV w0 w6.heap.size gm mv2) w14 (bm a.node) csA:=K1.rp.mv (K2.m.weak fun k hk _=>.inl hk) fun k hk=>by
   rcases hk with hk|hk
   ·exact(YM.grow K2.own hk).imp .inl id
   ·exact .inl (.inr hk)
  have rpB:cv (AV w0 w6.heap.size gm mv2) w14 (bm b.node) csB:=K2.rp.weak fun k hk=>.inl (hk.imp id fun h=>⟨h.1,by omega⟩)
  have n62:¬YM gm mv2 g6:=fun h=>(YM.grow K2.own h).elim n61 fun h=>by omega
  have hAV:∀k,AV w0 w6.heap.size gm mv2 k→k<w14.heap.size:=fun k hk=>by
   rcases hk with hk|hk
   ·exact(K2.st.ym_young hk).2
   ·omega
  have e14:aJ w0 w14:=K2.m.ext_from e9 fun k hk=>(K1.st.ym_young hk).1
  refine bD 8 [6,74] (by kernel_rfl) (by kernel_rfl) ?_
  refine ay rfl rfl (cN rfl rfl (aT rfl rfl (fun w hw=>ap (o:=0) Tryz.underlying114 rfl (by kernel_rfl) rfl) (aN rfl rfl (fun w hw=>(kg14.ext hw).ldO (ms:=[I s.kd,I s.ix,B s.at_.1,x,y]) (o:=0) (fun j v hj=>by rcases j with _|_|_|_|_|_|_|_|_|j<;>simp_all) Tryz.underlying48 rfl (by kernel_rfl)) ?_)))
  refine aN E E (fun w' hw=>(k714.ext hw).ld KF E (JW rpA)) ?_
  refine aN E E (fun w' hw=>(K2.k7.ext hw).ld KF E (JW rpB)) ?_
  refine f8 (S:=fun v w'=>cv (AV w0 w6.heap.size gm mv2) w' (.sl ([a.node,b.node].map bm)) [v]∧v.oneCell'=true) (fun _ _ _ h hx=>⟨h.1.ext hx,h.2⟩) rfl (fun w' hw=>by rintro _ rfl _ rfl;exact H6 (rpA.ext hw) (rpB.ext hw) fun k hk=>Nat.lt_of_lt_of_le (hAV k hk) hw.size) ?_
  refine tj (S:=fun v w'=>∃kv,v=.agg #[.slice none 0 0,I s.kd,I s.ix,B s.at_.1,x,y,kv,B false,.slice none 0 0]∧cv (AV w0 w6.heap.size gm mv2) w' (.sl ([a.node,b.node].map bm)) [kv]∧kv.oneCell'=true) (fun _ _ _ ⟨kv,h1,h2,h3⟩ hx=>⟨kv,h1,h2.ext hx,h3⟩) E (fun w' hw=>by
 rintro _ rfl kv ⟨h1,h2⟩
 obtain⟨A,n,c,rfl⟩:=h1.isSl
 obtain⟨_,_,_,rfl⟩:=hsx.isS
 obtain⟨_,_,_,rfl⟩:=hsy.isS
 exact⟨_,w',run_build _ _ _ #[.slice none 0 0,I s.kd,I s.ix,B s.at_.1,_,_,.slice A n c,B false,.slice none 0 0] (by kernel_rfl),aJ.refl _,_,rfl,h1,rfl⟩) ?_
  refine cb ?_
  intro wg8 xg8
  rintro _ rfl
  intro vg74 b74
  obtain⟨kv,rfl,hkv,hk1⟩:=b74
  obtain⟨w15,s15,q15,k15⟩:=(k614.ext xg8).stS (P:=Tryz.prog) (t:=52) (m:=[.slice none 0 0,I s.kd,I s.ix,B s.at_.1,x,y,kv,B false,.slice none 0 0]) rfl (by kernel_rfl) (ao.cons rfl (ao.cons rfl (ao.cons rfl (ao.cons rfl (ao.cons hsx.one (ao.cons hsy.one (ao.cons hk1 (ao.cons rfl (ao.cons rfl ao.nil)))))))))
  have m15:Mv (fun k=>k=g6) wg8 w15:=Mv.of_grown q15 fun k hk _=>(Option.some.inj hk).symm
  refine ax E E s15 ?_
  refine ag (ab (aw ?_))
  refine cZ E E k15 KF E (by kernel_rfl) ?_
  have hx8:=xg8.size
  refine⟨_,rfl,[.slice none 0 0,I s.kd,I s.ix,B s.at_.1,x,y,kv,B false,.slice none 0 0],mv2,rfl,ao.cons E (ao.cons E (ao.cons E (ao.cons E (ao.cons hsx.one (ao.cons hsy.one (ao.cons hk1 (ao.cons E (ao.cons E ao.nil)))))))),?_,?_,?_,fun k hk=>(K2.own k hk).elim (fun h=>(K1.own k h).imp id fun h=>by omega) fun h=>.inr (by omega)⟩
  ·rw[ht]
   have h1:cv (AV w0 w6.heap.size gm mv2) wg8 (bm (.mk [] s [a.node,b.node] false [])) [.slice none 0 0,I s.kd,I s.ix,B s.at_.1,x,y,kv,B false,.slice none 0 0]:=g0 pQ (((uS hsx hsy).x.ext (e14.trans xg8)).weak fun k hk=>.inl (hk.elim (fun h=>(K2.st.ym_young h).1) fun h=>h.1)) hkv pQ
   have h2:=h1.mv (m15.weak (Y:=AV w0 w6.heap.size gm mv2) fun k hk _=>.inr (by have e:k=g6:=hk;omega)) fun _ h=>.inl h
   exact h2.weak fun k hk=>.inl (hk.imp id fun h=>⟨h.1,by omega⟩)
  ·have h1:=((K2.st.ext xg8).sto m15 (.inr rfl) n62).weak (G:=F) fun k hk=>.inl (.inl hk)
   rw[ht]
   simpa only[JT.miss,List.append_assoc] using h1
  ·exact((((Mv.of_ext (X:=YM gm mv) x6).trans K1.m fun _ h _=>h).trans K2.m fun k hk hlt=>(hy1 k hk).resolve_right (by omega)).trans (Mv.of_ext (X:=YM gm mv) xg8) fun _ h _=>h).trans m15 fun k hk hlt=>by have e:k=g6:=hk;omega
end Go.Rl
namespace Go.Rl
open Go.RowKit Go.Proofs
theorem ta:aH Tryz.prog 25:=⟨_,Tryz.func25,by kernel_rfl,rfl⟩
theorem sc {w0:World} (ho:zp w0):∀t:JT,B1 w0 t
 |.gap=>qf ho fun s a b h=>by cases h
 |.leaf n=>qf ho fun s a b h=>by cases h
 |.split s' a' b'=>qf ho fun s a b h=>by
  obtain⟨rfl,rfl,rfl⟩:=JT.split.inj h
  exact⟨sc ho _,sc ho _⟩
def qg (es:List cn):(aV×List (List bz))×Int:=
 if es.all dy=false then((G8,[]),1) else
 match gS es .gap with
 |none=>((G8,[]),11)
 |some t=>if mG t.node=false then((G8,[]),8) else((t.node,t.miss []),0)
def sf (es:List cn) (r:Value) (w':World):Prop:=∃cs mv,r=.tuple #[.agg cs.toArray,mv,I (qg es).2]∧ao cs∧Rp w' (bm (qg es).1.1) cs∧ct ie (qg es).1.2 mv w'
def gn:List Value:=[.slice none 0 0,I 0,I 0,B false,.slice none 0 0,.slice none 0 0,.slice none 0 0,B false,.slice none 0 0]
theorem sf.err {es:List cn} {w':World} {c:Int} (h:qg es=((G8,[]),c)):sf es (.tuple #[.agg gn.toArray,.slice none 0 0,I c]) w':=by
 unfold sf
 rw[h]
 exact⟨_,_,rfl,ao.cons rfl (ao.cons rfl (ao.cons rfl (ao.cons rfl (ao.cons rfl (ao.cons rfl (ao.cons rfl (ao.cons rfl (ao.cons rfl ao.nil)))))))),(tD (X:=fun _=>False)).rp,ct.nil _ _⟩
theorem ji {P:Program} {fn:Func} {R:Ending→World→Prop} {N:Nat} {fr:Fr} {p s1 s2:Tmp} {t T:TypeId} {u1 u2:Value} {l:List Value} {w:World} {g:Nat} {d:TypeDesc} (hr:fn.results= #[.cell p t,.tmp s1,.tmp s2]) (hv:lk fr p=some (.pointer (some ⟨g,0,none⟩))) (h1:lk fr s1=some u1) (h2:lk fr s2=some u2) (hb:bA g T l w) (hu:P.underlying t=some d) (hd:d.isRow=true) (hi:(P.info? t).map (·.size)=some l.length)
 (h:R (.returned (.tuple #[.agg l.toArray,u1,u2])) w):gu (bodyPost P fn R) N [] fr w .ret:=fun a ha=>by
 refine⟨ha.defers,.tuple #[.agg l.toArray,u1,u2],?_,h⟩
 have hp:=ha.at_ p _ hv
 have hp':a.tmps[p]?.getD undef=.pointer (some ⟨g,0,none⟩):=by simpa using hp
 have q1:=ha.at_ s1 _ h1
 have q2:=ha.at_ s2 _ h2
 have hl:=run_loadVar_row w g T t l.toArray (0,0) d hb hu (by cases d<;>first|rfl|exact hd) (by simpa using hi)
 simp[results,hr,hp',asAddr,hl,←q1,←q2]
theorem AO {α:Type} {p:α→Bool} {l:List α} {i:Nat} (hi:i<l.length):(l.take (i+1)).all p=((l.take i).all p&&p l[i]):=by
 rw[List.take_succ_eq_append_getElem hi,List.all_append]
 simp
theorem C7 {α:Type} {p:α→Bool} {l:List α} {i:Nat} (hi:i<l.length) (h:p l[i]=false):l.all p=false:=by
 cases hh:l.all p with
 |false=>rfl
 |true=>rw[List.all_eq_true] at hh;have:=hh _ (List.getElem_mem hi);rw[h] at this;cases this
theorem kZ:∀(a b:List cn) (t:JT),gS (a++b) t=(gS a t).bind (gS b)
 |[],b,t=>rfl
 |e::a,b,t=>by
  simp only[List.cons_append,gS]
  cases Eu e t with
  |none=>rfl
  |some t'=>simp only[Option.bind_some];exact kZ a b t'
theorem tb {l:List cn} {i:Nat} (hi:i<l.length) {t:JT} (h:gS (l.take i) .gap=some t):gS (l.take (i+1)) .gap=Eu l[i] t:=by
 rw[List.take_succ_eq_append_getElem hi,kZ,h]
 simp only[Option.bind_some,gS]
 cases Eu l[i] t<;>rfl
theorem xK {l:List cn} {i:Nat} (h:gS (l.take i) .gap=none):gS l .gap=none:=by
 rw[←List.take_append_drop i l,kZ,h];rfl
theorem vw {u:cn} (h:dy u=true):u.path.length≤2048:=by
 unfold dy at h
 simp only[Bool.and_eq_true,decide_eq_true_eq] at h
 exact h.1.1.1.1
theorem td {w:World} {es:List cn} {ev:Value} (hv:ct mW es ev w) (hs:∀u∈es,JC u) (ho:zp w) (hn:es.length≤1048576):
 Calls Tryz.prog 25 #[ev] w (bH fun r w'=>aJ w w'∧sf es r w'):=by
 refine enter (vs:=[ev]) Tryz.func25 E E E ?_
 refine af (aa ?_)
 obtain⟨g2,w2,hr2,l2,x2,k2⟩:=aZ (P:=Tryz.prog) (w:=w) (t:=52) (z:=.agg #[.slice none 0 0,I 0,I 0,B false,.slice none 0 0,.slice none 0 0,.slice none 0 0,B false,.slice none 0 0]) (l:=[.slice none 0 0,I 0,I 0,B false,.slice none 0 0,.slice none 0 0,.slice none 0 0,B false,.slice none 0 0]) (by kernel_rfl) rfl
 refine aX E hr2 (ac E E (ac E E (ag (ab (af (af ?_))))))
 have k20:bA g2 52 gn w2:=k2
 have hll:=hv.len
 have s2:=x2.size
 have lg2:=k2.lt
 refine aa (ae E E (aS E E (a9 K3 (hv.ext x2)) (ae E E (ag (ab (aE ?_))))))
 refine bZ (α:=Nat) (fun x=>[(0,ev),(2,.pointer (some ⟨g2,0,none⟩)),(3,.slice none 0 0),(4,I 0),(12,ev),(13,I ((es.length:Nat):Int)),(14,I (x:Int))]) (fun x w'=>aJ w w'∧x≤es.length∧(es.take x).all dy=true∧bA g2 52 gn w') (fun x=>es.length-x) (0) ⟨rfl,rfl,rfl,rfl,rfl,rfl,rfl,trivial⟩ ⟨x2,by omega,rfl,k20⟩ ?_
 rintro i wL ⟨eL,hi,hA,kL⟩
 refine af (aa (ak E E E (bb) (ag (ab (af ?_)))))
 refine bt E (fun h15=>?_) (fun h15=>?_)
 ·refine aC (ab (af (aE (af (aa ?_)))))
  obtain⟨a16,c16,p16,q16,h16⟩:=bR (P:=Tryz.prog) (sz:=10) K3 (by kernel_rfl) dN (by omega) hv (i:=i) ((by omega)) .i64
  obtain⟨e16,he16⟩:∃e,e=es[i]'((by omega)):=⟨_,rfl⟩
  rw[←he16] at h16
  obtain⟨x16_0,x16_1,x16_2,x16_3,x16_4,x16_5,rfl,f16_0,f16_1,f16_2,f16_3,f16_4,f16_5⟩:=iZ h16
  refine au E E E (p16 _) (aj E E ((q16.ext eL).ld KK E (by kernel_rfl)) ?_)
  obtain⟨g6,w6,hr6,l6,x6,k6⟩:=aZ (P:=Tryz.prog) (w:=wL) (t:=54) (z:=.agg #[.slice none 0 0,.slice none 0 0,I 0,I 0,B false,.slice none 0 0,.slice none 0 0,.slice none 0 0,B false,.slice none 0 0]) (l:=[.slice none 0 0,.slice none 0 0,I 0,I 0,B false,.slice none 0 0,.slice none 0 0,.slice none 0 0,B false,.slice none 0 0]) (by kernel_rfl) rfl
  refine aX E hr6 ?_
  obtain⟨w3_3,s3_3,q3_3,k3_3⟩:=k6.stS (P:=Tryz.prog) (t:=54) (m:=[x16_0,x16_1,I e16.leaf.split.kd,I e16.leaf.split.ix,B e16.leaf.split.at_.1,x16_2,x16_3,x16_4,B e16.leaf.empty,x16_5]) rfl (by kernel_rfl) (ao.cons f16_0.one (ao.cons f16_1.one (ao.cons rfl (ao.cons rfl (ao.cons rfl (ao.cons f16_2.one (ao.cons f16_3.one (ao.cons f16_4.one (ao.cons rfl (ao.cons f16_5.one ao.nil))))))))))
  refine ax E E s3_3 ?_
  have x3_3:=aJ.of_new (x6) q3_3 l6
  refine ag (ab (af ?_))
  have hmem:e16∈es:=by rw[he16];exact List.getElem_mem _
  have kL4:=kL.ext (x3_3)
  rcases hval:dy e16
  ·refine aa (aj E E (k3_3.ld KK E (by kernel_rfl)) (an mY E E ((by have h:=mZ (u:=e16) (f16_0.ext (eL.trans x3_3)) (f16_1.ext (eL.trans x3_3)) (f16_2.ext (eL.trans x3_3)) (f16_3.ext (eL.trans x3_3)) (f16_4.ext (eL.trans x3_3)) (f16_5.ext (eL.trans x3_3)) (hs e16 hmem);rw[hval] at h;exact h)) ?_))
   rintro v19 w19 ⟨x19,rfl⟩
   refine bo E E bu (ag (ab (bg E (af (aa (bj (vs:=[]) (r:=.agg #[.slice none 0 0,I 0,I 0,B false,.slice none 0 0,.slice none 0 0,.slice none 0 0,B false,.slice none 0 0]) E E (by exact run_build _ _ _ _ (by kernel_rfl)) ?_))))))
   obtain⟨w5,s5,q5,k5⟩:=(kL4.ext x19).stS (P:=Tryz.prog) (t:=52) (m:=gn) rfl (by kernel_rfl) (ao.cons rfl (ao.cons rfl (ao.cons rfl (ao.cons rfl (ao.cons rfl (ao.cons rfl (ao.cons rfl (ao.cons rfl (ao.cons rfl ao.nil)))))))))
   refine ax E E s5 ?_
   have e5:=aJ.of_new (((eL.trans x3_3).trans x19)) q5 l2
   refine ac E E (ac E E (ag (ab (aw (aY (aD (aD (aY (aD ?_)))))))))
   refine ji E E E E k5 KF E (by kernel_rfl) ?_
   have hno:es.all dy=false:=C7 (i:=i) (by omega) (by rw[←he16];exact hval)
   exact⟨_,rfl,e5,sf.err (c:=1) (by unfold qg;rw[if_pos hno])⟩
  ·refine aa (aj E E (k3_3.ld KK E (by kernel_rfl)) (an mY E E ((by have h:=mZ (u:=e16) (f16_0.ext (eL.trans x3_3)) (f16_1.ext (eL.trans x3_3)) (f16_2.ext (eL.trans x3_3)) (f16_3.ext (eL.trans x3_3)) (f16_4.ext (eL.trans x3_3)) (f16_5.ext (eL.trans x3_3)) (hs e16 hmem);rw[hval] at h;exact h)) ?_))
   rintro v19 w19 ⟨x19,rfl⟩
   refine bo E E bu (ag (ab (cy E (aC (aR (ab (aa (ak (r:=I ((i+1:Nat):Int)) E E E (by have e:((i+1:Nat):Int)=(i:Int)+1:=(by omega);rw[e];exact aP (by omega) (by omega)) ?_))))))))
   refine ae E E (ag ?_)
   refine bJ (i+1) ⟨rfl,rfl,rfl,rfl,rfl,rfl,rfl,trivial⟩ ⟨((eL.trans x3_3).trans x19),by omega,by rw[AO (by omega),hA,←he16,hval];rfl,kL4.ext x19⟩ (by omega)
 ·refine be (aK (aK (bf (ab (af ?_)))))
  have hall:es.all dy=true:=by rw[List.take_of_length_le (by omega)] at hA;exact hA
  have hvl:∀u∈es,dy u=true:=fun u hu=>List.all_eq_true.1 hall u hu
  refine aa (bj (vs:=[]) (r:=.agg #[I 0,I 0,B false,.slice none 0 0,.slice none 0 0,.pointer none,.pointer none,.pointer none]) E E (by exact run_build _ _ _ _ (by kernel_rfl)) ?_)
  obtain⟨g24,w24,hr24,l24,x24,k24⟩:=ca (P:=Tryz.prog) (w:=wL) (T:=114) (cs:=[I 0,I 0,B false,.slice none 0 0,.slice none 0 0,.pointer none,.pointer none,.pointer none])
  refine cm E E hr24 (ac E E (ag (ab (af (af ?_)))))
  have ng2:g2∉[g24]:=by have:=kL.lt;simp;omega
  have j24:jp w w24 g24 .gap [g24]:=jp.gap k24 (by have:=eL.size;omega)
  refine aa (ae E E (aS E E (a9 K3 (hv.ext (eL.trans x24))) (ae E E (ag (ab (aE ?_))))))
  refine jx (fun(i:Nat) (t:JT) (ids:List Nat)=>[(2,.pointer (some ⟨g2,0,none⟩)),(3,.slice none 0 0),(4,I 0),(7,.pointer (some ⟨g24,0,none⟩)),(25,ev),(26,I ((es.length:Nat):Int)),(27,I (i:Int))]) (fun(i:Nat) (t:JT) (ids:List Nat) w'=>aJ w w'∧i≤es.length∧bA g2 52 gn w'∧jp w w' g24 t ids∧g2∉ids∧gS (es.take i) .gap=some t∧t.depth≤2048∧t.gaps≤1+2048*i) (fun(i:Nat) (t:JT) (ids:List Nat)=>es.length-i) (0) (.gap) ([g24]) ⟨rfl,rfl,rfl,rfl,rfl,rfl,rfl,trivial⟩ ⟨eL.trans x24,by omega,kL.ext x24,j24,ng2,rfl,by simp[JT.depth],by simp[JT.gaps]⟩ ?_
  rintro i t ids wM ⟨eM,hi,kM,jM,nM,hT,hdp,hgp⟩
  refine af (aa (ak E E E (bb) (ag (ab (af ?_)))))
  refine bt E (fun h28=>?_) (fun h28=>?_)
  ·refine aC (ab (af (aE (af (aa ?_)))))
   obtain⟨a29,c29,p29,q29,h29⟩:=bR (P:=Tryz.prog) (sz:=10) K3 (by kernel_rfl) dN (by omega) hv (i:=i) ((by omega)) .i64
   obtain⟨e29,he29⟩:∃e,e=es[i]'((by omega)):=⟨_,rfl⟩
   rw[←he29] at h29
   obtain⟨x29_0,x29_1,x29_2,x29_3,x29_4,x29_5,rfl,f29_0,f29_1,f29_2,f29_3,f29_4,f29_5⟩:=iZ h29
   refine au E E E (p29 _) (aj E E ((q29.ext eM).ld KK E (by kernel_rfl)) ?_)
   obtain⟨g9,w9,hr9,l9,x9,k9⟩:=aZ (P:=Tryz.prog) (w:=wM) (t:=54) (z:=.agg #[.slice none 0 0,.slice none 0 0,I 0,I 0,B false,.slice none 0 0,.slice none 0 0,.slice none 0 0,B false,.slice none 0 0]) (l:=[.slice none 0 0,.slice none 0 0,I 0,I 0,B false,.slice none 0 0,.slice none 0 0,.slice none 0 0,B false,.slice none 0 0]) (by kernel_rfl) rfl
   refine aX E hr9 ?_
   obtain⟨w10_3,s10_3,q10_3,k10_3⟩:=k9.stS (P:=Tryz.prog) (t:=54) (m:=[x29_0,x29_1,I e29.leaf.split.kd,I e29.leaf.split.ix,B e29.leaf.split.at_.1,x29_2,x29_3,x29_4,B e29.leaf.empty,x29_5]) rfl (by kernel_rfl) (ao.cons f29_0.one (ao.cons f29_1.one (ao.cons rfl (ao.cons rfl (ao.cons rfl (ao.cons f29_2.one (ao.cons f29_3.one (ao.cons f29_4.one (ao.cons rfl (ao.cons f29_5.one ao.nil))))))))))
   refine ax E E s10_3 ?_
   have x10_3:=aJ.of_new (x9) q10_3 l9
   refine ag (ab (af ?_))
   have hmem:e29∈es:=by rw[he29];exact List.getElem_mem _
   have eN:=x10_3
   have jN:=jM.ext eN
   have kN:=kM.ext eN
   have hTn:=tb (l:=es) (i:=i) (by omega) hT
   rw[←he29] at hTn
   have hpl:=vw (hvl e29 hmem)
   rcases hadd:Eu e29 t with _|t2
   ·refine aa (ae rfl rfl (aj rfl rfl (k10_3.ld Tryz.underlying54 rfl (by kernel_rfl)) (an xI rfl rfl ((bH.mono (xJ (u:=e29) (eM.trans x10_3) ho jN f29_0 f29_1 f29_2 f29_3 f29_4 f29_5) fun r w' (h:JI _ _ _ _ _ _ _ _ _)=>show aJ w w'∧Mv (fun k=>k∈ids) _ w'∧r=B false from⟨h.1,h.2.1,by rcases h.2.2 with h|⟨_,t',_,h1,_⟩;exact h.2;exact absurd (h1.symm.trans hadd) (by simp)⟩)) ?_)))
    rintro v33 w33 ⟨y33,m33,rfl⟩
    have k33:=m33.blk kN nM
    refine bo E E bu (ag (ab (bg E (af (aa (bj (vs:=[]) (r:=.agg #[.slice none 0 0,I 0,I 0,B false,.slice none 0 0,.slice none 0 0,.slice none 0 0,B false,.slice none 0 0]) E E (by exact run_build _ _ _ _ (by kernel_rfl)) ?_))))))
    obtain⟨w12,s12,q12,k12⟩:=k33.stS (P:=Tryz.prog) (t:=52) (m:=gn) rfl (by kernel_rfl) (ao.cons rfl (ao.cons rfl (ao.cons rfl (ao.cons rfl (ao.cons rfl (ao.cons rfl (ao.cons rfl (ao.cons rfl (ao.cons rfl ao.nil)))))))))
    refine ax E E s12 ?_
    have e12:=aJ.of_new y33 q12 l2
    refine ac E E (ac E E (ag (ab (aw (aY (aD (aD (aY (aD ?_)))))))))
    refine ji E E E E k12 KF E (by kernel_rfl) ?_
    have hno:gS es .gap=none:=xK (i:=i+1) (by rw[hTn,hadd])
    exact⟨_,rfl,e12,sf.err (c:=11) (by unfold qg;rw[if_neg (by rw[hall];simp),hno])⟩
   ·refine aa (ae rfl rfl (aj rfl rfl (k10_3.ld Tryz.underlying54 rfl (by kernel_rfl)) (an xI rfl rfl ((bH.mono (xJ (u:=e29) (eM.trans x10_3) ho jN f29_0 f29_1 f29_2 f29_3 f29_4 f29_5) fun r w' (h:JI _ _ _ _ _ _ _ _ _)=>show aJ w w'∧Mv (fun k=>k∈ids) _ w'∧r=B true∧∃ids',jp w w' g24 t2 ids'∧∀k∈ids',k∈ids∨_≤k from⟨h.1,h.2.1,by rcases h.2.2 with h|⟨h0,t',ids',h1,h2,h3,h4⟩;exact absurd (h.1.symm.trans hadd) (by simp);exact⟨h0,ids',by have:=Option.some.inj (h1.symm.trans hadd);rw[←this];exact h3,h4⟩⟩)) ?_)))
    rintro v33 w33 ⟨y33,m33,rfl,ids',j33,fr33⟩
    have k33:=m33.blk kN nM
    refine bo E E bu (ag (ab (cy E (aC (aR (ab (aa (ak (r:=I ((i+1:Nat):Int)) E E E (by have e:((i+1:Nat):Int)=(i:Int)+1:=(by omega);rw[e];exact aP (by omega) (by omega)) ?_))))))))
    refine ae E E (ag ?_)
    refine gz (i+1) (t2) (ids') ⟨rfl,rfl,rfl,rfl,rfl,rfl,rfl,trivial⟩ ⟨y33,by omega,k33,j33,fun h=>(fr33 _ h).elim nM fun h=>by have:=kN.lt;omega,by rw[hTn,hadd],Nat.le_trans (na _ _ hadd) (by omega),Nat.le_trans (oT _ _ hadd) (by omega)⟩ (by omega)
  ·refine be (aK (aK (bf (ab (af (aa ?_))))))
   obtain⟨g10,w10,hr10,l10,x10,k10⟩:=aZ (P:=Tryz.prog) (w:=wM) (t:=59) (z:=.slice none 0 0) (l:=[.slice none 0 0]) (by kernel_rfl) rfl
   refine aX E hr10 ?_
   have hle:=List.take_of_length_le (l:=es) (i:=i) (by omega)
   rw[hle] at hT
   have lM:=kM.lt
   have sM:=eM.size
   have sX:=x10.size
   have lg10:=k10.lt
   have hC:xF w w10 (fun k=>k=g2) g10 (.slice none 0 0) []:=⟨k10,eu.nil _,(by intro h;cases h),(by omega)⟩
   have hdj:∀k∈ids,¬YM g10 (.slice none 0 0) k:=fun k hk h=>by
    rcases h with h|h
    ·have:=jM.lt k hk;omega
    ·cases h
   refine ag (ab (af (aa (ae E E (an gT E E ((sc ho t (fun k=>k=g2) w10 g24 ids [] (.slice none 0 0) g10 (.slice none 0 0) [] (fun k hk=>by have:k=g2:=hk;omega) ((eM.trans x10)) (jM.ext x10) hC hdj cv.nilSl (by simp;omega) (by simp;omega))) ?_)))))
   rintro v38 w38 ⟨cs,mv1,rfl,h1,hr,hst,hm,hoo⟩
   obtain⟨vl,x,y,vk,vp,rfl,hlN,hxN,hyN,hkN,hpN⟩:=cW hr.rp
   have y38:=hm.ext_from (eM.trans x10) fun k hk=>(hC.ym_young hk).1
   have k238:=hm.blk (kM.ext x10) (fun h=>by rcases h with h|h;omega;cases h)
   obtain⟨g11,w11,hr11,l11,x11,k11⟩:=aZ (P:=Tryz.prog) (w:=w38) (t:=52) (z:=.agg #[.slice none 0 0,I 0,I 0,B false,.slice none 0 0,.slice none 0 0,.slice none 0 0,B false,.slice none 0 0]) (l:=[.slice none 0 0,I 0,I 0,B false,.slice none 0 0,.slice none 0 0,.slice none 0 0,B false,.slice none 0 0]) (by kernel_rfl) rfl
   refine aX E hr11 ?_
   obtain⟨w15_3,s15_3,q15_3,k15_3⟩:=k11.stS (P:=Tryz.prog) (t:=52) (m:=[vl,I t.node.split.kd,I t.node.split.ix,B t.node.split.at_.1,x,y,vk,B t.node.empty,vp]) rfl (by kernel_rfl) (ao.cons hlN.one (ao.cons rfl (ao.cons rfl (ao.cons rfl (ao.cons hxN.one (ao.cons hyN.one (ao.cons hkN.one (ao.cons rfl (ao.cons hpN.one ao.nil)))))))))
   refine ax E E s15_3 ?_
   have x15_3:=aJ.of_new (x11) q15_3 l11
   refine ag (ab (af (af ?_)))
   rcases hvn:mG t.node
   ·refine aa (aj E E (k15_3.ld KF E (by kernel_rfl)) (an fU E E ((by have h:=lI (hlN.ext x15_3) (hxN.ext x15_3) (hyN.ext x15_3) (hkN.ext x15_3) (hpN.ext x15_3);rw[hvn] at h;exact h)) ?_))
    rintro v40 w40 ⟨x40,rfl⟩
    refine bo E E bu (ag (ab (bg E (af (aa (bj (vs:=[]) (r:=.agg #[.slice none 0 0,I 0,I 0,B false,.slice none 0 0,.slice none 0 0,.slice none 0 0,B false,.slice none 0 0]) E E (by exact run_build _ _ _ _ (by kernel_rfl)) ?_))))))
    obtain⟨w17,s17,q17,k17⟩:=(k238.ext ((x15_3.trans x40))).stS (P:=Tryz.prog) (t:=52) (m:=gn) rfl (by kernel_rfl) (ao.cons rfl (ao.cons rfl (ao.cons rfl (ao.cons rfl (ao.cons rfl (ao.cons rfl (ao.cons rfl (ao.cons rfl (ao.cons rfl ao.nil)))))))))
    refine ax E E s17 ?_
    have e17:=aJ.of_new (((y38.trans x15_3).trans x40)) q17 l2
    refine ac E E (ac E E (ag (ab (aw (aD ?_)))))
    refine ji E E E E k17 KF E (by kernel_rfl) ?_
    exact⟨_,rfl,e17,sf.err (c:=8) (by unfold qg;rw[if_neg (by rw[hall];simp),hT];simp only[];rw[if_pos hvn])⟩
   ·refine aa (aj E E (k15_3.ld KF E (by kernel_rfl)) (an fU E E ((by have h:=lI (hlN.ext x15_3) (hxN.ext x15_3) (hyN.ext x15_3) (hkN.ext x15_3) (hpN.ext x15_3);rw[hvn] at h;exact h)) ?_))
    rintro v40 w40 ⟨x40,rfl⟩
    refine bo E E bu (ag (ab (cy E (aC (ab (af ?_))))))
    have eH:aJ w38 w40:=x15_3.trans x40
    have eHd:aJ w40 w40.drew:=(aJ.refl w40).drew
    have k11d:bA g11 52 [vl,I t.node.split.kd,I t.node.split.ix,B t.node.split.at_.1,x,y,vk,B t.node.empty,vp] w40.drew:=(k15_3.ext x40).ext eHd
    have k10d:bA g10 59 [mv1] w40.drew:=(hst.cell.ext eH).ext eHd
    refine fR (fun w1=>bA g11 52 [vl,I t.node.split.kd,I t.node.split.ix,B t.node.split.at_.1,x,y,vk,B t.node.empty,vp] w1∧bA g10 59 [mv1] w1) 5 E (by kernel_rfl) ?_
    refine eQ 0 E E (by kernel_rfl) E ⟨k11d,k10d⟩ (fun _ hw=>hw.1.ld KF E (by kernel_rfl)) ?_
    refine eQ 1 E E (by kernel_rfl) E ⟨k11d,k10d⟩ (fun _ hw=>ai Ld E hw.2.k0) ?_
    obtain⟨w18,s18,q18,k18⟩:=((k238.ext eH).ext eHd).stS (P:=Tryz.prog) (t:=52) (m:=[vl,I t.node.split.kd,I t.node.split.ix,B t.node.split.at_.1,x,y,vk,B t.node.empty,vp]) rfl (by kernel_rfl) h1
    have l2b:g2<w10.heap.size:=by have:=(kM.ext x10).lt;omega
    have m18:Mv (fun k=>k=g2) w40.drew w18:=Mv.of_grown q18 fun k hk _=>(Option.some.inj hk).symm
    have l11b:=hm.size
    have hS18:bA g11 52 [vl,I t.node.split.kd,I t.node.split.ix,B t.node.split.at_.1,x,y,vk,B t.node.empty,vp] w18∧bA g10 59 [mv1] w18:=⟨m18.blk k11d (fun e=>by omega),m18.blk k10d (fun e=>by omega)⟩
    have e18:aJ w w18:=aJ.of_new ((y38.trans eH).trans eHd) q18 l2
    have rpF:=(((hr.ext eH).ext eHd).mv (m18.weak fun k hk _=>.inr (by have e:k=g2:=hk;omega)) fun _ h=>.inl h).rp
    have stF:=(((hst.ext eH).ext eHd).sto m18 rfl (fun h=>by
     rcases h with h|h
     ·omega
     ·rcases hoo _ h with h|h
      ·cases h
      ·omega)).own.rpx (Y:=fun _=>False) fy (by omega) (fun _ h=>h.elim) (fun _ _ h=>h)
    refine aQ 2 (by kernel_rfl) E (ax E E s18 (aF hS18 ?_))
    refine aQ 3 (by kernel_rfl) E (ac E E (aF hS18 ?_))
    refine aQ 4 (by kernel_rfl) E (ac E E (aF hS18 (fS (by kernel_rfl) ?_)))
    refine ab (aw ?_)
    refine ji E E E E k18 KF E (by kernel_rfl) ?_
    have hb:qg es=((t.node,t.miss []),0):=by unfold qg;rw[if_neg (by rw[hall];simp),hT];simp only[];rw[if_neg (by rw[hvn];simp)]
    refine⟨_,rfl,e18,?_⟩
    unfold sf
    rw[hb]
    exact⟨_,mv1,rfl,h1,rpF,(by simpa using stF.rp:Rp w18 (.sl ((t.miss []).map ie)) [mv1])⟩
end Go.Rl
namespace Go.Rl
open Go.RowKit Go.Proofs
section
variable {α:Type} {e t:TypeId} {sz base:Nat} {f:α→Dt} {l:List α} {v:Value} {w w':World}
def vL (e:TypeId) (sz base:Nat) (f:α→Dt) (l:List α) (v:Value) (w:World):Prop:=∃n xs,w.ownsRow base e sz v n xs∧aO (fun k=>base≤k) w (l.map f) xs
theorem vL.nil (w:World):vL e sz base f ([]:List α) (.slice none 0 0) w:=⟨0,[],World.ownsRow_nil _ _ _ _,aO.nil⟩
theorem vL.lt (h:vL e sz base f l v w):∀k,v.ownBlock=some k→base≤k∧k<w.heap.size:=fun k hk=>by
 obtain⟨n,xs,h,_⟩:=h
 exact World.ownsRow.lt h k hk
theorem vL.ext (h:vL e sz base f l v w) (hx:aJ w w'):vL e sz base f l v w':=by
 obtain⟨n,xs,h1,h2⟩:=h
 exact⟨n,xs,fo h1 hx,h2.ext hx⟩
theorem vL.mv {X:Nat→Prop} (h:vL e sz base f l v w) (hm:Mv X w w') (hX:∀k,X k→base≤k) (hne:∀k,v.ownBlock=some k→¬X k):vL e sz base f l v w':=by
 obtain⟨n,xs,h1,h2⟩:=h
 refine⟨n,xs,⟨h1.1,?_⟩,aO.mv (hm.weak fun k hk _=>hX k hk) (fun k hk=>.inl hk) h2⟩
 rcases h1.2 with h3|⟨g,cap,cur,rfl,h3,h4,h5⟩
 ·exact .inl h3
 ·refine .inr ⟨g,cap,cur,rfl,h3,?_,h5⟩
  rw[hm.keep g (Array.getElem?_eq_some_iff.1 h4).1 (hne g rfl)]
  exact h4
end
end Go.Rl
namespace Go.Rl
open Go.RowKit Go.Proofs
theorem rf:aH Tryz.prog 12:=⟨_,Tryz.func12,by kernel_rfl,rfl⟩
def C8:Prop:=∀{w:World},zp w→Calls Tryz.prog 12 #[] w (bH fun r w'=>aJ w w'∧r=B true)
end Go.Rl
namespace Go.Rl
open Go.RowKit
theorem qh {α:Type} {f:α→Dt} {e:α→List UInt8} {k:α→Nat} (l:List α) (h:∀a∈l,(e a).length≤4*(f a).bulk+k a):(l.flatMap e).length≤4*Dt.bulkAll (l.map f)+(l.map k).sum:=by
 induction l with
 |nil=>simp
 |cons a l ih=>
  have h1:=h a (by simp)
  have h2:=ih fun x hx=>h x (by simp[hx])
  simp only[List.flatMap_cons,List.length_append,List.map_cons,List.sum_cons,Dt.bulkAll]
  omega
theorem xL {α:Type} (l:List α) (c:Nat):(l.map fun _=>c).sum=c*l.length:=by
 induction l with
 |nil=>simp
 |cons a l ih=>simp only[List.map_cons,List.sum_cons,List.length_cons,ih,Nat.mul_add];omega
theorem GT {m:ci} (hb:(bI m).bulk≤1048576) (hw:JP m):(ew m).length≤4*(bI m).bulk+21:=by
 rw[ib] at hb⊢
 have:=fL hw.1;have:=fL hw.2.1;have:=fL hw.2.2.1;have:=fL hw.2.2.2
 have:=oI (q:=m.co) (by omega) (by omega)
 simp only[ew,List.length_append];omega
theorem Ib {m:bz} (hb:(cQ m).bulk≤1048576) (hw:wD m):(fm m).length≤4*(cQ m).bulk+21:=by
 rw[qX] at hb⊢
 have:=fL hw.1;have:=fL hw.2
 have:=oI (q:=m.at_) (by omega) (by omega)
 simp only[fm,List.length_append];omega
theorem ov {α:Type} {f:α→Dt} {l:List α} {a:α} (h:a∈l):(f a).bulk≤Dt.bulkAll (l.map f):=by
 induction l with
 |nil=>cases h
 |cons b l ih=>
  simp only[List.map_cons,Dt.bulkAll]
  rcases List.mem_cons.1 h with rfl|h
  ·omega
  ·have:=ih h;omega
theorem Da {l:List ci} (hb:Dt.bulkAll (l.map bI)≤1048576) (hw:wP l):(iC l).length≤4*Dt.bulkAll (l.map bI)+21*l.length+10:=by
 have h1:=dM (l.map bI)
 rw[List.length_map] at h1
 have h2:=fQ (n:=l.length) (by omega)
 have h3:=qh (f:=bI) (e:=ew) (k:=fun _=>21) l fun a ha=>GT (Nat.le_trans (ov ha) hb) (hw a ha)
 rw[xL] at h3
 simp only[iC,List.length_append];omega
theorem GU {m:er} (hb:(cP m).bulk≤1048576) (hw:F7 m):(dC m).length≤4*(cP m).bulk+(10+21*m.pf.length):=by
 rw[jg] at hb⊢
 have:=fL hw.1
 have:=oI (q:=m.va) (by omega) (by omega)
 have:=Da (l:=m.pf) (by omega) hw.2
 have hbit:(ux m.up).length=1:=by cases m.up<;>rfl
 simp only[dC,List.length_append,hbit];omega
theorem Ic {l:List er}:(l.map fun m=>10+21*m.pf.length).sum=10*l.length+21*xD l:=by
 unfold xD
 induction l with
 |nil=>rfl
 |cons a l ih=>simp only[List.map_cons,List.sum_cons,List.length_cons,ih];omega
theorem zn (u:cn):(mW u).bulk=Dt.bulkAll (u.path.map cQ)+(bm u.leaf).bulk+2:=by
 simp only[mW,Dt.bulk,Dt.bulkAll];omega
theorem AP {u:cn} (hb:(mW u).bulk≤1048576) (hw:BL u) (h0:u.leaf.kids.length=0):(de u).length≤4*(mW u).bulk+21*pc u+31:=by
 rw[zn] at hb⊢
 obtain⟨wl,wd,wp,_⟩:=(rR u.leaf).1 hw.2
 have hbn:=rY u.leaf
 have hen:=lK u.leaf
 rw[if_pos h0] at hen
 have hp:=Da (l:=u.leaf.pf) (by omega) wp
 have h1:=dM (u.path.map cQ)
 rw[List.length_map] at h1
 have h2:=dM (u.leaf.lems.map cP)
 rw[List.length_map] at h2
 have u1:=fQ (n:=u.path.length) (by omega)
 have u2:=fQ (n:=u.leaf.lems.length) (by omega)
 have h3:=qh (f:=cQ) (e:=fm) (k:=fun _=>21) u.path fun a ha=>Ib (Nat.le_trans (ov ha) (by omega)) (hw.1 a ha)
 rw[xL] at h3
 have h4:=qh (f:=cP) (e:=dC) (k:=fun m=>10+21*m.pf.length) u.leaf.lems fun a ha=>GU (Nat.le_trans (ov ha) (by omega)) (wl a ha)
 rw[Ic] at h4
 have hz:pc u=1+u.path.length+u.leaf.lems.length+u.leaf.pf.length+u.leaf.kids.length+xD u.leaf.lems:=rfl
 unfold de
 rw[hen]
 simp only[dU,List.length_append,oe]
 omega
theorem GV (u:cn):1≤pc u:=by unfold pc;omega
theorem GW:∀(ws:List cn) (b:List UInt8),(∀u∈ws,(mW u).bulk≤1048576∧BL u∧u.leaf.kids.length=0)→ii ws≤1048576→(vK b ws).length≤b.length+4*Dt.bulkAll (ws.map mW)+70*ii ws
 |[],b,_,_=>by
  show b.length≤_
  omega
 |u::ws,b,h,hz=>by
  obtain⟨h1,h2,h3⟩:=h u (by simp)
  have hz':ii (u::ws)=pc u+ii ws:=by simp[ii]
  have hp:=GV u
  have he:=AP h1 h2 h3
  have ih:=GW ws (j7 b (de u)) (fun x hx=>h x (by simp[hx])) (by omega)
  have hr:=AJ b (de u)
  have hu:=fQ (n:=(de u).length) (by omega)
  have hB:(mc (de u)).length=(uv (de u).length).length+(de u).length:=by unfold mc;rw[List.length_append]
  show(vK (j7 b (de u)) ws).length≤_
  simp only[List.map_cons,Dt.bulkAll]
  omega
theorem AQ {u:cn} (hb:(mW u).bulk≤1048576) (hw:BL u):JC u:=by
 rw[zn] at hb
 refine⟨fun m hm=>?_,(CZ _ (Nat.le_refl _) (n:=u.leaf) (by omega) hw.2).2.2⟩
 have h1:=ov (f:=cQ) hm
 have h2:=qX m
 exact⟨by omega,by omega⟩
theorem GX (l:List er):l.length+xD l≤Dt.bulkAll (l.map cP):=by
 unfold xD
 induction l with
 |nil=>simp[Dt.bulkAll]
 |cons a l ih=>
  have h1:=jg a
  have h2:=dM (a.pf.map bI)
  rw[List.length_map] at h2
  simp only[List.map_cons,List.sum_cons,List.length_cons,Dt.bulkAll]
  omega
theorem xM (u:cn):pc u≤(mW u).bulk:=by
 rw[zn]
 have h1:=rY u.leaf
 have h2:=GX u.leaf.lems
 have h3:=dM (u.path.map cQ)
 have h4:=dM (u.leaf.pf.map bI)
 have h5:=dM (u.leaf.kids.map bm)
 rw[List.length_map] at h3 h4 h5
 unfold pc
 omega
theorem ED (es:List cn):ii es≤Dt.bulkAll (es.map mW):=by
 have:=lN (f:=mW) (m:=pc) (c:=1) es fun a _=>by have:=xM a;omega
 unfold ii
 omega
theorem GY {ws:List cn} (h:∀u∈ws,dy u=true∧BL u∧(de u).length<18446744073709551616):AL ws:=fun u hu=>
 ⟨GB (h u hu).1 (h u hu).2.1 (h u hu).2.2,(h u hu).2.2⟩
end Go.Rl
namespace Go.Rl
open Go.RowKit Go.Proofs
theorem ol.is {base n:Nat} {b d:List UInt8} {ws:List cn} {r:Value} {w':World} (h:ol base b r w') (e:oh b=((d,ws,n),0)):∃ve,r=.tuple #[.agg (d.map U8).toArray,ve,I (n:Int),I 0]∧cv (fun k=>k<base) w' (.sl (ws.map mW)) [ve]:=by
 unfold ol at h
 rw[e] at h
 exact h
structure JJ (d:List UInt8) (es:List cn):Prop where
 short:∀u∈es,JC u
 few:es.length≤1073741824
 enc:(vK (jh d) (es.filter dy)).length≤7340032
 backs:AL (es.filter dy)
theorem vx (es:List cn) (p:cn→Bool):Dt.bulkAll ((es.filter p).map mW)≤Dt.bulkAll (es.map mW)∧ii (es.filter p)≤ii es:=by
 induction es with
 |nil=>exact⟨Nat.le_refl _,Nat.le_refl _⟩
 |cons a l ih=>
  by_cases h:p a=true
  ·rw[List.filter_cons_of_pos h]
   simp only[List.map_cons,Dt.bulkAll,ii,List.sum_cons] at ih⊢
   omega
  ·rw[List.filter_cons_of_neg h]
   simp only[List.map_cons,Dt.bulkAll,ii,List.sum_cons] at ih⊢
   omega
theorem vy {u:cn} (h:dy u=true):u.leaf.kids.length=0:=by
 cases hk:decide (u.leaf.kids.length=0) with
 |true=>exact of_decide_eq_true hk
 |false=>
  have:=cr (u:=u) (.inr (.inl (by have:=of_decide_eq_false hk;omega)))
  rw[h] at this
  cases this
theorem JJ.mk' {d:List UInt8} {es:List cn} (hd:d.length=32) (hb:Dt.bulkAll (es.map mW)≤1048576) (hw:∀u∈es,BL u) (hf:ii es≤120):JJ d es:=by
 have hm:∀u∈es,(mW u).bulk≤1048576:=fun u hu=>Nat.le_trans (ov hu) hb
 obtain⟨f1,f2⟩:=vx es dy
 have hin:∀u∈es.filter dy,u∈es∧dy u=true:=fun u hu=>List.mem_filter.1 hu
 have hj:=GW (es.filter dy) (jh d) (fun u hu=>⟨hm u (hin u hu).1,hw u (hin u hu).1,vy (hin u hu).2⟩) (by omega)
 rw[lO hd] at hj
 have hl:=dM (es.map mW)
 rw[List.length_map] at hl
 refine⟨fun u hu=>AQ (hm u hu) (hw u hu),by omega,by omega,GY fun u hu=>⟨(hin u hu).2,hw u (hin u hu).1,?_⟩⟩
 have he:=AP (hm u (hin u hu).1) (hw u (hin u hu).1) (vy (hin u hu).2)
 have:=hm u (hin u hu).1
 have hz:=xM u
 omega
theorem Ie {w:World} {b d:List UInt8} {ws:List cn} {n:Nat} {v:Value} (hv:cE b v w) (hl:b.length≤7340032) (e:oh b=((d,ws,n),0)):
 Calls Tryz.prog 13 #[v] w (bH fun r w'=>aJ w w'∧∃ve,r=.tuple #[.agg (d.map U8).toArray,ve,I (n:Int),I 0]∧cv (fun k=>k<w.heap.size) w' (.sl (ws.map mW)) [ve]):=
 bH.mono (Ey hv hl) fun _ _ h=>⟨h.1,h.2.is e⟩
end Go.Rl
namespace Go.Rl
open Go.RowKit Go.Proofs
def GZ:bz:=⟨2,0,Jb⟩
def KB:bz:=⟨1,0,Jb⟩
def Ca:cn:=⟨[GZ],G8⟩
theorem EE:(Tryz.prog.info? 54).map (fun i=>(i.zero,i.size))=some (some (.agg #[.slice none 0 0,.slice none 0 0,I 0,I 0,B false,.slice none 0 0,.slice none 0 0,.slice none 0 0,B false,.slice none 0 0]),10):=by kernel_rfl
theorem KC:ko 2:=by unfold ko;omega
theorem G0:ko 0:=by unfold ko;omega
theorem If:BL Ca:=⟨fun d hd=>by
 simp only[Ca,List.mem_singleton] at hd
 subst hd
 exact⟨KC,G0⟩,(rR G8).2 ⟨fun m hm=>(nomatch hm),⟨G0,G0⟩,fun m hm=>(nomatch hm),fun m hm=>(nomatch hm)⟩⟩
theorem Ig:qg [Ca]=((.mk [] KB [G8,G8] false [],[[KB]]),0):=by kernel_rfl
theorem Ih:oh (jh vF)=((vF,[],44),0):=by
 have h:=BP (d:=vF) (es:=[]) rfl fun e he=>by cases he
 rw[show(vK (jh vF) []).length=44 from lO rfl] at h
 exact h
theorem Cb {w:World} {v:Value} (hv:ct mW [Ca] v w) (ho:zp w):
 Calls Tryz.prog 25 #[v] w (bH fun r w'=>aJ w w'∧∃vl x y vk vp mv,r=.tuple #[.agg #[vl,I 1,I 0,B false,x,y,vk,B false,vp],mv,I 0]∧ao [vl,I 1,I 0,B false,x,y,vk,B false,vp]∧ct ie [[KB]] mv w'):=by
 refine bH.mono (td hv (fun u hu=>?_) ho (by simp)) fun r w' h=>⟨h.1,?_⟩
 ·simp only[List.mem_singleton] at hu
  subst hu
  exact AQ (by decide) If
 ·obtain⟨cs,mv,h1,h2,h3,h4⟩:=h.2
  rw[Ig] at h1 h3 h4
  obtain⟨vl,x,y,vk,vp,rfl,_⟩:=cW h3
  exact⟨vl,x,y,vk,vp,mv,h1,h2,h4⟩
theorem Awake47:C8:=by
 intro w ho
 refine enter (vs:=[]) Tryz.func12 E E E ?_
 refine af (aa (ac E E (ag (ab (af (aa (bj (vs:=[(0,I 2)]) (r:=.agg #[I 2,I 0,B false,.slice none 0 0,.slice none 0 0]) E E (by exact run_build _ _ _ _ (by kernel_rfl)) ?_)))))))
 obtain⟨v11,w11,hr11,x11,b11⟩:=iY (w:=w) (d:=GZ) (x:=.slice none 0 0) (y:=.slice none 0 0)
 have d11:ct cQ [GZ] v11 w11:=Rp.ofSl (sz:=5) (xs:=[I 2,I 0,B false,.slice none 0 0,.slice none 0 0]) b11 (by simpa using bk.cons (b:=[]) (show Rp w11 (cQ GZ) [I 2,I 0,B false,.slice none 0 0,.slice none 0 0] from uS (d:=GZ) (Sl.nil _ _) (Sl.nil _ _)) bk.nil) (by simp[bN]) (by omega)
 obtain⟨A11,n11,c11,rfl⟩:=d11.isS
 refine aG (vs:=[(0,.agg #[I 2,I 0,B false,.slice none 0 0,.slice none 0 0])]) E E hr11 ?_
 refine bj (vs:=[(0,.slice A11 n11 c11)]) (r:=.agg #[.slice A11 n11 c11,.slice none 0 0,I 0,I 0,B false,.slice none 0 0,.slice none 0 0,.slice none 0 0,B false,.slice none 0 0]) E E (run_build _ _ _ #[.slice A11 n11 c11,.slice none 0 0,I 0,I 0,B false,.slice none 0 0,.slice none 0 0,.slice none 0 0,B false,.slice none 0 0] (by kernel_rfl)) ?_
 obtain⟨v13,w13,hr13,x13,b13,_⟩:=ur (P:=Tryz.prog) (w:=w11) (t:=25) Tryz.underlying25 EE rfl (by omega) [[.slice A11 n11 c11,.slice none 0 0,I 0,I 0,B false,.slice none 0 0,.slice none 0 0,.slice none 0 0,B false,.slice none 0 0]] (by simp) (by simp) (by simp)
 have r13:cv (fun _=>False) w13 (mW Ca) [.slice A11 n11 c11,.slice none 0 0,I 0,I 0,B false,.slice none 0 0,.slice none 0 0,.slice none 0 0,B false,.slice none 0 0]:=ra (u:=Ca) ((Rp.x (d11.ext x13)).weak fun _ h=>h.elim) tD
 have d13:ct mW [Ca] v13 w13:=Rp.ofSl (sz:=10) b13 (by simpa using bk.cons (b:=[]) r13.rp bk.nil) (by simp[dN]) (by omega)
 refine aG (vs:=[(0,.agg #[.slice A11 n11 c11,.slice none 0 0,I 0,I 0,B false,.slice none 0 0,.slice none 0 0,.slice none 0 0,B false,.slice none 0 0])]) E E hr13 ?_
 refine an ta E E ((Cb d13 (ho.ext (x11.trans x13)))) ?_
 rintro v14 w14 ⟨x14,vl,x,y,vk,vp,mv,rfl,h1,hm⟩
 refine ae E E (az E E (fg) (az E E (fh) (az E E (fi) ?_)))
 obtain⟨g1,w1,hr1,l1,x1,k1⟩:=aZ (P:=Tryz.prog) (w:=w14) (t:=52) (z:=.agg #[.slice none 0 0,I 0,I 0,B false,.slice none 0 0,.slice none 0 0,.slice none 0 0,B false,.slice none 0 0]) (l:=[.slice none 0 0,I 0,I 0,B false,.slice none 0 0,.slice none 0 0,.slice none 0 0,B false,.slice none 0 0]) (by kernel_rfl) rfl
 refine aX E hr1 ?_
 obtain⟨w2,s2,q2,k2⟩:=k1.stS (P:=Tryz.prog) (t:=52) (m:=[vl,I 1,I 0,B false,x,y,vk,B false,vp]) rfl (by kernel_rfl) h1
 refine ax E E s2 ?_
 have x2:=aJ.of_new x1 q2 l1
 refine ac E E (ac E E (ag (ab (af (aa ?_)))))
 refine bj (vs:=[]) (r:=.agg (vF.map U8).toArray) E E (run_build _ _ _ (vF.map U8).toArray (by kernel_rfl)) ?_
 refine an BQ E E ((BR (d:=vF) E)) ?_
 rintro v19 w19 ⟨x19,o19⟩
 have b19:=o19.bts
 refine ac E E (ag (ab (af (aa (ae E E (an Ex E E ((Ie b19 (by rw[lO rfl];omega) Ih)) ?_))))))
 rintro v22 w22 ⟨x22,ve,rfl,rp22⟩
 refine ae E E (az E E (GN) (az E E (GO) (az E E (GP) (az E E (GQ) ?_))))
 obtain⟨g5,w5,hr5,l5,x5,k5⟩:=aZ (P:=Tryz.prog) (w:=w22) (t:=24) (l:=vF.map U8) kQ rfl
 refine aX E hr5 ?_
 obtain⟨w6,s6,q6,k6⟩:=k5.stS (P:=Tryz.prog) (t:=24) (m:=vF.map U8) rfl (by kernel_rfl) (iu _)
 refine ax E E s6 ?_
 have x6:=aJ.of_new x5 q6 l5
 refine ac E E (ac E E (ac E E (ag (ab (af ?_)))))
 have hmW:=hm.ext ((((x2.trans x19).trans x22).trans x6))
 have hlW:ct mW [] ve w6:=(rp22.ext x6).rp
 have b19W:=b19.ext ((x22.trans x6))
 obtain⟨a42,c42,p42,q42,h42⟩:=bR (P:=Tryz.prog) (sz:=1) Tryz.underlying59 (by kernel_rfl) fy (by omega) hmW (i:=0) (by simp) .i64
 obtain⟨v43,rfl,d43,_⟩:=Rp.isSlice h42
 obtain⟨a51,c51,p51,q51,h51⟩:=bR (P:=Tryz.prog) (sz:=5) Tryz.underlying41 (by kernel_rfl) bN (by omega) (show ct cQ [KB] v43 w6 from d43) (i:=0) (by simp) .i64
 obtain⟨x51,y51,rfl,_,_⟩:=fE h51
 refine aa (ae E E (ak E E E (cR E a6) (ae E E (al E (ah E E (ap (o:=1) KF E (by kernel_rfl) E) ?_)))))
 refine al E (ah E E (cx (b:=1) (o:=0) KH E (by kernel_rfl) E) (al E (aj E E (ai KI E (((x19.trans x22).trans x6).cell_some (k2.cell (i:=1) E))) ?_)))
 refine al E (ak E E E (cR E a6) (ar E E E (ae E E (al E (ae E E (al E ?_))))))
 refine aS E E (a9 Ld hmW) ?_
 refine al E (ak E E E (cR E a6) (ar E E E (ae E E (al E (ae E E (al E ?_))))))
 refine au E E E (p42 _) ?_
 refine al E ?_
 refine aj E E (ai KN E (by have h:=q42 0 v43 rfl;rwa [i0] at h)) ?_
 refine al E ?_
 refine aS E E (a9 KN (show ct cQ [KB] v43 w6 from d43)) ?_
 refine al E (ak E E E (cR E a6) (ar E E E (ae E E (al E (ae E E (al E ?_))))))
 refine au E E E (p42 _) ?_
 refine al E ?_
 refine aj E E (ai KN E (by have h:=q42 0 v43 rfl;rwa [i0] at h)) ?_
 refine al E ?_
 refine au E E E (p51 _) ?_
 refine al E ?_
 refine ah E E (gr (o:=0) KH E (by kernel_rfl) E) ?_
 refine al E (aj E E (ai KI E (q51.at (j:=0) E)) (al E (ak E E E (cR E a6) (ar E E E (ae E E ?_)))))
 refine al E (ae E E (al E ?_))
 refine aS E E (ey b19W) ?_
 refine al E (ak E E E (cR (by rw[lO rfl];rfl) a6) (ar E E E (ae E E (al E (ae E E (al E ?_))))))
 refine aS E E (a9 K3 hlW) ?_
 refine al E (ak E E E (cR E a6) (ar E E E (ae E E (al E (ae E E (al E (ak E E E (cR E a6) (ar E E E ?_))))))))
 refine ae E E (al E (ae E E (al E (ak E E E (cR E a6) (ar E E E (ac E E (ag (ab (aw (av E E ?_))))))))))
 exact⟨_,rfl,((((((x11.trans x13).trans x14).trans x2).trans x19).trans x22).trans x6),rfl⟩
end Go.Rl
namespace Go.Rl
open Go.RowKit Go.Proofs
theorem bk.take {w:World} {sz:Nat}:∀(l:List Dt) (xs:List Value) (i:Nat),(∀d∈l,d.size=sz)→bk w l xs→bk w (l.take i) (xs.take (i*sz))
 |[],xs,i,_,h=>by
  simp only[bk] at h
  subst h
  simp only[List.take_nil,bk]
 |d::l,xs,0,_,h=>by simp only[List.take_zero,Nat.zero_mul,bk]
 |d::l,xs,i+1,hs,h=>by
  simp only[bk] at h
  obtain⟨c1,c2,rfl,h1,h2⟩:=h
  have hl:c1.length=sz:=by rw[h1.len];exact hs d (by simp)
  rw[List.take_succ_cons,Nat.succ_mul,List.take_append,List.take_of_length_le (l:=c1) (by rw[hl];exact Nat.le_add_left _ _),show i*sz+sz-c1.length=i*sz by omega]
  exact bk.cons h1 (bk.take l c2 i (fun d hd=>hs d (by simp[hd])) h2)
end Go.Rl
namespace Go.Rl
open Go.RowKit Go.Proofs
theorem oZ:aH Tryz.prog 67:=⟨_,Tryz.func67,by kernel_rfl,rfl⟩
theorem bk.drop {w:World} {sz:Nat}:∀(l:List Dt) (xs:List Value) (i:Nat),(∀d∈l,d.size=sz)→bk w l xs→bk w (l.drop i) (xs.drop (i*sz))
 |[],xs,i,_,h=>by
  simp only[bk] at h
  subst h
  simp only[List.drop_nil,bk]
 |d::l,xs,0,_,h=>by simpa only[List.drop_zero,Nat.zero_mul] using h
 |d::l,xs,i+1,hs,h=>by
  simp only[bk] at h
  obtain⟨c1,c2,rfl,h1,h2⟩:=h
  have hl:c1.length=sz:=by rw[h1.len];exact hs d (by simp)
  rw[List.drop_succ_cons,Nat.succ_mul,List.drop_append,(List.drop_eq_nil_iff (l:=c1)).2 (by rw[hl];exact Nat.le_add_left _ _),List.nil_append,show i*sz+sz-c1.length=i*sz by omega]
  exact bk.drop l c2 i (fun d hd=>hs d (by simp[hd])) h2
theorem EF {P:Program} {α:Type} {f:α→Dt} {l:List α} {v:Value} {w:World} {t e:TypeId} {sz:Nat} (ht:P.underlying t=some (.slice e)) (hz:(P.info? e).map (·.size)=some sz) (hs:∀x,(f x).size=sz) (h0:0<sz) (h:ct f l v w) {lo:Nat} (h1:lo≤l.length):
 ∃v',(∀w':World,(Instr.sliceAt t v (some (I (lo:Int))) none none).run P w'=.ok v' w')∧ct f (l.drop lo) v' w:=by
 have hm:∀(m:List α),∀d∈m.map f,d.size=sz:=fun m d hd=>by obtain⟨a,_,rfl⟩:=List.mem_map.1 hd;exact hs a
 obtain⟨xs,h2,h3⟩:=Rp.toSl (sz:=sz) (l:=l.map f) h (hm l)
 have hxl:xs.length=l.length*sz:=by rw[h3.len,cG (sz:=sz) (hm l),List.length_map]
 obtain⟨v',h4,h5⟩:=pq (P:=P) ht hz h2 (lo:=lo) (by rw[hxl];exact Nat.mul_le_mul_right _ h1) h0 .i64
 refine⟨v',h4,Rp.ofSl (l:=(l.drop lo).map f) h5 ?_ (hm _) h0⟩
 rw[List.map_drop]
 exact bk.drop _ _ _ (hm l) h3
structure rg (w0 w:World) (g:Nat) (ids:List Nat) (s:bz) (a b:JT) (x y:Value) (g1 g2:Nat) (i1 i2:List Nat) (w':World):Prop where
 mv:Mv (fun k=>k=g) w w'
 hx:bi s.at_.2.1 x w0
 hy:bi s.at_.2.2 y w0
 blk:bA g 120 (iE 2 z9 s x y (kX g1) (kX g2)) w'
 k1:kY w0 w' g1 a i1
 k2:kY w0 w' g2 b i2
 n1:g∉i1
 n2:g∉i2
 n3:∀k∈i1,k∉i2
 fresh:∀k,k∈i1∨k∈i2→k∈ids∨w.heap.size≤k
 young:w0.heap.size≤g
section
variable {w0 w w' w1 wx:World} {g g1 g2:Nat} {t a b:JT} {ids i1 i2:List Nat} {n:aV} {ps:List bz} {d s:bz} {x y r:Value}
theorem rg.ext (h:rg w0 w g ids s a b x y g1 g2 i1 i2 w') (e:aJ w' w1):rg w0 w g ids s a b x y g1 g2 i1 i2 w1:=
 ⟨h.mv.trans (Mv.of_ext (X:=fun k=>k=g) e) fun _ hk _=>hk,h.hx,h.hy,h.blk.ext e,h.k1.ext e,h.k2.ext e,h.n1,h.n2,h.n3,h.fresh,h.young⟩
def JK (w0 w:World) (g:Nat) (t:JT) (ids:List Nat) (n:aV) (pt:List bz) (r:Value) (w':World):Prop:=
 aJ w0 w'∧Mv (fun k=>k∈ids) w w'∧((gt n pt t=none∧r=B false)∨(r=B true∧∃t' ids',gt n pt t=some t'∧kY w0 w' g t' ids'∧∀k∈ids',k∈ids∨w.heap.size≤k))
theorem rg.go1 (hM:rg w0 w g ids s a b x y g1 g2 i1 i2 wx) (hin:g∈ids) (hop:pj d t=.split s a b) (hs:s=d) (h:JK w0 wx g1 a i1 n ps r w'):JK w0 w g t ids n (d::ps) r w':=by
 obtain⟨eF,mF,hF⟩:=h
 have sz:=hM.mv.size
 have gl:=hM.blk.lt
 have m1:Mv (fun k=>k∈ids) w wx:=hM.mv.weak fun k hk _=>by have e:k=g:=hk;rw[e];exact hin
 refine⟨eF,m1.trans mF fun k hk hkl=>(hM.fresh k (.inl hk)).resolve_right (by omega),?_⟩
 rcases hF with⟨h1,h2⟩|⟨h1,a',i',h2,h3,h4⟩
 ·exact .inl ⟨by rw[zl hop hs,h1];rfl,h2⟩
 ·refine .inr ⟨h1,.split s a' b,g::(i'++i2),by rw[zl hop hs,h2];rfl,kY.split hM.hx hM.hy (mF.blk hM.blk hM.n1) h3 (hM.k2.mv mF fun k hk hk'=>hM.n3 k hk' hk) hM.young (fun hk=>?_) hM.n2 (fun k hk hk2=>?_),fun k hk=>?_⟩
  ·rcases h4 _ hk with h5|h5
   ·exact hM.n1 h5
   ·omega
  ·rcases h4 _ hk with h5|h5
   ·exact hM.n3 k h5 hk2
   ·have:=hM.k2.lt k hk2;omega
  ·simp only[List.mem_cons,List.mem_append] at hk
   rcases hk with rfl|hk|hk
   ·exact .inl hin
   ·rcases h4 _ hk with h5|h5
    ·exact hM.fresh k (.inl h5)
    ·exact .inr (by omega)
   ·exact hM.fresh k (.inr hk)
theorem rg.go2 (hM:rg w0 w g ids s a b x y g1 g2 i1 i2 wx) (hin:g∈ids) (hop:pj d t=.split s a b) (hs:¬s=d) (ho:bT s=d) (h:JK w0 wx g2 b i2 n ps r w'):JK w0 w g t ids n (d::ps) r w':=by
 obtain⟨eF,mF,hF⟩:=h
 have sz:=hM.mv.size
 have gl:=hM.blk.lt
 have m1:Mv (fun k=>k∈ids) w wx:=hM.mv.weak fun k hk _=>by have e:k=g:=hk;rw[e];exact hin
 refine⟨eF,m1.trans mF fun k hk hkl=>(hM.fresh k (.inr hk)).resolve_right (by omega),?_⟩
 rcases hF with⟨h1,h2⟩|⟨h1,b',i',h2,h3,h4⟩
 ·exact .inl ⟨by rw[zm hop hs ho,h1];rfl,h2⟩
 ·refine .inr ⟨h1,.split s a b',g::(i1++i'),by rw[zm hop hs ho,h2];rfl,kY.split hM.hx hM.hy (mF.blk hM.blk hM.n2) (hM.k1.mv mF fun k hk hk'=>hM.n3 k hk hk') h3 hM.young hM.n1 (fun hk=>?_) (fun k hk1 hk=>?_),fun k hk=>?_⟩
  ·rcases h4 _ hk with h5|h5
   ·exact hM.n2 h5
   ·omega
  ·rcases h4 _ hk with h5|h5
   ·exact hM.n3 k hk1 h5
   ·have:=hM.k1.lt k hk1;omega
  ·simp only[List.mem_cons,List.mem_append] at hk
   rcases hk with rfl|hk|hk
   ·exact .inl hin
   ·exact hM.fresh k (.inl hk)
   ·rcases h4 _ hk with h5|h5
    ·exact hM.fresh k (.inr h5)
    ·exact .inr (by omega)
end
def JL (w0:World) (n:aV) (nv:Value) (pt:List bz):Prop:=∀(w:World) (g:Nat) (t:JT) (ids:List Nat) (pv:Value),aJ w0 w→kY w0 w g t ids→ct cQ pt pv w0→
 Calls Tryz.prog 67 #[.pointer (some ⟨g,0,none⟩),pv,nv] w (bH fun r w'=>JK w0 w g t ids n pt r w')
theorem xN {w0:World} {n:aV} {vl x y vk vp:Value} (hl:ct cP n.lems vl w0) (hx:bi n.split.at_.2.1 x w0) (hy:bi n.split.at_.2.2 y w0) (hk:ct bm n.kids vk w0) (hp:ct bI n.pf vp w0) {pt:List bz} (ih:∀d ps,pt=d::ps→JL w0 n (.agg #[vl,I n.split.kd,I n.split.ix,B n.split.at_.1,x,y,vk,B n.empty,vp]) ps):
 JL w0 n (.agg #[vl,I n.split.kd,I n.split.ix,B n.split.at_.1,x,y,vk,B n.empty,vp]) pt:=by
 intro w g t ids pv e0 hJ hpv
 have hg:w0.heap.size≤g:=hJ.young g hJ.root
 have hgl:g<w.heap.size:=hJ.lt g hJ.root
 have hin:=hJ.root
 have hpw:=hpv.ext e0
 have hll:=hpv.len
 have h1n:ao [vl,I n.split.kd,I n.split.ix,B n.split.at_.1,x,y,vk,B n.empty,vp]:=ao.cons hl.one (ao.cons rfl (ao.cons rfl (ao.cons rfl (ao.cons hx.one (ao.cons hy.one (ao.cons hk.one (ao.cons rfl (ao.cons hp.one ao.nil))))))))
 have hl':=hl.ext e0
 have hx':=hx.ext e0
 have hy':=hy.ext e0
 have hk':=hk.ext e0
 have hp':=hp.ext e0
 refine enter (vs:=[.pointer (some ⟨g,0,none⟩),pv,.agg #[vl,I n.split.kd,I n.split.ix,B n.split.at_.1,x,y,vk,B n.empty,vp]]) Tryz.func67 E E E ?_
 refine af (aa ?_)
 obtain⟨g5,w5,hr5,l5,x5,k5⟩:=ca (P:=Tryz.prog) (w:=w) (T:=52) (cs:=[vl,I n.split.kd,I n.split.ix,B n.split.at_.1,x,y,vk,B n.empty,vp])
 refine cm E E hr5 (ac E E (ag (ab (af (af ?_)))))
 have hg5:g≠g5:=by omega
 have y5:=e0.trans x5
 have hJ2:=hJ
 rcases hpt:pt with _|⟨d,ps⟩
 rcases t.shape with ht|⟨m,ht⟩|⟨s,a,b,ht⟩
 rotate_right
 rotate_right
 rotate_right
 rotate_right
 ·rw[ht] at hJ2
  obtain⟨hid,kg⟩:=zk hJ2
  have kg5:bA g 120 [I 0,.slice none 0 0,I 0,I 0,B false,.slice none 0 0,.slice none 0 0,.slice none 0 0,B false,.slice none 0 0,I 0,I 0,B false,.slice none 0 0,.slice none 0 0,.pointer none,.pointer none] w5:=kg.ext x5
  refine aa (ae E E (aS E E (a9 KN (hpv.ext (e0.trans x5))) (ak E E E (cR (by rw[hpt];rfl) a6) ?_)))
  refine ag (ab (bg E (af (af (aa (ae E E (aq E E (ah E E (ap (o:=0) KX E (by kernel_rfl) E) ?_))))))))
  refine aj E E (ai KI E (kg5.cell (i:=0) E)) (ak E E E (cR E a6) (ag (ab (bg E ?_))))
  have eD:aJ w5 w5.drew:=(aJ.refl w5).drew
  have hS:bA g5 52 [vl,I n.split.kd,I n.split.ix,B n.split.at_.1,x,y,vk,B n.empty,vp] w5.drew:=k5.ext eD
  refine fR (fun w1=>bA g5 52 [vl,I n.split.kd,I n.split.ix,B n.split.at_.1,x,y,vk,B n.empty,vp] w1) 9 E (by kernel_rfl) ?_
  refine cT 0 E E (by kernel_rfl) E hS ?_
  refine cT 1 E E (by kernel_rfl) E hS ?_
  refine eQ 2 E E (by kernel_rfl) E hS (fun _ hw=>hw.ld KF E (by kernel_rfl)) ?_
  refine fz 3 E E (by kernel_rfl) E hS ?_
  refine c6 4 E E (by kernel_rfl) E hS (fun _ _=>ap (o:=0) KX E (by kernel_rfl) E) ?_
  obtain⟨wA,sA,qA,kA⟩:=(kg5.ext eD).stC (P:=Tryz.prog) (t:=3) (i:=0) (v:=I 1) (by kernel_rfl) rfl (by simp)
  have hS2:=hS.other qA (fun e=>hg5 (Option.some.inj e).symm)
  refine aQ 5 (by kernel_rfl) E (ax E E sA (aF hS2 ?_))
  refine fz 6 E E (by kernel_rfl) E hS2 ?_
  refine c6 7 E E (by kernel_rfl) E hS2 (fun _ _=>ap (o:=1) KX E (by kernel_rfl) E) ?_
  obtain⟨wB,sB,qB,kB⟩:=bA.stO (P:=Tryz.prog) (t:=52) (m:=[vl,I n.split.kd,I n.split.ix,B n.split.at_.1,x,y,vk,B n.empty,vp]) kA 1 (by show 1+9≤17;omega) (by kernel_rfl) h1n
  refine aQ 8 (by kernel_rfl) E (ax E E sB (aF (hS2.other qB (fun e=>hg5 (Option.some.inj e).symm)) (fS (by kernel_rfl) ?_)))
  have mB:Mv (fun k=>k=g) w wB:=((Mv.of_ext (X:=fun k=>k=g) (x5.trans eD)).trans (Mv.of_grown (X:=fun k=>k=g) qA fun k hk _=>(Option.some.inj hk).symm) fun _ h _=>h).trans (Mv.of_grown (X:=fun k=>k=g) qB fun k hk _=>(Option.some.inj hk).symm) fun _ h _=>h
  have eB:aJ w0 wB:=mB.ext_from e0 fun k hk=>by have e:k=g:=hk;omega
  have kBf:bA g 120 [I 1,vl,I n.split.kd,I n.split.ix,B n.split.at_.1,x,y,vk,B n.empty,vp,I 0,I 0,B false,.slice none 0 0,.slice none 0 0,.pointer none,.pointer none] wB:=kB
  refine ab (af (aa (ae E E (aq E E (ah E E (ap (o:=0) KX E (by kernel_rfl) E) ?_)))))
  refine aj E E (ai KI E (kBf.cell (i:=0) E)) (ak E E E (cR E a6) (ac E E (ag (ab (aw (aD (av E E ?_)))))))
  exact⟨_,rfl,eB,mB.weak fun k hk _=>(by have e:k=g:=hk;rw[e];exact hin),.inr ⟨rfl,.leaf n,[g],by rw[ht];rfl,kY.leaf (cs:=[vl,I n.split.kd,I n.split.ix,B n.split.at_.1,x,y,vk,B n.empty,vp]) kBf (C6 hl hx hy hk hp) hg,fun k hk=>.inl (by simp only[List.mem_singleton] at hk;rw[hk];exact hin)⟩⟩
 ·rw[ht] at hJ2
  obtain⟨cs,hid,kg,hrl⟩:=tI hJ2
  obtain⟨vm,xm,ym,km,pm,rfl,_⟩:=cW hrl
  have kg5:bA g 120 [I 1,vm,I m.split.kd,I m.split.ix,B m.split.at_.1,xm,ym,km,B m.empty,pm,I 0,I 0,B false,.slice none 0 0,.slice none 0 0,.pointer none,.pointer none] w5:=kg.ext x5
  refine aa (ae E E (aS E E (a9 KN (hpv.ext (e0.trans x5))) (ak E E E (cR (by rw[hpt];rfl) a6) ?_)))
  refine ag (ab (bg E (af (af (aa (ae E E (aq E E (ah E E (ap (o:=0) KX E (by kernel_rfl) E) ?_))))))))
  refine aj E E (ai KI E (kg5.cell (i:=0) E)) (ak E E E (dn (by decide) a6) (ag (ab (cy E (aC (ab ?_))))))
  refine af (aa (ae E E (aq E E (ah E E (ap (o:=0) KX E (by kernel_rfl) E) ?_))))
  refine aj E E (ai KI E (kg5.cell (i:=0) E)) (ak E E E (cR E a6) (ac E E (ag (ab (aw (aD (av E E ?_)))))))
  exact⟨_,rfl,y5,Mv.of_ext x5,.inr ⟨rfl,.leaf m,ids,by rw[ht];rfl,hJ2.ext x5,fun k hk=>.inl hk⟩⟩
 ·rw[ht] at hJ2
  obtain⟨xs,ys,g1,g2,i1,i2,hid,_,_,kg,_⟩:=hJ2.split_inv
  have kg5:bA g 120 [I 2,.slice none 0 0,I 0,I 0,B false,.slice none 0 0,.slice none 0 0,.slice none 0 0,B false,.slice none 0 0,I s.kd,I s.ix,B s.at_.1,xs,ys,.pointer (some ⟨g1,0,none⟩),.pointer (some ⟨g2,0,none⟩)] w5:=kg.ext x5
  refine aa (ae E E (aS E E (a9 KN (hpv.ext (e0.trans x5))) (ak E E E (cR (by rw[hpt];rfl) a6) ?_)))
  refine ag (ab (bg E (af (af (aa (ae E E (aq E E (ah E E (ap (o:=0) KX E (by kernel_rfl) E) ?_))))))))
  refine aj E E (ai KI E (kg5.cell (i:=0) E)) (ak E E E (dn (by decide) a6) (ag (ab (cy E (aC (ab ?_))))))
  refine af (aa (ae E E (aq E E (ah E E (ap (o:=0) KX E (by kernel_rfl) E) ?_))))
  refine aj E E (ai KI E (kg5.cell (i:=0) E)) (ak E E E (dn (by decide) a6) (ac E E (ag (ab (aw ?_)))))
  refine aD (av E E ?_)
  exact⟨_,rfl,y5,Mv.of_ext x5,.inl ⟨by rw[ht];rfl,rfl⟩⟩
 ·have hd:d=pt[0]'(by rw[hpt];simp):=by simp only[hpt,List.getElem_cons_zero]
  refine aa (ae E E (aS E E (a9 Tryz.underlying41 (hpv.ext (e0.trans x5))) (ak E E E (dn (by rw[hpt];simp;omega) a6) ?_)))
  refine ag (ab (cy E (aC (ab (af (aa (ae E E ?_)))))))
  obtain⟨a29,c29,p29,q29,h29⟩:=bR (P:=Tryz.prog) (sz:=5) Tryz.underlying41 (by kernel_rfl) bN (by omega) hpv (i:=0) ((by rw[hpt];simp)) .i64
  rw[←hd] at h29
  obtain⟨x29_0,x29_1,rfl,f29_0,f29_1⟩:=fE h29
  refine au E E E (p29 _) (aj E E ((q29.ext (e0.trans x5)).ld KH E (by kernel_rfl)) ?_)
  obtain⟨g7,w7,hr7,l7,x7,k7⟩:=aZ (P:=Tryz.prog) (w:=w5) (t:=48) (z:=.agg #[I 0,I 0,B false,.slice none 0 0,.slice none 0 0]) (l:=[I 0,I 0,B false,.slice none 0 0,.slice none 0 0]) (by kernel_rfl) rfl
  refine aX E hr7 ?_
  obtain⟨w5_4,s5_4,q5_4,k5_4⟩:=k7.stS (P:=Tryz.prog) (t:=48) (m:=[I d.kd,I d.ix,B d.at_.1,x29_0,x29_1]) rfl (by kernel_rfl) (ao.cons rfl (ao.cons rfl (ao.cons rfl (ao.cons f29_0.one (ao.cons f29_1.one ao.nil)))))
  refine ax E E s5_4 ?_
  have x5_4:=aJ.of_new (x7) q5_4 l7
  refine ag (ab (af ?_))
  refine ei (fun(_:Unit)=>[(0,.pointer (some ⟨g,0,none⟩)),(1,pv),(5,.pointer (some ⟨g5,0,none⟩)),(7,.pointer (some ⟨g7,0,none⟩))]) (fun _ w'=>bA g5 52 [vl,I n.split.kd,I n.split.ix,B n.split.at_.1,x,y,vk,B n.empty,vp] w'∧bA g7 48 [I d.kd,I d.ix,B d.at_.1,x29_0,x29_1] w'∧aJ w0 w'∧((∃m cs,t=.leaf m∧Mv (fun k=>k∈ids) w w'∧bA g 120 (I 1::cs) w')∨∃s a b xs ys g1 g2 i1 i2,pj d t=.split s a b∧rg w0 w g ids s a b xs ys g1 g2 i1 i2 w')) ?_ ?_
  ·refine af ?_
   have hg7:g≠g7:=by have:=x5.size;omega
   have k5c:=k5.ext x5_4
   have hJ2:=hJ
   rcases t.shape with ht|⟨m,ht⟩|⟨s,a,b,ht⟩
   ·rw[ht] at hJ2
    obtain⟨hid,kg⟩:=zk hJ2
    have kg5:bA g 120 [I 0,.slice none 0 0,I 0,I 0,B false,.slice none 0 0,.slice none 0 0,.slice none 0 0,B false,.slice none 0 0,I 0,I 0,B false,.slice none 0 0,.slice none 0 0,.pointer none,.pointer none] w5_4:=kg.ext (x5.trans x5_4)
    refine aa (ae E E (aq E E (ah E E (ap (o:=0) KX E (by kernel_rfl) E) (aj E E (ai KI E (kg5.cell (i:=0) E)) ?_))))
    refine ak E E E (cR E a6) (ag (ab (bg E (af ?_))))
    have eD:aJ w5_4 w5_4.drew:=(aJ.refl w5_4).drew
    have hS:bA g7 48 [I d.kd,I d.ix,B d.at_.1,x29_0,x29_1] w5_4.drew:=k5_4.ext eD
    refine fR (fun w1=>bA g7 48 [I d.kd,I d.ix,B d.at_.1,x29_0,x29_1] w1) 9 E (by kernel_rfl) ?_
    refine cT 0 E E (by kernel_rfl) E hS ?_
    refine cT 1 E E (by kernel_rfl) E hS ?_
    refine eQ 2 E E (by kernel_rfl) E hS (fun _ hw=>hw.ld KH E (by kernel_rfl)) ?_
    refine fz 3 E E (by kernel_rfl) E hS ?_
    refine c6 4 E E (by kernel_rfl) E hS (fun _ _=>ap (o:=0) KX E (by kernel_rfl) E) ?_
    obtain⟨wA,sA,qA,kA⟩:=(kg5.ext eD).stC (P:=Tryz.prog) (t:=3) (i:=0) (v:=I 2) (by kernel_rfl) rfl (by simp)
    have hS2:=hS.other qA (fun e=>hg7 (Option.some.inj e).symm)
    refine aQ 5 (by kernel_rfl) E (ax E E sA (aF hS2 ?_))
    refine fz 6 E E (by kernel_rfl) E hS2 ?_
    refine c6 7 E E (by kernel_rfl) E hS2 (fun _ _=>ap (o:=10) KX E (by kernel_rfl) E) ?_
    obtain⟨wB,sB,qB,kB⟩:=bA.stO (P:=Tryz.prog) (t:=48) (m:=[I d.kd,I d.ix,B d.at_.1,x29_0,x29_1]) kA 10 (by show 10+5≤17;omega) (by kernel_rfl) (EB f29_0 f29_1)
    have hS3:=hS2.other qB (fun e=>hg7 (Option.some.inj e).symm)
    refine aQ 8 (by kernel_rfl) E (ax E E sB (aF hS3 (fS (by kernel_rfl) ?_)))
    have k5B:=((k5c.ext eD).other qA (fun e=>hg5 (Option.some.inj e).symm)).other qB (fun e=>hg5 (Option.some.inj e).symm)
    have mB:Mv (fun k=>k=g) w wB:=((Mv.of_ext (X:=fun k=>k=g) ((x5.trans x5_4).trans eD)).trans (Mv.of_grown (X:=fun k=>k=g) qA fun k hk _=>(Option.some.inj hk).symm) fun _ h _=>h).trans (Mv.of_grown (X:=fun k=>k=g) qB fun k hk _=>(Option.some.inj hk).symm) fun _ h _=>h
    have eB:aJ w0 wB:=mB.ext_from e0 fun k hk=>by have e:k=g:=hk;omega
    have kBf:bA g 120 (iE 2 z9 d x29_0 x29_1 dY dY) wB:=kB
    refine ab (af (af (aa (ah E E (ap (o:=0) KH E (by kernel_rfl) E) (aj E E (ai KI E (hS3.cell (i:=0) E)) ?_)))))
    refine ak E E E (a6) (ae E E ?_)
    refine cq (fun h46=>?_) (fun h46=>?_)
    ·refine am E E E (am E E E (am E E E (ar E E E (ag (ab (bg E (aa (ae E E (aj E E (hS3.ld KH E (by kernel_rfl)) ?_)))))))))
     refine an oX E E ((oY (f29_0.ext eB) (f29_1.ext eB))) ?_
     rintro v53 w53 ⟨x53,rfl⟩
     refine aq E E ?_
     refine ah E E (ap (o:=10) KX E (by kernel_rfl) E) ?_
     obtain⟨w9,s9,q9,k9⟩:=bA.stO (P:=Tryz.prog) (t:=48) (m:=[I (bT d).kd,I (bT d).ix,B (bT d).at_.1,x29_0,x29_1]) (kBf.ext x53) 10 (by show 10+5≤17;omega) (by kernel_rfl) (EB f29_0 f29_1)
     refine ax E E s9 ?_
     have y9:=aJ.of_new (eB.trans x53) q9 hg
     have m9:=(mB.trans (Mv.of_ext (X:=fun k=>k=g) x53) fun _ hk _=>hk).trans (Mv.of_grown (X:=fun k=>k=g) q9 fun k hk _=>(Option.some.inj hk).symm) fun _ hk _=>hk
     have k7c:=(hS3.ext x53).other q9 (fun e=>hg7 (Option.some.inj e).symm)
     have k5d:=(k5B.ext x53).other q9 (fun e=>hg5 (Option.some.inj e).symm)
     have hn:m0 d=bT d:=if_pos (by first|exact .inl h46|exact .inr h50)
     have kS:bA g 120 (iE 2 z9 (m0 d) x29_0 x29_1 dY dY) w9:=by rw[hn];exact k9
     refine ag (ab (aa (ae E E (bj (vs:=[]) (r:=.agg #[I 0,.slice none 0 0,I 0,I 0,B false,.slice none 0 0,.slice none 0 0,.slice none 0 0,B false,.slice none 0 0,I 0,I 0,B false,.slice none 0 0,.slice none 0 0,.pointer none,.pointer none]) E E (by exact run_build _ _ _ _ (by kernel_rfl)) ?_))))
     obtain⟨g58,w58,hr58,l58,x58,k58⟩:=ca (P:=Tryz.prog) (w:=w9) (T:=120) (cs:=[I 0,.slice none 0 0,I 0,I 0,B false,.slice none 0 0,.slice none 0 0,.slice none 0 0,B false,.slice none 0 0,I 0,I 0,B false,.slice none 0 0,.slice none 0 0,.pointer none,.pointer none])
     refine cm E E hr58 (bj (vs:=[]) (r:=.agg #[I 0,.slice none 0 0,I 0,I 0,B false,.slice none 0 0,.slice none 0 0,.slice none 0 0,B false,.slice none 0 0,I 0,I 0,B false,.slice none 0 0,.slice none 0 0,.pointer none,.pointer none]) E E (by exact run_build _ _ _ _ (by kernel_rfl)) ?_)
     obtain⟨g60,w60,hr60,l60,x60,k60⟩:=ca (P:=Tryz.prog) (w:=w58) (T:=120) (cs:=[I 0,.slice none 0 0,I 0,I 0,B false,.slice none 0 0,.slice none 0 0,.slice none 0 0,B false,.slice none 0 0,I 0,I 0,B false,.slice none 0 0,.slice none 0 0,.pointer none,.pointer none])
     refine cm E E hr60 ?_
     refine bj (vs:=[(0,.pointer (some ⟨g58,0,none⟩)),(1,.pointer (some ⟨g60,0,none⟩))]) (r:=.agg #[.pointer (some ⟨g58,0,none⟩),.pointer (some ⟨g60,0,none⟩)]) E E (run_build _ _ _ #[.pointer (some ⟨g58,0,none⟩),.pointer (some ⟨g60,0,none⟩)] (by kernel_rfl)) ?_
     refine aq E E ?_
     refine ah E E (ap (o:=15) KX E (by kernel_rfl) E) ?_
     obtain⟨wK,sK,qK,kK⟩:=bA.stO (P:=Tryz.prog) (t:=118) (m:=[.pointer (some ⟨g58,0,none⟩),.pointer (some ⟨g60,0,none⟩)]) (kS.ext (x58.trans x60)) 15 (by show 15+2≤17;omega) (by kernel_rfl) (ao.cons rfl (ao.cons rfl ao.nil))
     refine ax E E sK ?_
     have yK:=aJ.of_new (y9.trans (x58.trans x60)) qK hg
     have mK:=(m9.trans (Mv.of_ext (X:=fun k=>k=g) (x58.trans x60)) fun _ hk _=>hk).trans (Mv.of_grown (X:=fun k=>k=g) qK fun k hk _=>(Option.some.inj hk).symm) fun _ hk _=>hk
     have sz9:=m9.size
     have sz0:=e0.size
     have lt58:=k58.lt
     have G1:w0.heap.size≤g58:=by omega
     have G2:w0.heap.size≤g60:=by omega
     have N1:g∉[g58]:=by simp;omega
     have N2:g∉[g60]:=by simp;omega
     have N3:∀k∈[g58],k∉[g60]:=by simp;omega
     have FR:∀k,k∈[g58]∨k∈[g60]→k∈ids∨w.heap.size≤k:=fun k hk=>.inr (by simp at hk;omega)
     have k7d:=(k7c.ext (x58.trans x60)).other qK (fun e=>hg7 (Option.some.inj e).symm)
     have k5e:=(k5d.ext (x58.trans x60)).other qK (fun e=>hg5 (Option.some.inj e).symm)
     have k58b:=(k58.ext x60).other qK (fun e=>by have:=Option.some.inj e;omega)
     have k60b:=k60.other qK (fun e=>by have:=Option.some.inj e;omega)
     refine ag ?_
     exact bP () ⟨rfl,rfl,rfl,rfl,trivial⟩ ⟨k5e,k7d,yK,.inr ⟨m0 d,.gap,.gap,x29_0,x29_1,g58,g60,[g58],[g60],by rw[ht];rfl,⟨mK,by rw[hn];exact f29_0,by rw[hn];exact f29_1,kK,kY.gap k58b G1,kY.gap k60b G2,N1,N2,N3,FR,hg⟩⟩⟩
    ·refine al E (ah E E (ap (o:=0) KH E (by kernel_rfl) E) (al E (aj E E (ai KI E (hS3.cell (i:=0) E)) ?_)))
     refine al E (ak E E E (a6) (aI E E E (ag (ab ?_))))
     refine bt E (fun h50=>?_) (fun h50=>?_)
     ·refine aa (ae E E (aj E E (hS3.ld KH E (by kernel_rfl)) (an oX E E ((oY (f29_0.ext eB) (f29_1.ext eB))) ?_)))
      rintro v53 w53 ⟨x53,rfl⟩
      refine aq E E ?_
      refine ah E E (ap (o:=10) KX E (by kernel_rfl) E) ?_
      obtain⟨w9,s9,q9,k9⟩:=bA.stO (P:=Tryz.prog) (t:=48) (m:=[I (bT d).kd,I (bT d).ix,B (bT d).at_.1,x29_0,x29_1]) (kBf.ext x53) 10 (by show 10+5≤17;omega) (by kernel_rfl) (EB f29_0 f29_1)
      refine ax E E s9 ?_
      have y9:=aJ.of_new (eB.trans x53) q9 hg
      have m9:=(mB.trans (Mv.of_ext (X:=fun k=>k=g) x53) fun _ hk _=>hk).trans (Mv.of_grown (X:=fun k=>k=g) q9 fun k hk _=>(Option.some.inj hk).symm) fun _ hk _=>hk
      have k7c:=(hS3.ext x53).other q9 (fun e=>hg7 (Option.some.inj e).symm)
      have k5d:=(k5B.ext x53).other q9 (fun e=>hg5 (Option.some.inj e).symm)
      have hn:m0 d=bT d:=if_pos (by first|exact .inl h46|exact .inr h50)
      have kS:bA g 120 (iE 2 z9 (m0 d) x29_0 x29_1 dY dY) w9:=by rw[hn];exact k9
      refine ag (ab (aa (ae E E (bj (vs:=[]) (r:=.agg #[I 0,.slice none 0 0,I 0,I 0,B false,.slice none 0 0,.slice none 0 0,.slice none 0 0,B false,.slice none 0 0,I 0,I 0,B false,.slice none 0 0,.slice none 0 0,.pointer none,.pointer none]) E E (by exact run_build _ _ _ _ (by kernel_rfl)) ?_))))
      obtain⟨g58,w58,hr58,l58,x58,k58⟩:=ca (P:=Tryz.prog) (w:=w9) (T:=120) (cs:=[I 0,.slice none 0 0,I 0,I 0,B false,.slice none 0 0,.slice none 0 0,.slice none 0 0,B false,.slice none 0 0,I 0,I 0,B false,.slice none 0 0,.slice none 0 0,.pointer none,.pointer none])
      refine cm E E hr58 (bj (vs:=[]) (r:=.agg #[I 0,.slice none 0 0,I 0,I 0,B false,.slice none 0 0,.slice none 0 0,.slice none 0 0,B false,.slice none 0 0,I 0,I 0,B false,.slice none 0 0,.slice none 0 0,.pointer none,.pointer none]) E E (by exact run_build _ _ _ _ (by kernel_rfl)) ?_)
      obtain⟨g60,w60,hr60,l60,x60,k60⟩:=ca (P:=Tryz.prog) (w:=w58) (T:=120) (cs:=[I 0,.slice none 0 0,I 0,I 0,B false,.slice none 0 0,.slice none 0 0,.slice none 0 0,B false,.slice none 0 0,I 0,I 0,B false,.slice none 0 0,.slice none 0 0,.pointer none,.pointer none])
      refine cm E E hr60 ?_
      refine bj (vs:=[(0,.pointer (some ⟨g58,0,none⟩)),(1,.pointer (some ⟨g60,0,none⟩))]) (r:=.agg #[.pointer (some ⟨g58,0,none⟩),.pointer (some ⟨g60,0,none⟩)]) E E (run_build _ _ _ #[.pointer (some ⟨g58,0,none⟩),.pointer (some ⟨g60,0,none⟩)] (by kernel_rfl)) ?_
      refine aq E E ?_
      refine ah E E (ap (o:=15) KX E (by kernel_rfl) E) ?_
      obtain⟨wK,sK,qK,kK⟩:=bA.stO (P:=Tryz.prog) (t:=118) (m:=[.pointer (some ⟨g58,0,none⟩),.pointer (some ⟨g60,0,none⟩)]) (kS.ext (x58.trans x60)) 15 (by show 15+2≤17;omega) (by kernel_rfl) (ao.cons rfl (ao.cons rfl ao.nil))
      refine ax E E sK ?_
      have yK:=aJ.of_new (y9.trans (x58.trans x60)) qK hg
      have mK:=(m9.trans (Mv.of_ext (X:=fun k=>k=g) (x58.trans x60)) fun _ hk _=>hk).trans (Mv.of_grown (X:=fun k=>k=g) qK fun k hk _=>(Option.some.inj hk).symm) fun _ hk _=>hk
      have sz9:=m9.size
      have sz0:=e0.size
      have lt58:=k58.lt
      have G1:w0.heap.size≤g58:=by omega
      have G2:w0.heap.size≤g60:=by omega
      have N1:g∉[g58]:=by simp;omega
      have N2:g∉[g60]:=by simp;omega
      have N3:∀k∈[g58],k∉[g60]:=by simp;omega
      have FR:∀k,k∈[g58]∨k∈[g60]→k∈ids∨w.heap.size≤k:=fun k hk=>.inr (by simp at hk;omega)
      have k7d:=(k7c.ext (x58.trans x60)).other qK (fun e=>hg7 (Option.some.inj e).symm)
      have k5e:=(k5d.ext (x58.trans x60)).other qK (fun e=>hg5 (Option.some.inj e).symm)
      have k58b:=(k58.ext x60).other qK (fun e=>by have:=Option.some.inj e;omega)
      have k60b:=k60.other qK (fun e=>by have:=Option.some.inj e;omega)
      refine ag ?_
      exact bP () ⟨rfl,rfl,rfl,rfl,trivial⟩ ⟨k5e,k7d,yK,.inr ⟨m0 d,.gap,.gap,x29_0,x29_1,g58,g60,[g58],[g60],by rw[ht];rfl,⟨mK,by rw[hn];exact f29_0,by rw[hn];exact f29_1,kK,kY.gap k58b G1,kY.gap k60b G2,N1,N2,N3,FR,hg⟩⟩⟩
     ·have hn:m0 d=d:=if_neg (by rintro(h|h);exact h46 h;exact h50 h)
      have kS:bA g 120 (iE 2 z9 (m0 d) x29_0 x29_1 dY dY) wB:=by rw[hn];exact kBf
      have y9:=eB
      have m9:=mB
      have k7c:=hS3
      have k5d:=k5B
      refine aC (ab (aa (ae E E (bj (vs:=[]) (r:=.agg #[I 0,.slice none 0 0,I 0,I 0,B false,.slice none 0 0,.slice none 0 0,.slice none 0 0,B false,.slice none 0 0,I 0,I 0,B false,.slice none 0 0,.slice none 0 0,.pointer none,.pointer none]) E E (by exact run_build _ _ _ _ (by kernel_rfl)) ?_))))
      obtain⟨g58,w58,hr58,l58,x58,k58⟩:=ca (P:=Tryz.prog) (w:=wB) (T:=120) (cs:=[I 0,.slice none 0 0,I 0,I 0,B false,.slice none 0 0,.slice none 0 0,.slice none 0 0,B false,.slice none 0 0,I 0,I 0,B false,.slice none 0 0,.slice none 0 0,.pointer none,.pointer none])
      refine cm E E hr58 (bj (vs:=[]) (r:=.agg #[I 0,.slice none 0 0,I 0,I 0,B false,.slice none 0 0,.slice none 0 0,.slice none 0 0,B false,.slice none 0 0,I 0,I 0,B false,.slice none 0 0,.slice none 0 0,.pointer none,.pointer none]) E E (by exact run_build _ _ _ _ (by kernel_rfl)) ?_)
      obtain⟨g60,w60,hr60,l60,x60,k60⟩:=ca (P:=Tryz.prog) (w:=w58) (T:=120) (cs:=[I 0,.slice none 0 0,I 0,I 0,B false,.slice none 0 0,.slice none 0 0,.slice none 0 0,B false,.slice none 0 0,I 0,I 0,B false,.slice none 0 0,.slice none 0 0,.pointer none,.pointer none])
      refine cm E E hr60 ?_
      refine bj (vs:=[(0,.pointer (some ⟨g58,0,none⟩)),(1,.pointer (some ⟨g60,0,none⟩))]) (r:=.agg #[.pointer (some ⟨g58,0,none⟩),.pointer (some ⟨g60,0,none⟩)]) E E (run_build _ _ _ #[.pointer (some ⟨g58,0,none⟩),.pointer (some ⟨g60,0,none⟩)] (by kernel_rfl)) ?_
      refine aq E E ?_
      refine ah E E (ap (o:=15) KX E (by kernel_rfl) E) ?_
      obtain⟨wK,sK,qK,kK⟩:=bA.stO (P:=Tryz.prog) (t:=118) (m:=[.pointer (some ⟨g58,0,none⟩),.pointer (some ⟨g60,0,none⟩)]) (kS.ext (x58.trans x60)) 15 (by show 15+2≤17;omega) (by kernel_rfl) (ao.cons rfl (ao.cons rfl ao.nil))
      refine ax E E sK ?_
      have yK:=aJ.of_new (y9.trans (x58.trans x60)) qK hg
      have mK:=(m9.trans (Mv.of_ext (X:=fun k=>k=g) (x58.trans x60)) fun _ hk _=>hk).trans (Mv.of_grown (X:=fun k=>k=g) qK fun k hk _=>(Option.some.inj hk).symm) fun _ hk _=>hk
      have sz9:=m9.size
      have sz0:=e0.size
      have lt58:=k58.lt
      have G1:w0.heap.size≤g58:=by omega
      have G2:w0.heap.size≤g60:=by omega
      have N1:g∉[g58]:=by simp;omega
      have N2:g∉[g60]:=by simp;omega
      have N3:∀k∈[g58],k∉[g60]:=by simp;omega
      have FR:∀k,k∈[g58]∨k∈[g60]→k∈ids∨w.heap.size≤k:=fun k hk=>.inr (by simp at hk;omega)
      have k7d:=(k7c.ext (x58.trans x60)).other qK (fun e=>hg7 (Option.some.inj e).symm)
      have k5e:=(k5d.ext (x58.trans x60)).other qK (fun e=>hg5 (Option.some.inj e).symm)
      have k58b:=(k58.ext x60).other qK (fun e=>by have:=Option.some.inj e;omega)
      have k60b:=k60.other qK (fun e=>by have:=Option.some.inj e;omega)
      refine ag ?_
      exact bP () ⟨rfl,rfl,rfl,rfl,trivial⟩ ⟨k5e,k7d,yK,.inr ⟨m0 d,.gap,.gap,x29_0,x29_1,g58,g60,[g58],[g60],by rw[ht];rfl,⟨mK,by rw[hn];exact f29_0,by rw[hn];exact f29_1,kK,kY.gap k58b G1,kY.gap k60b G2,N1,N2,N3,FR,hg⟩⟩⟩
   ·rw[ht] at hJ2
    obtain⟨cs,hid,kg,hrl⟩:=tI hJ2
    obtain⟨vm,xm,ym,km,pm,rfl,_⟩:=cW hrl
    have kg5:bA g 120 [I 1,vm,I m.split.kd,I m.split.ix,B m.split.at_.1,xm,ym,km,B m.empty,pm,I 0,I 0,B false,.slice none 0 0,.slice none 0 0,.pointer none,.pointer none] w5_4:=kg.ext (x5.trans x5_4)
    refine aa (ae E E (aq E E (ah E E (ap (o:=0) KX E (by kernel_rfl) E) (aj E E (ai KI E (kg5.cell (i:=0) E)) ?_))))
    refine ak E E E (dn (by decide) a6) (ag (ab (cy E (aC ?_))))
    exact bP () ⟨rfl,rfl,rfl,rfl,trivial⟩ ⟨k5c,k5_4,y5.trans x5_4,.inl ⟨m,_,ht,Mv.of_ext (x5.trans x5_4),kg5⟩⟩
   ·rw[ht] at hJ2
    obtain⟨xs,ys,g1,g2,i1,i2,hid,hsx,hsy,kg,j1,j2,_,n1,n2,n3⟩:=hJ2.split_inv
    have kg5:bA g 120 [I 2,.slice none 0 0,I 0,I 0,B false,.slice none 0 0,.slice none 0 0,.slice none 0 0,B false,.slice none 0 0,I s.kd,I s.ix,B s.at_.1,xs,ys,.pointer (some ⟨g1,0,none⟩),.pointer (some ⟨g2,0,none⟩)] w5_4:=kg.ext (x5.trans x5_4)
    refine aa (ae E E (aq E E (ah E E (ap (o:=0) KX E (by kernel_rfl) E) (aj E E (ai KI E (kg5.cell (i:=0) E)) ?_))))
    refine ak E E E (dn (by decide) a6) (ag (ab (cy E (aC ?_))))
    exact bP () ⟨rfl,rfl,rfl,rfl,trivial⟩ ⟨k5c,k5_4,y5.trans x5_4,.inr ⟨s,a,b,xs,ys,g1,g2,i1,i2,by rw[ht];rfl,rg.ext ⟨Mv.refl _ _,hsx,hsy,kg,j1,j2,n1,n2,n3,fun k hk=>.inl (by rw[hid];simp only[List.mem_cons,List.mem_append];exact .inr hk),hg⟩ (x5.trans x5_4)⟩⟩
  rintro _ wC ⟨k5C,k7C,eC,hH⟩
  refine ab (af (aE (af ?_)))
  rcases hH with⟨m,cs,ht,mL,kL⟩|⟨s,a,b,xs,ys,g1,g2,i1,i2,hop,hM⟩
  ·refine aa (ae E E (aq E E ?_))
   refine ah E E (ap (o:=0) KX E (by kernel_rfl) E) ?_
   refine aj E E (ai KI E (kL.cell (i:=0) E)) (ak E E E (cR E a6) (ac E E (ag (ab (bg E (af ?_))))))
   refine aa (ac E E (ag (ab (aw (aY (aD (av E E ?_)))))))
   exact⟨_,rfl,eC,mL,.inl ⟨B7 (.inl ⟨m,ht⟩),rfl⟩⟩
  ·have kS:bA g 120 [I 2,.slice none 0 0,I 0,I 0,B false,.slice none 0 0,.slice none 0 0,.slice none 0 0,B false,.slice none 0 0,I s.kd,I s.ix,B s.at_.1,xs,ys,.pointer (some ⟨g1,0,none⟩),.pointer (some ⟨g2,0,none⟩)] wC:=hM.blk
   have sx:=hM.hx
   have sy:=hM.hy
   have hps:ct cQ pt pv w0:=hpv
   obtain⟨v83,p83,d83⟩:=EF (P:=Tryz.prog) Tryz.underlying41 (by kernel_rfl) bN (by omega) hps (lo:=1) (by rw[hpt];simp)
   have d83':ct cQ ps v83 w0:=by rw[hpt] at d83;simpa using d83
   have ihp:=ih d ps hpt
   refine aa (ae E E (aq E E ?_))
   refine ah E E (ap (o:=0) KX E (by kernel_rfl) E) ?_
   refine aj E E (ai KI E (kS.cell (i:=0) E)) (ak E E E (dn (by decide) a6) (ac E E (ag (ab (cy E ?_)))))
   refine af (bD 6 [0,1,5,7,76] (by kernel_rfl) (by kernel_rfl) ?_)
   refine aN E E (fun w hw=>(k7C.ext hw).ld KH E (by kernel_rfl)) (ay E E (cN E E ?_))
   refine aT E E (fun _ _=>ap (o:=10) KX E (by kernel_rfl) E) ?_
   refine aN rfl rfl (fun w' hw=>(kS.ext hw).ldO (ms:=[I s.kd,I s.ix,B s.at_.1,xs,ys]) (o:=10) (fun j v hj=>by rcases j with _|_|_|_|_|j<;>first|exact hj|exact absurd hj (by simp)) Tryz.underlying48 rfl (by kernel_rfl)) ?_
   refine cd (S:=Is (B (decide (d=s)))) lG (bG.is _) rfl (fun w hw=>by rintro _ rfl _ rfl;exact bH.mono (lH (a:=d) (b:=s) ((f29_0.ext eC).ext hw) ((f29_1.ext eC).ext hw) ((sx.ext eC).ext hw) ((sy.ext eC).ext hw)) fun v w' h=>⟨h.1,h.2⟩) ?_
   refine cb ?_
   intro wg13 xg13
   rintro _ rfl
   rintro _ hq1
   obtain rfl:=Eq.symm hq1
   rintro _ rfl
   rintro _ rfl
   rintro _ rfl
   refine ac E E (ag (ab ?_))
   refine fc E (fun h70=>?_) (fun h70=>?_)
   ·refine af ?_
    have hds:s=d:=(of_decide_eq_true h70).symm
    refine bD 8 [81,83,84] (by kernel_rfl) (by kernel_rfl) ?_
    refine ay E E (cN E E ?_)
    refine aT E E (fun _ _=>ap (o:=15) KX E (by kernel_rfl) E) ?_
    refine aA E E E (fun _ _=>gq Lj (by kernel_rfl) (i:=0) (by omega) .i64) ?_
    refine aN E E (fun w' hw=>ai Lk E (((kS.ext xg13).ext hw).cell (i:=15) E)) ?_
    refine ay E E ?_
    refine iV (a:=some (I ((1:Nat):Int))) (b:=none) E E E E (fun w _=>p83 w) ?_
    refine aN E E (fun w hw=>((k5C.ext xg13).ext hw).ld KF E (by kernel_rfl)) (cb ?_)
    intro wg14 xg14
    rintro _ rfl
    rintro _ hq83
    obtain rfl:=Eq.symm hq83
    rintro _ rfl
    refine an oZ E E ((ihp wg14 g1 a i1 v83 ((eC.trans xg13).trans xg14) ((hM.k1.ext xg13).ext xg14) d83')) ?_
    rintro v85 w85 hF
    refine ac E E (ag (ab (aw (aY (aD (av E E ?_))))))
    exact⟨_,rfl,((hM.ext xg13).ext xg14).go1 hin hop hds hF⟩
   ·refine af ?_
    have hnd:¬s=d:=fun h=>of_decide_eq_false h70 h.symm
    refine bD 7 [0,1,5,93] (by kernel_rfl) (by kernel_rfl) ?_
    refine aN E E (fun w hw=>((k7C.ext xg13).ext hw).ld KH E (by kernel_rfl)) (ay E E (cN E E ?_))
    refine aT E E (fun _ _=>ap (o:=10) KX E (by kernel_rfl) E) ?_
    refine aN rfl rfl (fun w' hw=>((kS.ext xg13).ext hw).ldO (ms:=[I s.kd,I s.ix,B s.at_.1,xs,ys]) (o:=10) (fun j v hj=>by rcases j with _|_|_|_|_|j<;>first|exact hj|exact absurd hj (by simp)) Tryz.underlying48 rfl (by kernel_rfl)) ?_
    refine cd (S:=Is (.agg #[I (bT s).kd,I (bT s).ix,B (bT s).at_.1,xs,ys])) oX (bG.is _) rfl (fun w hw=>by rintro _ rfl;exact bH.mono (oY (d:=s) ((sx.ext (eC.trans xg13)).ext hw) ((sy.ext (eC.trans xg13)).ext hw)) fun v w' h=>⟨h.1,h.2⟩) ?_
    refine cd (S:=Is (B (decide (d=bT s)))) lG (bG.is _) rfl (fun w hw=>by rintro _ rfl _ rfl;exact bH.mono (lH (a:=d) (b:=bT s) ((f29_0.ext (eC.trans xg13)).ext hw) ((f29_1.ext (eC.trans xg13)).ext hw) ((sx.ext (eC.trans xg13)).ext hw) ((sy.ext (eC.trans xg13)).ext hw)) fun v w' h=>⟨h.1,h.2⟩) ?_
    refine cb ?_
    intro wg15 xg15
    rintro _ rfl
    rintro _ hq1
    obtain rfl:=Eq.symm hq1
    rintro _ rfl
    rintro _ rfl
    refine ac E E (ag (ab ?_))
    refine fc E (fun h86=>?_) (fun h86=>?_)
    ·refine af ?_
     have hdo:bT s=d:=(of_decide_eq_true h86).symm
     have e16:=xg13.trans xg15
     refine bD 8 [98,100,101] (by kernel_rfl) (by kernel_rfl) ?_
     refine ay E E (cN E E ?_)
     refine aT E E (fun _ _=>ap (o:=15) KX E (by kernel_rfl) E) ?_
     refine aA E E E (fun _ _=>gq Lj (by kernel_rfl) (i:=1) (by omega) .i64) ?_
     refine aN E E (fun w' hw=>ai Lk E (((kS.ext e16).ext hw).cell (i:=16) E)) ?_
     refine ay E E ?_
     refine iV (a:=some (I ((1:Nat):Int))) (b:=none) E E E E (fun w _=>p83 w) ?_
     refine aN E E (fun w hw=>((k5C.ext (xg13.trans xg15)).ext hw).ld KF E (by kernel_rfl)) (cb ?_)
     intro wg16 xg16
     rintro _ rfl
     rintro _ hq100
     obtain rfl:=Eq.symm hq100
     rintro _ rfl
     refine an oZ E E ((ihp wg16 g2 b i2 v83 ((eC.trans e16).trans xg16) ((hM.k2.ext e16).ext xg16) d83')) ?_
     rintro v102 w102 hF
     refine ac E E (ag (ab (aw (aY (aD (av E E ?_))))))
     exact⟨_,rfl,((hM.ext e16).ext xg16).go2 hin hop hnd hdo hF⟩
    ·refine aC (aR (ab (af (aa (ac E E (ag (ab (aw (av E E ?_)))))))))
     exact⟨_,rfl,(eC.trans xg13).trans xg15,((hM.ext (xg13.trans xg15)).mv).weak (fun k hk _=>by have e:k=g:=hk;rw[e];exact hin),.inl ⟨B7 (.inr ⟨s,a,b,hop,fun h=>of_decide_eq_false h70 h.symm,fun h=>of_decide_eq_false h86 h.symm⟩),rfl⟩⟩
end Go.Rl
namespace Go.Rl
open Go.RowKit Go.Proofs
def Yg (w0 w:World) (k:Nat):Prop:=w0.heap.size≤k∧k<w.heap.size
def qi (a b:JT) (x:Nat):JT:=if x=0 then a else b
def KD (a b:JT):Nat→List aV
 |0=>[]
 |1=>[a.node]
 |_=>[a.node,b.node]
def AR (s:bz) (x:Nat):bz:=if x=0 then s else bT s
def JX (s:bz) (a b:JT) (p:List bz):Nat→List (List bz)
 |0=>[]
 |1=>a.miss (p++[s])
 |_=>a.miss (p++[s])++b.miss (p++[bT s])
theorem G3 {a b:JT} {x:Nat} (h:x<2):KD a b x++[(qi a b x).node]=KD a b (x+1):=by
 rcases(by omega:x=0∨x=1) with rfl|rfl<;>rfl
theorem Ii {a b:JT} {x:Nat}:(KD a b x).length≤2:=by
 unfold KD
 split<;>simp
theorem G5 {s:bz} {a b:JT} {p:List bz} {x:Nat} (h:x<2):JX s a b p x++(qi a b x).miss (p++[AR s x])=JX s a b p (x+1):=by
 rcases(by omega:x=0∨x=1) with rfl|rfl<;>rfl
theorem Ij {s:bz} {a b:JT} {p:List bz} {x:Nat} (h:x<2):(JX s a b p x).length+(qi a b x).gaps≤a.gaps+b.gaps:=by
 rcases(by omega:x=0∨x=1) with rfl|rfl
 ·simp[JX,qi]
 ·simp[JX,qi,f6]
theorem xO {s:bz} {x:Nat} (h:x<2):dk (.mk [] s [] false []) ((x:Nat):Int)=AR s x:=by
 rcases(by omega:x=0∨x=1) with rfl|rfl<;>rfl
theorem Yg.of_ext {w0 w w':World} (e:aJ w w') {k:Nat} (h:Yg w0 w k):Yg w0 w' k:=⟨h.1,Nat.lt_of_lt_of_le h.2 e.size⟩
def FtR (w0 w:World) (t:JT) (path:List bz) (r:Value) (w':World):Prop:=aJ w w'∧∃cs mv,r=.tuple #[.agg cs.toArray,mv]∧ao cs∧cv (Yg w0 w) w' (bm t.node) cs∧cv (Yg w0 w) w' (.sl ((t.miss path).map ie)) [mv]
def Cc (w0:World) (t:JT):Prop:=∀(w:World) (g:Nat) (ids:List Nat) (path:List bz) (pv:Value),aJ w0 w→kY w0 w g t ids→iT w0 path pv w→path.length+t.depth≤1073741824→t.gaps≤1099511627776→
 Calls Tryz.prog 68 #[.pointer (some ⟨g,0,none⟩),pv] w (bH fun r w'=>FtR w0 w t path r w')
structure KL (w0 wS w':World) (kv mv:Value) (ns:List aV) (ms:List (List bz)):Prop where
 own1:eu 52 9 wS.heap.size (fun k=>Yg w0 wS k∨mv.ownBlock=some k) bm ns kv w'
 own2:eu 41 1 wS.heap.size (fun k=>Yg w0 wS k∨kv.ownBlock=some k) ie ms mv w'
 ne:∀k,kv.ownBlock=some k→mv.ownBlock≠some k
section
variable {w0 wS w w' w1:World} {kv mv u:Value} {ns:List aV} {ms l:List (List bz)} {n:aV} {cs:List Value}
theorem KL.nil:KL w0 wS w (.slice none 0 0) (.slice none 0 0) [] []:=⟨eu.nil _,eu.nil _,fun k hk=>by cases hk⟩
theorem KL.ext (h:KL w0 wS w kv mv ns ms) (e:aJ w w'):KL w0 wS w' kv mv ns ms:=⟨h.own1.ext e,h.own2.ext e,h.ne⟩
theorem KL.kid (h:KL w0 wS w1 kv mv ns ms) (hu:Sl 9 cs u w1) (hc:cv (fun k=>Yg w0 wS k∨kv.ownBlock=some k∨mv.ownBlock=some k) w1 (bm n) cs) (h1:ao cs) (hs:wS.heap.size≤w1.heap.size) (hl:ns.length≤2):
 ∃r w2,(Builtin.append_ #[49,49] 49 #[kv,u]).run Tryz.prog w1=.ok r w2∧KL w0 wS w2 r mv (ns++[n]) ms∧Mv (fun k=>kv.ownBlock=some k) w1 w2∧∀k,r.ownBlock=some k→kv.ownBlock=some k∨w1.heap.size≤k:=by
 obtain⟨r,w2,h3,h4,h5⟩:=h.own1.app (P:=Tryz.prog) (t:=49) (ty:=49) (m:=[n]) KO D7 rfl (by omega) (by omega) hu h1 (by
  have:aO (fun k=>(Yg w0 wS k∨mv.ownBlock=some k)∨kv.ownBlock=some k) w1 ([n].map bm) cs:=by
   simpa using aO.cons (b:=[]) (hc.weak (Y:=fun k=>(Yg w0 wS k∨mv.ownBlock=some k)∨kv.ownBlock=some k) fun k hk=>by
    rcases hk with(hk|hk)|hk
    ·exact .inl (.inl hk)
    ·exact .inl (.inr (.inr hk))
    ·exact .inl (.inr (.inl hk))) aO.nil
  exact this) cg (by simp;omega) hs
 have hm:Mv (fun k=>kv.ownBlock=some k) w1 w2:=Mv.of_grown h5.grown fun k hk _=>hk
 have hy:∀k,r.ownBlock=some k→kv.ownBlock=some k∨w1.heap.size≤k:=fun k hk=>by
  rcases h5.own with h6|h6
  ·rw[h6] at hk;exact .inl hk
  ·exact .inr (h6 k hk)
 have l2:=h.own2.lt
 refine⟨r,w2,h3,⟨h4,?_,fun k hk hk'=>?_⟩,hm,hy⟩
 ·exact((h.own2.weak (Y:=fun k=>(Yg w0 wS k∨kv.ownBlock=some k)∨r.ownBlock=some k) fun k hk=>by
   rcases hk with hk|hk
   ·exact .inl hk
   ·exact(hy k hk).imp .inr id).mv hm (fun k hk=>.inl (.inr hk)) fun k hk hk'=>h.ne k hk' hk).weak fun k hk=>.inl (by
   rcases hk with hk|hk
   ·exact .inl (.inl hk)
   ·exact .inr hk)
 ·rcases hy k hk with h6|h6
  ·exact h.ne k h6 hk'
  ·have:=(l2 k hk').2;omega
theorem KL.mis (h:KL w0 wS w1 kv mv ns ms) (hm:cv (fun k=>Yg w0 wS k∨kv.ownBlock=some k∨mv.ownBlock=some k) w1 (.sl (l.map ie)) [u]) (hs:wS.heap.size≤w1.heap.size) (hl:ms.length+l.length≤1099511627776):
 ∃r w2,(Builtin.append_ #[59,59] 59 #[mv,u]).run Tryz.prog w1=.ok r w2∧KL w0 wS w2 kv r ns (ms++l)∧Mv (fun k=>mv.ownBlock=some k) w1 w2:=by
 obtain⟨xs,s1,s2⟩:=hm.toSl (sz:=1) (by simp[fy])
 obtain⟨r,w2,h3,h4,h5⟩:=h.own2.app (P:=Tryz.prog) (t:=59) (ty:=59) (m:=l) Ld oW rfl (by omega) (by omega) s1 (eo s2.rp) (s2.weak fun k hk=>by
  rcases hk with(hk|hk)|hk
  ·exact .inl (.inl hk)
  ·exact .inl (.inr (.inl hk))
  ·exact .inl (.inr (.inr hk))) fy (by omega) hs
 have hm:Mv (fun k=>mv.ownBlock=some k) w1 w2:=Mv.of_grown h5.grown fun k hk _=>hk
 have hy:∀k,r.ownBlock=some k→mv.ownBlock=some k∨w1.heap.size≤k:=fun k hk=>by
  rcases h5.own with h6|h6
  ·rw[h6] at hk;exact .inl hk
  ·exact .inr (h6 k hk)
 have l2:=h.own1.lt
 refine⟨r,w2,h3,⟨?_,h4,fun k hk hk'=>?_⟩,hm⟩
 ·exact((h.own1.weak (Y:=fun k=>(Yg w0 wS k∨mv.ownBlock=some k)∨r.ownBlock=some k) fun k hk=>by
   rcases hk with hk|hk
   ·exact .inl hk
   ·exact(hy k hk).imp .inr id).mv hm (fun k hk=>.inl (.inr hk)) fun k hk hk'=>h.ne k hk hk').weak fun k hk=>.inl (by
   rcases hk with hk|hk
   ·exact .inl (.inl hk)
   ·exact .inr hk)
 ·rcases hy k hk' with h6|h6
  ·exact h.ne k hk h6
  ·have:=(l2 k hk).2;omega
theorem KL.mvd {Z:Nat→Prop} {w2:World} (h:KL w0 wS w1 kv mv ns ms) (hm:Mv Z w1 w2) (hZ:∀k,Z k→Yg w0 wS k):KL w0 wS w2 kv mv ns ms:=
 ⟨h.own1.mv hm (fun k hk=>.inl (hZ k hk)) fun k hk hz=>by have:=(h.own1.lt k hk).1;have:=(hZ k hz).2;omega,h.own2.mv hm (fun k hk=>.inl (hZ k hk)) fun k hk hz=>by have:=(h.own2.lt k hk).1;have:=(hZ k hz).2;omega,h.ne⟩
theorem Ik {X:Nat→Prop} (ha:cv X w (bm n) cs):∃r w',(Instr.buildSlice 49 1 (dG 0 [Value.agg cs.toArray]).toArray).run Tryz.prog w=.ok r w'∧aJ w w'∧Sl 9 cs r w'∧cv X w' (bm n) cs:=by
 have hl1:cs.length=9:=by rw[ha.len,cg]
 obtain⟨x,w1,h3,h4,h5,h6⟩:=ur (P:=Tryz.prog) (w:=w) (t:=49) Tryz.underlying49 vv rfl (by omega) [cs] (by simp[hl1]) (by simp) (by simp)
 exact⟨x,w1,h3,h4,by simpa using h5,ha.ext h4⟩
theorem vz {wL we:World} {g9:Nat} {z:List Value} {path:List bz} {t:JT} {X:Nat→Prop} (e:aJ wL we) (hY:∀k,Yg w0 wL k→X k) (hg:X g9) (h1:ao cs) (hr:cv X we (bm t.node) cs) (hm:cv X we (.sl ((t.miss path).map ie)) [mv]) (k9:bA g9 52 z we) (hz:z.length=9) (l9:wL.heap.size≤g9):
 ∃w',(Instr.storeAt 52 (.pointer (some ⟨g9,0,none⟩)) (.agg cs.toArray)).run Tryz.prog we=.ok () w'∧aJ wL w'∧bA g9 52 cs w'∧cv (Yg w0 wL) w' (bm t.node) cs∧cv (Yg w0 wL) w' (.sl ((t.miss path).map ie)) [mv]:=by
 obtain⟨w',s,q,k⟩:=k9.stS (P:=Tryz.prog) (t:=52) (m:=cs) (by rw[hz,hr.len,cg]) (JW hr) h1
 have hm9:Mv X we w':=Mv.of_grown q fun k hk _=>by have:g9=k:=Option.some.inj hk;rw[←this];exact hg
 exact⟨w',s,aJ.of_new e q l9,k,hr.mv hm9 fun k hk=>.inl (hY k hk),hm.mv hm9 fun k hk=>.inl (hY k hk)⟩
end
end Go.Rl
namespace Go.Rl
open Go.RowKit Go.Proofs
theorem nk:aH Tryz.prog 68:=⟨_,Tryz.func68,by kernel_rfl,rfl⟩
theorem qj {w0:World} {t:JT} (ih:∀s a b,t=.split s a b→Cc w0 a∧Cc w0 b):Cc w0 t:=by
 intro w g ids path pv e0 hJ hpa hpl hgp
 have hg:w0.heap.size≤g:=hJ.young g hJ.root
 have hgl:g<w.heap.size:=hJ.lt g hJ.root
 have hs0:=e0.size
 refine enter (vs:=[.pointer (some ⟨g,0,none⟩),pv]) Tryz.func68 E E E ?_
 refine af (aa ?_)
 obtain⟨g4,w4,hr4,l4,x4,k4⟩:=aZ (P:=Tryz.prog) (w:=w) (t:=52) (z:=.agg #[.slice none 0 0,I 0,I 0,B false,.slice none 0 0,.slice none 0 0,.slice none 0 0,B false,.slice none 0 0]) (l:=[.slice none 0 0,I 0,I 0,B false,.slice none 0 0,.slice none 0 0,.slice none 0 0,B false,.slice none 0 0]) (by kernel_rfl) rfl
 refine aX E hr4 (ac E E (ag (ab (af (af ?_)))))
 have y4:=e0.trans x4
 have ss4:=x4.size
 have lg4:=k4.lt
 have hJ2:=hJ
 rcases t.shape with ht|⟨m,ht⟩|⟨s,a,b,ht⟩
 ·rw[ht] at hJ2
  obtain⟨hid,kg⟩:=zk hJ2
  have kg4:bA g 120 [I 0,.slice none 0 0,I 0,I 0,B false,.slice none 0 0,.slice none 0 0,.slice none 0 0,B false,.slice none 0 0,I 0,I 0,B false,.slice none 0 0,.slice none 0 0,.pointer none,.pointer none] w4:=kg.ext x4
  refine aa (ae E E (aq E E (ah E E (ap (o:=0) KX E (by kernel_rfl) E) (aj E E (ai KI E (kg4.cell (i:=0) E)) ?_))))
  refine ag (ab (aE (af (aa (ak E E E (cR E a6) (ac E E (ag (ab (bg E (af (aa (bj (vs:=[]) (r:=.agg #[.slice none 0 0,I 0,I 0,B false,.slice none 0 0,.slice none 0 0,.slice none 0 0,B false,.slice none 0 0]) E E (by exact run_build _ _ _ _ (by kernel_rfl)) ?_))))))))))))
  obtain⟨v18,w18,hr18,x18,o18,ob18⟩:=rG (P:=Tryz.prog) (w:=w4) (f:=cQ) (X:=Yg w0 w4) KN ia
  refine aG (vs:=[]) E E hr18 ?_
  refine ae E E ?_
  obtain⟨xs1,sl1,al1⟩:=hpa
  have lt18:=o18.lt
  have s18:=x18.size
  obtain⟨v20,w20,hr20,o20,gr20⟩:=o18.app (P:=Tryz.prog) (t:=41) (ty:=41) (m:=path) KN f4 rfl (by omega) (by omega) (sl1.ext (x4.trans x18)) (eo al1.rp) ((al1.ext (x4.trans x18)).weak fun k hk=>by
   rcases hk with hk|hk
   ·exact .inl hk.1
   ·exact .inl (by have:=(lt18 k hk).1;show w0.heap.size≤k;omega)) bN (by simp;omega) s18
  refine aW E E hr20 ?_
  have e20:aJ w4 w20:=aJ.of_grew x18 gr20 fun k hk=>(lt18 k hk).1
  have lt20:=o20.lt
  have s20:=e20.size
  have rp20:cv (Yg w0 w4) w20 (.sl (path.map cQ)) [v20]:=o20.rpx bN (by omega) (fun _ h=>h) fun k hk hk'=>by have:=(lt20 k hk).1;have:=hk'.2;omega
  obtain⟨v21,w21,hr21,x21,or21,ob21⟩:=ir (P:=Tryz.prog) (w:=w20) (base:=w4.heap.size) Tryz.underlying59 oW [v20] (ao.cons o20.one ao.nil) (by simp) s20
  refine aG (vs:=[(0,v20)]) E E hr21 ?_
  have rp21:cv (Yg w0 w4) w21 (.sl ([path].map ie)) [v21]:=cv.ofSl (sz:=1) (Sl.of_own or21) (by have:=aO.cons (b:=[]) (d:=ie path) (rp20.ext x21) aO.nil;simpa using this) (by simp[fy]) (by omega) fun k hk hk'=>by rw[ob21] at hk;have:=Option.some.inj hk;have:=hk'.2;omega
  obtain⟨w3,s3,q3,k3⟩:=(k4.ext (e20.trans x21)).stS (P:=Tryz.prog) (t:=52) (m:=[.slice none 0 0,I 0,I 0,B false,.slice none 0 0,.slice none 0 0,.slice none 0 0,B false,.slice none 0 0]) rfl (by kernel_rfl) (ao.cons rfl (ao.cons rfl (ao.cons rfl (ao.cons rfl (ao.cons rfl (ao.cons rfl (ao.cons rfl (ao.cons rfl (ao.cons rfl ao.nil)))))))))
  refine ax E E s3 ?_
  have e3:aJ w w3:=aJ.of_new ((x4.trans e20).trans x21) q3 l4
  have m3:Mv (Yg w0 w4) w21 w3:=Mv.of_grown q3 fun k hk _=>by have:g4=k:=Option.some.inj hk;rw[←this];exact⟨by omega,lg4⟩
  refine ac E E (ag (ab (aw (aY (aD ?_)))))
  refine eJ E E E k3 KF E (by kernel_rfl) ?_
  refine⟨_,rfl,e3,[.slice none 0 0,I 0,I 0,B false,.slice none 0 0,.slice none 0 0,.slice none 0 0,B false,.slice none 0 0],v21,rfl,(ao.cons E (ao.cons E (ao.cons E (ao.cons E (ao.cons E (ao.cons E (ao.cons E (ao.cons E (ao.cons E ao.nil))))))))),?_,?_⟩
  ·rw[ht];exact tD
  ·rw[ht];exact rp21.mv m3 fun k hk=>.inl (Yg.of_ext x4 hk)
 ·rw[ht] at hJ2
  obtain⟨cs,hid,kg,hrl⟩:=tI hJ2
  obtain⟨vm,xm,ym,km,pm,rfl,h9a,h9b,h9c,h9d,h9e⟩:=cW hrl
  have kg4:bA g 120 [I 1,vm,I m.split.kd,I m.split.ix,B m.split.at_.1,xm,ym,km,B m.empty,pm,I 0,I 0,B false,.slice none 0 0,.slice none 0 0,.pointer none,.pointer none] w4:=kg.ext x4
  have q9a:=h9a.ext y4
  have q9b:=h9b.ext y4
  have q9c:=h9c.ext y4
  have q9d:=h9d.ext y4
  have q9e:=h9e.ext y4
  refine aa (ae E E (aq E E (ah E E (ap (o:=0) KX E (by kernel_rfl) E) (aj E E (ai KI E (kg4.cell (i:=0) E)) ?_))))
  refine ag (ab (aE (af (aa (ak E E E (dn (by decide) a6) (ac E E (ag (ab (cy E (af (aa (ak E E E (cR E a6) ?_))))))))))))
  refine ac E E (ag (ab (bg E (af (aa (ae E E (aq E E (ah E E (ap (o:=1) KX E (by kernel_rfl) E) ?_))))))))
  refine aj rfl rfl (kg4.ldO (ms:=[vm,I m.split.kd,I m.split.ix,B m.split.at_.1,xm,ym,km,B m.empty,pm]) (o:=1) (fun j v hj=>by rcases j with _|_|_|_|_|_|_|_|_|j<;>simp_all) Tryz.underlying52 rfl (by kernel_rfl)) ?_
  obtain⟨w5_4,s5_4,q5_4,k5_4⟩:=k4.stS (P:=Tryz.prog) (t:=52) (m:=[vm,I m.split.kd,I m.split.ix,B m.split.at_.1,xm,ym,km,B m.empty,pm]) rfl (by kernel_rfl) (ao.cons q9a.one (ao.cons rfl (ao.cons rfl (ao.cons rfl (ao.cons q9b.one (ao.cons q9c.one (ao.cons q9d.one (ao.cons rfl (ao.cons q9e.one ao.nil)))))))))
  refine ax E E s5_4 ?_
  have x5_4:=aJ.of_new (x4) q5_4 l4
  refine ac E E (ag (ab (aw (aY (aD ?_)))))
  refine eJ E E E k5_4 KF E (by kernel_rfl) ?_
  refine⟨_,rfl,x5_4,[vm,I m.split.kd,I m.split.ix,B m.split.at_.1,xm,ym,km,B m.empty,pm],.slice none 0 0,rfl,yq hrl,?_,?_⟩
  ·rw[ht];exact nz hrl (e0.trans (x5_4)) fun k hk=>hk.1
  ·rw[ht];exact pQ
 ·rw[ht] at hJ2
  obtain⟨xs,ys,g1,g2,i1,i2,hid,hsx,hsy,kg,j1,j2,_,n1,n2,n3⟩:=hJ2.split_inv
  have kg4:bA g 120 [I 2,.slice none 0 0,I 0,I 0,B false,.slice none 0 0,.slice none 0 0,.slice none 0 0,B false,.slice none 0 0,I s.kd,I s.ix,B s.at_.1,xs,ys,.pointer (some ⟨g1,0,none⟩),.pointer (some ⟨g2,0,none⟩)] w4:=kg.ext x4
  have hsx4:=hsx.ext y4
  have hsy4:=hsy.ext y4
  refine aa (ae E E (aq E E (ah E E (ap (o:=0) KX E (by kernel_rfl) E) (aj E E (ai KI E (kg4.cell (i:=0) E)) ?_))))
  refine ag (ab (aE (af (aa (ak E E E (dn (by decide) a6) (ac E E (ag (ab (cy E (af (aa (ak E E E (dn (by decide) a6) ?_))))))))))))
  refine ac E E (ag (ab (cy E (aC (aR (ab (af (aa (ae E E (aq E E (ah E E (ap (o:=10) KX E (by kernel_rfl) E) ?_)))))))))))
  refine aj rfl rfl (kg4.ldO (ms:=[I s.kd,I s.ix,B s.at_.1,xs,ys]) (o:=10) (fun j v hj=>by rcases j with _|_|_|_|_|_|_|_|_|j<;>simp_all) Tryz.underlying48 rfl (by kernel_rfl)) ?_
  refine bj (vs:=[(1,.agg #[I s.kd,I s.ix,B s.at_.1,xs,ys])]) (r:=.agg #[.slice none 0 0,I s.kd,I s.ix,B s.at_.1,xs,ys,.slice none 0 0,B false,.slice none 0 0]) rfl rfl (by obtain⟨_,_,_,rfl⟩:=hsx4.isS;obtain⟨_,_,_,rfl⟩:=hsy4.isS;exact run_build _ _ _ _ (by kernel_rfl)) ?_
  obtain⟨g6,w6,hr6,l6,x6,k6⟩:=aZ (P:=Tryz.prog) (w:=w4) (t:=52) (z:=.agg #[.slice none 0 0,I 0,I 0,B false,.slice none 0 0,.slice none 0 0,.slice none 0 0,B false,.slice none 0 0]) (l:=[.slice none 0 0,I 0,I 0,B false,.slice none 0 0,.slice none 0 0,.slice none 0 0,B false,.slice none 0 0]) (by kernel_rfl) rfl
  refine aX E hr6 ?_
  obtain⟨w6_6,s6_6,q6_6,k6_6⟩:=k6.stS (P:=Tryz.prog) (t:=52) (m:=[.slice none 0 0,I s.kd,I s.ix,B s.at_.1,xs,ys,.slice none 0 0,B false,.slice none 0 0]) rfl (by kernel_rfl) (ao.cons rfl (ao.cons rfl (ao.cons rfl (ao.cons rfl (ao.cons hsx4.one (ao.cons hsy4.one (ao.cons rfl (ao.cons rfl (ao.cons rfl ao.nil)))))))))
  refine ax E E s6_6 ?_
  have x6_6:=aJ.of_new (x6) q6_6 l6
  refine ag (ab (af ?_))
  have hA:Cc w0 a:=(ih s a b ht).1
  have hB:Cc w0 b:=(ih s a b ht).2
  have hdep:t.depth=1+max a.depth b.depth:=by rw[ht];rfl
  have hgap:t.gaps=a.gaps+b.gaps:=by rw[ht];rfl
  have kS6:bA g6 52 [.slice none 0 0,I s.kd,I s.ix,B s.at_.1,xs,ys,.slice none 0 0,B false,.slice none 0 0] w6_6:=k6_6
  have kg6:bA g 120 [I 2,.slice none 0 0,I 0,I 0,B false,.slice none 0 0,.slice none 0 0,.slice none 0 0,B false,.slice none 0 0,I s.kd,I s.ix,B s.at_.1,xs,ys,.pointer (some ⟨g1,0,none⟩),.pointer (some ⟨g2,0,none⟩)] w6_6:=kg4.ext x6_6
  have k46:bA g4 52 [.slice none 0 0,I 0,I 0,B false,.slice none 0 0,.slice none 0 0,.slice none 0 0,B false,.slice none 0 0] w6_6:=k4.ext x6_6
  have s66:=x6_6.size
  have lg6:=kS6.lt
  have yS:aJ w0 w6_6:=y4.trans x6_6
  have eS:aJ w w6_6:=x4.trans x6_6
  refine aa (ac E E (ag (ab (af (af (aa (ac E E (ag (ab (aE ?_))))))))))
  refine jx (fun(i:Nat) (kv:Value) (mv:Value)=>[(0,.pointer (some ⟨g,0,none⟩)),(1,pv),(4,.pointer (some ⟨g4,0,none⟩)),(5,.slice none 0 0),(6,.pointer (some ⟨g6,0,none⟩)),(7,mv),(8,I (i:Int))]) (fun(i:Nat) (kv:Value) (mv:Value) w'=>aJ w w'∧i≤2∧bA g4 52 [.slice none 0 0,I 0,I 0,B false,.slice none 0 0,.slice none 0 0,.slice none 0 0,B false,.slice none 0 0] w'∧bA g6 52 [.slice none 0 0,I s.kd,I s.ix,B s.at_.1,xs,ys,kv,B false,.slice none 0 0] w'∧bA g 120 [I 2,.slice none 0 0,I 0,I 0,B false,.slice none 0 0,.slice none 0 0,.slice none 0 0,B false,.slice none 0 0,I s.kd,I s.ix,B s.at_.1,xs,ys,.pointer (some ⟨g1,0,none⟩),.pointer (some ⟨g2,0,none⟩)] w'∧KL w0 w6_6 w' kv mv (KD a b i) (JX s a b path i)∧w6_6.heap.size≤w'.heap.size) (fun(i:Nat) (kv:Value) (mv:Value)=>2-i) (0) (.slice none 0 0) (.slice none 0 0) ⟨rfl,rfl,rfl,rfl,rfl,rfl,rfl,trivial⟩ ⟨eS,by omega,k46,kS6,kg6,KL.nil,Nat.le_refl _⟩ ?_
  rintro i kv mv wL ⟨eL,hi,k4L,kS,kgL,hL,hwl⟩
  refine af (af (aa (ae E E (ak E E E (bb) (ag (ab ?_))))))
  refine bt E (fun h34=>?_) (fun h34=>?_)
  ·refine aC (ab (af (aE (af ?_))))
   have eD:aJ wL wL.drew:=(aJ.refl wL).drew
   have hi2:i<2:=by omega
   obtain⟨gk,ik,hcell,jk,hat⟩:∃gk ik,[I 2,.slice none 0 0,I 0,I 0,B false,.slice none 0 0,.slice none 0 0,.slice none 0 0,B false,.slice none 0 0,I s.kd,I s.ix,B s.at_.1,xs,ys,.pointer (some ⟨g1,0,none⟩),.pointer (some ⟨g2,0,none⟩)][15+i]? =some (.pointer (some ⟨gk,0,none⟩))∧kY w0 w gk (qi a b i) ik∧Cc w0 (qi a b i):=by
    rcases(by omega:i=0∨i=1) with rfl|rfl
    ·exact⟨g1,i1,rfl,j1,hA⟩
    ·exact⟨g2,i2,rfl,j2,hB⟩
   have hdk:(qi a b i).depth≤max a.depth b.depth:=by unfold qi;split<;>omega
   have hgk:(qi a b i).gaps≤a.gaps+b.gaps:=by unfold qi;split<;>omega
   have hS:bA g 120 [I 2,.slice none 0 0,I 0,I 0,B false,.slice none 0 0,.slice none 0 0,.slice none 0 0,B false,.slice none 0 0,I s.kd,I s.ix,B s.at_.1,xs,ys,.pointer (some ⟨g1,0,none⟩),.pointer (some ⟨g2,0,none⟩)] wL.drew∧bA g6 52 [.slice none 0 0,I s.kd,I s.ix,B s.at_.1,xs,ys,kv,B false,.slice none 0 0] wL.drew:=⟨kgL.ext eD,kS.ext eD⟩
   have hcar:∀{w1 w2:World},bA g 120 [I 2,.slice none 0 0,I 0,I 0,B false,.slice none 0 0,.slice none 0 0,.slice none 0 0,B false,.slice none 0 0,I s.kd,I s.ix,B s.at_.1,xs,ys,.pointer (some ⟨g1,0,none⟩),.pointer (some ⟨g2,0,none⟩)] w1∧bA g6 52 [.slice none 0 0,I s.kd,I s.ix,B s.at_.1,xs,ys,kv,B false,.slice none 0 0] w1→aJ w1 w2→bA g 120 [I 2,.slice none 0 0,I 0,I 0,B false,.slice none 0 0,.slice none 0 0,.slice none 0 0,B false,.slice none 0 0,I s.kd,I s.ix,B s.at_.1,xs,ys,.pointer (some ⟨g1,0,none⟩),.pointer (some ⟨g2,0,none⟩)] w2∧bA g6 52 [.slice none 0 0,I s.kd,I s.ix,B s.at_.1,xs,ys,kv,B false,.slice none 0 0] w2:=fun h e=>⟨h.1.ext e,h.2.ext e⟩
   refine fR (fun w1=>bA g 120 [I 2,.slice none 0 0,I 0,I 0,B false,.slice none 0 0,.slice none 0 0,.slice none 0 0,B false,.slice none 0 0,I s.kd,I s.ix,B s.at_.1,xs,ys,.pointer (some ⟨g1,0,none⟩),.pointer (some ⟨g2,0,none⟩)] w1∧bA g6 52 [.slice none 0 0,I s.kd,I s.ix,B s.at_.1,xs,ys,kv,B false,.slice none 0 0] w1) 17 E (by kernel_rfl) ?_
   refine cT 0 E E (by kernel_rfl) E hS ?_
   refine cT 1 E E (by kernel_rfl) E hS ?_
   refine fz 2 E E (by kernel_rfl) E hS ?_
   refine c6 3 E E (by kernel_rfl) E hS (fun _ _=>ap (o:=15) KX E (by kernel_rfl) E) ?_
   refine nN 4 E E E (by kernel_rfl) E hS (fun _ _=>gq Lj (by kernel_rfl) (i:=i) hi2 .i64) ?_
   refine eQ 5 E E (by kernel_rfl) E hS (fun _ hw=>ai Lk E (hw.1.cell (i:=15+i) hcell)) ?_
   refine cT 6 E E (by kernel_rfl) E hS ?_
   refine eQ 7 E E (by kernel_rfl) E hS (fun _ hw=>hw.2.ld KF E (by kernel_rfl)) ?_
   refine cT 8 E E (by kernel_rfl) E hS ?_
   refine jm (fun z=>[(0,.pointer (some ⟨g,0,none⟩)),(1,pv),(4,.pointer (some ⟨g4,0,none⟩)),(5,.slice none 0 0),(6,.pointer (some ⟨g6,0,none⟩)),(7,mv),(8,I (i:Int)),(9,.pointer (some ⟨z.1,0,none⟩)),(10,z.2.1)]) (fun(z:Nat×Value×List Value) w1=>aJ wL w1∧bA z.1 52 z.2.2 w1∧cv (Yg w0 wL) w1 (bm (qi a b i).node) z.2.2∧cv (Yg w0 wL) w1 (.sl (((qi a b i).miss (path++[AR s i])).map ie)) [z.2.1]∧ao z.2.2) #[true,true,true,true,true,true,true,true,true,true,true,true,true,true,true,true,true] 0 ?_ (fun hk=>?_)
   rotate_left
   ·refine gC 9 14 (by kernel_rfl) E E ?_ ?_
    ·refine an xG E E (xH (w0:=w0) (n:=.mk [] s [] false []) ((e0.trans eL).trans eD) (hpa.ext (eL.trans eD)) (by omega) hsx hsy) ?_
     rintro v47 w47 ⟨x47,p47,_⟩
     rw[xO hi2] at p47
     have ek:aJ wL w47:=eD.trans x47
     refine aF (hcar hS x47) ?_
     refine gC 10 14 (by kernel_rfl) E E ?_ ?_
     ·refine an nk E E (hat w47 gk ik (path++[AR s i]) v47 ((e0.trans eL).trans ek) (jk.ext (eL.trans ek)) p47 (by simp only[List.length_append,List.length_singleton];omega) (by omega)) ?_
      rintro v48 w48 ⟨x48,csK,mvK,rfl,h1,hr,hm⟩
      have et:aJ wL w48:=ek.trans x48
      have hS8:=hcar (hcar hS x47) x48
      have zz:=ek.size
      refine aF hS8 ?_
      refine cT 11 E E (by kernel_rfl) E hS8 ?_
      refine jl 12 (xs:=[.tmp 37]) (f:=fun|[a]=>Instr.extract a 0|_=>stuck "") E (fun _=>rfl) (yk E) (by kernel_rfl) E hS8 (fun _ _=>ce) ?_
      refine jl 13 (xs:=[.tmp 37]) (f:=fun|[a]=>Instr.extract a 1|_=>stuck "") E (fun _=>rfl) (yk E) (by kernel_rfl) E hS8 (fun _ _=>cf) ?_
      obtain⟨g9,w9,hr9,l9,x9,k9⟩:=di (w:=w48)
      have ea:aJ wL w9:=et.trans x9
      have la:=et.size
      have lb:=k9.lt
      refine aQ 14 (by kernel_rfl) E (aX E hr9 (aF (hcar hS8 x9) ?_))
      have hSa:=hcar hS8 x9
      obtain⟨w15,s15,e15,k15,r15,m15⟩:=vz (X:=fun k=>Yg w0 wL k∨k=g9) ea (fun k hk=>.inl hk) (.inr rfl) h1 ((hr.weak fun k hk=>hk.imp (fun h=>⟨h.1,by have:=h.2;omega⟩) fun h=>by omega).ext x9) ((hm.weak fun k hk=>hk.imp (fun h=>⟨h.1,by have:=h.2;omega⟩) fun h=>by omega).ext x9) k9 rfl (by omega)
      have q15:bA g 120 [I 2,.slice none 0 0,I 0,I 0,B false,.slice none 0 0,.slice none 0 0,.slice none 0 0,B false,.slice none 0 0,I s.kd,I s.ix,B s.at_.1,xs,ys,.pointer (some ⟨g1,0,none⟩),.pointer (some ⟨g2,0,none⟩)] w15∧bA g6 52 [.slice none 0 0,I s.kd,I s.ix,B s.at_.1,xs,ys,kv,B false,.slice none 0 0] w15:=⟨kgL.ext e15,kS.ext e15⟩
      refine aQ 15 (by kernel_rfl) E (ax E E s15 (aF q15 ?_))
      refine aQ 16 (by kernel_rfl) E (ac E E (aF q15 ?_))
      exact hk _ _ ⟨(g9,mvK,csK),⟨rfl,rfl,rfl,rfl,rfl,rfl,rfl,rfl,rfl,trivial⟩,e15,k15,r15,m15,h1⟩
     ·obtain⟨g9,w9,hr9,l9,x9,k9⟩:=di (w:=w47)
      have ea:aJ wL w9:=ek.trans x9
      have la:=ek.size
      have lb:=k9.lt
      refine aX E hr9 (aF (hcar (hcar hS x47) x9) ?_)
      have hSa:=hcar (hcar hS x47) x9
      refine aQ 10 (by kernel_rfl) E (an nk E E (hat w9 gk ik (path++[AR s i]) v47 ((e0.trans eL).trans ea) (jk.ext (eL.trans ea)) (p47.ext x9) (by simp only[List.length_append,List.length_singleton];omega) (by omega)) ?_)
      rintro v48 w48 ⟨x48,csK,mvK,rfl,h1,hr,hm⟩
      have et:aJ wL w48:=ea.trans x48
      have hS8:=hcar hSa x48
      have zz:=ea.size
      refine aF hS8 ?_
      refine cT 11 E E (by kernel_rfl) E hS8 ?_
      refine jl 12 (xs:=[.tmp 37]) (f:=fun|[a]=>Instr.extract a 0|_=>stuck "") E (fun _=>rfl) (yk E) (by kernel_rfl) E hS8 (fun _ _=>ce) ?_
      refine jl 13 (xs:=[.tmp 37]) (f:=fun|[a]=>Instr.extract a 1|_=>stuck "") E (fun _=>rfl) (yk E) (by kernel_rfl) E hS8 (fun _ _=>cf) ?_
      obtain⟨w15,s15,e15,k15,r15,m15⟩:=vz (X:=Yg w0 w9) et (fun k hk=>⟨hk.1,by have:=hk.2;omega⟩) ⟨by have:=(e0.trans eL).size;omega,lb⟩ h1 hr hm (k9.ext x48) rfl (by omega)
      have q15:bA g 120 [I 2,.slice none 0 0,I 0,I 0,B false,.slice none 0 0,.slice none 0 0,.slice none 0 0,B false,.slice none 0 0,I s.kd,I s.ix,B s.at_.1,xs,ys,.pointer (some ⟨g1,0,none⟩),.pointer (some ⟨g2,0,none⟩)] w15∧bA g6 52 [.slice none 0 0,I s.kd,I s.ix,B s.at_.1,xs,ys,kv,B false,.slice none 0 0] w15:=⟨kgL.ext e15,kS.ext e15⟩
      refine aQ 15 (by kernel_rfl) E (ax E E s15 (aF q15 ?_))
      refine aQ 16 (by kernel_rfl) E (ac E E (aF q15 ?_))
      exact hk _ _ ⟨(g9,mvK,csK),⟨rfl,rfl,rfl,rfl,rfl,rfl,rfl,rfl,rfl,trivial⟩,e15,k15,r15,m15,h1⟩
    ·obtain⟨g9,w9,hr9,l9,x9,k9⟩:=di (w:=wL.drew)
     have ea:aJ wL w9:=eD.trans x9
     have la:=eD.size
     have lb:=k9.lt
     refine aX E hr9 (aF (hcar hS x9) ?_)
     have hSa:=hcar hS x9
     refine aQ 9 (by kernel_rfl) E (an xG E E (xH (w0:=w0) (n:=.mk [] s [] false []) ((e0.trans eL).trans ea) (hpa.ext (eL.trans ea)) (by omega) hsx hsy) ?_)
     rintro v47 w47 ⟨x47,p47,_⟩
     rw[xO hi2] at p47
     have ek:aJ wL w47:=ea.trans x47
     refine aF (hcar hSa x47) ?_
     refine aQ 10 (by kernel_rfl) E (an nk E E (hat w47 gk ik (path++[AR s i]) v47 ((e0.trans eL).trans ek) (jk.ext (eL.trans ek)) p47 (by simp only[List.length_append,List.length_singleton];omega) (by omega)) ?_)
     rintro v48 w48 ⟨x48,csK,mvK,rfl,h1,hr,hm⟩
     have et:aJ wL w48:=ek.trans x48
     have hS8:=hcar (hcar hSa x47) x48
     have zz:=ek.size
     refine aF hS8 ?_
     refine cT 11 E E (by kernel_rfl) E hS8 ?_
     refine jl 12 (xs:=[.tmp 37]) (f:=fun|[a]=>Instr.extract a 0|_=>stuck "") E (fun _=>rfl) (yk E) (by kernel_rfl) E hS8 (fun _ _=>ce) ?_
     refine jl 13 (xs:=[.tmp 37]) (f:=fun|[a]=>Instr.extract a 1|_=>stuck "") E (fun _=>rfl) (yk E) (by kernel_rfl) E hS8 (fun _ _=>cf) ?_
     have lc:=x47.size
     obtain⟨w15,s15,e15,k15,r15,m15⟩:=vz (X:=Yg w0 w47) et (fun k hk=>⟨hk.1,by have:=hk.2;omega⟩) ⟨by have:=(e0.trans eL).size;omega,by omega⟩ h1 hr hm ((k9.ext x47).ext x48) rfl (by omega)
     have q15:bA g 120 [I 2,.slice none 0 0,I 0,I 0,B false,.slice none 0 0,.slice none 0 0,.slice none 0 0,B false,.slice none 0 0,I s.kd,I s.ix,B s.at_.1,xs,ys,.pointer (some ⟨g1,0,none⟩),.pointer (some ⟨g2,0,none⟩)] w15∧bA g6 52 [.slice none 0 0,I s.kd,I s.ix,B s.at_.1,xs,ys,kv,B false,.slice none 0 0] w15:=⟨kgL.ext e15,kS.ext e15⟩
     refine aQ 15 (by kernel_rfl) E (ax E E s15 (aF q15 ?_))
     refine aQ 16 (by kernel_rfl) E (ac E E (aF q15 ?_))
     exact hk _ _ ⟨(g9,mvK,csK),⟨rfl,rfl,rfl,rfl,rfl,rfl,rfl,rfl,rfl,trivial⟩,e15,k15,r15,m15,h1⟩
   rintro⟨g9,mvK,csK⟩ w11 ⟨x11,k9,hrK,hmK,h1K⟩
   refine fS (by kernel_rfl) ?_
   refine ab (af ?_)
   have sx11:=x11.size
   have hL2:=hL.ext x11
   have ol1:=hL.own1.lt
   have ol2:=hL.own2.lt
   have kS2:=kS.ext x11
   have hY:∀k,(Yg w0 w6_6 k∨kv.ownBlock=some k∨mv.ownBlock=some k)→Yg w0 wL k:=fun k hk=>by
    rcases hk with hk|hk|hk
    ·exact⟨hk.1,by have:=hk.2;omega⟩
    ·have:=ol1 k hk;exact⟨by have:=yS.size;omega,this.2⟩
    ·have:=ol2 k hk;exact⟨by have:=yS.size;omega,this.2⟩
   obtain⟨v54,w54,hr54,x54,sl54,rp54⟩:=Ik hrK
   obtain⟨kv2,w55,hr55,hL3,m55,ge55⟩:=(hL2.ext x54).kid sl54 (rp54.weak fun k hk=>.inl (hY k hk)) h1K (by have:=x54.size;omega) Ii
   rw[G3 (by omega)] at hL3
   have hg6k:¬kv.ownBlock=some g6:=fun h=>by have:=(ol1 g6 h).1;omega
   have hg4k:¬kv.ownBlock=some g4:=fun h=>by have:=(ol1 g4 h).1;omega
   have hgk':¬kv.ownBlock=some g:=fun h=>by have:=(ol1 g h).1;omega
   have kS5:=m55.blk (kS2.ext x54) hg6k
   have k45:=m55.blk ((k4L.ext x11).ext x54) hg4k
   have kg5:=m55.blk ((kgL.ext x11).ext x54) hgk'
   have e54:aJ w w54:=(eL.trans x11).trans x54
   have e55:aJ w w55:=m55.ext_from e54 fun k hk=>by have:=(ol1 k hk).1;omega
   have lS6:g6<w6_6.heap.size:=lg6
   obtain⟨w56,s56,q56,k56⟩:=kS5.stC (P:=Tryz.prog) (t:=49) (i:=6) (v:=kv2) (by kernel_rfl) hL3.own1.one (by simp)
   have m56:Mv (fun k=>k=g6) w55 w56:=Mv.of_grown q56 fun k hk _=>(Option.some.inj hk).symm
   have e56:aJ w w56:=aJ.of_new e55 q56 (by omega)
   have hL4:=hL3.mvd m56 fun k hk=>by have e:k=g6:=hk;rw[e];exact⟨by omega,lS6⟩
   have k46b:=m56.blk k45 (by omega)
   have kg6b:=m56.blk kg5 (by omega)
   have z1:=x54.size
   have z2:=m55.size
   have z3:=m56.size
   have hm54:cv (fun k=>Yg w0 wL k∨w54.heap.size≤k) w54 (.sl (((qi a b i).miss (path++[AR s i])).map ie)) [mvK]:=(hmK.ext x54).weak fun k hk=>hk
   have hm56:=(hm54.mv (Y:=fun k=>Yg w0 wL k∨w54.heap.size≤k) (m55.weak fun k hk _=>.inl (hY k (.inr (.inl hk)))) fun k hk=>.inl hk).mv (Y:=fun k=>Yg w0 wL k∨w54.heap.size≤k) (m56.weak fun k hk _=>by have e:k=g6:=hk;rw[e];exact .inl ⟨by omega,by omega⟩) fun k hk=>.inl hk
   obtain⟨mv2,w59,hr59,hL5,m59⟩:=hL4.mis (l:=(qi a b i).miss (path++[AR s i])) (hm56.weak fun k hk=>by
    rcases hk with hk|hk|hk
    ·exact .inl (.inl (hY k (.inl hk)))
    ·rcases ge55 k hk with h|h
     ·exact .inl (.inl (hY k (.inr (.inl h))))
     ·exact .inl (.inr h)
    ·exact .inl (.inl (hY k (.inr (.inr hk))))) (by omega) (by have:=Ij (s:=s) (a:=a) (b:=b) (p:=path) (x:=i) (by omega);rw[f6];omega)
   rw[G5 (by omega)] at hL5
   have e59:aJ w w59:=m59.ext_from e56 fun k hk=>by have:=(ol2 k hk).1;omega
   have ng6:¬mv.ownBlock=some g6:=fun h=>by have:=(ol2 g6 h).1;omega
   have ng4:¬mv.ownBlock=some g4:=fun h=>by have:=(ol2 g4 h).1;omega
   have ngg:¬mv.ownBlock=some g:=fun h=>by have:=(ol2 g h).1;omega
   have k459:=m59.blk k46b ng4
   have kg59:=m59.blk kg6b ngg
   have kS59:bA g6 52 [.slice none 0 0,I s.kd,I s.ix,B s.at_.1,xs,ys,kv2,B false,.slice none 0 0] w59:=m59.blk k56 ng6
   have z4:=m59.size
   refine aa ?_
   refine ah E E (ap (o:=6) KF E (by kernel_rfl) E) ?_
   refine aj E E (ai KO E (kS2.cell (i:=6) E)) ?_
   refine aj E E (k9.ld KF E (JW hrK)) ?_
   refine aG (vs:=[(0,.agg csK.toArray)]) E E hr54 ?_
   refine aW E E hr55 ?_
   refine ah E E (ap (o:=6) KF E (by kernel_rfl) E) ?_
   refine ax E E s56 ?_
   refine ag (ab (aa (ae E E (ae E E ?_))))
   refine aW E E hr59 ?_
   refine ac E E (ag (aR (ab (aa (ae E E (ak (r:=I ((i+1:Nat):Int)) E E E (by have e:((i+1:Nat):Int)=(i:Int)+1:=(by omega);rw[e];exact aP (by omega) (by omega)) ?_))))))
   refine ac E E (ag ?_)
   refine gz (i+1) (kv2) (mv2) ⟨rfl,rfl,rfl,rfl,rfl,rfl,rfl,trivial⟩ ⟨e59,by omega,k459,kS59,kg59,hL5,by omega⟩ (by omega)
  ·refine be (aK (aK (bf (ab (af ?_)))))
   obtain rfl:i=2:=by omega
   have h1F:ao [.slice none 0 0,I s.kd,I s.ix,B s.at_.1,xs,ys,kv,B false,.slice none 0 0]:=ao.cons rfl (ao.cons rfl (ao.cons rfl (ao.cons rfl (ao.cons hsx.one (ao.cons hsy.one (ao.cons hL.own1.one (ao.cons rfl (ao.cons rfl ao.nil))))))))
   obtain⟨w60,s60,q60,k60⟩:=k4L.stS (P:=Tryz.prog) (t:=52) (m:=[.slice none 0 0,I s.kd,I s.ix,B s.at_.1,xs,ys,kv,B false,.slice none 0 0]) rfl (by kernel_rfl) h1F
   have e60:aJ w w60:=aJ.of_new eL q60 l4
   have m60:Mv (Yg w0 w6_6) wL w60:=Mv.of_grown q60 fun k hk _=>by have:g4=k:=Option.some.inj hk;rw[←this];exact⟨by omega,by omega⟩
   have rk:cv (Yg w0 w6_6) wL (.sl ([a.node,b.node].map bm)) [kv]:=hL.own1.rpx cg (by omega) (fun _ h=>.inl h) fun k hk hk'=>by have:=(hL.own1.lt k hk).1;have:=hk'.2;omega
   have rm:cv (Yg w0 w6_6) wL (.sl ((a.miss (path++[s])++b.miss (path++[bT s])).map ie)) [mv]:=hL.own2.rpx fy (by omega) (fun _ h=>.inl h) fun k hk hk'=>by have:=(hL.own2.lt k hk).1;have:=hk'.2;omega
   refine aa ?_
   refine aj E E (kS.ld KF E (by kernel_rfl)) ?_
   refine ae E E ?_
   refine ax E E s60 ?_
   refine ac E E (ag (ab (aw ?_)))
   refine eJ E E E k60 KF E (by kernel_rfl) ?_
   refine⟨_,rfl,e60,[.slice none 0 0,I s.kd,I s.ix,B s.at_.1,xs,ys,kv,B false,.slice none 0 0],mv,rfl,h1F,?_,?_⟩
   ·rw[ht]
    have hd:cv (Yg w0 w6_6) w60 (cQ s) [I s.kd,I s.ix,B s.at_.1,xs,ys]:=((uS hsx hsy).x.ext (e0.trans e60)).weak fun k hk=>.inl hk.1
    exact(g0 pQ hd (rk.mv m60 fun k hk=>.inl hk) pQ).weak fun k hk=>.inl (Yg.of_ext eS hk)
   ·rw[ht]
    exact(rm.mv m60 fun k hk=>.inl hk).weak fun k hk=>.inl (Yg.of_ext eS hk)
theorem si {w0:World}:∀t:JT,Cc w0 t
 |.gap=>qj fun s a b h=>by cases h
 |.leaf n=>qj fun s a b h=>by cases h
 |.split s' a' b'=>qj fun s a b h=>by
  obtain⟨rfl,rfl,rfl⟩:=JT.split.inj h
  exact⟨si _,si _⟩
end Go.Rl
namespace Go.Rl
open Go.RowKit Go.Proofs
theorem AS:aH Tryz.prog 26:=⟨_,Tryz.func26,by kernel_rfl,rfl⟩
theorem EG:aH Tryz.prog 28:=⟨_,Tryz.func28,by kernel_rfl,rfl⟩
theorem vA {w0:World} {n:aV} {vl x y vk vp:Value} (hl:ct cP n.lems vl w0) (hx:bi n.split.at_.2.1 x w0) (hy:bi n.split.at_.2.2 y w0) (hk:ct bm n.kids vk w0) (hp:ct bI n.pf vp w0):∀pt,JL w0 n (.agg #[vl,I n.split.kd,I n.split.ix,B n.split.at_.1,x,y,vk,B n.empty,vp]) pt
 |[]=>xN hl hx hy hk hp fun d ps h=>by cases h
 |d'::ps'=>xN hl hx hy hk hp fun d ps h=>by
  obtain⟨rfl,rfl⟩:=List.cons.inj h
  exact vA hl hx hy hk hp _
theorem AT {w:World} {es:List cn} {ev:Value} (hv:ct mW es ev w) (hs:∀u∈es,JC u) (hn:es.length≤1048576):
 Calls Tryz.prog 26 #[ev] w (bH fun r w'=>aJ w w'∧sf es r w'):=by
 refine enter (vs:=[ev]) Tryz.func26 E E E ?_
 refine af (aa ?_)
 obtain⟨g2,w2,hr2,l2,x2,k2⟩:=aZ (P:=Tryz.prog) (w:=w) (t:=52) (z:=.agg #[.slice none 0 0,I 0,I 0,B false,.slice none 0 0,.slice none 0 0,.slice none 0 0,B false,.slice none 0 0]) (l:=[.slice none 0 0,I 0,I 0,B false,.slice none 0 0,.slice none 0 0,.slice none 0 0,B false,.slice none 0 0]) (by kernel_rfl) rfl
 refine aX E hr2 (ac E E (ac E E (ag (ab (af (af ?_))))))
 have k20:bA g2 52 gn w2:=k2
 have hll:=hv.len
 have s2:=x2.size
 have lg2:=k2.lt
 refine aa (ac E E (ag (ab (aE ?_))))
 refine bZ (α:=Nat) (fun x=>[(0,ev),(2,.pointer (some ⟨g2,0,none⟩)),(3,.slice none 0 0),(4,I 0),(5,I (x:Int))]) (fun x w'=>aJ w w'∧x≤es.length∧(es.take x).all dy=true∧bA g2 52 gn w') (fun x=>es.length-x) (0) ⟨rfl,rfl,rfl,rfl,rfl,trivial⟩ ⟨x2,by omega,rfl,k20⟩ ?_
 rintro i wL ⟨eL,hi,hA,kL⟩
 refine af (af (aa (ae E E (ae E E (aS E E (a9 K3 (hv.ext eL)) (ak E E E (bb) (ag (ab ?_))))))))
 refine bt E (fun h13=>?_) (fun h13=>?_)
 ·refine aC (ab (af (aE (af ?_))))
  obtain⟨e18,he18⟩:∃e,e=es[i]'(by omega):=⟨_,rfl⟩
  have hmem:e18∈es:=by rw[he18];exact List.getElem_mem _
  have kL4:=kL.ext (aJ.refl _)
  rcases hval:dy e18
  ·refine aa (ae E E (ae E E ?_))
   obtain⟨a18,c18,p18,q18,h18⟩:=bR (P:=Tryz.prog) (sz:=10) K3 (by kernel_rfl) dN (by omega) hv (i:=i) ((by omega)) .i64
   rw[←he18] at h18
   obtain⟨x18_0,x18_1,x18_2,x18_3,x18_4,x18_5,rfl,f18_0,f18_1,f18_2,f18_3,f18_4,f18_5⟩:=iZ h18
   refine au E E E (p18 _) (aj E E ((q18.ext eL).ld KK E (by kernel_rfl)) (an vj E E ((by have h:=vn (u:=e18) (f18_0.ext eL) (f18_1.ext eL) (f18_2.ext eL) (f18_3.ext eL) (f18_4.ext eL) (f18_5.ext eL) (hs e18 hmem);rw[hval] at h;exact h)) ?_))
   rintro v20 w20 ⟨x20,rfl⟩
   refine bo E E bu (ag (ab (bg E (af (aa (bj (vs:=[]) (r:=.agg #[.slice none 0 0,I 0,I 0,B false,.slice none 0 0,.slice none 0 0,.slice none 0 0,B false,.slice none 0 0]) E E (by exact run_build _ _ _ _ (by kernel_rfl)) ?_))))))
   obtain⟨w5,s5,q5,k5⟩:=(kL4.ext x20).stS (P:=Tryz.prog) (t:=52) (m:=gn) rfl (by kernel_rfl) (ao.cons rfl (ao.cons rfl (ao.cons rfl (ao.cons rfl (ao.cons rfl (ao.cons rfl (ao.cons rfl (ao.cons rfl (ao.cons rfl ao.nil)))))))))
   refine ax E E s5 ?_
   have e5:=aJ.of_new ((eL.trans x20)) q5 l2
   refine ac E E (ac E E (ag (ab (aw (aY (aD (aD (aY (aD ?_)))))))))
   refine ji E E E E k5 KF E (by kernel_rfl) ?_
   have hno:es.all dy=false:=C7 (i:=i) (by omega) (by rw[←he18];exact hval)
   exact⟨_,rfl,e5,sf.err (c:=1) (by unfold qg;rw[if_pos hno])⟩
  ·refine aa (ae E E (ae E E ?_))
   obtain⟨a18,c18,p18,q18,h18⟩:=bR (P:=Tryz.prog) (sz:=10) K3 (by kernel_rfl) dN (by omega) hv (i:=i) ((by omega)) .i64
   rw[←he18] at h18
   obtain⟨x18_0,x18_1,x18_2,x18_3,x18_4,x18_5,rfl,f18_0,f18_1,f18_2,f18_3,f18_4,f18_5⟩:=iZ h18
   refine au E E E (p18 _) (aj E E ((q18.ext eL).ld KK E (by kernel_rfl)) (an vj E E ((by have h:=vn (u:=e18) (f18_0.ext eL) (f18_1.ext eL) (f18_2.ext eL) (f18_3.ext eL) (f18_4.ext eL) (f18_5.ext eL) (hs e18 hmem);rw[hval] at h;exact h)) ?_))
   rintro v20 w20 ⟨x20,rfl⟩
   refine bo E E bu (ag (ab (cy E (aC (aR (ab (aa (ae E E (ak (r:=I ((i+1:Nat):Int)) E E E (by have e:((i+1:Nat):Int)=(i:Int)+1:=(by omega);rw[e];exact aP (by omega) (by omega)) ?_)))))))))
   refine ac E E (ag ?_)
   refine bJ (i+1) ⟨rfl,rfl,rfl,rfl,rfl,trivial⟩ ⟨(eL.trans x20),by omega,by rw[AO (by omega),hA,←he18,hval];rfl,kL4.ext x20⟩ (by omega)
 ·refine be (aK (aK (bf (ab (af ?_)))))
  have hall:es.all dy=true:=by rw[List.take_of_length_le (by omega)] at hA;exact hA
  have hvl:∀u∈es,dy u=true:=fun u hu=>List.all_eq_true.1 hall u hu
  refine aa (bj (vs:=[]) (r:=.agg #[I 0,.slice none 0 0,I 0,I 0,B false,.slice none 0 0,.slice none 0 0,.slice none 0 0,B false,.slice none 0 0,I 0,I 0,B false,.slice none 0 0,.slice none 0 0,.pointer none,.pointer none]) E E (by exact run_build _ _ _ _ (by kernel_rfl)) ?_)
  obtain⟨g24,w24,hr24,l24,x24,k24⟩:=ca (P:=Tryz.prog) (w:=wL) (T:=120) (cs:=[I 0,.slice none 0 0,I 0,I 0,B false,.slice none 0 0,.slice none 0 0,.slice none 0 0,B false,.slice none 0 0,I 0,I 0,B false,.slice none 0 0,.slice none 0 0,.pointer none,.pointer none])
  refine cm E E hr24 (ac E E (ag (ab (af (af ?_)))))
  have ng2:g2∉[g24]:=by have:=kL.lt;simp;omega
  have j24:kY w w24 g24 .gap [g24]:=kY.gap k24 (by have:=eL.size;omega)
  refine aa (ac E E (ag (ab (aE ?_))))
  refine jx (fun(i:Nat) (t:JT) (ids:List Nat)=>[(0,ev),(2,.pointer (some ⟨g2,0,none⟩)),(6,.pointer (some ⟨g24,0,none⟩)),(7,I (i:Int))]) (fun(i:Nat) (t:JT) (ids:List Nat) w'=>aJ w w'∧i≤es.length∧bA g2 52 gn w'∧kY w w' g24 t ids∧g2∉ids∧gS (es.take i) .gap=some t∧t.depth≤2048∧t.gaps≤1+2048*i) (fun(i:Nat) (t:JT) (ids:List Nat)=>es.length-i) (0) (.gap) ([g24]) ⟨rfl,rfl,rfl,rfl,trivial⟩ ⟨eL.trans x24,by omega,kL.ext x24,j24,ng2,rfl,by simp[JT.depth],by simp[JT.gaps]⟩ ?_
  rintro i t ids wM ⟨eM,hi,kM,jM,nM,hT,hdp,hgp⟩
  refine af (af (aa (ae E E (ae E E (aS E E (a9 K3 (hv.ext eM)) (ak E E E (bb) (ag (ab ?_))))))))
  refine bt E (fun h28=>?_) (fun h28=>?_)
  ·refine aC (ab (af (aE (af ?_))))
   obtain⟨e34,he34⟩:∃e,e=es[i]'(by omega):=⟨_,rfl⟩
   have hmem:e34∈es:=by rw[he34];exact List.getElem_mem _
   have hTn:=tb (l:=es) (i:=i) (by omega) hT
   rw[←he34] at hTn
   have hpl:=vw (hvl e34 hmem)
   rcases hadd:Eu e34 t with _|t2
   ·refine bD 11 [0,2,6,7,31,36,41] (by kernel_rfl) (by kernel_rfl) ?_
    refine ay E E (ay E E (ay E E ?_))
    obtain⟨a34,c34,p34,q34,h34⟩:=bR (P:=Tryz.prog) (sz:=10) K3 (by kernel_rfl) dN (by omega) hv (i:=i) ((by omega)) .i64
    rw[←he34] at h34
    obtain⟨x34_0,x34_1,x34_2,x34_3,x34_4,x34_5,rfl,f34_0,f34_1,f34_2,f34_3,f34_4,f34_5⟩:=iZ h34
    refine aA E E E (fun w _=>p34 w) (aT E E (fun w hw=>gr (o:=0) KK E (by kernel_rfl) E) ?_)
    refine aN E E (fun w hw=>ai KN E (hw.cell_some (eM.cell_some (q34.at (j:=0) E)))) (ay E E (ay E E ?_))
    obtain⟨a39,c39,p39,q39,h39⟩:=bR (P:=Tryz.prog) (sz:=10) K3 (by kernel_rfl) dN (by omega) hv (i:=i) ((by omega)) .i64
    rw[←he34] at h39
    obtain⟨x39_0,x39_1,x39_2,x39_3,x39_4,x39_5,rfl,f39_0,f39_1,f39_2,f39_3,f39_4,f39_5⟩:=iZ h39
    refine aA E E E (fun w _=>p39 w) (aT E E (fun w hw=>gr (o:=1) KK E (by kernel_rfl) E) ?_)
    refine aN rfl rfl (fun w hw=>((q39.ext eM).ext hw).ldO (ms:=[x39_1,I e34.leaf.split.kd,I e34.leaf.split.ix,B e34.leaf.split.at_.1,x39_2,x39_3,x39_4,B e34.leaf.empty,x39_5]) (o:=1) (fun j v hj=>by rcases j with _|_|_|_|_|_|_|_|_|j<;>simp_all) Tryz.underlying52 rfl (by kernel_rfl)) ?_
    refine cb ?_
    intro wg10 xg10
    rintro _ hq0
    obtain rfl:=Eq.symm hq0
    rintro _ rfl
    rintro _ rfl
    rintro _ rfl
    rintro _ rfl
    rintro _ hq36
    obtain rfl:=Eq.symm hq36
    rintro _ rfl
    have eN:=xg10
    have jN:=jM.ext eN
    have kN:=kM.ext eN
    refine an oZ rfl rfl ((bH.mono (vA f39_1 f39_2 f39_3 f39_4 f39_5 e34.path _ _ t ids _ (eM.trans xg10) jN f34_0) fun r w' (h:JK _ _ _ _ _ _ _ _ _)=>show aJ w w'∧Mv (fun k=>k∈ids) _ w'∧r=B false from⟨h.1,h.2.1,by rcases h.2.2 with h|⟨_,t',_,h1,_⟩;exact h.2;exact absurd (h1.symm.trans hadd) (by simp)⟩)) ?_
    rintro v42 w42 ⟨y42,m42,rfl⟩
    have k42:=m42.blk kN nM
    refine bo E E bu (ag (ab (bg E (af (aa (bj (vs:=[]) (r:=.agg #[.slice none 0 0,I 0,I 0,B false,.slice none 0 0,.slice none 0 0,.slice none 0 0,B false,.slice none 0 0]) E E (by exact run_build _ _ _ _ (by kernel_rfl)) ?_))))))
    obtain⟨w12,s12,q12,k12⟩:=k42.stS (P:=Tryz.prog) (t:=52) (m:=gn) rfl (by kernel_rfl) (ao.cons rfl (ao.cons rfl (ao.cons rfl (ao.cons rfl (ao.cons rfl (ao.cons rfl (ao.cons rfl (ao.cons rfl (ao.cons rfl ao.nil)))))))))
    refine ax E E s12 ?_
    have e12:=aJ.of_new y42 q12 l2
    refine ac E E (ac E E (ag (ab (aw (aY (aD (aD (aY (aD ?_)))))))))
    refine ji E E E E k12 KF E (by kernel_rfl) ?_
    have hno:gS es .gap=none:=xK (i:=i+1) (by rw[hTn,hadd])
    exact⟨_,rfl,e12,sf.err (c:=11) (by unfold qg;rw[if_neg (by rw[hall];simp),hno])⟩
   ·refine bD 11 [0,2,6,7,31,36,41] (by kernel_rfl) (by kernel_rfl) ?_
    refine ay E E (ay E E (ay E E ?_))
    obtain⟨a34,c34,p34,q34,h34⟩:=bR (P:=Tryz.prog) (sz:=10) K3 (by kernel_rfl) dN (by omega) hv (i:=i) ((by omega)) .i64
    rw[←he34] at h34
    obtain⟨x34_0,x34_1,x34_2,x34_3,x34_4,x34_5,rfl,f34_0,f34_1,f34_2,f34_3,f34_4,f34_5⟩:=iZ h34
    refine aA E E E (fun w _=>p34 w) (aT E E (fun w hw=>gr (o:=0) KK E (by kernel_rfl) E) ?_)
    refine aN E E (fun w hw=>ai KN E (hw.cell_some (eM.cell_some (q34.at (j:=0) E)))) (ay E E (ay E E ?_))
    obtain⟨a39,c39,p39,q39,h39⟩:=bR (P:=Tryz.prog) (sz:=10) K3 (by kernel_rfl) dN (by omega) hv (i:=i) ((by omega)) .i64
    rw[←he34] at h39
    obtain⟨x39_0,x39_1,x39_2,x39_3,x39_4,x39_5,rfl,f39_0,f39_1,f39_2,f39_3,f39_4,f39_5⟩:=iZ h39
    refine aA E E E (fun w _=>p39 w) (aT E E (fun w hw=>gr (o:=1) KK E (by kernel_rfl) E) ?_)
    refine aN rfl rfl (fun w hw=>((q39.ext eM).ext hw).ldO (ms:=[x39_1,I e34.leaf.split.kd,I e34.leaf.split.ix,B e34.leaf.split.at_.1,x39_2,x39_3,x39_4,B e34.leaf.empty,x39_5]) (o:=1) (fun j v hj=>by rcases j with _|_|_|_|_|_|_|_|_|j<;>simp_all) Tryz.underlying52 rfl (by kernel_rfl)) ?_
    refine cb ?_
    intro wg10 xg10
    rintro _ hq0
    obtain rfl:=Eq.symm hq0
    rintro _ rfl
    rintro _ rfl
    rintro _ rfl
    rintro _ rfl
    rintro _ hq36
    obtain rfl:=Eq.symm hq36
    rintro _ rfl
    have eN:=xg10
    have jN:=jM.ext eN
    have kN:=kM.ext eN
    refine an oZ rfl rfl ((bH.mono (vA f39_1 f39_2 f39_3 f39_4 f39_5 e34.path _ _ t ids _ (eM.trans xg10) jN f34_0) fun r w' (h:JK _ _ _ _ _ _ _ _ _)=>show aJ w w'∧Mv (fun k=>k∈ids) _ w'∧r=B true∧∃ids',kY w w' g24 t2 ids'∧∀k∈ids',k∈ids∨_≤k from⟨h.1,h.2.1,by rcases h.2.2 with h|⟨h0,t',ids',h1,h3,h4⟩;exact absurd (h.1.symm.trans hadd) (by simp);exact⟨h0,ids',by have:=Option.some.inj (h1.symm.trans hadd);rw[←this];exact h3,h4⟩⟩)) ?_
    rintro v42 w42 ⟨y42,m42,rfl,ids',j42,fr42⟩
    have k42:=m42.blk kN nM
    refine bo E E bu (ag (ab (cy E (aC (aR (ab (aa (ae E E (ak (r:=I ((i+1:Nat):Int)) E E E (by have e:((i+1:Nat):Int)=(i:Int)+1:=(by omega);rw[e];exact aP (by omega) (by omega)) ?_)))))))))
    refine ac E E (ag ?_)
    refine gz (i+1) (t2) (ids') ⟨rfl,rfl,rfl,rfl,trivial⟩ ⟨y42,by omega,k42,j42,fun h=>(fr42 _ h).elim nM fun h=>by have:=kN.lt;omega,by rw[hTn,hadd],Nat.le_trans (na _ _ hadd) (by omega),Nat.le_trans (oT _ _ hadd) (by omega)⟩ (by omega)
  ·refine be (aK (aK (bf (ab (af ?_)))))
   have hle:=List.take_of_length_le (l:=es) (i:=i) (by omega)
   rw[hle] at hT
   have lM:=kM.lt
   have sM:=eM.size
   refine aa (ae E E (an nk E E ((si t wM g24 ids [] (.slice none 0 0) eM jM iT.nil (by simp;omega) (by omega))) ?_))
   rintro v47 w47 ⟨x47,cs,mv1,rfl,h1,hr,hm⟩
   obtain⟨vl,x,y,vk,vp,rfl,hlN,hxN,hyN,hkN,hpN⟩:=cW hr.rp
   have k247:=kM.ext (x47)
   refine ae E E (az E E ce (az E E cf ?_))
   obtain⟨g8,w8,hr8,l8,x8,k8⟩:=aZ (P:=Tryz.prog) (w:=w47) (t:=52) (z:=.agg #[.slice none 0 0,I 0,I 0,B false,.slice none 0 0,.slice none 0 0,.slice none 0 0,B false,.slice none 0 0]) (l:=[.slice none 0 0,I 0,I 0,B false,.slice none 0 0,.slice none 0 0,.slice none 0 0,B false,.slice none 0 0]) (by kernel_rfl) rfl
   refine aX E hr8 ?_
   obtain⟨w12_6,s12_6,q12_6,k12_6⟩:=k8.stS (P:=Tryz.prog) (t:=52) (m:=[vl,I t.node.split.kd,I t.node.split.ix,B t.node.split.at_.1,x,y,vk,B t.node.empty,vp]) rfl (by kernel_rfl) (ao.cons hlN.one (ao.cons rfl (ao.cons rfl (ao.cons rfl (ao.cons hxN.one (ao.cons hyN.one (ao.cons hkN.one (ao.cons rfl (ao.cons hpN.one ao.nil)))))))))
   refine ax E E s12_6 ?_
   have x12_6:=aJ.of_new (x8) q12_6 l8
   refine ac E E (ag (ab (af (af ?_))))
   rcases hvn:mG t.node
   ·refine aa (aj E E (k12_6.ld KF E (by kernel_rfl)) (an ja E E ((by have h:=jb (hlN.ext x12_6) (hxN.ext x12_6) (hyN.ext x12_6) (hkN.ext x12_6) (hpN.ext x12_6);rw[hvn] at h;exact h)) ?_))
    rintro v51 w51 ⟨x51,rfl⟩
    refine bo E E bu (ag (ab (bg E (af (aa (bj (vs:=[]) (r:=.agg #[.slice none 0 0,I 0,I 0,B false,.slice none 0 0,.slice none 0 0,.slice none 0 0,B false,.slice none 0 0]) E E (by exact run_build _ _ _ _ (by kernel_rfl)) ?_))))))
    obtain⟨w17,s17,q17,k17⟩:=(k247.ext ((x12_6.trans x51))).stS (P:=Tryz.prog) (t:=52) (m:=gn) rfl (by kernel_rfl) (ao.cons rfl (ao.cons rfl (ao.cons rfl (ao.cons rfl (ao.cons rfl (ao.cons rfl (ao.cons rfl (ao.cons rfl (ao.cons rfl ao.nil)))))))))
    refine ax E E s17 ?_
    have e17:=aJ.of_new ((((eM.trans x47).trans x12_6).trans x51)) q17 l2
    refine ac E E (ac E E (ag (ab (aw (aD ?_)))))
    refine ji E E E E k17 KF E (by kernel_rfl) ?_
    exact⟨_,rfl,e17,sf.err (c:=8) (by unfold qg;rw[if_neg (by rw[hall];simp),hT];simp only[];rw[if_pos hvn])⟩
   ·refine aa (aj E E (k12_6.ld KF E (by kernel_rfl)) (an ja E E ((by have h:=jb (hlN.ext x12_6) (hxN.ext x12_6) (hyN.ext x12_6) (hkN.ext x12_6) (hpN.ext x12_6);rw[hvn] at h;exact h)) ?_))
    rintro v51 w51 ⟨x51,rfl⟩
    refine bo E E bu (ag (ab (cy E (aC (ab (af (aa (aj E E ((k12_6.ext x51).ld KF E (by kernel_rfl)) ?_))))))))
    refine ae E E ?_
    obtain⟨w18,s18,q18,k18⟩:=(k247.ext ((x12_6.trans x51))).stS (P:=Tryz.prog) (t:=52) (m:=[vl,I t.node.split.kd,I t.node.split.ix,B t.node.split.at_.1,x,y,vk,B t.node.empty,vp]) rfl (by kernel_rfl) h1
    refine ax E E s18 ?_
    have e18:=aJ.of_new ((((eM.trans x47).trans x12_6).trans x51)) q18 l2
    have m18:Mv (Yg w wM) w51 w18:=Mv.of_grown q18 fun k hk _=>by have:g2=k:=Option.some.inj hk;rw[←this];exact⟨l2,lM⟩
    have rN:=(hr.ext ((x12_6.trans x51))).mv (Y:=fun _=>False) m18 fun k hk=>hk.elim
    have rM:=(hm.ext ((x12_6.trans x51))).mv (Y:=fun _=>False) m18 fun k hk=>hk.elim
    refine ac E E (ac E E (ag (ab (aw ?_))))
    refine ji E E E E k18 KF E (by kernel_rfl) ?_
    have hb:qg es=((t.node,t.miss []),0):=by unfold qg;rw[if_neg (by rw[hall];simp),hT];simp only[];rw[if_neg (by rw[hvn];simp)]
    refine⟨_,rfl,e18,?_⟩
    unfold sf
    rw[hb]
    exact⟨_,mv1,rfl,h1,rN.rp,rM.rp⟩
theorem xP {w:World} {p:List bz} {cs:List Value} (h:Rp w (ie p) cs):∃v,cs=[v]∧ct cQ p v w:=by
 have h1:=h
 unfold ie at h1
 simp only[Rp] at h1
 obtain⟨A,n,c,rfl,_⟩:=h1
 exact⟨_,rfl,h⟩
theorem EH {w:World} {l:List (List bz)} {v u:Value} (hv:ct ie l v w) (hu:ct ie l u w):
 Calls Tryz.prog 28 #[v,u] w (bH fun r w'=>aJ w w'∧r=B true):=by
 refine enter (vs:=[v,u]) Tryz.func28 E E E ?_
 have hll:=hv.len
 refine af (aa (ac E E (ag (ab (af (af (aa (ae E E ?_))))))))
 refine aS E E (a9 Ld hv) ?_
 refine ae E E ?_
 refine aS E E (a9 Ld hu) ?_
 refine ak E E E (dn (fun h=>h E) dF) (ag (ab (cy E (aC (ab (af (af (aa (ac E E (ag (ab (aE ?_))))))))))))
 refine bZ (α:=Nat) (fun i=>[(0,v),(1,u),(5,I (i:Int))]) (fun i w'=>aJ w w'∧i≤l.length) (fun i=>l.length-i) (0) ⟨rfl,rfl,rfl,trivial⟩ ⟨aJ.refl _,by omega⟩ ?_
 rintro i wL ⟨eL,hi⟩
 refine af (af (aa (ae E E (ae E E ?_))))
 refine aS E E (a9 Ld (hv.ext eL)) ?_
 refine ak E E E (bb) (ag (ab ?_))
 refine bt E (fun h14=>?_) (fun h14=>?_)
 ·refine aC (ab (af (aE (af ?_))))
  obtain⟨a19,c19,p19,q19,h19⟩:=bR (P:=Tryz.prog) (sz:=1) Ld (by kernel_rfl) fy (by omega) hv (i:=i) (by omega) .i64
  obtain⟨a23,c23,p23,q23,h23⟩:=bR (P:=Tryz.prog) (sz:=1) Ld (by kernel_rfl) fy (by omega) hu (i:=i) (by omega) .i64
  obtain⟨v20,rfl,d20⟩:=xP h19
  obtain⟨v24,rfl,d24⟩:=xP h23
  refine bD 9 [0,1,5,25] (by kernel_rfl) (by kernel_rfl) ?_
  refine ay E E (ay E E ?_)
  refine aA E E E (fun w _=>p19 w) ?_
  refine aN E E (fun w hw=>ai KN E (((q19.ext eL).ext hw).at (j:=0) E)) ?_
  refine ay E E (ay E E ?_)
  refine aA E E E (fun w _=>p23 w) ?_
  refine aN E E (fun w hw=>ai KN E (((q23.ext eL).ext hw).at (j:=0) E)) ?_
  refine cd (S:=Is (B true)) BW (bG.is _) rfl (fun w hw=>by rintro _ rfl _ rfl;exact bH.mono (BX ((d20.ext eL).ext hw) ((d24.ext eL).ext hw)) fun v w' h=>⟨h.1,by rw[h.2,decide_eq_true rfl];rfl⟩) ?_
  refine cb ?_
  intro wg6 xg6
  rintro _ hq0
  obtain rfl:=Eq.symm hq0
  rintro _ hq1
  obtain rfl:=Eq.symm hq1
  rintro _ rfl
  rintro _ rfl
  refine bo E E bu (ag (ab (cy E (aC (aR (ab (aa (ae E E (ak (r:=I ((i+1:Nat):Int)) E E E (by have e:((i+1:Nat):Int)=(i:Int)+1:=(by omega);rw[e];exact aP (by omega) (by omega)) ?_)))))))))
  refine ac E E (ag ?_)
  refine bJ (i+1) ⟨rfl,rfl,rfl,trivial⟩ ⟨(eL.trans xg6),by omega⟩ (by omega)
 ·refine be (aK (aK (bf (ab (af (aa (ac E E (ag (ab (aw (av E E ?_)))))))))))
  exact⟨_,rfl,eL,rfl⟩
end Go.Rl
namespace Go.Rl
open Go.RowKit Go.Proofs
def d2:List UInt8:=2::List.replicate 31 0
end Go.Rl
namespace Go.Rl
open Go.RowKit Go.Proofs
theorem JH.is {b x:List UInt8} {c:Int} {u:cn} {r:Value} {w':World} (h:JH b u r w') (e:JA b u=(x,c)):∃v,r=.tuple #[v,I c]∧cE x v w':=by
 unfold JH at h
 rw[e] at h
 exact h
end Go.Rl
namespace Go.Rl
open Go.RowKit Go.Proofs
end Go.Rl
namespace Go.Rl
open Go.RowKit Go.Proofs
def d1:List UInt8:=1::List.replicate 31 0
end Go.Rl
namespace Go.Rl
open Go.RowKit Go.Proofs
theorem vB:∀es:List cn,es.length≤ii es
 |[]=>Nat.le_refl _
 |u::es=>by
  have:=vB es
  have h1:1≤pc u:=by unfold pc;omega
  simp only[ii,List.map_cons,List.sum_cons,List.length_cons] at this⊢
  omega
theorem Db (ha:C8) {w:World} {es:List cn} {ev:Value} (hv:ct mW es ev w) (hw:∀u∈es,BL u) (hb:Dt.bulkAll (es.map mW)≤1048576) (ho:zp w):
 Calls Tryz.prog 9 #[ev] w (bH fun r w'=>r=B true∧aJ w w'):=by
 have hd:d1.length=32:=rfl
 have hzb:=ED es
 refine enter (vs:=[ev]) Tryz.func9 E E E ?_
 refine af (aa (ac E E (ag (ab (af (af (aa (an rf E E ((ha ho)) ?_))))))))
 rintro v9 w9 ⟨x9,rfl⟩
 refine bo E E bu (ae E E (al E (ae E E (al E (an zg E E ((zi (hv.ext x9) (by omega))) ?_)))))
 rintro v13 w13 ⟨x13,rfl⟩
 refine al E (bo E E Cj (aI E E E (ag (ab ?_))))
 refine bt E (fun h15=>?_) (fun h15=>?_)
 ·refine af (aa (an rf E E ((ha (ho.ext (x9.trans x13)))) ?_))
  rintro v16 w16 ⟨x16,rfl⟩
  refine ac E E (ag (ab (aw (aD (av E E ?_)))))
  exact⟨_,rfl,rfl,((x9.trans x13).trans x16)⟩
 ·refine aC (ab (af ?_))
  have hf:ii es≤120:=by simpa using h15
  have hE:=JJ.mk' (d:=d1) hd hb hw hf
  refine aa (ae E E (an ta E E ((td (hv.ext (x9.trans x13)) hE.short (ho.ext (x9.trans x13)) (by have:=vB es;omega))) ?_))
  rintro v19 w19 ⟨x19,cs1,mv1,rfl,o1,r1,m1⟩
  refine ae E E (az E E (fg) (az E E (fh) (az E E (fi) ?_)))
  obtain⟨g3,w3,hr3,l3,x3,k3⟩:=aZ (P:=Tryz.prog) (w:=w19) (t:=52) (z:=.agg #[.slice none 0 0,I 0,I 0,B false,.slice none 0 0,.slice none 0 0,.slice none 0 0,B false,.slice none 0 0]) (l:=[.slice none 0 0,I 0,I 0,B false,.slice none 0 0,.slice none 0 0,.slice none 0 0,B false,.slice none 0 0]) (by kernel_rfl) rfl
  refine aX E hr3 ?_
  obtain⟨w4,s4,q4,k4⟩:=k3.stS (P:=Tryz.prog) (t:=52) (m:=cs1) (by rw[r1.len,cg];rfl) (by rw[r1.len,cg];kernel_rfl) o1
  refine ax E E s4 ?_
  have x4:=aJ.of_new x3 q4 l3
  refine ac E E (ac E E (ag (ab (af (aa (ae E E (an AS E E ((AT (hv.ext (((x9.trans x13).trans x19).trans x4)) hE.short (by have:=vB es;omega))) ?_)))))))
  rintro v25 w25 ⟨x25,cs2,mv2,rfl,o2,r2,m2⟩
  refine ae E E (az E E (fg) (az E E (fh) (az E E (fi) ?_)))
  obtain⟨g6,w6,hr6,l6,x6,k6⟩:=aZ (P:=Tryz.prog) (w:=w25) (t:=52) (z:=.agg #[.slice none 0 0,I 0,I 0,B false,.slice none 0 0,.slice none 0 0,.slice none 0 0,B false,.slice none 0 0]) (l:=[.slice none 0 0,I 0,I 0,B false,.slice none 0 0,.slice none 0 0,.slice none 0 0,B false,.slice none 0 0]) (by kernel_rfl) rfl
  refine aX E hr6 ?_
  obtain⟨w7,s7,q7,k7⟩:=k6.stS (P:=Tryz.prog) (t:=52) (m:=cs2) (by rw[r2.len,cg];rfl) (by rw[r2.len,cg];kernel_rfl) o2
  refine ax E E s7 ?_
  have x7:=aJ.of_new x6 q7 l6
  refine ac E E (ac E E (ag (ab (af ?_))))
  have r1b:=(r1.ext x4).ext ((x25.trans x7))
  have k4b:=k4.ext ((x25.trans x7))
  have r2b:=r2.ext x7
  have m1b:=m1.ext (((x4.trans x25).trans x7))
  have m2b:=m2.ext x7
  obtain⟨vl,x,y,vk,vp,rfl,a1,a2,a3,a4,a5⟩:=cW r1b
  obtain⟨ul,p,q,uk,up,rfl,b1,b2,b3,b4,b5⟩:=cW r2b
  refine aa (ae E E (ae E E (ak E E E (cR E a6) (ae E E (al E ?_)))))
  refine aj E E (k4b.ld KF E (by kernel_rfl)) ?_
  refine al E ?_
  refine aj E E (k7.ld KF E (by kernel_rfl)) ?_
  refine al E (an Az E E ((AB _ (Nat.le_refl _) a1 a2 a3 a4 a5 b1 b2 b3 b4 b5)) ?_)
  rintro v35 w35 ⟨x35,rfl⟩
  refine ar E E E (ae E E (al E (ae E E (al E (ae E E (al E (an EG E E ((EH (m1b.ext x35) (m2b.ext x35))) ?_)))))))
  rintro v40 w40 ⟨x40,rfl⟩
  refine ar E E E (ac E E (ag (ab (aw (av E E ?_)))))
  exact⟨_,rfl,rfl,(((((((x9.trans x13).trans x19).trans x4).trans x25).trans x7).trans x35).trans x40)⟩
end Go.Rl
namespace Go.Rl
open Go.RowKit Go.Proofs
theorem JM {d:Dt} (h:Ty Tryz.prog 54 d):∃u:cn,d=mW u∧BL u:=by
 obtain⟨l,rfl,hl,hf⟩:=h.inv_st KK
 obtain⟨d0,d1,rfl⟩:=Ku (show l.length=2 from hl)
 obtain⟨ds,rfl,hw⟩:=(hf 0 _ d0 rfl rfl).inv_slP KN fun _ hx=>Gu hx
 obtain⟨n,rfl,hn⟩:=CT _ (Nat.le_refl _) (hf 1 _ d1 rfl rfl)
 exact⟨⟨ds,n⟩,rfl,hw,hn⟩
theorem ty_ents {d:Dt} (h:Ty Tryz.prog 25 d):∃es:List cn,d=.sl (es.map mW)∧∀u∈es,BL u:=
 h.inv_slP K3 fun _ hx=>JM hx
end Go.Rl

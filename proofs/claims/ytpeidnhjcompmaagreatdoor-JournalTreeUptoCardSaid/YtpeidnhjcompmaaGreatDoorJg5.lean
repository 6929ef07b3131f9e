/- Part 5 of a proof: plain facts and walks of functions, merged by a program. Conditions: each lemma names its own. -/
import Derived.Test.YtpeidnhjcompmaaGreatDoorJg4
namespace Go.Rl
open Go.RowKit Go.Proofs
theorem nt:aJ Tryz.prog 143:=⟨_,Tryz.func143,by kernel_rfl,rfl⟩
theorem zG:aJ Tryz.prog 51:=⟨_,Tryz.func51,by kernel_rfl,rfl⟩
theorem zH:aJ Tryz.prog 16:=⟨_,Tryz.func16,by kernel_rfl,rfl⟩
theorem nu {w:World} {a b:bj} {x y p q:Value} (ha:bk a.at_.2.1 x w) (ha':bk a.at_.2.2 y w) (hb:bk b.at_.2.1 p w) (hb':bk b.at_.2.2 q w):
 Calls Tryz.prog 143 #[.agg #[I a.kd,I a.ix,B a.at_.1,x,y],.agg #[I b.kd,I b.ix,B b.at_.1,p,q]] w (bN fun r w'=>aH w w'∧r=B (decide (a=b))):=by
 refine enter (vs:=[.agg #[I a.kd,I a.ix,B a.at_.1,x,y],.agg #[I b.kd,I b.ix,B b.at_.1,p,q]]) Tryz.func143 E E E ?_
 refine af (aa ?_)
 obtain⟨g2,w2,hr2,l2,x2,k2⟩:=cq (P:=Tryz.prog) (w:=w) (T:=48) (cs:=[I a.kd,I a.ix,B a.at_.1,x,y])
 refine cw E E hr2 ?_
 obtain⟨g3,w3,hr3,l3,x3,k3⟩:=cq (P:=Tryz.prog) (w:=w2) (T:=48) (cs:=[I b.kd,I b.ix,B b.at_.1,p,q])
 refine cw E E hr3 (ac E E (ag (ab (af (aa (ah E E (av (o:=0) Lm E (by kernel_rfl) E) ?_))))))
 refine aj E E (ai Lo E (x3.cell_some (k2.cell (i:=0) E))) (ah E E (av (o:=0) Lm E (by kernel_rfl) E) ?_)
 refine aj E E (ai Lo E (k3.cell (i:=0) E)) (al E E E (bo) (ae E E ?_))
 refine ci (fun h10=>?_) (fun h10=>?_)
 ·refine ak E (ah E E (av (o:=1) Lm E (by kernel_rfl) E) (ak E (aj E E (ai Lo E (x3.cell_some (k2.cell (i:=1) E))) ?_)))
  refine ak E (ah E E (av (o:=1) Lm E (by kernel_rfl) E) (ak E (aj E E (ai Lo E (k3.cell (i:=1) E)) ?_)))
  refine ak E (al E E E (bo) (aq E E E (ae E E ?_)))
  refine ci (fun h17=>?_) (fun h17=>?_)
  ·refine ak E (ah E E (av (o:=2) Lm E (by kernel_rfl) E) (ak E (ah E E (cx (b:=2) (o:=0) Ln E (by kernel_rfl) E) ?_)))
   refine ak E (aj E E (ai Lw E (x3.cell_some (k2.cell (i:=2) E))) (ak E (ah E E (av (o:=2) Lm E (by kernel_rfl) E) ?_)))
   refine ak E (ah E E (cx (b:=2) (o:=0) Ln E (by kernel_rfl) E) (ak E (aj E E (ai Lw E (k3.cell (i:=2) E)) ?_)))
   refine ak E (al E E E (tO Lw) (aq E E E (ae E E ?_)))
   refine ci (fun h26=>?_) (fun h26=>?_)
   ·refine ak E (ah E E (av (o:=2) Lm E (by kernel_rfl) E) (ak E (ah E E (cx (b:=2) (o:=1) Ln E (by kernel_rfl) E) ?_)))
    refine ak E (aj E E (ai Lj E (x3.cell_some (k2.cell (i:=3) E))) (ak E (ah E E (av (o:=2) Lm E (by kernel_rfl) E) ?_)))
    refine ak E (ah E E (cx (b:=2) (o:=1) Ln E (by kernel_rfl) E) (ak E (aj E E (ai Lj E (k3.cell (i:=3) E)) ?_)))
    refine ak E (an rl E E (rn (ha.ext (x2.trans x3)) (hb.ext (x2.trans x3))) ?_)
    rintro v33 w33 ⟨x33,rfl⟩
    refine aq E E E (ae E E ?_)
    refine ci (fun h35=>?_) (fun h35=>?_)
    ·refine ak E (ah E E (av (o:=2) Lm E (by kernel_rfl) E) (ak E (ah E E (cx (b:=2) (o:=2) Ln E (by kernel_rfl) E) ?_)))
     refine ak E (aj E E (ai Lj E ((x3.trans x33).cell_some (k2.cell (i:=4) E))) (ak E (ah E E (av (o:=2) Lm E (by kernel_rfl) E) ?_)))
     refine ak E (ah E E (cx (b:=2) (o:=2) Ln E (by kernel_rfl) E) (ak E (aj E E (ai Lj E (x33.cell_some (k3.cell (i:=4) E))) ?_)))
     refine ak E (an rl E E (rn (ha'.ext ((x2.trans x3).trans x33)) (hb'.ext ((x2.trans x3).trans x33))) ?_)
     rintro v42 w42 ⟨x42,rfl⟩
     refine aq E E E (ac E E (ag (ab (aw (au E E ?_)))))
     exact⟨_,rfl,(((x2.trans x3).trans x33).trans x42),by
      first
      |exact congrArg B (decide_eq_decide.2 ⟨fun h=>bj.ext' h10 h17 (Prod.ext h26 (Prod.ext h35 h)),fun h=>by rw[h]⟩)
      |exact congrArg B (decide_eq_false fun h=>h35 (by rw[h])).symm
      |exact congrArg B (decide_eq_false fun h=>h26 (by rw[h])).symm
      |exact congrArg B (decide_eq_false fun h=>h17 (by rw[h])).symm
      |exact congrArg B (decide_eq_false fun h=>h10 (by rw[h])).symm⟩
    ·refine am E E E (am E E E (am E E E (am E E E (am E E E (am E E E (am E E E (aI E E E (ac E E (ag ?_)))))))))
     refine ab (aw (au E E ?_))
     exact⟨_,rfl,((x2.trans x3).trans x33),by
      first
      |exact congrArg B (decide_eq_decide.2 ⟨fun h=>bj.ext' h10 h17 (Prod.ext h26 (Prod.ext h35 h)),fun h=>by rw[h]⟩)
      |exact congrArg B (decide_eq_false fun h=>h35 (by rw[h])).symm
      |exact congrArg B (decide_eq_false fun h=>h26 (by rw[h])).symm
      |exact congrArg B (decide_eq_false fun h=>h17 (by rw[h])).symm
      |exact congrArg B (decide_eq_false fun h=>h10 (by rw[h])).symm⟩
   ·refine am E E E (am E E E (am E E E (am E E E (am E E E (am E E E (am E E E (aI E E E (ae E E (am E E E ?_)))))))))
    refine am E E E (am E E E (am E E E (am E E E (am E E E (am E E E (aI E E E (ac E E (ag (ab (aw (au E E ?_)))))))))))
    exact⟨_,rfl,(x2.trans x3),by
     first
     |exact congrArg B (decide_eq_decide.2 ⟨fun h=>bj.ext' h10 h17 (Prod.ext h26 (Prod.ext h35 h)),fun h=>by rw[h]⟩)
     |exact congrArg B (decide_eq_false fun h=>h35 (by rw[h])).symm
     |exact congrArg B (decide_eq_false fun h=>h26 (by rw[h])).symm
     |exact congrArg B (decide_eq_false fun h=>h17 (by rw[h])).symm
     |exact congrArg B (decide_eq_false fun h=>h10 (by rw[h])).symm⟩
  ·refine am E E E (am E E E (am E E E (am E E E (am E E E (am E E E (am E E E (aI E E E (ae E E (am E E E ?_)))))))))
   refine am E E E (am E E E (am E E E (am E E E (am E E E (am E E E (aI E E E (ae E E (am E E E (am E E E ?_)))))))))
   refine am E E E (am E E E (am E E E (am E E E (am E E E (aI E E E (ac E E (ag (ab (aw (au E E ?_))))))))))
   exact⟨_,rfl,(x2.trans x3),by
    first
    |exact congrArg B (decide_eq_decide.2 ⟨fun h=>bj.ext' h10 h17 (Prod.ext h26 (Prod.ext h35 h)),fun h=>by rw[h]⟩)
    |exact congrArg B (decide_eq_false fun h=>h35 (by rw[h])).symm
    |exact congrArg B (decide_eq_false fun h=>h26 (by rw[h])).symm
    |exact congrArg B (decide_eq_false fun h=>h17 (by rw[h])).symm
    |exact congrArg B (decide_eq_false fun h=>h10 (by rw[h])).symm⟩
 ·refine am E E E (am E E E (am E E E (am E E E (am E E E (aI E E E (ae E E (am E E E (am E E E (am E E E ?_)))))))))
  refine am E E E (am E E E (am E E E (am E E E (aI E E E (ae E E (am E E E (am E E E (am E E E (am E E E ?_)))))))))
  refine am E E E (am E E E (am E E E (aI E E E (ae E E (am E E E (am E E E (am E E E (am E E E (am E E E ?_)))))))))
  refine am E E E (am E E E (aI E E E (ac E E (ag (ab (aw (au E E ?_)))))))
  exact⟨_,rfl,(x2.trans x3),by
   first
   |exact congrArg B (decide_eq_decide.2 ⟨fun h=>bj.ext' h10 h17 (Prod.ext h26 (Prod.ext h35 h)),fun h=>by rw[h]⟩)
   |exact congrArg B (decide_eq_false fun h=>h35 (by rw[h])).symm
   |exact congrArg B (decide_eq_false fun h=>h26 (by rw[h])).symm
   |exact congrArg B (decide_eq_false fun h=>h17 (by rw[h])).symm
   |exact congrArg B (decide_eq_false fun h=>h10 (by rw[h])).symm⟩
def Be (l:List eB):Nat:=(l.map fun m=>m.pf.length).sum
def sU (u:cm):Nat:=1+u.path.length+u.leaf.lems.length+u.leaf.pf.length+u.leaf.kids.length+Be u.leaf.lems
theorem Hk {l:List eB} {i:Nat} (hi:i<l.length):Be (l.take (i+1))=Be (l.take i)+l[i].pf.length:=by
 have e:l.take (i+1)=l.take i++[l[i]]:=by rw[List.take_add_one,List.getElem?_eq_getElem hi];rfl
 unfold Be
 rw[e,List.map_append,List.sum_append]
 simp
theorem Hl (l:List eB) (i:Nat):Be (l.take i)≤Be l:=by
 have h:Be l=Be (l.take i)+Be (l.drop i):=by
  conv=>lhs;rw[←List.take_append_drop i l]
  unfold Be
  rw[List.map_append,List.sum_append]
 omega
theorem zI {w:World} {u:cm} {vd vl x y vk vp:Value} (hd:cd c9 u.path vd w) (hl:cd cP u.leaf.lems vl w) (_hx:bk u.leaf.split.at_.2.1 x w) (_hy:bk u.leaf.split.at_.2.2 y w) (hk:cd bh u.leaf.kids vk w) (hp:cd bK u.leaf.pf vp w) (hz:sU u≤4611686018427387904):
 Calls Tryz.prog 51 #[.agg #[vd,vl,I u.leaf.split.kd,I u.leaf.split.ix,B u.leaf.split.at_.1,x,y,vk,B u.leaf.empty,vp]] w (bN fun r w'=>aH w w'∧r=I ((sU u:Nat):Int)):=by
 refine enter (vs:=[.agg #[vd,vl,I u.leaf.split.kd,I u.leaf.split.ix,B u.leaf.split.at_.1,x,y,vk,B u.leaf.empty,vp]]) Tryz.func51 E E E ?_
 have hzz:sU u=1+u.path.length+u.leaf.lems.length+u.leaf.pf.length+u.leaf.kids.length+Be u.leaf.lems:=rfl
 refine af (aa ?_)
 obtain⟨g1,w1,hr1,l1,x1,k1⟩:=cq (P:=Tryz.prog) (w:=w) (T:=54) (cs:=[vd,vl,I u.leaf.split.kd,I u.leaf.split.ix,B u.leaf.split.at_.1,x,y,vk,B u.leaf.empty,vp])
 refine cw E E hr1 (ac E E (ag (ab (af (aa (ah E E (av (o:=0) Lr E (by kernel_rfl) E) ?_))))))
 refine aj E E (ai Lu E (k1.cell (i:=0) E)) (aV E E (aY Lu (hd.ext x1)) ?_)
 refine al (r:=I ((1+u.path.length:Nat):Int)) E E E (by have e:((1+u.path.length:Nat):Int)=1+(u.path.length:Int):=(by omega);rw[e];exact aR (by omega) (by omega)) ?_
 refine ah E E (av (o:=1) Lr E (by kernel_rfl) E) (ah E E (cx (b:=1) (o:=0) Lk E (by kernel_rfl) E) ?_)
 refine aj E E (ai Lz E (k1.cell (i:=1) E)) (aV E E (aY Lz (hl.ext x1)) (al (r:=I ((1+u.path.length+u.leaf.lems.length:Nat):Int)) E E E (by have e:((1+u.path.length+u.leaf.lems.length:Nat):Int)=((1+u.path.length:Nat):Int)+(u.leaf.lems.length:Int):=(by omega);rw[e];exact aR (by omega) (by omega)) ?_))
 refine ah E E (av (o:=1) Lr E (by kernel_rfl) E) (ah E E (cx (b:=1) (o:=8) Lk E (by kernel_rfl) E) ?_)
 refine aj E E (ai Ly E (k1.cell (i:=9) E)) (aV E E (aY Ly (hp.ext x1)) (al (r:=I ((1+u.path.length+u.leaf.lems.length+u.leaf.pf.length:Nat):Int)) E E E (by have e:((1+u.path.length+u.leaf.lems.length+u.leaf.pf.length:Nat):Int)=((1+u.path.length+u.leaf.lems.length:Nat):Int)+(u.leaf.pf.length:Int):=(by omega);rw[e];exact aR (by omega) (by omega)) ?_))
 refine ah E E (av (o:=1) Lr E (by kernel_rfl) E) (ah E E (cx (b:=1) (o:=6) Lk E (by kernel_rfl) E) ?_)
 refine aj E E (ai Ls E (k1.cell (i:=7) E)) (aV E E (aY Ls (hk.ext x1)) (al (r:=I ((1+u.path.length+u.leaf.lems.length+u.leaf.pf.length+u.leaf.kids.length:Nat):Int)) E E E (by have e:((1+u.path.length+u.leaf.lems.length+u.leaf.pf.length+u.leaf.kids.length:Nat):Int)=((1+u.path.length+u.leaf.lems.length+u.leaf.pf.length:Nat):Int)+(u.leaf.kids.length:Int):=(by omega);rw[e];exact aR (by omega) (by omega)) ?_))
 refine ac E E (ag (ab (af (af (aa (ac E E (ag (ab (aG ?_)))))))))
 refine ck (α:=Nat) (fun i=>[(1,.pointer (some ⟨g1,0,none⟩)),(3,I ((1+u.path.length+u.leaf.lems.length+u.leaf.pf.length+u.leaf.kids.length+Be (u.leaf.lems.take i):Nat):Int)),(4,I (i:Int))]) (fun i w'=>aH w w'∧aH w1 w'∧i≤u.leaf.lems.length) (fun i=>u.leaf.lems.length-i) (0) ⟨rfl,rfl,rfl,trivial⟩ ⟨x1,aH.refl _,by omega⟩ ?_
 rintro i wL ⟨eL,e1L,hi⟩
 refine af (af (aa (ae E E (ah E E (av (o:=1) Lr E (by kernel_rfl) E) (ah E E (cx (b:=1) (o:=0) Lk E (by kernel_rfl) E) ?_)))))
 refine aj E E (ai Lz E (e1L.cell_some (k1.cell (i:=1) E))) (aV E E (aY Lz (hl.ext eL)) ?_)
 refine al E E E (a6) (ag (ab ?_))
 refine bu E (fun h29=>?_) (fun h29=>?_)
 ·refine aC (ab (af (aG ?_)))
  have hst:=Hk (l:=u.leaf.lems) (i:=i) (by omega)
  have htk:=Hl u.leaf.lems (i+1)
  refine aa (ae E E (ah E E (av (o:=1) Lr E (by kernel_rfl) E) (ah E E (cx (b:=1) (o:=0) Lk E (by kernel_rfl) E) ?_)))
  refine aj E E (ai Lz E (e1L.cell_some (k1.cell (i:=1) E))) (ae E E ?_)
  obtain⟨a37,c37,p37,q37,h37⟩:=cb (P:=Tryz.prog) (sz:=6) Lz (by kernel_rfl) cY (by omega) (hl.ext eL) (i:=i) (by omega) .i64
  obtain⟨e37,he37⟩:∃e,e=u.leaf.lems[i]'(by omega):=⟨_,rfl⟩
  rw[←he37] at h37
  obtain⟨x37_0,x37_1,x37_2,rfl,f37_0,f37_1,f37_2⟩:=eK h37
  refine ar E E E (p37 _) ?_
  rw[←he37] at hst
  refine ah E E (gt (o:=5) LB E (by kernel_rfl) E) (aj E E (ai Ly E (q37.at (j:=5) E)) ?_)
  refine aV E E (aY Ly f37_2) (al (r:=I ((1+u.path.length+u.leaf.lems.length+u.leaf.pf.length+u.leaf.kids.length+Be (u.leaf.lems.take (i+1)):Nat):Int)) E E E (by have e:((1+u.path.length+u.leaf.lems.length+u.leaf.pf.length+u.leaf.kids.length+Be (u.leaf.lems.take (i+1)):Nat):Int)=((1+u.path.length+u.leaf.lems.length+u.leaf.pf.length+u.leaf.kids.length+Be (u.leaf.lems.take i):Nat):Int)+(e37.pf.length:Int):=(by omega);rw[e];exact aR (by omega) (by omega)) ?_)
  refine ac E E (ag (aW (ab (aa (ae E E (al (r:=I ((i+1:Nat):Int)) E E E (by have e:((i+1:Nat):Int)=(i:Int)+1:=(by omega);rw[e];exact aR (by omega) (by omega)) ?_))))))
  refine ac E E (ag ?_)
  refine bS (i+1) ⟨rfl,rfl,rfl,trivial⟩ ⟨eL,e1L,by omega⟩ (by omega)
 ·refine bc (aK (aK (bf (ab (af (aa (ae E E (ac E E (ag (ab (aw (au E E ?_))))))))))))
  exact⟨_,rfl,eL,by rw[List.take_of_length_le (by omega),←hzz]⟩
def nP (l:List cm):Nat:=(l.map sU).sum
theorem EY {l:List cm} {i:Nat} (hi:i<l.length):nP (l.take (i+1))=nP (l.take i)+sU l[i]:=by
 have e:l.take (i+1)=l.take i++[l[i]]:=by rw[List.take_add_one,List.getElem?_eq_getElem hi];rfl
 unfold nP
 rw[e,List.map_append,List.sum_append]
 simp
theorem EZ (l:List cm) (i:Nat):nP (l.take i)≤nP l:=by
 have h:nP l=nP (l.take i)+nP (l.drop i):=by
  conv=>lhs;rw[←List.take_append_drop i l]
  unfold nP
  rw[List.map_append,List.sum_append]
 omega
theorem zJ {w:World} {es:List cm} {v:Value} (hv:cd jR es v w) (hz:nP es≤4611686018427387904):
 Calls Tryz.prog 16 #[v] w (bN fun r w'=>aH w w'∧r=B (decide (nP es≤120))):=by
 refine enter (vs:=[v]) Tryz.func16 E E E ?_
 have hll:=hv.len
 refine af (aa (ac E E (ag (ab (af (aa (ac E E (ag (ab (af (af (aa (ac E E (ag (ab (aG ?_))))))))))))))))
 refine ck (α:=Nat) (fun i=>[(0,v),(3,I ((nP (es.take i):Nat):Int)),(4,I (i:Int))]) (fun i w'=>aH w w'∧i≤es.length) (fun i=>es.length-i) (0) ⟨rfl,rfl,rfl,trivial⟩ ⟨aH.refl _,by omega⟩ ?_
 rintro i wL ⟨eL,hi⟩
 refine af (af (aa (ae E E (ae E E (aV E E (aY LD (hv.ext eL)) (al E E E (a6) (ag (ab ?_))))))))
 refine bu E (fun h8=>?_) (fun h8=>?_)
 ·refine aC (ab (af (aG ?_)))
  have hst:=EY (l:=es) (i:=i) (by omega)
  have htk:=EZ es (i+1)
  refine aa (ae E E (ae E E (ae E E ?_)))
  obtain⟨a14,c14,p14,q14,h14⟩:=cb (P:=Tryz.prog) (sz:=10) LD (by kernel_rfl) bG (by omega) (hv.ext eL) (i:=i) (by omega) .i64
  obtain⟨e14,he14⟩:∃e,e=es[i]'(by omega):=⟨_,rfl⟩
  rw[←he14] at h14
  obtain⟨x14_0,x14_1,x14_2,x14_3,x14_4,x14_5,rfl,f14_0,f14_1,f14_2,f14_3,f14_4,f14_5⟩:=nh h14
  refine ar E E E (p14 _) ?_
  rw[←he14] at hst
  refine aj E E (q14.ld Lr E (by kernel_rfl)) (an zG E E ((zI (u:=e14) f14_0 f14_1 f14_2 f14_3 f14_4 f14_5 (by omega))) ?_)
  rintro v16 w16 ⟨x16,rfl⟩
  refine al (r:=I ((nP (es.take (i+1)):Nat):Int)) E E E (by have e:((nP (es.take (i+1)):Nat):Int)=((nP (es.take i):Nat):Int)+((sU e14:Nat):Int):=(by omega);rw[e];exact aR (by omega) (by omega)) ?_
  refine ac E E (ag (aW (ab (aa (ae E E (al (r:=I ((i+1:Nat):Int)) E E E (by have e:((i+1:Nat):Int)=(i:Int)+1:=(by omega);rw[e];exact aR (by omega) (by omega)) ?_))))))
  refine ac E E (ag ?_)
  refine bS (i+1) ⟨rfl,rfl,rfl,trivial⟩ ⟨(eL.trans x16),by omega⟩ (by omega)
 ·refine bc (aK (aK (bf (ab (af (aa (ae E E (al E E E (CK) (ac E E (ag (ab (aw (au E E ?_)))))))))))))
  exact⟨_,rfl,eL,by
   rw[List.take_of_length_le (by omega)]
   exact congrArg B (decide_eq_decide.2 (by omega))⟩
end Go.Rl
namespace Go.Rl
open Go.RowKit Go.Proofs
theorem qw:aJ Tryz.prog 108:=⟨_,Tryz.func108,by kernel_rfl,rfl⟩
structure lS (w0 w:World) (g:Nat) (ids:List Nat) (s:bj) (a b:JT) (x y:Value) (g1 g2:Nat) (i1 i2:List Nat) (w':World):Prop where
 mv:Mv (fun k=>k=g) w w'
 hx:bk s.at_.2.1 x w0
 hy:bk s.at_.2.2 y w0
 blk:bQ g 114 (iY s x y (nk g1) (nk g2) fF) w'
 k1:jq w0 w' g1 a i1
 k2:jq w0 w' g2 b i2
 n1:g∉i1
 n2:g∉i2
 n3:∀k∈i1,k∉i2
 fresh:∀k,k∈i1∨k∈i2→k∈ids∨w.heap.size≤k
 young:w0.heap.size≤g
theorem lS.ext {w0 w w' w'':World} {g:Nat} {ids:List Nat} {s:bj} {a b:JT} {x y:Value} {g1 g2:Nat} {i1 i2:List Nat} (h:lS w0 w g ids s a b x y g1 g2 i1 i2 w') (e:aH w' w''):lS w0 w g ids s a b x y g1 g2 i1 i2 w'':=
 ⟨h.mv.trans (Mv.of_ext (X:=fun k=>k=g) e) fun _ hk _=>hk,h.hx,h.hy,h.blk.ext e,h.k1.mv (Mv.of_ext (X:=fun _=>False) e) (fun _ _ h=>h),h.k2.mv (Mv.of_ext (X:=fun _=>False) e) (fun _ _ h=>h),h.n1,h.n2,h.n3,h.fresh,h.young⟩
def Lf (w0 w:World) (g:Nat) (d:bj) (t:JT) (ids:List Nat) (r:Value) (w':World):Prop:=
 (∃n,t=.leaf n∧aH w w'∧r=.tuple #[fF,B false])∨
 ∃s a b x y g1 g2 i1 i2,qr d t=.split s a b∧lS w0 w g ids s a b x y g1 g2 i1 i2 w'∧r=if s=d then .tuple #[nk g1,B true] else if be s=d then .tuple #[nk g2,B true] else .tuple #[fF,B false]
theorem zK {w0 w:World} {g:Nat} {ids:List Nat} (h:jq w0 w g .gap ids):ids=[g]∧bQ g 114 (iY lL (.slice none 0 0) (.slice none 0 0) fF fF fF) w:=h.at_
theorem tY {w0 w:World} {g:Nat} {ids:List Nat} {n:aP} (h:jq w0 w g (.leaf n) ids):∃k cs,ids=[g,k]∧bQ g 114 (iY lL (.slice none 0 0) (.slice none 0 0) fF fF (nk k)) w∧bQ k 52 cs w∧Rp w0 (bh n) cs:=h.at_
theorem jq.root {w0 w:World} {g:Nat} {t:JT} {ids:List Nat} (h:jq w0 w g t ids):g∈ids:=by
 cases t with
 |gap=>rw[(zK h).1];simp
 |leaf n=>obtain⟨_,_,h1,_⟩:=tY h;rw[h1];simp
 |split s a b=>obtain⟨_,_,_,_,_,_,h1,_⟩:=h.split_inv;rw[h1];simp
theorem JT.shape (t:JT):t=.gap∨(∃n,t=.leaf n)∨∃s a b,t=.split s a b:=by
 cases t with
 |gap=>exact .inl rfl
 |leaf n=>exact .inr (.inl ⟨n,rfl⟩)
 |split s a b=>exact .inr (.inr ⟨s,a,b,rfl⟩)
theorem Kg {w:World} {d:bj} {p q:Value} {k i:Int} (hp:bk d.at_.2.1 p w) (hq:bk d.at_.2.2 q w):ap [I k,I i,B d.at_.1,p,q]:=ap.cons rfl (ap.cons rfl (ap.cons rfl (ap.cons hp.one (ap.cons hq.one ap.nil))))
theorem qx {w0 w:World} {g:Nat} {t:JT} {ids:List Nat} {d:bj} {p q:Value} (e0:aH w0 w) (ho:zQ w0) (hJ:jq w0 w g t ids) (hp:bk d.at_.2.1 p w0) (hq:bk d.at_.2.2 q w0):
 Calls Tryz.prog 108 #[.pointer (some ⟨g,0,none⟩),.agg #[I d.kd,I d.ix,B d.at_.1,p,q]] w (bN fun r w'=>Lf w0 w g d t ids r w'):=by
 have hg:w0.heap.size≤g:=hJ.young g hJ.root
 have hgl:g<w.heap.size:=hJ.lt g hJ.root
 refine enter (vs:=[.pointer (some ⟨g,0,none⟩),.agg #[I d.kd,I d.ix,B d.at_.1,p,q]]) Tryz.func108 E E E ?_
 refine af (aa ?_)
 obtain⟨g3,w3,hr3,l3,x3,k3⟩:=cq (P:=Tryz.prog) (w:=w) (T:=48) (cs:=[I d.kd,I d.ix,B d.at_.1,p,q])
 refine cw E E hr3 (ac E E (ac E E (ag (ab (af (af ?_))))))
 have hg3:g≠g3:=by omega
 have hJ2:=hJ
 rcases t.shape with ht|⟨n,ht⟩|⟨s,a,b,ht⟩
 ·rw[ht] at hJ2
  obtain⟨hid,kg⟩:=zK hJ2
  have kg3:=kg.ext x3
  refine aa (ae E E (aE E E (ah E E (av (o:=7) LC E (by kernel_rfl) E) (aj E E (ai LI E (kg3.cell (i:=7) E)) ?_))))
  refine al E E E (gE LI) (ag (ab (cN E (aC (ab (af ?_))))))
  refine ew (fun(x:bj×JT×JT×Value×Value×Nat×Nat×List Nat×List Nat)=>[(0,.pointer (some ⟨g,0,none⟩)),(3,.pointer (some ⟨g3,0,none⟩))]) (fun x w'=>qr d t=.split x.1 x.2.1 x.2.2.1∧lS w0 w g ids x.1 x.2.1 x.2.2.1 x.2.2.2.1 x.2.2.2.2.1 x.2.2.2.2.2.1 x.2.2.2.2.2.2.1 x.2.2.2.2.2.2.2.1 x.2.2.2.2.2.2.2.2 w'∧bQ g3 48 [I d.kd,I d.ix,B d.at_.1,p,q] w'∧aH w0 w') ?_ ?_
  ·refine af (aa (ae E E (aE E E (ah E E (av (o:=5) LC E (by kernel_rfl) E) ?_))))
   refine ar E E E (iz LM (by kernel_rfl) (i:=0) (by omega) .i64) ?_
   refine aj E E (ai LG E (kg3.cell (i:=5) E)) (al E E E (fT LG) (ag ?_))
   refine ab (bm E (af (aa (ae E E (aj E E (k3.ld Lm E (by kernel_rfl)) (aE E E (ah E E (av (o:=0) LC E (by kernel_rfl) E) ?_)))))))
   obtain⟨w4,s4,q4,k4⟩:=bQ.stO (P:=Tryz.prog) (t:=48) (m:=[I d.kd,I d.ix,B d.at_.1,p,q]) kg3 0 (by show 0+5≤8;omega) (by kernel_rfl) (Kg hp hq)
   refine ay E E s4 ?_
   have y4:=aH.of_new (e0.trans x3) q4 hg
   have m4:=(Mv.of_ext (X:=fun k=>k=g) x3).trans (Mv.of_grown (X:=fun k=>k=g) q4 fun k hk _=>(Option.some.inj hk).symm) fun _ hk _=>hk
   have k3b:=k3.other q4 (fun e=>hg3 (Option.some.inj e).symm)
   refine ag (ab (af (af (aa (ah E E (av (o:=0) Lm E (by kernel_rfl) E) (aj E E (ai Lo E (k3b.cell (i:=0) E)) ?_))))))
   refine al E E E (bo) (ae E E ?_)
   refine ci (fun h24=>?_) (fun h24=>?_)
   ·refine am E E E (am E E E (am E E E (aq E E E (ag (ab (bm E (aa (ae E E (aj E E (k3b.ld Lm E (by kernel_rfl)) ?_)))))))))
    refine an iV E E ((iW (ho.ext y4) (hp.ext y4) (hq.ext y4))) ?_
    rintro v31 w31 ⟨x31,rfl⟩
    refine aE E E (ah E E (av (o:=0) LC E (by kernel_rfl) E) ?_)
    obtain⟨w6,s6,q6,k6⟩:=bQ.stO (P:=Tryz.prog) (t:=48) (m:=[I (be d).kd,I (be d).ix,B (be d).at_.1,p,q]) (k4.ext x31) 0 (by show 0+5≤8;omega) (by kernel_rfl) (Kg hp hq)
    refine ay E E s6 ?_
    have y6:=aH.of_new (y4.trans x31) q6 hg
    have m6:=(m4.trans (Mv.of_ext (X:=fun k=>k=g) x31) fun _ hk _=>hk).trans (Mv.of_grown (X:=fun k=>k=g) q6 fun k hk _=>(Option.some.inj hk).symm) fun _ hk _=>hk
    have k3c:=(k3b.ext x31).other q6 (fun e=>hg3 (Option.some.inj e).symm)
    have hn:rE d=be d:=if_pos (by first|exact .inl h24|exact .inr h28)
    have kS:bQ g 114 (iY (rE d) p q fF fF fF) w6:=by rw[hn];exact k6
    refine ag (ab (aa (ae E E (bC (vs:=[]) (r:=.agg #[I 0,I 0,B false,.slice none 0 0,.slice none 0 0,.pointer none,.pointer none,.pointer none]) E E (by exact run_build _ _ _ _ (by kernel_rfl)) ?_))))
    obtain⟨g36,w36,hr36,l36,x36,k36⟩:=cq (P:=Tryz.prog) (w:=w6) (T:=114) (cs:=[I 0,I 0,B false,.slice none 0 0,.slice none 0 0,.pointer none,.pointer none,.pointer none])
    refine cw E E hr36 (bC (vs:=[]) (r:=.agg #[I 0,I 0,B false,.slice none 0 0,.slice none 0 0,.pointer none,.pointer none,.pointer none]) E E (by exact run_build _ _ _ _ (by kernel_rfl)) ?_)
    obtain⟨g38,w38,hr38,l38,x38,k38⟩:=cq (P:=Tryz.prog) (w:=w36) (T:=114) (cs:=[I 0,I 0,B false,.slice none 0 0,.slice none 0 0,.pointer none,.pointer none,.pointer none])
    refine cw E E hr38 ?_
    refine bC (vs:=[(0,.pointer (some ⟨g36,0,none⟩)),(1,.pointer (some ⟨g38,0,none⟩))]) (r:=.agg #[.pointer (some ⟨g36,0,none⟩),.pointer (some ⟨g38,0,none⟩)]) E E (run_build _ _ _ #[.pointer (some ⟨g36,0,none⟩),.pointer (some ⟨g38,0,none⟩)] (by kernel_rfl)) ?_
    refine aE E E (ah E E (av (o:=5) LC E (by kernel_rfl) E) ?_)
    obtain⟨w7,s7,q7,k7⟩:=bQ.stO (P:=Tryz.prog) (t:=111) (m:=[.pointer (some ⟨g36,0,none⟩),.pointer (some ⟨g38,0,none⟩)]) (kS.ext (x36.trans x38)) 5 (by show 5+2≤8;omega) (by kernel_rfl) (ap.cons rfl (ap.cons rfl ap.nil))
    refine ay E E s7 ?_
    have y7:=aH.of_new (y6.trans (x36.trans x38)) q7 hg
    have m7:=(m6.trans (Mv.of_ext (X:=fun k=>k=g) (x36.trans x38)) fun _ hk _=>hk).trans (Mv.of_grown (X:=fun k=>k=g) q7 fun k hk _=>(Option.some.inj hk).symm) fun _ hk _=>hk
    have sz6:=m6.size
    have sz0:=e0.size
    have lt36:=k36.lt
    have G1:w0.heap.size≤g36:=by omega
    have G2:w0.heap.size≤g38:=by omega
    have N1:g∉[g36]:=by simp;omega
    have N2:g∉[g38]:=by simp;omega
    have N3:∀k∈[g36],k∉[g38]:=by simp;omega
    have FR:∀k,k∈[g36]∨k∈[g38]→k∈ids∨w.heap.size≤k:=fun k hk=>.inr (by simp at hk;omega)
    have k3d:=(k3c.ext (x36.trans x38)).other q7 (fun e=>hg3 (Option.some.inj e).symm)
    have k36b:=(k36.ext x38).other q7 (fun e=>by have:=Option.some.inj e;omega)
    have k38b:=k38.other q7 (fun e=>by have:=Option.some.inj e;omega)
    refine ag ?_
    exact cf (rE d,.gap,.gap,p,q,g36,g38,[g36],[g38]) ⟨rfl,rfl,trivial⟩ ⟨by rw[ht];rfl,⟨m7,by rw[hn];exact hp,by rw[hn];exact hq,k7,jq.gap k36b G1,jq.gap k38b G2,N1,N2,N3,FR,hg⟩,k3d,y7⟩
   ·refine ak E (ah E E (av (o:=0) Lm E (by kernel_rfl) E) (ak E (aj E E (ai Lo E (k3b.cell (i:=0) E)) ?_)))
    refine ak E (al E E E (bo) (aI E E E (ag (ab ?_))))
    refine bu E (fun h28=>?_) (fun h28=>?_)
    ·refine aa (ae E E (aj E E (k3b.ld Lm E (by kernel_rfl)) (an iV E E ((iW (ho.ext y4) (hp.ext y4) (hq.ext y4))) ?_)))
     rintro v31 w31 ⟨x31,rfl⟩
     refine aE E E (ah E E (av (o:=0) LC E (by kernel_rfl) E) ?_)
     obtain⟨w6,s6,q6,k6⟩:=bQ.stO (P:=Tryz.prog) (t:=48) (m:=[I (be d).kd,I (be d).ix,B (be d).at_.1,p,q]) (k4.ext x31) 0 (by show 0+5≤8;omega) (by kernel_rfl) (Kg hp hq)
     refine ay E E s6 ?_
     have y6:=aH.of_new (y4.trans x31) q6 hg
     have m6:=(m4.trans (Mv.of_ext (X:=fun k=>k=g) x31) fun _ hk _=>hk).trans (Mv.of_grown (X:=fun k=>k=g) q6 fun k hk _=>(Option.some.inj hk).symm) fun _ hk _=>hk
     have k3c:=(k3b.ext x31).other q6 (fun e=>hg3 (Option.some.inj e).symm)
     have hn:rE d=be d:=if_pos (by first|exact .inl h24|exact .inr h28)
     have kS:bQ g 114 (iY (rE d) p q fF fF fF) w6:=by rw[hn];exact k6
     refine ag (ab (aa (ae E E (bC (vs:=[]) (r:=.agg #[I 0,I 0,B false,.slice none 0 0,.slice none 0 0,.pointer none,.pointer none,.pointer none]) E E (by exact run_build _ _ _ _ (by kernel_rfl)) ?_))))
     obtain⟨g36,w36,hr36,l36,x36,k36⟩:=cq (P:=Tryz.prog) (w:=w6) (T:=114) (cs:=[I 0,I 0,B false,.slice none 0 0,.slice none 0 0,.pointer none,.pointer none,.pointer none])
     refine cw E E hr36 (bC (vs:=[]) (r:=.agg #[I 0,I 0,B false,.slice none 0 0,.slice none 0 0,.pointer none,.pointer none,.pointer none]) E E (by exact run_build _ _ _ _ (by kernel_rfl)) ?_)
     obtain⟨g38,w38,hr38,l38,x38,k38⟩:=cq (P:=Tryz.prog) (w:=w36) (T:=114) (cs:=[I 0,I 0,B false,.slice none 0 0,.slice none 0 0,.pointer none,.pointer none,.pointer none])
     refine cw E E hr38 ?_
     refine bC (vs:=[(0,.pointer (some ⟨g36,0,none⟩)),(1,.pointer (some ⟨g38,0,none⟩))]) (r:=.agg #[.pointer (some ⟨g36,0,none⟩),.pointer (some ⟨g38,0,none⟩)]) E E (run_build _ _ _ #[.pointer (some ⟨g36,0,none⟩),.pointer (some ⟨g38,0,none⟩)] (by kernel_rfl)) ?_
     refine aE E E (ah E E (av (o:=5) LC E (by kernel_rfl) E) ?_)
     obtain⟨w7,s7,q7,k7⟩:=bQ.stO (P:=Tryz.prog) (t:=111) (m:=[.pointer (some ⟨g36,0,none⟩),.pointer (some ⟨g38,0,none⟩)]) (kS.ext (x36.trans x38)) 5 (by show 5+2≤8;omega) (by kernel_rfl) (ap.cons rfl (ap.cons rfl ap.nil))
     refine ay E E s7 ?_
     have y7:=aH.of_new (y6.trans (x36.trans x38)) q7 hg
     have m7:=(m6.trans (Mv.of_ext (X:=fun k=>k=g) (x36.trans x38)) fun _ hk _=>hk).trans (Mv.of_grown (X:=fun k=>k=g) q7 fun k hk _=>(Option.some.inj hk).symm) fun _ hk _=>hk
     have sz6:=m6.size
     have sz0:=e0.size
     have lt36:=k36.lt
     have G1:w0.heap.size≤g36:=by omega
     have G2:w0.heap.size≤g38:=by omega
     have N1:g∉[g36]:=by simp;omega
     have N2:g∉[g38]:=by simp;omega
     have N3:∀k∈[g36],k∉[g38]:=by simp;omega
     have FR:∀k,k∈[g36]∨k∈[g38]→k∈ids∨w.heap.size≤k:=fun k hk=>.inr (by simp at hk;omega)
     have k3d:=(k3c.ext (x36.trans x38)).other q7 (fun e=>hg3 (Option.some.inj e).symm)
     have k36b:=(k36.ext x38).other q7 (fun e=>by have:=Option.some.inj e;omega)
     have k38b:=k38.other q7 (fun e=>by have:=Option.some.inj e;omega)
     refine ag ?_
     exact cf (rE d,.gap,.gap,p,q,g36,g38,[g36],[g38]) ⟨rfl,rfl,trivial⟩ ⟨by rw[ht];rfl,⟨m7,by rw[hn];exact hp,by rw[hn];exact hq,k7,jq.gap k36b G1,jq.gap k38b G2,N1,N2,N3,FR,hg⟩,k3d,y7⟩
    ·have hn:rE d=d:=if_neg (by rintro(h|h);exact h24 h;exact h28 h)
     have kS:bQ g 114 (iY (rE d) p q fF fF fF) w4:=by rw[hn];exact k4
     have y6:=y4
     have m6:=m4
     have k3c:=k3b
     refine aC (ab (aa (ae E E (bC (vs:=[]) (r:=.agg #[I 0,I 0,B false,.slice none 0 0,.slice none 0 0,.pointer none,.pointer none,.pointer none]) E E (by exact run_build _ _ _ _ (by kernel_rfl)) ?_))))
     obtain⟨g36,w36,hr36,l36,x36,k36⟩:=cq (P:=Tryz.prog) (w:=w4) (T:=114) (cs:=[I 0,I 0,B false,.slice none 0 0,.slice none 0 0,.pointer none,.pointer none,.pointer none])
     refine cw E E hr36 (bC (vs:=[]) (r:=.agg #[I 0,I 0,B false,.slice none 0 0,.slice none 0 0,.pointer none,.pointer none,.pointer none]) E E (by exact run_build _ _ _ _ (by kernel_rfl)) ?_)
     obtain⟨g38,w38,hr38,l38,x38,k38⟩:=cq (P:=Tryz.prog) (w:=w36) (T:=114) (cs:=[I 0,I 0,B false,.slice none 0 0,.slice none 0 0,.pointer none,.pointer none,.pointer none])
     refine cw E E hr38 ?_
     refine bC (vs:=[(0,.pointer (some ⟨g36,0,none⟩)),(1,.pointer (some ⟨g38,0,none⟩))]) (r:=.agg #[.pointer (some ⟨g36,0,none⟩),.pointer (some ⟨g38,0,none⟩)]) E E (run_build _ _ _ #[.pointer (some ⟨g36,0,none⟩),.pointer (some ⟨g38,0,none⟩)] (by kernel_rfl)) ?_
     refine aE E E (ah E E (av (o:=5) LC E (by kernel_rfl) E) ?_)
     obtain⟨w7,s7,q7,k7⟩:=bQ.stO (P:=Tryz.prog) (t:=111) (m:=[.pointer (some ⟨g36,0,none⟩),.pointer (some ⟨g38,0,none⟩)]) (kS.ext (x36.trans x38)) 5 (by show 5+2≤8;omega) (by kernel_rfl) (ap.cons rfl (ap.cons rfl ap.nil))
     refine ay E E s7 ?_
     have y7:=aH.of_new (y6.trans (x36.trans x38)) q7 hg
     have m7:=(m6.trans (Mv.of_ext (X:=fun k=>k=g) (x36.trans x38)) fun _ hk _=>hk).trans (Mv.of_grown (X:=fun k=>k=g) q7 fun k hk _=>(Option.some.inj hk).symm) fun _ hk _=>hk
     have sz6:=m6.size
     have sz0:=e0.size
     have lt36:=k36.lt
     have G1:w0.heap.size≤g36:=by omega
     have G2:w0.heap.size≤g38:=by omega
     have N1:g∉[g36]:=by simp;omega
     have N2:g∉[g38]:=by simp;omega
     have N3:∀k∈[g36],k∉[g38]:=by simp;omega
     have FR:∀k,k∈[g36]∨k∈[g38]→k∈ids∨w.heap.size≤k:=fun k hk=>.inr (by simp at hk;omega)
     have k3d:=(k3c.ext (x36.trans x38)).other q7 (fun e=>hg3 (Option.some.inj e).symm)
     have k36b:=(k36.ext x38).other q7 (fun e=>by have:=Option.some.inj e;omega)
     have k38b:=k38.other q7 (fun e=>by have:=Option.some.inj e;omega)
     refine ag ?_
     exact cf (rE d,.gap,.gap,p,q,g36,g38,[g36],[g38]) ⟨rfl,rfl,trivial⟩ ⟨by rw[ht];rfl,⟨m7,by rw[hn];exact hp,by rw[hn];exact hq,k7,jq.gap k36b G1,jq.gap k38b G2,N1,N2,N3,FR,hg⟩,k3d,y7⟩
  rintro⟨s,a,b,x,y,g1,g2,i1,i2⟩ wC ⟨hop,hM,k3C,eC⟩
  refine ab (af (aG (af ?_)))
  have hm0:=hM.mv
  dsimp only at hop hM k3C
  have kC:bQ g 114 [I s.kd,I s.ix,B s.at_.1,x,y,.pointer (some ⟨g1,0,none⟩),.pointer (some ⟨g2,0,none⟩),.pointer none] wC:=hM.blk
  have sx:=hM.hx
  have sy:=hM.hy
  refine bP 6 [0,3,48] (by kernel_rfl) (by kernel_rfl) ?_
  refine ax rfl rfl (dz rfl rfl (aX rfl rfl (fun w hw=>av (o:=0) Tryz.underlying114 rfl (by kernel_rfl) rfl) (aQ rfl rfl (fun w hw=>(kC.ext hw).ldO (ms:=[I s.kd,I s.ix,B s.at_.1,x,y]) (o:=0) (fun j v hj=>by rcases j with _|_|_|_|_|_|_|_|_|j<;>simp_all) Tryz.underlying48 rfl (by kernel_rfl)) ?_)))
  refine aQ rfl rfl (fun w hw=>(k3C.ext hw).ld Lm rfl (by kernel_rfl)) (ce (S:=Is (B (decide (s=d)))) nt (bO.is _) rfl (fun w hw=>by rintro _ rfl _ rfl;exact bN.mono (nu (a:=s) (b:=d) ((sx.ext eC).ext hw) ((sy.ext eC).ext hw) ((hp.ext eC).ext hw) ((hq.ext eC).ext hw)) fun v w' h=>⟨h.1,h.2⟩) ?_)
  refine cn ?_
  intro wg8 xg8
  rintro _ rfl
  rintro _ rfl
  rintro _ rfl
  refine ac E E (ag (ab ?_))
  refine fJ E (fun h42=>?_) (fun h42=>?_)
  ·refine af (aa (ae E E (aE E E (ah E E (av (o:=5) LC E (by kernel_rfl) E) ?_))))
   refine ar E E E (iz LM (by kernel_rfl) (i:=0) (by omega) .i64) ?_
   refine aj E E (ai LG E ((kC.ext xg8).cell (i:=5) E)) (ac E E (ac E E (ag (ab (aw (ba (az ?_)))))))
   refine bt E E E ?_
   exact⟨_,rfl,.inr ⟨s,a,b,x,y,g1,g2,i1,i2,hop,hM.ext xg8,by rw[if_pos (of_decide_eq_true h42)];rfl⟩⟩
  ·refine af (bP 7 [0,61] (by kernel_rfl) (by kernel_rfl) ?_)
   refine ax rfl rfl (dz rfl rfl (aX rfl rfl (fun w hw=>av (o:=0) Tryz.underlying114 rfl (by kernel_rfl) rfl) (aQ rfl rfl (fun w hw=>((kC.ext xg8).ext hw).ldO (ms:=[I s.kd,I s.ix,B s.at_.1,x,y]) (o:=0) (fun j v hj=>by rcases j with _|_|_|_|_|_|_|_|_|j<;>simp_all) Tryz.underlying48 rfl (by kernel_rfl)) ?_)))
   refine ce (S:=Is (.agg #[I (be s).kd,I (be s).ix,B (be s).at_.1,x,y])) iV (bO.is _) rfl (fun w hw=>by rintro _ rfl;exact bN.mono (iW (d:=s) ((ho.ext (eC.trans xg8)).ext hw) ((sx.ext (eC.trans xg8)).ext hw) ((sy.ext (eC.trans xg8)).ext hw)) fun v w' h=>⟨h.1,h.2⟩) ?_
   refine aQ rfl rfl (fun w hw=>((k3C.ext xg8).ext hw).ld Lm rfl (by kernel_rfl)) (ce (S:=Is (B (decide (be s=d)))) nt (bO.is _) rfl (fun w hw=>by rintro _ rfl _ rfl;exact bN.mono (nu (a:=be s) (b:=d) ((sx.ext (eC.trans xg8)).ext hw) ((sy.ext (eC.trans xg8)).ext hw) ((hp.ext (eC.trans xg8)).ext hw) ((hq.ext (eC.trans xg8)).ext hw)) fun v w' h=>⟨h.1,h.2⟩) ?_)
   refine cn ?_
   intro wg10 xg10
   rintro _ rfl
   rintro _ rfl
   refine ac E E (ag (ab ?_))
   refine fJ E (fun h54=>?_) (fun h54=>?_)
   ·refine af (aa (ae E E (aE E E (ah E E (av (o:=5) LC E (by kernel_rfl) E) ?_))))
    refine ar E E E (iz LM (by kernel_rfl) (i:=1) (by omega) .i64) ?_
    refine aj E E (ai LG E ((kC.ext (xg8.trans xg10)).cell (i:=6) E)) (ac E E (ac E E (ag (ab (aw ?_)))))
    refine ba (az (bt E E E ?_))
    exact⟨_,rfl,.inr ⟨s,a,b,x,y,g1,g2,i1,i2,hop,hM.ext (xg8.trans xg10),by rw[if_neg (of_decide_eq_false h42),if_pos (of_decide_eq_true h54)];rfl⟩⟩
   ·refine aC (aW (ab (af (aa (ac E E (ac E E (ag (ab (aw (bt E E E ?_))))))))))
    exact⟨_,rfl,.inr ⟨s,a,b,x,y,g1,g2,i1,i2,hop,hM.ext (xg8.trans xg10),by rw[if_neg (of_decide_eq_false h42),if_neg (of_decide_eq_false h54)];rfl⟩⟩
 ·rw[ht] at hJ2
  obtain⟨gl,cl,hid,kg,kl,hrl⟩:=tY hJ2
  have kg3:=kg.ext x3
  refine aa (ae E E (aE E E (ah E E (av (o:=7) LC E (by kernel_rfl) E) (aj E E (ai LI E (kg3.cell (i:=7) E)) ?_))))
  refine al E E E (gE LI) (ag (ab (bm E (af (aa (ac E E (ac E E (ag (ab (aw (az (bt E E E ?_))))))))))))
  exact⟨_,rfl,.inl ⟨n,ht,x3,rfl⟩⟩
 ·obtain⟨x,y,g1,g2,i1,i2,hid,hx,hy,kg,j1,j2,_,n1,n2,n3⟩:=(show jq w0 w g (.split s a b) ids from ht▸hJ2).split_inv
  have kg3:=kg.ext x3
  refine aa (ae E E (aE E E (ah E E (av (o:=7) LC E (by kernel_rfl) E) (aj E E (ai LI E (kg3.cell (i:=7) E)) ?_))))
  refine al E E E (gE LI) (ag (ab (cN E (aC (ab (af ?_))))))
  refine ew (fun(x:bj×JT×JT×Value×Value×Nat×Nat×List Nat×List Nat)=>[(0,.pointer (some ⟨g,0,none⟩)),(3,.pointer (some ⟨g3,0,none⟩))]) (fun x w'=>qr d t=.split x.1 x.2.1 x.2.2.1∧lS w0 w g ids x.1 x.2.1 x.2.2.1 x.2.2.2.1 x.2.2.2.2.1 x.2.2.2.2.2.1 x.2.2.2.2.2.2.1 x.2.2.2.2.2.2.2.1 x.2.2.2.2.2.2.2.2 w'∧bQ g3 48 [I d.kd,I d.ix,B d.at_.1,p,q] w'∧aH w0 w') ?_ ?_
  ·refine af (aa (ae E E (aE E E (ah E E (av (o:=5) LC E (by kernel_rfl) E) ?_))))
   refine ar E E E (iz LM (by kernel_rfl) (i:=0) (by omega) .i64) ?_
   refine aj E E (ai LG E (kg3.cell (i:=5) E)) (al E E E (fT LG) (ag ?_))
   refine ab (cN E (aC ?_))
   exact cf (s,a,b,x,y,g1,g2,i1,i2) ⟨rfl,rfl,trivial⟩ ⟨by rw[ht];rfl,lS.ext ⟨Mv.refl _ _,hx,hy,kg,j1,j2,n1,n2,n3,fun k hk=>.inl (by rw[hid];simp only[List.mem_cons,List.mem_append];exact .inr hk),hg⟩ x3,k3,e0.trans x3⟩
  rintro⟨s,a,b,x,y,g1,g2,i1,i2⟩ wC ⟨hop,hM,k3C,eC⟩
  refine ab (af (aG (af ?_)))
  have hm0:=hM.mv
  dsimp only at hop hM k3C
  have kC:bQ g 114 [I s.kd,I s.ix,B s.at_.1,x,y,.pointer (some ⟨g1,0,none⟩),.pointer (some ⟨g2,0,none⟩),.pointer none] wC:=hM.blk
  have sx:=hM.hx
  have sy:=hM.hy
  refine bP 6 [0,3,48] (by kernel_rfl) (by kernel_rfl) ?_
  refine ax rfl rfl (dz rfl rfl (aX rfl rfl (fun w hw=>av (o:=0) Tryz.underlying114 rfl (by kernel_rfl) rfl) (aQ rfl rfl (fun w hw=>(kC.ext hw).ldO (ms:=[I s.kd,I s.ix,B s.at_.1,x,y]) (o:=0) (fun j v hj=>by rcases j with _|_|_|_|_|_|_|_|_|j<;>simp_all) Tryz.underlying48 rfl (by kernel_rfl)) ?_)))
  refine aQ rfl rfl (fun w hw=>(k3C.ext hw).ld Lm rfl (by kernel_rfl)) (ce (S:=Is (B (decide (s=d)))) nt (bO.is _) rfl (fun w hw=>by rintro _ rfl _ rfl;exact bN.mono (nu (a:=s) (b:=d) ((sx.ext eC).ext hw) ((sy.ext eC).ext hw) ((hp.ext eC).ext hw) ((hq.ext eC).ext hw)) fun v w' h=>⟨h.1,h.2⟩) ?_)
  refine cn ?_
  intro wg8 xg8
  rintro _ rfl
  rintro _ rfl
  rintro _ rfl
  refine ac E E (ag (ab ?_))
  refine fJ E (fun h42=>?_) (fun h42=>?_)
  ·refine af (aa (ae E E (aE E E (ah E E (av (o:=5) LC E (by kernel_rfl) E) ?_))))
   refine ar E E E (iz LM (by kernel_rfl) (i:=0) (by omega) .i64) ?_
   refine aj E E (ai LG E ((kC.ext xg8).cell (i:=5) E)) (ac E E (ac E E (ag (ab (aw (ba (az ?_)))))))
   refine bt E E E ?_
   exact⟨_,rfl,.inr ⟨s,a,b,x,y,g1,g2,i1,i2,hop,hM.ext xg8,by rw[if_pos (of_decide_eq_true h42)];rfl⟩⟩
  ·refine af (bP 7 [0,61] (by kernel_rfl) (by kernel_rfl) ?_)
   refine ax rfl rfl (dz rfl rfl (aX rfl rfl (fun w hw=>av (o:=0) Tryz.underlying114 rfl (by kernel_rfl) rfl) (aQ rfl rfl (fun w hw=>((kC.ext xg8).ext hw).ldO (ms:=[I s.kd,I s.ix,B s.at_.1,x,y]) (o:=0) (fun j v hj=>by rcases j with _|_|_|_|_|_|_|_|_|j<;>simp_all) Tryz.underlying48 rfl (by kernel_rfl)) ?_)))
   refine ce (S:=Is (.agg #[I (be s).kd,I (be s).ix,B (be s).at_.1,x,y])) iV (bO.is _) rfl (fun w hw=>by rintro _ rfl;exact bN.mono (iW (d:=s) ((ho.ext (eC.trans xg8)).ext hw) ((sx.ext (eC.trans xg8)).ext hw) ((sy.ext (eC.trans xg8)).ext hw)) fun v w' h=>⟨h.1,h.2⟩) ?_
   refine aQ rfl rfl (fun w hw=>((k3C.ext xg8).ext hw).ld Lm rfl (by kernel_rfl)) (ce (S:=Is (B (decide (be s=d)))) nt (bO.is _) rfl (fun w hw=>by rintro _ rfl _ rfl;exact bN.mono (nu (a:=be s) (b:=d) ((sx.ext (eC.trans xg8)).ext hw) ((sy.ext (eC.trans xg8)).ext hw) ((hp.ext (eC.trans xg8)).ext hw) ((hq.ext (eC.trans xg8)).ext hw)) fun v w' h=>⟨h.1,h.2⟩) ?_)
   refine cn ?_
   intro wg10 xg10
   rintro _ rfl
   rintro _ rfl
   refine ac E E (ag (ab ?_))
   refine fJ E (fun h54=>?_) (fun h54=>?_)
   ·refine af (aa (ae E E (aE E E (ah E E (av (o:=5) LC E (by kernel_rfl) E) ?_))))
    refine ar E E E (iz LM (by kernel_rfl) (i:=1) (by omega) .i64) ?_
    refine aj E E (ai LG E ((kC.ext (xg8.trans xg10)).cell (i:=6) E)) (ac E E (ac E E (ag (ab (aw ?_)))))
    refine ba (az (bt E E E ?_))
    exact⟨_,rfl,.inr ⟨s,a,b,x,y,g1,g2,i1,i2,hop,hM.ext (xg8.trans xg10),by rw[if_neg (of_decide_eq_false h42),if_pos (of_decide_eq_true h54)];rfl⟩⟩
   ·refine aC (aW (ab (af (aa (ac E E (ac E E (ag (ab (aw (bt E E E ?_))))))))))
    exact⟨_,rfl,.inr ⟨s,a,b,x,y,g1,g2,i1,i2,hop,hM.ext (xg8.trans xg10),by rw[if_neg (of_decide_eq_false h42),if_neg (of_decide_eq_false h54)];rfl⟩⟩
end Go.Rl
namespace Go.Rl
open Go.RowKit Go.Proofs
def JT.gaps:JT→Nat
 |.gap=>1
 |.leaf _=>0
 |.split _ a b=>a.gaps+b.gaps
theorem jm:∀(t:JT) (p:List bj),(t.miss p).length=t.gaps
 |.gap,p=>rfl
 |.leaf n,p=>rfl
 |.split s a b,p=>by simp only[JT.miss,JT.gaps,List.length_append,jm a,jm b]
theorem sV (n:aP):∀(p:List bj) {t t':JT},gd n p t=some t'→t'.gaps≤t.gaps+p.length
 |[],.gap,t',h=>by simp only[gd,Option.some.injEq] at h;subst h;simp[JT.gaps]
 |[],.leaf m,t',h=>by simp only[gd,Option.some.injEq] at h;subst h;simp[JT.gaps]
 |[],.split _ _ _,t',h=>by simp[gd] at h
 |d::p,t,t',h=>by
  have key:∀s a b,qr d t=.split s a b→t'.gaps≤(qr d t).gaps+p.length:=fun s a b ho=>by
   simp only[gd,ho] at h
   rw[ho]
   split at h
   ·obtain⟨a',h1,rfl⟩:=Option.map_eq_some_iff.1 h
    have:=sV n p h1
    simp only[JT.gaps];omega
   ·split at h
    ·obtain⟨b',h1,rfl⟩:=Option.map_eq_some_iff.1 h
     have:=sV n p h1
     simp only[JT.gaps];omega
    ·cases h
  cases t with
  |gap=>
   have:=key _ _ _ rfl
   simp only[qr,JT.gaps] at this
   simp only[JT.gaps,List.length_cons];omega
  |leaf m=>simp[gd,qr] at h
  |split s a b=>
   have:=key _ _ _ rfl
   simp only[qr] at this
   simp only[List.length_cons];omega
def oT (p:List bj):Dt:=.sl (p.map c9)
theorem nw (p:List bj):(oT p).size=1:=rfl
theorem yb:(Tryz.prog.info? 41).map (fun i=>(i.zero,i.size,i.bytes))=some (some (.slice none 0 0),1,24):=by kernel_rfl
theorem Cu:(Tryz.prog.info? 52).map (fun i=>(i.zero,i.size))=some (some (.agg #[.slice none 0 0,I 0,I 0,B false,.slice none 0 0,.slice none 0 0,.slice none 0 0,B false,.slice none 0 0]),9):=by kernel_rfl
def YM (gm:Nat) (mv:Value) (k:Nat):Prop:=k=gm∨mv.ownBlock=some k
def AV (w0:World) (n gm:Nat) (mv:Value) (k:Nat):Prop:=YM gm mv k∨(w0.heap.size≤k∧k<n)
structure yc (w0 w:World) (F:Nat→Prop) (gm:Nat) (mv:Value) (ms:List (List bj)):Prop where
 cell:bQ gm 59 [mv] w
 own:dY 41 1 w0.heap.size (fun k=>k=gm∨F k) oT ms mv w
 ne:mv.ownBlock≠some gm
 young:w0.heap.size≤gm
section
variable {w0 w w':World} {gm g:Nat} {mv mv':Value} {ms:List (List bj)} {t:JT} {ids:List Nat} {F G:Nat→Prop}
theorem yc.ext (h:yc w0 w F gm mv ms) (e:aH w w'):yc w0 w' F gm mv ms:=⟨h.cell.ext e,h.own.ext e,h.ne,h.young⟩
theorem yc.weak (h:yc w0 w F gm mv ms) (hG:∀k,G k→F k∨w.heap.size≤k):yc w0 w G gm mv ms:=by
 obtain⟨h1,⟨n,xs,h2,h3⟩,h4,h5⟩:=h
 refine⟨h1,⟨n,xs,h2,h3.weak fun k hk=>?_⟩,h4,h5⟩
 rcases hk with(hk|hk)|hk
 ·exact .inl (.inl (.inl hk))
 ·exact(hG k hk).imp (fun h=>.inl (.inr h)) id
 ·exact .inl (.inr hk)
theorem yc.ym_young (h:yc w0 w F gm mv ms) {k:Nat} (hk:YM gm mv k):w0.heap.size≤k∧k<w.heap.size:=by
 rcases hk with rfl|hk
 ·exact⟨h.young,h.cell.lt⟩
 ·exact h.own.lt k hk
theorem yc.sto (h:yc w0 w F gm mv ms) (hm:Mv (fun k=>k=g) w w') (hg:F g) (hn:¬YM gm mv g):yc w0 w' F gm mv ms:=
 ⟨hm.blk h.cell fun e=>hn (.inl (Eq.symm e)),h.own.mv hm (fun k hk=>by have e:k=g:=hk;rw[e];exact .inr hg) fun k hk e=>hn (by have e':k=g:=e;rw[←e'];exact .inr hk),h.ne,h.young⟩
theorem jq.ext (h:jq w0 w g t ids) (e:aH w w'):jq w0 w' g t ids:=h.mv (Mv.of_ext (X:=fun _=>False) e) fun _ _ h=>h
def CvR (w0 w:World) (F:Nat→Prop) (gm:Nat) (mv:Value) (ms:List (List bj)) (t:JT) (path:List bj) (r:Value) (w':World):Prop:=
 ∃cs mv',r=.agg cs.toArray∧ap cs∧bZ (AV w0 w.heap.size gm mv') w' (bh t.node) cs∧yc w0 w' F gm mv' (ms++t.miss path)∧Mv (YM gm mv) w w'∧(∀k,mv'.ownBlock=some k→mv.ownBlock=some k∨w.heap.size≤k)
def Cv (w0:World) (t:JT):Prop:=∀(F:Nat→Prop) (w:World) (g:Nat) (ids:List Nat) (path:List bj) (pv:Value) (gm:Nat) (mv:Value) (ms:List (List bj)),(∀k,F k→w0.heap.size≤k∧k<w.heap.size)→aH w0 w→jq w0 w g t ids→yc w0 w F gm mv ms→(∀k∈ids,¬YM gm mv k)→bZ (fun k=>YM gm mv k∨F k) w (.sl (path.map c9)) [pv]→path.length+t.depth≤1073741824→ms.length+t.gaps≤1099511627776→
 Calls Tryz.prog 65 #[.pointer (some ⟨g,0,none⟩),pv,.pointer (some ⟨gm,0,none⟩)] w (bN fun r w'=>CvR w0 w F gm mv ms t path r w')
theorem tZ {X:Nat→Prop} {a1 a2:aP} {c1 c2:List Value} (ha1:bZ X w (bh a1) c1) (ha2:bZ X w (bh a2) c2) (hX:∀k,X k→k<w.heap.size):
 ∃r w',(Instr.buildSlice 49 2 (dy 0 [Value.agg c1.toArray,Value.agg c2.toArray]).toArray).run Tryz.prog w=.ok r w'∧aH w w'∧bZ X w' (.sl ([a1,a2].map bh)) [r]∧r.oneCell'=true:=by
 have hl1:c1.length=9:=by rw[ha1.len,bF]
 have hl2:c2.length=9:=by rw[ha2.len,bF]
 obtain⟨x,w1,h3,h4,h5,h6⟩:=uO (P:=Tryz.prog) (w:=w) (t:=49) Tryz.underlying49 Cu rfl (by omega) [c1,c2] (by simp[hl1,hl2]) (by simp) (by simp)
 have h7:bZ X w1 (.sl ([a1,a2].map bh)) [x]:=bZ.ofSl (sz:=9) (xs:=c1++c2) (by simpa using h5) (by simpa using aN.cons (ha1.ext h4) (aN.cons (b:=[]) (ha2.ext h4) aN.nil)) (by simp[bF]) (by omega) fun k hk hx=>by
  rw[h6] at hk
  have:=Option.some.inj hk
  have:=hX k hx
  omega
 obtain⟨A,n,c,rfl⟩:=h7.isSl
 exact⟨_,w1,by simpa using h3,h4,h7,rfl⟩
structure tE (w0 w:World) (F:Nat→Prop) (g7 gm:Nat) (mv mv1:Value) (ms:List (List bj)) (n:aP) (cs:List Value) (w':World):Prop where
 m:Mv (YM gm mv) w w'
 k7:bQ g7 52 cs w'
 ones:ap cs
 rp:bZ (AV w0 w.heap.size gm mv1) w' (bh n) cs
 st:yc w0 w' F gm mv1 ms
 own:∀k,mv1.ownBlock=some k→mv.ownBlock=some k∨w.heap.size≤k
 f7:w.heap.size≤g7
 n7:¬YM gm mv1 g7
variable {P:Program} {wc wd we:World} {g7:Nat} {cs z:List Value} {a:JT} {path:List bj} {mv1:Value} {r:Value}
theorem Fh {X:Nat→Prop} {n:aP} (h:bZ X w (bh n) cs):(Tryz.prog.info? 52).map (·.size)=some cs.length:=by
 rw[h.len,bF];kernel_rfl
theorem tE.late (e:aH w wc) (h1:ap cs) (hr:bZ (AV w0 wc.heap.size gm mv1) wd (bh a.node) cs) (hs:yc w0 wd F gm mv1 (ms++a.miss path)) (hm:Mv (YM gm mv) wc wd) (ho:∀k,mv1.ownBlock=some k→mv.ownBlock=some k∨wc.heap.size≤k) (ee:aH wd we) (l7:wd.heap.size≤g7) (k7:bQ g7 52 z we) (hz:z.length=9):
 ∃w',(Instr.storeAt 52 (.pointer (some ⟨g7,0,none⟩)) (.agg cs.toArray)).run Tryz.prog we=.ok () w'∧tE w0 w F g7 gm mv mv1 (ms++a.miss path) a.node cs w':=by
 obtain⟨w',s,q,k⟩:=k7.stS (P:=Tryz.prog) (t:=52) (m:=cs) (by rw[hz,hr.len,bF]) (Fh hr) h1
 have mq:Mv (fun k=>k=g7) we w':=Mv.of_grown q fun k hk _=>(Option.some.inj hk).symm
 have md:aH wd w':=(Mv.of_ext (X:=fun k=>k=g7) ee|>.trans mq fun _ h _=>h).ext fun k hk=>by have e:k=g7:=hk;omega
 have s1:=hm.size
 have s0:=e.size
 refine⟨w',s,((Mv.of_ext (X:=YM gm mv) e).trans hm fun _ h _=>h).trans (Mv.of_ext (X:=YM gm mv) md) fun _ h _=>h,k,h1,(hr.ext md).weak fun k hk=>.inl ?_,hs.ext md,fun k hk=>(ho k hk).imp id fun h=>Nat.le_trans s0 h,by omega,fun hy=>?_⟩
 ·rcases hk with hk|⟨hk1,hk2⟩
  ·exact .inl hk
  ·exact .inr ⟨hk1,by omega⟩
 ·have:=(hs.ym_young hy).2;omega
theorem tE.early (e:aH w wc) (h1:ap cs) (hr:bZ (AV w0 wc.heap.size gm mv1) wd (bh a.node) cs) (hs:yc w0 wd (fun k=>F k∨k=g7) gm mv1 (ms++a.miss path)) (hm:Mv (YM gm mv) wc wd) (ho:∀k,mv1.ownBlock=some k→mv.ownBlock=some k∨wc.heap.size≤k) (h0:w0.heap.size≤w.heap.size) (l7:w.heap.size≤g7) (hy:∀k,YM gm mv k→k<w.heap.size) (k7:bQ g7 52 z wc) (hz:z.length=9):
 ∃w',(Instr.storeAt 52 (.pointer (some ⟨g7,0,none⟩)) (.agg cs.toArray)).run Tryz.prog wd=.ok () w'∧tE w0 w F g7 gm mv mv1 (ms++a.miss path) a.node cs w':=by
 have hg7:=k7.lt
 have nm:¬YM gm mv g7:=fun h=>by have:=hy _ h;omega
 have n1:¬YM gm mv1 g7:=fun h=>by
  rcases h with h|h
  ·exact nm (.inl h)
  ·rcases ho _ h with h'|h'
   ·exact nm (.inr h')
   ·omega
 have k7d:=hm.blk k7 nm
 obtain⟨w',s,q,k⟩:=k7d.stS (P:=Tryz.prog) (t:=52) (m:=cs) (by rw[hz,hr.len,bF]) (Fh hr) h1
 have mq:Mv (fun k=>k=g7) wd w':=Mv.of_grown q fun k hk _=>(Option.some.inj hk).symm
 have s1:=hm.size
 have s0:=e.size
 have e7:∀k,(fun k=>k=g7) k→AV w0 wc.heap.size gm mv1 k:=fun k hk=>.inr (by have e:k=g7:=hk;omega)
 refine⟨w',s,((Mv.of_ext (X:=YM gm mv) e).trans hm fun _ h _=>h).trans mq fun k hk hlt=>?_,k,h1,?_,(hs.sto mq (.inr E) n1).weak fun k hk=>.inl (.inl hk),fun k hk=>(ho k hk).imp id fun h=>Nat.le_trans s0 h,l7,n1⟩
 ·have e:k=g7:=hk
  omega
 ·exact(hr.mv (mq.weak fun k hk _=>e7 k hk) fun _ h=>.inl h).weak fun k hk=>.inl (hk.imp id fun h=>⟨h.1,by omega⟩)
end
end Go.Rl
namespace Go.Rl
open Go.RowKit Go.Proofs
theorem gY:aJ Tryz.prog 65:=⟨_,Tryz.func65,by kernel_rfl,rfl⟩
theorem dY.low {e:TypeId} {sz base b2:Nat} {X:Nat→Prop} {α:Type} {f:α→Dt} {l:List α} {v:Value} {w:World} (h:dY e sz base X f l v w) (hb:b2≤base):dY e sz b2 X f l v w:=by
 obtain⟨n,xs,h1,h2⟩:=h
 exact⟨n,xs,ir h1 fun k hk=>Nat.le_trans hb (World.ownsRow.lt h1 k hk).1,h2⟩
theorem ft {w:World} {X:Nat→Prop} {l:List bj} {v:Value} (hv:bZ X w (.sl (l.map c9)) [v]) (hl:l.length≤1099511627776):
 Calls Tryz.prog 109 #[v] w (bN fun r w'=>aH w w'∧dY 48 5 w.heap.size X c9 l r w'):=by
 obtain⟨A,n,c,rfl⟩:=hv.isSl
 refine enter (vs:=[.slice A n c]) Tryz.func109 E E E ?_
 refine af (aa (ac E E (ag (ab (af (af (aa (ae E E (al E E E (yu Lu) (ag (ab ?_)))))))))))
 refine fJ E (fun h4=>?_) (fun h4=>?_)
 ·refine af (aa (ac E E (ag (ab (aw (az (au E E ?_)))))))
  have hA:A=none:=by simpa using h4
  have hnil:l=[]:=by
   have h:=hv.rp
   simp only[Rp,List.cons.injEq,Value.slice.injEq,and_true] at h
   obtain⟨_,n',c',⟨rfl,rfl,rfl⟩,h1,h2,_,h3,_⟩:=h
   have:=h3 hA
   exact List.eq_nil_of_length_eq_zero (by rw[List.length_map] at h1;omega)
  subst hnil
  exact⟨_,rfl,aH.refl _,dY.nil _⟩
 ·refine aC (ab (af (aa ?_)))
  obtain⟨v5,w5,hr5,x5,o5,ob5⟩:=nq (P:=Tryz.prog) (w:=w) (f:=c9) (X:=X) Lu ij
  obtain⟨cs,hcs,hall⟩:=bZ.toSl (sz:=5) hv (by simp[ca])
  obtain⟨v7,w7,hr7,o7,g7⟩:=o5.app (P:=Tryz.prog) (t:=41) (ty:=41) (m:=l) Tryz.underlying41 f9 rfl (by omega) (by omega) (hcs.ext x5) (cI hall.rp) ((hall.weak fun k hk=>hk.imp id fun h=>by rw[ob5] at h;have:=Option.some.inj h;omega).ext x5) ca (by simp;omega) x5.size
  have x7:=aH.of_grew x5 g7 (fun k hk=>(o5.lt k hk).1)
  refine aF (vs:=[]) E E hr5 ?_
  refine ae E E ?_
  refine aT E E hr7 ?_
  refine ac E E (ag (ab (aw (au E E ?_))))
  exact⟨_,rfl,x7,by simpa using o7⟩
end Go.Rl
namespace Go.Rl
open Go.RowKit Go.Proofs
theorem js {w0 w:World} {X:Nat→Prop} {n:aP} {cs:List Value} (h:Rp w0 (bh n) cs) (e:aH w0 w) (hX:∀k,X k→w0.heap.size≤k):bZ X w (bh n) cs:=(h.x.ext e).weak fun k hk=>.inl (hX k hk)
theorem YM.grow {w:World} {gm:Nat} {mv mv1:Value} (ho:∀k,mv1.ownBlock=some k→mv.ownBlock=some k∨w.heap.size≤k) {k:Nat} (h:YM gm mv1 k):YM gm mv k∨w.heap.size≤k:=by
 rcases h with h|h
 ·exact .inl (.inl h)
 ·exact(ho k h).imp .inr id
theorem lT {w0 w6 wx:World} {F F':Nat→Prop} {gk gm:Nat} {ik:List Nat} {mv v48:Value} {ms:List (List bj)} {t:JT} {path:List bj} (hat:Cv w0 t) (hF:∀k,F k→w0.heap.size≤k∧k<w6.heap.size) (e0:aH w0 w6) (ex:aH w6 wx) (hJ:jq w0 w6 gk t ik) (hC:yc w0 w6 F gm mv ms) (hd:∀k∈ik,¬YM gm mv k) (hl:path.length+t.depth≤1073741824) (hm:ms.length+t.gaps≤1099511627776)
 (o48:dY 48 5 w6.heap.size (fun k=>YM gm mv k∨F' k) c9 path v48 wx) (hF':∀k,F' k→F k∨(w6.heap.size≤k∧k<wx.heap.size)) (hne:∀k,v48.ownBlock=some k→¬F' k):
 Calls Tryz.prog 65 #[.pointer (some ⟨gk,0,none⟩),v48,.pointer (some ⟨gm,0,none⟩)] wx (bN fun r w'=>CvR w0 wx F' gm mv ms t path r w'):=by
 have s0:=e0.size
 have sx:=ex.size
 refine hat F' wx gk ik path v48 gm mv ms (fun k hk=>?_) (e0.trans ex) (hJ.ext ex) ((hC.weak fun k hk=>(hF' k hk).imp id fun h=>h.1).ext ex) hd (o48.rpx ca (by omega) (fun _ h=>h) fun k hk hk'=>?_) hl hm
 ·rcases hF' k hk with h|h
  ·exact⟨(hF k h).1,by have:=(hF k h).2;omega⟩
  ·exact⟨by omega,h.2⟩
 ·have h1:=(o48.lt k hk).1
  rcases hk' with h|h
  ·have:=(hC.ym_young h).2;omega
  ·exact hne k hk h
theorem pE {w0 w6 wg w1:World} {X:Nat→Prop} {path:List bj} {d:bj} {x y v42 v47:Value} (e0:aH w0 w6) (eg:aH w6 wg) (e1:aH wg w1) (hX:∀k,X k→w0.heap.size≤k) (hx:bk d.at_.2.1 x w0) (hy:bk d.at_.2.2 y w0) (o42:dY 48 5 w6.heap.size X c9 path v42 w1) (b47:Sl 5 [I d.kd,I d.ix,B d.at_.1,x,y] v47 wg) (hl:path.length≤1099511627776):
 ∃r w2,(Builtin.append_ #[41,41] 41 #[v42,v47]).run Tryz.prog w1=.ok r w2∧dY 48 5 w6.heap.size X c9 (path++[d]) r w2∧aH w6 w2∧Mv (fun k=>v42.ownBlock=some k) w1 w2∧∀k,r.ownBlock=some k→v42.ownBlock=some k∨w1.heap.size≤k:=by
 have hlt:=o42.lt
 have s1:=(eg.trans e1).size
 obtain⟨r,w2,h1,h2,h3⟩:=o42.app (P:=Tryz.prog) (t:=41) (ty:=41) (m:=[d]) Lu f9 rfl (by omega) (by omega) (b47.ext e1) (ap.cons rfl (ap.cons rfl (ap.cons rfl (ap.cons hx.one (ap.cons hy.one ap.nil))))) (by
  have:=(((qm hx hy).x.ext (e0.trans (eg.trans e1))).weak (Y:=fun k=>X k∨v42.ownBlock=some k) fun k hk=>by
   rcases hk with hk|hk
   ·exact .inl (hX k hk)
   ·exact .inl (Nat.le_trans e0.size (hlt k hk).1))
  simpa using aN.cons this aN.nil) ca (by simp;omega) s1
 have hm:Mv (fun k=>v42.ownBlock=some k) w1 w2:=Mv.of_grown h3.grown fun k hk _=>hk
 refine⟨r,w2,h1,h2,hm.ext_from (eg.trans e1) fun k hk=>(hlt k hk).1,hm,fun k hk=>?_⟩
 rcases h3.own with h|h
 ·rw[h] at hk;exact .inl hk
 ·exact .inr (h k hk)
section
variable {P:Program} {ops:Array Oper} {Q:iq} {N:Nat} {D:List Deferred} {S:World→Prop} {fuel:Nat} {listed:Array Bool} {l:Fr} {w:World} {d:Tmp} {ty:TypeId} {pos:String} {aft:Array Edge}
theorem ny (i:Nat) {x:Operand} {a:Addr} (hi:ops[i]? =some ⟨some d,.nilCheck x,ty,pos,aft,none⟩) (hx:ev l x=some (.pointer (some a))) (hB:mH ops listed i=true) (hd:Nat.blt d N=true) (hS:S w)
 (k:dh P ops Q N D S fuel (listed.setIfInBounds i true) ((d,.pointer (some a))::l) w):dh P ops Q N D S (fuel+1) listed l w:=
 xh i hi hB hd hS (fun ρ w' hρ _=>by simp[execOp,hρ x _ hx]) k
theorem zL (i j m:Nat) {o u z:Oper} (hr:Region.ready .any ops listed=[i,j,m]) (hi:ops[i]? =some o) (hj:ops[j]? =some u) (hm:ops[m]? =some z) (h:cz P ops (tn P ops Q S fuel (listed.setIfInBounds i true)) N D l w [o])
 (h':cz P ops (tn P ops Q S fuel (listed.setIfInBounds j true)) N D l w [u]) (h'':cz P ops (tn P ops Q S fuel (listed.setIfInBounds m true)) N D l w [z]):dh P ops Q N D S (fuel+1) listed l w:=fun a ha=>
 wpAnyH_all hr (by simp) fun k hk=>by
  rcases(by simpa using hk:k=i∨k=j∨k=m) with rfl|rfl|rfl
  ·exact gr hi (h a ha)
  ·exact gr hj (h' a ha)
  ·exact gr hm (h'' a ha)
end
theorem bA {w:World}:∃g w',(Instr.alloc 52 true (.tuple #[])).run Tryz.prog w=.ok (.pointer (some ⟨g,0,none⟩)) w'∧w.heap.size≤g∧aH w w'∧bQ g 52 [.slice none 0 0,I 0,I 0,B false,.slice none 0 0,.slice none 0 0,.slice none 0 0,B false,.slice none 0 0] w':=
 a9 (P:=Tryz.prog) (w:=w) (t:=52) (z:=.agg #[.slice none 0 0,I 0,I 0,B false,.slice none 0 0,.slice none 0 0,.slice none 0 0,B false,.slice none 0 0]) (l:=[.slice none 0 0,I 0,I 0,B false,.slice none 0 0,.slice none 0 0,.slice none 0 0,B false,.slice none 0 0]) (by kernel_rfl) rfl
end Go.Rl
namespace Go.Rl
open Go.RowKit Go.Proofs
theorem qA {w0:World} (ho:zQ w0) {t:JT} (ih:∀s a b,t=.split s a b→Cv w0 a∧Cv w0 b):Cv w0 t:=by
 intro F w g ids path pv gm mv ms hF e0 hJ hC hd hp hpl hml
 have hg:w0.heap.size≤g:=hJ.young g hJ.root
 have hgl:g<w.heap.size:=hJ.lt g hJ.root
 have hny:¬YM gm mv g:=hd g hJ.root
 refine enter (vs:=[.pointer (some ⟨g,0,none⟩),pv,.pointer (some ⟨gm,0,none⟩)]) Tryz.func65 E E E ?_
 refine af (aa ?_)
 obtain⟨g6,w6,hr6,l6,x6,k6⟩:=a9 (P:=Tryz.prog) (w:=w) (t:=52) (z:=.agg #[.slice none 0 0,I 0,I 0,B false,.slice none 0 0,.slice none 0 0,.slice none 0 0,B false,.slice none 0 0]) (l:=[.slice none 0 0,I 0,I 0,B false,.slice none 0 0,.slice none 0 0,.slice none 0 0,B false,.slice none 0 0]) (by kernel_rfl) rfl
 refine aS E hr6 (ag (ab (af (af ?_))))
 have hg6:g≠g6:=by omega
 have s6:=x6.size
 have lg6:=k6.lt
 have hgm:=hC.cell.lt
 have hmvl:=hC.own.lt
 have n6:¬YM gm mv g6:=fun h=>by have:=(hC.ym_young h).2;omega
 have hFF:∀k,(F k∨k=g6)→w0.heap.size≤k∧k<w6.heap.size:=fun k hk=>by
  have:=e0.size
  rcases hk with hk|hk
  ·have:=hF k hk;exact⟨this.1,by omega⟩
  ·omega
 have hC6:yc w0 w6 (fun k=>F k∨k=g6) gm mv ms:=(hC.weak fun k hk=>hk.imp id fun h=>by omega).ext x6
 have hp6:bZ (fun k=>YM gm mv k∨(F k∨k=g6)) w6 (.sl (path.map c9)) [pv]:=(hp.weak fun k hk=>by rcases hk with hk|hk|hk;exact .inl (.inl hk);exact .inl (.inr hk);exact .inr (by omega)).ext x6
 have hJ2:=hJ
 rcases t.shape with ht|⟨n,ht⟩|⟨s,a,b,ht⟩
 ·rw[ht] at hJ2
  obtain⟨hid,kg⟩:=zK hJ2
  have kg6:bQ g 114 [I 0,I 0,B false,.slice none 0 0,.slice none 0 0,.pointer none,.pointer none,.pointer none] w6:=kg.ext x6
  refine aa (ae E E (aE E E (ah E E (av (o:=7) LC E (by kernel_rfl) E) (aj E E (ai LI E (kg6.cell (i:=7) E)) ?_))))
  refine al E E E (gE LI) (ag (ab (cN E (aC (ab (af (af (aa (ae E E (aE E E (ah E E (av (o:=5) LC E (by kernel_rfl) E) ?_)))))))))))
  refine ar E E E (iz LM (by kernel_rfl) (i:=0) (by omega) .i64) ?_
  refine aj E E (ai LG E (kg6.cell (i:=5) E)) (al E E E (fT LG) (ag ?_))
  refine ab (bm E (af ?_))
  have hpl':path.length≤1099511627776:=by omega
  have hg1:t.gaps=1:=by rw[ht];rfl
  refine tR 7 [7,8,9] [6,26,29,32] (by kernel_rfl) (by kernel_rfl) E E E ?_
  refine ax rfl rfl (dz rfl rfl (aQ rfl rfl (fun w' hw=>ai LO rfl (hC6.cell.ext hw).k0) (ax rfl rfl (ce (S:=dY 48 5 w6.heap.size (fun k=>YM gm mv k∨(F k∨k=g6)) c9 path) fp (dY.stable) rfl (fun w hw=>by rintro _ rfl;exact bN.mono (ft (hp6.ext hw) hpl') fun v w' h=>⟨h.1,h.2.low hw.size⟩) ?_))))
  refine eG (S:=fun v w'=>∃pv1,dY 48 5 w6.heap.size (fun k=>YM gm mv k∨(F k∨k=g6)) c9 path pv1 w'∧Sl 1 [pv1] v w') (fun _ _ _ ⟨pv1,h1,h2⟩ hx=>⟨pv1,h1.ext hx,h2.ext hx⟩) E (fun w' hw=>by
 intro pv1 h1
 obtain⟨r,w2,a1,a2,a3,_⟩:=jz (P:=Tryz.prog) (w:=w') (base:=0) Tryz.underlying59 yb [pv1] (ap.cons h1.one ap.nil) (by simp) (Nat.zero_le _)
 exact⟨r,w2,a1,a2,pv1,h1.ext a2,Sl.of_own a3⟩) ?_
  refine cn ?_
  intro wg4 xg4
  rintro _ rfl
  rintro _ rfl
  rintro _ hq29
  obtain rfl:=Eq.symm hq29
  intro vg32 b32
  obtain⟨pv1,o1,sl1⟩:=b32
  have sg4:=xg4.size
  have own1:=o1.lt
  have hC4:=hC6.ext xg4
  have rp1:bZ (fun k=>(k=gm∨(F k∨k=g6))∨mv.ownBlock=some k) wg4 (oT path) [pv1]:=(o1.rpx ca (by omega) (fun _ h=>h) fun k hk hk'=>by
   have h1:=(own1 k hk).1
   rcases hk' with h|h
   ·have:=(hC.ym_young h).2;omega
   ·have:=(hFF k h).2;omega).weak fun k hk=>by
   rcases hk with(hk|hk)|hk
   ·exact .inl (.inl (.inl hk))
   ·exact .inl (.inr hk)
   ·exact .inl (.inl (.inr hk))
  obtain⟨v33,w33,hr33,o33,gr33⟩:=hC4.own.app (P:=Tryz.prog) (t:=59) (ty:=59) (m:=[path]) Tryz.underlying59 yb rfl (by omega) (by omega) sl1 (ap.cons o1.one ap.nil) (by simpa using aN.cons (b:=[]) rp1 aN.nil) nw (by simp;omega) (by have:=e0.size;omega)
  have m33:Mv (fun k=>mv.ownBlock=some k) wg4 w33:=Mv.of_grown gr33.grown fun k hk _=>hk
  have n33:∀k,v33.ownBlock=some k→mv.ownBlock=some k∨wg4.heap.size≤k:=fun k hk=>by
   rcases gr33.own with h|h
   ·rw[h] at hk;exact .inl hk
   ·exact .inr (h k hk)
  have c33:=m33.blk hC4.cell fun h=>hC.ne h
  have l33:=c33.lt
  have ne33:v33.ownBlock≠some gm:=fun h=>by
   rcases n33 gm h with h'|h'
   ·exact hC.ne h'
   ·omega
  obtain⟨w34,s34,q34,k34⟩:=c33.stC (P:=Tryz.prog) (t:=59) (i:=0) (v:=v33) (by kernel_rfl) o33.one (by simp)
  have m34:Mv (fun k=>k=gm) w33 w34:=Mv.of_grown q34 fun k hk _=>(Option.some.inj hk).symm
  have mm:Mv (YM gm mv) w w34:=(((Mv.of_ext (X:=YM gm mv) (x6.trans xg4)).trans m33 fun k hk _=>.inr hk).trans m34 fun k hk _=>.inl hk)
  have m64:Mv (YM gm mv) w6 w34:=(((Mv.of_ext (X:=YM gm mv) xg4).trans m33 fun k hk _=>.inr hk).trans m34 fun k hk _=>.inl hk)
  have k6b:=m64.blk k6 n6
  have o34:=o33.mv m34 (fun k hk=>.inl hk) fun k hk h=>ne33 (by have e:k=gm:=h;rw[←e];exact hk)
  refine aT E E hr33 ?_
  refine aE E E ?_
  refine ay E E s34 ?_
  refine ag (yK (ab (af (aa (bC (vs:=[]) (r:=.agg #[.slice none 0 0,I 0,I 0,B false,.slice none 0 0,.slice none 0 0,.slice none 0 0,B false,.slice none 0 0]) E E (by exact run_build _ _ _ _ (by kernel_rfl)) ?_)))))
  obtain⟨w5,s5,q5,k5⟩:=k6b.stS (P:=Tryz.prog) (t:=52) (m:=[.slice none 0 0,I 0,I 0,B false,.slice none 0 0,.slice none 0 0,.slice none 0 0,B false,.slice none 0 0]) rfl (by kernel_rfl) (ap.cons rfl (ap.cons rfl (ap.cons rfl (ap.cons rfl (ap.cons rfl (ap.cons rfl (ap.cons rfl (ap.cons rfl (ap.cons rfl ap.nil)))))))))
  refine ay E E s5 ?_
  refine ag (ab (aw (az ?_)))
  refine cM E E k5 Lk E (by kernel_rfl) ?_
  have m5:Mv (fun k=>k=g6) w34 w5:=Mv.of_grown q5 fun k hk _=>(Option.some.inj hk).symm
  have n65:¬YM gm v33 g6:=fun h=>(YM.grow n33 h).elim n6 fun h=>by omega
  have st5:yc w0 w34 (fun k=>F k∨k=g6) gm v33 (ms++[path]):=⟨k34,o34,ne33,hC.young⟩
  refine⟨_,rfl,[.slice none 0 0,I 0,I 0,B false,.slice none 0 0,.slice none 0 0,.slice none 0 0,B false,.slice none 0 0],v33,rfl,(ap.cons E (ap.cons E (ap.cons E (ap.cons E (ap.cons E (ap.cons E (ap.cons E (ap.cons E (ap.cons E ap.nil))))))))),?_,?_,mm.trans m5 fun k hk hlt=>by have e:k=g6:=hk;omega,fun k hk=>(n33 k hk).imp id fun h=>by omega⟩
  ·rw[ht]
   exact zr
  ·rw[ht]
   exact(st5.sto m5 (.inr rfl) n65).weak fun k hk=>.inl (.inl hk)
 ·rw[ht] at hJ2
  obtain⟨gl,cl,hid,kg,kl,hrl⟩:=tY hJ2
  have kg6:bQ g 114 [I 0,I 0,B false,.slice none 0 0,.slice none 0 0,.pointer none,.pointer none,.pointer (some ⟨gl,0,none⟩)] w6:=kg.ext x6
  obtain⟨vl,x,y,vk,vp,rfl,hl0,hx0,hy0,hk0,hp0⟩:=dc hrl
  have kl6:=kl.ext x6
  refine aa (ae E E (aE E E (ah E E (av (o:=7) LC E (by kernel_rfl) E) (aj E E (ai LI E (kg6.cell (i:=7) E)) ?_))))
  refine al E E E (gE LI) (ag (ab (bm E (af (aa (ae E E (aE E E (ah E E (av (o:=7) LC E (by kernel_rfl) E) ?_))))))))
  refine aj E E (ai LI E (kg6.cell (i:=7) E)) (aE E E ?_)
  refine aj E E (kl6.ld Lk E (by kernel_rfl)) ?_
  obtain⟨w2_6,s2_6,q2_6,k2_6⟩:=k6.stS (P:=Tryz.prog) (t:=52) (m:=[vl,I n.split.kd,I n.split.ix,B n.split.at_.1,x,y,vk,B n.empty,vp]) rfl (by kernel_rfl) (ap.cons hl0.one (ap.cons rfl (ap.cons rfl (ap.cons rfl (ap.cons hx0.one (ap.cons hy0.one (ap.cons hk0.one (ap.cons rfl (ap.cons hp0.one ap.nil)))))))))
  refine ay E E s2_6 ?_
  have x2_6:=aH.of_new (x6) q2_6 l6
  refine ag (ab (aw (az ?_)))
  refine cM E E k2_6 Lk E (by kernel_rfl) ?_
  have e2:=x2_6
  refine⟨_,rfl,[vl,I n.split.kd,I n.split.ix,B n.split.at_.1,x,y,vk,B n.empty,vp],mv,rfl,yG hrl,?_,?_,Mv.of_ext (X:=YM gm mv) e2,fun k hk=>.inl hk⟩
  ·rw[ht]
   exact js hrl (e0.trans e2) fun k hk=>hk.elim (fun h=>(hC.ym_young h).1) fun h=>h.1
  ·rw[ht]
   simpa [JT.miss] using hC.ext e2
 ·rw[ht] at hJ2
  obtain⟨x,y,g1,g2,i1,i2,hid,hsx,hsy,kg,j1,j2,_,n1,n2,n3⟩:=hJ2.split_inv
  have kg6:bQ g 114 [I s.kd,I s.ix,B s.at_.1,x,y,.pointer (some ⟨g1,0,none⟩),.pointer (some ⟨g2,0,none⟩),.pointer none] w6:=kg.ext x6
  refine aa (ae E E (aE E E (ah E E (av (o:=7) LC E (by kernel_rfl) E) (aj E E (ai LI E (kg6.cell (i:=7) E)) ?_))))
  refine al E E E (gE LI) (ag (ab (cN E (aC (ab (af (af (aa (ae E E (aE E E (ah E E (av (o:=5) LC E (by kernel_rfl) E) ?_)))))))))))
  refine ar E E E (iz LM (by kernel_rfl) (i:=0) (by omega) .i64) ?_
  refine aj E E (ai LG E (kg6.cell (i:=5) E)) (al E E E (fT LG) (ag ?_))
  refine ab (cN E (aC (ab (af ?_))))
  have hA:Cv w0 a:=(ih s a b ht).1
  have hB:Cv w0 b:=(ih s a b ht).2
  have hdep:t.depth=1+max a.depth b.depth:=by rw[ht];rfl
  have hgap:t.gaps=a.gaps+b.gaps:=by rw[ht];rfl
  have hFF2:=hFF
  have hdA:∀k∈i1,¬YM gm mv k:=fun k hk=>hd k (by rw[hid];simp[hk])
  have hdB:∀k∈i2,¬YM gm mv k:=fun k hk=>hd k (by rw[hid];simp[hk])
  have hd6:=hdA
  have j1:=j1.ext x6
  have s0:=e0.size
  have sW:w0.heap.size≤w6.heap.size:=(e0.trans x6).size
  have hpl:path.length≤1099511627776:=by omega
  have hXy:∀k,(YM gm mv k∨(F k∨k=g6))→w0.heap.size≤k:=fun k hk=>hk.elim (fun h=>(hC6.ym_young h).1) fun h=>(hFF k h).1
  have hYw:∀k,YM gm mv k→k<w6.heap.size:=fun k h=>(hC6.ym_young h).2
  have hFl:∀k,(F k∨k=g6)→k<w6.heap.size:=fun k h=>(hFF2 k h).2
  have hS:bQ g 114 [I s.kd,I s.ix,B s.at_.1,x,y,.pointer (some ⟨g1,0,none⟩),.pointer (some ⟨g2,0,none⟩),.pointer none] w6.drew:=kg6.ext (aH.refl w6).drew
  have eD:aH w6 w6.drew:=(aH.refl w6).drew
  refine fw (fun w1=>bQ g 114 [I s.kd,I s.ix,B s.at_.1,x,y,.pointer (some ⟨g1,0,none⟩),.pointer (some ⟨g2,0,none⟩),.pointer none] w1) 17 E (by kernel_rfl) ?_
  refine cF 0 E E (by kernel_rfl) E hS ?_
  refine ny 1 E E (by kernel_rfl) E hS ?_
  refine dl 2 E E (by kernel_rfl) E hS (fun _ _=>av (o:=5) LC E (by kernel_rfl) E) ?_
  refine ii 3 E E E (by kernel_rfl) E hS (fun _ _=>iz LM (by kernel_rfl) (i:=0) (by omega) .i64) ?_
  refine d6 4 E E (by kernel_rfl) E hS (fun _ hw=>ai LG E (hw.cell (i:=5) E)) ?_
  refine cF 5 E E (by kernel_rfl) E hS ?_
  refine cF 7 E E (by kernel_rfl) E hS ?_
  refine ny 8 E E (by kernel_rfl) E hS ?_
  refine dl 9 E E (by kernel_rfl) E hS (fun _ _=>av (o:=0) LC E (by kernel_rfl) E) ?_
  refine d6 10 rfl rfl (by kernel_rfl) rfl hS (fun _ hw=>hw.ldO (ms:=[I s.kd,I s.ix,B s.at_.1,x,y]) (o:=0) (fun j v hj=>by rcases j with _|_|_|_|_|j<;>simp_all) Tryz.underlying48 rfl (by kernel_rfl)) ?_
  refine cF 13 E E (by kernel_rfl) E hS ?_
  refine iA (fun z=>[(0,.pointer (some ⟨g,0,none⟩)),(1,pv),(2,.pointer (some ⟨gm,0,none⟩)),(6,.pointer (some ⟨g6,0,none⟩)),(7,.pointer (some ⟨z.2.2,0,none⟩))]) (fun(z:Value×List Value×Nat) w1=>tE w0 w6 (fun k=>F k∨k=g6) z.2.2 gm mv z.1 (ms++a.miss (path++[s])) a.node z.2.1 w1) #[true,true,true,true,true,true,true,true,true,true,true,true,true,true,true,true,true] 0 ?_ (fun hk=>?_)
  rotate_left
  ·refine iA (fun z=>[(0,.pointer (some ⟨g,0,none⟩)),(1,pv),(2,.pointer (some ⟨gm,0,none⟩)),(6,.pointer (some ⟨g6,0,none⟩)),(40,.pointer (some ⟨g1,0,none⟩)),(49,.pointer (some ⟨gm,0,none⟩)),(42,z.1),(47,z.2.1),(7,.pointer (some ⟨z.2.2,0,none⟩))]) (fun(z:Value×Value×Nat) w1=>aH w6 w1∧dY 48 5 w6.heap.size (fun k=>YM gm mv k∨((F k∨k=g6)∨k=z.2.2)) c9 path z.1 w1∧Sl 5 [I (s).kd,I (s).ix,B (s).at_.1,x,y] z.2.1 w1∧bQ z.2.2 52 [.slice none 0 0,I 0,I 0,B false,.slice none 0 0,.slice none 0 0,.slice none 0 0,B false,.slice none 0 0] w1∧w6.heap.size≤z.2.2∧z.1.ownBlock≠some z.2.2) #[true,true,true,true,true,true,true,true,true,true,true,true,false,true,false,true,false] 3 ?_ (fun hk2=>?_)
   ·rintro⟨v42,v47,gc⟩ wg ⟨xg,b42,b47,k7,l7,ne42⟩
    have l7b:=k7.lt
    have own42:=b42.lt
    obtain⟨v48,w48,hr48,o48,e48,m48,n48⟩:=pE (X:=(fun k=>YM gm mv k∨((F k∨k=g6)∨k=gc))) (d:=s) (e0.trans x6) xg (aH.refl _) (fun k hk=>by rcases hk with hk|hk|hk;exact hXy k (.inl hk);exact hXy k (.inr hk);(have:k=gc:=hk;dsimp only at l7;omega)) hsx hsy b42 b47 hpl
    have own48:=o48.lt
    have s48:=m48.size
    refine aO 12 (by kernel_rfl) E (aT E E hr48 (ao (kg6.ext e48) ?_))
    refine aO 14 (by kernel_rfl) rfl (an gY rfl rfl (lT (F':=fun k=>(F k∨k=g6)∨k=gc) hA hFF2 (e0.trans x6) e48 j1 hC6 hd6 (by simp;omega) (by omega) o48 (fun k hk=>hk.imp id fun h=>by dsimp only at l7 l7b;omega) (fun k hk hk2=>by rcases hk2 with hk2|hk2;(have:=(own48 k hk).1;have:=hFl k hk2;omega);(rcases n48 k hk with h|h;exact ne42 (hk2▸h);(dsimp only at l7b;omega)))) ?_)
    rintro v50 w50 ⟨cs,mvk,rfl,h1,hr,hs,hm,hoo⟩
    refine ao (hm.blk (kg6.ext e48) hny) ?_
    obtain⟨w8,hs8,K⟩:=tE.early e48 h1 hr hs hm hoo sW l7 hYw (m48.blk k7 ne42) rfl
    refine aO 16 (by kernel_rfl) E (ay E E hs8 (ao (K.m.blk kg6 hny) ?_))
    exact hk _ _ ⟨(mvk,cs,gc),⟨rfl,rfl,rfl,rfl,rfl,trivial⟩,K⟩
   ·refine iA (fun z=>[(0,.pointer (some ⟨g,0,none⟩)),(1,pv),(2,.pointer (some ⟨gm,0,none⟩)),(6,.pointer (some ⟨g6,0,none⟩)),(40,.pointer (some ⟨g1,0,none⟩)),(49,.pointer (some ⟨gm,0,none⟩)),(42,z.1),(47,z.2)]) (fun(z:Value×Value) w1=>aH w6 w1∧dY 48 5 w6.heap.size (fun k=>YM gm mv k∨(F k∨k=g6)) c9 path z.1 w1∧Sl 5 [I (s).kd,I (s).ix,B (s).at_.1,x,y] z.2 w1) #[true,true,true,true,true,true,true,true,true,true,true,true,false,true,false,false,false] 4 ?_ (fun hk1=>?_)
    ·rintro⟨v42,v47⟩ wg ⟨xg,b42,b47⟩
     have own42:=b42.lt
     have sg:=xg.size
     refine ep 12 15 (by kernel_rfl) E E ?_ ?_
     ·obtain⟨v48,w48,hr48,o48,e48,m48,n48⟩:=pE (d:=s) (e0.trans x6) xg (aH.refl _) hXy hsx hsy b42 b47 hpl
      have own48:=o48.lt
      refine aT E E hr48 (ao (kg6.ext e48) ?_)
      refine ep 14 15 (by kernel_rfl) E E ?_ ?_
      ·have zz:=e48.size
       refine an gY E E (lT hA hFF2 (e0.trans x6) e48 j1 hC6 hd6 (by simp;omega) (by omega) o48 (fun k hk=>.inl hk) (fun k hk hk2=>by have:=(own48 k hk).1;have:=hFl k hk2;omega)) ?_
       rintro v50 w50 ⟨cs,mvk,rfl,h1,hr,hs,hm,hoo⟩
       refine ao (hm.blk (kg6.ext e48) hny) ?_
       obtain⟨gc,w7,hr7,l7,x7,k7⟩:=bA (w:=w50)
       refine aO 15 (by kernel_rfl) E (aS E hr7 (ao ((hm.blk (kg6.ext e48) hny).ext x7) ?_))
       obtain⟨w8,hs8,K⟩:=tE.late e48 h1 hr hs hm hoo x7 l7 k7 rfl
       refine aO 16 (by kernel_rfl) E (ay E E hs8 (ao (K.m.blk kg6 hny) ?_))
       exact hk _ _ ⟨(mvk,cs,gc),⟨rfl,rfl,rfl,rfl,rfl,trivial⟩,K⟩
      ·obtain⟨gc,w7,hr7,l7,x7,k7⟩:=bA (w:=w48)
       have s48:=e48.size
       have l7b:=k7.lt
       refine aS E hr7 (ao (kg6.ext (e48.trans x7)) ?_)
       refine aO 14 (by kernel_rfl) rfl (an gY rfl rfl (lT (F':=fun k=>(F k∨k=g6)∨k=gc) hA hFF2 (e0.trans x6) (e48.trans x7) j1 hC6 hd6 (by simp;omega) (by omega) ((o48.weak (fun k hk=>by rcases hk with hk|hk|hk;exact .inl (.inl hk);exact .inl (.inr hk);exact .inr (by omega))).ext x7) (fun k hk=>hk.imp id fun h=>by omega) (fun k hk hk2=>by rcases hk2 with hk2|hk2;(have:=(own48 k hk).1;have:=hFl k hk2;omega);(have:=(own48 k hk).2;omega))) ?_)
       rintro v50 w50 ⟨cs,mvk,rfl,h1,hr,hs,hm,hoo⟩
       refine ao (hm.blk (kg6.ext (e48.trans x7)) hny) ?_
       obtain⟨w8,hs8,K⟩:=tE.early (e48.trans x7) h1 hr hs hm hoo sW (by omega) hYw k7 rfl
       refine aO 16 (by kernel_rfl) E (ay E E hs8 (ao (K.m.blk kg6 hny) ?_))
       exact hk _ _ ⟨(mvk,cs,gc),⟨rfl,rfl,rfl,rfl,rfl,trivial⟩,K⟩
     ·obtain⟨gc,w7,hr7,l7,x7,k7⟩:=bA (w:=wg)
      refine aS E hr7 (ao (kg6.ext (xg.trans x7)) ?_)
      exact hk2 _ _ ⟨(v42,v47,gc),⟨rfl,rfl,rfl,rfl,rfl,rfl,rfl,rfl,rfl,trivial⟩,xg.trans x7,(b42.weak (fun k hk=>by rcases hk with hk|hk|hk;exact .inl (.inl hk);exact .inl (.inr hk);(have:k=gc:=hk;exact .inr (by omega)))).ext x7,b47.ext x7,k7,(show w6.heap.size≤gc by omega),fun h=>by have:=(own42 gc h).2;omega⟩
    ·refine zL 6 11 15 (by kernel_rfl) E E E ?_ ?_ ?_
     ·refine an fp E E (ft (hp6.ext eD) hpl) ?_
      rintro va1 wz1 ⟨x1,oo1⟩
      have oz1:=oo1.low (eD).size
      have ez1:aH w6 wz1:=eD.trans x1
      refine ao (kg6.ext ez1) ?_
      refine ep 11 15 (by kernel_rfl) E E ?_ ?_
      ·obtain⟨vr2,wz2,hr2,x2,bz2⟩:=i8 (w:=wz1) (d:=s) (x:=x) (y:=y)
       have ez2:aH w6 wz2:=ez1.trans x2
       refine aF (vs:=[(0,.agg #[I (s).kd,I (s).ix,B (s).at_.1,x,y])]) E E hr2 (ao (kg6.ext ez2) ?_)
       have oz2:=oz1.ext x2
       exact hk1 _ _ ⟨(va1,vr2),⟨rfl,rfl,rfl,rfl,rfl,rfl,rfl,rfl,trivial⟩,ez2,oz2,bz2⟩
      ·obtain⟨gc3,wz3,hr3,l3,x3,k3⟩:=bA (w:=wz1)
       have la3:=ez1.size
       have lb3:=k3.lt
       refine aS E hr3 (ao (kg6.ext (ez1.trans x3)) ?_)
       have ez3:aH w6 wz3:=(ez1.trans x3)
       have oz3:=(oz1.weak (Y:=(fun k=>YM gm mv k∨((F k∨k=g6)∨k=gc3))) (fun k hk=>by rcases hk with hk|hk|hk;exact .inl (.inl hk);exact .inl (.inr hk);(have:k=gc3:=hk;exact .inr (by omega)))).ext x3
       have nz3:va1.ownBlock≠some gc3:=fun h=>by have:=(oz1.lt gc3 h).2;omega
       obtain⟨vr4,wz4,hr4,x4,bz4⟩:=i8 (w:=wz3) (d:=s) (x:=x) (y:=y)
       have ez4:aH w6 wz4:=ez3.trans x4
       refine aO 11 (by kernel_rfl) E (aF (vs:=[(0,.agg #[I (s).kd,I (s).ix,B (s).at_.1,x,y])]) E E hr4 (ao (kg6.ext ez4) ?_))
       have oz4:=oz3.ext x4
       have kz4:=k3.ext x4
       exact hk2 _ _ ⟨(va1,vr4,gc3),⟨rfl,rfl,rfl,rfl,rfl,rfl,rfl,rfl,rfl,trivial⟩,ez4,oz4,bz4,kz4,(show w6.heap.size≤gc3 by omega),nz3⟩
     ·obtain⟨vr5,wz5,hr5,x5,bz5⟩:=i8 (w:=w6.drew) (d:=s) (x:=x) (y:=y)
      have ez5:aH w6 wz5:=eD.trans x5
      refine aF (vs:=[(0,.agg #[I (s).kd,I (s).ix,B (s).at_.1,x,y])]) E E hr5 (ao (kg6.ext ez5) ?_)
      refine ep 6 15 (by kernel_rfl) E E ?_ ?_
      ·refine an fp E E (ft (hp6.ext ez5) hpl) ?_
       rintro va6 wz6 ⟨x6,oo6⟩
       have oz6:=oo6.low (ez5).size
       have ez6:aH w6 wz6:=ez5.trans x6
       refine ao (kg6.ext ez6) ?_
       have bz6:=bz5.ext x6
       exact hk1 _ _ ⟨(va6,vr5),⟨rfl,rfl,rfl,rfl,rfl,rfl,rfl,rfl,trivial⟩,ez6,oz6,bz6⟩
      ·obtain⟨gc7,wz7,hr7,l7,x7,k7⟩:=bA (w:=wz5)
       have la7:=ez5.size
       have lb7:=k7.lt
       refine aS E hr7 (ao (kg6.ext (ez5.trans x7)) ?_)
       have ez7:aH w6 wz7:=(ez5.trans x7)
       have bz7:=bz5.ext x7
       refine aO 6 (by kernel_rfl) rfl (an fp rfl rfl (ft ((hp6.weak (Y:=(fun k=>YM gm mv k∨((F k∨k=g6)∨k=gc7))) (fun k hk=>by rcases hk with hk|hk|hk;exact .inl (.inl hk);exact .inl (.inr hk);(have:k=gc7:=hk;have:=(show w6.heap.size≤gc7 by omega);exact .inr (by omega)))).ext ez7) hpl) ?_)
       rintro va8 wz8 ⟨x8,oo8⟩
       have oz8:=oo8.low (ez7).size
       have ez8:aH w6 wz8:=ez7.trans x8
       refine ao (kg6.ext ez8) ?_
       have nz8:va8.ownBlock≠some gc7:=fun h=>by have:=(oo8.lt gc7 h).1;have:=k7.lt;omega
       have kz8:=k7.ext x8
       have bz8:=bz7.ext x8
       exact hk2 _ _ ⟨(va8,vr5,gc7),⟨rfl,rfl,rfl,rfl,rfl,rfl,rfl,rfl,rfl,trivial⟩,ez8,oz8,bz8,kz8,(show w6.heap.size≤gc7 by omega),nz8⟩
     ·obtain⟨gc9,wz9,hr9,l9,x9,k9⟩:=bA (w:=w6.drew)
      have la9:=eD.size
      have lb9:=k9.lt
      refine aS E hr9 (ao (kg6.ext (eD.trans x9)) ?_)
      have ez9:aH w6 wz9:=(eD.trans x9)
      refine ep 6 11 (by kernel_rfl) E E ?_ ?_
      ·refine an fp rfl rfl (ft ((hp6.weak (Y:=(fun k=>YM gm mv k∨((F k∨k=g6)∨k=gc9))) (fun k hk=>by rcases hk with hk|hk|hk;exact .inl (.inl hk);exact .inl (.inr hk);(have:k=gc9:=hk;have:=(show w6.heap.size≤gc9 by omega);exact .inr (by omega)))).ext ez9) hpl) ?_
       rintro va10 wz10 ⟨x10,oo10⟩
       have oz10:=oo10.low (ez9).size
       have ez10:aH w6 wz10:=ez9.trans x10
       refine ao (kg6.ext ez10) ?_
       have nz10:va10.ownBlock≠some gc9:=fun h=>by have:=(oo10.lt gc9 h).1;have:=k9.lt;omega
       have kz10:=k9.ext x10
       obtain⟨vr11,wz11,hr11,x11,bz11⟩:=i8 (w:=wz10) (d:=s) (x:=x) (y:=y)
       have ez11:aH w6 wz11:=ez10.trans x11
       refine aO 11 (by kernel_rfl) E (aF (vs:=[(0,.agg #[I (s).kd,I (s).ix,B (s).at_.1,x,y])]) E E hr11 (ao (kg6.ext ez11) ?_))
       have oz11:=oz10.ext x11
       have kz11:=kz10.ext x11
       exact hk2 _ _ ⟨(va10,vr11,gc9),⟨rfl,rfl,rfl,rfl,rfl,rfl,rfl,rfl,rfl,trivial⟩,ez11,oz11,bz11,kz11,(show w6.heap.size≤gc9 by omega),nz10⟩
      ·obtain⟨vr12,wz12,hr12,x12,bz12⟩:=i8 (w:=wz9) (d:=s) (x:=x) (y:=y)
       have ez12:aH w6 wz12:=ez9.trans x12
       refine aF (vs:=[(0,.agg #[I (s).kd,I (s).ix,B (s).at_.1,x,y])]) E E hr12 (ao (kg6.ext ez12) ?_)
       have kz12:=k9.ext x12
       refine aO 6 (by kernel_rfl) rfl (an fp rfl rfl (ft ((hp6.weak (Y:=(fun k=>YM gm mv k∨((F k∨k=g6)∨k=gc9))) (fun k hk=>by rcases hk with hk|hk|hk;exact .inl (.inl hk);exact .inl (.inr hk);(have:k=gc9:=hk;have:=(show w6.heap.size≤gc9 by omega);exact .inr (by omega)))).ext ez12) hpl) ?_)
       rintro va13 wz13 ⟨x13,oo13⟩
       have oz13:=oo13.low (ez12).size
       have ez13:aH w6 wz13:=ez12.trans x13
       refine ao (kg6.ext ez13) ?_
       have nz13:va13.ownBlock≠some gc9:=fun h=>by have:=(oo13.lt gc9 h).1;have:=kz12.lt;omega
       have kz13:=kz12.ext x13
       have bz13:=bz12.ext x13
       exact hk2 _ _ ⟨(va13,vr12,gc9),⟨rfl,rfl,rfl,rfl,rfl,rfl,rfl,rfl,rfl,trivial⟩,ez13,oz13,bz13,kz13,(show w6.heap.size≤gc9 by omega),nz13⟩
  rintro⟨mv1,csA,g7⟩ w9 K1
  refine fx (by kernel_rfl) ?_
  refine ab (af ?_)
  have e9:aH w0 w9:=K1.m.ext_from (e0.trans x6) fun k hk=>(hC.ym_young hk).1
  have kg9:=K1.m.blk kg6 hny
  have hny1:¬YM gm mv1 g:=fun h=>(YM.grow K1.own h).elim hny fun h=>by omega
  have j29:jq w0 w9 g2 b i2:=(j2.ext x6).mv K1.m hdB
  have hy1:∀k,YM gm mv1 k→YM gm mv k∨w6.heap.size≤k:=fun k hk=>YM.grow K1.own hk
  have hd7:∀k∈i2,¬YM gm mv1 k:=fun k hk h=>by
   rcases hy1 k h with h|h
   ·exact hdB k hk h
   ·have:=j2.lt k hk;omega
  have hp9:bZ (fun k=>YM gm mv1 k∨(F k∨k=g6)) w9 (.sl (path.map c9)) [pv]:=hp6.mv (K1.m.weak fun k hk _=>.inl hk) fun k hk=>by
   rcases hk with hk|hk
   ·exact(hy1 k hk).imp .inl id
   ·exact .inl (.inr hk)
  have hFF2:∀k,(F k∨k=g6)→w0.heap.size≤k∧k<w9.heap.size:=fun k hk=>by have:=hFF k hk;have:=K1.m.size;omega
  have s0:=e0.size
  have sW:w0.heap.size≤w9.heap.size:=e9.size
  have hpl:path.length≤1099511627776:=by omega
  have hXy:∀k,(YM gm mv1 k∨(F k∨k=g6))→w0.heap.size≤k:=fun k hk=>hk.elim (fun h=>(K1.st.ym_young h).1) fun h=>(hFF k h).1
  have hYw:∀k,YM gm mv1 k→k<w9.heap.size:=fun k h=>(K1.st.ym_young h).2
  have hFl:∀k,(F k∨k=g6)→k<w9.heap.size:=fun k h=>(hFF2 k h).2
  have hS:bQ g 114 [I s.kd,I s.ix,B s.at_.1,x,y,.pointer (some ⟨g1,0,none⟩),.pointer (some ⟨g2,0,none⟩),.pointer none] w9.drew:=kg9.ext (aH.refl w9).drew
  have eD:aH w9 w9.drew:=(aH.refl w9).drew
  refine fw (fun w1=>bQ g 114 [I s.kd,I s.ix,B s.at_.1,x,y,.pointer (some ⟨g1,0,none⟩),.pointer (some ⟨g2,0,none⟩),.pointer none] w1) 18 E (by kernel_rfl) ?_
  refine cF 0 E E (by kernel_rfl) E hS ?_
  refine ny 1 E E (by kernel_rfl) E hS ?_
  refine dl 2 E E (by kernel_rfl) E hS (fun _ _=>av (o:=5) LC E (by kernel_rfl) E) ?_
  refine ii 3 E E E (by kernel_rfl) E hS (fun _ _=>iz LM (by kernel_rfl) (i:=1) (by omega) .i64) ?_
  refine d6 4 E E (by kernel_rfl) E hS (fun _ hw=>ai LG E (hw.cell (i:=6) E)) ?_
  refine cF 5 E E (by kernel_rfl) E hS ?_
  refine cF 7 E E (by kernel_rfl) E hS ?_
  refine ny 8 E E (by kernel_rfl) E hS ?_
  refine dl 9 E E (by kernel_rfl) E hS (fun _ _=>av (o:=0) LC E (by kernel_rfl) E) ?_
  refine d6 10 rfl rfl (by kernel_rfl) rfl hS (fun _ hw=>hw.ldO (ms:=[I s.kd,I s.ix,B s.at_.1,x,y]) (o:=0) (fun j v hj=>by rcases j with _|_|_|_|_|j<;>simp_all) Tryz.underlying48 rfl (by kernel_rfl)) ?_
  refine cF 14 E E (by kernel_rfl) E hS ?_
  refine iA (fun z=>[(0,.pointer (some ⟨g,0,none⟩)),(1,pv),(2,.pointer (some ⟨gm,0,none⟩)),(6,.pointer (some ⟨g6,0,none⟩)),(7,.pointer (some ⟨g7,0,none⟩)),(8,.pointer (some ⟨z.2.2,0,none⟩))]) (fun(z:Value×List Value×Nat) w1=>tE w0 w9 (fun k=>F k∨k=g6) z.2.2 gm mv1 z.1 ((ms++a.miss (path++[s]))++b.miss (path++[be s])) b.node z.2.1 w1) #[true,true,true,true,true,true,true,true,true,true,true,true,true,true,true,true,true,true] 0 ?_ (fun hk=>?_)
  rotate_left
  ·refine iA (fun z=>[(0,.pointer (some ⟨g,0,none⟩)),(1,pv),(2,.pointer (some ⟨gm,0,none⟩)),(6,.pointer (some ⟨g6,0,none⟩)),(7,.pointer (some ⟨g7,0,none⟩)),(55,.pointer (some ⟨g2,0,none⟩)),(65,.pointer (some ⟨gm,0,none⟩)),(57,z.1),(63,z.2.1),(8,.pointer (some ⟨z.2.2,0,none⟩))]) (fun(z:Value×Value×Nat) w1=>aH w9 w1∧dY 48 5 w9.heap.size (fun k=>YM gm mv1 k∨((F k∨k=g6)∨k=z.2.2)) c9 path z.1 w1∧Sl 5 [I (be s).kd,I (be s).ix,B (be s).at_.1,x,y] z.2.1 w1∧bQ z.2.2 52 [.slice none 0 0,I 0,I 0,B false,.slice none 0 0,.slice none 0 0,.slice none 0 0,B false,.slice none 0 0] w1∧w9.heap.size≤z.2.2∧z.1.ownBlock≠some z.2.2) #[true,true,true,true,true,true,true,true,true,true,true,true,true,false,true,false,true,false] 3 ?_ (fun hk2=>?_)
   ·rintro⟨v42,v47,gc⟩ wg ⟨xg,b42,b47,k7,l7,ne42⟩
    have l7b:=k7.lt
    have own42:=b42.lt
    obtain⟨v48,w48,hr48,o48,e48,m48,n48⟩:=pE (X:=(fun k=>YM gm mv1 k∨((F k∨k=g6)∨k=gc))) (d:=be s) e9 xg (aH.refl _) (fun k hk=>by rcases hk with hk|hk|hk;exact hXy k (.inl hk);exact hXy k (.inr hk);(have:k=gc:=hk;dsimp only at l7;omega)) hsx hsy b42 b47 hpl
    have own48:=o48.lt
    have s48:=m48.size
    refine aO 13 (by kernel_rfl) E (aT E E hr48 (ao (kg9.ext e48) ?_))
    refine aO 15 (by kernel_rfl) rfl (an gY rfl rfl (lT (F':=fun k=>(F k∨k=g6)∨k=gc) hB hFF2 e9 e48 j29 K1.st hd7 (by simp;omega) (by simp only[List.length_append,jm] at*;omega) o48 (fun k hk=>hk.imp id fun h=>by dsimp only at l7 l7b;omega) (fun k hk hk2=>by rcases hk2 with hk2|hk2;(have:=(own48 k hk).1;have:=hFl k hk2;omega);(rcases n48 k hk with h|h;exact ne42 (hk2▸h);(dsimp only at l7b;omega)))) ?_)
    rintro v50 w50 ⟨cs,mvk,rfl,h1,hr,hs,hm,hoo⟩
    refine ao (hm.blk (kg9.ext e48) hny1) ?_
    obtain⟨w8,hs8,K⟩:=tE.early e48 h1 hr hs hm hoo sW l7 hYw (m48.blk k7 ne42) rfl
    refine aO 17 (by kernel_rfl) E (ay E E hs8 (ao (K.m.blk kg9 hny1) ?_))
    exact hk _ _ ⟨(mvk,cs,gc),⟨rfl,rfl,rfl,rfl,rfl,rfl,trivial⟩,K⟩
   ·refine iA (fun z=>[(0,.pointer (some ⟨g,0,none⟩)),(1,pv),(2,.pointer (some ⟨gm,0,none⟩)),(6,.pointer (some ⟨g6,0,none⟩)),(7,.pointer (some ⟨g7,0,none⟩)),(55,.pointer (some ⟨g2,0,none⟩)),(65,.pointer (some ⟨gm,0,none⟩)),(57,z.1),(63,z.2)]) (fun(z:Value×Value) w1=>aH w9 w1∧dY 48 5 w9.heap.size (fun k=>YM gm mv1 k∨(F k∨k=g6)) c9 path z.1 w1∧Sl 5 [I (be s).kd,I (be s).ix,B (be s).at_.1,x,y] z.2 w1) #[true,true,true,true,true,true,true,true,true,true,true,true,true,false,true,false,false,false] 4 ?_ (fun hk1=>?_)
    ·rintro⟨v42,v47⟩ wg ⟨xg,b42,b47⟩
     have own42:=b42.lt
     have sg:=xg.size
     refine ep 13 16 (by kernel_rfl) E E ?_ ?_
     ·obtain⟨v48,w48,hr48,o48,e48,m48,n48⟩:=pE (d:=be s) e9 xg (aH.refl _) hXy hsx hsy b42 b47 hpl
      have own48:=o48.lt
      refine aT E E hr48 (ao (kg9.ext e48) ?_)
      refine ep 15 16 (by kernel_rfl) E E ?_ ?_
      ·have zz:=e48.size
       refine an gY E E (lT hB hFF2 e9 e48 j29 K1.st hd7 (by simp;omega) (by simp only[List.length_append,jm] at*;omega) o48 (fun k hk=>.inl hk) (fun k hk hk2=>by have:=(own48 k hk).1;have:=hFl k hk2;omega)) ?_
       rintro v50 w50 ⟨cs,mvk,rfl,h1,hr,hs,hm,hoo⟩
       refine ao (hm.blk (kg9.ext e48) hny1) ?_
       obtain⟨gc,w7,hr7,l7,x7,k7⟩:=bA (w:=w50)
       refine aO 16 (by kernel_rfl) E (aS E hr7 (ao ((hm.blk (kg9.ext e48) hny1).ext x7) ?_))
       obtain⟨w8,hs8,K⟩:=tE.late e48 h1 hr hs hm hoo x7 l7 k7 rfl
       refine aO 17 (by kernel_rfl) E (ay E E hs8 (ao (K.m.blk kg9 hny1) ?_))
       exact hk _ _ ⟨(mvk,cs,gc),⟨rfl,rfl,rfl,rfl,rfl,rfl,trivial⟩,K⟩
      ·obtain⟨gc,w7,hr7,l7,x7,k7⟩:=bA (w:=w48)
       have s48:=e48.size
       have l7b:=k7.lt
       refine aS E hr7 (ao (kg9.ext (e48.trans x7)) ?_)
       refine aO 15 (by kernel_rfl) rfl (an gY rfl rfl (lT (F':=fun k=>(F k∨k=g6)∨k=gc) hB hFF2 e9 (e48.trans x7) j29 K1.st hd7 (by simp;omega) (by simp only[List.length_append,jm] at*;omega) ((o48.weak (fun k hk=>by rcases hk with hk|hk|hk;exact .inl (.inl hk);exact .inl (.inr hk);exact .inr (by omega))).ext x7) (fun k hk=>hk.imp id fun h=>by omega) (fun k hk hk2=>by rcases hk2 with hk2|hk2;(have:=(own48 k hk).1;have:=hFl k hk2;omega);(have:=(own48 k hk).2;omega))) ?_)
       rintro v50 w50 ⟨cs,mvk,rfl,h1,hr,hs,hm,hoo⟩
       refine ao (hm.blk (kg9.ext (e48.trans x7)) hny1) ?_
       obtain⟨w8,hs8,K⟩:=tE.early (e48.trans x7) h1 hr hs hm hoo sW (by omega) hYw k7 rfl
       refine aO 17 (by kernel_rfl) E (ay E E hs8 (ao (K.m.blk kg9 hny1) ?_))
       exact hk _ _ ⟨(mvk,cs,gc),⟨rfl,rfl,rfl,rfl,rfl,rfl,trivial⟩,K⟩
     ·obtain⟨gc,w7,hr7,l7,x7,k7⟩:=bA (w:=wg)
      refine aS E hr7 (ao (kg9.ext (xg.trans x7)) ?_)
      exact hk2 _ _ ⟨(v42,v47,gc),⟨rfl,rfl,rfl,rfl,rfl,rfl,rfl,rfl,rfl,rfl,trivial⟩,xg.trans x7,(b42.weak (fun k hk=>by rcases hk with hk|hk|hk;exact .inl (.inl hk);exact .inl (.inr hk);(have:k=gc:=hk;exact .inr (by omega)))).ext x7,b47.ext x7,k7,(show w9.heap.size≤gc by omega),fun h=>by have:=(own42 gc h).2;omega⟩
    ·refine ep 6 16 (by kernel_rfl) E E ?_ ?_
     ·refine an fp E E (ft (hp9.ext eD) hpl) ?_
      rintro va1 wz1 ⟨x1,oo1⟩
      have oz1:=oo1.low (eD).size
      have ez1:aH w9 wz1:=eD.trans x1
      refine ao (kg9.ext ez1) ?_
      refine ep 11 16 (by kernel_rfl) E E ?_ ?_
      ·refine an iV E E (iW (d:=s) (ho.ext (e9.trans ez1)) (hsx.ext (e9.trans ez1)) (hsy.ext (e9.trans ez1))) ?_
       rintro vb2 wz2 ⟨x2,rfl⟩
       have ez2:aH w9 wz2:=ez1.trans x2
       refine ao (kg9.ext ez2) ?_
       have oz2:=oz1.ext x2
       refine ep 12 16 (by kernel_rfl) E E ?_ ?_
       ·obtain⟨vr3,wz3,hr3,x3,bz3⟩:=i8 (w:=wz2) (d:=be s) (x:=x) (y:=y)
        have ez3:aH w9 wz3:=ez2.trans x3
        refine aF (vs:=[(0,.agg #[I (be s).kd,I (be s).ix,B (be s).at_.1,x,y])]) E E hr3 (ao (kg9.ext ez3) ?_)
        have oz3:=oz2.ext x3
        exact hk1 _ _ ⟨(va1,vr3),⟨rfl,rfl,rfl,rfl,rfl,rfl,rfl,rfl,rfl,trivial⟩,ez3,oz3,bz3⟩
       ·obtain⟨gc4,wz4,hr4,l4,x4,k4⟩:=bA (w:=wz2)
        have la4:=ez2.size
        have lb4:=k4.lt
        refine aS E hr4 (ao (kg9.ext (ez2.trans x4)) ?_)
        have ez4:aH w9 wz4:=(ez2.trans x4)
        have oz4:=(oz2.weak (Y:=(fun k=>YM gm mv1 k∨((F k∨k=g6)∨k=gc4))) (fun k hk=>by rcases hk with hk|hk|hk;exact .inl (.inl hk);exact .inl (.inr hk);(have:k=gc4:=hk;exact .inr (by omega)))).ext x4
        have nz4:va1.ownBlock≠some gc4:=fun h=>by have:=(oz2.lt gc4 h).2;omega
        obtain⟨vr5,wz5,hr5,x5,bz5⟩:=i8 (w:=wz4) (d:=be s) (x:=x) (y:=y)
        have ez5:aH w9 wz5:=ez4.trans x5
        refine aO 12 (by kernel_rfl) E (aF (vs:=[(0,.agg #[I (be s).kd,I (be s).ix,B (be s).at_.1,x,y])]) E E hr5 (ao (kg9.ext ez5) ?_))
        have oz5:=oz4.ext x5
        have kz5:=k4.ext x5
        exact hk2 _ _ ⟨(va1,vr5,gc4),⟨rfl,rfl,rfl,rfl,rfl,rfl,rfl,rfl,rfl,rfl,trivial⟩,ez5,oz5,bz5,kz5,(show w9.heap.size≤gc4 by omega),nz4⟩
      ·obtain⟨gc6,wz6,hr6,l6,x6,k6⟩:=bA (w:=wz1)
       have la6:=ez1.size
       have lb6:=k6.lt
       refine aS E hr6 (ao (kg9.ext (ez1.trans x6)) ?_)
       have ez6:aH w9 wz6:=(ez1.trans x6)
       have oz6:=(oz1.weak (Y:=(fun k=>YM gm mv1 k∨((F k∨k=g6)∨k=gc6))) (fun k hk=>by rcases hk with hk|hk|hk;exact .inl (.inl hk);exact .inl (.inr hk);(have:k=gc6:=hk;exact .inr (by omega)))).ext x6
       have nz6:va1.ownBlock≠some gc6:=fun h=>by have:=(oz1.lt gc6 h).2;omega
       refine aO 11 (by kernel_rfl) E (an iV E E (iW (d:=s) (ho.ext (e9.trans ez6)) (hsx.ext (e9.trans ez6)) (hsy.ext (e9.trans ez6))) ?_)
       rintro vb7 wz7 ⟨x7,rfl⟩
       have ez7:aH w9 wz7:=ez6.trans x7
       refine ao (kg9.ext ez7) ?_
       have oz7:=oz6.ext x7
       have kz7:=k6.ext x7
       obtain⟨vr8,wz8,hr8,x8,bz8⟩:=i8 (w:=wz7) (d:=be s) (x:=x) (y:=y)
       have ez8:aH w9 wz8:=ez7.trans x8
       refine aO 12 (by kernel_rfl) E (aF (vs:=[(0,.agg #[I (be s).kd,I (be s).ix,B (be s).at_.1,x,y])]) E E hr8 (ao (kg9.ext ez8) ?_))
       have oz8:=oz7.ext x8
       have kz8:=kz7.ext x8
       exact hk2 _ _ ⟨(va1,vr8,gc6),⟨rfl,rfl,rfl,rfl,rfl,rfl,rfl,rfl,rfl,rfl,trivial⟩,ez8,oz8,bz8,kz8,(show w9.heap.size≤gc6 by omega),nz6⟩
     ·obtain⟨gc9,wz9,hr9,l9,x9,k9⟩:=bA (w:=w9.drew)
      have la9:=eD.size
      have lb9:=k9.lt
      refine aS E hr9 (ao (kg9.ext (eD.trans x9)) ?_)
      have ez9:aH w9 wz9:=(eD.trans x9)
      refine aO 6 (by kernel_rfl) rfl (an fp rfl rfl (ft ((hp9.weak (Y:=(fun k=>YM gm mv1 k∨((F k∨k=g6)∨k=gc9))) (fun k hk=>by rcases hk with hk|hk|hk;exact .inl (.inl hk);exact .inl (.inr hk);(have:k=gc9:=hk;have:=(show w9.heap.size≤gc9 by omega);exact .inr (by omega)))).ext ez9) hpl) ?_)
      rintro va10 wz10 ⟨x10,oo10⟩
      have oz10:=oo10.low (ez9).size
      have ez10:aH w9 wz10:=ez9.trans x10
      refine ao (kg9.ext ez10) ?_
      have nz10:va10.ownBlock≠some gc9:=fun h=>by have:=(oo10.lt gc9 h).1;have:=k9.lt;omega
      have kz10:=k9.ext x10
      refine aO 11 (by kernel_rfl) E (an iV E E (iW (d:=s) (ho.ext (e9.trans ez10)) (hsx.ext (e9.trans ez10)) (hsy.ext (e9.trans ez10))) ?_)
      rintro vb11 wz11 ⟨x11,rfl⟩
      have ez11:aH w9 wz11:=ez10.trans x11
      refine ao (kg9.ext ez11) ?_
      have oz11:=oz10.ext x11
      have kz11:=kz10.ext x11
      obtain⟨vr12,wz12,hr12,x12,bz12⟩:=i8 (w:=wz11) (d:=be s) (x:=x) (y:=y)
      have ez12:aH w9 wz12:=ez11.trans x12
      refine aO 12 (by kernel_rfl) E (aF (vs:=[(0,.agg #[I (be s).kd,I (be s).ix,B (be s).at_.1,x,y])]) E E hr12 (ao (kg9.ext ez12) ?_))
      have oz12:=oz11.ext x12
      have kz12:=kz11.ext x12
      exact hk2 _ _ ⟨(va10,vr12,gc9),⟨rfl,rfl,rfl,rfl,rfl,rfl,rfl,rfl,rfl,rfl,trivial⟩,ez12,oz12,bz12,kz12,(show w9.heap.size≤gc9 by omega),nz10⟩
  rintro⟨mv2,csB,g8⟩ w14 K2
  refine fx (by kernel_rfl) ?_
  refine ab (af ?_)
  have hs9:=K1.m.size
  have hs14:=K2.m.size
  have kg14:=K2.m.blk kg9 hny1
  have k714:=K2.m.blk K1.k7 K1.n7
  have n61:¬YM gm mv1 g6:=fun h=>(hy1 g6 h).elim n6 (fun h=>by omega)
  have k614:=K2.m.blk (K1.m.blk k6 n6) n61
  have rpA:bZ (AV w0 w6.heap.size gm mv2) w14 (bh a.node) csA:=K1.rp.mv (K2.m.weak fun k hk _=>.inl hk) fun k hk=>by
   rcases hk with hk|hk
   ·exact(YM.grow K2.own hk).imp .inl id
   ·exact .inl (.inr hk)
  have rpB:bZ (AV w0 w6.heap.size gm mv2) w14 (bh b.node) csB:=K2.rp.weak fun k hk=>.inl (hk.imp id fun h=>⟨h.1,by omega⟩)
  have n62:¬YM gm mv2 g6:=fun h=>(YM.grow K2.own h).elim n61 fun h=>by omega
  have hAV:∀k,AV w0 w6.heap.size gm mv2 k→k<w14.heap.size:=fun k hk=>by
   rcases hk with hk|hk
   ·exact(K2.st.ym_young hk).2
   ·omega
  have e14:aH w0 w14:=K2.m.ext_from e9 fun k hk=>(K1.st.ym_young hk).1
  refine bP 8 [6,74] (by kernel_rfl) (by kernel_rfl) ?_
  refine ax rfl rfl (dz rfl rfl (aX rfl rfl (fun w hw=>av (o:=0) Tryz.underlying114 rfl (by kernel_rfl) rfl) (aQ rfl rfl (fun w hw=>(kg14.ext hw).ldO (ms:=[I s.kd,I s.ix,B s.at_.1,x,y]) (o:=0) (fun j v hj=>by rcases j with _|_|_|_|_|_|_|_|_|j<;>simp_all) Tryz.underlying48 rfl (by kernel_rfl)) ?_)))
  refine aQ E E (fun w' hw=>(k714.ext hw).ld Lk E (Fh rpA)) ?_
  refine aQ E E (fun w' hw=>(K2.k7.ext hw).ld Lk E (Fh rpB)) ?_
  refine eG (S:=fun v w'=>bZ (AV w0 w6.heap.size gm mv2) w' (.sl ([a.node,b.node].map bh)) [v]∧v.oneCell'=true) (fun _ _ _ h hx=>⟨h.1.ext hx,h.2⟩) rfl (fun w' hw=>by rintro _ rfl _ rfl;exact tZ (rpA.ext hw) (rpB.ext hw) fun k hk=>Nat.lt_of_lt_of_le (hAV k hk) hw.size) ?_
  refine oX (S:=fun v w'=>∃kv,v=.agg #[.slice none 0 0,I s.kd,I s.ix,B s.at_.1,x,y,kv,B false,.slice none 0 0]∧bZ (AV w0 w6.heap.size gm mv2) w' (.sl ([a.node,b.node].map bh)) [kv]∧kv.oneCell'=true) (fun _ _ _ ⟨kv,h1,h2,h3⟩ hx=>⟨kv,h1,h2.ext hx,h3⟩) E (fun w' hw=>by
 rintro _ rfl kv ⟨h1,h2⟩
 obtain⟨A,n,c,rfl⟩:=h1.isSl
 obtain⟨_,_,_,rfl⟩:=hsx.isS
 obtain⟨_,_,_,rfl⟩:=hsy.isS
 exact⟨_,w',run_build _ _ _ #[.slice none 0 0,I s.kd,I s.ix,B s.at_.1,_,_,.slice A n c,B false,.slice none 0 0] (by kernel_rfl),aH.refl _,_,rfl,h1,rfl⟩) ?_
  refine cn ?_
  intro wg8 xg8
  rintro _ rfl
  intro vg74 b74
  obtain⟨kv,rfl,hkv,hk1⟩:=b74
  obtain⟨w15,s15,q15,k15⟩:=(k614.ext xg8).stS (P:=Tryz.prog) (t:=52) (m:=[.slice none 0 0,I s.kd,I s.ix,B s.at_.1,x,y,kv,B false,.slice none 0 0]) rfl (by kernel_rfl) (ap.cons rfl (ap.cons rfl (ap.cons rfl (ap.cons rfl (ap.cons hsx.one (ap.cons hsy.one (ap.cons hk1 (ap.cons rfl (ap.cons rfl ap.nil)))))))))
  have m15:Mv (fun k=>k=g6) wg8 w15:=Mv.of_grown q15 fun k hk _=>(Option.some.inj hk).symm
  refine ay E E s15 ?_
  refine ag (ab (aw ?_))
  refine cM E E k15 Lk E (by kernel_rfl) ?_
  have hx8:=xg8.size
  refine⟨_,rfl,[.slice none 0 0,I s.kd,I s.ix,B s.at_.1,x,y,kv,B false,.slice none 0 0],mv2,rfl,ap.cons E (ap.cons E (ap.cons E (ap.cons E (ap.cons hsx.one (ap.cons hsy.one (ap.cons hk1 (ap.cons E (ap.cons E ap.nil)))))))),?_,?_,?_,fun k hk=>(K2.own k hk).elim (fun h=>(K1.own k h).imp id fun h=>by omega) fun h=>.inr (by omega)⟩
  ·rw[ht]
   have h1:bZ (AV w0 w6.heap.size gm mv2) wg8 (bh (.mk [] s [a.node,b.node] false [])) [.slice none 0 0,I s.kd,I s.ix,B s.at_.1,x,y,kv,B false,.slice none 0 0]:=fH nK (((qm hsx hsy).x.ext (e14.trans xg8)).weak fun k hk=>.inl (hk.elim (fun h=>(K2.st.ym_young h).1) fun h=>h.1)) hkv nK
   have h2:=h1.mv (m15.weak (Y:=AV w0 w6.heap.size gm mv2) fun k hk _=>.inr (by have e:k=g6:=hk;omega)) fun _ h=>.inl h
   exact h2.weak fun k hk=>.inl (hk.imp id fun h=>⟨h.1,by omega⟩)
  ·have h1:=((K2.st.ext xg8).sto m15 (.inr rfl) n62).weak (G:=F) fun k hk=>.inl (.inl hk)
   rw[ht]
   simpa only[JT.miss,List.append_assoc] using h1
  ·exact((((Mv.of_ext (X:=YM gm mv) x6).trans K1.m fun _ h _=>h).trans K2.m fun k hk hlt=>(hy1 k hk).resolve_right (by omega)).trans (Mv.of_ext (X:=YM gm mv) xg8) fun _ h _=>h).trans m15 fun k hk hlt=>by have e:k=g6:=hk;omega
end Go.Rl
namespace Go.Rl
open Go.RowKit Go.Proofs
theorem yd:aJ Tryz.prog 64:=⟨_,Tryz.func64,by kernel_rfl,rfl⟩
section
variable {w0 w w' w1:World} {g gc g1 g2:Nat} {t tc a b:JT} {ids ic i1 i2:List Nat} {n:aP} {pt ps:List bj} {d s:bj} {x y p q:Value}
def Lg (w0 w:World) (g:Nat) (t:JT) (ids:List Nat) (n:aP) (pt:List bj) (w':World):Prop:=
 ∃t' ids',gd n pt t=some t'∧Mv (fun k=>k∈ids) w w'∧jq w0 w' g t' ids'∧∀k∈ids',k∈ids∨w.heap.size≤k
def sY (w0 w:World) (g:Nat) (t:JT) (ids:List Nat) (n:aP) (pt ps:List bj) (gc:Nat) (tc:JT) (ic:List Nat) (w':World):Prop:=
 (∀w'' t'' i'',Mv (fun k=>k∈ic) w' w''→gd n ps tc=some t''→jq w0 w'' gc t'' i''→(∀k∈i'',k∈ic∨w'.heap.size≤k)→Lg w0 w g t ids n pt w'')∧(gd n ps tc=none→gd n pt t=none)
theorem sY.start (e:aH w w'):sY w0 w g t ids n pt pt g t ids w':=
 ⟨fun _ t'' i'' m h1 h2 h3=>⟨t'',i'',h1,(Mv.of_ext (X:=fun k=>k∈ids) e).trans m fun _ hk _=>hk,h2,fun k hk=>(h3 k hk).imp id fun h=>Nat.le_trans e.size h⟩,id⟩
theorem Hm (hop:qr d t=.split s a b) (hs:s=d):gd n (d::ps) t=(gd n ps a).map fun a'=>.split s a' b:=by
 show(match qr d t with
  |.split s a b=>if s=d then(gd n ps a).map fun a'=>JT.split s a' b else if be s=d then(gd n ps b).map fun b'=>.split s a b' else none
  |.leaf _=>none
  |.gap=>none)=_
 rw[hop]
 simp only[]
 rw[if_pos hs]
theorem Hn (hop:qr d t=.split s a b) (hs:¬s=d) (ho:be s=d):gd n (d::ps) t=(gd n ps b).map fun b'=>.split s a b':=by
 show(match qr d t with
  |.split s a b=>if s=d then(gd n ps a).map fun a'=>JT.split s a' b else if be s=d then(gd n ps b).map fun b'=>.split s a b' else none
  |.leaf _=>none
  |.gap=>none)=_
 rw[hop]
 simp only[]
 rw[if_neg hs,if_pos ho]
def Dw (d:bj) (t:JT):Prop:=(∃m,t=.leaf m)∨∃s a b,qr d t=.split s a b∧s≠d∧be s≠d
theorem Kh (h:Dw d t):gd n (d::ps) t=none:=by
 show(match qr d t with
  |.split s a b=>if s=d then(gd n ps a).map fun a'=>JT.split s a' b else if be s=d then(gd n ps b).map fun b'=>.split s a b' else none
  |.leaf _=>none
  |.gap=>none)=_
 rcases h with⟨m,rfl⟩|⟨s,a,b,hop,h1,h2⟩
 ·rfl
 ·rw[hop]
  simp only[]
  rw[if_neg h1,if_neg h2]
theorem E0 (d:bj) (t:JT):(∃s a b,qr d t=.split s a b∧s=d)∨(∃s a b,qr d t=.split s a b∧(¬s=d)∧be s=d)∨Dw d t:=by
 have key:∀s a b,qr d t=.split s a b→(∃s a b,qr d t=.split s a b∧s=d)∨(∃s a b,qr d t=.split s a b∧(¬s=d)∧be s=d)∨Dw d t:=fun s a b h=>by
  by_cases h1:s=d
  ·exact .inl ⟨s,a,b,h,h1⟩
  ·by_cases h2:be s=d
   ·exact .inr (.inl ⟨s,a,b,h,h1,h2⟩)
   ·exact .inr (.inr (.inr ⟨s,a,b,h,h1,h2⟩))
 cases t with
 |gap=>exact key _ _ _ rfl
 |leaf m=>exact .inr (.inr (.inl ⟨m,rfl⟩))
 |split s a b=>exact key _ _ _ rfl
theorem lS.swap (h:lS w0 w g ids s a b x y g1 g2 i1 i2 w'):aH w0 w→aH w0 w':=fun e=>h.mv.ext_from e fun k hk=>by have:=h.young;omega
theorem sY.ext (h:sY w0 w g t ids n pt ps gc tc ic w') (e:aH w' w1):sY w0 w g t ids n pt ps gc tc ic w1:=
 ⟨fun w'' t'' i'' m h1 h2 h3=>h.1 w'' t'' i'' ((Mv.of_ext (X:=fun k=>k∈ic) e).trans m fun _ hk _=>hk) h1 h2 fun k hk=>(h3 k hk).imp id fun h=>Nat.le_trans e.size h,h.2⟩
theorem sY.go1 (h:sY w0 w g t ids n pt (d::ps) gc tc ic w') (hin:gc∈ic) (hM:lS w0 w' gc ic s a b x y g1 g2 i1 i2 w1) (hop:qr d tc=.split s a b) (hs:s=d):sY w0 w g t ids n pt ps g1 a i1 w1:=by
 have sz:=hM.mv.size
 refine⟨fun w'' t'' i'' m h1 h2 h3=>?_,fun h1=>h.2 (by rw[Hm hop hs,h1];rfl)⟩
 have gl:=hM.blk.lt
 have m1:Mv (fun k=>k∈ic) w' w1:=hM.mv.weak fun k hk _=>by have e:k=gc:=hk;rw[e];exact hin
 have hf:∀k∈i'',k∈i1∨w1.heap.size≤k:=h3
 have j2:=hM.k2.mv m fun k hk hk'=>hM.n3 k hk' hk
 refine h.1 w'' (.split s t'' b) (gc::(i''++i2)) (m1.trans m fun k hk hkl=>(hM.fresh k (.inl hk)).resolve_right (by omega)) (by rw[Hm hop hs,h1];rfl) (jq.split hM.hx hM.hy (m.blk hM.blk hM.n1) h2 j2 hM.young (fun hk=>?_) hM.n2 fun k hk hk2=>?_) fun k hk=>?_
 ·rcases hf _ hk with h4|h4
  ·exact hM.n1 h4
  ·omega
 ·rcases hf _ hk with h4|h4
  ·exact hM.n3 k h4 hk2
  ·have:=hM.k2.lt k hk2;omega
 ·simp only[List.mem_cons,List.mem_append] at hk
  rcases hk with rfl|hk|hk
  ·exact .inl hin
  ·rcases hf _ hk with h4|h4
   ·exact hM.fresh k (.inl h4)
   ·exact .inr (by omega)
  ·exact hM.fresh k (.inr hk)
theorem sY.go2 (h:sY w0 w g t ids n pt (d::ps) gc tc ic w') (hin:gc∈ic) (hM:lS w0 w' gc ic s a b x y g1 g2 i1 i2 w1) (hop:qr d tc=.split s a b) (hs:¬s=d) (ho:be s=d):sY w0 w g t ids n pt ps g2 b i2 w1:=by
 have sz:=hM.mv.size
 refine⟨fun w'' t'' i'' m h1 h2 h3=>?_,fun h1=>h.2 (by rw[Hn hop hs ho,h1];rfl)⟩
 have gl:=hM.blk.lt
 have m1:Mv (fun k=>k∈ic) w' w1:=hM.mv.weak fun k hk _=>by have e:k=gc:=hk;rw[e];exact hin
 have hf:∀k∈i'',k∈i2∨w1.heap.size≤k:=h3
 have j1:=hM.k1.mv m fun k hk hk'=>hM.n3 k hk hk'
 refine h.1 w'' (.split s a t'') (gc::(i1++i'')) (m1.trans m fun k hk hkl=>(hM.fresh k (.inr hk)).resolve_right (by omega)) (by rw[Hn hop hs ho,h1];rfl) (jq.split hM.hx hM.hy (m.blk hM.blk hM.n2) j1 h2 hM.young hM.n1 (fun hk=>?_) fun k hk1 hk=>?_) fun k hk=>?_
 ·rcases hf _ hk with h4|h4
  ·exact hM.n2 h4
  ·omega
 ·rcases hf _ hk with h4|h4
  ·exact hM.n3 k hk1 h4
  ·have:=hM.k1.lt k hk1;omega
 ·simp only[List.mem_cons,List.mem_append] at hk
  rcases hk with rfl|hk|hk
  ·exact .inl hin
  ·exact hM.fresh k (.inl hk)
  ·rcases hf _ hk with h4|h4
   ·exact hM.fresh k (.inr h4)
   ·exact .inr (by omega)
end
section
variable {w0 w:World} {g:Nat} {t a b:JT} {ids:List Nat} {d s:bj} {p q:Value}
theorem IE (e0:aH w0 w) (ho:zQ w0) (hJ:jq w0 w g t ids) (hp:bk d.at_.2.1 p w0) (hq:bk d.at_.2.2 q w0) (hop:qr d t=.split s a b) (hs:s=d):
 Calls Tryz.prog 108 #[.pointer (some ⟨g,0,none⟩),.agg #[I d.kd,I d.ix,B d.at_.1,p,q]] w (bN fun r w'=>aH w0 w'∧∃x y g1 g2 i1 i2,lS w0 w g ids s a b x y g1 g2 i1 i2 w'∧r=.tuple #[.pointer (some ⟨g1,0,none⟩),B true]):=by
 refine bN.mono (qx e0 ho hJ hp hq) fun r w' h=>?_
 rcases h with⟨m,rfl,_⟩|⟨s',a',b',x,y,g1,g2,i1,i2,h1,h2,h3⟩
 ·cases hop
 ·rw[hop] at h1
  obtain⟨rfl,rfl,rfl⟩:=JT.split.inj h1
  rw[if_pos hs] at h3
  exact⟨h2.swap e0,x,y,g1,g2,i1,i2,h2,h3⟩
theorem IF (e0:aH w0 w) (ho:zQ w0) (hJ:jq w0 w g t ids) (hp:bk d.at_.2.1 p w0) (hq:bk d.at_.2.2 q w0) (hop:qr d t=.split s a b) (hs:¬s=d) (h0:be s=d):
 Calls Tryz.prog 108 #[.pointer (some ⟨g,0,none⟩),.agg #[I d.kd,I d.ix,B d.at_.1,p,q]] w (bN fun r w'=>aH w0 w'∧∃x y g1 g2 i1 i2,lS w0 w g ids s a b x y g1 g2 i1 i2 w'∧r=.tuple #[.pointer (some ⟨g2,0,none⟩),B true]):=by
 refine bN.mono (qx e0 ho hJ hp hq) fun r w' h=>?_
 rcases h with⟨m,rfl,_⟩|⟨s',a',b',x,y,g1,g2,i1,i2,h1,h2,h3⟩
 ·cases hop
 ·rw[hop] at h1
  obtain⟨rfl,rfl,rfl⟩:=JT.split.inj h1
  rw[if_neg hs,if_pos h0] at h3
  exact⟨h2.swap e0,x,y,g1,g2,i1,i2,h2,h3⟩
theorem IG (e0:aH w0 w) (ho:zQ w0) (hJ:jq w0 w g t ids) (hp:bk d.at_.2.1 p w0) (hq:bk d.at_.2.2 q w0) (hn:Dw d t):
 Calls Tryz.prog 108 #[.pointer (some ⟨g,0,none⟩),.agg #[I d.kd,I d.ix,B d.at_.1,p,q]] w (bN fun r w'=>aH w0 w'∧Mv (fun k=>k=g) w w'∧r=.tuple #[.pointer none,B false]):=by
 refine bN.mono (qx e0 ho hJ hp hq) fun r w' h=>?_
 rcases h with⟨m,rfl,h1,h2⟩|⟨s',a',b',x,y,g1,g2,i1,i2,h1,h2,h3⟩
 ·exact⟨e0.trans h1,Mv.of_ext h1,h2⟩
 ·refine⟨h2.swap e0,h2.mv,?_⟩
  rcases hn with⟨m,rfl⟩|⟨s,a,b,hop,n1,n2⟩
  ·cases h1
  ·rw[hop] at h1
   obtain⟨rfl,rfl,rfl⟩:=JT.split.inj h1
   rw[if_neg n1,if_neg n2] at h3
   exact h3
end
theorem t3 {w:World} {n:aP} {vl x y vk vp:Value} (hl:cd cP n.lems vl w) (hx:bk n.split.at_.2.1 x w) (hy:bk n.split.at_.2.2 y w) (hk:cd bh n.kids vk w) (hp:cd bK n.pf vp w):Rp w (bh n) [vl,I n.split.kd,I n.split.ix,B n.split.at_.1,x,y,vk,B n.empty,vp]:=by
 cases n with
 |mk ls s ks em pf=>exact(fH (Rp.x hl) (qm hx hy).x (Rp.x hk) (Rp.x hp)).rp
def Ki (w0 w:World) (g:Nat) (t:JT) (ids:List Nat) (n:aP) (pt:List bj) (r:Value) (w':World):Prop:=aH w0 w'∧Mv (fun k=>k∈ids) w w'∧((gd n pt t=none∧r=B false)∨(r=B true∧Lg w0 w g t ids n pt w'))
theorem ye {w0 w:World} {g:Nat} {t:JT} {ids:List Nat} {u:cm} {vd vl x y vk vp:Value} (e0:aH w0 w) (ho:zQ w0) (hJ:jq w0 w g t ids) (hd:cd c9 u.path vd w0) (hl:cd cP u.leaf.lems vl w0) (hx:bk u.leaf.split.at_.2.1 x w0) (hy:bk u.leaf.split.at_.2.2 y w0) (hk:cd bh u.leaf.kids vk w0) (hp:cd bK u.leaf.pf vp w0):
 Calls Tryz.prog 64 #[.pointer (some ⟨g,0,none⟩),.agg #[vd,vl,I u.leaf.split.kd,I u.leaf.split.ix,B u.leaf.split.at_.1,x,y,vk,B u.leaf.empty,vp]] w (bN fun r w'=>Ki w0 w g t ids u.leaf u.path r w'):=by
 refine enter (vs:=[.pointer (some ⟨g,0,none⟩),.agg #[vd,vl,I u.leaf.split.kd,I u.leaf.split.ix,B u.leaf.split.at_.1,x,y,vk,B u.leaf.empty,vp]]) Tryz.func64 E E E ?_
 refine af (aa ?_)
 obtain⟨g3,w3,hr3,l3,x3,k3⟩:=cq (P:=Tryz.prog) (w:=w) (T:=54) (cs:=[vd,vl,I u.leaf.split.kd,I u.leaf.split.ix,B u.leaf.split.at_.1,x,y,vk,B u.leaf.empty,vp])
 refine cw E E hr3 (ac E E (ag (ab (af (af ?_)))))
 have hll:=hd.len
 have hg3:∀k∈ids,k<g3:=fun k hk=>Nat.lt_of_lt_of_le (hJ.lt k hk) l3
 refine aa (ah E E (av (o:=0) Lr E (by kernel_rfl) E) (aj E E (ai Lu E (k3.cell (i:=0) E)) ?_))
 refine aV E E (aY Lu (hd.ext (e0.trans x3))) (ae E E (ag (ab (aG ?_))))
 refine mj (fun(i:Nat) (gc:Nat) (tc:JT) (ic:List Nat)=>[(0,.pointer (some ⟨gc,0,none⟩)),(3,.pointer (some ⟨g3,0,none⟩)),(4,B false),(11,vd),(12,I ((u.path.length:Nat):Int)),(13,I (i:Int))]) (fun(i:Nat) (gc:Nat) (tc:JT) (ic:List Nat) w'=>aH w0 w'∧i≤u.path.length∧jq w0 w' gc tc ic∧bQ g3 54 [vd,vl,I u.leaf.split.kd,I u.leaf.split.ix,B u.leaf.split.at_.1,x,y,vk,B u.leaf.empty,vp] w'∧g3∉ic∧sY w0 w g t ids u.leaf u.path (u.path.drop i) gc tc ic w'∧Mv (fun k=>k∈ids) w w'∧∀k∈ic,k∈ids∨w.heap.size≤k) (fun(i:Nat) (gc:Nat) (tc:JT) (ic:List Nat)=>u.path.length-i) (0) (g) (t) (ids) ⟨rfl,rfl,rfl,rfl,rfl,rfl,trivial⟩ ⟨e0.trans x3,by omega,hJ.mv (Mv.of_ext (X:=fun _=>False) x3) (fun _ _ h=>h),k3,fun h=>by have:=hg3 _ h;omega,sY.start x3,Mv.of_ext x3,fun k hk=>.inl hk⟩ ?_
 rintro i gc tc ic wL ⟨eL,hi,hjL,kL,nL,hC,mL,frL⟩
 refine af (aa (al E E E (a6) (ag (ab (af ?_)))))
 refine bu E (fun h14=>?_) (fun h14=>?_)
 ·refine aC (ab (af (aG (af (aa ?_)))))
  obtain⟨a15,c15,p15,q15,h15⟩:=cb (P:=Tryz.prog) (sz:=5) Lu (by kernel_rfl) ca (by omega) hd (i:=i) ((by omega)) .i64
  obtain⟨e15,he15⟩:∃e,e=u.path[i]'((by omega)):=⟨_,rfl⟩
  rw[←he15] at h15
  obtain⟨x15_0,x15_1,rfl,f15_0,f15_1⟩:=fY h15
  refine ar E E E (p15 _) (aj E E ((q15.ext eL).ld Lm E (by kernel_rfl)) ?_)
  obtain⟨g6,w6,hr6,l6,x6,k6⟩:=a9 (P:=Tryz.prog) (w:=wL) (t:=48) (z:=.agg #[I 0,I 0,B false,.slice none 0 0,.slice none 0 0]) (l:=[I 0,I 0,B false,.slice none 0 0,.slice none 0 0]) (by kernel_rfl) rfl
  refine aS E hr6 ?_
  obtain⟨w3_3,s3_3,q3_3,k3_3⟩:=k6.stS (P:=Tryz.prog) (t:=48) (m:=[I e15.kd,I e15.ix,B e15.at_.1,x15_0,x15_1]) rfl (by kernel_rfl) (ap.cons rfl (ap.cons rfl (ap.cons rfl (ap.cons f15_0.one (ap.cons f15_1.one ap.nil)))))
  refine ay E E s3_3 ?_
  have x3_3:=aH.of_new (x6) q3_3 l6
  refine ag (ab (af ?_))
  have hdr:u.path.drop i=e15::u.path.drop (i+1):=by rw[he15];exact List.drop_eq_getElem_cons (by omega)
  rw[hdr] at hC
  have hCN:=hC.ext (x3_3)
  have hjN:=hjL.mv (Mv.of_ext (X:=fun _=>False) (x3_3)) (fun _ _ h=>h)
  have hroot:=hjL.root
  have kN:=kL.ext (x3_3)
  have frc:∀k,k=gc→k<w.heap.size→k∈ids:=fun k hk hlt=>(frL k (hk▸hroot)).resolve_right (by omega)
  have mN:Mv (fun k=>k∈ids) w _:=mL.trans (Mv.of_ext (X:=fun k=>k∈ids) (x3_3)) fun _ h _=>h
  have szL:=mL.size
  have hgc:g3≠gc:=fun h=>nL (h▸hroot)
  rcases E0 e15 tc with⟨s,a,b,hop,hs⟩|⟨s,a,b,hop,hs,hs2⟩|hno
  ·refine aa (ae E E (aj E E (k3_3.ld Lm E (by kernel_rfl)) (an qw E E ((IE (ids:=ic) (eL.trans x3_3) ho hjN f15_0 f15_1 hop hs)) ?_)))
   rintro v20 w20 ⟨y20,x1,y1,g1,g2,i1,i2,hM,rfl⟩
   refine ae E E (aA E E (cu) (aA E E (cv) (ac E E (ac E E (ag (ab (af (af (aa (ae E E (bw E E bB ?_)))))))))))
   refine ag (ab (cN E (aC (ab (aa (ae E E (ac E E (ag (aW (ab (aa (al (r:=I ((i+1:Nat):Int)) E E E (by have e:((i+1:Nat):Int)=(i:Int)+1:=(by omega);rw[e];exact aR (by omega) (by omega)) ?_))))))))))))
   refine ae E E (ag ?_)
   refine gF (i+1) (g1) (a) (i1) ⟨rfl,rfl,rfl,rfl,rfl,rfl,trivial⟩ ⟨y20,by omega,hM.k1,hM.mv.blk kN hgc,fun h=>(hM.fresh _ (.inl h)).elim nL fun h=>by have:=kN.lt;omega,hCN.go1 hroot hM hop hs,mN.trans hM.mv frc,fun k hk=>(hM.fresh k (.inl hk)).elim (frL k) fun h=>.inr (by have:=mN.size;omega)⟩ (by omega)
  ·refine aa (ae E E (aj E E (k3_3.ld Lm E (by kernel_rfl)) (an qw E E ((IF (ids:=ic) (eL.trans x3_3) ho hjN f15_0 f15_1 hop hs hs2)) ?_)))
   rintro v20 w20 ⟨y20,x1,y1,g1,g2,i1,i2,hM,rfl⟩
   refine ae E E (aA E E (cu) (aA E E (cv) (ac E E (ac E E (ag (ab (af (af (aa (ae E E (bw E E bB ?_)))))))))))
   refine ag (ab (cN E (aC (ab (aa (ae E E (ac E E (ag (aW (ab (aa (al (r:=I ((i+1:Nat):Int)) E E E (by have e:((i+1:Nat):Int)=(i:Int)+1:=(by omega);rw[e];exact aR (by omega) (by omega)) ?_))))))))))))
   refine ae E E (ag ?_)
   refine gF (i+1) (g2) (b) (i2) ⟨rfl,rfl,rfl,rfl,rfl,rfl,trivial⟩ ⟨y20,by omega,hM.k2,hM.mv.blk kN hgc,fun h=>(hM.fresh _ (.inr h)).elim nL fun h=>by have:=kN.lt;omega,hCN.go2 hroot hM hop hs hs2,mN.trans hM.mv frc,fun k hk=>(hM.fresh k (.inr hk)).elim (frL k) fun h=>.inr (by have:=mN.size;omega)⟩ (by omega)
  ·refine aa (ae E E (aj E E (k3_3.ld Lm E (by kernel_rfl)) (an qw E E ((IG (ids:=ic) (eL.trans x3_3) ho hjN f15_0 f15_1 hno)) ?_)))
   rintro v20 w20 ⟨y20,m20,rfl⟩
   refine ae E E (aA E E (cu) (aA E E (cv) (ac E E (ac E E (ag (ab (af (af (aa (ae E E (bw E E bB ?_)))))))))))
   refine ag (ab (bm E (af (aa (ac E E (ag (ab (aw (az (ba (az (az (ba (az (au E E ?_)))))))))))))))
   exact⟨_,rfl,y20,mN.trans m20 frc,.inl ⟨hC.2 (Kh hno),rfl⟩⟩
 ·refine bc (aK (aK (bf (ab (af (af ?_))))))
  have hgL:w0.heap.size≤gc:=hjL.young gc hjL.root
  rw[List.drop_eq_nil_of_le (by omega)] at hC
  rcases tc with _|m|⟨s,a,b⟩
  ·obtain⟨hid,kg⟩:=zK hjL
   refine aa (ae E E (aE E E (ah E E (av (o:=5) LC E (by kernel_rfl) E) ?_)))
   refine ar E E E (iz LM (by kernel_rfl) (i:=0) (by omega) .i64) ?_
   refine aj E E (ai LG E (kg.cell (i:=5) E)) (al E E E (gE LG) (ag (ab ?_)))
   refine cN E (aC (ab (af (af (aa (ae E E (aE E E (ah E E (av (o:=7) LC E (by kernel_rfl) E) ?_))))))))
   refine aj E E (ai LI E (kg.cell (i:=7) E)) (al E E E (fT LI) (ag (ab (bm E ?_))))
   refine af ?_
   have hlL:=hl.ext eL
   have hxL:=hx.ext eL
   have hyL:=hy.ext eL
   have hkL:=hk.ext eL
   have hpL:=hp.ext eL
   refine aa (ah rfl rfl (av (o:=1) Tryz.underlying54 rfl (by kernel_rfl) rfl) (aj rfl rfl (kL.ldO (ms:=[vl,I u.leaf.split.kd,I u.leaf.split.ix,B u.leaf.split.at_.1,x,y,vk,B u.leaf.empty,vp]) (o:=1) (fun j v hj=>by rcases j with _|_|_|_|_|_|_|_|_|j<;>simp_all) Tryz.underlying52 rfl (by kernel_rfl)) ?_))
   obtain⟨g9,w9,hr9,l9,x9,k9⟩:=a9 (P:=Tryz.prog) (w:=wL) (t:=52) (z:=.agg #[.slice none 0 0,I 0,I 0,B false,.slice none 0 0,.slice none 0 0,.slice none 0 0,B false,.slice none 0 0]) (l:=[.slice none 0 0,I 0,I 0,B false,.slice none 0 0,.slice none 0 0,.slice none 0 0,B false,.slice none 0 0]) (by kernel_rfl) rfl
   refine aS E hr9 ?_
   obtain⟨w12_3,s12_3,q12_3,k12_3⟩:=k9.stS (P:=Tryz.prog) (t:=52) (m:=[vl,I u.leaf.split.kd,I u.leaf.split.ix,B u.leaf.split.at_.1,x,y,vk,B u.leaf.empty,vp]) rfl (by kernel_rfl) (ap.cons hlL.one (ap.cons rfl (ap.cons rfl (ap.cons rfl (ap.cons hxL.one (ap.cons hyL.one (ap.cons hkL.one (ap.cons rfl (ap.cons hpL.one ap.nil)))))))))
   refine ay E E s12_3 ?_
   have x12_3:=aH.of_new (x9) q12_3 l9
   refine ag (ab (aa (ae E E (aE E E (ah E E (av (o:=7) LC E (by kernel_rfl) E) ?_)))))
   obtain⟨w13,s13,q13,k13⟩:=(kg.ext (x12_3)).stC (P:=Tryz.prog) (t:=112) (i:=7) (v:=.pointer (some ⟨g9,0,none⟩)) (by kernel_rfl) rfl (by decide)
   refine ay E E s13 ?_
   have y13:=aH.of_new ((eL.trans x12_3)) q13 hgL
   have m13:=(Mv.of_ext (X:=fun k=>k∈ic) (x12_3)).trans (Mv.of_grown (X:=fun k=>k=gc) q13 fun k hk _=>(Option.some.inj hk).symm) fun k hk _=>by have e:k=gc:=hk;rw[hid,e];simp
   refine ag (ab (af (aa (ac E E (ag (ab (aw (au E E ?_))))))))
   exact⟨_,rfl,y13,mL.trans m13 (fun k hk hlt=>(frL k hk).resolve_right (by omega)),.inr ⟨rfl,hC.1 w13 (.leaf u.leaf) [gc,g9] m13 rfl (jq.leaf k13 (k12_3.other q13 (fun e=>by have:=Option.some.inj e;have:=kg.lt;omega)) (t3 hl hx hy hk hp) hgL (by have:=eL.size;omega) (by have:=kg.lt;omega)) fun k hk=>by
    have:=kg.lt
    simp only[List.mem_cons,List.not_mem_nil,or_false] at hk
    rcases hk with rfl|rfl
    ·exact .inl (by rw[hid];simp)
    ·exact .inr (by omega)⟩⟩
  ·obtain⟨gl,cl,hid,kg,kl,hrl⟩:=tY hjL
   refine aa (ae E E (aE E E (ah E E (av (o:=5) LC E (by kernel_rfl) E) ?_)))
   refine ar E E E (iz LM (by kernel_rfl) (i:=0) (by omega) .i64) ?_
   refine aj E E (ai LG E (kg.cell (i:=5) E)) (al E E E (gE LG) (ag (ab ?_)))
   refine cN E (aC (ab (af (af (aa (ae E E (aE E E (ah E E (av (o:=7) LC E (by kernel_rfl) E) ?_))))))))
   refine aj E E (ai LI E (kg.cell (i:=7) E)) (al E E E (fT LI) (ag (ab (cN E ?_))))
   refine aC (ab (af (aa (ac E E (ag (ab (aw (au E E ?_))))))))
   exact⟨_,rfl,eL,mL,.inr ⟨rfl,hC.1 wL (.leaf m) ic (Mv.refl _ _) rfl hjL fun k hk=>.inl hk⟩⟩
  ·obtain⟨x1,y1,g1,g2,i1,i2,hid,hx1,hy1,kg,j1,j2,_,n1,n2,n3⟩:=hjL.split_inv
   refine aa (ae E E (aE E E (ah E E (av (o:=5) LC E (by kernel_rfl) E) ?_)))
   refine ar E E E (iz LM (by kernel_rfl) (i:=0) (by omega) .i64) ?_
   refine aj E E (ai LG E (kg.cell (i:=5) E)) (al E E E (gE LG) (ag (ab ?_)))
   refine bm E (af (aa (ac E E (ag (ab (aw (az (au E E ?_))))))))
   exact⟨_,rfl,eL,mL,.inl ⟨hC.2 rfl,rfl⟩⟩
end Go.Rl
namespace Go.Rl
open Go.RowKit Go.Proofs
theorem gi:aJ Tryz.prog 25:=⟨_,Tryz.func25,by kernel_rfl,rfl⟩
theorem sZ {w0:World} (ho:zQ w0):∀t:JT,Cv w0 t
 |.gap=>qA ho fun s a b h=>by cases h
 |.leaf n=>qA ho fun s a b h=>by cases h
 |.split s' a' b'=>qA ho fun s a b h=>by
  obtain⟨rfl,rfl,rfl⟩:=JT.split.inj h
  exact⟨sZ ho _,sZ ho _⟩
def rH (es:List cm):(aP×List (List bj))×Int:=
 if es.all fk=false then((Du,[]),1) else
 match gz es .gap with
 |none=>((Du,[]),11)
 |some t=>if iF t.node=false then((Du,[]),8) else((t.node,t.miss []),0)
def rI (es:List cm) (r:Value) (w':World):Prop:=∃cs mv,r=.tuple #[.agg cs.toArray,mv,I (rH es).2]∧ap cs∧Rp w' (bh (rH es).1.1) cs∧cd oT (rH es).1.2 mv w'
def nz:List Value:=[.slice none 0 0,I 0,I 0,B false,.slice none 0 0,.slice none 0 0,.slice none 0 0,B false,.slice none 0 0]
theorem rI.err {es:List cm} {w':World} {c:Int} (h:rH es=((Du,[]),c)):rI es (.tuple #[.agg nz.toArray,.slice none 0 0,I c]) w':=by
 unfold rI
 rw[h]
 exact⟨_,_,rfl,ap.cons rfl (ap.cons rfl (ap.cons rfl (ap.cons rfl (ap.cons rfl (ap.cons rfl (ap.cons rfl (ap.cons rfl (ap.cons rfl ap.nil)))))))),(zr (X:=fun _=>False)).rp,cd.nil _ _⟩
theorem rJ {P:Program} {fn:Func} {R:Ending→World→Prop} {N:Nat} {fr:Fr} {p s1 s2:Tmp} {t T:TypeId} {u1 u2:Value} {l:List Value} {w:World} {g:Nat} {d:TypeDesc} (hr:fn.results= #[.cell p t,.tmp s1,.tmp s2]) (hv:lk fr p=some (.pointer (some ⟨g,0,none⟩))) (h1:lk fr s1=some u1) (h2:lk fr s2=some u2) (hb:bQ g T l w) (hu:P.underlying t=some d) (hd:d.isRow=true) (hi:(P.info? t).map (·.size)=some l.length)
 (h:R (.returned (.tuple #[.agg l.toArray,u1,u2])) w):gC (bodyPost P fn R) N [] fr w .ret:=fun a ha=>by
 refine⟨ha.defers,.tuple #[.agg l.toArray,u1,u2],?_,h⟩
 have hp:=ha.at_ p _ hv
 have hp':a.tmps[p]?.getD undef=.pointer (some ⟨g,0,none⟩):=by simpa using hp
 have q1:=ha.at_ s1 _ h1
 have q2:=ha.at_ s2 _ h2
 have hl:=run_loadVar_row w g T t l.toArray (0,0) d hb hu (by cases d<;>first|rfl|exact hd) (by simpa using hi)
 simp[results,hr,hp',asAddr,hl,←q1,←q2]
theorem Ho {α:Type} {p:α→Bool} {l:List α} {i:Nat} (hi:i<l.length):(l.take (i+1)).all p=((l.take i).all p&&p l[i]):=by
 rw[List.take_succ_eq_append_getElem hi,List.all_append]
 simp
theorem IH {α:Type} {p:α→Bool} {l:List α} {i:Nat} (hi:i<l.length) (h:p l[i]=false):l.all p=false:=by
 cases hh:l.all p with
 |false=>rfl
 |true=>rw[List.all_eq_true] at hh;have:=hh _ (List.getElem_mem hi);rw[h] at this;cases this
theorem lm:∀(a b:List cm) (t:JT),gz (a++b) t=(gz a t).bind (gz b)
 |[],b,t=>rfl
 |e::a,b,t=>by
  simp only[List.cons_append,gz]
  cases ET e t with
  |none=>rfl
  |some t'=>simp only[Option.bind_some];exact lm a b t'
theorem Bf {l:List cm} {i:Nat} (hi:i<l.length) {t:JT} (h:gz (l.take i) .gap=some t):gz (l.take (i+1)) .gap=ET l[i] t:=by
 rw[List.take_succ_eq_append_getElem hi,lm,h]
 simp only[Option.bind_some,gz]
 cases ET l[i] t<;>rfl
theorem E1 {l:List cm} {i:Nat} (h:gz (l.take i) .gap=none):gz l .gap=none:=by
 rw[←List.take_append_drop i l,lm,h];rfl
theorem Cw {u:cm} (h:fk u=true):u.path.length≤2048:=by
 unfold fk at h
 simp only[Bool.and_eq_true,decide_eq_true_eq] at h
 exact h.1.1.1.1
theorem gj {w:World} {es:List cm} {ev:Value} (hv:cd jR es ev w) (hs:∀u∈es,Jj u) (ho:zQ w) (hn:es.length≤1048576):
 Calls Tryz.prog 25 #[ev] w (bN fun r w'=>aH w w'∧rI es r w'):=by
 refine enter (vs:=[ev]) Tryz.func25 E E E ?_
 refine af (aa ?_)
 obtain⟨g2,w2,hr2,l2,x2,k2⟩:=a9 (P:=Tryz.prog) (w:=w) (t:=52) (z:=.agg #[.slice none 0 0,I 0,I 0,B false,.slice none 0 0,.slice none 0 0,.slice none 0 0,B false,.slice none 0 0]) (l:=[.slice none 0 0,I 0,I 0,B false,.slice none 0 0,.slice none 0 0,.slice none 0 0,B false,.slice none 0 0]) (by kernel_rfl) rfl
 refine aS E hr2 (ac E E (ac E E (ag (ab (af (af ?_))))))
 have k20:bQ g2 52 nz w2:=k2
 have hll:=hv.len
 have s2:=x2.size
 have lg2:=k2.lt
 refine aa (ae E E (aV E E (aY LD (hv.ext x2)) (ae E E (ag (ab (aG ?_))))))
 refine ck (α:=Nat) (fun x=>[(0,ev),(2,.pointer (some ⟨g2,0,none⟩)),(3,.slice none 0 0),(4,I 0),(12,ev),(13,I ((es.length:Nat):Int)),(14,I (x:Int))]) (fun x w'=>aH w w'∧x≤es.length∧(es.take x).all fk=true∧bQ g2 52 nz w') (fun x=>es.length-x) (0) ⟨rfl,rfl,rfl,rfl,rfl,rfl,rfl,trivial⟩ ⟨x2,by omega,rfl,k20⟩ ?_
 rintro i wL ⟨eL,hi,hA,kL⟩
 refine af (aa (al E E E (a6) (ag (ab (af ?_)))))
 refine bu E (fun h15=>?_) (fun h15=>?_)
 ·refine aC (ab (af (aG (af (aa ?_)))))
  obtain⟨a16,c16,p16,q16,h16⟩:=cb (P:=Tryz.prog) (sz:=10) LD (by kernel_rfl) bG (by omega) hv (i:=i) ((by omega)) .i64
  obtain⟨e16,he16⟩:∃e,e=es[i]'((by omega)):=⟨_,rfl⟩
  rw[←he16] at h16
  obtain⟨x16_0,x16_1,x16_2,x16_3,x16_4,x16_5,rfl,f16_0,f16_1,f16_2,f16_3,f16_4,f16_5⟩:=nh h16
  refine ar E E E (p16 _) (aj E E ((q16.ext eL).ld Lr E (by kernel_rfl)) ?_)
  obtain⟨g6,w6,hr6,l6,x6,k6⟩:=a9 (P:=Tryz.prog) (w:=wL) (t:=54) (z:=.agg #[.slice none 0 0,.slice none 0 0,I 0,I 0,B false,.slice none 0 0,.slice none 0 0,.slice none 0 0,B false,.slice none 0 0]) (l:=[.slice none 0 0,.slice none 0 0,I 0,I 0,B false,.slice none 0 0,.slice none 0 0,.slice none 0 0,B false,.slice none 0 0]) (by kernel_rfl) rfl
  refine aS E hr6 ?_
  obtain⟨w3_3,s3_3,q3_3,k3_3⟩:=k6.stS (P:=Tryz.prog) (t:=54) (m:=[x16_0,x16_1,I e16.leaf.split.kd,I e16.leaf.split.ix,B e16.leaf.split.at_.1,x16_2,x16_3,x16_4,B e16.leaf.empty,x16_5]) rfl (by kernel_rfl) (ap.cons f16_0.one (ap.cons f16_1.one (ap.cons rfl (ap.cons rfl (ap.cons rfl (ap.cons f16_2.one (ap.cons f16_3.one (ap.cons f16_4.one (ap.cons rfl (ap.cons f16_5.one ap.nil))))))))))
  refine ay E E s3_3 ?_
  have x3_3:=aH.of_new (x6) q3_3 l6
  refine ag (ab (af ?_))
  have hmem:e16∈es:=by rw[he16];exact List.getElem_mem _
  have kL4:=kL.ext (x3_3)
  rcases hval:fk e16
  ·refine aa (aj E E (k3_3.ld Lr E (by kernel_rfl)) (an ni E E ((by have h:=nj (u:=e16) (f16_0.ext (eL.trans x3_3)) (f16_1.ext (eL.trans x3_3)) (f16_2.ext (eL.trans x3_3)) (f16_3.ext (eL.trans x3_3)) (f16_4.ext (eL.trans x3_3)) (f16_5.ext (eL.trans x3_3)) (hs e16 hmem);rw[hval] at h;exact h)) ?_))
   rintro v19 w19 ⟨x19,rfl⟩
   refine bw E E bB (ag (ab (bm E (af (aa (bC (vs:=[]) (r:=.agg #[.slice none 0 0,I 0,I 0,B false,.slice none 0 0,.slice none 0 0,.slice none 0 0,B false,.slice none 0 0]) E E (by exact run_build _ _ _ _ (by kernel_rfl)) ?_))))))
   obtain⟨w5,s5,q5,k5⟩:=(kL4.ext x19).stS (P:=Tryz.prog) (t:=52) (m:=nz) rfl (by kernel_rfl) (ap.cons rfl (ap.cons rfl (ap.cons rfl (ap.cons rfl (ap.cons rfl (ap.cons rfl (ap.cons rfl (ap.cons rfl (ap.cons rfl ap.nil)))))))))
   refine ay E E s5 ?_
   have e5:=aH.of_new (((eL.trans x3_3).trans x19)) q5 l2
   refine ac E E (ac E E (ag (ab (aw (ba (az (az (ba (az ?_)))))))))
   refine rJ E E E E k5 Lk E (by kernel_rfl) ?_
   have hno:es.all fk=false:=IH (i:=i) (by omega) (by rw[←he16];exact hval)
   exact⟨_,rfl,e5,rI.err (c:=1) (by unfold rH;rw[if_pos hno])⟩
  ·refine aa (aj E E (k3_3.ld Lr E (by kernel_rfl)) (an ni E E ((by have h:=nj (u:=e16) (f16_0.ext (eL.trans x3_3)) (f16_1.ext (eL.trans x3_3)) (f16_2.ext (eL.trans x3_3)) (f16_3.ext (eL.trans x3_3)) (f16_4.ext (eL.trans x3_3)) (f16_5.ext (eL.trans x3_3)) (hs e16 hmem);rw[hval] at h;exact h)) ?_))
   rintro v19 w19 ⟨x19,rfl⟩
   refine bw E E bB (ag (ab (cN E (aC (aW (ab (aa (al (r:=I ((i+1:Nat):Int)) E E E (by have e:((i+1:Nat):Int)=(i:Int)+1:=(by omega);rw[e];exact aR (by omega) (by omega)) ?_))))))))
   refine ae E E (ag ?_)
   refine bS (i+1) ⟨rfl,rfl,rfl,rfl,rfl,rfl,rfl,trivial⟩ ⟨((eL.trans x3_3).trans x19),by omega,by rw[Ho (by omega),hA,←he16,hval];rfl,kL4.ext x19⟩ (by omega)
 ·refine bc (aK (aK (bf (ab (af ?_)))))
  have hall:es.all fk=true:=by rw[List.take_of_length_le (by omega)] at hA;exact hA
  have hvl:∀u∈es,fk u=true:=fun u hu=>List.all_eq_true.1 hall u hu
  refine aa (bC (vs:=[]) (r:=.agg #[I 0,I 0,B false,.slice none 0 0,.slice none 0 0,.pointer none,.pointer none,.pointer none]) E E (by exact run_build _ _ _ _ (by kernel_rfl)) ?_)
  obtain⟨g24,w24,hr24,l24,x24,k24⟩:=cq (P:=Tryz.prog) (w:=wL) (T:=114) (cs:=[I 0,I 0,B false,.slice none 0 0,.slice none 0 0,.pointer none,.pointer none,.pointer none])
  refine cw E E hr24 (ac E E (ag (ab (af (af ?_)))))
  have ng2:g2∉[g24]:=by have:=kL.lt;simp;omega
  have j24:jq w w24 g24 .gap [g24]:=jq.gap k24 (by have:=eL.size;omega)
  refine aa (ae E E (aV E E (aY LD (hv.ext (eL.trans x24))) (ae E E (ag (ab (aG ?_))))))
  refine mi (fun(i:Nat) (t:JT) (ids:List Nat)=>[(2,.pointer (some ⟨g2,0,none⟩)),(3,.slice none 0 0),(4,I 0),(7,.pointer (some ⟨g24,0,none⟩)),(25,ev),(26,I ((es.length:Nat):Int)),(27,I (i:Int))]) (fun(i:Nat) (t:JT) (ids:List Nat) w'=>aH w w'∧i≤es.length∧bQ g2 52 nz w'∧jq w w' g24 t ids∧g2∉ids∧gz (es.take i) .gap=some t∧t.depth≤2048∧t.gaps≤1+2048*i) (fun(i:Nat) (t:JT) (ids:List Nat)=>es.length-i) (0) (.gap) ([g24]) ⟨rfl,rfl,rfl,rfl,rfl,rfl,rfl,trivial⟩ ⟨eL.trans x24,by omega,kL.ext x24,j24,ng2,rfl,by simp[JT.depth],by simp[JT.gaps]⟩ ?_
  rintro i t ids wM ⟨eM,hi,kM,jM,nM,hT,hdp,hgp⟩
  refine af (aa (al E E E (a6) (ag (ab (af ?_)))))
  refine bu E (fun h28=>?_) (fun h28=>?_)
  ·refine aC (ab (af (aG (af (aa ?_)))))
   obtain⟨a29,c29,p29,q29,h29⟩:=cb (P:=Tryz.prog) (sz:=10) LD (by kernel_rfl) bG (by omega) hv (i:=i) ((by omega)) .i64
   obtain⟨e29,he29⟩:∃e,e=es[i]'((by omega)):=⟨_,rfl⟩
   rw[←he29] at h29
   obtain⟨x29_0,x29_1,x29_2,x29_3,x29_4,x29_5,rfl,f29_0,f29_1,f29_2,f29_3,f29_4,f29_5⟩:=nh h29
   refine ar E E E (p29 _) (aj E E ((q29.ext eM).ld Lr E (by kernel_rfl)) ?_)
   obtain⟨g9,w9,hr9,l9,x9,k9⟩:=a9 (P:=Tryz.prog) (w:=wM) (t:=54) (z:=.agg #[.slice none 0 0,.slice none 0 0,I 0,I 0,B false,.slice none 0 0,.slice none 0 0,.slice none 0 0,B false,.slice none 0 0]) (l:=[.slice none 0 0,.slice none 0 0,I 0,I 0,B false,.slice none 0 0,.slice none 0 0,.slice none 0 0,B false,.slice none 0 0]) (by kernel_rfl) rfl
   refine aS E hr9 ?_
   obtain⟨w10_3,s10_3,q10_3,k10_3⟩:=k9.stS (P:=Tryz.prog) (t:=54) (m:=[x29_0,x29_1,I e29.leaf.split.kd,I e29.leaf.split.ix,B e29.leaf.split.at_.1,x29_2,x29_3,x29_4,B e29.leaf.empty,x29_5]) rfl (by kernel_rfl) (ap.cons f29_0.one (ap.cons f29_1.one (ap.cons rfl (ap.cons rfl (ap.cons rfl (ap.cons f29_2.one (ap.cons f29_3.one (ap.cons f29_4.one (ap.cons rfl (ap.cons f29_5.one ap.nil))))))))))
   refine ay E E s10_3 ?_
   have x10_3:=aH.of_new (x9) q10_3 l9
   refine ag (ab (af ?_))
   have hmem:e29∈es:=by rw[he29];exact List.getElem_mem _
   have eN:=x10_3
   have jN:=jM.ext eN
   have kN:=kM.ext eN
   have hTn:=Bf (l:=es) (i:=i) (by omega) hT
   rw[←he29] at hTn
   have hpl:=Cw (hvl e29 hmem)
   rcases hadd:ET e29 t with _|t2
   ·refine aa (ae rfl rfl (aj rfl rfl (k10_3.ld Tryz.underlying54 rfl (by kernel_rfl)) (an yd rfl rfl ((bN.mono (ye (u:=e29) (eM.trans x10_3) ho jN f29_0 f29_1 f29_2 f29_3 f29_4 f29_5) fun r w' (h:Ki _ _ _ _ _ _ _ _ _)=>show aH w w'∧Mv (fun k=>k∈ids) _ w'∧r=B false from⟨h.1,h.2.1,by rcases h.2.2 with h|⟨_,t',_,h1,_⟩;exact h.2;exact absurd (h1.symm.trans hadd) (by simp)⟩)) ?_)))
    rintro v33 w33 ⟨y33,m33,rfl⟩
    have k33:=m33.blk kN nM
    refine bw E E bB (ag (ab (bm E (af (aa (bC (vs:=[]) (r:=.agg #[.slice none 0 0,I 0,I 0,B false,.slice none 0 0,.slice none 0 0,.slice none 0 0,B false,.slice none 0 0]) E E (by exact run_build _ _ _ _ (by kernel_rfl)) ?_))))))
    obtain⟨w12,s12,q12,k12⟩:=k33.stS (P:=Tryz.prog) (t:=52) (m:=nz) rfl (by kernel_rfl) (ap.cons rfl (ap.cons rfl (ap.cons rfl (ap.cons rfl (ap.cons rfl (ap.cons rfl (ap.cons rfl (ap.cons rfl (ap.cons rfl ap.nil)))))))))
    refine ay E E s12 ?_
    have e12:=aH.of_new y33 q12 l2
    refine ac E E (ac E E (ag (ab (aw (ba (az (az (ba (az ?_)))))))))
    refine rJ E E E E k12 Lk E (by kernel_rfl) ?_
    have hno:gz es .gap=none:=E1 (i:=i+1) (by rw[hTn,hadd])
    exact⟨_,rfl,e12,rI.err (c:=11) (by unfold rH;rw[if_neg (by rw[hall];simp),hno])⟩
   ·refine aa (ae rfl rfl (aj rfl rfl (k10_3.ld Tryz.underlying54 rfl (by kernel_rfl)) (an yd rfl rfl ((bN.mono (ye (u:=e29) (eM.trans x10_3) ho jN f29_0 f29_1 f29_2 f29_3 f29_4 f29_5) fun r w' (h:Ki _ _ _ _ _ _ _ _ _)=>show aH w w'∧Mv (fun k=>k∈ids) _ w'∧r=B true∧∃ids',jq w w' g24 t2 ids'∧∀k∈ids',k∈ids∨_≤k from⟨h.1,h.2.1,by rcases h.2.2 with h|⟨h0,t',ids',h1,h2,h3,h4⟩;exact absurd (h.1.symm.trans hadd) (by simp);exact⟨h0,ids',by have:=Option.some.inj (h1.symm.trans hadd);rw[←this];exact h3,h4⟩⟩)) ?_)))
    rintro v33 w33 ⟨y33,m33,rfl,ids',j33,fr33⟩
    have k33:=m33.blk kN nM
    refine bw E E bB (ag (ab (cN E (aC (aW (ab (aa (al (r:=I ((i+1:Nat):Int)) E E E (by have e:((i+1:Nat):Int)=(i:Int)+1:=(by omega);rw[e];exact aR (by omega) (by omega)) ?_))))))))
    refine ae E E (ag ?_)
    refine je (i+1) (t2) (ids') ⟨rfl,rfl,rfl,rfl,rfl,rfl,rfl,trivial⟩ ⟨y33,by omega,k33,j33,fun h=>(fr33 _ h).elim nM fun h=>by have:=kN.lt;omega,by rw[hTn,hadd],Nat.le_trans (qs _ _ hadd) (by omega),Nat.le_trans (sV _ _ hadd) (by omega)⟩ (by omega)
  ·refine bc (aK (aK (bf (ab (af (aa ?_))))))
   obtain⟨g10,w10,hr10,l10,x10,k10⟩:=a9 (P:=Tryz.prog) (w:=wM) (t:=59) (z:=.slice none 0 0) (l:=[.slice none 0 0]) (by kernel_rfl) rfl
   refine aS E hr10 ?_
   have hle:=List.take_of_length_le (l:=es) (i:=i) (by omega)
   rw[hle] at hT
   have lM:=kM.lt
   have sM:=eM.size
   have sX:=x10.size
   have lg10:=k10.lt
   have hC:yc w w10 (fun k=>k=g2) g10 (.slice none 0 0) []:=⟨k10,dY.nil _,(by intro h;cases h),(by omega)⟩
   have hdj:∀k∈ids,¬YM g10 (.slice none 0 0) k:=fun k hk h=>by
    rcases h with h|h
    ·have:=jM.lt k hk;omega
    ·cases h
   refine ag (ab (af (aa (ae E E (an gY E E ((sZ ho t (fun k=>k=g2) w10 g24 ids [] (.slice none 0 0) g10 (.slice none 0 0) [] (fun k hk=>by have:k=g2:=hk;omega) ((eM.trans x10)) (jM.ext x10) hC hdj bZ.nilSl (by simp;omega) (by simp;omega))) ?_)))))
   rintro v38 w38 ⟨cs,mv1,rfl,h1,hr,hst,hm,hoo⟩
   obtain⟨vl,x,y,vk,vp,rfl,hlN,hxN,hyN,hkN,hpN⟩:=dc hr.rp
   have y38:=hm.ext_from (eM.trans x10) fun k hk=>(hC.ym_young hk).1
   have k238:=hm.blk (kM.ext x10) (fun h=>by rcases h with h|h;omega;cases h)
   obtain⟨g11,w11,hr11,l11,x11,k11⟩:=a9 (P:=Tryz.prog) (w:=w38) (t:=52) (z:=.agg #[.slice none 0 0,I 0,I 0,B false,.slice none 0 0,.slice none 0 0,.slice none 0 0,B false,.slice none 0 0]) (l:=[.slice none 0 0,I 0,I 0,B false,.slice none 0 0,.slice none 0 0,.slice none 0 0,B false,.slice none 0 0]) (by kernel_rfl) rfl
   refine aS E hr11 ?_
   obtain⟨w15_3,s15_3,q15_3,k15_3⟩:=k11.stS (P:=Tryz.prog) (t:=52) (m:=[vl,I t.node.split.kd,I t.node.split.ix,B t.node.split.at_.1,x,y,vk,B t.node.empty,vp]) rfl (by kernel_rfl) (ap.cons hlN.one (ap.cons rfl (ap.cons rfl (ap.cons rfl (ap.cons hxN.one (ap.cons hyN.one (ap.cons hkN.one (ap.cons rfl (ap.cons hpN.one ap.nil)))))))))
   refine ay E E s15_3 ?_
   have x15_3:=aH.of_new (x11) q15_3 l11
   refine ag (ab (af (af ?_)))
   rcases hvn:iF t.node
   ·refine aa (aj E E (k15_3.ld Lk E (by kernel_rfl)) (an fX E E ((by have h:=lN (hlN.ext x15_3) (hxN.ext x15_3) (hyN.ext x15_3) (hkN.ext x15_3) (hpN.ext x15_3);rw[hvn] at h;exact h)) ?_))
    rintro v40 w40 ⟨x40,rfl⟩
    refine bw E E bB (ag (ab (bm E (af (aa (bC (vs:=[]) (r:=.agg #[.slice none 0 0,I 0,I 0,B false,.slice none 0 0,.slice none 0 0,.slice none 0 0,B false,.slice none 0 0]) E E (by exact run_build _ _ _ _ (by kernel_rfl)) ?_))))))
    obtain⟨w17,s17,q17,k17⟩:=(k238.ext ((x15_3.trans x40))).stS (P:=Tryz.prog) (t:=52) (m:=nz) rfl (by kernel_rfl) (ap.cons rfl (ap.cons rfl (ap.cons rfl (ap.cons rfl (ap.cons rfl (ap.cons rfl (ap.cons rfl (ap.cons rfl (ap.cons rfl ap.nil)))))))))
    refine ay E E s17 ?_
    have e17:=aH.of_new (((y38.trans x15_3).trans x40)) q17 l2
    refine ac E E (ac E E (ag (ab (aw (az ?_)))))
    refine rJ E E E E k17 Lk E (by kernel_rfl) ?_
    exact⟨_,rfl,e17,rI.err (c:=8) (by unfold rH;rw[if_neg (by rw[hall];simp),hT];simp only[];rw[if_pos hvn])⟩
   ·refine aa (aj E E (k15_3.ld Lk E (by kernel_rfl)) (an fX E E ((by have h:=lN (hlN.ext x15_3) (hxN.ext x15_3) (hyN.ext x15_3) (hkN.ext x15_3) (hpN.ext x15_3);rw[hvn] at h;exact h)) ?_))
    rintro v40 w40 ⟨x40,rfl⟩
    refine bw E E bB (ag (ab (cN E (aC (ab (af ?_))))))
    have eH:aH w38 w40:=x15_3.trans x40
    have eHd:aH w40 w40.drew:=(aH.refl w40).drew
    have k11d:bQ g11 52 [vl,I t.node.split.kd,I t.node.split.ix,B t.node.split.at_.1,x,y,vk,B t.node.empty,vp] w40.drew:=(k15_3.ext x40).ext eHd
    have k10d:bQ g10 59 [mv1] w40.drew:=(hst.cell.ext eH).ext eHd
    refine fw (fun w1=>bQ g11 52 [vl,I t.node.split.kd,I t.node.split.ix,B t.node.split.at_.1,x,y,vk,B t.node.empty,vp] w1∧bQ g10 59 [mv1] w1) 5 E (by kernel_rfl) ?_
    refine d6 0 E E (by kernel_rfl) E ⟨k11d,k10d⟩ (fun _ hw=>hw.1.ld Lk E (by kernel_rfl)) ?_
    refine d6 1 E E (by kernel_rfl) E ⟨k11d,k10d⟩ (fun _ hw=>ai LO E hw.2.k0) ?_
    obtain⟨w18,s18,q18,k18⟩:=((k238.ext eH).ext eHd).stS (P:=Tryz.prog) (t:=52) (m:=[vl,I t.node.split.kd,I t.node.split.ix,B t.node.split.at_.1,x,y,vk,B t.node.empty,vp]) rfl (by kernel_rfl) h1
    have l2b:g2<w10.heap.size:=by have:=(kM.ext x10).lt;omega
    have m18:Mv (fun k=>k=g2) w40.drew w18:=Mv.of_grown q18 fun k hk _=>(Option.some.inj hk).symm
    have l11b:=hm.size
    have hS18:bQ g11 52 [vl,I t.node.split.kd,I t.node.split.ix,B t.node.split.at_.1,x,y,vk,B t.node.empty,vp] w18∧bQ g10 59 [mv1] w18:=⟨m18.blk k11d (fun e=>by omega),m18.blk k10d (fun e=>by omega)⟩
    have e18:aH w w18:=aH.of_new ((y38.trans eH).trans eHd) q18 l2
    have rpF:=(((hr.ext eH).ext eHd).mv (m18.weak fun k hk _=>.inr (by have e:k=g2:=hk;omega)) fun _ h=>.inl h).rp
    have stF:=(((hst.ext eH).ext eHd).sto m18 rfl (fun h=>by
     rcases h with h|h
     ·omega
     ·rcases hoo _ h with h|h
      ·cases h
      ·omega)).own.rpx (Y:=fun _=>False) nw (by omega) (fun _ h=>h.elim) (fun _ _ h=>h)
    refine aO 2 (by kernel_rfl) E (ay E E s18 (ao hS18 ?_))
    refine aO 3 (by kernel_rfl) E (ac E E (ao hS18 ?_))
    refine aO 4 (by kernel_rfl) E (ac E E (ao hS18 (fx (by kernel_rfl) ?_)))
    refine ab (aw ?_)
    refine rJ E E E E k18 Lk E (by kernel_rfl) ?_
    have hb:rH es=((t.node,t.miss []),0):=by unfold rH;rw[if_neg (by rw[hall];simp),hT];simp only[];rw[if_neg (by rw[hvn];simp)]
    refine⟨_,rfl,e18,?_⟩
    unfold rI
    rw[hb]
    exact⟨_,mv1,rfl,h1,rpF,(by simpa using stF.rp:Rp w18 (.sl ((t.miss []).map oT)) [mv1])⟩
end Go.Rl
namespace Go.Rl
open Go.RowKit Go.Proofs
def fR:Nat→aP→JT
 |0,n=>.leaf n
 |d+1,n=>match n.kids with
  |[x,y]=>if n.split.kd=2∨n.split.kd=3 then .split (be n.split) (fR d y) (fR d x) else .split n.split (fR d x) (fR d y)
  |_=>.leaf n
def im:Nat→aP→List bj→List cm
 |0,n,p=>[⟨p,n⟩]
 |d+1,n,p=>⟨p,n⟩::match n.kids with
  |[x,y]=>im d x (p++[n.split])++im d y (p++[be n.split])
  |_=>[]
theorem j9 {d:Nat} {n:aP} (h:kn d n=true):n.kids=[]∨∃e x y,d=e+1∧n.kids=[x,y]∧kq n=true∧kn e x=true∧kn e y=true:=by
 unfold kn at h
 split at h
 ·rename_i e;exact .inl e
 ·rename_i x y e
  simp only[Bool.and_eq_true] at h
  obtain⟨h1,h2⟩:=h
  cases d with
  |zero=>cases h2
  |succ d=>
   simp only[Bool.and_eq_true] at h2
   exact .inr ⟨d,x,y,rfl,e,h1,h2.1,h2.2⟩
 ·cases h
theorem rK {d:Nat} {n:aP} (h:n.kids=[]):fR d n=.leaf n:=by
 cases d with
 |zero=>rfl
 |succ d=>simp only[fR,h]
theorem t4 {d:Nat} {n x y:aP} (h:n.kids=[x,y]):fR (d+1) n=if n.split.kd=2∨n.split.kd=3 then .split (be n.split) (fR d y) (fR d x) else .split n.split (fR d x) (fR d y):=by
 simp only[fR,h]
theorem vU {d:Nat} {n:aP} {p:List bj} (h:n.kids=[]):im d n p=[⟨p,n⟩]:=by
 cases d with
 |zero=>rfl
 |succ d=>simp only[im,h]
theorem t6 {d:Nat} {n x y:aP} {p:List bj} (h:n.kids=[x,y]):im (d+1) n p=⟨p,n⟩::(im d x (p++[n.split])++im d y (p++[be n.split])):=by
 simp only[im,h]
theorem rL {d:Nat} {n x y:aP} (h:n.kids=[x,y]):fM (d+1) n=1+fM d x+fM d y:=by
 conv=>lhs;unfold fM
 rw[h]
theorem py:∀{d:Nat} {n:aP} {p:List bj},kn d n=true→(im d n p).length=fM d n
 |d,n,p,h=>by
  rcases j9 h with hk|⟨e,x,y,rfl,hk,_,h1,h2⟩
  ·rw[vU hk];unfold fM;rw[hk];rfl
  ·rw[t6 hk,List.length_cons,List.length_append,py h1,py h2,rL hk]
   omega
 termination_by d=>d
theorem Kj {n:aP} (h:kq n=true):1≤n.split.kd∧n.split.kd≤4:=by
 unfold kq at h
 simp only[Bool.and_eq_true,decide_eq_true_eq] at h
 exact⟨h.1.1.1,h.1.1.2⟩
theorem Kk {s:bj} {a b:aP} (h1:1≤s.kd) (h2:s.kd≤4):kq (.mk [] s [a,b] false [])=true:=by
 show(decide (1≤s.kd)&&decide (s.kd≤4)&& !false&&decide (([]:List cp).length=0))=true
 rw[decide_eq_true h1,decide_eq_true h2]
 rfl
theorem Kl {d:bj} (h:d.kd=2∨d.kd=3):(be d).kd=1∨(be d).kd=4:=by
 obtain⟨k,i,a⟩:=d
 simp only at h
 rcases h with rfl|rfl
 ·exact .inl rfl
 ·exact .inr rfl
theorem Hq {d:Nat} {s:bj} {a b:aP} (h1:1≤s.kd) (h2:s.kd≤4) (ha:kn d a=true) (hb:kn d b=true):kn (d+1) (.mk [] s [a,b] false [])=true:=by
 conv=>lhs;unfold kn
 show(kq (.mk [] s [a,b] false [])&&(kn d a&&kn d b))=true
 rw[Kk h1 h2,ha,hb]
 rfl
theorem Dx {d:Nat} {s:bj} {a b:aP}:fM (d+1) (.mk [] s [a,b] false [])=1+fM d a+fM d b:=rL rfl
theorem Cx:∀{d:Nat} {n:aP},kn d n=true→gJ (fR d n)=true∧kn d (fR d n).node=true∧fM d (fR d n).node=fM d n
 |d,n,h=>by
  rcases j9 h with hk|⟨e,x,y,rfl,hk,hi,h1,h2⟩
  ·rw[rK hk]
   exact⟨rfl,h,rfl⟩
  ·obtain⟨a1,a2,a3⟩:=Cx h1
   obtain⟨b1,b2,b3⟩:=Cx h2
   obtain⟨k1,k2⟩:=Kj hi
   have hc:=rL (d:=e) hk
   rw[t4 hk]
   split
   ·rename_i hkd
    have ho:=Kl hkd
    refine⟨by simp only[gJ,a1,b1,Bool.and_true,Bool.or_eq_true,decide_eq_true_eq];exact ho,?_,?_⟩
    ·rw[et]
     exact Hq (by omega) (by omega) b2 a2
    ·rw[et,Dx,a3,b3,hc];omega
   ·refine⟨by simp only[gJ,a1,b1,Bool.and_true,Bool.or_eq_true,decide_eq_true_eq];omega,?_,?_⟩
    ·rw[et]
     exact Hq k1 k2 a2 b2
    ·rw[et,Dx,a3,b3,hc]
 termination_by d=>d
def gA (e:cm):Bool:=decide (e.leaf.kids.length=0)
theorem ka:∀{d:Nat} {n:aP} {p:List bj},kn d n=true→(im d (fR d n).node p).filter gA=bg (fR d n) p
 |d,n,p,h=>by
  rcases j9 h with hk|⟨e,x,y,rfl,hk,hi,h1,h2⟩
  ·rw[rK hk]
   show(im d n p).filter gA=_
   rw[vU hk]
   simp[gA,hk,bg]
  ·rw[t4 hk]
   split
   ·rw[et,t6 (x:=(fR e y).node) (y:=(fR e x).node) rfl,List.filter_cons_of_neg (by simp[gA,aP.kids]),List.filter_append,ka h2,ka h1]
    rfl
   ·rw[et,t6 (x:=(fR e x).node) (y:=(fR e y).node) rfl,List.filter_cons_of_neg (by simp[gA,aP.kids]),List.filter_append,ka h1,ka h2]
    rfl
 termination_by d=>d
theorem Dy {n k m:aP} (h:k∈n.kids) (hm:m∈sK k):m∈sK n:=by
 rw[zi]
 exact List.mem_cons_of_mem _ (List.mem_flatMap.2 ⟨k,h,hm⟩)
theorem Bg (n:aP):n∈sK n:=by rw[zi];simp
theorem yf:∀{d:Nat} {n:aP} {p:List bj} {e:cm},kn d n=true→e∈bg (fR d n) p→e.leaf∈sK n∧e.leaf.kids=[]∧e.path.length≤p.length+d∧∀q∈e.path,q∈p∨∃k∈sK n,q.at_=k.split.at_
 |d,n,p,e,h,he=>by
  rcases j9 h with hk|⟨c,x,y,rfl,hk,hi,h1,h2⟩
  ·rw[rK hk] at he
   simp only[bg,List.mem_singleton] at he
   subst he
   exact⟨Bg n,hk,Nat.le_add_right _ _,fun q hq=>.inl hq⟩
  ·have key:∀(z:aP) (s:bj),z∈n.kids→s.at_=n.split.at_→kn c z=true→e∈bg (fR c z) (p++[s])→e.leaf∈sK n∧e.leaf.kids=[]∧e.path.length≤p.length+(c+1)∧∀q∈e.path,q∈p∨∃k∈sK n,q.at_=k.split.at_:=fun z s hz hs hc hl=>by
    obtain⟨r1,r2,r3,r4⟩:=yf hc hl
    refine⟨Dy hz r1,r2,by rw[List.length_append,List.length_singleton] at r3;omega,fun q hq=>?_⟩
    rcases r4 q hq with h5|⟨k,h5,h6⟩
    ·rcases List.mem_append.1 h5 with h5|h5
     ·exact .inl h5
     ·rw[List.mem_singleton] at h5
      subst h5
      exact .inr ⟨n,Bg n,hs⟩
    ·exact .inr ⟨k,Dy hz h5,h6⟩
   rw[t4 hk] at he
   split at he
   ·simp only[bg,List.mem_append] at he
    rcases he with he|he
    ·exact key y (be n.split) (by rw[hk];simp) rfl h2 he
    ·exact key x (be (be n.split)) (by rw[hk];simp) rfl h1 he
   ·simp only[bg,List.mem_append] at he
    rcases he with he|he
    ·exact key x n.split (by rw[hk];simp) rfl h1 he
    ·exact key y (be n.split) (by rw[hk];simp) rfl h2 he
 termination_by d=>d
theorem II {t:JT} (hf:gJ t=true) (hv:iF t.node=true) {l:List cm} (hl:∀e∈l,e∈bg t []) (hl2:∀e∈bg t [],e∈l) (ha:∀e∈l,fk e=true):rH l=((t.node,[]),0):=by
 have h1:=qt hf l (fun _=>false) hl
 rw[xZ] at h1
 have h2:eZ (fun x=>false||l.any fun e=>decide (x=e.path)) t []=t:=zu hf fun e he=>by
  simp only[Bool.false_or,List.any_eq_true,decide_eq_true_eq]
  exact⟨e,hl2 e he,rfl⟩
 rw[h2] at h1
 have h3:l.all fk=true:=List.all_eq_true.2 ha
 unfold rH
 rw[if_neg (by rw[h3];simp),h1]
 simp only[]
 rw[if_neg (by rw[hv];simp),sS hf]
theorem IJ {t:JT} (hf:gJ t=true) (hv:iF t.node=true) {A B:List cm} {x:cm} (he:bg t []=A++x::B) (ha:∀e∈A++B,fk e=true):∃n,rH (A++B)=((n,[x.path]),0):=by
 have h1:=qt hf (A++B) (fun _=>false) fun e h=>by
  rw[he]
  rcases List.mem_append.1 h with h|h
  ·exact List.mem_append.2 (.inl h)
  ·exact List.mem_append.2 (.inr (List.mem_cons_of_mem _ h))
 rw[xZ] at h1
 have hn:=np (p:=[]) hf
 rw[he,List.map_append,List.map_cons,List.nodup_append,List.nodup_cons] at hn
 obtain⟨_,⟨n1,_⟩,n2⟩:=hn
 have nA:∀u∈A,u.path≠x.path:=fun u hu h=>n2 u.path (List.mem_map.2 ⟨u,hu,rfl⟩) x.path (by simp) h
 have nB:∀u∈B,u.path≠x.path:=fun u hu h=>n1 (List.mem_map.2 ⟨u,hu,h⟩)
 have nAB:∀u∈A++B,u.path≠x.path:=fun u hu=>(List.mem_append.1 hu).elim (nA u) (nB u)
 have hP:∀e∈bg t [],(false||(A++B).any fun u=>decide (e.path=u.path))=decide (e.path≠x.path):=fun e h=>by
  rw[he] at h
  by_cases hx:e.path=x.path
  ·rw[decide_eq_false (by simpa using hx),Bool.false_or]
   rw[Bool.eq_false_iff]
   intro hh
   obtain⟨u,hu,h5⟩:=List.any_eq_true.1 hh
   exact nAB u hu ((of_decide_eq_true h5).symm.trans hx)
  ·rw[decide_eq_true hx,Bool.false_or]
   refine List.any_eq_true.2 ⟨e,?_,by simp⟩
   rcases List.mem_append.1 h with h|h
   ·exact List.mem_append.2 (.inl h)
   ·rcases List.mem_cons.1 h with h|h
    ·exact absurd (by rw[h]) hx
    ·exact List.mem_append.2 (.inr h)
 have hm:=zv (P:=fun y=>false||(A++B).any fun u=>decide (y=u.path)) (x:=x.path) (p:=[]) hf hP
 rw[if_pos ⟨x,by rw[he];simp,rfl⟩] at hm
 have h3:(A++B).all fk=true:=List.all_eq_true.2 ha
 refine⟨(eZ (fun y=>false||(A++B).any fun u=>decide (y=u.path)) t []).node,?_⟩
 unfold rH
 rw[if_neg (by rw[h3];simp),h1]
 simp only[]
 rw[if_neg (by rw[Im hv];simp),hm]
end Go.Rl
namespace Go.Rl
open Go.RowKit Go.Proofs
def z9:List Value:=[.slice none 0 0,I 0,I 0,B false,.slice none 0 0,.slice none 0 0,.slice none 0 0,B false,.slice none 0 0]
def qC (k:Int) (lf:List Value) (d:bj) (x y k1 k2:Value):List Value:=I k::(lf++[I d.kd,I d.ix,B d.at_.1,x,y,k1,k2])
def rM (w0 w:World):Nat→JT→List Nat→Prop
 |g,.gap,ids=>ids=[g]∧bQ g 120 (qC 0 z9 lL (.slice none 0 0) (.slice none 0 0) fF fF) w
 |g,.leaf n,ids=>∃cs,ids=[g]∧bQ g 120 (qC 1 cs lL (.slice none 0 0) (.slice none 0 0) fF fF) w∧Rp w0 (bh n) cs
 |g,.split d a b,ids=>∃x y g1 g2 i1 i2,ids=g::(i1++i2)∧bk d.at_.2.1 x w0∧bk d.at_.2.2 y w0∧bQ g 120 (qC 2 z9 d x y (nk g1) (nk g2)) w∧rM w0 w g1 a i1∧rM w0 w g2 b i2
theorem rM.mv {w0 w w':World} {X:Nat→Prop} (hm:Mv X w w'):∀{t:JT} {g:Nat} {ids:List Nat},rM w0 w g t ids→(∀k∈ids,¬X k)→rM w0 w' g t ids
 |.gap,g,ids,h,hX=>by
  simp only[rM] at h⊢
  obtain⟨rfl,h1⟩:=h
  exact⟨rfl,hm.blk h1 (hX g (by simp))⟩
 |.leaf n,g,ids,h,hX=>by
  simp only[rM] at h⊢
  obtain⟨cs,rfl,h1,h3⟩:=h
  exact⟨cs,rfl,hm.blk h1 (hX g (by simp)),h3⟩
 |.split d a b,g,ids,h,hX=>by
  simp only[rM] at h⊢
  obtain⟨x,y,g1,g2,i1,i2,rfl,hx,hy,h1,h2,h3⟩:=h
  exact⟨x,y,g1,g2,i1,i2,rfl,hx,hy,hm.blk h1 (hX g (by simp)),h2.mv hm fun k hk=>hX k (by simp[hk]),h3.mv hm fun k hk=>hX k (by simp[hk])⟩
theorem rM.lt {w0 w:World}:∀{t:JT} {g:Nat} {ids:List Nat},rM w0 w g t ids→∀k∈ids,k<w.heap.size
 |.gap,g,ids,h,k,hk=>by
  simp only[rM] at h
  obtain⟨rfl,h1⟩:=h
  simp only[List.mem_singleton] at hk
  subst hk
  exact h1.lt
 |.leaf n,g,ids,h,k,hk=>by
  simp only[rM] at h
  obtain⟨cs,rfl,h1,_⟩:=h
  simp only[List.mem_singleton] at hk
  subst hk
  exact h1.lt
 |.split d a b,g,ids,h,k,hk=>by
  simp only[rM] at h
  obtain⟨x,y,g1,g2,i1,i2,rfl,hx,hy,h1,h2,h3⟩:=h
  simp only[List.mem_cons,List.mem_append] at hk
  rcases hk with rfl|hk|hk
  ·exact h1.lt
  ·exact h2.lt k hk
  ·exact h3.lt k hk
structure zT (w0 w:World) (g:Nat) (t:JT) (ids:List Nat):Prop where
 at_:rM w0 w g t ids
 nodup:ids.Nodup
 young:∀k∈ids,w0.heap.size≤k
section
variable {w0 w w':World} {g g1 g2:Nat} {t a b:JT} {ids i1 i2:List Nat} {d:bj} {x y:Value} {cs:List Value} {n:aP}
theorem zT.mv {X:Nat→Prop} (h:zT w0 w g t ids) (hm:Mv X w w') (hX:∀k∈ids,¬X k):zT w0 w' g t ids:=⟨h.at_.mv hm hX,h.nodup,h.young⟩
theorem zT.ext (h:zT w0 w g t ids) (e:aH w w'):zT w0 w' g t ids:=h.mv (Mv.of_ext (X:=fun _=>False) e) fun _ _ h=>h
theorem zT.lt (h:zT w0 w g t ids):∀k∈ids,k<w.heap.size:=h.at_.lt
theorem zT.gap (k:bQ g 120 (qC 0 z9 lL (.slice none 0 0) (.slice none 0 0) fF fF) w) (hg:w0.heap.size≤g):zT w0 w g .gap [g]:=
 ⟨⟨rfl,k⟩,by simp,fun j hj=>by simp only[List.mem_singleton] at hj;omega⟩
theorem zT.leaf (k:bQ g 120 (qC 1 cs lL (.slice none 0 0) (.slice none 0 0) fF fF) w) (hr:Rp w0 (bh n) cs) (hg:w0.heap.size≤g):zT w0 w g (.leaf n) [g]:=
 ⟨⟨cs,rfl,k,hr⟩,by simp,fun j hj=>by simp only[List.mem_singleton] at hj;omega⟩
theorem zT.split (hx:bk d.at_.2.1 x w0) (hy:bk d.at_.2.2 y w0) (k:bQ g 120 (qC 2 z9 d x y (nk g1) (nk g2)) w) (h1:zT w0 w g1 a i1) (h2:zT w0 w g2 b i2) (hg:w0.heap.size≤g) (n1:g∉i1) (n2:g∉i2) (n3:∀k∈i1,k∉i2):zT w0 w g (.split d a b) (g::(i1++i2)):=by
 refine⟨⟨x,y,g1,g2,i1,i2,rfl,hx,hy,k,h1.at_,h2.at_⟩,?_,fun j hj=>?_⟩
 ·rw[List.nodup_cons,List.nodup_append]
  exact⟨by simp[n1,n2],h1.nodup,h2.nodup,fun k hk j hj e=>n3 k hk (e▸hj)⟩
 ·simp only[List.mem_cons,List.mem_append] at hj
  rcases hj with rfl|hj|hj
  ·exact hg
  ·exact h1.young j hj
  ·exact h2.young j hj
def gZ (w0:World) (p:List bj) (v:Value) (w:World):Prop:=∃xs,Sl 5 xs v w∧aN (fun k=>w0.heap.size≤k) w (p.map c9) xs
theorem gZ.ext {p:List bj} {v:Value} (h:gZ w0 p v w) (e:aH w w'):gZ w0 p v w':=by
 obtain⟨xs,h1,h2⟩:=h
 exact⟨xs,h1.ext e,h2.ext e⟩
theorem gZ.stable {p:List bj}:bO (gZ w0 p):=fun _ _ _ h hx=>h.ext hx
theorem gZ.nil:gZ w0 [] (.slice none 0 0) w:=⟨[],Sl.nil _ _,aN.nil⟩
end
end Go.Rl
namespace Go.Rl
open Go.RowKit Go.Proofs
theorem s9:aJ Tryz.prog 73:=⟨_,Tryz.func73,by kernel_rfl,rfl⟩
theorem E2:aJ Tryz.prog 112:=⟨_,Tryz.func112,by kernel_rfl,rfl⟩
theorem ta {w:World} {d:bj} {x y:Value} (hx:bk d.at_.2.1 x w) (hy:bk d.at_.2.2 y w):
 Calls Tryz.prog 73 #[.agg #[I d.kd,I d.ix,B d.at_.1,x,y]] w (bN fun r w'=>aH w w'∧r=.agg #[I (be d).kd,I (be d).ix,B (be d).at_.1,x,y]):=by
 refine enter (vs:=[.agg #[I d.kd,I d.ix,B d.at_.1,x,y]]) Tryz.func73 E E E ?_
 refine af (aa ?_)
 obtain⟨g1,w1,hr1,l1,x1,k1⟩:=cq (P:=Tryz.prog) (w:=w) (T:=48) (cs:=[I d.kd,I d.ix,B d.at_.1,x,y])
 refine cw E E hr1 ?_
 obtain⟨g2,w2,hr2,l2,x2,k2⟩:=a9 (P:=Tryz.prog) (w:=w1) (t:=48) (z:=.agg #[I 0,I 0,B false,.slice none 0 0,.slice none 0 0]) (l:=[I 0,I 0,B false,.slice none 0 0,.slice none 0 0]) (by kernel_rfl) rfl
 refine aS E hr2 (ag (ab (af ?_)))
 refine ew (fun(_:Unit)=>[(1,.pointer (some ⟨g1,0,none⟩)),(2,.pointer (some ⟨g2,0,none⟩))]) (fun _ w'=>aH w w'∧bQ g1 48 [I (be d).kd,I (be d).ix,B (be d).at_.1,x,y] w'∧bQ g2 48 [I 0,I 0,B false,.slice none 0 0,.slice none 0 0] w') ?_ ?_
 ·refine af (aa (ah E E (av (o:=0) Lm E (by kernel_rfl) E) (aj E E (ai Lo E (x2.cell_some (k1.cell (i:=0) E))) ?_)))
  refine ag (ab (aG (af (aa (al E E E (bo) (ac E E (ag (ab ?_))))))))
  refine bu E (fun h5=>?_) (fun h5=>?_)
  ·have hk:j3 d.kd=2:=by unfold j3;rw[if_pos h5]
   refine aa (ah E E (av (o:=0) Lm E (by kernel_rfl) E) ?_)
   obtain⟨w3,s3,q3,k3⟩:=(k1.ext x2).stC (P:=Tryz.prog) (t:=3) (i:=0) (v:=I 2) (by kernel_rfl) rfl (by simp)
   refine ay E E s3 ?_
   have e3:=aH.of_new (x1.trans x2) q3 l1
   refine ag (aW ?_)
   have k3a:bQ g1 48 [I (be d).kd,I (be d).ix,B (be d).at_.1,x,y] w3:=by show bQ g1 _ [I (j3 d.kd),_,_,_,_] w3;rw[hk];exact k3
   exact cf () ⟨rfl,rfl,trivial⟩ ⟨e3,k3a,k2.other q3 (fun e=>by have:=Option.some.inj e;have:=k1.lt;omega)⟩
  ·refine af (aa (al E E E (bo) (ac E E (ag (ab ?_)))))
   refine bu E (fun h8=>?_) (fun h8=>?_)
   ·have hk:j3 d.kd=1:=by unfold j3;rw[if_neg h5,if_pos h8]
    refine aa (ah E E (av (o:=0) Lm E (by kernel_rfl) E) ?_)
    obtain⟨w3,s3,q3,k3⟩:=(k1.ext x2).stC (P:=Tryz.prog) (t:=3) (i:=0) (v:=I 1) (by kernel_rfl) rfl (by simp)
    refine ay E E s3 ?_
    have e3:=aH.of_new (x1.trans x2) q3 l1
    refine ag (aW ?_)
    have k3a:bQ g1 48 [I (be d).kd,I (be d).ix,B (be d).at_.1,x,y] w3:=by show bQ g1 _ [I (j3 d.kd),_,_,_,_] w3;rw[hk];exact k3
    exact cf () ⟨rfl,rfl,trivial⟩ ⟨e3,k3a,k2.other q3 (fun e=>by have:=Option.some.inj e;have:=k1.lt;omega)⟩
   ·refine af (aa (al E E E (bo) (ac E E (ag (ab ?_)))))
    refine bu E (fun h11=>?_) (fun h11=>?_)
    ·have hk:j3 d.kd=4:=by unfold j3;rw[if_neg h5,if_neg h8,if_pos h11]
     refine aa (ah E E (av (o:=0) Lm E (by kernel_rfl) E) ?_)
     obtain⟨w3,s3,q3,k3⟩:=(k1.ext x2).stC (P:=Tryz.prog) (t:=3) (i:=0) (v:=I 4) (by kernel_rfl) rfl (by simp)
     refine ay E E s3 ?_
     have e3:=aH.of_new (x1.trans x2) q3 l1
     refine ag (aW ?_)
     have k3a:bQ g1 48 [I (be d).kd,I (be d).ix,B (be d).at_.1,x,y] w3:=by show bQ g1 _ [I (j3 d.kd),_,_,_,_] w3;rw[hk];exact k3
     exact cf () ⟨rfl,rfl,trivial⟩ ⟨e3,k3a,k2.other q3 (fun e=>by have:=Option.some.inj e;have:=k1.lt;omega)⟩
    ·refine af (aa (al E E E (bo) (ac E E (ag (ab ?_)))))
     refine bu E (fun h14=>?_) (fun h14=>?_)
     ·have hk:j3 d.kd=3:=by unfold j3;rw[if_neg h5,if_neg h8,if_neg h11,if_pos h14]
      refine aa (ah E E (av (o:=0) Lm E (by kernel_rfl) E) ?_)
      obtain⟨w3,s3,q3,k3⟩:=(k1.ext x2).stC (P:=Tryz.prog) (t:=3) (i:=0) (v:=I 3) (by kernel_rfl) rfl (by simp)
      refine ay E E s3 ?_
      have e3:=aH.of_new (x1.trans x2) q3 l1
      refine ag (aW ?_)
      have k3a:bQ g1 48 [I (be d).kd,I (be d).ix,B (be d).at_.1,x,y] w3:=by show bQ g1 _ [I (j3 d.kd),_,_,_,_] w3;rw[hk];exact k3
      exact cf () ⟨rfl,rfl,trivial⟩ ⟨e3,k3a,k2.other q3 (fun e=>by have:=Option.some.inj e;have:=k1.lt;omega)⟩
     ·refine aC (aW ?_)
      have hk:j3 d.kd=d.kd:=by unfold j3;rw[if_neg h5,if_neg h8,if_neg h11,if_neg h14]
      have e3:=x1.trans x2
      have k3a:bQ g1 48 [I (be d).kd,I (be d).ix,B (be d).at_.1,x,y] w2:=by show bQ g1 _ [I (j3 d.kd),_,_,_,_] w2;rw[hk];exact k1.ext x2
      exact cf () ⟨rfl,rfl,trivial⟩ ⟨e3,k3a,k2⟩
 rintro _ wC ⟨eC,k1C,k2C⟩
 refine ab (af (aa (aj E E (k1C.ld Lm E (by kernel_rfl)) ?_)))
 obtain⟨w4,s4,q4,k4⟩:=k2C.stS (P:=Tryz.prog) (t:=48) (m:=[I (be d).kd,I (be d).ix,B (be d).at_.1,x,y]) rfl (by kernel_rfl) (ap.cons rfl (ap.cons rfl (ap.cons rfl (ap.cons hx.one (ap.cons hy.one ap.nil)))))
 refine ay E E s4 ?_
 have e4:=aH.of_new eC q4 (Nat.le_trans x1.size l2)
 refine ag (ab (aw ?_))
 refine cM E E k4 Lm E (by kernel_rfl) ?_
 exact⟨_,rfl,e4,rfl⟩
end Go.Rl
namespace Go.Rl
open Go.RowKit Go.Proofs
theorem Sl.own_lt {sz:Nat} {xs:List Value} {v:Value} {w:World} (h:Sl sz xs v w) (hx:xs≠[]):∀k,v.ownBlock=some k→k<w.heap.size:=fun k hk=>by
 obtain⟨A,n,c,rfl,h3,h4,h5,h6,h7⟩:=h
 have hn:0<n:=by
  rcases Nat.eq_zero_or_pos n with h0|h0
  ·subst h0
   rw[Nat.zero_mul] at h5
   exact absurd (List.eq_nil_of_length_eq_zero h5) hx
  ·exact h0
 obtain⟨ad,rfl,hc⟩:=h6 hn
 have:=Option.some.inj hk
 have h8:=hc.block_lt hx
 omega
theorem lU {w:World} {d:bj} {x y:Value}:∃r w',(Instr.buildSlice 41 1 (dy 0 [Value.agg #[I d.kd,I d.ix,B d.at_.1,x,y]]).toArray).run Tryz.prog w=.ok r w'∧aH w w'∧Sl 5 [I d.kd,I d.ix,B d.at_.1,x,y] r w'∧r.ownBlock=some w.heap.size:=by
 obtain⟨r,w',a,b,c,e⟩:=uO (P:=Tryz.prog) (w:=w) Tryz.underlying41 ij rfl (by omega) [[I d.kd,I d.ix,B d.at_.1,x,y]] (by simp) (by simp) (by simp)
 exact⟨r,w',a,b,c,e⟩
theorem E4 {w0 w:World} {n:aP} {path:List bj} {i:Int} {pv vl x y vk vp:Value} (e0:aH w0 w) (hpa:gZ w0 path pv w) (hpl:path.length≤1073741824) (hx:bk n.split.at_.2.1 x w0) (hy:bk n.split.at_.2.2 y w0):
 Calls Tryz.prog 112 #[pv,.agg #[vl,I n.split.kd,I n.split.ix,B n.split.at_.1,x,y,vk,B n.empty,vp],I i] w (bN fun r w'=>aH w w'∧gZ w0 (path++[db n i]) r w'∧∀k,r.ownBlock=some k→w.heap.size≤k):=by
 have hxw:=hx.ext e0
 have hyw:=hy.ext e0
 refine enter (vs:=[pv,.agg #[vl,I n.split.kd,I n.split.ix,B n.split.at_.1,x,y,vk,B n.empty,vp],I i]) Tryz.func112 E E E ?_
 refine af (aa ?_)
 obtain⟨g4,w4,hr4,l4,x4,k4⟩:=cq (P:=Tryz.prog) (w:=w) (T:=52) (cs:=[vl,I n.split.kd,I n.split.ix,B n.split.at_.1,x,y,vk,B n.empty,vp])
 refine cw E E hr4 (ac E E (ag (ab (af (aa (ah E E (av (o:=1) Lk E (by kernel_rfl) E) ?_))))))
 refine aj rfl rfl (k4.ldO (ms:=[I n.split.kd,I n.split.ix,B n.split.at_.1,x,y]) (o:=1) (fun j v hj=>by rcases j with _|_|_|_|_|_|_|_|_|j<;>simp_all) Tryz.underlying48 rfl (by kernel_rfl)) ?_
 obtain⟨g7,w7,hr7,l7,x7,k7⟩:=a9 (P:=Tryz.prog) (w:=w4) (t:=48) (z:=.agg #[I 0,I 0,B false,.slice none 0 0,.slice none 0 0]) (l:=[I 0,I 0,B false,.slice none 0 0,.slice none 0 0]) (by kernel_rfl) rfl
 refine aS E hr7 ?_
 obtain⟨w1_3,s1_3,q1_3,k1_3⟩:=k7.stS (P:=Tryz.prog) (t:=48) (m:=[I n.split.kd,I n.split.ix,B n.split.at_.1,x,y]) rfl (by kernel_rfl) (ap.cons rfl (ap.cons rfl (ap.cons rfl (ap.cons hxw.one (ap.cons hyw.one ap.nil)))))
 refine ay E E s1_3 ?_
 have x1_3:=aH.of_new (x7) q1_3 l7
 refine ag (ab (af (af (aa (ae E E (al E E E (bo) (ag (ab ?_))))))))
 refine bu E (fun h11=>?_) (fun h11=>?_)
 ·refine aa (aj E E (k1_3.ld Lm E (by kernel_rfl)) (an s9 E E ((ta (hxw.ext (x4.trans x1_3)) (hyw.ext (x4.trans x1_3)))) ?_))
  rintro v13 w13 ⟨x13,rfl⟩
  obtain⟨wT,sT,qT,kT⟩:=(k1_3.ext x13).stS (P:=Tryz.prog) (t:=48) (m:=[I (be n.split).kd,I (be n.split).ix,B (be n.split).at_.1,x,y]) rfl (by kernel_rfl) (ap.cons rfl (ap.cons rfl (ap.cons rfl (ap.cons hx.one (ap.cons hy.one ap.nil)))))
  refine ay E E sT ?_
  have eT:aH w wT:=aH.of_new (((x4.trans x1_3).trans x13)) qT (Nat.le_trans x4.size l7)
  have kD:bQ g7 48 [I (db n i).kd,I (db n i).ix,B (db n i).at_.1,x,y] wT:=by rw[show db n i=be n.split from if_pos h11];exact kT
  refine ag (ab (af ?_))
  have eD:aH wT wT.drew:=(aH.refl wT).drew
  have eW0:aH w wT:=eT
  have e0D:aH w0 wT.drew:=e0.trans (eW0.trans eD)
  have hS:bQ g7 48 [I (db n i).kd,I (db n i).ix,B (db n i).at_.1,x,y] wT.drew:=kD.ext eD
  refine fw (fun w1=>bQ g7 48 [I (db n i).kd,I (db n i).ix,B (db n i).at_.1,x,y] w1) 7 E (by kernel_rfl) ?_
  refine cF 1 E E (by kernel_rfl) E hS ?_
  refine d6 3 E E (by kernel_rfl) E hS (fun _ hw=>hw.ld Lm E (by kernel_rfl)) ?_
  have hdx:bk (db n i).at_.2.1 x w0:=by unfold db;split<;>exact hx
  have hdy:bk (db n i).at_.2.2 y w0:=by unfold db;split<;>exact hy
  refine iA (fun(z:Value)=>[(6,z)]) (fun(z:Value) w1=>aH w w1∧gZ w0 (path++[(db n i)]) z w1∧∀k,z.ownBlock=some k→w.heap.size≤k) #[true,true,true,true,true,true,true] 0 ?_ (fun hk=>?_)
  rotate_left
  ·refine ep 0 4 (by kernel_rfl) E E ?_ ?_
   ·obtain⟨v1,wz1,hr1,x1,oo1,ob1⟩:=nq (P:=Tryz.prog) (w:=wT.drew) (f:=c9) (X:=(fun k=>w0.heap.size≤k)) Lu ij
    have ez1:aH wT.drew wz1:=(aH.refl wT.drew).trans x1
    have oz1:=oo1.low ((aH.refl wT.drew)).size
    refine aF (vs:=[]) E E hr1 (ao (hS.ext ez1) ?_)
    refine ep 2 4 (by kernel_rfl) E E ?_ ?_
    ·obtain⟨xs2,sl2,al2⟩:=hpa
     have sz2:=(eW0.trans (eD.trans ez1)).size
     have sa2:=(ez1).size
     have lt2:=oz1.lt
     obtain⟨va2,wz2,hr2,oz2,gr2⟩:=oz1.app (P:=Tryz.prog) (t:=41) (ty:=41) (m:=path) Lu f9 rfl (by omega) (by omega) (sl2.ext (eW0.trans (eD.trans ez1))) (cI al2.rp) ((al2.ext (eW0.trans (eD.trans ez1))).weak fun k hk=>by
      rcases hk with hk|hk
      ·exact .inl hk
      ·exact .inl (by have:=(lt2 k hk).1;have:=e0D.size;show w0.heap.size≤k;omega)) ca (by simp;omega) (by have:=(ez1).size;omega)
     have ez2:aH wT.drew wz2:=aH.of_grew ez1 gr2 fun k hk=>(lt2 k hk).1
     refine aT E E hr2 (ao (hS.ext ez2) ?_)
     obtain⟨vr3,wz3,hr3,x3,bz3,ob3⟩:=lU (w:=wz2) (d:=(db n i)) (x:=x) (y:=y)
     have ez3:aH wT.drew wz3:=ez2.trans x3
     refine aO 4 (by kernel_rfl) E (aF (vs:=[(0,.agg #[I (db n i).kd,I (db n i).ix,B (db n i).at_.1,x,y])]) E E hr3 (ao (hS.ext ez3) ?_))
     have oz3:=oz2.ext x3
     obtain⟨vf,wf,hrf,of,ef,_,nf⟩:=pE (w0:=w0) (w6:=wT.drew) (X:=(fun k=>w0.heap.size≤k)) (d:=(db n i)) e0D ez3 (aH.refl _) (fun _ h=>h) hdx hdy oz3 bz3 (by simp;omega)
     refine aO 5 (by kernel_rfl) E (aT E E hrf (ao (hS.ext ef) ?_))
     refine aO 6 (by kernel_rfl) E (ac E E (ao (hS.ext ef) ?_))
     refine hk _ _ ⟨vf,⟨rfl,trivial⟩,eW0.trans (eD.trans ef),?_,fun k hk=>by have:=(of.lt k hk).1;have:=(eW0.trans eD).size;omega⟩
     obtain⟨nn,xs,h1,h2⟩:=of
     exact⟨xs,Sl.of_own h1,h2.weak fun k hk=>.inl (.inl hk)⟩
    ·obtain⟨vr4,wz4,hr4,x4,bz4,ob4⟩:=lU (w:=wz1) (d:=(db n i)) (x:=x) (y:=y)
     have ez4:aH wT.drew wz4:=ez1.trans x4
     refine aF (vs:=[(0,.agg #[I (db n i).kd,I (db n i).ix,B (db n i).at_.1,x,y])]) E E hr4 (ao (hS.ext ez4) ?_)
     have oz4:=oz1.ext x4
     have nr4:∀k,vr4.ownBlock=some k→¬v1.ownBlock=some k:=fun k hk hx=>by rw[ob4] at hk;have:=Option.some.inj hk;have:=(oz1.lt k hx).2;omega
     obtain⟨xs5,sl5,al5⟩:=hpa
     have sz5:=(eW0.trans (eD.trans ez4)).size
     have sa5:=(ez4).size
     have lt5:=oz4.lt
     obtain⟨va5,wz5,hr5,oz5,gr5⟩:=oz4.app (P:=Tryz.prog) (t:=41) (ty:=41) (m:=path) Lu f9 rfl (by omega) (by omega) (sl5.ext (eW0.trans (eD.trans ez4))) (cI al5.rp) ((al5.ext (eW0.trans (eD.trans ez4))).weak fun k hk=>by
      rcases hk with hk|hk
      ·exact .inl hk
      ·exact .inl (by have:=(lt5 k hk).1;have:=e0D.size;show w0.heap.size≤k;omega)) ca (by simp;omega) (by have:=(ez4).size;omega)
     have ez5:aH wT.drew wz5:=aH.of_grew ez4 gr5 fun k hk=>(lt5 k hk).1
     refine aO 2 (by kernel_rfl) E (aT E E hr5 (ao (hS.ext ez5) ?_))
     have bz5:=Sl.mv bz4 (Mv.of_grown (X:=fun k=>v1.ownBlock=some k) gr5.grown fun k hk _=>hk) (fun k hk hx=>nr4 k hk hx)
     obtain⟨vf,wf,hrf,of,ef,_,nf⟩:=pE (w0:=w0) (w6:=wT.drew) (X:=(fun k=>w0.heap.size≤k)) (d:=(db n i)) e0D ez5 (aH.refl _) (fun _ h=>h) hdx hdy oz5 bz5 (by simp;omega)
     refine aO 5 (by kernel_rfl) E (aT E E hrf (ao (hS.ext ef) ?_))
     refine aO 6 (by kernel_rfl) E (ac E E (ao (hS.ext ef) ?_))
     refine hk _ _ ⟨vf,⟨rfl,trivial⟩,eW0.trans (eD.trans ef),?_,fun k hk=>by have:=(of.lt k hk).1;have:=(eW0.trans eD).size;omega⟩
     obtain⟨nn,xs,h1,h2⟩:=of
     exact⟨xs,Sl.of_own h1,h2.weak fun k hk=>.inl (.inl hk)⟩
   ·obtain⟨vr6,wz6,hr6,x6,bz6,ob6⟩:=lU (w:=wT.drew) (d:=(db n i)) (x:=x) (y:=y)
    have ez6:aH wT.drew wz6:=(aH.refl wT.drew).trans x6
    refine aF (vs:=[(0,.agg #[I (db n i).kd,I (db n i).ix,B (db n i).at_.1,x,y])]) E E hr6 (ao (hS.ext ez6) ?_)
    obtain⟨v7,wz7,hr7,x7,oo7,ob7⟩:=nq (P:=Tryz.prog) (w:=wz6) (f:=c9) (X:=(fun k=>w0.heap.size≤k)) Lu ij
    have ez7:aH wT.drew wz7:=ez6.trans x7
    have oz7:=oo7.low (ez6).size
    refine aO 0 (by kernel_rfl) E (aF (vs:=[]) E E hr7 (ao (hS.ext ez7) ?_))
    have bz7:=bz6.ext x7
    have nr7:∀k,vr6.ownBlock=some k→¬v7.ownBlock=some k:=fun k hk hx=>by have:=bz6.own_lt (by simp) k hk;have:=(oo7.lt k hx).1;omega
    obtain⟨xs8,sl8,al8⟩:=hpa
    have sz8:=(eW0.trans (eD.trans ez7)).size
    have sa8:=(ez7).size
    have lt8:=oz7.lt
    obtain⟨va8,wz8,hr8,oz8,gr8⟩:=oz7.app (P:=Tryz.prog) (t:=41) (ty:=41) (m:=path) Lu f9 rfl (by omega) (by omega) (sl8.ext (eW0.trans (eD.trans ez7))) (cI al8.rp) ((al8.ext (eW0.trans (eD.trans ez7))).weak fun k hk=>by
     rcases hk with hk|hk
     ·exact .inl hk
     ·exact .inl (by have:=(lt8 k hk).1;have:=e0D.size;show w0.heap.size≤k;omega)) ca (by simp;omega) (by have:=(ez7).size;omega)
    have ez8:aH wT.drew wz8:=aH.of_grew ez7 gr8 fun k hk=>(lt8 k hk).1
    refine aO 2 (by kernel_rfl) E (aT E E hr8 (ao (hS.ext ez8) ?_))
    have bz8:=Sl.mv bz7 (Mv.of_grown (X:=fun k=>v7.ownBlock=some k) gr8.grown fun k hk _=>hk) (fun k hk hx=>nr7 k hk hx)
    obtain⟨vf,wf,hrf,of,ef,_,nf⟩:=pE (w0:=w0) (w6:=wT.drew) (X:=(fun k=>w0.heap.size≤k)) (d:=(db n i)) e0D ez8 (aH.refl _) (fun _ h=>h) hdx hdy oz8 bz8 (by simp;omega)
    refine aO 5 (by kernel_rfl) E (aT E E hrf (ao (hS.ext ef) ?_))
    refine aO 6 (by kernel_rfl) E (ac E E (ao (hS.ext ef) ?_))
    refine hk _ _ ⟨vf,⟨rfl,trivial⟩,eW0.trans (eD.trans ef),?_,fun k hk=>by have:=(of.lt k hk).1;have:=(eW0.trans eD).size;omega⟩
    obtain⟨nn,xs,h1,h2⟩:=of
    exact⟨xs,Sl.of_own h1,h2.weak fun k hk=>.inl (.inl hk)⟩
  rintro vf wf ⟨ef,pf,nf⟩
  refine fx (by kernel_rfl) ?_
  refine ab (aw (au E E ?_))
  exact⟨_,rfl,ef,pf,nf⟩
 ·have kD:bQ g7 48 [I (db n i).kd,I (db n i).ix,B (db n i).at_.1,x,y] w1_3:=by rw[show db n i=n.split from if_neg h11];exact k1_3
  refine aC (ab (af ?_))
  have eD:aH w1_3 w1_3.drew:=(aH.refl w1_3).drew
  have eW0:aH w w1_3:=x4.trans x1_3
  have e0D:aH w0 w1_3.drew:=e0.trans (eW0.trans eD)
  have hS:bQ g7 48 [I (db n i).kd,I (db n i).ix,B (db n i).at_.1,x,y] w1_3.drew:=kD.ext eD
  refine fw (fun w1=>bQ g7 48 [I (db n i).kd,I (db n i).ix,B (db n i).at_.1,x,y] w1) 7 E (by kernel_rfl) ?_
  refine cF 1 E E (by kernel_rfl) E hS ?_
  refine d6 3 E E (by kernel_rfl) E hS (fun _ hw=>hw.ld Lm E (by kernel_rfl)) ?_
  have hdx:bk (db n i).at_.2.1 x w0:=by unfold db;split<;>exact hx
  have hdy:bk (db n i).at_.2.2 y w0:=by unfold db;split<;>exact hy
  refine iA (fun(z:Value)=>[(6,z)]) (fun(z:Value) w1=>aH w w1∧gZ w0 (path++[(db n i)]) z w1∧∀k,z.ownBlock=some k→w.heap.size≤k) #[true,true,true,true,true,true,true] 0 ?_ (fun hk=>?_)
  rotate_left
  ·refine ep 0 4 (by kernel_rfl) E E ?_ ?_
   ·obtain⟨v1,wz1,hr1,x1,oo1,ob1⟩:=nq (P:=Tryz.prog) (w:=w1_3.drew) (f:=c9) (X:=(fun k=>w0.heap.size≤k)) Lu ij
    have ez1:aH w1_3.drew wz1:=(aH.refl w1_3.drew).trans x1
    have oz1:=oo1.low ((aH.refl w1_3.drew)).size
    refine aF (vs:=[]) E E hr1 (ao (hS.ext ez1) ?_)
    refine ep 2 4 (by kernel_rfl) E E ?_ ?_
    ·obtain⟨xs2,sl2,al2⟩:=hpa
     have sz2:=(eW0.trans (eD.trans ez1)).size
     have sa2:=(ez1).size
     have lt2:=oz1.lt
     obtain⟨va2,wz2,hr2,oz2,gr2⟩:=oz1.app (P:=Tryz.prog) (t:=41) (ty:=41) (m:=path) Lu f9 rfl (by omega) (by omega) (sl2.ext (eW0.trans (eD.trans ez1))) (cI al2.rp) ((al2.ext (eW0.trans (eD.trans ez1))).weak fun k hk=>by
      rcases hk with hk|hk
      ·exact .inl hk
      ·exact .inl (by have:=(lt2 k hk).1;have:=e0D.size;show w0.heap.size≤k;omega)) ca (by simp;omega) (by have:=(ez1).size;omega)
     have ez2:aH w1_3.drew wz2:=aH.of_grew ez1 gr2 fun k hk=>(lt2 k hk).1
     refine aT E E hr2 (ao (hS.ext ez2) ?_)
     obtain⟨vr3,wz3,hr3,x3,bz3,ob3⟩:=lU (w:=wz2) (d:=(db n i)) (x:=x) (y:=y)
     have ez3:aH w1_3.drew wz3:=ez2.trans x3
     refine aO 4 (by kernel_rfl) E (aF (vs:=[(0,.agg #[I (db n i).kd,I (db n i).ix,B (db n i).at_.1,x,y])]) E E hr3 (ao (hS.ext ez3) ?_))
     have oz3:=oz2.ext x3
     obtain⟨vf,wf,hrf,of,ef,_,nf⟩:=pE (w0:=w0) (w6:=w1_3.drew) (X:=(fun k=>w0.heap.size≤k)) (d:=(db n i)) e0D ez3 (aH.refl _) (fun _ h=>h) hdx hdy oz3 bz3 (by simp;omega)
     refine aO 5 (by kernel_rfl) E (aT E E hrf (ao (hS.ext ef) ?_))
     refine aO 6 (by kernel_rfl) E (ac E E (ao (hS.ext ef) ?_))
     refine hk _ _ ⟨vf,⟨rfl,trivial⟩,eW0.trans (eD.trans ef),?_,fun k hk=>by have:=(of.lt k hk).1;have:=(eW0.trans eD).size;omega⟩
     obtain⟨nn,xs,h1,h2⟩:=of
     exact⟨xs,Sl.of_own h1,h2.weak fun k hk=>.inl (.inl hk)⟩
    ·obtain⟨vr4,wz4,hr4,x4,bz4,ob4⟩:=lU (w:=wz1) (d:=(db n i)) (x:=x) (y:=y)
     have ez4:aH w1_3.drew wz4:=ez1.trans x4
     refine aF (vs:=[(0,.agg #[I (db n i).kd,I (db n i).ix,B (db n i).at_.1,x,y])]) E E hr4 (ao (hS.ext ez4) ?_)
     have oz4:=oz1.ext x4
     have nr4:∀k,vr4.ownBlock=some k→¬v1.ownBlock=some k:=fun k hk hx=>by rw[ob4] at hk;have:=Option.some.inj hk;have:=(oz1.lt k hx).2;omega
     obtain⟨xs5,sl5,al5⟩:=hpa
     have sz5:=(eW0.trans (eD.trans ez4)).size
     have sa5:=(ez4).size
     have lt5:=oz4.lt
     obtain⟨va5,wz5,hr5,oz5,gr5⟩:=oz4.app (P:=Tryz.prog) (t:=41) (ty:=41) (m:=path) Lu f9 rfl (by omega) (by omega) (sl5.ext (eW0.trans (eD.trans ez4))) (cI al5.rp) ((al5.ext (eW0.trans (eD.trans ez4))).weak fun k hk=>by
      rcases hk with hk|hk
      ·exact .inl hk
      ·exact .inl (by have:=(lt5 k hk).1;have:=e0D.size;show w0.heap.size≤k;omega)) ca (by simp;omega) (by have:=(ez4).size;omega)
     have ez5:aH w1_3.drew wz5:=aH.of_grew ez4 gr5 fun k hk=>(lt5 k hk).1
     refine aO 2 (by kernel_rfl) E (aT E E hr5 (ao (hS.ext ez5) ?_))
     have bz5:=Sl.mv bz4 (Mv.of_grown (X:=fun k=>v1.ownBlock=some k) gr5.grown fun k hk _=>hk) (fun k hk hx=>nr4 k hk hx)
     obtain⟨vf,wf,hrf,of,ef,_,nf⟩:=pE (w0:=w0) (w6:=w1_3.drew) (X:=(fun k=>w0.heap.size≤k)) (d:=(db n i)) e0D ez5 (aH.refl _) (fun _ h=>h) hdx hdy oz5 bz5 (by simp;omega)
     refine aO 5 (by kernel_rfl) E (aT E E hrf (ao (hS.ext ef) ?_))
     refine aO 6 (by kernel_rfl) E (ac E E (ao (hS.ext ef) ?_))
     refine hk _ _ ⟨vf,⟨rfl,trivial⟩,eW0.trans (eD.trans ef),?_,fun k hk=>by have:=(of.lt k hk).1;have:=(eW0.trans eD).size;omega⟩
     obtain⟨nn,xs,h1,h2⟩:=of
     exact⟨xs,Sl.of_own h1,h2.weak fun k hk=>.inl (.inl hk)⟩
   ·obtain⟨vr6,wz6,hr6,x6,bz6,ob6⟩:=lU (w:=w1_3.drew) (d:=(db n i)) (x:=x) (y:=y)
    have ez6:aH w1_3.drew wz6:=(aH.refl w1_3.drew).trans x6
    refine aF (vs:=[(0,.agg #[I (db n i).kd,I (db n i).ix,B (db n i).at_.1,x,y])]) E E hr6 (ao (hS.ext ez6) ?_)
    obtain⟨v7,wz7,hr7,x7,oo7,ob7⟩:=nq (P:=Tryz.prog) (w:=wz6) (f:=c9) (X:=(fun k=>w0.heap.size≤k)) Lu ij
    have ez7:aH w1_3.drew wz7:=ez6.trans x7
    have oz7:=oo7.low (ez6).size
    refine aO 0 (by kernel_rfl) E (aF (vs:=[]) E E hr7 (ao (hS.ext ez7) ?_))
    have bz7:=bz6.ext x7
    have nr7:∀k,vr6.ownBlock=some k→¬v7.ownBlock=some k:=fun k hk hx=>by have:=bz6.own_lt (by simp) k hk;have:=(oo7.lt k hx).1;omega
    obtain⟨xs8,sl8,al8⟩:=hpa
    have sz8:=(eW0.trans (eD.trans ez7)).size
    have sa8:=(ez7).size
    have lt8:=oz7.lt
    obtain⟨va8,wz8,hr8,oz8,gr8⟩:=oz7.app (P:=Tryz.prog) (t:=41) (ty:=41) (m:=path) Lu f9 rfl (by omega) (by omega) (sl8.ext (eW0.trans (eD.trans ez7))) (cI al8.rp) ((al8.ext (eW0.trans (eD.trans ez7))).weak fun k hk=>by
     rcases hk with hk|hk
     ·exact .inl hk
     ·exact .inl (by have:=(lt8 k hk).1;have:=e0D.size;show w0.heap.size≤k;omega)) ca (by simp;omega) (by have:=(ez7).size;omega)
    have ez8:aH w1_3.drew wz8:=aH.of_grew ez7 gr8 fun k hk=>(lt8 k hk).1
    refine aO 2 (by kernel_rfl) E (aT E E hr8 (ao (hS.ext ez8) ?_))
    have bz8:=Sl.mv bz7 (Mv.of_grown (X:=fun k=>v7.ownBlock=some k) gr8.grown fun k hk _=>hk) (fun k hk hx=>nr7 k hk hx)
    obtain⟨vf,wf,hrf,of,ef,_,nf⟩:=pE (w0:=w0) (w6:=w1_3.drew) (X:=(fun k=>w0.heap.size≤k)) (d:=(db n i)) e0D ez8 (aH.refl _) (fun _ h=>h) hdx hdy oz8 bz8 (by simp;omega)
    refine aO 5 (by kernel_rfl) E (aT E E hrf (ao (hS.ext ef) ?_))
    refine aO 6 (by kernel_rfl) E (ac E E (ao (hS.ext ef) ?_))
    refine hk _ _ ⟨vf,⟨rfl,trivial⟩,eW0.trans (eD.trans ef),?_,fun k hk=>by have:=(of.lt k hk).1;have:=(eW0.trans eD).size;omega⟩
    obtain⟨nn,xs,h1,h2⟩:=of
    exact⟨xs,Sl.of_own h1,h2.weak fun k hk=>.inl (.inl hk)⟩
  rintro vf wf ⟨ef,pf,nf⟩
  refine fx (by kernel_rfl) ?_
  refine ab (aw (au E E ?_))
  exact⟨_,rfl,ef,pf,nf⟩
end Go.Rl
namespace Go.Rl
open Go.RowKit Go.Proofs
section
variable {α:Type} {e t:TypeId} {sz base:Nat} {f:α→Dt} {l:List α} {v:Value} {w w':World}
def wo (e:TypeId) (sz base:Nat) (f:α→Dt) (l:List α) (v:Value) (w:World):Prop:=∃n xs,w.ownsRow base e sz v n xs∧aN (fun k=>base≤k) w (l.map f) xs
theorem wo.nil (w:World):wo e sz base f ([]:List α) (.slice none 0 0) w:=⟨0,[],World.ownsRow_nil _ _ _ _,aN.nil⟩
theorem wo.lt (h:wo e sz base f l v w):∀k,v.ownBlock=some k→base≤k∧k<w.heap.size:=fun k hk=>by
 obtain⟨n,xs,h,_⟩:=h
 exact World.ownsRow.lt h k hk
theorem wo.ext (h:wo e sz base f l v w) (hx:aH w w'):wo e sz base f l v w':=by
 obtain⟨n,xs,h1,h2⟩:=h
 exact⟨n,xs,fl h1 hx,h2.ext hx⟩
theorem wo.mv {X:Nat→Prop} (h:wo e sz base f l v w) (hm:Mv X w w') (hX:∀k,X k→base≤k) (hne:∀k,v.ownBlock=some k→¬X k):wo e sz base f l v w':=by
 obtain⟨n,xs,h1,h2⟩:=h
 refine⟨n,xs,⟨h1.1,?_⟩,aN.mv (hm.weak fun k hk _=>hX k hk) (fun k hk=>.inl hk) h2⟩
 rcases h1.2 with h3|⟨g,cap,cur,rfl,h3,h4,h5⟩
 ·exact .inl h3
 ·refine .inr ⟨g,cap,cur,rfl,h3,?_,h5⟩
  rw[hm.keep g (Array.getElem?_eq_some_iff.1 h4).1 (hne g rfl)]
  exact h4
end
end Go.Rl
namespace Go.Rl
open Go.RowKit Go.Proofs
theorem nC:aJ Tryz.prog 12:=⟨_,Tryz.func12,by kernel_rfl,rfl⟩
def Dz:Prop:=∀{w:World},zQ w→Calls Tryz.prog 12 #[] w (bN fun r w'=>aH w w'∧r=B true)
end Go.Rl
namespace Go.Rl
open Go.RowKit
theorem Bh {α:Type} {f:α→Dt} {l:List α} {a:α} (h:a∈l):(f a).bulk≤Dt.bulkAll (l.map f):=by
 induction l with
 |nil=>cases h
 |cons b l ih=>
  simp only[List.map_cons,Dt.bulkAll]
  rcases List.mem_cons.1 h with rfl|h
  ·omega
  ·have:=ih h;omega
theorem zM (u:cm):(jR u).bulk=Dt.bulkAll (u.path.map c9)+(bh u.leaf).bulk+2:=by
 simp only[jR,Dt.bulk,Dt.bulkAll];omega
theorem Hr {u:cm} (hb:(jR u).bulk≤1048576) (hw:Kv u):Jj u:=by
 rw[zM] at hb
 refine⟨fun m hm=>?_,(zh _ (Nat.le_refl _) (n:=u.leaf) (by omega) hw.2).2.2⟩
 have h1:=Bh (f:=c9) hm
 have h2:=vG m
 exact⟨by omega,by omega⟩
theorem Hs (l:List eB):l.length+Be l≤Dt.bulkAll (l.map cP):=by
 unfold Be
 induction l with
 |nil=>simp[Dt.bulkAll]
 |cons a l ih=>
  have h1:=j6 a
  have h2:=gb (a.pf.map bK)
  rw[List.length_map] at h2
  simp only[List.map_cons,List.sum_cons,List.length_cons,Dt.bulkAll]
  omega
theorem Fa (u:cm):sU u≤(jR u).bulk:=by
 rw[zM]
 have h1:=sJ u.leaf
 have h2:=Hs u.leaf.lems
 have h3:=gb (u.path.map c9)
 have h4:=gb (u.leaf.pf.map bK)
 have h5:=gb (u.leaf.kids.map bh)
 rw[List.length_map] at h3 h4 h5
 unfold sU
 omega
end Go.Rl
namespace Go.Rl
open Go.RowKit Go.Proofs
theorem oN.is {base n:Nat} {b d:List UInt8} {ws:List cm} {r:Value} {w':World} (h:oN base b r w') (e:oJ b=((d,ws,n),0)):∃ve,r=.tuple #[.agg (d.map U8).toArray,ve,I (n:Int),I 0]∧bZ (fun k=>k<base) w' (.sl (ws.map jR)) [ve]:=by
 unfold oN at h
 rw[e] at h
 exact h
theorem IK {w:World} {b d:List UInt8} {ws:List cm} {n:Nat} {v:Value} (hv:cK b v w) (hl:b.length≤7340032) (e:oJ b=((d,ws,n),0)):
 Calls Tryz.prog 13 #[v] w (bN fun r w'=>aH w w'∧∃ve,r=.tuple #[.agg (d.map U8).toArray,ve,I (n:Int),I 0]∧bZ (fun k=>k<w.heap.size) w' (.sl (ws.map jR)) [ve]):=
 bN.mono (EX hv hl) fun _ _ h=>⟨h.1,h.2.is e⟩
end Go.Rl
namespace Go.Rl
open Go.RowKit Go.Proofs
def Ht:bj:=⟨2,0,JG⟩
def Lh:bj:=⟨1,0,JG⟩
def Cy:cm:=⟨[Ht],Du⟩
theorem lV:(Tryz.prog.info? 54).map (fun i=>(i.zero,i.size))=some (some (.agg #[.slice none 0 0,.slice none 0 0,I 0,I 0,B false,.slice none 0 0,.slice none 0 0,.slice none 0 0,B false,.slice none 0 0]),10):=by kernel_rfl
theorem Li:kY 2:=by unfold kY;omega
theorem Hu:kY 0:=by unfold kY;omega
theorem IL:Kv Cy:=⟨fun d hd=>by
 simp only[Cy,List.mem_singleton] at hd
 subst hd
 exact⟨Li,Hu⟩,(yV Du).2 ⟨fun m hm=>(nomatch hm),⟨Hu,Hu⟩,fun m hm=>(nomatch hm),fun m hm=>(nomatch hm)⟩⟩
theorem IM:rH [Cy]=((.mk [] Lh [Du,Du] false [],[[Lh]]),0):=by kernel_rfl
theorem IN:oJ (jH vY)=((vY,[],44),0):=by
 have h:=Ch (d:=vY) (es:=[]) rfl fun e he=>by cases he
 rw[show(zS (jH vY) []).length=44 from oK rfl] at h
 exact h
theorem Cz {w:World} {v:Value} (hv:cd jR [Cy] v w) (ho:zQ w):
 Calls Tryz.prog 25 #[v] w (bN fun r w'=>aH w w'∧∃vl x y vk vp mv,r=.tuple #[.agg #[vl,I 1,I 0,B false,x,y,vk,B false,vp],mv,I 0]∧ap [vl,I 1,I 0,B false,x,y,vk,B false,vp]∧cd oT [[Lh]] mv w'):=by
 refine bN.mono (gj hv (fun u hu=>?_) ho (by simp)) fun r w' h=>⟨h.1,?_⟩
 ·simp only[List.mem_singleton] at hu
  subst hu
  exact Hr (by decide) IL
 ·obtain⟨cs,mv,h1,h2,h3,h4⟩:=h.2
  rw[IM] at h1 h3 h4
  obtain⟨vl,x,y,vk,vp,rfl,_⟩:=dc h3
  exact⟨vl,x,y,vk,vp,mv,h1,h2,h4⟩
theorem Awake47:Dz:=by
 intro w ho
 refine enter (vs:=[]) Tryz.func12 E E E ?_
 refine af (aa (ac E E (ag (ab (af (aa (bC (vs:=[(0,I 2)]) (r:=.agg #[I 2,I 0,B false,.slice none 0 0,.slice none 0 0]) E E (by exact run_build _ _ _ _ (by kernel_rfl)) ?_)))))))
 obtain⟨v11,w11,hr11,x11,b11⟩:=i8 (w:=w) (d:=Ht) (x:=.slice none 0 0) (y:=.slice none 0 0)
 have d11:cd c9 [Ht] v11 w11:=Rp.ofSl (sz:=5) (xs:=[I 2,I 0,B false,.slice none 0 0,.slice none 0 0]) b11 (by simpa using bn.cons (b:=[]) (show Rp w11 (c9 Ht) [I 2,I 0,B false,.slice none 0 0,.slice none 0 0] from qm (d:=Ht) (Sl.nil _ _) (Sl.nil _ _)) bn.nil) (by simp[ca]) (by omega)
 obtain⟨A11,n11,c11,rfl⟩:=d11.isS
 refine aF (vs:=[(0,.agg #[I 2,I 0,B false,.slice none 0 0,.slice none 0 0])]) E E hr11 ?_
 refine bC (vs:=[(0,.slice A11 n11 c11)]) (r:=.agg #[.slice A11 n11 c11,.slice none 0 0,I 0,I 0,B false,.slice none 0 0,.slice none 0 0,.slice none 0 0,B false,.slice none 0 0]) E E (run_build _ _ _ #[.slice A11 n11 c11,.slice none 0 0,I 0,I 0,B false,.slice none 0 0,.slice none 0 0,.slice none 0 0,B false,.slice none 0 0] (by kernel_rfl)) ?_
 obtain⟨v13,w13,hr13,x13,b13,_⟩:=uO (P:=Tryz.prog) (w:=w11) (t:=25) Tryz.underlying25 lV rfl (by omega) [[.slice A11 n11 c11,.slice none 0 0,I 0,I 0,B false,.slice none 0 0,.slice none 0 0,.slice none 0 0,B false,.slice none 0 0]] (by simp) (by simp) (by simp)
 have r13:bZ (fun _=>False) w13 (jR Cy) [.slice A11 n11 c11,.slice none 0 0,I 0,I 0,B false,.slice none 0 0,.slice none 0 0,.slice none 0 0,B false,.slice none 0 0]:=pl (u:=Cy) ((Rp.x (d11.ext x13)).weak fun _ h=>h.elim) zr
 have d13:cd jR [Cy] v13 w13:=Rp.ofSl (sz:=10) b13 (by simpa using bn.cons (b:=[]) r13.rp bn.nil) (by simp[bG]) (by omega)
 refine aF (vs:=[(0,.agg #[.slice A11 n11 c11,.slice none 0 0,I 0,I 0,B false,.slice none 0 0,.slice none 0 0,.slice none 0 0,B false,.slice none 0 0])]) E E hr13 ?_
 refine an gi E E ((Cz d13 (ho.ext (x11.trans x13)))) ?_
 rintro v14 w14 ⟨x14,vl,x,y,vk,vp,mv,rfl,h1,hm⟩
 refine ae E E (aA E E (dH) (aA E E (dJ) (aA E E (dK) ?_)))
 obtain⟨g1,w1,hr1,l1,x1,k1⟩:=a9 (P:=Tryz.prog) (w:=w14) (t:=52) (z:=.agg #[.slice none 0 0,I 0,I 0,B false,.slice none 0 0,.slice none 0 0,.slice none 0 0,B false,.slice none 0 0]) (l:=[.slice none 0 0,I 0,I 0,B false,.slice none 0 0,.slice none 0 0,.slice none 0 0,B false,.slice none 0 0]) (by kernel_rfl) rfl
 refine aS E hr1 ?_
 obtain⟨w2,s2,q2,k2⟩:=k1.stS (P:=Tryz.prog) (t:=52) (m:=[vl,I 1,I 0,B false,x,y,vk,B false,vp]) rfl (by kernel_rfl) h1
 refine ay E E s2 ?_
 have x2:=aH.of_new x1 q2 l1
 refine ac E E (ac E E (ag (ab (af (aa ?_)))))
 refine bC (vs:=[]) (r:=.agg (vY.map U8).toArray) E E (run_build _ _ _ (vY.map U8).toArray (by kernel_rfl)) ?_
 refine an Ci E E ((Cj (d:=vY) E)) ?_
 rintro v19 w19 ⟨x19,o19⟩
 have b19:=o19.bts
 refine ac E E (ag (ab (af (aa (ae E E (an EW E E ((IK b19 (by rw[oK rfl];omega) IN)) ?_))))))
 rintro v22 w22 ⟨x22,ve,rfl,rp22⟩
 refine ae E E (aA E E (Hg) (aA E E (Hh) (aA E E (Hi) (aA E E (Hj) ?_))))
 obtain⟨g5,w5,hr5,l5,x5,k5⟩:=a9 (P:=Tryz.prog) (w:=w22) (t:=24) (l:=vY.map U8) li rfl
 refine aS E hr5 ?_
 obtain⟨w6,s6,q6,k6⟩:=k5.stS (P:=Tryz.prog) (t:=24) (m:=vY.map U8) rfl (by kernel_rfl) (iu _)
 refine ay E E s6 ?_
 have x6:=aH.of_new x5 q6 l5
 refine ac E E (ac E E (ac E E (ag (ab (af ?_)))))
 have hmW:=hm.ext ((((x2.trans x19).trans x22).trans x6))
 have hlW:cd jR [] ve w6:=(rp22.ext x6).rp
 have b19W:=b19.ext ((x22.trans x6))
 obtain⟨a42,c42,p42,q42,h42⟩:=cb (P:=Tryz.prog) (sz:=1) Tryz.underlying59 (by kernel_rfl) nw (by omega) hmW (i:=0) (by simp) .i64
 obtain⟨v43,rfl,d43,_⟩:=Rp.isSlice h42
 obtain⟨a51,c51,p51,q51,h51⟩:=cb (P:=Tryz.prog) (sz:=5) Tryz.underlying41 (by kernel_rfl) ca (by omega) (show cd c9 [Lh] v43 w6 from d43) (i:=0) (by simp) .i64
 obtain⟨x51,y51,rfl,_,_⟩:=fY h51
 refine aa (ae E E (al E E E (dD E bo) (ae E E (ak E (ah E E (av (o:=1) Lk E (by kernel_rfl) E) ?_)))))
 refine ak E (ah E E (cx (b:=1) (o:=0) Lm E (by kernel_rfl) E) (ak E (aj E E (ai Lo E (((x19.trans x22).trans x6).cell_some (k2.cell (i:=1) E))) ?_)))
 refine ak E (al E E E (dD E bo) (aq E E E (ae E E (ak E (ae E E (ak E ?_))))))
 refine aV E E (aY LO hmW) ?_
 refine ak E (al E E E (dD E bo) (aq E E E (ae E E (ak E (ae E E (ak E ?_))))))
 refine ar E E E (p42 _) ?_
 refine ak E ?_
 refine aj E E (ai Lu E (by have h:=q42 0 v43 rfl;rwa [i9] at h)) ?_
 refine ak E ?_
 refine aV E E (aY Lu (show cd c9 [Lh] v43 w6 from d43)) ?_
 refine ak E (al E E E (dD E bo) (aq E E E (ae E E (ak E (ae E E (ak E ?_))))))
 refine ar E E E (p42 _) ?_
 refine ak E ?_
 refine aj E E (ai Lu E (by have h:=q42 0 v43 rfl;rwa [i9] at h)) ?_
 refine ak E ?_
 refine ar E E E (p51 _) ?_
 refine ak E ?_
 refine ah E E (gt (o:=0) Lm E (by kernel_rfl) E) ?_
 refine ak E (aj E E (ai Lo E (q51.at (j:=0) E)) (ak E (al E E E (dD E bo) (aq E E E (ae E E ?_)))))
 refine ak E (ae E E (ak E ?_))
 refine aV E E (ey b19W) ?_
 refine ak E (al E E E (dD (by rw[oK rfl];rfl) bo) (aq E E E (ae E E (ak E (ae E E (ak E ?_))))))
 refine aV E E (aY LD hlW) ?_
 refine ak E (al E E E (dD E bo) (aq E E E (ae E E (ak E (ae E E (ak E (al E E E (dD E bo) (aq E E E ?_))))))))
 refine ae E E (ak E (ae E E (ak E (al E E E (dD E bo) (aq E E E (ac E E (ag (ab (aw (au E E ?_))))))))))
 exact⟨_,rfl,((((((x11.trans x13).trans x14).trans x2).trans x19).trans x22).trans x6),rfl⟩
end Go.Rl
namespace Go.Rl
open Go.RowKit Go.Proofs
theorem bn.take {w:World} {sz:Nat}:∀(l:List Dt) (xs:List Value) (i:Nat),(∀d∈l,d.size=sz)→bn w l xs→bn w (l.take i) (xs.take (i*sz))
 |[],xs,i,_,h=>by
  simp only[bn] at h
  subst h
  simp only[List.take_nil,bn]
 |d::l,xs,0,_,h=>by simp only[List.take_zero,Nat.zero_mul,bn]
 |d::l,xs,i+1,hs,h=>by
  simp only[bn] at h
  obtain⟨c1,c2,rfl,h1,h2⟩:=h
  have hl:c1.length=sz:=by rw[h1.len];exact hs d (by simp)
  rw[List.take_succ_cons,Nat.succ_mul,List.take_append,List.take_of_length_le (l:=c1) (by rw[hl];exact Nat.le_add_left _ _),show i*sz+sz-c1.length=i*sz by omega]
  exact bn.cons h1 (bn.take l c2 i (fun d hd=>hs d (by simp[hd])) h2)
theorem Hv {P:Program} {α:Type} {f:α→Dt} {l:List α} {v:Value} {w:World} {t e:TypeId} {sz:Nat} (ht:P.underlying t=some (.slice e)) (hz:(P.info? e).map (·.size)=some sz) (hs:∀x,(f x).size=sz) (h0:0<sz) (h:cd f l v w) {hi:Nat} (h1:hi≤l.length):
 ∃v',(∀w':World,(Instr.sliceAt t v none (some (I (hi:Int))) none).run P w'=.ok v' w')∧cd f (l.take hi) v' w:=by
 have hm:∀(m:List α),∀d∈m.map f,d.size=sz:=fun m d hd=>by obtain⟨a,_,rfl⟩:=List.mem_map.1 hd;exact hs a
 obtain⟨xs,h2,h3⟩:=Rp.toSl (sz:=sz) (l:=l.map f) h (hm l)
 have hxl:xs.length=l.length*sz:=by rw[h3.len,cy (sz:=sz) (hm l),List.length_map]
 obtain⟨v',h4,h5⟩:=pO (P:=P) ht hz h2 (hi:=hi) (by rw[hxl];exact Nat.mul_le_mul_right _ h1) h0 .i64
 refine⟨v',h4,Rp.ofSl (l:=(l.take hi).map f) h5 ?_ (hm _) h0⟩
 rw[List.map_take]
 exact bn.take _ _ _ (hm l) h3
end Go.Rl
namespace Go.Rl
open Go.RowKit Go.Proofs
theorem bn.drop {w:World} {sz:Nat}:∀(l:List Dt) (xs:List Value) (i:Nat),(∀d∈l,d.size=sz)→bn w l xs→bn w (l.drop i) (xs.drop (i*sz))
 |[],xs,i,_,h=>by
  simp only[bn] at h
  subst h
  simp only[List.drop_nil,bn]
 |d::l,xs,0,_,h=>by simpa only[List.drop_zero,Nat.zero_mul] using h
 |d::l,xs,i+1,hs,h=>by
  simp only[bn] at h
  obtain⟨c1,c2,rfl,h1,h2⟩:=h
  have hl:c1.length=sz:=by rw[h1.len];exact hs d (by simp)
  rw[List.drop_succ_cons,Nat.succ_mul,List.drop_append,(List.drop_eq_nil_iff (l:=c1)).2 (by rw[hl];exact Nat.le_add_left _ _),List.nil_append,show i*sz+sz-c1.length=i*sz by omega]
  exact bn.drop l c2 i (fun d hd=>hs d (by simp[hd])) h2
theorem yg {P:Program} {α:Type} {f:α→Dt} {l:List α} {v:Value} {w:World} {t e:TypeId} {sz:Nat} (ht:P.underlying t=some (.slice e)) (hz:(P.info? e).map (·.size)=some sz) (hs:∀x,(f x).size=sz) (h0:0<sz) (h:cd f l v w) {lo:Nat} (h1:lo≤l.length):
 ∃v',(∀w':World,(Instr.sliceAt t v (some (I (lo:Int))) none none).run P w'=.ok v' w')∧cd f (l.drop lo) v' w:=by
 have hm:∀(m:List α),∀d∈m.map f,d.size=sz:=fun m d hd=>by obtain⟨a,_,rfl⟩:=List.mem_map.1 hd;exact hs a
 obtain⟨xs,h2,h3⟩:=Rp.toSl (sz:=sz) (l:=l.map f) h (hm l)
 have hxl:xs.length=l.length*sz:=by rw[h3.len,cy (sz:=sz) (hm l),List.length_map]
 obtain⟨v',h4,h5⟩:=pL (P:=P) ht hz h2 (lo:=lo) (by rw[hxl];exact Nat.mul_le_mul_right _ h1) h0 .i64
 refine⟨v',h4,Rp.ofSl (l:=(l.drop lo).map f) h5 ?_ (hm _) h0⟩
 rw[List.map_drop]
 exact bn.drop _ _ _ (hm l) h3
structure Hw (w0 w:World) (g:Nat) (ids:List Nat) (s:bj) (a b:JT) (x y:Value) (g1 g2:Nat) (i1 i2:List Nat) (w':World):Prop where
 mv:Mv (fun k=>k=g) w w'
 hx:bk s.at_.2.1 x w0
 hy:bk s.at_.2.2 y w0
 blk:bQ g 120 (qC 2 z9 s x y (nk g1) (nk g2)) w'
 k1:zT w0 w' g1 a i1
 k2:zT w0 w' g2 b i2
 n1:g∉i1
 n2:g∉i2
 n3:∀k∈i1,k∉i2
 fresh:∀k,k∈i1∨k∈i2→k∈ids∨w.heap.size≤k
 young:w0.heap.size≤g
section
variable {w0 w w' w1 wx:World} {g g1 g2:Nat} {t a b:JT} {ids i1 i2:List Nat} {n:aP} {ps:List bj} {d s:bj} {x y r:Value}
theorem Hw.ext (h:Hw w0 w g ids s a b x y g1 g2 i1 i2 w') (e:aH w' w1):Hw w0 w g ids s a b x y g1 g2 i1 i2 w1:=
 ⟨h.mv.trans (Mv.of_ext (X:=fun k=>k=g) e) fun _ hk _=>hk,h.hx,h.hy,h.blk.ext e,h.k1.ext e,h.k2.ext e,h.n1,h.n2,h.n3,h.fresh,h.young⟩
end
end Go.Rl
namespace Go.Rl
open Go.RowKit Go.Proofs
def Yg (w0 w:World) (k:Nat):Prop:=w0.heap.size≤k∧k<w.heap.size
theorem Yg.of_ext {w0 w w':World} (e:aH w w') {k:Nat} (h:Yg w0 w k):Yg w0 w' k:=⟨h.1,Nat.lt_of_lt_of_le h.2 e.size⟩
structure KL (w0 wS w':World) (kv mv:Value) (ns:List aP) (ms:List (List bj)):Prop where
 own1:dY 52 9 wS.heap.size (fun k=>Yg w0 wS k∨mv.ownBlock=some k) bh ns kv w'
 own2:dY 41 1 wS.heap.size (fun k=>Yg w0 wS k∨kv.ownBlock=some k) oT ms mv w'
 ne:∀k,kv.ownBlock=some k→mv.ownBlock≠some k
section
variable {w0 wS w w' w1:World} {kv mv u:Value} {ns:List aP} {ms l:List (List bj)} {n:aP} {cs:List Value}
theorem KL.nil:KL w0 wS w (.slice none 0 0) (.slice none 0 0) [] []:=⟨dY.nil _,dY.nil _,fun k hk=>by cases hk⟩
theorem KL.ext (h:KL w0 wS w kv mv ns ms) (e:aH w w'):KL w0 wS w' kv mv ns ms:=⟨h.own1.ext e,h.own2.ext e,h.ne⟩
end
end Go.Rl
namespace Go.Rl
open Go.RowKit Go.Proofs
theorem IP {w:World} {ad:Addr} {xs cs:List Value} {g5:Nat} {T:TypeId} (hc:dw w ad xs) (hb:bQ g5 T cs w) (he:ad.block=g5) (hn:xs≠[]):∃o:Nat,∀(j:Nat) u,xs[j]? =some u→cs[o+j]? =some u:=by
 obtain⟨u0,t0,rfl⟩:∃u t,xs=u::t:=by cases xs with
  |nil=>exact absurd rfl hn
  |cons u t=>exact⟨u,t,rfl⟩
 have hs:(ad.add 0).spot=none:=World.cell?_spot (hc 0 u0 rfl)
 have hb0:(ad.add 0).block=g5:=by rw[iH];exact he
 have e0:ad.add 0=⟨g5,(ad.add 0).off,none⟩:=by
  cases hx:ad.add 0 with
  |mk b o s=>
   rw[hx] at hs hb0
   simp only at hs hb0
   rw[hs,hb0]
 refine⟨(ad.add 0).off,fun j u hj=>?_⟩
 have h1:=hc j u hj
 have h2:ad.add j=⟨g5,(ad.add 0).off+j,none⟩:=by
  have:=qJ ad 0 j
  rw[Nat.zero_add] at this
  rw[←this,e0]
  simp[Addr.add]
 rw[h2] at h1
 have h3:=cell_of_row w g5 ((ad.add 0).off+j) cs.toArray T (0,0) hb
 rw[h3] at h1
 simpa using h1
def zC:List Value:=[.slice none 0 0,I 0,I 0,B false,.slice none 0 0,.slice none 0 0,.slice none 0 0,B false,.slice none 0 0]
section
variable {X:Nat→Prop} {w:World} {g:Nat} {T:TypeId}
theorem zN {l:List Dt} {cs:List Value} (hb:bQ g T zC w) (h:bZ X w (.sl l) cs) (hl:∀xs,aN X w l xs→aN (fun k=>X k∨k=g) w l xs∧(l≠[]→∀o:Nat,∃(j:Nat) (u:Value),xs[j]? =some u∧zC[o+j]? ≠some u)):bZ (fun k=>X k∨k=g) w (.sl l) cs:=by
 simp only[bZ] at h⊢
 obtain⟨A,n,c,hv,h2,h3,h4,h5,h6⟩:=h
 refine⟨A,n,c,hv,h2,h3,h4,h5,fun hp=>?_⟩
 obtain⟨ad,xs,hA,hX,hC,hall⟩:=h6 hp
 obtain⟨q1,q2⟩:=hl xs hall
 refine⟨ad,xs,hA,fun hn hx=>?_,hC,q1⟩
 rcases hx with hx|hx
 ·exact hX hn hx
 ·obtain⟨o,ho⟩:=IP hC hb hx hn
  obtain⟨j,u,h7,h8⟩:=q2 (fun e=>by subst e;simp only[aN] at hall;exact hn hall) o
  exact h8 (ho j u h7)
theorem Km:∀n:UInt32,bE n∉zC:=fun n h=>by simp[zC,bE,I,B] at h
theorem zO {q:eW} {cs:List Value} (hb:bQ g T zC w) (h:bZ X w (fK q) cs):bZ (fun k=>X k∨k=g) w (fK q) cs:=by
 have h1:=h
 simp only[fK,bZ,aN] at h
 obtain⟨_,_,rfl,rfl,c1,_,rfl,a1,c2,_,rfl,a2,rfl⟩:=h
 have isS:∀{l:List UInt32} {c:List Value},bZ X w (jA l) c→∃v,c=[v]:=fun {l c} h=>by
  unfold jA at h
  simp only[bZ] at h
  obtain⟨A,n,c,rfl,_⟩:=h
  exact⟨_,rfl⟩
 obtain⟨x,rfl⟩:=isS a1
 obtain⟨y,rfl⟩:=isS a2
 exact Gy h1 hb Km
theorem t7 {α:Type} {f:α→Dt}:∀{l:List α} {xs:List Value},(∀a∈l,∀cs,bZ X w (f a) cs→bZ (fun k=>X k∨k=g) w (f a) cs)→aN X w (l.map f) xs→aN (fun k=>X k∨k=g) w (l.map f) xs
 |[],xs,_,h=>by simpa only[List.map_nil,aN] using h
 |a::l,xs,hf,h=>by
  simp only[List.map_cons,aN] at h⊢
  obtain⟨c1,c2,rfl,h1,h2⟩:=h
  exact⟨c1,c2,rfl,hf a (by simp) c1 h1,t7 (fun b hb=>hf b (by simp[hb])) h2⟩
theorem Hx {m:cp} {cs:List Value} (hb:bQ g T zC w) (h:bZ X w (bK m) cs):bZ (fun k=>X k∨k=g) w (bK m) cs:=by
 simp only[bK,bZ.eq_5,aN] at h⊢
 obtain⟨a,b,rfl,h1,c,d,rfl,h2,rfl⟩:=h
 refine⟨a,_,rfl,?_,c,_,rfl,zO hb h2,rfl⟩
 simpa only[kH,bZ] using h1
theorem CA {m:cp} {cs:List Value} (h:bZ X w (bK m) cs):∃a b c t,cs=I a::I b::I c::t:=by
 obtain⟨x,y,rfl,_⟩:=fI h.rp
 exact⟨_,_,_,_,rfl⟩
theorem IQ (o:Nat) (a b c:Int) (t:List Value):∃(j:Nat) (u:Value),(I a::I b::I c::t)[j]? =some u∧zC[o+j]? ≠some u:=by
 by_cases h:o=1
 ·exact⟨2,I c,rfl,by subst h;simp[zC,I,B]⟩
 ·by_cases h2:o=2
  ·exact⟨1,I b,rfl,by subst h2;simp[zC,I,B]⟩
  ·refine⟨0,I a,rfl,fun hh=>?_⟩
   rcases o with _|_|_|_|_|_|_|_|_|o<;>simp[zC,I,B] at hh h h2
theorem yh {l:List cp} {cs:List Value} (hb:bQ g T zC w) (h:bZ X w (fL l) cs):bZ (fun k=>X k∨k=g) w (fL l) cs:=by
 unfold fL at h⊢
 refine zN hb h fun xs hx=>⟨t7 (fun a _ cs h=>Hx hb h) hx,fun hn o=>?_⟩
 cases l with
 |nil=>exact absurd rfl hn
 |cons m l=>
  simp only[List.map_cons,aN] at hx
  obtain⟨c1,c2,rfl,h1,_⟩:=hx
  obtain⟨a,b,c,t,rfl⟩:=CA h1
  exact IQ o a b c _
theorem IR {m:eB} {cs:List Value} (hb:bQ g T zC w) (h:bZ X w (cP m) cs):bZ (fun k=>X k∨k=g) w (cP m) cs:=by
 simp only[cP,bZ.eq_5,aN] at h⊢
 obtain⟨a,b,rfl,h1,c,d,rfl,h2,e,f,rfl,h3,i,j,rfl,h4,rfl⟩:=h
 exact⟨a,_,rfl,by simpa only[kH,bZ] using h1,c,_,rfl,by simpa only[bZ] using h2,e,_,rfl,zO hb h3,i,_,rfl,yh hb h4,rfl⟩
theorem Fb {m:eB} {cs:List Value} (h:bZ X w (cP m) cs):∃a b c t,cs=I a::B b::B c::t:=by
 obtain⟨x,y,v,rfl,_⟩:=eK h.rp
 exact⟨_,_,_,_,rfl⟩
theorem Kn (o:Nat) (a:Int) (b c:Bool) (t:List Value):∃(j:Nat) (u:Value),(I a::B b::B c::t)[j]? =some u∧zC[o+j]? ≠some u:=by
 by_cases h:o=1
 ·exact⟨1,B b,rfl,by subst h;simp[zC,I,B]⟩
 ·by_cases h2:o=2
  ·exact⟨2,B c,rfl,by subst h2;simp[zC,B]⟩
  ·refine⟨0,I a,rfl,fun hh=>?_⟩
   rcases o with _|_|_|_|_|_|_|_|_|o<;>simp[zC,I,B] at hh h h2
theorem ki:∀{d:Nat} {n:aP} {cs:List Value},kn d n=true→bQ g T zC w→bZ X w (bh n) cs→bZ (fun k=>X k∨k=g) w (bh n) cs
 |d,n,cs,hk,hb,h=>by
  have hks:=j9 hk
  obtain⟨ls,s,ks,em,pf⟩:=n
  unfold bh at h⊢
  simp only[bZ.eq_5,aN] at h⊢
  obtain⟨a1,r1,rfl,h1,a2,r2,rfl,h2,a3,r3,rfl,h3,a4,r4,rfl,h4,a5,r5,rfl,h5,rfl⟩:=h
  refine⟨a1,_,rfl,?_,a2,_,rfl,?_,a3,_,rfl,?_,a4,_,rfl,by simpa only[bZ] using h4,a5,_,rfl,yh hb h5,rfl⟩
  ·refine zN hb h1 fun xs hx=>⟨t7 (fun a _ cs h=>IR hb h) hx,fun hn o=>?_⟩
   cases ls with
   |nil=>exact absurd rfl hn
   |cons m l=>
    simp only[List.map_cons,aN] at hx
    obtain⟨c1,c2,rfl,h1,_⟩:=hx
    obtain⟨a,b,c,t,rfl⟩:=Fb h1
    exact Kn o a b c _
  ·simp only[c9,bZ.eq_5,aN] at h2⊢
   obtain⟨b1,s1,rfl,k1,b2,s2,rfl,k2,b3,s3,rfl,k3,rfl⟩:=h2
   exact⟨b1,_,rfl,by simpa only[kH,bZ] using k1,b2,_,rfl,by simpa only[kH,bZ] using k2,b3,_,rfl,zO hb k3,rfl⟩
  ·rcases hks with hz|⟨e,x,y,rfl,hz,_,x1,y1⟩
   ·have hz:ks=[]:=hz
    subst hz
    refine zN hb h3 fun xs hx=>⟨by simpa only[uR,aN] using hx,fun hn=>absurd E hn⟩
   ·have hz:ks=[x,y]:=hz
    subst hz
    rw[iT] at h3⊢
    refine zN hb h3 fun xs hx=>⟨?_,fun _ o=>?_⟩
    ·refine t7 (fun a ha cs h=>?_) hx
     simp only[List.mem_cons,List.not_mem_nil,or_false] at ha
     rcases ha with rfl|rfl
     ·exact ki x1 hb h
     ·exact ki y1 hb h
    ·have hl:=hx.len
     rw[cy (sz:=9) (by simp[bF])] at hl
     have hl:xs.length=18:=hl
     refine⟨17,xs[17],List.getElem?_eq_getElem (by omega),fun hh=>?_⟩
     have:=(List.getElem?_eq_some_iff.1 hh).1
     simp[zC] at this
     omega
 termination_by d=>d
end
end Go.Rl
namespace Go.Rl
open Go.RowKit Go.Proofs
theorem cC:aJ Tryz.prog 31:=⟨_,Tryz.func31,by kernel_rfl,rfl⟩
def IS (w0:World) (d:Nat) (n:aP):Prop:=∀(w:World) (vl x y vk vp:Value),aH w0 w→cd cP n.lems vl w0→bk n.split.at_.2.1 x w0→bk n.split.at_.2.2 y w0→cd bh n.kids vk w0→cd bK n.pf vp w0→
 Calls Tryz.prog 31 #[.agg #[vl,I n.split.kd,I n.split.ix,B n.split.at_.1,x,y,vk,B n.empty,vp]] w (bN fun r w'=>aH w w'∧∃cs,r=.agg cs.toArray∧ap cs∧bZ (Yg w0 w) w' (bh (fR d n).node) cs)
theorem IT {w0:World} {d:Nat} {n:aP} (hok:kn d n=true) (ih:∀e a b,d=e+1→n.kids=[a,b]→kn e a=true→kn e b=true→IS w0 e a∧IS w0 e b):IS w0 d n:=by
 intro w vl x y vk vp e0 hl hx hy hk hp
 have hlw:=hl.ext e0
 have hxw:=hx.ext e0
 have hyw:=hy.ext e0
 have hkw:=hk.ext e0
 have hpw:=hp.ext e0
 have s0:=e0.size
 refine enter (vs:=[.agg #[vl,I n.split.kd,I n.split.ix,B n.split.at_.1,x,y,vk,B n.empty,vp]]) Tryz.func31 E E E ?_
 refine af (aa ?_)
 obtain⟨g1,w1,hr1,l1,x1,k1⟩:=cq (P:=Tryz.prog) (w:=w) (T:=52) (cs:=[vl,I n.split.kd,I n.split.ix,B n.split.at_.1,x,y,vk,B n.empty,vp])
 refine cw E E hr1 ?_
 obtain⟨g2,w2,hr2,l2,x2,k2⟩:=a9 (P:=Tryz.prog) (w:=w1) (t:=52) (z:=.agg #[.slice none 0 0,I 0,I 0,B false,.slice none 0 0,.slice none 0 0,.slice none 0 0,B false,.slice none 0 0]) (l:=[.slice none 0 0,I 0,I 0,B false,.slice none 0 0,.slice none 0 0,.slice none 0 0,B false,.slice none 0 0]) (by kernel_rfl) rfl
 refine aS E hr2 (ag (ab (af (af ?_))))
 have hc:=j9 hok
 rcases hc with hk0|⟨e,a,b,rfl,hk2,hinn,oka,okb⟩
 ·refine aa (ah E E (av (o:=6) Lk E (by kernel_rfl) E) (aj E E (ai Ls E (x2.cell_some (k1.cell (i:=6) E))) ?_))
  refine aV E E (aY Tryz.underlying49 (hkw.ext (x1.trans x2))) (al E E E (dD (by rw[hk0];simp) dn) (ag (ab (bm E (af ?_)))))
  refine aa (aj E E ((k1.ext x2).ld Lk E (by kernel_rfl)) ?_)
  obtain⟨w2_1,s2_1,q2_1,k2_1⟩:=k2.stS (P:=Tryz.prog) (t:=52) (m:=[vl,I n.split.kd,I n.split.ix,B n.split.at_.1,x,y,vk,B n.empty,vp]) rfl (by kernel_rfl) (ap.cons hlw.one (ap.cons rfl (ap.cons rfl (ap.cons rfl (ap.cons hxw.one (ap.cons hyw.one (ap.cons hkw.one (ap.cons rfl (ap.cons hpw.one ap.nil)))))))))
  refine ay E E s2_1 ?_
  have x2_1:=aH.of_new (x2) q2_1 l2
  refine ag (ab (aw (az ?_)))
  refine cM E E k2_1 Lk E (by kernel_rfl) ?_
  have eF:=(x1.trans x2_1)
  refine⟨_,rfl,eF,[vl,I n.split.kd,I n.split.ix,B n.split.at_.1,x,y,vk,B n.empty,vp],rfl,yG (t3 hl hx hy hk hp),?_⟩
  rw[rK hk0]
  exact js (t3 hl hx hy hk hp) (e0.trans eF) fun k hk=>hk.1
 ·refine aa (ah E E (av (o:=6) Lk E (by kernel_rfl) E) (aj E E (ai Ls E (x2.cell_some (k1.cell (i:=6) E))) ?_))
  refine aV E E (aY Tryz.underlying49 (hkw.ext (x1.trans x2))) (al E E E (d7 (by rw[hk2];simp) dn) (ag (ab (cN E (aC ?_)))))
  refine ab (af ?_)
  obtain⟨hA,hB⟩:=ih e a b rfl hk2 oka okb
  have hkk:cd bh [a,b] vk w0:=by rw[←hk2];exact hk
  obtain⟨a12,c12,p12,q12,h12⟩:=cb (P:=Tryz.prog) (sz:=9) Tryz.underlying49 (by kernel_rfl) bF (by omega) hkk (i:=0) (by simp) .i64
  obtain⟨a17,c17,p17,q17,h17⟩:=cb (P:=Tryz.prog) (sz:=9) Tryz.underlying49 (by kernel_rfl) bF (by omega) hkk (i:=1) (by simp) .i64
  obtain⟨vl1,x1',y1',vk1,vp1,rfl,hl1,hx1,hy1,hk1,hp1⟩:=dc h12
  obtain⟨vl2,x2',y2',vk2,vp2,rfl,hl2,hx2,hy2,hkk2,hp2⟩:=dc h17
  have h12:cd cP a.lems vl1 w0:=hl1
  have eD:aH w2 w2.drew:=(aH.refl _).drew
  have eL:aH w w2:=(x1.trans x2)
  have hS:bQ g1 52 [vl,I n.split.kd,I n.split.ix,B n.split.at_.1,x,y,vk,B n.empty,vp] w2.drew∧aH w0 w2.drew:=⟨(k1.ext x2).ext eD,e0.trans (eL.trans eD)⟩
  have hcar:∀{w1 w2:World},bQ g1 52 [vl,I n.split.kd,I n.split.ix,B n.split.at_.1,x,y,vk,B n.empty,vp] w1∧aH w0 w1→aH w1 w2→bQ g1 52 [vl,I n.split.kd,I n.split.ix,B n.split.at_.1,x,y,vk,B n.empty,vp] w2∧aH w0 w2:=fun h e=>⟨h.1.ext e,h.2.trans e⟩
  refine fw (fun w1=>bQ g1 52 [vl,I n.split.kd,I n.split.ix,B n.split.at_.1,x,y,vk,B n.empty,vp] w1∧aH w0 w1) 14 E (by kernel_rfl) ?_
  refine dl 0 E E (by kernel_rfl) E hS (fun _ _=>av (o:=6) Lk E (by kernel_rfl) E) ?_
  refine d6 1 E E (by kernel_rfl) E hS (fun _ hw=>ai Ls E (hw.1.cell (i:=6) E)) ?_
  refine ii 2 E E E (by kernel_rfl) E hS (fun _ _=>p12 _) ?_
  refine d6 3 E E (by kernel_rfl) E hS (fun _ hw=>(q12.ext hw.2).ld Lk E (by kernel_rfl)) ?_
  refine dl 5 E E (by kernel_rfl) E hS (fun _ _=>av (o:=6) Lk E (by kernel_rfl) E) ?_
  refine d6 6 E E (by kernel_rfl) E hS (fun _ hw=>ai Ls E (hw.1.cell (i:=6) E)) ?_
  refine ii 7 E E E (by kernel_rfl) E hS (fun _ _=>p17 _) ?_
  refine d6 8 E E (by kernel_rfl) E hS (fun _ hw=>(q17.ext hw.2).ld Lk E (by kernel_rfl)) ?_
  refine iA (fun z=>[(1,.pointer (some ⟨g1,0,none⟩)),(2,.pointer (some ⟨g2,0,none⟩)),(3,.pointer (some ⟨z.1,0,none⟩)),(4,.pointer (some ⟨z.2.1,0,none⟩)),(14,.agg z.2.2.1.toArray),(19,.agg z.2.2.2.toArray)]) (fun(z:Nat×Nat×List Value×List Value) w1=>aH w2 w1∧bQ z.1 52 [.slice none 0 0,I 0,I 0,B false,.slice none 0 0,.slice none 0 0,.slice none 0 0,B false,.slice none 0 0] w1∧bQ z.2.1 52 [.slice none 0 0,I 0,I 0,B false,.slice none 0 0,.slice none 0 0,.slice none 0 0,B false,.slice none 0 0] w1∧z.1≠z.2.1∧w2.heap.size≤z.1∧w2.heap.size≤z.2.1∧ap z.2.2.1∧ap z.2.2.2∧bZ (fun k=>Yg w0 w2 k∨k=z.1∨k=z.2.1) w1 (bh (fR e a).node) z.2.2.1∧bZ (fun k=>Yg w0 w2 k∨k=z.1∨k=z.2.1) w1 (bh (fR e b).node) z.2.2.2) #[true,true,true,true,true,true,true,true,true,true,true,true,false,false] 2 ?_ (fun hk=>?_)
  rotate_left
  ·refine zL 4 10 11 (by kernel_rfl) E E E ?_ ?_ ?_
   ·refine an cC E E (hA w2.drew _ _ _ _ _ hS.2 hl1 hx1 hy1 hk1 hp1) ?_
    rintro vA wz1 ⟨x1,csA,rfl,oA,rA⟩
    have ez1:aH w2 wz1:=eD.trans x1
    have sz1:=x1.size
    have hS1:=hcar hS x1
    refine ao hS1 ?_
    refine zL 9 10 11 (by kernel_rfl) E E E ?_ ?_ ?_
    ·refine an cC E E (hB wz1 _ _ _ _ _ hS1.2 hl2 hx2 hy2 hkk2 hp2) ?_
     rintro vB wz2 ⟨x2,csB,rfl,oB,rB⟩
     have ez2:aH w2 wz2:=ez1.trans x2
     have sz2:=x2.size
     have hS2:=hcar hS1 x2
     refine ao hS2 ?_
     refine ep 10 11 (by kernel_rfl) E E ?_ ?_
     ·obtain⟨g3,wz3,hr3,lg3,x3,kg33⟩:=bA (w:=wz2)
      have bg3:=kg33.lt
      refine aS E hr3 ?_
      have ez3:aH w2 wz3:=ez2.trans x3
      have sz3:=x3.size
      have hS3:=hcar hS2 x3
      refine ao hS3 ?_
      obtain⟨g4,wz4,hr4,lg4,x4,kg44⟩:=bA (w:=wz3)
      have bg4:=kg44.lt
      refine aO 11 (by kernel_rfl) E (aS E hr4 ?_)
      have ez4:aH w2 wz4:=ez3.trans x4
      have sz4:=x4.size
      have hS4:=hcar hS3 x4
      refine ao hS4 ?_
      have sL:=hS.2.size
      have sD:=eD.size
      have wA:=rA.weak (Y:=(fun k=>Yg w0 w2 k∨k=g3∨k=g4)) (fun k hk=>by
       rcases hk with hk|hk|hk
       ·exact .inl ⟨hk.1,by have:=hk.2;omega⟩
       ·subst hk;first|exact .inl ⟨by omega,by omega⟩|exact .inr (by omega)
       ·subst hk;first|exact .inl ⟨by omega,by omega⟩|exact .inr (by omega))
      have wB:=rB.weak (Y:=(fun k=>Yg w0 w2 k∨k=g3∨k=g4)) (fun k hk=>by
       rcases hk with hk|hk|hk
       ·exact .inl ⟨hk.1,by have:=hk.2;omega⟩
       ·subst hk;first|exact .inl ⟨by omega,by omega⟩|exact .inr (by omega)
       ·subst hk;first|exact .inl ⟨by omega,by omega⟩|exact .inr (by omega))
      exact hk _ _ ⟨(g3,g4,csA,csB),⟨rfl,rfl,rfl,rfl,rfl,rfl,trivial⟩,ez4,(kg33.ext x4),kg44,(show g3≠g4 by omega),(show w2.heap.size≤g3 by omega),(show w2.heap.size≤g4 by omega),oA,oB,(wA.ext ((x2.trans x3).trans x4)),(wB.ext (x3.trans x4))⟩
     ·obtain⟨g4,wz5,hr5,lg4,x5,kg45⟩:=bA (w:=wz2)
      have bg4:=kg45.lt
      refine aS E hr5 ?_
      have ez5:aH w2 wz5:=ez2.trans x5
      have sz5:=x5.size
      have hS5:=hcar hS2 x5
      refine ao hS5 ?_
      obtain⟨g3,wz6,hr6,lg3,x6,kg36⟩:=bA (w:=wz5)
      have bg3:=kg36.lt
      refine aO 10 (by kernel_rfl) E (aS E hr6 ?_)
      have ez6:aH w2 wz6:=ez5.trans x6
      have sz6:=x6.size
      have hS6:=hcar hS5 x6
      refine ao hS6 ?_
      have sL:=hS.2.size
      have sD:=eD.size
      have wA:=rA.weak (Y:=(fun k=>Yg w0 w2 k∨k=g3∨k=g4)) (fun k hk=>by
       rcases hk with hk|hk|hk
       ·exact .inl ⟨hk.1,by have:=hk.2;omega⟩
       ·subst hk;first|exact .inl ⟨by omega,by omega⟩|exact .inr (by omega)
       ·subst hk;first|exact .inl ⟨by omega,by omega⟩|exact .inr (by omega))
      have wB:=rB.weak (Y:=(fun k=>Yg w0 w2 k∨k=g3∨k=g4)) (fun k hk=>by
       rcases hk with hk|hk|hk
       ·exact .inl ⟨hk.1,by have:=hk.2;omega⟩
       ·subst hk;first|exact .inl ⟨by omega,by omega⟩|exact .inr (by omega)
       ·subst hk;first|exact .inl ⟨by omega,by omega⟩|exact .inr (by omega))
      exact hk _ _ ⟨(g3,g4,csA,csB),⟨rfl,rfl,rfl,rfl,rfl,rfl,trivial⟩,ez6,kg36,(kg45.ext x6),(show g3≠g4 by omega),(show w2.heap.size≤g3 by omega),(show w2.heap.size≤g4 by omega),oA,oB,(wA.ext ((x2.trans x5).trans x6)),(wB.ext (x5.trans x6))⟩
    ·obtain⟨g3,wz7,hr7,lg3,x7,kg37⟩:=bA (w:=wz1)
     have bg3:=kg37.lt
     refine aS E hr7 ?_
     have ez7:aH w2 wz7:=ez1.trans x7
     have sz7:=x7.size
     have hS7:=hcar hS1 x7
     refine ao hS7 ?_
     refine ep 9 11 (by kernel_rfl) E E ?_ ?_
     ·refine an cC E E (hB wz7 _ _ _ _ _ hS7.2 hl2 hx2 hy2 hkk2 hp2) ?_
      rintro vB wz8 ⟨x8,csB,rfl,oB,rB⟩
      have ez8:aH w2 wz8:=ez7.trans x8
      have sz8:=x8.size
      have hS8:=hcar hS7 x8
      refine ao hS8 ?_
      obtain⟨g4,wz9,hr9,lg4,x9,kg49⟩:=bA (w:=wz8)
      have bg4:=kg49.lt
      refine aO 11 (by kernel_rfl) E (aS E hr9 ?_)
      have ez9:aH w2 wz9:=ez8.trans x9
      have sz9:=x9.size
      have hS9:=hcar hS8 x9
      refine ao hS9 ?_
      have sL:=hS.2.size
      have sD:=eD.size
      have wA:=rA.weak (Y:=(fun k=>Yg w0 w2 k∨k=g3∨k=g4)) (fun k hk=>by
       rcases hk with hk|hk|hk
       ·exact .inl ⟨hk.1,by have:=hk.2;omega⟩
       ·subst hk;first|exact .inl ⟨by omega,by omega⟩|exact .inr (by omega)
       ·subst hk;first|exact .inl ⟨by omega,by omega⟩|exact .inr (by omega))
      have wB:=rB.weak (Y:=(fun k=>Yg w0 w2 k∨k=g3∨k=g4)) (fun k hk=>by
       rcases hk with hk|hk|hk
       ·exact .inl ⟨hk.1,by have:=hk.2;omega⟩
       ·subst hk;first|exact .inl ⟨by omega,by omega⟩|exact .inr (by omega)
       ·subst hk;first|exact .inl ⟨by omega,by omega⟩|exact .inr (by omega))
      exact hk _ _ ⟨(g3,g4,csA,csB),⟨rfl,rfl,rfl,rfl,rfl,rfl,trivial⟩,ez9,(kg37.ext (x8.trans x9)),kg49,(show g3≠g4 by omega),(show w2.heap.size≤g3 by omega),(show w2.heap.size≤g4 by omega),oA,oB,(wA.ext ((x7.trans x8).trans x9)),(wB.ext x9)⟩
     ·obtain⟨g4,wz10,hr10,lg4,x10,kg410⟩:=bA (w:=wz7)
      have bg4:=kg410.lt
      refine aS E hr10 ?_
      have ez10:aH w2 wz10:=ez7.trans x10
      have sz10:=x10.size
      have hS10:=hcar hS7 x10
      refine ao hS10 ?_
      refine aO 9 (by kernel_rfl) E (an cC E E (hB wz10 _ _ _ _ _ hS10.2 hl2 hx2 hy2 hkk2 hp2) ?_)
      rintro vB wz11 ⟨x11,csB,rfl,oB,rB⟩
      have ez11:aH w2 wz11:=ez10.trans x11
      have sz11:=x11.size
      have hS11:=hcar hS10 x11
      refine ao hS11 ?_
      have sL:=hS.2.size
      have sD:=eD.size
      have wA:=rA.weak (Y:=(fun k=>Yg w0 w2 k∨k=g3∨k=g4)) (fun k hk=>by
       rcases hk with hk|hk|hk
       ·exact .inl ⟨hk.1,by have:=hk.2;omega⟩
       ·subst hk;first|exact .inl ⟨by omega,by omega⟩|exact .inr (by omega)
       ·subst hk;first|exact .inl ⟨by omega,by omega⟩|exact .inr (by omega))
      have wB:=rB.weak (Y:=(fun k=>Yg w0 w2 k∨k=g3∨k=g4)) (fun k hk=>by
       rcases hk with hk|hk|hk
       ·exact .inl ⟨hk.1,by have:=hk.2;omega⟩
       ·subst hk;first|exact .inl ⟨by omega,by omega⟩|exact .inr (by omega)
       ·subst hk;first|exact .inl ⟨by omega,by omega⟩|exact .inr (by omega))
      exact hk _ _ ⟨(g3,g4,csA,csB),⟨rfl,rfl,rfl,rfl,rfl,rfl,trivial⟩,ez11,(kg37.ext (x10.trans x11)),(kg410.ext x11),(show g3≠g4 by omega),(show w2.heap.size≤g3 by omega),(show w2.heap.size≤g4 by omega),oA,oB,(wA.ext ((x7.trans x10).trans x11)),wB⟩
    ·obtain⟨g4,wz12,hr12,lg4,x12,kg412⟩:=bA (w:=wz1)
     have bg4:=kg412.lt
     refine aS E hr12 ?_
     have ez12:aH w2 wz12:=ez1.trans x12
     have sz12:=x12.size
     have hS12:=hcar hS1 x12
     refine ao hS12 ?_
     refine ep 9 10 (by kernel_rfl) E E ?_ ?_
     ·refine an cC E E (hB wz12 _ _ _ _ _ hS12.2 hl2 hx2 hy2 hkk2 hp2) ?_
      rintro vB wz13 ⟨x13,csB,rfl,oB,rB⟩
      have ez13:aH w2 wz13:=ez12.trans x13
      have sz13:=x13.size
      have hS13:=hcar hS12 x13
      refine ao hS13 ?_
      obtain⟨g3,wz14,hr14,lg3,x14,kg314⟩:=bA (w:=wz13)
      have bg3:=kg314.lt
      refine aO 10 (by kernel_rfl) E (aS E hr14 ?_)
      have ez14:aH w2 wz14:=ez13.trans x14
      have sz14:=x14.size
      have hS14:=hcar hS13 x14
      refine ao hS14 ?_
      have sL:=hS.2.size
      have sD:=eD.size
      have wA:=rA.weak (Y:=(fun k=>Yg w0 w2 k∨k=g3∨k=g4)) (fun k hk=>by
       rcases hk with hk|hk|hk
       ·exact .inl ⟨hk.1,by have:=hk.2;omega⟩
       ·subst hk;first|exact .inl ⟨by omega,by omega⟩|exact .inr (by omega)
       ·subst hk;first|exact .inl ⟨by omega,by omega⟩|exact .inr (by omega))
      have wB:=rB.weak (Y:=(fun k=>Yg w0 w2 k∨k=g3∨k=g4)) (fun k hk=>by
       rcases hk with hk|hk|hk
       ·exact .inl ⟨hk.1,by have:=hk.2;omega⟩
       ·subst hk;first|exact .inl ⟨by omega,by omega⟩|exact .inr (by omega)
       ·subst hk;first|exact .inl ⟨by omega,by omega⟩|exact .inr (by omega))
      exact hk _ _ ⟨(g3,g4,csA,csB),⟨rfl,rfl,rfl,rfl,rfl,rfl,trivial⟩,ez14,kg314,(kg412.ext (x13.trans x14)),(show g3≠g4 by omega),(show w2.heap.size≤g3 by omega),(show w2.heap.size≤g4 by omega),oA,oB,(wA.ext ((x12.trans x13).trans x14)),(wB.ext x14)⟩
     ·obtain⟨g3,wz15,hr15,lg3,x15,kg315⟩:=bA (w:=wz12)
      have bg3:=kg315.lt
      refine aS E hr15 ?_
      have ez15:aH w2 wz15:=ez12.trans x15
      have sz15:=x15.size
      have hS15:=hcar hS12 x15
      refine ao hS15 ?_
      refine aO 9 (by kernel_rfl) E (an cC E E (hB wz15 _ _ _ _ _ hS15.2 hl2 hx2 hy2 hkk2 hp2) ?_)
      rintro vB wz16 ⟨x16,csB,rfl,oB,rB⟩
      have ez16:aH w2 wz16:=ez15.trans x16
      have sz16:=x16.size
      have hS16:=hcar hS15 x16
      refine ao hS16 ?_
      have sL:=hS.2.size
      have sD:=eD.size
      have wA:=rA.weak (Y:=(fun k=>Yg w0 w2 k∨k=g3∨k=g4)) (fun k hk=>by
       rcases hk with hk|hk|hk
       ·exact .inl ⟨hk.1,by have:=hk.2;omega⟩
       ·subst hk;first|exact .inl ⟨by omega,by omega⟩|exact .inr (by omega)
       ·subst hk;first|exact .inl ⟨by omega,by omega⟩|exact .inr (by omega))
      have wB:=rB.weak (Y:=(fun k=>Yg w0 w2 k∨k=g3∨k=g4)) (fun k hk=>by
       rcases hk with hk|hk|hk
       ·exact .inl ⟨hk.1,by have:=hk.2;omega⟩
       ·subst hk;first|exact .inl ⟨by omega,by omega⟩|exact .inr (by omega)
       ·subst hk;first|exact .inl ⟨by omega,by omega⟩|exact .inr (by omega))
      exact hk _ _ ⟨(g3,g4,csA,csB),⟨rfl,rfl,rfl,rfl,rfl,rfl,trivial⟩,ez16,(kg315.ext x16),(kg412.ext (x15.trans x16)),(show g3≠g4 by omega),(show w2.heap.size≤g3 by omega),(show w2.heap.size≤g4 by omega),oA,oB,(wA.ext ((x12.trans x15).trans x16)),wB⟩
   ·obtain⟨g3,wz17,hr17,lg3,x17,kg317⟩:=bA (w:=w2.drew)
    have bg3:=kg317.lt
    refine aS E hr17 ?_
    have ez17:aH w2 wz17:=eD.trans x17
    have sz17:=x17.size
    have hS17:=hcar hS x17
    refine ao hS17 ?_
    refine ep 4 11 (by kernel_rfl) E E ?_ ?_
    ·refine an cC E E (hA wz17 _ _ _ _ _ hS17.2 hl1 hx1 hy1 hk1 hp1) ?_
     rintro vA wz18 ⟨x18,csA,rfl,oA,rA⟩
     have ez18:aH w2 wz18:=ez17.trans x18
     have sz18:=x18.size
     have hS18:=hcar hS17 x18
     refine ao hS18 ?_
     refine ep 9 11 (by kernel_rfl) E E ?_ ?_
     ·refine an cC E E (hB wz18 _ _ _ _ _ hS18.2 hl2 hx2 hy2 hkk2 hp2) ?_
      rintro vB wz19 ⟨x19,csB,rfl,oB,rB⟩
      have ez19:aH w2 wz19:=ez18.trans x19
      have sz19:=x19.size
      have hS19:=hcar hS18 x19
      refine ao hS19 ?_
      obtain⟨g4,wz20,hr20,lg4,x20,kg420⟩:=bA (w:=wz19)
      have bg4:=kg420.lt
      refine aO 11 (by kernel_rfl) E (aS E hr20 ?_)
      have ez20:aH w2 wz20:=ez19.trans x20
      have sz20:=x20.size
      have hS20:=hcar hS19 x20
      refine ao hS20 ?_
      have sL:=hS.2.size
      have sD:=eD.size
      have wA:=rA.weak (Y:=(fun k=>Yg w0 w2 k∨k=g3∨k=g4)) (fun k hk=>by
       rcases hk with hk|hk|hk
       ·exact .inl ⟨hk.1,by have:=hk.2;omega⟩
       ·subst hk;first|exact .inl ⟨by omega,by omega⟩|exact .inr (by omega)
       ·subst hk;first|exact .inl ⟨by omega,by omega⟩|exact .inr (by omega))
      have wB:=rB.weak (Y:=(fun k=>Yg w0 w2 k∨k=g3∨k=g4)) (fun k hk=>by
       rcases hk with hk|hk|hk
       ·exact .inl ⟨hk.1,by have:=hk.2;omega⟩
       ·subst hk;first|exact .inl ⟨by omega,by omega⟩|exact .inr (by omega)
       ·subst hk;first|exact .inl ⟨by omega,by omega⟩|exact .inr (by omega))
      exact hk _ _ ⟨(g3,g4,csA,csB),⟨rfl,rfl,rfl,rfl,rfl,rfl,trivial⟩,ez20,(kg317.ext ((x18.trans x19).trans x20)),kg420,(show g3≠g4 by omega),(show w2.heap.size≤g3 by omega),(show w2.heap.size≤g4 by omega),oA,oB,(wA.ext (x19.trans x20)),(wB.ext x20)⟩
     ·obtain⟨g4,wz21,hr21,lg4,x21,kg421⟩:=bA (w:=wz18)
      have bg4:=kg421.lt
      refine aS E hr21 ?_
      have ez21:aH w2 wz21:=ez18.trans x21
      have sz21:=x21.size
      have hS21:=hcar hS18 x21
      refine ao hS21 ?_
      refine aO 9 (by kernel_rfl) E (an cC E E (hB wz21 _ _ _ _ _ hS21.2 hl2 hx2 hy2 hkk2 hp2) ?_)
      rintro vB wz22 ⟨x22,csB,rfl,oB,rB⟩
      have ez22:aH w2 wz22:=ez21.trans x22
      have sz22:=x22.size
      have hS22:=hcar hS21 x22
      refine ao hS22 ?_
      have sL:=hS.2.size
      have sD:=eD.size
      have wA:=rA.weak (Y:=(fun k=>Yg w0 w2 k∨k=g3∨k=g4)) (fun k hk=>by
       rcases hk with hk|hk|hk
       ·exact .inl ⟨hk.1,by have:=hk.2;omega⟩
       ·subst hk;first|exact .inl ⟨by omega,by omega⟩|exact .inr (by omega)
       ·subst hk;first|exact .inl ⟨by omega,by omega⟩|exact .inr (by omega))
      have wB:=rB.weak (Y:=(fun k=>Yg w0 w2 k∨k=g3∨k=g4)) (fun k hk=>by
       rcases hk with hk|hk|hk
       ·exact .inl ⟨hk.1,by have:=hk.2;omega⟩
       ·subst hk;first|exact .inl ⟨by omega,by omega⟩|exact .inr (by omega)
       ·subst hk;first|exact .inl ⟨by omega,by omega⟩|exact .inr (by omega))
      exact hk _ _ ⟨(g3,g4,csA,csB),⟨rfl,rfl,rfl,rfl,rfl,rfl,trivial⟩,ez22,(kg317.ext ((x18.trans x21).trans x22)),(kg421.ext x22),(show g3≠g4 by omega),(show w2.heap.size≤g3 by omega),(show w2.heap.size≤g4 by omega),oA,oB,(wA.ext (x21.trans x22)),wB⟩
    ·obtain⟨g4,wz23,hr23,lg4,x23,kg423⟩:=bA (w:=wz17)
     have bg4:=kg423.lt
     refine aS E hr23 ?_
     have ez23:aH w2 wz23:=ez17.trans x23
     have sz23:=x23.size
     have hS23:=hcar hS17 x23
     refine ao hS23 ?_
     refine aO 4 (by kernel_rfl) E (an cC E E (hA wz23 _ _ _ _ _ hS23.2 hl1 hx1 hy1 hk1 hp1) ?_)
     rintro vA wz24 ⟨x24,csA,rfl,oA,rA⟩
     have ez24:aH w2 wz24:=ez23.trans x24
     have sz24:=x24.size
     have hS24:=hcar hS23 x24
     refine ao hS24 ?_
     refine aO 9 (by kernel_rfl) E (an cC E E (hB wz24 _ _ _ _ _ hS24.2 hl2 hx2 hy2 hkk2 hp2) ?_)
     rintro vB wz25 ⟨x25,csB,rfl,oB,rB⟩
     have ez25:aH w2 wz25:=ez24.trans x25
     have sz25:=x25.size
     have hS25:=hcar hS24 x25
     refine ao hS25 ?_
     have sL:=hS.2.size
     have sD:=eD.size
     have wA:=rA.weak (Y:=(fun k=>Yg w0 w2 k∨k=g3∨k=g4)) (fun k hk=>by
      rcases hk with hk|hk|hk
      ·exact .inl ⟨hk.1,by have:=hk.2;omega⟩
      ·subst hk;first|exact .inl ⟨by omega,by omega⟩|exact .inr (by omega)
      ·subst hk;first|exact .inl ⟨by omega,by omega⟩|exact .inr (by omega))
     have wB:=rB.weak (Y:=(fun k=>Yg w0 w2 k∨k=g3∨k=g4)) (fun k hk=>by
      rcases hk with hk|hk|hk
      ·exact .inl ⟨hk.1,by have:=hk.2;omega⟩
      ·subst hk;first|exact .inl ⟨by omega,by omega⟩|exact .inr (by omega)
      ·subst hk;first|exact .inl ⟨by omega,by omega⟩|exact .inr (by omega))
     exact hk _ _ ⟨(g3,g4,csA,csB),⟨rfl,rfl,rfl,rfl,rfl,rfl,trivial⟩,ez25,(kg317.ext ((x23.trans x24).trans x25)),(kg423.ext (x24.trans x25)),(show g3≠g4 by omega),(show w2.heap.size≤g3 by omega),(show w2.heap.size≤g4 by omega),oA,oB,(wA.ext x25),wB⟩
   ·obtain⟨g4,wz26,hr26,lg4,x26,kg426⟩:=bA (w:=w2.drew)
    have bg4:=kg426.lt
    refine aS E hr26 ?_
    have ez26:aH w2 wz26:=eD.trans x26
    have sz26:=x26.size
    have hS26:=hcar hS x26
    refine ao hS26 ?_
    refine ep 4 10 (by kernel_rfl) E E ?_ ?_
    ·refine an cC E E (hA wz26 _ _ _ _ _ hS26.2 hl1 hx1 hy1 hk1 hp1) ?_
     rintro vA wz27 ⟨x27,csA,rfl,oA,rA⟩
     have ez27:aH w2 wz27:=ez26.trans x27
     have sz27:=x27.size
     have hS27:=hcar hS26 x27
     refine ao hS27 ?_
     refine ep 9 10 (by kernel_rfl) E E ?_ ?_
     ·refine an cC E E (hB wz27 _ _ _ _ _ hS27.2 hl2 hx2 hy2 hkk2 hp2) ?_
      rintro vB wz28 ⟨x28,csB,rfl,oB,rB⟩
      have ez28:aH w2 wz28:=ez27.trans x28
      have sz28:=x28.size
      have hS28:=hcar hS27 x28
      refine ao hS28 ?_
      obtain⟨g3,wz29,hr29,lg3,x29,kg329⟩:=bA (w:=wz28)
      have bg3:=kg329.lt
      refine aO 10 (by kernel_rfl) E (aS E hr29 ?_)
      have ez29:aH w2 wz29:=ez28.trans x29
      have sz29:=x29.size
      have hS29:=hcar hS28 x29
      refine ao hS29 ?_
      have sL:=hS.2.size
      have sD:=eD.size
      have wA:=rA.weak (Y:=(fun k=>Yg w0 w2 k∨k=g3∨k=g4)) (fun k hk=>by
       rcases hk with hk|hk|hk
       ·exact .inl ⟨hk.1,by have:=hk.2;omega⟩
       ·subst hk;first|exact .inl ⟨by omega,by omega⟩|exact .inr (by omega)
       ·subst hk;first|exact .inl ⟨by omega,by omega⟩|exact .inr (by omega))
      have wB:=rB.weak (Y:=(fun k=>Yg w0 w2 k∨k=g3∨k=g4)) (fun k hk=>by
       rcases hk with hk|hk|hk
       ·exact .inl ⟨hk.1,by have:=hk.2;omega⟩
       ·subst hk;first|exact .inl ⟨by omega,by omega⟩|exact .inr (by omega)
       ·subst hk;first|exact .inl ⟨by omega,by omega⟩|exact .inr (by omega))
      exact hk _ _ ⟨(g3,g4,csA,csB),⟨rfl,rfl,rfl,rfl,rfl,rfl,trivial⟩,ez29,kg329,(kg426.ext ((x27.trans x28).trans x29)),(show g3≠g4 by omega),(show w2.heap.size≤g3 by omega),(show w2.heap.size≤g4 by omega),oA,oB,(wA.ext (x28.trans x29)),(wB.ext x29)⟩
     ·obtain⟨g3,wz30,hr30,lg3,x30,kg330⟩:=bA (w:=wz27)
      have bg3:=kg330.lt
      refine aS E hr30 ?_
      have ez30:aH w2 wz30:=ez27.trans x30
      have sz30:=x30.size
      have hS30:=hcar hS27 x30
      refine ao hS30 ?_
      refine aO 9 (by kernel_rfl) E (an cC E E (hB wz30 _ _ _ _ _ hS30.2 hl2 hx2 hy2 hkk2 hp2) ?_)
      rintro vB wz31 ⟨x31,csB,rfl,oB,rB⟩
      have ez31:aH w2 wz31:=ez30.trans x31
      have sz31:=x31.size
      have hS31:=hcar hS30 x31
      refine ao hS31 ?_
      have sL:=hS.2.size
      have sD:=eD.size
      have wA:=rA.weak (Y:=(fun k=>Yg w0 w2 k∨k=g3∨k=g4)) (fun k hk=>by
       rcases hk with hk|hk|hk
       ·exact .inl ⟨hk.1,by have:=hk.2;omega⟩
       ·subst hk;first|exact .inl ⟨by omega,by omega⟩|exact .inr (by omega)
       ·subst hk;first|exact .inl ⟨by omega,by omega⟩|exact .inr (by omega))
      have wB:=rB.weak (Y:=(fun k=>Yg w0 w2 k∨k=g3∨k=g4)) (fun k hk=>by
       rcases hk with hk|hk|hk
       ·exact .inl ⟨hk.1,by have:=hk.2;omega⟩
       ·subst hk;first|exact .inl ⟨by omega,by omega⟩|exact .inr (by omega)
       ·subst hk;first|exact .inl ⟨by omega,by omega⟩|exact .inr (by omega))
      exact hk _ _ ⟨(g3,g4,csA,csB),⟨rfl,rfl,rfl,rfl,rfl,rfl,trivial⟩,ez31,(kg330.ext x31),(kg426.ext ((x27.trans x30).trans x31)),(show g3≠g4 by omega),(show w2.heap.size≤g3 by omega),(show w2.heap.size≤g4 by omega),oA,oB,(wA.ext (x30.trans x31)),wB⟩
    ·obtain⟨g3,wz32,hr32,lg3,x32,kg332⟩:=bA (w:=wz26)
     have bg3:=kg332.lt
     refine aS E hr32 ?_
     have ez32:aH w2 wz32:=ez26.trans x32
     have sz32:=x32.size
     have hS32:=hcar hS26 x32
     refine ao hS32 ?_
     refine aO 4 (by kernel_rfl) E (an cC E E (hA wz32 _ _ _ _ _ hS32.2 hl1 hx1 hy1 hk1 hp1) ?_)
     rintro vA wz33 ⟨x33,csA,rfl,oA,rA⟩
     have ez33:aH w2 wz33:=ez32.trans x33
     have sz33:=x33.size
     have hS33:=hcar hS32 x33
     refine ao hS33 ?_
     refine aO 9 (by kernel_rfl) E (an cC E E (hB wz33 _ _ _ _ _ hS33.2 hl2 hx2 hy2 hkk2 hp2) ?_)
     rintro vB wz34 ⟨x34,csB,rfl,oB,rB⟩
     have ez34:aH w2 wz34:=ez33.trans x34
     have sz34:=x34.size
     have hS34:=hcar hS33 x34
     refine ao hS34 ?_
     have sL:=hS.2.size
     have sD:=eD.size
     have wA:=rA.weak (Y:=(fun k=>Yg w0 w2 k∨k=g3∨k=g4)) (fun k hk=>by
      rcases hk with hk|hk|hk
      ·exact .inl ⟨hk.1,by have:=hk.2;omega⟩
      ·subst hk;first|exact .inl ⟨by omega,by omega⟩|exact .inr (by omega)
      ·subst hk;first|exact .inl ⟨by omega,by omega⟩|exact .inr (by omega))
     have wB:=rB.weak (Y:=(fun k=>Yg w0 w2 k∨k=g3∨k=g4)) (fun k hk=>by
      rcases hk with hk|hk|hk
      ·exact .inl ⟨hk.1,by have:=hk.2;omega⟩
      ·subst hk;first|exact .inl ⟨by omega,by omega⟩|exact .inr (by omega)
      ·subst hk;first|exact .inl ⟨by omega,by omega⟩|exact .inr (by omega))
     exact hk _ _ ⟨(g3,g4,csA,csB),⟨rfl,rfl,rfl,rfl,rfl,rfl,trivial⟩,ez34,(kg332.ext (x33.trans x34)),(kg426.ext ((x32.trans x33).trans x34)),(show g3≠g4 by omega),(show w2.heap.size≤g3 by omega),(show w2.heap.size≤g4 by omega),oA,oB,(wA.ext x34),wB⟩
  rintro⟨g3,g4,csA,csB⟩ wM ⟨xM,k3M,k4M,n34,l3,l4,oA,oB,rA0,rB0⟩
  have k1M:=(k1.ext x2).ext xM
  have s1:g1<w2.heap.size:=(k1.ext x2).lt
  obtain⟨wN,sN,qN,k3N⟩:=k3M.stS (P:=Tryz.prog) (t:=52) (m:=csA) (by rw[rA0.len,bF];rfl) (Fh rA0) oA
  have k1N:=k1M.other qN (fun e=>by have:=Option.some.inj e;omega)
  have eN:aH w2 wN:=aH.of_new xM qN l3
  obtain⟨wF,sF,qF,k4F⟩:=(k4M.other qN (fun e=>n34 (Option.some.inj e).symm)).stS (P:=Tryz.prog) (t:=52) (m:=csB) (by rw[rB0.len,bF];rfl) (Fh rB0) oB
  have k1F:=k1N.other qF (fun e=>by have:=Option.some.inj e;omega)
  have k3F:=k3N.other qF (fun e=>n34 (Option.some.inj e))
  have xF:aH w2 wF:=aH.of_new eN qF l4
  have mN:Mv (fun k=>Yg w0 w2 k∨k=g3∨k=g4) wM wN:=Mv.of_grown qN fun k hk _=>by have:g3=k:=Option.some.inj hk;exact .inr (.inl this.symm)
  have mF:Mv (fun k=>Yg w0 w2 k∨k=g3∨k=g4) wN wF:=Mv.of_grown qF fun k hk _=>by have:g4=k:=Option.some.inj hk;exact .inr (.inr this.symm)
  have rA:=((rA0.mv (Y:=fun k=>Yg w0 w2 k∨k=g3∨k=g4) mN fun k hk=>.inl hk).mv (Y:=fun k=>Yg w0 w2 k∨k=g3∨k=g4) mF fun k hk=>.inl hk).weak (Y:=Yg w0 w2) fun k hk=>.inl (.inl hk)
  have rB:=((rB0.mv (Y:=fun k=>Yg w0 w2 k∨k=g3∨k=g4) mN fun k hk=>.inl hk).mv (Y:=fun k=>Yg w0 w2 k∨k=g3∨k=g4) mF fun k hk=>.inl hk).weak (Y:=Yg w0 w2) fun k hk=>.inl (.inl hk)
  refine aO 12 (by kernel_rfl) E (ay E E sN (ao ⟨k1N,e0.trans (eL.trans eN)⟩ ?_))
  refine aO 13 (by kernel_rfl) E (ay E E sF (ao ⟨k1F,e0.trans (eL.trans xF)⟩ ?_))
  refine fx (by kernel_rfl) ?_
  refine ab (af (af ?_))
  have htn:=t4 (d:=e) hk2
  have hYw:∀k,Yg w0 w2 k→k<wF.heap.size:=fun k hk=>Nat.lt_of_lt_of_le hk.2 xF.size
  have k2F:=k2.ext xF
  have xT:aH w wF:=eL.trans xF
  have hYY:∀k,Yg w0 w k→Yg w0 w2 k:=fun k hk=>Yg.of_ext eL hk
  have lg2:=k2.lt
  have z11:=x1.size
  refine aa (ah E E (av (o:=1) Lk E (by kernel_rfl) E) (ah E E (cx (b:=1) (o:=0) Lm E (by kernel_rfl) E) ?_))
  refine aj E E (ai Lo E ((x2.trans xF).cell_some (k1.cell (i:=1) E))) (al E E E (bo) (ae E E ?_))
  refine ci (fun h24=>?_) (fun h24=>?_)
  ·refine am E E E (am E E E (am E E E (am E E E (aq E E E (ag (ab (bm E (af (bP 7 [2,36] (by kernel_rfl) (by kernel_rfl) ?_)))))))))
   refine aX rfl rfl (fun w hw=>av (o:=1) Tryz.underlying52 rfl (by kernel_rfl) rfl) (aQ rfl rfl (fun w hw=>((k1.ext (x2.trans xF)).ext hw).ldO (ms:=[I n.split.kd,I n.split.ix,B n.split.at_.1,x,y]) (o:=1) (fun j v hj=>by rcases j with _|_|_|_|_|_|_|_|_|j<;>simp_all) Tryz.underlying48 rfl (by kernel_rfl)) ?_)
   refine ce (S:=Is (.agg #[I (be n.split).kd,I (be n.split).ix,B (be n.split).at_.1,x,y])) s9 (bO.is _) rfl (fun w hw=>by rintro _ rfl;exact bN.mono (ta (d:=n.split) (hx.ext ((e0.trans xT).trans hw)) (hy.ext ((e0.trans xT).trans hw))) fun v w' h=>⟨h.1,h.2⟩) ?_
   refine aQ E E (fun w' hw=>(k4F.ext hw).ld Lk E (Fh rB)) ?_
   refine aQ E E (fun w' hw=>(k3F.ext hw).ld Lk E (Fh rA)) ?_
   refine eG (S:=fun v w'=>bZ (Yg w0 w2) w' (.sl ([(fR e b).node,(fR e a).node].map bh)) [v]∧v.oneCell'=true) (fun _ _ _ h hx=>⟨h.1.ext hx,h.2⟩) rfl (fun w' hw=>by rintro _ rfl _ rfl;exact tZ (rB.ext hw) (rA.ext hw) fun k hk=>Nat.lt_of_lt_of_le (hYw k hk) hw.size) ?_
   refine oX (S:=fun v w'=>∃kv,v=.agg #[.slice none 0 0,I (be n.split).kd,I (be n.split).ix,B (be n.split).at_.1,x,y,kv,B false,.slice none 0 0]∧bZ (Yg w0 w2) w' (.sl ([(fR e b).node,(fR e a).node].map bh)) [kv]∧kv.oneCell'=true) (fun _ _ _ ⟨kv,h1,h2,h3⟩ hx=>⟨kv,h1,h2.ext hx,h3⟩) E (fun w' hw=>by
 rintro _ rfl kv ⟨h1,h2⟩
 obtain⟨A,n',c,rfl⟩:=h1.isSl
 obtain⟨_,_,_,rfl⟩:=hx.isS
 obtain⟨_,_,_,rfl⟩:=hy.isS
 exact⟨_,w',run_build _ _ _ #[.slice none 0 0,I (be n.split).kd,I (be n.split).ix,B (be n.split).at_.1,_,_,.slice A n' c,B false,.slice none 0 0] (by kernel_rfl),aH.refl _,_,rfl,h1,rfl⟩) ?_
   refine cn ?_
   intro wg5 xg5
   rintro _ rfl
   intro vg36 b36
   obtain⟨kv,rfl,hkv,hk1⟩:=b36
   have k2G:=k2F.ext xg5
   obtain⟨w15,s15,q15,k15⟩:=k2G.stS (P:=Tryz.prog) (t:=52) (m:=[.slice none 0 0,I (be n.split).kd,I (be n.split).ix,B (be n.split).at_.1,x,y,kv,B false,.slice none 0 0]) rfl (by kernel_rfl) (ap.cons rfl (ap.cons rfl (ap.cons rfl (ap.cons rfl (ap.cons hx.one (ap.cons hy.one (ap.cons hk1 (ap.cons rfl (ap.cons rfl ap.nil)))))))))
   have m15:Mv (Yg w0 w2) wg5 w15:=Mv.of_grown q15 fun k hk _=>by have:g2=k:=Option.some.inj hk;rw[←this];exact⟨by omega,lg2⟩
   have e15:aH w w15:=aH.of_new (xT.trans xg5) q15 (by omega)
   refine ay E E s15 ?_
   refine ag (ab (aw (az ?_)))
   refine cM E E k15 Lk E (by kernel_rfl) ?_
   refine⟨_,rfl,e15,[.slice none 0 0,I (be n.split).kd,I (be n.split).ix,B (be n.split).at_.1,x,y,kv,B false,.slice none 0 0],rfl,(ap.cons E (ap.cons E (ap.cons E (ap.cons E (ap.cons hx.one (ap.cons hy.one (ap.cons hk1 (ap.cons E (ap.cons E ap.nil))))))))),?_⟩
   rw[htn,if_pos (by first|exact .inl h24|exact .inr h29),et]
   have hd:bZ (Yg w0 w2) wg5 (c9 (be n.split)) [I (be n.split).kd,I (be n.split).ix,B (be n.split).at_.1,x,y]:=((qm (d:=be n.split) hx hy).x.ext (e0.trans (xT.trans xg5))).weak fun k hk=>.inl hk.1
   exact((fH nK hd hkv nK).mv m15 fun k hk=>.inl hk).weak fun k hk=>.inl (hYY k hk)
  ·refine ak E (ah E E (av (o:=1) Lk E (by kernel_rfl) E) (ak E (ah E E (cx (b:=1) (o:=0) Lm E (by kernel_rfl) E) ?_)))
   refine ak E (aj E E (ai Lo E ((x2.trans xF).cell_some (k1.cell (i:=1) E))) (ak E (al E E E (bo) (aI E E E ?_))))
   refine ag (ab ?_)
   refine bu E (fun h29=>?_) (fun h29=>?_)
   ·refine af (bP 7 [2,36] (by kernel_rfl) (by kernel_rfl) ?_)
    refine aX rfl rfl (fun w hw=>av (o:=1) Tryz.underlying52 rfl (by kernel_rfl) rfl) (aQ rfl rfl (fun w hw=>((k1.ext (x2.trans xF)).ext hw).ldO (ms:=[I n.split.kd,I n.split.ix,B n.split.at_.1,x,y]) (o:=1) (fun j v hj=>by rcases j with _|_|_|_|_|_|_|_|_|j<;>simp_all) Tryz.underlying48 rfl (by kernel_rfl)) ?_)
    refine ce (S:=Is (.agg #[I (be n.split).kd,I (be n.split).ix,B (be n.split).at_.1,x,y])) s9 (bO.is _) rfl (fun w hw=>by rintro _ rfl;exact bN.mono (ta (d:=n.split) (hx.ext ((e0.trans xT).trans hw)) (hy.ext ((e0.trans xT).trans hw))) fun v w' h=>⟨h.1,h.2⟩) ?_
    refine aQ E E (fun w' hw=>(k4F.ext hw).ld Lk E (Fh rB)) ?_
    refine aQ E E (fun w' hw=>(k3F.ext hw).ld Lk E (Fh rA)) ?_
    refine eG (S:=fun v w'=>bZ (Yg w0 w2) w' (.sl ([(fR e b).node,(fR e a).node].map bh)) [v]∧v.oneCell'=true) (fun _ _ _ h hx=>⟨h.1.ext hx,h.2⟩) rfl (fun w' hw=>by rintro _ rfl _ rfl;exact tZ (rB.ext hw) (rA.ext hw) fun k hk=>Nat.lt_of_lt_of_le (hYw k hk) hw.size) ?_
    refine oX (S:=fun v w'=>∃kv,v=.agg #[.slice none 0 0,I (be n.split).kd,I (be n.split).ix,B (be n.split).at_.1,x,y,kv,B false,.slice none 0 0]∧bZ (Yg w0 w2) w' (.sl ([(fR e b).node,(fR e a).node].map bh)) [kv]∧kv.oneCell'=true) (fun _ _ _ ⟨kv,h1,h2,h3⟩ hx=>⟨kv,h1,h2.ext hx,h3⟩) E (fun w' hw=>by
 rintro _ rfl kv ⟨h1,h2⟩
 obtain⟨A,n',c,rfl⟩:=h1.isSl
 obtain⟨_,_,_,rfl⟩:=hx.isS
 obtain⟨_,_,_,rfl⟩:=hy.isS
 exact⟨_,w',run_build _ _ _ #[.slice none 0 0,I (be n.split).kd,I (be n.split).ix,B (be n.split).at_.1,_,_,.slice A n' c,B false,.slice none 0 0] (by kernel_rfl),aH.refl _,_,rfl,h1,rfl⟩) ?_
    refine cn ?_
    intro wg5 xg5
    rintro _ rfl
    intro vg36 b36
    obtain⟨kv,rfl,hkv,hk1⟩:=b36
    have k2G:=k2F.ext xg5
    obtain⟨w15,s15,q15,k15⟩:=k2G.stS (P:=Tryz.prog) (t:=52) (m:=[.slice none 0 0,I (be n.split).kd,I (be n.split).ix,B (be n.split).at_.1,x,y,kv,B false,.slice none 0 0]) rfl (by kernel_rfl) (ap.cons rfl (ap.cons rfl (ap.cons rfl (ap.cons rfl (ap.cons hx.one (ap.cons hy.one (ap.cons hk1 (ap.cons rfl (ap.cons rfl ap.nil)))))))))
    have m15:Mv (Yg w0 w2) wg5 w15:=Mv.of_grown q15 fun k hk _=>by have:g2=k:=Option.some.inj hk;rw[←this];exact⟨by omega,lg2⟩
    have e15:aH w w15:=aH.of_new (xT.trans xg5) q15 (by omega)
    refine ay E E s15 ?_
    refine ag (ab (aw (az ?_)))
    refine cM E E k15 Lk E (by kernel_rfl) ?_
    refine⟨_,rfl,e15,[.slice none 0 0,I (be n.split).kd,I (be n.split).ix,B (be n.split).at_.1,x,y,kv,B false,.slice none 0 0],rfl,(ap.cons E (ap.cons E (ap.cons E (ap.cons E (ap.cons hx.one (ap.cons hy.one (ap.cons hk1 (ap.cons E (ap.cons E ap.nil))))))))),?_⟩
    rw[htn,if_pos (by first|exact .inl h24|exact .inr h29),et]
    have hd:bZ (Yg w0 w2) wg5 (c9 (be n.split)) [I (be n.split).kd,I (be n.split).ix,B (be n.split).at_.1,x,y]:=((qm (d:=be n.split) hx hy).x.ext (e0.trans (xT.trans xg5))).weak fun k hk=>.inl hk.1
    exact((fH nK hd hkv nK).mv m15 fun k hk=>.inl hk).weak fun k hk=>.inl (hYY k hk)
   ·refine aC (ab (af (aa (ah rfl rfl (av (o:=1) Tryz.underlying52 rfl (by kernel_rfl) rfl) (aj rfl rfl ((k1.ext (x2.trans xF)).ldO (ms:=[I n.split.kd,I n.split.ix,B n.split.at_.1,x,y]) (o:=1) (fun j v hj=>by rcases j with _|_|_|_|_|_|_|_|_|j<;>simp_all) Tryz.underlying48 rfl (by kernel_rfl)) ?_)))))
    refine aj E E (k3F.ld Lk E (Fh rA)) ?_
    refine aj E E (k4F.ld Lk E (Fh rB)) ?_
    obtain⟨v41,w41,hr41,x41,rp41,one41⟩:=tZ rA rB hYw
    refine aF (vs:=[(0,.agg csA.toArray),(1,.agg csB.toArray)]) E E hr41 ?_
    refine bC (vs:=[(1,.agg #[I n.split.kd,I n.split.ix,B n.split.at_.1,x,y]),(2,v41)]) (r:=.agg #[.slice none 0 0,I n.split.kd,I n.split.ix,B n.split.at_.1,x,y,v41,B false,.slice none 0 0]) E E (by
     obtain⟨A,n',c,rfl⟩:=rp41.isSl
     obtain⟨_,_,_,rfl⟩:=hx.isS
     obtain⟨_,_,_,rfl⟩:=hy.isS
     exact run_build _ _ _ #[.slice none 0 0,I n.split.kd,I n.split.ix,B n.split.at_.1,_,_,.slice A n' c,B false,.slice none 0 0] (by kernel_rfl)) ?_
    obtain⟨w16,s16,q16,k16⟩:=(k2F.ext x41).stS (P:=Tryz.prog) (t:=52) (m:=[.slice none 0 0,I n.split.kd,I n.split.ix,B n.split.at_.1,x,y,v41,B false,.slice none 0 0]) rfl (by kernel_rfl) (ap.cons rfl (ap.cons rfl (ap.cons rfl (ap.cons rfl (ap.cons hx.one (ap.cons hy.one (ap.cons one41 (ap.cons rfl (ap.cons rfl ap.nil)))))))))
    have m16:Mv (Yg w0 w2) w41 w16:=Mv.of_grown q16 fun k hk _=>by have:g2=k:=Option.some.inj hk;rw[←this];exact⟨by omega,lg2⟩
    have e16:aH w w16:=aH.of_new (xT.trans x41) q16 (by omega)
    refine ay E E s16 ?_
    refine ag (ab (aw ?_))
    refine cM E E k16 Lk E (by kernel_rfl) ?_
    refine⟨_,rfl,e16,[.slice none 0 0,I n.split.kd,I n.split.ix,B n.split.at_.1,x,y,v41,B false,.slice none 0 0],rfl,(ap.cons E (ap.cons E (ap.cons E (ap.cons E (ap.cons hx.one (ap.cons hy.one (ap.cons one41 (ap.cons E (ap.cons E ap.nil))))))))),?_⟩
    rw[htn,if_neg (by rintro(h|h);exact h24 h;exact h29 h),et]
    have hd:bZ (Yg w0 w2) w41 (c9 n.split) [I n.split.kd,I n.split.ix,B n.split.at_.1,x,y]:=((qm hx hy).x.ext (e0.trans (xT.trans x41))).weak fun k hk=>.inl hk.1
    exact((fH nK hd rp41 nK).mv m16 fun k hk=>.inl hk).weak fun k hk=>.inl (hYY k hk)
theorem CB {w0:World}:∀(d:Nat) (n:aP),kn d n=true→IS w0 d n
 |d,n,h=>IT h fun e a b he _ ha hb=>by
  subst he
  exact⟨CB e a ha,CB e b hb⟩
 termination_by d=>d
end Go.Rl
namespace Go.Rl
open Go.RowKit Go.Proofs
theorem tA:aJ Tryz.prog 74:=⟨_,Tryz.func74,by kernel_rfl,rfl⟩
theorem yi:aJ Tryz.prog 32:=⟨_,Tryz.func32,by kernel_rfl,rfl⟩
theorem CC:aJ Tryz.prog 30:=⟨_,Tryz.func30,by kernel_rfl,rfl⟩
theorem Ko {P:Program} {w:World} {t e:TypeId} {z:Value} {sz base:Nat} (ht:P.underlying t=some (.slice e)) (hi:(P.info? e).map (fun i=>(i.zero,i.size))=some (some z,sz)) (hz:z.cells.size=sz) (h0:0<sz)
 (vs:List (List Value)) (hv:∀v∈vs,v.length=sz) (hn:0<vs.length) (hl:vs.length*sz≤16777216) (hb:base≤w.heap.size):
 ∃r w',(Instr.buildSlice t vs.length (dy 0 (vs.map fun v=>Value.agg v.toArray)).toArray).run P w=.ok r w'∧aH w w'∧w'.ownsRow base e sz r vs.length vs.flatten∧r.ownBlock=some w.heap.size:=by
 obtain⟨i,hi',h2⟩:=Option.map_eq_some_iff.1 hi
 simp only[Prod.mk.injEq] at h2
 obtain⟨hz0,hs⟩:=h2
 have hfl:vs.flatten.length=vs.length*sz:=by
  rw[List.length_flatten]
  have:∀l:List (List Value),(∀v∈l,v.length=sz)→(l.map List.length).sum=l.length*sz:=by
   intro l
   induction l with
   |nil=>intro _;simp
   |cons a l ih=>intro h;simp only[List.map_cons,List.sum_cons,List.length_cons,h a (by simp),ih fun v hv=>h v (by simp[hv]),Nat.add_mul];omega
  exact this vs hv
 have hf:∀Z:Array Value,Z.size=vs.length*sz→Instr.fill (fun i=>some (i*sz,sz)) Z (dy 0 (vs.map fun v=>Value.agg v.toArray))=some vs.flatten.toArray:=fun Z hZ=>by
  have:=mJ vs 0 [] Z.toList hv (by simp) (by simpa using hZ)
  simpa using this
 have hle:¬(vs.length*sz>2^24):=by omega
 have hinfo:(typeInfo e).run P w=.ok i w:=by simp[typeInfo,hi']
 have hsz:(sizeOf e).run P w=.ok sz w:=by simp[sizeOf,hinfo,hs]
 have hzv:(zeroValue e).run P w=.ok z w:=by simp[zeroValue,hinfo,hz0]
 have hpos:0<vs.length*sz:=Nat.mul_pos hn h0
 refine⟨.slice (some ⟨w.heap.size,0,none⟩) vs.length vs.length,w.alloc (.cells vs.flatten.toArray e),?_,aH.new w _,?_,rfl⟩
 ·simp only[Instr.buildSlice,Sem.run_bind,run_underlying ht,Result.andThen_ok,hsz,if_neg hle]
  rw[if_neg (by omega)]
  simp only[Sem.run_bind,Sem.run_pure,Result.andThen_ok,hzv]
  rw[hf _ (by simp[hz,Nat.mul_comm])]
  simp[newRow]
 ·have hm:vs.length≤maxLen:=by unfold maxLen;have:vs.length≤vs.length*sz:=Nat.le_mul_of_pos_right _ h0;omega
  simpa using World.ownsRow_lit (base:=base) (e:=e) (size:=sz) w vs.flatten.toArray vs.length hb hm (by simpa using hfl)
theorem Hy:(Tryz.prog.info? 70).map (fun i=>(i.zero,i.size,i.bytes))=some (some (.agg #[.slice none 0 0,.slice none 0 0,I 0,I 0,B false,.slice none 0 0,.slice none 0 0,.slice none 0 0,B false,.slice none 0 0]),10,176):=by kernel_rfl
theorem Fc:(Tryz.prog.info? 70).map (fun i=>(i.zero,i.size))=some (some (.agg #[.slice none 0 0,.slice none 0 0,I 0,I 0,B false,.slice none 0 0,.slice none 0 0,.slice none 0 0,B false,.slice none 0 0]),10):=by kernel_rfl
theorem Fd {d:Nat} {n:aP} {p:List bj} (h:kn d n=true):∃vK:Nat→List cm,vK 0=[⟨p,n⟩]∧vK n.kids.length=im d n p∧∀(i:Nat) (hi:i<n.kids.length),∃e,d=e+1∧kn e n.kids[i]=true∧fM e n.kids[i]≤fM d n∧vK (i+1)=vK i++im e n.kids[i] (p++[db n (i:Int)])∧(vK i).length+(im e n.kids[i] (p++[db n (i:Int)])).length≤fM d n:=by
 rcases j9 h with hk|⟨e,x,y,rfl,hk,_,h1,h2⟩
 ·exact⟨fun _=>[⟨p,n⟩],rfl,by rw[vU hk],fun i hi=>absurd hi (by rw[hk];simp)⟩
 ·have hc:=rL (d:=e) hk
  have l1:=py (p:=p++[n.split]) h1
  have l2:=py (p:=p++[be n.split]) h2
  refine⟨fun i=>match i with
   |0=>[⟨p,n⟩]
   |1=>[⟨p,n⟩]++im e x (p++[n.split])
   |_=>⟨p,n⟩::(im e x (p++[n.split])++im e y (p++[be n.split])),rfl,by rw[t6 hk,hk];rfl,fun i hi=>⟨e,rfl,?_⟩⟩
  rw[hk] at hi
  rcases(by simp at hi;omega:i=0∨i=1) with rfl|rfl
  ·have e0:n.kids[0]'(by rw[hk];simp)=x:=by simp[hk]
   rw[e0]
   exact⟨h1,by omega,rfl,by show 1+(im e x (p++[n.split])).length≤_;omega⟩
  ·have e1:n.kids[1]'(by rw[hk];simp)=y:=by simp[hk]
   rw[e1]
   refine⟨h2,by omega,?_,?_⟩
   ·show(⟨p,n⟩:cm)::(im e x (p++[n.split])++im e y (p++[be n.split]))=(([⟨p,n⟩]:List cm)++im e x (p++[n.split]))++im e y (p++[be n.split])
    simp
   ·show(([⟨p,n⟩]:List cm)++im e x (p++[n.split])).length+(im e y (p++[be n.split])).length≤_
    rw[List.length_append,List.length_singleton];omega
def Kq (w0:World) (d:Nat) (n:aP):Prop:=∀(w:World) (path:List bj) (pv vl x y vk vp:Value),aH w0 w→gZ w0 path pv w→path.length+d≤1073741824→cd cP n.lems vl w0→bk n.split.at_.2.1 x w0→bk n.split.at_.2.2 y w0→cd bh n.kids vk w0→cd bK n.pf vp w0→
 Calls Tryz.prog 74 #[pv,.agg #[vl,I n.split.kd,I n.split.ix,B n.split.at_.1,x,y,vk,B n.empty,vp]] w (bN fun r w'=>aH w w'∧bZ (Yg w0 w) w' (.sl ((im d n path).map jR)) [r])
theorem IU {w0:World} {d:Nat} {n:aP} (hok:kn d n=true) (hct:fM d n≤65536) (ih:∀e k,d=e+1→k∈n.kids→kn e k=true→fM e k≤65536→Kq w0 e k):Kq w0 d n:=by
 intro w path pv vl x y vk vp e0 hpa hpl hl hx hy hk hp
 have hlw:=hl.ext e0
 have hxw:=hx.ext e0
 have hyw:=hy.ext e0
 have hkw:=hk.ext e0
 have hpw:=hp.ext e0
 have s0:=e0.size
 have hkl:=hk.len
 obtain⟨vK,v0,vE,vS⟩:=Fd (p:=path) hok
 refine enter (vs:=[pv,.agg #[vl,I n.split.kd,I n.split.ix,B n.split.at_.1,x,y,vk,B n.empty,vp]]) Tryz.func74 E E E ?_
 refine af (aa ?_)
 obtain⟨g3,w3,hr3,l3,x3,k3⟩:=cq (P:=Tryz.prog) (w:=w) (T:=52) (cs:=[vl,I n.split.kd,I n.split.ix,B n.split.at_.1,x,y,vk,B n.empty,vp])
 refine cw E E hr3 (ac E E (ag (ab (af ?_))))
 have eD:aH w3 w3.drew:=(aH.refl _).drew
 have s3:=x3.size
 have lg3:=k3.lt
 have hS:bQ g3 52 [vl,I n.split.kd,I n.split.ix,B n.split.at_.1,x,y,vk,B n.empty,vp] w3.drew:=k3.ext eD
 refine fw (fun w1=>bQ g3 52 [vl,I n.split.kd,I n.split.ix,B n.split.at_.1,x,y,vk,B n.empty,vp] w1) 7 E (by kernel_rfl) ?_
 refine cF 1 E E (by kernel_rfl) E hS ?_
 refine d6 3 E E (by kernel_rfl) E hS (fun _ hw=>hw.ld Lk E (by kernel_rfl)) ?_
 obtain⟨v7,w7,hr7,x7,o7,ob7⟩:=nq (P:=Tryz.prog) (w:=w3.drew) (f:=c9) (X:=Yg w0 w3) Lu ij
 have lt7:=o7.lt
 have s7:=x7.size
 have sD:=eD.size
 have eW7:aH w w7:=x3.trans (eD.trans x7)
 refine aO 0 (by kernel_rfl) E (aF (vs:=[]) E E hr7 (ao (hS.ext x7) ?_))
 have hpa2:=hpa
 obtain⟨xs1,sl1,al1⟩:=hpa2
 obtain⟨v9,w9,hr9,o9,gr9⟩:=o7.app (P:=Tryz.prog) (t:=41) (ty:=41) (m:=path) Lu f9 rfl (by omega) (by omega) (sl1.ext eW7) (cI al1.rp) ((al1.ext eW7).weak fun k hk=>by
  rcases hk with hk|hk
  ·exact .inl hk.1
  ·exact .inl (by have:=(lt7 k hk).1;show w0.heap.size≤k;omega)) ca (by simp;omega) s7
 have e9:aH w3.drew w9:=aH.of_grew x7 gr9 fun k hk=>(lt7 k hk).1
 have lt9:=o9.lt
 have rp9:bZ (Yg w0 w3) w9 (.sl (path.map c9)) [v9]:=o9.rpx ca (by omega) (fun _ h=>h) fun k hk hk'=>by have:=(lt9 k hk).1;have:=hk'.2;omega
 have eW9:aH w w9:=x3.trans (eD.trans e9)
 refine aO 2 (by kernel_rfl) E (aT E E hr9 (ao (hS.ext e9) ?_))
 refine aO 4 (by kernel_rfl) E (bC (vs:=[(0,v9),(1,.agg #[vl,I n.split.kd,I n.split.ix,B n.split.at_.1,x,y,vk,B n.empty,vp])]) (r:=.agg #[v9,vl,I n.split.kd,I n.split.ix,B n.split.at_.1,x,y,vk,B n.empty,vp]) E E (by
  obtain⟨_,_,_,rfl⟩:=o9.isS
  obtain⟨_,_,_,rfl⟩:=hl.isS
  obtain⟨_,_,_,rfl⟩:=hx.isS
  obtain⟨_,_,_,rfl⟩:=hy.isS
  obtain⟨_,_,_,rfl⟩:=hk.isS
  obtain⟨_,_,_,rfl⟩:=hp.isS
  exact run_build _ _ _ #[_,_,I n.split.kd,I n.split.ix,B n.split.at_.1,_,_,_,B n.empty,_] (by kernel_rfl)) (ao (hS.ext e9) ?_))
 have rv9:bZ (Yg w0 w3) w9 (jR ⟨path,n⟩) [v9,vl,I n.split.kd,I n.split.ix,B n.split.at_.1,x,y,vk,B n.empty,vp]:=pl (u:=⟨path,n⟩) rp9 (js (t3 hl hx hy hk hp) (e0.trans eW9) fun k hk=>hk.1)
 obtain⟨v12,w12,hr12,x12,or12,ob12⟩:=Ko (P:=Tryz.prog) (w:=w9) (base:=w3.heap.size) (t:=67) Tryz.underlying67 Fc rfl (by omega) [[v9,vl,I n.split.kd,I n.split.ix,B n.split.at_.1,x,y,vk,B n.empty,vp]] (by simp) (by simp) (by simp) (by have:=e9.size;omega)
 have eF:aH w3 w12:=eD.trans (e9.trans x12)
 have o12:dY 70 10 w3.heap.size (Yg w0 w3) jR [(⟨path,n⟩:cm)] v12 w12:=⟨_,_,or12,by
  have h1:=aN.cons (b:=[]) ((rv9.weak (Y:=fun k=>Yg w0 w3 k∨v12.ownBlock=some k) fun k hk=>by
   rcases hk with hk|hk
   ·exact .inl hk
   ·rw[ob12] at hk;exact .inr (Nat.le_of_eq (Option.some.inj hk))).ext x12) aN.nil
  simpa using h1⟩
 refine aO 5 (by kernel_rfl) E (aF (vs:=[(0,.agg #[v9,vl,I n.split.kd,I n.split.ix,B n.split.at_.1,x,y,vk,B n.empty,vp])]) E E hr12 (ao (hS.ext (e9.trans x12)) ?_))
 refine aO 6 (by kernel_rfl) E (ac E E (ao (hS.ext (e9.trans x12)) (fx (by kernel_rfl) ?_)))
 refine ab (af (af ?_))
 have k12:=k3.ext eF
 have eW12:=x3.trans eF
 refine aa (ac E E (ag (ab (aG ?_))))
 refine eu (fun(i:Nat) (rv:Value)=>[(0,pv),(3,.pointer (some ⟨g3,0,none⟩)),(5,rv),(6,I (i:Int))]) (fun(i:Nat) (rv:Value) w'=>aH w w'∧i≤n.kids.length∧bQ g3 52 [vl,I n.split.kd,I n.split.ix,B n.split.at_.1,x,y,vk,B n.empty,vp] w'∧dY 70 10 w3.heap.size (Yg w0 w3) jR (vK i) rv w'∧w3.heap.size≤w'.heap.size) (fun(i:Nat) (rv:Value)=>n.kids.length-i) (0) (v12) ⟨rfl,rfl,rfl,rfl,trivial⟩ ⟨eW12,by omega,k12,by rw[v0];exact o12,by have:=eF.size;omega⟩ ?_
 rintro i rv wL ⟨eL,hi,kL,oL,sL⟩
 refine af (af ?_)
 have hkL:=hkw.ext eL
 refine aa (ae E E (ah E E (av (o:=6) Lk E (by kernel_rfl) E) (aj E E (ai Ls E (kL.cell (i:=6) E)) ?_)))
 refine aV E E (aY Ls hkL) (al E E E (a6) (ag (ab ?_)))
 refine bu E (fun h17=>?_) (fun h17=>?_)
 ·refine aC (ab (af (aG ?_)))
  obtain⟨e,rfl,hoke,hce,hvK,hvl⟩:=vS i (by omega)
  have hB:=ih e n.kids[i] rfl (List.getElem_mem _) hoke (by omega)
  obtain⟨a28,c28,p28,q28,h28⟩:=cb (P:=Tryz.prog) (sz:=9) Ls (by kernel_rfl) bF (by omega) hk (i:=i) (by omega) .i64
  obtain⟨vl1,x1',y1',vk1,vp1,rfl,hl1,hx1,hy1,hk1,hp1⟩:=dc h28
  have eWL:=e0.trans eL
  have olt:=oL.lt
  refine bP 11 [0,3,6,20,30] (by kernel_rfl) (by kernel_rfl) ?_
  refine ax E E (ax E E ?_)
  refine aQ E E (fun w' hw=>(kL.ext hw).ld Lk E (by kernel_rfl)) ?_
  refine ax rfl rfl (ce (S:=gZ w0 (path++[db n (i:Int)])) E2 (gZ.stable) rfl (fun w hw=>by rintro _ rfl _ rfl _ rfl;exact bN.mono (E4 (n:=n) (i:=(i:Int)) (eWL.trans hw) (hpa.ext (eL.trans hw)) (by omega) hx hy) fun v w' h=>⟨h.1,h.2.1⟩) ?_)
  refine aX E E (fun _ _=>av (o:=6) Lk E (by kernel_rfl) E) ?_
  refine aQ E E (fun w' hw=>ai Ls E ((kL.ext hw).cell (i:=6) E)) ?_
  refine ax E E ?_
  refine aD E E E (fun w _=>p28 w) ?_
  refine aQ E E (fun w' hw=>((q28.ext eWL).ext hw).ld Lk E (by kernel_rfl)) ?_
  refine ce (S:=fun v w'=>bZ (Yg w0 wL) w' (.sl ((im e n.kids[i] (path++[db n (i:Int)])).map jR)) [v]) tA (fun _ _ _ h hx=>h.ext hx) E (fun w' hw=>by
 rintro pv' hpv' _ rfl
 exact bN.mono (hB w' _ pv' _ _ _ _ _ (eWL.trans hw) hpv' (by simp only[List.length_append,List.length_singleton];omega) hl1 hx1 hy1 hk1 hp1) fun v w'' h=>⟨h.1,h.2.weak fun k hk=>.inl (Yg.of_ext hw hk)⟩) ?_
  refine cn ?_
  intro wg5 xg5
  rintro _ hq0
  obtain rfl:=Eq.symm hq0
  rintro _ rfl
  rintro _ rfl
  rintro _ hq20
  obtain rfl:=Eq.symm hq20
  intro vg30 b30
  obtain⟨xs30,sl30,al30⟩:=b30.toSl (sz:=10) (by simp[bG])
  have oG:=oL.ext xg5
  have sg5:=xg5.size
  obtain⟨v31,w31,hr31,o31,gr31⟩:=oG.app (P:=Tryz.prog) (t:=67) (ty:=67) (m:=im e n.kids[i] (path++[db n (i:Int)])) LQ Hy rfl (by omega) (by omega) sl30 (cI al30.rp) (al30.weak fun k hk=>.inl (by
   rcases hk with hk|hk
   ·exact⟨hk.1,by have:=hk.2;omega⟩
   ·have:=olt k hk;exact⟨by omega,this.2⟩)) bG (by omega) (by omega)
  refine aT E E hr31 ?_
  have e31:aH w w31:=aH.of_grew (eL.trans xg5) gr31 fun k hk=>by have:=(olt k hk).1;omega
  have m31:Mv (fun k=>rv.ownBlock=some k) wg5 w31:=Mv.of_grown gr31.grown fun k hk _=>hk
  have k31:=m31.blk (kL.ext xg5) fun h=>by have:=(olt g3 h).1;omega
  have s31:=m31.size
  refine ac E E (ag (aW (ab (aa (ae E E (al (r:=I ((i+1:Nat):Int)) E E E (by have e:((i+1:Nat):Int)=(i:Int)+1:=(by omega);rw[e];exact aR (by omega) (by omega)) ?_))))))
  refine ac E E (ag ?_)
  refine c6 (i+1) (v31) ⟨rfl,rfl,rfl,rfl,trivial⟩ ⟨e31,by omega,k31,by rw[hvK];exact o31,by omega⟩ (by omega)
 ·refine bc (aK (aK (bf (ab (af (aa (ae E E (ac E E (ag (ab (aw (au E E ?_))))))))))))
  obtain rfl:i=n.kids.length:=by omega
  rw[vE] at oL
  exact⟨_,rfl,eL,(oL.rpx bG (by omega) (fun _ h=>h) fun k hk hk'=>by have:=(oL.lt k hk).1;have:=hk'.2;omega).weak fun k hk=>.inl (Yg.of_ext x3 hk)⟩
theorem Hz {w0:World}:∀(d:Nat) (n:aP),kn d n=true→fM d n≤65536→Kq w0 d n
 |d,n,h,hc=>IU h hc fun e k he _ hk hck=>by
  subst he
  exact Hz e k hk hck
 termination_by d=>d
section
variable {w0 w:World} {n:aP} {vl x y vk vp:Value}
theorem CD (h:iF n=true):kn 2048 n=true∧fM 2048 n≤65536:=by
 unfold iF at h
 simpa using h
theorem Bi (e0:aH w0 w) (hl:cd cP n.lems vl w0) (hx:bk n.split.at_.2.1 x w0) (hy:bk n.split.at_.2.2 y w0) (hk:cd bh n.kids vk w0) (hp:cd bK n.pf vp w0) (hv:iF n=true):
 Calls Tryz.prog 32 #[.agg #[vl,I n.split.kd,I n.split.ix,B n.split.at_.1,x,y,vk,B n.empty,vp]] w (bN fun r w'=>aH w w'∧bZ (Yg w0 w) w' (.sl ((im 2048 n []).map jR)) [r]):=by
 have hlw:=hl.ext e0
 have hxw:=hx.ext e0
 have hyw:=hy.ext e0
 have hkw:=hk.ext e0
 have hpw:=hp.ext e0
 obtain⟨hok,hct⟩:=CD hv
 refine enter (vs:=[.agg #[vl,I n.split.kd,I n.split.ix,B n.split.at_.1,x,y,vk,B n.empty,vp]]) Tryz.func32 E E E ?_
 refine af (aa ?_)
 obtain⟨g1,w1,hr1,l1,x1,k1⟩:=cq (P:=Tryz.prog) (w:=w) (T:=52) (cs:=[vl,I n.split.kd,I n.split.ix,B n.split.at_.1,x,y,vk,B n.empty,vp])
 refine cw E E hr1 (ac E E (ag (ab (af (af (aa (aj E E (k1.ld Lk E (by kernel_rfl)) (an jg E E ((by have h:=jh (hlw.ext x1) (hxw.ext x1) (hyw.ext x1) (hkw.ext x1) (hpw.ext x1);rw[hv] at h;exact h)) ?_))))))))
 rintro v4 w4 ⟨x4,rfl⟩
 refine bw E E bB (ag (ab (cN E (aC (ab (af (aa (aj E E ((k1.ext x4).ld Lk E (by kernel_rfl)) ?_))))))))
 refine an tA E E ((Hz 2048 n hok hct _ [] _ _ _ _ _ _ (e0.trans ((x1.trans x4))) gZ.nil (by simp) hl hx hy hk hp)) ?_
 rintro v7 w7 ⟨x7,r7⟩
 refine ac E E (ag (ab (aw (au E E ?_))))
 have eF:=((x1.trans x4).trans x7)
 exact⟨_,rfl,eF,r7.weak fun k hk=>.inl (Yg.of_ext (x1.trans x4) hk)⟩
theorem CE (e0:aH w0 w) (hl:cd cP n.lems vl w0) (hx:bk n.split.at_.2.1 x w0) (hy:bk n.split.at_.2.2 y w0) (hk:cd bh n.kids vk w0) (hp:cd bK n.pf vp w0) (hv:iF n=true):
 Calls Tryz.prog 30 #[.agg #[vl,I n.split.kd,I n.split.ix,B n.split.at_.1,x,y,vk,B n.empty,vp]] w (bN fun r w'=>aH w w'∧r=I (fM 2048 n:Nat)):=by
 have hlw:=hl.ext e0
 have hxw:=hx.ext e0
 have hyw:=hy.ext e0
 have hkw:=hk.ext e0
 have hpw:=hp.ext e0
 refine enter (vs:=[.agg #[vl,I n.split.kd,I n.split.ix,B n.split.at_.1,x,y,vk,B n.empty,vp]]) Tryz.func30 E E E ?_
 refine af (aa ?_)
 obtain⟨g1,w1,hr1,l1,x1,k1⟩:=cq (P:=Tryz.prog) (w:=w) (T:=52) (cs:=[vl,I n.split.kd,I n.split.ix,B n.split.at_.1,x,y,vk,B n.empty,vp])
 refine cw E E hr1 (ac E E (ag (ab (af (aa (aj E E (k1.ld Lk E (by kernel_rfl)) (an yi E E ((Bi (e0.trans (x1)) hl hx hy hk hp hv)) ?_)))))))
 rintro v4 w4 ⟨x4,r4⟩
 refine aV E E (aY (f:=jR) (l:=im 2048 n []) LQ r4.rp) ?_
 refine ac E E (ag (ab (aw (au E E ?_))))
 exact⟨_,rfl,(x1.trans x4),by rw[py (CD hv).1]⟩
end
end Go.Rl
namespace Go.Rl
open Go.RowKit Go.Proofs
end Go.Rl
namespace Go.Rl
open Go.RowKit Go.Proofs
theorem Fe {w:World} {p:List bj} {cs:List Value} (h:Rp w (oT p) cs):∃v,cs=[v]∧cd c9 p v w:=by
 have h1:=h
 unfold oT at h1
 simp only[Rp] at h1
 obtain⟨A,n,c,rfl,_⟩:=h1
 exact⟨_,rfl,h⟩
end Go.Rl
namespace Go.Rl
open Go.RowKit Go.Proofs
def d2:List UInt8:=2::List.replicate 31 0
end Go.Rl
namespace Go.Rl
open Go.RowKit Go.Proofs
theorem Kf.is {b x:List UInt8} {c:Int} {u:cm} {r:Value} {w':World} (h:Kf b u r w') (e:J7 b u=(x,c)):∃v,r=.tuple #[v,I c]∧cK x v w':=by
 unfold Kf at h
 rw[e] at h
 exact h
end Go.Rl
namespace Go.Rl
open Go.RowKit Go.Proofs
end Go.Rl
namespace Go.Rl
open Go.RowKit Go.Proofs
def d1:List UInt8:=1::List.replicate 31 0
end Go.Rl
namespace Go.Rl
open Go.RowKit Go.Proofs
end Go.Rl
namespace Go.Rl
open Go.RowKit Go.Proofs
theorem IV {n:aP} (h:sN n):∀k∈n.kids,sN k:=by
 obtain⟨ls,s,ks,em,pf⟩:=n
 simp only[sN] at h
 exact(zc ks).1 h.2.2.2
theorem HB {n:aP} (h:sN n):sQ n.split.at_:=by
 obtain⟨ls,s,ks,em,pf⟩:=n
 simp only[sN] at h
 exact h.2.1
theorem DA {P:aP→Prop} (hP:∀n,P n→∀k∈n.kids,P k):∀(n:aP),P n→∀k∈sK n,P k
 |n,h,k,hk=>by
  rw[zi] at hk
  rcases List.mem_cons.1 hk with rfl|hk
  ·exact h
  ·obtain⟨c,hc,hkc⟩:=List.mem_flatMap.1 hk
   exact DA hP c (hP n h c hc) k hkc
 termination_by n=>SizeOf.sizeOf n
 decreasing_by exact aP.lt_of_mem hc
theorem CF {n:aP} (hb:(bh n).bulk≤1048576) (hw:wN n) (hok:kn 2048 n=true):∀e∈bg (fR 2048 n) [],Jj e∧sU e≤1050700:=fun e he=>by
 obtain⟨h1,h2,h3,h4⟩:=yf hok he
 have hs:=(zh _ (Nat.le_refl _) hb hw).2.2
 have hp:=DA (P:=fun k=>sN k∧(bh k).bulk≤1048576) (fun k h c hc=>⟨IV h.1 c hc,by
  have h5:=sJ k
  have h6:=Bh (f:=bh) hc
  have:=h.2
  omega⟩) n ⟨hs,hb⟩
 refine⟨⟨fun q hq=>?_,(hp _ h1).1⟩,?_⟩
 ·rcases h4 q hq with h5|⟨k,h5,h6⟩
  ·cases h5
  ·rw[h6];exact HB (hp k h5).1
 ·have h5:=Fa ⟨[],e.leaf⟩
  rw[zM] at h5
  have h6:sU e=sU ⟨[],e.leaf⟩+e.path.length:=by simp only[sU,List.length_nil];omega
  have h7:=(hp _ h1).2
  simp only[List.map_nil,Dt.bulkAll] at h5
  simp only[List.length_nil] at h3
  omega
theorem DB {c:Nat}:∀{es:List cm},(∀e∈es,sU e≤c)→nP es≤es.length*c
 |[],_=>by simp[nP]
 |u::es,h=>by
  have h1:=DB (es:=es) fun e he=>h e (by simp[he])
  have h2:=h u (by simp)
  simp only[nP,List.map_cons,List.sum_cons,List.length_cons,Nat.add_mul,Nat.one_mul] at h1⊢
  omega
theorem Bj {l:List cm} {i:Nat} (hi:i<l.length):(l.take (i+1)).filter gA=(l.take i).filter gA++(if gA l[i]=true then[l[i]] else[]):=by
 rw[List.take_succ_eq_append_getElem hi,List.filter_append,List.filter_cons]
 simp
theorem cd.nil_any {α:Type} {f:α→Dt} {v:Value} {w w':World} (h:cd f [] v w):cd f [] v w':=by
 have h:Rp w (.sl []) [v]:=h
 show Rp w' (.sl []) [v]
 simp only[Rp] at h⊢
 obtain⟨A,n,c,hv,h2,h3,h4,h5,_⟩:=h
 exact⟨A,n,c,hv,h2,h3,h4,h5,fun hp=>by simp only[List.length_nil] at h2;omega⟩
theorem Ff (ha:Dz) {w:World} {n:aP} {vl x y vk vp:Value} {i j:Int} (hl:cd cP n.lems vl w) (hx:bk n.split.at_.2.1 x w) (hy:bk n.split.at_.2.2 y w) (hk:cd bh n.kids vk w) (hp:cd bK n.pf vp w) (hw:wN n) (hb:(bh n).bulk≤1048576) (i0: -9223372036854775808≤i) (i1:i≤9223372036854775807) (j0: -9223372036854775808≤j) (j1:j≤9223372036854775807) (ho:zQ w):
 Calls Tryz.prog 10 #[.agg #[vl,I n.split.kd,I n.split.ix,B n.split.at_.1,x,y,vk,B n.empty,vp],I i,I j] w (bN fun r w'=>r=B true∧aH w w'):=by
 refine enter (vs:=[.agg #[vl,I n.split.kd,I n.split.ix,B n.split.at_.1,x,y,vk,B n.empty,vp],I i,I j]) Tryz.func10 E E E ?_
 refine af (aa ?_)
 obtain⟨g3,w3,hr3,l3,x3,k3⟩:=cq (P:=Tryz.prog) (w:=w) (T:=52) (cs:=[vl,I n.split.kd,I n.split.ix,B n.split.at_.1,x,y,vk,B n.empty,vp])
 refine cw E E hr3 (ac E E (ag (ab (af (af (aa (an nC E E ((ha (ho.ext x3))) ?_)))))))
 rintro v15 w15 ⟨x15,rfl⟩
 refine bw E E bB (ae E E (ak E (aj E E ((k3.ext x15).ld Tryz.underlying52 E (by kernel_rfl)) (ak E (an jg E E ((bN.mono (jh (hl.ext (x3.trans x15)) (hx.ext (x3.trans x15)) (hy.ext (x3.trans x15)) (hk.ext (x3.trans x15)) (hp.ext (x3.trans x15))) fun r w' h=>(⟨h.1,by rw[h.2];simp⟩:aH _ w'∧r=B (decide (iF n=true))))) ?_)))))
 rintro v19 w19 ⟨x19,rfl⟩
 refine ak E (bw E E yq (aI E E E (ae E E ?_)))
 refine ci (fun h22=>?_) (fun h22=>?_)
 ·refine am E E E (am E E E (am E E E (aq E E E (ag (ab (bm E (af (aa (an nC E E ((ha (ho.ext ((x3.trans x15).trans x19)))) ?_)))))))))
  rintro v27 w27 ⟨x27,rfl⟩
  refine ac E E (ag (ab (aw (az (au E E ?_)))))
  exact⟨_,rfl,rfl,(((x3.trans x15).trans x19).trans x27)⟩
 ·refine ak E (aj E E ((k3.ext (x15.trans x19)).ld Tryz.underlying52 E (by kernel_rfl)) (ak E (an CC E E ((CE ((x3.trans x15).trans x19) hl hx hy hk hp (by simpa using h22))) ?_)))
  rintro v24 w24 ⟨x24,rfl⟩
  refine ak E (al E E E (bT) (aI E E E (ag (ab ?_))))
  refine bu E (fun h26=>?_) (fun h26=>?_)
  ·refine af (aa (an nC E E ((ha (ho.ext (((x3.trans x15).trans x19).trans x24)))) ?_))
   rintro v27 w27 ⟨x27,rfl⟩
   refine ac E E (ag (ab (aw (az (au E E ?_)))))
   exact⟨_,rfl,rfl,((((x3.trans x15).trans x19).trans x24).trans x27)⟩
  ·refine aC (ab (af ?_))
   have hv:iF n=true:=by simpa using h22
   obtain⟨hok,hct⟩:=CD hv
   obtain⟨tf,tok,tcn⟩:=Cx hok
   have hsh:=CF hb hw hok
   have hvf:=ka (p:=[]) hok
   obtain⟨t,ht⟩:∃t,t=fR 2048 n:=⟨_,rfl⟩
   refine aa (aj E E ((k3.ext ((x15.trans x19).trans x24)).ld Lk E (by kernel_rfl)) (an cC E E ((CB 2048 n hok _ _ _ _ _ _ ((((x3.trans x15).trans x19).trans x24)) hl hx hy hk hp)) ?_))
   rintro v29 w29 ⟨x29,cs,rfl,o29,r29⟩
   rw[←ht] at r29 tf tok tcn hsh hvf
   have hvm:iF t.node=true:=by unfold iF;rw[tok,tcn,decide_eq_true hct];rfl
   obtain⟨ul,ux,uy,uk,up,rfl,a1,a2,a3,a4,a5⟩:=dc r29.rp
   obtain⟨g7,w7,hr7,l7,x7,k7⟩:=a9 (P:=Tryz.prog) (w:=w29) (t:=52) (z:=.agg #[.slice none 0 0,I 0,I 0,B false,.slice none 0 0,.slice none 0 0,.slice none 0 0,B false,.slice none 0 0]) (l:=[.slice none 0 0,I 0,I 0,B false,.slice none 0 0,.slice none 0 0,.slice none 0 0,B false,.slice none 0 0]) (by kernel_rfl) rfl
   refine aS E hr7 ?_
   obtain⟨w3_3,s3_3,q3_3,k3_3⟩:=k7.stS (P:=Tryz.prog) (t:=52) (m:=[ul,I t.node.split.kd,I t.node.split.ix,B t.node.split.at_.1,ux,uy,uk,B t.node.empty,up]) rfl (by kernel_rfl) (ap.cons a1.one (ap.cons rfl (ap.cons rfl (ap.cons rfl (ap.cons a2.one (ap.cons a3.one (ap.cons a4.one (ap.cons rfl (ap.cons a5.one ap.nil)))))))))
   refine ay E E s3_3 ?_
   have x3_3:=aH.of_new (x7) q3_3 l7
   refine ag (ab (af (aa (aj E E (k3_3.ld Lk E (by kernel_rfl)) (an yi E E ((Bi (x3_3) a1 a2 a3 a4 a5 hvm)) ?_)))))
   rintro v31 w31 ⟨x31,r31⟩
   refine ac E E (ag (ab (af ?_)))
   obtain⟨vis,hvd⟩:∃l,l=im 2048 t.node []:=⟨_,rfl⟩
   rw[←hvd] at hvf r31
   have hvis:cd jR vis v31 w31:=r31.rp
   have hvl:vis.length≤65536:=by rw[hvd,py tok,tcn];exact hct
   have eW31:=((((((x3.trans x15).trans x19).trans x24).trans x29).trans x3_3).trans x31)
   have s31:=eW31.size
   refine aa (ac E E (ag (ab (af (af (aa (ac E E (ag (ab (aG ?_))))))))))
   refine eu (fun(c:Nat) (rv:Value)=>[(1,I i),(2,I j),(3,.pointer (some ⟨g3,0,none⟩)),(7,.pointer (some ⟨g7,0,none⟩)),(8,v31),(9,rv),(10,I (c:Int))]) (fun(c:Nat) (rv:Value) w'=>aH w w'∧aH w31 w'∧c≤vis.length∧(∀e∈(vis.take c).filter gA,fk e=true)∧dY 54 10 w31.heap.size (fun k=>w31.heap.size≤k) jR ((vis.take c).filter gA) rv w') (fun(c:Nat) (rv:Value)=>vis.length-c) (0) (.slice none 0 0) ⟨rfl,rfl,rfl,rfl,rfl,rfl,rfl,trivial⟩ ⟨eW31,aH.refl _,by omega,(by simp),(by simpa using dY.nil _)⟩ ?_
   rintro c rv wL ⟨eL,eA,hc,hval,oL⟩
   refine af (af (aa (ae E E (ae E E (aV E E (aY LQ (hvis.ext eA)) (al E E E (a6) ?_))))))
   refine ag (ab ?_)
   refine bu E (fun h35=>?_) (fun h35=>?_)
   ·refine aC (ab (af (aG (af ?_))))
    have eD:aH wL wL.drew:=(aH.refl _).drew
    obtain⟨a40,c40,p40,q40,h40⟩:=cb (P:=Tryz.prog) (sz:=10) LQ (by kernel_rfl) bG (by omega) hvis (i:=c) (by omega) .i64
    obtain⟨e40,he40⟩:∃e,e=vis[c]'(by omega):=⟨_,rfl⟩
    rw[←he40] at h40
    obtain⟨y0,y1,y2,y3,y4,y5,rfl,f40_0,f40_1,f40_2,f40_3,f40_4,f40_5⟩:=nh h40
    have hS:aH w31 wL.drew:=eA.trans eD
    refine fw (fun w1=>aH w31 w1) 13 E (by kernel_rfl) ?_
    refine cF 0 E E (by kernel_rfl) E hS ?_
    refine cF 1 E E (by kernel_rfl) E hS ?_
    refine ii 2 E E E (by kernel_rfl) E hS (fun _ _=>p40 _) ?_
    refine dl 3 E E (by kernel_rfl) E hS (fun _ _=>gt (o:=0) Tryz.underlying70 E (by kernel_rfl) E) ?_
    refine d6 4 E E (by kernel_rfl) E hS (fun _ hw=>ai Lu E (hw.cell_some (q40.at (j:=0) E))) ?_
    refine cF 5 E E (by kernel_rfl) E hS ?_
    refine cF 6 E E (by kernel_rfl) E hS ?_
    refine ii 7 E E E (by kernel_rfl) E hS (fun _ _=>p40 _) ?_
    refine dl 8 E E (by kernel_rfl) E hS (fun _ _=>gt (o:=1) Tryz.underlying70 E (by kernel_rfl) E) ?_
    refine d6 9 rfl rfl (by kernel_rfl) rfl hS (fun _ hw=>(q40.ext hw).ldO (ms:=[y1,I e40.leaf.split.kd,I e40.leaf.split.ix,B e40.leaf.split.at_.1,y2,y3,y4,B e40.leaf.empty,y5]) (o:=1) (fun j v hj=>by rcases j with _|_|_|_|_|_|_|_|_|j<;>first|exact hj|exact absurd hj (by simp)) Tryz.underlying52 rfl (by kernel_rfl)) ?_
    refine iA (fun(z:Nat)=>[(1,I i),(2,I j),(3,.pointer (some ⟨g3,0,none⟩)),(7,.pointer (some ⟨g7,0,none⟩)),(8,v31),(9,rv),(10,I (c:Int)),(11,.pointer (some ⟨z,0,none⟩))]) (fun z w1=>aH wL w1∧bQ z 54 [y0,y1,I e40.leaf.split.kd,I e40.leaf.split.ix,B e40.leaf.split.at_.1,y2,y3,y4,B e40.leaf.empty,y5] w1) #[true,true,true,true,true,true,true,true,true,true,true,true,true] 0 ?_ (fun hk=>?_)
    rotate_left
    ·refine ep 10 11 (by kernel_rfl) E E ?_ ?_
     ·refine bC (vs:=[(0,y0),(1,.agg #[y1,I e40.leaf.split.kd,I e40.leaf.split.ix,B e40.leaf.split.at_.1,y2,y3,y4,B e40.leaf.empty,y5])]) (r:=.agg #[y0,y1,I e40.leaf.split.kd,I e40.leaf.split.ix,B e40.leaf.split.at_.1,y2,y3,y4,B e40.leaf.empty,y5]) rfl rfl (by obtain⟨_,_,_,rfl⟩:=f40_0.isS;obtain⟨_,_,_,rfl⟩:=f40_1.isS;obtain⟨_,_,_,rfl⟩:=f40_2.isS;obtain⟨_,_,_,rfl⟩:=f40_3.isS;obtain⟨_,_,_,rfl⟩:=f40_4.isS;obtain⟨_,_,_,rfl⟩:=f40_5.isS;exact run_build _ _ _ #[_,_,I e40.leaf.split.kd,I e40.leaf.split.ix,B e40.leaf.split.at_.1,_,_,_,B e40.leaf.empty,_] (by kernel_rfl)) (ao hS ?_)
      obtain⟨g11,w11,hr11,l11,x11,k11⟩:=a9 (P:=Tryz.prog) (w:=wL.drew) (t:=54) (z:=.agg #[.slice none 0 0,.slice none 0 0,I 0,I 0,B false,.slice none 0 0,.slice none 0 0,.slice none 0 0,B false,.slice none 0 0]) (l:=[.slice none 0 0,.slice none 0 0,I 0,I 0,B false,.slice none 0 0,.slice none 0 0,.slice none 0 0,B false,.slice none 0 0]) (by kernel_rfl) rfl
      refine aO 11 (by kernel_rfl) E (aS E hr11 (ao (hS.trans x11) ?_))
      obtain⟨wF,sF,qF,kF⟩:=k11.stS (P:=Tryz.prog) (t:=54) (m:=[y0,y1,I e40.leaf.split.kd,I e40.leaf.split.ix,B e40.leaf.split.at_.1,y2,y3,y4,B e40.leaf.empty,y5]) rfl (by kernel_rfl) (ap.cons f40_0.one (ap.cons f40_1.one (ap.cons rfl (ap.cons rfl (ap.cons rfl (ap.cons f40_2.one (ap.cons f40_3.one (ap.cons f40_4.one (ap.cons rfl (ap.cons f40_5.one ap.nil))))))))))
      have xF:aH wL wF:=aH.of_new (eD.trans x11) qF l11
      refine aO 12 (by kernel_rfl) E (ay E E sF (ao (eA.trans xF) ?_))
      exact hk _ _ ⟨g11,⟨rfl,rfl,rfl,rfl,rfl,rfl,rfl,rfl,trivial⟩,xF,kF⟩
     ·obtain⟨g11,w11,hr11,l11,x11,k11⟩:=a9 (P:=Tryz.prog) (w:=wL.drew) (t:=54) (z:=.agg #[.slice none 0 0,.slice none 0 0,I 0,I 0,B false,.slice none 0 0,.slice none 0 0,.slice none 0 0,B false,.slice none 0 0]) (l:=[.slice none 0 0,.slice none 0 0,I 0,I 0,B false,.slice none 0 0,.slice none 0 0,.slice none 0 0,B false,.slice none 0 0]) (by kernel_rfl) rfl
      refine aS E hr11 (ao (hS.trans x11) ?_)
      refine aO 10 (by kernel_rfl) rfl (bC (vs:=[(0,y0),(1,.agg #[y1,I e40.leaf.split.kd,I e40.leaf.split.ix,B e40.leaf.split.at_.1,y2,y3,y4,B e40.leaf.empty,y5])]) (r:=.agg #[y0,y1,I e40.leaf.split.kd,I e40.leaf.split.ix,B e40.leaf.split.at_.1,y2,y3,y4,B e40.leaf.empty,y5]) rfl rfl (by obtain⟨_,_,_,rfl⟩:=f40_0.isS;obtain⟨_,_,_,rfl⟩:=f40_1.isS;obtain⟨_,_,_,rfl⟩:=f40_2.isS;obtain⟨_,_,_,rfl⟩:=f40_3.isS;obtain⟨_,_,_,rfl⟩:=f40_4.isS;obtain⟨_,_,_,rfl⟩:=f40_5.isS;exact run_build _ _ _ #[_,_,I e40.leaf.split.kd,I e40.leaf.split.ix,B e40.leaf.split.at_.1,_,_,_,B e40.leaf.empty,_] (by kernel_rfl)) (ao (hS.trans x11) ?_))
      obtain⟨wF,sF,qF,kF⟩:=k11.stS (P:=Tryz.prog) (t:=54) (m:=[y0,y1,I e40.leaf.split.kd,I e40.leaf.split.ix,B e40.leaf.split.at_.1,y2,y3,y4,B e40.leaf.empty,y5]) rfl (by kernel_rfl) (ap.cons f40_0.one (ap.cons f40_1.one (ap.cons rfl (ap.cons rfl (ap.cons rfl (ap.cons f40_2.one (ap.cons f40_3.one (ap.cons f40_4.one (ap.cons rfl (ap.cons f40_5.one ap.nil))))))))))
      have xF:aH wL wF:=aH.of_new (eD.trans x11) qF l11
      refine aO 12 (by kernel_rfl) E (ay E E sF (ao (eA.trans xF) ?_))
      exact hk _ _ ⟨g11,⟨rfl,rfl,rfl,rfl,rfl,rfl,rfl,rfl,trivial⟩,xF,kF⟩
    rintro g11 w9 ⟨x9,k11⟩
    refine fx (by kernel_rfl) ?_
    refine ab (af (af (aa (ae E E (ae E E ?_)))))
    obtain⟨a51,c51,p51,q51,h51⟩:=cb (P:=Tryz.prog) (sz:=10) LQ (by kernel_rfl) bG (by omega) hvis (i:=c) ((by omega)) .i64
    rw[←he40] at h51
    obtain⟨x51_0,x51_1,x51_2,x51_3,x51_4,x51_5,rfl,f51_0,f51_1,f51_2,f51_3,f51_4,f51_5⟩:=nh h51
    refine ar E E E (p51 _) (ah E E (gt (o:=1) Tryz.underlying70 E (by kernel_rfl) E) (ah E E (KP (b:=1) (o:=6) Lk E (by kernel_rfl) E) ?_))
    refine aj E E (ai Ls E ((eA.trans x9).cell_some (q51.at (j:=7) E))) (aV E E (aY Ls (f51_4.ext (eA.trans x9))) ?_)
    refine al E E E (bT) (ag (ab ?_))
    refine bu E (fun h56=>?_) (fun h56=>?_)
    ·have hfK:(vis.take (c+1)).filter gA=(vis.take c).filter gA:=by rw[Bj (l:=vis) (by omega),if_neg (by rw[←he40];unfold gA;simp only[decide_eq_true_eq];omega),List.append_nil]
     refine bc (aK (bf (ab (aa (ae E E (al (r:=I ((c+1:Nat):Int)) E E E (by have e:((c+1:Nat):Int)=(c:Int)+1:=(by omega);rw[e];exact aR (by omega) (by omega)) ?_))))))
     refine ac E E (ag ?_)
     refine c6 (c+1) (rv) ⟨rfl,rfl,rfl,rfl,rfl,rfl,rfl,trivial⟩ ⟨eL.trans x9,eA.trans x9,by omega,(by rw[hfK];exact hval),(by rw[hfK];exact oL.ext x9)⟩ (by omega)
    ·refine aC (ab (af (af ?_)))
     have hlf:gA e40=true:=by unfold gA;rw[decide_eq_true];omega
     have hin:e40∈bg t []:=by rw[←hvf,he40];exact List.mem_filter.2 ⟨List.getElem_mem _,he40▸hlf⟩
     have hs40:=(hsh e40 hin).1
     have eN:aH w31 w9:=eA.trans x9
     have hfs:=Bj (l:=vis) (i:=c) (by omega)
     rw[←he40,if_pos hlf] at hfs
     rcases hve:fk e40
     ·refine aa ?_
      refine aj E E (k11.ld Lr E (by kernel_rfl)) ?_
      refine an vN E E ((by have h:=vO (u:=e40) (f40_0.ext eN) (f40_1.ext eN) (f40_2.ext eN) (f40_3.ext eN) (f40_4.ext eN) (f40_5.ext eN) hs40;rw[hve] at h;exact h)) ?_
      rintro v58 w58 ⟨x58,rfl⟩
      refine bw E E bB (ag (ab (bm E (af (aa (ac E E (ag (ab (aw (az (ba (az (az (ba (az (au E E ?_))))))))))))))))
      exact⟨_,rfl,rfl,(((((((((x3.trans x15).trans x19).trans x24).trans x29).trans x3_3).trans x31).trans eA).trans x9).trans x58)⟩
     ·refine aa ?_
      refine aj E E (k11.ld Lr E (by kernel_rfl)) ?_
      refine an vN E E ((by have h:=vO (u:=e40) (f40_0.ext eN) (f40_1.ext eN) (f40_2.ext eN) (f40_3.ext eN) (f40_4.ext eN) (f40_5.ext eN) hs40;rw[hve] at h;exact h)) ?_
      rintro v58 w58 ⟨x58,rfl⟩
      refine bw E E bB (ag (ab (cN E (aC (ab (aa (ae E E ?_)))))))
      refine aj E E ((k11.ext x58).ld Lr E (by kernel_rfl)) ?_
      obtain⟨v62,w62,hr62,x62,b62,_⟩:=uO (P:=Tryz.prog) (w:=w58) (t:=25) Tryz.underlying25 lV rfl (by omega) [[y0,y1,I e40.leaf.split.kd,I e40.leaf.split.ix,B e40.leaf.split.at_.1,y2,y3,y4,B e40.leaf.empty,y5]] (by simp) (by simp) (by simp)
      refine aF (vs:=[(0,.agg #[y0,y1,I e40.leaf.split.kd,I e40.leaf.split.ix,B e40.leaf.split.at_.1,y2,y3,y4,B e40.leaf.empty,y5])]) E E hr62 ?_
      have e62:aH wL w62:=x9.trans (x58.trans x62)
      have s62:=e62.size
      have sA:=eA.size
      have olt:=oL.lt
      have r62:bZ (fun k=>w31.heap.size≤k) w62 (jR e40) [y0,y1,I e40.leaf.split.kd,I e40.leaf.split.ix,B e40.leaf.split.at_.1,y2,y3,y4,B e40.leaf.empty,y5]:=(Rp.x h40).ext (eA.trans e62)
      obtain⟨rv2,w63,hr63,o63,gr63⟩:=(oL.ext e62).app (P:=Tryz.prog) (t:=25) (ty:=25) (m:=[e40]) Tryz.underlying25 gf rfl (by omega) (by omega) (by simpa using b62) (ap.cons f40_0.one (ap.cons f40_1.one (ap.cons rfl (ap.cons rfl (ap.cons rfl (ap.cons f40_2.one (ap.cons f40_3.one (ap.cons f40_4.one (ap.cons rfl (ap.cons f40_5.one ap.nil)))))))))) (by
       have h1:=aN.cons (b:=[]) (r62.weak (Y:=fun k=>w31.heap.size≤k∨rv.ownBlock=some k) fun k hk=>by
        rcases hk with hk|hk
        ·exact .inl hk
        ·exact .inl (olt k hk).1) aN.nil
       simpa using h1) bG (by have h1:=List.length_filter_le gA (vis.take c);have h2:=List.length_take_le c vis;simp only[List.length_singleton];omega) (by omega)
      refine aT E E hr63 ?_
      have e63:aH w w63:=aH.of_grew (eL.trans e62) gr63 fun k hk=>by have:=(olt k hk).1;omega
      have f63:aH w31 w63:=aH.of_grew (eA.trans e62) gr63 fun k hk=>(olt k hk).1
      refine ac E E (ag (aW (ab (aa (ae E E (al (r:=I ((c+1:Nat):Int)) E E E (by have e:((c+1:Nat):Int)=(c:Int)+1:=(by omega);rw[e];exact aR (by omega) (by omega)) ?_))))))
      refine ac E E (ag ?_)
      refine c6 (c+1) (rv2) ⟨rfl,rfl,rfl,rfl,rfl,rfl,rfl,trivial⟩ ⟨e63,f63,by omega,(by rw[hfs];intro e he;exact(List.mem_append.1 he).elim (hval e) fun h=>by rw[List.mem_singleton] at h;rw[h];exact hve),(by rw[hfs];exact o63)⟩ (by omega)
   ·refine bc (aK (aK (bf (ab (af (af ?_))))))
    obtain rfl:c=vis.length:=by omega
    rw[List.take_length,hvf] at hval oL
    obtain⟨es,hes⟩:∃es,es=bg t []:=⟨_,rfl⟩
    rw[←hes] at hval oL
    have oD:cd jR es rv wL:=(oL.rpx (Y:=fun _=>False) bG (by omega) (fun _ h=>h.elim) (fun _ _ h=>h)).rp
    have hsz:=DB (es:=es) fun e he=>(hsh e (hes▸he)).2
    have hln:es.length≤65536:=by rw[hes,←hvf];exact Nat.le_trans (List.length_filter_le _ _) hvl
    refine aa (ae E E (an zH E E ((zJ oD (by omega))) ?_))
    rintro v65 w65 ⟨x65,rfl⟩
    refine bw E E yq (ae E E ?_)
    refine ci (fun h67=>?_) (fun h67=>?_)
    ·refine am E E E (am E E E (aq E E E (ae E E (am E E E (am E E E (am E E E (am E E E (aq E E E (ae E E ?_)))))))))
     refine am E E E (am E E E (aq E E E (ae E E (am E E E (am E E E (am E E E (am E E E (aq E E E (ag ?_)))))))))
     refine ab (bm E (af (aa (ac E E (ag (ab (aw (az (au E E ?_)))))))))
     exact⟨_,rfl,rfl,(eL.trans x65)⟩
    ·refine ak E (ae E E (ak E (al E E E (a6) (aI E E E (ae E E ?_)))))
     refine ci (fun h71=>?_) (fun h71=>?_)
     ·refine am E E E (am E E E (am E E E (am E E E (aq E E E (ae E E (am E E E (am E E E (aq E E E (ae E E ?_)))))))))
      refine am E E E (am E E E (am E E E (am E E E (aq E E E (ag (ab (bm E (af (aa (ac E E (ag (ab (aw (az ?_))))))))))))))
      refine au E E ?_
      exact⟨_,rfl,rfl,(eL.trans x65)⟩
     ·refine ak E (ae E E (ak E (ae E E (ak E (aV E E (aY LD (oD.ext x65)) (ak E (al E E E (bT) ?_)))))))
      refine aI E E E (ae E E ?_)
      refine ci (fun h77=>?_) (fun h77=>?_)
      ·refine am E E E (am E E E (aq E E E (ae E E (am E E E (am E E E (am E E E (am E E E (aq E E E (ag ?_)))))))))
       refine ab (bm E (af (aa (ac E E (ag (ab (aw (az (au E E ?_)))))))))
       exact⟨_,rfl,rfl,(eL.trans x65)⟩
      ·refine ak E (ae E E (ak E (al E E E (a6) (aI E E E (ae E E ?_)))))
       refine ci (fun h81=>?_) (fun h81=>?_)
       ·refine am E E E (am E E E (am E E E (am E E E (aq E E E (ag (ab (bm E (af (aa (ac E E (ag (ab (aw (az ?_))))))))))))))
        refine au E E ?_
        exact⟨_,rfl,rfl,(eL.trans x65)⟩
       ·refine ak E (ae E E (ak E (ae E E (ak E (aV E E (aY LD (oD.ext x65)) (ak E (al E E E (gL) ?_)))))))
        refine aI E E E (ag (ab ?_))
        refine bu E (fun h86=>?_) (fun h86=>?_)
        ·refine af (aa (ac E E (ag (ab (aw (az (au E E ?_)))))))
         exact⟨_,rfl,rfl,(eL.trans x65)⟩
        ·refine aC (ab (af ?_))
         obtain⟨iN,rfl⟩:∃k:Nat,i=(k:Int):=⟨i.toNat,by omega⟩
         obtain⟨jN,rfl⟩:∃k:Nat,j=(k:Int):=⟨j.toNat,by omega⟩
         have hiN:iN≤es.length:=by omega
         have hjN:jN<es.length:=by omega
         have oS:=oD.ext x65
         have eWS:aH w w65:=eL.trans x65
         have memR:∀e,e∈es.drop iN++es.take iN↔e∈es:=fun e=>by rw[List.mem_append,or_comm,←List.mem_append,List.take_append_drop]
         have hrs:∀u∈es.drop iN++es.take iN,Jj u:=fun u hu=>(hsh u (hes▸(memR u).1 hu)).1
         have hrl:(es.drop iN++es.take iN).length≤1048576:=by simp only[List.length_append,List.length_drop,List.length_take];omega
         have hrot:=II tf hvm (l:=es.drop iN++es.take iN) (fun e he=>hes▸(memR e).1 he) (fun e he=>(memR e).2 (hes▸he)) (fun e he=>hval e ((memR e).1 he))
         have eD:aH w65 w65.drew:=(aH.refl _).drew
         have sD:=eD.size
         obtain⟨v91,p91,d91⟩:=yg (P:=Tryz.prog) LD (by kernel_rfl) bG (by omega) oS (lo:=iN) hiN
         obtain⟨v95,p95,d95⟩:=Hv (P:=Tryz.prog) LD (by kernel_rfl) bG (by omega) oS (hi:=iN) hiN
         obtain⟨xs1,sl1,al1⟩:=bZ.toSl (sz:=10) (l:=(es.drop iN).map jR) (Rp.x d91) (fun d hd=>by obtain⟨a,_,rfl⟩:=List.mem_map.1 hd;exact bG a)
         obtain⟨xs2,sl2,al2⟩:=bZ.toSl (sz:=10) (l:=(es.take iN).map jR) (Rp.x d95) (fun d hd=>by obtain⟨a,_,rfl⟩:=List.mem_map.1 hd;exact bG a)
         refine fw (fun _=>True) 18 E (by kernel_rfl) ?_
         refine cF 1 E E (by kernel_rfl) E trivial ?_
         refine cF 2 E E (by kernel_rfl) E trivial ?_
         refine pj 3 E E E E E (by kernel_rfl) E trivial (fun w1 _=>p91 w1) ?_
         refine cF 5 E E (by kernel_rfl) E trivial ?_
         refine cF 6 E E (by kernel_rfl) E trivial ?_
         refine pj 7 E E E E E (by kernel_rfl) E trivial (fun w1 _=>p95 w1) ?_
         refine iA (fun z=>[(2,I (jN:Int)),(7,.pointer (some ⟨g7,0,none⟩)),(9,rv),(12,.pointer (some ⟨z.1,0,none⟩)),(13,z.2.1),(14,I 0)]) (fun(z:Nat×Value×List Value) w1=>aH w65 w1∧bQ z.1 52 z.2.2 w1∧ap z.2.2∧Rp w1 (bh t.node) z.2.2∧cd oT [] z.2.1 w1) #[true,true,true,true,true,true,true,true,true,true,true,true,true,true,true,true,true,true] 0 ?_ (fun hk=>?_)
         rotate_left
         ·refine ep 0 14 (by kernel_rfl) E E ?_ ?_
          ·obtain⟨v88,w88,hr88,x88,o88,ob88⟩:=nq (P:=Tryz.prog) (w:=w65.drew) (f:=jR) (X:=fun k=>w65.heap.size≤k) LD lV
           have e88:aH w65 w88:=eD.trans x88
           have s88:=eD.size
           have sx88:=x88.size
           refine aF (vs:=[]) E E hr88 (ao trivial ?_)
           refine ep 4 14 (by kernel_rfl) E E ?_ ?_
           ·obtain⟨v92,w92,hr92,o92,gr92⟩:=o88.app (P:=Tryz.prog) (t:=25) (ty:=25) (m:=es.drop iN) LD gf rfl (by omega) (by omega) (sl1.ext e88) (cI al1.rp) ((al1.ext e88).weak fun k hk=>by
             rcases hk with hk|hk
             ·exact .inl hk
             ·exact .inl (by have:=(o88.lt k hk).1;show w65.heap.size≤k;omega)) bG (by have h1:(es.drop iN).length≤es.length:=(List.drop_sublist _ _).length_le;show(0+_)*176≤_;omega) (by have:=e88.size;omega)
            have sz92:=gr92.grown.size
            have e92:aH w65 w92:=aH.of_grew e88 gr92 fun k hk=>by have:=(o88.lt k hk).1;omega
            refine aT E E hr92 (ao trivial ?_)
            refine ep 8 14 (by kernel_rfl) E E ?_ ?_
            ·obtain⟨v96,w96,hr96,o96,gr96⟩:=o92.app (P:=Tryz.prog) (t:=25) (ty:=25) (m:=es.take iN) LD gf rfl (by omega) (by omega) (sl2.ext e92) (cI al2.rp) ((al2.ext e92).weak fun k hk=>by
              rcases hk with hk|hk
              ·exact .inl hk
              ·exact .inl (by have:=(o92.lt k hk).1;show w65.heap.size≤k;omega)) bG (by have h1:(es.take iN).length≤es.length:=(List.take_sublist _ _).length_le;have h2:(es.drop iN).length≤es.length:=(List.drop_sublist _ _).length_le;show((es.drop iN).length+_)*176≤_;omega) (by have:=e92.size;omega)
             have sz96:=gr96.grown.size
             have e96:aH w65 w96:=aH.of_grew e92 gr96 fun k hk=>by have:=(o92.lt k hk).1;omega
             refine aT E E hr96 (ao trivial ?_)
             refine ep 9 14 (by kernel_rfl) E E ?_ ?_
             ·have d96:cd jR (es.drop iN++es.take iN) v96 w96:=by have h1:=(o96.rpx (Y:=fun _=>False) bG (by omega) (fun _ h=>h.elim) (fun _ _ h=>h)).rp;rw[List.nil_append] at h1;exact h1
              refine an gi E E (gj d96 hrs (ho.ext (eWS.trans e96)) hrl) ?_
              rintro v97 w97 ⟨x97,hBQ⟩
              have e97:aH w65 w97:=e96.trans x97
              unfold rI at hBQ
              rw[hrot] at hBQ
              obtain⟨csB,mv,rfl,oB,rB,mB⟩:=hBQ
              refine ao trivial ?_
              refine cF 10 E E (by kernel_rfl) E trivial ?_
              refine d5 11 (xs:=[.tmp 87]) (f:=fun|[a]=>Instr.extract a 0|_=>stuck "") E (fun _=>rfl) (kX E) (by kernel_rfl) E trivial (fun _ _=>dH) ?_
              refine d5 12 (xs:=[.tmp 87]) (f:=fun|[a]=>Instr.extract a 1|_=>stuck "") E (fun _=>rfl) (kX E) (by kernel_rfl) E trivial (fun _ _=>dJ) ?_
              refine d5 13 (xs:=[.tmp 87]) (f:=fun|[a]=>Instr.extract a 2|_=>stuck "") E (fun _=>rfl) (kX E) (by kernel_rfl) E trivial (fun _ _=>dK) ?_
              obtain⟨g12,wA,hrA,lA,xA,k12⟩:=bA (w:=w97)
              have eA2:aH w65 wA:=e97.trans xA
              have slA:=e97.size
              have sxA:=xA.size
              refine aO 14 (by kernel_rfl) E (aS E hrA (ao trivial ?_))
              have rB2:Rp wA (bh t.node) csB:=(rB.ext xA)
              have kZ:bQ g12 52 zC wA:=k12
              have nO:=ki tok kZ (Rp.x rB2)
              obtain⟨w15,s15,q15,k15⟩:=kZ.stS (P:=Tryz.prog) (t:=52) (m:=csB) (by rw[rB2.len,bF];rfl) (by rw[rB2.len,bF];kernel_rfl) oB
              have m15:Mv (fun k=>wA.heap.size≤k∨k=g12) wA w15:=Mv.of_grown q15 fun k hk _=>.inr (Option.some.inj hk).symm
              have e15:aH w65 w15:=aH.of_new eA2 q15 (by omega)
              refine aO 15 (by kernel_rfl) E (ay E E s15 (ao trivial ?_))
              refine aO 16 (by kernel_rfl) E (ac E E (ao trivial ?_))
              refine aO 17 (by kernel_rfl) E (ac E E (ao trivial ?_))
              exact hk _ _ ⟨(g12,mv,csB),⟨rfl,rfl,rfl,rfl,rfl,rfl,trivial⟩,e15,k15,oB,(nO.mv (Y:=fun _=>False) m15 fun k hk=>hk.elim).rp,cd.nil_any mB⟩
             ·obtain⟨g12,wA,hrA,lA,xA,k12⟩:=bA (w:=w96)
              have eA2:aH w65 wA:=e96.trans xA
              have slA:=e96.size
              have sxA:=xA.size
              refine aS E hrA (ao trivial ?_)
              have kn14:¬v96.ownBlock=some g12:=fun h=>by have:=(o96.lt g12 h).2;omega
              have d96:cd jR (es.drop iN++es.take iN) v96 wA:=by have h1:=((o96.ext xA).rpx (Y:=fun _=>False) bG (by omega) (fun _ h=>h.elim) (fun _ _ h=>h)).rp;rw[List.nil_append] at h1;exact h1
              refine aO 9 (by kernel_rfl) E (an gi E E (gj d96 hrs (ho.ext (eWS.trans eA2)) hrl) ?_)
              rintro v97 w97 ⟨x97,hBQ⟩
              have e97:aH w65 w97:=eA2.trans x97
              unfold rI at hBQ
              rw[hrot] at hBQ
              obtain⟨csB,mv,rfl,oB,rB,mB⟩:=hBQ
              refine ao trivial ?_
              refine cF 10 E E (by kernel_rfl) E trivial ?_
              refine d5 11 (xs:=[.tmp 87]) (f:=fun|[a]=>Instr.extract a 0|_=>stuck "") E (fun _=>rfl) (kX E) (by kernel_rfl) E trivial (fun _ _=>dH) ?_
              refine d5 12 (xs:=[.tmp 87]) (f:=fun|[a]=>Instr.extract a 1|_=>stuck "") E (fun _=>rfl) (kX E) (by kernel_rfl) E trivial (fun _ _=>dJ) ?_
              refine d5 13 (xs:=[.tmp 87]) (f:=fun|[a]=>Instr.extract a 2|_=>stuck "") E (fun _=>rfl) (kX E) (by kernel_rfl) E trivial (fun _ _=>dK) ?_
              have rB2:Rp w97 (bh t.node) csB:=rB
              have kZ:bQ g12 52 zC w97:=(k12.ext x97)
              have nO:=ki tok kZ (Rp.x rB2)
              obtain⟨w15,s15,q15,k15⟩:=kZ.stS (P:=Tryz.prog) (t:=52) (m:=csB) (by rw[rB2.len,bF];rfl) (by rw[rB2.len,bF];kernel_rfl) oB
              have m15:Mv (fun k=>w97.heap.size≤k∨k=g12) w97 w15:=Mv.of_grown q15 fun k hk _=>.inr (Option.some.inj hk).symm
              have e15:aH w65 w15:=aH.of_new e97 q15 (by omega)
              refine aO 15 (by kernel_rfl) E (ay E E s15 (ao trivial ?_))
              refine aO 16 (by kernel_rfl) E (ac E E (ao trivial ?_))
              refine aO 17 (by kernel_rfl) E (ac E E (ao trivial ?_))
              exact hk _ _ ⟨(g12,mv,csB),⟨rfl,rfl,rfl,rfl,rfl,rfl,trivial⟩,e15,k15,oB,(nO.mv (Y:=fun _=>False) m15 fun k hk=>hk.elim).rp,cd.nil_any mB⟩
            ·obtain⟨g12,wA,hrA,lA,xA,k12⟩:=bA (w:=w92)
             have eA2:aH w65 wA:=e92.trans xA
             have slA:=e92.size
             have sxA:=xA.size
             refine aS E hrA (ao trivial ?_)
             have kn14:¬v92.ownBlock=some g12:=fun h=>by have:=(o92.lt g12 h).2;omega
             obtain⟨v96,w96,hr96,o96,gr96⟩:=(o92.ext xA).app (P:=Tryz.prog) (t:=25) (ty:=25) (m:=es.take iN) LD gf rfl (by omega) (by omega) (sl2.ext eA2) (cI al2.rp) ((al2.ext eA2).weak fun k hk=>by
              rcases hk with hk|hk
              ·exact .inl hk
              ·exact .inl (by have:=((o92.ext xA).lt k hk).1;show w65.heap.size≤k;omega)) bG (by have h1:(es.take iN).length≤es.length:=(List.take_sublist _ _).length_le;have h2:(es.drop iN).length≤es.length:=(List.drop_sublist _ _).length_le;show((es.drop iN).length+_)*176≤_;omega) (by have:=eA2.size;omega)
             have sz96:=gr96.grown.size
             have e96:aH w65 w96:=aH.of_grew eA2 gr96 fun k hk=>by have:=((o92.ext xA).lt k hk).1;omega
             refine aO 8 (by kernel_rfl) E (aT E E hr96 (ao trivial ?_))
             have kz96:=(Mv.of_grown (X:=fun k=>v92.ownBlock=some k) gr96.grown fun k hk _=>hk).blk k12 fun h=>kn14 h
             have kn96:¬v96.ownBlock=some g12:=fun h=>(by rcases gr96.own with h5|h5;exact kn14 (h5▸h);(have:=k12.lt;have:=h5 _ h;omega))
             have d96:cd jR (es.drop iN++es.take iN) v96 w96:=by have h1:=(o96.rpx (Y:=fun _=>False) bG (by omega) (fun _ h=>h.elim) (fun _ _ h=>h)).rp;rw[List.nil_append] at h1;exact h1
             refine aO 9 (by kernel_rfl) E (an gi E E (gj d96 hrs (ho.ext (eWS.trans e96)) hrl) ?_)
             rintro v97 w97 ⟨x97,hBQ⟩
             have e97:aH w65 w97:=e96.trans x97
             unfold rI at hBQ
             rw[hrot] at hBQ
             obtain⟨csB,mv,rfl,oB,rB,mB⟩:=hBQ
             refine ao trivial ?_
             refine cF 10 E E (by kernel_rfl) E trivial ?_
             refine d5 11 (xs:=[.tmp 87]) (f:=fun|[a]=>Instr.extract a 0|_=>stuck "") E (fun _=>rfl) (kX E) (by kernel_rfl) E trivial (fun _ _=>dH) ?_
             refine d5 12 (xs:=[.tmp 87]) (f:=fun|[a]=>Instr.extract a 1|_=>stuck "") E (fun _=>rfl) (kX E) (by kernel_rfl) E trivial (fun _ _=>dJ) ?_
             refine d5 13 (xs:=[.tmp 87]) (f:=fun|[a]=>Instr.extract a 2|_=>stuck "") E (fun _=>rfl) (kX E) (by kernel_rfl) E trivial (fun _ _=>dK) ?_
             have rB2:Rp w97 (bh t.node) csB:=rB
             have kZ:bQ g12 52 zC w97:=(kz96.ext x97)
             have nO:=ki tok kZ (Rp.x rB2)
             obtain⟨w15,s15,q15,k15⟩:=kZ.stS (P:=Tryz.prog) (t:=52) (m:=csB) (by rw[rB2.len,bF];rfl) (by rw[rB2.len,bF];kernel_rfl) oB
             have m15:Mv (fun k=>w97.heap.size≤k∨k=g12) w97 w15:=Mv.of_grown q15 fun k hk _=>.inr (Option.some.inj hk).symm
             have e15:aH w65 w15:=aH.of_new e97 q15 (by omega)
             refine aO 15 (by kernel_rfl) E (ay E E s15 (ao trivial ?_))
             refine aO 16 (by kernel_rfl) E (ac E E (ao trivial ?_))
             refine aO 17 (by kernel_rfl) E (ac E E (ao trivial ?_))
             exact hk _ _ ⟨(g12,mv,csB),⟨rfl,rfl,rfl,rfl,rfl,rfl,trivial⟩,e15,k15,oB,(nO.mv (Y:=fun _=>False) m15 fun k hk=>hk.elim).rp,cd.nil_any mB⟩
           ·obtain⟨g12,wA,hrA,lA,xA,k12⟩:=bA (w:=w88)
            have eA2:aH w65 wA:=e88.trans xA
            have slA:=e88.size
            have sxA:=xA.size
            refine aS E hrA (ao trivial ?_)
            have kn14:¬v88.ownBlock=some g12:=fun h=>by have:=(o88.lt g12 h).2;omega
            obtain⟨v92,w92,hr92,o92,gr92⟩:=(o88.ext xA).app (P:=Tryz.prog) (t:=25) (ty:=25) (m:=es.drop iN) LD gf rfl (by omega) (by omega) (sl1.ext eA2) (cI al1.rp) ((al1.ext eA2).weak fun k hk=>by
             rcases hk with hk|hk
             ·exact .inl hk
             ·exact .inl (by have:=((o88.ext xA).lt k hk).1;show w65.heap.size≤k;omega)) bG (by have h1:(es.drop iN).length≤es.length:=(List.drop_sublist _ _).length_le;show(0+_)*176≤_;omega) (by have:=eA2.size;omega)
            have sz92:=gr92.grown.size
            have e92:aH w65 w92:=aH.of_grew eA2 gr92 fun k hk=>by have:=((o88.ext xA).lt k hk).1;omega
            refine aO 4 (by kernel_rfl) E (aT E E hr92 (ao trivial ?_))
            have kz92:=(Mv.of_grown (X:=fun k=>v88.ownBlock=some k) gr92.grown fun k hk _=>hk).blk k12 fun h=>kn14 h
            have kn92:¬v92.ownBlock=some g12:=fun h=>(by rcases gr92.own with h5|h5;exact kn14 (h5▸h);(have:=k12.lt;have:=h5 _ h;omega))
            obtain⟨v96,w96,hr96,o96,gr96⟩:=o92.app (P:=Tryz.prog) (t:=25) (ty:=25) (m:=es.take iN) LD gf rfl (by omega) (by omega) (sl2.ext e92) (cI al2.rp) ((al2.ext e92).weak fun k hk=>by
             rcases hk with hk|hk
             ·exact .inl hk
             ·exact .inl (by have:=(o92.lt k hk).1;show w65.heap.size≤k;omega)) bG (by have h1:(es.take iN).length≤es.length:=(List.take_sublist _ _).length_le;have h2:(es.drop iN).length≤es.length:=(List.drop_sublist _ _).length_le;show((es.drop iN).length+_)*176≤_;omega) (by have:=e92.size;omega)
            have sz96:=gr96.grown.size
            have e96:aH w65 w96:=aH.of_grew e92 gr96 fun k hk=>by have:=(o92.lt k hk).1;omega
            refine aO 8 (by kernel_rfl) E (aT E E hr96 (ao trivial ?_))
            have kz96:=(Mv.of_grown (X:=fun k=>v92.ownBlock=some k) gr96.grown fun k hk _=>hk).blk kz92 fun h=>kn92 h
            have kn96:¬v96.ownBlock=some g12:=fun h=>(by rcases gr96.own with h5|h5;exact kn92 (h5▸h);(have:=kz92.lt;have:=h5 _ h;omega))
            have d96:cd jR (es.drop iN++es.take iN) v96 w96:=by have h1:=(o96.rpx (Y:=fun _=>False) bG (by omega) (fun _ h=>h.elim) (fun _ _ h=>h)).rp;rw[List.nil_append] at h1;exact h1
            refine aO 9 (by kernel_rfl) E (an gi E E (gj d96 hrs (ho.ext (eWS.trans e96)) hrl) ?_)
            rintro v97 w97 ⟨x97,hBQ⟩
            have e97:aH w65 w97:=e96.trans x97
            unfold rI at hBQ
            rw[hrot] at hBQ
            obtain⟨csB,mv,rfl,oB,rB,mB⟩:=hBQ
            refine ao trivial ?_
            refine cF 10 E E (by kernel_rfl) E trivial ?_
            refine d5 11 (xs:=[.tmp 87]) (f:=fun|[a]=>Instr.extract a 0|_=>stuck "") E (fun _=>rfl) (kX E) (by kernel_rfl) E trivial (fun _ _=>dH) ?_
            refine d5 12 (xs:=[.tmp 87]) (f:=fun|[a]=>Instr.extract a 1|_=>stuck "") E (fun _=>rfl) (kX E) (by kernel_rfl) E trivial (fun _ _=>dJ) ?_
            refine d5 13 (xs:=[.tmp 87]) (f:=fun|[a]=>Instr.extract a 2|_=>stuck "") E (fun _=>rfl) (kX E) (by kernel_rfl) E trivial (fun _ _=>dK) ?_
            have rB2:Rp w97 (bh t.node) csB:=rB
            have kZ:bQ g12 52 zC w97:=(kz96.ext x97)
            have nO:=ki tok kZ (Rp.x rB2)
            obtain⟨w15,s15,q15,k15⟩:=kZ.stS (P:=Tryz.prog) (t:=52) (m:=csB) (by rw[rB2.len,bF];rfl) (by rw[rB2.len,bF];kernel_rfl) oB
            have m15:Mv (fun k=>w97.heap.size≤k∨k=g12) w97 w15:=Mv.of_grown q15 fun k hk _=>.inr (Option.some.inj hk).symm
            have e15:aH w65 w15:=aH.of_new e97 q15 (by omega)
            refine aO 15 (by kernel_rfl) E (ay E E s15 (ao trivial ?_))
            refine aO 16 (by kernel_rfl) E (ac E E (ao trivial ?_))
            refine aO 17 (by kernel_rfl) E (ac E E (ao trivial ?_))
            exact hk _ _ ⟨(g12,mv,csB),⟨rfl,rfl,rfl,rfl,rfl,rfl,trivial⟩,e15,k15,oB,(nO.mv (Y:=fun _=>False) m15 fun k hk=>hk.elim).rp,cd.nil_any mB⟩
          ·obtain⟨g12,wA,hrA,lA,xA,k12⟩:=bA (w:=w65.drew)
           have eA2:aH w65 wA:=eD.trans xA
           have slA:=eD.size
           have sxA:=xA.size
           refine aS E hrA (ao trivial ?_)
           obtain⟨v88,w88,hr88,x88,o88,ob88⟩:=nq (P:=Tryz.prog) (w:=wA) (f:=jR) (X:=fun k=>w65.heap.size≤k) LD lV
           have e88:aH w65 w88:=eA2.trans x88
           have s88:=eA2.size
           have sx88:=x88.size
           refine aO 0 (by kernel_rfl) E (aF (vs:=[]) E E hr88 (ao trivial ?_))
           have kn88:¬v88.ownBlock=some g12:=fun h=>by rw[ob88] at h;have:=Option.some.inj h;have:=k12.lt;omega
           obtain⟨v92,w92,hr92,o92,gr92⟩:=o88.app (P:=Tryz.prog) (t:=25) (ty:=25) (m:=es.drop iN) LD gf rfl (by omega) (by omega) (sl1.ext e88) (cI al1.rp) ((al1.ext e88).weak fun k hk=>by
            rcases hk with hk|hk
            ·exact .inl hk
            ·exact .inl (by have:=(o88.lt k hk).1;show w65.heap.size≤k;omega)) bG (by have h1:(es.drop iN).length≤es.length:=(List.drop_sublist _ _).length_le;show(0+_)*176≤_;omega) (by have:=e88.size;omega)
           have sz92:=gr92.grown.size
           have e92:aH w65 w92:=aH.of_grew e88 gr92 fun k hk=>by have:=(o88.lt k hk).1;omega
           refine aO 4 (by kernel_rfl) E (aT E E hr92 (ao trivial ?_))
           have kz92:=(Mv.of_grown (X:=fun k=>v88.ownBlock=some k) gr92.grown fun k hk _=>hk).blk (k12.ext x88) fun h=>kn88 h
           have kn92:¬v92.ownBlock=some g12:=fun h=>(by rcases gr92.own with h5|h5;exact kn88 (h5▸h);(have:=(k12.ext x88).lt;have:=h5 _ h;omega))
           obtain⟨v96,w96,hr96,o96,gr96⟩:=o92.app (P:=Tryz.prog) (t:=25) (ty:=25) (m:=es.take iN) LD gf rfl (by omega) (by omega) (sl2.ext e92) (cI al2.rp) ((al2.ext e92).weak fun k hk=>by
            rcases hk with hk|hk
            ·exact .inl hk
            ·exact .inl (by have:=(o92.lt k hk).1;show w65.heap.size≤k;omega)) bG (by have h1:(es.take iN).length≤es.length:=(List.take_sublist _ _).length_le;have h2:(es.drop iN).length≤es.length:=(List.drop_sublist _ _).length_le;show((es.drop iN).length+_)*176≤_;omega) (by have:=e92.size;omega)
           have sz96:=gr96.grown.size
           have e96:aH w65 w96:=aH.of_grew e92 gr96 fun k hk=>by have:=(o92.lt k hk).1;omega
           refine aO 8 (by kernel_rfl) E (aT E E hr96 (ao trivial ?_))
           have kz96:=(Mv.of_grown (X:=fun k=>v92.ownBlock=some k) gr96.grown fun k hk _=>hk).blk kz92 fun h=>kn92 h
           have kn96:¬v96.ownBlock=some g12:=fun h=>(by rcases gr96.own with h5|h5;exact kn92 (h5▸h);(have:=kz92.lt;have:=h5 _ h;omega))
           have d96:cd jR (es.drop iN++es.take iN) v96 w96:=by have h1:=(o96.rpx (Y:=fun _=>False) bG (by omega) (fun _ h=>h.elim) (fun _ _ h=>h)).rp;rw[List.nil_append] at h1;exact h1
           refine aO 9 (by kernel_rfl) E (an gi E E (gj d96 hrs (ho.ext (eWS.trans e96)) hrl) ?_)
           rintro v97 w97 ⟨x97,hBQ⟩
           have e97:aH w65 w97:=e96.trans x97
           unfold rI at hBQ
           rw[hrot] at hBQ
           obtain⟨csB,mv,rfl,oB,rB,mB⟩:=hBQ
           refine ao trivial ?_
           refine cF 10 E E (by kernel_rfl) E trivial ?_
           refine d5 11 (xs:=[.tmp 87]) (f:=fun|[a]=>Instr.extract a 0|_=>stuck "") E (fun _=>rfl) (kX E) (by kernel_rfl) E trivial (fun _ _=>dH) ?_
           refine d5 12 (xs:=[.tmp 87]) (f:=fun|[a]=>Instr.extract a 1|_=>stuck "") E (fun _=>rfl) (kX E) (by kernel_rfl) E trivial (fun _ _=>dJ) ?_
           refine d5 13 (xs:=[.tmp 87]) (f:=fun|[a]=>Instr.extract a 2|_=>stuck "") E (fun _=>rfl) (kX E) (by kernel_rfl) E trivial (fun _ _=>dK) ?_
           have rB2:Rp w97 (bh t.node) csB:=rB
           have kZ:bQ g12 52 zC w97:=(kz96.ext x97)
           have nO:=ki tok kZ (Rp.x rB2)
           obtain⟨w15,s15,q15,k15⟩:=kZ.stS (P:=Tryz.prog) (t:=52) (m:=csB) (by rw[rB2.len,bF];rfl) (by rw[rB2.len,bF];kernel_rfl) oB
           have m15:Mv (fun k=>w97.heap.size≤k∨k=g12) w97 w15:=Mv.of_grown q15 fun k hk _=>.inr (Option.some.inj hk).symm
           have e15:aH w65 w15:=aH.of_new e97 q15 (by omega)
           refine aO 15 (by kernel_rfl) E (ay E E s15 (ao trivial ?_))
           refine aO 16 (by kernel_rfl) E (ac E E (ao trivial ?_))
           refine aO 17 (by kernel_rfl) E (ac E E (ao trivial ?_))
           exact hk _ _ ⟨(g12,mv,csB),⟨rfl,rfl,rfl,rfl,rfl,rfl,trivial⟩,e15,k15,oB,(nO.mv (Y:=fun _=>False) m15 fun k hk=>hk.elim).rp,cd.nil_any mB⟩
         rintro⟨g12,mv,csB⟩ wM ⟨xM,k12,oB,rB,mB⟩
         refine fx (by kernel_rfl) ?_
         refine ab (af (af ?_))
         obtain⟨zl,zx,zy,zk,zp,rfl,b1,b2,b3,b4,b5⟩:=dc rB
         refine aa (ae E E (al E E E (d7 (fun h=>h E) dn) (ae E E (ak E (ae E E (ak E ?_))))))
         refine aV E E (aY LO mB) ?_
         refine ak E (al E E E (d7 (fun h=>h E) dn) (aI E E E (ae E E (ak E ?_))))
         refine aj E E (k12.ld Lk E (by kernel_rfl)) ?_
         refine ak E (aj E E ((k3_3.ext (((x31.trans eA).trans x65).trans xM)).ld Lk E (by kernel_rfl)) (ak E (an A0 E E ((A2 _ (Nat.le_refl _) b1 b2 b3 b4 b5 (a1.ext (((((x3_3.trans x31).trans eA).trans x65).trans xM))) (a2.ext (((((x3_3.trans x31).trans eA).trans x65).trans xM))) (a3.ext (((((x3_3.trans x31).trans eA).trans x65).trans xM))) (a4.ext (((((x3_3.trans x31).trans eA).trans x65).trans xM))) (a5.ext (((((x3_3.trans x31).trans eA).trans x65).trans xM))))) ?_)))
         rintro v111 w111 ⟨x111,rfl⟩
         refine ak E (bw E E bB (aI E E E (ag (ab (cN E (aC (ab (af (af (aa (ae E E (aV E E (aY LD (oD.ext ((x65.trans xM).trans x111))) ?_))))))))))))
         refine al E E E (bo) (ag (ab ?_))
         refine bu E (fun h116=>?_) (fun h116=>?_)
         ·refine af (aa (ac E E (ag (ab (aw (az (au E E ?_)))))))
          exact⟨_,rfl,rfl,(((eL.trans x65).trans xM).trans x111)⟩
         ·refine aC (ab (af ?_))
          have eW2:aH w w111:=(((eL.trans x65).trans xM).trans x111)
          have oS2:cd jR es rv w111:=oS.ext (xM.trans x111)
          have heJ:bg t []=es.take jN++es[jN]::es.drop (jN+1):=by rw[←hes,←List.drop_eq_getElem_cons hjN,List.take_append_drop]
          have memD:∀e,e∈es.take jN++es.drop (jN+1)→e∈es:=fun e he=>(List.mem_append.1 he).elim List.mem_of_mem_take List.mem_of_mem_drop
          obtain⟨nn,hdel⟩:=IJ tf hvm heJ fun e he=>hval e (memD e he)
          have hds:∀u∈es.take jN++es.drop (jN+1),Jj u:=fun u hu=>(hsh u (hes▸memD u hu)).1
          have hdl:(es.take jN++es.drop (jN+1)).length≤1048576:=by simp only[List.length_append,List.length_drop,List.length_take];omega
          have eD2:aH w111 w111.drew:=(aH.refl _).drew
          have sD2:=eD2.size
          obtain⟨v121,p121,d121⟩:=Hv (P:=Tryz.prog) LD (by kernel_rfl) bG (by omega) oS2 (hi:=jN) (by omega)
          obtain⟨v126,p126,d126⟩:=yg (P:=Tryz.prog) LD (by kernel_rfl) bG (by omega) oS2 (lo:=jN+1) (by omega)
          obtain⟨xs3,sl3,al3⟩:=bZ.toSl (sz:=10) (l:=(es.take jN).map jR) (Rp.x d121) (fun d hd=>by obtain⟨a,_,rfl⟩:=List.mem_map.1 hd;exact bG a)
          obtain⟨xs4,sl4,al4⟩:=bZ.toSl (sz:=10) (l:=(es.drop (jN+1)).map jR) (Rp.x d126) (fun d hd=>by obtain⟨a,_,rfl⟩:=List.mem_map.1 hd;exact bG a)
          refine fw (fun _=>True) 17 E (by kernel_rfl) ?_
          refine cF 1 E E (by kernel_rfl) E trivial ?_
          refine cF 2 E E (by kernel_rfl) E trivial ?_
          refine pj 3 E E E E E (by kernel_rfl) E trivial (fun w1 _=>p121 w1) ?_
          refine cF 5 E E (by kernel_rfl) E trivial ?_
          refine cF 6 E E (by kernel_rfl) E trivial ?_
          refine F1 7 (r:=I ((jN+1:Nat):Int)) E E E (by kernel_rfl) E trivial (fun w1 _=>by have e:((jN+1:Nat):Int)=(jN:Int)+1:=(by omega);rw[e];exact aR (by omega) (by omega)) ?_
          refine pj 8 E E E E E (by kernel_rfl) E trivial (fun w1 _=>p126 w1) ?_
          obtain⟨v118,w118,hr118,x118,o118,ob118⟩:=nq (P:=Tryz.prog) (w:=w111.drew) (f:=jR) (X:=fun k=>w111.heap.size≤k) LD lV
          have sx118:=x118.size
          have e118:aH w111 w118:=eD2.trans x118
          refine aO 0 (by kernel_rfl) E (aF (vs:=[]) E E hr118 (ao trivial ?_))
          obtain⟨v122,w122,hr122,o122,gr122⟩:=o118.app (P:=Tryz.prog) (t:=25) (ty:=25) (m:=es.take jN) LD gf rfl (by omega) (by omega) (sl3.ext e118) (cI al3.rp) ((al3.ext e118).weak fun k hk=>by
           rcases hk with hk|hk
           ·exact .inl hk
           ·exact .inl (by have:=(o118.lt k hk).1;show w111.heap.size≤k;omega)) bG (by have h1:(es.take jN).length≤es.length:=(List.take_sublist _ _).length_le;show(0+_)*176≤_;omega) (by have:=e118.size;omega)
          have sz122:=gr122.grown.size
          have e122:aH w111 w122:=aH.of_grew e118 gr122 fun k hk=>by have:=(o118.lt k hk).1;omega
          refine aO 4 (by kernel_rfl) E (aT E E hr122 (ao trivial ?_))
          obtain⟨v127,w127,hr127,o127,gr127⟩:=o122.app (P:=Tryz.prog) (t:=25) (ty:=25) (m:=es.drop (jN+1)) LD gf rfl (by omega) (by omega) (sl4.ext e122) (cI al4.rp) ((al4.ext e122).weak fun k hk=>by
           rcases hk with hk|hk
           ·exact .inl hk
           ·exact .inl (by have:=(o122.lt k hk).1;show w111.heap.size≤k;omega)) bG (by have h1:(es.drop (jN+1)).length≤es.length:=(List.drop_sublist _ _).length_le;have h2:(es.take jN).length≤es.length:=(List.take_sublist _ _).length_le;show((es.take jN).length+_)*176≤_;omega) (by have:=e122.size;omega)
          have sz127:=gr127.grown.size
          have e127:aH w111 w127:=aH.of_grew e122 gr127 fun k hk=>by have:=(o122.lt k hk).1;omega
          refine aO 9 (by kernel_rfl) E (aT E E hr127 (ao trivial ?_))
          have d127:cd jR (es.take jN++es.drop (jN+1)) v127 w127:=by have h1:=(o127.rpx (Y:=fun _=>False) bG (by omega) (fun _ h=>h.elim) (fun _ _ h=>h)).rp;rw[List.nil_append] at h1;exact h1
          refine aO 10 (by kernel_rfl) E (an gi E E (gj d127 hds (ho.ext (eW2.trans e127)) hdl) ?_)
          rintro v128 w128 ⟨x128,hBQ2⟩
          have e128:aH w111 w128:=e127.trans x128
          unfold rI at hBQ2
          rw[hdel] at hBQ2
          obtain⟨csC,mv2,rfl,oC,rC,mC⟩:=hBQ2
          refine ao trivial ?_
          refine cF 11 E E (by kernel_rfl) E trivial ?_
          refine d5 12 (xs:=[.tmp 117]) (f:=fun|[a]=>Instr.extract a 0|_=>stuck "") E (fun _=>rfl) (kX E) (by kernel_rfl) E trivial (fun _ _=>dH) ?_
          refine d5 13 (xs:=[.tmp 117]) (f:=fun|[a]=>Instr.extract a 1|_=>stuck "") E (fun _=>rfl) (kX E) (by kernel_rfl) E trivial (fun _ _=>dJ) ?_
          refine d5 14 (xs:=[.tmp 117]) (f:=fun|[a]=>Instr.extract a 2|_=>stuck "") E (fun _=>rfl) (kX E) (by kernel_rfl) E trivial (fun _ _=>dK) ?_
          refine aO 15 (by kernel_rfl) E (ac E E (ao trivial ?_))
          refine aO 16 (by kernel_rfl) E (ac E E (ao trivial ?_))
          refine fx (by kernel_rfl) ?_
          refine ab (af ?_)
          obtain⟨x45,hx45⟩:∃e,e=es[jN]'hjN:=⟨_,rfl⟩
          have mC2:cd oT [x45.path] mv2 w128:=by rw[hx45];exact mC
          obtain⟨a141,c141,p141,q141,h141⟩:=cb (P:=Tryz.prog) (sz:=1) Tryz.underlying59 (by kernel_rfl) nw (by omega) mC2 (i:=0) (by simp) .i64
          obtain⟨v142,rfl,d142⟩:=Fe h141
          have d142:cd c9 x45.path v142 w128:=d142
          refine bP 18 [149] (by kernel_rfl) (by kernel_rfl) ?_
          refine ax E E (aZ E E E (fun w _=>bo) (ax E E (bI E E (ax E E (bI E E ?_)))))
          refine KC (vs:=[mv2]) E E (fun w' hw=>aY LO (mC2.ext hw)) ?_
          refine bI E E (aZ E E E (fun w _=>bo) (t9 E E E (ax E E (bI E E (ax E E (bI E E ?_))))))
          refine aD E E E (fun w' _=>p141 w') ?_
          refine bI E E ?_
          refine aQ E E (fun w' hw=>ai Lu E ((q141.ext hw).at (j:=0) E)) ?_
          refine bI E E (ax E E (bI E E (ax E E (bI E E ?_))))
          obtain⟨a145,c145,p145,q145,h145⟩:=cb (P:=Tryz.prog) (sz:=10) LD (by kernel_rfl) bG (by omega) oD (i:=jN) ((by omega)) .i64
          rw[←hx45] at h145
          obtain⟨x145_0,x145_1,x145_2,x145_3,x145_4,x145_5,rfl,f145_0,f145_1,f145_2,f145_3,f145_4,f145_5⟩:=nh h145
          refine aD E E E (fun w _=>p145 w) (bI E E (aX E E (fun w hw=>gt (o:=0) Lr E (by kernel_rfl) E) ?_))
          refine bI E E (aQ E E (fun w hw=>ai Lu E (hw.cell_some ((((x65.trans xM).trans x111).trans e128).cell_some (q145.at (j:=0) E)))) ?_)
          refine bI rfl rfl (ce (S:=Is (B true)) Co (bO.is _) rfl (fun w hw=>by rintro _ rfl _ rfl;exact bN.mono (Cp (l:=x45.path) (m:=x45.path) (d142.ext hw) ((f145_0.ext (((x65.trans xM).trans x111).trans e128)).ext hw)) fun v w' h=>⟨h.1,by rw[h.2,decide_eq_true rfl];rfl⟩) ?_)
          refine t9 E E E (cn ?_)
          intro wg22 xg22
          rintro _ rfl
          refine ac E E (ag (ab (aw (au E E ?_))))
          exact⟨_,rfl,rfl,(((((eL.trans x65).trans xM).trans x111).trans e128).trans xg22)⟩
end Go.Rl
namespace Go.Rl
open Go.RowKit Go.Proofs
end Go.Rl

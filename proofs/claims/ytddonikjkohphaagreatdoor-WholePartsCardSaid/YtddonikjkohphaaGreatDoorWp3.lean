/- Part 3 of a proof: plain facts and walks of functions, merged by a program. Conditions: each lemma names its own. -/
import Derived.Test.YtddonikjkohphaaGreatDoorWp2
namespace Go.Rl
open Go.RowKit Go.Proofs
def qr (a:gR):Rat:=rq a.1 a.2.1 a.2.2
def qn (a:gR):Int:=fC a.1 (val a.2.1)
def qd (a:gR):Nat:=val (ud a.2.2)
def Lq (k:Nat) (a:gR):Prop:=a.2.1.length≤k∧a.2.2.length≤k
def RV (a:gR):dn:=aU a.1 a.2.1 a.2.2
theorem wo (a:gR):qr a=mkRat (qn a) (qd a):=rfl
theorem ii (a:gR):0<qd a:=tD _
theorem EG {m:List UInt32} {k:Nat} (h:m.length≤k) (h0:0<k):(ud m).length≤k:=by
 unfold ud
 split
 ·show 1≤k;omega
 ·exact h
theorem vt {w:World} {s:Bool} {n d:List UInt32} {x y:Value} (hn:bH n x w) (hd:bH d y w) (hnl:n.length≤274877906944) (hdl:d.length≤274877906944) (hd0:0<val d):
 Calls Tryz.prog 248 #[B s,x,y] w (cA fun r w'=>aH w w'∧QV (mkRat (fC s (val n)) (val d)) r w'):=by
 have h:=vX (s:=s) hn hd hnl hdl hd0
 obtain⟨h1,h2,h3⟩:=HD s (n:=val n) hd0
 rw[h1,h2,h3] at h
 exact h
theorem nJ {w:World} {a:gR} {v:Value} (hv:RV a v w) (h:Lq 137438953472 a):
 Calls Tryz.prog 163 #[v] w (cA fun r w'=>aH w w'∧QV (qr a) r w'):=by
 have h:=um hv h.1 h.2
 obtain⟨h1,h2,h3⟩:=HE a.1 a.2.1 a.2.2
 rw[h1,h2,h3] at h
 exact h
theorem H9 {w:World} {x:Int} {m:List UInt32} {v u:Value} (hv:IZ x v w) (hu:eW false m u w) (hl:(lb x.natAbs).length≤274877906944) (hm:m.length≤274877906944):
 Calls Tryz.prog 294 #[v,u] w (cA fun r w'=>aH w w'∧IZ (x*(val m:Int)) r w'):=by
 have h:=FY hv hu hl hm
 rw[bk,gE] at h
 exact h
theorem Ln {w:World} {x y:Int} {v u:Value} (hv:IZ x v w) (hu:IZ y u w) (hl:(lb x.natAbs).length≤274877906943) (hm:(lb y.natAbs).length≤274877906943):
 Calls Tryz.prog 250 #[v,u] w (cA fun r w'=>aH w w'∧IZ (x+y) r w'):=by
 have h:=FZ hv hu hl hm
 rw[bk,bk,gE,gE] at h
 exact h
theorem JO {w:World} {x:Int} {v:Value} (hv:IZ x v w) (hl:(lb x.natAbs).length≤549755813888):
 Calls Tryz.prog 233 #[v] w (cA fun r w'=>aH w w'∧Is (I (kO x)) r w'):=by
 have h:=oK hv hl
 rw[bk,gE] at h
 exact h
theorem CR (a:gR):(qn a).natAbs=val a.2.1:=kz _ _
theorem CS {a:gR} {k:Nat} (h:a.2.1.length≤k):(lb (qn a).natAbs).length≤k:=by rw[CR];exact tQ h
theorem lT {a b:gR} {k:Nat} (ha:Lq k a) (hb:Lq k b) (h0:0<k):(lb (qn a*(qd b:Int)).natAbs).length≤k+k:=by
 rw[Int.natAbs_mul,Int.natAbs_natCast,CR]
 exact li (tQ ha.1) (tQ (EG hb.2 h0))
theorem zL {i:Int} {d:Nat} (h:0<d):gx (mkRat i d)=kO i:=JB h
theorem F1 {a b:gR}:zK (qn a*(qd b:Int)) (qn b*(qd a:Int))=f6 (qr a) (qr b):=by
 have h1:qr a-qr b=mkRat (qn a*(qd b:Int)-qn b*(qd a:Int)) (qd a*qd b):=by
  rw[Rat.sub_eq_add_neg,wo,wo,Rat.neg_mkRat,Rat.mkRat_add_mkRat _ _ (by have:=ii a;omega) (by have:=ii b;omega),Int.neg_mul,Int.sub_eq_add_neg]
 rw[←AU,h1,zL (Nat.mul_pos (ii a) (ii b))]
 unfold kO zK
 split<;>split<;>(try split)<;>(try split)<;>omega
theorem EH (a b:gR):qr a+qr b=mkRat (qn a*(qd b:Int)+qn b*(qd a:Int)) (qd a*qd b):=by
 rw[wo,wo,Rat.mkRat_add_mkRat _ _ (by have:=ii a;omega) (by have:=ii b;omega)]
theorem oN {w:World} {a:gR} {v:Value} (hv:RV a v w) (hl:a.2.1.length≤549755813888):
 Calls Tryz.prog 234 #[v] w (cA fun r w'=>aH w w'∧IZ (qn a) r w'):=by
 obtain⟨x,y,rfl,hx,hy⟩:=hv
 refine enter (vs:=[.agg #[B a.1,x,y]]) Tryz.func234 J J J (bc (cj J J fun g1 w1 l1 x1 k1=>ce dX J fun g2 w2 l2 x2 k2=>(dR (af J J (dj) (ak J J (ai MH J (x2.cell_some (k1.cell (i:=0) J))) (af J J (ed) (ak J J (ai MD J (x2.cell_some (k1.cell (i:=1) J))) (aq mE J J (mF (hx.ext (x1.trans x2)) hl) ?_))))))))
 rintro v7 w7 ⟨x7,⟨x7_0,rfl,f7_0⟩⟩
 refine bD J J (k2.ext x7) J bE (am.cons J (am.cons f7_0.one am.nil)) fun w1_5 q1_5 k1_5=>?_
 have x1_5:=aH.of_new ((x2.trans x7)) q1_5 l2
 have m1_5:=Kq.of1 (p:=[0,3]) (k2.ext x7) (ac rfl (ac rfl aT)) q1_5
 refine aI (aD (bp J (.cell J (k1_5.ld MR J bE) .nil) ?_))
 exact⟨_,J,(x1.trans x1_5),(eW.mk (f7_0.kq m1_5))⟩
theorem uz {w:World} {a b:gR} {v u:Value} (hv:RV a v w) (hu:RV b u w) (ha:Lq 34359738368 a) (hb:Lq 34359738368 b):
 Calls Tryz.prog 219 #[v,u] w (cA fun r w'=>aH w w'∧gQ (IZ (qn a*(qd b:Int))) (IZ (qn b*(qd a:Int))) r w'):=by
 obtain⟨x,y,rfl,hx,hy⟩:=hv
 obtain⟨p,q,rfl,hp,hq⟩:=hu
 have hna:=CS ha.1
 have hnb:=CS hb.1
 have hda:=EG ha.2 (by omega)
 have hdb:=EG hb.2 (by omega)
 have ha1:=ha.1
 have ha2:=ha.2
 have hb1:=hb.1
 have hb2:=hb.2
 refine enter (vs:=[.agg #[B a.1,x,y],.agg #[B b.1,p,q]]) Tryz.func219 J J J (bc (cj J J fun g2 w2 l2 x2 k2=>cj J J fun g3 w3 l3 x3 k3=>ce dX J fun g4 w4 l4 x4 k4=>ce dX J fun g5 w5 l5 x5 k5=>(aI (aj (bj 5 [2,3,4,5,6,11] (by kernel_rfl) (by kernel_rfl) ?_)))))
 have e1:=((x2.trans x3).trans x4).trans x5
 refine ap J J (fun w hw=>((k2.ext ((x3.trans x4).trans x5)).ext hw).ld MC J ag) (bZ (S:=bH (ud a.2.2)) fN (bH.stable _) J (fun w hw=>by rintro _ rfl;exact fP ((aU.mk (hx.ext e1) (hy.ext e1)).ext hw) (by omega)) (ap J J (fun w hw=>((k3.ext (x4.trans x5)).ext hw).ld MC J ag) (es (S:=bH (ud b.2.2)) fN (bH.stable _) J J (fun w hw=>fP ((aU.mk (hp.ext e1) (hq.ext e1)).ext hw) (by omega)) (gA J J (bA ?_)))))
 rintro wg1 xg1 _ rfl _ rfl _ rfl _ rfl vg6 b6 vg11 b11
 refine aa J J (aI (aj (bj 10 [4,5,16,21] (by kernel_rfl) (by kernel_rfl) ?_)))
 have e2:=e1.trans xg1
 refine ap J J (fun w hw=>((k2.ext (((x3.trans x4).trans x5).trans xg1)).ext hw).ld MC J ag) (bZ (S:=IZ (qn a)) oJ (IZ.stable _) J (fun w hw=>by rintro _ rfl;exact oN ((aU.mk (hx.ext e2) (hy.ext e2)).ext hw) (by omega)) (ax J J (et (S:=Is (.agg #[B false,vg11])) (bi.is _) J (fun w _=>by rintro _ rfl;obtain⟨_,_,_,rfl⟩:=b11.isS;exact⟨_,w,run_build _ _ _ _ (by kernel_rfl),aH.refl _,J⟩) (bZ (S:=IZ (qn a*(qd b:Int))) yn (IZ.stable _) J (fun w hw=>by rintro v13 h13 _ rfl;exact H9 h13 ((eW.mk b11).ext hw) (by omega) (by omega)) (ap J J (fun w hw=>((k3.ext ((x4.trans x5).trans xg1)).ext hw).ld MC J ag) (es (S:=IZ (qn b)) oJ (IZ.stable _) J J (fun w hw=>oN ((aU.mk (hp.ext e2) (hq.ext e2)).ext hw) (by omega)) (ax J J (et (S:=Is (.agg #[B false,vg6])) (bi.is _) J (fun w _=>by rintro _ rfl;obtain⟨_,_,_,rfl⟩:=b6.isS;exact⟨_,w,run_build _ _ _ _ (by kernel_rfl),aH.refl _,J⟩) (bZ (S:=IZ (qn b*(qd a:Int))) yn (IZ.stable _) J (fun w hw=>by rintro v18 h18 _ rfl;exact H9 h18 ((eW.mk b6).ext hw) (by omega) (by omega)) (bA ?_))))))))))
 rintro wg2 xg2 _ rfl _ rfl _ ⟨x16_0,rfl,f16_0⟩ _ ⟨x21_0,rfl,f21_0⟩
 refine bD J J (k4.ext ((x5.trans xg1).trans xg2)) J bE (am.cons J (am.cons f16_0.one am.nil)) fun w2_10 q2_10 k2_10=>?_
 have x2_10:=aH.of_new ((((x4.trans x5).trans xg1).trans xg2)) q2_10 l4
 have m2_10:=Kq.of1 (p:=[0,3]) (k4.ext ((x5.trans xg1).trans xg2)) (ac rfl (ac rfl aT)) q2_10
 have j1_k5:=(((k5.ext xg1).ext xg2).other q2_10 fun e=>by have h1:=k4.lt;have h2:=l5;have h4:=Nc e;omega)
 refine bD J J j1_k5 J bE (am.cons J (am.cons f21_0.one am.nil)) fun w2_11 q2_11 k2_11=>?_
 have x2_11:=aH.of_new (x2_10) q2_11 (Nb (x4).size l5)
 have m2_11:=Kq.of1 (p:=[0,3]) j1_k5 (ac rfl (ac rfl aT)) q2_11
 refine aI (aD ?_)
 have j2_k2_10:=(k2_10.other q2_11 fun e=>by have h1:=k4.lt;have h2:=l5;have h4:=Nc e;omega)
 refine bp J (.cell J (j2_k2_10.ld MR J bE) (.cell J (k2_11.ld MR J bE) .nil)) ?_
 exact⟨_,J,((x2.trans x3).trans x2_11),_,_,J,(eW.mk ((f16_0.kq m2_10).kq m2_11)),(eW.mk ((f21_0.kq m2_10).kq m2_11))⟩
theorem oP {w:World} {a:gR} {v:Value} (hv:RV a v w) (hl:a.2.1.length≤549755813888):
 Calls Tryz.prog 159 #[v] w (cA fun r w'=>aH w w'∧Is (I (gx (qr a))) r w'):=by
 obtain⟨x,y,rfl,hx,hy⟩:=hv
 rw[wo,zL (ii a)]
 have hna:=CS hl
 refine enter (vs:=[.agg #[B a.1,x,y]]) Tryz.func159 J J J (bc (cj J J fun g1 w1 l1 x1 k1=>(aa J J (dR (ak J J (k1.ld MC J ag) (aq oJ J J (oN (aU.mk (hx.ext x1) (hy.ext x1)) hl) ?_))))))
 rintro v4 w4 ⟨x4,⟨x4_0,rfl,f4_0⟩⟩
 refine aq oI J J (JO (eW.mk f4_0) (by omega)) ?_
 rintro v5 w5 ⟨x5,rfl⟩
 refine aa J J (aI (aD (aF J J ?_)))
 exact⟨_,J,((x1.trans x4).trans x5),J⟩
theorem oQ (x:Rat):gx x= -1∧x<0∨gx x=0∧x=0∨gx x=1∧0<x:=by
 unfold gx
 split
 ·exact .inl ⟨J,by assumption⟩
 ·split
  ·exact .inr (.inl ⟨J,by assumption⟩)
  ·exact .inr (.inr ⟨J,by grind⟩)
theorem JP {x y:Rat} (h:x<y):f6 x y= -1:=by unfold f6;rw[if_pos h]
theorem JQ {x y:Rat} (h:y<x):f6 x y=1:=by unfold f6;rw[if_neg (by grind),if_neg (by grind)]
theorem EI {x y:Rat} (h:gx x<gx y):x<y:=by
 rcases oQ x with⟨h1,h2⟩|⟨h1,h2⟩|⟨h1,h2⟩<;>rcases oQ y with⟨h3,h4⟩|⟨h3,h4⟩|⟨h3,h4⟩<;>rw[h1,h3] at h<;>first|omega|grind
theorem yu {w:World} {a b:gR} {v u:Value} (hv:RV a v w) (hu:RV b u w) (ha:Lq 34359738368 a) (hb:Lq 34359738368 b):
 Calls Tryz.prog 142 #[v,u] w (cA fun r w'=>aH w w'∧Is (I (f6 (qr a) (qr b))) r w'):=by
 obtain⟨x,y,rfl,hx,hy⟩:=hv
 obtain⟨p,q,rfl,hp,hq⟩:=hu
 have ha1:=ha.1
 have hb1:=hb.1
 have c1:=lT ha hb (by omega)
 have c2:=lT hb ha (by omega)
 refine enter (vs:=[.agg #[B a.1,x,y],.agg #[B b.1,p,q]]) Tryz.func142 J J J (bc (cj J J fun g2 w2 l2 x2 k2=>cj J J fun g3 w3 l3 x3 k3=>(aa J J (aI (aj (aj (bj 5 [2,3,5,12] (by kernel_rfl) (by kernel_rfl) ?_)))))))
 have e1:=x2.trans x3
 refine ap J J (fun w hw=>((k2.ext x3).ext hw).ld MC J ag) (bZ (S:=Is (I (gx (qr a)))) cw (bi.is _) J (fun w hw=>by rintro _ rfl;exact oP ((aU.mk (hx.ext e1) (hy.ext e1)).ext hw) (by omega)) (ap J J (fun w hw=>(k3.ext hw).ld MC J ag) (es (S:=Is (I (gx (qr b)))) cw (bi.is _) J J (fun w hw=>oP ((aU.mk (hp.ext e1) (hq.ext e1)).ext hw) (by omega)) (gA J J (bA ?_)))))
 rintro wg1 xg1 _ rfl _ rfl _ rfl _ rfl
 refine aa J J (dR (ab J J (ab J J (ao J J J (fg) (aI (ci J (fun h15=>?_) (fun h15=>?_)))))))
 ·refine aj (bc (ab J J (ab J J (ao J J J (aX) (aI ?_)))))
  refine ci J (fun h18=>?_) (fun h18=>?_)
  ·refine bc (aa J J (aI (aD (a0 (a0 (aF J J ?_))))))
   exact⟨_,J,((x2.trans x3).trans xg1),by rw[JP (EI h18)];rfl⟩
  ·refine aA (ah (bc (aa J J (aI (aD (a0 (aF J J ?_)))))))
   exact⟨_,J,((x2.trans x3).trans xg1),by rw[JQ (EI (by omega))];rfl⟩
 ·refine aA (ah (bc (ak J J ((k2.ext (x3.trans xg1)).ld MC J ag) (ak J J ((k3.ext xg1).ld MC J ag) ?_))))
  refine aq ux J J (uz (aU.mk (hx.ext ((x2.trans x3).trans xg1)) (hy.ext ((x2.trans x3).trans xg1))) (aU.mk (hp.ext ((x2.trans x3).trans xg1)) (hq.ext ((x2.trans x3).trans xg1))) ha hb) ?_
  rintro v22 w22 ⟨x22,⟨_,_,rfl,⟨x22_a_0,rfl,f22_a_0⟩,⟨x22_b_0,rfl,f22_b_0⟩⟩⟩
  refine ab J J (aB J J cY (aB J J cZ (ce dX J fun g7 w7 l7 x7 k7=>ce dX J fun g8 w8 l8 x8 k8=>bD J J (k7.ext x8) J bE (am.cons J (am.cons f22_a_0.one am.nil)) fun w6_8 q6_8 k6_8=>?_)))
  have x6_8:=aH.of_new ((x7.trans x8)) q6_8 l7
  have j1_k8:=(k8.other q6_8 fun e=>by have h1:=k7.lt;have h2:=l8;have h4:=Nc e;omega)
  refine bD J J j1_k8 J bE (am.cons J (am.cons f22_b_0.one am.nil)) fun w6_9 q6_9 k6_9=>?_
  have x6_9:=aH.of_new (x6_8) q6_9 (Nb (x7).size l8)
  refine dR ?_
  have j2_k6_8:=(k6_8.other q6_9 fun e=>by have h1:=k7.lt;have h2:=l8;have h4:=Nc e;omega)
  refine ak J J (j2_k6_8.ld MR J bE) (ak J J (k6_9.ld MR J bE) (aq FW J J (F0 (eW.mk (f22_a_0.ext x6_9)) (eW.mk (f22_b_0.ext x6_9)) (by omega) (by omega)) ?_))
  rintro v27 w27 ⟨x27,rfl⟩
  refine aa J J (aI (aD (aF J J ?_)))
  exact⟨_,J,(((((x2.trans x3).trans xg1).trans x22).trans x6_9).trans x27),by rw[←F1];rfl⟩
theorem F2 {w:World} {a:gR} {v:Value} (hv:RV a v w) (ha:Lq 137438953472 a):
 Calls Tryz.prog 140 #[v] w (cA fun r w'=>aH w w'∧QV (-qr a) r w'):=by
 obtain⟨x,y,rfl,hx,hy⟩:=hv
 have e: -qr a=qr (!a.1,a.2.1,a.2.2):=(CC _ _ _).symm
 rw[e]
 refine enter (vs:=[.agg #[B a.1,x,y]]) Tryz.func140 J J J (bc (cj J J fun g1 w1 l1 x1 k1=>ce bv J fun g2 w2 l2 x2 k2=>(dR (af J J (dj) (ak J J (ai MH J (x2.cell_some (k1.cell (i:=0) J))) (cC J J cn (af J J (dj) (iD J J (k1.ext x2) zG J J fun w1_4 q1_4 k1_4=>?_))))))))
 have x1_4:=aH.of_new ((x1.trans x2)) q1_4 l1
 refine dR (ak J J (k1_4.ld MC J ag) (aq fO J J ((nJ (a:=(!a.1,a.2.1,a.2.2)) (aU.mk (hx.ext x1_4) (hy.ext x1_4)) ha)) ?_))
 rintro v8 w8 ⟨x8,⟨x8_0,x8_1,rfl,f8_0,f8_1⟩⟩
 have j1_k2:=((k2.other q1_4 fun e=>by have h1:=k1.lt;have h2:=l2;have h4:=Nc e;omega).ext x8)
 refine bD J J j1_k2 J ag (am.cons J (am.cons f8_0.one (am.cons f8_1.one am.nil))) fun w2_2 q2_2 k2_2=>?_
 have x2_2:=aH.of_new ((x1_4.trans x8)) q2_2 (Nb (x1).size l2)
 have m2_2:=Kq.of1 (p:=[0,3,3]) j1_k2 (ac rfl (ac rfl (ac rfl aT))) q2_2
 refine aI (aD (bp J (.cell J (k2_2.ld MC J ag) .nil) ?_))
 exact⟨_,J,x2_2,(aU.mk (f8_0.kq m2_2) (f8_1.kq m2_2))⟩
theorem yv {w:World} {a b:gR} {v u:Value} (hv:RV a v w) (hu:RV b u w) (ha:Lq 34359738368 a) (hb:Lq 34359738368 b):
 Calls Tryz.prog 165 #[v,u] w (cA fun r w'=>aH w w'∧QV (qr a+qr b) r w'):=by
 obtain⟨x,y,rfl,hx,hy⟩:=hv
 obtain⟨p,q,rfl,hp,hq⟩:=hu
 have ha2:=ha.2
 have hb2:=hb.2
 have hda:=EG ha.2 (by omega)
 have hdb:=EG hb.2 (by omega)
 have c1:=lT ha hb (by omega)
 have c2:=lT hb ha (by omega)
 have c3:(lb (qn a*(qd b:Int)+qn b*(qd a:Int)).natAbs).length≤68719476736+68719476736+1:=by
  have h1:(qn a*(qd b:Int)+qn b*(qd a:Int)).natAbs≤(qn a*(qd b:Int)).natAbs+(qn b*(qd a:Int)).natAbs:=Int.natAbs_add_le _ _
  have:=yt h1 (zJ c1 c2)
  omega
 have c4:(lb (qd a*qd b)).length≤34359738368+34359738368:=li (tQ hda) (tQ hdb)
 have hp0:=Nat.mul_pos (ii a) (ii b)
 refine enter (vs:=[.agg #[B a.1,x,y],.agg #[B b.1,p,q]]) Tryz.func165 J J J (bc (cj J J fun g2 w2 l2 x2 k2=>cj J J fun g3 w3 l3 x3 k3=>ce bv J fun g4 w4 l4 x4 k4=>(dR (ak J J ((k2.ext (x3.trans x4)).ld MC J ag) (ak J J ((k3.ext x4).ld MC J ag) ?_)))))
 have e2:=(x2.trans x3).trans x4
 refine aq ux J J (uz (aU.mk (hx.ext e2) (hy.ext e2)) (aU.mk (hp.ext e2) (hq.ext e2)) ha hb) ?_
 rintro v11 w11 ⟨x11,⟨_,_,rfl,⟨x11_a_0,rfl,f11_a_0⟩,⟨x11_b_0,rfl,f11_b_0⟩⟩⟩
 refine ab J J (aB J J cY (aB J J cZ (ce dX J fun g5 w5 l5 x5 k5=>ce dX J fun g6 w6 l6 x6 k6=>bD J J (k5.ext x6) J bE (am.cons J (am.cons f11_a_0.one am.nil)) fun w1_8 q1_8 k1_8=>?_)))
 have x1_8:=aH.of_new ((x5.trans x6)) q1_8 l5
 have j1_k6:=(k6.other q1_8 fun e=>by have h1:=k5.lt;have h2:=l6;have h4:=Nc e;omega)
 refine bD J J j1_k6 J bE (am.cons J (am.cons f11_b_0.one am.nil)) fun w1_9 q1_9 k1_9=>?_
 have x1_9:=aH.of_new (x1_8) q1_9 (Nb (x5).size l6)
 refine dR ?_
 have j2_k1_8:=(k1_8.other q1_9 fun e=>by have h1:=k5.lt;have h2:=l6;have h4:=Nc e;omega)
 refine ak J J (j2_k1_8.ld MR J bE) (ak J J (k1_9.ld MR J bE) (aq FX J J (Ln (eW.mk (f11_a_0.ext x1_9)) (eW.mk (f11_b_0.ext x1_9)) (by omega) (by omega)) ?_))
 rintro v16 w16 ⟨x16,⟨x16_0,rfl,f16_0⟩⟩
 refine ce dX J fun g7 w7 l7 x7 k7=>bD J J k7 J bE (am.cons J (am.cons f16_0.one am.nil)) fun w2_4 q2_4 k2_4=>?_
 have x2_4:=aH.of_new (x7) q2_4 l7
 refine aI (aj (bj 10 [4,26] (by kernel_rfl) (by kernel_rfl) (al J J (fun w hw=>cS) (ap J J (fun w hw=>ai MH J (hw.cell_some (k2_4.cell (i:=0) J))) (al J J (fun w hw=>cc) (ap J J (fun w hw=>ai MD J (hw.cell_some (k2_4.cell (i:=1) J))) (ap J J (fun w hw=>((k2.ext (((((x3.trans x4).trans x11).trans x1_9).trans x16).trans x2_4)).ext hw).ld MC J ag) ?_)))))))
 have e1:=(((e2.trans x11).trans x1_9).trans x16).trans x2_4
 refine bZ (S:=bH (ud a.2.2)) fN (bH.stable _) J (fun w hw=>by rintro _ rfl;exact fP ((aU.mk (hx.ext e1) (hy.ext e1)).ext hw) (by omega)) ?_
 have e4:=(((x4.trans x11).trans x1_9).trans x16).trans x2_4
 refine ap J J (fun w hw=>((k3.ext e4).ext hw).ld MC J ag) (es (S:=bH (ud b.2.2)) fN (bH.stable _) J J (fun w hw=>fP ((aU.mk (hp.ext e1) (hq.ext e1)).ext hw) (by omega)) (bZ (S:=bH (lb (qd a*qd b))) lQ (bH.stable _) J (fun w hw=>by rintro v22 h22 v24 h24;exact lR h22 h24 (by omega) (by omega)) (bZ (S:=QV (qr a+qr b)) my (QV.stable _) J (fun w hw=>by rintro _ rfl _ rfl v25 h25;exact(by have:=vt (w:=w) (s:=decide (qn a*(qd b:Int)+qn b*(qd a:Int)<0)) ((f16_0.ext x2_4).ext hw) h25 (by omega) (by omega) (by rw[bk];exact hp0);rw[bk,bk,gE,←EH] at this;exact this)) (bA ?_))))
 rintro wg3 xg3 _ rfl _ ⟨x26_0,x26_1,rfl,f26_0,f26_1⟩
 have e3:=(((x11.trans x1_9).trans x16).trans x2_4).trans xg3
 refine bD J J (k4.ext e3) J ag (am.cons J (am.cons f26_0.one (am.cons f26_1.one am.nil))) fun w3_10 q3_10 k3_10=>?_
 have x3_10:=aH.of_new ((e4.trans xg3)) q3_10 l4
 have m3_10:=Kq.of1 (p:=[0,3,3]) (k4.ext e3) (ac rfl (ac rfl (ac rfl aT))) q3_10
 refine aI (aD (bp J (.cell J (k3_10.ld MC J ag) .nil) ?_))
 exact⟨_,J,((x2.trans x3).trans x3_10),(aU.mk (f26_0.kq m3_10) (f26_1.kq m3_10))⟩
theorem F3 {w:World} {a b:gR} {v u:Value} (hv:RV a v w) (hu:RV b u w) (ha:Lq 34359738368 a) (hb:Lq 34359738368 b):
 Calls Tryz.prog 361 #[v,u] w (cA fun r w'=>aH w w'∧QV (qr a-qr b) r w'):=by
 obtain⟨x,y,rfl,hx,hy⟩:=hv
 obtain⟨p,q,rfl,hp,hq⟩:=hu
 have e:qr a-qr b=qr a+qr (!b.1,b.2.1,b.2.2):=by rw[Rat.sub_eq_add_neg,show qr (!b.1,b.2.1,b.2.2)= -qr b from CC _ _ _]
 rw[e]
 refine enter (vs:=[.agg #[B a.1,x,y],.agg #[B b.1,p,q]]) Tryz.func361 J J J (bc (cj J J fun g2 w2 l2 x2 k2=>cj J J fun g3 w3 l3 x3 k3=>ce bv J fun g4 w4 l4 x4 k4=>(dR (af J J (dj) (ak J J (ai MH J (x4.cell_some (k3.cell (i:=0) J))) (cC J J cn (af J J (dj) (iD J J (k3.ext x4) zG J J fun w1_4 q1_4 k1_4=>?_))))))))
 have x1_4:=aH.of_new ((x3.trans x4)) q1_4 l3
 refine dR (ak J J ((k2.ext x1_4).ld MC J ag) (ak J J (k1_4.ld MC J ag) ?_))
 have e1:=x2.trans x1_4
 refine aq nI J J ((yv (a:=a) (b:=(!b.1,b.2.1,b.2.2)) (aU.mk (hx.ext e1) (hy.ext e1)) (aU.mk (hp.ext e1) (hq.ext e1)) ha hb)) ?_
 rintro v11 w11 ⟨x11,⟨x11_0,x11_1,rfl,f11_0,f11_1⟩⟩
 have j1_k4:=((k4.other q1_4 fun e=>by have h1:=k3.lt;have h2:=l4;have h4:=Nc e;omega).ext x11)
 refine bD J J j1_k4 J ag (am.cons J (am.cons f11_0.one (am.cons f11_1.one am.nil))) fun w2_3 q2_3 k2_3=>?_
 have x2_3:=aH.of_new ((x1_4.trans x11)) q2_3 (Nb (x3).size l4)
 have m2_3:=Kq.of1 (p:=[0,3,3]) j1_k4 (ac rfl (ac rfl (ac rfl aT))) q2_3
 refine aI (aD (bp J (.cell J (k2_3.ld MC J ag) .nil) ?_))
 exact⟨_,J,(x2.trans x2_3),(aU.mk (f11_0.kq m2_3) (f11_1.kq m2_3))⟩
theorem EJ (a b:gR):qr a*qr b=mkRat (fC (a.1 !=b.1) (val a.2.1*val b.2.1)) (qd a*qd b):=K5 _ _ _ _ _ _
theorem F4 {w:World} {a b:gR} {v u:Value} (hv:RV a v w) (hu:RV b u w) (ha:Lq 34359738368 a) (hb:Lq 34359738368 b):
 Calls Tryz.prog 166 #[v,u] w (cA fun r w'=>aH w w'∧QV (qr a*qr b) r w'):=by
 obtain⟨x,y,rfl,hx,hy⟩:=hv
 obtain⟨p,q,rfl,hp,hq⟩:=hu
 have ha1:=ha.1
 have hb1:=hb.1
 have ha2:=ha.2
 have hb2:=hb.2
 have hda:=EG ha.2 (by omega)
 have hdb:=EG hb.2 (by omega)
 have c3:(lb (val a.2.1*val b.2.1)).length≤34359738368+34359738368:=li (tQ ha1) (tQ hb1)
 have c4:(lb (qd a*qd b)).length≤34359738368+34359738368:=li (tQ hda) (tQ hdb)
 have hp0:=Nat.mul_pos (ii a) (ii b)
 refine enter (vs:=[.agg #[B a.1,x,y],.agg #[B b.1,p,q]]) Tryz.func166 J J J (bc (cj J J fun g2 w2 l2 x2 k2=>cj J J fun g3 w3 l3 x3 k3=>ce bv J fun g4 w4 l4 x4 k4=>(aI (aj (bj 16 [4,20] (by kernel_rfl) (by kernel_rfl) (al J J (fun w hw=>dj) (ap J J (fun w hw=>ai MH J (hw.cell_some ((x3.trans x4).cell_some (k2.cell (i:=0) J)))) (al J J (fun w hw=>dj) (ap J J (fun w hw=>ai MH J (hw.cell_some (x4.cell_some (k3.cell (i:=0) J)))) (bC J J J (fun w _=>sR MH) (al J J (fun w hw=>ed) (ap J J (fun w hw=>ai MD J (hw.cell_some ((x3.trans x4).cell_some (k2.cell (i:=1) J)))) (al J J (fun w hw=>ed) ?_)))))))))))))
 have e1:=(x2.trans x3).trans x4
 refine ap J J (fun w hw=>ai MD J (hw.cell_some (x4.cell_some (k3.cell (i:=1) J)))) (bZ (S:=bH (lb (val a.2.1*val b.2.1))) lQ (bH.stable _) J (fun w hw=>by rintro _ rfl _ rfl;exact lR ((hx.ext e1).ext hw) ((hp.ext e1).ext hw) (by omega) (by omega)) (ap J J (fun w hw=>((k2.ext (x3.trans x4)).ext hw).ld MC J ag) (bZ (S:=bH (ud a.2.2)) fN (bH.stable _) J (fun w hw=>by rintro _ rfl;exact fP ((aU.mk (hx.ext e1) (hy.ext e1)).ext hw) (by omega)) (ap J J (fun w hw=>((k3.ext x4).ext hw).ld MC J ag) (es (S:=bH (ud b.2.2)) fN (bH.stable _) J J (fun w hw=>fP ((aU.mk (hp.ext e1) (hq.ext e1)).ext hw) (by omega)) (bZ (S:=bH (lb (qd a*qd b))) lQ (bH.stable _) J (fun w hw=>by rintro v16 h16 v18 h18;exact lR h16 h18 (by omega) (by omega)) (bZ (S:=QV (qr a*qr b)) my (QV.stable _) J (fun w hw=>by rintro _ rfl v14 h14 v19 h19;exact(by have:=vt (w:=w) (s:=a.1 !=b.1) h14 h19 (by omega) (by omega) (by rw[bk];exact hp0);rw[bk,bk,←EJ] at this;exact this)) (bA ?_))))))))
 rintro wg1 xg1 _ rfl _ ⟨x20_0,x20_1,rfl,f20_0,f20_1⟩
 refine bD J J (k4.ext xg1) J ag (am.cons J (am.cons f20_0.one (am.cons f20_1.one am.nil))) fun w1_16 q1_16 k1_16=>?_
 have x1_16:=aH.of_new ((x4.trans xg1)) q1_16 l4
 have m1_16:=Kq.of1 (p:=[0,3,3]) (k4.ext xg1) (ac rfl (ac rfl (ac rfl aT))) q1_16
 refine aI (aD (bp J (.cell J (k1_16.ld MC J ag) .nil) ?_))
 exact⟨_,J,((x2.trans x3).trans x1_16),(aU.mk (f20_0.kq m1_16) (f20_1.kq m1_16))⟩
theorem JR (a b:gR) (h:0<val b.2.1):qr a/qr b=mkRat (fC (a.1 !=b.1) (val a.2.1*qd b)) (qd a*val b.2.1):=HF _ _ _ _ _ _ h
theorem JS {a:gR}:qr a=0↔val a.2.1=0:=by
 rw[wo,(zq (ii a)).2.1]
 have:=CR a
 omega
theorem F5 {w:World} {a b:gR} {v u:Value} (hv:RV a v w) (hu:RV b u w) (ha:Lq 34359738368 a) (hb:Lq 34359738368 b) (h0:qr b≠0):
 Calls Tryz.prog 304 #[v,u] w (cA fun r w'=>aH w w'∧gQ (QV (qr a/qr b)) (Is (I 0)) r w'):=by
 obtain⟨x,y,rfl,hx,hy⟩:=hv
 obtain⟨p,q,rfl,hp,hq⟩:=hu
 have ha1:=ha.1
 have hb1:=hb.1
 have ha2:=ha.2
 have hb2:=hb.2
 have hda:=EG ha.2 (by omega)
 have hdb:=EG hb.2 (by omega)
 have hb0:0<val b.2.1:=by
  rcases Np (val b.2.1) with h|h
  ·exact absurd (JS.2 h) h0
  ·exact h
 have c3:(lb (val a.2.1*qd b)).length≤34359738368+34359738368:=li (tQ ha1) (tQ hdb)
 have c4:(lb (qd a*val b.2.1)).length≤34359738368+34359738368:=li (tQ hda) (tQ hb1)
 have hp0:=Nat.mul_pos (ii a) hb0
 refine enter (vs:=[.agg #[B a.1,x,y],.agg #[B b.1,p,q]]) Tryz.func304 J J J (bc (cj J J fun g2 w2 l2 x2 k2=>cj J J fun g3 w3 l3 x3 k3=>?_))
 have e3:=x2.trans x3
 refine ce bv J fun g4 w4 l4 x4 k4=>(aa J J (aI (aj (bc (ak J J ((k3.ext x4).ld MC J ag) (aq cw J J (oP (aU.mk (hp.ext (e3.trans x4)) (hq.ext (e3.trans x4))) (by omega)) ?_))))))
 rintro v7 w7 ⟨x7,rfl⟩
 refine ao J J J (be (fun h=>by have:=oQ (qr b);rcases this with h1|h1|h1;omega;exact h0 h1.2;omega) aO) (aI (bU J (aA (ah (aj (bj 16 [4,25] (by kernel_rfl) (by kernel_rfl) ?_))))))
 have e2:=(x3.trans x4).trans x7
 refine al J J (fun w hw=>dj) (ap J J (fun w hw=>ai MH J (hw.cell_some (e2.cell_some (k2.cell (i:=0) J)))) ?_)
 have e4:=x4.trans x7
 refine al J J (fun w hw=>dj) (ap J J (fun w hw=>ai MH J (hw.cell_some (e4.cell_some (k3.cell (i:=0) J)))) (bC J J J (fun w _=>sR MH) (al J J (fun w hw=>ed) (ap J J (fun w hw=>ai MD J (hw.cell_some (e2.cell_some (k2.cell (i:=1) J)))) ?_))))
 have e1:=(e3.trans x4).trans x7
 refine ap J J (fun w hw=>((k3.ext e4).ext hw).ld MC J ag) (es (S:=bH (ud b.2.2)) fN (bH.stable _) J J (fun w hw=>fP ((aU.mk (hp.ext e1) (hq.ext e1)).ext hw) (by omega)) (bZ (S:=bH (lb (val a.2.1*qd b))) lQ (bH.stable _) J (fun w hw=>by rintro _ rfl v18 h18;exact lR ((hx.ext e1).ext hw) h18 (by omega) (by omega)) (ap J J (fun w hw=>((k2.ext e2).ext hw).ld MC J ag) (bZ (S:=bH (ud a.2.2)) fN (bH.stable _) J (fun w hw=>by rintro _ rfl;exact fP ((aU.mk (hx.ext e1) (hy.ext e1)).ext hw) (by omega)) (al J J (fun w hw=>ed) (ap J J (fun w hw=>ai MD J (hw.cell_some (e4.cell_some (k3.cell (i:=1) J)))) (bZ (S:=bH (lb (qd a*val b.2.1))) lQ (bH.stable _) J (fun w hw=>by rintro v21 h21 _ rfl;exact lR h21 ((hp.ext e1).ext hw) (by omega) (by omega)) (bZ (S:=QV (qr a/qr b)) my (QV.stable _) J (fun w hw=>by rintro _ rfl v19 h19 v24 h24;exact(by have:=vt (w:=w) (s:=a.1 !=b.1) h19 h24 (by omega) (by omega) (by rw[bk];exact hp0);rw[bk,bk,←JR a b hb0] at this;exact this)) (bA ?_)))))))))
 rintro wg3 xg3 _ rfl _ ⟨x25_0,x25_1,rfl,f25_0,f25_1⟩
 refine bD J J (k4.ext (x7.trans xg3)) J ag (am.cons J (am.cons f25_0.one (am.cons f25_1.one am.nil))) fun w3_16 q3_16 k3_16=>?_
 have x3_16:=aH.of_new ((e4.trans xg3)) q3_16 l4
 have m3_16:=Kq.of1 (p:=[0,3,3]) (k4.ext (x7.trans xg3)) (ac rfl (ac rfl (ac rfl aT))) q3_16
 refine aa J J (aI (aD (bp J (.cell J (k3_16.ld MC J ag) (.tmp J .nil)) ?_)))
 exact⟨_,J,(e3.trans x3_16),_,_,J,(aU.mk (f25_0.kq m3_16) (f25_1.kq m3_16)),J⟩
theorem qU {x y:Rat}:f6 x y≥0↔y≤x:=by
 unfold f6
 split
 ·constructor<;>intro h<;>grind
 ·split
  ·constructor<;>intro h<;>grind
  ·constructor<;>intro h<;>grind
theorem F6 {w:World} {a b:gR} {v u:Value} (hv:RV a v w) (hu:RV b u w) (ha:Lq 34359738368 a) (hb:Lq 34359738368 b):
 Calls Tryz.prog 164 #[v,u] w (cA fun r w'=>aH w w'∧QV (max (qr a) (qr b)) r w'):=by
 obtain⟨x,y,rfl,hx,hy⟩:=hv
 obtain⟨p,q,rfl,hp,hq⟩:=hu
 have ha':Lq 137438953472 a:=⟨Nb ha.1 (by omega),Nb ha.2 (by omega)⟩
 have hb':Lq 137438953472 b:=⟨Nb hb.1 (by omega),Nb hb.2 (by omega)⟩
 refine enter (vs:=[.agg #[B a.1,x,y],.agg #[B b.1,p,q]]) Tryz.func164 J J J (bc (cj J J fun g2 w2 l2 x2 k2=>cj J J fun g3 w3 l3 x3 k3=>ce bv J fun g4 w4 l4 x4 k4=>(aI (aj (bc (ak J J ((k2.ext (x3.trans x4)).ld MC J ag) (ak J J ((k3.ext x4).ld MC J ag) ?_)))))))
 have e1:=(x2.trans x3).trans x4
 refine aq gk J J (yu (aU.mk (hx.ext e1) (hy.ext e1)) (aU.mk (hp.ext e1) (hq.ext e1)) ha hb) ?_
 rintro v7 w7 ⟨x7,rfl⟩
 refine ao J J J (cz) (aI (ci J (fun h8=>?_) (fun h8=>?_)))
 ·refine bc (ak J J ((k2.ext ((x3.trans x4).trans x7)).ld MC J ag) (aq fO J J (nJ (aU.mk (hx.ext (((x2.trans x3).trans x4).trans x7)) (hy.ext (((x2.trans x3).trans x4).trans x7))) ha') ?_))
  rintro v10 w10 ⟨x10,⟨x10_0,x10_1,rfl,f10_0,f10_1⟩⟩
  refine bD J J (k4.ext (x7.trans x10)) J ag (am.cons J (am.cons f10_0.one (am.cons f10_1.one am.nil))) fun w2_2 q2_2 k2_2=>?_
  have x2_2:=aH.of_new (((x4.trans x7).trans x10)) q2_2 l4
  have m2_2:=Kq.of1 (p:=[0,3,3]) (k4.ext (x7.trans x10)) (ac rfl (ac rfl (ac rfl aT))) q2_2
  refine aI (aD (a0 (bp J (.cell J (k2_2.ld MC J ag) .nil) ?_)))
  exact⟨_,J,((x2.trans x3).trans x2_2),by
   have:=qU.1 h8
   rw[show max (qr a) (qr b)=qr a by rw[Rat.max_def];split<;>grind];exact(aU.mk (f10_0.kq m2_2) (f10_1.kq m2_2))⟩
 ·refine aA (ah (bc (ak J J ((k3.ext (x4.trans x7)).ld MC J ag) (aq fO J J (nJ (aU.mk (hp.ext (((x2.trans x3).trans x4).trans x7)) (hq.ext (((x2.trans x3).trans x4).trans x7))) hb') ?_))))
  rintro v12 w12 ⟨x12,⟨x12_0,x12_1,rfl,f12_0,f12_1⟩⟩
  refine bD J J (k4.ext (x7.trans x12)) J ag (am.cons J (am.cons f12_0.one (am.cons f12_1.one am.nil))) fun w3_2 q3_2 k3_2=>?_
  have x3_2:=aH.of_new (((x4.trans x7).trans x12)) q3_2 l4
  have m3_2:=Kq.of1 (p:=[0,3,3]) (k4.ext (x7.trans x12)) (ac rfl (ac rfl (ac rfl aT))) q3_2
  refine aI (aD (bp J (.cell J (k3_2.ld MC J ag) .nil) ?_))
  exact⟨_,J,((x2.trans x3).trans x3_2),by
   have:=mt qU.2 h8
   rw[show max (qr a) (qr b)=qr b by rw[Rat.max_def];split<;>grind];exact(aU.mk (f12_0.kq m3_2) (f12_1.kq m3_2))⟩
theorem Bk {w:World} {x:Int} {v:Value} (hv:IZ x v w) (hl:(lb x.natAbs).length≤274877906944):
 Calls Tryz.prog 196 #[v] w (cA fun r w'=>aH w w'∧QV (x:Rat) r w'):=by
 obtain⟨p,rfl,hp⟩:=hv
 refine enter (vs:=[.agg #[B (decide (x<0)),p]]) Tryz.func196 J J J (bc (cj J J fun g1 w1 l1 x1 k1=>ce bv J fun g2 w2 l2 x2 k2=>(aI (aj (bj 6 [2,8] (by kernel_rfl) (by kernel_rfl) (al J J (fun w hw=>cS) (ap J J (fun w hw=>ai Tryz.underlying4 J (hw.cell_some (x2.cell_some (k1.cell (i:=0) J)))) (al J J (fun w hw=>cc) (ap J J (fun w hw=>ai Tryz.underlying47 J (hw.cell_some (x2.cell_some (k1.cell (i:=1) J)))) (bZ (S:=bH ([1])) xX (bH.stable _) J (fun w hw=>by exact xY) (bZ (S:=QV ((x:Rat))) my (QV.stable _) J (fun w hw=>by rintro _ rfl _ rfl v7 h7;exact(by have:=vt (w:=w) (s:=decide (x<0)) ((hp.ext (x1.trans x2)).ext hw) h7 (by omega) (by simp) (by rw[pG];omega);rw[bk,pG,gE,Rat.mkRat_one] at this;exact this)) (bA ?_))))))))))))
 rintro wg1 xg1 _ rfl _ ⟨x8_0,x8_1,rfl,f8_0,f8_1⟩
 refine bD J J (k2.ext xg1) J ag (am.cons J (am.cons f8_0.one (am.cons f8_1.one am.nil))) fun w1_6 q1_6 k1_6=>?_
 have x1_6:=aH.of_new ((x2.trans xg1)) q1_6 l2
 have m1_6:=Kq.of1 (p:=[0,3,3]) (k2.ext xg1) (ac rfl (ac rfl (ac rfl aT))) q1_6
 refine aI (aD (bp J (.cell J (k1_6.ld MC J ag) .nil) ?_))
 exact⟨_,J,(x1.trans x1_6),(aU.mk (f8_0.kq m1_6) (f8_1.kq m1_6))⟩
theorem mG {w:World} {x:Int} (h1: -9223372036854775808≤x) (h2:x≤9223372036854775807):
 Calls Tryz.prog 108 #[I x] w (cA fun r w'=>aH w w'∧QV (x:Rat) r w'):=by
 have hl:(lb x.natAbs).length≤2:=fM (by omega)
 refine enter Tryz.func108 J J J (bc (ce bv J fun g2 w2 l2 x2 k2=>(dR (ab J J (aq H4 J J ((H5 h1 h2)) ?_)))))
 rintro v4 w4 ⟨x4,⟨x4_0,rfl,f4_0⟩⟩
 refine aq Bi J J (Bk (eW.mk f4_0) (by omega)) ?_
 rintro v5 w5 ⟨x5,⟨x5_0,x5_1,rfl,f5_0,f5_1⟩⟩
 refine bD J J (k2.ext (x4.trans x5)) J ag (am.cons J (am.cons f5_0.one (am.cons f5_1.one am.nil))) fun w1_3 q1_3 k1_3=>?_
 have x1_3:=aH.of_new (((x2.trans x4).trans x5)) q1_3 l2
 have m1_3:=Kq.of1 (p:=[0,3,3]) (k2.ext (x4.trans x5)) (ac rfl (ac rfl (ac rfl aT))) q1_3
 refine aI (aD (bp J (.cell J (k1_3.ld MC J ag) .nil) ?_))
 exact⟨_,J,x1_3,(aU.mk (f5_0.kq m1_3) (f5_1.kq m1_3))⟩
end Go.Rl
namespace Go.Rl
open Go.RowKit Go.Proofs
theorem tS:az Tryz.prog 83:=⟨_,Tryz.func83,by kernel_rfl,rfl⟩
theorem jw:az Tryz.prog 160:=⟨_,Tryz.func160,by kernel_rfl,rfl⟩
theorem uA:az Tryz.prog 81:=⟨_,Tryz.func81,by kernel_rfl,rfl⟩
theorem CT:az Tryz.prog 146:=⟨_,Tryz.func146,by kernel_rfl,rfl⟩
theorem ke:az Tryz.prog 70:=⟨_,Tryz.func70,by kernel_rfl,rfl⟩
theorem yw:az Tryz.prog 72:=⟨_,Tryz.func72,by kernel_rfl,rfl⟩
theorem qV:az Tryz.prog 71:=⟨_,Tryz.func71,by kernel_rfl,rfl⟩
theorem F7:az Tryz.prog 148:=⟨_,Tryz.func148,by kernel_rfl,rfl⟩
theorem ee:az Tryz.prog 21:=⟨_,Tryz.func21,by kernel_rfl,rfl⟩
theorem f9:az Tryz.prog 23:=⟨_,Tryz.func23,by kernel_rfl,rfl⟩
theorem F8:az Tryz.prog 230:=⟨_,Tryz.func230,by kernel_rfl,rfl⟩
theorem nK:az Tryz.prog 26:=⟨_,Tryz.func26,by kernel_rfl,rfl⟩
theorem wq:az Tryz.prog 69:=⟨_,Tryz.func69,by kernel_rfl,rfl⟩
theorem CU:az Tryz.prog 143:=⟨_,Tryz.func143,by kernel_rfl,rfl⟩
theorem p5:az Tryz.prog 229:=⟨_,Tryz.func229,by kernel_rfl,rfl⟩
theorem JT {w:World} {l m:List UInt32} {v u:Value} (hv:bH l v w) (hu:bH m u w) (hlt:val l<val m):
 Calls Tryz.prog 224 #[v,u] w (cA fun r w'=>aH w w'∧gQ (bH []) (Is (I 2)) r w'):=by
 refine enter Tryz.func224 J J J (bc (aa J J (aa J J (aI (aj (bc (ab J J (ab J J (aq tB J J (tC hv hu) ?_)))))))))
 rintro v13 _ ⟨rfl,rfl⟩
 refine ao J J J (bF (jI.2 hlt) aX) (aI (cg J (bc (aa J J (aa J J (aI (aD (a0 (dW J J J ?_)))))))))
 exact⟨_,J,aH.refl _,_,_,J,bH.nil _,J⟩
theorem Bl {w:World} {l m:List UInt32} {v u:Value} (hv:bH l v w) (hu:bH m u w) (hl:l.length≤1099511627776) (hle:val m≤val l):
 Calls Tryz.prog 224 #[v,u] w (cA fun r w'=>aH w w'∧gQ (bH (lb (val l-val m))) (Is (I 0)) r w'):=
 (xU hv hu hl hle).mono fun _ _ ⟨r,he,h1,d,h2,h3⟩=>⟨r,he,h1,d,_,h2,h3.wds,rfl⟩
theorem jx {w:World} {s:Bool} {n:List UInt32} {v:Value} (hv:bH n v w) (hl:n.length≤549755813888):
 Calls Tryz.prog 160 #[B s,v] w (cA fun r w'=>aH w w'∧IZ (fC s (val n)) r w'):=by
 refine enter Tryz.func160 J J J (bc (ce dX J fun g4 w4 l4 x4 k4=>(dR (ab J J (aq fz J J (fZ (hv.ext x4) (by omega)) ?_)))))
 rintro v7 w7 ⟨x7,b7⟩
 refine aa J J (aI (aj ?_))
 cases s
 ·refine ae (ab J J (ab J J (bf J J J (bf J J J (bf J J J (aG J J J (ab J J (bV (r:=.agg #[B false,v7]) J J (by obtain⟨_,_,_,rfl⟩:=b7.isS;exact run_build _ _ _ _ (by kernel_rfl)) ?_))))))))
  refine bD J J (k4.ext x7) J bE (am.cons J (am.cons b7.one am.nil)) fun w2_8 q2_8 k2_8=>?_
  have x2_8:=aH.of_new ((x4.trans x7)) q2_8 l4
  have m2_8:=Kq.of1 (p:=[0,3]) (k4.ext x7) (ac rfl (ac rfl aT)) q2_8
  refine aI (aD (bp J (.cell J (k2_8.ld MR J bE) .nil) ?_))
  exact⟨_,J,x2_8,IZ.of (by rw[←zI];rfl) (by rw[kz];exact(b7.kq m2_8))⟩
 ·refine ae (ab J J (ab J J (an J (ab J J (an J (bn J J (bR MD b7) (an J (ao J J J (bo) ?_))))))))
  refine aR J J J (ab J J (bV (r:=.agg #[B (decide (((lb (val n)).length:Int)>0)),v7]) J J (by obtain⟨_,_,_,rfl⟩:=b7.isS;exact run_build _ _ _ _ (by kernel_rfl)) (bD J J (k4.ext x7) J bE (am.cons J (am.cons b7.one am.nil)) fun w2_8 q2_8 k2_8=>?_)))
  have x2_8:=aH.of_new ((x4.trans x7)) q2_8 l4
  have m2_8:=Kq.of1 (p:=[0,3]) (k4.ext x7) (ac rfl (ac rfl aT)) q2_8
  refine aI (aD (bp J (.cell J (k2_8.ld MR J bE) .nil) ?_))
  exact⟨_,J,x2_8,IZ.of (by rw[←zI];unfold vi;rw[Bool.true_and];exact decide_eq_decide.2 (by have:=@EF (val n);omega)) (by rw[kz];exact(b7.kq m2_8))⟩
theorem tT {w:World} {x:Int} (h1: -9223372036854775808≤x) (h2:x≤9223372036854775807):
 Calls Tryz.prog 83 #[I x] w (cA fun r w'=>aH w w'∧IZ x r w'):=by
 have hl:∀y:UInt64,(lb y.toNat).length≤2:=fun y=>fM (by have:=vG y;omega)
 refine enter Tryz.func83 J J J (bc (ce dX J fun g2 w2 l2 x2 k2=>(aI (aj (bc (ab J J (ao J J J (aX) (aI (ci J (fun h4=>?_) (fun h4=>?_))))))))))
 ·refine bc (ab J J (cm J J (vd ME MJ) ?_))
  refine cC (r:=fB (-UInt64.ofInt x)) J J yq (aq sJ J J (sK) ?_)
  rintro v8 w8 ⟨x8,b8⟩
  refine aq jw J J ((by
 have:=jx (s:=true) b8 (Nb (hl _) (by omega))
 rw[bk,wn h4 h1,show fC true x.natAbs=x by unfold fC;rw[if_pos rfl];omega] at this
 exact this)) ?_
  rintro v9 w9 ⟨x9,⟨x9_0,rfl,f9_0⟩⟩
  refine bD J J (k2.ext (x8.trans x9)) J bE (am.cons J (am.cons f9_0.one am.nil)) fun w2_5 q2_5 k2_5=>?_
  have x2_5:=aH.of_new (((x2.trans x8).trans x9)) q2_5 l2
  have m2_5:=Kq.of1 (p:=[0,3]) (k2.ext (x8.trans x9)) (ac rfl (ac rfl aT)) q2_5
  refine aI (aD (a0 (bp J (.cell J (k2_5.ld MR J bE) .nil) ?_)))
  exact⟨_,J,x2_5,(eW.mk (f9_0.kq m2_5))⟩
 ·refine aA (ah (bc (ab J J (cm J J (vd ME MJ) (aq sJ J J (sK) ?_)))))
  rintro v12 w12 ⟨x12,b12⟩
  refine aq jw J J ((by
 have:=jx (s:=false) b12 (Nb (hl _) (by omega))
 rw[bk,yr (by omega) h2,show fC false x.natAbs=x by unfold fC;rw[if_neg (by simp)];omega] at this
 exact this)) ?_
  rintro v13 w13 ⟨x13,⟨x13_0,rfl,f13_0⟩⟩
  refine bD J J (k2.ext (x12.trans x13)) J bE (am.cons J (am.cons f13_0.one am.nil)) fun w3_4 q3_4 k3_4=>?_
  have x3_4:=aH.of_new (((x2.trans x12).trans x13)) q3_4 l2
  have m3_4:=Kq.of1 (p:=[0,3]) (k2.ext (x12.trans x13)) (ac rfl (ac rfl aT)) q3_4
  refine aI (aD (bp J (.cell J (k3_4.ld MR J bE) .nil) ?_))
  exact⟨_,J,x3_4,(eW.mk (f13_0.kq m3_4))⟩
theorem uB {w:World} {s:Bool} {n:List UInt32} {v:Value} (hv:eW s n v w) (hl:n.length≤549755813888):
 Calls Tryz.prog 81 #[v] w (cA fun r w'=>aH w w'∧Is (I (kO (fC s (val n)))) r w'):=by
 obtain⟨x,rfl,hx⟩:=hv
 obtain⟨z,hz⟩:∃z,z=fC s (val n):=⟨_,rfl⟩
 rw[←hz]
 have h0:=@gl z.natAbs
 refine enter (vs:=[.agg #[B s,x]]) Tryz.func81 J J J (bc (cj J J fun g1 w1 l1 x1 k1=>(aa J J (dR (af J J (cS) (ak J J (ai MH J (k1.cell (i:=0) J)) (af J J (cc) (ak J J (ai MD J (k1.cell (i:=1) J)) (aq jw J J ((by have:=jx (s:=s) (hx.ext x1) hl;rw[←hz] at this;exact this)) ?_)))))))))
 rintro v7 w7 ⟨x7,⟨x7_0,rfl,f7_0⟩⟩
 refine bD J J (k1.ext x7) J bE (am.cons J (am.cons f7_0.one am.nil)) fun w1_5 q1_5 k1_5=>?_
 have x1_5:=aH.of_new ((x1.trans x7)) q1_5 l1
 have m1_5:=Kq.of1 (p:=[0,3]) (k1.ext x7) (ac rfl (ac hx.kd aT)) q1_5
 refine aI (aj (aJ (bc (af J J (cc) (ak J J (ai MD J (k1_5.cell (i:=1) J)) (bn J J (bR MD (f7_0.kq m1_5)) (ao J J J (aO) (aa J J (aI (ci J (fun h8=>?_) (fun h8=>?_)))))))))))
 ·refine bc (aa J J (aI (aD (bK (a0 (aF J J ?_))))))
  exact⟨_,J,x1_5,by rw[show z=0 by omega];rfl⟩
 ·refine bc (af J J (cS) (ak J J (ai MH J (k1_5.cell (i:=0) J)) ?_))
  refine aa J J (aI (j2 J (fun h13=>?_) (fun h13=>?_)))
  ·refine bc (aa J J (aI (aD (bK (a0 (aF J J ?_))))))
   exact⟨_,J,x1_5,by rw[yp (by simpa using h13)];rfl⟩
  ·refine aA (aW (ah (bc (aa J J (aI (aD (aF J J ?_)))))))
   exact⟨_,J,x1_5,by rw[tR (by have h:¬z<0:=(by simpa using h13);omega)];rfl⟩
theorem CV {w:World} {s t:Bool} {n m:List UInt32} {v u:Value} (hv:eW s n v w) (hu:eW t m u w) (hl:n.length≤274877906943) (hm:m.length≤274877906943):
 Calls Tryz.prog 146 #[v,u] w (cA fun r w'=>aH w w'∧IZ (fC s (val n)+fC t (val m)) r w'):=by
 obtain⟨x,rfl,hx⟩:=hv
 obtain⟨y,rfl,hy⟩:=hu
 have hnn:=tQ hl
 have hmm:=tQ hm
 have hlm:=zJ hnn hmm
 refine enter (vs:=[.agg #[B s,x],.agg #[B t,y]]) Tryz.func146 J J J (bc (cj J J fun g2 w2 l2 x2 k2=>cj J J fun g3 w3 l3 x3 k3=>ce dX J fun g4 w4 l4 x4 k4=>(aI (aj (bc (af J J (cS) (ak J J (ai MH J ((x3.trans x4).cell_some (k2.cell (i:=0) J))) (af J J (cS) (ak J J (ai MH J (x4.cell_some (k3.cell (i:=0) J))) (ao J J J (vh MH) (aI (ci J (fun h11=>?_) (fun h11=>?_)))))))))))))
 ·subst h11
  refine aj (bj 8 [4,19] (by kernel_rfl) (by kernel_rfl) (al J J (fun w hw=>cS) (ap J J (fun w hw=>ai MH J (hw.cell_some ((x3.trans x4).cell_some (k2.cell (i:=0) J)))) (al J J (fun w hw=>cc) (ap J J (fun w hw=>ai MD J (hw.cell_some ((x3.trans x4).cell_some (k2.cell (i:=1) J)))) (al J J (fun w hw=>cc) (ap J J (fun w hw=>ai MD J (hw.cell_some (x4.cell_some (k3.cell (i:=1) J)))) (bZ (S:=bH (lb (val n+val m))) xR (bH.stable _) J (fun w hw=>by rintro _ rfl _ rfl;exact xT ((hx.ext ((x2.trans x3).trans x4)).ext hw) ((hy.ext ((x2.trans x3).trans x4)).ext hw) (by omega) (by omega)) (bZ (S:=IZ (fC s (val n)+fC s (val m))) jw (IZ.stable _) J (fun w hw=>by rintro _ rfl v18 h18;exact(by have:=jx (s:=s) h18 (by omega);rw[bk,←KE] at this;exact this)) (bA ?_))))))))))
  rintro wg2 xg2 _ rfl _ ⟨x19_0,rfl,f19_0⟩
  refine bD J J (k4.ext xg2) J bE (am.cons J (am.cons f19_0.one am.nil)) fun w2_8 q2_8 k2_8=>?_
  have x2_8:=aH.of_new ((x4.trans xg2)) q2_8 l4
  have m2_8:=Kq.of1 (p:=[0,3]) (k4.ext xg2) (ac rfl (ac rfl aT)) q2_8
  refine aI (aD (a0 (bp J (.cell J (k2_8.ld MR J bE) .nil) ?_)))
  exact⟨_,J,((x2.trans x3).trans x2_8),(eW.mk (f19_0.kq m2_8))⟩
 ·refine aA (ah (aj ?_))
  rcases Nat.lt_or_ge (val n) (val m) with hlt|hle
  ·refine ae (af J J (cc) (ak J J (ai MD J ((x3.trans x4).cell_some (k2.cell (i:=1) J))) ?_))
   refine af J J (cc) (ak J J (ai MD J (x4.cell_some (k3.cell (i:=1) J))) (aq qO J J (JT (hx.ext ((x2.trans x3).trans x4)) (hy.ext ((x2.trans x3).trans x4)) hlt) ?_))
   rintro v25 w25 ⟨x25,⟨u25_a,_,rfl,b25_a,rfl⟩⟩
   refine ab J J (aB J J cY (aB J J cZ (aa J J (aa J J (aI (aj (bc (ab J J (ao J J J (be (by decide) aO) (aI (bU J (aA (ah (bc (af J J (cc) (ak J J (ai MD J ((x4.trans x25).cell_some (k3.cell (i:=1) J))) (af J J (cc) (ak J J (ai MD J (((x3.trans x4).trans x25).cell_some (k2.cell (i:=1) J))) ?_))))))))))))))))))
   have e1:=((x2.trans x3).trans x4).trans x25
   refine aq qO J J (Bl (hy.ext e1) (hx.ext e1) (by omega) (by omega)) ?_
   rintro v39 w39 ⟨x39,⟨u39_a,_,rfl,b39_a,rfl⟩⟩
   refine ab J J (aB J J cY (aB J J cZ (aa J J (dR (af J J (cS) (ak J J (ai MH J (((x4.trans x25).trans x39).cell_some (k3.cell (i:=0) J))) (ab J J (aq jw J J ((by have:=jx (s:=t) b39_a (by have:=yt (Nat.sub_le (val m) (val n)) hmm;omega);rw[bk] at this;exact this)) ?_))))))))
   rintro v45 w45 ⟨x45,⟨x45_0,rfl,f45_0⟩⟩
   refine bD J J (k4.ext ((x25.trans x39).trans x45)) J bE (am.cons J (am.cons f45_0.one am.nil)) fun w7_4 q7_4 k7_4=>?_
   have x7_4:=aH.of_new ((((x4.trans x25).trans x39).trans x45)) q7_4 l4
   have m7_4:=Kq.of1 (p:=[0,3]) (k4.ext ((x25.trans x39).trans x45)) (ac rfl (ac rfl aT)) q7_4
   refine aI (aD (bp J (.cell J (k7_4.ld MR J bE) .nil) ?_))
   exact⟨_,J,((x2.trans x3).trans x7_4),by rw[H7 h11 hlt];exact(eW.mk (f45_0.kq m7_4))⟩
  ·refine ae (af J J (cc) (ak J J (ai MD J ((x3.trans x4).cell_some (k2.cell (i:=1) J))) ?_))
   refine af J J (cc) (ak J J (ai MD J (x4.cell_some (k3.cell (i:=1) J))) (aq qO J J (Bl (hx.ext ((x2.trans x3).trans x4)) (hy.ext ((x2.trans x3).trans x4)) (by omega) hle) ?_))
   rintro v25 w25 ⟨x25,⟨u25_a,_,rfl,b25_a,rfl⟩⟩
   refine ab J J (aB J J cY (aB J J cZ (aa J J (aa J J (aI (aj (bc (ab J J (ao J J J (bF (by decide) aO) (aI (cg J (bc (af J J (cS) (ak J J (ai MH J (((x3.trans x4).trans x25).cell_some (k2.cell (i:=0) J))) (ab J J (aq jw J J ((by have:=jx (s:=s) b25_a (by have:=yt (Nat.sub_le (val n) (val m)) hnn;omega);rw[bk] at this;exact this)) ?_))))))))))))))))
   rintro v33 w33 ⟨x33,⟨x33_0,rfl,f33_0⟩⟩
   refine bD J J (k4.ext (x25.trans x33)) J bE (am.cons J (am.cons f33_0.one am.nil)) fun w5_4 q5_4 k5_4=>?_
   have x5_4:=aH.of_new (((x4.trans x25).trans x33)) q5_4 l4
   have m5_4:=Kq.of1 (p:=[0,3]) (k4.ext (x25.trans x33)) (ac rfl (ac rfl aT)) q5_4
   refine aI (aD (a0 (bp J (.cell J (k5_4.ld MR J bE) .nil) ?_)))
   exact⟨_,J,((x2.trans x3).trans x5_4),by rw[H6 h11 hle];exact(eW.mk (f33_0.kq m5_4))⟩
theorem zM {w:World} {s:Bool} {n d:List UInt32} {x y:Value} (hn:bH n x w) (hd:bH d y w) (hnl:n.length≤274877906944) (hdl:d.length≤274877906944) (hd0:0<val d):
 Calls Tryz.prog 147 #[B s,x,y] w (cA fun r w'=>aH w w'∧QV (mkRat (fC s (val n)) (val d)) r w'):=by
 have h:=vY (s:=s) hn hd hnl hdl hd0
 obtain⟨h1,h2,h3⟩:=HD s (n:=val n) hd0
 rw[h1,h2,h3] at h
 exact h
theorem Bm {w:World} {a:gR} {v:Value} (hv:RV a v w) (h:Lq 137438953472 a):
 Calls Tryz.prog 227 #[v] w (cA fun r w'=>aH w w'∧QV (qr a) r w'):=by
 have h:=uo hv h.1 h.2
 obtain⟨h1,h2,h3⟩:=HE a.1 a.2.1 a.2.2
 rw[h1,h2,h3] at h
 exact h
theorem CW {w:World} {a:gR} {v:Value} (hv:RV a v w) (hl:a.2.1.length≤549755813888):
 Calls Tryz.prog 23 #[v] w (cA fun r w'=>aH w w'∧Is (I (gx (qr a))) r w'):=by
 obtain⟨x,y,rfl,hx,hy⟩:=hv
 rw[wo,zL (ii a)]
 refine enter (vs:=[.agg #[B a.1,x,y]]) Tryz.func23 J J J (bc (cj J J fun g1 w1 l1 x1 k1=>(aa J J (dR (af J J (dj) (ak J J (ai MH J (k1.cell (i:=0) J)) (af J J (ed) (ak J J (ai MD J (k1.cell (i:=1) J)) (bV (r:=.agg #[B a.1,x]) J J (by obtain⟨_,_,_,rfl⟩:=hx.isS;exact run_build _ _ _ _ (by kernel_rfl)) (aq uA J J (uB (eW.mk (hx.ext x1)) hl) ?_))))))))))
 rintro v8 w8 ⟨x8,rfl⟩
 refine aa J J (aI (aD (aF J J ?_)))
 exact⟨_,J,(x1.trans x8),J⟩
theorem F9 {w:World} {a:gR} {v:Value} (hv:RV a v w) (ha:Lq 137438953472 a):
 Calls Tryz.prog 148 #[v] w (cA fun r w'=>aH w w'∧QV (-qr a) r w'):=by
 obtain⟨x,y,rfl,hx,hy⟩:=hv
 have e: -qr a=qr (!a.1,a.2.1,a.2.2):=(CC _ _ _).symm
 rw[e]
 refine enter (vs:=[.agg #[B a.1,x,y]]) Tryz.func148 J J J (bc (cj J J fun g1 w1 l1 x1 k1=>ce bv J fun g2 w2 l2 x2 k2=>(dR (af J J (dj) (ak J J (ai MH J (x2.cell_some (k1.cell (i:=0) J))) (cC J J cn (af J J (dj) (iD J J (k1.ext x2) zG J J fun w1_4 q1_4 k1_4=>?_))))))))
 have x1_4:=aH.of_new ((x1.trans x2)) q1_4 l1
 refine dR (ak J J (k1_4.ld MC J ag) (aq iH J J ((Bm (a:=(!a.1,a.2.1,a.2.2)) (aU.mk (hx.ext x1_4) (hy.ext x1_4)) ha)) ?_))
 rintro v8 w8 ⟨x8,⟨x8_0,x8_1,rfl,f8_0,f8_1⟩⟩
 have j1_k2:=((k2.other q1_4 fun e=>by have h1:=k1.lt;have h2:=l2;have h4:=Nc e;omega).ext x8)
 refine bD J J j1_k2 J ag (am.cons J (am.cons f8_0.one (am.cons f8_1.one am.nil))) fun w2_2 q2_2 k2_2=>?_
 have x2_2:=aH.of_new ((x1_4.trans x8)) q2_2 (Nb (x1).size l2)
 have m2_2:=Kq.of1 (p:=[0,3,3]) j1_k2 (ac rfl (ac rfl (ac rfl aT))) q2_2
 refine aI (aD (bp J (.cell J (k2_2.ld MC J ag) .nil) ?_))
 exact⟨_,J,x2_2,(aU.mk (f8_0.kq m2_2) (f8_1.kq m2_2))⟩
theorem yx {w:World} {a b:gR} {v u:Value} (hv:RV a v w) (hu:RV b u w) (ha:Lq 34359738368 a) (hb:Lq 34359738368 b):
 Calls Tryz.prog 70 #[v,u] w (cA fun r w'=>aH w w'∧QV (qr a+qr b) r w'):=by
 obtain⟨x,y,rfl,hx,hy⟩:=hv
 obtain⟨p,q,rfl,hp,hq⟩:=hu
 have ha1:=ha.1
 have hb1:=hb.1
 have ha2:=ha.2
 have hb2:=hb.2
 have hda:(lb (qd a)).length≤34359738368:=tQ (EG ha.2 (by omega))
 have hdb:(lb (qd b)).length≤34359738368:=tQ (EG hb.2 (by omega))
 have d1:(lb (val a.2.1*qd b)).length≤34359738368+34359738368:=li (tQ ha1) hdb
 have d2:(lb (val b.2.1*qd a)).length≤34359738368+34359738368:=li (tQ hb1) hda
 have c1:=lT ha hb (by omega)
 have c2:=lT hb ha (by omega)
 have c3:(lb (qn a*(qd b:Int)+qn b*(qd a:Int)).natAbs).length≤68719476736+68719476736+1:=by
  have h1:(qn a*(qd b:Int)+qn b*(qd a:Int)).natAbs≤(qn a*(qd b:Int)).natAbs+(qn b*(qd a:Int)).natAbs:=Int.natAbs_add_le _ _
  have:=yt h1 (zJ c1 c2)
  omega
 have c4:(lb (qd a*qd b)).length≤34359738368+34359738368:=li hda hdb
 have hp0:=Nat.mul_pos (ii a) (ii b)
 have e1:fC a.1 (val a.2.1*qd b)=qn a*(qd b:Int):=by unfold qn fC;split<;>simp[Int.neg_mul]
 have e2:fC b.1 (val b.2.1*qd a)=qn b*(qd a:Int):=by unfold qn fC;split<;>simp[Int.neg_mul]
 refine enter (vs:=[.agg #[B a.1,x,y],.agg #[B b.1,p,q]]) Tryz.func70 J J J (bc (cj J J fun g2 w2 l2 x2 k2=>cj J J fun g3 w3 l3 x3 k3=>ce bv J fun g4 w4 l4 x4 k4=>(aI (aj (bj 10 [2,3,4,5,16] (by kernel_rfl) (by kernel_rfl) ?_)))))
 have e7:=x3.trans x4
 refine al J J (fun w hw=>dj) (ap J J (fun w hw=>ai MH J (hw.cell_some (e7.cell_some (k2.cell (i:=0) J)))) (al J J (fun w hw=>ed) (ap J J (fun w hw=>ai MD J (hw.cell_some (e7.cell_some (k2.cell (i:=1) J)))) (al J J (fun w hw=>gq) (ap J J (fun w hw=>ai MD J (hw.cell_some (x4.cell_some (k3.cell (i:=2) J)))) ?_)))))
 have e3:=(x2.trans x3).trans x4
 refine es (S:=bH (lb (qd b))) j5 (bH.stable _) J J (fun w hw=>j6 ((hq.ext e3).ext hw) (by omega)) (bZ (S:=bH (lb (val a.2.1*qd b))) nG (bH.stable _) J (fun w hw=>by rintro _ rfl v14 h14;exact(by have:=nH ((hx.ext e3).ext hw) h14 (by omega) (by omega);rw[bk] at this;exact this)) (et (S:=eW a.1 (lb (val a.2.1*qd b))) (eW.stable _ _) J (fun w hw=>by rintro _ rfl v15 h15;obtain⟨_,_,_,rfl⟩:=h15.isS;exact⟨_,w,run_build _ _ _ _ (by kernel_rfl),aH.refl _,_,J,h15⟩) (tL (b:=w4.heap.size) (A9.stable _ _ _) dX J (fun w hw=>hw.size) (bA ?_))))
 rintro wg1 xg1 _ rfl _ rfl _ rfl _ ⟨g5,rfl,l5,k5⟩ _ ⟨x16_0,rfl,f16_0⟩
 refine bD J J k5 J bE (am.cons J (am.cons f16_0.one am.nil)) fun w1_10 q1_10 k1_10=>?_
 have x1_10:=aH.of_new (xg1) q1_10 l5
 have m1_10:=Kq.of1 (p:=[0,3]) k5 (ac rfl (ac rfl aT)) q1_10
 refine aI (aj (bj 10 [2,3,4,5,6,25] (by kernel_rfl) (by kernel_rfl) ?_))
 have e8:=x4.trans x1_10
 refine al J J (fun w hw=>dj) (ap J J (fun w hw=>ai MH J (hw.cell_some (e8.cell_some (k3.cell (i:=0) J)))) (al J J (fun w hw=>ed) (ap J J (fun w hw=>ai MD J (hw.cell_some (e8.cell_some (k3.cell (i:=1) J)))) (al J J (fun w hw=>gq) (ap J J (fun w hw=>ai MD J (hw.cell_some ((e7.trans x1_10).cell_some (k2.cell (i:=2) J)))) ?_)))))
 have e9:=e3.trans x1_10
 refine es (S:=bH (lb (qd a))) j5 (bH.stable _) J J (fun w hw=>j6 ((hy.ext e9).ext hw) (by omega)) (bZ (S:=bH (lb (val b.2.1*qd a))) nG (bH.stable _) J (fun w hw=>by rintro _ rfl v23 h23;exact(by have:=nH ((hp.ext e9).ext hw) h23 (by omega) (by omega);rw[bk] at this;exact this)) (et (S:=eW b.1 (lb (val b.2.1*qd a))) (eW.stable _ _) J (fun w hw=>by rintro _ rfl v24 h24;obtain⟨_,_,_,rfl⟩:=h24.isS;exact⟨_,w,run_build _ _ _ _ (by kernel_rfl),aH.refl _,_,J,h24⟩) (tL (b:=w1_10.heap.size) (A9.stable _ _ _) dX J (fun w hw=>hw.size) (bA ?_))))
 rintro wg2 xg2 _ rfl _ rfl _ rfl _ rfl _ ⟨g6,rfl,l6,k6⟩ _ ⟨x25_0,rfl,f25_0⟩
 refine bD J J k6 J bE (am.cons J (am.cons f25_0.one am.nil)) fun w2_10 q2_10 k2_10=>?_
 have x2_10:=aH.of_new (xg2) q2_10 l6
 have m2_10:=Kq.of1 (p:=[0,3]) k6 (ac rfl (ac rfl aT)) q2_10
 refine dR (ak J J ((k1_10.ext x2_10).ld MR J bE) (ak J J (k2_10.ld MR J bE) (aq CT J J ((by have:=CV (s:=a.1) (t:=b.1) (eW.mk ((f16_0.kq m1_10).ext x2_10)) (eW.mk (f25_0.kq m2_10)) (by omega) (by omega);rw[bk,bk,e1,e2] at this;exact this)) ?_)))
 rintro v28 w28 ⟨x28,⟨x28_0,rfl,f28_0⟩⟩
 refine ce dX J fun g7 w7 l7 x7 k7=>bD J J k7 J bE (am.cons J (am.cons f28_0.one am.nil)) fun w3_4 q3_4 k3_4=>?_
 have x3_4:=aH.of_new (x7) q3_4 l7
 refine aI (aj (bj 12 [4,40] (by kernel_rfl) (by kernel_rfl) (al J J (fun w hw=>cS) (ap J J (fun w hw=>ai MH J (hw.cell_some (k3_4.cell (i:=0) J))) (al J J (fun w hw=>cc) (ap J J (fun w hw=>ai MD J (hw.cell_some (k3_4.cell (i:=1) J))) (al J J (fun w hw=>gq) (ap J J (fun w hw=>ai MD J (hw.cell_some (((((e7.trans x1_10).trans x2_10).trans x28).trans x3_4).cell_some (k2.cell (i:=2) J)))) ?_))))))))
 have e5:=((e9.trans x2_10).trans x28).trans x3_4
 refine es (S:=bH (lb (qd a))) j5 (bH.stable _) J J (fun w hw=>j6 ((hy.ext e5).ext hw) (by omega)) ?_
 have e6:=((e8.trans x2_10).trans x28).trans x3_4
 refine al J J (fun w hw=>gq) (ap J J (fun w hw=>ai MD J (hw.cell_some (e6.cell_some (k3.cell (i:=2) J)))) (es (S:=bH (lb (qd b))) j5 (bH.stable _) J J (fun w hw=>j6 ((hq.ext e5).ext hw) (by omega)) (bZ (S:=bH (lb (qd a*qd b))) nG (bH.stable _) J (fun w hw=>by rintro v35 h35 v38 h38;exact(by have:=nH h35 h38 (by omega) (by omega);rw[bk,bk] at this;exact this)) (bZ (S:=QV (qr a+qr b)) oD (QV.stable _) J (fun w hw=>by rintro _ rfl _ rfl v39 h39;exact(by have:=zM (w:=w) (s:=decide (qn a*(qd b:Int)+qn b*(qd a:Int)<0)) ((f28_0.ext x3_4).ext hw) h39 (by omega) (by omega) (by rw[bk];exact hp0);rw[bk,bk,gE,←EH] at this;exact this)) (bA ?_)))))
 rintro wg4 xg4 _ rfl _ ⟨x40_0,x40_1,rfl,f40_0,f40_1⟩
 have e4:=(((x1_10.trans x2_10).trans x28).trans x3_4).trans xg4
 refine bD J J (k4.ext e4) J ag (am.cons J (am.cons f40_0.one (am.cons f40_1.one am.nil))) fun w4_12 q4_12 k4_12=>?_
 have x4_12:=aH.of_new ((e6.trans xg4)) q4_12 l4
 have m4_12:=Kq.of1 (p:=[0,3,3]) (k4.ext e4) (ac rfl (ac rfl (ac rfl aT))) q4_12
 refine aI (aD (bp J (.cell J (k4_12.ld MC J ag) .nil) ?_))
 exact⟨_,J,((x2.trans x3).trans x4_12),(aU.mk (f40_0.kq m4_12) (f40_1.kq m4_12))⟩
theorem Ga {w:World} {a b:gR} {v u:Value} (hv:RV a v w) (hu:RV b u w) (ha:Lq 34359738368 a) (hb:Lq 34359738368 b) (hc:Lq 34359738368 ((-qr b).sg,(-qr b).nl,(-qr b).dl)):
 Calls Tryz.prog 72 #[v,u] w (cA fun r w'=>aH w w'∧QV (qr a-qr b) r w'):=by
 obtain⟨x,y,rfl,hx,hy⟩:=hv
 obtain⟨p,q,rfl,hp,hq⟩:=hu
 have e:qr a-qr b=qr a+qr ((-qr b).sg,(-qr b).nl,(-qr b).dl):=by rw[Rat.sub_eq_add_neg,show qr ((-qr b).sg,(-qr b).nl,(-qr b).dl)= -qr b from qP _]
 rw[e]
 have hb':Lq 137438953472 b:=⟨Nb hb.1 (by omega),Nb hb.2 (by omega)⟩
 refine enter (vs:=[.agg #[B a.1,x,y],.agg #[B b.1,p,q]]) Tryz.func72 J J J (bc (cj J J fun g2 w2 l2 x2 k2=>cj J J fun g3 w3 l3 x3 k3=>ce bv J fun g4 w4 l4 x4 k4=>(aI (aj (bj 4 [4,8] (by kernel_rfl) (by kernel_rfl) (ap J J (fun w hw=>((k2.ext (x3.trans x4)).ext hw).ld MC J ag) (ap J J (fun w hw=>((k3.ext x4).ext hw).ld MC J ag) ?_)))))))
 have e1:=(x2.trans x3).trans x4
 refine es (S:=QV (-qr b)) F7 (QV.stable _) J J (fun w hw=>F9 ((aU.mk (hp.ext e1) (hq.ext e1)).ext hw) hb') (bZ (S:=QV (qr a+qr ((-qr b).sg,(-qr b).nl,(-qr b).dl))) ke (QV.stable _) J (fun w hw=>by rintro _ rfl v7 h7;exact(yx (a:=a) (b:=((-qr b).sg,(-qr b).nl,(-qr b).dl)) ((aU.mk (hx.ext e1) (hy.ext e1)).ext hw) h7 ha hc)) (bA ?_))
 rintro wg1 xg1 _ rfl _ ⟨x8_0,x8_1,rfl,f8_0,f8_1⟩
 refine bD J J (k4.ext xg1) J ag (am.cons J (am.cons f8_0.one (am.cons f8_1.one am.nil))) fun w1_4 q1_4 k1_4=>?_
 have x1_4:=aH.of_new ((x4.trans xg1)) q1_4 l4
 have m1_4:=Kq.of1 (p:=[0,3,3]) (k4.ext xg1) (ac rfl (ac rfl (ac rfl aT))) q1_4
 refine aI (aD (bp J (.cell J (k1_4.ld MC J ag) .nil) ?_))
 exact⟨_,J,((x2.trans x3).trans x1_4),(aU.mk (f8_0.kq m1_4) (f8_1.kq m1_4))⟩
theorem Gb {w:World} {a b:gR} {v u:Value} (hv:RV a v w) (hu:RV b u w) (ha:Lq 34359738368 a) (hb:Lq 34359738368 b):
 Calls Tryz.prog 71 #[v,u] w (cA fun r w'=>aH w w'∧QV (qr a*qr b) r w'):=by
 obtain⟨x,y,rfl,hx,hy⟩:=hv
 obtain⟨p,q,rfl,hp,hq⟩:=hu
 have ha1:=ha.1
 have hb1:=hb.1
 have ha2:=ha.2
 have hb2:=hb.2
 have hda:(lb (qd a)).length≤34359738368:=tQ (EG ha.2 (by omega))
 have hdb:(lb (qd b)).length≤34359738368:=tQ (EG hb.2 (by omega))
 have c3:(lb (val a.2.1*val b.2.1)).length≤34359738368+34359738368:=li (tQ ha1) (tQ hb1)
 have c4:(lb (qd a*qd b)).length≤34359738368+34359738368:=li hda hdb
 have hp0:=Nat.mul_pos (ii a) (ii b)
 refine enter (vs:=[.agg #[B a.1,x,y],.agg #[B b.1,p,q]]) Tryz.func71 J J J (bc (cj J J fun g2 w2 l2 x2 k2=>cj J J fun g3 w3 l3 x3 k3=>ce bv J fun g4 w4 l4 x4 k4=>(aI (aj (bj 18 [4,22] (by kernel_rfl) (by kernel_rfl) (al J J (fun w hw=>dj) (ap J J (fun w hw=>ai MH J (hw.cell_some ((x3.trans x4).cell_some (k2.cell (i:=0) J)))) (al J J (fun w hw=>dj) (ap J J (fun w hw=>ai MH J (hw.cell_some (x4.cell_some (k3.cell (i:=0) J)))) (bC J J J (fun w _=>sR MH) (al J J (fun w hw=>ed) (ap J J (fun w hw=>ai MD J (hw.cell_some ((x3.trans x4).cell_some (k2.cell (i:=1) J)))) (al J J (fun w hw=>ed) ?_)))))))))))))
 have e1:=(x2.trans x3).trans x4
 refine ap J J (fun w hw=>ai MD J (hw.cell_some (x4.cell_some (k3.cell (i:=1) J)))) (bZ (S:=bH (lb (val a.2.1*val b.2.1))) nG (bH.stable _) J (fun w hw=>by rintro _ rfl _ rfl;exact nH ((hx.ext e1).ext hw) ((hp.ext e1).ext hw) (by omega) (by omega)) (al J J (fun w hw=>gq) (ap J J (fun w hw=>ai MD J (hw.cell_some ((x3.trans x4).cell_some (k2.cell (i:=2) J)))) (es (S:=bH (lb (qd a))) j5 (bH.stable _) J J (fun w hw=>j6 ((hy.ext e1).ext hw) (by omega)) (al J J (fun w hw=>gq) (ap J J (fun w hw=>ai MD J (hw.cell_some (x4.cell_some (k3.cell (i:=2) J)))) (es (S:=bH (lb (qd b))) j5 (bH.stable _) J J (fun w hw=>j6 ((hq.ext e1).ext hw) (by omega)) (bZ (S:=bH (lb (qd a*qd b))) nG (bH.stable _) J (fun w hw=>by rintro v17 h17 v20 h20;exact(by have:=nH h17 h20 (by omega) (by omega);rw[bk,bk] at this;exact this)) ?_))))))))
 refine bZ (S:=QV (qr a*qr b)) oD (QV.stable _) J (fun w hw=>by rintro _ rfl v14 h14 v21 h21;exact(by have:=zM (w:=w) (s:=a.1 !=b.1) h14 h21 (by omega) (by omega) (by rw[bk];exact hp0);rw[bk,bk,←EJ] at this;exact this)) (bA ?_)
 rintro wg1 xg1 _ rfl _ ⟨x22_0,x22_1,rfl,f22_0,f22_1⟩
 refine bD J J (k4.ext xg1) J ag (am.cons J (am.cons f22_0.one (am.cons f22_1.one am.nil))) fun w1_18 q1_18 k1_18=>?_
 have x1_18:=aH.of_new ((x4.trans xg1)) q1_18 l4
 have m1_18:=Kq.of1 (p:=[0,3,3]) (k4.ext xg1) (ac rfl (ac rfl (ac rfl aT))) q1_18
 refine aI (aD (bp J (.cell J (k1_18.ld MC J ag) .nil) ?_))
 exact⟨_,J,((x2.trans x3).trans x1_18),(aU.mk (f22_0.kq m1_18) (f22_1.kq m1_18))⟩
def cR (x:Rat):gR:=(x.sg,x.nl,x.dl)
theorem gZ (x:Rat):qr (cR x)=x:=qP x
theorem gt {x:Rat} {k:Nat} (h:bt x≤k):Lq k (cR x):=⟨by have:=zx x;show x.nl.length≤k;omega,by have:=zy x;show x.dl.length≤k;omega⟩
section
variable {w:World} {x y:Rat} {v u:Value}
theorem EK (hv:QV x v w) (hu:QV y u w) (h:bt x+bt y≤34359738368):Calls Tryz.prog 165 #[v,u] w (cA fun r w'=>aH w w'∧QV (x+y) r w'):=by
 have:=yv (a:=cR x) (b:=cR y) hv hu (gt (by omega)) (gt (by omega))
 rwa [gZ,gZ] at this
theorem EL (hv:QV x v w) (hu:QV y u w) (h:bt x+bt y≤34359738368):Calls Tryz.prog 361 #[v,u] w (cA fun r w'=>aH w w'∧QV (x-y) r w'):=by
 have:=F3 (a:=cR x) (b:=cR y) hv hu (gt (by omega)) (gt (by omega))
 rwa [gZ,gZ] at this
theorem uC (hv:QV x v w) (hu:QV y u w) (h:bt x+bt y≤34359738368):Calls Tryz.prog 166 #[v,u] w (cA fun r w'=>aH w w'∧QV (x*y) r w'):=by
 have:=F4 (a:=cR x) (b:=cR y) hv hu (gt (by omega)) (gt (by omega))
 rwa [gZ,gZ] at this
theorem Ia (hv:QV x v w) (hu:QV y u w) (h:bt x+bt y≤34359738368) (h0:y≠0):Calls Tryz.prog 304 #[v,u] w (cA fun r w'=>aH w w'∧gQ (QV (x/y)) (Is (I 0)) r w'):=by
 have:=F5 (a:=cR x) (b:=cR y) hv hu (gt (by omega)) (gt (by omega)) (by rw[gZ];exact h0)
 rwa [gZ,gZ] at this
theorem KF (hv:QV x v w) (hu:QV y u w) (h:bt x+bt y≤34359738368):Calls Tryz.prog 164 #[v,u] w (cA fun r w'=>aH w w'∧QV (max x y) r w'):=by
 have:=F6 (a:=cR x) (b:=cR y) hv hu (gt (by omega)) (gt (by omega))
 rwa [gZ,gZ] at this
theorem p7 (hv:QV x v w) (hu:QV y u w) (h:bt x+bt y≤34359738368):Calls Tryz.prog 142 #[v,u] w (cA fun r w'=>aH w w'∧Is (I (f6 x y)) r w'):=by
 have:=yu (a:=cR x) (b:=cR y) hv hu (gt (by omega)) (gt (by omega))
 rwa [gZ,gZ] at this
theorem yy (hv:QV x v w) (h:bt x≤34359738368):Calls Tryz.prog 140 #[v] w (cA fun r w'=>aH w w'∧QV (-x) r w'):=by
 have:=F2 (a:=cR x) hv (gt (by omega))
 rwa [gZ] at this
theorem vu (hv:QV x v w) (h:bt x≤34359738368):Calls Tryz.prog 163 #[v] w (cA fun r w'=>aH w w'∧QV x r w'):=by
 have:=nJ (a:=cR x) hv (gt (by omega))
 rwa [gZ] at this
theorem ek (hv:QV x v w) (h:bt x≤34359738368):Calls Tryz.prog 159 #[v] w (cA fun r w'=>aH w w'∧Is (I (gx x)) r w'):=by
 have:=oP (a:=cR x) hv (by have:=(gt h).1;omega)
 rwa [gZ] at this
theorem yz (hv:QV x v w) (hu:QV y u w) (h:bt x+bt y≤34359738368):Calls Tryz.prog 70 #[v,u] w (cA fun r w'=>aH w w'∧QV (x+y) r w'):=by
 have:=yx (a:=cR x) (b:=cR y) hv hu (gt (by omega)) (gt (by omega))
 rwa [gZ,gZ] at this
theorem KG (hv:QV x v w) (hu:QV y u w) (h:bt x+bt y≤34359738368):Calls Tryz.prog 72 #[v,u] w (cA fun r w'=>aH w w'∧QV (x-y) r w'):=by
 have:=Ga (a:=cR x) (b:=cR y) hv hu (gt (by omega)) (gt (by omega)) (by rw[gZ];exact gt (by rw[jN];omega))
 rwa [gZ,gZ] at this
theorem EM (hv:QV x v w) (hu:QV y u w) (h:bt x+bt y≤34359738368):Calls Tryz.prog 71 #[v,u] w (cA fun r w'=>aH w w'∧QV (x*y) r w'):=by
 have:=Gb (a:=cR x) (b:=cR y) hv hu (gt (by omega)) (gt (by omega))
 rwa [gZ,gZ] at this
theorem sS (hv:QV x v w) (h:bt x≤34359738368):Calls Tryz.prog 227 #[v] w (cA fun r w'=>aH w w'∧QV x r w'):=by
 have:=Bm (a:=cR x) hv (gt (by omega))
 rwa [gZ] at this
theorem mH (hv:QV x v w) (h:bt x≤34359738368):Calls Tryz.prog 23 #[v] w (cA fun r w'=>aH w w'∧Is (I (gx x)) r w'):=by
 have:=CW (a:=cR x) hv (by have:=(gt h).1;omega)
 rwa [gZ] at this
theorem lJ (hv:QV x v w) (h:bt x≤34359738368):Calls Tryz.prog 96 #[v] w (cA fun r w'=>aH w w'∧Is (B true) r w'):=by
 have:=AX hv (Nb (gt (k:=34359738368) (by omega)).1 (by omega)) (Nb (gt (k:=34359738368) (by omega)).2 (by omega))
 rwa [Er] at this
theorem qW (hv:QV x v w) (h:bt x≤34359738368):Calls Tryz.prog 215 #[v] w (cA fun r w'=>aH w w'∧Is (B true) r w'):=by
 have:=AY hv (Nb (gt (k:=34359738368) (by omega)).1 (by omega)) (Nb (gt (k:=34359738368) (by omega)).2 (by omega))
 rwa [Er] at this
end
theorem jU {w:World} {x y:Rat} {v u:Value} (hv:QV x v w) (hu:QV y u w) (hb:bt x+bt y≤34359738368):
 Calls Tryz.prog 21 #[v,u] w (cA fun r w'=>aH w w'∧Is (I (f6 x y)) r w'):=by
 obtain⟨x1,x2,rfl,hx1,hx2⟩:=hv
 obtain⟨y1,y2,rfl,hy1,hy2⟩:=hu
 rw[←AU]
 have hs:=oC x y
 refine enter (vs:=[.agg #[B x.sg,x1,x2],.agg #[B y.sg,y1,y2]]) Tryz.func21 J J J (bc (cj J J fun g2 w2 l2 x2 k2=>cj J J fun g3 w3 l3 x3 k3=>(aa J J (dR (ak J J ((k2.ext x3).ld MC J ag) (ak J J (k3.ld MC J ag) ?_))))))
 have e1:=x2.trans x3
 refine aq yw J J (KG (aU.mk (hx1.ext e1) (hx2.ext e1)) (aU.mk (hy1.ext e1) (hy2.ext e1)) hb) ?_
 rintro v7 w7 ⟨x7,⟨x7_0,x7_1,rfl,f7_0,f7_1⟩⟩
 refine aq f9 J J (mH (aU.mk f7_0 f7_1) (by omega)) ?_
 rintro v8 w8 ⟨x8,rfl⟩
 refine aa J J (aI (aD (aF J J ?_)))
 exact⟨_,J,((e1.trans x7).trans x8),J⟩
theorem Mh {w:World} {x y:Rat} {v u:Value} (hv:QV x v w) (hu:QV y u w) (hb:bt x+bt y≤34359738368):
 Calls Tryz.prog 230 #[v,u] w (cA fun r w'=>aH w w'∧QV (max x y) r w'):=by
 obtain⟨x1,x2,rfl,hx1,hx2⟩:=hv
 obtain⟨y1,y2,rfl,hy1,hy2⟩:=hu
 refine enter (vs:=[.agg #[B x.sg,x1,x2],.agg #[B y.sg,y1,y2]]) Tryz.func230 J J J (bc (cj J J fun g2 w2 l2 x2 k2=>cj J J fun g3 w3 l3 x3 k3=>ce bv J fun g4 w4 l4 x4 k4=>(aI (aj (bc (ak J J ((k2.ext (x3.trans x4)).ld MC J ag) (ak J J ((k3.ext x4).ld MC J ag) ?_)))))))
 have e1:=(x2.trans x3).trans x4
 refine aq ee J J (jU (aU.mk (hx1.ext e1) (hx2.ext e1)) (aU.mk (hy1.ext e1) (hy2.ext e1)) hb) ?_
 rintro v7 w7 ⟨x7,rfl⟩
 refine ao J J J (cz) (aI (ci J (fun h8=>?_) (fun h8=>?_)))
 ·refine bc (ak J J ((k2.ext ((x3.trans x4).trans x7)).ld MC J ag) (aq iH J J (sS (aU.mk (hx1.ext (((x2.trans x3).trans x4).trans x7)) (hx2.ext (((x2.trans x3).trans x4).trans x7))) (by omega)) ?_))
  rintro v10 w10 ⟨x10,⟨x10_0,x10_1,rfl,f10_0,f10_1⟩⟩
  refine bD J J (k4.ext (x7.trans x10)) J ag (am.cons J (am.cons f10_0.one (am.cons f10_1.one am.nil))) fun w2_2 q2_2 k2_2=>?_
  have x2_2:=aH.of_new (((x4.trans x7).trans x10)) q2_2 l4
  have m2_2:=Kq.of1 (p:=[0,3,3]) (k4.ext (x7.trans x10)) (ac rfl (ac rfl (ac rfl aT))) q2_2
  refine aI (aD (a0 (bp J (.cell J (k2_2.ld MC J ag) .nil) ?_)))
  exact⟨_,J,((x2.trans x3).trans x2_2),by
   have:=qU.1 h8
   rw[show max x y=x by rw[Rat.max_def];split<;>grind];exact(aU.mk (f10_0.kq m2_2) (f10_1.kq m2_2))⟩
 ·refine aA (ah (bc (ak J J ((k3.ext (x4.trans x7)).ld MC J ag) (aq iH J J (sS (aU.mk (hy1.ext (((x2.trans x3).trans x4).trans x7)) (hy2.ext (((x2.trans x3).trans x4).trans x7))) (by omega)) ?_))))
  rintro v12 w12 ⟨x12,⟨x12_0,x12_1,rfl,f12_0,f12_1⟩⟩
  refine bD J J (k4.ext (x7.trans x12)) J ag (am.cons J (am.cons f12_0.one (am.cons f12_1.one am.nil))) fun w3_2 q3_2 k3_2=>?_
  have x3_2:=aH.of_new (((x4.trans x7).trans x12)) q3_2 l4
  have m3_2:=Kq.of1 (p:=[0,3,3]) (k4.ext (x7.trans x12)) (ac rfl (ac rfl (ac rfl aT))) q3_2
  refine aI (aD (bp J (.cell J (k3_2.ld MC J ag) .nil) ?_))
  exact⟨_,J,((x2.trans x3).trans x3_2),by
   have:=mt qU.2 h8
   rw[show max x y=y by rw[Rat.max_def];split<;>grind];exact(aU.mk (f12_0.kq m3_2) (f12_1.kq m3_2))⟩
theorem nN {w:World} {x:Int} (h1: -9223372036854775808≤x) (h2:x≤9223372036854775807):
 Calls Tryz.prog 26 #[I x] w (cA fun r w'=>aH w w'∧QV (x:Rat) r w'):=by
 refine enter Tryz.func26 J J J (bc (ce bv J fun g2 w2 l2 x2 k2=>(dR (ab J J (aq tS J J ((tT h1 h2)) ?_)))))
 rintro v5 w5 ⟨x5,⟨x5_0,rfl,f5_0⟩⟩
 refine ce dX J fun g3 w3 l3 x3 k3=>bD J J k3 J bE (am.cons J (am.cons f5_0.one am.nil)) fun w1_3 q1_3 k1_3=>?_
 have x1_3:=aH.of_new (x3) q1_3 l3
 refine dR (af J J (cS) (ak J J (ai MH J (k1_3.cell (i:=0) J)) (af J J (cc) (ak J J (ai MD J (k1_3.cell (i:=1) J)) (bV (r:=.agg #[B (decide (x<0)),x5_0,.slice none 0 0]) J J (by obtain⟨_,_,_,rfl⟩:=f5_0.isS;exact run_build _ _ _ _ (by kernel_rfl)) (bD J J (k2.ext (x5.trans x1_3)) J ag (am.cons J (am.cons f5_0.one (am.cons J am.nil))) fun w2_5 q2_5 k2_5=>?_))))))
 have x2_5:=aH.of_new (((x2.trans x5).trans x1_3)) q2_5 l2
 have m2_5:=Kq.of1 (p:=[0,3,3]) (k2.ext (x5.trans x1_3)) (ac rfl (ac rfl (ac rfl aT))) q2_5
 refine aI (aD (bp J (.cell J (k2_5.ld MC J ag) .nil) ?_))
 exact⟨_,J,x2_5,(aU.mk ((f5_0.ext x1_3).kq m2_5) (bH.nil _))⟩
end Go.Rl
namespace Go.Rl
def jy (v:Int) (c:Rat):List dU:=if c=0 then[] else[⟨v,c⟩]
def Ib (t:dU) (rec:List dU→List dU) (c:Rat):List dU→List dU
 |[]=>jy t.va t.co++rec []
 |u::b=>if t.va<u.va then jy t.va t.co++rec (u::b) else if u.va<t.va then jy u.va (u.co*c)++Ib t rec c b else jy t.va (t.co+u.co*c)++rec b
def dP (c:Rat):List dU→List dU→List dU
 |[],b=>b.flatMap fun u=>jy u.va (u.co*c)
 |t::a,b=>Ib t (fun b=>dP c a b) c b
def gG (f g:dx) (c:Rat):dx:=⟨dP c f.ts g.ts,f.ct+g.ct*c⟩
def lj (f g:dx):dx:=gG f g 1
def kf (f g:dx):dx:=gG f g (-1)
def zF:dx:=⟨[],0⟩
def cN (f:dx) (c:Rat):dx:=gG zF f c
def i7 (v:Int):List dU→Rat
 |[]=>0
 |t::l=>if t.va=v then t.co else i7 v l
def iz (f:dx) (v:Int):Rat:=i7 v f.ts
def p9 (v:Int) (l:List dU):Rat:=l.foldl (fun c t=>if t.va=v then t.co else c) 0
def iA (v:Int) (l:List dU):List dU:=l.filter fun t=>decide (t.va≠v)
def jV (f:dx) (v:Int) (g:dx):dx:=gG ⟨iA v f.ts,f.ct⟩ g (p9 v f.ts)
theorem ji (c:Rat) (u:dU) (b:List dU):dP c [] (u::b)=jy u.va (u.co*c)++dP c [] b:=rfl
theorem jj (c:Rat) (t:dU) (a:List dU):dP c (t::a) []=jy t.va t.co++dP c a []:=rfl
theorem nO {c:Rat} {t u:dU} {a b:List dU} (h:t.va<u.va):dP c (t::a) (u::b)=jy t.va t.co++dP c a (u::b):=if_pos h
theorem nP {c:Rat} {t u:dU} {a b:List dU} (h:u.va<t.va):dP c (t::a) (u::b)=jy u.va (u.co*c)++dP c (t::a) b:=(if_neg (by omega)).trans (if_pos h)
theorem nQ {c:Rat} {t u:dU} {a b:List dU} (h:¬t.va<u.va) (h':¬u.va<t.va):dP c (t::a) (u::b)=jy t.va (t.co+u.co*c)++dP c a b:=(if_neg h).trans (if_neg h')
theorem iV {P:List dU→List dU→Prop} (h0:P [] []) (h1:∀t a,P a []→P (t::a) []) (h2:∀u b,P [] b→P [] (u::b)) (h3:∀t a u b,P a (u::b)→P (t::a) b→P a b→P (t::a) (u::b)):∀a b,P a b
 |[],[]=>h0
 |t::a,[]=>h1 t a (iV h0 h1 h2 h3 a [])
 |[],u::b=>h2 u b (iV h0 h1 h2 h3 [] b)
 |t::a,u::b=>h3 t a u b (iV h0 h1 h2 h3 a (u::b)) (iV h0 h1 h2 h3 (t::a) b) (iV h0 h1 h2 h3 a b)
 termination_by a b=>a.length+b.length
def rx (x:Int→Rat):List dU→Rat
 |[]=>0
 |t::l=>t.co*x t.va+rx x l
def qX (x:Int→Rat) (f:dx):Rat:=f.ct+rx x f.ts
theorem ki (x:Int→Rat):∀a b:List dU,rx x (a++b)=rx x a+rx x b
 |[],b=>by simp only[List.nil_append,rx];grind
 |t::a,b=>by simp only[List.cons_append,rx,ki x a b];grind
theorem sT (x:Int→Rat) (v:Int) (c:Rat):rx x (jy v c)=c*x v:=by
 unfold jy
 split
 ·rename_i h;rw[h];simp only[rx];grind
 ·simp only[rx];grind
theorem Gc (x:Int→Rat) (c:Rat):∀a b:List dU,rx x (dP c a b)=rx x a+c*rx x b:=by
 refine iV ?_ ?_ ?_ ?_
 ·show(0:Rat)=0+c*0
  grind
 ·intro t a h
  rw[jj,ki,sT,h]
  simp only[rx];grind
 ·intro u b h
  rw[ji,ki,sT,h]
  simp only[rx];grind
 ·intro t a u b h1 h2 h3
  rcases Int.lt_trichotomy t.va u.va with h|h|h
  ·rw[nO h,ki,sT,h1];simp only[rx];grind
  ·rw[nQ (by omega) (by omega),ki,sT,h3];simp only[rx];rw[h];grind
  ·rw[nP h,ki,sT,h2];simp only[rx];grind
theorem tW (x:Int→Rat) (f g:dx) (c:Rat):qX x (gG f g c)=qX x f+c*qX x g:=by
 unfold qX gG
 rw[Gc];grind
theorem JU (x:Int→Rat) (f g:dx):qX x (lj f g)=qX x f+qX x g:=by unfold lj;rw[tW];grind
theorem yA (x:Int→Rat) (f:dx) (c:Rat):qX x (cN f c)=c*qX x f:=by
 unfold cN
 rw[tW]
 have:qX x zF=0:=by unfold qX zF;simp only[rx];grind
 grind
def po (n:Int):Int→List dU→Bool
 |_,[]=>true
 |lo,t::l=>decide (lo≤t.va)&&decide (t.va<n)&&decide (t.co≠0)&&po n (t.va+1) l
def i8 (f:dx) (n:Int):Bool:=po n 0 f.ts
theorem eg {n lo:Int} {t:dU} {l:List dU}:po n lo (t::l)=true↔(lo≤t.va∧t.va<n∧t.co≠0)∧po n (t.va+1) l=true:=by
 simp only[po,Bool.and_eq_true,decide_eq_true_eq,and_assoc]
theorem Bn {n lo lo':Int} {l:List dU} (h:po n lo l=true) (hl:lo'≤lo):po n lo' l=true:=by
 cases l with
 |nil=>rfl
 |cons t l=>
  rw[eg] at h⊢
  exact⟨⟨by omega,h.1.2⟩,h.2⟩
theorem qc {n m:Int} (hn:n≤m):∀{lo:Int} {l:List dU},po n lo l=true→po m lo l=true
 |_,[],_=>rfl
 |lo,t::l,h=>by
  rw[eg] at h⊢
  exact⟨⟨h.1.1,by omega,h.1.2.2⟩,qc hn h.2⟩
theorem qY {n lo v:Int} {c:Rat} {l:List dU} (h1:lo≤v) (h2:v<n) (h:po n (v+1) l=true):po n lo (jy v c++l)=true:=by
 unfold jy
 split
 ·exact Bn h (by omega)
 ·rename_i hc
  exact eg.2 ⟨⟨h1,h2,hc⟩,h⟩
theorem yB {n:Int} (c:Rat):∀a b:List dU,∀lo,po n lo a=true→po n lo b=true→po n lo (dP c a b)=true:=by
 refine iV ?_ ?_ ?_ ?_
 ·intro lo _ _;rfl
 ·intro t a ih lo h _
  rw[eg] at h
  rw[jj]
  exact qY h.1.1 h.1.2.1 (ih _ h.2 J)
 ·intro u b ih lo _ h
  rw[eg] at h
  rw[ji]
  exact qY h.1.1 h.1.2.1 (ih _ J h.2)
 ·intro t a u b h1 h2 h3 lo ha hb
  have ha':=eg.1 ha
  have hb':=eg.1 hb
  rcases Int.lt_trichotomy t.va u.va with h|h|h
  ·rw[nO h]
   exact qY ha'.1.1 ha'.1.2.1 (h1 _ ha'.2 (eg.2 ⟨⟨by omega,hb'.1.2⟩,hb'.2⟩))
  ·rw[nQ (by omega) (by omega)]
   exact qY ha'.1.1 ha'.1.2.1 (h3 _ ha'.2 (by rw[h];exact hb'.2))
  ·rw[nP h]
   exact qY hb'.1.1 hb'.1.2.1 (h2 _ (eg.2 ⟨⟨by omega,ha'.1.2⟩,ha'.2⟩) hb'.2)
theorem yC {n:Int} {f g:dx} {c:Rat} (hf:i8 f n=true) (hg:i8 g n=true):i8 (gG f g c) n=true:=yB c _ _ _ hf hg
theorem nR {n:Int} {f:dx} {c:Rat} (hf:i8 f n=true):i8 (cN f c) n=true:=yC rfl hf
theorem jk {n:Int}:∀{lo:Int} {l:List dU},po n lo l=true→0≤n-lo→(l.length:Int)≤n-lo
 |_,[],_,h=>by simpa using h
 |lo,t::l,h,_=>by
  rw[eg] at h
  have:=jk h.2 (by omega)
  rw[List.length_cons]
  omega
theorem ft {n:Int}:∀{lo:Int} {l:List dU},po n lo l=true→∀t∈l,lo≤t.va∧t.va<n∧t.co≠0
 |_,[],_,_,h=>by simp at h
 |lo,u::l,h,t,ht=>by
  rw[eg] at h
  rcases List.mem_cons.1 ht with rfl|ht
  ·exact h.1
  ·have:=ft h.2 t ht
   exact⟨by omega,this.2⟩
theorem Bo {n:Int}:∀{lo:Int} {l:List dU} (v:Int),po n lo l=true→po n lo (iA v l)=true
 |_,[],_,_=>rfl
 |lo,t::l,v,h=>by
  rw[eg] at h
  unfold iA
  rw[List.filter_cons]
  have ih:=Bo v h.2
  split
  ·exact eg.2 ⟨h.1,ih⟩
  ·exact Bn ih (by omega)
theorem oR {v:Int}:∀{l:List dU},(∀t∈l,t.va≠v)→i7 v l=0∧iA v l=l∧∀c:Rat,l.foldl (fun c t=>if t.va=v then t.co else c) c=c
 |[],_=>⟨rfl,rfl,fun _=>rfl⟩
 |t::l,h=>by
  have h1:=h t (by simp)
  obtain⟨a,b,d⟩:=oR (l:=l) fun u hu=>h u (List.mem_cons_of_mem _ hu)
  refine⟨by rw[i7,if_neg h1,a],?_,fun c=>by rw[List.foldl_cons,if_neg h1];exact d c⟩
  unfold iA at b⊢
  rw[List.filter_cons,if_pos (by simpa using h1),b]
theorem zN {n:Int} (v:Int):∀{lo:Int} {l:List dU},po n lo l=true→(∀c:Rat,c=0∨(∀t∈l,t.va≠v)→l.foldl (fun c t=>if t.va=v then t.co else c) c=if (∀t∈l,t.va≠v) then c else i7 v l)∧∀x:Int→Rat,rx x l=i7 v l*x v+rx x (iA v l)
 |_,[],_=>⟨fun c _=>by simp,fun x=>by simp only[rx,i7,iA,List.filter_nil];grind⟩
 |lo,t::l,h=>by
  rw[eg] at h
  have hm:=ft h.2
  obtain⟨ih1,ih2⟩:=zN v h.2
  by_cases ht:t.va=v
  ·have hn:∀u∈l,u.va≠v:=fun u hu=>by have:=hm u hu;omega
   obtain⟨a,b,d⟩:=oR hn
   refine⟨fun c _=>?_,fun x=>?_⟩
   ·rw[List.foldl_cons,if_pos ht,d,if_neg (fun h=>h t (by simp) ht),i7,if_pos ht]
   ·have e:iA v (t::l)=l:=by
     unfold iA at b⊢
     rw[List.filter_cons,if_neg (by simpa using ht),b]
    rw[e,i7,if_pos ht,rx,ht]
  ·refine⟨fun c hc=>?_,fun x=>?_⟩
   ·rw[List.foldl_cons,if_neg ht,ih1 c (hc.imp id fun h u hu=>h u (by simp[hu])),i7,if_neg ht]
    by_cases hl:∀u∈l,u.va≠v
    ·rw[if_pos hl,if_pos (fun u hu=>by rcases List.mem_cons.1 hu with rfl|hu;exact ht;exact hl u hu)]
    ·rw[if_neg hl,if_neg (fun h=>hl fun u hu=>h u (by simp[hu]))]
   ·have e:iA v (t::l)=t::iA v l:=by
     unfold iA
     rw[List.filter_cons,if_pos (by simpa using ht)]
    rw[e,i7,if_neg ht,rx,rx,ih2 x];grind
theorem CX {n lo v:Int} {l:List dU} (h:po n lo l=true):p9 v l=i7 v l:=by
 unfold p9
 rw[(zN v h).1 0 (.inl rfl)]
 split
 ·rename_i h1;exact(oR h1).1.symm
 ·rfl
theorem Gd (x:Int→Rat) {n v:Int} {f g:dx} (h:i8 f n=true):qX x (jV f v g)=qX x f+iz f v*(qX x g-x v):=by
 unfold jV
 rw[tW,CX h]
 have:=(zN v h).2 x
 unfold qX iz
 simp only
 rw[this];grind
def gH:List dU→Nat
 |[]=>0
 |t::l=>bt t.co+gH l
def ew (f:dx):Nat:=bt f.ct+gH f.ts
theorem eo:∀a b:List dU,gH (a++b)=gH a+gH b
 |[],b=>by simp[gH]
 |t::a,b=>by simp only[List.cons_append,gH,eo a b];omega
theorem jW (v:Int) (c:Rat):gH (jy v c)≤bt c:=by
 unfold jy
 split
 ·simp[gH]
 ·simp[gH]
theorem lK:∀{l:List dU} {t:dU},t∈l→bt t.co≤gH l
 |u::l,t,h=>by
  rcases List.mem_cons.1 h with rfl|h
  ·simp only[gH];omega
  ·have:=lK h;simp only[gH];omega
theorem Ge (c:Rat):∀a b:List dU,gH (dP c a b)≤gH a+gH b+b.length*bt c:=by
 refine iV ?_ ?_ ?_ ?_
 ·show gH []≤_;simp[gH]
 ·intro t a h
  rw[jj,eo]
  have:=jW t.va t.co
  simp only[gH,List.length_nil,Nat.zero_mul] at h⊢;omega
 ·intro u b h
  rw[ji,eo]
  have:=jW u.va (u.co*c)
  have:=f7 u.co c
  simp only[gH,List.length_cons,Nat.add_mul,Nat.one_mul] at h⊢;omega
 ·intro t a u b h1 h2 h3
  rcases Int.lt_trichotomy t.va u.va with h|h|h
  ·rw[nO h,eo]
   have:=jW t.va t.co
   simp only[gH,List.length_cons,Nat.add_mul,Nat.one_mul] at h1⊢;omega
  ·rw[nQ (by omega) (by omega),eo]
   have:=jW t.va (t.co+u.co*c)
   have:=f7 u.co c
   have:=gP t.co (u.co*c)
   simp only[gH,List.length_cons,Nat.add_mul,Nat.one_mul] at h3⊢;omega
  ·rw[nP h,eo]
   have:=jW u.va (u.co*c)
   have:=f7 u.co c
   simp only[gH,List.length_cons,Nat.add_mul,Nat.one_mul] at h2⊢;omega
theorem iW (f g:dx) (c:Rat):ew (gG f g c)≤ew f+ew g+(g.ts.length+1)*bt c:=by
 have h1:=Ge c f.ts g.ts
 have h2:=f7 g.ct c
 have h3:=gP f.ct (g.ct*c)
 unfold ew gG
 rw[Nat.add_mul,Nat.one_mul]
 simp only
 omega
theorem eP (v:Int) (c:Rat):(jy v c).length≤1:=by unfold jy;split<;>simp
theorem kj (c:Rat):∀a b:List dU,(dP c a b).length≤a.length+b.length:=by
 refine iV ?_ ?_ ?_ ?_
 ·show[].length≤_;simp
 ·intro t a h
  rw[jj,List.length_append]
  have:=eP t.va t.co
  simp only[List.length_cons,List.length_nil] at h⊢;omega
 ·intro u b h
  rw[ji,List.length_append]
  have:=eP u.va (u.co*c)
  simp only[List.length_cons,List.length_nil] at h⊢;omega
 ·intro t a u b h1 h2 h3
  rcases Int.lt_trichotomy t.va u.va with h|h|h
  ·rw[nO h,List.length_append]
   have:=eP t.va t.co
   simp only[List.length_cons] at h1⊢;omega
  ·rw[nQ (by omega) (by omega),List.length_append]
   have:=eP t.va (t.co+u.co*c)
   simp only[List.length_cons] at h3⊢;omega
  ·rw[nP h,List.length_append]
   have:=eP u.va (u.co*c)
   simp only[List.length_cons] at h2⊢;omega
theorem wr (v:Int):∀l:List dU,gH (iA v l)≤gH l
 |[]=>Nat.le_refl _
 |t::l=>by
  have:=wr v l
  unfold iA at this⊢
  rw[List.filter_cons]
  split<;>simp only[gH]<;>omega
theorem EN (v:Int):∀l:List dU,bt (i7 v l)≤gH l+2
 |[]=>by rw[i7];decide
 |t::l=>by
  have:=EN v l
  rw[i7]
  split<;>simp only[gH]<;>omega
end Go.Rl
namespace Go.Rl
open Go.RowKit Go.Proofs
section
variable {P:Program} {Q:ie} {N:Nat} {D:List Deferred} {l:Fr} {w:World}
theorem zO {c:Code} {α β γ δ ε ζ:Type} (fr:α→β→γ→δ→ε→ζ→Fr) (H:α→β→γ→δ→ε→ζ→World→Prop) (mu:α→β→γ→δ→ε→ζ→Nat) (x0:α) (y0:β) (z0:γ) (u0:δ) (v0:ε) (s0:ζ) (hs:xp (fr x0 y0 z0 u0 v0 s0) l) (h0:H x0 y0 z0 u0 v0 s0 w)
 (round:∀x y z u v s w',H x y z u v s w'→d5 P (Exit.then (fun a w''=>∃x' y' z' u' v' s',At N D (fr x' y' z' u' v' s') a∧H x' y' z' u' v' s' w''∧mu x' y' z' u' v' s'<mu x y z u v s) Q) N D (fr x y z u v s) w' c):d5 P Q N D l w (.loop c):=
 dS (α:=α×β×γ×δ×ε×ζ) (fun p=>fr p.1 p.2.1 p.2.2.1 p.2.2.2.1 p.2.2.2.2.1 p.2.2.2.2.2) (fun p=>H p.1 p.2.1 p.2.2.1 p.2.2.2.1 p.2.2.2.2.1 p.2.2.2.2.2) (fun p=>mu p.1 p.2.1 p.2.2.1 p.2.2.2.1 p.2.2.2.2.1 p.2.2.2.2.2) (x0,y0,z0,u0,v0,s0) hs h0 fun p w' h a ha=>
  wp_mono (round p.1 p.2.1 p.2.2.1 p.2.2.2.1 p.2.2.2.2.1 p.2.2.2.2.2 w' h a ha) fun e a' w'' hq=>by
   cases e with
   |normal=>
    obtain⟨x',y',z',u',v',s',h1,h2,h3⟩:=hq
    exact⟨(x',y',z',u',v',s'),h1,h2,h3⟩
   |_=>exact hq
theorem kP {α β γ δ ε ζ:Type} {fr:α→β→γ→δ→ε→ζ→Fr} {H:α→β→γ→δ→ε→ζ→World→Prop} {mu:α→β→γ→δ→ε→ζ→Nat} {m:Nat} (x:α) (y:β) (z:γ) (u:δ) (v:ε) (s:ζ) (hs:xp (fr x y z u v s) l) (hH:H x y z u v s w) (hm:mu x y z u v s<m):iE (Exit.then (fun a w''=>∃x' y' z' u' v' s',At N D (fr x' y' z' u' v' s') a∧H x' y' z' u' v' s' w''∧mu x' y' z' u' v' s'<m) Q) N D l w:=
 fun _ ha=>⟨x,y,z,u,v,s,ha.weak hs,hH,hm⟩
theorem JV {c:Code} {α β γ δ ε ζ η:Type} (fr:α→β→γ→δ→ε→ζ→η→Fr) (H:α→β→γ→δ→ε→ζ→η→World→Prop) (mu:α→β→γ→δ→ε→ζ→η→Nat) (x0:α) (y0:β) (z0:γ) (u0:δ) (v0:ε) (s0:ζ) (t0:η) (hs:xp (fr x0 y0 z0 u0 v0 s0 t0) l) (h0:H x0 y0 z0 u0 v0 s0 t0 w)
 (round:∀x y z u v s t w',H x y z u v s t w'→d5 P (Exit.then (fun a w''=>∃x' y' z' u' v' s' t',At N D (fr x' y' z' u' v' s' t') a∧H x' y' z' u' v' s' t' w''∧mu x' y' z' u' v' s' t'<mu x y z u v s t) Q) N D (fr x y z u v s t) w' c):d5 P Q N D l w (.loop c):=
 dS (α:=α×β×γ×δ×ε×ζ×η) (fun p=>fr p.1 p.2.1 p.2.2.1 p.2.2.2.1 p.2.2.2.2.1 p.2.2.2.2.2.1 p.2.2.2.2.2.2) (fun p=>H p.1 p.2.1 p.2.2.1 p.2.2.2.1 p.2.2.2.2.1 p.2.2.2.2.2.1 p.2.2.2.2.2.2) (fun p=>mu p.1 p.2.1 p.2.2.1 p.2.2.2.1 p.2.2.2.2.1 p.2.2.2.2.2.1 p.2.2.2.2.2.2) (x0,y0,z0,u0,v0,s0,t0) hs h0 fun p w' h a ha=>
  wp_mono (round p.1 p.2.1 p.2.2.1 p.2.2.2.1 p.2.2.2.2.1 p.2.2.2.2.2.1 p.2.2.2.2.2.2 w' h a ha) fun e a' w'' hq=>by
   cases e with
   |normal=>
    obtain⟨x',y',z',u',v',s',t',h1,h2,h3⟩:=hq
    exact⟨(x',y',z',u',v',s',t'),h1,h2,h3⟩
   |_=>exact hq
theorem Bp {α β γ δ ε ζ η:Type} {fr:α→β→γ→δ→ε→ζ→η→Fr} {H:α→β→γ→δ→ε→ζ→η→World→Prop} {mu:α→β→γ→δ→ε→ζ→η→Nat} {m:Nat} (x:α) (y:β) (z:γ) (u:δ) (v:ε) (s:ζ) (t:η) (hs:xp (fr x y z u v s t) l) (hH:H x y z u v s t w) (hm:mu x y z u v s t<m):iE (Exit.then (fun a w''=>∃x' y' z' u' v' s' t',At N D (fr x' y' z' u' v' s' t') a∧H x' y' z' u' v' s' t' w''∧mu x' y' z' u' v' s' t'<m) Q) N D l w:=
 fun _ ha=>⟨x,y,z,u,v,s,t,ha.weak hs,hH,hm⟩
end
end Go.Rl
namespace Go.Rl
open Go.RowKit Go.Proofs
theorem nS:az Tryz.prog 277:=⟨_,Tryz.func277,by kernel_rfl,rfl⟩
theorem m6:az Tryz.prog 202:=⟨_,Tryz.func202,by kernel_rfl,rfl⟩
theorem yD:az Tryz.prog 114:=⟨_,Tryz.func114,by kernel_rfl,rfl⟩
theorem qZ:az Tryz.prog 200:=⟨_,Tryz.func200,by kernel_rfl,rfl⟩
theorem m7:az Tryz.prog 139:=⟨_,Tryz.func139,by kernel_rfl,rfl⟩
theorem iP:az Tryz.prog 117:=⟨_,Tryz.func117,by kernel_rfl,rfl⟩
theorem CY:az Tryz.prog 406:=⟨_,Tryz.func406,by kernel_rfl,rfl⟩
theorem zP:az Tryz.prog 408:=⟨_,Tryz.func408,by kernel_rfl,rfl⟩
theorem Bq:az Tryz.prog 310:=⟨_,Tryz.func310,by kernel_rfl,rfl⟩
theorem zQ {x:Rat}:gx x≠0↔x≠0:=by
 rcases oQ x with⟨h1,h2⟩|⟨h1,h2⟩|⟨h1,h2⟩<;>rw[h1]<;>constructor<;>intro h<;>first|omega|grind
theorem Ic {v:Int} {c:Rat} (h:c≠0):jy v c=[⟨v,c⟩]:=if_neg h
theorem Ie {v:Int} {c:Rat} (h:c=0):jy v c=[]:=if_pos h
theorem qe {w0 w:World} {ts:List dU} {ct c:Rat} {n:Int} {x y z u:Value} (e0:aH w0 w) (hx:lz w0.heap.size ts x w) (hy:bH ct.nl y w) (hz:bH ct.dl z w) (hc:QV c u w) (hb:bt c≤34359738368) (hl:ts.length≤549755813888):
 Calls Tryz.prog 277 #[.agg #[x,B ct.sg,y,z],I n,u] w (cA fun r w'=>∃x',r=.agg #[x',B ct.sg,y,z]∧lz w0.heap.size (ts++jy n c) x' w'∧gi w w' x x'):=by
 obtain⟨u1,u2,rfl,hu1,hu2⟩:=hc
 refine enter (vs:=[.agg #[x,B ct.sg,y,z],I n,.agg #[B c.sg,u1,u2]]) Tryz.func277 J J J (bc (cj J J fun g3 w3 l3 x3 k3=>cj J J fun g5 w5 l5 x5 k5=>ce cd J fun g6 w6 l6 x6 k6=>(aI (aj (bc (ak J J ((k5.ext x6).ld MC J ag) (aq cw J J (ek (aU.mk (hu1.ext ((x3.trans x5).trans x6)) (hu2.ext ((x3.trans x5).trans x6))) (by omega)) ?_)))))))
 rintro v8 w8 ⟨x8,rfl⟩
 refine ao J J J (fg) (aI (ci J (fun h9=>?_) (fun h9=>?_)))
 ·have hc0:c≠0:=zQ.1 h9
  refine bj 7 [3,6,11,16] (by kernel_rfl) (by kernel_rfl) (al J J (fun w hw=>bI) (ap J J (fun w hw=>ai ML J (hw.cell_some (((x5.trans x6).trans x8).cell_some (k3.cell (i:=0) J)))) ?_))
  have e1:=((x3.trans x5).trans x6).trans x8
  refine ax J J (ap J J (fun w hw=>((k5.ext (x6.trans x8)).ext hw).ld MC J ag) (es (S:=QV c) fO (QV.stable _) J J (fun w hw=>vu ((aU.mk (hu1.ext e1) (hu2.ext e1)).ext hw) (by omega)) (et (S:=fun v w=>∃y15_1_0 y15_1_1:Value,v=.agg #[I n,B c.sg,y15_1_0,y15_1_1]∧bH c.nl y15_1_0 w∧bH c.dl y15_1_1 w) (fun _ _ _ ⟨_,_,e,g0,g1⟩ hx=>⟨_,_,e,g0.ext hx,g1.ext hx⟩) J (fun w hw=>by rintro _ rfl v14 h14;obtain⟨y15_1_0,y15_1_1,rfl,k15_1_0,k15_1_1⟩:=h14;obtain⟨_,_,_,rfl⟩:=k15_1_0.isS;obtain⟨_,_,_,rfl⟩:=k15_1_1.isS;exact⟨_,w,run_build _ _ _ _ (by kernel_rfl),aH.refl _,_,_,J,k15_1_0,k15_1_1⟩) (dv (S:=cF kW [((⟨n,c⟩:dU))]) (cF.stable _ _) J (fun w hw=>by rintro _ ⟨y_15_0,y_15_1,rfl,k_15_0,k_15_1⟩;exact wh (j7 k_15_0 k_15_1)) (bA ?_)))))
  rintro wg2 xg2 _ rfl _ rfl _ hq11
  obtain rfl:=Eq.symm hq11
  intro vg16 b16
  have e3:=e1.trans xg2
  have e4:=(((((e0.trans x3).trans x5).trans x6).trans x8).trans xg2)
  obtain⟨v17,w17,hr17,o17,g17⟩:=CM (ty:=45) (hx.ext e3) b16 (by simp only[List.length_cons,List.length_nil];omega) e4.size
  refine df J J hr17 ?_
  have x17:=aH.of_grew e4 g17 ((hx.ext e3)).ge
  have m17:=((hx.ext e3)).kqG g17 (by decide)
  have i1_k3:=((((k3.ext x5).ext x6).ext x8).ext xg2)
  have j2_k3:=(i1_k3.other g17.grown (aN i1_k3 (hx.ext e3)))
  refine af J J (bI) (iD J J j2_k3 pZ o17.one J fun w2_9 q2_9 k2_9=>?_)
  have x2_9:=aH.of_new (x17) q2_9 (Nb (e0).size l3)
  have m2_9:=Kq.of1 (p:=[3,0,3,3]) j2_k3 (ac hx.kd (ac rfl (ac hy.kd (ac hz.kd aT)))) q2_9
  refine dR (ak J J (k2_9.ld MG J ay) ?_)
  have i3_k6:=((k6.ext x8).ext xg2)
  have j4_k6:=((i3_k6.other g17.grown (aN i3_k6 (hx.ext e3))).other q2_9 fun e=>by have h1:=k3.lt;have h2:=l6;have h3:=(x5).size;have h4:=Nc e;omega)
  refine bD J J j4_k6 J ay (am.cons o17.one (am.cons J (am.cons hy.one (am.cons hz.one am.nil)))) fun w3_1 q3_1 k3_1=>?_
  have x3_1:=aH.of_new (x2_9) q3_1 (Nb (((e0.trans x3).trans x5)).size l6)
  have m3_1:=Kq.of1 (p:=[3,0,3,3]) j4_k6 (ac rfl (ac rfl (ac rfl (ac rfl aT)))) q3_1
  refine aI (aD (bp J (.cell J (k3_1.ld MG J ay) .nil) ?_))
  exact⟨_,J,_,J,by rw[Ic hc0];exact(bh.st gg (bh.st gg o17 m2_9 q2_9 (aN j2_k3 o17).symm (by decide)) m3_1 q3_1 (aN j4_k6 (bh.st gg o17 m2_9 q2_9 (aN j2_k3 o17).symm (by decide))).symm (by decide)),((gi.before e3 g17).st q2_9 l3).st q3_1 (Nb (x3.trans x5).size l6)⟩
 ·have hc0:c=0:=Classical.byContradiction fun h=>h9 (zQ.2 h)
  refine aA (ah (bc (ak J J ((k3.ext ((x5.trans x6).trans x8)).ld MG J ay) (bD J J (k6.ext x8) J ay (am.cons hx.one (am.cons J (am.cons hy.one (am.cons hz.one am.nil)))) fun w3_1 q3_1 k3_1=>?_))))
  have x3_1:=aH.of_new ((x6.trans x8)) q3_1 l6
  have m3_1:=Kq.of1 (p:=[3,0,3,3]) (k6.ext x8) (ac rfl (ac rfl (ac rfl (ac rfl aT)))) q3_1
  refine aI (aD (bp J (.cell J (k3_1.ld MG J ay) .nil) ?_))
  have e2:=((x3.trans x5).trans x6).trans x8
  exact⟨_,J,_,J,by rw[Ie hc0,List.append_nil];exact(bh.st gg (hx.ext e2) m3_1 q3_1 (aN (k6.ext x8) (hx.ext e2)).symm (by decide)),gi.one e2 q3_1 (Nb (x3.trans x5).size l6)⟩
theorem zR {c:Rat} {a b:List dU} (ha:0<a.length) (h:b.length=0∨∃hb:0<b.length,a[0].va<b[0].va):dP c a b=jy a[0].va a[0].co++dP c (a.drop 1) b:=by
 match a,b,ha,h with
 |t::a,[],_,_=>rfl
 |t::a,u::b,_,h=>
  obtain h|⟨_,h⟩:=h
  ·simp at h
  ·exact nO h
theorem zS {c:Rat} {a b:List dU} (hb:0<b.length) (h:a.length=0∨∃ha:0<a.length,b[0].va<a[0].va):dP c a b=jy b[0].va (b[0].co*c)++dP c a (b.drop 1):=by
 match a,b,hb,h with
 |[],u::b,_,_=>rfl
 |t::a,u::b,_,h=>
  obtain h|⟨_,h⟩:=h
  ·simp at h
  ·exact nP h
theorem Lo {c:Rat} {a b:List dU} (ha:0<a.length) (hb:0<b.length) (h1:¬a[0].va<b[0].va) (h2:¬b[0].va<a[0].va):dP c a b=jy a[0].va (a[0].co+b[0].co*c)++dP c (a.drop 1) (b.drop 1):=by
 match a,b,ha,hb with
 |t::a,u::b,_,_=>exact nQ h1 h2
theorem tX {a:List dU} (ha:0<a.length):gH a=bt a[0].co+gH (a.drop 1):=by
 match a,ha with
 |t::a,_=>rfl
theorem Lp (a b:List dU):b.length=0∨(0<b.length∧a.length=0)∨(∃(ha:0<a.length) (hb:0<b.length),a[0].va<b[0].va)∨∃(ha:0<a.length) (hb:0<b.length),¬a[0].va<b[0].va:=by
 by_cases hb:0<b.length
 ·by_cases ha:0<a.length
  ·by_cases h:a[0].va<b[0].va
   ·exact .inr (.inr (.inl ⟨ha,hb,h⟩))
   ·exact .inr (.inr (.inr ⟨ha,hb,h⟩))
  ·exact .inr (.inl ⟨hb,by omega⟩)
 ·exact .inl (by omega)
def CZ (b:Nat) (f:dx):dn:=fun v w=>∃a x y:Value,v=.agg #[a,B f.ct.sg,x,y]∧cF kW f.ts a w∧bH f.ct.nl x w∧bH f.ct.dl y w∧∀k,a.ownBlock=some k→b≤k
theorem CZ.st {b:Nat} {f:dx} {v:Value} {w:World} (h:CZ b f v w):bQ dZ f v w:=by
 obtain⟨a,x,y,rfl,h1,h2,h3,_⟩:=h
 exact bQ.mk (cv h1 h2 h3)
theorem CZ.low {b b':Nat} {f:dx} {v:Value} {w:World} (h:CZ b f v w) (hb:b'≤b):CZ b' f v w:=by
 obtain⟨a,x,y,rfl,h1,h2,h3,h4⟩:=h
 exact⟨a,x,y,J,h1,h2,h3,fun k hk=>Nb hb (h4 k hk)⟩
theorem CZ.stable (b:Nat) (f:dx):bi (CZ b f):=fun _ _ _ ⟨a,x,y,e,h1,h2,h3,h4⟩ hx=>⟨a,x,y,e,h1.ext hx,h2.ext hx,h3.ext hx,h4⟩
theorem qf {w:World} {f g:dx} {c:Rat} {v u t:Value} (hv:bQ dZ f v w) (hu:bQ dZ g u w) (hc:QV c t w) (hB:ew f+ew g+bt c≤17179869184) (hl:f.ts.length+g.ts.length≤549755813887):
 Calls Tryz.prog 202 #[v,u,t] w (cA fun r w'=>aH w w'∧CZ w.heap.size (gG f g c) r w'):=by
 obtain⟨_,rfl,r1⟩:=hv
 obtain⟨fa,fb,fc,rfl,ia,ib,ic⟩:=cl r1
 obtain⟨_,rfl,r2⟩:=hu
 obtain⟨ga,gb,gc,rfl,ja,jb,jc⟩:=cl r2
 obtain⟨ca,cb,rfl,la,lb'⟩:=hc
 unfold ew at hB
 obtain⟨C,hC⟩:∃C,C=f.ct+g.ct*c:=⟨_,rfl⟩
 refine enter (vs:=[.agg #[fa,B f.ct.sg,fb,fc],.agg #[ga,B g.ct.sg,gb,gc],.agg #[B c.sg,ca,cb]]) Tryz.func202 J J J (bc (cj J J fun g3 w3 l3 x3 k3=>cj J J fun g4 w4 l4 x4 k4=>cj J J fun g5 w5 l5 x5 k5=>ce cd J fun g6 w6 l6 x6 k6=>(aI (aj (bj 9 [3,4,5,6,7,17] (by kernel_rfl) (by kernel_rfl) (al J J (fun w hw=>dt) (ap J J (fun w hw=>((k3.ext ((x4.trans x5).trans x6)).ext hw).ldO (ms:=[B f.ct.sg,fb,fc]) (o:=1) (ef J) MC J ag) ?_)))))))
 have e14:=x5.trans x6
 refine al J J (fun w hw=>dt) (ap J J (fun w hw=>((k4.ext e14).ext hw).ldO (ms:=[B g.ct.sg,gb,gc]) (o:=1) (ef J) MC J ag) (ap J J (fun w hw=>((k5.ext x6).ext hw).ld MC J ag) ?_))
 have z15_1:=f7 g.ct c
 have e5:=((x3.trans x4).trans x5).trans x6
 refine ec (S:=QV (g.ct*c)) jv (QV.stable _) J J J (fun w hw=>uC ((aU.mk (jb.ext e5) (jc.ext e5)).ext hw) ((aU.mk (la.ext e5) (lb'.ext e5)).ext hw) (by omega)) ?_
 have z16_2:=gP f.ct (g.ct*c)
 refine bZ (S:=QV (f.ct+(g.ct*c))) nI (QV.stable _) J (fun w hw=>by rintro _ rfl v15 h15;exact EK ((aU.mk (ib.ext e5) (ic.ext e5)).ext hw) h15 (by omega)) (et (S:=fun v w=>∃y17_1_0 y17_1_1:Value,v=.agg #[.slice none 0 0,B (f.ct+(g.ct*c)).sg,y17_1_0,y17_1_1]∧bH (f.ct+(g.ct*c)).nl y17_1_0 w∧bH (f.ct+(g.ct*c)).dl y17_1_1 w) (fun _ _ _ ⟨_,_,e,g0,g1⟩ hx=>⟨_,_,e,g0.ext hx,g1.ext hx⟩) J (fun w hw=>by rintro v16 h16;obtain⟨y17_1_0,y17_1_1,rfl,k17_1_0,k17_1_1⟩:=h16;obtain⟨_,_,_,rfl⟩:=k17_1_0.isS;obtain⟨_,_,_,rfl⟩:=k17_1_1.isS;exact⟨_,w,run_build _ _ _ _ (by kernel_rfl),aH.refl _,_,_,J,k17_1_0,k17_1_1⟩) (tL (b:=w6.heap.size) (A9.stable _ _ _) cd J (fun w hw=>hw.size) (bA ?_)))
 rintro wg1 xg1 _ rfl _ rfl _ rfl _ rfl _ ⟨g7,rfl,l7,k7⟩ _ ⟨y17_0,y17_1,rfl,k17_0,k17_1⟩
 refine bD J J k7 J ay (am.cons J (am.cons J (am.cons k17_0.one (am.cons k17_1.one am.nil)))) fun w1_9 q1_9 k1_9=>?_
 have x1_9:=aH.of_new (xg1) q1_9 l7
 have m1_9:=Kq.of1 (p:=[3,0,3,3]) k7 (ac rfl (ac rfl (ac rfl (ac rfl aT)))) q1_9
 refine aI (aj (bj 5 [5,6,7,8,21] (by kernel_rfl) (by kernel_rfl) (al J J (fun w hw=>bI) (ap J J (fun w hw=>ai ML J (hw.cell_some ((((x4.trans x5).trans x6).trans x1_9).cell_some (k3.cell (i:=0) J)))) (al J J (fun w hw=>bI) (ap J J (fun w hw=>ai ML J (hw.cell_some ((e14.trans x1_9).cell_some (k4.cell (i:=0) J)))) (gA J J (bA ?_))))))))
 rintro wg2 xg2 _ rfl _ rfl _ rfl _ hq8
 obtain rfl:=Eq.symm hq8
 rintro _ hq21
 obtain rfl:=Eq.symm hq21
 refine aa J J (aI (aj (aJ (zO (fun(ts:List dU) (x:Value) (a:List dU) (va:Value) (b:List dU) (vb:Value)=>[(5,.pointer (some ⟨g5,0,none⟩)),(6,.pointer (some ⟨g6,0,none⟩)),(7,.pointer (some ⟨g7,0,none⟩)),(8,va),(9,vb)]) (fun(ts:List dU) (x:Value) (a:List dU) (va:Value) (b:List dU) (vb:Value) w'=>aH w6 w'∧dE g7 51 [x,B C.sg,y17_0,y17_1] w'∧lz w6.heap.size ts x w'∧bH C.nl y17_0 w'∧bH C.dl y17_1 w'∧cF kW a va w6∧cF kW b vb w6∧ts++dP c a b=dP c f.ts g.ts∧gH a≤gH f.ts∧gH b≤gH g.ts∧ts.length+a.length+b.length≤f.ts.length+g.ts.length) (fun(ts:List dU) (x:Value) (a:List dU) (va:Value) (b:List dU) (vb:Value)=>a.length+b.length) ([]) (.slice none 0 0) (f.ts) (fa) (g.ts) (ga) ⟨J,J,J,J,J,trivial⟩ ⟨(x1_9.trans xg2),by rw[hC];exact k1_9.ext xg2,bh.nil _,by rw[hC];exact((k17_0.kq m1_9).ext xg2),by rw[hC];exact((k17_1.kq m1_9).ext xg2),ia.ext (x3.trans (x4.trans e14)),ja.ext (x3.trans (x4.trans e14)),J,Ng _,Ng _,by simp⟩ ?_))))
 rintro ts x a va b vb wL ⟨eL,kL,hO,hy,hz,ha,hb,hm,ba,bb,hlen⟩
 refine aj (i3 (fun _:Unit=>[(5,.pointer (some ⟨g5,0,none⟩)),(6,.pointer (some ⟨g6,0,none⟩)),(7,.pointer (some ⟨g7,0,none⟩)),(8,va),(9,vb)]) (fun _ w'=>wL=w'∧0<a.length+b.length) ?_ ?_)
 ·refine bc (ab J J (bn J J (bB ML (ha.ext eL)) (ao J J J (bo) (ab J J ?_))))
  refine lx (fun h25=>?_) (fun h25=>?_)
  ·refine bf J J J (bf J J J (bf J J J (aR J J J (aI (cg J (aA ?_))))))
   exact cW () ⟨J,J,J,J,J,trivial⟩ ⟨J,by omega⟩
  ·refine an J (ab J J (an J (bn J J (bB ML (hb.ext eL)) (an J (ao J J J (bo) (aG J J J ?_))))))
   refine aI (ci J (fun h29=>?_) (fun h29=>?_))
   ·refine aA ?_
    exact cW () ⟨J,J,J,J,J,trivial⟩ ⟨J,by omega⟩
   ·refine bJ (aV (aV (aV (bP (ah (bc (ak J J (kL.ld MG J ay) ?_)))))))
    refine bD J J (k6.ext eL) J ay (am.cons hO.one (am.cons J (am.cons hy.one (am.cons hz.one am.nil)))) fun w12_1 q12_1 k12_1=>?_
    have x12_1:=aH.of_new ((x6.trans eL)) q12_1 l6
    have m12_1:=Kq.of1 (p:=[3,0,3,3]) (k6.ext eL) (ac rfl (ac rfl (ac rfl (ac rfl aT)))) q12_1
    refine aI (aD (bp J (.cell J (k12_1.ld MG J ay) .nil) ?_))
    have hE:gG f g c=⟨ts,C⟩:=by
     have ea:a=[]:=Nm (by omega)
     have eb:b=[]:=Nm (by omega)
     rw[ea,eb] at hm
     have e1:dP c f.ts g.ts=ts:=by rw[←hm];exact List.append_nil ts
     unfold gG
     rw[e1,←hC]
    exact⟨_,J,(((x3.trans x4).trans x5).trans x12_1),by rw[hE];exact⟨_,_,_,J,lz.dsv (bh.st gg hO m12_1 q12_1 (aN (k6.ext eL) hO).symm (by decide)),(hy.kq m12_1),(hz.kq m12_1),fun k hk=>Nb ((((x3.trans x4).trans x5).trans x6)).size (((bh.st gg hO m12_1 q12_1 (aN (k6.ext eL) hO).symm (by decide))).ge k hk)⟩⟩
 rintro _ _ ⟨rfl,hpos⟩
 refine ah (aJ (aJ (aj ?_)))
 rcases Lp a b with hA|⟨hb0,hA⟩|⟨ha0,hb0,hA⟩|⟨ha0,hb0,hA⟩
 ·refine bj 19 [5,6,7,8,9,70] (by kernel_rfl) (by kernel_rfl) ?_
  refine ax J J (mg (vs:=[vb]) J J (fun w hw=>bB ML ((hb.ext eL).ext hw)) (bC J J J (fun w _=>bF (by omega) aO) (ax J J (bu J J J (bu J J J (bu J J J (bu J J J (bw J J J (bw J J J (bw J J J (bw J J J (bw J J J (bw J J J (bw J J J (bw J J J (bw J J J (bu J J J (dT J J J (bA ?_)))))))))))))))))))
  rintro wg6 xg6 _ rfl _ rfl _ rfl _ hq8
  obtain rfl:=Eq.symm hq8
  rintro _ hq9
  obtain rfl:=Eq.symm hq9
  rintro _ rfl
  refine aa J J (aI (cg J (aj (bj 9 [5,6,7,8,9,71,75,79] (by kernel_rfl) (by kernel_rfl) (ap J J (fun w hw=>((kL.ext xg6).ext hw).ld MG J ay) (ax J J ?_))))))
  obtain⟨a73,c73,e73,he73,p73,q73,h73⟩:=cU (ha.ext (eL.trans xg6)) (i:=0)
  obtain⟨x73_0,x73_1,rfl,f73_0,f73_1⟩:=d4 h73
  refine aK J J J (fun w _=>p73 w) ?_
  have hbt:=tX (a:=a) (by omega)
  rw[←he73] at hbt
  refine al J J (fun w hw=>de) (ap J J (fun w hw=>ai ME J (hw.cell_some (q73.at (j:=0) J))) (ax J J (aK J J J (fun w _=>p73 w) (al J J (fun w hw=>fS) (ap J J (fun w hw=>(q73.ext hw).ldO (ms:=[B e73.co.sg,x73_0,x73_1]) (o:=1) (ef J) MC J ag) (bA ?_))))))
  rintro wg7 xg7 _ rfl _ rfl _ rfl _ hq8
  obtain rfl:=Eq.symm hq8
  rintro _ hq9
  obtain rfl:=Eq.symm hq9
  rintro _ rfl _ rfl _ rfl
  have e6:=xg6.trans xg7
  have e15:=((eL.trans xg6).trans xg7)
  refine aq nS J J ((qe (w0:=w6) (n:=e73.va) (c:=e73.co) e15 (hO.ext e6) (hy.ext e6) (hz.ext e6) (aU.mk (f73_0.ext xg7) (f73_1.ext xg7)) (by omega) (by omega))) ?_
  rintro v80 w80 ⟨u80,rfl,o80,g80⟩
  have x80:=aH.of_grew e15 g80 ((hO.ext e6)).ge
  have m80:=((hO.ext e6)).kqG g80 (by decide)
  have i1_kL:=((kL.ext xg6).ext xg7)
  have j2_kL:=(i1_kL.other g80.grown (aN i1_kL (hO.ext e6)))
  refine bD J J j2_kL J ay (am.cons o80.one (am.cons J (am.cons hy.one (am.cons hz.one am.nil)))) fun w7_10 q7_10 k7_10=>?_
  have x7_10:=aH.of_new (x80) q7_10 l7
  have m7_10:=Kq.of1 (p:=[3,0,3,3]) j2_kL (ac hO.kd (ac rfl (ac hy.kd (ac hz.kd aT)))) q7_10
  refine aI (ae (ab J J ?_))
  obtain⟨v82,p82,b82⟩:=tK (P:=Tryz.prog) (sz:=4) Tryz.underlying45 (by kernel_rfl) gY (by omega) ha (lo:=1) (by first|omega|(simp;omega))
  refine ky J J J J J (p82 _) (aa J J (ar (aW (aW ?_))))
  have hs:dP c a b=jy e73.va e73.co++dP c (a.drop 1) b:=by
   rw[he73]
   first
   |exact zR (by omega) (.inl hA)
   |exact zR ha0 (.inr ⟨hb0,hA⟩)
  have hn:=eP e73.va e73.co
  refine kP (ts++jy e73.va e73.co) (u80) (a.drop 1) (v82) (b) (vb) ⟨J,J,J,J,J,trivial⟩ ⟨x7_10,k7_10,(bh.st gg o80 m7_10 q7_10 (aN j2_kL o80).symm (by decide)),(((hy.ext e6).kq m80).kq m7_10),(((hz.ext e6).kq m80).kq m7_10),b82,hb,by rw[List.append_assoc,←hs];exact hm,by omega,bb,by simp only[List.length_append,List.length_drop];omega⟩ (by simp only[List.length_drop];omega)
 ·refine bj 19 [5,6,7,8,9,70] (by kernel_rfl) (by kernel_rfl) ?_
  refine ax J J (mg (vs:=[vb]) J J (fun w hw=>bB ML ((hb.ext eL).ext hw)) (bC J J J (fun w _=>be (by omega) aO) (ax J J (au J J (ax J J (au J J (mg (vs:=[va]) J J (fun w hw=>bB ML ((ha.ext eL).ext hw)) (au J J (bC J J J (fun w _=>be (by omega) bo) (au J J (ax J J (bu J J J (bu J J J (bu J J J (bu J J J (bu J J J (bu J J J (bu J J J (bu J J J (bu J J J (au J J (cQ J J J (cQ J J J (bA ?_))))))))))))))))))))))))
  rintro wg6 xg6 _ rfl _ rfl _ rfl _ hq8
  obtain rfl:=Eq.symm hq8
  rintro _ hq9
  obtain rfl:=Eq.symm hq9
  rintro _ rfl
  refine aa J J (aI (bU J (aj (bj 14 [5,6,7,8,9,97] (by kernel_rfl) (by kernel_rfl) (ax J J (mg (vs:=[va]) J J (fun w hw=>bB ML ((ha.ext (eL.trans xg6)).ext hw)) (bC J J J (fun w _=>bF (by omega) aO) (ax J J (bu J J J (bu J J J (bu J J J (bu J J J (bu J J J (bu J J J (bu J J J (bu J J J (bu J J J (dT J J J (bA ?_)))))))))))))))))))
  rintro wg9 xg9 _ rfl _ rfl _ rfl _ hq8
  obtain rfl:=Eq.symm hq8
  rintro _ hq9
  obtain rfl:=Eq.symm hq9
  rintro _ rfl
  refine aa J J (aI (cg J (aj (bj 11 [5,6,7,8,9,98,102,108] (by kernel_rfl) (by kernel_rfl) (ap J J (fun w hw=>((kL.ext (xg6.trans xg9)).ext hw).ld MG J ay) (ax J J ?_))))))
  have e11:=(eL.trans xg6).trans xg9
  obtain⟨a100,c100,e100,he100,p100,q100,h100⟩:=cU (hb.ext e11) (i:=0)
  obtain⟨x100_0,x100_1,rfl,f100_0,f100_1⟩:=d4 h100
  refine aK J J J (fun w _=>p100 w) ?_
  have hbt:=tX (a:=b) (by omega)
  rw[←he100] at hbt
  refine al J J (fun w hw=>de) (ap J J (fun w hw=>ai ME J (hw.cell_some (q100.at (j:=0) J))) (ax J J (aK J J J (fun w _=>p100 w) (al J J (fun w hw=>fS) (ap J J (fun w hw=>(q100.ext hw).ldO (ms:=[B e100.co.sg,x100_0,x100_1]) (o:=1) (ef J) MC J ag) (ap J J (fun w hw=>((k5.ext (((x6.trans eL).trans xg6).trans xg9)).ext hw).ld MC J ag) ?_))))))
  have z108_3:=f7 e100.co c
  have e8:=(((((x3.trans x4).trans x5).trans x6).trans eL).trans xg6).trans xg9
  refine ec (S:=QV (e100.co*c)) jv (QV.stable _) J J J (fun w hw=>uC ((aU.mk f100_0 f100_1).ext hw) ((aU.mk (la.ext e8) (lb'.ext e8)).ext hw) (by omega)) (bA ?_)
  rintro wg10 xg10 _ rfl _ rfl _ rfl _ hq8
  obtain rfl:=Eq.symm hq8
  rintro _ hq9
  obtain rfl:=Eq.symm hq9
  rintro _ rfl _ rfl _ ⟨x108_0,x108_1,rfl,f108_0,f108_1⟩
  have e2:=(xg6.trans xg9).trans xg10
  refine aq nS J J ((qe (w0:=w6) (n:=e100.va) (c:=e100.co*c) ((e11.trans xg10)) (hO.ext e2) (hy.ext e2) (hz.ext e2) (aU.mk f108_0 f108_1) (by omega) (by omega))) ?_
  rintro v109 w109 ⟨u109,rfl,o109,g109⟩
  have x109:=aH.of_grew ((e11.trans xg10)) g109 ((hO.ext e2)).ge
  have m109:=((hO.ext e2)).kqG g109 (by decide)
  have i3_kL:=(((kL.ext xg6).ext xg9).ext xg10)
  have j4_kL:=(i3_kL.other g109.grown (aN i3_kL (hO.ext e2)))
  refine bD J J j4_kL J ay (am.cons o109.one (am.cons J (am.cons hy.one (am.cons hz.one am.nil)))) fun w10_12 q10_12 k10_12=>?_
  have x10_12:=aH.of_new (x109) q10_12 l7
  have m10_12:=Kq.of1 (p:=[3,0,3,3]) j4_kL (ac hO.kd (ac rfl (ac hy.kd (ac hz.kd aT)))) q10_12
  refine aI (ae (ab J J ?_))
  obtain⟨v111,p111,b111⟩:=tK (P:=Tryz.prog) (sz:=4) Tryz.underlying45 (by kernel_rfl) gY (by omega) hb (lo:=1) (by first|omega|(simp;omega))
  refine ky J J J J J (p111 _) (aa J J (ar (aW (aW ?_))))
  have hs:dP c a b=jy e100.va (e100.co*c)++dP c a (b.drop 1):=by
   rw[he100]
   first
   |exact zS (by omega) (.inl hA)
   |exact zS hb0 (.inr ⟨ha0,hG⟩)
  have hn:=eP e100.va (e100.co*c)
  refine kP (ts++jy e100.va (e100.co*c)) (u109) (a) (va) (b.drop 1) (v111) ⟨J,J,J,J,J,trivial⟩ ⟨x10_12,k10_12,(bh.st gg o109 m10_12 q10_12 (aN j4_kL o109).symm (by decide)),(((hy.ext e2).kq m109).kq m10_12),(((hz.ext e2).kq m109).kq m10_12),ha,b111,by rw[List.append_assoc,←hs];exact hm,ba,by omega,by simp only[List.length_append,List.length_drop];omega⟩ (by simp only[List.length_drop];omega)
 ·refine bj 19 [5,6,7,8,9,70] (by kernel_rfl) (by kernel_rfl) ?_
  refine ax J J (mg (vs:=[vb]) J J (fun w hw=>bB ML ((hb.ext eL).ext hw)) (bC J J J (fun w _=>be (by omega) aO) (ax J J (au J J (ax J J (au J J (mg (vs:=[va]) J J (fun w hw=>bB ML ((ha.ext eL).ext hw)) (au J J (bC J J J (fun w _=>bF (by omega) bo) (au J J (ax J J (au J J (ax J J (au J J ?_))))))))))))))
  obtain⟨a61,c61,e61,he61,p61,q61,h61⟩:=cU (ha.ext eL) (i:=0)
  obtain⟨x61_0,x61_1,rfl,f61_0,f61_1⟩:=d4 h61
  refine aK J J J (fun w _=>p61 w) (au J J (al J J (fun w hw=>de) (au J J (ap J J (fun w hw=>ai ME J (hw.cell_some (q61.at (j:=0) J))) (au J J (ax J J (au J J ?_)))))))
  obtain⟨a65,c65,e65,he65,p65,q65,h65⟩:=cU (hb.ext eL) (i:=0)
  obtain⟨x65_0,x65_1,rfl,f65_0,f65_1⟩:=d4 h65
  refine aK J J J (fun w _=>p65 w) (au J J (al J J (fun w hw=>de) (au J J (ap J J (fun w hw=>ai ME J (hw.cell_some (q65.at (j:=0) J))) (au J J (bC J J J (fun w _=>bF (by rw[he61,he65];exact hA) aX) (au J J (dT J J J (cQ J J J (bA ?_))))))))))
  rintro wg6 xg6 _ rfl _ rfl _ rfl _ hq8
  obtain rfl:=Eq.symm hq8
  rintro _ hq9
  obtain rfl:=Eq.symm hq9
  rintro _ rfl
  refine aa J J (aI (cg J (aj (bj 9 [5,6,7,8,9,71,75,79] (by kernel_rfl) (by kernel_rfl) (ap J J (fun w hw=>((kL.ext xg6).ext hw).ld MG J ay) (ax J J ?_))))))
  obtain⟨a73,c73,e73,he73,p73,q73,h73⟩:=cU (ha.ext (eL.trans xg6)) (i:=0)
  obtain⟨x73_0,x73_1,rfl,f73_0,f73_1⟩:=d4 h73
  refine aK J J J (fun w _=>p73 w) ?_
  have hbt:=tX (a:=a) (by omega)
  rw[←he73] at hbt
  refine al J J (fun w hw=>de) (ap J J (fun w hw=>ai ME J (hw.cell_some (q73.at (j:=0) J))) (ax J J (aK J J J (fun w _=>p73 w) (al J J (fun w hw=>fS) (ap J J (fun w hw=>(q73.ext hw).ldO (ms:=[B e73.co.sg,x73_0,x73_1]) (o:=1) (ef J) MC J ag) (bA ?_))))))
  rintro wg7 xg7 _ rfl _ rfl _ rfl _ hq8
  obtain rfl:=Eq.symm hq8
  rintro _ hq9
  obtain rfl:=Eq.symm hq9
  rintro _ rfl _ rfl _ rfl
  have e7:=xg6.trans xg7
  have e16:=((eL.trans xg6).trans xg7)
  refine aq nS J J ((qe (w0:=w6) (n:=e73.va) (c:=e73.co) e16 (hO.ext e7) (hy.ext e7) (hz.ext e7) (aU.mk (f73_0.ext xg7) (f73_1.ext xg7)) (by omega) (by omega))) ?_
  rintro v80 w80 ⟨u80,rfl,o80,g80⟩
  have x80:=aH.of_grew e16 g80 ((hO.ext e7)).ge
  have m80:=((hO.ext e7)).kqG g80 (by decide)
  have i5_kL:=((kL.ext xg6).ext xg7)
  have j6_kL:=(i5_kL.other g80.grown (aN i5_kL (hO.ext e7)))
  refine bD J J j6_kL J ay (am.cons o80.one (am.cons J (am.cons hy.one (am.cons hz.one am.nil)))) fun w7_10 q7_10 k7_10=>?_
  have x7_10:=aH.of_new (x80) q7_10 l7
  have m7_10:=Kq.of1 (p:=[3,0,3,3]) j6_kL (ac hO.kd (ac rfl (ac hy.kd (ac hz.kd aT)))) q7_10
  refine aI (ae (ab J J ?_))
  obtain⟨v82,p82,b82⟩:=tK (P:=Tryz.prog) (sz:=4) Tryz.underlying45 (by kernel_rfl) gY (by omega) ha (lo:=1) (by first|omega|(simp;omega))
  refine ky J J J J J (p82 _) (aa J J (ar (aW (aW ?_))))
  have hs:dP c a b=jy e73.va e73.co++dP c (a.drop 1) b:=by
   rw[he73]
   first
   |exact zR (by omega) (.inl hA)
   |exact zR ha0 (.inr ⟨hb0,hA⟩)
  have hn:=eP e73.va e73.co
  refine kP (ts++jy e73.va e73.co) (u80) (a.drop 1) (v82) (b) (vb) ⟨J,J,J,J,J,trivial⟩ ⟨x7_10,k7_10,(bh.st gg o80 m7_10 q7_10 (aN j6_kL o80).symm (by decide)),(((hy.ext e7).kq m80).kq m7_10),(((hz.ext e7).kq m80).kq m7_10),b82,hb,by rw[List.append_assoc,←hs];exact hm,by omega,bb,by simp only[List.length_append,List.length_drop];omega⟩ (by simp only[List.length_drop];omega)
 ·refine bj 19 [5,6,7,8,9,70] (by kernel_rfl) (by kernel_rfl) ?_
  refine ax J J (mg (vs:=[vb]) J J (fun w hw=>bB ML ((hb.ext eL).ext hw)) (bC J J J (fun w _=>be (by omega) aO) (ax J J (au J J (ax J J (au J J (mg (vs:=[va]) J J (fun w hw=>bB ML ((ha.ext eL).ext hw)) (au J J (bC J J J (fun w _=>bF (by omega) bo) (au J J (ax J J (au J J (ax J J (au J J ?_))))))))))))))
  obtain⟨a61,c61,e61,he61,p61,q61,h61⟩:=cU (ha.ext eL) (i:=0)
  obtain⟨x61_0,x61_1,rfl,f61_0,f61_1⟩:=d4 h61
  refine aK J J J (fun w _=>p61 w) (au J J (al J J (fun w hw=>de) (au J J (ap J J (fun w hw=>ai ME J (hw.cell_some (q61.at (j:=0) J))) (au J J (ax J J (au J J ?_)))))))
  obtain⟨a65,c65,e65,he65,p65,q65,h65⟩:=cU (hb.ext eL) (i:=0)
  obtain⟨x65_0,x65_1,rfl,f65_0,f65_1⟩:=d4 h65
  refine aK J J J (fun w _=>p65 w) (au J J (al J J (fun w hw=>de) (au J J (ap J J (fun w hw=>ai ME J (hw.cell_some (q65.at (j:=0) J))) (au J J (bC J J J (fun w _=>be (by rw[he61,he65];exact hA) aX) (au J J (dT J J J (cQ J J J (bA ?_))))))))))
  rintro wg6 xg6 _ rfl _ rfl _ rfl _ hq8
  obtain rfl:=Eq.symm hq8
  rintro _ hq9
  obtain rfl:=Eq.symm hq9
  rintro _ rfl
  refine aa J J (aI (bU J (aj ?_)))
  rcases Int.lt_or_le (b[0].va) (a[0].va) with hG|hG
  ·refine bj 14 [5,6,7,8,9,97] (by kernel_rfl) (by kernel_rfl) ?_
   refine ax J J (mg (vs:=[va]) J J (fun w hw=>bB ML ((ha.ext (eL.trans xg6)).ext hw)) (bC J J J (fun w _=>be (by omega) aO) (ax J J (au J J (ax J J (au J J ?_))))))
   obtain⟨a89,c89,e89,he89,p89,q89,h89⟩:=cU (hb.ext (eL.trans xg6)) (i:=0)
   obtain⟨x89_0,x89_1,rfl,f89_0,f89_1⟩:=d4 h89
   refine aK J J J (fun w _=>p89 w) (au J J (al J J (fun w hw=>de) (au J J (ap J J (fun w hw=>ai ME J (hw.cell_some (q89.at (j:=0) J))) (au J J (ax J J (au J J ?_)))))))
   obtain⟨a93,c93,e93,he93,p93,q93,h93⟩:=cU (ha.ext (eL.trans xg6)) (i:=0)
   obtain⟨x93_0,x93_1,rfl,f93_0,f93_1⟩:=d4 h93
   refine aK J J J (fun w _=>p93 w) (au J J (al J J (fun w hw=>de) (au J J (ap J J (fun w hw=>ai ME J (hw.cell_some (q93.at (j:=0) J))) (au J J (bC J J J (fun w _=>bF (by rw[he89,he93];exact hG) aX) (cQ J J J (bA ?_))))))))
   rintro wg9 xg9 _ rfl _ rfl _ rfl _ hq8
   obtain rfl:=Eq.symm hq8
   rintro _ hq9
   obtain rfl:=Eq.symm hq9
   rintro _ rfl
   refine aa J J (aI (cg J (aj (bj 11 [5,6,7,8,9,98,102,108] (by kernel_rfl) (by kernel_rfl) (ap J J (fun w hw=>((kL.ext (xg6.trans xg9)).ext hw).ld MG J ay) (ax J J ?_))))))
   have e12:=(eL.trans xg6).trans xg9
   obtain⟨a100,c100,e100,he100,p100,q100,h100⟩:=cU (hb.ext e12) (i:=0)
   obtain⟨x100_0,x100_1,rfl,f100_0,f100_1⟩:=d4 h100
   refine aK J J J (fun w _=>p100 w) ?_
   have hbt:=tX (a:=b) (by omega)
   rw[←he100] at hbt
   refine al J J (fun w hw=>de) (ap J J (fun w hw=>ai ME J (hw.cell_some (q100.at (j:=0) J))) (ax J J (aK J J J (fun w _=>p100 w) (al J J (fun w hw=>fS) (ap J J (fun w hw=>(q100.ext hw).ldO (ms:=[B e100.co.sg,x100_0,x100_1]) (o:=1) (ef J) MC J ag) (ap J J (fun w hw=>((k5.ext (((x6.trans eL).trans xg6).trans xg9)).ext hw).ld MC J ag) ?_))))))
   have z108_4:=f7 e100.co c
   have e9:=(((((x3.trans x4).trans x5).trans x6).trans eL).trans xg6).trans xg9
   refine ec (S:=QV (e100.co*c)) jv (QV.stable _) J J J (fun w hw=>uC ((aU.mk f100_0 f100_1).ext hw) ((aU.mk (la.ext e9) (lb'.ext e9)).ext hw) (by omega)) (bA ?_)
   rintro wg10 xg10 _ rfl _ rfl _ rfl _ hq8
   obtain rfl:=Eq.symm hq8
   rintro _ hq9
   obtain rfl:=Eq.symm hq9
   rintro _ rfl _ rfl _ ⟨x108_0,x108_1,rfl,f108_0,f108_1⟩
   have e3:=(xg6.trans xg9).trans xg10
   refine aq nS J J ((qe (w0:=w6) (n:=e100.va) (c:=e100.co*c) ((e12.trans xg10)) (hO.ext e3) (hy.ext e3) (hz.ext e3) (aU.mk f108_0 f108_1) (by omega) (by omega))) ?_
   rintro v109 w109 ⟨u109,rfl,o109,g109⟩
   have x109:=aH.of_grew ((e12.trans xg10)) g109 ((hO.ext e3)).ge
   have m109:=((hO.ext e3)).kqG g109 (by decide)
   have i7_kL:=(((kL.ext xg6).ext xg9).ext xg10)
   have j8_kL:=(i7_kL.other g109.grown (aN i7_kL (hO.ext e3)))
   refine bD J J j8_kL J ay (am.cons o109.one (am.cons J (am.cons hy.one (am.cons hz.one am.nil)))) fun w10_12 q10_12 k10_12=>?_
   have x10_12:=aH.of_new (x109) q10_12 l7
   have m10_12:=Kq.of1 (p:=[3,0,3,3]) j8_kL (ac hO.kd (ac rfl (ac hy.kd (ac hz.kd aT)))) q10_12
   refine aI (ae (ab J J ?_))
   obtain⟨v111,p111,b111⟩:=tK (P:=Tryz.prog) (sz:=4) Tryz.underlying45 (by kernel_rfl) gY (by omega) hb (lo:=1) (by first|omega|(simp;omega))
   refine ky J J J J J (p111 _) (aa J J (ar (aW (aW ?_))))
   have hs:dP c a b=jy e100.va (e100.co*c)++dP c a (b.drop 1):=by
    rw[he100]
    first
    |exact zS (by omega) (.inl hA)
    |exact zS hb0 (.inr ⟨ha0,hG⟩)
   have hn:=eP e100.va (e100.co*c)
   refine kP (ts++jy e100.va (e100.co*c)) (u109) (a) (va) (b.drop 1) (v111) ⟨J,J,J,J,J,trivial⟩ ⟨x10_12,k10_12,(bh.st gg o109 m10_12 q10_12 (aN j8_kL o109).symm (by decide)),(((hy.ext e3).kq m109).kq m10_12),(((hz.ext e3).kq m109).kq m10_12),ha,b111,by rw[List.append_assoc,←hs];exact hm,ba,by omega,by simp only[List.length_append,List.length_drop];omega⟩ (by simp only[List.length_drop];omega)
  ·refine bj 14 [5,6,7,8,9,97] (by kernel_rfl) (by kernel_rfl) ?_
   refine ax J J (mg (vs:=[va]) J J (fun w hw=>bB ML ((ha.ext (eL.trans xg6)).ext hw)) (bC J J J (fun w _=>be (by omega) aO) (ax J J (au J J (ax J J (au J J ?_))))))
   obtain⟨a89,c89,e89,he89,p89,q89,h89⟩:=cU (hb.ext (eL.trans xg6)) (i:=0)
   obtain⟨x89_0,x89_1,rfl,f89_0,f89_1⟩:=d4 h89
   refine aK J J J (fun w _=>p89 w) (au J J (al J J (fun w hw=>de) (au J J (ap J J (fun w hw=>ai ME J (hw.cell_some (q89.at (j:=0) J))) (au J J (ax J J (au J J ?_)))))))
   obtain⟨a93,c93,e93,he93,p93,q93,h93⟩:=cU (ha.ext (eL.trans xg6)) (i:=0)
   obtain⟨x93_0,x93_1,rfl,f93_0,f93_1⟩:=d4 h93
   refine aK J J J (fun w _=>p93 w) (au J J (al J J (fun w hw=>de) (au J J (ap J J (fun w hw=>ai ME J (hw.cell_some (q93.at (j:=0) J))) (au J J (bC J J J (fun w _=>be (by rw[he89,he93];omega) aX) (cQ J J J (bA ?_))))))))
   rintro wg9 xg9 _ rfl _ rfl _ rfl _ hq8
   obtain rfl:=Eq.symm hq8
   rintro _ hq9
   obtain rfl:=Eq.symm hq9
   rintro _ rfl
   refine aa J J (aI (bU J (aj (bj 16 [5,6,7,8,9,30,34,45] (by kernel_rfl) (by kernel_rfl) (ap J J (fun w hw=>((kL.ext (xg6.trans xg9)).ext hw).ld MG J ay) (ax J J ?_))))))
   have e13:=(eL.trans xg6).trans xg9
   obtain⟨a32,c32,e32,he32,p32,q32,h32⟩:=cU (ha.ext e13) (i:=0)
   obtain⟨x32_0,x32_1,rfl,f32_0,f32_1⟩:=d4 h32
   refine aK J J J (fun w _=>p32 w) ?_
   have hbt:=tX (a:=a) (by omega)
   rw[←he32] at hbt
   refine al J J (fun w hw=>de) (ap J J (fun w hw=>ai ME J (hw.cell_some (q32.at (j:=0) J))) (ax J J (aK J J J (fun w _=>p32 w) (al J J (fun w hw=>fS) (ap J J (fun w hw=>(q32.ext hw).ldO (ms:=[B e32.co.sg,x32_0,x32_1]) (o:=1) (ef J) MC J ag) (ax J J ?_))))))
   obtain⟨a40,c40,e40,he40,p40,q40,h40⟩:=cU (hb.ext e13) (i:=0)
   obtain⟨x40_0,x40_1,rfl,f40_0,f40_1⟩:=d4 h40
   refine aK J J J (fun w _=>p40 w) ?_
   have hbt2:=tX (a:=b) (by omega)
   rw[←he40] at hbt2
   refine al J J (fun w hw=>fS) (ap J J (fun w hw=>(q40.ext hw).ldO (ms:=[B e40.co.sg,x40_0,x40_1]) (o:=1) (ef J) MC J ag) (ap J J (fun w hw=>((k5.ext (((x6.trans eL).trans xg6).trans xg9)).ext hw).ld MC J ag) ?_))
   have z44_5:=f7 e40.co c
   have e10:=(((((x3.trans x4).trans x5).trans x6).trans eL).trans xg6).trans xg9
   refine ec (S:=QV (e40.co*c)) jv (QV.stable _) J J J (fun w hw=>uC ((aU.mk f40_0 f40_1).ext hw) ((aU.mk (la.ext e10) (lb'.ext e10)).ext hw) (by omega)) ?_
   have z45_6:=gP e32.co (e40.co*c)
   refine bZ (S:=QV (e32.co+(e40.co*c))) nI (QV.stable _) J (fun w hw=>by rintro _ rfl v44 h44;exact EK ((aU.mk f32_0 f32_1).ext hw) h44 (by omega)) (bA ?_)
   rintro wg4 xg4 _ rfl _ rfl _ rfl _ hq8
   obtain rfl:=Eq.symm hq8
   rintro _ hq9
   obtain rfl:=Eq.symm hq9
   rintro _ rfl _ rfl _ ⟨x45_0,x45_1,rfl,f45_0,f45_1⟩
   have e4:=(xg6.trans xg9).trans xg4
   refine aq nS J J ((qe (w0:=w6) (n:=e32.va) (c:=e32.co+e40.co*c) ((e13.trans xg4)) (hO.ext e4) (hy.ext e4) (hz.ext e4) (aU.mk f45_0 f45_1) (by omega) (by omega))) ?_
   rintro v46 w46 ⟨u46,rfl,o46,g46⟩
   have x46:=aH.of_grew ((e13.trans xg4)) g46 ((hO.ext e4)).ge
   have m46:=((hO.ext e4)).kqG g46 (by decide)
   have i9_kL:=(((kL.ext xg6).ext xg9).ext xg4)
   have j10_kL:=(i9_kL.other g46.grown (aN i9_kL (hO.ext e4)))
   refine bD J J j10_kL J ay (am.cons o46.one (am.cons J (am.cons hy.one (am.cons hz.one am.nil)))) fun w4_17 q4_17 k4_17=>?_
   have x4_17:=aH.of_new (x46) q4_17 l7
   have m4_17:=Kq.of1 (p:=[3,0,3,3]) j10_kL (ac hO.kd (ac rfl (ac hy.kd (ac hz.kd aT)))) q4_17
   refine aI (bj 5 [5,6,7,8,50] (by kernel_rfl) (by kernel_rfl) (ax J J ?_))
   obtain⟨v48,p48,b48⟩:=tK (P:=Tryz.prog) (sz:=4) Tryz.underlying45 (by kernel_rfl) gY (by omega) ha (lo:=1) (by first|omega|(simp;omega))
   refine y7 J J J J (fun w _=>p48 w) (ax J J ?_)
   obtain⟨v50,p50,b50⟩:=tK (P:=Tryz.prog) (sz:=4) Tryz.underlying45 (by kernel_rfl) gY (by omega) hb (lo:=1) (by first|omega|(simp;omega))
   refine y7 J J J J (fun w _=>p50 w) (gA J J (bA ?_))
   rintro wg5 xg5 _ rfl _ rfl _ rfl _ hq8
   obtain rfl:=Eq.symm hq8
   rintro _ hq50
   obtain rfl:=Eq.symm hq50
   refine aa J J (ar (aW (aW ?_)))
   have hs:dP c a b=jy e32.va (e32.co+e40.co*c)++dP c (a.drop 1) (b.drop 1):=by
    rw[he32,he40]
    exact Lo ha0 hb0 hA (by omega)
   have hn:=eP e32.va (e32.co+e40.co*c)
   refine kP (ts++jy e32.va (e32.co+e40.co*c)) (u46) (a.drop 1) (v48) (b.drop 1) (v50) ⟨J,J,J,J,J,trivial⟩ ⟨(x4_17.trans xg5),k4_17.ext xg5,((bh.st gg o46 m4_17 q4_17 (aN j10_kL o46).symm (by decide)).ext xg5),((((hy.ext e4).kq m46).kq m4_17).ext xg5),((((hz.ext e4).kq m46).kq m4_17).ext xg5),b48,b50,by rw[List.append_assoc,←hs];exact hm,by omega,by omega,by simp only[List.length_append,List.length_drop];omega⟩ (by simp only[List.length_drop];omega)
theorem wt {w:World} {f g:dx} {c:Rat} {v u t:Value} (hv:bQ dZ f v w) (hu:bQ dZ g u w) (hc:QV c t w) (hB:ew f+ew g+bt c≤17179869184) (hl:f.ts.length+g.ts.length≤549755813887):
 Calls Tryz.prog 202 #[v,u,t] w (cA fun r w'=>aH w w'∧bQ dZ (gG f g c) r w'):=(qf hv hu hc hB hl).mono fun _ _ ⟨v,e,h1,h2⟩=>⟨v,e,h1,h2.st⟩
end Go.Rl
namespace Go.Rl
open Go.RowKit Go.Proofs
theorem EO {w:World}:Calls Tryz.prog 108 #[I 1] w (cA fun r w'=>aH w w'∧QV 1 r w'):=mG (x:=1) (by omega) (by omega)
theorem Lr {w:World}:Calls Tryz.prog 108 #[I (-1)] w (cA fun r w'=>aH w w'∧QV (-1) r w'):=mG (x:= -1) (by omega) (by omega)
theorem pp:bt 1=2:=by decide
theorem Mi:bt (-1)=2:=by decide
theorem tY:bt 0=2:=by decide
theorem wu {w:World} {f g:dx} {v u:Value} (hv:bQ dZ f v w) (hu:bQ dZ g u w) (hB:ew f+ew g≤17179869180∧f.ts.length+g.ts.length≤549755813887):
 Calls Tryz.prog 114 #[v,u] w (cA fun r w'=>aH w w'∧CZ w.heap.size (lj f g) r w'):=by
 obtain⟨_,rfl,ra⟩:=hv
 obtain⟨fa,fb,fc,rfl,ia,ib,ic⟩:=cl ra
 obtain⟨_,rfl,rb⟩:=hu
 obtain⟨ga,gb,gc,rfl,ja,jb,jc⟩:=cl rb
 have h1:=pp
 refine enter (vs:=[.agg #[fa,B f.ct.sg,fb,fc],.agg #[ga,B g.ct.sg,gb,gc]]) Tryz.func114 J J J (bc (cj J J fun g2 w2 l2 x2 k2=>cj J J fun g3 w3 l3 x3 k3=>ce cd J fun g4 w4 l4 x4 k4=>(aI (aj (bj 4 [4,8] (by kernel_rfl) (by kernel_rfl) (ap J J (fun w hw=>((k2.ext (x3.trans x4)).ext hw).ld MG J ay) (ap J J (fun w hw=>((k3.ext x4).ext hw).ld MG J ay) ?_)))))))
 have e1:=(x2.trans x3).trans x4
 refine es (S:=QV 1) kM (QV.stable _) J J (fun w hw=>EO) (bZ (S:=CZ w.heap.size (lj f g)) m6 (CZ.stable _ _) J (fun w1 hw=>by rintro _ rfl _ rfl v7 h7;exact(qf (bQ.ext (bQ.mk (cv (ia.ext e1) (ib.ext e1) (ic.ext e1))) hw) (bQ.ext (bQ.mk (cv (ja.ext e1) (jb.ext e1) (jc.ext e1))) hw) h7 (by omega) (by omega)).mono fun _ _ ⟨v,e,a1,a2⟩=>⟨v,e,a1,a2.low (Nb (e1).size hw.size)⟩) (bA ?_))
 rintro wg1 xg1 _ rfl vg8 h8
 obtain⟨x8_0,x8_1,x8_2,rfl,f8_0,f8_1,f8_2,n8⟩:=h8
 refine bD J J (k4.ext xg1) J ay (am.cons f8_0.one (am.cons J (am.cons f8_1.one (am.cons f8_2.one am.nil)))) fun w1_4 q1_4 k1_4=>?_
 have x1_4:=aH.of_new ((x4.trans xg1)) q1_4 l4
 have m1_4:=Kq.of1 (p:=[3,0,3,3]) (k4.ext xg1) (ac rfl (ac rfl (ac rfl (ac rfl aT)))) q1_4
 refine aI (aD (bp J (.cell J (k1_4.ld MG J ay) .nil) ?_))
 exact⟨_,J,((x2.trans x3).trans x1_4),_,_,_,J,(f8_0.kq m1_4),(f8_1.kq m1_4),(f8_2.kq m1_4),n8⟩
theorem Gf {w:World} {f g:dx} {v u:Value} (hv:bQ dZ f v w) (hu:bQ dZ g u w) (hB:ew f+ew g≤17179869180∧f.ts.length+g.ts.length≤549755813887):
 Calls Tryz.prog 114 #[v,u] w (cA fun r w'=>aH w w'∧bQ dZ (lj f g) r w'):=(wu hv hu hB).mono fun _ _ ⟨v,e,h1,h2⟩=>⟨v,e,h1,h2.st⟩
theorem q5 {w:World} {f g:dx} {v u:Value} (hv:bQ dZ f v w) (hu:bQ dZ g u w) (hB:ew f+ew g≤17179869180∧f.ts.length+g.ts.length≤549755813887):
 Calls Tryz.prog 200 #[v,u] w (cA fun r w'=>aH w w'∧bQ dZ (kf f g) r w'):=by
 obtain⟨_,rfl,ra⟩:=hv
 obtain⟨fa,fb,fc,rfl,ia,ib,ic⟩:=cl ra
 obtain⟨_,rfl,rb⟩:=hu
 obtain⟨ga,gb,gc,rfl,ja,jb,jc⟩:=cl rb
 have h1:=Mi
 refine enter (vs:=[.agg #[fa,B f.ct.sg,fb,fc],.agg #[ga,B g.ct.sg,gb,gc]]) Tryz.func200 J J J (bc (cj J J fun g2 w2 l2 x2 k2=>cj J J fun g3 w3 l3 x3 k3=>ce cd J fun g4 w4 l4 x4 k4=>(aI (aj (bj 4 [4,8] (by kernel_rfl) (by kernel_rfl) (ap J J (fun w hw=>((k2.ext (x3.trans x4)).ext hw).ld MG J ay) (ap J J (fun w hw=>((k3.ext x4).ext hw).ld MG J ay) ?_)))))))
 have e1:=(x2.trans x3).trans x4
 refine es (S:=QV (-1)) kM (QV.stable _) J J (fun w hw=>Lr) (bZ (S:=bQ dZ (kf f g)) m6 (bQ.stable _ _) J (fun w hw=>by rintro _ rfl _ rfl v7 h7;exact wt ((bQ.mk (cv (ia.ext e1) (ib.ext e1) (ic.ext e1))).ext hw) ((bQ.mk (cv (ja.ext e1) (jb.ext e1) (jc.ext e1))).ext hw) h7 (by omega) (by omega)) (bA ?_))
 rintro wg1 xg1 _ rfl _ ⟨_,rfl,r8⟩
 obtain⟨x8_0,x8_1,x8_2,rfl,f8_0,f8_1,f8_2⟩:=cl r8
 refine bD J J (k4.ext xg1) J ay (am.cons f8_0.one (am.cons J (am.cons f8_1.one (am.cons f8_2.one am.nil)))) fun w1_4 q1_4 k1_4=>?_
 have x1_4:=aH.of_new ((x4.trans xg1)) q1_4 l4
 have m1_4:=Kq.of1 (p:=[3,0,3,3]) (k4.ext xg1) (ac rfl (ac rfl (ac rfl (ac rfl aT)))) q1_4
 refine aI (aD (bp J (.cell J (k1_4.ld MG J ay) .nil) ?_))
 exact⟨_,J,((x2.trans x3).trans x1_4),(bQ.mk (cv (f8_0.kq m1_4) (f8_1.kq m1_4) (f8_2.kq m1_4)))⟩
theorem Mj {w:World}:bQ dZ zF (.agg #[.slice none 0 0,B false,.slice none 0 0,.slice none 0 0]) w:=bQ.mk (cv (a:=zF) (cF.nil _ _) (bH.nil _) (bH.nil _))
theorem m8 {w:World} {f:dx} {c:Rat} {v u:Value} (hv:bQ dZ f v w) (hu:QV c u w) (hB:ew f+bt c≤17179869180∧f.ts.length≤549755813887):
 Calls Tryz.prog 139 #[v,u] w (cA fun r w'=>aH w w'∧bQ dZ (cN f c) r w'):=by
 obtain⟨_,rfl,ra⟩:=hv
 obtain⟨fa,fb,fc,rfl,ia,ib,ic⟩:=cl ra
 obtain⟨ca,cb,rfl,la,lb'⟩:=hu
 have h1:ew zF=2:=by decide
 refine enter (vs:=[.agg #[fa,B f.ct.sg,fb,fc],.agg #[B c.sg,ca,cb]]) Tryz.func139 J J J (bc (cj J J fun g2 w2 l2 x2 k2=>cj J J fun g3 w3 l3 x3 k3=>ce cd J fun g4 w4 l4 x4 k4=>(dR (bV (r:=.agg #[.slice none 0 0,B false,.slice none 0 0,.slice none 0 0]) J J (by exact run_build _ _ _ _ (by kernel_rfl)) (ak J J ((k2.ext (x3.trans x4)).ld MG J ay) (ak J J ((k3.ext x4).ld MC J ag) ?_))))))
 have e1:=(x2.trans x3).trans x4
 refine aq m6 J J ((wt (f:=zF) (g:=f) (c:=c) Mj (bQ.mk (cv (ia.ext e1) (ib.ext e1) (ic.ext e1))) (aU.mk (la.ext e1) (lb'.ext e1)) (by omega) (by show 0+_≤_;omega))) ?_
 rintro v8 w8 ⟨x8,⟨_,rfl,r8⟩⟩
 obtain⟨x8_0,x8_1,x8_2,rfl,f8_0,f8_1,f8_2⟩:=cl r8
 refine bD J J (k4.ext x8) J ay (am.cons f8_0.one (am.cons J (am.cons f8_1.one (am.cons f8_2.one am.nil)))) fun w1_4 q1_4 k1_4=>?_
 have x1_4:=aH.of_new ((x4.trans x8)) q1_4 l4
 have m1_4:=Kq.of1 (p:=[3,0,3,3]) (k4.ext x8) (ac rfl (ac rfl (ac rfl (ac rfl aT)))) q1_4
 refine aI (aD (bp J (.cell J (k1_4.ld MG J ay) .nil) ?_))
 exact⟨_,J,((x2.trans x3).trans x1_4),(bQ.mk (cv (f8_0.kq m1_4) (f8_1.kq m1_4) (f8_2.kq m1_4)))⟩
theorem zT {w:World} {x:Rat} {v:Value} (hv:QV x v w) (hB:bt x≤34359738368):
 Calls Tryz.prog 408 #[v] w (cA fun r w'=>aH w w'∧QV x r w'):=by
 obtain⟨ca,cb,rfl,la,lb'⟩:=hv
 have e1:lb (val x.nl)=x.nl:=by rw[vV];rfl
 have e2:lb (val x.dl)=x.dl:=by
  unfold Rat.dl
  split
  ·rfl
  ·rw[bk]
 have n1:=zx x
 have n2:=zy x
 refine enter (vs:=[.agg #[B x.sg,ca,cb]]) Tryz.func408 J J J (bc (cj J J fun g1 w1 l1 x1 k1=>ce bv J fun g2 w2 l2 x2 k2=>(aI (aj (bj 9 [2,11] (by kernel_rfl) (by kernel_rfl) (al J J (fun w hw=>dj) (ap J J (fun w hw=>ai MH J (hw.cell_some (x2.cell_some (k1.cell (i:=0) J)))) (al J J (fun w hw=>ed) (ap J J (fun w hw=>ai MD J (hw.cell_some (x2.cell_some (k1.cell (i:=1) J)))) (es (S:=bH x.nl) gM (bH.stable _) J J (fun w hw=>by have:=gO ((la.ext (x1.trans x2)).ext hw) (by omega);rw[e1] at this;exact this) (al J J (fun w hw=>gq) (ap J J (fun w hw=>ai MD J (hw.cell_some (x2.cell_some (k1.cell (i:=2) J)))) (es (S:=bH x.dl) gM (bH.stable _) J J (fun w hw=>by have:=gO ((lb'.ext (x1.trans x2)).ext hw) (by omega);rw[e2] at this;exact this) ?_)))))))))))))
 refine et (S:=fun v w=>∃y11_1_0 y11_2_0:Value,v=.agg #[B x.sg,y11_1_0,y11_2_0]∧bH x.nl y11_1_0 w∧bH x.dl y11_2_0 w) (fun _ _ _ ⟨_,_,e,g0,g1⟩ hx=>⟨_,_,e,g0.ext hx,g1.ext hx⟩) J (fun w hw=>by rintro _ rfl v7 h7 v10 h10;have k11_1_0:=h7;have k11_2_0:=h10;obtain⟨_,_,_,rfl⟩:=k11_1_0.isS;obtain⟨_,_,_,rfl⟩:=k11_2_0.isS;exact⟨_,w,run_build _ _ _ _ (by kernel_rfl),aH.refl _,_,_,J,k11_1_0,k11_2_0⟩) (bA ?_)
 rintro wg1 xg1 _ rfl _ ⟨y11_0,y11_1,rfl,k11_0,k11_1⟩
 refine bD J J (k2.ext xg1) J ag (am.cons J (am.cons k11_0.one (am.cons k11_1.one am.nil))) fun w1_9 q1_9 k1_9=>?_
 have x1_9:=aH.of_new ((x2.trans xg1)) q1_9 l2
 have m1_9:=Kq.of1 (p:=[0,3,3]) (k2.ext xg1) (ac rfl (ac rfl (ac rfl aT))) q1_9
 refine aI (aD (bp J (.cell J (k1_9.ld MC J ag) .nil) ?_))
 exact⟨_,J,(x1.trans x1_9),(aU.mk (k11_0.kq m1_9) (k11_1.kq m1_9))⟩
theorem C0 {w:World} {f:dx} {n:Int} {v:Value} (hv:bQ dZ f v w) (hB:ew f≤17179869180):
 Calls Tryz.prog 406 #[v,I n] w (cA fun r w'=>aH w w'∧QV (iz f n) r w'):=by
 obtain⟨_,rfl,ra⟩:=hv
 obtain⟨fa,fb,fc,rfl,ia,ib,ic⟩:=cl ra
 unfold ew at hB
 have hlen:=ia.len
 refine enter (vs:=[.agg #[fa,B f.ct.sg,fb,fc],I n]) Tryz.func406 J J J (bc (cj J J fun g2 w2 l2 x2 k2=>ce bv J fun g4 w4 l4 x4 k4=>(aI (aj (bc (af J J (bI) (ak J J (ai ML J (x4.cell_some (k2.cell (i:=0) J))) (bn J J (bB ML (ia.ext (x2.trans x4))) (ab J J (aI (aJ (dS (α:=Nat) (fun i=>[(1,I n),(2,.pointer (some ⟨g2,0,none⟩)),(4,.pointer (some ⟨g4,0,none⟩)),(8,fa),(9,I (f.ts.length:Int)),(10,I (i:Int))]) (fun i w'=>aH w4 w'∧i≤f.ts.length∧i7 n (f.ts.drop i)=iz f n) (fun i=>f.ts.length-i) (0) ⟨J,J,J,J,J,J,trivial⟩ ⟨aH.refl _,by omega,J⟩ ?_))))))))))))
 rintro i wL ⟨eL,hi,hc⟩
 refine bc (ao J J J (aX) (aI (aj (ci J (fun h11=>?_) (fun h11=>?_)))))
 ·refine aA (ah (aj (aJ (bc ?_))))
  obtain⟨a12,c12,e12,he12,p12,q12,h12⟩:=cU (ia.ext ((x2.trans x4).trans eL)) (i:=i)
  obtain⟨x12_0,x12_1,rfl,f12_0,f12_1⟩:=d4 h12
  refine aE J J J (p12 _) ?_
  have hm:=lK (l:=f.ts) (t:=e12) (by rw[he12];exact Nh _)
  have hd:i7 n (f.ts.drop i)=if e12.va=n then e12.co else i7 n (f.ts.drop (i+1)):=by
   rw[List.drop_eq_getElem_cons (show i<f.ts.length by omega),←he12];rfl
  refine ak J J (q12.ld MY J dG) (ce jl J fun g6 w6 l6 x6 k6=>bD J J k6 J dG (am.cons J (am.cons J (am.cons f12_0.one (am.cons f12_1.one am.nil)))) fun w3_3 q3_3 k3_3=>?_)
  have x3_3:=aH.of_new (x6) q3_3 l6
  refine dR (af J J (cf) (ak J J (ai ME J (k3_3.cell (i:=0) J)) (ab J J (ao J J J (aO) (aI (ci J (fun h17=>?_) (fun h17=>?_)))))))
  ·refine bc (af J J (cM) (ak J J (k3_3.ldO (ms:=[B e12.co.sg,x12_0,x12_1]) (o:=1) (ef J) MC J ag) ?_))
   refine aq zP J J (zT (aU.mk (f12_0.ext x3_3) (f12_1.ext x3_3)) (by omega)) ?_
   rintro v20 w20 ⟨x20,⟨x20_0,x20_1,rfl,f20_0,f20_1⟩⟩
   refine bD J J (k4.ext ((eL.trans x3_3).trans x20)) J ag (am.cons J (am.cons f20_0.one (am.cons f20_1.one am.nil))) fun w5_3 q5_3 k5_3=>?_
   have x5_3:=aH.of_new ((((x4.trans eL).trans x3_3).trans x20)) q5_3 l4
   have m5_3:=Kq.of1 (p:=[0,3,3]) (k4.ext ((eL.trans x3_3).trans x20)) (ac rfl (ac rfl (ac rfl aT))) q5_3
   refine aI (aD (bK (a0 (a0 (bK (a0 (bp J (.cell J (k5_3.ld MC J ag) .nil) ?_)))))))
   exact⟨_,J,(x2.trans x5_3),by rw[←hc,hd,if_pos h17];exact(aU.mk (f20_0.kq m5_3) (f20_1.kq m5_3))⟩
  ·refine aA (aW (ah (ae (ao (r:=I ((i+1:Nat):Int)) J J J (by have e:((i+1:Nat):Int)=(i:Int)+1:=(by omega);rw[e];exact aY) ?_))))
   refine ab J J (ar ?_)
   rw[if_neg h17] at hd
   refine dC (i+1) ⟨J,J,J,J,J,J,trivial⟩ ⟨(eL.trans x3_3),by omega,by rw[←hd];exact hc⟩ (by omega)
 ·refine bJ (aV (aV (bP (ah (bc (bV (r:=.agg #[B false,.slice none 0 0,.slice none 0 0]) J J (by exact run_build _ _ _ _ (by kernel_rfl)) ?_))))))
  refine bD J J (k4.ext eL) J ag (am.cons J (am.cons J (am.cons J am.nil))) fun w7_1 q7_1 k7_1=>?_
  have x7_1:=aH.of_new ((x4.trans eL)) q7_1 l4
  refine aI (aD (bp J (.cell J (k7_1.ld MC J ag) .nil) ?_))
  exact⟨_,J,(x2.trans x7_1),by
   have e:iz f n=0:=by
    rw[←hc,List.drop_of_length_le (by omega)];rfl
   rw[e];exact(aU.mk (bH.nil _) (bH.nil _))⟩
end Go.Rl
namespace Go.Rl
open Go.RowKit Go.Proofs
def Ck (l:List dU) (i:Nat):Int:=if h:0<i∧i-1<l.length then l[i-1].va+1 else 0
theorem Br {l:List dU} {i:Nat} (h:i<l.length):Ck l (i+1)=l[i].va+1:=by unfold Ck;rw[dif_pos ⟨by omega,by simpa using h⟩];rfl
theorem jX {x:Rat}:gx x=0↔x=0:=by have:=@zQ x;constructor<;>intro h<;>grind
theorem Ls (l:List dU) (i:Nat) (hi:i<l.length) (n:Int):
 l[i].va<0∨(0≤l[i].va∧n≤l[i].va)∨(∃_:0<i,0≤l[i].va∧l[i].va<n∧l[i].va≤l[i-1].va)∨((0≤l[i].va∧l[i].va<n∧Ck l i≤l[i].va)∧i=0∧l[i].co=0)∨((0≤l[i].va∧l[i].va<n∧Ck l i≤l[i].va)∧i=0∧l[i].co≠0)∨
  ((0≤l[i].va∧l[i].va<n∧Ck l i≤l[i].va)∧(∃_:0<i,l[i-1].va<l[i].va)∧l[i].co=0)∨((0≤l[i].va∧l[i].va<n∧Ck l i≤l[i].va)∧(∃_:0<i,l[i-1].va<l[i].va)∧l[i].co≠0):=by
 by_cases h1:l[i].va<0
 ·exact .inl h1
 by_cases h2:n≤l[i].va
 ·exact .inr (.inl ⟨by omega,h2⟩)
 by_cases h3:i=0
 ·have h4:0≤l[i].va∧l[i].va<n∧Ck l i≤l[i].va:=⟨by omega,by omega,by unfold Ck;rw[dif_neg (by omega)];omega⟩
  by_cases h6:l[i].co=0
  ·exact .inr (.inr (.inr (.inl ⟨h4,h3,h6⟩)))
  ·exact .inr (.inr (.inr (.inr (.inl ⟨h4,h3,h6⟩))))
 have h4:Ck l i=l[i-1].va+1:=by unfold Ck;rw[dif_pos ⟨by omega,by omega⟩]
 by_cases h5:l[i].va≤l[i-1].va
 ·exact .inr (.inr (.inl ⟨by omega,by omega,by omega,h5⟩))
 ·by_cases h6:l[i].co=0
  ·exact .inr (.inr (.inr (.inr (.inr (.inl ⟨⟨by omega,by omega,by omega⟩,⟨by omega,by omega⟩,h6⟩)))))
  ·exact .inr (.inr (.inr (.inr (.inr (.inr ⟨⟨by omega,by omega,by omega⟩,⟨by omega,by omega⟩,h6⟩)))))
theorem Lt {n lo:Int} {l:List dU} {i:Nat} (hi:i<l.length):po n lo (l.drop i)=(decide (lo≤l[i].va)&&decide (l[i].va<n)&&decide (l[i].co≠0)&&po n (l[i].va+1) (l.drop (i+1))):=by
 rw[List.drop_eq_getElem_cons hi];rfl
theorem iQ {w:World} {f:dx} {n:Int} {v:Value} (hv:bQ dZ f v w) (hB:ew f≤17179869180):
 Calls Tryz.prog 117 #[v,I n] w (cA fun r w'=>aH w w'∧Is (B (i8 f n)) r w'):=by
 obtain⟨_,rfl,ra⟩:=hv
 obtain⟨fa,fb,fc,rfl,ia,ib,ic⟩:=cl ra
 unfold ew at hB
 have hlen:=ia.len
 refine enter (vs:=[.agg #[fa,B f.ct.sg,fb,fc],I n]) Tryz.func117 J J J (bc (cj J J fun g2 w2 l2 x2 k2=>(aa J J (aI (aj (bc (af J J (bI) (ak J J (ai ML J (k2.cell (i:=0) J)) (bn J J (bB ML (ia.ext x2)) (ab J J (aI (aJ (dS (α:=Nat) (fun i=>[(1,I n),(2,.pointer (some ⟨g2,0,none⟩)),(8,fa),(9,I (f.ts.length:Int)),(10,I (i:Int))]) (fun i w'=>aH w2 w'∧i≤f.ts.length∧po n (Ck f.ts i) (f.ts.drop i)=i8 f n∧0≤Ck f.ts i) (fun i=>f.ts.length-i) (0) ⟨J,J,J,J,J,trivial⟩ ⟨aH.refl _,by omega,J,Int.le_refl _⟩ ?_)))))))))))))
 rintro i wL ⟨eL,hi,hk,h0⟩
 refine bc (ao J J J (aX) (aI (aj (ci J (fun h11=>?_) (fun h11=>?_)))))
 ·refine aA (ah (aj (aJ (bc (ab J J ?_)))))
  obtain⟨a13,c13,e13,he13,p13,q13,h13⟩:=cU (ia.ext (x2.trans eL)) (i:=i)
  obtain⟨x13_0,x13_1,rfl,f13_0,f13_1⟩:=d4 h13
  refine aE J J J (p13 _) ?_
  have hm:=lK (l:=f.ts) (t:=e13) (by rw[he13];exact Nh _)
  have hat:=Lt (n:=n) (lo:=Ck f.ts i) (l:=f.ts) (i:=i) (by omega)
  rw[hk,←he13] at hat
  refine ak J J (q13.ld MY J dG) (ce jl J fun g6 w6 l6 x6 k6=>(aa J J (bD J J k6 J dG (am.cons J (am.cons J (am.cons f13_0.one (am.cons f13_1.one am.nil)))) fun w3_5 q3_5 k3_5=>?_)))
  have x3_5:=aH.of_new (x6) q3_5 l6
  refine aI (aj ?_)
  rcases Ls f.ts i (by omega) n with hA|⟨hA,hB1⟩|⟨hp,hA,hB1,hC⟩|⟨⟨hA,hB1,hC⟩,hD,hZ⟩|⟨⟨hA,hB1,hC⟩,hD,hZ⟩|⟨⟨hA,hB1,hC⟩,⟨hp,hD⟩,hZ⟩|⟨⟨hA,hB1,hC⟩,⟨hp,hD⟩,hZ⟩<;>rw[←he13] at hA<;>(try rw[←he13] at hB1)<;>(try rw[←he13] at hC)<;>(try rw[←he13] at hZ)
  ·refine bj 36 [1,2,8,9,10,46,50] (by kernel_rfl) (by kernel_rfl) ?_
   refine al J J (fun w hw=>cf) (ap J J (fun w hw=>ai ME J (hw.cell_some (k3_5.cell (i:=0) J))) (bC J J J (fun w _=>bF (by omega) aX) (ax (S:=Is (B true)) J J (bu J J J (bu J J J (bu J J J (bu J J J (dT (S:=Is (B true)) J J J (ax (S:=Is (B true)) J J (bu J J J (bu J J J (bu J J J (bw J J J (bw J J J (bw J J J (bw J J J (bw J J J (bw J J J (bw J J J (bw J J J (bw J J J (bw J J J (bu J J J (dT (S:=Is (B true)) J J J (ax (S:=Is (B true)) J J (bu J J J (bu J J J (bu J J J (bu J J J (dT (S:=Is (B true)) J J J (ax (S:=Is (B true)) J J (bu J J J (bu J J J (bu J J J (bu J J J (bA ?_))))))))))))))))))))))))))))))))))))
   rintro wg4 xg4 _ rfl _ rfl _ hq8
   obtain rfl:=Eq.symm hq8
   rintro _ rfl _ rfl _ rfl _ rfl
   refine aR J J J (aI (cg J (bc (aa J J (aI (aD (bK (a0 (a0 (bK (a0 (aF J J ?_))))))))))))
   exact⟨_,J,(((x2.trans eL).trans x3_5).trans xg4),by rw[hat,decide_eq_false (show ¬Ck f.ts i≤e13.va by omega)];rfl⟩
  ·refine bj 36 [1,2,8,9,10,46,50] (by kernel_rfl) (by kernel_rfl) ?_
   refine al J J (fun w hw=>cf) (ap J J (fun w hw=>ai ME J (hw.cell_some (k3_5.cell (i:=0) J))) (bC J J J (fun w _=>be (by omega) aX) (ax (S:=Is (B false)) J J (au J J (al J J (fun w hw=>cf) (au J J (ap J J (fun w hw=>ai ME J (hw.cell_some (k3_5.cell (i:=0) J))) (au J J (ax (S:=Is (I n)) J J (au J J (bC J J J (fun w _=>bF (by omega) cz) (cQ (S:=Is (B true)) J J J (ax (S:=Is (B true)) J J (bu J J J (bu J J J (bu J J J (bw J J J (bw J J J (bw J J J (bw J J J (bw J J J (bw J J J (bw J J J (bw J J J (bw J J J (bw J J J (bu J J J (dT (S:=Is (B true)) J J J (ax (S:=Is (B true)) J J (bu J J J (bu J J J (bu J J J (bu J J J (dT (S:=Is (B true)) J J J (ax (S:=Is (B true)) J J (bu J J J (bu J J J (bu J J J (bu J J J (bA ?_))))))))))))))))))))))))))))))))))))))))
   rintro wg4 xg4 _ rfl _ rfl _ hq8
   obtain rfl:=Eq.symm hq8
   rintro _ rfl _ rfl _ rfl _ rfl
   refine aR J J J (aI (cg J (bc (aa J J (aI (aD (bK (a0 (a0 (bK (a0 (aF J J ?_))))))))))))
   exact⟨_,J,(((x2.trans eL).trans x3_5).trans xg4),by rw[hat,decide_eq_false (show ¬e13.va<n by omega),Bool.and_false];rfl⟩
  ·refine bj 36 [1,2,8,9,10,46,50] (by kernel_rfl) (by kernel_rfl) ?_
   refine al J J (fun w hw=>cf) (ap J J (fun w hw=>ai ME J (hw.cell_some (k3_5.cell (i:=0) J))) (bC J J J (fun w _=>be (by omega) aX) (ax (S:=Is (B false)) J J (au J J (al J J (fun w hw=>cf) (au J J (ap J J (fun w hw=>ai ME J (hw.cell_some (k3_5.cell (i:=0) J))) (au J J (ax (S:=Is (I n)) J J (au J J (bC J J J (fun w _=>be (by omega) cz) (cQ (S:=Is (B false)) J J J (ax (S:=Is (B false)) J J (au J J (ax (S:=Is (I (i:Int))) J J (au J J (bC J J J (fun w _=>bF (by omega) bo) (au J J (ax (S:=Is (B true)) J J (au J J (al J J (fun w hw=>bI) (au J J (ap J J (fun w hw=>ai ML J (hw.cell_some ((eL.trans x3_5).cell_some (k2.cell (i:=0) J)))) (au J J (ax (S:=Is (I (i:Int))) J J (au J J (bC (r:=I ((i-1:Nat):Int)) J J J (fun w _=>by have e:((i-1:Nat):Int)=(i:Int)-1:=(by omega);rw[e];exact bT) (au J J ?_))))))))))))))))))))))))))))
   obtain⟨a32,c32,p32,q32,h32⟩:=cP (P:=Tryz.prog) (sz:=4) ML (by kernel_rfl) gY (by omega) (ia.ext ((x2.trans eL).trans x3_5)) (i:=(i-1:Nat)) (by omega) .i64
   obtain⟨e32,he32⟩:∃e,e=f.ts[(i-1:Nat)]'(by omega):=⟨_,rfl⟩
   rw[←he32] at h32
   obtain⟨x32_0,x32_1,rfl,f32_0,f32_1⟩:=d4 h32
   refine aK J J J (fun w _=>p32 w) (au J J (al J J (fun w hw=>de) (au J J (ap J J (fun w hw=>ai ME J (hw.cell_some (q32.at (j:=0) J))) (au J J (al J J (fun w hw=>cf) (au J J (ap J J (fun w hw=>ai ME J (hw.cell_some (k3_5.cell (i:=0) J))) (au J J (bC J J J (fun w _=>bF (by rw[he32];exact hC) cz) (au J J (dT (S:=Is (B true)) J J J (cQ (S:=Is (B true)) J J J (ax (S:=Is (B true)) J J (bu J J J (bu J J J (bu J J J (bu J J J (dT (S:=Is (B true)) J J J (ax (S:=Is (B true)) J J (bu J J J (bu J J J (bu J J J (bu J J J (bA ?_)))))))))))))))))))))))))
   rintro wg4 xg4 _ rfl _ rfl _ hq8
   obtain rfl:=Eq.symm hq8
   rintro _ rfl _ rfl _ rfl _ rfl
   refine aR J J J (aI (cg J (bc (aa J J (aI (aD (bK (a0 (a0 (bK (a0 (aF J J ?_))))))))))))
   exact⟨_,J,(((x2.trans eL).trans x3_5).trans xg4),by
    rw[hat,decide_eq_false (show ¬Ck f.ts i≤e13.va by unfold Ck;rw[dif_pos ⟨by omega,by omega⟩];omega)];rfl⟩
  ·refine bj 36 [1,2,8,9,10,46,50] (by kernel_rfl) (by kernel_rfl) ?_
   refine al J J (fun w hw=>cf) (ap J J (fun w hw=>ai ME J (hw.cell_some (k3_5.cell (i:=0) J))) (bC J J J (fun w _=>be (by omega) aX) (ax (S:=Is (B false)) J J (au J J (al J J (fun w hw=>cf) (au J J (ap J J (fun w hw=>ai ME J (hw.cell_some (k3_5.cell (i:=0) J))) (au J J (ax (S:=Is (I n)) J J (au J J (bC J J J (fun w _=>be (by omega) cz) (cQ (S:=Is (B false)) J J J (ax (S:=Is (B false)) J J (au J J (ax (S:=Is (I (i:Int))) J J (au J J (bC J J J (fun w _=>be (by omega) bo) (au J J (ax (S:=Is (B false)) J J (bu J J J (bu J J J (bu J J J (bu J J J (bu J J J (bu J J J (bu J J J (bu J J J (bu J J J (bu J J J (au J J (cQ (S:=Is (B false)) J J J (cQ (S:=Is (B false)) J J J (ax (S:=Is (B false)) J J (au J J (al J J (fun w hw=>cM) ?_)))))))))))))))))))))))))))))))))))
   refine au J J (ap J J (fun w hw=>(k3_5.ext hw).ldO (ms:=[B e13.co.sg,x13_0,x13_1]) (o:=1) (ef J) MC J ag) (au J J (es (S:=Is (I (gx e13.co))) cw (bi.is _) J J (fun w hw=>ek ((aU.mk (f13_0.ext x3_5) (f13_1.ext x3_5)).ext hw) (by omega)) (au J J (bC J J J (fun w _=>bF (jX.2 hZ) aO) (cQ (S:=Is (B true)) J J J (ax (S:=Is (B true)) J J (bu J J J (bu J J J (bu J J J (bu J J J (bA ?_))))))))))))
   rintro wg4 xg4 _ rfl _ rfl _ hq8
   obtain rfl:=Eq.symm hq8
   rintro _ rfl _ rfl _ rfl _ rfl
   refine aR J J J (aI (cg J (bc (aa J J (aI (aD (bK (a0 (a0 (bK (a0 (aF J J ?_))))))))))))
   exact⟨_,J,(((x2.trans eL).trans x3_5).trans xg4),by rw[hat,decide_eq_false (show ¬e13.co≠0 from fun h=>h hZ),Bool.and_false];rfl⟩
  ·refine bj 36 [1,2,8,9,10,46,50] (by kernel_rfl) (by kernel_rfl) ?_
   refine al J J (fun w hw=>cf) (ap J J (fun w hw=>ai ME J (hw.cell_some (k3_5.cell (i:=0) J))) (bC J J J (fun w _=>be (by omega) aX) (ax (S:=Is (B false)) J J (au J J (al J J (fun w hw=>cf) (au J J (ap J J (fun w hw=>ai ME J (hw.cell_some (k3_5.cell (i:=0) J))) (au J J (ax (S:=Is (I n)) J J (au J J (bC J J J (fun w _=>be (by omega) cz) (cQ (S:=Is (B false)) J J J (ax (S:=Is (B false)) J J (au J J (ax (S:=Is (I (i:Int))) J J (au J J (bC J J J (fun w _=>be (by omega) bo) (au J J (ax (S:=Is (B false)) J J (bu J J J (bu J J J (bu J J J (bu J J J (bu J J J (bu J J J (bu J J J (bu J J J (bu J J J (bu J J J (au J J (cQ (S:=Is (B false)) J J J (cQ (S:=Is (B false)) J J J (ax (S:=Is (B false)) J J (au J J (al J J (fun w hw=>cM) ?_)))))))))))))))))))))))))))))))))))
   refine au J J (ap J J (fun w hw=>(k3_5.ext hw).ldO (ms:=[B e13.co.sg,x13_0,x13_1]) (o:=1) (ef J) MC J ag) (au J J (es (S:=Is (I (gx e13.co))) cw (bi.is _) J J (fun w hw=>ek ((aU.mk (f13_0.ext x3_5) (f13_1.ext x3_5)).ext hw) (by omega)) (au J J (bC J J J (fun w _=>be (fun h=>hZ (jX.1 h)) aO) (cQ (S:=Is (B false)) J J J (ax (S:=Is (B false)) J J (au J J (al J J (fun w hw=>cM) (au J J (ap J J (fun w hw=>(k3_5.ext hw).ldO (ms:=[B e13.co.sg,x13_0,x13_1]) (o:=1) (ef J) MC J ag) (au J J (es (S:=Is (B true)) gm (bi.is _) J J (fun w hw=>lJ ((aU.mk (f13_0.ext x3_5) (f13_1.ext x3_5)).ext hw) (by omega)) (au J J (jF J J (fun w _=>cn) (bA ?_))))))))))))))))
   rintro wg4 xg4 _ rfl _ rfl _ hq8
   obtain rfl:=Eq.symm hq8
   rintro _ rfl _ rfl _ rfl _ rfl
   refine aG J J J (aI (bU J (aA (aW (ah (ae (ao (r:=I ((i+1:Nat):Int)) J J J (by have e:((i+1:Nat):Int)=(i:Int)+1:=(by omega);rw[e];exact aY) (ab J J (ar ?_)))))))))
   have hs:=Br (l:=f.ts) (i:=i) (by omega)
   rw[←he13] at hs
   refine dC (i+1) ⟨J,J,J,J,J,trivial⟩ ⟨((eL.trans x3_5).trans xg4),by omega,by rw[hat,decide_eq_true hC,decide_eq_true hB1,decide_eq_true hZ,hs];rfl,by omega⟩ (by omega)
  ·rw[←he13] at hD
   refine bj 36 [1,2,8,9,10,46,50] (by kernel_rfl) (by kernel_rfl) (al J J (fun w hw=>cf) (ap J J (fun w hw=>ai ME J (hw.cell_some (k3_5.cell (i:=0) J))) (bC J J J (fun w _=>be (by omega) aX) (ax (S:=Is (B false)) J J (au J J (al J J (fun w hw=>cf) (au J J (ap J J (fun w hw=>ai ME J (hw.cell_some (k3_5.cell (i:=0) J))) (au J J (ax (S:=Is (I n)) J J (au J J (bC J J J (fun w _=>be (by omega) cz) (cQ (S:=Is (B false)) J J J (ax (S:=Is (B false)) J J (au J J (ax (S:=Is (I (i:Int))) J J (au J J (bC J J J (fun w _=>bF (by omega) bo) (au J J (ax (S:=Is (B true)) J J (au J J (al J J (fun w hw=>bI) (au J J (ap J J (fun w hw=>ai ML J (hw.cell_some ((eL.trans x3_5).cell_some (k2.cell (i:=0) J)))) (au J J (ax (S:=Is (I (i:Int))) J J (au J J (bC (r:=I ((i-1:Nat):Int)) J J J (fun w _=>by have e:((i-1:Nat):Int)=(i:Int)-1:=(by omega);rw[e];exact bT) (au J J ?_)))))))))))))))))))))))))))))
   obtain⟨a32,c32,p32,q32,h32⟩:=cP (P:=Tryz.prog) (sz:=4) ML (by kernel_rfl) gY (by omega) (ia.ext ((x2.trans eL).trans x3_5)) (i:=(i-1:Nat)) (by omega) .i64
   obtain⟨e32,he32⟩:∃e,e=f.ts[(i-1:Nat)]'(by omega):=⟨_,rfl⟩
   rw[←he32] at h32
   obtain⟨x32_0,x32_1,rfl,f32_0,f32_1⟩:=d4 h32
   refine aK J J J (fun w _=>p32 w) (au J J (al J J (fun w hw=>de) (au J J (ap J J (fun w hw=>ai ME J (hw.cell_some (q32.at (j:=0) J))) (au J J (al J J (fun w hw=>cf) (au J J (ap J J (fun w hw=>ai ME J (hw.cell_some (k3_5.cell (i:=0) J))) (au J J (bC J J J (fun w _=>be (by rw[he32];omega) cz) (au J J (dT (S:=Is (B false)) J J J (cQ (S:=Is (B false)) J J J (ax (S:=Is (B false)) J J (au J J (al J J (fun w hw=>cM) (au J J (ap J J (fun w hw=>(k3_5.ext hw).ldO (ms:=[B e13.co.sg,x13_0,x13_1]) (o:=1) (ef J) MC J ag) (au J J (es (S:=Is (I (gx e13.co))) cw (bi.is _) J J (fun w hw=>ek ((aU.mk (f13_0.ext x3_5) (f13_1.ext x3_5)).ext hw) (by omega)) (au J J (bC J J J (fun w _=>bF (jX.2 hZ) aO) (cQ (S:=Is (B true)) J J J (ax (S:=Is (B true)) J J (bu J J J (bu J J J (bu J J J (bu J J J (bA ?_)))))))))))))))))))))))))))))
   rintro wg4 xg4 _ rfl _ rfl _ hq8
   obtain rfl:=Eq.symm hq8
   rintro _ rfl _ rfl _ rfl _ rfl
   refine aR J J J (aI (cg J (bc (aa J J (aI (aD (bK (a0 (a0 (bK (a0 (aF J J ?_))))))))))))
   exact⟨_,J,(((x2.trans eL).trans x3_5).trans xg4),by rw[hat,decide_eq_false (show ¬e13.co≠0 from fun h=>h hZ),Bool.and_false];rfl⟩
  ·rw[←he13] at hD
   refine bj 36 [1,2,8,9,10,46,50] (by kernel_rfl) (by kernel_rfl) (al J J (fun w hw=>cf) (ap J J (fun w hw=>ai ME J (hw.cell_some (k3_5.cell (i:=0) J))) (bC J J J (fun w _=>be (by omega) aX) (ax (S:=Is (B false)) J J (au J J (al J J (fun w hw=>cf) (au J J (ap J J (fun w hw=>ai ME J (hw.cell_some (k3_5.cell (i:=0) J))) (au J J (ax (S:=Is (I n)) J J (au J J (bC J J J (fun w _=>be (by omega) cz) (cQ (S:=Is (B false)) J J J (ax (S:=Is (B false)) J J (au J J (ax (S:=Is (I (i:Int))) J J (au J J (bC J J J (fun w _=>bF (by omega) bo) (au J J (ax (S:=Is (B true)) J J (au J J (al J J (fun w hw=>bI) (au J J (ap J J (fun w hw=>ai ML J (hw.cell_some ((eL.trans x3_5).cell_some (k2.cell (i:=0) J)))) (au J J (ax (S:=Is (I (i:Int))) J J (au J J (bC (r:=I ((i-1:Nat):Int)) J J J (fun w _=>by have e:((i-1:Nat):Int)=(i:Int)-1:=(by omega);rw[e];exact bT) (au J J ?_)))))))))))))))))))))))))))))
   obtain⟨a32,c32,p32,q32,h32⟩:=cP (P:=Tryz.prog) (sz:=4) ML (by kernel_rfl) gY (by omega) (ia.ext ((x2.trans eL).trans x3_5)) (i:=(i-1:Nat)) (by omega) .i64
   obtain⟨e32,he32⟩:∃e,e=f.ts[(i-1:Nat)]'(by omega):=⟨_,rfl⟩
   rw[←he32] at h32
   obtain⟨x32_0,x32_1,rfl,f32_0,f32_1⟩:=d4 h32
   refine aK J J J (fun w _=>p32 w) (au J J (al J J (fun w hw=>de) (au J J (ap J J (fun w hw=>ai ME J (hw.cell_some (q32.at (j:=0) J))) (au J J (al J J (fun w hw=>cf) (au J J (ap J J (fun w hw=>ai ME J (hw.cell_some (k3_5.cell (i:=0) J))) (au J J (bC J J J (fun w _=>be (by rw[he32];omega) cz) (au J J (dT (S:=Is (B false)) J J J (cQ (S:=Is (B false)) J J J (ax (S:=Is (B false)) J J (au J J (al J J (fun w hw=>cM) (au J J (ap J J (fun w hw=>(k3_5.ext hw).ldO (ms:=[B e13.co.sg,x13_0,x13_1]) (o:=1) (ef J) MC J ag) (au J J (es (S:=Is (I (gx e13.co))) cw (bi.is _) J J (fun w hw=>ek ((aU.mk (f13_0.ext x3_5) (f13_1.ext x3_5)).ext hw) (by omega)) (au J J (bC J J J (fun w _=>be (fun h=>hZ (jX.1 h)) aO) (cQ (S:=Is (B false)) J J J (ax (S:=Is (B false)) J J ?_))))))))))))))))))))))))
   refine au J J (al J J (fun w hw=>cM) (au J J (ap J J (fun w hw=>(k3_5.ext hw).ldO (ms:=[B e13.co.sg,x13_0,x13_1]) (o:=1) (ef J) MC J ag) (au J J (es (S:=Is (B true)) gm (bi.is _) J J (fun w hw=>lJ ((aU.mk (f13_0.ext x3_5) (f13_1.ext x3_5)).ext hw) (by omega)) (au J J (jF J J (fun w _=>cn) (bA ?_))))))))
   rintro wg4 xg4 _ rfl _ rfl _ hq8
   obtain rfl:=Eq.symm hq8
   rintro _ rfl _ rfl _ rfl _ rfl
   refine aG J J J (aI (bU J (aA (aW (ah (ae (ao (r:=I ((i+1:Nat):Int)) J J J (by have e:((i+1:Nat):Int)=(i:Int)+1:=(by omega);rw[e];exact aY) (ab J J (ar ?_)))))))))
   have hs:=Br (l:=f.ts) (i:=i) (by omega)
   rw[←he13] at hs
   refine dC (i+1) ⟨J,J,J,J,J,trivial⟩ ⟨((eL.trans x3_5).trans xg4),by omega,by rw[hat,decide_eq_true hC,decide_eq_true hB1,decide_eq_true hZ,hs];rfl,by omega⟩ (by omega)
 ·refine bJ (aV (aV (bP (ah (bc (af J J (dt) (ak J J ((k2.ext eL).ldO (ms:=[B f.ct.sg,fb,fc]) (o:=1) (ef J) MC J ag) ?_)))))))
  refine aq gm J J (lJ (aU.mk (ib.ext (x2.trans eL)) (ic.ext (x2.trans eL))) (by omega)) ?_
  rintro v55 w55 ⟨x55,rfl⟩
  refine aa J J (aI (aD (aF J J ?_)))
  exact⟨_,J,((x2.trans eL).trans x55),by
   rw[←hk,List.drop_of_length_le (by omega)];rfl⟩
theorem C1 (v:Int) (l:List dU) (t:dU):p9 v (l++[t])=if t.va=v then t.co else p9 v l:=by unfold p9;rw[List.foldl_append];rfl
theorem C2 (v:Int) (l:List dU) (t:dU):iA v (l++[t])=if t.va=v then iA v l else iA v l++[t]:=by
 unfold iA
 rw[List.filter_append]
 by_cases h:t.va=v
 ·rw[if_pos h,List.filter_cons,if_neg (by simpa using h)];simp
 ·rw[if_neg h,List.filter_cons,if_pos (by simpa using h)];simp
theorem kk {α:Type} {l:List α} {i:Nat} (h:i<l.length):l.take (i+1)=l.take i++[l[i]]:=by rw[List.take_add_one,List.getElem?_eq_getElem h];rfl
theorem If (l:List dU) (i:Nat):gH (l.take i)≤gH l:=by
 have:=eo (l.take i) (l.drop i)
 rw[List.take_append_drop] at this
 omega
theorem EP (v:Int) (l:List dU):bt (p9 v l)≤gH l+2:=by
 unfold p9
 have key:∀(l:List dU) (c:Rat),bt (l.foldl (fun c t=>if t.va=v then t.co else c) c)≤gH l+bt c:=by
  intro l
  induction l with
  |nil=>intro c;simp[gH]
  |cons t l ih=>
   intro c
   rw[List.foldl_cons]
   have:=ih (if t.va=v then t.co else c)
   simp only[gH]
   split at this<;>rename_i h
   ·rw[if_pos h];omega
   ·rw[if_neg h];omega
 exact key l 0
theorem zU {w:World} {f g:dx} {n:Int} {v u:Value} (hv:bQ dZ f v w) (hu:bQ dZ g u w) (hB:ew f+ew f+ew g≤17179869170∧f.ts.length+g.ts.length≤549755813887):
 Calls Tryz.prog 310 #[v,I n,u] w (cA fun r w'=>aH w w'∧CZ w.heap.size (jV f n g) r w'):=by
 obtain⟨_,rfl,ra⟩:=hv
 obtain⟨fa,fb,fc,rfl,ia,ib,ic⟩:=cl ra
 obtain⟨_,rfl,rb⟩:=hu
 obtain⟨ga,gb,gc,rfl,ja,jb,jc⟩:=cl rb
 have hlen:=ia.len
 refine enter (vs:=[.agg #[fa,B f.ct.sg,fb,fc],I n,.agg #[ga,B g.ct.sg,gb,gc]]) Tryz.func310 J J J (bc (cj J J fun g3 w3 l3 x3 k3=>cj J J fun g5 w5 l5 x5 k5=>ce cd J fun g6 w6 l6 x6 k6=>(dR (af J J (dt) (ak J J ((k3.ext (x5.trans x6)).ldO (ms:=[B f.ct.sg,fb,fc]) (o:=1) (ef J) MC J ag) (bV (r:=.agg #[.slice none 0 0,B f.ct.sg,fb,fc]) J J (by obtain⟨_,_,_,rfl⟩:=ib.isS;obtain⟨_,_,_,rfl⟩:=ic.isS;exact run_build _ _ _ _ (by kernel_rfl)) (ce cd J fun g7 w7 l7 x7 k7=>bD J J k7 J ay (am.cons J (am.cons J (am.cons ib.one (am.cons ic.one am.nil)))) fun w1_4 q1_4 k1_4=>?_)))))))
 have x1_4:=aH.of_new (x7) q1_4 l7
 refine dR (bV (r:=.agg #[B false,.slice none 0 0,.slice none 0 0]) J J (by exact run_build _ _ _ _ (by kernel_rfl)) (ce bv J fun g8 w8 l8 x8 k8=>bD J J k8 J ag (am.cons J (am.cons J (am.cons J am.nil))) fun w2_2 q2_2 k2_2=>?_))
 have x2_2:=aH.of_new (x8) q2_2 l8
 refine aI (aj (bc (af J J (bI) (ak J J (ai ML J ((((x5.trans x6).trans x1_4).trans x2_2).cell_some (k3.cell (i:=0) J))) (bn J J (bB ML (ia.ext ((((x3.trans x5).trans x6).trans x1_4).trans x2_2))) (ab J J (aI (aJ (zO (fun(i:Nat) (ts:List dU) (x:Value) (c:Rat) (ca:Value) (cb:Value)=>[(1,I n),(5,.pointer (some ⟨g5,0,none⟩)),(6,.pointer (some ⟨g6,0,none⟩)),(7,.pointer (some ⟨g7,0,none⟩)),(8,.pointer (some ⟨g8,0,none⟩)),(16,fa),(17,I (f.ts.length:Int)),(18,I (i:Int))]) (fun(i:Nat) (ts:List dU) (x:Value) (c:Rat) (ca:Value) (cb:Value) w'=>aH w6 w'∧i≤f.ts.length∧ts=iA n (f.ts.take i)∧c=p9 n (f.ts.take i)∧dE g7 51 [x,B f.ct.sg,fb,fc] w'∧lz w6.heap.size ts x w'∧dE g8 49 [B c.sg,ca,cb] w'∧bH c.nl ca w'∧bH c.dl cb w') (fun(i:Nat) (ts:List dU) (x:Value) (c:Rat) (ca:Value) (cb:Value)=>f.ts.length-i) (0) ([]) (.slice none 0 0) (0) (.slice none 0 0) (.slice none 0 0) ⟨J,J,J,J,J,J,J,J,trivial⟩ ⟨(x1_4.trans x2_2),by omega,J,J,(k1_4.ext x2_2),bh.nil _,k2_2,bH.nil _,bH.nil _⟩ ?_)))))))))
 rintro i ts x c ca cb wL ⟨eL,hi,ht,hc,kL,hO,kC,qa,qb⟩
 refine bc (ao J J J (aX) (aI (aj (ci J (fun h19=>?_) (fun h19=>?_)))))
 ·refine aA (ah (aj (aJ (bc ?_))))
  obtain⟨a20,c20,e20,he20,p20,q20,h20⟩:=cU (ia.ext (((x3.trans x5).trans x6).trans eL)) (i:=i)
  obtain⟨x20_0,x20_1,rfl,f20_0,f20_1⟩:=d4 h20
  refine aE J J J (p20 _) ?_
  have ht1:=kk (l:=f.ts) (i:=i) (by omega)
  rw[←he20] at ht1
  have hd:=C2 n (f.ts.take i) e20
  have hl:=C1 n (f.ts.take i) e20
  rw[←ht1] at hd hl
  have hln:(iA n (f.ts.take i)).length≤i:=Nb (List.length_filter_le _ _) (by rw[List.length_take];omega)
  rw[←ht] at hln
  refine ak J J (q20.ld MY J dG) (ce jl J fun g10 w10 l10 x10 k10=>bD J J k10 J dG (am.cons J (am.cons J (am.cons f20_0.one (am.cons f20_1.one am.nil)))) fun w5_3 q5_3 k5_3=>?_)
  have x5_3:=aH.of_new (x10) q5_3 l10
  refine dR (af J J (cf) (ak J J (ai ME J (k5_3.cell (i:=0) J)) (ab J J (ao J J J (aO) (aI (ci J (fun h25=>?_) (fun h25=>?_)))))))
  ·rw[if_pos h25] at hd hl
   refine ae (af J J (cM) (ak J J (k5_3.ldO (ms:=[B e20.co.sg,x20_0,x20_1]) (o:=1) (ef J) MC J ag) (bD J J (kC.ext x5_3) J ag (am.cons J (am.cons f20_0.one (am.cons f20_1.one am.nil))) fun w7_2 q7_2 k7_2=>?_)))
   have x7_2:=aH.of_new ((eL.trans x5_3)) q7_2 (Nb (x1_4).size l8)
   have m7_2:=Kq.of1 (p:=[0,3,3]) (kC.ext x5_3) (ac rfl (ac qa.kd (ac qb.kd aT))) q7_2
   refine ar (aW (ah (ae (ao (r:=I ((i+1:Nat):Int)) J J J (by have e:((i+1:Nat):Int)=(i:Int)+1:=(by omega);rw[e];exact aY) (ab J J (ar ?_))))))
   have j1_kL:=((kL.ext x5_3).other q7_2 fun e=>by have h1:=k7.lt;have h2:=l8;have h3:=q1_4.size;have h4:=Nc e;omega)
   refine kP (i+1) (ts) (x) (e20.co) (_) (_) ⟨J,J,J,J,J,J,J,J,trivial⟩ ⟨x7_2,by omega,by rw[hd];exact ht,hl.symm,j1_kL,(bh.st gg (hO.ext x5_3) m7_2 q7_2 (aN (kC.ext x5_3) (hO.ext x5_3)).symm (by decide)),k7_2,((f20_0.ext x5_3).kq m7_2),((f20_1.ext x5_3).kq m7_2)⟩ (by omega)
  ·rw[if_neg h25] at hd hl
   refine ae (af J J (bI) (ak J J (ai ML J (x5_3.cell_some (kL.cell (i:=0) J))) (ak J J (k5_3.ld MY J dG) ?_)))
   obtain⟨v31,w31,hr31,x31,b31⟩:=wh (w:=w5_3) (j7 (a:=e20) (f20_0.ext x5_3) (f20_1.ext x5_3))
   refine bN (vs:=[(0,.agg #[I e20.va,B e20.co.sg,x20_0,x20_1])]) J J hr31 ?_
   have e1:=x5_3.trans x31
   have e2:=((eL.trans x5_3).trans x31)
   obtain⟨v32,w32,hr32,o32,g32⟩:=CM (ty:=45) (hO.ext e1) b31 (by simp only[List.length_cons,List.length_nil];omega) e2.size
   refine df J J hr32 ?_
   have x32:=aH.of_grew e2 g32 ((hO.ext e1)).ge
   have m32:=((hO.ext e1)).kqG g32 (by decide)
   have i2_kL:=((kL.ext x5_3).ext x31)
   have j3_kL:=(i2_kL.other g32.grown (aN i2_kL (hO.ext e1)))
   refine af J J (bI) (iD J J j3_kL pZ o32.one J fun w8_6 q8_6 k8_6=>?_)
   have x8_6:=aH.of_new (x32) q8_6 l7
   have m8_6:=Kq.of1 (p:=[3,0,3,3]) j3_kL (ac hO.kd (ac rfl (ac ib.kd (ac ic.kd aT)))) q8_6
   refine ar (aW (ah (ae (ao (r:=I ((i+1:Nat):Int)) J J J (by have e:((i+1:Nat):Int)=(i:Int)+1:=(by omega);rw[e];exact aY) (ab J J (ar ?_))))))
   have i4_kC:=((kC.ext x5_3).ext x31)
   have j5_kC:=((i4_kC.other g32.grown (aN i4_kC (hO.ext e1))).other q8_6 fun e=>by have h1:=k7.lt;have h2:=l8;have h3:=q1_4.size;have h4:=Nc e;omega)
   refine kP (i+1) (ts++[e20]) (v32) (c) (ca) (cb) ⟨J,J,J,J,J,J,J,J,trivial⟩ ⟨x8_6,by omega,by rw[hd,←ht],by rw[hl];exact hc,k8_6,(bh.st gg o32 m8_6 q8_6 (aN j3_kL o32).symm (by decide)),j5_kC,(((qa.ext e1).kq m32).kq m8_6),(((qb.ext e1).kq m32).kq m8_6)⟩ (by omega)
 ·refine bJ (aV (aV (bP (ah (aj ?_)))))
  obtain rfl:i=f.ts.length:=by omega
  rw[List.take_length] at ht hc
  have hb1:=wr n f.ts
  have hb2:=EP n f.ts
  have hb3:(iA n f.ts).length≤f.ts.length:=List.length_filter_le _ _
  rw[←ht] at hb1 hb3
  rw[←hc] at hb2
  have hs1:ew (⟨ts,f.ct⟩:dx)+ew g+bt c≤17179869184:=by
   have h1:ew (⟨ts,f.ct⟩:dx)=bt f.ct+gH ts:=rfl
   have h2:ew f=bt f.ct+gH f.ts:=rfl
   omega
  have hs2:(⟨ts,f.ct⟩:dx).ts.length+g.ts.length≤549755813887:=by
   show ts.length+g.ts.length≤_
   omega
  refine ae (ak J J (kL.ld MG J ay) (ak J J ((k5.ext (x6.trans eL)).ld MG J ay) (ak J J (kC.ld MC J ag) (aq m6 J J ((qf (f:=⟨ts,f.ct⟩) (g:=g) (c:=c) (bQ.mk (cv hO.dsv (ib.ext (((x3.trans x5).trans x6).trans eL)) (ic.ext (((x3.trans x5).trans x6).trans eL)))) (bQ.mk (cv (ja.ext (((x3.trans x5).trans x6).trans eL)) (jb.ext (((x3.trans x5).trans x6).trans eL)) (jc.ext (((x3.trans x5).trans x6).trans eL)))) (aU.mk qa qb) hs1 hs2)) ?_))))
  rintro v38 w38 ⟨x38,⟨x38_0,x38_1,x38_2,rfl,f38_0,f38_1,f38_2,n38⟩⟩
  refine bD J J (k6.ext (eL.trans x38)) J ay (am.cons f38_0.one (am.cons J (am.cons f38_1.one (am.cons f38_2.one am.nil)))) fun w10_4 q10_4 k10_4=>?_
  have x10_4:=aH.of_new (((x6.trans eL).trans x38)) q10_4 l6
  have m10_4:=Kq.of1 (p:=[3,0,3,3]) (k6.ext (eL.trans x38)) (ac rfl (ac rfl (ac rfl (ac rfl aT)))) q10_4
  refine aI (aD (bp J (.cell J (k10_4.ld MG J ay) .nil) ?_))
  have e:jV f n g=gG ⟨ts,f.ct⟩ g c:=by unfold jV;rw[ht,hc]
  exact⟨_,J,((x3.trans x5).trans x10_4),by rw[e];exact CZ.low ⟨_,_,_,J,(f38_0.kq m10_4),(f38_1.kq m10_4),(f38_2.kq m10_4),n38⟩ ((((x3.trans x5).trans x6).trans eL)).size⟩
end Go.Rl
namespace Go.Rl
def pq (v:Int) (c:Rat) (s:List dU×Bool) (t:dU):List dU×Bool:=
 if t.va=v then(s.1++jy t.va (t.co+c),true) else if s.2=false∧v<t.va then(s.1++jy v c++jy t.va t.co,true) else(s.1++jy t.va t.co,s.2)
def mI (v:Int) (c:Rat) (l:List dU):List dU:=if (l.foldl (pq v c) ([],false)).2=true then(l.foldl (pq v c) ([],false)).1 else(l.foldl (pq v c) ([],false)).1++jy v c
def yE (f:dx) (v:Int) (c:Rat):dx:=⟨mI v c f.ts,f.ct⟩
def sU (a b:List dU):List dU:=b.foldl (fun l t=>mI t.va t.co l) a
def Bs (f g:dx):dx:=⟨sU f.ts g.ts,f.ct+g.ct⟩
def JW (c:Rat) (l:List dU):List dU:=l.flatMap fun t=>jy t.va (t.co*c)
def ff (f:dx) (c:Rat):dx:=⟨JW c f.ts,f.ct*c⟩
def Lu (f g:dx):dx:=Bs f (ff g (-1))
theorem ps1 {n:Int} {c:Rat} {ts:List dU} {d:Bool} {e:dU} (h:e.va=n):pq n c (ts,d) e=(ts++jy e.va (e.co+c),true):=if_pos h
theorem ps2 {n:Int} {c:Rat} {ts:List dU} {e:dU} (h:¬e.va=n):pq n c (ts,true) e=(ts++jy e.va e.co,true):=(if_neg h).trans (if_neg (by simp))
theorem ps3 {n:Int} {c:Rat} {ts:List dU} {e:dU} (h:¬e.va=n) (hg:n<e.va):pq n c (ts,false) e=(ts++jy n c++jy e.va e.co,true):=(if_neg h).trans (if_pos ⟨rfl,hg⟩)
theorem ps4 {n:Int} {c:Rat} {ts:List dU} {e:dU} (h:¬e.va=n) (hg:¬n<e.va):pq n c (ts,false) e=(ts++jy e.va e.co,false):=(if_neg h).trans (if_neg (by simp[hg]))
theorem jz {α β:Type} {F:β→α→β} {s:β} {l:List α} {i:Nat} (h:i<l.length):(l.take (i+1)).foldl F s=F ((l.take i).foldl F s) l[i]:=by
 rw[List.take_add_one,List.getElem?_eq_getElem h,List.foldl_append];rfl
theorem Gg {α β:Type} {F:α→List β} {l:List α} {i:Nat} (h:i<l.length):(l.take (i+1)).flatMap F=(l.take i).flatMap F++F l[i]:=by
 rw[List.take_add_one,List.getElem?_eq_getElem h,List.flatMap_append];simp
theorem Bt {v n:Int} {c:Rat}:∀{l:List dU} {lo:Int} (a:List dU),po n lo l=true→n≤v→l.foldl (pq v c) (a,false)=(a++l,false)
 |[],_,a,_,_=>by rw[List.append_nil];rfl
 |t::l,lo,a,h,hn=>by
  rw[eg] at h
  rw[List.foldl_cons,ps4 (by omega) (by omega),Bt _ h.2 hn,jy,if_neg h.1.2.2,List.append_assoc];rfl
theorem Bu {v n:Int} {c:Rat} {l:List dU} {lo:Int} (h:po n lo l=true) (hn:n≤v):mI v c l=l++jy v c:=by
 unfold mI
 rw[Bt [] h hn]
 rfl
theorem Bv {v n:Int} {c:Rat}:∀{l:List dU} {lo:Int},po n lo l=true→n≤v→lo≤v→po (v+1) lo (l++jy v c)=true
 |[],lo,_,_,hl=>by
  rw[List.nil_append]
  have:=qY (n:=v+1) (lo:=lo) (v:=v) (c:=c) (l:=[]) hl (by omega) rfl
  rwa [List.append_nil] at this
 |t::l,lo,h,hn,hl=>by
  rw[eg] at h
  exact eg.2 ⟨⟨h.1.1,by omega,h.1.2.2⟩,Bv h.2 hn (by omega)⟩
theorem Ig (v:Int) (c:Rat) (l:List dU):gH (mI v c l)≤gH l+(2*l.length+1)*bt c:=by
 have key:∀(l:List dU) (s:List dU×Bool),gH (l.foldl (pq v c) s).1≤gH s.1+gH l+2*l.length*bt c:=by
  intro l
  induction l with
  |nil=>intro s;simp[gH]
  |cons t l ih=>
   intro s
   rw[List.foldl_cons]
   have h1:=ih (pq v c s t)
   have h2:gH (pq v c s t).1≤gH s.1+bt t.co+2*bt c:=by
    unfold pq
    have a1:=jW t.va (t.co+c)
    have a2:=gP t.co c
    have a3:=jW v c
    have a4:=jW t.va t.co
    split
    ·rw[eo];omega
    ·split
     ·rw[eo,eo];omega
     ·rw[eo];omega
   simp only[gH,List.length_cons]
   rw[Nat.mul_add,Nat.add_mul]
   omega
 have h1:=key l ([],false)
 have h2:=jW v c
 unfold mI
 rw[Nat.add_mul,Nat.one_mul]
 simp only[gH] at h1
 split
 ·omega
 ·rw[eo];omega
theorem Gh (v:Int) (c:Rat) (l:List dU):(mI v c l).length≤l.length+l.length+1:=by
 have key:∀(l:List dU) (s:List dU×Bool),(l.foldl (pq v c) s).1.length≤s.1.length+(l.length+l.length):=by
  intro l
  induction l with
  |nil=>intro s;simp
  |cons t l ih=>
   intro s
   rw[List.foldl_cons]
   have h1:=ih (pq v c s t)
   have h2:(pq v c s t).1.length≤s.1.length+2:=by
    unfold pq
    have a1:=eP t.va (t.co+c)
    have a3:=eP v c
    have a4:=eP t.va t.co
    split
    ·rw[List.length_append];omega
    ·split
     ·rw[List.length_append,List.length_append];omega
     ·rw[List.length_append];omega
   rw[List.length_cons]
   omega
 have h1:=key l ([],false)
 have h2:=eP v c
 unfold mI
 simp only[List.length_nil] at h1
 split
 ·omega
 ·rw[List.length_append];omega
end Go.Rl
namespace Go.Rl
open Go.RowKit Go.Proofs
theorem m9:az Tryz.prog 211:=⟨_,Tryz.func211,by kernel_rfl,rfl⟩
theorem C3:az Tryz.prog 210:=⟨_,Tryz.func210,by kernel_rfl,rfl⟩
theorem yF:az Tryz.prog 124:=⟨_,Tryz.func124,by kernel_rfl,rfl⟩
theorem uD:az Tryz.prog 125:=⟨_,Tryz.func125,by kernel_rfl,rfl⟩
theorem Gi:az Tryz.prog 57:=⟨_,Tryz.func57,by kernel_rfl,rfl⟩
theorem re:az Tryz.prog 58:=⟨_,Tryz.func58,by kernel_rfl,rfl⟩
theorem Gj:az Tryz.prog 59:=⟨_,Tryz.func59,by kernel_rfl,rfl⟩
theorem qg:az Tryz.prog 151:=⟨_,Tryz.func151,by kernel_rfl,rfl⟩
theorem qi:az Tryz.prog 228:=⟨_,Tryz.func228,by kernel_rfl,rfl⟩
theorem r5:az Tryz.prog 154:=⟨_,Tryz.func154,by kernel_rfl,rfl⟩
theorem nc {w0 w:World} {ts:List dU} {e:dU} {x u:Value} (e0:aH w0 w) (hx:lz w0.heap.size ts x w) (he:bQ kW e u w) (hb:bt e.co≤34359738368) (hl:ts.length≤549755813888):
 Calls Tryz.prog 211 #[x,u] w (cA fun r w'=>lz w0.heap.size (ts++jy e.va e.co) r w'∧gi w w' x r):=by
 obtain⟨_,rfl,ra⟩:=he
 obtain⟨ua,ub,rfl,ia,ib⟩:=d4 ra
 refine enter (vs:=[x,.agg #[I e.va,B e.co.sg,ua,ub]]) Tryz.func211 J J J (bc (cj J J fun g3 w3 l3 x3 k3=>(aa J J (aI (aj (bc (af J J (cM) (ak J J (k3.ldO (ms:=[B e.co.sg,ua,ub]) (o:=1) (ef J) MC J ag) (aq f9 J J (mH (aU.mk (ia.ext x3) (ib.ext x3)) (by omega)) ?_)))))))))
 rintro v7 w7 ⟨x7,rfl⟩
 refine ao J J J (aO) (aI (ci J (fun h8=>?_) (fun h8=>?_)))
 ·have hc0:e.co=0:=jX.1 h8
  refine bc (ab J J (aa J J (aI (aD (a0 (aF J J ?_))))))
  exact⟨_,J,by rw[Ie hc0,List.append_nil];exact(hx.ext (x3.trans x7)),gi.of_ext (x3.trans x7) (.inl J)⟩
 ·have hc0:e.co≠0:=fun h=>h8 (jX.2 h)
  refine aA (ah (bc (ab J J (ak J J ((k3.ext x7).ld MY J dG) ?_))))
  obtain⟨v12,w12,hr12,x12,b12⟩:=wh (w:=w7) (j7 (a:=e) (ia.ext (x3.trans x7)) (ib.ext (x3.trans x7)))
  refine bN (vs:=[(0,.agg #[I e.va,B e.co.sg,ua,ub])]) J J hr12 ?_
  have e1:=(x3.trans x7).trans x12
  obtain⟨v13,w13,hr13,o13,g13⟩:=CM (ty:=45) (hx.ext e1) b12 (by simp only[List.length_cons,List.length_nil];omega) ((((e0.trans x3).trans x7).trans x12)).size
  refine df J J hr13 ?_
  have m13:=((hx.ext e1)).kqG g13 (by decide)
  refine aa J J (aI (aD (aF J J ?_)))
  exact⟨_,J,by rw[Ic hc0];exact o13,gi.before e1 g13⟩
theorem C4 {w:World} {f:dx} {n:Int} {c:Rat} {v u:Value} (hv:bQ dZ f v w) (hu:QV c u w) (hB:ew f+bt c≤17179869180∧f.ts.length≤137438953472):
 Calls Tryz.prog 210 #[v,I n,u] w (cA fun r w'=>aH w w'∧bQ dZ (yE f n c) r w'):=by
 obtain⟨_,rfl,ra⟩:=hv
 obtain⟨fa,fb,fc,rfl,ia,ib,ic⟩:=cl ra
 obtain⟨ca,cb,rfl,la,lb'⟩:=hu
 have hlen:=ia.len
 unfold ew at hB
 refine enter (vs:=[.agg #[fa,B f.ct.sg,fb,fc],I n,.agg #[B c.sg,ca,cb]]) Tryz.func210 J J J (bc (cj J J fun g3 w3 l3 x3 k3=>cj J J fun g5 w5 l5 x5 k5=>ce cd J fun g6 w6 l6 x6 k6=>(dR (aa J J (dR (aa J J (aI (aj (bc (aa J J (aI (aJ (lE (fun(i:Nat) (ts:List dU) (x:Value) (d:Bool)=>[(1,I n),(3,.pointer (some ⟨g3,0,none⟩)),(5,.pointer (some ⟨g5,0,none⟩)),(6,.pointer (some ⟨g6,0,none⟩)),(7,x),(8,B d),(9,I (i:Int))]) (fun(i:Nat) (ts:List dU) (x:Value) (d:Bool) w'=>aH w6 w'∧i≤f.ts.length∧(f.ts.take i).foldl (pq n c) ([],false)=(ts,d)∧lz w6.heap.size ts x w'∧ts.length≤2*i) (fun(i:Nat) (ts:List dU) (x:Value) (d:Bool)=>f.ts.length-i) (0) ([]) (.slice none 0 0) (false) ⟨J,J,J,J,J,J,J,trivial⟩ ⟨aH.refl _,by omega,J,bh.nil _,by simp⟩ ?_)))))))))))))
 rintro i ts x d wL ⟨eL,hi,hf,hO,hl⟩
 refine aj (bc (ab J J (af J J (bI) (ak J J (ai ML J (((x5.trans x6).trans eL).cell_some (k3.cell (i:=0) J))) (bn J J (bB ML (ia.ext (((x3.trans x5).trans x6).trans eL))) (ao J J J (aX) (aI (ci J (fun h15=>?_) (fun h15=>?_)))))))))
 ·refine aA (ah (aj (aJ (bc (af J J (bI) (ak J J (ai ML J (((x5.trans x6).trans eL).cell_some (k3.cell (i:=0) J))) ?_))))))
  refine ab J J ?_
  obtain⟨a21,c21,e21,he21,p21,q21,h21⟩:=cU (ia.ext (((x3.trans x5).trans x6).trans eL)) (i:=i)
  obtain⟨x21_0,x21_1,rfl,f21_0,f21_1⟩:=d4 h21
  refine aE J J J (p21 _) ?_
  have hm:=lK (l:=f.ts) (t:=e21) (by rw[he21];exact Nh _)
  have hs:=jz (F:=pq n c) (s:=([],false)) (l:=f.ts) (i:=i) (by omega)
  rw[hf,←he21] at hs
  refine ak J J (q21.ld MY J dG) (ce jl J fun g10 w10 l10 x10 k10=>bD J J k10 J dG (am.cons J (am.cons J (am.cons f21_0.one (am.cons f21_1.one am.nil)))) fun w6_6 q6_6 k6_6=>?_)
  have x6_6:=aH.of_new (x10) q6_6 l10
  refine aI (aj (aj ?_))
  cases d
  ·refine ae (af J J (cf) (ak J J (ai ME J (k6_6.cell (i:=0) J)) ?_))
   refine ab J J (ao J J J (aO) (aI (ci J (fun h26=>?_) (fun h26=>?_))))
   ·rw[ps1 h26] at hs
    refine bc (af J J (cM) (ak J J (k6_6.ldO (ms:=[B e21.co.sg,x21_0,x21_1]) (o:=1) (ef J) MC J ag) (ak J J ((k5.ext ((x6.trans eL).trans x6_6)).ld MC J ag) ?_)))
    have z30_1:=gP e21.co c
    have e4:=(((x3.trans x5).trans x6).trans eL).trans x6_6
    refine aq ke J J (yz (aU.mk (f21_0.ext x6_6) (f21_1.ext x6_6)) (aU.mk (la.ext e4) (lb'.ext e4)) (by omega)) ?_
    rintro v30 w30 ⟨x30,⟨x30_0,x30_1,rfl,f30_0,f30_1⟩⟩
    refine af J J (cM) (xv (cs':=[I e21.va,B (e21.co+c).sg,x30_0,x30_1]) J J (k6_6.ext x30) J ag (am.cons J (am.cons f30_0.one (am.cons f30_1.one am.nil))) J fun w8_5 q8_5 k8_5=>?_)
    have x8_5:=aH.of_new ((x6_6.trans x30)) q8_5 l10
    have m8_5:=Kq.of1 (p:=[2,0,3,3]) (k6_6.ext x30) (ac rfl (ac rfl (ac f21_0.kd (ac f21_1.kd aT)))) q8_5
    refine aI (ae (aa J J (aI (aj (bc (ab J J (cC J J cn (ab J J (bf J J J (bf J J J (bf J J J (bf J J J (aG J J J (aI (bU J (aA (ah (ae (ab J J (ak J J (k8_5.ld Tryz.underlying189 J dG) (aq m9 J J ((nc (w0:=w6) (e:=⟨e21.va,e21.co+c⟩) ((eL.trans x8_5)) (hO.ext x8_5) (bQ.mk (j7 (f30_0.kq m8_5) (f30_1.kq m8_5))) (by simp only;omega) (by omega))) ?_)))))))))))))))))))))
    rintro v48 w48 ⟨o48,g48⟩
    have x48:=aH.of_grew ((eL.trans x8_5)) g48 ((hO.ext x8_5)).ge
    have m48:=((hO.ext x8_5)).kqG g48 (by decide)
    have hn2:=eP e21.va (e21.co+c)
    refine aa J J (ar (aW (ah (ae (ab J J (ao (r:=I ((i+1:Nat):Int)) J J J (by have e:((i+1:Nat):Int)=(i:Int)+1:=(by omega);rw[e];exact aY) (aa J J (ar (fW (i+1) (_) (v48) (true) ⟨J,J,J,J,J,J,J,trivial⟩ ⟨x48,by omega,hs,o48,by rw[List.length_append];omega⟩ (by omega))))))))))
   ·refine aA (ah (aj (bc (ab J J (cC J J cn (ab J J (an J (af J J (cf) ?_))))))))
    refine an J (ak J J (ai ME J (k6_6.cell (i:=0) J)) (an J (ab J J (an J (ao J J J (bo) (aR J J J (aI (ci J (fun h39=>?_) (fun h39=>?_)))))))))
    ·rw[ps3 h26 h39] at hs
     refine bc (ab J J (ab J J (ak J J ((k5.ext ((x6.trans eL).trans x6_6)).ld MC J ag) ?_)))
     have e5:=(((x3.trans x5).trans x6).trans eL).trans x6_6
     refine aq iH J J (sS (aU.mk (la.ext e5) (lb'.ext e5)) (by omega)) ?_
     rintro v43 w43 ⟨x43,⟨x43_0,x43_1,rfl,f43_0,f43_1⟩⟩
     refine bV (r:=.agg #[I n,B c.sg,x43_0,x43_1]) J J (by obtain⟨_,_,_,rfl⟩:=f43_0.isS;obtain⟨_,_,_,rfl⟩:=f43_1.isS;exact run_build _ _ _ _ (by kernel_rfl)) ?_
     have e1:=x6_6.trans x43
     refine aq m9 J J ((nc (w0:=w6) (e:=⟨n,c⟩) (((eL.trans x6_6).trans x43)) (hO.ext e1) (bQ.mk (j7 f43_0 f43_1)) (by simp only;omega) (by omega))) ?_
     rintro v45 w45 ⟨o45,g45⟩
     have x45:=aH.of_grew (((eL.trans x6_6).trans x43)) g45 ((hO.ext e1)).ge
     have m45:=((hO.ext e1)).kqG g45 (by decide)
     have hn1:=eP n c
     have hn0:(jy (⟨n,c⟩:dU).va (⟨n,c⟩:dU).co).length≤1:=eP n c
     refine aa J J (aI (ae (aa J J (aI (ae (ab J J ?_))))))
     have i1_k6_6:=(k6_6.ext x43)
     have j2_k6_6:=(i1_k6_6.other g45.grown (gp hO l10))
     refine ak J J (j2_k6_6.ld MY J dG) (aq m9 J J ((nc (w0:=w6) (e:=e21) (x45) o45 (bQ.mk (j7 ((f21_0.ext e1).kq m45) ((f21_1.ext e1).kq m45))) (by omega) (by rw[List.length_append];omega))) ?_)
     rintro v48 w48 ⟨o48,g48⟩
     have x48:=aH.of_grew (x45) g48 (o45).ge
     have m48:=(o45).kqG g48 (by decide)
     have hn2:=eP e21.va e21.co
     refine aa J J (ar (aW (ah (ae (ab J J (ao (r:=I ((i+1:Nat):Int)) J J J (by have e:((i+1:Nat):Int)=(i:Int)+1:=(by omega);rw[e];exact aY) (aa J J (ar (fW (i+1) (_) (v48) (true) ⟨J,J,J,J,J,J,J,trivial⟩ ⟨x48,by omega,hs,o48,by rw[List.length_append,List.length_append];omega⟩ (by omega))))))))))
    ·rw[ps4 h26 h39] at hs
     refine aA (ah (ae (ab J J (ak J J (k6_6.ld MY J dG) (aq m9 J J ((nc (w0:=w6) (e:=e21) ((eL.trans x6_6)) (hO.ext x6_6) (bQ.mk (j7 (f21_0.ext x6_6) (f21_1.ext x6_6))) (by omega) (by omega))) ?_)))))
     rintro v48 w48 ⟨o48,g48⟩
     have x48:=aH.of_grew ((eL.trans x6_6)) g48 ((hO.ext x6_6)).ge
     have m48:=((hO.ext x6_6)).kqG g48 (by decide)
     have hn2:=eP e21.va e21.co
     refine aa J J (ar (aW (ah (ae (ab J J (ao (r:=I ((i+1:Nat):Int)) J J J (by have e:((i+1:Nat):Int)=(i:Int)+1:=(by omega);rw[e];exact aY) (aa J J (ar (fW (i+1) (_) (v48) (false) ⟨J,J,J,J,J,J,J,trivial⟩ ⟨x48,by omega,hs,o48,by rw[List.length_append];omega⟩ (by omega))))))))))
  ·refine ae (af J J (cf) (ak J J (ai ME J (k6_6.cell (i:=0) J)) ?_))
   refine ab J J (ao J J J (aO) (aI (ci J (fun h26=>?_) (fun h26=>?_))))
   ·rw[ps1 h26] at hs
    refine bc (af J J (cM) (ak J J (k6_6.ldO (ms:=[B e21.co.sg,x21_0,x21_1]) (o:=1) (ef J) MC J ag) (ak J J ((k5.ext ((x6.trans eL).trans x6_6)).ld MC J ag) ?_)))
    have z30_2:=gP e21.co c
    have e6:=(((x3.trans x5).trans x6).trans eL).trans x6_6
    refine aq ke J J (yz (aU.mk (f21_0.ext x6_6) (f21_1.ext x6_6)) (aU.mk (la.ext e6) (lb'.ext e6)) (by omega)) ?_
    rintro v30 w30 ⟨x30,⟨x30_0,x30_1,rfl,f30_0,f30_1⟩⟩
    refine af J J (cM) (xv (cs':=[I e21.va,B (e21.co+c).sg,x30_0,x30_1]) J J (k6_6.ext x30) J ag (am.cons J (am.cons f30_0.one (am.cons f30_1.one am.nil))) J fun w8_5 q8_5 k8_5=>?_)
    have x8_5:=aH.of_new ((x6_6.trans x30)) q8_5 l10
    have m8_5:=Kq.of1 (p:=[2,0,3,3]) (k6_6.ext x30) (ac rfl (ac rfl (ac f21_0.kd (ac f21_1.kd aT)))) q8_5
    refine aI (ae (aa J J (aI (aj (bc (ab J J (cC J J cn (ab J J (bf J J J (bf J J J (bf J J J (bf J J J (aG J J J (aI (bU J (aA (ah (ae (ab J J (ak J J (k8_5.ld Tryz.underlying189 J dG) (aq m9 J J ((nc (w0:=w6) (e:=⟨e21.va,e21.co+c⟩) ((eL.trans x8_5)) (hO.ext x8_5) (bQ.mk (j7 (f30_0.kq m8_5) (f30_1.kq m8_5))) (by simp only;omega) (by omega))) ?_)))))))))))))))))))))
    rintro v48 w48 ⟨o48,g48⟩
    have x48:=aH.of_grew ((eL.trans x8_5)) g48 ((hO.ext x8_5)).ge
    have m48:=((hO.ext x8_5)).kqG g48 (by decide)
    have hn2:=eP e21.va (e21.co+c)
    refine aa J J (ar (aW (ah (ae (ab J J (ao (r:=I ((i+1:Nat):Int)) J J J (by have e:((i+1:Nat):Int)=(i:Int)+1:=(by omega);rw[e];exact aY) (aa J J (ar (fW (i+1) (_) (v48) (true) ⟨J,J,J,J,J,J,J,trivial⟩ ⟨x48,by omega,hs,o48,by rw[List.length_append];omega⟩ (by omega))))))))))
   ·rw[ps2 h26] at hs
    refine aA (ah (aj (bc (ab J J (cC J J cn (ab J J (bf J J J (bf J J J (bf J J J (bf J J J (aG J J J (aI (bU J (aA (ah (ae (ab J J (ak J J (k6_6.ld MY J dG) (aq m9 J J ((nc (w0:=w6) (e:=e21) ((eL.trans x6_6)) (hO.ext x6_6) (bQ.mk (j7 (f21_0.ext x6_6) (f21_1.ext x6_6))) (by omega) (by omega))) ?_)))))))))))))))))))
    rintro v48 w48 ⟨o48,g48⟩
    have x48:=aH.of_grew ((eL.trans x6_6)) g48 ((hO.ext x6_6)).ge
    have m48:=((hO.ext x6_6)).kqG g48 (by decide)
    have hn2:=eP e21.va e21.co
    refine aa J J (ar (aW (ah (ae (ab J J (ao (r:=I ((i+1:Nat):Int)) J J J (by have e:((i+1:Nat):Int)=(i:Int)+1:=(by omega);rw[e];exact aY) (aa J J (ar (fW (i+1) (_) (v48) (true) ⟨J,J,J,J,J,J,J,trivial⟩ ⟨x48,by omega,hs,o48,by rw[List.length_append];omega⟩ (by omega))))))))))
 ·refine bJ (aV (aV (bP (ah (aj (aj ?_))))))
  obtain rfl:i=f.ts.length:=by omega
  rw[List.take_length] at hf
  cases d
  ·refine ae (ab J J (cC J J cn (aI (cg J (ae (ab J J (ab J J (ak J J ((k5.ext (x6.trans eL)).ld MC J ag) ?_))))))))
   refine aq iH J J (sS (aU.mk (la.ext (((x3.trans x5).trans x6).trans eL)) (lb'.ext (((x3.trans x5).trans x6).trans eL))) (by omega)) ?_
   rintro v54 w54 ⟨x54,⟨x54_0,x54_1,rfl,f54_0,f54_1⟩⟩
   refine bV (r:=.agg #[I n,B c.sg,x54_0,x54_1]) J J (by obtain⟨_,_,_,rfl⟩:=f54_0.isS;obtain⟨_,_,_,rfl⟩:=f54_1.isS;exact run_build _ _ _ _ (by kernel_rfl)) (aq m9 J J ((nc (w0:=w6) (e:=⟨n,c⟩) ((eL.trans x54)) (hO.ext x54) (bQ.mk (j7 f54_0 f54_1)) (by simp only;omega) (by omega))) ?_)
   rintro v56 w56 ⟨o56,g56⟩
   have x56:=aH.of_grew ((eL.trans x54)) g56 ((hO.ext x54)).ge
   have m56:=((hO.ext x54)).kqG g56 (by decide)
   refine aa J J (dR (ab J J (af J J (dt) (ak J J ((k3.ext ((x5.trans x6).trans x56)).ldO (ms:=[B f.ct.sg,fb,fc]) (o:=1) (ef J) MC J ag) (bV (r:=.agg #[v56,B f.ct.sg,fb,fc]) J J (by obtain⟨_,_,_,rfl⟩:=ib.isS;obtain⟨_,_,_,rfl⟩:=ic.isS;obtain⟨_,_,_,rfl⟩:=o56.isS;exact run_build _ _ _ _ (by kernel_rfl)) (bD J J (k6.ext x56) J ay (am.cons o56.one (am.cons J (am.cons ib.one (am.cons ic.one am.nil)))) fun w16_4 q16_4 k16_4=>?_))))))
   have x16_4:=aH.of_new ((x6.trans x56)) q16_4 l6
   have m16_4:=Kq.of1 (p:=[3,0,3,3]) (k6.ext x56) (ac rfl (ac rfl (ac rfl (ac rfl aT)))) q16_4
   refine aI (aD (bp J (.cell J (k16_4.ld MG J ay) .nil) ?_))
   have e:yE f n c=⟨ts++jy n c,f.ct⟩:=by unfold yE mI;rw[hf];rfl
   have e2:=(x3.trans x5).trans x16_4
   exact⟨_,J,e2,by rw[e];exact bQ.mk (cv (a:=⟨ts++jy n c,f.ct⟩) (lz.dsv (bh.st gg o56 m16_4 q16_4 (aN (k6.ext x56) o56).symm (by decide))) (ib.ext e2) (ic.ext e2))⟩
  ·refine ae (ab J J (cC J J cn (aI (bU J (aA (ah (bc (ab J J (af J J (dt) ?_)))))))))
   refine ak J J ((k3.ext ((x5.trans x6).trans eL)).ldO (ms:=[B f.ct.sg,fb,fc]) (o:=1) (ef J) MC J ag) (bV (r:=.agg #[x,B f.ct.sg,fb,fc]) J J (by obtain⟨_,_,_,rfl⟩:=hO.isS;obtain⟨_,_,_,rfl⟩:=ib.isS;obtain⟨_,_,_,rfl⟩:=ic.isS;exact run_build _ _ _ _ (by kernel_rfl)) (bD J J (k6.ext eL) J ay (am.cons hO.one (am.cons J (am.cons ib.one (am.cons ic.one am.nil)))) fun w16_4 q16_4 k16_4=>?_))
   have x16_4:=aH.of_new ((x6.trans eL)) q16_4 l6
   have m16_4:=Kq.of1 (p:=[3,0,3,3]) (k6.ext eL) (ac rfl (ac rfl (ac rfl (ac rfl aT)))) q16_4
   refine aI (aD (bp J (.cell J (k16_4.ld MG J ay) .nil) ?_))
   have e:yE f n c=⟨ts,f.ct⟩:=by unfold yE mI;rw[hf];rfl
   have e3:=(x3.trans x5).trans x16_4
   exact⟨_,J,e3,by rw[e];exact bQ.mk (cv (a:=⟨ts,f.ct⟩) (lz.dsv (bh.st gg hO m16_4 q16_4 (aN (k6.ext eL) hO).symm (by decide))) (ib.ext e3) (ic.ext e3))⟩
theorem yG {w:World} {f g:dx} {v u:Value} (hv:bQ dZ f v w) (hu:bQ dZ g u w) (hB:∀i≤g.ts.length,gH (sU f.ts (g.ts.take i))+bt f.ct+ew g+bt (f.ct+g.ct)≤8589934592∧(sU f.ts (g.ts.take i)).length≤137438953472):
 Calls Tryz.prog 124 #[v,u] w (cA fun r w'=>aH w w'∧bQ dZ (Bs f g) r w'):=by
 obtain⟨_,rfl,ra⟩:=hv
 obtain⟨fa,fb,fc,rfl,ia,ib,ic⟩:=cl ra
 obtain⟨_,rfl,rb⟩:=hu
 obtain⟨ga,gb,gc,rfl,ja,jb,jc⟩:=cl rb
 have hlen:=ja.len
 have h0:=hB 0 (by omega)
 unfold ew at hB h0
 obtain⟨C,hC⟩:∃C,C=f.ct+g.ct:=⟨_,rfl⟩
 refine enter (vs:=[.agg #[fa,B f.ct.sg,fb,fc],.agg #[ga,B g.ct.sg,gb,gc]]) Tryz.func124 J J J (bc (cj J J fun g2 w2 l2 x2 k2=>cj J J fun g3 w3 l3 x3 k3=>ce cd J fun g4 w4 l4 x4 k4=>(aI (aj (bj 9 [3,4,5,14] (by kernel_rfl) (by kernel_rfl) (al J J (fun w hw=>bI) (ap J J (fun w hw=>ai ML J (hw.cell_some ((x3.trans x4).cell_some (k2.cell (i:=0) J)))) (al J J (fun w hw=>dt) (ap J J (fun w hw=>((k2.ext (x3.trans x4)).ext hw).ldO (ms:=[B f.ct.sg,fb,fc]) (o:=1) (ef J) MC J ag) (al J J (fun w hw=>dt) (ap J J (fun w hw=>((k3.ext x4).ext hw).ldO (ms:=[B g.ct.sg,gb,gc]) (o:=1) (ef J) MC J ag) ?_)))))))))))
 have z13_1:=gP f.ct g.ct
 have e1:=(x2.trans x3).trans x4
 refine ec (S:=QV (f.ct+g.ct)) ke (QV.stable _) J J J (fun w hw=>yz ((aU.mk (ib.ext e1) (ic.ext e1)).ext hw) ((aU.mk (jb.ext e1) (jc.ext e1)).ext hw) (by omega)) (et (S:=fun v w=>∃y14_1_0 y14_1_1:Value,v=.agg #[fa,B (f.ct+g.ct).sg,y14_1_0,y14_1_1]∧bH (f.ct+g.ct).nl y14_1_0 w∧bH (f.ct+g.ct).dl y14_1_1 w) (fun _ _ _ ⟨_,_,e,g0,g1⟩ hx=>⟨_,_,e,g0.ext hx,g1.ext hx⟩) J (fun w hw=>by rintro _ rfl v13 h13;obtain⟨y14_1_0,y14_1_1,rfl,k14_1_0,k14_1_1⟩:=h13;obtain⟨_,_,_,rfl⟩:=ia.isS;obtain⟨_,_,_,rfl⟩:=k14_1_0.isS;obtain⟨_,_,_,rfl⟩:=k14_1_1.isS;exact⟨_,w,run_build _ _ _ _ (by kernel_rfl),aH.refl _,_,_,J,k14_1_0,k14_1_1⟩) (tL (b:=w4.heap.size) (A9.stable _ _ _) cd J (fun w hw=>hw.size) (bA ?_)))
 rintro wg1 xg1 _ rfl _ rfl _ ⟨g5,rfl,l5,k5⟩ _ ⟨y14_0,y14_1,rfl,k14_0,k14_1⟩
 refine bD J J k5 J ay (am.cons ia.one (am.cons J (am.cons k14_0.one (am.cons k14_1.one am.nil)))) fun w1_9 q1_9 k1_9=>?_
 have x1_9:=aH.of_new (xg1) q1_9 l5
 have m1_9:=Kq.of1 (p:=[3,0,3,3]) k5 (ac rfl (ac rfl (ac rfl (ac rfl aT)))) q1_9
 refine aI (aj (bc (aa J J (aI (aJ (sH (fun(i:Nat) (ts:List dU) (x:Value) (p:Value) (q:Value)=>[(3,.pointer (some ⟨g3,0,none⟩)),(4,.pointer (some ⟨g4,0,none⟩)),(5,.pointer (some ⟨g5,0,none⟩)),(6,I (i:Int))]) (fun(i:Nat) (ts:List dU) (x:Value) (p:Value) (q:Value) w'=>aH w4 w'∧i≤g.ts.length∧ts=sU f.ts (g.ts.take i)∧dE g5 51 [x,B C.sg,p,q] w'∧cF kW ts x w'∧bH C.nl p w'∧bH C.dl q w') (fun(i:Nat) (ts:List dU) (x:Value) (p:Value) (q:Value)=>g.ts.length-i) (0) (f.ts) (fa) (_) (_) ⟨J,J,J,J,trivial⟩ ⟨x1_9,by omega,J,by rw[hC];exact k1_9,(ia.ext (e1.trans x1_9)),by rw[hC];exact(k14_0.kq m1_9),by rw[hC];exact(k14_1.kq m1_9)⟩ ?_))))))
 rintro i ts x p q wL ⟨eL,hi,ht,kL,qx,qa,qb⟩
 refine aj (bc (ab J J (af J J (bI) (ak J J (ai ML J ((x4.trans eL).cell_some (k3.cell (i:=0) J))) (bn J J (bB ML (ja.ext (e1.trans eL))) (ao J J J (aX) (aI (ci J (fun h19=>?_) (fun h19=>?_)))))))))
 ·refine aA (ah (aj (aJ (bj 14 [3,4,5,6,35] (by kernel_rfl) (by kernel_rfl) ?_))))
  refine ap J J (fun w hw=>(kL.ext hw).ld MG J ay) (al J J (fun w hw=>bI) (ap J J (fun w hw=>ai ML J (hw.cell_some ((x4.trans eL).cell_some (k3.cell (i:=0) J)))) (ax J J ?_)))
  obtain⟨a26,c26,e26,he26,p26,q26,h26⟩:=cU (ja.ext (((x2.trans x3).trans x4).trans eL)) (i:=i)
  obtain⟨x26_0,x26_1,rfl,f26_0,f26_1⟩:=d4 h26
  refine aK J J J (fun w _=>p26 w) ?_
  have hm:=lK (l:=g.ts) (t:=e26) (by rw[he26];exact Nh _)
  have hs:=jz (F:=fun l t=>mI t.va t.co l) (s:=f.ts) (l:=g.ts) (i:=i) (by omega)
  rw[←he26] at hs
  have hb:=hB i (by omega)
  rw[←ht] at hb
  refine al J J (fun w hw=>de) (ap J J (fun w hw=>ai Tryz.underlying3 J (hw.cell_some (q26.at (j:=0) J))) (al J J (fun w hw=>bI) (ap J J (fun w hw=>ai Tryz.underlying45 J (hw.cell_some ((x4.trans eL).cell_some (k3.cell (i:=0) J)))) (ax J J (aK J J J (fun w _=>p26 w) (al J J (fun w hw=>fS) (ap J J (fun w hw=>(q26.ext hw).ldO (ms:=[B e26.co.sg,x26_0,x26_1]) (o:=1) (ef J) Tryz.underlying49 J ag) (bZ (S:=bQ dZ (yE ⟨ts,C⟩ e26.va e26.co)) C3 (bQ.stable _ _) J (fun w hw=>by rintro _ rfl _ rfl _ rfl;exact(C4 (f:=⟨ts,C⟩) ((bQ.mk (cv qx qa qb)).ext hw) ((aU.mk f26_0 f26_1).ext hw) (by unfold ew;simp only;rw[hC];omega))) (bA ?_)))))))))
  rintro wg5 xg5 _ rfl _ rfl _ rfl _ rfl _ ⟨_,rfl,r35⟩
  obtain⟨x35_0,x35_1,x35_2,rfl,f35_0,f35_1,f35_2⟩:=cl r35
  refine bD J J (kL.ext xg5) J ay (am.cons f35_0.one (am.cons J (am.cons f35_1.one (am.cons f35_2.one am.nil)))) fun w5_14 q5_14 k5_14=>?_
  have x5_14:=aH.of_new ((eL.trans xg5)) q5_14 l5
  have m5_14:=Kq.of1 (p:=[3,0,3,3]) (kL.ext xg5) (ac qx.kd (ac rfl (ac qa.kd (ac qb.kd aT)))) q5_14
  refine ar (aW (ah (ae (ab J J (ao (r:=I ((i+1:Nat):Int)) J J J (by have e:((i+1:Nat):Int)=(i:Int)+1:=(by omega);rw[e];exact aY) (aa J J (ar (jH (i+1) (mI e26.va e26.co ts) (_) (_) (_) ⟨J,J,J,J,trivial⟩ ⟨x5_14,by omega,by show _=List.foldl _ _ _;rw[hs,ht];rfl,k5_14,(f35_0.kq m5_14),(f35_1.kq m5_14),(f35_2.kq m5_14)⟩ (by omega)))))))))
 ·refine bJ (aV (aV (bP (ah (aj ?_)))))
  obtain rfl:i=g.ts.length:=by omega
  rw[List.take_length] at ht
  have hb:=hB g.ts.length (by omega)
  rw[List.take_length,←ht] at hb
  refine bj 7 [4,42] (by kernel_rfl) (by kernel_rfl) (dv (n:=0) (ps:=[]) (S:=FT) FT.stable J (fun w hw=>bs0C (P:=Tryz.prog) (w:=w) ML Bd) (al J J (fun w hw=>bI) (ap J J (fun w hw=>ai ML J (hw.cell_some (kL.cell (i:=0) J))) (G8 (S:=cF kW ts) (cF.stable _ _) J (fun w hw=>by rintro v h _ rfl;exact H1 ML Ey (by decide) (by omega) (fun _=>rfl) h (qx.ext hw) (by omega)) (al J J (fun w hw=>dt) (ap J J (fun w hw=>(kL.ext hw).ldO (ms:=[B C.sg,p,q]) (o:=1) (ef J) MC J ag) (et (S:=fun v w=>∃y42_0_0:Value,v=.agg #[y42_0_0,B C.sg,p,q]∧cF kW ts y42_0_0 w) (fun _ _ _ ⟨_,e,g0⟩ hx=>⟨_,e,g0.ext hx⟩) J (fun w hw=>by rintro v39 h39 _ rfl;have k42_0_0:=h39;obtain⟨_,_,_,rfl⟩:=qa.isS;obtain⟨_,_,_,rfl⟩:=qb.isS;obtain⟨_,_,_,rfl⟩:=k42_0_0.isS;exact⟨_,w,run_build _ _ _ _ (by kernel_rfl),aH.refl _,_,J,k42_0_0⟩) (bA ?_))))))))
  rintro wg6 xg6 _ rfl _ ⟨y42_0,rfl,k42_0⟩
  refine bD J J (k4.ext (eL.trans xg6)) J ay (am.cons k42_0.one (am.cons J (am.cons qa.one (am.cons qb.one am.nil)))) fun w6_7 q6_7 k6_7=>?_
  have x6_7:=aH.of_new (((x4.trans eL).trans xg6)) q6_7 l4
  have m6_7:=Kq.of1 (p:=[3,0,3,3]) (k4.ext (eL.trans xg6)) (ac rfl (ac rfl (ac rfl (ac rfl aT)))) q6_7
  refine aI (aD (bp J (.cell J (k6_7.ld MG J ay) .nil) ?_))
  have e:Bs f g=⟨ts,C⟩:=by unfold Bs;rw[←ht,hC]
  exact⟨_,J,((x2.trans x3).trans x6_7),by rw[e];exact bQ.mk (cv (a:=⟨ts,C⟩) (k42_0.kq m6_7) ((qa.ext xg6).kq m6_7) ((qb.ext xg6).kq m6_7))⟩
theorem uE {w:World} {f:dx} {c:Rat} {v u:Value} (hv:bQ dZ f v w) (hu:QV c u w) (hB:ew f+bt c≤17179869180∧f.ts.length≤137438953472):
 Calls Tryz.prog 125 #[v,u] w (cA fun r w'=>aH w w'∧bQ dZ (ff f c) r w'):=by
 obtain⟨_,rfl,ra⟩:=hv
 obtain⟨fa,fb,fc,rfl,ia,ib,ic⟩:=cl ra
 obtain⟨ca,cb,rfl,la,lb'⟩:=hu
 have hlen:=ia.len
 unfold ew at hB
 obtain⟨C,hC⟩:∃C,C=f.ct*c:=⟨_,rfl⟩
 refine enter (vs:=[.agg #[fa,B f.ct.sg,fb,fc],.agg #[B c.sg,ca,cb]]) Tryz.func125 J J J (bc (cj J J fun g2 w2 l2 x2 k2=>cj J J fun g3 w3 l3 x3 k3=>ce cd J fun g4 w4 l4 x4 k4=>(dR (af J J (dt) (ak J J ((k2.ext (x3.trans x4)).ldO (ms:=[B f.ct.sg,fb,fc]) (o:=1) (ef J) MC J ag) (ak J J ((k3.ext x4).ld MC J ag) ?_))))))
 have z10_1:=f7 f.ct c
 have e1:=(x2.trans x3).trans x4
 refine aq qV J J (EM (aU.mk (ib.ext e1) (ic.ext e1)) (aU.mk (la.ext e1) (lb'.ext e1)) (by omega)) ?_
 rintro v10 w10 ⟨x10,⟨x10_0,x10_1,rfl,f10_0,f10_1⟩⟩
 refine bV (r:=.agg #[.slice none 0 0,B (f.ct*c).sg,x10_0,x10_1]) J J (by obtain⟨_,_,_,rfl⟩:=f10_0.isS;obtain⟨_,_,_,rfl⟩:=f10_1.isS;exact run_build _ _ _ _ (by kernel_rfl)) (ce cd J fun g5 w5 l5 x5 k5=>bD J J k5 J ay (am.cons J (am.cons J (am.cons f10_0.one (am.cons f10_1.one am.nil)))) fun w1_6 q1_6 k1_6=>?_)
 have x1_6:=aH.of_new (x5) q1_6 l5
 refine aI (aj (bc (aa J J (aI (aJ (fi (fun(i:Nat) (ts:List dU) (x:Value)=>[(2,.pointer (some ⟨g2,0,none⟩)),(3,.pointer (some ⟨g3,0,none⟩)),(4,.pointer (some ⟨g4,0,none⟩)),(5,.pointer (some ⟨g5,0,none⟩)),(6,I (i:Int))]) (fun(i:Nat) (ts:List dU) (x:Value) w'=>aH w10 w'∧i≤f.ts.length∧ts=JW c (f.ts.take i)∧dE g5 51 [x,B C.sg,x10_0,x10_1] w'∧lz w10.heap.size ts x w'∧ts.length≤i) (fun(i:Nat) (ts:List dU) (x:Value)=>f.ts.length-i) (0) ([]) (.slice none 0 0) ⟨J,J,J,J,J,trivial⟩ ⟨x1_6,by omega,J,by rw[hC];exact k1_6,bh.nil _,by simp⟩ ?_))))))
 rintro i ts x wL ⟨eL,hi,ht,kL,hO,hl⟩
 refine aj (bc (ab J J (af J J (bI) (ak J J (ai ML J ((((x3.trans x4).trans x10).trans eL).cell_some (k2.cell (i:=0) J))) (bn J J (bB ML (ia.ext ((e1.trans x10).trans eL))) (ao J J J (aX) (aI (ci J (fun h16=>?_) (fun h16=>?_)))))))))
 ·refine aA (ah (aj (aJ (bj 17 [2,3,4,5,6,20,35] (by kernel_rfl) (by kernel_rfl) ?_))))
  refine al J J (fun w hw=>bI) (ap J J (fun w hw=>ai ML J (hw.cell_some (kL.cell (i:=0) J))) (al J J (fun w hw=>bI) (ap J J (fun w hw=>ai ML J (hw.cell_some ((((x3.trans x4).trans x10).trans eL).cell_some (k2.cell (i:=0) J)))) (ax J J ?_))))
  have e2:=(((x2.trans x3).trans x4).trans x10).trans eL
  obtain⟨a24,c24,e24,he24,p24,q24,h24⟩:=cU (ia.ext e2) (i:=i)
  obtain⟨x24_0,x24_1,rfl,f24_0,f24_1⟩:=d4 h24
  refine aK J J J (fun w _=>p24 w) ?_
  have hm:=lK (l:=f.ts) (t:=e24) (by rw[he24];exact Nh _)
  have hs:=Gg (F:=fun t=>jy t.va (t.co*c)) (l:=f.ts) (i:=i) (by omega)
  rw[←he24] at hs
  have hn:=eP e24.va (e24.co*c)
  refine al J J (fun w hw=>de) (ap J J (fun w hw=>ai ME J (hw.cell_some (q24.at (j:=0) J))) (al J J (fun w hw=>bI) (ap J J (fun w hw=>ai ML J (hw.cell_some ((((x3.trans x4).trans x10).trans eL).cell_some (k2.cell (i:=0) J)))) (ax J J (aK J J J (fun w _=>p24 w) (al J J (fun w hw=>fS) (ap J J (fun w hw=>(q24.ext hw).ldO (ms:=[B e24.co.sg,x24_0,x24_1]) (o:=1) (ef J) MC J ag) (ap J J (fun w hw=>((k3.ext ((x4.trans x10).trans eL)).ext hw).ld MC J ag) ?_))))))))
  have z34_2:=f7 e24.co c
  refine ec (S:=QV (e24.co*c)) qV (QV.stable _) J J J (fun w hw=>EM ((aU.mk f24_0 f24_1).ext hw) ((aU.mk (la.ext e2) (lb'.ext e2)).ext hw) (by omega)) (et (S:=fun v w=>∃y35_1_0 y35_1_1:Value,v=.agg #[I e24.va,B (e24.co*c).sg,y35_1_0,y35_1_1]∧bH (e24.co*c).nl y35_1_0 w∧bH (e24.co*c).dl y35_1_1 w) (fun _ _ _ ⟨_,_,e,g0,g1⟩ hx=>⟨_,_,e,g0.ext hx,g1.ext hx⟩) J (fun w hw=>by rintro _ rfl v34 h34;obtain⟨y35_1_0,y35_1_1,rfl,k35_1_0,k35_1_1⟩:=h34;obtain⟨_,_,_,rfl⟩:=k35_1_0.isS;obtain⟨_,_,_,rfl⟩:=k35_1_1.isS;exact⟨_,w,run_build _ _ _ _ (by kernel_rfl),aH.refl _,_,_,J,k35_1_0,k35_1_1⟩) (bA ?_))
  rintro wg5 xg5 _ rfl _ rfl _ rfl _ rfl _ rfl _ hq20
  obtain rfl:=Eq.symm hq20
  rintro _ ⟨y35_0,y35_1,rfl,k35_0,k35_1⟩
  refine aq m9 J J ((nc (w0:=w10) (e:=⟨e24.va,e24.co*c⟩) ((eL.trans xg5)) (hO.ext xg5) (bQ.mk (j7 k35_0 k35_1)) (by simp only;omega) (by omega))) ?_
  rintro v36 w36 ⟨o36,g36⟩
  have x36:=aH.of_grew ((eL.trans xg5)) g36 ((hO.ext xg5)).ge
  have m36:=((hO.ext xg5)).kqG g36 (by decide)
  have i1_kL:=(kL.ext xg5)
  have j2_kL:=(i1_kL.other g36.grown (aN i1_kL (hO.ext xg5)))
  refine af J J (bI) (iD J J j2_kL pZ o36.one J fun w5_19 q5_19 k5_19=>?_)
  have x5_19:=aH.of_new (x36) q5_19 l5
  have m5_19:=Kq.of1 (p:=[3,0,3,3]) j2_kL (ac hO.kd (ac rfl (ac f10_0.kd (ac f10_1.kd aT)))) q5_19
  refine ar (aW (ah (ae (ab J J (ao (r:=I ((i+1:Nat):Int)) J J J (by have e:((i+1:Nat):Int)=(i:Int)+1:=(by omega);rw[e];exact aY) (aa J J (ar (cK (i+1) (ts++jy e24.va (e24.co*c)) (v36) ⟨J,J,J,J,J,trivial⟩ ⟨x5_19,by omega,by show _=List.flatMap _ _;rw[hs,ht];rfl,k5_19,(bh.st gg o36 m5_19 q5_19 (aN j2_kL o36).symm (by decide)),by rw[List.length_append];omega⟩ (by omega)))))))))
 ·refine bJ (aV (aV (bP (ah (bc (ak J J (kL.ld MG J ay) ?_))))))
  refine bD J J (k4.ext (x10.trans eL)) J ay (am.cons hO.one (am.cons J (am.cons f10_0.one (am.cons f10_1.one am.nil)))) fun w6_1 q6_1 k6_1=>?_
  have x6_1:=aH.of_new (((x4.trans x10).trans eL)) q6_1 l4
  have m6_1:=Kq.of1 (p:=[3,0,3,3]) (k4.ext (x10.trans eL)) (ac rfl (ac rfl (ac rfl (ac rfl aT)))) q6_1
  refine aI (aD (bp J (.cell J (k6_1.ld MG J ay) .nil) ?_))
  obtain rfl:i=f.ts.length:=by omega
  rw[List.take_length] at ht
  have e:ff f c=⟨ts,C⟩:=by unfold ff;rw[←ht,hC]
  rw[←hC] at f10_0 f10_1
  exact⟨_,J,((x2.trans x3).trans x6_1),by rw[e];exact bQ.mk (cv (a:=⟨ts,C⟩) (lz.dsv (bh.st gg hO m6_1 q6_1 (aN (k4.ext (x10.trans eL)) hO).symm (by decide))) ((f10_0.ext eL).kq m6_1) ((f10_1.ext eL).kq m6_1))⟩
end Go.Rl
namespace Go.Rl
open Go.RowKit Go.Proofs
theorem Lv {a b:Int} (h:0<b):fC (decide (a<0) !=decide (b<0)) a.natAbs=a:=by
 rw[decide_eq_false (show ¬b<0 by omega),show(decide (a<0) !=false)=decide (a<0) by simp];exact gE a
theorem C5 {w:World} {a b:Int} {v u:Value} (hv:IZ a v w) (hu:IZ b u w) (ha:(lb a.natAbs).length≤4) (hb:(lb b.natAbs).length≤4) (h0:0<b):
 Calls Tryz.prog 143 #[v,u] w (cA fun r w'=>aH w w'∧gQ (QV (mkRat a b.natAbs)) (Is (I 0)) r w'):=by
 obtain⟨x,rfl,hx⟩:=hv
 obtain⟨y,rfl,hy⟩:=hu
 refine enter (vs:=[.agg #[B (decide (a<0)),x],.agg #[B (decide (b<0)),y]]) Tryz.func143 J J J (bc (cj J J fun g2 w2 l2 x2 k2=>cj J J fun g3 w3 l3 x3 k3=>?_))
 have e1:=x2.trans x3
 refine ce bv J fun g4 w4 l4 x4 k4=>(aa J J (aI (aj (bc (ak J J ((k3.ext x4).ld MR J bE) (aq uA J J ((by have:=uB (s:=decide (b<0)) (eW.mk (hy.ext (e1.trans x4))) (by omega);rw[bk,gE] at this;exact this)) ?_))))))
 rintro v7 w7 ⟨x7,rfl⟩
 refine ao J J J (be (by rw[tR h0];decide) aO) (aI (bU J (aA (ah (bc (af J J (cS) (ak J J (ai MH J (((x3.trans x4).trans x7).cell_some (k2.cell (i:=0) J))) (af J J (cS) (ak J J (ai MH J ((x4.trans x7).cell_some (k3.cell (i:=0) J))) (ao J J J (sR MH) (af J J (cc) (ak J J (ai MD J (((x3.trans x4).trans x7).cell_some (k2.cell (i:=1) J))) (af J J (cc) (ak J J (ai MD J ((x4.trans x7).cell_some (k3.cell (i:=1) J))) (aq oD J J ((by have:=zM (s:=decide (a<0) !=decide (b<0)) (hx.ext ((e1.trans x4).trans x7)) (hy.ext ((e1.trans x4).trans x7)) (by omega) (by omega) (by rw[bk];omega);rw[bk,bk,Lv h0] at this;exact this)) ?_)))))))))))))))
 rintro v19 w19 ⟨x19,⟨x19_0,x19_1,rfl,f19_0,f19_1⟩⟩
 refine bD J J (k4.ext (x7.trans x19)) J ag (am.cons J (am.cons f19_0.one (am.cons f19_1.one am.nil))) fun w3_10 q3_10 k3_10=>?_
 have x3_10:=aH.of_new (((x4.trans x7).trans x19)) q3_10 l4
 have m3_10:=Kq.of1 (p:=[0,3,3]) (k4.ext (x7.trans x19)) (ac rfl (ac rfl (ac rfl aT))) q3_10
 refine aa J J (aI (aD (bp J (.cell J (k3_10.ld MC J ag) (.tmp J .nil)) ?_)))
 exact⟨_,J,(e1.trans x3_10),_,_,J,(aU.mk (f19_0.kq m3_10) (f19_1.kq m3_10)),J⟩
theorem Ih {x:Int} (h: -9223372036854775808≤x) (h':x≤9223372036854775807):(lb x.natAbs).length≤4:=Nb (fM (k:=2) (by omega)) (by omega)
theorem wv {w:World} {a b:Int} (h1: -9223372036854775808≤a) (h2:a≤9223372036854775807) (h3:0<b) (h4:b≤9223372036854775807):
 Calls Tryz.prog 69 #[I a,I b] w (cA fun r w'=>aH w w'∧gQ (QV (mkRat a b.natAbs)) (Is (I 0)) r w'):=by
 refine enter Tryz.func69 J J J (bc (ce bv J fun g4 w4 l4 x4 k4=>(aa J J (dR (ab J J (aq tS J J ((tT h1 h2)) ?_))))))
 rintro v7 w7 ⟨x7,⟨x7_0,rfl,f7_0⟩⟩
 refine ab J J (aq tS J J ((tT (by omega) h4)) ?_)
 rintro v9 w9 ⟨x9,⟨x9_0,rfl,f9_0⟩⟩
 refine aq CU J J (C5 (eW.mk (f7_0.ext x9)) (eW.mk f9_0) (Ih h1 h2) (Ih (by omega) h4) h3) ?_
 rintro v10 w10 ⟨x10,⟨_,_,rfl,⟨x10_a_0,x10_a_1,rfl,f10_a_0,f10_a_1⟩,rfl⟩⟩
 refine aB J J cY (aB J J cZ (bD J J (k4.ext ((x7.trans x9).trans x10)) J ag (am.cons J (am.cons f10_a_0.one (am.cons f10_a_1.one am.nil))) fun w1_7 q1_7 k1_7=>?_))
 have x1_7:=aH.of_new ((((x4.trans x7).trans x9).trans x10)) q1_7 l4
 have m1_7:=Kq.of1 (p:=[0,3,3]) (k4.ext ((x7.trans x9).trans x10)) (ac rfl (ac rfl (ac rfl aT))) q1_7
 refine aa J J (aI (aD (bp J (.cell J (k1_7.ld MC J ag) (.tmp J .nil)) ?_)))
 exact⟨_,J,x1_7,_,_,J,(aU.mk (f10_a_0.kq m1_7) (f10_a_1.kq m1_7)),J⟩
theorem qj {w:World} {l:List Rat} {v:Value} (hv:cF dQ l v w) (hB:∀x∈l,bt x≤34359738368):
 Calls Tryz.prog 229 #[v] w (cA fun r w'=>aH w w'∧Is (B true) r w'):=by
 have hlen:=hv.len
 refine enter Tryz.func229 J J J (bc (aa J J (aI (aj (bc (aa J J (aI (aJ (dS (α:=Nat) (fun i=>[(0,v),(3,I (i:Int))]) (fun i w'=>aH w w'∧i≤l.length) (fun i=>l.length-i) (0) ⟨J,J,trivial⟩ ⟨aH.refl _,by omega⟩ ?_)))))))))
 rintro i wL ⟨eL,hi⟩
 refine aj (bc (ab J J (ab J J (bn J J (bB MK (hv.ext eL)) (ao J J J (aX) (aI (ci J (fun h7=>?_) (fun h7=>?_))))))))
 ·refine aA (ah (aj (aJ (bc (ab J J (ab J J ?_))))))
  obtain⟨a12,c12,e12,he12,p12,q12,h12⟩:=dJ (hv.ext eL) (i:=i)
  obtain⟨x12_0,x12_1,rfl,f12_0,f12_1⟩:=dO h12
  refine aE J J J (p12 _) (ak J J (q12.ld MC J ag) ?_)
  have hm:=hB e12 (by rw[he12];exact Nh _)
  refine aq jt J J ((qW (aU.mk f12_0 f12_1) (by omega))) ?_
  rintro v14 w14 ⟨x14,rfl⟩
  refine cC J J cn (aI (bU J (aA (aW (ah (ae (ab J J (ao (r:=I ((i+1:Nat):Int)) J J J (by have e:((i+1:Nat):Int)=(i:Int)+1:=(by omega);rw[e];exact aY) (aa J J (ar (dC (i+1) ⟨J,J,trivial⟩ ⟨(eL.trans x14),by omega⟩ (by omega))))))))))))
 ·refine bJ (aV (aV (bP (ah (bc (aa J J (aI (aD (aF J J ?_)))))))))
  exact⟨_,J,eL,J⟩
theorem rf {w:World} {n:Int}:
 Calls Tryz.prog 58 #[I n] w (cA fun r w'=>aH w w'∧bQ dZ ⟨[⟨n,1⟩],0⟩ r w'):=by
 refine enter Tryz.func58 J J J (bc (ce cd J fun g2 w2 l2 x2 k2=>(dR (ab J J (aq nK J J ((nN (x:=1) (by omega) (by omega))) ?_)))))
 rintro v4 w4 ⟨x4,⟨x4_0,x4_1,rfl,f4_0,f4_1⟩⟩
 refine bV (r:=.agg #[I n,B (((1:Int):Rat)).sg,x4_0,x4_1]) J J (by obtain⟨_,_,_,rfl⟩:=f4_0.isS;obtain⟨_,_,_,rfl⟩:=f4_1.isS;exact run_build _ _ _ _ (by kernel_rfl)) ?_
 obtain⟨v6,w6,hr6,x6,b6⟩:=wh (w:=w4) (j7 (a:=(⟨n,((1:Int):Rat)⟩:dU)) f4_0 f4_1)
 refine bN (vs:=[(0,.agg #[I n,B (((1:Int):Rat)).sg,x4_0,x4_1])]) J J hr6 (bV (r:=.agg #[v6,B false,.slice none 0 0,.slice none 0 0]) J J (by obtain⟨_,_,_,rfl⟩:=b6.isS;exact run_build _ _ _ _ (by kernel_rfl)) (bD J J (k2.ext (x4.trans x6)) J ay (am.cons b6.one (am.cons J (am.cons J (am.cons J am.nil)))) fun w1_5 q1_5 k1_5=>?_))
 have x1_5:=aH.of_new (((x2.trans x4).trans x6)) q1_5 l2
 have m1_5:=Kq.of1 (p:=[3,0,3,3]) (k2.ext (x4.trans x6)) (ac rfl (ac rfl (ac rfl (ac rfl aT)))) q1_5
 refine aI (aD (bp J (.cell J (k1_5.ld MG J ay) .nil) ?_))
 exact⟨_,J,x1_5,(bQ.mk (cv (b6.kq m1_5) (bH.nil _) (bH.nil _)))⟩
theorem Gk {w:World} {c:Rat} {v:Value} (hv:QV c v w):
 Calls Tryz.prog 59 #[v] w (cA fun r w'=>aH w w'∧bQ dZ ⟨[],c⟩ r w'):=by
 obtain⟨ca,cb,rfl,la,lb'⟩:=hv
 refine enter (vs:=[.agg #[B c.sg,ca,cb]]) Tryz.func59 J J J (bc (cj J J fun g1 w1 l1 x1 k1=>ce cd J fun g2 w2 l2 x2 k2=>(dR (ak J J ((k1.ext x2).ld MC J ag) (bV (r:=.agg #[.slice none 0 0,B c.sg,ca,cb]) J J (by obtain⟨_,_,_,rfl⟩:=la.isS;obtain⟨_,_,_,rfl⟩:=lb'.isS;exact run_build _ _ _ _ (by kernel_rfl)) (bD J J k2 J ay (am.cons J (am.cons J (am.cons la.one (am.cons lb'.one am.nil)))) fun w1_2 q1_2 k1_2=>?_))))))
 have x1_2:=aH.of_new (x2) q1_2 l2
 refine aI (aD (bp J (.cell J (k1_2.ld MG J ay) .nil) ?_))
 have e1:=x1.trans x1_2
 exact⟨_,J,e1,(bQ.mk (cv (cF.nil _ _) (la.ext e1) (lb'.ext e1)))⟩
def sw (x:List Rat) (l:List dU) (s:Rat):Rat:=l.foldl (fun s t=>s+t.co*x.getD t.va.toNat 0) s
theorem ww {x:List Rat} {BB:Nat} (hx:∀y∈x,bt y≤BB) (hB:2≤BB):∀(l:List dU) (s:Rat),bt (sw x l s)≤bt s+gH l+l.length*BB:=by
 intro l
 induction l with
 |nil=>intro s;simp[sw]
 |cons t l ih=>
  intro s
  have h:=ih (s+t.co*x.getD t.va.toNat 0)
  have h1:=gP s (t.co*x.getD t.va.toNat 0)
  have h2:=f7 t.co (x.getD t.va.toNat 0)
  have h3:bt (x.getD t.va.toNat 0)≤BB:=by
   rw[List.getD_eq_getElem?_getD]
   cases hg:x[t.va.toNat]? with
   |none=>exact hB
   |some y=>exact hx y (List.mem_of_getElem? hg)
  simp only[gH,List.length_cons]
  have e:sw x (t::l) s=sw x l (s+t.co*x.getD t.va.toNat 0):=rfl
  rw[e,Nat.succ_mul]
  omega
theorem se {w:World} {f:dx} {x:List Rat} {BB:Nat} {v u:Value} (hv:bQ dZ f v w) (hu:cF dQ x u w) (hok:i8 f x.length=true) (hx:∀y∈x,bt y≤BB) (hB2:2≤BB) (hB:ew f+f.ts.length*BB+BB≤17179869180):
 Calls Tryz.prog 154 #[v,u] w (cA fun r w'=>aH w w'∧gQ (QV (sw x f.ts f.ct)) (Is (I 0)) r w'):=by
 obtain⟨_,rfl,ra⟩:=hv
 obtain⟨fa,fb,fc,rfl,ia,ib,ic⟩:=cl ra
 have hlen:=ia.len
 have hul:=hu.len
 unfold ew at hB
 refine enter (vs:=[.agg #[fa,B f.ct.sg,fb,fc],u]) Tryz.func154 J J J (bc (cj J J fun g2 w2 l2 x2 k2=>ce bv J fun g4 w4 l4 x4 k4=>(aa J J (dR (af J J (dt) (ak J J ((k2.ext x4).ldO (ms:=[B f.ct.sg,fb,fc]) (o:=1) (ef J) MC J ag) (ce bv J fun g6 w6 l6 x6 k6=>bD J J k6 J ag (am.cons J (am.cons ib.one (am.cons ic.one am.nil))) fun w1_3 q1_3 k1_3=>?_)))))))
 have x1_3:=aH.of_new (x6) q1_3 l6
 refine aI (aj (bc (aa J J (aI (aJ (lE (fun(i:Nat) (s:Rat) (sa:Value) (sb:Value)=>[(1,u),(2,.pointer (some ⟨g2,0,none⟩)),(4,.pointer (some ⟨g4,0,none⟩)),(6,.pointer (some ⟨g6,0,none⟩)),(7,I (i:Int))]) (fun(i:Nat) (s:Rat) (sa:Value) (sb:Value) w'=>aH w4 w'∧i≤f.ts.length∧s=sw x (f.ts.take i) f.ct∧dE g6 49 [B s.sg,sa,sb] w'∧bH s.nl sa w'∧bH s.dl sb w') (fun(i:Nat) (s:Rat) (sa:Value) (sb:Value)=>f.ts.length-i) (0) (f.ct) (fb) (fc) ⟨J,J,J,J,J,trivial⟩ ⟨x1_3,by omega,J,k1_3,(ib.ext ((x2.trans x4).trans x1_3)),(ic.ext ((x2.trans x4).trans x1_3))⟩ ?_))))))
 rintro i s sa sb wL ⟨eL,hi,hs,kS,qa,qb⟩
 refine aj (bc (ab J J (af J J (bI) (ak J J (ai ML J ((x4.trans eL).cell_some (k2.cell (i:=0) J))) (bn J J (bB ML (ia.ext ((x2.trans x4).trans eL))) (ao J J J (aX) (aI (ci J (fun h15=>?_) (fun h15=>?_)))))))))
 ·refine aA (ah (aj (aJ (bc (af J J (bI) (ak J J (ai ML J ((x4.trans eL).cell_some (k2.cell (i:=0) J))) ?_))))))
  refine ab J J ?_
  obtain⟨a21,c21,e21,he21,p21,q21,h21⟩:=cU (ia.ext ((x2.trans x4).trans eL)) (i:=i)
  obtain⟨x21_0,x21_1,rfl,f21_0,f21_1⟩:=d4 h21
  refine aE J J J (p21 _) ?_
  have hm:=Nh (l:=f.ts) (n:=i) (by omega)
  rw[←he21] at hm
  have hk:=ft hok e21 hm
  have hm2:=lK hm
  have hs1:=jz (F:=fun s (t:dU)=>s+t.co*x.getD t.va.toNat 0) (s:=f.ct) (l:=f.ts) (i:=i) (by omega)
  rw[←he21] at hs1
  have hb0:=ww hx hB2 (f.ts.take i) f.ct
  rw[←hs,List.length_take] at hb0
  have hb1:=If f.ts i
  have hb2:min i f.ts.length*BB≤f.ts.length*BB:=Ni _ (by omega)
  refine ak J J (q21.ld MY J dG) (ce jl J fun g8 w8 l8 x8 k8=>bD J J k8 J dG (am.cons J (am.cons J (am.cons f21_0.one (am.cons f21_1.one am.nil)))) fun w5_6 q5_6 k5_6=>?_)
  have x5_6:=aH.of_new (x8) q5_6 l8
  refine aI (aj (bc (af J J (cf) (ak J J (ai ME J (k5_6.cell (i:=0) J)) (ao J J J (be (by omega) aX) (ab J J (an J (af J J (cf) ?_))))))))
  have e1:=((x2.trans x4).trans eL).trans x5_6
  refine an J (ak J J (ai ME J (k5_6.cell (i:=0) J)) (an J (ab J J (an J (bn J J (bB MK (hu.ext e1)) (an J (ao J J J (be (by omega) cz) (aG J J J (aI (bU J (aA (ah (bj 10 [1,2,4,6,7,43] (by kernel_rfl) (by kernel_rfl) (ap J J (fun w hw=>((kS.ext x5_6).ext hw).ld MC J ag) (al J J (fun w hw=>cM) (ap J J (fun w hw=>(k5_6.ext hw).ldO (ms:=[B e21.co.sg,x21_0,x21_1]) (o:=1) (ef J) MC J ag) (ax J J (al J J (fun w hw=>cf) (ap J J (fun w hw=>ai ME J (hw.cell_some (k5_6.cell (i:=0) J))) ?_)))))))))))))))))))
  obtain⟨a40,c40,p40,q40,h40⟩:=cP (P:=Tryz.prog) (sz:=3) MK (by kernel_rfl) gy (by omega) (hu.ext e1) (i:=e21.va.toNat) (by omega) .i64
  rw[Int.toNat_of_nonneg hk.1] at p40
  obtain⟨e40,he40⟩:∃e,e=x[e21.va.toNat]'(by omega):=⟨_,rfl⟩
  rw[←he40] at h40
  obtain⟨x40_0,x40_1,rfl,f40_0,f40_1⟩:=dO h40
  refine aK J J J (fun w _=>p40 w) (ap J J (fun w hw=>(q40.ext hw).ld MC J ag) ?_)
  have hxm:=hx e40 (by rw[he40];exact Nh _)
  have hg:x.getD e21.va.toNat 0=e40:=by rw[he40,List.getD_eq_getElem?_getD,List.getElem?_eq_getElem (by omega)];rfl
  rw[hg] at hs1
  have z42_1:=f7 e21.co e40
  refine ec (S:=QV (e21.co*e40)) qV (QV.stable _) J J J (fun w hw=>EM ((aU.mk (f21_0.ext x5_6) (f21_1.ext x5_6)).ext hw) ((aU.mk f40_0 f40_1).ext hw) (by omega)) ?_
  have z43_2:=gP s (e21.co*e40)
  refine bZ (S:=QV (s+(e21.co*e40))) ke (QV.stable _) J (fun w hw=>by rintro _ rfl v42 h42;exact yz ((aU.mk (qa.ext x5_6) (qb.ext x5_6)).ext hw) h42 (by omega)) (bA ?_)
  rintro wg8 xg8 _ hq1
  obtain rfl:=Eq.symm hq1
  rintro _ rfl _ rfl _ rfl _ rfl _ ⟨x43_0,x43_1,rfl,f43_0,f43_1⟩
  refine bD J J (kS.ext (x5_6.trans xg8)) J ag (am.cons J (am.cons f43_0.one (am.cons f43_1.one am.nil))) fun w8_10 q8_10 k8_10=>?_
  have x8_10:=aH.of_new (((eL.trans x5_6).trans xg8)) q8_10 l6
  have m8_10:=Kq.of1 (p:=[0,3,3]) (kS.ext (x5_6.trans xg8)) (ac rfl (ac qa.kd (ac qb.kd aT))) q8_10
  refine ar (aW (ah (ae (ab J J (ao (r:=I ((i+1:Nat):Int)) J J J (by have e:((i+1:Nat):Int)=(i:Int)+1:=(by omega);rw[e];exact aY) (aa J J (ar (fW (i+1) (_) (_) (_) ⟨J,J,J,J,J,trivial⟩ ⟨x8_10,by omega,by rw[hs];exact hs1.symm,k8_10,(f43_0.kq m8_10),(f43_1.kq m8_10)⟩ (by omega)))))))))
 ·refine bJ (aV (aV (bP (ah (bc (ak J J (kS.ld MC J ag) ?_))))))
  refine bD J J (k4.ext eL) J ag (am.cons J (am.cons qa.one (am.cons qb.one am.nil))) fun w9_1 q9_1 k9_1=>?_
  have x9_1:=aH.of_new ((x4.trans eL)) q9_1 l4
  have m9_1:=Kq.of1 (p:=[0,3,3]) (k4.ext eL) (ac rfl (ac rfl (ac rfl aT))) q9_1
  refine aa J J (aI (aD (bp J (.cell J (k9_1.ld MC J ag) (.tmp J .nil)) ?_)))
  obtain rfl:i=f.ts.length:=by omega
  rw[List.take_length] at hs
  exact⟨_,J,(x2.trans x9_1),_,_,J,by rw[←hs];exact(aU.mk (qa.kq m9_1) (qb.kq m9_1)),J⟩
theorem Bw {n:Int}:∀{lo:Int} {l:List dU},po n lo l=true→∀{i:Nat} (h:i+1<l.length),l[i].va<l[i+1].va
 |lo,t::l,hk,0,h=>by
  obtain⟨_,k⟩:=eg.1 hk
  have:=ft k (l[0]'(by simpa using h)) (Nh _)
  simp only[List.getElem_cons_zero,List.getElem_cons_succ]
  omega
 |lo,t::l,hk,i+1,h=>by
  obtain⟨_,k⟩:=eg.1 hk
  exact Bw k (i:=i) (by simpa using h)
theorem Ii {n lo:Int} {l:List dU} (hk:po n lo l=true) {i:Nat} (h0:0<i) (h:i<l.length):l[i-1].va<l[i].va:=by
 obtain⟨j,rfl⟩:∃j,i=j+1:=⟨i-1,by omega⟩
 exact Bw hk h
theorem qk {w:World} {f:dx} {n:Int} {v:Value} (hv:bQ dZ f v w) (hok:i8 f n=true) (hB:ew f≤17179869180):
 Calls Tryz.prog 151 #[v,I n] w (cA fun r w'=>aH w w'∧Is (B true) r w'):=by
 obtain⟨_,rfl,ra⟩:=hv
 obtain⟨fa,fb,fc,rfl,ia,ib,ic⟩:=cl ra
 have hlen:=ia.len
 unfold ew at hB
 refine enter (vs:=[.agg #[fa,B f.ct.sg,fb,fc],I n]) Tryz.func151 J J J (bc (cj J J fun g2 w2 l2 x2 k2=>(aa J J (aI (aj (bc (aa J J (aI (aJ (dS (α:=Nat) (fun i=>[(1,I n),(2,.pointer (some ⟨g2,0,none⟩)),(5,I (i:Int))]) (fun i w'=>aH w2 w'∧i≤f.ts.length) (fun i=>f.ts.length-i) (0) ⟨J,J,J,trivial⟩ ⟨aH.refl _,by omega⟩ ?_))))))))))
 rintro i wL ⟨eL,hi⟩
 refine aj (bc (ab J J (af J J (bI) (ak J J (ai ML J (eL.cell_some (k2.cell (i:=0) J))) (bn J J (bB ML (ia.ext (x2.trans eL))) (ao J J J (aX) (aI (ci J (fun h11=>?_) (fun h11=>?_)))))))))
 ·refine aA (ah (aj (aJ (bc (af J J (bI) (ak J J (ai ML J (eL.cell_some (k2.cell (i:=0) J))) ?_))))))
  refine ab J J ?_
  obtain⟨a17,c17,e17,he17,p17,q17,h17⟩:=cU (ia.ext (x2.trans eL)) (i:=i)
  obtain⟨x17_0,x17_1,rfl,f17_0,f17_1⟩:=d4 h17
  refine aE J J J (p17 _) (ak J J (q17.ld MY J dG) ?_)
  have hm:=Nh (l:=f.ts) (n:=i) (by omega)
  rw[←he17] at hm
  have hk:=ft hok e17 hm
  have hm2:=lK hm
  have hsg:gx e17.co≠0:=fun h=>hk.2.2 (jX.1 h)
  refine ce jl J fun g6 w6 l6 x6 k6=>bD J J k6 J dG (am.cons J (am.cons J (am.cons f17_0.one (am.cons f17_1.one am.nil)))) fun w4_6 q4_6 k4_6=>?_
  have x4_6:=aH.of_new (x6) q4_6 l6
  refine aI (aj ?_)
  rcases Nat.lt_or_ge 0 i with hp|hp
  ·refine bj 36 [1,2,5,50,54] (by kernel_rfl) (by kernel_rfl) ?_
   refine al J J (fun w hw=>cf) (ap J J (fun w hw=>ai ME J (hw.cell_some (k4_6.cell (i:=0) J))) (bC J J J (fun w _=>be (by omega) aX) (ax (S:=Is (B false)) J J (au J J (al J J (fun w hw=>cf) (au J J (ap J J (fun w hw=>ai ME J (hw.cell_some (k4_6.cell (i:=0) J))) (au J J (ax (S:=Is (I n)) J J (au J J (bC J J J (fun w _=>be (by omega) cz) (cQ (S:=Is (B false)) J J J (ax (S:=Is (B false)) J J (au J J (ax (S:=Is (I (i:Int))) J J (au J J (bC J J J (fun w _=>bF (by omega) bo) (au J J (ax (S:=Is (B true)) J J (au J J (al J J (fun w hw=>bI) (au J J (ap J J (fun w hw=>ai ML J (hw.cell_some ((eL.trans x4_6).cell_some (k2.cell (i:=0) J)))) (au J J (ax (S:=Is (I (i:Int))) J J (au J J (bC (r:=I ((i-1:Nat):Int)) J J J (fun w _=>by have e:((i-1:Nat):Int)=(i:Int)-1:=(by omega);rw[e];exact bT) (au J J ?_))))))))))))))))))))))))))))
   obtain⟨a36,c36,p36,q36,h36⟩:=cP (P:=Tryz.prog) (sz:=4) ML (by kernel_rfl) gY (by omega) (ia.ext ((x2.trans eL).trans x4_6)) (i:=(i-1:Nat)) (by omega) .i64
   obtain⟨e36,he36⟩:∃e,e=f.ts[(i-1:Nat)]'(by omega):=⟨_,rfl⟩
   rw[←he36] at h36
   obtain⟨x36_0,x36_1,rfl,f36_0,f36_1⟩:=d4 h36
   refine aK J J J (fun w _=>p36 w) ?_
   have hst:=Ii hok (i:=i) hp (by omega)
   rw[←he36,←he17] at hst
   refine au J J (al J J (fun w hw=>de) (au J J (ap J J (fun w hw=>ai ME J (hw.cell_some (q36.at (j:=0) J))) (au J J (al J J (fun w hw=>cf) (au J J (ap J J (fun w hw=>ai ME J (hw.cell_some (k4_6.cell (i:=0) J))) (au J J (bC J J J (fun w _=>be (by omega) cz) (au J J (dT (S:=Is (B false)) J J J (cQ (S:=Is (B false)) J J J (ax (S:=Is (B false)) J J (au J J (al J J (fun w hw=>cM) (au J J (ap J J (fun w hw=>(k4_6.ext hw).ldO (ms:=[B e17.co.sg,x17_0,x17_1]) (o:=1) (ef J) MC J ag) (au J J (es (S:=Is (I (gx e17.co))) f9 (bi.is _) J J (fun w hw=>mH ((aU.mk (f17_0.ext x4_6) (f17_1.ext x4_6)).ext hw) (by omega)) (au J J (bC J J J (fun w _=>be hsg aO) (cQ (S:=Is (B false)) J J J (ax (S:=Is (B false)) J J (au J J (al J J (fun w hw=>cM) ?_)))))))))))))))))))))))))
   refine au J J (ap J J (fun w hw=>(k4_6.ext hw).ldO (ms:=[B e17.co.sg,x17_0,x17_1]) (o:=1) (ef J) MC J ag) (au J J (es (S:=Is (B true)) jt (bi.is _) J J (fun w hw=>qW ((aU.mk (f17_0.ext x4_6) (f17_1.ext x4_6)).ext hw) (by omega)) (au J J (jF J J (fun w _=>cn) (bA ?_))))))
   rintro wg5 xg5 _ rfl _ rfl _ rfl _ rfl _ rfl
   refine aG J J J (aI (bU J (aA (aW (ah (ae (ab J J (ao (r:=I ((i+1:Nat):Int)) J J J (by have e:((i+1:Nat):Int)=(i:Int)+1:=(by omega);rw[e];exact aY) (aa J J (ar (dC (i+1) ⟨J,J,J,trivial⟩ ⟨((eL.trans x4_6).trans xg5),by omega⟩ (by omega))))))))))))
  ·refine bj 36 [1,2,5,50,54] (by kernel_rfl) (by kernel_rfl) ?_
   refine al J J (fun w hw=>cf) (ap J J (fun w hw=>ai ME J (hw.cell_some (k4_6.cell (i:=0) J))) (bC J J J (fun w _=>be (by omega) aX) (ax (S:=Is (B false)) J J (au J J (al J J (fun w hw=>cf) (au J J (ap J J (fun w hw=>ai ME J (hw.cell_some (k4_6.cell (i:=0) J))) (au J J (ax (S:=Is (I n)) J J (au J J (bC J J J (fun w _=>be (by omega) cz) (cQ (S:=Is (B false)) J J J (ax (S:=Is (B false)) J J (au J J (ax (S:=Is (I (i:Int))) J J (au J J (bC J J J (fun w _=>be (by omega) bo) (au J J (ax (S:=Is (B false)) J J (bu J J J (bu J J J (bu J J J (bu J J J (bu J J J (bu J J J (bu J J J (bu J J J (bu J J J (bu J J J (au J J (cQ (S:=Is (B false)) J J J (cQ (S:=Is (B false)) J J J (ax (S:=Is (B false)) J J (au J J (al J J (fun w hw=>cM) ?_)))))))))))))))))))))))))))))))))))
   refine au J J (ap J J (fun w hw=>(k4_6.ext hw).ldO (ms:=[B e17.co.sg,x17_0,x17_1]) (o:=1) (ef J) MC J ag) (au J J (es (S:=Is (I (gx e17.co))) f9 (bi.is _) J J (fun w hw=>mH ((aU.mk (f17_0.ext x4_6) (f17_1.ext x4_6)).ext hw) (by omega)) (au J J (bC J J J (fun w _=>be hsg aO) (cQ (S:=Is (B false)) J J J (ax (S:=Is (B false)) J J (au J J (al J J (fun w hw=>cM) (au J J (ap J J (fun w hw=>(k4_6.ext hw).ldO (ms:=[B e17.co.sg,x17_0,x17_1]) (o:=1) (ef J) MC J ag) (au J J (es (S:=Is (B true)) jt (bi.is _) J J (fun w hw=>qW ((aU.mk (f17_0.ext x4_6) (f17_1.ext x4_6)).ext hw) (by omega)) (au J J (jF J J (fun w _=>cn) (bA ?_))))))))))))))))
   rintro wg5 xg5 _ rfl _ rfl _ rfl _ rfl _ rfl
   refine aG J J J (aI (bU J (aA (aW (ah (ae (ab J J (ao (r:=I ((i+1:Nat):Int)) J J J (by have e:((i+1:Nat):Int)=(i:Int)+1:=(by omega);rw[e];exact aY) (aa J J (ar (dC (i+1) ⟨J,J,J,trivial⟩ ⟨((eL.trans x4_6).trans xg5),by omega⟩ (by omega))))))))))))
 ·refine bJ (aV (aV (bP (ah (bc (af J J (dt) (ak J J ((k2.ext eL).ldO (ms:=[B f.ct.sg,fb,fc]) (o:=1) (ef J) MC J ag) ?_)))))))
  refine aq jt J J (qW (aU.mk (ib.ext (x2.trans eL)) (ic.ext (x2.trans eL))) (by omega)) ?_
  rintro v58 w58 ⟨x58,rfl⟩
  refine aa J J (aI (aD (aF J J ?_)))
  exact⟨_,J,((x2.trans eL).trans x58),J⟩
theorem qp {w:World} {l:List dx} {n:Int} {v:Value} (hv:cF dZ l v w) (hok:∀f∈l,i8 f n=true∧ew f≤17179869180):
 Calls Tryz.prog 228 #[v,I n] w (cA fun r w'=>aH w w'∧Is (B true) r w'):=by
 have hlen:=hv.len
 refine enter Tryz.func228 J J J (bc (aa J J (aI (aj (bc (aa J J (aI (aJ (dS (α:=Nat) (fun i=>[(0,v),(1,I n),(5,I (i:Int))]) (fun i w'=>aH w w'∧i≤l.length) (fun i=>l.length-i) (0) ⟨J,J,J,trivial⟩ ⟨aH.refl _,by omega⟩ ?_)))))))))
 rintro i wL ⟨eL,hi⟩
 refine aj (bc (ab J J (ab J J (bn J J (bB MI (hv.ext eL)) (ao J J J (aX) (aI (ci J (fun h9=>?_) (fun h9=>?_))))))))
 ·refine aA (ah (aj (aJ (bc (ab J J (ab J J ?_))))))
  obtain⟨a14,c14,e14,he14,p14,q14,h14⟩:=eN (hv.ext eL) (i:=i)
  obtain⟨x14_0,x14_1,x14_2,rfl,f14_0,f14_1,f14_2⟩:=cl h14
  refine aE J J J (p14 _) (ak J J (q14.ld MG J ay) ?_)
  have hm:=hok e14 (by rw[he14];exact Nh _)
  refine ab J J (aq qg J J (qk (bQ.mk (cv f14_0 f14_1 f14_2)) hm.1 hm.2) ?_)
  rintro v17 w17 ⟨x17,rfl⟩
  refine cC J J cn (aI (bU J (aA (aW (ah (ae (ab J J (ao (r:=I ((i+1:Nat):Int)) J J J (by have e:((i+1:Nat):Int)=(i:Int)+1:=(by omega);rw[e];exact aY) (aa J J (ar (dC (i+1) ⟨J,J,J,trivial⟩ ⟨(eL.trans x17),by omega⟩ (by omega))))))))))))
 ·refine bJ (aV (aV (bP (ah (bc (aa J J (aI (aD (aF J J ?_)))))))))
  exact⟨_,J,eL,J⟩
end Go.Rl
namespace Go.Rl
open Go.RowKit Go.Proofs
def Gl {α:Type} (P:Program) (fid:FuncId) (cs:List Value) (F:α→Dt) (l:List α) (g:α→Bool) (w:World):Prop:=
 ∀a∈l,∀(W:World) (v:Value),aH w W→bQ F a v W→Calls P fid (#[]++[v].toArray++cs.toArray) W (cA fun r W'=>aH W W'∧Is (B (g a)) r W')
theorem tZ {α:Type} {g:α→Bool} {l:List α} {i:Nat} (hi:i<l.length) (h:l.any g=(l.drop i).any g) (hg:g l[i]=true):l.any g=true:=by
 rw[h,List.drop_eq_getElem_cons hi,List.any_cons,hg,Bool.true_or]
theorem oS {α:Type} {g:α→Bool} {l:List α} {i:Nat} (hi:i<l.length) (h:l.any g=(l.drop i).any g) (hg:g l[i]=false):l.any g=(l.drop (i+1)).any g:=by
 rw[h,List.drop_eq_getElem_cons hi,List.any_cons,hg,Bool.false_or]
theorem rg {α:Type} {g:α→Bool} {l:List α} {i:Nat} (hi:l.length≤i) (h:l.any g=(l.drop i).any g):l.any g=false:=by
 rw[h,List.drop_of_length_le hi];rfl
theorem C6:az Tryz.prog 279:=⟨_,Tryz.func279,by kernel_rfl,rfl⟩
theorem wx:az Tryz.prog 205:=⟨_,Tryz.func205,by kernel_rfl,rfl⟩
theorem C7 {w:World} {l:List dx} {v:Value} {fid:FuncId} {cs:List Value} {g:dx→Bool} (hv:cF dZ l v w) (hfn:az Tryz.prog fid) (hc:Gl Tryz.prog fid cs dZ l g w):
 Calls Tryz.prog 279 #[v,.func (.func fid) #[] cs.toArray] w (cA fun r w'=>aH w w'∧∃k:Int,r=I k∧ -1≤k∧k≤9223372036854775807∧(0≤k↔l.any g=true)):=by
 have hll:=hv.len
 refine enter (vs:=[v,.func (.func fid) #[] cs.toArray]) Tryz.func279 J J J (bc (aa J J (aI (aj (bc (ab J J (bn J J (bB MI hv) (ab J J (aI (aJ (dS (α:=Nat) (fun i=>[(0,v),(1,.func (.func fid) #[] cs.toArray),(7,I (l.length:Int)),(8,I (i:Int))]) (fun i w'=>aH w w'∧i≤l.length∧l.any g=(l.drop i).any g) (fun i=>l.length-i) (0) ⟨J,J,J,J,trivial⟩ ⟨aH.refl _,by omega,J⟩ ?_)))))))))))
 rintro i wL ⟨eL,hi,hall⟩
 refine bc (ao J J J (aX) (aI (aj (ci J (fun h9=>?_) (fun h9=>?_)))))
 ·refine aA (ah (aj (aJ (bc (ab J J (aa J J (aI (aj ?_))))))))
  obtain⟨em,hem⟩:∃em,em=l[i]'(by omega):=⟨_,rfl⟩
  have hmem:em∈l:=by rw[hem];exact Nh _
  rcases hg:g em
  ·refine ae (ab J J (ab J J (ab J J ?_)))
   obtain⟨a14,c14,p14,q14,h14⟩:=cP (P:=Tryz.prog) (sz:=4) MI (by kernel_rfl) wg (by omega) (hv.ext eL) (i:=i) (by omega) .i64
   rw[←hem] at h14
   obtain⟨x14_0,x14_1,x14_2,rfl,f14_0,f14_1,f14_2⟩:=cl h14
   refine aE J J J (p14 _) (ak J J (q14.ld MG J ay) (gX J hfn J J ((by have h:=hc em hmem _ _ (eL) (bQ.mk (cv f14_0 f14_1 f14_2));rw[hg] at h;exact h)) ?_))
   rintro v16 w16 ⟨x16,rfl⟩
   refine aI (bU J (aA (aW (ah (ae (ao (r:=I ((i+1:Nat):Int)) J J J (by have e:((i+1:Nat):Int)=(i:Int)+1:=(by omega);rw[e];exact aY) (ab J J (ar (dC (i+1) ⟨J,J,J,J,trivial⟩ ⟨(eL.trans x16),by omega,oS (by omega) hall (by rw[←hem];exact hg)⟩ (by omega))))))))))
  ·refine ae (ab J J (ab J J (ab J J ?_)))
   obtain⟨a14,c14,p14,q14,h14⟩:=cP (P:=Tryz.prog) (sz:=4) MI (by kernel_rfl) wg (by omega) (hv.ext eL) (i:=i) (by omega) .i64
   rw[←hem] at h14
   obtain⟨x14_0,x14_1,x14_2,rfl,f14_0,f14_1,f14_2⟩:=cl h14
   refine aE J J J (p14 _) (ak J J (q14.ld MG J ay) (gX J hfn J J ((by have h:=hc em hmem _ _ (eL) (bQ.mk (cv f14_0 f14_1 f14_2));rw[hg] at h;exact h)) ?_))
   rintro v16 w16 ⟨x16,rfl⟩
   refine aI (cg J (bc (ab J J (aa J J (aI (aD (bK (a0 (a0 (bK (a0 (aF J J ?_))))))))))))
   exact⟨_,J,(eL.trans x16),i,J,by omega,by omega,⟨fun _=>tZ (i:=i) (by omega) hall (by rw[←hem];exact hg),fun _=>by omega⟩⟩
 ·refine bJ (aV (aV (bP (ah (bc (aa J J (aI (aD (aF J J ?_)))))))))
  exact⟨_,J,eL,-1,J,by omega,by omega,⟨fun h=>absurd h (by omega),fun h=>by rw[rg (i:=i) (by omega) hall] at h;cases h⟩⟩
theorem wy {w:World} {l:List dx} {v:Value} {fid:FuncId} {cs:List Value} {g:dx→Bool} (hv:cF dZ l v w) (hfn:az Tryz.prog fid) (hc:Gl Tryz.prog fid cs dZ l g w):
 Calls Tryz.prog 205 #[v,.func (.func fid) #[] cs.toArray] w (cA fun r w'=>aH w w'∧Is (B (l.any g)) r w'):=by
 refine enter (vs:=[v,.func (.func fid) #[] cs.toArray]) Tryz.func205 J J J (bc (aa J J (dR (ab J J (ab J J (aq C6 J J ((C7 hv hfn hc)) ?_))))))
 rintro v7 w7 ⟨x7,k,rfl,k1,k2,kc⟩
 refine ao J J J (cz) (aa J J (aI (aD (aF J J ?_))))
 exact⟨_,J,x7,by
  show B _=B _
  congr 1
  cases hg:l.any g with
  |true=>exact decide_eq_true (kc.2 hg)
  |false=>exact decide_eq_false fun h=>by have:=kc.1 h;rw[hg] at this;cases this⟩
theorem C8:az Tryz.prog 212:=⟨_,Tryz.func212,by kernel_rfl,rfl⟩
theorem wz:az Tryz.prog 127:=⟨_,Tryz.func127,by kernel_rfl,rfl⟩
theorem C9 {w:World} {l:List nw} {v:Value} {fid:FuncId} {cs:List Value} {g:nw→Bool} (hv:cF pQ l v w) (hfn:az Tryz.prog fid) (hc:Gl Tryz.prog fid cs pQ l g w):
 Calls Tryz.prog 212 #[v,.func (.func fid) #[] cs.toArray] w (cA fun r w'=>aH w w'∧∃k:Int,r=I k∧ -1≤k∧k≤9223372036854775807∧(0≤k↔l.any g=true)):=by
 have hll:=hv.len
 refine enter (vs:=[v,.func (.func fid) #[] cs.toArray]) Tryz.func212 J J J (bc (aa J J (aI (aj (bc (ab J J (bn J J (bB MO hv) (ab J J (ar (ah (aJ (dS (α:=Nat) (fun i=>[(0,v),(1,.func (.func fid) #[] cs.toArray),(7,I (l.length:Int)),(8,I (i:Int))]) (fun i w'=>aH w w'∧i≤l.length∧l.any g=(l.drop i).any g) (fun i=>l.length-i) (0) ⟨J,J,J,J,trivial⟩ ⟨aH.refl _,by omega,J⟩ ?_))))))))))))
 rintro i wL ⟨eL,hi,hall⟩
 refine bc (ao J J J (aX) (aI (aj (ci J (fun h9=>?_) (fun h9=>?_)))))
 ·refine aA (ah (aj (aJ (bc (ab J J (aa J J (aI (aj ?_))))))))
  obtain⟨em,hem⟩:∃em,em=l[i]'(by omega):=⟨_,rfl⟩
  have hmem:em∈l:=by rw[hem];exact Nh _
  rcases hg:g em
  ·refine ae (ab J J (ab J J (ab J J ?_)))
   obtain⟨a14,c14,p14,q14,h14⟩:=cP (P:=Tryz.prog) (sz:=5) MO (by kernel_rfl) kI (by omega) (hv.ext eL) (i:=i) (by omega) .i64
   rw[←hem] at h14
   obtain⟨x14_0,x14_1,rfl,f14_0,f14_1⟩:=gn h14
   refine aE J J J (p14 _) (ak J J (q14.ld MW J cH) (gX J hfn J J ((by have h:=hc em hmem _ _ (eL) (bQ.mk (lf f14_0 f14_1));rw[hg] at h;exact h)) ?_))
   rintro v16 w16 ⟨x16,rfl⟩
   refine aI (bU J (aA (aW (ah (ae (ao (r:=I ((i+1:Nat):Int)) J J J (by have e:((i+1:Nat):Int)=(i:Int)+1:=(by omega);rw[e];exact aY) (ab J J (ar (dC (i+1) ⟨J,J,J,J,trivial⟩ ⟨(eL.trans x16),by omega,oS (by omega) hall (by rw[←hem];exact hg)⟩ (by omega))))))))))
  ·refine ae (ab J J (ab J J (ab J J ?_)))
   obtain⟨a14,c14,p14,q14,h14⟩:=cP (P:=Tryz.prog) (sz:=5) MO (by kernel_rfl) kI (by omega) (hv.ext eL) (i:=i) (by omega) .i64
   rw[←hem] at h14
   obtain⟨x14_0,x14_1,rfl,f14_0,f14_1⟩:=gn h14
   refine aE J J J (p14 _) (ak J J (q14.ld MW J cH) (gX J hfn J J ((by have h:=hc em hmem _ _ (eL) (bQ.mk (lf f14_0 f14_1));rw[hg] at h;exact h)) ?_))
   rintro v16 w16 ⟨x16,rfl⟩
   refine aI (cg J (bc (ab J J (aa J J (aI (aD (bK (a0 (a0 (bK (a0 (aF J J ?_))))))))))))
   exact⟨_,J,(eL.trans x16),i,J,by omega,by omega,⟨fun _=>tZ (i:=i) (by omega) hall (by rw[←hem];exact hg),fun _=>by omega⟩⟩
 ·refine bJ (aV (aV (bP (ah (bc (aa J J (aI (aD (aF J J ?_)))))))))
  exact⟨_,J,eL,-1,J,by omega,by omega,⟨fun h=>absurd h (by omega),fun h=>by rw[rg (i:=i) (by omega) hall] at h;cases h⟩⟩
theorem wA {w:World} {l:List nw} {v:Value} {fid:FuncId} {cs:List Value} {g:nw→Bool} (hv:cF pQ l v w) (hfn:az Tryz.prog fid) (hc:Gl Tryz.prog fid cs pQ l g w):
 Calls Tryz.prog 127 #[v,.func (.func fid) #[] cs.toArray] w (cA fun r w'=>aH w w'∧Is (B (l.any g)) r w'):=by
 refine enter (vs:=[v,.func (.func fid) #[] cs.toArray]) Tryz.func127 J J J (bc (aa J J (dR (ab J J (ab J J (aq C8 J J ((C9 hv hfn hc)) ?_))))))
 rintro v7 w7 ⟨x7,k,rfl,k1,k2,kc⟩
 refine ao J J J (cz) (aa J J (aI (aD (aF J J ?_))))
 exact⟨_,J,x7,by
  show B _=B _
  congr 1
  cases hg:l.any g with
  |true=>exact decide_eq_true (kc.2 hg)
  |false=>exact decide_eq_false fun h=>by have:=kc.1 h;rw[hg] at this;cases this⟩
theorem Da:az Tryz.prog 397:=⟨_,Tryz.func397,by kernel_rfl,rfl⟩
theorem Db:az Tryz.prog 390:=⟨_,Tryz.func390,by kernel_rfl,rfl⟩
theorem Dc {w:World} {l:List eh} {v:Value} {fid:FuncId} {cs:List Value} {g:eh→Bool} (hv:cF iI l v w) (hfn:az Tryz.prog fid) (hc:Gl Tryz.prog fid cs iI l g w):
 Calls Tryz.prog 397 #[v,.func (.func fid) #[] cs.toArray] w (cA fun r w'=>aH w w'∧∃k:Int,r=I k∧ -1≤k∧k≤9223372036854775807∧(0≤k↔l.any g=true)):=by
 have hll:=hv.len
 refine enter (vs:=[v,.func (.func fid) #[] cs.toArray]) Tryz.func397 J J J (bc (aa J J (aI (aj (bc (ab J J (bn J J (bB MV hv) (ab J J (aI (aJ (dS (α:=Nat) (fun i=>[(0,v),(1,.func (.func fid) #[] cs.toArray),(7,I (l.length:Int)),(8,I (i:Int))]) (fun i w'=>aH w w'∧i≤l.length∧l.any g=(l.drop i).any g) (fun i=>l.length-i) (0) ⟨J,J,J,J,trivial⟩ ⟨aH.refl _,by omega,J⟩ ?_)))))))))))
 rintro i wL ⟨eL,hi,hall⟩
 refine bc (ao J J J (aX) (aI (aj (ci J (fun h9=>?_) (fun h9=>?_)))))
 ·refine aA (ah (aj (aJ (bc (ab J J (aa J J (aI (aj ?_))))))))
  obtain⟨em,hem⟩:∃em,em=l[i]'(by omega):=⟨_,rfl⟩
  have hmem:em∈l:=by rw[hem];exact Nh _
  rcases hg:g em
  ·refine ae (ab J J (ab J J (ab J J ?_)))
   obtain⟨a14,c14,p14,q14,h14⟩:=cP (P:=Tryz.prog) (sz:=7) MV (by kernel_rfl) mA (by omega) (hv.ext eL) (i:=i) (by omega) .i64
   rw[←hem] at h14
   obtain⟨x14_0,x14_1,rfl,f14_0,f14_1⟩:=fJ h14
   refine aE J J J (p14 _) (ak J J (q14.ld M2 J eO) (gX J hfn J J ((by have h:=hc em hmem _ _ (eL) (bQ.mk (jO f14_0 f14_1));rw[hg] at h;exact h)) ?_))
   rintro v16 w16 ⟨x16,rfl⟩
   refine aI (bU J (aA (aW (ah (ae (ao (r:=I ((i+1:Nat):Int)) J J J (by have e:((i+1:Nat):Int)=(i:Int)+1:=(by omega);rw[e];exact aY) (ab J J (ar (dC (i+1) ⟨J,J,J,J,trivial⟩ ⟨(eL.trans x16),by omega,oS (by omega) hall (by rw[←hem];exact hg)⟩ (by omega))))))))))
  ·refine ae (ab J J (ab J J (ab J J ?_)))
   obtain⟨a14,c14,p14,q14,h14⟩:=cP (P:=Tryz.prog) (sz:=7) MV (by kernel_rfl) mA (by omega) (hv.ext eL) (i:=i) (by omega) .i64
   rw[←hem] at h14
   obtain⟨x14_0,x14_1,rfl,f14_0,f14_1⟩:=fJ h14
   refine aE J J J (p14 _) (ak J J (q14.ld M2 J eO) (gX J hfn J J ((by have h:=hc em hmem _ _ (eL) (bQ.mk (jO f14_0 f14_1));rw[hg] at h;exact h)) ?_))
   rintro v16 w16 ⟨x16,rfl⟩
   refine aI (cg J (bc (ab J J (aa J J (aI (aD (bK (a0 (a0 (bK (a0 (aF J J ?_))))))))))))
   exact⟨_,J,(eL.trans x16),i,J,by omega,by omega,⟨fun _=>tZ (i:=i) (by omega) hall (by rw[←hem];exact hg),fun _=>by omega⟩⟩
 ·refine bJ (aV (aV (bP (ah (bc (aa J J (aI (aD (aF J J ?_)))))))))
  exact⟨_,J,eL,-1,J,by omega,by omega,⟨fun h=>absurd h (by omega),fun h=>by rw[rg (i:=i) (by omega) hall] at h;cases h⟩⟩
theorem De {w:World} {l:List eh} {v:Value} {fid:FuncId} {cs:List Value} {g:eh→Bool} (hv:cF iI l v w) (hfn:az Tryz.prog fid) (hc:Gl Tryz.prog fid cs iI l g w):
 Calls Tryz.prog 390 #[v,.func (.func fid) #[] cs.toArray] w (cA fun r w'=>aH w w'∧Is (B (l.any g)) r w'):=by
 refine enter (vs:=[v,.func (.func fid) #[] cs.toArray]) Tryz.func390 J J J (bc (aa J J (dR (ab J J (ab J J (aq Da J J ((Dc hv hfn hc)) ?_))))))
 rintro v7 w7 ⟨x7,k,rfl,k1,k2,kc⟩
 refine ao J J J (cz) (aa J J (aI (aD (aF J J ?_))))
 exact⟨_,J,x7,by
  show B _=B _
  congr 1
  cases hg:l.any g with
  |true=>exact decide_eq_true (kc.2 hg)
  |false=>exact decide_eq_false fun h=>by have:=kc.1 h;rw[hg] at this;cases this⟩
end Go.Rl
namespace Go.Rl
open Go.RowKit Go.Proofs
theorem t4 {P:Program} {w:World} {t:TypeId} {v:Value} (h:v.cells=[v].toArray):∃g w',(Instr.box t v).run P w=.ok (.pointer (some ⟨g,0,none⟩)) w'∧w.heap.size≤g∧aH w w'∧dE g t [v] w':=
 ⟨_,_,Hh,Nat.le_refl _,aH.new w _,dE.new v h⟩
theorem Lw {P:Program} {w:World} {t T:TypeId} {g:Nat} {u v:Value} (hs:(P.info? t).map (·.size)=some 1) (hv:v.oneCell'=true) (h:dE g T [u] w):
 ∃w',(Instr.storeAt t (.pointer (some ⟨g,0,none⟩)) v).run P w=.ok () w'∧w.grownBy w' (some g)∧dE g T [v] w':=
 ⟨_,sF (i:=0) hs hv h (by simp),jf w g 0 v,h.set 0 v⟩
theorem gd {x y:Rat}:f6 x y>0↔y<x:=by unfold f6;split<;>(try split)<;>constructor<;>intro h<;>grind
theorem kQ {x y:Rat}:f6 x y<0↔x<y:=by unfold f6;split<;>(try split)<;>constructor<;>intro h<;>grind
theorem Bx {x y:Rat}:f6 x y≤0↔x≤y:=by unfold f6;split<;>(try split)<;>constructor<;>intro h<;>grind
theorem iR {x:Rat}:gx x>0↔0<x:=by unfold gx;split<;>(try split)<;>constructor<;>intro h<;>grind
theorem kR {x:Rat}:gx x<0↔x<0:=by unfold gx;split<;>(try split)<;>constructor<;>intro h<;>grind
theorem jY {x:Rat}:gx x≤0↔x≤0:=by unfold gx;split<;>(try split)<;>constructor<;>intro h<;>grind
theorem jZ {x:Rat}:gx x≥0↔0≤x:=by unfold gx;split<;>(try split)<;>constructor<;>intro h<;>grind
structure zV (g:AF):Prop where
 i0:1≤g.inp
 i1:g.inp≤3
 ul:g.us.length≤4
 o0:1≤g.os.length
 o1:g.os.length≤3
 us:∀(j:Nat) (h:j<g.us.length),i8 g.us[j] (g.inp+j)=true∧ew g.us[j]≤100
 os:∀f∈g.os,i8 f (g.inp+g.us.length)=true∧ew f≤100
structure G0 (r:CK) (n:Int):Prop where
 n0:1≤n
 n1:n≤3
 ll:(r.lo.length:Int)=n
 hl:(r.hi.length:Int)=n
 rl:r.rs.length≤2
 lh:∀(i:Nat) (h:i<r.lo.length) (h':i<r.hi.length),r.lo[i]≤r.hi[i]∧bt r.lo[i]≤20∧bt r.hi[i]≤20
 rs:∀f∈r.rs,i8 f n=true∧ew f≤100
structure n7 (q:ur):Prop where
 g:zV q.g
 r:G0 q.r q.g.inp
 go:i8 q.go (q.g.inp+q.g.us.length)=true
 gb:ew q.go≤100
def i9 (q:ur) (d:nw):Prop:=((d.kd=1∨d.kd=2)∧0≤d.ix∧d.ix<q.g.us.length∧d.at_=0)∨((d.kd=3∨d.kd=4)∧0≤d.ix∧d.ix<q.g.inp∧bt d.at_≤20)
structure SmS (s:eX):Prop where
 q:n7 s.q
 pl:s.pa.length≤4
 pa:∀d∈s.pa,i9 s.q d
 l:s.lm.length≤8
theorem G0.lb {r:CK} {n:Int} (h:G0 r n):∀x∈r.lo,bt x≤20:=fun x hx=>by
 obtain⟨i,hi,rfl⟩:=List.mem_iff_getElem.1 hx
 have h1:=h.ll
 have h2:=h.hl
 exact(h.lh i hi (by omega)).2.1
theorem G0.hb {r:CK} {n:Int} (h:G0 r n):∀x∈r.hi,bt x≤20:=fun x hx=>by
 obtain⟨i,hi,rfl⟩:=List.mem_iff_getElem.1 hx
 have h1:=h.ll
 have h2:=h.hl
 exact(h.lh i (by omega) hi).2.2
def gh (s:eX) (k j:Int):Bool:=s.pa.any fun d=>decide (d.kd=k)&&decide (d.ix=j)
def dA (l:List ig) (n:Nat):Rat:=match l[n-1]? with
 |some m=>m.va
 |none=>0
def nT (l:List ig) (u:Int) (s:Nat×Nat) (i:Nat) (m:ig):Nat×Nat:=
 if m.un≠u then s else if m.up=true then(if s.2=0∨m.va<dA l s.2 then(s.1,i+1) else s) else if s.1=0∨dA l s.1<m.va then(i+1,s.2) else s
def pk (l:List ig) (u:Int):Nat→Nat×Nat
 |0=>(0,0)
 |i+1=>match l[i]? with
  |some m=>nT l u (pk l u i) i m
  |none=>pk l u i
def cy (l:List ig) (u:Int):Nat×Nat:=pk l u l.length
theorem sf {l:List ig} {u:Int} {i:Nat} (h:i<l.length):pk l u (i+1)=nT l u (pk l u i) i l[i]:=by
 rw[pk,List.getElem?_eq_getElem h]
theorem mJ (l:List ig) (u:Int):∀i,(pk l u i).1≤i∧(pk l u i).2≤i
 |0=>⟨Nat.le_refl _,Nat.le_refl _⟩
 |i+1=>by
  have h:=mJ l u i
  rw[pk]
  split
  ·unfold nT
   repeat' split
   all_goals (try simp only)<;>omega
  ·omega
theorem fA {l:List ig} {n:Nat} (h:n-1<l.length):dA l n=l[n-1].va:=by unfold dA;rw[List.getElem?_eq_getElem h]
end Go.Rl
namespace Go.Rl
open Go.RowKit Go.Proofs
theorem Df:az Tryz.prog 206:=⟨_,Tryz.func206,by kernel_rfl,rfl⟩
theorem Dg:az Tryz.prog 118:=⟨_,Tryz.func118,by kernel_rfl,rfl⟩
theorem uF:az Tryz.prog 52:=⟨_,Tryz.func52,by kernel_rfl,rfl⟩
theorem wB:az Tryz.prog 383:=⟨_,Tryz.func383,by kernel_rfl,rfl⟩
theorem oT:az Tryz.prog 149:=⟨_,Tryz.func149,by kernel_rfl,rfl⟩
theorem By:az Tryz.prog 152:=⟨_,Tryz.func152,by kernel_rfl,rfl⟩
theorem Bz:az Tryz.prog 231:=⟨_,Tryz.func231,by kernel_rfl,rfl⟩
theorem zW:az Tryz.prog 157:=⟨_,Tryz.func157,by kernel_rfl,rfl⟩
theorem sV:az Tryz.prog 150:=⟨_,Tryz.func150,by kernel_rfl,rfl⟩
theorem Dh:az Tryz.prog 153:=⟨_,Tryz.func153,by kernel_rfl,rfl⟩
theorem Di {w:World} {f:dx} {n:Int} {g1:Nat} {v:Value} (hv:bQ dZ f v w) (k1:dE g1 3 [I n] w) (hok:i8 f n=true) (hB:ew f≤17179869180):
 Calls Tryz.prog 206 #[v,.pointer (some ⟨g1,0,none⟩)] w (cA fun r w'=>aH w w'∧Is (B false) r w'):=by
 obtain⟨_,rfl,ra⟩:=hv
 obtain⟨fa,fb,fc,rfl,ia,ib,ic⟩:=cl ra
 refine enter (vs:=[.agg #[fa,B f.ct.sg,fb,fc],.pointer (some ⟨g1,0,none⟩)]) Tryz.func206 J J J ?_
 have c1:=k1.cell (i:=0) rfl
 refine bc (cj J J fun g2 w2 l2 x2 k2=>(aa J J (dR (ak J J (k2.ld MG J ay) (ak J J (ai ME J (x2.cell_some c1)) (aq iP J J ((by have h:=iQ (n:=n) (bQ.mk (cv (ia.ext x2) (ib.ext x2) (ic.ext x2))) hB;rw[hok] at h;exact h)) ?_))))))
 rintro v6 w6 ⟨x6,rfl⟩
 refine cC J J cn (aa J J (aI (aD (aF J J ?_))))
 exact⟨_,J,(x2.trans x6),J⟩
theorem t5 {α:Type} (l:List α):(l.any fun _=>false)=false:=by simp
theorem Dj {w:World} {l:List dx} {n:Int} {v:Value} (hv:cF dZ l v w) (hok:∀f∈l,i8 f n=true∧ew f≤17179869180):
 Calls Tryz.prog 118 #[v,I n] w (cA fun r w'=>aH w w'∧Is (B true) r w'):=by
 refine enter Tryz.func118 J J J (bc ?_)
 obtain⟨g3,w3,hr3,l3,x3,k3⟩:=t4 (P:=Tryz.prog) (w:=w) (t:=3) (v:=I n) rfl
 refine mT J J hr3 (aa J J (dR (ab J J (mm (us:=[]) (vs:=[.pointer (some ⟨g3,0,none⟩)]) J J J (aq wx J J ((by have h:=wy (g:=fun _=>false) (hv.ext x3) Df (cs:=[.pointer (some ⟨g3,0,none⟩)]) (fun f hf W v hx hv=>Di hv (k3.ext hx) (hok f hf).1 (hok f hf).2);rw[t5] at h;exact h)) ?_)))))
 rintro v7 w7 ⟨x7,rfl⟩
 refine cC J J cn (aa J J (aI (aD (aF J J ?_))))
 exact⟨_,J,(x3.trans x7),J⟩
theorem uG {w:World} {g:AF} {v:Value} (hv:bQ Ev g v w) (hs:zV g):
 Calls Tryz.prog 52 #[v] w (cA fun r w'=>aH w w'∧Is (B true) r w'):=by
 obtain⟨_,rfl,ra⟩:=hv
 obtain⟨gu,go,rfl,iu,io⟩:=mZ ra
 have h1:=hs.i0
 have h2:=hs.i1
 have h3:=hs.ul
 have h4:=hs.o0
 have h5:=hs.o1
 refine enter (vs:=[.agg #[I g.inp,gu,go]]) Tryz.func52 J J J (bc (cj J J fun g1 w1 l1 x1 k1=>(aa J J (aI (aj (bc (af J J (bS) (ak J J (ai ME J (k1.cell (i:=0) J)) (ao J J J (be (by omega) aX) (ab J J (an J (af J J (bS) (an J (ak J J (ai ME J (k1.cell (i:=0) J)) (an J (ao J J J (be (by omega) bo) (aG J J J (ab J J (an J (af J J (bX) (an J (ak J J (ai MI J (k1.cell (i:=1) J)) (an J (bn J J (bB MI (iu.ext x1)) (an J (ao J J J (be (by omega) bo) (aG J J J (ab J J (an J (af J J (fm) (an J (ak J J (ai MI J (k1.cell (i:=2) J)) (an J (bn J J (bB MI (io.ext x1)) (an J (ao J J J (be (by omega) aX) (aG J J J (ab J J ?_))))))))))))))))))))))))))))))))))))))
 refine an J (af J J (fm) (an J (ak J J (ai MI J (k1.cell (i:=2) J)) (an J (bn J J (bB MI (io.ext x1)) (an J (ao J J J (be (by omega) bo) (aG J J J (ar (ah (bU J (aA (ah (aj (bc (af J J (bX) (ak J J (ai MI J (k1.cell (i:=1) J)) (bn J J (bB MI (iu.ext x1)) (ab J J (aI (aJ (dS (α:=Nat) (fun i=>[(1,.pointer (some ⟨g1,0,none⟩)),(32,gu),(33,I (g.us.length:Int)),(34,I (i:Int))]) (fun i w'=>aH w1 w'∧i≤g.us.length) (fun i=>g.us.length-i) (0) ⟨J,J,J,J,trivial⟩ ⟨aH.refl _,by omega⟩ ?_))))))))))))))))))))))
 rintro i wL ⟨eL,hi⟩
 refine bc (ao J J J (aX) (aI (aj (ci J (fun h35=>?_) (fun h35=>?_)))))
 ·refine aA (ah (aj (aJ (bc (ab J J ?_)))))
  obtain⟨a37,c37,e37,he37,p37,q37,h37⟩:=eN (iu.ext (x1.trans eL)) (i:=i)
  obtain⟨x37_0,x37_1,x37_2,rfl,f37_0,f37_1,f37_2⟩:=cl h37
  refine aE J J J (p37 _) (ak J J (q37.ld MG J ay) ?_)
  have hk:=hs.us i (by omega)
  rw[←he37] at hk
  refine ce cd J fun g4 w4 l4 x4 k4=>(aa J J (bD J J k4 J ay (am.cons f37_0.one (am.cons J (am.cons f37_1.one (am.cons f37_2.one am.nil)))) fun w5_5 q5_5 k5_5=>?_))
  have x5_5:=aH.of_new (x4) q5_5 l4
  refine dR (ak J J (k5_5.ld MG J ay) (af J J (bS) (ak J J (ai ME J ((eL.trans x5_5).cell_some (k1.cell (i:=0) J))) (ab J J (ao (r:=I (g.inp+(i:Int))) J J J (by have e:(g.inp+(i:Int):Int)=g.inp+(i:Int):=(by omega);rw[e];exact aY) (aq iP J J ((by have h:=iQ (n:=g.inp+(i:Int)) (bQ.mk (cv (f37_0.ext x5_5) (f37_1.ext x5_5) (f37_2.ext x5_5))) (by omega);rw[hk.1] at h;exact h)) ?_))))))
  rintro v44 w44 ⟨x44,rfl⟩
  refine cC J J cn (aI (bU J (aA (aW (ah (ae (ao (r:=I ((i+1:Nat):Int)) J J J (by have e:((i+1:Nat):Int)=(i:Int)+1:=(by omega);rw[e];exact aY) (ab J J (ar (dC (i+1) ⟨J,J,J,J,trivial⟩ ⟨((eL.trans x5_5).trans x44),by omega⟩ (by omega)))))))))))
 ·refine bJ (aV (aV (bP (ah (bc (af J J (fm) (ak J J (ai MI J (eL.cell_some (k1.cell (i:=2) J))) ?_)))))))
  refine af J J (bS) (ak J J (ai ME J (eL.cell_some (k1.cell (i:=0) J))) (af J J (bX) (ak J J (ai MI J (eL.cell_some (k1.cell (i:=1) J))) (bn J J (bB MI (iu.ext (x1.trans eL))) (ao J J J aY (aq Dg J J (Dj (io.ext (x1.trans eL)) (fun f hf=>⟨(hs.os f hf).1,by have:=(hs.os f hf).2;omega⟩)) ?_))))))
  rintro v55 w55 ⟨x55,rfl⟩
  refine aa J J (aI (aD (aF J J ?_)))
  exact⟨_,J,((x1.trans eL).trans x55),J⟩
theorem wF {w:World} {g:AF} {v:Value} (hv:bQ Ev g v w) (hs:zV g):
 Calls Tryz.prog 383 #[v] w (cA fun r w'=>aH w w'∧Is (I (g.inp+(g.us.length:Int))) r w'):=by
 obtain⟨_,rfl,ra⟩:=hv
 obtain⟨gu,go,rfl,iu,io⟩:=mZ ra
 have h1:=hs.i0
 have h2:=hs.i1
 have h3:=hs.ul
 refine enter (vs:=[.agg #[I g.inp,gu,go]]) Tryz.func383 J J J (bc (cj J J fun g1 w1 l1 x1 k1=>(aa J J (aI (aj (bc (ak J J (k1.ld MX J dg) (aq uF J J (uG (bQ.mk (jP (iu.ext x1) (io.ext x1))) hs) ?_))))))))
 rintro v4 w4 ⟨x4,rfl⟩
 refine cC J J cn (aI (bU J (aA (ah (bc (af J J (bS) (ak J J (ai ME J (x4.cell_some (k1.cell (i:=0) J))) (af J J (bX) (ak J J (ai MI J (x4.cell_some (k1.cell (i:=1) J))) (bn J J (bB MI (iu.ext (x1.trans x4))) (ao J J J aY (aa J J (aI (aD (aF J J ?_)))))))))))))))
 exact⟨_,J,(x1.trans x4),J⟩
theorem oW {w:World} {g:AF} {v:Value} (hv:bQ Ev g v w) (hs:zV g):
 Calls Tryz.prog 149 #[v] w (cA fun r w'=>aH w w'∧Is (B true) r w'):=by
 obtain⟨_,rfl,ra⟩:=hv
 obtain⟨gu,go,rfl,iu,io⟩:=mZ ra
 have h1:=hs.i0
 have h2:=hs.i1
 have h3:=hs.ul
 have h4:=hs.o0
 have h5:=hs.o1
 refine enter (vs:=[.agg #[I g.inp,gu,go]]) Tryz.func149 J J J (bc (cj J J fun g1 w1 l1 x1 k1=>(aa J J (aI (aj (bc (af J J (bS) (ak J J (ai ME J (k1.cell (i:=0) J)) (ao J J J (be (by omega) aX) (ab J J (an J (af J J (bS) (an J (ak J J (ai ME J (k1.cell (i:=0) J)) (an J (ao J J J (be (by omega) bo) (aG J J J (ab J J (an J (af J J (bX) (an J (ak J J (ai MI J (k1.cell (i:=1) J)) (an J (bn J J (bB MI (iu.ext x1)) (an J (ao J J J (be (by omega) bo) (aG J J J (ab J J (an J (af J J (fm) (an J (ak J J (ai MI J (k1.cell (i:=2) J)) (an J (bn J J (bB MI (io.ext x1)) (an J (ao J J J (be (by omega) aX) (aG J J J (ab J J ?_))))))))))))))))))))))))))))))))))))))
 refine an J (af J J (fm) (an J (ak J J (ai MI J (k1.cell (i:=2) J)) (an J (bn J J (bB MI (io.ext x1)) (an J (ao J J J (be (by omega) bo) (aG J J J (ar (ah (bU J (aA (ah (aj (bc (aa J J (aI (aJ (dS (α:=Nat) (fun i=>[(1,.pointer (some ⟨g1,0,none⟩)),(3,I (i:Int))]) (fun i w'=>aH w1 w'∧i≤g.us.length) (fun i=>g.us.length-i) (0) ⟨J,J,trivial⟩ ⟨aH.refl _,by omega⟩ ?_)))))))))))))))))))
 rintro i wL ⟨eL,hi⟩
 refine aj (bc (ab J J (af J J (bX) (ak J J (ai MI J (eL.cell_some (k1.cell (i:=1) J))) (bn J J (bB MI (iu.ext (x1.trans eL))) (ao J J J (aX) (aI (ci J (fun h34=>?_) (fun h34=>?_)))))))))
 ·refine aA (ah (aj (aJ (aj (bj 10 [1,3,46] (by kernel_rfl) (by kernel_rfl) ?_)))))
  refine al J J (fun w hw=>bX) (ap J J (fun w hw=>ai MI J (hw.cell_some (eL.cell_some (k1.cell (i:=1) J)))) (ax J J ?_))
  obtain⟨a40,c40,e40,he40,p40,q40,h40⟩:=eN (iu.ext (x1.trans eL)) (i:=i)
  obtain⟨x40_0,x40_1,x40_2,rfl,f40_0,f40_1,f40_2⟩:=cl h40
  refine aK J J J (fun w _=>p40 w) (ap J J (fun w hw=>(q40.ext hw).ld MG J ay) ?_)
  have hk:=hs.us i (by omega)
  rw[←he40] at hk
  refine al J J (fun w hw=>bS) (ap J J (fun w hw=>ai ME J (hw.cell_some (eL.cell_some (k1.cell (i:=0) J)))) (ax J J (bC (r:=I (g.inp+(i:Int))) J J J (fun w _=>by have e:(g.inp+(i:Int):Int)=g.inp+(i:Int):=(by omega);rw[e];exact aY) (ec (S:=Is (B true)) qg (bi.is _) J J J (fun w hw=>qk ((bQ.mk (cv f40_0 f40_1 f40_2)).ext hw) hk.1 (by omega)) (bA ?_)))))
  rintro wg6 xg6 _ rfl _ rfl _ rfl
  refine cC J J cn (aI (bU J (aA (aW (ah (ae (ab J J (ao (r:=I ((i+1:Nat):Int)) J J J (by have e:((i+1:Nat):Int)=(i:Int)+1:=(by omega);rw[e];exact aY) (aa J J (ar (dC (i+1) ⟨J,J,trivial⟩ ⟨(eL.trans xg6),by omega⟩ (by omega))))))))))))
 ·refine bJ (aV (aV (bP (ah (bc (af J J (fm) (ak J J (ai MI J (eL.cell_some (k1.cell (i:=2) J))) ?_)))))))
  refine af J J (bS) (ak J J (ai ME J (eL.cell_some (k1.cell (i:=0) J))) (af J J (bX) (ak J J (ai MI J (eL.cell_some (k1.cell (i:=1) J))) (bn J J (bB MI (iu.ext (x1.trans eL))) (ao J J J aY (aq qi J J (qp (io.ext (x1.trans eL)) (fun f hf=>⟨(hs.os f hf).1,by have:=(hs.os f hf).2;omega⟩)) ?_))))))
  rintro v56 w56 ⟨x56,rfl⟩
  refine aa J J (aI (aD (aF J J ?_)))
  exact⟨_,J,((x1.trans eL).trans x56),J⟩
theorem BA {w:World} {g:AF} {v:Value} (hv:bQ Ev g v w) (hs:zV g):
 Calls Tryz.prog 152 #[v] w (cA fun r w'=>aH w w'∧Is (I (g.inp+(g.us.length:Int))) r w'):=by
 obtain⟨_,rfl,ra⟩:=hv
 obtain⟨gu,go,rfl,iu,io⟩:=mZ ra
 have h1:=hs.i0
 have h2:=hs.i1
 have h3:=hs.ul
 refine enter (vs:=[.agg #[I g.inp,gu,go]]) Tryz.func152 J J J (bc (cj J J fun g1 w1 l1 x1 k1=>(aa J J (aI (aj (bc (ak J J (k1.ld MX J dg) (aq oT J J (oW (bQ.mk (jP (iu.ext x1) (io.ext x1))) hs) ?_))))))))
 rintro v4 w4 ⟨x4,rfl⟩
 refine cC J J cn (aI (bU J (aA (ah (bc (af J J (bS) (ak J J (ai ME J (x4.cell_some (k1.cell (i:=0) J))) (af J J (bX) (ak J J (ai MI J (x4.cell_some (k1.cell (i:=1) J))) (bn J J (bB MI (iu.ext (x1.trans x4))) (ao J J J aY (aa J J (aI (aD (aF J J ?_)))))))))))))))
 exact⟨_,J,(x1.trans x4),J⟩
end Go.Rl
namespace Go.Rl
open Go.RowKit Go.Proofs
theorem wG:az Tryz.prog 290:=⟨_,Tryz.func290,by kernel_rfl,rfl⟩
theorem wH:az Tryz.prog 213:=⟨_,Tryz.func213,by kernel_rfl,rfl⟩
theorem gK:az Tryz.prog 78:=⟨_,Tryz.func78,by kernel_rfl,rfl⟩
theorem uH:az Tryz.prog 129:=⟨_,Tryz.func129,by kernel_rfl,rfl⟩
theorem wJ:az Tryz.prog 134:=⟨_,Tryz.func134,by kernel_rfl,rfl⟩
theorem BC:az Tryz.prog 155:=⟨_,Tryz.func155,by kernel_rfl,rfl⟩
theorem oX:az Tryz.prog 73:=⟨_,Tryz.func73,by kernel_rfl,rfl⟩
theorem jd:az Tryz.prog 66:=⟨_,Tryz.func66,by kernel_rfl,rfl⟩
theorem Dk:az Tryz.prog 232:=⟨_,Tryz.func232,by kernel_rfl,rfl⟩
theorem fT:az Tryz.prog 158:=⟨_,Tryz.func158,by kernel_rfl,rfl⟩
theorem zX {w:World} {x y:Rat} {v u:Value} (hv:QV x v w) (hu:QV y u w):Calls Tryz.prog 60 #[v,u] w (cA fun r w'=>aH w w'∧Is (B (decide (x=y))) r w'):=by
 refine(vZ hv hu).mono fun r w' h=>?_
 obtain⟨v,rfl,h1,h2⟩:=h
 refine⟨v,J,h1,h2.trans ?_⟩
 congr 1
 refine decide_eq_decide.2 ⟨fun⟨a,b,c⟩=>L7 a b c,fun e=>by rw[e];exact⟨J,J,J⟩⟩
theorem BD {w:World} {f:dx} {n:Int} {g1:Nat} {v:Value} (hv:bQ dZ f v w) (k1:dE g1 3 [I n] w) (hok:i8 f n=true) (hB:ew f≤17179869180):
 Calls Tryz.prog 231 #[v,.pointer (some ⟨g1,0,none⟩)] w (cA fun r w'=>aH w w'∧Is (B false) r w'):=by
 obtain⟨_,rfl,ra⟩:=hv
 obtain⟨fa,fb,fc,rfl,ia,ib,ic⟩:=cl ra
 refine enter (vs:=[.agg #[fa,B f.ct.sg,fb,fc],.pointer (some ⟨g1,0,none⟩)]) Tryz.func231 J J J ?_
 have c1:=k1.cell (i:=0) rfl
 refine bc (cj J J fun g2 w2 l2 x2 k2=>(aa J J (dR (ak J J (k2.ld MG J ay) (ak J J (ai ME J (x2.cell_some c1)) (aq iP J J ((by have h:=iQ (n:=n) (bQ.mk (cv (ia.ext x2) (ib.ext x2) (ic.ext x2))) hB;rw[hok] at h;exact h)) ?_))))))
 rintro v6 w6 ⟨x6,rfl⟩
 refine cC J J cn (aa J J (aI (aD (aF J J ?_))))
 exact⟨_,J,(x2.trans x6),J⟩
theorem zY {w:World} {r:CK} {n:Int} {v:Value} (hv:bQ GZ r v w) (hs:G0 r n):
 Calls Tryz.prog 157 #[v,I n] w (cA fun r w'=>aH w w'∧Is (B true) r w'):=by
 obtain⟨_,rfl,ra⟩:=hv
 obtain⟨ga,gb,gc,rfl,ia,ib,ic⟩:=qR ra
 have h1:=hs.n0
 have h2:=hs.n1
 have h3:=hs.ll
 have h4:=hs.hl
 have h5:=hs.rl
 refine enter (vs:=[.agg #[ga,gb,gc],I n]) Tryz.func157 J J J (bc (cj J J fun g2 w2 l2 x2 k2=>?_))
 obtain⟨g3,w3,hr3,l3,x3,k3⟩:=t4 (P:=Tryz.prog) (w:=w2) (t:=3) (v:=I n) rfl
 refine mT J J hr3 (aa J J (aI (aj (bc (ak J J (ai ME J (k3.cell (i:=0) J)) (ao J J J (be (by omega) aX) (ab J J (an J (ak J J (ai ME J (k3.cell (i:=0) J)) (an J (ao J J J (be (by omega) bo) (aG J J J (ab J J (an J (af J J (cO) (an J (ak J J (ai MK J (x3.cell_some (k2.cell (i:=0) J))) ?_)))))))))))))))))
 have e1:=x2.trans x3
 refine an J (bn J J (bB MK (ia.ext e1)) (an J (ak J J (ai ME J (k3.cell (i:=0) J)) (an J (ao J J J (be (by omega) fg) (aG J J J (ab J J (an J (af J J (du) (an J (ak J J (ai MK J (x3.cell_some (k2.cell (i:=1) J))) (an J (bn J J (bB MK (ib.ext e1)) (an J (ak J J (ai ME J (k3.cell (i:=0) J)) (an J (ao J J J (be (by omega) fg) (aG J J J (ab J J (an J (af J J (eT) (an J (ak J J (ai MI J (x3.cell_some (k2.cell (i:=2) J))) (an J (bn J J (bB MI (ic.ext e1)) (an J (ao J J J (be (by omega) bo) (aG J J J (aI (bU J (aA (ah (aj (bc (af J J (cO) (ak J J (ai MK J (x3.cell_some (k2.cell (i:=0) J))) (bn J J (bB MK (ia.ext e1)) (ab J J (aI (aJ ?_))))))))))))))))))))))))))))))))))))))))
 refine dS (α:=Nat) (fun i=>[(2,.pointer (some ⟨g2,0,none⟩)),(3,.pointer (some ⟨g3,0,none⟩)),(34,ga),(35,I (r.lo.length:Int)),(36,I (i:Int))]) (fun i w'=>aH w3 w'∧i≤r.lo.length) (fun i=>r.lo.length-i) (0) ⟨J,J,J,J,J,trivial⟩ ⟨aH.refl _,by omega⟩ ?_
 rintro i wL ⟨eL,hi⟩
 refine bc (ao J J J (aX) (aI (aj (ci J (fun h37=>?_) (fun h37=>?_)))))
 ·refine aA (ah (aj (aJ (bc (ab J J ?_)))))
  obtain⟨a39,c39,e39,he39,p39,q39,h39⟩:=dJ (ia.ext ((x2.trans x3).trans eL)) (i:=i)
  obtain⟨x39_0,x39_1,rfl,f39_0,f39_1⟩:=dO h39
  refine aE J J J (p39 _) (ak J J (q39.ld MC J ag) ?_)
  have hk:=hs.lh i (by omega) (by omega)
  rw[←he39] at hk
  refine ce bv J fun g6 w6 l6 x6 k6=>(aa J J (bD J J k6 J ag (am.cons J (am.cons f39_0.one (am.cons f39_1.one am.nil))) fun w5_5 q5_5 k5_5=>?_))
  have x5_5:=aH.of_new (x6) q5_5 l6
  refine aI (aj (bj 21 [2,3,34,35,36,53,61] (by kernel_rfl) (by kernel_rfl) (ap J J (fun w hw=>(k5_5.ext hw).ld MC J ag) (es (S:=Is (B true)) gm (bi.is _) J J (fun w hw=>lJ ((aU.mk (f39_0.ext x5_5) (f39_1.ext x5_5)).ext hw) (by omega)) (jF J J (fun w _=>cn) (ax J J (au J J (al J J (fun w hw=>du) (au J J (ap J J (fun w hw=>ai MK J (hw.cell_some (((x3.trans eL).trans x5_5).cell_some (k2.cell (i:=1) J)))) (au J J (ax J J (au J J ?_)))))))))))))
  obtain⟨a48,c48,e48,he48,p48,q48,h48⟩:=dJ (ib.ext (((x2.trans x3).trans eL).trans x5_5)) (i:=i)
  obtain⟨x48_0,x48_1,rfl,f48_0,f48_1⟩:=dO h48
  refine aK J J J (fun w _=>p48 w) (au J J (ap J J (fun w hw=>(q48.ext hw).ld MC J ag) ?_))
  rw[←he48] at hk
  refine au J J (es (S:=Is (B true)) gm (bi.is _) J J (fun w hw=>lJ ((aU.mk f48_0 f48_1).ext hw) (by omega)) (au J J (jF J J (fun w _=>cn) (cQ J J J (ax J J (au J J (ap J J (fun w hw=>(k5_5.ext hw).ld MC J ag) (au J J (al J J (fun w hw=>du) (au J J (ap J J (fun w hw=>ai MK J (hw.cell_some (((x3.trans eL).trans x5_5).cell_some (k2.cell (i:=1) J)))) (au J J (ax J J (au J J (aK J J J (fun w _=>p48 w) (au J J (ap J J (fun w hw=>(q48.ext hw).ld MC J ag) (au J J (ec (S:=Is (I (f6 e39 e48))) gk (bi.is _) J J J (fun w hw=>p7 ((aU.mk (f39_0.ext x5_5) (f39_1.ext x5_5)).ext hw) ((aU.mk f48_0 f48_1).ext hw) (by omega)) (au J J (bC J J J (fun w _=>be (fun h=>by have:=gd.1 h;grind) bo) (bA ?_))))))))))))))))))))))
  rintro wg6 xg6 _ rfl _ rfl _ hq34
  obtain rfl:=Eq.symm hq34
  rintro _ rfl _ rfl _ rfl _ rfl
  refine aG J J J (aI (bU J (aA (aW (ah (ae (ao (r:=I ((i+1:Nat):Int)) J J J (by have e:((i+1:Nat):Int)=(i:Int)+1:=(by omega);rw[e];exact aY) (ab J J (ar (dC (i+1) ⟨J,J,J,J,J,trivial⟩ ⟨((eL.trans x5_5).trans xg6),by omega⟩ (by omega)))))))))))
 ·refine bJ (aV (aV (bP (ah (bc (af J J (eT) (ak J J (ai MI J ((x3.trans eL).cell_some (k2.cell (i:=2) J))) ?_)))))))
  refine mm (us:=[]) (vs:=[.pointer (some ⟨g3,0,none⟩)]) J J J (aq wx J J ((by have h:=wy (g:=fun _=>false) (ic.ext ((x2.trans x3).trans eL)) Bz (cs:=[.pointer (some ⟨g3,0,none⟩)]) (fun f hf W v hx hv=>BD hv ((k3.ext (eL)).ext hx) (hs.rs f hf).1 (by have:=(hs.rs f hf).2;omega));rw[t5] at h;exact h)) ?_)
  rintro v67 w67 ⟨x67,rfl⟩
  refine cC J J cn (aa J J (aI (aD (aF J J ?_))))
  exact⟨_,J,(((x2.trans x3).trans eL).trans x67),J⟩
theorem sW {w:World} {r:CK} {n:Int} {v:Value} (hv:bQ GZ r v w) (hs:G0 r n):
 Calls Tryz.prog 150 #[v,I n] w (cA fun r w'=>aH w w'∧Is (B true) r w'):=by
 obtain⟨_,rfl,ra⟩:=hv
 obtain⟨ga,gb,gc,rfl,ia,ib,ic⟩:=qR ra
 have h1:=hs.n0
 have h2:=hs.n1
 have h3:=hs.ll
 have h4:=hs.hl
 have h5:=hs.rl
 refine enter (vs:=[.agg #[ga,gb,gc],I n]) Tryz.func150 J J J (bc (cj J J fun g2 w2 l2 x2 k2=>(aa J J (aI (aj (bc (ab J J (ao J J J (be (by omega) aX) (ab J J (an J (ab J J (an J (ao J J J (be (by omega) bo) (aG J J J (ab J J (an J (af J J (cO) (an J (ak J J (ai MK J (k2.cell (i:=0) J)) (an J (bn J J (bB MK (ia.ext x2)) (an J (ab J J (an J (ao J J J (be (by omega) fg) (aG J J J (ab J J (an J (af J J (du) (an J (ak J J (ai MK J (k2.cell (i:=1) J)) (an J (bn J J (bB MK (ib.ext x2)) (an J (ab J J (an J (ao J J J (be (by omega) fg) (aG J J J (ab J J (an J (af J J (eT) (an J (ak J J (ai MI J (k2.cell (i:=2) J)) (an J (bn J J (bB MI (ic.ext x2)) ?_)))))))))))))))))))))))))))))))))))))))))))))
 refine an J (ao J J J (be (by omega) bo) (aG J J J (aI (bU J (aA (ah (aj (bc (af J J (cO) (ak J J (ai MK J (k2.cell (i:=0) J)) (aq p5 J J (qj (ia.ext x2) (fun x hx=>by have:=hs.lb x hx;omega)) ?_)))))))))))
 rintro v34 w34 ⟨x34,rfl⟩
 refine cC J J cn (ab J J (an J (af J J (du) (an J (ak J J (ai MK J (x34.cell_some (k2.cell (i:=1) J))) (an J (aq p5 J J (qj (ib.ext (x2.trans x34)) (fun x hx=>by have:=hs.hb x hx;omega)) ?_)))))))
 rintro v39 w39 ⟨x39,rfl⟩
 refine an J (cC J J cn (aG J J J (ab J J (an J (af J J (eT) (an J (ak J J (ai MI J ((x34.trans x39).cell_some (k2.cell (i:=2) J))) (an J (ab J J (an J (aq qi J J (qp (ic.ext ((x2.trans x34).trans x39)) (fun f hf=>⟨(hs.rs f hf).1,by have:=(hs.rs f hf).2;omega⟩)) ?_)))))))))))
 rintro v46 w46 ⟨x46,rfl⟩
 refine an J (cC J J cn (aG J J J (aI (bU J (aA (ah (aj (bc (aa J J (aI (aJ (dS (α:=Nat) (fun i=>[(1,I n),(2,.pointer (some ⟨g2,0,none⟩)),(5,I (i:Int))]) (fun i w'=>aH w2 w'∧(i:Int)≤n) (fun i=>n.toNat-i) (0) ⟨J,J,J,trivial⟩ ⟨((x34.trans x39).trans x46),by omega⟩ ?_))))))))))))
 rintro i wL ⟨eL,hi⟩
 refine aj (bc (ab J J (ab J J (ao J J J (aX) (aI (ci J (fun h51=>?_) (fun h51=>?_)))))))
 ·refine aA (ah (aj (aJ (aj (bj 11 [1,2,5,64] (by kernel_rfl) (by kernel_rfl) ?_)))))
  refine al J J (fun w hw=>cO) (ap J J (fun w hw=>ai MK J (hw.cell_some (eL.cell_some (k2.cell (i:=0) J)))) (ax J J ?_))
  obtain⟨a57,c57,e57,he57,p57,q57,h57⟩:=dJ (ia.ext (x2.trans eL)) (i:=i)
  obtain⟨x57_0,x57_1,rfl,f57_0,f57_1⟩:=dO h57
  refine aK J J J (fun w _=>p57 w) (ap J J (fun w hw=>(q57.ext hw).ld MC J ag) ?_)
  have hk:=hs.lh i (by omega) (by omega)
  rw[←he57] at hk
  refine al J J (fun w hw=>du) (ap J J (fun w hw=>ai MK J (hw.cell_some (eL.cell_some (k2.cell (i:=1) J)))) (ax J J ?_))
  obtain⟨a62,c62,e62,he62,p62,q62,h62⟩:=dJ (ib.ext (x2.trans eL)) (i:=i)
  obtain⟨x62_0,x62_1,rfl,f62_0,f62_1⟩:=dO h62
  refine aK J J J (fun w _=>p62 w) (ap J J (fun w hw=>(q62.ext hw).ld MC J ag) ?_)
  rw[←he62] at hk
  refine ec (S:=Is (I (f6 e57 e62))) ee (bi.is _) J J J (fun w hw=>jU ((aU.mk f57_0 f57_1).ext hw) ((aU.mk f62_0 f62_1).ext hw) (by omega)) (bA ?_)
  rintro wg8 xg8 _ rfl _ rfl _ rfl _ rfl
  refine ao J J J (be (fun h=>by have:=gd.1 h;grind) bo) (aI (bU J (aA (aW (ah (ae (ab J J (ao (r:=I ((i+1:Nat):Int)) J J J (by have e:((i+1:Nat):Int)=(i:Int)+1:=(by omega);rw[e];exact aY) (aa J J (ar (dC (i+1) ⟨J,J,J,trivial⟩ ⟨(eL.trans xg8),by omega⟩ (by omega))))))))))))
 ·refine bJ (aV (aV (bP (ah (bc (aa J J (aI (aD (aF J J ?_)))))))))
  exact⟨_,J,(x2.trans eL),J⟩
theorem Dl {w:World} {r:CK} {n:Int} {v:Value} (hv:bQ GZ r v w) (hs:G0 r n):
 Calls Tryz.prog 153 #[v] w (cA fun r w'=>aH w w'∧Is (B true) r w'):=by
 obtain⟨_,rfl,ra⟩:=hv
 obtain⟨ga,gb,gc,rfl,ia,ib,ic⟩:=qR ra
 refine enter (vs:=[.agg #[ga,gb,gc]]) Tryz.func153 J J J (bc (cj J J fun g1 w1 l1 x1 k1=>(aa J J (dR (ak J J (k1.ld M1 J dM) (af J J (cO) (ak J J (ai MK J (k1.cell (i:=0) J)) (bn J J (bB MK (ia.ext x1)) (aq sV J J (sW (bQ.mk (pR (ia.ext x1) (ib.ext x1) (ic.ext x1))) (by rw[hs.ll];exact hs)) ?_)))))))))
 rintro v7 w7 ⟨x7,rfl⟩
 refine aa J J (aI (aD (aF J J ?_)))
 exact⟨_,J,(x1.trans x7),J⟩
theorem wK {w:World} {x:Rat} {v:Value} (hv:QV x v w) (h0:x=0):
 Calls Tryz.prog 290 #[v] w (cA fun r w'=>aH w w'∧Is (B true) r w'):=by
 obtain⟨ca,cb,rfl,la,lb'⟩:=hv
 rw[show x.sg=false by rw[h0];rfl]
 refine enter (vs:=[.agg #[B false,ca,cb]]) Tryz.func290 J J J (bc (cj J J fun g1 w1 l1 x1 k1=>(aa J J (dR (af J J (dj) (ak J J (ai MH J (k1.cell (i:=0) J)) (cC J J cn (ab J J (an J (af J J (ed) (an J (ak J J (ai MD J (k1.cell (i:=1) J)) (an J (bn J J (bR MD (la.ext x1)) (an J (ao J J J (bF (by rw[h0];rfl) aO) (aR J J J (ab J J (an J (af J J (gq) (an J (ak J J (ai MD J (k1.cell (i:=2) J)) (an J (bn J J (bR MD (lb'.ext x1)) (an J (ao J J J (bF (by rw[h0];rfl) aO) (aR J J J (aa J J (aI (aD (aF J J ?_)))))))))))))))))))))))))))))))
 exact⟨_,J,x1,J⟩
theorem wN {w:World} {q:ur} {d:nw} {v u:Value} (hv:bQ Ew q v w) (hu:bQ pQ d u w) (hd:i9 q d) (hs:n7 q):
 Calls Tryz.prog 213 #[v,u] w (cA fun r w'=>aH w w'∧Is (B true) r w'):=by
 obtain⟨_,rfl,ra⟩:=hv
 obtain⟨qu,qo,ql,qh,qr,qt,qm,qn,rfl,iu,io,il,ih,ir,it,im,jn⟩:=m3 ra
 obtain⟨_,rfl,rb⟩:=hu
 obtain⟨da,db,rfl,ja,jb⟩:=gn rb
 have h1:=hs.g.i1
 refine enter (vs:=[.agg #[I q.g.inp,qu,qo,ql,qh,qr,qt,B q.go.ct.sg,qm,qn],.agg #[I d.kd,I d.ix,B d.at_.sg,da,db]]) Tryz.func213 J J J (bc (cj J J fun g2 w2 l2 x2 k2=>cj J J fun g3 w3 l3 x3 k3=>(aa J J (aI (aj (bc (af J J (bW) (ak J J (ai ME J (k3.cell (i:=0) J)) (aI (aJ (aj (aj ?_))))))))))))
 rcases hd with⟨hA|hA,hB,hC,hD⟩|⟨hA|hA,hB,hC,hD⟩
 ·refine ae (ao J J J (bF hA aO) (aa J J (aI (cg J (aA (ah (cg J (bc (af J J (bd) ?_)))))))))
  refine ak J J (ai ME J (k3.cell (i:=1) J)) (ao J J J (bF (by omega) cz) (ab J J (an J (af J J (bd) (an J (ak J J (ai ME J (k3.cell (i:=1) J)) (an J (af J J (bG) (an J (af J J (bX) (an J (ak J J (ai MI J (x3.cell_some (k2.cell (i:=1) J))) ?_))))))))))))
  have e1:=x2.trans x3
  refine an J (bn J J (bB MI (iu.ext e1)) (an J (ao J J J (bF (by omega) aX) (aR J J J (ab J J (an J (af J J (cE) (an J (ak J J (k3.ldO (ms:=[B d.at_.sg,da,db]) (o:=2) (ef J) MC J ag) (an J (aq wG J J (wK (aU.mk (ja.ext e1) (jb.ext e1)) hD) ?_)))))))))))
  rintro v25 w25 ⟨x25,rfl⟩
  refine aR J J J (aa J J (aI (aD (bK (a0 (aF J J ?_))))))
  exact⟨_,J,(e1.trans x25),J⟩
 ·refine ae (ao J J J (be (by omega) aO) (aa J J (aI (bU J (ae (ao J J J (bF hA aO) (aa J J (ar ?_))))))))
  refine ah (cg J (bc (af J J (bd) (ak J J (ai ME J (k3.cell (i:=1) J)) (ao J J J (bF (by omega) cz) (ab J J (an J (af J J (bd) (an J (ak J J (ai ME J (k3.cell (i:=1) J)) (an J (af J J (bG) (an J (af J J (bX) (an J (ak J J (ai MI J (x3.cell_some (k2.cell (i:=1) J))) ?_))))))))))))))))
  have e2:=x2.trans x3
  refine an J (bn J J (bB MI (iu.ext e2)) (an J (ao J J J (bF (by omega) aX) (aR J J J (ab J J (an J (af J J (cE) (an J (ak J J (k3.ldO (ms:=[B d.at_.sg,da,db]) (o:=2) (ef J) MC J ag) (an J (aq wG J J (wK (aU.mk (ja.ext e2) (jb.ext e2)) hD) ?_)))))))))))
  rintro v25 w25 ⟨x25,rfl⟩
  refine aR J J J (aa J J (aI (aD (bK (a0 (aF J J ?_))))))
  exact⟨_,J,(e2.trans x25),J⟩
 ·refine ae (ao J J J (be (by omega) aO) (aa J J (aI (bU J (ae (ao J J J (be (by omega) aO) (aa J J ?_)))))))
  refine aI (bU J (aj (bc (ao J J J (bF hA aO) (aa J J (aI (cg J (aA (ah (cg J (bc (af J J (bd) (ak J J (ai ME J (k3.cell (i:=1) J)) (ao J J J (bF (by omega) cz) (ab J J (an J (af J J (bd) (an J (ak J J (ai ME J (k3.cell (i:=1) J)) (an J (af J J (bG) (an J (af J J (bS) (an J (ak J J (ai ME J (x3.cell_some (k2.cell (i:=0) J))) (an J (ao J J J (bF (by omega) aX) (aR J J J (ab J J (an J (af J J (cE) (an J (ak J J (k3.ldO (ms:=[B d.at_.sg,da,db]) (o:=2) (ef J) MC J ag) (an J (aq gm J J (lJ (aU.mk (ja.ext (x2.trans x3)) (jb.ext (x2.trans x3))) (by omega)) ?_)))))))))))))))))))))))))))))))))))
  rintro v44 w44 ⟨x44,rfl⟩
  refine aR J J J (aa J J (aI (aD (bK (a0 (aF J J ?_))))))
  exact⟨_,J,((x2.trans x3).trans x44),J⟩
 ·refine ae (ao J J J (be (by omega) aO) (aa J J (aI (bU J (ae (ao J J J (be (by omega) aO) (aa J J ?_)))))))
  refine aI (bU J (aj (bc (ao J J J (be (by omega) aO) (aa J J (aI (bU J (ae (ao J J J (bF hA aO) (aa J J (aI (cg J (bc (af J J (bd) (ak J J (ai ME J (k3.cell (i:=1) J)) (ao J J J (bF (by omega) cz) (ab J J (an J (af J J (bd) (an J (ak J J (ai ME J (k3.cell (i:=1) J)) (an J (af J J (bG) (an J (af J J (bS) (an J (ak J J (ai ME J (x3.cell_some (k2.cell (i:=0) J))) (an J (ao J J J (bF (by omega) aX) (aR J J J (ab J J (an J (af J J (cE) (an J (ak J J (k3.ldO (ms:=[B d.at_.sg,da,db]) (o:=2) (ef J) MC J ag) (an J (aq gm J J (lJ (aU.mk (ja.ext (x2.trans x3)) (jb.ext (x2.trans x3))) (by omega)) ?_)))))))))))))))))))))))))))))))))))))
  rintro v44 w44 ⟨x44,rfl⟩
  refine aR J J J (aa J J (aI (aD (bK (a0 (aF J J ?_))))))
  exact⟨_,J,((x2.trans x3).trans x44),J⟩
theorem gL {w:World} {q:ur} {v:Value} (hv:bQ Ew q v w) (hs:n7 q):
 Calls Tryz.prog 78 #[v] w (cA fun r w'=>aH w w'∧Is (B true) r w'):=by
 obtain⟨_,rfl,ra⟩:=hv
 obtain⟨qu,qo,ql,qh,qr,qt,qm,qn,rfl,iu,io,il,ih,ir,it,im,jn⟩:=m3 ra
 have h1:=hs.g.i1
 have h2:=hs.g.i0
 have h3:=hs.g.ul
 have h4:=hs.gb
 refine enter (vs:=[.agg #[I q.g.inp,qu,qo,ql,qh,qr,qt,B q.go.ct.sg,qm,qn]]) Tryz.func78 J J J (bc (cj J J fun g1 w1 l1 x1 k1=>(aa J J (dR (af J J (bG) (ak J J (k1.ldO (ms:=[I q.g.inp,qu,qo]) (o:=0) (ef J) MX J dg) (aq uF J J (uG (bQ.mk (jP (iu.ext x1) (io.ext x1))) hs.g) ?_)))))))
 rintro v5 w5 ⟨x5,rfl⟩
 refine ab J J (an J (af J J (f8) (an J (ak J J ((k1.ext x5).ldO (ms:=[ql,qh,qr]) (o:=3) (ef J) M1 J dM) (an J (af J J (bG) (an J (af J J (bS) ?_))))))))
 have e2:=x1.trans x5
 refine an J (ak J J (ai ME J (x5.cell_some (k1.cell (i:=0) J))) (an J (aq zW J J (zY (bQ.mk (pR (il.ext e2) (ih.ext e2) (ir.ext e2))) hs.r) ?_)))
 rintro v12 w12 ⟨x12,rfl⟩
 refine aR J J J (ab J J (an J (af J J (pY) (an J (ak J J ((k1.ext (x5.trans x12)).ldO (ms:=[qt,B q.go.ct.sg,qm,qn]) (o:=6) (ef J) MG J ay) (an J (af J J (bG) (an J (af J J (bS) (an J (ak J J (ai ME J ((x5.trans x12).cell_some (k1.cell (i:=0) J))) (an J (af J J (bG) (an J (af J J (bX) (an J (ak J J (ai MI J ((x5.trans x12).cell_some (k1.cell (i:=1) J))) ?_)))))))))))))))))
 have e1:=e2.trans x12
 refine an J (bn J J (bB MI (iu.ext e1)) (an J (ao (r:=I (q.g.inp+(q.g.us.length:Int))) J J J (by have e:(q.g.inp+(q.g.us.length:Int):Int)=q.g.inp+(q.g.us.length:Int):=(by omega);rw[e];exact aY) (an J (aq iP J J ((by have h:=iQ (n:=q.g.inp+(q.g.us.length:Int)) (bQ.mk (cv (it.ext e1) (im.ext e1) (jn.ext e1))) (by omega);rw[hs.go] at h;exact h)) ?_)))))
 rintro v25 w25 ⟨x25,rfl⟩
 refine aR J J J (aa J J (aI (aD (aF J J ?_))))
 exact⟨_,J,(e1.trans x25),J⟩
theorem uI {w:World} {q:ur} {d:nw} {v u:Value} (hv:bQ Ew q v w) (hu:bQ pQ d u w) (hd:i9 q d) (hs:n7 q):
 Calls Tryz.prog 129 #[v,u] w (cA fun r w'=>aH w w'∧Is (B true) r w'):=by
 obtain⟨_,rfl,ra⟩:=hv
 obtain⟨qu,qo,ql,qh,qr,qt,qm,qn,rfl,iu,io,il,ih,ir,it,im,jn⟩:=m3 ra
 obtain⟨_,rfl,rb⟩:=hu
 obtain⟨da,db,rfl,ja,jb⟩:=gn rb
 refine enter (vs:=[.agg #[I q.g.inp,qu,qo,ql,qh,qr,qt,B q.go.ct.sg,qm,qn],.agg #[I d.kd,I d.ix,B d.at_.sg,da,db]]) Tryz.func129 J J J (bc (cj J J fun g2 w2 l2 x2 k2=>cj J J fun g3 w3 l3 x3 k3=>(aa J J (dR (ak J J ((k2.ext x3).ld MU J cV) (aq gK J J (gL (bQ.mk (gr (iu.ext (x2.trans x3)) (io.ext (x2.trans x3)) (il.ext (x2.trans x3)) (ih.ext (x2.trans x3)) (ir.ext (x2.trans x3)) (it.ext (x2.trans x3)) (im.ext (x2.trans x3)) (jn.ext (x2.trans x3)))) hs) ?_))))))
 rintro v6 w6 ⟨x6,rfl⟩
 refine ab J J (an J (ak J J ((k2.ext (x3.trans x6)).ld MU J cV) (an J (ak J J ((k3.ext x6).ld MW J cH) ?_))))
 have e1:=(x2.trans x3).trans x6
 refine an J (aq wH J J (wN (bQ.mk (gr (iu.ext e1) (io.ext e1) (il.ext e1) (ih.ext e1) (ir.ext e1) (it.ext e1) (im.ext e1) (jn.ext e1))) (bQ.mk (lf (ja.ext e1) (jb.ext e1))) hd hs) ?_)
 rintro v10 w10 ⟨x10,rfl⟩
 refine aR J J J (aa J J (aI (aD (aF J J ?_))))
 exact⟨_,J,(e1.trans x10),J⟩
theorem wO {w:World} {q:ur} {d:nw} {v u:Value} (hv:bQ Ew q v w) (hu:bQ pQ d u w) (hd:i9 q d) (hs:n7 q):
 Calls Tryz.prog 134 #[v,u] w (cA fun r w'=>aH w w'∧Is (B true) r w'):=by
 obtain⟨_,rfl,ra⟩:=hv
 obtain⟨qu,qo,ql,qh,qr,qt,qm,qn,rfl,iu,io,il,ih,ir,it,im,jn⟩:=m3 ra
 obtain⟨_,rfl,rb⟩:=hu
 obtain⟨da,db,rfl,ja,jb⟩:=gn rb
 have h1:=hs.g.i1
 refine enter (vs:=[.agg #[I q.g.inp,qu,qo,ql,qh,qr,qt,B q.go.ct.sg,qm,qn],.agg #[I d.kd,I d.ix,B d.at_.sg,da,db]]) Tryz.func134 J J J (bc (cj J J fun g2 w2 l2 x2 k2=>cj J J fun g3 w3 l3 x3 k3=>(aa J J (aI (aj (bc (af J J (bW) (ak J J (ai ME J (k3.cell (i:=0) J)) (aI (aJ (aj (aj ?_))))))))))))
 rcases hd with⟨hA|hA,hB,hC,hD⟩|⟨hA|hA,hB,hC,hD⟩
 ·refine ae (ao J J J (bF hA aO) (aa J J (aI (cg J (aA (ah (cg J (bc (af J J (bd) ?_)))))))))
  refine ak J J (ai ME J (k3.cell (i:=1) J)) (ao J J J (bF (by omega) cz) (ab J J (an J (af J J (bd) (an J (ak J J (ai ME J (k3.cell (i:=1) J)) (an J (af J J (bG) (an J (af J J (bX) (an J (ak J J (ai MI J (x3.cell_some (k2.cell (i:=1) J))) ?_))))))))))))
  have e1:=x2.trans x3
  refine an J (bn J J (bB MI (iu.ext e1)) (an J (ao J J J (bF (by omega) aX) (aR J J J (ab J J (an J (af J J (cE) (an J (ak J J (k3.ldO (ms:=[B d.at_.sg,da,db]) (o:=2) (ef J) MC J ag) (an J (bV (r:=.agg #[B false,.slice none 0 0,.slice none 0 0]) J J (by exact run_build _ _ _ _ (by kernel_rfl)) (an J (aq mz J J ((by have h:=zX (y:=0) (aU.mk (ja.ext e1) (jb.ext e1)) (aU.mk (bH.nil _) (bH.nil _));rw[decide_eq_true hD] at h;exact h)) ?_)))))))))))))
  rintro v26 w26 ⟨x26,rfl⟩
  refine aR J J J (aa J J (aI (aD (bK (a0 (aF J J ?_))))))
  exact⟨_,J,(e1.trans x26),J⟩
 ·refine ae (ao J J J (be (by omega) aO) (aa J J (aI (bU J (ae (ao J J J (bF hA aO) (aa J J (ar ?_))))))))
  refine ah (cg J (bc (af J J (bd) (ak J J (ai ME J (k3.cell (i:=1) J)) (ao J J J (bF (by omega) cz) (ab J J (an J (af J J (bd) (an J (ak J J (ai ME J (k3.cell (i:=1) J)) (an J (af J J (bG) (an J (af J J (bX) (an J (ak J J (ai MI J (x3.cell_some (k2.cell (i:=1) J))) ?_))))))))))))))))
  have e2:=x2.trans x3
  refine an J (bn J J (bB MI (iu.ext e2)) (an J (ao J J J (bF (by omega) aX) (aR J J J (ab J J (an J (af J J (cE) (an J (ak J J (k3.ldO (ms:=[B d.at_.sg,da,db]) (o:=2) (ef J) MC J ag) (an J (bV (r:=.agg #[B false,.slice none 0 0,.slice none 0 0]) J J (by exact run_build _ _ _ _ (by kernel_rfl)) (an J (aq mz J J ((by have h:=zX (y:=0) (aU.mk (ja.ext e2) (jb.ext e2)) (aU.mk (bH.nil _) (bH.nil _));rw[decide_eq_true hD] at h;exact h)) ?_)))))))))))))
  rintro v26 w26 ⟨x26,rfl⟩
  refine aR J J J (aa J J (aI (aD (bK (a0 (aF J J ?_))))))
  exact⟨_,J,(e2.trans x26),J⟩
 ·refine ae (ao J J J (be (by omega) aO) (aa J J (aI (bU J (ae (ao J J J (be (by omega) aO) (aa J J ?_)))))))
  refine aI (bU J (aj (bc (ao J J J (bF hA aO) (aa J J (aI (cg J (aA (ah (cg J (bc (af J J (bd) (ak J J (ai ME J (k3.cell (i:=1) J)) (ao J J J (bF (by omega) cz) (ab J J (an J (af J J (bd) (an J (ak J J (ai ME J (k3.cell (i:=1) J)) (an J (af J J (bG) (an J (af J J (bS) (an J (ak J J (ai ME J (x3.cell_some (k2.cell (i:=0) J))) (an J (ao J J J (bF (by omega) aX) (aR J J J (ab J J (an J (af J J (cE) (an J (ak J J (k3.ldO (ms:=[B d.at_.sg,da,db]) (o:=2) (ef J) MC J ag) (an J (aq jt J J ((qW (aU.mk (ja.ext (x2.trans x3)) (jb.ext (x2.trans x3))) (by omega))) ?_)))))))))))))))))))))))))))))))))))
  rintro v45 w45 ⟨x45,rfl⟩
  refine aR J J J (aa J J (aI (aD (bK (a0 (aF J J ?_))))))
  exact⟨_,J,((x2.trans x3).trans x45),J⟩
 ·refine ae (ao J J J (be (by omega) aO) (aa J J (aI (bU J (ae (ao J J J (be (by omega) aO) (aa J J ?_)))))))
  refine aI (bU J (aj (bc (ao J J J (be (by omega) aO) (aa J J (aI (bU J (ae (ao J J J (bF hA aO) (aa J J (aI (cg J (bc (af J J (bd) (ak J J (ai ME J (k3.cell (i:=1) J)) (ao J J J (bF (by omega) cz) (ab J J (an J (af J J (bd) (an J (ak J J (ai ME J (k3.cell (i:=1) J)) (an J (af J J (bG) (an J (af J J (bS) (an J (ak J J (ai ME J (x3.cell_some (k2.cell (i:=0) J))) (an J (ao J J J (bF (by omega) aX) (aR J J J (ab J J (an J (af J J (cE) (an J (ak J J (k3.ldO (ms:=[B d.at_.sg,da,db]) (o:=2) (ef J) MC J ag) (an J (aq jt J J ((qW (aU.mk (ja.ext (x2.trans x3)) (jb.ext (x2.trans x3))) (by omega))) ?_)))))))))))))))))))))))))))))))))))))
  rintro v45 w45 ⟨x45,rfl⟩
  refine aR J J J (aa J J (aI (aD (bK (a0 (aF J J ?_))))))
  exact⟨_,J,((x2.trans x3).trans x45),J⟩
theorem oY {w:World} {q:ur} {v:Value} (hv:bQ Ew q v w) (hs:n7 q):
 Calls Tryz.prog 73 #[v] w (cA fun r w'=>aH w w'∧Is (B true) r w'):=by
 obtain⟨_,rfl,ra⟩:=hv
 obtain⟨qu,qo,ql,qh,qr,qt,qm,qn,rfl,iu,io,il,ih,ir,it,im,jn⟩:=m3 ra
 have h1:=hs.g.i1
 have h2:=hs.g.i0
 have h3:=hs.g.ul
 have h4:=hs.gb
 refine enter (vs:=[.agg #[I q.g.inp,qu,qo,ql,qh,qr,qt,B q.go.ct.sg,qm,qn]]) Tryz.func73 J J J (bc (cj J J fun g1 w1 l1 x1 k1=>(aa J J (aI (aj (bj 19 [21] (by kernel_rfl) (by kernel_rfl) (al J J (fun w hw=>bG) (ap J J (fun w hw=>(k1.ext hw).ldO (ms:=[I q.g.inp,qu,qo]) (o:=0) (ef J) MX J dg) (es (S:=Is (B true)) oT (bi.is _) J J (fun w hw=>oW ((bQ.mk (jP (iu.ext x1) (io.ext x1))).ext hw) hs.g) (ax J J (au J J (al J J (fun w hw=>f8) (au J J (ap J J (fun w hw=>(k1.ext hw).ldO (ms:=[ql,qh,qr]) (o:=3) (ef J) M1 J dM) (au J J (al J J (fun w hw=>bG) (au J J (al J J (fun w hw=>bS) (au J J (ap J J (fun w hw=>ai ME J (hw.cell_some (k1.cell (i:=0) J))) (au J J (ec (S:=Is (B true)) sV (bi.is _) J J J (fun w hw=>sW ((bQ.mk (pR (il.ext x1) (ih.ext x1) (ir.ext x1))).ext hw) hs.r) ?_))))))))))))))))))))))
 refine dT J J J (ax J J (au J J (al J J (fun w hw=>pY) (au J J (ap J J (fun w hw=>(k1.ext hw).ldO (ms:=[qt,B q.go.ct.sg,qm,qn]) (o:=6) (ef J) MG J ay) (au J J (al J J (fun w hw=>bG) (au J J (ap J J (fun w hw=>(k1.ext hw).ldO (ms:=[I q.g.inp,qu,qo]) (o:=0) (ef J) MX J dg) (au J J (es (S:=Is (I (q.g.inp+(q.g.us.length:Int)))) By (bi.is _) J J (fun w hw=>BA ((bQ.mk (jP (iu.ext x1) (io.ext x1))).ext hw) hs.g) (au J J (ec (S:=Is (B true)) qg (bi.is _) J J J (fun w hw=>qk ((bQ.mk (cv (it.ext x1) (im.ext x1) (jn.ext x1))).ext hw) hs.go (by omega)) (dT J J J (bA ?_)))))))))))))))
 rintro wg1 xg1 _ rfl
 refine aa J J (aI (aD (aF J J ?_)))
 exact⟨_,J,(x1.trans xg1),J⟩
theorem BE {w:World} {q:ur} {d:nw} {v u:Value} (hv:bQ Ew q v w) (hu:bQ pQ d u w) (hd:i9 q d) (hs:n7 q):
 Calls Tryz.prog 155 #[v,u] w (cA fun r w'=>aH w w'∧Is (B true) r w'):=by
 obtain⟨_,rfl,ra⟩:=hv
 obtain⟨qu,qo,ql,qh,qr,qt,qm,qn,rfl,iu,io,il,ih,ir,it,im,jn⟩:=m3 ra
 obtain⟨_,rfl,rb⟩:=hu
 obtain⟨da,db,rfl,ja,jb⟩:=gn rb
 refine enter (vs:=[.agg #[I q.g.inp,qu,qo,ql,qh,qr,qt,B q.go.ct.sg,qm,qn],.agg #[I d.kd,I d.ix,B d.at_.sg,da,db]]) Tryz.func155 J J J (bc (cj J J fun g2 w2 l2 x2 k2=>cj J J fun g3 w3 l3 x3 k3=>(aa J J (dR (ak J J ((k2.ext x3).ld MU J cV) (aq oX J J (oY (bQ.mk (gr (iu.ext (x2.trans x3)) (io.ext (x2.trans x3)) (il.ext (x2.trans x3)) (ih.ext (x2.trans x3)) (ir.ext (x2.trans x3)) (it.ext (x2.trans x3)) (im.ext (x2.trans x3)) (jn.ext (x2.trans x3)))) hs) ?_))))))
 rintro v6 w6 ⟨x6,rfl⟩
 refine ab J J (an J (ak J J ((k2.ext (x3.trans x6)).ld MU J cV) (an J (ak J J ((k3.ext x6).ld MW J cH) ?_))))
 have e1:=(x2.trans x3).trans x6
 refine an J (aq wJ J J (wO (bQ.mk (gr (iu.ext e1) (io.ext e1) (il.ext e1) (ih.ext e1) (ir.ext e1) (it.ext e1) (im.ext e1) (jn.ext e1))) (bQ.mk (lf (ja.ext e1) (jb.ext e1))) hd hs) ?_)
 rintro v10 w10 ⟨x10,rfl⟩
 refine aR J J J (aa J J (aI (aD (aF J J ?_))))
 exact⟨_,J,(e1.trans x10),J⟩
theorem Dm {w:World} {s:eX} {d:nw} {k j:Int} {ga gb gc:Nat} {v su so sl sh sr st sm sn sp sq:Value} (hv:bQ pQ d v w) (k1:dE ga 3 [I k] w) (k2:dE gb 3 [I j] w)
 (k3:dE gc 57 [I s.q.g.inp,su,so,sl,sh,sr,st,B s.q.go.ct.sg,sm,sn,sp,sq] w) (iu:cF dZ s.q.g.us su w) (io:cF dZ s.q.g.os so w) (il:cF dQ s.q.r.lo sl w) (ih:cF dQ s.q.r.hi sh w) (ir:cF dZ s.q.r.rs sr w) (it:cF kW s.q.go.ts st w) (im:bH s.q.go.ct.nl sm w) (jn:bH s.q.go.ct.dl sn w)
 (hd:i9 s.q d) (hs:n7 s.q):
 Calls Tryz.prog 232 #[v,.pointer (some ⟨ga,0,none⟩),.pointer (some ⟨gb,0,none⟩),.pointer (some ⟨gc,0,none⟩)] w (cA fun r w'=>aH w w'∧Is (B (decide (d.kd=k)&&decide (d.ix=j))) r w'):=by
 obtain⟨_,rfl,rb⟩:=hv
 obtain⟨da,db,rfl,ja,jb⟩:=gn rb
 refine enter (vs:=[.agg #[I d.kd,I d.ix,B d.at_.sg,da,db],.pointer (some ⟨ga,0,none⟩),.pointer (some ⟨gb,0,none⟩),.pointer (some ⟨gc,0,none⟩)]) Tryz.func232 J J J ?_
 have c1:=k1.cell (i:=0) rfl
 have c2:=k2.cell (i:=0) rfl
 refine bc (cj J J fun g4 w4 l4 x4 k4=>(aa J J (aI (aj ?_))))
 rcases(show d.kd≠k∨(d.kd=k∧d.ix≠j)∨(d.kd=k∧d.ix=j) by omega) with hA|⟨hA,hB⟩|⟨hA,hB⟩
 ·refine ae (af J J (bW) (ak J J (ai ME J (k4.cell (i:=0) J)) ?_))
  refine ak J J (ai ME J (x4.cell_some c1)) (ao J J J (be hA aO) (ab J J (bf J J J (bf J J J (bf J J J (bf J J J (aG J J J (ab J J (bf J J J (bf J J J (bf J J J (bf J J J (aG J J J (aa J J (aI (aD (aF J J ?_)))))))))))))))))
  exact⟨_,J,x4,by show B _=B _;rw[decide_eq_false hA];rfl⟩
 ·refine ae (af J J (bW) (ak J J (ai ME J (k4.cell (i:=0) J)) ?_))
  refine ak J J (ai ME J (x4.cell_some c1)) (ao J J J (bF hA aO) (ab J J (an J (af J J (bd) (an J (ak J J (ai ME J (k4.cell (i:=1) J)) (an J (ak J J (ai ME J (x4.cell_some c2)) (an J (ao J J J (be hB aO) (aR J J J (ab J J (bf J J J (bf J J J (bf J J J (bf J J J (aG J J J (aa J J (aI (aD (aF J J ?_)))))))))))))))))))))
  exact⟨_,J,x4,by show B _=B _;rw[decide_eq_false hB,Bool.and_false]⟩
 ·refine ae (af J J (bW) (ak J J (ai ME J (k4.cell (i:=0) J)) ?_))
  refine ak J J (ai ME J (x4.cell_some c1)) (ao J J J (bF hA aO) (ab J J (an J (af J J (bd) (an J (ak J J (ai ME J (k4.cell (i:=1) J)) (an J (ak J J (ai ME J (x4.cell_some c2)) (an J (ao J J J (bF hB aO) (aR J J J (ab J J (an J (af J J (bz) (an J (ak J J ((k3.ext x4).ldO (ms:=[I s.q.g.inp,su,so,sl,sh,sr,st,B s.q.go.ct.sg,sm,sn]) (o:=0) (ef J) MU J cV) (an J (ak J J (k4.ld MW J cH) (an J (aq wH J J (wN (bQ.mk (gr (iu.ext x4) (io.ext x4) (il.ext x4) (ih.ext x4) (ir.ext x4) (it.ext x4) (im.ext x4) (jn.ext x4))) (bQ.mk (lf (ja.ext x4) (jb.ext x4))) hd hs) ?_))))))))))))))))))))
  rintro v20 w20 ⟨x20,rfl⟩
  refine aR J J J (aa J J (aI (aD (aF J J ?_))))
  exact⟨_,J,(x4.trans x20),by show B _=B _;rw[decide_eq_true hA,decide_eq_true hB];rfl⟩
theorem fU {w:World} {s:eX} {k j:Int} {v:Value} (hv:bQ ro s v w) (hs:SmS s):
 Calls Tryz.prog 158 #[v,I k,I j] w (cA fun r w'=>aH w w'∧Is (B (gh s k j)) r w'):=by
 obtain⟨_,rfl,ra⟩:=hv
 obtain⟨su,so,sl,sh,sr,st,sm,sn,sp,sq,rfl,iu,io,il,ih,ir,it,im,jn,ip,iq⟩:=d7 ra
 refine enter (vs:=[.agg #[I s.q.g.inp,su,so,sl,sh,sr,st,B s.q.go.ct.sg,sm,sn,sp,sq],I k,I j]) Tryz.func158 J J J (bc (cj J J fun g3 w3 l3 x3 k3=>?_))
 obtain⟨g4,w4,hr4,l4,x4,k4⟩:=t4 (P:=Tryz.prog) (w:=w3) (t:=3) (v:=I k) rfl
 refine mT J J hr4 ?_
 obtain⟨g5,w5,hr5,l5,x5,k5⟩:=t4 (P:=Tryz.prog) (w:=w4) (t:=3) (v:=I j) rfl
 refine mT J J hr5 (aa J J (dR (af J J (cx) (ak J J (ai MO J ((x4.trans x5).cell_some (k3.cell (i:=10) J))) (mm (us:=[]) (vs:=[.pointer (some ⟨g4,0,none⟩),.pointer (some ⟨g5,0,none⟩),.pointer (some ⟨g3,0,none⟩)]) J J J ?_)))))
 have e1:=(x3.trans x4).trans x5
 refine aq wz J J ((wA (g:=fun d=>decide (d.kd=k)&&decide (d.ix=j)) (ip.ext e1) Dk (cs:=[.pointer (some ⟨g4,0,none⟩),.pointer (some ⟨g5,0,none⟩),.pointer (some ⟨g3,0,none⟩)]) (fun d hd W v hx hv=>Dm hv ((k4.ext (x5)).ext hx) ((k5.ext (aH.refl _)).ext hx) (((k3.ext (x4.trans x5))).ext hx) (((iu.ext e1)).ext hx) (((io.ext e1)).ext hx) (((il.ext e1)).ext hx) (((ih.ext e1)).ext hx) (((ir.ext e1)).ext hx) (((it.ext e1)).ext hx) (((im.ext e1)).ext hx) (((jn.ext e1)).ext hx) (hs.pa d hd) hs.q))) ?_
 rintro v10 w10 ⟨x10,rfl⟩
 refine aa J J (aI (aD (aF J J ?_)))
 exact⟨_,J,(e1.trans x10),J⟩
theorem je {w:World} {s:eX} {k j:Int} {v:Value} (hv:bQ ro s v w) (hq:n7 s.q) (hp:∀d∈s.pa,i9 s.q d):
 Calls Tryz.prog 66 #[v,I k,I j] w (cA fun r w'=>aH w w'∧Is (B (gh s k j)) r w'):=by
 obtain⟨_,rfl,ra⟩:=hv
 obtain⟨su,so,sl,sh,sr,st,sm,sn,sp,sq,rfl,iu,io,il,ih,ir,it,im,jn,ip,iq⟩:=d7 ra
 have hlen:=ip.len
 refine enter (vs:=[.agg #[I s.q.g.inp,su,so,sl,sh,sr,st,B s.q.go.ct.sg,sm,sn,sp,sq],I k,I j]) Tryz.func66 J J J (bc (cj J J fun g3 w3 l3 x3 k3=>(aa J J (aI (aj (bc (aa J J (aI (aJ (dS (α:=Nat) (fun i=>[(1,I k),(2,I j),(3,.pointer (some ⟨g3,0,none⟩)),(7,I (i:Int))]) (fun i w'=>aH w3 w'∧i≤s.pa.length∧s.pa.any (fun d=>decide (d.kd=k)&&decide (d.ix=j))=(s.pa.drop i).any (fun d=>decide (d.kd=k)&&decide (d.ix=j))) (fun i=>s.pa.length-i) (0) ⟨J,J,J,J,trivial⟩ ⟨aH.refl _,by omega,J⟩ ?_))))))))))
 rintro i wL ⟨eL,hi,hall⟩
 refine aj (bc (ab J J (af J J (cx) (ak J J (ai MO J (eL.cell_some (k3.cell (i:=10) J))) (bn J J (bB MO (ip.ext (x3.trans eL))) (ao J J J (aX) (aI (ci J (fun h12=>?_) (fun h12=>?_)))))))))
 ·refine aA (ah (aj (aJ (aj ?_))))
  obtain⟨em,hem⟩:∃em,em=s.pa[i]'(by omega):=⟨_,rfl⟩
  have hfm:=hp em (by rw[hem];exact Nh _)
  rcases(show em.kd≠k∨(em.kd=k∧em.ix≠j)∨(em.kd=k∧em.ix=j) by omega) with hA|⟨hA,hB⟩|⟨hA,hB⟩
  ·refine bj 27 [1,2,3,7,33,41] (by kernel_rfl) (by kernel_rfl) ?_
   refine al J J (fun w hw=>cx) (ap J J (fun w hw=>ai MO J (hw.cell_some (eL.cell_some (k3.cell (i:=10) J)))) (ax (S:=Is (I (i:Int))) J J ?_))
   obtain⟨a18,c18,p18,q18,h18⟩:=cP (P:=Tryz.prog) (sz:=5) MO (by kernel_rfl) kI (by omega) (ip.ext (x3.trans eL)) (i:=i) (by omega) .i64
   rw[←hem] at h18
   obtain⟨x18_0,x18_1,rfl,f18_0,f18_1⟩:=gn h18
   refine aK J J J (fun w _=>p18 w) (al J J (fun w hw=>jR) (ap J J (fun w hw=>ai ME J (hw.cell_some (q18.at (j:=0) J))) (ax (S:=Is (I k)) J J (bC J J J (fun w _=>be hA aO) (ax (S:=Is (B false)) J J (bu J J J (bu J J J (bu J J J (bu J J J (bu J J J (bu J J J (bu J J J (bu J J J (cQ (S:=Is (B false)) J J J (ax (S:=Is (B false)) J J (bu J J J (bu J J J (bu J J J (bu J J J (bu J J J (bu J J J (bu J J J (bu J J J (bA ?_))))))))))))))))))))))))
   rintro wg4 xg4 _ rfl _ rfl _ rfl _ rfl _ rfl _ rfl
   refine aG J J J (aI (bU J (aA (aW (ah (ae (ab J J (ao (r:=I ((i+1:Nat):Int)) J J J (by have e:((i+1:Nat):Int)=(i:Int)+1:=(by omega);rw[e];exact aY) (aa J J (ar (dC (i+1) ⟨J,J,J,J,trivial⟩ ⟨(eL.trans xg4),by omega,oS (by omega) hall (by rw[←hem,decide_eq_false hA];rfl)⟩ (by omega))))))))))))
  ·refine bj 27 [1,2,3,7,33,41] (by kernel_rfl) (by kernel_rfl) ?_
   refine al J J (fun w hw=>cx) (ap J J (fun w hw=>ai MO J (hw.cell_some (eL.cell_some (k3.cell (i:=10) J)))) (ax (S:=Is (I (i:Int))) J J ?_))
   obtain⟨a18,c18,p18,q18,h18⟩:=cP (P:=Tryz.prog) (sz:=5) MO (by kernel_rfl) kI (by omega) (ip.ext (x3.trans eL)) (i:=i) (by omega) .i64
   rw[←hem] at h18
   obtain⟨x18_0,x18_1,rfl,f18_0,f18_1⟩:=gn h18
   refine aK J J J (fun w _=>p18 w) (al J J (fun w hw=>jR) (ap J J (fun w hw=>ai ME J (hw.cell_some (q18.at (j:=0) J))) (ax (S:=Is (I k)) J J (bC J J J (fun w _=>bF hA aO) (ax (S:=Is (B true)) J J (au J J (al J J (fun w hw=>cx) (au J J (ap J J (fun w hw=>ai MO J (hw.cell_some (eL.cell_some (k3.cell (i:=10) J)))) (au J J (ax (S:=Is (I (i:Int))) J J (au J J (aK J J J (fun w _=>p18 w) (au J J (al J J (fun w hw=>m4) (au J J (ap J J (fun w hw=>ai ME J (hw.cell_some (q18.at (j:=1) J))) (au J J (ax (S:=Is (I j)) J J (au J J (bC J J J (fun w _=>be hB aO) (dT (S:=Is (B false)) J J J (ax (S:=Is (B false)) J J (bu J J J (bu J J J (bu J J J (bu J J J (bu J J J (bu J J J (bu J J J (bu J J J (bA ?_))))))))))))))))))))))))))))))))
   rintro wg4 xg4 _ rfl _ rfl _ rfl _ rfl _ rfl _ rfl
   refine aG J J J (aI (bU J (aA (aW (ah (ae (ab J J (ao (r:=I ((i+1:Nat):Int)) J J J (by have e:((i+1:Nat):Int)=(i:Int)+1:=(by omega);rw[e];exact aY) (aa J J (ar (dC (i+1) ⟨J,J,J,J,trivial⟩ ⟨(eL.trans xg4),by omega,oS (by omega) hall (by rw[←hem,decide_eq_false hB,Bool.and_false])⟩ (by omega))))))))))))
  ·refine bj 27 [1,2,3,7,33,41] (by kernel_rfl) (by kernel_rfl) ?_
   refine al J J (fun w hw=>cx) (ap J J (fun w hw=>ai MO J (hw.cell_some (eL.cell_some (k3.cell (i:=10) J)))) (ax (S:=Is (I (i:Int))) J J ?_))
   obtain⟨a18,c18,p18,q18,h18⟩:=cP (P:=Tryz.prog) (sz:=5) MO (by kernel_rfl) kI (by omega) (ip.ext (x3.trans eL)) (i:=i) (by omega) .i64
   rw[←hem] at h18
   obtain⟨x18_0,x18_1,rfl,f18_0,f18_1⟩:=gn h18
   refine aK J J J (fun w _=>p18 w) (al J J (fun w hw=>jR) (ap J J (fun w hw=>ai ME J (hw.cell_some (q18.at (j:=0) J))) (ax (S:=Is (I k)) J J (bC J J J (fun w _=>bF hA aO) (ax (S:=Is (B true)) J J (au J J (al J J (fun w hw=>cx) (au J J (ap J J (fun w hw=>ai MO J (hw.cell_some (eL.cell_some (k3.cell (i:=10) J)))) (au J J (ax (S:=Is (I (i:Int))) J J (au J J (aK J J J (fun w _=>p18 w) (au J J (al J J (fun w hw=>m4) (au J J (ap J J (fun w hw=>ai ME J (hw.cell_some (q18.at (j:=1) J))) (au J J (ax (S:=Is (I j)) J J (au J J (bC J J J (fun w _=>bF hB aO) (dT (S:=Is (B true)) J J J (ax (S:=Is (B true)) J J (au J J (al J J (fun w hw=>bz) (au J J (ap J J (fun w hw=>((k3.ext eL).ext hw).ldO (ms:=[I s.q.g.inp,su,so,sl,sh,sr,st,B s.q.go.ct.sg,sm,sn]) (o:=0) (ef J) MU J cV) ?_)))))))))))))))))))))))))))
   refine au J J (al J J (fun w hw=>cx) (au J J (ap J J (fun w hw=>ai MO J (hw.cell_some (eL.cell_some (k3.cell (i:=10) J)))) (au J J (ax (S:=Is (I (i:Int))) J J (au J J (aK J J J (fun w _=>p18 w) (au J J (ap J J (fun w hw=>(q18.ext hw).ld MW J cH) (au J J (ec (S:=Is (B true)) wJ (bi.is _) J J J (fun w hw=>wO ((bQ.mk (gr (iu.ext (x3.trans eL)) (io.ext (x3.trans eL)) (il.ext (x3.trans eL)) (ih.ext (x3.trans eL)) (ir.ext (x3.trans eL)) (it.ext (x3.trans eL)) (im.ext (x3.trans eL)) (jn.ext (x3.trans eL)))).ext hw) ((bQ.mk (lf f18_0 f18_1)).ext hw) hfm hq) (bA ?_))))))))))))
   rintro wg4 xg4 _ rfl _ rfl _ rfl _ rfl _ rfl _ rfl
   refine aR J J J (aI (cg J (bc (aa J J (aI (aD (bK (a0 (a0 (bK (a0 (aF J J ?_))))))))))))
   exact⟨_,J,((x3.trans eL).trans xg4),by show B _=B _;unfold gh;rw[tZ (i:=i) (by omega) hall (by rw[←hem,decide_eq_true hA,decide_eq_true hB];rfl)]⟩
 ·refine bJ (aV (aV (bP (ah (bc (aa J J (aI (aD (aF J J ?_)))))))))
  exact⟨_,J,(x3.trans eL),by show B _=B _;unfold gh;rw[rg (i:=i) (by omega) hall]⟩
end Go.Rl
namespace Go.Rl
open Go.RowKit Go.Proofs
theorem mK:az Tryz.prog 79:=⟨_,Tryz.func79,by kernel_rfl,rfl⟩
theorem Dn:az Tryz.prog 77:=⟨_,Tryz.func77,by kernel_rfl,rfl⟩
theorem zZ:az Tryz.prog 80:=⟨_,Tryz.func80,by kernel_rfl,rfl⟩
theorem uJ:az Tryz.prog 22:=⟨_,Tryz.func22,by kernel_rfl,rfl⟩
theorem si:az Tryz.prog 20:=⟨_,Tryz.func20,by kernel_rfl,rfl⟩
theorem KH {l:List ig} {u:Int} {s:Nat×Nat} {i:Nat} {m:ig} (h:m.un≠u):nT l u s i m=s:=if_pos h
theorem EQ {l:List ig} {u:Int} {p q i:Nat} {m:ig} (h:¬m.un≠u) (hu:m.up=true) (hc:q=0∨m.va<dA l q):nT l u (p,q) i m=(p,i+1):=by
 unfold nT;rw[if_neg h,if_pos hu,if_pos hc]
theorem Ij {l:List ig} {u:Int} {p q i:Nat} {m:ig} (h:¬m.un≠u) (hu:m.up=true) (h0:q≠0) (hc:¬m.va<dA l q):nT l u (p,q) i m=(p,q):=by
 unfold nT;rw[if_neg h,if_pos hu,if_neg (fun k=>k.elim h0 hc)]
theorem ER {l:List ig} {u:Int} {p q i:Nat} {m:ig} (h:¬m.un≠u) (hu:m.up=false) (hc:p=0∨dA l p<m.va):nT l u (p,q) i m=(i+1,q):=by
 unfold nT;rw[if_neg h,if_neg (by rw[hu];decide),if_pos hc]
theorem Ik {l:List ig} {u:Int} {p q i:Nat} {m:ig} (h:¬m.un≠u) (hu:m.up=false) (h0:p≠0) (hc:¬dA l p<m.va):nT l u (p,q) i m=(p,q):=by
 unfold nT;rw[if_neg h,if_neg (by rw[hu];decide),if_neg (fun k=>k.elim h0 hc)]
theorem mN {w:World} {s:eX} {u:Int} {v:Value} (hv:bQ ro s v w) (hB:∀m∈s.lm,bt m.va≤17179869180):
 Calls Tryz.prog 79 #[v,I u] w (cA fun r w'=>aH w w'∧gQ (Is (I ((cy s.lm u).1:Int))) (Is (I ((cy s.lm u).2:Int))) r w'):=by
 obtain⟨_,rfl,ra⟩:=hv
 obtain⟨su,so,sl,sh,sr,st,sm,sn,sp,sq,rfl,iu,io,il,ih,ir,it,im,jn,ip,iq⟩:=d7 ra
 have hlen:=iq.len
 refine enter (vs:=[.agg #[I s.q.g.inp,su,so,sl,sh,sr,st,B s.q.go.ct.sg,sm,sn,sp,sq],I u]) Tryz.func79 J J J (bc (cj J J fun g2 w2 l2 x2 k2=>(aa J J (aa J J (dR (aa J J (aa J J (aI (aj (bc (af J J (bO) (ak J J (ai MN J (k2.cell (i:=11) J)) (bn J J (bB MN (iq.ext x2)) (ab J J (aI (aJ (fi (fun(i:Nat) (p:Nat) (q:Nat)=>[(1,I u),(2,.pointer (some ⟨g2,0,none⟩)),(6,I (p:Int)),(7,I (q:Int)),(11,sq),(12,I (s.lm.length:Int)),(13,I (i:Int))]) (fun(i:Nat) (p:Nat) (q:Nat) w'=>aH w2 w'∧i≤s.lm.length∧pk s.lm u i=(p,q)) (fun(i:Nat) (p:Nat) (q:Nat)=>s.lm.length-i) (0) (0) (0) ⟨J,J,J,J,J,J,J,trivial⟩ ⟨aH.refl _,by omega,J⟩ ?_)))))))))))))))))
 rintro i p q wL ⟨eL,hi,hb⟩
 refine bc (ao J J J (aX) (aI (aj (ci J (fun h14=>?_) (fun h14=>?_)))))
 ·refine aA (ah (aj (aJ (bc (ab J J ?_)))))
  obtain⟨a16,c16,e16,he16,p16,q16,h16⟩:=kG (iq.ext (x2.trans eL)) (i:=i)
  obtain⟨x16_0,x16_1,x16_2,rfl,f16_0,f16_1,f16_2⟩:=eG h16
  refine aE J J J (p16 _) (ak J J (q16.ld M4 J iL) ?_)
  have hs:=sf (u:=u) (l:=s.lm) (i:=i) (by omega)
  rw[←he16,hb] at hs
  obtain⟨hp,hq⟩:p≤i∧q≤i:=by have:=mJ s.lm u i;rw[hb] at this;exact this
  have hm16:=hB e16 (by rw[he16];exact Nh _)
  refine ce p3 J fun g9 w9 l9 x9 k9=>(aa J J (bD J J k9 J iL (am.cons J (am.cons J (am.cons J (am.cons f16_0.one (am.cons f16_1.one (am.cons f16_2.one am.nil)))))) fun w4_5 q4_5 k4_5=>?_))
  have x4_5:=aH.of_new (x9) q4_5 l9
  refine aI (aj (bc (af J J (iK) (ak J J (ai ME J (k4_5.cell (i:=0) J)) (ab J J (ao J J J (fg) (aI (ci J (fun h21=>?_) (fun h21=>?_)))))))))
  ·rw[KH h21] at hs
   refine bJ (aV (bP (ah (ae (ao (r:=I ((i+1:Nat):Int)) J J J (by have e:((i+1:Nat):Int)=(i:Int)+1:=(by omega);rw[e];exact aY) (ab J J (ar (cK (i+1) (p) (q) ⟨J,J,J,J,J,J,J,trivial⟩ ⟨(eL.trans x4_5),by omega,hs⟩ (by omega)))))))))
  ·refine aA (ah (bc (af J J (dD) (ak J J (ai MH J (k4_5.cell (i:=1) J)) ?_))))
   refine aI (j2 J (fun h23=>?_) (fun h23=>?_))
   ·refine aj ?_
    rcases(show q=0∨(q≠0∧e16.va<dA s.lm q)∨(q≠0∧¬e16.va<dA s.lm q) by by_cases h0:q=0<;>by_cases h1:e16.va<dA s.lm q<;>simp[h0,h1]) with hA|⟨hA,hC⟩|⟨hA,hC⟩
    ·rw[EQ h21 h23 (.inl hA)] at hs
     refine bj 14 [1,2,6,7,8,11,12,13,26,37] (by kernel_rfl) (by kernel_rfl) (ax J J (bC J J J (fun w _=>bF (by omega) aO) (ax J J (bu J J J (bu J J J (bu J J J (bu J J J (bu J J J (bu J J J (bu J J J (bu J J J (bu J J J (bu J J J (bu J J J (bA ?_)))))))))))))))
     rintro wg7 xg7 _ rfl _ rfl _ rfl _ rfl _ rfl _ hq11
     obtain rfl:=Eq.symm hq11
     rintro _ rfl _ rfl _ rfl _ rfl
     refine aR J J J (aI (cg J (ae (ab J J (ao (r:=I ((i+1:Nat):Int)) J J J (by have e:((i+1:Nat):Int)=(i:Int)+1:=(by omega);rw[e];exact aY) (aa J J (ar (aW (ah (ae (ao (r:=I ((i+1:Nat):Int)) J J J (by have e:((i+1:Nat):Int)=(i:Int)+1:=(by omega);rw[e];exact aY) (ab J J (ar (cK (i+1) (p) (i+1) ⟨J,J,J,J,J,J,J,trivial⟩ ⟨((eL.trans x4_5).trans xg7),by omega,hs⟩ (by omega)))))))))))))))
    ·rw[EQ h21 h23 (.inr hC)] at hs
     refine bj 14 [1,2,6,7,8,11,12,13,26,37] (by kernel_rfl) (by kernel_rfl) (ax J J (bC J J J (fun w _=>be (by omega) aO) (ax J J (au J J (al J J (fun w hw=>ej) (au J J (ap J J (fun w hw=>(k4_5.ext hw).ldO (ms:=[B e16.va.sg,x16_0,x16_1]) (o:=2) (ef J) MC J ag) (au J J (al J J (fun w hw=>bO) (au J J (ap J J (fun w hw=>ai MN J (hw.cell_some ((eL.trans x4_5).cell_some (k2.cell (i:=11) J)))) (au J J (ax J J (au J J (bC (r:=I ((q-1:Nat):Int)) J J J (fun w _=>by have e:((q-1:Nat):Int)=(q:Int)-1:=(by omega);rw[e];exact bT) (au J J ?_))))))))))))))))
     obtain⟨a33,c33,p33,q33,h33⟩:=cP (P:=Tryz.prog) (sz:=6) MN (by kernel_rfl) er (by omega) (iq.ext ((x2.trans eL).trans x4_5)) (i:=(q-1:Nat)) (by omega) .i64
     obtain⟨e33,he33⟩:∃e,e=s.lm[(q-1:Nat)]'(by omega):=⟨_,rfl⟩
     rw[←he33] at h33
     obtain⟨x33_0,x33_1,x33_2,rfl,f33_0,f33_1,f33_2⟩:=eG h33
     refine aK J J J (fun w _=>p33 w) ?_
     have hl:dA s.lm q=e33.va:=by rw[he33];exact fA (by omega)
     have hm33:=hB e33 (by rw[he33];exact Nh _)
     rw[hl] at hC
     refine au J J (al J J (fun w hw=>cT) (au J J (ap J J (fun w hw=>(q33.ext hw).ldO (ms:=[B e33.va.sg,x33_0,x33_1]) (o:=2) (ef J) MC J ag) (au J J (ec (S:=Is (I (f6 e16.va e33.va))) gk (bi.is _) J J J (fun w hw=>p7 ((aU.mk (f16_0.ext x4_5) (f16_1.ext x4_5)).ext hw) ((aU.mk f33_0 f33_1).ext hw) (by omega)) (au J J (bC J J J (fun w _=>bF (kQ.2 hC) aX) (bA ?_))))))))
     rintro wg7 xg7 _ rfl _ rfl _ rfl _ rfl _ rfl _ hq11
     obtain rfl:=Eq.symm hq11
     rintro _ rfl _ rfl _ rfl _ rfl
     refine aG J J J (aI (cg J (ae (ab J J (ao (r:=I ((i+1:Nat):Int)) J J J (by have e:((i+1:Nat):Int)=(i:Int)+1:=(by omega);rw[e];exact aY) (aa J J (ar (aW (ah (ae (ao (r:=I ((i+1:Nat):Int)) J J J (by have e:((i+1:Nat):Int)=(i:Int)+1:=(by omega);rw[e];exact aY) (ab J J (ar (cK (i+1) (p) (i+1) ⟨J,J,J,J,J,J,J,trivial⟩ ⟨((eL.trans x4_5).trans xg7),by omega,hs⟩ (by omega)))))))))))))))
    ·rw[Ij h21 h23 hA hC] at hs
     refine bj 14 [1,2,6,7,8,11,12,13,26,37] (by kernel_rfl) (by kernel_rfl) (ax J J (bC J J J (fun w _=>be (by omega) aO) (ax J J (au J J (al J J (fun w hw=>ej) (au J J (ap J J (fun w hw=>(k4_5.ext hw).ldO (ms:=[B e16.va.sg,x16_0,x16_1]) (o:=2) (ef J) MC J ag) (au J J (al J J (fun w hw=>bO) (au J J (ap J J (fun w hw=>ai MN J (hw.cell_some ((eL.trans x4_5).cell_some (k2.cell (i:=11) J)))) (au J J (ax J J (au J J (bC (r:=I ((q-1:Nat):Int)) J J J (fun w _=>by have e:((q-1:Nat):Int)=(q:Int)-1:=(by omega);rw[e];exact bT) (au J J ?_))))))))))))))))
     obtain⟨a33,c33,p33,q33,h33⟩:=cP (P:=Tryz.prog) (sz:=6) MN (by kernel_rfl) er (by omega) (iq.ext ((x2.trans eL).trans x4_5)) (i:=(q-1:Nat)) (by omega) .i64
     obtain⟨e33,he33⟩:∃e,e=s.lm[(q-1:Nat)]'(by omega):=⟨_,rfl⟩
     rw[←he33] at h33
     obtain⟨x33_0,x33_1,x33_2,rfl,f33_0,f33_1,f33_2⟩:=eG h33
     refine aK J J J (fun w _=>p33 w) ?_
     have hl:dA s.lm q=e33.va:=by rw[he33];exact fA (by omega)
     have hm33:=hB e33 (by rw[he33];exact Nh _)
     rw[hl] at hC
     refine au J J (al J J (fun w hw=>cT) (au J J (ap J J (fun w hw=>(q33.ext hw).ldO (ms:=[B e33.va.sg,x33_0,x33_1]) (o:=2) (ef J) MC J ag) (au J J (ec (S:=Is (I (f6 e16.va e33.va))) gk (bi.is _) J J J (fun w hw=>p7 ((aU.mk (f16_0.ext x4_5) (f16_1.ext x4_5)).ext hw) ((aU.mk f33_0 f33_1).ext hw) (by omega)) (au J J (bC J J J (fun w _=>be (fun h=>hC (kQ.1 h)) aX) (bA ?_))))))))
     rintro wg7 xg7 _ rfl _ rfl _ rfl _ rfl _ rfl _ hq11
     obtain rfl:=Eq.symm hq11
     rintro _ rfl _ rfl _ rfl _ rfl
     refine aG J J J (aI (bU J (aA (aW (ah (ae (ao (r:=I ((i+1:Nat):Int)) J J J (by have e:((i+1:Nat):Int)=(i:Int)+1:=(by omega);rw[e];exact aY) (ab J J (ar (cK (i+1) (p) (q) ⟨J,J,J,J,J,J,J,trivial⟩ ⟨((eL.trans x4_5).trans xg7),by omega,hs⟩ (by omega)))))))))))
   ·refine aj ?_
    rcases(show p=0∨(p≠0∧dA s.lm p<e16.va)∨(p≠0∧¬dA s.lm p<e16.va) by by_cases h0:p=0<;>by_cases h1:dA s.lm p<e16.va<;>simp[h0,h1]) with hA|⟨hA,hC⟩|⟨hA,hC⟩
    ·rw[ER h21 h23 (.inl hA)] at hs
     refine bj 14 [1,2,6,7,8,11,12,13,43,54] (by kernel_rfl) (by kernel_rfl) (ax J J (bC J J J (fun w _=>bF (by omega) aO) (ax J J (bu J J J (bu J J J (bu J J J (bu J J J (bu J J J (bu J J J (bu J J J (bu J J J (bu J J J (bu J J J (bu J J J (bA ?_)))))))))))))))
     rintro wg9 xg9 _ rfl _ rfl _ rfl _ rfl _ rfl _ hq11
     obtain rfl:=Eq.symm hq11
     rintro _ rfl _ rfl _ rfl _ rfl
     refine aR J J J (aI (cg J (ae (ab J J (ao (r:=I ((i+1:Nat):Int)) J J J (by have e:((i+1:Nat):Int)=(i:Int)+1:=(by omega);rw[e];exact aY) (aa J J (ar (aW (ah (ae (ao (r:=I ((i+1:Nat):Int)) J J J (by have e:((i+1:Nat):Int)=(i:Int)+1:=(by omega);rw[e];exact aY) (ab J J (ar (cK (i+1) (i+1) (q) ⟨J,J,J,J,J,J,J,trivial⟩ ⟨((eL.trans x4_5).trans xg9),by omega,hs⟩ (by omega)))))))))))))))
    ·rw[ER h21 h23 (.inr hC)] at hs
     refine bj 14 [1,2,6,7,8,11,12,13,43,54] (by kernel_rfl) (by kernel_rfl) (ax J J (bC J J J (fun w _=>be (by omega) aO) (ax J J (au J J (al J J (fun w hw=>ej) (au J J (ap J J (fun w hw=>(k4_5.ext hw).ldO (ms:=[B e16.va.sg,x16_0,x16_1]) (o:=2) (ef J) MC J ag) (au J J (al J J (fun w hw=>bO) (au J J (ap J J (fun w hw=>ai MN J (hw.cell_some ((eL.trans x4_5).cell_some (k2.cell (i:=11) J)))) (au J J (ax J J (au J J (bC (r:=I ((p-1:Nat):Int)) J J J (fun w _=>by have e:((p-1:Nat):Int)=(p:Int)-1:=(by omega);rw[e];exact bT) (au J J ?_))))))))))))))))
     obtain⟨a50,c50,p50,q50,h50⟩:=cP (P:=Tryz.prog) (sz:=6) MN (by kernel_rfl) er (by omega) (iq.ext ((x2.trans eL).trans x4_5)) (i:=(p-1:Nat)) (by omega) .i64
     obtain⟨e50,he50⟩:∃e,e=s.lm[(p-1:Nat)]'(by omega):=⟨_,rfl⟩
     rw[←he50] at h50
     obtain⟨x50_0,x50_1,x50_2,rfl,f50_0,f50_1,f50_2⟩:=eG h50
     refine aK J J J (fun w _=>p50 w) ?_
     have hl:dA s.lm p=e50.va:=by rw[he50];exact fA (by omega)
     have hm50:=hB e50 (by rw[he50];exact Nh _)
     rw[hl] at hC
     refine au J J (al J J (fun w hw=>cT) (au J J (ap J J (fun w hw=>(q50.ext hw).ldO (ms:=[B e50.va.sg,x50_0,x50_1]) (o:=2) (ef J) MC J ag) (au J J (ec (S:=Is (I (f6 e16.va e50.va))) gk (bi.is _) J J J (fun w hw=>p7 ((aU.mk (f16_0.ext x4_5) (f16_1.ext x4_5)).ext hw) ((aU.mk f50_0 f50_1).ext hw) (by omega)) (au J J (bC J J J (fun w _=>bF (gd.2 hC) bo) (bA ?_))))))))
     rintro wg9 xg9 _ rfl _ rfl _ rfl _ rfl _ rfl _ hq11
     obtain rfl:=Eq.symm hq11
     rintro _ rfl _ rfl _ rfl _ rfl
     refine aG J J J (aI (cg J (ae (ab J J (ao (r:=I ((i+1:Nat):Int)) J J J (by have e:((i+1:Nat):Int)=(i:Int)+1:=(by omega);rw[e];exact aY) (aa J J (ar (aW (ah (ae (ao (r:=I ((i+1:Nat):Int)) J J J (by have e:((i+1:Nat):Int)=(i:Int)+1:=(by omega);rw[e];exact aY) (ab J J (ar (cK (i+1) (i+1) (q) ⟨J,J,J,J,J,J,J,trivial⟩ ⟨((eL.trans x4_5).trans xg9),by omega,hs⟩ (by omega)))))))))))))))
    ·rw[Ik h21 h23 hA hC] at hs
     refine bj 14 [1,2,6,7,8,11,12,13,43,54] (by kernel_rfl) (by kernel_rfl) (ax J J (bC J J J (fun w _=>be (by omega) aO) (ax J J (au J J (al J J (fun w hw=>ej) (au J J (ap J J (fun w hw=>(k4_5.ext hw).ldO (ms:=[B e16.va.sg,x16_0,x16_1]) (o:=2) (ef J) MC J ag) (au J J (al J J (fun w hw=>bO) (au J J (ap J J (fun w hw=>ai MN J (hw.cell_some ((eL.trans x4_5).cell_some (k2.cell (i:=11) J)))) (au J J (ax J J (au J J (bC (r:=I ((p-1:Nat):Int)) J J J (fun w _=>by have e:((p-1:Nat):Int)=(p:Int)-1:=(by omega);rw[e];exact bT) (au J J ?_))))))))))))))))
     obtain⟨a50,c50,p50,q50,h50⟩:=cP (P:=Tryz.prog) (sz:=6) MN (by kernel_rfl) er (by omega) (iq.ext ((x2.trans eL).trans x4_5)) (i:=(p-1:Nat)) (by omega) .i64
     obtain⟨e50,he50⟩:∃e,e=s.lm[(p-1:Nat)]'(by omega):=⟨_,rfl⟩
     rw[←he50] at h50
     obtain⟨x50_0,x50_1,x50_2,rfl,f50_0,f50_1,f50_2⟩:=eG h50
     refine aK J J J (fun w _=>p50 w) ?_
     have hl:dA s.lm p=e50.va:=by rw[he50];exact fA (by omega)
     have hm50:=hB e50 (by rw[he50];exact Nh _)
     rw[hl] at hC
     refine au J J (al J J (fun w hw=>cT) (au J J (ap J J (fun w hw=>(q50.ext hw).ldO (ms:=[B e50.va.sg,x50_0,x50_1]) (o:=2) (ef J) MC J ag) (au J J (ec (S:=Is (I (f6 e16.va e50.va))) gk (bi.is _) J J J (fun w hw=>p7 ((aU.mk (f16_0.ext x4_5) (f16_1.ext x4_5)).ext hw) ((aU.mk f50_0 f50_1).ext hw) (by omega)) (au J J (bC J J J (fun w _=>be (fun h=>hC (gd.1 h)) bo) (bA ?_))))))))
     rintro wg9 xg9 _ rfl _ rfl _ rfl _ rfl _ rfl _ hq11
     obtain rfl:=Eq.symm hq11
     rintro _ rfl _ rfl _ rfl _ rfl
     refine aG J J J (aI (bU J (aA (aW (ah (ae (ao (r:=I ((i+1:Nat):Int)) J J J (by have e:((i+1:Nat):Int)=(i:Int)+1:=(by omega);rw[e];exact aY) (ab J J (ar (cK (i+1) (p) (q) ⟨J,J,J,J,J,J,J,trivial⟩ ⟨((eL.trans x4_5).trans xg9),by omega,hs⟩ (by omega)))))))))))
 ·refine bJ (aV (aV (bP (ah (bc (ab J J (ab J J (aa J J (aa J J (aI (aD (dW J J J ?_))))))))))))
  obtain rfl:i=s.lm.length:=by omega
  exact⟨_,J,(x2.trans eL),_,_,J,by unfold cy;rw[hb];rfl,by unfold cy;rw[hb];rfl⟩
theorem Mk (l:List ig) (p q:Nat) (m:ig):(m.up=true∧q=0)∨(m.up=true∧q≠0∧m.va<dA l q)∨(m.up=true∧q≠0∧¬m.va<dA l q)∨(m.up=false∧p=0)∨(m.up=false∧p≠0∧dA l p<m.va)∨(m.up=false∧p≠0∧¬dA l p<m.va):=by
 cases m.up
 ·by_cases h0:p=0
  ·simp[h0]
  ·by_cases h1:dA l p<m.va<;>simp[h0,h1]
 ·by_cases h0:q=0
  ·simp[h0]
  ·by_cases h1:m.va<dA l q<;>simp[h0,h1]
theorem Do {w:World} {s:eX} {u:Int} {v:Value} (hv:bQ ro s v w) (hB:∀m∈s.lm,bt m.va≤17179869180) (hB0:s.lm.length≤9223372036854775800):
 Calls Tryz.prog 77 #[v,I u] w (cA fun r w'=>aH w w'∧gQ (Is (I ((cy s.lm u).1:Int))) (Is (I ((cy s.lm u).2:Int))) r w'):=by
 obtain⟨_,rfl,ra⟩:=hv
 obtain⟨su,so,sl,sh,sr,st,sm,sn,sp,sq,rfl,iu,io,il,ih,ir,it,im,jn,ip,iq⟩:=d7 ra
 have hlen:=iq.len
 refine enter (vs:=[.agg #[I s.q.g.inp,su,so,sl,sh,sr,st,B s.q.go.ct.sg,sm,sn,sp,sq],I u]) Tryz.func77 J J J (bc (cj J J fun g2 w2 l2 x2 k2=>(aa J J (aa J J (dR (aa J J (aa J J (aI (aj (bc (aa J J (ar (ah (aJ (fi (fun(i:Nat) (p:Nat) (q:Nat)=>[(1,I u),(2,.pointer (some ⟨g2,0,none⟩)),(6,I (p:Int)),(7,I (q:Int)),(8,I ((i+1:Nat):Int))]) (fun(i:Nat) (p:Nat) (q:Nat) w'=>aH w2 w'∧i≤s.lm.length∧pk s.lm u i=(p,q)) (fun(i:Nat) (p:Nat) (q:Nat)=>s.lm.length-i) (0) (0) (0) ⟨J,J,J,J,J,trivial⟩ ⟨aH.refl _,by omega,J⟩ ?_)))))))))))))))
 rintro i p q wL ⟨eL,hi,hb⟩
 refine aj (bc (ab J J (af J J (bO) (ak J J (ai MN J (eL.cell_some (k2.cell (i:=11) J))) (bn J J (bB MN (iq.ext (x2.trans eL))) (ao J J J (iw) (aI (ci J (fun h14=>?_) (fun h14=>?_)))))))))
 ·refine aA (ah (aj (aJ (bc (af J J (bO) (ak J J (ai MN J (eL.cell_some (k2.cell (i:=11) J))) ?_))))))
  refine ab J J (ao (r:=I ((i:Nat):Int)) J J J (by have e:((i:Nat):Int)=((i+1:Nat):Int)-1:=(by omega);rw[e];exact bT) ?_)
  obtain⟨a21,c21,p21,q21,h21⟩:=cP (P:=Tryz.prog) (sz:=6) MN (by kernel_rfl) er (by omega) (iq.ext (x2.trans eL)) (i:=(i:Nat)) (by omega) .i64
  obtain⟨e21,he21⟩:∃e,e=s.lm[(i:Nat)]'(by omega):=⟨_,rfl⟩
  rw[←he21] at h21
  obtain⟨x21_0,x21_1,x21_2,rfl,f21_0,f21_1,f21_2⟩:=eG h21
  refine aE J J J (p21 _) (ak J J (q21.ld M4 J iL) ?_)
  have hs:=sf (u:=u) (l:=s.lm) (i:=i) (by omega)
  rw[←he21,hb] at hs
  obtain⟨hp,hq⟩:p≤i∧q≤i:=by have:=mJ s.lm u i;rw[hb] at this;exact this
  have hm21:=hB e21 (by rw[he21];exact Nh _)
  refine ce p3 J fun g9 w9 l9 x9 k9=>bD J J k9 J iL (am.cons J (am.cons J (am.cons J (am.cons f21_0.one (am.cons f21_1.one (am.cons f21_2.one am.nil)))))) fun w5_7 q5_7 k5_7=>?_
  have x5_7:=aH.of_new (x9) q5_7 l9
  refine aI (aj (bc (af J J (iK) (ak J J (ai ME J (k5_7.cell (i:=0) J)) (ab J J (ao J J J (fg) (aI (ci J (fun h26=>?_) (fun h26=>?_)))))))))
  ·rw[KH h26] at hs
   refine bJ (aV (bP (ah (ae (ab J J (ao (r:=I ((i+2:Nat):Int)) J J J (by have e:((i+2:Nat):Int)=((i+1:Nat):Int)+1:=(by omega);rw[e];exact aY) (aa J J (ar (cK (i+1) (p) (q) ⟨J,J,J,J,J,trivial⟩ ⟨(eL.trans x5_7),by omega,hs⟩ (by omega))))))))))
  ·refine aA (ah (aj (aj ?_)))
   rcases Mk s.lm p q e21 with⟨hu,hA⟩|⟨hu,hA,hC⟩|⟨hu,hA,hC⟩|⟨hu,hA⟩|⟨hu,hA,hC⟩|⟨hu,hA,hC⟩
   ·rw[EQ h26 hu (.inl hA)] at hs
    refine bj 18 [1,2,6,7,8,9,29,44] (by kernel_rfl) (by kernel_rfl) (al J J (fun w hw=>dD) (ap J J (fun w hw=>by have h:=ai (P:=Tryz.prog) MH J (hw.cell_some (k5_7.cell (i:=1) J));rw[hu] at h;exact h) (ax J J (au J J (ax J J (au J J (bC J J J (fun w _=>bF (by omega) aO) (au J J (ax J J (bu J J J (bu J J J (bu J J J (bu J J J (bu J J J (bu J J J (bu J J J (bu J J J (bu J J J (bu J J J (bu J J J (au J J (dT J J J (bA ?_)))))))))))))))))))))))
    rintro wg7 xg7 _ rfl _ rfl _ rfl _ rfl _ rfl _ rfl _ rfl _ rfl
    refine aR J J J (aI (cg J (ae (ab J J (aa J J (aI (aj (bj 19 [1,2,6,7,8,50,65] (by kernel_rfl) (by kernel_rfl) (al J J (fun w hw=>dD) (ap J J (fun w hw=>by have h:=ai (P:=Tryz.prog) MH J (hw.cell_some (xg7.cell_some (k5_7.cell (i:=1) J)));rw[hu] at h;exact h) (jF J J (fun w _=>cn) (ax J J (bu J J J (bu J J J (bu J J J (bw J J J (bw J J J (bw J J J (bw J J J (bw J J J (bw J J J (bw J J J (bw J J J (bw J J J (bw J J J (bw J J J (bu J J J (bA ?_))))))))))))))))))))))))))))
    rintro wg9 xg9 _ rfl _ rfl _ rfl _ rfl _ rfl _ rfl _ rfl
    refine aG J J J (aI (bU J (aA (aW (ah (ae (ab J J (ao (r:=I ((i+2:Nat):Int)) J J J (by have e:((i+2:Nat):Int)=((i+1:Nat):Int)+1:=(by omega);rw[e];exact aY) (aa J J (ar (cK (i+1) (p) (i+1) ⟨J,J,J,J,J,trivial⟩ ⟨(((eL.trans x5_7).trans xg7).trans xg9),by omega,hs⟩ (by omega))))))))))))
   ·rw[EQ h26 hu (.inr hC)] at hs
    refine bj 18 [1,2,6,7,8,9,29,44] (by kernel_rfl) (by kernel_rfl) (al J J (fun w hw=>dD) (ap J J (fun w hw=>by have h:=ai (P:=Tryz.prog) MH J (hw.cell_some (k5_7.cell (i:=1) J));rw[hu] at h;exact h) (ax J J (au J J (ax J J (au J J (bC J J J (fun w _=>be (by omega) aO) (au J J (ax J J (au J J (al J J (fun w hw=>ej) (au J J (ap J J (fun w hw=>(k5_7.ext hw).ldO (ms:=[B e21.va.sg,x21_0,x21_1]) (o:=2) (ef J) MC J ag) (au J J (al J J (fun w hw=>bO) (au J J (ap J J (fun w hw=>ai MN J (hw.cell_some ((eL.trans x5_7).cell_some (k2.cell (i:=11) J)))) (au J J (ax J J (au J J (bC (r:=I ((q-1:Nat):Int)) J J J (fun w _=>by have e:((q-1:Nat):Int)=(q:Int)-1:=(by omega);rw[e];exact bT) (au J J ?_))))))))))))))))))))))
    obtain⟨a39,c39,p39,q39,h39⟩:=cP (P:=Tryz.prog) (sz:=6) MN (by kernel_rfl) er (by omega) (iq.ext ((x2.trans eL).trans x5_7)) (i:=(q-1:Nat)) (by omega) .i64
    obtain⟨e39,he39⟩:∃e,e=s.lm[(q-1:Nat)]'(by omega):=⟨_,rfl⟩
    rw[←he39] at h39
    obtain⟨x39_0,x39_1,x39_2,rfl,f39_0,f39_1,f39_2⟩:=eG h39
    refine aK J J J (fun w _=>p39 w) ?_
    have hl:dA s.lm q=e39.va:=by rw[he39];exact fA (by omega)
    have hm39:=hB e39 (by rw[he39];exact Nh _)
    rw[hl] at hC
    refine au J J (al J J (fun w hw=>cT) (au J J (ap J J (fun w hw=>(q39.ext hw).ldO (ms:=[B e39.va.sg,x39_0,x39_1]) (o:=2) (ef J) MC J ag) (au J J (ec (S:=Is (I (f6 e21.va e39.va))) ee (bi.is _) J J J (fun w hw=>jU ((aU.mk (f21_0.ext x5_7) (f21_1.ext x5_7)).ext hw) ((aU.mk f39_0 f39_1).ext hw) (by omega)) (au J J (bC J J J (fun w _=>bF (kQ.2 hC) aX) (au J J (cQ J J J (bA ?_))))))))))
    rintro wg7 xg7 _ rfl _ rfl _ rfl _ rfl _ rfl _ rfl _ rfl _ rfl
    refine aR J J J (aI (cg J (ae (ab J J (aa J J (aI (aj (bj 19 [1,2,6,7,8,50,65] (by kernel_rfl) (by kernel_rfl) (al J J (fun w hw=>dD) (ap J J (fun w hw=>by have h:=ai (P:=Tryz.prog) MH J (hw.cell_some (xg7.cell_some (k5_7.cell (i:=1) J)));rw[hu] at h;exact h) (jF J J (fun w _=>cn) (ax J J (bu J J J (bu J J J (bu J J J (bw J J J (bw J J J (bw J J J (bw J J J (bw J J J (bw J J J (bw J J J (bw J J J (bw J J J (bw J J J (bw J J J (bu J J J (bA ?_))))))))))))))))))))))))))))
    rintro wg9 xg9 _ rfl _ rfl _ rfl _ rfl _ rfl _ rfl _ rfl
    refine aG J J J (aI (bU J (aA (aW (ah (ae (ab J J (ao (r:=I ((i+2:Nat):Int)) J J J (by have e:((i+2:Nat):Int)=((i+1:Nat):Int)+1:=(by omega);rw[e];exact aY) (aa J J (ar (cK (i+1) (p) (i+1) ⟨J,J,J,J,J,trivial⟩ ⟨(((eL.trans x5_7).trans xg7).trans xg9),by omega,hs⟩ (by omega))))))))))))
   ·rw[Ij h26 hu hA hC] at hs
    refine bj 18 [1,2,6,7,8,9,29,44] (by kernel_rfl) (by kernel_rfl) (al J J (fun w hw=>dD) (ap J J (fun w hw=>by have h:=ai (P:=Tryz.prog) MH J (hw.cell_some (k5_7.cell (i:=1) J));rw[hu] at h;exact h) (ax J J (au J J (ax J J (au J J (bC J J J (fun w _=>be (by omega) aO) (au J J (ax J J (au J J (al J J (fun w hw=>ej) (au J J (ap J J (fun w hw=>(k5_7.ext hw).ldO (ms:=[B e21.va.sg,x21_0,x21_1]) (o:=2) (ef J) MC J ag) (au J J (al J J (fun w hw=>bO) (au J J (ap J J (fun w hw=>ai MN J (hw.cell_some ((eL.trans x5_7).cell_some (k2.cell (i:=11) J)))) (au J J (ax J J (au J J (bC (r:=I ((q-1:Nat):Int)) J J J (fun w _=>by have e:((q-1:Nat):Int)=(q:Int)-1:=(by omega);rw[e];exact bT) (au J J ?_))))))))))))))))))))))
    obtain⟨a39,c39,p39,q39,h39⟩:=cP (P:=Tryz.prog) (sz:=6) MN (by kernel_rfl) er (by omega) (iq.ext ((x2.trans eL).trans x5_7)) (i:=(q-1:Nat)) (by omega) .i64
    obtain⟨e39,he39⟩:∃e,e=s.lm[(q-1:Nat)]'(by omega):=⟨_,rfl⟩
    rw[←he39] at h39
    obtain⟨x39_0,x39_1,x39_2,rfl,f39_0,f39_1,f39_2⟩:=eG h39
    refine aK J J J (fun w _=>p39 w) ?_
    have hl:dA s.lm q=e39.va:=by rw[he39];exact fA (by omega)
    have hm39:=hB e39 (by rw[he39];exact Nh _)
    rw[hl] at hC
    refine au J J (al J J (fun w hw=>cT) (au J J (ap J J (fun w hw=>(q39.ext hw).ldO (ms:=[B e39.va.sg,x39_0,x39_1]) (o:=2) (ef J) MC J ag) (au J J (ec (S:=Is (I (f6 e21.va e39.va))) ee (bi.is _) J J J (fun w hw=>jU ((aU.mk (f21_0.ext x5_7) (f21_1.ext x5_7)).ext hw) ((aU.mk f39_0 f39_1).ext hw) (by omega)) (au J J (bC J J J (fun w _=>be (fun h=>hC (kQ.1 h)) aX) (au J J (cQ J J J (bA ?_))))))))))
    rintro wg7 xg7 _ rfl _ rfl _ rfl _ rfl _ rfl _ rfl _ rfl _ rfl
    refine aR J J J (aI (bU J (aA (ah (aj (bj 19 [1,2,6,7,8,50,65] (by kernel_rfl) (by kernel_rfl) (al J J (fun w hw=>dD) (ap J J (fun w hw=>by have h:=ai (P:=Tryz.prog) MH J (hw.cell_some (xg7.cell_some (k5_7.cell (i:=1) J)));rw[hu] at h;exact h) (jF J J (fun w _=>cn) (ax J J (bu J J J (bu J J J (bu J J J (bw J J J (bw J J J (bw J J J (bw J J J (bw J J J (bw J J J (bw J J J (bw J J J (bw J J J (bw J J J (bw J J J (bu J J J (bA ?_))))))))))))))))))))))))))
    rintro wg9 xg9 _ rfl _ rfl _ rfl _ rfl _ rfl _ rfl _ rfl
    refine aG J J J (aI (bU J (aA (aW (ah (ae (ab J J (ao (r:=I ((i+2:Nat):Int)) J J J (by have e:((i+2:Nat):Int)=((i+1:Nat):Int)+1:=(by omega);rw[e];exact aY) (aa J J (ar (cK (i+1) (p) (q) ⟨J,J,J,J,J,trivial⟩ ⟨(((eL.trans x5_7).trans xg7).trans xg9),by omega,hs⟩ (by omega))))))))))))
   ·rw[ER h26 hu (.inl hA)] at hs
    refine bj 18 [1,2,6,7,8,9,29,44] (by kernel_rfl) (by kernel_rfl) (al J J (fun w hw=>dD) (ap J J (fun w hw=>by have h:=ai (P:=Tryz.prog) MH J (hw.cell_some (k5_7.cell (i:=1) J));rw[hu] at h;exact h) (ax J J (bu J J J (bu J J J (bu J J J (bw J J J (bw J J J (bw J J J (bw J J J (bw J J J (bw J J J (bw J J J (bw J J J (bw J J J (bw J J J (bw J J J (bu J J J (bA ?_)))))))))))))))))))
    rintro wg7 xg7 _ rfl _ rfl _ rfl _ rfl _ rfl _ rfl _ rfl _ rfl
    refine aG J J J (aI (bU J (aA (ah (aj (bj 19 [1,2,6,7,8,50,65] (by kernel_rfl) (by kernel_rfl) (al J J (fun w hw=>dD) (ap J J (fun w hw=>by have h:=ai (P:=Tryz.prog) MH J (hw.cell_some (xg7.cell_some (k5_7.cell (i:=1) J)));rw[hu] at h;exact h) (jF J J (fun w _=>cn) (ax J J (au J J (ax J J (au J J (bC J J J (fun w _=>bF (by omega) aO) (au J J (ax J J (bu J J J (bu J J J (bu J J J (bu J J J (bu J J J (bu J J J (bu J J J (bu J J J (bu J J J (bu J J J (bu J J J (au J J (dT J J J (bA ?_))))))))))))))))))))))))))))))
    rintro wg9 xg9 _ rfl _ rfl _ rfl _ rfl _ rfl _ rfl _ rfl
    refine aR J J J (aI (cg J (ae (ab J J (aa J J (ar (aW (ah (ae (ab J J (ao (r:=I ((i+2:Nat):Int)) J J J (by have e:((i+2:Nat):Int)=((i+1:Nat):Int)+1:=(by omega);rw[e];exact aY) (aa J J (ar (cK (i+1) (i+1) (q) ⟨J,J,J,J,J,trivial⟩ ⟨(((eL.trans x5_7).trans xg7).trans xg9),by omega,hs⟩ (by omega)))))))))))))))
   ·rw[ER h26 hu (.inr hC)] at hs
    refine bj 18 [1,2,6,7,8,9,29,44] (by kernel_rfl) (by kernel_rfl) (al J J (fun w hw=>dD) (ap J J (fun w hw=>by have h:=ai (P:=Tryz.prog) MH J (hw.cell_some (k5_7.cell (i:=1) J));rw[hu] at h;exact h) (ax J J (bu J J J (bu J J J (bu J J J (bw J J J (bw J J J (bw J J J (bw J J J (bw J J J (bw J J J (bw J J J (bw J J J (bw J J J (bw J J J (bw J J J (bu J J J (bA ?_)))))))))))))))))))
    rintro wg7 xg7 _ rfl _ rfl _ rfl _ rfl _ rfl _ rfl _ rfl _ rfl
    refine aG J J J (aI (bU J (aA (ah (aj (bj 19 [1,2,6,7,8,50,65] (by kernel_rfl) (by kernel_rfl) (al J J (fun w hw=>dD) (ap J J (fun w hw=>by have h:=ai (P:=Tryz.prog) MH J (hw.cell_some (xg7.cell_some (k5_7.cell (i:=1) J)));rw[hu] at h;exact h) (jF J J (fun w _=>cn) (ax J J (au J J (ax J J (au J J (bC J J J (fun w _=>be (by omega) aO) (au J J (ax J J (au J J (al J J (fun w hw=>ej) (au J J (ap J J (fun w hw=>((k5_7.ext xg7).ext hw).ldO (ms:=[B e21.va.sg,x21_0,x21_1]) (o:=2) (ef J) MC J ag) (au J J (al J J (fun w hw=>bO) (au J J (ap J J (fun w hw=>ai MN J (hw.cell_some (((eL.trans x5_7).trans xg7).cell_some (k2.cell (i:=11) J)))) (au J J (ax J J (au J J (bC (r:=I ((p-1:Nat):Int)) J J J (fun w _=>by have e:((p-1:Nat):Int)=(p:Int)-1:=(by omega);rw[e];exact bT) (au J J ?_)))))))))))))))))))))))))))))
    obtain⟨a60,c60,p60,q60,h60⟩:=cP (P:=Tryz.prog) (sz:=6) MN (by kernel_rfl) er (by omega) (iq.ext (((x2.trans eL).trans x5_7).trans xg7)) (i:=(p-1:Nat)) (by omega) .i64
    obtain⟨e60,he60⟩:∃e,e=s.lm[(p-1:Nat)]'(by omega):=⟨_,rfl⟩
    rw[←he60] at h60
    obtain⟨x60_0,x60_1,x60_2,rfl,f60_0,f60_1,f60_2⟩:=eG h60
    refine aK J J J (fun w _=>p60 w) ?_
    have hl:dA s.lm p=e60.va:=by rw[he60];exact fA (by omega)
    have hm60:=hB e60 (by rw[he60];exact Nh _)
    rw[hl] at hC
    refine au J J (al J J (fun w hw=>cT) (au J J (ap J J (fun w hw=>(q60.ext hw).ldO (ms:=[B e60.va.sg,x60_0,x60_1]) (o:=2) (ef J) MC J ag) (au J J (ec (S:=Is (I (f6 e21.va e60.va))) ee (bi.is _) J J J (fun w hw=>jU ((aU.mk (f21_0.ext (x5_7.trans xg7)) (f21_1.ext (x5_7.trans xg7))).ext hw) ((aU.mk f60_0 f60_1).ext hw) (by omega)) (au J J (bC J J J (fun w _=>bF (gd.2 hC) bo) (au J J (cQ J J J (bA ?_))))))))))
    rintro wg9 xg9 _ rfl _ rfl _ rfl _ rfl _ rfl _ rfl _ rfl
    refine aR J J J (aI (cg J (ae (ab J J (aa J J (ar (aW (ah (ae (ab J J (ao (r:=I ((i+2:Nat):Int)) J J J (by have e:((i+2:Nat):Int)=((i+1:Nat):Int)+1:=(by omega);rw[e];exact aY) (aa J J (ar (cK (i+1) (i+1) (q) ⟨J,J,J,J,J,trivial⟩ ⟨(((eL.trans x5_7).trans xg7).trans xg9),by omega,hs⟩ (by omega)))))))))))))))
   ·rw[Ik h26 hu hA hC] at hs
    refine bj 18 [1,2,6,7,8,9,29,44] (by kernel_rfl) (by kernel_rfl) (al J J (fun w hw=>dD) (ap J J (fun w hw=>by have h:=ai (P:=Tryz.prog) MH J (hw.cell_some (k5_7.cell (i:=1) J));rw[hu] at h;exact h) (ax J J (bu J J J (bu J J J (bu J J J (bw J J J (bw J J J (bw J J J (bw J J J (bw J J J (bw J J J (bw J J J (bw J J J (bw J J J (bw J J J (bw J J J (bu J J J (bA ?_)))))))))))))))))))
    rintro wg7 xg7 _ rfl _ rfl _ rfl _ rfl _ rfl _ rfl _ rfl _ rfl
    refine aG J J J (aI (bU J (aA (ah (aj (bj 19 [1,2,6,7,8,50,65] (by kernel_rfl) (by kernel_rfl) (al J J (fun w hw=>dD) (ap J J (fun w hw=>by have h:=ai (P:=Tryz.prog) MH J (hw.cell_some (xg7.cell_some (k5_7.cell (i:=1) J)));rw[hu] at h;exact h) (jF J J (fun w _=>cn) (ax J J (au J J (ax J J (au J J (bC J J J (fun w _=>be (by omega) aO) (au J J (ax J J (au J J (al J J (fun w hw=>ej) (au J J (ap J J (fun w hw=>((k5_7.ext xg7).ext hw).ldO (ms:=[B e21.va.sg,x21_0,x21_1]) (o:=2) (ef J) MC J ag) (au J J (al J J (fun w hw=>bO) (au J J (ap J J (fun w hw=>ai MN J (hw.cell_some (((eL.trans x5_7).trans xg7).cell_some (k2.cell (i:=11) J)))) (au J J (ax J J (au J J (bC (r:=I ((p-1:Nat):Int)) J J J (fun w _=>by have e:((p-1:Nat):Int)=(p:Int)-1:=(by omega);rw[e];exact bT) (au J J ?_)))))))))))))))))))))))))))))
    obtain⟨a60,c60,p60,q60,h60⟩:=cP (P:=Tryz.prog) (sz:=6) MN (by kernel_rfl) er (by omega) (iq.ext (((x2.trans eL).trans x5_7).trans xg7)) (i:=(p-1:Nat)) (by omega) .i64
    obtain⟨e60,he60⟩:∃e,e=s.lm[(p-1:Nat)]'(by omega):=⟨_,rfl⟩
    rw[←he60] at h60
    obtain⟨x60_0,x60_1,x60_2,rfl,f60_0,f60_1,f60_2⟩:=eG h60
    refine aK J J J (fun w _=>p60 w) ?_
    have hl:dA s.lm p=e60.va:=by rw[he60];exact fA (by omega)
    have hm60:=hB e60 (by rw[he60];exact Nh _)
    rw[hl] at hC
    refine au J J (al J J (fun w hw=>cT) (au J J (ap J J (fun w hw=>(q60.ext hw).ldO (ms:=[B e60.va.sg,x60_0,x60_1]) (o:=2) (ef J) MC J ag) (au J J (ec (S:=Is (I (f6 e21.va e60.va))) ee (bi.is _) J J J (fun w hw=>jU ((aU.mk (f21_0.ext (x5_7.trans xg7)) (f21_1.ext (x5_7.trans xg7))).ext hw) ((aU.mk f60_0 f60_1).ext hw) (by omega)) (au J J (bC J J J (fun w _=>be (fun h=>hC (gd.1 h)) bo) (au J J (cQ J J J (bA ?_))))))))))
    rintro wg9 xg9 _ rfl _ rfl _ rfl _ rfl _ rfl _ rfl _ rfl
    refine aR J J J (aI (bU J (aA (aW (ah (ae (ab J J (ao (r:=I ((i+2:Nat):Int)) J J J (by have e:((i+2:Nat):Int)=((i+1:Nat):Int)+1:=(by omega);rw[e];exact aY) (aa J J (ar (cK (i+1) (p) (q) ⟨J,J,J,J,J,trivial⟩ ⟨(((eL.trans x5_7).trans xg7).trans xg9),by omega,hs⟩ (by omega))))))))))))
 ·refine bJ (aV (aV (bP (ah (bc (ab J J (ab J J (aa J J (aa J J (aI (aD (dW J J J ?_))))))))))))
  obtain rfl:i=s.lm.length:=by omega
  exact⟨_,J,(x2.trans eL),_,_,J,by unfold cy;rw[hb];rfl,by unfold cy;rw[hb];rfl⟩
end Go.Rl
namespace Go.Rl
open Go.RowKit Go.Proofs
structure Kg (p:List Nat) (g:Nat) (w w':World):Prop where
 q:w.grownBy w' (some g)
 m:Kq p w w'
section
variable {p:List Nat} {g:Nat} {w w':World}
theorem Kg.of_ext (h0:0<p.length) (h:aH w w'):Kg p g w w':=⟨aZ h,h0,fun _ _ _ r=>r.ext h⟩
theorem Kg.trans {a b c:World} (h:Kg p g a b) (k:Kg p g b c):Kg p g a c:=⟨h.q.trans k.q,h.m.pos,fun d cs ho r=>k.m.keep d cs ho (h.m.keep d cs ho r)⟩
theorem Kg.env (h0:0<p.length) (w:World):lW (Kg p g w) (Kg p g):=⟨fun _ _ h=>Kg.of_ext h0 h,fun _ _ h k=>h.trans k⟩
theorem Kg.refl (h0:0<p.length) (w:World):Kg p g w w:=Kg.of_ext h0 (aH.refl w)
theorem bH.kg {l:List UInt32} {v:Value} (h:bH l v w) (hw:Kg p g w w') (ho:nk p (.sl (.c 1))=true:=by decide):bH l v w':=h.kq hw.m ho
theorem cF.kg {α:Type} {f:α→Dt} [s:pg f] {l:List α} {v:Value} (h:cF f l v w) (hw:Kg p g w w') (ho:nk p (.sl s.sh)=true:=by decide):cF f l v w':=h.kq hw.m ho
theorem aU.kg {b:Bool} {n m:List UInt32} {v:Value} (h:aU b n m v w) (hw:Kg p g w w') (ho:nk p (.sl (.c 1))=true:=by decide):aU b n m v w':=by
 obtain⟨x,y,rfl,hx,hy⟩:=h
 exact⟨x,y,J,hx.kg hw ho,hy.kg hw ho⟩
theorem bQ.kg {α:Type} {f:α→Dt} [s:pg f] {a:α} {v:Value} (h:bQ f a v w) (hw:Kg p g w w') (ho:nk p s.sh=true:=by decide):bQ f a v w':=by
 obtain⟨cs,rfl,h⟩:=h
 exact⟨cs,J,hw.m.keep _ _ (en.off hw.m.pos ho (s.ok a)) h⟩
theorem dE.kg {b:Nat} {T:TypeId} {cs:List Value} (k:dE b T cs w) (hw:Kg p g w w') (hne:b≠g:=by assumption):dE b T cs w':=k.other hw.q fun e=>hne (Nc e)
theorem Kg.cell_some {b i:Nat} {v:Value} (hw:Kg p g w w') (c:w.cell? ⟨b,i,none⟩=some v) (hne:b≠g:=by assumption):w'.cell? ⟨b,i,none⟩=some v:=hw.q.cell c fun e=>hne (Nc e)
theorem d8.ne {ad:Addr} {cs bs:List Value} {T:TypeId} (h:d8 w ad cs) (k:dE g T bs w) (hl:bs.length<cs.length):ad.block≠g:=fun e=>by
 have h1:=h (cs.length-1) (cs[cs.length-1]'(by omega)) (List.getElem?_eq_getElem _)
 have k':w.heap[g]? =some (.cells bs.toArray T (0,0)):=k
 have ho:(ad.add (cs.length-1)).off=ad.off+(cs.length-1):=by unfold Addr.add;split<;>simp_all
 unfold World.cell? at h1
 rw[gj,e,k'] at h1
 dsimp only at h1
 split at h1
 ·cases h1
 ·rw[ho] at h1
  have:=(Array.getElem?_eq_some_iff.1 h1).1
  simp at this
  omega
theorem d8.kg {ad:Addr} {cs:List Value} (h:d8 w ad cs) (hw:Kg p g w w') (hne:ad.block≠g:=by assumption):d8 w' ad cs:=fun j u hu=>hw.q.cell (h j u hu) fun e=>hne (by rw[gj] at e;exact Nc e)
theorem nq.ds {α:Type} {f:α→Dt} [s:pg f] {l:List α} (ho:nk p (.sl s.sh)=true):cI (Kg p g) (cF f l):=fun _ _ _ h hw=>h.kg hw ho
theorem nq.st {α:Type} {f:α→Dt} [s:pg f] {a:α} (ho:nk p s.sh=true):cI (Kg p g) (bQ f a):=fun _ _ _ h hw=>h.kg hw ho
theorem nq.rat {b:Bool} {n m:List UInt32} (ho:nk p (.sl (.c 1))=true):cI (Kg p g) (aU b n m):=fun _ _ _ h hw=>h.kg hw ho
theorem nq.wds {n:List UInt32} (ho:nk p (.sl (.c 1))=true):cI (Kg p g) (bH n):=fun _ _ _ h hw=>h.kg hw ho
def qq {α:Type} (P:α→Prop) (F:α→dn):dn:=fun v w=>∃a,P a∧F a v w
theorem nq.ex {α:Type} {P:α→Prop} {F:α→dn} (h:∀a,cI (Kg p g) (F a)):cI (Kg p g) (qq P F):=fun _ _ _ ⟨a,ha,k⟩ hw=>⟨a,ha,h a _ _ _ k hw⟩
end
section
variable {P:Program} {ops:Array Oper} {Env:World→Prop} {Rl:World→World→Prop} {mo:Bool} {Pn:List PanicEntry→World→Prop} {N:Nat} {rest:List Oper} {F:dI} {Z:kX} {K:dI→kX→Prop} {ty:TypeId} {pos:String} {aft:Array Edge}
theorem nU {t:TypeId} {x y:Operand} {Z':kX} (hm:mo=true) (hz:el Z')
 (h:∀w,Env w→Z w→∀u v,eu F x u w→eu F y v w→∃w',(Instr.storeAt t u v).run P w=.ok () w'∧Rl w w'∧Z' w')
 (k:gf P ops Env Rl mo Pn N rest F Z' K):gf P ops Env Rl mo Pn N (⟨none,.store t x y,ty,pos,aft,none⟩::rest) F Z K:=fun _ _=>by
 refine⟨Any,Z',.inr ⟨hm,⟨J,bi.any,hz,(fun e he=>by cases he),fun a w _ hw hs hzz hwant=>?_,fun a w _ _ _ _ hw=>by simp[Region.wanted] at hw⟩⟩,k⟩
 have hl:∀z∈[x,y],eu F z (a.eval z) w:=fun z hx=>by
  cases z with
  |tmp t=>exact hs t (List.mem_append_left _ (List.mem_filterMap.2 ⟨.tmp t,by simpa [Op.operands] using hx,rfl⟩))
  |_=>rfl
 obtain⟨w',h1,h2,h3⟩:=h w hw hzz _ _ (hl x (by simp)) (hl y (by simp))
 have e:execOp a.eval ⟨none,.store t x y,ty,pos,aft,none⟩=(do Instr.storeAt t (a.eval x) (a.eval y);pure Next.skip:Sem Next):=rfl
 rw[e,Sem.run_bind,h1]
 exact⟨h2,trivial,h3⟩
end
def z4 (g:Nat) (c:Rat) (w:World):Prop:=∃x y,dE g 49 [B c.sg,x,y] w∧bH c.nl x w∧bH c.dl y w
theorem z4.stable {g:Nat} {c:Rat}:el (z4 g c):=fun _ _ ⟨x,y,k,h1,h2⟩ hx=>⟨x,y,k.ext hx,h1.ext hx,h2.ext hx⟩
theorem LV {g:Nat} {b:Bool} {c:Rat} {v:Value} {w:World} (k:dE g 49 [B b,.slice none 0 0,.slice none 0 0] w) (hv:QV c v w):
 ∃w',(Instr.storeAt 49 (.pointer (some ⟨g,0,none⟩)) v).run Tryz.prog w=.ok () w'∧Kg [0,3,3] g w w'∧z4 g c w':=by
 obtain⟨p,q,w',rfl,hr,hg,hk,h1,h2⟩:=k.stR ⟨_,_,_,rfl⟩ ⟨_,_,_,rfl⟩ hv
 exact⟨w',hr,⟨hg,Kq.of k (by rfl) (by decide) hg⟩,p,q,hk,h1,h2⟩
theorem km {g:Nat} {T:TypeId} {cs:List Value}:el (dE g T cs):=fun _ _ k hx=>k.ext hx
end Go.Rl

/- Part 6 of a proof: plain facts and walks of functions, merged by a program. Conditions: each lemma names its own. -/
import Derived.Test.YtddonikjkohphaaGreatDoorWp5
namespace Go.Rl
open Go.RowKit Go.Proofs
theorem G3 {w:World} {raw at':List UInt8} {o:UInt8} {v u:Value} (hv:lP raw v w) (hu:lP at' u w) (hT:nt w):
 Calls Tryz.prog 4 #[v,U8 o,u] w (cA fun r w'=>r=B true∧aH w w'):=by
 have ho1:(o%3).toNat≤2:=by rw[UInt8.toNat_mod];have:o.toNat%(3:UInt8).toNat<3:=Nat.mod_lt _ (by decide);omega
 have ho2:(o/3%4).toNat≤3:=by rw[UInt8.toNat_mod];have:(o/3).toNat%(4:UInt8).toNat<4:=Nat.mod_lt _ (by decide);omega
 refine enter Tryz.func4 J J J (bc (aa J J (aI (aj (bc (aq uV J J (uW hT) ?_))))))
 rintro v18 w18 ⟨x18,rfl⟩
 refine cC J J cn (aI (bU J (aA (ah (aj (aj ?_))))))
 rcases(show 400<raw.length∨(raw.length≤400∧8<at'.length)∨(raw.length≤400∧at'.length≤8) by omega) with hk|hk|hk
 ·refine ae (ab J J (bn J J (og (hv.ext x18)) (ao J J J (bF (by omega) bo) (ab J J (bf J J J (bf J J J (bf J J J ?_)))))))
  refine aR J J J (aI (cg J (bc (aa J J (aI (aD (a0 (aF J J ?_))))))))
  exact⟨_,J,J,x18⟩
 ·refine ae (ab J J (bn J J (og (hv.ext x18)) (ao J J J (be (by omega) bo) (ab J J (an J (ab J J (an J (bn J J (og (hu.ext x18)) ?_))))))))
  refine an J (ao J J J (bF (by omega) bo) (aG J J J (aI (cg J (bc (aa J J (aI (aD (a0 (aF J J ?_))))))))))
  exact⟨_,J,J,x18⟩
 ·refine ae (ab J J (bn J J (og (hv.ext x18)) (ao J J J (be (by omega) bo) (ab J J (an J (ab J J (an J (bn J J (og (hu.ext x18)) ?_))))))))
  refine an J (ao J J J (be (by omega) bo) (aG J J J (aI (bU J (aA (ah (bc (ab J J (aq uO J J ((uP (hv.ext x18) (by omega))) ?_)))))))))
  rintro v29 w29 ⟨x29,⟨q,pa,lm⟩,⟨hs,hlm⟩,_,rfl,rs⟩
  obtain rfl:lm=[]:=hlm
  obtain⟨su,so,sl,sh,sr,st,sm,sn,sp,sq,rfl,iu,io,il,ih,ir,it,im,jn,ip,iq⟩:=d7 rs
  refine ce fp J fun g7 w7 l7 x7 k7=>bD J J k7 J bg (am.cons J (am.cons iu.one (am.cons io.one (am.cons il.one (am.cons ih.one (am.cons ir.one (am.cons it.one (am.cons J (am.cons im.one (am.cons jn.one (am.cons ip.one (am.cons iq.one am.nil)))))))))))) fun w5_3 q5_3 k5_3=>?_
  have x5_3:=aH.of_new (x7) q5_3 l7
  refine dR (ab J J (ao (v:=U8 3) J J J (vA (by decide)) (cm J J (od MZ ME) (ak J J (k5_3.ld MM J bg) (ab J J (ao (v:=U8 3) J J J (Ha (by decide)) (ao (v:=U8 4) J J J (vA (by decide)) ?_)))))))
  have e7:=(x18.trans x29).trans x5_3
  refine cm J J (od MZ ME) (aq rj J J ((rk (d:=(o%3).toNat) (bits:=(o/3%4).toNat) (s:=⟨q,pa,[]⟩) ho1 ho2 (hT.ext (e7)) (bQ.mk (dm (iu.ext x5_3) (io.ext x5_3) (il.ext x5_3) (ih.ext x5_3) (ir.ext x5_3) (it.ext x5_3) (im.ext x5_3) (jn.ext x5_3) (ip.ext x5_3) (iq.ext x5_3))) hs.q hs.pa (Nb hs.pl (by decide)) J)) ?_)
  rintro v39 w39 ⟨x39,_,_,rfl,⟨⟨q1,p1,L⟩,⟨hq1,hp1,hI1⟩,_,rfl,rt⟩,rfl⟩
  obtain rfl:q=q1:=hq1.symm
  obtain rfl:pa=p1:=hp1.symm
  obtain⟨tu,to,tl,th,tr,tt,tm,tn,tp,tv,rfl,lu,lo,ll,lh,lr,lt,lm',ln,lp,lq⟩:=d7 rt
  refine ab J J (aB J J cY (aB J J (cZ) (ce fp J fun g8 w8 l8 x8 k8=>bD J J k8 J bg (am.cons J (am.cons lu.one (am.cons lo.one (am.cons ll.one (am.cons lh.one (am.cons lr.one (am.cons lt.one (am.cons J (am.cons lm'.one (am.cons ln.one (am.cons lp.one (am.cons lq.one am.nil)))))))))))) fun w6_13 q6_13 k6_13=>?_)))
  have x6_13:=aH.of_new (x8) q6_13 l8
  refine aa J J (aI (aj (bc (ab J J (cC J J cn (aI (bU J (aA (ah (bc (af J J (bz) (af J J (f8) (ak J J ((k5_3.ext (x39.trans x6_13)).ldO (ms:=[sl,sh,sr]) (o:=3) (ef J) M1 J dM) ?_)))))))))))))
  have e3:=(x5_3.trans x39).trans x6_13
  refine ab J J (aq Af J J ((Ag (r:=q.r) (bQ.mk (pR (il.ext e3) (ih.ext e3) (ir.ext e3))) (hu.ext ((e7.trans x39).trans x6_13)) hs.q.r)) ?_)
  rintro v48 w48 ⟨x48,xx,hxl,hxb,h48⟩
  refine aa J J (aI (aj (aj ?_)))
  rcases(show z7 ⟨q,pa,[]⟩ xx=false∨z7 ⟨q,pa,[]⟩ xx=true by cases z7 ⟨q,pa,[]⟩ xx<;>simp) with hM|hM
  ·refine ae (ak J J ((k5_3.ext ((x39.trans x6_13).trans x48)).ld MM J bg) (ab J J (aq s4 J J ((by have h:=s5 (s:=⟨q,pa,[]⟩) (bQ.mk (dm (iu.ext (((x5_3.trans x39).trans x6_13).trans x48)) (io.ext (((x5_3.trans x39).trans x6_13).trans x48)) (il.ext (((x5_3.trans x39).trans x6_13).trans x48)) (ih.ext (((x5_3.trans x39).trans x6_13).trans x48)) (ir.ext (((x5_3.trans x39).trans x6_13).trans x48)) (it.ext (((x5_3.trans x39).trans x6_13).trans x48)) (im.ext (((x5_3.trans x39).trans x6_13).trans x48)) (jn.ext (((x5_3.trans x39).trans x6_13).trans x48)) (ip.ext (((x5_3.trans x39).trans x6_13).trans x48)) (iq.ext (((x5_3.trans x39).trans x6_13).trans x48)))) h48 hs.q hs.pa hxl hxb;rw[hM] at h;exact h)) ?_)))
   rintro v51 w51 ⟨x51,rfl⟩
   refine cC J J cn (aI (cg J (bc (aa J J (aI (aD (a0 (aF J J ?_))))))))
   exact⟨_,J,J,((((((x18.trans x29).trans x5_3).trans x39).trans x6_13).trans x48).trans x51)⟩
  ·refine ae (ak J J ((k5_3.ext ((x39.trans x6_13).trans x48)).ld MM J bg) (ab J J (aq s4 J J ((by have h:=s5 (s:=⟨q,pa,[]⟩) (bQ.mk (dm (iu.ext (((x5_3.trans x39).trans x6_13).trans x48)) (io.ext (((x5_3.trans x39).trans x6_13).trans x48)) (il.ext (((x5_3.trans x39).trans x6_13).trans x48)) (ih.ext (((x5_3.trans x39).trans x6_13).trans x48)) (ir.ext (((x5_3.trans x39).trans x6_13).trans x48)) (it.ext (((x5_3.trans x39).trans x6_13).trans x48)) (im.ext (((x5_3.trans x39).trans x6_13).trans x48)) (jn.ext (((x5_3.trans x39).trans x6_13).trans x48)) (ip.ext (((x5_3.trans x39).trans x6_13).trans x48)) (iq.ext (((x5_3.trans x39).trans x6_13).trans x48)))) h48 hs.q hs.pa hxl hxb;rw[hM] at h;exact h)) ?_)))
   rintro v51 w51 ⟨x51,rfl⟩
   refine cC J J cn (aI (bU J (aA (ah (bc (af J J (bz) (af J J (bG) (ak J J ((k5_3.ext (((x39.trans x6_13).trans x48).trans x51)).ldO (ms:=[I q.g.inp,su,so]) (o:=0) (ef J) MX J dg) (ab J J ?_)))))))))
   obtain⟨V,hV⟩:∃V,V=nW q.g.us (eZ q.g.us xx):=⟨_,rfl⟩
   have hpl:V.length=q.g.us.length:=by rw[hV];exact EV q.g _
   have hpb:∀y∈V,bt y≤10000000:=by rw[hV];exact Iv hs.q.g hxl hxb
   have htr:=D2 (s:=⟨q,pa,[]⟩) hs.q hxl hM
   have e4:=(((x5_3.trans x39).trans x6_13).trans x48).trans x51
   refine aq t6 J J ((by have h:=t8 (bQ.mk (jP (iu.ext e4) (io.ext e4))) (h48.ext x51) hs.q.g hxl hxb;rw[←hV] at h;exact h)) ?_
   rintro v58 w58 ⟨x58,⟨u58_a,_,rfl,b58_a,rfl⟩⟩
   refine ab J J (aB J J cY (aB J J cZ (aa J J (aa J J (aI (aj (aj ?_)))))))
   have hR1:DZ (o%3).toNat ⟨q,pa,[]⟩ (o/3%4).toNat ⟨q,pa,L⟩:=⟨rfl,rfl,hI1⟩
   have bL:∀m∈L,bt m.va≤2400000020:=D3 hR1 hs.q.g
   have nL:L.length=2*q.g.us.length:=hI1.1.len
   have hul:q.g.us.length≤4:=hs.q.g.ul
   have hso:=xd.sound hI1.1 htr q.g.us.length (Ng _)
   refine ae (aa J J (aI (aJ (dS (α:=Nat) (fun n=>[(8,.pointer (some ⟨g8,0,none⟩)),(11,u58_a),(13,I (n:Int))]) (fun n w'=>aH w58 w'∧n≤V.length) (fun n=>V.length-n) (0) ⟨J,J,J,trivial⟩ ⟨aH.refl _,by omega⟩ ?_))))
   rintro j wL ⟨eL,hj⟩
   refine aj (bc (ab J J (ab J J (bn J J (bB MK (b58_a.ext eL)) (ao J J J (aX) (aI (ci J (fun h64=>?_) (fun h64=>?_))))))))
   ·refine aA (ah (aj (aJ (bc (ak J J ((k6_13.ext (((x48.trans x51).trans x58).trans eL)).ld MM J bg) ?_)))))
    refine ab J J ?_
    have hA:j<V.length:=by omega
    have hA2:j<q.g.us.length:=by omega
    have hb1:cy L (j:Int)=_:=xl hR1 hA2
    have v1:=ug (n:=2*j+1) bL
    have v2:=ug (n:=2*j+2) bL
    obtain⟨em,hem⟩:∃em,em=V[j]'hA:=⟨_,rfl⟩
    have hbe:=hpb em (by rw[hem];exact Nh _)
    have hle:dA L (2*j+1)≤em∧em≤dA L (2*j+2):=by
     have h1:=hso j hA2
     rw[←hV] at h1
     have h2:V.getD j 0=em:=by rw[hem];exact iC _
     dsimp only at h1
     rw[h2] at h1
     exact h1
    have hpos:Cl ⟨q,pa,L⟩ (j:Int)=1→0≤em:=fun hp=>by
     have h2:V.getD j 0=em:=by rw[hem];exact iC _
     have h1:=MB (s:=⟨q,pa,[]⟩) (t:=⟨q,pa,L⟩) htr rfl hA2 hb1 (hso j hA2).1 hp
     rw[←hV] at h1
     rw[h2] at h1
     exact h1
    have hneg:Cl ⟨q,pa,L⟩ (j:Int)=2→em≤0:=fun hp=>by
     have h2:V.getD j 0=em:=by rw[hem];exact iC _
     have h1:=LR (s:=⟨q,pa,[]⟩) (t:=⟨q,pa,L⟩) htr rfl hA2 hb1 (hso j hA2).2 hp
     rw[←hV] at h1
     rw[h2] at h1
     exact h1
    have e1:=(((x6_13.trans x48).trans x51).trans x58).trans eL
    refine aq si J J ((by have h:=sj (s:=⟨q,pa,L⟩) (u:=(j:Int)) (bQ.mk (dm (lu.ext e1) (lo.ext e1) (ll.ext e1) (lh.ext e1) (lr.ext e1) (lt.ext e1) (lm'.ext e1) (ln.ext e1) (lp.ext e1) (lq.ext e1))) (fun m hm=>Nb (bL m hm) (by decide)) (by show L.length≤_;omega) (by show 0<(cy L (j:Int)).1;rw[hb1];exact Nat.succ_pos _) (by show 0<(cy L (j:Int)).2;rw[hb1];exact Nat.succ_pos _);rw[show cy (eX.mk q pa L).lm (j:Int)=_ from hb1] at h;exact h)) ?_
    rintro v70 w70 ⟨x70,⟨_,_,_,rfl,⟨x70_a_0,x70_a_1,rfl,f70_a_0,f70_a_1⟩,⟨x70_b_0,x70_b_1,rfl,f70_b_0,f70_b_1⟩,rfl⟩⟩
    refine ab J J (aB J J ey (aB J J ez (aB J J eF (ce bv J fun g14 w14 l14 x14 k14=>ce bv J fun g15 w15 l15 x15 k15=>bD J J (k14.ext x15) J ag (am.cons J (am.cons f70_a_0.one (am.cons f70_a_1.one am.nil))) fun w16_9 q16_9 k16_9=>?_))))
    have x16_9:=aH.of_new ((x14.trans x15)) q16_9 l14
    have j1_k15:=(k15.other q16_9 fun e=>by have h1:=k14.lt;have h2:=l15;have h4:=Nc e;omega)
    refine bD J J j1_k15 J ag (am.cons J (am.cons f70_b_0.one (am.cons f70_b_1.one am.nil))) fun w16_10 q16_10 k16_10=>?_
    have x16_10:=aH.of_new (x16_9) q16_10 (Nb (x14).size l15)
    refine aa J J (aI (aj (aj (bj 19 [8,11,13,85,92] (by kernel_rfl) (by kernel_rfl) (ax J J (jF J J (fun w _=>cn) (ax J J (au J J (ax J J (au J J (ax J J (au J J ?_))))))))))))
    obtain⟨a79,c79,p79,q79,h79⟩:=cP (P:=Tryz.prog) (sz:=3) MK (by kernel_rfl) gy (by omega) (b58_a.ext ((eL.trans x70).trans x16_10)) (i:=j) (by omega) .i64
    rw[←hem] at h79
    obtain⟨x79_0,x79_1,rfl,f79_0,f79_1⟩:=dO h79
    refine aK J J J (fun w _=>p79 w) (au J J (ap J J (fun w hw=>(q79.ext hw).ld MC J ag) (au J J ?_)))
    have j2_k16_9:=(k16_9.other q16_10 fun e=>by have h1:=k14.lt;have h2:=l15;have h4:=Nc e;omega)
    refine ap J J (fun w hw=>(j2_k16_9.ext hw).ld MC J ag) (au J J (ec (S:=Is (I (f6 em (dA L (2*j+1))))) ee (bi.is _) J J J (fun w hw=>jU ((aU.mk f79_0 f79_1).ext hw) ((aU.mk (f70_a_0.ext x16_10) (f70_a_1.ext x16_10)).ext hw) (by omega)) (au J J (bC J J J (fun w _=>be (fun h=>absurd (kQ.1 h) (Rat.not_lt.2 hle.1)) aX) (cQ J J J (ax J J (au J J (ax J J (au J J (ax J J (au J J ?_)))))))))))
    obtain⟨a88,c88,p88,q88,h88⟩:=cP (P:=Tryz.prog) (sz:=3) MK (by kernel_rfl) gy (by omega) (b58_a.ext ((eL.trans x70).trans x16_10)) (i:=j) (by omega) .i64
    rw[←hem] at h88
    obtain⟨x88_0,x88_1,rfl,f88_0,f88_1⟩:=dO h88
    refine aK J J J (fun w _=>p88 w) (au J J (ap J J (fun w hw=>(q88.ext hw).ld MC J ag) (au J J (ap J J (fun w hw=>(k16_10.ext hw).ld MC J ag) (au J J (ec (S:=Is (I (f6 em (dA L (2*j+2))))) ee (bi.is _) J J J (fun w hw=>jU ((aU.mk f88_0 f88_1).ext hw) ((aU.mk (f70_b_0.ext x16_10) (f70_b_1.ext x16_10)).ext hw) (by omega)) (au J J (bC J J J (fun w _=>be (fun h=>absurd (gd.1 h) (Rat.not_lt.2 hle.2)) bo) (bA ?_)))))))))
    rintro wg17 xg17 _ rfl _ hq11
    obtain rfl:=Eq.symm hq11
    rintro _ rfl _ rfl _ rfl
    refine aG J J J (aI (bU J (aA (ah (bc (ak J J ((k6_13.ext ((((((x48.trans x51).trans x58).trans eL).trans x70).trans x16_10).trans xg17)).ld MM J bg) ?_))))))
    have e2:=((e1.trans x70).trans x16_10).trans xg17
    refine ab J J (aq uJ J J ((uK (s:=⟨q,pa,L⟩) (u:=(j:Int)) (bQ.mk (dm (lu.ext e2) (lo.ext e2) (ll.ext e2) (lh.ext e2) (lr.ext e2) (lt.ext e2) (lm'.ext e2) (ln.ext e2) (lp.ext e2) (lq.ext e2))) ⟨hs.q,hs.pl,hs.pa,by show L.length≤8;omega⟩ (fun m hm=>Nb (bL m hm) (by decide)) (by omega) (by show(j:Int)<(q.g.us.length:Int);omega))) ?_)
    rintro v96 w96 ⟨x96,rfl⟩
    refine aa J J (aI (aj ?_))
    rcases(show Cl ⟨q,pa,L⟩ (j:Int)=1∨Cl ⟨q,pa,L⟩ (j:Int)=2∨(Cl ⟨q,pa,L⟩ (j:Int)≠1∧Cl ⟨q,pa,L⟩ (j:Int)≠2) by omega) with hP|hP|hP
    ·refine ae (ab J J (ao J J J (bF hP aO) (ab J J (an J (ab J J (an J (ab J J (an J ?_))))))))
     have e5:=(((eL.trans x70).trans x16_10).trans xg17).trans x96
     obtain⟨a102,c102,p102,q102,h102⟩:=cP (P:=Tryz.prog) (sz:=3) MK (by kernel_rfl) gy (by omega) (b58_a.ext e5) (i:=j) (by omega) .i64
     rw[←hem] at h102
     obtain⟨x102_0,x102_1,rfl,f102_0,f102_1⟩:=dO h102
     refine aE J J J (p102 _) (an J (ak J J (q102.ld MC J ag) (an J (aq f9 J J (mH (aU.mk f102_0 f102_1) (by omega)) ?_))))
     rintro v104 w104 ⟨x104,rfl⟩
     refine an J (ao J J J (be (fun h=>absurd (kR.1 h) (Rat.not_lt.2 (hpos hP))) aX) (aR J J J (ab J J (an J (ab J J (an J (ao J J J (be (by omega) aO) (an J (ab J J (bf J J J (bf J J J (bf J J J (bf J J J (bf J J J (bf J J J (an J (aG J J J (aG J J J (aI (bU J (aA (aW (ah (ae (ab J J (ao (r:=I ((j+1:Nat):Int)) J J J (by have e:((j+1:Nat):Int)=(j:Int)+1:=(by omega);rw[e];exact aY) (aa J J (ar (dC (j+1) ⟨J,J,J,trivial⟩ ⟨(e5.trans x104),by omega⟩ (by omega))))))))))))))))))))))))))))))
    ·refine ae (ab J J (ao J J J (be (by omega) aO) (ab J J (bf J J J (bf J J J (bf J J J (bf J J J (bf J J J ?_))))))))
     refine bf J J J (aG J J J (ab J J (an J (ab J J (an J (ao J J J (bF hP aO) (an J (ab J J (an J (ab J J (an J (ab J J (an J ?_)))))))))))))
     have e6:=(((eL.trans x70).trans x16_10).trans xg17).trans x96
     obtain⟨a113,c113,p113,q113,h113⟩:=cP (P:=Tryz.prog) (sz:=3) MK (by kernel_rfl) gy (by omega) (b58_a.ext e6) (i:=j) (by omega) .i64
     rw[←hem] at h113
     obtain⟨x113_0,x113_1,rfl,f113_0,f113_1⟩:=dO h113
     refine aE J J J (p113 _) (an J (ak J J (q113.ld MC J ag) (an J (aq f9 J J (mH (aU.mk f113_0 f113_1) (by omega)) ?_))))
     rintro v115 w115 ⟨x115,rfl⟩
     refine an J (ao J J J (be (fun h=>absurd (iR.1 h) (Rat.not_lt.2 (hneg hP))) bo) (an J (aR J J J (aG J J J (ar (ah (bU J (aA (aW (ah (ae (ab J J (ao (r:=I ((j+1:Nat):Int)) J J J (by have e:((j+1:Nat):Int)=(j:Int)+1:=(by omega);rw[e];exact aY) (aa J J (ar (dC (j+1) ⟨J,J,J,trivial⟩ ⟨(e6.trans x115),by omega⟩ (by omega)))))))))))))))))
    ·refine ae (ab J J (ao J J J (be hP.1 aO) (ab J J (bf J J J (bf J J J (bf J J J (bf J J J (bf J J J ?_))))))))
     refine bf J J J (aG J J J (ab J J (an J (ab J J (an J (ao J J J (be hP.2 aO) (an J (ab J J (bf J J J (bf J J J (bf J J J (bf J J J (bf J J J (bf J J J (an J (aG J J J (aG J J J (aI (bU J (aA (aW (ah (ae (ab J J (ao (r:=I ((j+1:Nat):Int)) J J J (by have e:((j+1:Nat):Int)=(j:Int)+1:=(by omega);rw[e];exact aY) (aa J J (ar (dC (j+1) ⟨J,J,J,trivial⟩ ⟨((((eL.trans x70).trans x16_10).trans xg17).trans x96),by omega⟩ (by omega)))))))))))))))))))))))))))))
   ·refine bJ (aV (aV (bP (ah (bc (aa J J (aI (aD (aF J J ?_)))))))))
    exact⟨_,J,J,((((((((x18.trans x29).trans x5_3).trans x39).trans x6_13).trans x48).trans x51).trans x58).trans eL)⟩
end Go.Rl
namespace Go.Proofs.YtddonikjkohphaaGreatDoor
open Go Go.RowKit Go.Rl
theorem Jf:Tryz.prog.globalNamed "math/bits.deBruijn32tab" =some 1:=by kernel_rfl
theorem Jg:(Tryz.prog.globals[1]?).map (·.type)=some 90:=by kernel_rfl
theorem Jh:Tryz.prog.cellsOf 90=32:=by kernel_rfl
theorem Ji:Tryz.prog.cellsOf 5=1:=by kernel_rfl
noncomputable def LW (os:Os):World:=
 {World.holding Tryz.prog os ⟨#[],#[],[]⟩ with heap:=(World.holding Tryz.prog os ⟨#[],#[],[]⟩).heap.modify 1 fun
  |.cells _ t frozen=>.cells #[.int .u8 0,.int .u8 1,.int .u8 28,.int .u8 2,.int .u8 29,.int .u8 14,.int .u8 24,.int .u8 3,.int .u8 30,.int .u8 22,.int .u8 20,.int .u8 15,.int .u8 25,.int .u8 17,.int .u8 4,.int .u8 8,.int .u8 31,.int .u8 27,.int .u8 13,.int .u8 23,.int .u8 21,.int .u8 19,.int .u8 16,.int .u8 7,.int .u8 26,.int .u8 12,.int .u8 18,.int .u8 6,.int .u8 11,.int .u8 5,.int .u8 10,.int .u8 9] t frozen
  |o=>o}
end Go.Proofs.YtddonikjkohphaaGreatDoor
namespace Go.Rl
open Go.RowKit Go.Proofs Go.Proofs.YtddonikjkohphaaGreatDoor
theorem nt.of_laid {W:World} (h:laidMetH Tryz.prog [("math/bits.deBruijn32tab",Rows.laid_math_bits_deBruijn32tab)] W):nt W:=by
 have hT:Lib.TabIs Tryz.prog W "math/bits.deBruijn32tab" .u8 [0,1,28,2,29,14,24,3,30,22,20,15,25,17,4,8,31,27,13,23,21,19,16,7,26,12,18,6,11,5,10,9]:=Lib.tabIs_of_head (rest:=[]) Jf Jg Tryz.underlying90 MZ Ji Jh h
 exact⟨hT.cell Jf 0 (by decide),hT.cell Jf 1 (by decide),hT.cell Jf 3 (by decide),hT.cell Jf 7 (by decide)⟩
end Go.Rl

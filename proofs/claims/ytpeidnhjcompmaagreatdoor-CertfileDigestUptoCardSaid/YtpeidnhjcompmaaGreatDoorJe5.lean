/- Part 5 of a proof: plain facts and walks of functions, merged by a program. Conditions: each lemma names its own. -/
import Derived.Test.YtpeidnhjcompmaaGreatDoorJe4
namespace Go.Rl
open Go.RowKit Go.Proofs
theorem Fi {t:pj} (hb:(jT t).bulk≤1048576) (hw:wTm t):(gc t).length≤10*(jT t).bulk:=by
 have h1:(jT t).bulk=t.co.2.1.length+t.co.2.2.length+6:=by simp only[jT,jV,Dt.bulk,Dt.bulkAll,pO];omega
 rw[h1] at hb⊢
 have h2:=pR hw
 have h3:=pQ (q:=t.co) (by omega) (by omega)
 unfold gc
 rw[List.length_append]
 omega
theorem Fj {f:ma} (hb:(dS f).bulk≤1048576) (hw:Ef f):(gd f).length≤10*(dS f).bulk:=by
 have h1:(dS f).bulk=Dt.bulkAll (f.ts.map jT)+f.ct.2.1.length+f.ct.2.2.length+6:=by simp only[dS,Dt.bulk,Dt.bulkAll,pO];omega
 rw[h1] at hb⊢
 have h2:=oJ (f:=jT) (e:=gc) (c:=10) f.ts fun a ha=>Fi (Nat.le_trans (rO ha) (by omega)) (hw a ha)
 have h3:=pQ (q:=f.ct) (by omega) (by omega)
 have h4:=lD (f.ts.map jT)
 rw[List.length_map] at h4
 have h5:=dO (n:=f.ts.length) (by omega)
 unfold gd
 simp only[List.length_append]
 omega
theorem nO {l:List ma} (hb:Dt.bulkAll (l.map dS)≤1048576) (hw:∀f∈l,Ef f):(bS l).length≤10*Dt.bulkAll (l.map dS)+10:=by
 have h2:=oJ (f:=dS) (e:=gd) (c:=10) l fun a ha=>Fj (Nat.le_trans (rO ha) hb) (hw a ha)
 have h4:=lD (l.map dS)
 rw[List.length_map] at h4
 have h5:=dO (n:=l.length) (by omega)
 unfold bS
 rw[List.length_append]
 omega
theorem zW {l:List d7} (hb:Dt.bulkAll (l.map cN)≤1048576):(d8 l).length≤10*Dt.bulkAll (l.map cN)+10:=by
 have h2:=oJ (f:=cN) (e:=eZ) (c:=10) l fun a ha=>by
  have h1:=Nat.le_trans (rO (f:=cN) ha) hb
  rw[pO] at h1⊢
  have:=pQ (q:=a) (by omega) (by omega)
  omega
 have h4:=lD (l.map cN)
 rw[List.length_map] at h4
 have h5:=dO (n:=l.length) (by omega)
 unfold d8
 rw[List.length_append]
 omega
theorem zX {q:Ee} (hb:(FO q).bulk≤1048576) (hw:GP q):(d9 q).length≤1099511627776:=by
 obtain⟨p1,p2,p3,p4,p5,p6,p7⟩:=hw
 have h1:(FO q).bulk=Dt.bulkAll (q.us.map dS)+Dt.bulkAll (q.os.map dS)+Dt.bulkAll (q.lo.map cN)+Dt.bulkAll (q.hi.map cN)+Dt.bulkAll (q.rs.map dS)+(q.mg.2.1.length+q.mg.2.2.length+4)+Dt.bulkAll (q.cs.map dS)+13:=by
  simp only[FO,jV,qX,Dt.bulk,Dt.bulkAll,pO];omega
 have hql:(d9 q).length=4+(cT q.inp).length+(bS q.us).length+(bS q.os).length+(d8 q.lo).length+(d8 q.hi).length+(bS q.rs).length+(cT q.kd).length+(cT q.tg).length+(eZ q.mg).length+(bS q.cs).length:=by simp only[d9,List.length_append];rfl
 have a1:=pR p1
 have a2:=nO (l:=q.us) (by omega) p2
 have a3:=nO (l:=q.os) (by omega) p3
 have a4:=zW (l:=q.lo) (by omega)
 have a5:=zW (l:=q.hi) (by omega)
 have a6:=nO (l:=q.rs) (by omega) p4
 have a7:=pR p5
 have a8:=pR p6
 have a9:=pQ (q:=q.mg) (by omega) (by omega)
 have a10:=nO (l:=q.cs) (by omega) p7
 omega
theorem kH:aw Tryz.prog 38:=⟨_,Tryz.func38,by kernel_rfl,rfl⟩
theorem xy {w:World} {a b:Ee} {vua voa vla vha vra xa ya vca vub vob vlb vhb vrb xb yb vcb:Value} (hua:dq dS a.us vua w) (hsa:dq dS a.os voa w) (hla:dq cN a.lo vla w) (hha:dq cN a.hi vha w) (hra:dq dS a.rs vra w) (hxa:bu a.mg.2.1 xa w) (hya:bu a.mg.2.2 ya w) (hca:dq dS a.cs vca w) (hwa:GP a) (hqa:(FO a).bulk≤1048576)
 (hub:dq dS b.us vub w) (hsb:dq dS b.os vob w) (hlb:dq cN b.lo vlb w) (hhb:dq cN b.hi vhb w) (hrb:dq dS b.rs vrb w) (hxb:bu b.mg.2.1 xb w) (hyb:bu b.mg.2.2 yb w) (hcb:dq dS b.cs vcb w) (hwb:GP b) (hqb:(FO b).bulk≤1048576) (_ho:GS w):
 Calls Tryz.prog 11 #[.agg #[I a.inp,vua,voa,vla,vha,vra,I a.kd,I a.tg,B a.mg.1,xa,ya,vca],.agg #[I b.inp,vub,vob,vlb,vhb,vrb,I b.kd,I b.tg,B b.mg.1,xb,yb,vcb]] w (bL fun r w'=>r=B true∧aE w w'):=by
 have hba0:=zX hqa hwa
 have hbb0:=zX hqb hwb
 have hba:(d9 a).length≤4398046511104:=by omega
 have hbb:(d9 b).length≤4398046511104:=by omega
 refine enter (vs:=[.agg #[I a.inp,vua,voa,vla,vha,vra,I a.kd,I a.tg,B a.mg.1,xa,ya,vca],.agg #[I b.inp,vub,vob,vlb,vhb,vrb,I b.kd,I b.tg,B b.mg.1,xb,yb,vcb]]) Tryz.func11 Ig Ig Ig ?_
 refine af (aa ?_)
 obtain⟨g2,w2,hr2,l2,x2,k2⟩:=cV (P:=Tryz.prog) (w:=w) (T:=82) (cs:=[I a.inp,vua,voa,vla,vha,vra,I a.kd,I a.tg,B a.mg.1,xa,ya,vca])
 refine cI Ig Ig hr2 ?_
 obtain⟨g3,w3,hr3,l3,x3,k3⟩:=cV (P:=Tryz.prog) (w:=w2) (T:=82) (cs:=[I b.inp,vub,vob,vlb,vhb,vrb,I b.kd,I b.tg,B b.mg.1,xb,yb,vcb])
 refine cI Ig Ig hr3 (ac Ig Ig (ag (ab (af (af (aa (ak kE Ig Ig (kF) ?_)))))))
 rintro v9 w9 ⟨x9,rfl⟩
 refine cx Ig Ig cZ (ae Ig Ig (ao Ig (am Ig Ig ((k2.ext (x3.trans x9)).ld HN Ig (by kernel_rfl)) ?_)))
 refine ao Ig (ak pm Ig Ig ((pn (hua.ext ((x2.trans x3).trans x9)) (hsa.ext ((x2.trans x3).trans x9)) (hla.ext ((x2.trans x3).trans x9)) (hha.ext ((x2.trans x3).trans x9)) (hra.ext ((x2.trans x3).trans x9)) (hxa.ext ((x2.trans x3).trans x9)) (hya.ext ((x2.trans x3).trans x9)) (hca.ext ((x2.trans x3).trans x9)))) ?_)
 rintro v13 w13 ⟨x13,c13,rfl⟩
 refine ao Ig (cx Ig Ig tL (aJ Ig Ig Ig (ae Ig Ig ?_)))
 refine dM (fun h16=>?_) (fun h16=>?_)
 ·refine ap Ig Ig Ig (ap Ig Ig Ig (ap Ig Ig Ig (aG Ig Ig Ig (ag (ab (ce Ig (af (aa (ak kE Ig Ig (kF) ?_)))))))))
  rintro v21 w21 ⟨x21,rfl⟩
  refine ac Ig Ig (ag (ab (ay (aB (aD Ig Ig ?_)))))
  exact⟨_,rfl,rfl,((((x2.trans x3).trans x9).trans x13).trans x21)⟩
 ·refine ao Ig (am Ig Ig ((k3.ext (x9.trans x13)).ld HN Ig (by kernel_rfl)) (ao Ig (ak pm Ig Ig ((pn (hub.ext (((x2.trans x3).trans x9).trans x13)) (hsb.ext (((x2.trans x3).trans x9).trans x13)) (hlb.ext (((x2.trans x3).trans x9).trans x13)) (hhb.ext (((x2.trans x3).trans x9).trans x13)) (hrb.ext (((x2.trans x3).trans x9).trans x13)) (hxb.ext (((x2.trans x3).trans x9).trans x13)) (hyb.ext (((x2.trans x3).trans x9).trans x13)) (hcb.ext (((x2.trans x3).trans x9).trans x13)))) ?_)))
  rintro v18 w18 ⟨x18,c18,rfl⟩
  refine ao Ig (cx Ig Ig tL (aJ Ig Ig Ig (ag (ab ?_))))
  refine bi Ig (fun h20=>?_) (fun h20=>?_)
  ·refine af (aa (ak kE Ig Ig (kF) ?_))
   rintro v21 w21 ⟨x21,rfl⟩
   refine ac Ig Ig (ag (ab (ay (aB (aD Ig Ig ?_)))))
   exact⟨_,rfl,rfl,(((((x2.trans x3).trans x9).trans x13).trans x18).trans x21)⟩
  ·refine ax (ab (af ?_))
   have e3w:=((((x2.trans x3).trans x9).trans x13).trans x18)
   refine bk 15 [2,3,5,35] (by kernel_rfl) (by kernel_rfl) ?_
   refine aA rfl rfl (fun w hw=>aI (o:=0) Tryz.underlying82 rfl (by kernel_rfl) rfl) (av rfl rfl (fun w hw=>((k2.ext (((x3.trans x9).trans x13).trans x18)).ext hw).ldO (ms:=[I a.inp,vua,voa]) (o:=0) (fun j v hj=>by rcases j with _|_|_|_|_|_|_|_|_|j<;>simp_all) Tryz.underlying75 rfl (by kernel_rfl)) ?_)
   refine aA rfl rfl (fun w hw=>aI (o:=3) Tryz.underlying82 rfl (by kernel_rfl) rfl) (av rfl rfl (fun w hw=>((k2.ext (((x3.trans x9).trans x13).trans x18)).ext hw).ldO (ms:=[vla,vha,vra]) (o:=3) (fun j v hj=>by rcases j with _|_|_|_|_|_|_|_|_|j<;>simp_all) Tryz.underlying78 rfl (by kernel_rfl)) ?_)
   refine aA rfl rfl (fun w hw=>aI (o:=6) Tryz.underlying82 rfl (by kernel_rfl) rfl) (av rfl rfl (fun w hw=>((k2.ext (((x3.trans x9).trans x13).trans x18)).ext hw).ldO (ms:=[I a.kd,I a.tg,B a.mg.1,xa,ya,vca]) (o:=6) (fun j v hj=>by rcases j with _|_|_|_|_|_|_|_|_|j<;>simp_all) Tryz.underlying80 rfl (by kernel_rfl)) ?_)
   refine bM (S:=bQ (d9 a)) xu (bQ.stable _) rfl (fun w hw=>by rintro _ rfl _ rfl _ rfl;exact xv ((hua.ext e3w).ext hw) ((hsa.ext e3w).ext hw) ((hla.ext e3w).ext hw) ((hha.ext e3w).ext hw) ((hra.ext e3w).ext hw) ((hxa.ext e3w).ext hw) ((hya.ext e3w).ext hw) ((hca.ext e3w).ext hw) hwa hba) ?_
   refine aA rfl rfl (fun w hw=>aI (o:=0) Tryz.underlying82 rfl (by kernel_rfl) rfl) (av rfl rfl (fun w hw=>((k3.ext ((x9.trans x13).trans x18)).ext hw).ldO (ms:=[I b.inp,vub,vob]) (o:=0) (fun j v hj=>by rcases j with _|_|_|_|_|_|_|_|_|j<;>simp_all) Tryz.underlying75 rfl (by kernel_rfl)) ?_)
   refine aA rfl rfl (fun w hw=>aI (o:=3) Tryz.underlying82 rfl (by kernel_rfl) rfl) (av rfl rfl (fun w hw=>((k3.ext ((x9.trans x13).trans x18)).ext hw).ldO (ms:=[vlb,vhb,vrb]) (o:=3) (fun j v hj=>by rcases j with _|_|_|_|_|_|_|_|_|j<;>simp_all) Tryz.underlying78 rfl (by kernel_rfl)) ?_)
   refine aA rfl rfl (fun w hw=>aI (o:=6) Tryz.underlying82 rfl (by kernel_rfl) rfl) (av rfl rfl (fun w hw=>((k3.ext ((x9.trans x13).trans x18)).ext hw).ldO (ms:=[I b.kd,I b.tg,B b.mg.1,xb,yb,vcb]) (o:=6) (fun j v hj=>by rcases j with _|_|_|_|_|_|_|_|_|j<;>simp_all) Tryz.underlying80 rfl (by kernel_rfl)) ?_)
   refine bM (S:=bQ (d9 b)) xu (bQ.stable _) rfl (fun w hw=>by rintro _ rfl _ rfl _ rfl;exact xv ((hub.ext e3w).ext hw) ((hsb.ext e3w).ext hw) ((hlb.ext e3w).ext hw) ((hhb.ext e3w).ext hw) ((hrb.ext e3w).ext hw) ((hxb.ext e3w).ext hw) ((hyb.ext e3w).ext hw) ((hcb.ext e3w).ext hw) hwb hbb) ?_
   refine du Ig Ig (bn ?_)
   intro wg3 xg3
   rintro _ rfl
   rintro _ rfl
   intro vg5 bva
   intro vg35 bvb
   refine ac Ig Ig (ag (ab (af ?_)))
   have eWw:=(((((x2.trans x3).trans x9).trans x13).trans x18).trans xg3)
   have k2W:bI g2 82 [I a.inp,vua,voa,vla,vha,vra,I a.kd,I a.tg,B a.mg.1,xa,ya,vca] wg3:=k2.ext (((((x3.trans x9).trans x13).trans x18).trans xg3))
   have k3W:bI g3 82 [I b.inp,vub,vob,vlb,vhb,vrb,I b.kd,I b.tg,B b.mg.1,xb,yb,vcb] wg3:=k3.ext ((((x9.trans x13).trans x18).trans xg3))
   obtain⟨va,hva⟩:∃v,v=vg5:=⟨_,rfl⟩
   obtain⟨vb,hvb⟩:∃v,v=vg35:=⟨_,rfl⟩
   rw[←hva] at bva⊢
   rw[←hvb] at bvb⊢
   have eD:aE wg3 wg3.drew:=(aE.refl wg3).drew
   have eWD:=eWw.trans eD
   have hS:bI g2 82 [I a.inp,vua,voa,vla,vha,vra,I a.kd,I a.tg,B a.mg.1,xa,ya,vca] wg3.drew∧bI g3 82 [I b.inp,vub,vob,vlb,vhb,vrb,I b.kd,I b.tg,B b.mg.1,xb,yb,vcb] wg3.drew:=⟨k2W.ext eD,k3W.ext eD⟩
   refine t6 (fun w1=>bI g2 82 [I a.inp,vua,voa,vla,vha,vra,I a.kd,I a.tg,B a.mg.1,xa,ya,vca] w1∧bI g3 82 [I b.inp,vub,vob,vlb,vhb,vrb,I b.kd,I b.tg,B b.mg.1,xb,yb,vcb] w1) 18 Ig (by kernel_rfl) ?_
   refine cM 0 Ig Ig (by kernel_rfl) Ig hS (fun _ _=>aI (o:=0) HN Ig (by kernel_rfl) Ig) ?_
   refine fN 1 rfl rfl (by kernel_rfl) rfl hS (fun _ hw=>hw.1.ldO (ms:=[I a.inp,vua,voa]) (o:=0) (fun j v hj=>by rcases j with _|_|_|_|_|_|j<;>simp_all) Tryz.underlying75 rfl (by kernel_rfl)) ?_
   refine cM 2 Ig Ig (by kernel_rfl) Ig hS (fun _ _=>aI (o:=3) HN Ig (by kernel_rfl) Ig) ?_
   refine fN 3 rfl rfl (by kernel_rfl) rfl hS (fun _ hw=>hw.1.ldO (ms:=[vla,vha,vra]) (o:=3) (fun j v hj=>by rcases j with _|_|_|_|_|_|j<;>simp_all) Tryz.underlying78 rfl (by kernel_rfl)) ?_
   refine cM 4 Ig Ig (by kernel_rfl) Ig hS (fun _ _=>aI (o:=6) HN Ig (by kernel_rfl) Ig) ?_
   refine fN 5 rfl rfl (by kernel_rfl) rfl hS (fun _ hw=>hw.1.ldO (ms:=[I a.kd,I a.tg,B a.mg.1,xa,ya,vca]) (o:=6) (fun j v hj=>by rcases j with _|_|_|_|_|_|j<;>simp_all) Tryz.underlying80 rfl (by kernel_rfl)) ?_
   refine cM 7 Ig Ig (by kernel_rfl) Ig hS (fun _ _=>aI (o:=0) HN Ig (by kernel_rfl) Ig) ?_
   refine fN 8 rfl rfl (by kernel_rfl) rfl hS (fun _ hw=>hw.2.ldO (ms:=[I b.inp,vub,vob]) (o:=0) (fun j v hj=>by rcases j with _|_|_|_|_|_|j<;>simp_all) Tryz.underlying75 rfl (by kernel_rfl)) ?_
   refine cM 9 Ig Ig (by kernel_rfl) Ig hS (fun _ _=>aI (o:=3) HN Ig (by kernel_rfl) Ig) ?_
   refine fN 10 rfl rfl (by kernel_rfl) rfl hS (fun _ hw=>hw.2.ldO (ms:=[vlb,vhb,vrb]) (o:=3) (fun j v hj=>by rcases j with _|_|_|_|_|_|j<;>simp_all) Tryz.underlying78 rfl (by kernel_rfl)) ?_
   refine cM 11 Ig Ig (by kernel_rfl) Ig hS (fun _ _=>aI (o:=6) HN Ig (by kernel_rfl) Ig) ?_
   refine fN 12 rfl rfl (by kernel_rfl) rfl hS (fun _ hw=>hw.2.ldO (ms:=[I b.kd,I b.tg,B b.mg.1,xb,yb,vcb]) (o:=6) (fun j v hj=>by rcases j with _|_|_|_|_|_|j<;>simp_all) Tryz.underlying80 rfl (by kernel_rfl)) ?_
   refine t7 (fun(z:Nat×Nat)=>[(5,va),(6,vb),(42,.agg ((gM (d9 a)).map U8).toArray),(49,.agg ((gM (d9 b)).map U8).toArray),(7,.pointer (some ⟨z.1,0,none⟩)),(8,.pointer (some ⟨z.2,0,none⟩))]) (fun(z:Nat×Nat) w1=>aE wg3 w1∧bI z.1 24 (gN.map U8) w1∧bI z.2 24 (gN.map U8) w1∧z.1≠z.2∧wg3.heap.size≤z.1∧wg3.heap.size≤z.2) #[true,true,true,true,true,true,true,true,true,true,true,true,true,true,true,true,false,false] 2 ?_ (fun hk=>?_)
   rotate_left
   ·refine zV 6 14 15 (by kernel_rfl) Ig Ig Ig ?_ ?_ ?_
    ·refine ak cX Ig Ig (cY (q:=a) (hua.ext (eWD.trans (aE.refl wg3.drew))) (hsa.ext (eWD.trans (aE.refl wg3.drew))) (hla.ext (eWD.trans (aE.refl wg3.drew))) (hha.ext (eWD.trans (aE.refl wg3.drew))) (hra.ext (eWD.trans (aE.refl wg3.drew))) (hxa.ext (eWD.trans (aE.refl wg3.drew))) (hya.ext (eWD.trans (aE.refl wg3.drew))) (hca.ext (eWD.trans (aE.refl wg3.drew))) hwa hba) ?_
     rintro vv1 wz1 ⟨x1,rfl⟩
     have ez1:aE wg3.drew wz1:=(aE.refl wg3.drew).trans x1
     refine aX ⟨hS.1.ext ez1,hS.2.ext ez1⟩ ?_
     refine zV 13 14 15 (by kernel_rfl) Ig Ig Ig ?_ ?_ ?_
     ·refine ak cX Ig Ig (cY (q:=b) (hub.ext (eWD.trans ez1)) (hsb.ext (eWD.trans ez1)) (hlb.ext (eWD.trans ez1)) (hhb.ext (eWD.trans ez1)) (hrb.ext (eWD.trans ez1)) (hxb.ext (eWD.trans ez1)) (hyb.ext (eWD.trans ez1)) (hcb.ext (eWD.trans ez1)) hwb hbb) ?_
      rintro vv2 wz2 ⟨x2,rfl⟩
      have ez2:aE wg3.drew wz2:=ez1.trans x2
      refine aX ⟨hS.1.ext ez2,hS.2.ext ez2⟩ ?_
      refine kR 14 15 (by kernel_rfl) Ig Ig ?_ ?_
      ·obtain⟨g7_3,wz3,hr3,l3,x3,k7_3⟩:=aR (P:=Tryz.prog) (w:=wz2) (t:=24) (l:=gN.map U8) dt rfl
       have ez3:aE wg3.drew wz3:=ez2.trans x3
       refine aU Ig hr3 (aX ⟨hS.1.ext ez3,hS.2.ext ez3⟩ ?_)
       have ll3:wg3.heap.size≤g7_3:=by have:=(eD.trans ez2).size;omega
       obtain⟨g8_4,wz4,hr4,l4,x4,k8_4⟩:=aR (P:=Tryz.prog) (w:=wz3) (t:=24) (l:=gN.map U8) dt rfl
       have ez4:aE wg3.drew wz4:=ez3.trans x4
       refine cv 15 (by kernel_rfl) Ig (aU Ig hr4 (aX ⟨hS.1.ext ez4,hS.2.ext ez4⟩ ?_))
       have k7_4:=k7_3.ext x4
       have ll4:wg3.heap.size≤g8_4:=by have:=(eD.trans ez3).size;omega
       have ne4:g7_3≠g8_4:=by have:=k7_3.lt;omega
       exact hk _ _ ⟨(g7_3,g8_4),⟨rfl,rfl,rfl,rfl,rfl,rfl,trivial⟩,eD.trans ez4,k7_4,k8_4,ne4,ll3,ll4⟩
      ·obtain⟨g8_5,wz5,hr5,l5,x5,k8_5⟩:=aR (P:=Tryz.prog) (w:=wz2) (t:=24) (l:=gN.map U8) dt rfl
       have ez5:aE wg3.drew wz5:=ez2.trans x5
       refine aU Ig hr5 (aX ⟨hS.1.ext ez5,hS.2.ext ez5⟩ ?_)
       have ll5:wg3.heap.size≤g8_5:=by have:=(eD.trans ez2).size;omega
       obtain⟨g7_6,wz6,hr6,l6,x6,k7_6⟩:=aR (P:=Tryz.prog) (w:=wz5) (t:=24) (l:=gN.map U8) dt rfl
       have ez6:aE wg3.drew wz6:=ez5.trans x6
       refine cv 14 (by kernel_rfl) Ig (aU Ig hr6 (aX ⟨hS.1.ext ez6,hS.2.ext ez6⟩ ?_))
       have k8_6:=k8_5.ext x6
       have ll6:wg3.heap.size≤g7_6:=by have:=(eD.trans ez5).size;omega
       have ne6:g7_6≠g8_5:=by have:=k8_5.lt;omega
       exact hk _ _ ⟨(g7_6,g8_5),⟨rfl,rfl,rfl,rfl,rfl,rfl,trivial⟩,eD.trans ez6,k7_6,k8_6,ne6,ll6,ll5⟩
     ·obtain⟨g7_7,wz7,hr7,l7,x7,k7_7⟩:=aR (P:=Tryz.prog) (w:=wz1) (t:=24) (l:=gN.map U8) dt rfl
      have ez7:aE wg3.drew wz7:=ez1.trans x7
      refine aU Ig hr7 (aX ⟨hS.1.ext ez7,hS.2.ext ez7⟩ ?_)
      have ll7:wg3.heap.size≤g7_7:=by have:=(eD.trans ez1).size;omega
      refine kR 13 15 (by kernel_rfl) Ig Ig ?_ ?_
      ·refine ak cX Ig Ig (cY (q:=b) (hub.ext (eWD.trans ez7)) (hsb.ext (eWD.trans ez7)) (hlb.ext (eWD.trans ez7)) (hhb.ext (eWD.trans ez7)) (hrb.ext (eWD.trans ez7)) (hxb.ext (eWD.trans ez7)) (hyb.ext (eWD.trans ez7)) (hcb.ext (eWD.trans ez7)) hwb hbb) ?_
       rintro vv8 wz8 ⟨x8,rfl⟩
       have ez8:aE wg3.drew wz8:=ez7.trans x8
       refine aX ⟨hS.1.ext ez8,hS.2.ext ez8⟩ ?_
       have k7_8:=k7_7.ext x8
       obtain⟨g8_9,wz9,hr9,l9,x9,k8_9⟩:=aR (P:=Tryz.prog) (w:=wz8) (t:=24) (l:=gN.map U8) dt rfl
       have ez9:aE wg3.drew wz9:=ez8.trans x9
       refine cv 15 (by kernel_rfl) Ig (aU Ig hr9 (aX ⟨hS.1.ext ez9,hS.2.ext ez9⟩ ?_))
       have k7_9:=k7_8.ext x9
       have ll9:wg3.heap.size≤g8_9:=by have:=(eD.trans ez8).size;omega
       have ne9:g7_7≠g8_9:=by have:=k7_8.lt;omega
       exact hk _ _ ⟨(g7_7,g8_9),⟨rfl,rfl,rfl,rfl,rfl,rfl,trivial⟩,eD.trans ez9,k7_9,k8_9,ne9,ll7,ll9⟩
      ·obtain⟨g8_10,wz10,hr10,l10,x10,k8_10⟩:=aR (P:=Tryz.prog) (w:=wz7) (t:=24) (l:=gN.map U8) dt rfl
       have ez10:aE wg3.drew wz10:=ez7.trans x10
       refine aU Ig hr10 (aX ⟨hS.1.ext ez10,hS.2.ext ez10⟩ ?_)
       have k7_10:=k7_7.ext x10
       have ll10:wg3.heap.size≤g8_10:=by have:=(eD.trans ez7).size;omega
       have ne10:g7_7≠g8_10:=by have:=k7_7.lt;omega
       refine cv 13 (by kernel_rfl) Ig (ak cX Ig Ig (cY (q:=b) (hub.ext (eWD.trans ez10)) (hsb.ext (eWD.trans ez10)) (hlb.ext (eWD.trans ez10)) (hhb.ext (eWD.trans ez10)) (hrb.ext (eWD.trans ez10)) (hxb.ext (eWD.trans ez10)) (hyb.ext (eWD.trans ez10)) (hcb.ext (eWD.trans ez10)) hwb hbb) ?_)
       rintro vv11 wz11 ⟨x11,rfl⟩
       have ez11:aE wg3.drew wz11:=ez10.trans x11
       refine aX ⟨hS.1.ext ez11,hS.2.ext ez11⟩ ?_
       have k7_11:=k7_10.ext x11
       have k8_11:=k8_10.ext x11
       exact hk _ _ ⟨(g7_7,g8_10),⟨rfl,rfl,rfl,rfl,rfl,rfl,trivial⟩,eD.trans ez11,k7_11,k8_11,ne10,ll7,ll10⟩
     ·obtain⟨g8_12,wz12,hr12,l12,x12,k8_12⟩:=aR (P:=Tryz.prog) (w:=wz1) (t:=24) (l:=gN.map U8) dt rfl
      have ez12:aE wg3.drew wz12:=ez1.trans x12
      refine aU Ig hr12 (aX ⟨hS.1.ext ez12,hS.2.ext ez12⟩ ?_)
      have ll12:wg3.heap.size≤g8_12:=by have:=(eD.trans ez1).size;omega
      refine kR 13 14 (by kernel_rfl) Ig Ig ?_ ?_
      ·refine ak cX Ig Ig (cY (q:=b) (hub.ext (eWD.trans ez12)) (hsb.ext (eWD.trans ez12)) (hlb.ext (eWD.trans ez12)) (hhb.ext (eWD.trans ez12)) (hrb.ext (eWD.trans ez12)) (hxb.ext (eWD.trans ez12)) (hyb.ext (eWD.trans ez12)) (hcb.ext (eWD.trans ez12)) hwb hbb) ?_
       rintro vv13 wz13 ⟨x13,rfl⟩
       have ez13:aE wg3.drew wz13:=ez12.trans x13
       refine aX ⟨hS.1.ext ez13,hS.2.ext ez13⟩ ?_
       have k8_13:=k8_12.ext x13
       obtain⟨g7_14,wz14,hr14,l14,x14,k7_14⟩:=aR (P:=Tryz.prog) (w:=wz13) (t:=24) (l:=gN.map U8) dt rfl
       have ez14:aE wg3.drew wz14:=ez13.trans x14
       refine cv 14 (by kernel_rfl) Ig (aU Ig hr14 (aX ⟨hS.1.ext ez14,hS.2.ext ez14⟩ ?_))
       have k8_14:=k8_13.ext x14
       have ll14:wg3.heap.size≤g7_14:=by have:=(eD.trans ez13).size;omega
       have ne14:g7_14≠g8_12:=by have:=k8_13.lt;omega
       exact hk _ _ ⟨(g7_14,g8_12),⟨rfl,rfl,rfl,rfl,rfl,rfl,trivial⟩,eD.trans ez14,k7_14,k8_14,ne14,ll14,ll12⟩
      ·obtain⟨g7_15,wz15,hr15,l15,x15,k7_15⟩:=aR (P:=Tryz.prog) (w:=wz12) (t:=24) (l:=gN.map U8) dt rfl
       have ez15:aE wg3.drew wz15:=ez12.trans x15
       refine aU Ig hr15 (aX ⟨hS.1.ext ez15,hS.2.ext ez15⟩ ?_)
       have k8_15:=k8_12.ext x15
       have ll15:wg3.heap.size≤g7_15:=by have:=(eD.trans ez12).size;omega
       have ne15:g7_15≠g8_12:=by have:=k8_12.lt;omega
       refine cv 13 (by kernel_rfl) Ig (ak cX Ig Ig (cY (q:=b) (hub.ext (eWD.trans ez15)) (hsb.ext (eWD.trans ez15)) (hlb.ext (eWD.trans ez15)) (hhb.ext (eWD.trans ez15)) (hrb.ext (eWD.trans ez15)) (hxb.ext (eWD.trans ez15)) (hyb.ext (eWD.trans ez15)) (hcb.ext (eWD.trans ez15)) hwb hbb) ?_)
       rintro vv16 wz16 ⟨x16,rfl⟩
       have ez16:aE wg3.drew wz16:=ez15.trans x16
       refine aX ⟨hS.1.ext ez16,hS.2.ext ez16⟩ ?_
       have k7_16:=k7_15.ext x16
       have k8_16:=k8_15.ext x16
       exact hk _ _ ⟨(g7_15,g8_12),⟨rfl,rfl,rfl,rfl,rfl,rfl,trivial⟩,eD.trans ez16,k7_16,k8_16,ne15,ll15,ll12⟩
    ·obtain⟨g7_17,wz17,hr17,l17,x17,k7_17⟩:=aR (P:=Tryz.prog) (w:=wg3.drew) (t:=24) (l:=gN.map U8) dt rfl
     have ez17:aE wg3.drew wz17:=(aE.refl wg3.drew).trans x17
     refine aU Ig hr17 (aX ⟨hS.1.ext ez17,hS.2.ext ez17⟩ ?_)
     have ll17:wg3.heap.size≤g7_17:=by have:=(eD.trans (aE.refl wg3.drew)).size;omega
     refine kR 6 15 (by kernel_rfl) Ig Ig ?_ ?_
     ·refine ak cX Ig Ig (cY (q:=a) (hua.ext (eWD.trans ez17)) (hsa.ext (eWD.trans ez17)) (hla.ext (eWD.trans ez17)) (hha.ext (eWD.trans ez17)) (hra.ext (eWD.trans ez17)) (hxa.ext (eWD.trans ez17)) (hya.ext (eWD.trans ez17)) (hca.ext (eWD.trans ez17)) hwa hba) ?_
      rintro vv18 wz18 ⟨x18,rfl⟩
      have ez18:aE wg3.drew wz18:=ez17.trans x18
      refine aX ⟨hS.1.ext ez18,hS.2.ext ez18⟩ ?_
      have k7_18:=k7_17.ext x18
      refine kR 13 15 (by kernel_rfl) Ig Ig ?_ ?_
      ·refine ak cX Ig Ig (cY (q:=b) (hub.ext (eWD.trans ez18)) (hsb.ext (eWD.trans ez18)) (hlb.ext (eWD.trans ez18)) (hhb.ext (eWD.trans ez18)) (hrb.ext (eWD.trans ez18)) (hxb.ext (eWD.trans ez18)) (hyb.ext (eWD.trans ez18)) (hcb.ext (eWD.trans ez18)) hwb hbb) ?_
       rintro vv19 wz19 ⟨x19,rfl⟩
       have ez19:aE wg3.drew wz19:=ez18.trans x19
       refine aX ⟨hS.1.ext ez19,hS.2.ext ez19⟩ ?_
       have k7_19:=k7_18.ext x19
       obtain⟨g8_20,wz20,hr20,l20,x20,k8_20⟩:=aR (P:=Tryz.prog) (w:=wz19) (t:=24) (l:=gN.map U8) dt rfl
       have ez20:aE wg3.drew wz20:=ez19.trans x20
       refine cv 15 (by kernel_rfl) Ig (aU Ig hr20 (aX ⟨hS.1.ext ez20,hS.2.ext ez20⟩ ?_))
       have k7_20:=k7_19.ext x20
       have ll20:wg3.heap.size≤g8_20:=by have:=(eD.trans ez19).size;omega
       have ne20:g7_17≠g8_20:=by have:=k7_19.lt;omega
       exact hk _ _ ⟨(g7_17,g8_20),⟨rfl,rfl,rfl,rfl,rfl,rfl,trivial⟩,eD.trans ez20,k7_20,k8_20,ne20,ll17,ll20⟩
      ·obtain⟨g8_21,wz21,hr21,l21,x21,k8_21⟩:=aR (P:=Tryz.prog) (w:=wz18) (t:=24) (l:=gN.map U8) dt rfl
       have ez21:aE wg3.drew wz21:=ez18.trans x21
       refine aU Ig hr21 (aX ⟨hS.1.ext ez21,hS.2.ext ez21⟩ ?_)
       have k7_21:=k7_18.ext x21
       have ll21:wg3.heap.size≤g8_21:=by have:=(eD.trans ez18).size;omega
       have ne21:g7_17≠g8_21:=by have:=k7_18.lt;omega
       refine cv 13 (by kernel_rfl) Ig (ak cX Ig Ig (cY (q:=b) (hub.ext (eWD.trans ez21)) (hsb.ext (eWD.trans ez21)) (hlb.ext (eWD.trans ez21)) (hhb.ext (eWD.trans ez21)) (hrb.ext (eWD.trans ez21)) (hxb.ext (eWD.trans ez21)) (hyb.ext (eWD.trans ez21)) (hcb.ext (eWD.trans ez21)) hwb hbb) ?_)
       rintro vv22 wz22 ⟨x22,rfl⟩
       have ez22:aE wg3.drew wz22:=ez21.trans x22
       refine aX ⟨hS.1.ext ez22,hS.2.ext ez22⟩ ?_
       have k7_22:=k7_21.ext x22
       have k8_22:=k8_21.ext x22
       exact hk _ _ ⟨(g7_17,g8_21),⟨rfl,rfl,rfl,rfl,rfl,rfl,trivial⟩,eD.trans ez22,k7_22,k8_22,ne21,ll17,ll21⟩
     ·obtain⟨g8_23,wz23,hr23,l23,x23,k8_23⟩:=aR (P:=Tryz.prog) (w:=wz17) (t:=24) (l:=gN.map U8) dt rfl
      have ez23:aE wg3.drew wz23:=ez17.trans x23
      refine aU Ig hr23 (aX ⟨hS.1.ext ez23,hS.2.ext ez23⟩ ?_)
      have k7_23:=k7_17.ext x23
      have ll23:wg3.heap.size≤g8_23:=by have:=(eD.trans ez17).size;omega
      have ne23:g7_17≠g8_23:=by have:=k7_17.lt;omega
      refine cv 6 (by kernel_rfl) Ig (ak cX Ig Ig (cY (q:=a) (hua.ext (eWD.trans ez23)) (hsa.ext (eWD.trans ez23)) (hla.ext (eWD.trans ez23)) (hha.ext (eWD.trans ez23)) (hra.ext (eWD.trans ez23)) (hxa.ext (eWD.trans ez23)) (hya.ext (eWD.trans ez23)) (hca.ext (eWD.trans ez23)) hwa hba) ?_)
      rintro vv24 wz24 ⟨x24,rfl⟩
      have ez24:aE wg3.drew wz24:=ez23.trans x24
      refine aX ⟨hS.1.ext ez24,hS.2.ext ez24⟩ ?_
      have k7_24:=k7_23.ext x24
      have k8_24:=k8_23.ext x24
      refine cv 13 (by kernel_rfl) Ig (ak cX Ig Ig (cY (q:=b) (hub.ext (eWD.trans ez24)) (hsb.ext (eWD.trans ez24)) (hlb.ext (eWD.trans ez24)) (hhb.ext (eWD.trans ez24)) (hrb.ext (eWD.trans ez24)) (hxb.ext (eWD.trans ez24)) (hyb.ext (eWD.trans ez24)) (hcb.ext (eWD.trans ez24)) hwb hbb) ?_)
      rintro vv25 wz25 ⟨x25,rfl⟩
      have ez25:aE wg3.drew wz25:=ez24.trans x25
      refine aX ⟨hS.1.ext ez25,hS.2.ext ez25⟩ ?_
      have k7_25:=k7_24.ext x25
      have k8_25:=k8_24.ext x25
      exact hk _ _ ⟨(g7_17,g8_23),⟨rfl,rfl,rfl,rfl,rfl,rfl,trivial⟩,eD.trans ez25,k7_25,k8_25,ne23,ll17,ll23⟩
    ·obtain⟨g8_26,wz26,hr26,l26,x26,k8_26⟩:=aR (P:=Tryz.prog) (w:=wg3.drew) (t:=24) (l:=gN.map U8) dt rfl
     have ez26:aE wg3.drew wz26:=(aE.refl wg3.drew).trans x26
     refine aU Ig hr26 (aX ⟨hS.1.ext ez26,hS.2.ext ez26⟩ ?_)
     have ll26:wg3.heap.size≤g8_26:=by have:=(eD.trans (aE.refl wg3.drew)).size;omega
     refine kR 6 14 (by kernel_rfl) Ig Ig ?_ ?_
     ·refine ak cX Ig Ig (cY (q:=a) (hua.ext (eWD.trans ez26)) (hsa.ext (eWD.trans ez26)) (hla.ext (eWD.trans ez26)) (hha.ext (eWD.trans ez26)) (hra.ext (eWD.trans ez26)) (hxa.ext (eWD.trans ez26)) (hya.ext (eWD.trans ez26)) (hca.ext (eWD.trans ez26)) hwa hba) ?_
      rintro vv27 wz27 ⟨x27,rfl⟩
      have ez27:aE wg3.drew wz27:=ez26.trans x27
      refine aX ⟨hS.1.ext ez27,hS.2.ext ez27⟩ ?_
      have k8_27:=k8_26.ext x27
      refine kR 13 14 (by kernel_rfl) Ig Ig ?_ ?_
      ·refine ak cX Ig Ig (cY (q:=b) (hub.ext (eWD.trans ez27)) (hsb.ext (eWD.trans ez27)) (hlb.ext (eWD.trans ez27)) (hhb.ext (eWD.trans ez27)) (hrb.ext (eWD.trans ez27)) (hxb.ext (eWD.trans ez27)) (hyb.ext (eWD.trans ez27)) (hcb.ext (eWD.trans ez27)) hwb hbb) ?_
       rintro vv28 wz28 ⟨x28,rfl⟩
       have ez28:aE wg3.drew wz28:=ez27.trans x28
       refine aX ⟨hS.1.ext ez28,hS.2.ext ez28⟩ ?_
       have k8_28:=k8_27.ext x28
       obtain⟨g7_29,wz29,hr29,l29,x29,k7_29⟩:=aR (P:=Tryz.prog) (w:=wz28) (t:=24) (l:=gN.map U8) dt rfl
       have ez29:aE wg3.drew wz29:=ez28.trans x29
       refine cv 14 (by kernel_rfl) Ig (aU Ig hr29 (aX ⟨hS.1.ext ez29,hS.2.ext ez29⟩ ?_))
       have k8_29:=k8_28.ext x29
       have ll29:wg3.heap.size≤g7_29:=by have:=(eD.trans ez28).size;omega
       have ne29:g7_29≠g8_26:=by have:=k8_28.lt;omega
       exact hk _ _ ⟨(g7_29,g8_26),⟨rfl,rfl,rfl,rfl,rfl,rfl,trivial⟩,eD.trans ez29,k7_29,k8_29,ne29,ll29,ll26⟩
      ·obtain⟨g7_30,wz30,hr30,l30,x30,k7_30⟩:=aR (P:=Tryz.prog) (w:=wz27) (t:=24) (l:=gN.map U8) dt rfl
       have ez30:aE wg3.drew wz30:=ez27.trans x30
       refine aU Ig hr30 (aX ⟨hS.1.ext ez30,hS.2.ext ez30⟩ ?_)
       have k8_30:=k8_27.ext x30
       have ll30:wg3.heap.size≤g7_30:=by have:=(eD.trans ez27).size;omega
       have ne30:g7_30≠g8_26:=by have:=k8_27.lt;omega
       refine cv 13 (by kernel_rfl) Ig (ak cX Ig Ig (cY (q:=b) (hub.ext (eWD.trans ez30)) (hsb.ext (eWD.trans ez30)) (hlb.ext (eWD.trans ez30)) (hhb.ext (eWD.trans ez30)) (hrb.ext (eWD.trans ez30)) (hxb.ext (eWD.trans ez30)) (hyb.ext (eWD.trans ez30)) (hcb.ext (eWD.trans ez30)) hwb hbb) ?_)
       rintro vv31 wz31 ⟨x31,rfl⟩
       have ez31:aE wg3.drew wz31:=ez30.trans x31
       refine aX ⟨hS.1.ext ez31,hS.2.ext ez31⟩ ?_
       have k7_31:=k7_30.ext x31
       have k8_31:=k8_30.ext x31
       exact hk _ _ ⟨(g7_30,g8_26),⟨rfl,rfl,rfl,rfl,rfl,rfl,trivial⟩,eD.trans ez31,k7_31,k8_31,ne30,ll30,ll26⟩
     ·obtain⟨g7_32,wz32,hr32,l32,x32,k7_32⟩:=aR (P:=Tryz.prog) (w:=wz26) (t:=24) (l:=gN.map U8) dt rfl
      have ez32:aE wg3.drew wz32:=ez26.trans x32
      refine aU Ig hr32 (aX ⟨hS.1.ext ez32,hS.2.ext ez32⟩ ?_)
      have k8_32:=k8_26.ext x32
      have ll32:wg3.heap.size≤g7_32:=by have:=(eD.trans ez26).size;omega
      have ne32:g7_32≠g8_26:=by have:=k8_26.lt;omega
      refine cv 6 (by kernel_rfl) Ig (ak cX Ig Ig (cY (q:=a) (hua.ext (eWD.trans ez32)) (hsa.ext (eWD.trans ez32)) (hla.ext (eWD.trans ez32)) (hha.ext (eWD.trans ez32)) (hra.ext (eWD.trans ez32)) (hxa.ext (eWD.trans ez32)) (hya.ext (eWD.trans ez32)) (hca.ext (eWD.trans ez32)) hwa hba) ?_)
      rintro vv33 wz33 ⟨x33,rfl⟩
      have ez33:aE wg3.drew wz33:=ez32.trans x33
      refine aX ⟨hS.1.ext ez33,hS.2.ext ez33⟩ ?_
      have k7_33:=k7_32.ext x33
      have k8_33:=k8_32.ext x33
      refine cv 13 (by kernel_rfl) Ig (ak cX Ig Ig (cY (q:=b) (hub.ext (eWD.trans ez33)) (hsb.ext (eWD.trans ez33)) (hlb.ext (eWD.trans ez33)) (hhb.ext (eWD.trans ez33)) (hrb.ext (eWD.trans ez33)) (hxb.ext (eWD.trans ez33)) (hyb.ext (eWD.trans ez33)) (hcb.ext (eWD.trans ez33)) hwb hbb) ?_)
      rintro vv34 wz34 ⟨x34,rfl⟩
      have ez34:aE wg3.drew wz34:=ez33.trans x34
      refine aX ⟨hS.1.ext ez34,hS.2.ext ez34⟩ ?_
      have k7_34:=k7_33.ext x34
      have k8_34:=k8_33.ext x34
      exact hk _ _ ⟨(g7_32,g8_26),⟨rfl,rfl,rfl,rfl,rfl,rfl,trivial⟩,eD.trans ez34,k7_34,k8_34,ne32,ll32,ll26⟩
   rintro⟨g7,g8⟩ wH ⟨xH,k7,k8,ne,l7,l8⟩
   dsimp only at k7 k8 ne l7 l8
   obtain⟨wI,sI,qI,kI⟩:=k7.stS (P:=Tryz.prog) (t:=24) (m:=(gM (d9 a)).map U8) (by simp[bW,gN]) (by rw[List.length_map,bW];exact fS) (iZ _)
   have k8I:=k8.other qI (fun e=>ne (Option.some.inj e).symm)
   obtain⟨wJ,sJ,qJ,kJ⟩:=k8I.stS (P:=Tryz.prog) (t:=24) (m:=(gM (d9 b)).map U8) (by simp[bW,gN]) (by rw[List.length_map,bW];exact fS) (iZ _)
   have k7J:=kI.other qJ (fun e=>ne (Option.some.inj e))
   have eI:aE wg3 wI:=aE.of_new xH qI l7
   have eJ:aE wg3 wJ:=aE.of_new eI qJ l8
   refine cv 16 (by kernel_rfl) Ig (az Ig Ig sI (aX ⟨k2W.ext eI,k3W.ext eI⟩ ?_))
   refine cv 17 (by kernel_rfl) Ig (az Ig Ig sJ (aX ⟨k2W.ext eJ,k3W.ext eJ⟩ (mw (by kernel_rfl) ?_)))
   refine ab (af ?_)
   have b5J:=bva.ext eJ
   have b6J:=bvb.ext eJ
   by_cases h65:d9 a≠d9 b
   ·refine bk 22 [71] (by kernel_rfl) (by kernel_rfl) ?_
    refine av Ig Ig (fun w' hw=>(k7J.ext hw).ld HS Ig (by rw[List.length_map,bW];exact fS)) ?_
    refine an rfl rfl (bM (S:=Is (.agg ((gM (d9 a)).map U8).toArray)) kH (be.is _) rfl (fun w hw=>by rintro _ rfl;exact lU (b5J.ext hw) (by omega)) ?_)
    refine aL (r:=B true) Ig Ig Ig (fun w _=>rH (bW _)) ?_
    refine an Ig Ig (bG Ig Ig ?_)
    refine av Ig Ig (fun w' hw=>(kJ.ext hw).ld HS Ig (by rw[List.length_map,bW];exact fS)) ?_
    refine bG rfl rfl (an rfl rfl (bG rfl rfl (bM (S:=Is (.agg ((gM (d9 b)).map U8).toArray)) kH (be.is _) rfl (fun w hw=>by rintro _ rfl;exact lU (b6J.ext hw) (by omega)) ?_)))
    refine bG Ig Ig ?_
    refine aL (r:=B true) Ig Ig Ig (fun w _=>rH (bW _)) ?_
    refine jC Ig Ig Ig (an Ig Ig (bG Ig Ig (an Ig Ig (bG Ig Ig (cP Ig Ig (fun w hw=>qh ((bva.ext eJ).ext hw)) (bG Ig Ig (an Ig Ig ?_)))))))
    refine bG Ig Ig (cP Ig Ig (fun w hw=>qh ((bvb.ext eJ).ext hw)) (bG Ig Ig (aL Ig Ig Ig (fun w _=>dW h65 tO) (bG Ig Ig (an Ig Ig ?_)))))
    refine dU Ig Ig Ig (dU Ig Ig Ig (dU Ig Ig Ig (bG Ig Ig (jC Ig Ig Ig (jC Ig Ig Ig (bn ?_))))))
    intro wg5 xg5
    rintro _ rfl
    refine ac Ig Ig (ag (ab (ay (aD Ig Ig ?_))))
    exact⟨_,rfl,rfl,(((((((x2.trans x3).trans x9).trans x13).trans x18).trans xg3).trans eJ).trans xg5)⟩
   ·refine bk 22 [71] (by kernel_rfl) (by kernel_rfl) ?_
    refine av Ig Ig (fun w' hw=>(k7J.ext hw).ld HS Ig (by rw[List.length_map,bW];exact fS)) ?_
    refine an rfl rfl (bM (S:=Is (.agg ((gM (d9 a)).map U8).toArray)) kH (be.is _) rfl (fun w hw=>by rintro _ rfl;exact lU (b5J.ext hw) (by omega)) ?_)
    refine aL (r:=B true) Ig Ig Ig (fun w _=>rH (bW _)) ?_
    refine an Ig Ig (bG Ig Ig ?_)
    refine av Ig Ig (fun w' hw=>(kJ.ext hw).ld HS Ig (by rw[List.length_map,bW];exact fS)) ?_
    refine bG rfl rfl (an rfl rfl (bG rfl rfl (bM (S:=Is (.agg ((gM (d9 b)).map U8).toArray)) kH (be.is _) rfl (fun w hw=>by rintro _ rfl;exact lU (b6J.ext hw) (by omega)) ?_)))
    refine bG Ig Ig ?_
    refine aL (r:=B true) Ig Ig Ig (fun w _=>rH (bW _)) ?_
    refine jC Ig Ig Ig (an Ig Ig (bG Ig Ig (an Ig Ig (bG Ig Ig (cP Ig Ig (fun w hw=>qh ((bva.ext eJ).ext hw)) (bG Ig Ig (an Ig Ig ?_)))))))
    refine bG Ig Ig (cP Ig Ig (fun w hw=>qh ((bvb.ext eJ).ext hw)) (bG Ig Ig (aL Ig Ig Ig (fun w _=>eU h65 tO) (bG Ig Ig (an Ig Ig ?_)))))
    refine bG Ig Ig ?_
    refine av Ig Ig (fun w' hw=>(k7J.ext hw).ld HS Ig (by rw[List.length_map,bW];exact fS)) ?_
    refine bG Ig Ig ?_
    refine av Ig Ig (fun w' hw=>(kJ.ext hw).ld HS Ig (by rw[List.length_map,bW];exact fS)) ?_
    refine bG Ig Ig ?_
    refine aL (r:=B true) Ig Ig Ig (fun w _=>by rw[Decidable.not_not.1 h65];exact rH (bW _)) ?_
    refine bG Ig Ig (u7 Ig Ig Ig (jC Ig Ig Ig (bn ?_)))
    intro wg5 xg5
    rintro _ rfl
    refine ac Ig Ig (ag (ab (ay (aD Ig Ig ?_))))
    exact⟨_,rfl,rfl,(((((((x2.trans x3).trans x9).trans x13).trans x18).trans xg3).trans eJ).trans xg5)⟩
end Go.Rl
namespace Go.Rl
open Go.RowKit Go.Proofs
theorem Fk {d:Dt} (h:Ty Tryz.prog 198 d):∃t:pj,d=jT t∧wTm t:=by
 obtain⟨l,rfl,hl,hf⟩:=h.inv_st H9
 obtain⟨d0,d1,rfl⟩:=Ht (show l.length=2 from hl)
 obtain⟨n,rfl,hn⟩:=uW (hf 0 _ d0 rfl rfl)
 obtain⟨q,rfl⟩:=uV (hf 1 _ d1 rfl rfl)
 exact⟨⟨n,q⟩,rfl,hn⟩
theorem GI {d:Dt} (h:Ty Tryz.prog 196 d):∃f:ma,d=dS f∧Ef f:=by
 obtain⟨l,rfl,hl,hf⟩:=h.inv_st H2
 obtain⟨d0,d1,rfl⟩:=Ht (show l.length=2 from hl)
 obtain⟨ts,rfl,hw⟩:=(hf 0 _ d0 rfl rfl).inv_slP HW fun _ hx=>Fk hx
 obtain⟨q,rfl⟩:=uV (hf 1 _ d1 rfl rfl)
 exact⟨⟨ts,q⟩,rfl,hw⟩
theorem pS {d:Dt} (h:Ty Tryz.prog 73 d):∃fs:List ma,d=.sl (fs.map dS)∧∀f∈fs,Ef f:=h.inv_slP HK fun _ hx=>GI hx
theorem zY {d:Dt} (h:Ty Tryz.prog 76 d):∃fs:List d7,d=qX fs:=by
 obtain⟨fs,h1,_⟩:=h.inv_slP (f:=cN) (p:=fun _=>True) HV fun _ hx=>(uV hx).imp fun _ h=>⟨h,trivial⟩
 exact⟨fs,h1⟩
theorem ty_qu {d:Dt} (h:Ty Tryz.prog 82 d):∃q:Ee,d=FO q∧GP q:=by
 obtain⟨l,rfl,hl,hf⟩:=h.inv_st HN
 obtain⟨d0,d1,d2,rfl⟩:=Fe (show l.length=3 from hl)
 obtain⟨l0,rfl,hl0,hf0⟩:=(hf 0 _ d0 rfl rfl).inv_st HZ
 obtain⟨a0,a1,a2,rfl⟩:=Fe (show l0.length=3 from hl0)
 obtain⟨l1,rfl,hl1,hf1⟩:=(hf 1 _ d1 rfl rfl).inv_st HX
 obtain⟨b0,b1,b2,rfl⟩:=Fe (show l1.length=3 from hl1)
 obtain⟨l2,rfl,hl2,hf2⟩:=(hf 2 _ d2 rfl rfl).inv_st HY
 obtain⟨c0,c1,c2,c3,rfl⟩:=cel4 (show l2.length=4 from hl2)
 obtain⟨inp,rfl,w0⟩:=uW (hf0 0 _ a0 rfl rfl)
 obtain⟨us,rfl,w1⟩:=pS (hf0 1 _ a1 rfl rfl)
 obtain⟨os,rfl,w2⟩:=pS (hf0 2 _ a2 rfl rfl)
 obtain⟨lo,rfl⟩:=zY (hf1 0 _ b0 rfl rfl)
 obtain⟨hi,rfl⟩:=zY (hf1 1 _ b1 rfl rfl)
 obtain⟨rs,rfl,w3⟩:=pS (hf1 2 _ b2 rfl rfl)
 obtain⟨kd,rfl,w4⟩:=uW (hf2 0 _ c0 rfl rfl)
 obtain⟨tg,rfl,w5⟩:=uW (hf2 1 _ c1 rfl rfl)
 obtain⟨mg,rfl⟩:=uV (hf2 2 _ c2 rfl rfl)
 obtain⟨cs,rfl,w6⟩:=pS (hf2 3 _ c3 rfl rfl)
 exact⟨⟨inp,us,os,lo,hi,rs,kd,tg,mg,cs⟩,rfl,w0,w1,w2,w3,w4,w5,w6⟩
theorem dQu_inv {w:World} {q:Ee} {cs:List Value} (h:Rp w (FO q) cs):∃vu vo vl vh vr x y vc,cs=[I q.inp,vu,vo,vl,vh,vr,I q.kd,I q.tg,B q.mg.1,x,y,vc]∧dq dS q.us vu w∧dq dS q.os vo w∧dq cN q.lo vl w∧dq cN q.hi vh w∧dq dS q.rs vr w∧bu q.mg.2.1 x w∧bu q.mg.2.2 y w∧dq dS q.cs vc w:=by
 simp only[FO,jV,bC,Rp.eq_5,Rp.eq_1] at h
 obtain⟨_,_,rfl,⟨_,_,rfl,rfl,_,_,rfl,hu,_,_,rfl,ho,rfl⟩,_,_,rfl,⟨_,_,rfl,hl,_,_,rfl,hh,_,_,rfl,hr,rfl⟩,_,_,rfl,⟨_,_,rfl,rfl,_,_,rfl,rfl,_,_,rfl,hm,_,_,rfl,hc,rfl⟩,rfl⟩:=h
 obtain⟨vu,rfl,hu,_⟩:=Rp.isSlice hu
 obtain⟨vo,rfl,ho,_⟩:=Rp.isSlice ho
 obtain⟨vl,rfl,hl⟩:=sW hl
 obtain⟨vh,rfl,hh⟩:=sW hh
 obtain⟨vr,rfl,hr,_⟩:=Rp.isSlice hr
 obtain⟨x,y,rfl,hx,hy⟩:=fF hm
 obtain⟨vc,rfl,hc,_⟩:=Rp.isSlice hc
 exact⟨vu,vo,vl,vh,vr,x,y,vc,rfl,hu,ho,hl,hh,hr,hx,hy,hc⟩
end Go.Rl

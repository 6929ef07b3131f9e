/- Part 4 of a proof: plain facts and walks of functions, merged by a program. Conditions: each lemma names its own. -/
import Derived.Test.YtpeidnhjcompmaaGreatDoorJf3
namespace Go.Rl
open Go.RowKit Go.Proofs
theorem jW:aH Tryz.prog 104:=⟨_,Tryz.func104,by kernel_rfl,rfl⟩
theorem rT:aH Tryz.prog 58:=⟨_,Tryz.func58,by kernel_rfl,rfl⟩
theorem uT:aH Tryz.prog 62:=⟨_,Tryz.func62,by kernel_rfl,rfl⟩
theorem uU:aH Tryz.prog 107:=⟨_,Tryz.func107,by kernel_rfl,rfl⟩
theorem uV:aH Tryz.prog 63:=⟨_,Tryz.func63,by kernel_rfl,rfl⟩
theorem f5:aH Tryz.prog 59:=⟨_,Tryz.func59,by kernel_rfl,rfl⟩
def sQ (q:eW):Prop:=q.2.1.length≤1073741824∧q.2.2.length≤1073741824
def sP (l:List ci):Prop:=∀m∈l,sQ m.co
def sL (m:er):Prop:=sQ m.va∧sP m.pf
mutual
def sN:aV→Prop
 |.mk lems sp kids _ pf=>(∀m∈lems,sL m)∧sQ sp.at_∧sP pf∧Kt kids
def Kt:List aV→Prop
 |[]=>True
 |n::l=>sN n∧Kt l
end
theorem CS:∀l:List aV,Kt l↔∀n∈l,sN n
 |[]=>by simp[Kt]
 |n::l=>by simp only[Kt,CS l,List.mem_cons,forall_eq_or_imp]
theorem uW (n:aV):sN n↔(∀m∈n.lems,sL m)∧sQ n.split.at_∧sP n.pf∧∀k∈n.kids,sN k:=by
 cases n with
 |mk l s k e p=>simp only[sN,CS];rfl
theorem mV {w:World} {q:eW} {x y:Value} (hx:bi q.2.1 x w) (hy:bi q.2.2 y w) (hs:sQ q):
 Calls Tryz.prog 59 #[.agg #[B q.1,x,y]] w (bH fun r w'=>aJ w w'∧r=B (fl q)):=
 z8 (b:=q.1) ⟨x,y,rfl,hx,hy⟩ (by have:=hs.1;omega) (by have:=hs.2;omega)
theorem oc {w:World} {q:eW} {x y:Value} {b:Bool} (hx:bi q.2.1 x w) (hy:bi q.2.2 y w) (hs:sQ q) (hb:fl q=b):
 Calls Tryz.prog 59 #[.agg #[B q.1,x,y]] w (bH fun r w'=>aJ w w'∧r=B b):=hb▸mV hx hy hs
theorem BH {w:World} {l:List ci} {v:Value} (hv:ct bI l v w) (hs:sP l):
 Calls Tryz.prog 104 #[v] w (bH fun r w'=>aJ w w'∧r=B (lJ l)):=by
 refine enter (vs:=[v]) Tryz.func104 E E E ?_
 have hll:=hv.len
 refine af (aa (ac E E (ag (ab (af (af (aa (ac E E (ag (ab (aE ?_)))))))))))
 refine bZ (α:=Nat) (fun i=>[(0,v),(3,I (i:Int))]) (fun i w'=>aJ w w'∧i≤l.length∧(l.all fun m:ci=>fl m.co)=((l.drop i).all fun m:ci=>fl m.co)) (fun i=>l.length-i) (0) ⟨rfl,rfl,trivial⟩ ⟨aJ.refl _,by omega,rfl⟩ ?_
 rintro i wL ⟨eL,hi,hall⟩
 refine af (af (aa (ae E E (ae E E (aS E E (a9 KS (hv.ext eL)) (ak E E E (bb) (ag (ab ?_))))))))
 refine bt E (fun h7=>?_) (fun h7=>?_)
 ·refine aC (ab (af (aE (af (aa (ae E E (ae E E ?_)))))))
  obtain⟨a12,c12,p12,q12,h12⟩:=bR (P:=Tryz.prog) (sz:=7) KS (by kernel_rfl) dB (by omega) (hv.ext eL) (i:=i) (by omega) .i64
  obtain⟨e12,he12⟩:∃e,e=l[i]'(by omega):=⟨_,rfl⟩
  rw[←he12] at h12
  obtain⟨x12_0,x12_1,rfl,f12_0,f12_1⟩:=gj h12
  refine au rfl rfl rfl (p12 _) (ah rfl rfl (gr (o:=4) Tryz.underlying187 rfl (by kernel_rfl) rfl) (aj rfl rfl (q12.ldO (ms:=[B e12.co.1,x12_0,x12_1]) (o:=4) (fun j v hj=>by rcases j with _|_|_|_|_|_|_|_|_|j<;>simp_all) Tryz.underlying46 rfl (by kernel_rfl)) ?_))
  refine an f5 E E ((mV (q:=e12.co) f12_0 f12_1 (hs e12 (by rw[he12];exact List.getElem_mem _)))) ?_
  rintro v15 w15 ⟨x15,rfl⟩
  refine bo E E bu (ag (ab ?_))
  refine fc E (fun h16=>?_) (fun h16=>?_)
  ·have hno:fl (l[i]'(by omega)).co=false:=by rw[←he12];rw[Bool.not_eq_true'] at h16;exact h16
   refine af (aa (ac E E (ag (ab (aw (aY (aD (aD (aY (aD (av E E ?_)))))))))))
   exact⟨_,rfl,(eL.trans x15),congrArg B (fZ (p:=fun m:ci=>fl m.co) (by omega) hall hno).symm⟩
  ·have hyes:fl (l[i]'(by omega)).co=true:=by rw[←he12];rw[Bool.not_eq_false'] at h16;exact h16
   refine aC (aR (ab (aa (ae E E (ak (r:=I ((i+1:Nat):Int)) E E E (by have e:((i+1:Nat):Int)=(i:Int)+1:=(by omega);rw[e];exact aP (by omega) (by omega)) ?_)))))
   refine ac E E (ag ?_)
   refine bJ (i+1) ⟨rfl,rfl,trivial⟩ ⟨(eL.trans x15),by omega,pT (p:=fun m:ci=>fl m.co) (by omega) hall hyes⟩ (by omega)
 ·refine be (aK (aK (bf (ab (af (aa (ac E E (ag (ab (aw (av E E ?_)))))))))))
  exact⟨_,rfl,eL,congrArg B (mS (p:=fun m:ci=>fl m.co) (by omega) hall).symm⟩
theorem od {w:World} {l:List ci} {v:Value} {b:Bool} (hv:ct bI l v w) (hs:sP l) (hb:lJ l=b):
 Calls Tryz.prog 104 #[v] w (bH fun r w'=>aJ w w'∧r=B b):=hb▸BH hv hs
theorem Ej {w:World} {n:aV} {vl x y vk vp:Value} (ih:∀k∈n.kids,∀{w:World} {vl x y vk vp:Value},ct cP k.lems vl w→bi k.split.at_.2.1 x w→bi k.split.at_.2.2 y w→ct bm k.kids vk w→ct bI k.pf vp w→sN k→
 Calls Tryz.prog 58 #[.agg #[vl,I k.split.kd,I k.split.ix,B k.split.at_.1,x,y,vk,B k.empty,vp]] w (bH fun r w'=>aJ w w'∧r=B (iD k)))
 (hl:ct cP n.lems vl w) (hx:bi n.split.at_.2.1 x w) (hy:bi n.split.at_.2.2 y w) (hk:ct bm n.kids vk w) (hp:ct bI n.pf vp w) (hs:sN n):
 Calls Tryz.prog 58 #[.agg #[vl,I n.split.kd,I n.split.ix,B n.split.at_.1,x,y,vk,B n.empty,vp]] w (bH fun r w'=>aJ w w'∧r=B (iD n)):=by
 refine enter (vs:=[.agg #[vl,I n.split.kd,I n.split.ix,B n.split.at_.1,x,y,vk,B n.empty,vp]]) Tryz.func58 E E E ?_
 obtain⟨sl,ss,sp,sk⟩:=(uW n).1 hs
 have hcn:=CK n
 have hll:=hl.len
 have hkl:=hk.len
 refine af (aa ?_)
 obtain⟨g1,w1,hr1,l1,x1,k1⟩:=ca (P:=Tryz.prog) (w:=w) (T:=52) (cs:=[vl,I n.split.kd,I n.split.ix,B n.split.at_.1,x,y,vk,B n.empty,vp])
 refine cm E E hr1 (ac E E (ag (ab (af (af ?_)))))
 rcases hc1:lJ n.pf
 rotate_left
 rcases hc2:fl n.split.at_
 ·refine aa (ah E E (ap (o:=8) KF E (by kernel_rfl) E) (aj E E (ai KS E (k1.cell (i:=8) E)) ?_))
  refine an jW E E ((od (hp.ext x1) sp hc1)) ?_
  rintro v7 w7 ⟨x7,rfl⟩
  refine bo E E bu (ae E E (al E (ah E E (ap (o:=1) KF E (by kernel_rfl) E) (al E (ah E E (cx (b:=1) (o:=2) KH E (by kernel_rfl) E) ?_)))))
  refine al rfl (aj rfl rfl ((k1.ext x7).ldO (ms:=[B n.split.at_.1,x,y]) (o:=3) (fun j v hj=>by rcases j with _|_|_|_|_|_|_|_|_|j<;>simp_all) Tryz.underlying46 rfl (by kernel_rfl)) ?_)
  refine al E (an f5 E E ((oc (q:=n.split.at_) (hx.ext (x1.trans x7)) (hy.ext (x1.trans x7)) ss hc2)) ?_)
  rintro v13 w13 ⟨x13,rfl⟩
  refine al E (bo E E bu (aI E E E (ag (ab (bg E (af (aa (ac E E (ag (ab (aw (aD (av E E ?_)))))))))))))
  exact⟨_,rfl,((x1.trans x7).trans x13),by rw[hcn,hc1,hc2];rfl⟩
 ·refine aa (ah E E (ap (o:=8) KF E (by kernel_rfl) E) (aj E E (ai KS E (k1.cell (i:=8) E)) ?_))
  refine an jW E E ((od (hp.ext x1) sp hc1)) ?_
  rintro v7 w7 ⟨x7,rfl⟩
  refine bo E E bu (ae E E (al E (ah E E (ap (o:=1) KF E (by kernel_rfl) E) (al E (ah E E (cx (b:=1) (o:=2) KH E (by kernel_rfl) E) ?_)))))
  refine al rfl (aj rfl rfl ((k1.ext x7).ldO (ms:=[B n.split.at_.1,x,y]) (o:=3) (fun j v hj=>by rcases j with _|_|_|_|_|_|_|_|_|j<;>simp_all) Tryz.underlying46 rfl (by kernel_rfl)) ?_)
  refine al E (an f5 E E ((oc (q:=n.split.at_) (hx.ext (x1.trans x7)) (hy.ext (x1.trans x7)) ss hc2)) ?_)
  rintro v13 w13 ⟨x13,rfl⟩
  refine al E (bo E E bu (aI E E E (ag (ab (cy E (aC (ab (af (af (aa (ac E E (ag (ab (aE ?_))))))))))))))
  refine bZ (α:=Nat) (fun i=>[(1,.pointer (some ⟨g1,0,none⟩)),(3,I (i:Int))]) (fun i w'=>aJ w w'∧aJ w1 w'∧i≤n.lems.length∧n.lems.all ig=(n.lems.drop i).all ig) (fun i=>n.lems.length-i) (0) ⟨rfl,rfl,trivial⟩ ⟨((x1.trans x7).trans x13),(x7.trans x13),by omega,rfl⟩ ?_
  rintro i wL ⟨eL,e1L,hi,hall⟩
  refine af (af (aa (ae E E (ah E E (ap (o:=0) KF E (by kernel_rfl) E) (aj E E (ai KT E (e1L.cell_some (k1.cell (i:=0) E))) ?_)))))
  refine aS E E (a9 KT (hl.ext eL)) (ak E E E (bb) (ag (ab ?_)))
  refine bt E (fun h20=>?_) (fun h20=>?_)
  ·refine aC (ab (af (aE (af ?_))))
   obtain⟨em,hem⟩:∃em,em=n.lems[i]'(by have:=hl.len;omega):=⟨_,rfl⟩
   have hsm:=sl em (by rw[hem];exact List.getElem_mem _)
   rcases hc3:fl em.va
   rotate_left
   rcases hc4:lJ em.pf
   ·refine aa (ah E E (ap (o:=0) KF E (by kernel_rfl) E) (aj E E (ai KT E (e1L.cell_some (k1.cell (i:=0) E))) ?_))
    refine ae E E ?_
    obtain⟨a26,c26,p26,q26,h26⟩:=bR (P:=Tryz.prog) (sz:=6) KT (by kernel_rfl) cV (by omega) (hl.ext eL) (i:=i) (by omega) .i64
    rw[←hem] at h26
    obtain⟨x26_0,x26_1,x26_2,rfl,f26_0,f26_1,f26_2⟩:=fk h26
    refine au rfl rfl rfl (p26 _) (ah rfl rfl (gr (o:=2) Tryz.underlying173 rfl (by kernel_rfl) rfl) (aj rfl rfl (q26.ldO (ms:=[B em.va.1,x26_0,x26_1]) (o:=2) (fun j v hj=>by rcases j with _|_|_|_|_|_|_|_|_|j<;>simp_all) Tryz.underlying46 rfl (by kernel_rfl)) ?_))
    refine an f5 E E ((oc (q:=em.va) f26_0 f26_1 hsm.1 hc3)) ?_
    rintro v29 w29 ⟨x29,rfl⟩
    refine bo E E bu (ae E E (al E (ah E E (ap (o:=0) KF E (by kernel_rfl) E) (al E (aj E E (ai KT E ((e1L.trans x29).cell_some (k1.cell (i:=0) E))) ?_)))))
    refine al E (ae E E (al E ?_))
    obtain⟨a35,c35,p35,q35,h35⟩:=bR (P:=Tryz.prog) (sz:=6) KT (by kernel_rfl) cV (by omega) (hl.ext (eL.trans x29)) (i:=i) (by omega) .i64
    rw[←hem] at h35
    obtain⟨x35_0,x35_1,x35_2,rfl,f35_0,f35_1,f35_2⟩:=fk h35
    refine au E E E (p35 _) (al E (ah E E (gr (o:=5) KV E (by kernel_rfl) E) (al E (aj E E (ai KS E (q35.at (j:=5) E)) ?_))))
    refine al E (an jW E E ((od f35_2 hsm.2 hc4)) ?_)
    rintro v38 w38 ⟨x38,rfl⟩
    refine al E (bo E E bu (aI E E E (ag (ab (bg E (af (aa (ac E E (ag (ab (aw (aY (aD (aD (aY (aD (av E E ?_)))))))))))))))))
    exact⟨_,rfl,((eL.trans x29).trans x38),by rw[hcn,fZ (p:=ig) (i:=i) (by omega) hall (by rw[←hem];unfold ig;rw[hc3,hc4];rfl),Bool.and_false,Bool.false_and];rfl⟩
   ·refine aa (ah E E (ap (o:=0) KF E (by kernel_rfl) E) (aj E E (ai KT E (e1L.cell_some (k1.cell (i:=0) E))) ?_))
    refine ae E E ?_
    obtain⟨a26,c26,p26,q26,h26⟩:=bR (P:=Tryz.prog) (sz:=6) KT (by kernel_rfl) cV (by omega) (hl.ext eL) (i:=i) (by omega) .i64
    rw[←hem] at h26
    obtain⟨x26_0,x26_1,x26_2,rfl,f26_0,f26_1,f26_2⟩:=fk h26
    refine au rfl rfl rfl (p26 _) (ah rfl rfl (gr (o:=2) Tryz.underlying173 rfl (by kernel_rfl) rfl) (aj rfl rfl (q26.ldO (ms:=[B em.va.1,x26_0,x26_1]) (o:=2) (fun j v hj=>by rcases j with _|_|_|_|_|_|_|_|_|j<;>simp_all) Tryz.underlying46 rfl (by kernel_rfl)) ?_))
    refine an f5 E E ((oc (q:=em.va) f26_0 f26_1 hsm.1 hc3)) ?_
    rintro v29 w29 ⟨x29,rfl⟩
    refine bo E E bu (ae E E (al E (ah E E (ap (o:=0) KF E (by kernel_rfl) E) (al E (aj E E (ai KT E ((e1L.trans x29).cell_some (k1.cell (i:=0) E))) ?_)))))
    refine al E (ae E E (al E ?_))
    obtain⟨a35,c35,p35,q35,h35⟩:=bR (P:=Tryz.prog) (sz:=6) KT (by kernel_rfl) cV (by omega) (hl.ext (eL.trans x29)) (i:=i) (by omega) .i64
    rw[←hem] at h35
    obtain⟨x35_0,x35_1,x35_2,rfl,f35_0,f35_1,f35_2⟩:=fk h35
    refine au E E E (p35 _) (al E (ah E E (gr (o:=5) KV E (by kernel_rfl) E) (al E (aj E E (ai KS E (q35.at (j:=5) E)) ?_))))
    refine al E (an jW E E ((od f35_2 hsm.2 hc4)) ?_)
    rintro v38 w38 ⟨x38,rfl⟩
    refine al E (bo E E bu (aI E E E (ag (ab (cy E (aC (aR (ab (aa (ae E E (ak (r:=I ((i+1:Nat):Int)) E E E (by have e:((i+1:Nat):Int)=(i:Int)+1:=(by omega);rw[e];exact aP (by omega) (by omega)) ?_)))))))))))
    refine ac E E (ag ?_)
    refine bJ (i+1) ⟨rfl,rfl,trivial⟩ ⟨((eL.trans x29).trans x38),((e1L.trans x29).trans x38),by omega,pT (p:=ig) (by omega) hall (by rw[←hem];unfold ig;rw[hc3,hc4];rfl)⟩ (by omega)
   ·refine aa (ah E E (ap (o:=0) KF E (by kernel_rfl) E) (aj E E (ai KT E (e1L.cell_some (k1.cell (i:=0) E))) ?_))
    refine ae E E ?_
    obtain⟨a26,c26,p26,q26,h26⟩:=bR (P:=Tryz.prog) (sz:=6) KT (by kernel_rfl) cV (by omega) (hl.ext eL) (i:=i) (by omega) .i64
    rw[←hem] at h26
    obtain⟨x26_0,x26_1,x26_2,rfl,f26_0,f26_1,f26_2⟩:=fk h26
    refine au rfl rfl rfl (p26 _) (ah rfl rfl (gr (o:=2) Tryz.underlying173 rfl (by kernel_rfl) rfl) (aj rfl rfl (q26.ldO (ms:=[B em.va.1,x26_0,x26_1]) (o:=2) (fun j v hj=>by rcases j with _|_|_|_|_|_|_|_|_|j<;>simp_all) Tryz.underlying46 rfl (by kernel_rfl)) ?_))
    refine an f5 E E ((oc (q:=em.va) f26_0 f26_1 hsm.1 hc3)) ?_
    rintro v29 w29 ⟨x29,rfl⟩
    refine bo E E bu (ae E E (am E E E (am E E E (am E E E (am E E E (am E E E (am E E E (am E E E (am E E E ?_)))))))))
    refine ar E E E (ag (ab (bg E (af (aa (ac E E (ag (ab (aw (aY (aD (aD (aY (aD (av E E ?_)))))))))))))))
    exact⟨_,rfl,(eL.trans x29),by rw[hcn,fZ (p:=ig) (i:=i) (by omega) hall (by rw[←hem];unfold ig;rw[hc3];rfl),Bool.and_false,Bool.false_and];rfl⟩
  ·refine be (aK (aK (bf (ab (af (af ?_))))))
   have hla:=mS (p:=ig) (by omega) hall
   refine aa (ac E E (ag (ab (aE ?_))))
   refine bZ (α:=Nat) (fun i=>[(1,.pointer (some ⟨g1,0,none⟩)),(4,I (i:Int))]) (fun i w'=>aJ w w'∧aJ w1 w'∧i≤n.kids.length∧n.kids.all iD=(n.kids.drop i).all iD) (fun i=>n.kids.length-i) (0) ⟨rfl,rfl,trivial⟩ ⟨eL,e1L,by omega,rfl⟩ ?_
   rintro i wM ⟨eM,e1M,hi2,hall2⟩
   refine af (af (aa (ae E E (ah E E (ap (o:=6) KF E (by kernel_rfl) E) (aj E E (ai KO E (e1M.cell_some (k1.cell (i:=6) E))) ?_)))))
   refine aS E E (a9 KO (hk.ext eM)) (ak E E E (bb) (ag (ab ?_)))
   refine bt E (fun h45=>?_) (fun h45=>?_)
   ·refine aC (ab (af (aE (af (aa (ah E E (ap (o:=6) KF E (by kernel_rfl) E) (aj E E (ai KO E (e1M.cell_some (k1.cell (i:=6) E))) ?_)))))))
    refine ae E E ?_
    obtain⟨a51,c51,p51,q51,h51⟩:=bR (P:=Tryz.prog) (sz:=9) KO (by kernel_rfl) cg (by omega) (hk.ext eM) (i:=i) (by omega) .i64
    obtain⟨e51,he51⟩:∃e,e=n.kids[i]'(by omega):=⟨_,rfl⟩
    rw[←he51] at h51
    obtain⟨x51_0,x51_1,x51_2,x51_3,x51_4,rfl,f51_0,f51_1,f51_2,f51_3,f51_4⟩:=cW h51
    refine au E E E (p51 _) ?_
    have hmem:e51∈n.kids:=by rw[he51];exact List.getElem_mem _
    refine aj E E (q51.ld KF E (by kernel_rfl)) (an rT E E ((ih e51 hmem f51_0 f51_1 f51_2 f51_3 f51_4 (sk e51 hmem))) ?_)
    rintro v53 w53 ⟨x53,rfl⟩
    refine bo E E bu (ag (ab ?_))
    refine fc E (fun h54=>?_) (fun h54=>?_)
    ·have hno:iD (n.kids[i]'(by have:=hk.len;omega))=false:=by rw[←he51];rw[Bool.not_eq_true'] at h54;exact h54
     refine af (aa (ac E E (ag (ab (aw (aY (aD (aD (aY (aD (av E E ?_)))))))))))
     exact⟨_,rfl,(eM.trans x53),by rw[hcn,fZ (p:=iD) (by omega) hall2 hno,Bool.and_false];rfl⟩
    ·have hyes:iD (n.kids[i]'(by have:=hk.len;omega))=true:=by rw[←he51];rw[Bool.not_eq_false'] at h54;exact h54
     refine aC (aR (ab (aa (ae E E (ak (r:=I ((i+1:Nat):Int)) E E E (by have e:((i+1:Nat):Int)=(i:Int)+1:=(by omega);rw[e];exact aP (by omega) (by omega)) ?_)))))
     refine ac E E (ag ?_)
     refine bJ (i+1) ⟨rfl,rfl,trivial⟩ ⟨(eM.trans x53),(e1M.trans x53),by omega,pT (p:=iD) (by omega) hall2 hyes⟩ (by omega)
   ·refine be (aK (aK (bf (ab (af (aa (ac E E (ag (ab (aw (av E E ?_)))))))))))
    exact⟨_,rfl,eM,by rw[hcn,hc1,hc2,hla,mS (p:=iD) (by omega) hall2];rfl⟩
 ·refine aa (ah E E (ap (o:=8) KF E (by kernel_rfl) E) (aj E E (ai KS E (k1.cell (i:=8) E)) ?_))
  refine an jW E E ((od (hp.ext x1) sp hc1)) ?_
  rintro v7 w7 ⟨x7,rfl⟩
  refine bo E E bu (ae E E (am E E E (am E E E (am E E E (am E E E (am E E E (ar E E E (ag (ab (bg E ?_))))))))))
  refine af (aa (ac E E (ag (ab (aw (aD (av E E ?_)))))))
  exact⟨_,rfl,(x1.trans x7),by rw[hcn,hc1];rfl⟩
theorem rU:∀(m:Nat) {n:aV},SizeOf.sizeOf n≤m→∀{w:World} {vl x y vk vp:Value},ct cP n.lems vl w→bi n.split.at_.2.1 x w→bi n.split.at_.2.2 y w→ct bm n.kids vk w→ct bI n.pf vp w→sN n→
 Calls Tryz.prog 58 #[.agg #[vl,I n.split.kd,I n.split.ix,B n.split.at_.1,x,y,vk,B n.empty,vp]] w (bH fun r w'=>aJ w w'∧r=B (iD n))
 |0,n,hm=>by cases n;simp at hm
 |m+1,n,hm=>fun h1 h2 h3 h4 h5 h6=>Ej (fun k hk _ _ _ _ _ _=>rU m (by have:=aV.lt_of_mem hk;omega)) h1 h2 h3 h4 h5 h6
theorem uX {w:World} {b:List UInt8} {bv:Value} {d:bz} {x y:Value} (hb:cE b bv w) (hx:bi d.at_.2.1 x w) (hy:bi d.at_.2.2 y w) (hw:wD d) (hl:b.length+(fm d).length≤4398046511104):
 Calls Tryz.prog 62 #[bv,.agg #[I d.kd,I d.ix,B d.at_.1,x,y]] w (bH fun r w'=>aJ w w'∧cE (b++fm d) r w'):=by
 refine enter (vs:=[bv,.agg #[I d.kd,I d.ix,B d.at_.1,x,y]]) Tryz.func62 E E E ?_
 have hdl:(fm d).length=(cY d.kd).length+(cY d.ix).length+(fN d.at_).length:=by simp only[fm,List.length_append]
 have hqa:=jc d.at_
 refine af (aa ?_)
 obtain⟨g3,w3,hr3,l3,x3,k3⟩:=ca (P:=Tryz.prog) (w:=w) (T:=48) (cs:=[I d.kd,I d.ix,B d.at_.1,x,y])
 refine cm E E hr3 (ac E E (ag (ab (af (bD 10 [14] (by kernel_rfl) (by kernel_rfl) ?_)))))
 refine ay E E (aT E E (fun w hw=>ap (o:=0) KH E (by kernel_rfl) E) (aN E E (fun w hw=>ai KI E (hw.cell_some (k3.cell (i:=0) E))) ?_))
 have hw0:=hw
 refine cd (S:=cE (b++cY d.kd)) gF (cE.stable _) rfl (fun w hw=>by rintro _ rfl _ rfl;exact bH.mono (gG (n:=d.kd) ((hb.ext x3).ext hw) (by omega) hw0.1.1 hw0.1.2) fun v w' h=>⟨h.1,h.2.bts⟩) ?_
 refine aT E E (fun w hw=>ap (o:=1) KH E (by kernel_rfl) E) (aN E E (fun w hw=>ai KI E (hw.cell_some (k3.cell (i:=1) E))) ?_)
 refine cd (S:=cE (b++cY d.kd++cY d.ix)) gF (cE.stable _) rfl (fun w hw=>by rintro _ h8 _ rfl;exact bH.mono (gG (n:=d.ix) h8 (by simp only[List.length_append];omega) hw0.2.1 hw0.2.2) fun v w' h=>⟨h.1,h.2.bts⟩) ?_
 refine aT rfl rfl (fun w hw=>ap (o:=2) Tryz.underlying48 rfl (by kernel_rfl) rfl) (aN rfl rfl (fun w hw=>(k3.ext hw).ldO (ms:=[B d.at_.1,x,y]) (o:=2) (fun j v hj=>by rcases j with _|_|_|_|_|_|_|_|_|j<;>simp_all) Tryz.underlying46 rfl (by kernel_rfl)) ?_)
 refine cd (S:=cE (b++cY d.kd++cY d.ix++fN d.at_)) jn (cE.stable _) rfl (fun w hw=>by rintro _ h11 _ rfl;exact bH.mono (jo h11 (dt.mk ((hx.ext x3).ext hw) ((hy.ext x3).ext hw)) (by simp only[List.length_append];omega)) fun v w' h=>⟨h.1,h.2.bts⟩) ?_
 refine cb ?_
 intro wg1 xg1
 intro vg14 b14
 refine ac E E (ag (ab (aw (av E E ?_))))
 exact⟨_,rfl,(x3.trans xg1),by have h:cE (b++cY d.kd++cY d.ix++fN d.at_) _ _:=b14;simpa only[fm,List.append_assoc] using h⟩
end Go.Rl
namespace Go.Rl
open Go.RowKit Go.Proofs
theorem Jr:(Tryz.prog.info? 224).map (·.size)=some 4:=by kernel_rfl
theorem Js:(Tryz.prog.info? 3).map (·.size)=some 1:=by kernel_rfl
theorem Bv.sE {b:Nat} {T:TypeId} {l:List Value}:bG (Bv b T l):=fun _ _ _ ⟨g5,h1,h2,h3⟩ hm=>⟨g5,h1,h2,h3.ext hm⟩
def jX (m:ci):List Int:=[m.kd,m.ix,m.lo,m.hi]
theorem rV (m:ci):ew m=(jX m).flatMap cY++fN m.co:=by simp[ew,jX,List.append_assoc]
theorem Gr {l:List Int} {k:Nat} (hk:k<l.length):(l.take (k+1)).flatMap cY=(l.take k).flatMap cY++cY l[k]:=by
 rw[List.take_succ_eq_append_getElem hk,List.flatMap_append]
 simp
theorem Ek {l:List Int} {k:Nat} (hk:k<l.length):(l.map I)[k]? =some (I l[k]):=by simp[hk]
theorem uY {w:World} {b:List UInt8} {bv v:Value} {l:List ci} (hb:cE b bv w) (hd:ct bI l v w) (hw:wP l) (hl:b.length+(iC l).length≤4398046511104):
 Calls Tryz.prog 107 #[bv,v] w (bH fun r w'=>aJ w w'∧cE (b++iC l) r w'):=by
 refine enter (vs:=[bv,v]) Tryz.func107 E E E ?_
 have hll:=hd.len
 have hpl:(iC l).length=(uv l.length).length+(l.flatMap ew).length:=by simp only[iC,List.length_append]
 have hun:(UInt64.ofNat l.length).toNat=l.length:=by rw[UInt64.toNat_ofNat'];omega
 refine af (aa (ac E E (ag (ab (af (aa (ae E E (ae E E (aS E E (a9 KS hd) (bc E E (fJ KI KM) ?_))))))))))
 refine an d7 E E ((d9 (n:=UInt64.ofNat l.length) hb (by omega))) ?_
 rintro v12 w12 ⟨x12,o12⟩
 rw[hun] at o12
 have b12:=o12.bts
 refine ac E E (ag (ab (af (af (aa (ac E E (ag (ab (aE ?_)))))))))
 refine fb (fun(i:Nat) (u:Value)=>[(0,u),(1,v),(5,I (i:Int))]) (fun(i:Nat) (u:Value) w'=>aJ w w'∧i≤l.length∧cE (b++uv l.length++(l.take i).flatMap ew) u w') (fun(i:Nat) (u:Value)=>l.length-i) (0) (v12) ⟨rfl,rfl,rfl,trivial⟩ ⟨x12,by omega,by simpa using b12⟩ ?_
 rintro i u wL ⟨eL,hi,bL⟩
 refine af (af (aa (ae E E (ae E E (aS E E (a9 KS (hd.ext eL)) (ak E E E (bb) (ag (ab ?_))))))))
 refine bt E (fun h16=>?_) (fun h16=>?_)
 ·refine aC (ab (af (aE (af ?_))))
  obtain⟨pre,hpre⟩:∃pre,pre=b++uv l.length++(l.take i).flatMap ew:=⟨_,rfl⟩
  have hprl:pre.length=b.length+(uv l.length).length+((l.take i).flatMap ew).length:=by rw[hpre];simp only[List.length_append]
  rw[←hpre] at bL
  refine bD 26 [0,1,5,6,43] (by kernel_rfl) (by kernel_rfl) ?_
  refine ay (S:=Is (v)) E E (ay (S:=Is (I (i:Int))) E E ?_)
  obtain⟨a21,c21,p21,q21,h21⟩:=bR (P:=Tryz.prog) (sz:=7) KS (by kernel_rfl) dB (by omega) (hd.ext eL) (i:=i) (by omega) .i64
  obtain⟨e21,he21⟩:∃e,e=l[i]'(by omega):=⟨_,rfl⟩
  rw[←he21] at h21
  obtain⟨x21_0,x21_1,rfl,f21_0,f21_1⟩:=gj h21
  refine aA E E E (fun w _=>p21 w) ?_
  have hm:=hw e21 (by rw[he21];exact List.getElem_mem _)
  have hfl:=fq (f:=ew) (l:=l) (i:=i) (by omega)
  rw[←he21] at hfl
  have hml:(ew e21).length=(cY e21.kd).length+(cY e21.ix).length+(cY e21.lo).length+(cY e21.hi).length+(fN e21.co).length:=by simp only[ew,List.length_append]
  refine aT E E (fun w hw=>gr (o:=0) KZ E (by kernel_rfl) E) (aT E E (fun w hw=>gr (o:=0) Lb E (by kernel_rfl) E) ?_)
  refine aN E E (fun w hw=>ai KI E (hw.cell_some (q21.at (j:=0) E))) (ay (S:=Is (v)) E E (ay (S:=Is (I (i:Int))) E E ?_))
  refine aA E E E (fun w _=>p21 w) (aT E E (fun w hw=>gr (o:=0) KZ E (by kernel_rfl) E) (aT E E (fun w hw=>gr (o:=1) Lb E (by kernel_rfl) E) ?_))
  refine aN E E (fun w hw=>ai KI E (hw.cell_some (q21.at (j:=1) E))) (ay (S:=Is (v)) E E (ay (S:=Is (I (i:Int))) E E ?_))
  refine aA E E E (fun w _=>p21 w) (aT E E (fun w hw=>gr (o:=0) KZ E (by kernel_rfl) E) (aT E E (fun w hw=>gr (o:=2) Lb E (by kernel_rfl) E) ?_))
  refine aN E E (fun w hw=>ai KI E (hw.cell_some (q21.at (j:=2) E))) (ay (S:=Is (v)) E E (ay (S:=Is (I (i:Int))) E E ?_))
  refine aA E E E (fun w _=>p21 w) (aT E E (fun w hw=>gr (o:=0) KZ E (by kernel_rfl) E) (aT E E (fun w hw=>gr (o:=3) Lb E (by kernel_rfl) E) ?_))
  refine aN rfl rfl (fun w hw=>ai KI rfl (hw.cell_some (q21.at (j:=3) rfl))) (tj (S:=Is (.agg #[I e21.kd,I e21.ix,I e21.lo,I e21.hi])) (bG.is _) rfl (fun w' hw=>by rintro _ rfl _ rfl _ rfl _ rfl;exact⟨_,w',run_build _ _ _ _ (by kernel_rfl),aJ.refl _,rfl⟩) ?_)
  refine Hb (S:=Bv wL.heap.size 224 [I 0,I 0,I 0,I 0]) Bv.sE E (fun w' hw=>Jg (z:=.agg #[I 0,I 0,I 0,I 0]) (by kernel_rfl) E hw.size) ?_
  refine cb ?_
  intro wg5 xg5
  rintro _ hq0
  obtain rfl:=Eq.symm hq0
  rintro _ hq1
  obtain rfl:=Eq.symm hq1
  rintro _ rfl
  intro vg6 b6
  rintro _ rfl
  obtain⟨g6,rfl,hg6,k6⟩:=b6
  obtain⟨wd,sd,qd,kd0⟩:=k6.stS (P:=Tryz.prog) (t:=224) (m:=[I e21.kd,I e21.ix,I e21.lo,I e21.hi]) rfl Jr (ao.cons rfl (ao.cons rfl (ao.cons rfl (ao.cons rfl ao.nil))))
  have kd:bA g6 224 ((jX e21).map I) wd:=kd0
  refine ax E E sd ?_
  have xd:=aJ.of_new xg5 qd hg6
  have bd:=bL.ext xd
  refine ag (ab (af (af (aa (ac E E (ag (ab (aE ?_))))))))
  refine fb (fun(k:Nat) (u2:Value)=>[(0,u2),(1,v),(5,I (i:Int)),(6,.pointer (some ⟨g6,0,none⟩)),(7,I (k:Int))]) (fun(k:Nat) (u2:Value) w'=>aJ wd w'∧k≤4∧cE (pre++((jX e21).take k).flatMap cY) u2 w') (fun(k:Nat) (u2:Value)=>4-k) (0) (u) ⟨rfl,rfl,rfl,rfl,rfl,trivial⟩ ⟨aJ.refl _,by omega,by simpa using bd⟩ ?_
  rintro k u2 wM ⟨eM,hk4,bM⟩
  refine af (af (aa (ae E E (ak E E E (bb) (ag (ab ?_))))))
  refine bt E (fun h45=>?_) (fun h45=>?_)
  ·have hk4':k<4:=by omega
   have hlen4:(jX e21).length=4:=rfl
   have hi64:ko (jX e21)[k]:=by
    have h4:=II hm.1 hm.2.1 hm.2.2.1 hm.2.2.2
    exact h4 _ (List.getElem_mem (l:=jX e21) (by omega))
   have hfl2:=pV (f:=cY) (jX e21) k
   have hme:=congrArg List.length (rV e21)
   rw[List.length_append] at hme
   refine aC (ab (af (aE (aa (ae E E (ae E E ?_))))))
   refine au E E E (gq Tryz.underlying224 Js (i:=k) hk4' .i64) ?_
   have c50:(wM).cell? ⟨g6,0+k,none⟩=some (I (jX e21)[k]):=by rw[Nat.zero_add];exact(kd.ext eM).cell (Ek (by omega))
   refine aj E E (ai Tryz.underlying3 E c50) (an gF E E ((gG (n:=(jX e21)[k]) bM (by simp only[List.length_append];omega) hi64.1 hi64.2)) ?_)
   rintro v52 w52 ⟨x52,o52⟩
   have b52:=o52.bts
   refine ac E E (ag (aR (ab (aa (ae E E (ak (r:=I ((k+1:Nat):Int)) E E E (by have e:((k+1:Nat):Int)=(k:Int)+1:=(by omega);rw[e];exact aP (by omega) (by omega)) ?_))))))
   refine ac E E (ag ?_)
   refine dv (k+1) (v52) ⟨rfl,rfl,rfl,rfl,rfl,trivial⟩ ⟨(eM.trans x52),by omega,by rw[Gr (by omega),←List.append_assoc];exact b52⟩ (by omega)
  ·refine be (aK (aK (bf (ab (aa (ae E E (ae E E (ae E E ?_))))))))
   have hk:k=4:=by omega
   subst hk
   have hqa:=jc e21.co
   refine au rfl rfl rfl (p21 _) (ah rfl rfl (gr (o:=4) Tryz.underlying187 rfl (by kernel_rfl) rfl) (aj rfl rfl ((q21.ext (xd.trans eM)).ldO (ms:=[B e21.co.1,x21_0,x21_1]) (o:=4) (fun j v hj=>by rcases j with _|_|_|_|_|_|_|_|_|j<;>simp_all) Tryz.underlying46 rfl (by kernel_rfl)) ?_))
   refine an jn E E ((jo bM (dt.mk (f21_0.ext (xd.trans eM)) (f21_1.ext (xd.trans eM))) (by
 have hme:=congrArg List.length (rV e21)
 rw[List.length_append] at hme
 have h4:(jX e21).take 4=jX e21:=rfl
 simp only[h4,List.length_append];omega))) ?_
   rintro v59 w59 ⟨x59,o59⟩
   have b59:=o59.bts
   refine ac E E (ag (aR (ab (aa (ae E E (ak (r:=I ((i+1:Nat):Int)) E E E (by have e:((i+1:Nat):Int)=(i:Int)+1:=(by omega);rw[e];exact aP (by omega) (by omega)) ?_))))))
   refine ac E E (ag ?_)
   refine dv (i+1) (v59) ⟨rfl,rfl,rfl,trivial⟩ ⟨(((eL.trans xd).trans eM).trans x59),by omega,by
    have h:cE (pre++((jX e21).take 4).flatMap cY++fN e21.co) v59 w59:=b59
    have h4:(jX e21).take 4=jX e21:=rfl
    rw[da (by omega),←he21,rV,←List.append_assoc,←List.append_assoc,←hpre,←h4]
    exact h⟩ (by omega)
 ·refine be (aK (aK (bf (ab (af (aa (ae E E (ac E E (ag (ab (aw (av E E ?_))))))))))))
  exact⟨_,rfl,eL,by
   rw[List.take_of_length_le (by omega),List.append_assoc] at bL
   exact bL⟩
theorem oe (b:Bool):(ux b).length=1:=by cases b<;>rfl
theorem BI {w:World} {b:List UInt8} {bv:Value} {n:aV} {vl x y vk vp:Value}
 (ih:∀k∈n.kids,∀{w:World} {b:List UInt8} {bv vl x y vk vp:Value},cE b bv w→ct cP k.lems vl w→bi k.split.at_.2.1 x w→bi k.split.at_.2.2 y w→ct bm k.kids vk w→ct bI k.pf vp w→wN k→b.length+(dc k).length≤4398046511104→
   Calls Tryz.prog 63 #[bv,.agg #[vl,I k.split.kd,I k.split.ix,B k.split.at_.1,x,y,vk,B k.empty,vp]] w (bH fun r w'=>aJ w w'∧cE (b++dc k) r w'))
 (hb:cE b bv w) (hl:ct cP n.lems vl w) (hx:bi n.split.at_.2.1 x w) (hy:bi n.split.at_.2.2 y w) (hk:ct bm n.kids vk w) (hp:ct bI n.pf vp w) (hw:wN n) (hlen:b.length+(dc n).length≤4398046511104):
 Calls Tryz.prog 63 #[bv,.agg #[vl,I n.split.kd,I n.split.ix,B n.split.at_.1,x,y,vk,B n.empty,vp]] w (bH fun r w'=>aJ w w'∧cE (b++dc n) r w'):=by
 refine enter (vs:=[bv,.agg #[vl,I n.split.kd,I n.split.ix,B n.split.at_.1,x,y,vk,B n.empty,vp]]) Tryz.func63 E E E ?_
 have hll:=hl.len
 have hkl:=hk.len
 obtain⟨wl,wd,wp,wk⟩:=(rR n).1 hw
 have hen:=lK n
 have hpl:(dU n.lems).length=(uv n.lems.length).length+(n.lems.flatMap dC).length:=by simp only[dU,List.length_append]
 have hun:(UInt64.ofNat n.lems.length).toNat=n.lems.length:=by rw[UInt64.toNat_ofNat'];omega
 obtain⟨tag,htag⟩:∃tag:UInt8,tag=(if n.kids.length=0 then(if n.empty=true then 1 else 0) else 2):=⟨_,rfl⟩
 have htl:b.length+1+(dU n.lems).length+(if n.kids.length=0 then(iC n.pf).length else(fm n.split).length+(n.kids.flatMap dc).length)≤4398046511104:=by
  rw[hen] at hlen
  by_cases h0:n.kids.length=0
  ·rw[if_pos h0] at hlen⊢;simp only[List.length_append,oe] at hlen;omega
  ·rw[if_neg h0] at hlen⊢;simp only[List.length_append,List.length_cons,List.length_nil] at hlen;omega
 refine af (aa ?_)
 obtain⟨g3,w3,hr3,l3,x3,k3⟩:=ca (P:=Tryz.prog) (w:=w) (T:=52) (cs:=[vl,I n.split.kd,I n.split.ix,B n.split.at_.1,x,y,vk,B n.empty,vp])
 refine cm E E hr3 (ac E E (ag (ab (af (aa (ac E E (ag (ab (af ?_)))))))))
 refine ei (fun t:UInt8=>[(0,bv),(3,.pointer (some ⟨g3,0,none⟩)),(5,U8 t)]) (fun t w'=>w3=w'∧t=(if n.empty=true then 1 else 0)) ?_ ?_
 ·refine af (aa (ah E E (ap (o:=7) KF E (by kernel_rfl) E) (aj E E (ai KQ E (k3.cell (i:=7) E)) ?_)))
  refine ag (ab ?_)
  refine fc E (fun h11=>?_) (fun h11=>?_)
  ·refine aa (ac E E (ag ?_))
   exact bP (1) ⟨rfl,rfl,rfl,trivial⟩ ⟨rfl,by simp[h11]⟩
  ·refine aC ?_
   exact bP (0) ⟨rfl,rfl,rfl,trivial⟩ ⟨rfl,by simp[h11]⟩
 rintro t5 _ ⟨rfl,ht5⟩
 refine ab (af ?_)
 refine ei (fun t:UInt8=>[(0,bv),(3,.pointer (some ⟨g3,0,none⟩)),(5,U8 t)]) (fun t w'=>w3=w'∧tag=t) ?_ ?_
 ·refine af (aa (ah E E (ap (o:=6) KF E (by kernel_rfl) E) (aj E E (ai KO E (k3.cell (i:=6) E)) ?_)))
  refine aS E E (a9 KO (hk.ext x3)) (ak E E E (bV) (ag (ab ?_)))
  refine bt E (fun h15=>?_) (fun h15=>?_)
  ·refine aa (ac E E (ag ?_))
   exact bP (2) ⟨rfl,rfl,rfl,trivial⟩ ⟨rfl,by
    have h15:=h15
    first
    |(have h0:¬n.kids.length=0:=by omega
      rw[htag,if_neg h0])
    |(have h0:n.kids.length=0:=by omega
      rw[ht5,htag,if_pos h0])⟩
  ·refine aC ?_
   exact bP (t5) ⟨rfl,rfl,rfl,trivial⟩ ⟨rfl,by
    have h15:=h15
    first
    |(have h0:¬n.kids.length=0:=by omega
      rw[htag,if_neg h0])
    |(have h0:n.kids.length=0:=by omega
      rw[ht5,htag,if_pos h0])⟩
 rintro _ _ ⟨rfl,rfl⟩
 refine ab (af ?_)
 have hd:aJ w3 w3.drew:=(aJ.refl w3).drew
 refine fR (aJ w3) 12 E (by kernel_rfl) ?_
 refine cT 1 E E (by kernel_rfl) E hd ?_
 refine cT 3 E E (by kernel_rfl) E hd ?_
 refine c6 6 E E (by kernel_rfl) E hd (fun w' _=>ap (o:=0) KF E (by kernel_rfl) E) ?_
 refine eQ 7 E E (by kernel_rfl) E hd (fun w' hw'=>ai KT E (hw'.cell_some (k3.cell (i:=0) E))) ?_
 refine Iy 8 (r:=I (n.lems.length:Int)) E E (by kernel_rfl) E hd (fun w' hw'=>a9 (f:=cP) KT (hl.ext (x3.trans hw'))) ?_
 refine I0 9 E E (by kernel_rfl) E hd (fun w' _=>fJ KI KM) ?_
 refine jm (fun p:Value×Value=>[(3,.pointer (some ⟨g3,0,none⟩)),(5,U8 tag),(18,p.1),(20,p.2),(25,bS (UInt64.ofNat n.lems.length))]) (fun p w'=>aJ w3 w'∧cF w3.heap.size b p.1 w'∧cE [tag] p.2 w') #[true,true,true,true,true,false,true,true,true,true,false,false] 3 ?_ (fun join=>?_)
 rotate_left
 ·refine gC 0 4 (by kernel_rfl) E E ?_ ?_
  ·obtain⟨v16,w16,hr16,x16,o16,ob16⟩:=dR (w:=w3.drew) w3.heap.size [] (by simp) hd.size
   have e16:=hd.trans x16
   refine aG (vs:=[]) E E hr16 (aF e16 (gC 2 4 (by kernel_rfl) E E ?_ ?_))
   ·obtain⟨v18,w18,hr18,o18,g18⟩:=df (ty:=22) o16 (hb.ext (x3.trans e16)) (by simp;omega) e16.size
    have e18:=aJ.of_grew e16 g18 o16.ge
    obtain⟨v20,w20,hr20,x20,o20,_⟩:=dR (w:=w18) w3.heap.size [tag] (by simp) e18.size
    refine aW E E hr18 (aF e18 (aQ 4 (by kernel_rfl) E ?_))
    exact aG (vs:=[(0,U8 tag)]) rfl rfl hr20 (aF (e18.trans x20) (zV (by kernel_rfl) (join _ _ ⟨(v18,v20),⟨rfl,rfl,rfl,rfl,rfl,trivial⟩,e18.trans x20,by simpa using o18.ext x20,o20.bts⟩)))
   ·obtain⟨v20,w20,hr20,x20,o20,ob20⟩:=dR (w:=w16) w3.heap.size [tag] (by simp) e16.size
    have e20:=e16.trans x20
    obtain⟨v18,w18,hr18,o18,g18⟩:=df (ty:=22) (o16.ext x20) (hb.ext (x3.trans e20)) (by simp;omega) e20.size
    have e18:=aJ.of_grew e20 g18 (o16.ext x20).ge
    refine aG (vs:=[(0,U8 tag)]) E E hr20 (aF e20 (aQ 2 (by kernel_rfl) E ?_))
    exact aW rfl rfl hr18 (aF e18 (zV (by kernel_rfl) (join _ _ ⟨(v18,v20),⟨rfl,rfl,rfl,rfl,rfl,trivial⟩,e18,by simpa using o18,(o20.grown g18 (.inr fun e=>by rw[ob20] at e;have:=o16.lt _ e.symm;omega)).bts⟩)))
  ·obtain⟨v20,w20,hr20,x20,o20,ob20⟩:=dR (w:=w3.drew) w3.heap.size [tag] (by simp) hd.size
   have e20:=hd.trans x20
   obtain⟨v16,w16,hr16,x16,o16,ob16⟩:=dR (w:=w20) w3.heap.size [] (by simp) e20.size
   have e16:=e20.trans x16
   obtain⟨v18,w18,hr18,o18,g18⟩:=df (ty:=22) o16 (hb.ext (x3.trans e16)) (by simp;omega) e16.size
   have e18:=aJ.of_grew e16 g18 o16.ge
   refine aG (vs:=[(0,U8 tag)]) E E hr20 (aF e20 (aQ 0 (by kernel_rfl) E ?_))
   refine aG (vs:=[]) E E hr16 (aF e16 (aQ 2 (by kernel_rfl) E ?_))
   exact aW rfl rfl hr18 (aF e18 (zV (by kernel_rfl) (join _ _ ⟨(v18,v20),⟨rfl,rfl,rfl,rfl,rfl,trivial⟩,e18,by simpa using o18,((o20.ext x16).grown g18 (.inr fun e=>by rw[ob16] at e;have:=o20.lt _ e;omega)).bts⟩)))
 rintro⟨v18,v20⟩ w20 ⟨e20,o18,b20⟩
 dsimp only at o18 b20
 obtain⟨v21,w21,hr21,o21,g21⟩:=df (ty:=22) o18 b20 (by simp;omega) e20.size
 have x21:=aJ.of_grew e20 g21 o18.ge
 refine aQ 5 (by kernel_rfl) E ?_
 refine aW E E hr21 (aF x21 (aQ 10 (by kernel_rfl) E ?_))
 refine an d7 E E (d9 (n:=UInt64.ofNat n.lems.length) o21.bts (by simp;omega)) ?_
 rintro v26 w26 ⟨x26,o26⟩
 rw[hun] at o26
 have b26:=o26.bts
 have e26:=x21.trans x26
 refine aF e26 (aQ 11 (by kernel_rfl) E ?_)
 refine ac E E (aF e26 (fS (by kernel_rfl) ?_))
 refine ab (af (af (aa (ac E E (ag (ab (aE ?_)))))))
 refine fb (fun(i:Nat) (u:Value)=>[(0,u),(3,.pointer (some ⟨g3,0,none⟩)),(5,U8 tag),(6,I (i:Int))]) (fun(i:Nat) (u:Value) w'=>aJ w3 w'∧i≤n.lems.length∧cE (b++[tag]++uv n.lems.length++(n.lems.take i).flatMap dC) u w') (fun(i:Nat) (u:Value)=>n.lems.length-i) (0) (v26) ⟨rfl,rfl,rfl,rfl,trivial⟩ ⟨e26,by omega,by simpa using b26⟩ ?_
 rintro i u wL ⟨eL,hi,bL⟩
 refine af (af ?_)
 obtain⟨pre,hpre⟩:∃pre,pre=b++[tag]++uv n.lems.length++(n.lems.take i).flatMap dC:=⟨_,rfl⟩
 have hprl:pre.length=b.length+1+(uv n.lems.length).length+((n.lems.take i).flatMap dC).length:=by rw[hpre];simp only[List.length_append,List.length_cons,List.length_nil]
 have hfi:=pV (f:=dC) n.lems i
 rw[←hpre] at bL
 refine aa (ae E E (ah E E (ap (o:=0) KF E (by kernel_rfl) E) (aj E E (ai KT E (eL.cell_some (k3.cell (i:=0) E))) ?_)))
 refine aS E E (a9 KT (hl.ext (x3.trans eL))) (ak E E E (bb) (ag (ab ?_)))
 refine bt E (fun h31=>?_) (fun h31=>?_)
 ·refine aC (ab (af (aE (af (aa (ah E E (ap (o:=0) KF E (by kernel_rfl) E) (aj E E (ai KT E (eL.cell_some (k3.cell (i:=0) E))) ?_)))))))
  refine ae E E ?_
  obtain⟨a37,c37,p37,q37,h37⟩:=bR (P:=Tryz.prog) (sz:=6) KT (by kernel_rfl) cV (by omega) (hl.ext (x3.trans eL)) (i:=i) (by omega) .i64
  obtain⟨e37,he37⟩:∃e,e=n.lems[i]'(by omega):=⟨_,rfl⟩
  rw[←he37] at h37
  obtain⟨x37_0,x37_1,x37_2,rfl,f37_0,f37_1,f37_2⟩:=fk h37
  refine au E E E (p37 _) ?_
  have hm:=wl e37 (by rw[he37];exact List.getElem_mem _)
  have hfl:=fq (f:=dC) (l:=n.lems) (i:=i) (by omega)
  rw[←he37] at hfl
  have hml:(dC e37).length=(cY e37.un).length+1+(fN e37.va).length+(iC e37.pf).length:=by simp only[dC,List.length_append,oe]
  refine aj E E (q37.ld KV E (by kernel_rfl)) ?_
  obtain⟨g7,w7,hr7,l7,x7,k7⟩:=aZ (P:=Tryz.prog) (w:=wL) (t:=173) (z:=.agg #[I 0,B false,B false,.slice none 0 0,.slice none 0 0,.slice none 0 0]) (l:=[I 0,B false,B false,.slice none 0 0,.slice none 0 0,.slice none 0 0]) (by kernel_rfl) rfl
  refine aX E hr7 ?_
  obtain⟨w10_6,s10_6,q10_6,k10_6⟩:=k7.stS (P:=Tryz.prog) (t:=173) (m:=[I e37.un,B e37.up,B e37.va.1,x37_0,x37_1,x37_2]) rfl (by kernel_rfl) (ao.cons rfl (ao.cons rfl (ao.cons rfl (ao.cons f37_0.one (ao.cons f37_1.one (ao.cons f37_2.one ao.nil))))))
  refine ax E E s10_6 ?_
  have x10_6:=aJ.of_new (x7) q10_6 l7
  refine ag (ab (af (aa (ac E E (ag (ab (af ?_)))))))
  refine ei (fun t:UInt8=>[(0,u),(3,.pointer (some ⟨g3,0,none⟩)),(5,U8 tag),(6,I (i:Int)),(7,.pointer (some ⟨g7,0,none⟩)),(8,U8 t)]) (fun t w'=>w10_6=w'∧[t]=ux e37.up) ?_ ?_
  ·refine af (aa (ah E E (ap (o:=1) KV E (by kernel_rfl) E) (aj E E (ai KQ E (k10_6.cell (i:=1) E)) ?_)))
   refine ag (ab ?_)
   refine fc E (fun h40=>?_) (fun h40=>?_)
   ·refine aa (ac E E (ag ?_))
    exact bP (1) ⟨rfl,rfl,rfl,rfl,rfl,rfl,trivial⟩ ⟨rfl,by rw[h40];rfl⟩
   ·refine aC ?_
    exact bP (0) ⟨rfl,rfl,rfl,rfl,rfl,rfl,trivial⟩ ⟨rfl,by rw[h40];rfl⟩
  rintro up _ ⟨rfl,hup⟩
  refine ab (af (aa (ae E E (ah E E (ap (o:=0) KV E (by kernel_rfl) E) (aj E E (ai KI E (k10_6.cell (i:=0) E)) ?_)))))
  refine an gF E E ((gG (n:=e37.un) (bL.ext x10_6) (by omega) hm.1.1 hm.1.2)) ?_
  rintro v44 w44 ⟨x44,o44⟩
  have o44:cF _ (pre++cY e37.un) _ _:=o44
  refine ae E E ?_
  obtain⟨v46,w46,hr46,x46,o46,ob46⟩:=dR (w:=w44) w44.heap.size [up] (by simp) (Nat.le_refl _)
  refine aG (vs:=[(0,U8 up)]) E E hr46 ?_
  obtain⟨v47,w47,hr47,o47,g47⟩:=df (ty:=22) (o44.ext x46) o46.bts (by simp only[List.length_append,List.length_cons,List.length_nil];omega) ((x44.trans x46)).size
  have x47:=aJ.of_grew ((x44.trans x46)) g47 (o44.ext x46).ge
  refine aW E E hr47 ?_
  have b47:cE (pre++cY e37.un++ux e37.up) v47 w47:=by rw[←hup];exact o47.bts
  have hqa:=jc e37.va
  refine ac E E (ag (ab (bD 7 [3,5,6,54] (by kernel_rfl) (by kernel_rfl) ?_)))
  refine ay rfl rfl (aT rfl rfl (fun w hw=>ap (o:=2) Tryz.underlying173 rfl (by kernel_rfl) rfl) (aN rfl rfl (fun w hw=>((k10_6.ext x47).ext hw).ldO (ms:=[B e37.va.1,x37_0,x37_1]) (o:=2) (fun j v hj=>by rcases j with _|_|_|_|_|_|_|_|_|j<;>simp_all) Tryz.underlying46 rfl (by kernel_rfl)) ?_))
  refine cd (S:=cE (pre++cY e37.un++ux e37.up++fN e37.va)) jn (cE.stable _) rfl (fun w hw=>by rintro _ rfl _ rfl;exact bH.mono (jo (b47.ext hw) (dt.mk ((f37_0.ext (x10_6.trans x47)).ext hw) ((f37_1.ext (x10_6.trans x47)).ext hw)) (by simp only[List.length_append,oe];omega)) fun v w' h=>⟨h.1,h.2.bts⟩) ?_
  refine aT E E (fun w hw=>ap (o:=5) KV E (by kernel_rfl) E) (aN E E (fun w hw=>ai KS E (hw.cell_some (x47.cell_some (k10_6.cell (i:=5) E)))) ?_)
  refine cd (S:=cE (pre++cY e37.un++ux e37.up++fN e37.va++iC e37.pf)) uU (cE.stable _) rfl (fun w hw=>by rintro _ h51 _ rfl;exact uY h51 ((f37_2.ext (x10_6.trans x47)).ext hw) hm.2 (by simp only[List.length_append,oe];omega)) ?_
  refine cb ?_
  intro wg15 xg15
  rintro _ rfl
  rintro _ rfl
  rintro _ rfl
  intro vg54 b54
  refine ac E E (ag (aR (ab (aa (ae E E (ak (r:=I ((i+1:Nat):Int)) E E E (by have e:((i+1:Nat):Int)=(i:Int)+1:=(by omega);rw[e];exact aP (by omega) (by omega)) ?_))))))
  refine ac E E (ag ?_)
  refine dv (i+1) (vg54) ⟨rfl,rfl,rfl,rfl,trivial⟩ ⟨(((eL.trans x10_6).trans x47).trans xg15),by omega,by
   have h:cE (pre++cY e37.un++ux e37.up++fN e37.va++iC e37.pf) vg54 wg15:=b54
   rw[da (by omega),←he37,←List.append_assoc,←hpre]
   simpa only[dC,List.append_assoc] using h⟩ (by omega)
 ·refine be (aK (aK (bf (ab (af (af ?_))))))
  rw[List.take_of_length_le (by omega)] at hpre
  by_cases hk0:n.kids.length=0
  ·refine aa (ae E E (ak (v:=U8 2) E E E (cR (by rw[htag,if_pos hk0];split<;>decide) lp) (ag (ab (bg E (af (aa (ae E E ?_))))))))
   refine ah E E (ap (o:=8) KF E (by kernel_rfl) E) (aj E E (ai KS E (eL.cell_some (k3.cell (i:=8) E))) ?_)
   refine an uU E E ((uY bL (hp.ext ((x3.trans eL))) wp (by rw[if_pos hk0] at htl;omega))) ?_
   rintro v60 w60 ⟨x60,b60⟩
   refine ac E E (ag (ab (aw (aD (av E E ?_)))))
   exact⟨_,rfl,((x3.trans eL).trans x60),by
    have ht:[tag]=ux n.empty:=by rw[htag,if_pos hk0];cases n.empty<;>rfl
    rw[hpre,ht] at b60
    rw[hen,if_pos hk0]
    simpa only[dU,List.append_assoc] using b60⟩
  ·refine aa (ae E E (ak (v:=U8 2) E E E (dn (by rw[htag,if_neg hk0];decide) lp) (ag (ab (cy E (aC (ab (af (aa (ae E E ?_))))))))))
   refine ah rfl rfl (ap (o:=1) Tryz.underlying52 rfl (by kernel_rfl) rfl) (aj rfl rfl ((k3.ext eL).ldO (ms:=[I n.split.kd,I n.split.ix,B n.split.at_.1,x,y]) (o:=1) (fun j v hj=>by rcases j with _|_|_|_|_|_|_|_|_|j<;>simp_all) Tryz.underlying48 rfl (by kernel_rfl)) ?_)
   refine an uT E E ((uX (d:=n.split) bL (hx.ext ((x3.trans eL))) (hy.ext ((x3.trans eL))) wd (by rw[if_neg hk0] at htl;omega))) ?_
   rintro v64 w64 ⟨x64,b64⟩
   refine ac E E (ag (ab (af (af (aa (ac E E (ag (ab (aE ?_)))))))))
   refine fb (fun(j:Nat) (u2:Value)=>[(0,u2),(3,.pointer (some ⟨g3,0,none⟩)),(9,I (j:Int))]) (fun(j:Nat) (u2:Value) w'=>aJ w3 w'∧j≤n.kids.length∧cE (pre++fm n.split++(n.kids.take j).flatMap dc) u2 w') (fun(j:Nat) (u2:Value)=>n.kids.length-j) (0) (v64) ⟨rfl,rfl,rfl,trivial⟩ ⟨(eL.trans x64),by omega,by simpa using b64⟩ ?_
   rintro j u2 wM ⟨eM,hj,bM⟩
   refine af (af (aa (ae E E (ah E E (ap (o:=6) KF E (by kernel_rfl) E) (aj E E (ai KO E (eM.cell_some (k3.cell (i:=6) E))) ?_)))))
   refine aS E E (a9 KO (hk.ext (x3.trans eM))) (ak E E E (bb) (ag (ab ?_)))
   refine bt E (fun h69=>?_) (fun h69=>?_)
   ·refine aC (ab (af (aE (aa (ae E E (ah E E (ap (o:=6) KF E (by kernel_rfl) E) (aj E E (ai KO E (eM.cell_some (k3.cell (i:=6) E))) ?_)))))))
    refine ae E E ?_
    obtain⟨a76,c76,p76,q76,h76⟩:=bR (P:=Tryz.prog) (sz:=9) KO (by kernel_rfl) cg (by omega) (hk.ext (x3.trans eM)) (i:=j) (by omega) .i64
    obtain⟨e76,he76⟩:∃e,e=n.kids[j]'(by omega):=⟨_,rfl⟩
    rw[←he76] at h76
    obtain⟨x76_0,x76_1,x76_2,x76_3,x76_4,rfl,f76_0,f76_1,f76_2,f76_3,f76_4⟩:=cW h76
    refine au E E E (p76 _) ?_
    have hmem:e76∈n.kids:=by rw[he76];exact List.getElem_mem _
    have hfk:=fq (f:=dc) (l:=n.kids) (i:=j) (by omega)
    rw[←he76] at hfk
    refine aj E E (q76.ld Tryz.underlying52 E (by kernel_rfl)) (an uV E E ((ih e76 hmem bM f76_0 f76_1 f76_2 f76_3 f76_4 (wk e76 hmem) (by rw[if_neg hk0] at htl;simp only[List.length_append];omega))) ?_)
    rintro v78 w78 ⟨x78,b78⟩
    refine ac E E (ag (aR (ab (aa (ae E E (ak (r:=I ((j+1:Nat):Int)) E E E (by have e:((j+1:Nat):Int)=(j:Int)+1:=(by omega);rw[e];exact aP (by omega) (by omega)) ?_))))))
    refine ac E E (ag ?_)
    refine dv (j+1) (v78) ⟨rfl,rfl,rfl,trivial⟩ ⟨(eM.trans x78),by omega,by rw[da (by omega),←he76,←List.append_assoc];exact b78⟩ (by omega)
   ·refine be (aK (aK (bf (ab (af (aa (ae E E (ac E E (ag (ab (aw (av E E ?_))))))))))))
    exact⟨_,rfl,(x3.trans eM),by
     have ht:tag=2:=by rw[htag,if_neg hk0]
     rw[List.take_of_length_le (by omega),hpre,ht] at bM
     rw[hen,if_neg hk0]
     simpa only[dU,List.append_assoc] using bM⟩
theorem uZ:∀(m:Nat) {n:aV},SizeOf.sizeOf n≤m→∀{w:World} {b:List UInt8} {bv vl x y vk vp:Value},cE b bv w→ct cP n.lems vl w→bi n.split.at_.2.1 x w→bi n.split.at_.2.2 y w→ct bm n.kids vk w→ct bI n.pf vp w→wN n→b.length+(dc n).length≤4398046511104→
 Calls Tryz.prog 63 #[bv,.agg #[vl,I n.split.kd,I n.split.ix,B n.split.at_.1,x,y,vk,B n.empty,vp]] w (bH fun r w'=>aJ w w'∧cE (b++dc n) r w')
 |0,n,hm=>by cases n;simp at hm
 |m+1,n,hm=>fun h1 h2 h3 h4 h5 h6 h7 h8=>BI (fun k hk _ _ _ _ _ _ _ _=>uZ m (by have:=aV.lt_of_mem hk;omega)) h1 h2 h3 h4 h5 h6 h7 h8
end Go.Rl
namespace Go.Rl
open Go.RowKit Go.Proofs
end Go.Rl
namespace Go.Rl
open Go.RowKit Go.Proofs
def mQ (m:ci):Nat:=1+m.co.2.1.length+m.co.2.2.length
def mP (l:List ci):Nat:=(l.map mQ).sum
def mL (m:er):Nat:=m.va.2.1.length+m.va.2.2.length+mP m.pf
mutual
def sY:aV→Nat
 |.mk l _ ks _ p=>1+l.length+mP p+(l.map mL).sum+yR ks
def yR:List aV→Nat
 |[]=>0
 |n::l=>sY n+yR l
end
theorem u4:∀l:List aV,yR l=(l.map sY).sum
 |[]=>rfl
 |n::l=>by simp only[yR,List.map_cons,List.sum_cons,u4 l]
theorem Gs (n:aV):sY n=1+n.lems.length+mP n.pf+(n.lems.map mL).sum+(n.kids.map sY).sum:=by
 cases n with
 |mk l s k e p=>simp only[sY,u4];rfl
end Go.Rl
namespace Go.Rl
open Go.RowKit Go.Proofs
mutual
def Dt.bulk:Dt→Nat
 |.int _ _=>1
 |.bool _=>1
 |.str l=>l.length+1
 |.sl l=>Dt.bulkAll l+1
 |.st l=>Dt.bulkAll l+1
def Dt.bulkAll:List Dt→Nat
 |[]=>0
 |d::l=>Dt.bulk d+Dt.bulkAll l
end
mutual
theorem xl {H:Type}:∀d:DataW H,(el d).bulk≤YtpeidnhjcompmaaGreatDoor.Rows.uptoBulk d
 |.lit (.string b)=>by simp[el,Dt.bulk,YtpeidnhjcompmaaGreatDoor.Rows.uptoBulk]
 |.lit (.int k n)=>by simp[el,Dt.bulk,YtpeidnhjcompmaaGreatDoor.Rows.uptoBulk]
 |.lit (.bool b)=>by simp[el,Dt.bulk,YtpeidnhjcompmaaGreatDoor.Rows.uptoBulk]
 |.lit (.float ..)=>by simp[el,Dt.bulk,Dt.bulkAll,YtpeidnhjcompmaaGreatDoor.Rows.uptoBulk]
 |.lit .nil=>by simp[el,Dt.bulk,Dt.bulkAll,YtpeidnhjcompmaaGreatDoor.Rows.uptoBulk]
 |.nil=>by simp[el,Dt.bulk,Dt.bulkAll,YtpeidnhjcompmaaGreatDoor.Rows.uptoBulk]
 |.ptr d=>by simp[el,Dt.bulk,Dt.bulkAll,YtpeidnhjcompmaaGreatDoor.Rows.uptoBulk]
 |.slice elems spare=>by
  have:=kV elems
  simp only[el,Dt.bulk,YtpeidnhjcompmaaGreatDoor.Rows.uptoBulk]
  omega
 |.agg parts=>by
  have:=kV parts
  simp only[el,Dt.bulk,YtpeidnhjcompmaaGreatDoor.Rows.uptoBulk]
  omega
 |.iface t d=>by simp[el,Dt.bulk,Dt.bulkAll,YtpeidnhjcompmaaGreatDoor.Rows.uptoBulk]
 |.map entries=>by simp[el,Dt.bulk,Dt.bulkAll,YtpeidnhjcompmaaGreatDoor.Rows.uptoBulk]
 |.held h=>by simp[el,Dt.bulk,Dt.bulkAll,YtpeidnhjcompmaaGreatDoor.Rows.uptoBulk]
theorem kV {H:Type}:∀l:List (DataW H),Dt.bulkAll (nu l)≤YtpeidnhjcompmaaGreatDoor.Rows.uptoBulkAll l
 |[]=>by simp[nu,Dt.bulkAll,YtpeidnhjcompmaaGreatDoor.Rows.uptoBulkAll]
 |d::l=>by
  have:=xl d
  have:=kV l
  simp only[nu,Dt.bulkAll,YtpeidnhjcompmaaGreatDoor.Rows.uptoBulkAll]
  omega
end
theorem xn {H:Type} {d:DataW H}:∀{l:List (DataW H)},d∈l→YtpeidnhjcompmaaGreatDoor.Rows.uptoBulk d≤YtpeidnhjcompmaaGreatDoor.Rows.uptoBulkAll l
 |[],h=>by simp at h
 |x::l,h=>by
  simp only[YtpeidnhjcompmaaGreatDoor.Rows.uptoBulkAll]
  rcases List.mem_cons.1 h with rfl|h
  ·omega
  ·have:=xn h;omega
theorem JS {H:Type} {d:DataW H} {l:List (DataW H)} (hk:YtpeidnhjcompmaaGreatDoor.Rows.uptoSmall H l=true) (h:d∈l):(el d).bulk≤1048576:=by
 have h1:YtpeidnhjcompmaaGreatDoor.Rows.uptoBulkAll l≤1048576:=of_decide_eq_true hk
 have:=xl d
 have:=xn h
 omega
theorem u5 {α:Type} {f:α→Dt} {p:α→Prop}:∀(l:List Dt),(∀d∈l,∃x,d=f x∧p x)→∃m:List α,l=m.map f∧∀x∈m,p x
 |[],_=>⟨[],rfl,by simp⟩
 |d::l,h=>by
  obtain⟨x,rfl,hx⟩:=h d (by simp)
  obtain⟨m,rfl,hm⟩:=u5 l fun e he=>h e (by simp[he])
  exact⟨x::m,rfl,by simpa using⟨hx,hm⟩⟩
theorem Ty.inv_slP {P:Program} {t e:TypeId} {d:Dt} {α:Type} {f:α→Dt} {p:α→Prop} (hu:P.underlying t=some (.slice e)) (he:∀x,Ty P e x→∃y,x=f y∧p y) (h:Ty P t d):∃l:List α,d=.sl (l.map f)∧∀x∈l,p x:=by
 obtain⟨l,rfl,ha⟩:=h.inv_slD hu
 obtain⟨m,rfl,hm⟩:=u5 l fun x hx=>he x (ha x hx)
 exact⟨m,rfl,hm⟩
theorem dL {l:List Dt}:∀{d:Dt},d∈l→d.bulk≤Dt.bulkAll l:=by
 induction l with
 |nil=>intro d h;simp at h
 |cons x l ih=>
  intro d h
  simp only[Dt.bulkAll]
  rcases List.mem_cons.1 h with rfl|h
  ·omega
  ·have:=ih h;omega
theorem Gt (d:Dt):1≤d.bulk:=by cases d<;>simp[Dt.bulk]
theorem dM (l:List Dt):l.length≤Dt.bulkAll l:=by
 induction l with
 |nil=>simp
 |cons d l ih=>have:=Gt d;simp only[List.length_cons,Dt.bulkAll];omega
end Go.Rl
namespace Go.Rl
open Go.ChangeShapes Go.WideShapes Go.ChangeAt Go.RowKit Go.Proofs
theorem Ku {α:Type} {l:List α} (h:l.length=2):∃a b,l=[a,b]:=by
 match l,h with
 |[a,b],_=>exact⟨a,b,rfl⟩
theorem Kv {α:Type} {l:List α} (h:l.length=3):∃a b c,l=[a,b,c]:=by
 match l,h with
 |[a,b,c],_=>exact⟨a,b,c,rfl⟩
theorem Kw {α:Type} {l:List α} (h:l.length=4):∃a b c d,l=[a,b,c,d]:=by
 match l,h with
 |[a,b,c,d],_=>exact⟨a,b,c,d,rfl⟩
theorem cel5 {α:Type} {l:List α} (h:l.length=5):∃a b c d e,l=[a,b,c,d,e]:=by
 match l,h with
 |[a,b,c,d,e],_=>exact⟨a,b,c,d,e,rfl⟩
theorem BJ {d:Dt} (ht:Ty Tryz.prog 46 d):∃q:eW,d=iB q:=by
 obtain⟨l,rfl,hl,hf⟩:=ht.inv_st KJ
 obtain⟨a,b,c,rfl⟩:=Kv (show l.length=3 from hl)
 obtain⟨s,rfl⟩:=(hf 0 _ a rfl rfl).inv_bool KQ
 obtain⟨n,rfl⟩:=(hf 1 _ b rfl rfl).inv_nat KE KG
 obtain⟨m,rfl⟩:=(hf 2 _ c rfl rfl).inv_nat KE KG
 exact⟨(s,n,m),rfl⟩
theorem pW {d:Dt} (ht:Ty Tryz.prog 3 d):∃n:Int,d=lT n∧ko n:=by
 obtain⟨n,rfl,hw⟩:=ht.inv_int KI
 exact⟨n,rfl,wf_I hw⟩
theorem Jt {d:Dt} (ht:Ty Tryz.prog 185 d):∃a b c e:Int,d=.st [lT a,lT b,lT c,lT e]∧ko a∧ko b∧ko c∧ko e:=by
 obtain⟨l,rfl,hl,hf⟩:=ht.inv_st Lb
 obtain⟨d0,d1,d2,d3,rfl⟩:=Kw (show l.length=4 from hl)
 obtain⟨n0,rfl,w0⟩:=pW (hf 0 _ d0 rfl rfl)
 obtain⟨n1,rfl,w1⟩:=pW (hf 1 _ d1 rfl rfl)
 obtain⟨n2,rfl,w2⟩:=pW (hf 2 _ d2 rfl rfl)
 obtain⟨n3,rfl,w3⟩:=pW (hf 3 _ d3 rfl rfl)
 exact⟨n0,n1,n2,n3,rfl,w0,w1,w2,w3⟩
theorem HI {d:Dt} (ht:Ty Tryz.prog 187 d):∃m:ci,d=bI m∧JP m:=by
 obtain⟨l,rfl,hl,hf⟩:=ht.inv_st KZ
 obtain⟨d0,d1,rfl⟩:=Ku (show l.length=2 from hl)
 obtain⟨a,b,c,e,rfl,w⟩:=Jt (hf 0 _ d0 rfl rfl)
 obtain⟨q,rfl⟩:=BJ (hf 1 _ d1 rfl rfl)
 exact⟨⟨a,b,c,e,q⟩,rfl,w⟩
theorem AG {d:Dt} (ht:Ty Tryz.prog 50 d):∃l:List ci,d=gN l∧wP l:=ht.inv_slP KS fun _ hx=>HI hx
theorem Gu {d:Dt} (ht:Ty Tryz.prog 48 d):∃m:bz,d=cQ m∧wD m:=by
 obtain⟨l,rfl,hl,hf⟩:=ht.inv_st KH
 obtain⟨d0,d1,d2,rfl⟩:=Kv (show l.length=3 from hl)
 obtain⟨n0,rfl,w0⟩:=pW (hf 0 _ d0 rfl rfl)
 obtain⟨n1,rfl,w1⟩:=pW (hf 1 _ d1 rfl rfl)
 obtain⟨q,rfl⟩:=BJ (hf 2 _ d2 rfl rfl)
 exact⟨⟨n0,n1,q⟩,rfl,w0,w1⟩
theorem Ju {d:Dt} (ht:Ty Tryz.prog 173 d):∃m:er,d=cP m∧F7 m:=by
 obtain⟨l,rfl,hl,hf⟩:=ht.inv_st KV
 obtain⟨d0,d1,d2,d3,rfl⟩:=Kw (show l.length=4 from hl)
 obtain⟨n0,rfl,w0⟩:=pW (hf 0 _ d0 rfl rfl)
 obtain⟨b,rfl⟩:=(hf 1 _ d1 rfl rfl).inv_bool KQ
 obtain⟨q,rfl⟩:=BJ (hf 2 _ d2 rfl rfl)
 obtain⟨p,rfl,wp⟩:=AG (hf 3 _ d3 rfl rfl)
 exact⟨⟨n0,b,q,p⟩,rfl,w0,wp⟩
theorem BK {l:List Dt} {d:Dt} (h:d∈l):SizeOf.sizeOf d<SizeOf.sizeOf l:=List.sizeOf_lt_of_mem h
theorem CT:∀(k:Nat) {d:Dt},SizeOf.sizeOf d≤k→Ty Tryz.prog 52 d→∃n:aV,d=bm n∧wN n
 |0,d,hk,_=>by cases d<;>simp at hk
 |k+1,d,hk,ht=>by
  obtain⟨l,rfl,hl,hf⟩:=ht.inv_st KF
  obtain⟨d0,d1,d2,d3,d4,rfl⟩:=cel5 (show l.length=5 from hl)
  obtain⟨ls,rfl,wl⟩:=(hf 0 _ d0 rfl rfl).inv_slP KT fun _ hx=>Ju hx
  obtain⟨sp,rfl,ws⟩:=Gu (hf 1 _ d1 rfl rfl)
  obtain⟨ks,rfl,hks⟩:=(hf 2 _ d2 rfl rfl).inv_slD KO
  obtain⟨em,rfl⟩:=(hf 3 _ d3 rfl rfl).inv_bool KQ
  obtain⟨pf,rfl,wp⟩:=AG (hf 4 _ d4 rfl rfl)
  obtain⟨ns,rfl,wn⟩:=u5 (f:=bm) (p:=wN) ks fun x hx=>CT k (by
   have:=BK hx
   simp only[Dt.st.sizeOf_spec,List.cons.sizeOf_spec,Dt.sl.sizeOf_spec] at hk
   omega) (hks x hx)
  refine⟨.mk ls sp ns em pf,?_,?_⟩
  ·simp only[bm,jV]
  ·simp only[wN,yH]
   exact⟨wl,ws,wp,wn⟩
end Go.Rl
namespace Go.Rl
open Go.RowKit
structure cn where
 path:List bz
 leaf:aV
def de (e:cn):List UInt8:=uv e.path.length++e.path.flatMap fm++dc e.leaf
def fu (d:bz):Bool:=decide (1≤d.kd)&&decide (d.kd≤4)&&fl d.at_
def dy (e:cn):Bool:=decide (e.path.length≤2048)&&decide (e.leaf.kids.length=0)&&mG e.leaf&&iD e.leaf&&e.path.all fu
def pY (l:List UInt8):Option (cn×List UInt8):=(eA wW l).bind fun a=>(Ag a.2).bind fun b=>some (⟨a.1,b.1⟩,b.2)
def kW (b:List UInt8):Option cn:=match pY b with
 |some (e,[])=>if dy e=true then some e else none
 |_=>none
def BL (e:cn):Prop:=(∀d∈e.path,wD d)∧wN e.leaf
theorem u6 {l t:List UInt8} {e:cn} (h:pY l=some (e,t)):l=de e++t∧BL e∧e.path.length<18446744073709551616:=by
 unfold pY at h
 obtain⟨p1,h1,h⟩:=Option.bind_eq_some_iff.1 h
 obtain⟨p2,h2,h⟩:=Option.bind_eq_some_iff.1 h
 simp only[Option.some.injEq,Prod.mk.injEq] at h
 obtain⟨rfl,rfl⟩:=h
 obtain⟨a1,a2,a3⟩:=pS (fun l a t h=>CM h) (xs:=p1.1) (t:=p1.2) h1
 have b:=Ga (n:=p2.1) (t:=p2.2) h2
 refine⟨?_,⟨fun d hd=>(a3 d hd).2,b.2.2.1⟩,a2⟩
 show l=uv p1.1.length++p1.1.flatMap fm++dc p2.1++p2.2
 rw[List.append_assoc,←b.1,←a1]
theorem Gv {b:List UInt8} {e:cn} (h:kW b=some e):de e=b∧dy e=true∧BL e∧pY b=some (e,[]):=by
 unfold kW at h
 split at h
 ·rename_i e' he
  split at h
  ·cases h
   have:=u6 he
   rw[List.append_nil] at this
   exact⟨this.1.symm,by assumption,this.2.1,he⟩
  ·cases h
 ·cases h
theorem CU {b:List UInt8} {e:cn} (h:pY b=some (e,[])) (hv:dy e=true):kW b=some e:=by
 unfold kW
 rw[h]
 exact if_pos hv
theorem u7 {q:eW} (hc:fl q=true) (hl:(fN q).length<18446744073709551616):I8 q:=⟨hc,by have:=jc q;omega,by have:=jc q;omega⟩
theorem qW {α:Type} {f:α→List UInt8} {l:List α} {a:α} (h:a∈l):(f a).length≤(l.flatMap f).length:=by
 induction l with
 |nil=>cases h
 |cons b l ih=>
  rw[List.flatMap_cons,List.length_append]
  rcases List.mem_cons.1 h with rfl|h
  ·omega
  ·have:=ih h;omega
theorem jY {α:Type} {f:α→List UInt8} {k:Nat} (l:List α) (h:∀a∈l,k≤(f a).length):k*l.length≤(l.flatMap f).length:=by
 induction l with
 |nil=>simp
 |cons b l ih=>
  rw[List.flatMap_cons,List.length_append,List.length_cons]
  have:=ih fun a ha=>h a (by simp[ha])
  have:=h b (by simp)
  rw[Nat.mul_succ];omega
theorem AH (q:eW):3≤(fN q).length:=by
 have h:∀n:List UInt32,1≤(jT n).length:=fun n=>by
  have:=pu n.length
  simp only[jT,List.length_append];omega
 have h1:=h q.2.1
 have h2:=h q.2.2
 simp only[fN,nA,List.length_append,List.length_cons,List.length_nil]
 omega
theorem og (n:Int):1≤(cY n).length:=pu _
theorem rW (m:ci):7≤(ew m).length:=by
 have:=og m.kd;have:=og m.ix;have:=og m.lo;have:=og m.hi;have:=AH m.co
 simp only[ew,List.length_append];omega
theorem xo (m:er):6≤(dC m).length:=by
 have:=og m.un;have:=AH m.va;have:=pu m.pf.length
 have:(ux m.up).length=1:=by cases m.up<;>rfl
 simp only[dC,iC,List.length_append];omega
theorem HJ {d:bz} (hc:fl d.at_=true) (hw:wD d) (hl:(fm d).length<18446744073709551616) (t:List UInt8):wW (fm d++t)=some (d,t):=by
 have hq:I8 d.at_:=u7 hc (by simp only[fm,List.length_append] at hl;omega)
 unfold wW fm
 rw[List.append_assoc,List.append_assoc,mD hw.1];simp only[Option.bind_some]
 rw[mD hw.2];simp only[Option.bind_some]
 rw[yt hq];rfl
theorem Gw {m:ci} (hc:fl m.co=true) (hw:JP m) (hl:(ew m).length<18446744073709551616) (t:List UInt8):uB (ew m++t)=some (m,t):=by
 have hq:I8 m.co:=u7 hc (by simp only[ew,List.length_append] at hl;omega)
 unfold uB ew
 simp only[List.append_assoc]
 rw[mD hw.1];simp only[Option.bind_some]
 rw[mD hw.2.1];simp only[Option.bind_some]
 rw[mD hw.2.2.1];simp only[Option.bind_some]
 rw[mD hw.2.2.2];simp only[Option.bind_some]
 rw[yt hq];rfl
theorem CV {l:List ci} (hc:lJ l=true) (hw:wP l) (hl:(iC l).length<18446744073709551616) (t:List UInt8):G7 (iC l++t)=some (l,t):=by
 simp only[iC,List.length_append] at hl
 have hn:=jY l fun m _=>rW m
 exact pO (by omega) (fun m hm t=>Gw (List.all_eq_true.1 hc m hm) (hw m hm) (by have:=qW (f:=ew) hm;omega) t) t
theorem HK {k n:Nat} (h:n≤k) (hk:k<18446744073709551616) (t:List UInt8):pa k (uv n++t)=some (n,t):=by
 unfold pa
 rw[px (by omega)]
 exact if_pos h
theorem Jv (b:Bool):ux b=uv (if b=true then 1 else 0):=by cases b<;>rfl
theorem xp {k:Nat} (hk:1≤k) (hk2:k<18446744073709551616) (b:Bool) (t:List UInt8):pa k (ux b++t)=some (if b=true then 1 else 0,t):=by
 rw[Jv]
 exact HK (by split<;>omega) hk2 t
theorem Gx (b:Bool):cc (if b=true then 1 else 0)=b:=by cases b<;>rfl
theorem Gy {m:er} (hc:ig m=true) (hw:F7 m) (hl:(dC m).length<18446744073709551616) (t:List UInt8):rH (dC m++t)=some (m,t):=by
 simp only[ig,Bool.and_eq_true] at hc
 have hq:I8 m.va:=u7 hc.1 (by simp only[dC,List.length_append] at hl;omega)
 have hp:=CV hc.2 hw.2 (by simp only[dC,List.length_append] at hl;omega)
 unfold rH dC
 simp only[List.append_assoc]
 rw[mD hw.1];simp only[Option.bind_some]
 rw[xp (by omega) (by omega)];simp only[Option.bind_some]
 rw[yt hq];simp only[Option.bind_some]
 rw[hp];simp only[Option.bind_some,Gx]
theorem El {l:List er} (hc:l.all ig=true) (hw:∀m∈l,F7 m) (hl:(dU l).length<18446744073709551616) (t:List UInt8):sI (dU l++t)=some (l,t):=by
 simp only[dU,List.length_append] at hl
 have hn:=jY l fun m _=>xo m
 exact pO (by omega) (fun m hm t=>Gy (List.all_eq_true.1 hc m hm) (hw m hm) (by have:=qW (f:=dC) hm;omega) t) t
theorem HL {n:aV} (hk:n.kids.length=0) (hv:mG n=true):n=.mk n.lems kI [] n.empty n.pf:=by
 cases n with
 |mk l s k e p=>
  have hk':k=[]:=List.eq_nil_of_length_eq_zero hk
  subst hk'
  have hz:vI s=true:=by
   unfold mG at hv
   simp only[Bool.and_eq_true] at hv
   have:=hv.1
   unfold EI at this
   exact this
  rw[yD] at hz
  have:=of_decide_eq_true hz
  subst this
  rfl
theorem Gz {n:aV} (hk:n.kids.length=0) (hv:mG n=true) (hc:iD n=true) (hw:wN n) (hl:(dc n).length<18446744073709551616) (t:List UInt8):Ag (dc n++t)=some (n,t):=by
 have e:=HL hk hv
 rw[CK] at hc
 simp only[Bool.and_eq_true] at hc
 obtain⟨⟨⟨c1,_⟩,c2⟩,_⟩:=hc
 obtain⟨w1,_,w2,_⟩:=(rR n).1 hw
 have he:=lK n
 rw[if_pos hk] at he
 rw[he] at hl⊢
 simp only[List.length_append] at hl
 rw[rL]
 simp only[List.append_assoc]
 rw[xp (by omega) (by omega)];simp only[Option.bind_some]
 rw[El c2 w1 (by omega)];simp only[Option.bind_some]
 rw[if_pos (by split<;>omega),CV c1 w2 (by omega)]
 simp only[Option.bind_some]
 rw[show decide ((if n.empty=true then 1 else 0)=1)=n.empty by cases n.empty<;>rfl,←e]
theorem GA {e:cn} (hv:dy e=true) (hw:BL e) (hl:(de e).length<18446744073709551616) (t:List UInt8):pY (de e++t)=some (e,t):=by
 simp only[dy,Bool.and_eq_true,decide_eq_true_eq] at hv
 obtain⟨⟨⟨⟨v1,v2⟩,v3⟩,v4⟩,v5⟩:=hv
 simp only[de,List.length_append] at hl
 unfold pY de
 rw[List.append_assoc,pO (by omega) fun d hd t=>HJ (by
  have:=List.all_eq_true.1 v5 d hd
  simp only[fu,Bool.and_eq_true] at this
  exact this.2) (hw.1 d hd) (by have:=qW (f:=fm) hd;omega) t]
 simp only[Option.bind_some]
 rw[Gz v2 v3 v4 hw.2 (by omega)]
 rfl
theorem GB {e:cn} (hv:dy e=true) (hw:BL e) (hl:(de e).length<18446744073709551616):kW (de e)=some e:=by
 refine CU ?_ hv
 have:=GA hv hw hl []
 rwa [List.append_nil] at this
def nB {α:Type} (most:Nat) (f:List UInt8→Option (α×List UInt8)) (l:List UInt8):Option (List α×List UInt8):=(pa most l).bind fun p=>cH f p.1 p.2
def gP:List UInt8→Option (List ci×List UInt8):=nB 1048576 uB
def CW (l:List UInt8):Option (er×List UInt8):=(o0 l).bind fun a=>(pa 1 a.2).bind fun b=>(ny b.2).bind fun c=>(gP c.2).bind fun d=>some (⟨a.1,cc b.1,c.1,d.1⟩,d.2)
def EJ (l:List UInt8):Option (cn×List UInt8):=(nB 2048 wW l).bind fun a=>(pa 1 a.2).bind fun b=>(nB 1073741824 CW b.2).bind fun c=>(gP c.2).bind fun d=>some (⟨a.1,.mk c.1 kI [] (cc b.1) d.1⟩,d.2)
theorem GC {k n:Nat} {l t:List UInt8} (h:pa k l=some (n,t)):gp l=some (n,t)∧n≤k:=by
 unfold pa at h
 obtain⟨p,h1,h2⟩:=Option.bind_eq_some_iff.1 h
 split at h2
 ·cases h2;exact⟨h1,by assumption⟩
 ·cases h2
theorem GD {k m n:Nat} {l t:List UInt8} (h:pa k l=some (n,t)) (hm:n≤m):pa m l=some (n,t):=by
 unfold pa
 rw[(GC h).1]
 exact if_pos hm
theorem oH {α:Type} {most:Nat} {f:List UInt8→Option (α×List UInt8)} {l t:List UInt8} {xs:List α} (h:nB most f l=some (xs,t)):eA f l=some (xs,t):=by
 unfold nB at h
 obtain⟨p,h1,h2⟩:=Option.bind_eq_some_iff.1 h
 unfold eA
 rw[(GC (n:=p.1) (t:=p.2) h1).1]
 exact h2
theorem u9 {α:Type} {f:List UInt8→Option (α×List UInt8)}:∀(n:Nat) (l:List UInt8) (xs:List α) (t:List UInt8),cH f n l=some (xs,t)→xs.length=n
 |0,l,xs,t,h=>by
  simp only[cH,Option.some.injEq,Prod.mk.injEq] at h
  rw[←h.1];rfl
 |n+1,l,xs,t,h=>by
  simp only[cH] at h
  obtain⟨p,h1,h2⟩:=Option.bind_eq_some_iff.1 h
  obtain⟨q,h3,h4⟩:=Option.map_eq_some_iff.1 h2
  simp only[Prod.mk.injEq] at h4
  rw[←h4.1,List.length_cons,u9 n _ _ _ (show cH f n p.2=some (q.1,q.2) from h3)]
theorem yT {α:Type} {most:Nat} {f:List UInt8→Option (α×List UInt8)} {l t:List UInt8} {xs:List α} (h:eA f l=some (xs,t)) (hn:xs.length≤most):nB most f l=some (xs,t):=by
 unfold eA at h
 obtain⟨p,h1,h2⟩:=Option.bind_eq_some_iff.1 h
 unfold nB pa
 rw[h1]
 simp only[Option.bind_some]
 rw[if_pos (by rw[←u9 _ _ _ _ h2];exact hn)]
 exact h2
theorem sZ {α:Type} {f g:List UInt8→Option (α×List UInt8)} (h:∀l a t,f l=some (a,t)→g l=some (a,t)):∀(n:Nat) (l:List UInt8) (xs:List α) (t:List UInt8),cH f n l=some (xs,t)→cH g n l=some (xs,t)
 |0,l,xs,t,e=>e
 |n+1,l,xs,t,e=>by
  simp only[cH] at e⊢
  obtain⟨p,h1,h2⟩:=Option.bind_eq_some_iff.1 e
  obtain⟨q,h3,h4⟩:=Option.map_eq_some_iff.1 h2
  rw[h l p.1 p.2 h1]
  simp only[Option.bind_some]
  rw[sZ h n p.2 q.1 q.2 h3]
  exact congrArg some h4
theorem AI {α:Type} {f g:List UInt8→Option (α×List UInt8)} (h:∀l a t,f l=some (a,t)→g l=some (a,t)) {l t:List UInt8} {xs:List α} (e:eA f l=some (xs,t)):eA g l=some (xs,t):=by
 unfold eA at e⊢
 obtain⟨p,h1,h2⟩:=Option.bind_eq_some_iff.1 e
 rw[h1]
 exact sZ h _ _ _ _ h2
theorem Jw {l t:List UInt8} {m:er} (h:CW l=some (m,t)):rH l=some (m,t):=by
 unfold CW at h
 unfold rH
 obtain⟨p1,h1,h⟩:=Option.bind_eq_some_iff.1 h
 obtain⟨p2,h2,h⟩:=Option.bind_eq_some_iff.1 h
 obtain⟨p3,h3,h⟩:=Option.bind_eq_some_iff.1 h
 obtain⟨p4,h4,h⟩:=Option.bind_eq_some_iff.1 h
 rw[h1];simp only[Option.bind_some]
 rw[h2];simp only[Option.bind_some]
 rw[h3];simp only[Option.bind_some]
 rw[show G7 p3.2=some p4 from oH (t:=p4.2) h4]
 exact h
theorem Jx {l t:List UInt8} {e:cn} (h:EJ l=some (e,t)):pY l=some (e,t):=by
 unfold EJ at h
 unfold pY
 obtain⟨p1,h1,h⟩:=Option.bind_eq_some_iff.1 h
 obtain⟨p2,h2,h⟩:=Option.bind_eq_some_iff.1 h
 obtain⟨p3,h3,h⟩:=Option.bind_eq_some_iff.1 h
 obtain⟨p4,h4,h⟩:=Option.bind_eq_some_iff.1 h
 simp only[Option.some.injEq,Prod.mk.injEq] at h
 obtain⟨rfl,rfl⟩:=h
 have hk:p2.1≤1:=(GC (n:=p2.1) (t:=p2.2) h2).2
 rw[show eA wW l=some p1 from oH (t:=p1.2) h1]
 simp only[Option.bind_some]
 rw[rL,show pa 2 p1.2=some p2 from GD (n:=p2.1) (t:=p2.2) h2 (by omega)]
 simp only[Option.bind_some]
 rw[show sI p2.2=some p3 from AI (fun _ _ _ h=>Jw h) (oH (xs:=p3.1) (t:=p3.2) h3)]
 simp only[Option.bind_some]
 rw[if_pos (by omega),show G7 p3.2=some p4 from oH (t:=p4.2) h4]
 rfl
theorem IK {l t:List UInt8} {ps:List ci} (h:G7 l=some (ps,t)) (hn:ps.length≤1048576):gP l=some (ps,t):=yT h hn
theorem Jy {l t:List UInt8} {m:er} (h:rH l=some (m,t)) (hn:m.pf.length≤1048576):CW l=some (m,t):=by
 unfold rH at h
 unfold CW
 obtain⟨p1,h1,h⟩:=Option.bind_eq_some_iff.1 h
 obtain⟨p2,h2,h⟩:=Option.bind_eq_some_iff.1 h
 obtain⟨p3,h3,h⟩:=Option.bind_eq_some_iff.1 h
 obtain⟨p4,h4,h⟩:=Option.bind_eq_some_iff.1 h
 simp only[Option.some.injEq,Prod.mk.injEq] at h
 obtain⟨rfl,rfl⟩:=h
 rw[h1];simp only[Option.bind_some]
 rw[h2];simp only[Option.bind_some]
 rw[h3];simp only[Option.bind_some]
 rw[show gP p3.2=some p4 from IK (t:=p4.2) h4 hn]
 rfl
theorem xq {α:Type} {f g:List UInt8→Option (α×List UInt8)}:∀(n:Nat) (l:List UInt8) (xs:List α) (t:List UInt8),cH f n l=some (xs,t)→(∀x∈xs,∀l t,f l=some (x,t)→g l=some (x,t))→cH g n l=some (xs,t)
 |0,l,xs,t,e,_=>e
 |n+1,l,xs,t,e,h=>by
  simp only[cH] at e⊢
  obtain⟨p,h1,h2⟩:=Option.bind_eq_some_iff.1 e
  obtain⟨q,h3,h4⟩:=Option.map_eq_some_iff.1 h2
  simp only[Prod.mk.injEq] at h4
  obtain⟨rfl,rfl⟩:=h4
  rw[h p.1 (by simp) l p.2 h1]
  simp only[Option.bind_some]
  rw[xq n p.2 q.1 q.2 h3 fun x hx=>h x (by simp[hx])]
  rfl
theorem Jz {l t:List UInt8} {e:cn} (h:pY l=some (e,t)) (hk:e.leaf.kids.length=0) (h1:e.path.length≤2048) (h2:e.leaf.lems.length≤1073741824) (h3:e.leaf.pf.length≤1048576) (h4:∀m∈e.leaf.lems,m.pf.length≤1048576):EJ l=some (e,t):=by
 unfold pY at h
 obtain⟨a,ha,h⟩:=Option.bind_eq_some_iff.1 h
 obtain⟨n,hn,h⟩:=Option.bind_eq_some_iff.1 h
 simp only[Option.some.injEq,Prod.mk.injEq] at h
 obtain⟨rfl,rfl⟩:=h
 rw[rL] at hn
 obtain⟨p2,hp2,hn⟩:=Option.bind_eq_some_iff.1 hn
 obtain⟨p3,hp3,hn⟩:=Option.bind_eq_some_iff.1 hn
 split at hn
 ·rename_i hlt
  obtain⟨p4,hp4,hn⟩:=Option.bind_eq_some_iff.1 hn
  simp only[Option.some.injEq] at hn
  subst hn
  unfold EJ
  rw[show nB 2048 wW l=some a from yT (xs:=a.1) (t:=a.2) ha h1]
  simp only[Option.bind_some]
  rw[show pa 1 a.2=some p2 from GD (n:=p2.1) (t:=p2.2) hp2 (by omega)]
  simp only[Option.bind_some]
  have hL:nB 1073741824 CW p2.2=some p3:=by
   refine yT (xs:=p3.1) (t:=p3.2) ?_ h2
   have hp3':eA rH p2.2=some p3:=hp3
   unfold eA at hp3'⊢
   obtain⟨q,hq,hq2⟩:=Option.bind_eq_some_iff.1 hp3'
   rw[hq]
   exact xq _ _ _ _ hq2 fun x hx l t hh=>Jy hh (h4 x hx)
  rw[hL]
  simp only[Option.bind_some]
  rw[show gP p3.2=some p4 from IK (ps:=p4.1) (t:=p4.2) hp4 h3]
  rfl
 ·obtain⟨p4,hp4,hn⟩:=Option.bind_eq_some_iff.1 hn
  obtain⟨p5,hp5,hn⟩:=Option.bind_eq_some_iff.1 hn
  obtain⟨p6,hp6,hn⟩:=Option.bind_eq_some_iff.1 hn
  simp only[Option.some.injEq] at hn
  subst hn
  simp[aV.kids] at hk
theorem Em {e:cn} (hk:e.leaf.kids.length=0) (hl:(de e).length≤7340032):e.leaf.lems.length≤1073741824∧e.leaf.pf.length≤1048576∧∀m∈e.leaf.lems,m.pf.length≤1048576:=by
 have he:=lK e.leaf
 rw[if_pos hk] at he
 simp only[de,he,List.length_append,dU,iC] at hl
 have h1:=jY e.leaf.pf fun m _=>rW m
 have h2:=jY e.leaf.lems fun m _=>xo m
 refine⟨by omega,by omega,fun m hm=>?_⟩
 have h3:=qW (f:=dC) hm
 have h4:=jY m.pf fun m _=>rW m
 simp only[dC,iC,List.length_append] at h3
 omega
theorem CX {b:List UInt8} {e:cn} (h:kW b=some e) (hl:b.length≤7340032):EJ b=some (e,[]):=by
 obtain⟨h1,h2,_,h4⟩:=Gv h
 simp only[dy,Bool.and_eq_true,decide_eq_true_eq] at h2
 obtain⟨a,b',c⟩:=Em h2.1.1.1.2 (by rw[h1];exact hl)
 exact Jz h4 h2.1.1.1.2 h2.1.1.1.1 a b' c
structure JR {α:Type} (f:List UInt8→Option (α×List UInt8)) (st:Option (List UInt8)) (ok:Bool) (a:α) (s1:Option (List UInt8)) (ok1:Bool):Prop where
 iff:ok1=(ok&&(st.bind f).isSome)
 val:ok1=true→st.bind f=s1.map fun t=>(a,t)
section
variable {α β:Type} {f:List UInt8→Option (α×List UInt8)} {g:α→List UInt8→Option (β×List UInt8)} {st s1 s2:Option (List UInt8)} {ok ok1 ok2:Bool} {a:α} {b:β}
theorem JR.of_rdE (h:FU f st a s1):JR f st ok a s1 (ok&&s1.isSome):=by
 have h:st.bind f=s1.map fun t=>(a,t):=h
 refine⟨by rw[h];cases s1<;>rfl,fun _=>h⟩
theorem JR.bind (h1:JR f st ok a s1 ok1) (h2:JR (g a) s1 ok1 b s2 ok2):JR (fun l=>(f l).bind fun p=>g p.1 p.2) st ok b s2 ok2:=by
 have e:st.bind (fun l=>(f l).bind fun p=>g p.1 p.2)=(st.bind f).bind fun p=>g p.1 p.2:=by cases st<;>rfl
 refine⟨?_,fun h=>?_⟩
 ·rw[h2.iff,e]
  cases hk:ok1 with
  |true=>
   have hv:=h1.val hk
   have hi:=h1.iff
   rw[hk] at hi
   simp only[Bool.true_eq,Bool.and_eq_true] at hi
   rw[hi.1,hv]
   cases s1<;>rfl
  |false=>
   have hi:=h1.iff
   rw[hk] at hi
   cases ok with
   |false=>rfl
   |true=>
    simp only[Bool.true_and] at hi
    have:st.bind f=none:=Option.isNone_iff_eq_none.1 (by rw[Option.isNone_iff_eq_none];exact Option.not_isSome_iff_eq_none.1 (by rw[←hi];simp))
    rw[this];rfl
 ·have hi2:=h2.iff
  rw[h] at hi2
  simp only[Bool.true_eq,Bool.and_eq_true] at hi2
  rw[e,h1.val hi2.1]
  have:=h2.val h
  cases s1 with
  |none=>exact this
  |some t=>exact this
theorem JR.ok_le (h:JR f st ok a s1 ok1):ok1=true→ok=true∧s1.isSome=true:=fun e=>by
 have h1:=h.iff
 rw[e] at h1
 simp only[Bool.true_eq,Bool.and_eq_true] at h1
 refine⟨h1.1,?_⟩
 have:=h.val e
 rw[this] at h1
 cases s1 with
 |none=>exact absurd h1.2 (by simp)
 |some t=>rfl
theorem JR.map (h:JR f st ok a s1 ok1) (k:α→β):JR (fun l=>(f l).bind fun p=>some (k p.1,p.2)) st ok (k a) s1 ok1:=by
 have e:st.bind (fun l=>(f l).bind fun p=>some (k p.1,p.2))=(st.bind f).map fun p=>(k p.1,p.2):=by
  cases st with
  |none=>rfl
  |some l=>show(f l).bind _=(f l).map _;cases f l<;>rfl
 refine⟨?_,fun hk=>?_⟩
 ·rw[h.iff,e];cases st.bind f<;>rfl
 ·rw[e,h.val hk];cases s1<;>rfl
end
end Go.Rl
namespace Go.Rl
open Go.RowKit Go.Proofs
theorem HM (l:List UInt32):(pB l).bulk=l.length+1:=by
 have:∀l:List UInt32,Dt.bulkAll (l.map yd)=l.length:=by
  intro l
  induction l with
  |nil=>rfl
  |cons a l ih=>simp only[List.map_cons,Dt.bulkAll,ih,yd,Dt.bulk,List.length_cons];omega
 simp only[pB,Dt.bulk,this]
theorem yU (q:eW):(iB q).bulk=q.2.1.length+q.2.2.length+4:=by
 simp only[iB,Dt.bulk,Dt.bulkAll,HM];omega
theorem lN {α:Type} {f:α→Dt} {m:α→Nat} {c:Nat} (l:List α) (h:∀a∈l,m a≤c*(f a).bulk):(l.map m).sum≤c*Dt.bulkAll (l.map f):=by
 induction l with
 |nil=>simp
 |cons a l ih=>
  simp only[List.map_cons,List.sum_cons,Dt.bulkAll,Nat.mul_add]
  have:=h a (by simp)
  have:=ih fun b hb=>h b (by simp[hb])
  omega
theorem rX {α:Type} {f:α→Dt} {e:α→List UInt8} {c:Nat} (l:List α) (h:∀a∈l,(e a).length≤c*(f a).bulk):(l.flatMap e).length≤c*Dt.bulkAll (l.map f):=by
 have:∀l:List α,(l.flatMap e).length=(l.map fun a=>(e a).length).sum:=by
  intro l
  induction l with
  |nil=>rfl
  |cons a l ih=>simp only[List.flatMap_cons,List.length_append,List.map_cons,List.sum_cons,ih]
 rw[this]
 exact lN l h
theorem ib (m:ci):(bI m).bulk=m.co.2.1.length+m.co.2.2.length+10:=by
 simp only[bI,lT,Dt.bulk,Dt.bulkAll,yU];omega
theorem qX (d:bz):(cQ d).bulk=d.at_.2.1.length+d.at_.2.2.length+7:=by
 simp only[cQ,lT,Dt.bulk,Dt.bulkAll,yU];omega
theorem vc (l:List ci):(gN l).bulk=Dt.bulkAll (l.map bI)+1:=rfl
theorem jg (m:er):(cP m).bulk=m.va.2.1.length+m.va.2.2.length+Dt.bulkAll (m.pf.map bI)+8:=by
 simp only[cP,lT,Dt.bulk,Dt.bulkAll,yU,vc];omega
theorem rY (n:aV):(bm n).bulk=Dt.bulkAll (n.lems.map cP)+(cQ n.split).bulk+Dt.bulkAll (n.kids.map bm)+Dt.bulkAll (n.pf.map bI)+5:=by
 cases n with
 |mk l s k e p=>
  simp only[bm,jV,Dt.bulk,Dt.bulkAll,vc,aV.lems,aV.split,aV.kids,aV.pf]
  omega
theorem oI {q:eW} (h:q.2.1.length≤1073741824) (h2:q.2.2.length≤1073741824):(fN q).length≤4*(q.2.1.length+q.2.2.length)+21:=by
 have a1:=fQ (n:=q.2.1.length) (by omega)
 have a2:=fQ (n:=q.2.2.length) (by omega)
 simp only[fN,nA,jT,List.length_append,List.length_cons,List.length_nil,fB]
 omega
theorem fL {n:Int} (h:ko n):(cY n).length≤10:=fQ (A2 h.1 h.2)
section
variable {B:Nat}
theorem GE {m:ci} (hb:(bI m).bulk≤1048576) (hw:JP m):(ew m).length≤10*(bI m).bulk:=by
 rw[ib] at hb⊢
 have:=fL hw.1;have:=fL hw.2.1;have:=fL hw.2.2.1;have:=fL hw.2.2.2
 have:=oI (q:=m.co) (by omega) (by omega)
 simp only[ew,List.length_append];omega
theorem CY {l:List ci} (hb:Dt.bulkAll (l.map bI)≤1048576) (hw:wP l):(iC l).length≤10*Dt.bulkAll (l.map bI)+10:=by
 have h1:=dM (l.map bI)
 rw[List.length_map] at h1
 have:=fQ (n:=l.length) (by omega)
 have:=rX (f:=bI) (e:=ew) (c:=10) l fun m hm=>GE (Nat.le_trans (dL (List.mem_map_of_mem (f:=bI) hm)) hb) (hw m hm)
 simp only[iC,List.length_append];omega
theorem GF {m:er} (hb:(cP m).bulk≤1048576) (hw:F7 m):(dC m).length≤10*(cP m).bulk:=by
 rw[jg] at hb⊢
 have:=fL hw.1
 have:=oI (q:=m.va) (by omega) (by omega)
 have:=CY (l:=m.pf) (by omega) hw.2
 have:(ux m.up).length=1:=tC m.up
 simp only[dC,List.length_append];omega
theorem En {l:List er} (hb:Dt.bulkAll (l.map cP)≤1048576) (hw:∀m∈l,F7 m):(dU l).length≤10*Dt.bulkAll (l.map cP)+10:=by
 have h1:=dM (l.map cP)
 rw[List.length_map] at h1
 have:=fQ (n:=l.length) (by omega)
 have:=rX (f:=cP) (e:=dC) (c:=10) l fun m hm=>GF (Nat.le_trans (dL (List.mem_map_of_mem (f:=cP) hm)) hb) (hw m hm)
 simp only[dU,List.length_append];omega
theorem HN {d:bz} (hb:(cQ d).bulk≤1048576) (hw:wD d):(fm d).length≤10*(cQ d).bulk:=by
 rw[qX] at hb⊢
 have:=fL hw.1;have:=fL hw.2
 have:=oI (q:=d.at_) (by omega) (by omega)
 simp only[fm,List.length_append];omega
theorem CZ:∀(k:Nat) {n:aV},SizeOf.sizeOf n≤k→(bm n).bulk≤1048576→wN n→(dc n).length≤10*(bm n).bulk∧sY n≤2*(bm n).bulk∧sN n
 |0,n,hk,_,_=>by cases n;simp at hk
 |k+1,n,hk,hb,hw=>by
  obtain⟨wl,wd,wp,wk⟩:=(rR n).1 hw
  rw[rY] at hb⊢
  have ih:∀c∈n.kids,(dc c).length≤10*(bm c).bulk∧sY c≤2*(bm c).bulk∧sN c:=fun c hc=>by
   have h1:=dL (List.mem_map_of_mem (f:=bm) hc)
   exact CZ k (by have:=aV.lt_of_mem hc;omega) (by omega) (wk c hc)
  have e1:=En (l:=n.lems) (by omega) wl
  have e2:=HN (d:=n.split) (by omega) wd
  have e3:=CY (l:=n.pf) (by omega) wp
  have e4:=rX (f:=bm) (e:=dc) (c:=10) n.kids fun c hc=>(ih c hc).1
  have s1:=lN (f:=bI) (m:=mQ) (c:=1) n.pf fun m _=>by rw[ib];unfold mQ;omega
  have s2:=lN (f:=cP) (m:=mL) (c:=1) n.lems fun m _=>by
   have:=lN (f:=bI) (m:=mQ) (c:=1) m.pf fun m _=>by rw[ib];unfold mQ;omega
   rw[jg];unfold mL mP;omega
  have s3:=lN (f:=bm) (m:=sY) (c:=2) n.kids fun c hc=>(ih c hc).2.1
  have s4:=dM (n.lems.map cP)
  rw[List.length_map] at s4
  have hd:=qX n.split
  refine⟨?_,?_,?_⟩
  ·rw[lK]
   split
   ·simp only[List.length_append,tC];omega
   ·simp only[List.length_append,List.length_cons,List.length_nil];omega
  ·rw[Gs];unfold mP;omega
  ·refine(uW n).2 ⟨fun m hm=>⟨⟨?_,?_⟩,fun p hp=>⟨?_,?_⟩⟩,⟨by omega,by omega⟩,fun p hp=>⟨?_,?_⟩,fun c hc=>(ih c hc).2.2⟩
   ·have:=dL (List.mem_map_of_mem (f:=cP) hm);rw[jg] at this;omega
   ·have:=dL (List.mem_map_of_mem (f:=cP) hm);rw[jg] at this;omega
   ·have h1:=dL (List.mem_map_of_mem (f:=cP) hm);rw[jg] at h1
    have h2:=dL (List.mem_map_of_mem (f:=bI) hp);rw[ib] at h2;omega
   ·have h1:=dL (List.mem_map_of_mem (f:=cP) hm);rw[jg] at h1
    have h2:=dL (List.mem_map_of_mem (f:=bI) hp);rw[ib] at h2;omega
   ·have h2:=dL (List.mem_map_of_mem (f:=bI) hp);rw[ib] at h2;omega
   ·have h2:=dL (List.mem_map_of_mem (f:=bI) hp);rw[ib] at h2;omega
end
end Go.Rl
namespace Go.Rl
open Go.RowKit
end Go.Rl
namespace Go.Rl
open Go.RowKit
end Go.Rl
namespace Go.Rl
open Go.RowKit Go.Proofs
def yV (w w':World):Prop:=∀a v,w.cell? a=some v→w'.cell? a=some v
theorem yV.cells {w w':World} (h:yV w w') {ad:Addr} {xs:List Value} (hc:dx w ad xs):dx w' ad xs:=fun j u hu=>h _ _ (hc j u hu)
structure Kc (b:Nat) (w w':World):Prop where
 os:w'.os=w.os
 tape:w'.tape=w.tape
 output:w'.output=w.output
 size:w.heap.size≤w'.heap.size
 low:∀k,k<b→w'.heap[k]? =w.heap[k]?
 cel:∀(k:Nat) (o:Obj),w.heap[k]? =some o→o.isCells=true→w'.heap[k]? =some o
section
variable {b:Nat} {w w0 w1 w2:World}
theorem Kc.refl (b:Nat) (w:World):Kc b w w:=⟨rfl,rfl,rfl,Nat.le_refl _,fun _ _=>rfl,fun _ _ h _=>h⟩
theorem Kc.trans (h:Kc b w w1) (k:Kc b w1 w2):Kc b w w2:=⟨k.os.trans h.os,k.tape.trans h.tape,k.output.trans h.output,Nat.le_trans h.size k.size,fun n hn=>(k.low n hn).trans (h.low n hn),fun n o hn ho=>k.cel n o (h.cel n o hn ho) ho⟩
theorem Kc.of_ext (h:aJ w w1) (hb:b≤w.heap.size):Kc b w w1:=⟨h.os,h.tape,h.output,h.size,fun _ hn=>h.heap (Nat.lt_of_lt_of_le hn hb),fun _ _ hn _=>h.heap_some hn⟩
theorem Kc.cells (h:Kc b w w1):yV w w1:=fun a v hv=>by
 unfold World.cell? at hv⊢
 cases ho:w.heap[a.block]? with
 |none=>rw[ho] at hv;cases hv
 |some o=>
  rw[ho] at hv
  cases o with
  |cells c t f=>rw[h.cel _ _ ho rfl];exact hv
  |_=>cases hv
theorem Kc.blk {g:Nat} {T:TypeId} {l:List Value} (h:Kc b w w1) (k:bA g T l w):bA g T l w1:=h.cel _ _ k rfl
theorem Kc.ext (h:Kc w0.heap.size w w1) (e:aJ w0 w):aJ w0 w1:=⟨h.os.trans e.os,h.tape.trans e.tape,h.output.trans e.output,Nat.le_trans e.size h.size,fun n hn=>(h.low n hn).trans (e.heap hn)⟩
theorem Kc.own {row:Option Nat} (hg:w.grownBy w1 row) (hr:∀r,row=some r→b≤r∧∃o:Obj,w.heap[r]? =some o∧o.isCells=false) (hb:b≤w.heap.size):Kc b w w1:=by
 refine⟨hg.os,hg.tape,hg.output,hg.size,fun k hk=>hg.block k (by omega) fun e=>by have:=(hr k e.symm).1;omega,fun k o hk ho=>?_⟩
 refine(hg.block k (Array.getElem?_eq_some_iff.1 hk).1 fun e=>?_).trans hk
 obtain⟨_,o2,h2,h3⟩:=hr k e.symm
 rw[hk] at h2
 cases h2
 rw[ho] at h3
 cases h3
end
end Go.Rl
namespace Go.Rl
open Go.RowKit Go.Proofs Go.Proofs.YtpeidnhjcompmaaGreatDoor
end Go.Rl
namespace Go.Rl
open Go.RowKit
end Go.Rl
namespace Go.Rl
open Go.RowKit Go.Proofs Go.Proofs.YtpeidnhjcompmaaGreatDoor
theorem gR {w:World} {q:eW} {x y:Value} (hx:bi q.2.1 x w) (hy:bi q.2.2 y w) (hs:sQ q):
 Calls Tryz.prog 99 #[.agg #[B q.1,x,y]] w (bH fun r w'=>aJ w w'∧r=B (fl q)):=
 nQ (b:=q.1) ⟨x,y,rfl,hx,hy⟩ (by have:=hs.1;omega) (by have:=hs.2;omega)
end Go.Rl
namespace Go.Rl
open Go.RowKit Go.Proofs Go.Proofs.YtpeidnhjcompmaaGreatDoor
end Go.Rl
namespace Go.Rl
open Go.RowKit Go.Proofs
end Go.Rl
namespace Go.Rl
open Go.RowKit Go.Proofs Go.Proofs.YtpeidnhjcompmaaGreatDoor
theorem xr {α:Type} {f:List UInt8→Option (α×List UInt8)} {P:α→Prop} {K:Nat} (hf:Le f) (h:∀l a t,f l=some (a,t)→l.length≤K→P a):∀(n:Nat) (l:List UInt8) (xs:List α) (t:List UInt8),cH f n l=some (xs,t)→l.length≤K→∀x∈xs,P x
 |0,l,xs,t,e,_=>by
  simp only[cH,Option.some.injEq,Prod.mk.injEq] at e
  rw[←e.1]
  exact fun _ h=>by simp at h
 |n+1,l,xs,t,e,hl=>by
  simp only[cH] at e
  obtain⟨p,h1,h2⟩:=Option.bind_eq_some_iff.1 e
  obtain⟨q,h3,h4⟩:=Option.map_eq_some_iff.1 h2
  simp only[Prod.mk.injEq] at h4
  have h5:=hf l p.1 p.2 h1
  have ih:=xr hf h n p.2 q.1 q.2 h3 (by omega)
  rw[←h4.1]
  intro x hx
  rcases List.mem_cons.1 hx with rfl|hx
  ·exact h l _ p.2 h1 hl
  ·exact ih x hx
theorem pZ {α:Type} {f:List UInt8→Option (α×List UInt8)} {P:α→Prop} {K:Nat} (hf:Le f) (h:∀l a t,f l=some (a,t)→l.length≤K→P a) {l t:List UInt8} {xs:List α} (e:eA f l=some (xs,t)) (hl:l.length≤K):∀x∈xs,P x:=by
 unfold eA at e
 obtain⟨p,h1,h2⟩:=Option.bind_eq_some_iff.1 e
 have:=uu l p.1 p.2 h1
 exact xr hf h _ _ _ _ h2 (by omega)
theorem oJ {l t:List UInt8} {q:eW} (h:ny l=some (q,t)) (hl:l.length≤4294967296):sQ q:=by
 have h1:=(tz h).1
 have h2:=jc q
 have h3:=congrArg List.length h1
 rw[List.length_append] at h3
 exact⟨by omega,by omega⟩
theorem BM {l t:List UInt8} {m:ci} (h:uB l=some (m,t)) (hl:l.length≤4294967296):sQ m.co:=by
 unfold uB at h
 obtain⟨p1,h1,h⟩:=Option.bind_eq_some_iff.1 h
 obtain⟨p2,h2,h⟩:=Option.bind_eq_some_iff.1 h
 obtain⟨p3,h3,h⟩:=Option.bind_eq_some_iff.1 h
 obtain⟨p4,h4,h⟩:=Option.bind_eq_some_iff.1 h
 obtain⟨p5,h5,h⟩:=Option.bind_eq_some_iff.1 h
 simp only[Option.some.injEq,Prod.mk.injEq] at h
 obtain⟨rfl,rfl⟩:=h
 have a1:=fT _ _ _ h1;have a2:=fT _ _ _ h2;have a3:=fT _ _ _ h3;have a4:=fT _ _ _ h4
 exact oJ (q:=p5.1) (t:=p5.2) h5 (by omega)
theorem xt {l t:List UInt8} {xs:List ci} (h:G7 l=some (xs,t)) (hl:l.length≤4294967296):sP xs:=pZ CG.le (fun _ _ _ h hl=>BM h hl) h hl
theorem BN {l t:List UInt8} {m:er} (h:rH l=some (m,t)) (hl:l.length≤4294967296):sL m:=by
 unfold rH at h
 obtain⟨p1,h1,h⟩:=Option.bind_eq_some_iff.1 h
 obtain⟨p2,h2,h⟩:=Option.bind_eq_some_iff.1 h
 obtain⟨p3,h3,h⟩:=Option.bind_eq_some_iff.1 h
 obtain⟨p4,h4,h⟩:=Option.bind_eq_some_iff.1 h
 simp only[Option.some.injEq,Prod.mk.injEq] at h
 obtain⟨rfl,rfl⟩:=h
 have a1:=fT _ _ _ h1;have a2:=rI 1 _ _ _ h2;have a3:=uw _ _ _ h3
 exact⟨oJ (q:=p3.1) (t:=p3.2) h3 (by omega),xt (xs:=p4.1) (t:=p4.2) h4 (by omega)⟩
theorem p7:∀(k:Nat) (l t:List UInt8) (n:aV),pb k l=some (n,t)→l.length≤4294967296→sN n
 |0,_,_,_,h,_=>by cases h
 |k+1,l,t,n,h,hl=>by
  simp only[pb] at h
  obtain⟨p1,h1,h⟩:=Option.bind_eq_some_iff.1 h
  obtain⟨p2,h2,h⟩:=Option.bind_eq_some_iff.1 h
  have a1:=rI 2 _ _ _ h1;have a2:=qJ _ _ _ h2
  have s2:=pZ CH.le (fun _ _ _ h hl=>BN h hl) (xs:=p2.1) (t:=p2.2) h2 (by omega)
  split at h
  ·obtain⟨p3,h3,h⟩:=Option.bind_eq_some_iff.1 h
   simp only[Option.some.injEq,Prod.mk.injEq] at h
   obtain⟨rfl,rfl⟩:=h
   refine(uW _).2 ⟨s2,⟨?_,?_⟩,xt (xs:=p3.1) (t:=p3.2) h3 (by omega),fun _ h=>?_⟩
   ·show([]:List UInt32).length≤_;simp
   ·show([]:List UInt32).length≤_;simp
   ·simp[aV.kids] at h
  ·obtain⟨p3,h3,h⟩:=Option.bind_eq_some_iff.1 h
   obtain⟨p4,h4,h⟩:=Option.bind_eq_some_iff.1 h
   obtain⟨p5,h5,h⟩:=Option.bind_eq_some_iff.1 h
   simp only[Option.some.injEq,Prod.mk.injEq] at h
   obtain⟨rfl,rfl⟩:=h
   have a3:=rJ _ _ _ h3;have a4:=qL _ _ _ _ h4
   have s4:=p7 k _ p4.2 p4.1 h4 (by omega)
   have s5:=p7 k _ p5.2 p5.1 h5 (by omega)
   have sd:sQ p3.1.at_:=by
    unfold wW at h3
    obtain⟨q1,i1,h3⟩:=Option.bind_eq_some_iff.1 h3
    obtain⟨q2,i2,h3⟩:=Option.bind_eq_some_iff.1 h3
    obtain⟨q3,i3,h3⟩:=Option.bind_eq_some_iff.1 h3
    have b1:=fT _ _ _ i1;have b2:=fT _ _ _ i2
    simp only[Option.some.injEq] at h3
    rw[←h3]
    exact oJ (q:=q3.1) (t:=q3.2) i3 (by omega)
   refine(uW _).2 ⟨s2,sd,fun _ h=>by simp[aV.pf] at h,fun c hc=>?_⟩
   simp only[aV.kids,List.mem_cons,List.not_mem_nil,or_false] at hc
   rcases hc with rfl|rfl
   ·exact s4
   ·exact s5
end Go.Rl
namespace Go.Rl
open Go.RowKit
def j6:List UInt8:=[82,76,85,74]
def AW (b:List UInt8):List UInt8:=b++(jA b).take 8
def fF (b:List UInt8) (k:Nat):Bool:=decide (k+8≤b.length)&&decide (AW (b.take k)=b.take (k+8))
def jh (d:List UInt8):List UInt8:=AW (j6++d)
def j7 (b p:List UInt8):List UInt8:=AW (b++mc p)
def gD (b:List UInt8) (k:Nat):Option (cn×Nat):=(ug (b.drop k)).bind fun p=>if fF b (b.length-p.2.length)=true then(kW p.1).map fun x=>(x,b.length-p.2.length+8) else none
def pi (b:List UInt8):Nat→Nat→List cn×Nat
 |0,k=>([],k)
 |f+1,k=>match gD b k with
  |some (x,k')=>(x::(pi b f k').1,(pi b f k').2)
  |none=>([],k)
def fM (b:List UInt8) (k:Nat):List cn×Nat:=pi b (b.length-k) k
def oh (b:List UInt8):(List UInt8×List cn×Nat)×Int:=if b.length<44∨b.take 4≠j6∨fF b 36=false then((vF,[],0),5) else(((b.take 36).drop 4,fM b 44),0)
section
variable {b:List UInt8} {k k' f:Nat} {x:cn}
theorem HO {l a t:List UInt8} (h:ug l=some (a,t)):t.length+1≤l.length:=by
 have:=Ht h
 have h2:=pu a.length
 rw[this]
 unfold mc
 simp only[List.length_append]
 omega
theorem rZ (h:gD b k=some (x,k')):∃p t,ug (b.drop k)=some (p,t)∧fF b (b.length-t.length)=true∧kW p=some x∧k'=b.length-t.length+8∧k+9≤k'∧k'≤b.length:=by
 unfold gD at h
 obtain⟨p,h1,h2⟩:=Option.bind_eq_some_iff.1 h
 split at h2
 ·rename_i hc
  obtain⟨y,h3,h4⟩:=Option.map_eq_some_iff.1 h2
  simp only[Prod.mk.injEq] at h4
  obtain⟨rfl,rfl⟩:=h4
  have h5:=HO (a:=p.1) (t:=p.2) h1
  rw[List.length_drop] at h5
  have hc':=hc
  simp only[fF,Bool.and_eq_true,decide_eq_true_eq] at hc'
  exact⟨p.1,p.2,h1,hc,h3,rfl,by omega,by omega⟩
 ·cases h2
theorem xu (h:b.length≤k):gD b k=none:=by
 unfold gD
 rw[List.drop_eq_nil_of_le h]
 rfl
theorem jZ:∀(f k:Nat),b.length-k≤f→pi b f k=fM b k
 |0,k,h=>by
  unfold fM
  rw[show b.length-k=0 by omega]
 |f+1,k,h=>by
  unfold fM
  rcases Nat.lt_or_ge k b.length with hk|hk
  ·obtain⟨m,hm⟩:∃m,b.length-k=m+1:=⟨b.length-k-1,by omega⟩
   rw[hm]
   simp only[pi]
   cases hs:gD b k with
   |none=>rfl
   |some p=>
    obtain⟨x,k'⟩:=p
    obtain⟨_,_,_,_,_,_,h9,_⟩:=rZ hs
    simp only[]
    rw[jZ f k' (by omega),jZ m k' (by omega)]
  ·rw[show b.length-k=0 by omega]
   simp only[pi,xu hk]
theorem vg (h:gD b k=some (x,k')):fM b k=(x::(fM b k').1,(fM b k').2):=by
 obtain⟨_,_,_,_,_,_,h9,h10⟩:=rZ h
 have:fM b k=pi b (b.length-k-1+1) k:=(jZ _ _ (by omega)).symm
 rw[this]
 simp only[pi,h]
 rw[jZ _ _ (by omega)]
theorem vh (h:gD b k=none):fM b k=([],k):=by
 have:fM b k=pi b (b.length-k+1) k:=(jZ _ _ (by omega)).symm
 rw[this]
 simp only[pi,h]
end
theorem yW (b:List UInt8):(AW b).length=b.length+8:=by
 unfold AW
 rw[List.length_append,List.length_take,dw]
 omega
theorem xv (a s:List UInt8):fF (AW a++s) a.length=true:=by
 have h:=yW a
 unfold fF
 rw[Bool.and_eq_true]
 refine⟨decide_eq_true (by rw[List.length_append];omega),decide_eq_true ?_⟩
 have e1:(AW a++s).take a.length=a:=by
  unfold AW
  rw[List.append_assoc]
  exact List.take_left' rfl
 have e2:(AW a++s).take (a.length+8)=AW a:=List.take_left' h
 rw[e1,e2]
theorem AJ (b p:List UInt8):(j7 b p).length=b.length+(mc p).length+8:=by unfold j7;rw[yW,List.length_append]
theorem AK (b p:List UInt8):j7 b p=b++(mc p++(jA (b++mc p)).take 8):=by
 unfold j7 AW
 rw[List.append_assoc]
theorem BO {b p:List UInt8} (rest:List UInt8) (hp:p.length<18446744073709551616):gD (j7 b p++rest) b.length=(kW p).map fun x=>(x,(j7 b p).length):=by
 have hc:((jA (b++mc p)).take 8).length=8:=by rw[List.length_take,dw];rfl
 have hd:(j7 b p++rest).drop b.length=mc p++((jA (b++mc p)).take 8++rest):=by
  rw[AK,List.append_assoc,List.append_assoc]
  exact List.drop_left' rfl
 have hl:=AJ b p
 unfold gD
 rw[hd,FE hp]
 simp only[Option.bind_some]
 have e:(j7 b p++rest).length-((jA (b++mc p)).take 8++rest).length=(b++mc p).length:=by
  rw[List.length_append,List.length_append,List.length_append,hl,hc];omega
 rw[e,if_pos (show fF (j7 b p++rest) (b++mc p).length=true from xv _ _)]
 congr 1
 funext x
 rw[hl,List.length_append]
def JU (b:List UInt8) (ps:List (List UInt8)):List UInt8:=ps.foldl j7 b
theorem yX:∀(ps:List (List UInt8)) (b:List UInt8),∃s,JU b ps=b++s
 |[],b=>⟨[],by simp[JU]⟩
 |p::ps,b=>by
  obtain⟨s,h⟩:=yX ps (j7 b p)
  exact⟨mc p++(jA (b++mc p)).take 8++s,by
   show JU (j7 b p) ps=_
   rw[h,AK]
   simp only[List.append_assoc]⟩
def vK (b:List UInt8) (es:List cn):List UInt8:=JU b (es.map de)
def AL (es:List cn):Prop:=∀e∈es,kW (de e)=some e∧(de e).length<18446744073709551616
theorem vi:∀(es:List cn) (b rest:List UInt8),AL es→fM (vK b es++rest) b.length=(es++(fM (vK b es++rest) (vK b es).length).1,(fM (vK b es++rest) (vK b es).length).2)
 |[],b,rest,_=>rfl
 |e::es,b,rest,h=>by
  obtain⟨h1,h2⟩:=h e (by simp)
  have e0:vK b (e::es)=vK (j7 b (de e)) es:=rfl
  obtain⟨s,hs⟩:=yX (es.map de) (j7 b (de e))
  have e1:vK (j7 b (de e)) es++rest=j7 b (de e)++(s++rest):=by
   show JU _ _++rest=_
   rw[hs,List.append_assoc]
  have hst:gD (vK (j7 b (de e)) es++rest) b.length=some (e,(j7 b (de e)).length):=by
   rw[e1,BO _ h2,h1];rfl
  rw[e0,vg hst,vi es (j7 b (de e)) rest fun x hx=>h x (by simp[hx])]
  rfl
theorem lO {d:List UInt8} (hd:d.length=32):(jh d).length=44:=by unfold jh;rw[yW,List.length_append,hd];rfl
theorem Eo {d:List UInt8} (s:List UInt8) (hd:d.length=32):oh (jh d++s)=((d,fM (jh d++s) 44),0):=by
 have h:=lO hd
 have hl:(j6++d).length=36:=by rw[List.length_append,hd];rfl
 have h4:(jh d++s).take 4=j6:=by
  unfold jh AW
  rw[List.append_assoc,List.append_assoc]
  exact List.take_left' (l₁:=j6) rfl
 have h36:(jh d++s).take 36=j6++d:=by
  unfold jh AW
  rw[List.append_assoc]
  exact List.take_left' hl
 unfold oh
 rw[if_neg,h36,show(j6++d).drop 4=d from List.drop_left' (l₁:=j6) rfl]
 rintro(h1|h1|h1)
 ·rw[List.length_append] at h1;omega
 ·exact h1 h4
 ·have:=xv (j6++d) s
  rw[hl] at this
  rw[show jh d=AW (j6++d) from rfl,this] at h1
  cases h1
theorem HP {d:List UInt8} (es:List cn) (rest:List UInt8):∃s,vK (jh d) es++rest=jh d++s:=by
 obtain⟨s,hs⟩:=yX (es.map de) (jh d)
 exact⟨s++rest,by show JU _ _++rest=_;rw[hs,List.append_assoc]⟩
theorem Ep {d:List UInt8} {es:List cn} (rest:List UInt8) (hd:d.length=32) (hb:AL es):oh (vK (jh d) es++rest)=((d,es++(fM (vK (jh d) es++rest) (vK (jh d) es).length).1,(fM (vK (jh d) es++rest) (vK (jh d) es).length).2),0):=by
 obtain⟨s,hs⟩:=HP (d:=d) es rest
 have h:=Eo (d:=d) s hd
 rw[←hs] at h
 have h2:=vi es (jh d) rest hb
 rw[lO hd] at h2
 rw[h,h2]
theorem BP {d:List UInt8} {es:List cn} (hd:d.length=32) (hb:AL es):oh (vK (jh d) es)=((d,es,(vK (jh d) es).length),0):=by
 have h:=Ep [] hd hb
 rw[List.append_nil] at h
 rw[h,vh (xu (Nat.le_refl _)),List.append_nil]
def JA (b:List UInt8) (e:cn):List UInt8×Int:=if dy e=false then([],1) else if (oh b).2≠0∨(oh b).1.2.2≠b.length then([],5) else(j7 b (de e),0)
end Go.Rl
namespace Go.Rl
open Go.RowKit Go.Proofs
def mW (e:cn):Dt:=.st [.sl (e.path.map cQ),bm e.leaf]
section
variable {w:World} {cs:List Value}
theorem iZ {e:cn} (h:Rp w (mW e) cs):∃vd vl x y vk vp,cs=[vd,vl,I e.leaf.split.kd,I e.leaf.split.ix,B e.leaf.split.at_.1,x,y,vk,B e.leaf.empty,vp]∧ct cQ e.path vd w∧ct cP e.leaf.lems vl w∧bi e.leaf.split.at_.2.1 x w∧bi e.leaf.split.at_.2.2 y w∧ct bm e.leaf.kids vk w∧ct bI e.leaf.pf vp w:=by
 simp only[mW,bk,Rp.eq_5] at h
 obtain⟨_,_,rfl,h1,_,_,rfl,h2,rfl⟩:=h
 obtain⟨vd,rfl,hd,_⟩:=Rp.isSlice h1
 obtain⟨vl,x,y,vk,vp,rfl,a1,a2,a3,a4,a5⟩:=cW h2
 exact⟨vd,vl,x,y,vk,vp,rfl,hd,a1,a2,a3,a4,a5⟩
theorem dN (e:cn):(mW e).size=10:=by simp[mW,Dt.size,Dt.sizeAll,cg]
theorem yY {g:Nat}:(Instr.sliceAt 24 (.pointer (some ⟨g,0,none⟩)) none (some (I 8)) none).run Tryz.prog w=.ok (.slice (some ⟨g,0,none⟩) 8 32) w:=by
 have a1:=run_sliceBound (P:=Tryz.prog) (w:=w) .i64 (8:Int) 32 .sliceAlen (by omega) (by omega)
 have h8:(8:Int).toNat=8:=rfl
 rw[h8] at a1
 simp[Instr.sliceAt,run_underlying Tryz.underlying24,Instr.sureAddr,Instr.sliceBounds,fj fa,Addr.add_mid,I,a1]
theorem cE.front {l:List UInt8} {g n c k:Nat} (h:cE l (.slice (some ⟨g,0,none⟩) n c) w) (hk:k≤n) (h0:0<k):cE (l.take k) (.slice (some ⟨g,0,none⟩) k c) w:=by
 obtain⟨A,n',c',he,h1,h2,h3,h4,h5⟩:=h
 cases he
 refine⟨_,_,_,rfl,Nat.le_trans hk h1,h2,by simp only[List.length_map,List.length_take] at h3⊢;omega,fun _=>?_,fun h=>by cases h⟩
 obtain⟨ad,e,hc⟩:=h4 (by omega)
 cases e
 exact⟨_,rfl,by rw[List.map_take];exact hc.take k⟩
end
section
variable {P:Program} {ops:Array Oper} {Q:im} {N:Nat} {D:List Deferred} {S:World→Prop} {fuel:Nat} {listed:Array Bool} {l:Fr} {w:World} {d:Nat} {ty:TypeId} {pos:String} {aft:Array Edge}
theorem C0 (i:Nat) {t:TypeId} {x:Operand} {lo hi mx:Option Operand} {u r:Value} {a b c:Option Value} (hi':ops[i]? =some ⟨some d,.slice t x lo hi mx,ty,pos,aft,none⟩) (hx:ev l x=some u) (hlo:G6 l lo=some a) (hhi:G6 l hi=some b) (hmx:G6 l mx=some c)
 (hB:mr ops listed i=true) (hd:Nat.blt d N=true) (hS:S w) (hrun:∀w',S w'→(Instr.sliceAt t u a b c).run P w'=.ok r w')
 (k:db P ops Q N D S fuel (listed.setIfInBounds i true) ((d,r)::l) w):db P ops Q N D S (fuel+1) listed l w:=
 ww i hi' hB hd hS (fun ρ w' hρ hw'=>by
  have:execOp ρ ⟨some d,.slice t x lo hi mx,ty,pos,aft,none⟩=(do pure (Next.value (←Instr.sliceAt t (ρ x) (lo.map ρ) (hi.map ρ) (mx.map ρ))):Sem Next):=rfl
  rw[this,hρ x _ hx,rh hρ hlo,rh hρ hhi,rh hρ hmx,Sem.run_bind,hrun w' hw'];rfl) k
end
end Go.Rl
namespace Go.Rl
open Go.RowKit Go.Proofs
theorem AM:aH Tryz.prog 53:=⟨_,Tryz.func53,by kernel_rfl,rfl⟩
theorem BQ:aH Tryz.prog 18:=⟨_,Tryz.func18,by kernel_rfl,rfl⟩
theorem AN {w:World} {b:List UInt8} {v:Value} (hb:cE b v w) (hl:b.length≤1099511627776):
 Calls Tryz.prog 53 #[v] w (bH fun r w'=>aJ w w'∧cF w.heap.size (AW b) r w'):=by
 refine enter (vs:=[v]) Tryz.func53 E E E ?_
 refine af (aa (ac E E (ag (ab (af (aa (ae E E (an Ea E E ((Eb hb (by omega))) ?_))))))))
 rintro v5 w5 ⟨x5,rfl⟩
 obtain⟨g3,w3,hr3,l3,x3,k3⟩:=aZ (P:=Tryz.prog) (w:=w5) (t:=24) (l:=(List.replicate 32 0).map U8) kQ rfl
 refine aX E hr3 ?_
 obtain⟨w6,s6,q6,k6⟩:=k3.stS (P:=Tryz.prog) (t:=24) (m:=(jA b).map U8) (by simp[dw]) (by rw[List.length_map,dw];exact mO) (iu _)
 refine ax E E s6 ?_
 have x6:=x3.of_new q6 l3
 have b32:cE (jA b) (.slice (some ⟨g3,0,none⟩) 32 32) w6:=by
  have:=k6.bts (by rw[dw];omega)
  rwa [dw] at this
 refine ag (ab (af ?_))
 have hd:aJ w6 w6.drew:=(aJ.refl w6).drew
 have b8:=b32.front (k:=8) (by omega) (by omega)
 have d8:((jA b).take 8).length=8:=by rw[List.length_take,dw];omega
 refine fR (aJ w6) 6 E (by kernel_rfl) ?_
 refine cT 1 E E (by kernel_rfl) E hd ?_
 refine C0 3 E E E E E (by kernel_rfl) E hd (fun w' _=>yY) ?_
 refine aQ 0 (by kernel_rfl) E ?_
 obtain⟨v7,w7,hr7,x7,o7,_⟩:=dR (w:=w6.drew) w6.heap.size [] (by simp) hd.size
 have e7:=hd.trans x7
 refine aG (vs:=[]) E E hr7 (aF e7 (aQ 2 (by kernel_rfl) E ?_))
 obtain⟨v8,w8,hr8,o8,g8⟩:=df (ty:=22) o7 (hb.ext ((x5.trans x6).trans e7)) (by simp;omega) e7.size
 have x8:=aJ.of_grew e7 g8 o7.ge
 refine aW E E hr8 (aF x8 (aQ 4 (by kernel_rfl) E ?_))
 obtain⟨v10,w10,hr10,o10,g10⟩:=df (ty:=22) o8 (b8.ext x8) (by simp[d8];omega) x8.size
 have x10:=aJ.of_grew x8 g10 o8.ge
 refine aW E E hr10 (aF x10 (aQ 5 (by kernel_rfl) E ?_))
 refine ac E E (aF x10 (fS (by kernel_rfl) ?_))
 refine ab (aw (av E E ?_))
 exact⟨_,rfl,((x5.trans x6).trans x10),by have h:cF w6.heap.size ([]++b++(jA b).take 8) v10 w10:=o10;exact h.low (x5.trans x6).size⟩
theorem JB {w:World} {d:List UInt8} (hd:d.length=32):
 Calls Tryz.prog 19 #[.agg (d.map U8).toArray] w (bH fun r w'=>aJ w w'∧cF w.heap.size (jh d) r w'):=by
 refine enter (vs:=[.agg (d.map U8).toArray]) Tryz.func19 E E E ?_
 refine af (aa ?_)
 obtain⟨g2,w2,hr2,l2,x2,k2⟩:=ca (P:=Tryz.prog) (w:=w) (T:=24) (cs:=d.map U8)
 refine cm E E hr2 ?_
 refine ac E E (ag (ab (af (aa ?_))))
 obtain⟨v7,w7a,w7,hr7,hc7,x7,b7,ad,hv7,had,hlt⟩:=FC (w:=w2) (t:=22) Tryz.underlying22 [82,76,85,74] (by simp) (by simp)
 refine aG (vs:=[(0,U8 82),(1,U8 76),(2,U8 85),(3,U8 74)]) E E hr7 ?_
 refine bc E E hc7 ?_
 have e7:=x2.trans x7
 have bd:cE d (.slice (some ⟨g2,0,none⟩) 32 32) w7:=by
  have:=(k2.ext x7).bts (by rw[hd];omega)
  rwa [hd] at this
 obtain⟨v10,w10,hr10,o10,x10⟩:=A3 (ty:=22) e7 (.inr ⟨b7,ad,hv7⟩) bd (by omega) (by simp[hd])
 refine dl E E E E E (Gn) ?_
 refine aW E E hr10 ?_
 have b10:cE (j6++d) v10 w10:=o10.bts
 refine an AM E E ((AN b10 (by simp only[List.length_append,hd,j6,List.length_cons,List.length_nil];omega))) ?_
 rintro v7 w7' ⟨x7',o11⟩
 refine ac E E (ag (ab (aw (av E E ?_))))
 exact⟨_,rfl,(x10.trans x7'),o11.low x10.size⟩
theorem BR {w:World} {d:List UInt8} (hd:d.length=32):
 Calls Tryz.prog 18 #[.agg (d.map U8).toArray] w (bH fun r w'=>aJ w w'∧cF w.heap.size (jh d) r w'):=by
 refine enter (vs:=[.agg (d.map U8).toArray]) Tryz.func18 E E E ?_
 refine af (aa ?_)
 obtain⟨g2,w2,hr2,l2,x2,k2⟩:=ca (P:=Tryz.prog) (w:=w) (T:=24) (cs:=d.map U8)
 refine cm E E hr2 ?_
 refine ac E E (ag (ab (af (aa ?_))))
 obtain⟨v7,w7a,w7,hr7,hc7,x7,b7,ad,hv7,had,hlt⟩:=FC (w:=w2) (t:=22) Tryz.underlying22 [82,76,85,74] (by simp) (by simp)
 refine aG (vs:=[(0,U8 82),(1,U8 76),(2,U8 85),(3,U8 74)]) E E hr7 ?_
 refine bc E E hc7 ?_
 have e7:=x2.trans x7
 have bd:cE d (.slice (some ⟨g2,0,none⟩) 32 32) w7:=by
  have:=(k2.ext x7).bts (by rw[hd];omega)
  rwa [hd] at this
 obtain⟨v8,w8,hr8,o8,x8⟩:=A3 (ty:=22) e7 (.inr ⟨b7,ad,hv7⟩) bd (by omega) (by simp[hd])
 refine dl E E E E E (Gn) ?_
 refine aW E E hr8 ?_
 refine ac E E (ag (ab (af (aa (ae E E ?_)))))
 have b8:cE (j6++d) v8 w8:=o8.bts
 have hl8:(j6++d).length=36:=by simp only[List.length_append,hd,show j6.length=4 from rfl]
 refine an Eg E E ((Eh b8)) ?_
 rintro v10 w10 ⟨x10,rfl⟩
 obtain⟨g6,w6,hr6,l6,x6,k6⟩:=aZ (P:=Tryz.prog) (w:=w10) (t:=24) (l:=(List.replicate 32 0).map U8) kQ rfl
 refine aX E hr6 ?_
 obtain⟨w11,s11,q11,k11⟩:=k6.stS (P:=Tryz.prog) (t:=24) (m:=(jA (j6++d)).map U8) (by simp[dw]) (by rw[List.length_map,dw];exact mO) (iu _)
 refine ax E E s11 ?_
 have x11:=x6.of_new q11 l6
 have b32:cE (jA (j6++d)) (.slice (some ⟨g6,0,none⟩) 32 32) w11:=by
  have:=k11.bts (by rw[dw];omega)
  rwa [dw] at this
 have b12:=b32.front (k:=8) (by omega) (by omega)
 have d8:((jA (j6++d)).take 8).length=8:=by rw[List.length_take,dw];omega
 refine ag (ab (af (aa (ae E E (dl E E E E E (yY) ?_)))))
 have o8':cF w.heap.size (j6++d) v8 w11:=o8.ext ((x10.trans x11))
 obtain⟨v13,w13,hr13,o13,g13⟩:=df (ty:=22) o8' b12 (by rw[hl8,d8];omega) (((x8.trans x10).trans x11)).size
 have x13:=aJ.of_grew (((x8.trans x10).trans x11)) g13 o8'.ge
 refine aW E E hr13 ?_
 refine ac E E (ag (ab (aw (av E E ?_))))
 exact⟨_,rfl,x13,o13⟩
end Go.Rl
namespace Go.Rl
open Go.RowKit Go.Proofs
theorem Er:aH Tryz.prog 57:=⟨_,Tryz.func57,by kernel_rfl,rfl⟩
theorem gJ.off {w w':World} {v r:Value} {g:Nat} (h:gJ w w' v r) (hn:some g≠v.ownBlock) (hg:g<w.heap.size):some g≠r.ownBlock:=fun e=>by
 rcases h.own with h1|h1
 ·exact hn (e.trans h1)
 ·have:=h1 _ e.symm;omega
theorem JV {w:World} {u:cn} {vd vl x y vk vp:Value} (hd:ct cQ u.path vd w) (hl:ct cP u.leaf.lems vl w) (hx:bi u.leaf.split.at_.2.1 x w) (hy:bi u.leaf.split.at_.2.2 y w) (hk:ct bm u.leaf.kids vk w) (hp:ct bI u.leaf.pf vp w)
 (hw:BL u) (hlen:(de u).length≤4398046511104):
 Calls Tryz.prog 24 #[.agg #[vd,vl,I u.leaf.split.kd,I u.leaf.split.ix,B u.leaf.split.at_.1,x,y,vk,B u.leaf.empty,vp]] w (bH fun r w'=>aJ w w'∧cE (de u) r w'):=by
 refine enter (vs:=[.agg #[vd,vl,I u.leaf.split.kd,I u.leaf.split.ix,B u.leaf.split.at_.1,x,y,vk,B u.leaf.empty,vp]]) Tryz.func24 E E E ?_
 have hpl:=hd.len
 have hun:(UInt64.ofNat u.path.length).toNat=u.path.length:=by rw[UInt64.toNat_ofNat'];omega
 have hen:(de u).length=(uv u.path.length).length+(u.path.flatMap fm).length+(dc u.leaf).length:=by simp only[de,List.length_append]
 refine af (aa ?_)
 obtain⟨g1,w1,hr1,l1,x1,k1⟩:=ca (P:=Tryz.prog) (w:=w) (T:=54) (cs:=[vd,vl,I u.leaf.split.kd,I u.leaf.split.ix,B u.leaf.split.at_.1,x,y,vk,B u.leaf.empty,vp])
 refine cm E E hr1 (ac E E (ag (ab (af (aa (ah E E (ap (o:=0) KK E (by kernel_rfl) E) ?_))))))
 refine aj E E (ai KN E (k1.cell (i:=0) E)) (aS E E (a9 KN (hd.ext x1)) ?_)
 refine bc E E (fJ Tryz.underlying3 Tryz.underlying107) (an d7 E E ((d9 (l:=[]) (n:=UInt64.ofNat u.path.length) (cE.nil _) (by simp))) ?_)
 rintro v9 w9 ⟨x9,o9⟩
 rw[hun,List.nil_append] at o9
 have b9:=o9.bts
 refine ac E E (ag (ab (af (af (aa (ac E E (ag (ab (aE ?_)))))))))
 refine fb (fun(i:Nat) (v3:Value)=>[(1,.pointer (some ⟨g1,0,none⟩)),(3,v3),(4,I (i:Int))]) (fun(i:Nat) (v3:Value) w'=>aJ w w'∧aJ w1 w'∧i≤u.path.length∧cE (uv u.path.length++(u.path.take i).flatMap fm) v3 w') (fun(i:Nat) (v3:Value)=>u.path.length-i) (0) (v9) ⟨rfl,rfl,rfl,trivial⟩ ⟨(x1.trans x9),x9,by omega,by simpa using b9⟩ ?_
 rintro i v3 wL ⟨eL,e1L,hi,bL⟩
 refine af (af (aa (ae E E (ah E E (ap (o:=0) KK E (by kernel_rfl) E) (aj E E (ai KN E (e1L.cell_some (k1.cell (i:=0) E))) ?_)))))
 refine aS E E (a9 KN (hd.ext eL)) (ak E E E (bb) (ag (ab ?_)))
 refine bt E (fun h14=>?_) (fun h14=>?_)
 ·refine aC (ab (af (aE (aa (ae E E (ah E E (ap (o:=0) KK E (by kernel_rfl) E) (aj E E (ai KN E (e1L.cell_some (k1.cell (i:=0) E))) ?_)))))))
  refine ae E E ?_
  obtain⟨a21,c21,p21,q21,h21⟩:=bR (P:=Tryz.prog) (sz:=5) KN (by kernel_rfl) bN (by omega) (hd.ext eL) (i:=i) (by omega) .i64
  obtain⟨e21,he21⟩:∃e,e=u.path[i]'(by omega):=⟨_,rfl⟩
  rw[←he21] at h21
  obtain⟨x21_0,x21_1,rfl,f21_0,f21_1⟩:=fE h21
  refine au E E E (p21 _) (aj E E (q21.ld KH E (by kernel_rfl)) (an uT E E ((uX bL f21_0 f21_1 (hw.1 e21 (by rw[he21];exact List.getElem_mem _)) (by
 have h:=fq (f:=fm) (l:=u.path) (i:=i) (by omega)
 rw[←he21] at h
 simp only[List.length_append] at h⊢;omega))) ?_))
  rintro v23 w23 ⟨x23,b23⟩
  refine ac E E (ag (aR (ab (aa (ae E E (ak (r:=I ((i+1:Nat):Int)) E E E (by have e:((i+1:Nat):Int)=(i:Int)+1:=(by omega);rw[e];exact aP (by omega) (by omega)) ?_))))))
  refine ac E E (ag ?_)
  refine dv (i+1) (v23) ⟨rfl,rfl,rfl,trivial⟩ ⟨(eL.trans x23),(e1L.trans x23),by omega,by
   rw[da (by omega),←he21,←List.append_assoc]
   exact b23⟩ (by omega)
 ·refine be (aK (aK (bf (ab (af (aa (ae E E (ah E E (ap (o:=1) KK E (by kernel_rfl) E) ?_))))))))
  refine aj rfl rfl ((k1.ext e1L).ldO (ms:=[vl,I u.leaf.split.kd,I u.leaf.split.ix,B u.leaf.split.at_.1,x,y,vk,B u.leaf.empty,vp]) (o:=1) (fun j v hj=>by rcases j with _|_|_|_|_|_|_|_|_|j<;>simp_all) Tryz.underlying52 rfl (by kernel_rfl)) ?_
  refine an uV E E ((uZ _ (Nat.le_refl _) bL (hl.ext eL) (hx.ext eL) (hy.ext eL) (hk.ext eL) (hp.ext eL) hw.2 (by rw[List.take_of_length_le (by omega)];simp only[List.length_append];omega))) ?_
  rintro v27 w27 ⟨x27,b27⟩
  refine ac E E (ag (ab (aw (av E E ?_))))
  exact⟨_,rfl,(eL.trans x27),by
   rw[List.take_of_length_le (by omega)] at b27
   exact b27⟩
theorem Es {w:World} {u:cn} {vd vl x y vk vp:Value} (hd:ct cQ u.path vd w) (hl:ct cP u.leaf.lems vl w) (hx:bi u.leaf.split.at_.2.1 x w) (hy:bi u.leaf.split.at_.2.2 y w) (hk:ct bm u.leaf.kids vk w) (hp:ct bI u.leaf.pf vp w)
 (hw:BL u) (hlen:(de u).length≤4398046511104):
 Calls Tryz.prog 57 #[.agg #[vd,vl,I u.leaf.split.kd,I u.leaf.split.ix,B u.leaf.split.at_.1,x,y,vk,B u.leaf.empty,vp]] w (bH fun r w'=>aJ w w'∧cE (de u) r w'):=by
 refine enter (vs:=[.agg #[vd,vl,I u.leaf.split.kd,I u.leaf.split.ix,B u.leaf.split.at_.1,x,y,vk,B u.leaf.empty,vp]]) Tryz.func57 E E E ?_
 have hpl:=hd.len
 have hun:(UInt64.ofNat u.path.length).toNat=u.path.length:=by rw[UInt64.toNat_ofNat'];omega
 have hen:(de u).length=(uv u.path.length).length+(u.path.flatMap fm).length+(dc u.leaf).length:=by simp only[de,List.length_append]
 refine af (aa ?_)
 obtain⟨g1,w1,hr1,l1,x1,k1⟩:=ca (P:=Tryz.prog) (w:=w) (T:=54) (cs:=[vd,vl,I u.leaf.split.kd,I u.leaf.split.ix,B u.leaf.split.at_.1,x,y,vk,B u.leaf.empty,vp])
 refine cm E E hr1 (ac E E (ag (ab (af (aa (ah E E (ap (o:=0) KK E (by kernel_rfl) E) ?_))))))
 refine aj E E (ai KN E (k1.cell (i:=0) E)) (aS E E (a9 KN (hd.ext x1)) ?_)
 refine bc E E (fJ Tryz.underlying3 Tryz.underlying107) (an np E E ((nq (l:=[]) (n:=UInt64.ofNat u.path.length) (cE.nil _) (by simp))) ?_)
 rintro v10 w10 ⟨x10,o10⟩
 rw[hun,List.nil_append] at o10
 refine ac E E (ag (ab (af (af (aa (ah E E (ap (o:=0) KK E (by kernel_rfl) E) (aj E E (ai KN E (x10.cell_some (k1.cell (i:=0) E))) ?_)))))))
 refine aS E E (a9 KN (hd.ext (x1.trans x10))) (ae E E (ag (ab (aE ?_))))
 refine fb (fun(i:Nat) (v3:Value)=>[(1,.pointer (some ⟨g1,0,none⟩)),(3,v3),(12,vd),(13,I (u.path.length:Int)),(14,I (i:Int))]) (fun(i:Nat) (v3:Value) w'=>aJ w w'∧aJ w1 w'∧i≤u.path.length∧cF w1.heap.size (uv u.path.length++(u.path.take i).flatMap fm) v3 w') (fun(i:Nat) (v3:Value)=>u.path.length-i) (0) (v10) ⟨rfl,rfl,rfl,rfl,rfl,trivial⟩ ⟨(x1.trans x10),x10,by omega,by simpa using o10⟩ ?_
 rintro i v3 wL ⟨eL,e1L,hi,oL⟩
 refine af (aa (ak E E E (bb) (ag (ab (af ?_)))))
 refine bt E (fun h15=>?_) (fun h15=>?_)
 ·refine aC (ab (af (aE (af (aa ?_)))))
  obtain⟨a16,c16,p16,q16,h16⟩:=bR (P:=Tryz.prog) (sz:=5) KN (by kernel_rfl) bN (by omega) hd (i:=i) (by omega) .i64
  obtain⟨e16,he16⟩:∃e,e=u.path[i]'(by omega):=⟨_,rfl⟩
  rw[←he16] at h16
  obtain⟨x16_0,x16_1,rfl,f16_0,f16_1⟩:=fE h16
  refine au E E E (p16 _) ?_
  have hm:=hw.1 e16 (by rw[he16];exact List.getElem_mem _)
  have hfl:=fq (f:=fm) (l:=u.path) (i:=i) (by omega)
  rw[←he16] at hfl
  have hml:(fm e16).length=(cY e16.kd).length+(cY e16.ix).length+(fN e16.at_).length:=by simp only[fm,List.length_append]
  have hqa:=jc e16.at_
  refine aj E E ((q16.ext eL).ld KH E (by kernel_rfl)) ?_
  obtain⟨g5,w5,hr5,l5,x5,k5⟩:=aZ (P:=Tryz.prog) (w:=wL) (t:=48) (z:=.agg #[I 0,I 0,B false,.slice none 0 0,.slice none 0 0]) (l:=[I 0,I 0,B false,.slice none 0 0,.slice none 0 0]) (by kernel_rfl) rfl
  refine aX E hr5 ?_
  obtain⟨w4_3,s4_3,q4_3,k4_3⟩:=k5.stS (P:=Tryz.prog) (t:=48) (m:=[I e16.kd,I e16.ix,B e16.at_.1,x16_0,x16_1]) rfl (by kernel_rfl) (ao.cons rfl (ao.cons rfl (ao.cons rfl (ao.cons f16_0.one (ao.cons f16_1.one ao.nil)))))
  refine ax E E s4_3 ?_
  have x4_3:=aJ.of_new (x5) q4_3 l5
  refine ag (ab (af (aa (ae E E (ah E E (ap (o:=0) KH E (by kernel_rfl) E) (aj E E (ai KI E (k4_3.cell (i:=0) E)) ?_))))))
  refine an jQ E E ((jS (l:=[]) (n:=e16.kd) (cE.nil _) (by simp) hm.1.1 hm.1.2)) ?_
  rintro v21 w21 ⟨x21,o21⟩
  have b21:cE (cY e16.kd) v21 w21:=o21.bts
  have oL1:=oL.ext ((x4_3.trans x21))
  obtain⟨v22,w22,hr22,o22,g22⟩:=df (ty:=22) oL1 b21 (by simp only[List.length_append];omega) (((e1L.trans x4_3).trans x21)).size
  have x22:=aJ.of_grew (((e1L.trans x4_3).trans x21)) g22 oL1.ge
  have n5:some g5≠v3.ownBlock:=fun h=>by have:=oL.lt _ h.symm;omega
  have k5a:=(k4_3.ext x21).other g22.grown n5
  have n5a:=g22.off n5 (k4_3.ext x21).lt
  refine aW E E hr22 ?_
  refine ac E E (ag (ab (af (aa (ae E E (ah E E (ap (o:=1) KH E (by kernel_rfl) E) ?_))))))
  refine aj E E (ai Tryz.underlying3 E (k5a.cell (i:=1) E)) (an jQ E E ((jS (l:=[]) (n:=e16.ix) (cE.nil _) (by simp) hm.2.1 hm.2.2)) ?_)
  rintro v26 w26 ⟨x26,o26⟩
  have b26:cE (cY e16.ix) v26 w26:=o26.bts
  have o22a:=o22.ext x26
  obtain⟨v27,w27,hr27,o27,g27⟩:=df (ty:=22) o22a b26 (by simp only[List.length_append];omega) ((x22.trans x26)).size
  have x27:=aJ.of_grew ((x22.trans x26)) g27 o22a.ge
  have k5b:=(k5a.ext x26).other g27.grown n5a
  have n5b:=g27.off n5a (k5a.ext x26).lt
  refine aW E E hr27 ?_
  refine ac rfl rfl (ag (ab (aa (ae rfl rfl (ah rfl rfl (ap (o:=2) Tryz.underlying48 rfl (by kernel_rfl) rfl) (aj rfl rfl (k5b.ldO (ms:=[B e16.at_.1,x16_0,x16_1]) (o:=2) (fun j v hj=>by rcases j with _|_|_|_|_|_|_|_|_|j<;>simp_all) Tryz.underlying46 rfl (by kernel_rfl)) ?_))))))
  refine an nO E E ((nP (l:=[]) (cE.nil _) (dt.mk (f16_0.ext (x1.trans x27)) (f16_1.ext (x1.trans x27))) (by simp only[List.length_nil];omega))) ?_
  rintro v31 w31 ⟨x31,o31⟩
  have b31:cE (fN e16.at_) v31 w31:=o31.bts
  have o27a:=o27.ext x31
  obtain⟨v32,w32,hr32,o32,g32⟩:=df (ty:=22) o27a b31 (by simp only[List.length_append];omega) ((x27.trans x31)).size
  have x32:=aJ.of_grew ((x27.trans x31)) g32 o27a.ge
  refine aW E E hr32 ?_
  refine ac E E (ag (aR (ab (aa (ak (r:=I ((i+1:Nat):Int)) E E E (by have e:((i+1:Nat):Int)=(i:Int)+1:=(by omega);rw[e];exact aP (by omega) (by omega)) ?_)))))
  refine ae E E (ag ?_)
  refine dv (i+1) (v32) ⟨rfl,rfl,rfl,rfl,rfl,trivial⟩ ⟨(x1.trans x32),x32,by omega,by
   have h:cF w1.heap.size (uv u.path.length++(u.path.take i).flatMap fm++cY e16.kd++cY e16.ix++fN e16.at_) v32 w32:=o32
   rw[da (by omega),←he16]
   simpa only[fm,List.append_assoc] using h⟩ (by omega)
 ·refine be (aK (aK (bf (ab (af (aa (ae E E (ah E E (ap (o:=1) KK E (by kernel_rfl) E) ?_))))))))
  refine aj rfl rfl ((k1.ext e1L).ldO (ms:=[vl,I u.leaf.split.kd,I u.leaf.split.ix,B u.leaf.split.at_.1,x,y,vk,B u.leaf.empty,vp]) (o:=1) (fun j v hj=>by rcases j with _|_|_|_|_|_|_|_|_|j<;>simp_all) Tryz.underlying52 rfl (by kernel_rfl)) ?_
  refine an BE E E ((BG oL.bts (hl.ext eL) (hx.ext eL) (hy.ext eL) (hk.ext eL) (hp.ext eL) hw.2 (by rw[List.take_of_length_le (by omega)];simp only[List.length_append];omega))) ?_
  rintro v37 w37 ⟨x37,b37⟩
  refine ac E E (ag (ab (aw (av E E ?_))))
  exact⟨_,rfl,(eL.trans x37),by
   rw[List.take_of_length_le (by omega)] at b37
   exact b37⟩
end Go.Rl
namespace Go.Rl
open Go.RowKit Go.Proofs
theorem xw:aH Tryz.prog 135:=⟨_,Tryz.func135,by kernel_rfl,rfl⟩
theorem BS:aH Tryz.prog 161:=⟨_,Tryz.func161,by kernel_rfl,rfl⟩
theorem BT:aH Tryz.prog 134:=⟨_,Tryz.func134,by kernel_rfl,rfl⟩
theorem qY:aH Tryz.prog 98:=⟨_,Tryz.func98,by kernel_rfl,rfl⟩
theorem vj:aH Tryz.prog 22:=⟨_,Tryz.func22,by kernel_rfl,rfl⟩
theorem mY:aH Tryz.prog 54:=⟨_,Tryz.func54,by kernel_rfl,rfl⟩
theorem xx {w:World} {m:ci} {x y:Value} (hx:bi m.co.2.1 x w) (hy:bi m.co.2.2 y w) (hs:sQ m.co):
 Calls Tryz.prog 135 #[.agg #[I m.kd,I m.ix,I m.lo,I m.hi,B m.co.1,x,y]] w (bH fun r w'=>aJ w w'∧r=B (!fl m.co)):=by
 refine enter (vs:=[.agg #[I m.kd,I m.ix,I m.lo,I m.hi,B m.co.1,x,y]]) Tryz.func135 E E E ?_
 refine af (aa ?_)
 obtain⟨g1,w1,hr1,l1,x1,k1⟩:=ca (P:=Tryz.prog) (w:=w) (T:=187) (cs:=[I m.kd,I m.ix,I m.lo,I m.hi,B m.co.1,x,y])
 refine cm E E hr1 (ac E E (ag (ab (af (aa (ah E E (ap (o:=4) KZ E (by kernel_rfl) E) ?_))))))
 refine aj rfl rfl (k1.ldO (ms:=[B m.co.1,x,y]) (o:=4) (fun j v hj=>by rcases j with _|_|_|_|_|_|_|_|_|j<;>simp_all) Tryz.underlying46 rfl (by kernel_rfl)) ?_
 refine an eI E E ((gR (q:=m.co) (hx.ext x1) (hy.ext x1) hs)) ?_
 rintro v5 w5 ⟨x5,rfl⟩
 refine bo E E bu (ac E E (ag (ab (aw (av E E ?_)))))
 exact⟨_,rfl,(x1.trans x5),rfl⟩
theorem BU {w:World} {l:List ci} {v:Value} (hv:ct bI l v w) (hs:sP l):
 Calls Tryz.prog 161 #[v,.func (.func 135) #[] #[]] w (bH fun r w'=>aJ w w'∧∃k:Int,r=I k∧ -1≤k∧k≤9223372036854775807∧(0≤k↔lJ l=false)):=by
 refine enter (vs:=[v,.func (.func 135) #[] #[]]) Tryz.func161 E E E ?_
 have hll:=hv.len
 refine af (aa (ac E E (ag (ab (af (af (aa (ae E E (aS E E (a9 KS hv) (ae E E (ag (ab ?_))))))))))))
 refine aE ?_
 refine bZ (α:=Nat) (fun i=>[(0,v),(1,.func (.func 135) #[] #[]),(7,I (l.length:Int)),(8,I (i:Int))]) (fun i w'=>aJ w w'∧i≤l.length∧(l.all fun m=>fl m.co)=((l.drop i).all fun m=>fl m.co)) (fun i=>l.length-i) (0) ⟨rfl,rfl,rfl,rfl,trivial⟩ ⟨aJ.refl _,by omega,rfl⟩ ?_
 rintro i wL ⟨eL,hi,hall⟩
 refine af (aa (ak E E E (bb) (ag (ab (af ?_)))))
 refine bt E (fun h9=>?_) (fun h9=>?_)
 ·refine aC (ab (af (aE (af (aa (ae E E (ac E E (ag (ab (af ?_))))))))))
  obtain⟨em,hem⟩:∃em,em=l[i]'(by omega):=⟨_,rfl⟩
  have hmem:em∈l:=by rw[hem];exact List.getElem_mem _
  rcases hc:fl em.co
  ·refine aa (ae E E (ae E E (ae E E ?_)))
   obtain⟨a14,c14,p14,q14,h14⟩:=bR (P:=Tryz.prog) (sz:=7) KS (by kernel_rfl) dB (by omega) (hv.ext eL) (i:=i) (by omega) .i64
   rw[←hem] at h14
   obtain⟨x14_0,x14_1,rfl,f14_0,f14_1⟩:=gj h14
   refine au E E E (p14 _) (aj E E (q14.ld KZ E (by kernel_rfl)) (ly E xw E E ((by have h:=xx (m:=em) f14_0 f14_1 (hs em hmem);rw[hc] at h;exact h)) ?_))
   rintro v16 w16 ⟨x16,rfl⟩
   refine ag (ab (bg E (af (aa (ae E E (ac E E (ag (ab (aw (aY (aD (aD (aY (aD (av E E ?_)))))))))))))))
   exact⟨_,rfl,(eL.trans x16),i,rfl,by omega,by omega,⟨fun _=>show(l.all fun m=>fl m.co)=false from fZ (p:=fun m:ci=>fl m.co) (l:=l) (i:=i) (by omega) hall (by rw[←hem];exact hc),fun _=>by omega⟩⟩
  ·refine aa (ae E E (ae E E (ae E E ?_)))
   obtain⟨a14,c14,p14,q14,h14⟩:=bR (P:=Tryz.prog) (sz:=7) KS (by kernel_rfl) dB (by omega) (hv.ext eL) (i:=i) (by omega) .i64
   rw[←hem] at h14
   obtain⟨x14_0,x14_1,rfl,f14_0,f14_1⟩:=gj h14
   refine au E E E (p14 _) (aj E E (q14.ld KZ E (by kernel_rfl)) (ly E xw E E ((by have h:=xx (m:=em) f14_0 f14_1 (hs em hmem);rw[hc] at h;exact h)) ?_))
   rintro v16 w16 ⟨x16,rfl⟩
   refine ag (ab (cy E (aC (aR (ab (aa (ak (r:=I ((i+1:Nat):Int)) E E E (by have e:((i+1:Nat):Int)=(i:Int)+1:=(by omega);rw[e];exact aP (by omega) (by omega)) ?_)))))))
   refine ae E E (ag ?_)
   refine bJ (i+1) ⟨rfl,rfl,rfl,rfl,trivial⟩ ⟨(eL.trans x16),by omega,pT (p:=fun m:ci=>fl m.co) (l:=l) (by omega) hall (by rw[←hem];exact hc)⟩ (by omega)
 ·refine be (aK (aK (bf (ab (af (aa (ac E E (ag (ab (aw (av E E ?_)))))))))))
  exact⟨_,rfl,eL,-1,rfl,by omega,by omega,⟨fun h=>absurd h (by omega),fun h=>by rw[show lJ l=true from mS (p:=fun m:ci=>fl m.co) (l:=l) (by omega) hall] at h;cases h⟩⟩
theorem BV {w:World} {l:List ci} {v:Value} (hv:ct bI l v w) (hs:sP l):
 Calls Tryz.prog 134 #[v,.func (.func 135) #[] #[]] w (bH fun r w'=>aJ w w'∧r=B (!lJ l)):=by
 refine enter (vs:=[v,.func (.func 135) #[] #[]]) Tryz.func134 E E E ?_
 refine af (aa (ac E E (ag (ab (af (aa (ae E E (ae E E (an BS E E ((BU hv hs)) ?_)))))))))
 rintro v7 w7 ⟨x7,k,rfl,k1,k2,kc⟩
 refine ak E E E (iq) (ac E E (ag (ab (aw (av E E ?_)))))
 exact⟨_,rfl,x7,by
  congr 1
  cases hc:lJ l with
  |true=>exact decide_eq_false fun h=>by have:=kc.1 h;rw[hc] at this;cases this
  |false=>exact decide_eq_true (kc.2 hc)⟩
theorem qZ {w:World} {l:List ci} {v:Value} (hv:ct bI l v w) (hs:sP l):
 Calls Tryz.prog 98 #[v] w (bH fun r w'=>aJ w w'∧r=B (lJ l)):=by
 refine enter (vs:=[v]) Tryz.func98 E E E ?_
 refine af (aa (ac E E (ag (ab (af (aa (ae E E (an BT E E ((BV hv hs)) ?_))))))))
 rintro v4 w4 ⟨x4,rfl⟩
 refine bo E E bu (ac E E (ag (ab (aw (av E E ?_)))))
 exact⟨_,rfl,x4,by simp⟩
theorem gE {d:bz} (h:d.kd<1∨4<d.kd∨fl d.at_=false):fu d=false:=by
 unfold fu
 rcases h with h|h|h
 ·rw[decide_eq_false (by omega:¬1≤d.kd)];rfl
 ·rw[decide_eq_false (by omega:¬d.kd≤4),Bool.and_false];rfl
 ·rw[h,Bool.and_false]
theorem xz {d:bz} (h1:1≤d.kd) (h2:d.kd≤4) (h3:fl d.at_=true):fu d=true:=by
 unfold fu
 rw[decide_eq_true h1,decide_eq_true h2,h3];rfl
theorem cr {u:cn} (h:2048<u.path.length∨0<u.leaf.kids.length∨mG u.leaf=false∨iD u.leaf=false∨u.path.all fu=false):dy u=false:=by
 unfold dy
 rcases h with h|h|h|h|h
 ·rw[decide_eq_false (by omega:¬u.path.length≤2048)];rfl
 ·rw[decide_eq_false (by omega:¬u.leaf.kids.length=0),Bool.and_false];rfl
 ·rw[h,Bool.and_false];rfl
 ·rw[h,Bool.and_false];rfl
 ·rw[h,Bool.and_false]
theorem xA {u:cn} (h1:u.path.length≤2048) (h2:u.leaf.kids.length=0) (h3:mG u.leaf=true) (h4:iD u.leaf=true) (h5:u.path.all fu=true):dy u=true:=by
 unfold dy
 rw[decide_eq_true h1,decide_eq_true h2,h3,h4,h5];rfl
def JC (u:cn):Prop:=(∀d∈u.path,sQ d.at_)∧sN u.leaf
theorem vn {w:World} {u:cn} {vd vl x y vk vp:Value} (hd:ct cQ u.path vd w) (hl:ct cP u.leaf.lems vl w) (hx:bi u.leaf.split.at_.2.1 x w) (hy:bi u.leaf.split.at_.2.2 y w) (hk:ct bm u.leaf.kids vk w) (hp:ct bI u.leaf.pf vp w) (hs:JC u):
 Calls Tryz.prog 22 #[.agg #[vd,vl,I u.leaf.split.kd,I u.leaf.split.ix,B u.leaf.split.at_.1,x,y,vk,B u.leaf.empty,vp]] w (bH fun r w'=>aJ w w'∧r=B (dy u)):=by
 refine enter (vs:=[.agg #[vd,vl,I u.leaf.split.kd,I u.leaf.split.ix,B u.leaf.split.at_.1,x,y,vk,B u.leaf.empty,vp]]) Tryz.func22 E E E ?_
 have hpl:=hd.len
 have hkl:=hk.len
 refine af (aa ?_)
 obtain⟨g1,w1,hr1,l1,x1,k1⟩:=ca (P:=Tryz.prog) (w:=w) (T:=54) (cs:=[vd,vl,I u.leaf.split.kd,I u.leaf.split.ix,B u.leaf.split.at_.1,x,y,vk,B u.leaf.empty,vp])
 refine cm E E hr1 (ac E E (ag (ab (af (af ?_)))))
 rcases hv1:mG u.leaf
 rotate_left
 rcases hv2:iD u.leaf
 ·refine aa (ah E E (ap (o:=0) KK E (by kernel_rfl) E) (aj E E (ai KN E (k1.cell (i:=0) E)) ?_))
  refine aS E E (a9 KN (hd.ext x1)) (ak E E E (bV) (ae E E ?_))
  refine cq (fun h9=>?_) (fun h9=>?_)
  ·refine am E E E (am E E E (am E E E (am E E E (am E E E (ar E E E (ae E E (am E E E (am E E E (am E E E ?_)))))))))
   refine am E E E (ar E E E (ae E E (am E E E (am E E E (am E E E (am E E E (ar E E E (ag (ab (bg E ?_))))))))))
   refine af (aa (ac E E (ag (ab (aw (aD (av E E ?_)))))))
   exact⟨_,rfl,x1,by
    rw[cr (by
     first
     |exact .inl (by omega)
     |exact .inr (.inl (by omega))
     |exact .inr (.inr (.inl hv1))
     |exact .inr (.inr (.inr (.inl hv2))))]
    rfl⟩
  ·refine al E (ah E E (ap (o:=1) KK E (by kernel_rfl) E) (al E (ah E E (cx (b:=1) (o:=6) KF E (by kernel_rfl) E) ?_)))
   refine al E (aj E E (ai KO E (k1.cell (i:=7) E)) (al E (aS E E (a9 KO (hk.ext x1)) ?_)))
   refine al E (ak E E E (bV) (aI E E E (ae E E ?_)))
   refine cq (fun h16=>?_) (fun h16=>?_)
   ·refine am E E E (am E E E (am E E E (am E E E (ar E E E (ae E E (am E E E (am E E E (am E E E (am E E E ?_)))))))))
    refine ar E E E (ag (ab (bg E (af (aa (ac E E (ag (ab (aw (aD (av E E ?_)))))))))))
    exact⟨_,rfl,x1,by
     rw[cr (by
      first
      |exact .inl (by omega)
      |exact .inr (.inl (by omega))
      |exact .inr (.inr (.inl hv1))
      |exact .inr (.inr (.inr (.inl hv2))))]
     rfl⟩
   ·refine al rfl (ah rfl rfl (ap (o:=1) Tryz.underlying54 rfl (by kernel_rfl) rfl) (al rfl (aj rfl rfl (k1.ldO (ms:=[vl,I u.leaf.split.kd,I u.leaf.split.ix,B u.leaf.split.at_.1,x,y,vk,B u.leaf.empty,vp]) (o:=1) (fun j v hj=>by rcases j with _|_|_|_|_|_|_|_|_|j<;>simp_all) Tryz.underlying52 rfl (by kernel_rfl)) ?_)))
    refine al E (an ja E E ((by have h:=jb (n:=u.leaf) (hl.ext x1) (hx.ext x1) (hy.ext x1) (hk.ext x1) (hp.ext x1);rw[hv1] at h;exact h)) ?_)
    rintro v19 w19 ⟨x19,rfl⟩
    refine al E (bo E E bu (aI E E E (ae E E (al E (ah E E (ap (o:=1) KK E (by kernel_rfl) E) ?_)))))
    refine al rfl (aj rfl rfl ((k1.ext x19).ldO (ms:=[vl,I u.leaf.split.kd,I u.leaf.split.ix,B u.leaf.split.at_.1,x,y,vk,B u.leaf.empty,vp]) (o:=1) (fun j v hj=>by rcases j with _|_|_|_|_|_|_|_|_|j<;>simp_all) Tryz.underlying52 rfl (by kernel_rfl)) ?_)
    refine al E (an rT E E ((by have h:=rU _ (Nat.le_refl _) (n:=u.leaf) (hl.ext (x1.trans x19)) (hx.ext (x1.trans x19)) (hy.ext (x1.trans x19)) (hk.ext (x1.trans x19)) (hp.ext (x1.trans x19)) hs.2;rw[hv2] at h;exact h)) ?_)
    rintro v25 w25 ⟨x25,rfl⟩
    refine al E (bo E E bu (aI E E E (ag (ab (bg E (af (aa (ac E E (ag (ab (aw (aD (av E E ?_)))))))))))))
    exact⟨_,rfl,((x1.trans x19).trans x25),by
     rw[cr (by
      first
      |exact .inl (by omega)
      |exact .inr (.inl (by omega))
      |exact .inr (.inr (.inl hv1))
      |exact .inr (.inr (.inr (.inl hv2))))]
     rfl⟩
 ·refine aa (ah E E (ap (o:=0) KK E (by kernel_rfl) E) (aj E E (ai KN E (k1.cell (i:=0) E)) ?_))
  refine aS E E (a9 KN (hd.ext x1)) (ak E E E (bV) (ae E E ?_))
  refine cq (fun h9=>?_) (fun h9=>?_)
  ·refine am E E E (am E E E (am E E E (am E E E (am E E E (ar E E E (ae E E (am E E E (am E E E (am E E E ?_)))))))))
   refine am E E E (ar E E E (ae E E (am E E E (am E E E (am E E E (am E E E (ar E E E (ag (ab (bg E ?_))))))))))
   refine af (aa (ac E E (ag (ab (aw (aD (av E E ?_)))))))
   exact⟨_,rfl,x1,by
    rw[cr (by
     first
     |exact .inl (by omega)
     |exact .inr (.inl (by omega))
     |exact .inr (.inr (.inl hv1))
     |exact .inr (.inr (.inr (.inl hv2))))]
    rfl⟩
  ·refine al E (ah E E (ap (o:=1) KK E (by kernel_rfl) E) (al E (ah E E (cx (b:=1) (o:=6) KF E (by kernel_rfl) E) ?_)))
   refine al E (aj E E (ai KO E (k1.cell (i:=7) E)) (al E (aS E E (a9 KO (hk.ext x1)) ?_)))
   refine al E (ak E E E (bV) (aI E E E (ae E E ?_)))
   refine cq (fun h16=>?_) (fun h16=>?_)
   ·refine am E E E (am E E E (am E E E (am E E E (ar E E E (ae E E (am E E E (am E E E (am E E E (am E E E ?_)))))))))
    refine ar E E E (ag (ab (bg E (af (aa (ac E E (ag (ab (aw (aD (av E E ?_)))))))))))
    exact⟨_,rfl,x1,by
     rw[cr (by
      first
      |exact .inl (by omega)
      |exact .inr (.inl (by omega))
      |exact .inr (.inr (.inl hv1))
      |exact .inr (.inr (.inr (.inl hv2))))]
     rfl⟩
   ·refine al rfl (ah rfl rfl (ap (o:=1) Tryz.underlying54 rfl (by kernel_rfl) rfl) (al rfl (aj rfl rfl (k1.ldO (ms:=[vl,I u.leaf.split.kd,I u.leaf.split.ix,B u.leaf.split.at_.1,x,y,vk,B u.leaf.empty,vp]) (o:=1) (fun j v hj=>by rcases j with _|_|_|_|_|_|_|_|_|j<;>simp_all) Tryz.underlying52 rfl (by kernel_rfl)) ?_)))
    refine al E (an ja E E ((by have h:=jb (n:=u.leaf) (hl.ext x1) (hx.ext x1) (hy.ext x1) (hk.ext x1) (hp.ext x1);rw[hv1] at h;exact h)) ?_)
    rintro v19 w19 ⟨x19,rfl⟩
    refine al E (bo E E bu (aI E E E (ae E E (al E (ah E E (ap (o:=1) KK E (by kernel_rfl) E) ?_)))))
    refine al rfl (aj rfl rfl ((k1.ext x19).ldO (ms:=[vl,I u.leaf.split.kd,I u.leaf.split.ix,B u.leaf.split.at_.1,x,y,vk,B u.leaf.empty,vp]) (o:=1) (fun j v hj=>by rcases j with _|_|_|_|_|_|_|_|_|j<;>simp_all) Tryz.underlying52 rfl (by kernel_rfl)) ?_)
    refine al E (an rT E E ((by have h:=rU _ (Nat.le_refl _) (n:=u.leaf) (hl.ext (x1.trans x19)) (hx.ext (x1.trans x19)) (hy.ext (x1.trans x19)) (hk.ext (x1.trans x19)) (hp.ext (x1.trans x19)) hs.2;rw[hv2] at h;exact h)) ?_)
    rintro v25 w25 ⟨x25,rfl⟩
    refine al E (bo E E bu (aI E E E (ag (ab (cy E (aC (ab (af (af (aa (ac E E (ag (ab (aE ?_))))))))))))))
    refine bZ (α:=Nat) (fun i=>[(1,.pointer (some ⟨g1,0,none⟩)),(3,I (i:Int))]) (fun i w'=>aJ w w'∧aJ w1 w'∧i≤u.path.length∧u.path.all fu=(u.path.drop i).all fu) (fun i=>u.path.length-i) (0) ⟨rfl,rfl,trivial⟩ ⟨((x1.trans x19).trans x25),(x19.trans x25),by omega,rfl⟩ ?_
    rintro i wL ⟨eL,e1L,hi,hall⟩
    refine af (af (aa (ae E E (ah E E (ap (o:=0) KK E (by kernel_rfl) E) (aj E E (ai KN E (e1L.cell_some (k1.cell (i:=0) E))) ?_)))))
    refine aS E E (a9 KN (hd.ext eL)) (ak E E E (bb) (ag (ab ?_)))
    refine bt E (fun h32=>?_) (fun h32=>?_)
    ·refine aC (ab (af (aE (af ?_))))
     obtain⟨em,hem⟩:∃em,em=u.path[i]'(by omega):=⟨_,rfl⟩
     have hmem:em∈u.path:=by rw[hem];exact List.getElem_mem _
     rcases hq:fl em.at_
     ·refine aa (ah E E (ap (o:=0) KK E (by kernel_rfl) E) (aj E E (ai KN E (e1L.cell_some (k1.cell (i:=0) E))) ?_))
      refine ae E E ?_
      obtain⟨a38,c38,p38,q38,h38⟩:=bR (P:=Tryz.prog) (sz:=5) KN (by kernel_rfl) bN (by omega) (hd.ext eL) (i:=i) (by omega) .i64
      rw[←hem] at h38
      obtain⟨x38_0,x38_1,rfl,f38_0,f38_1⟩:=fE h38
      refine au E E E (p38 _) (aj E E (q38.ld KH E (by kernel_rfl)) ?_)
      obtain⟨g4,w4,hr4,l4,x4,k4⟩:=aZ (P:=Tryz.prog) (w:=wL) (t:=48) (z:=.agg #[I 0,I 0,B false,.slice none 0 0,.slice none 0 0]) (l:=[I 0,I 0,B false,.slice none 0 0,.slice none 0 0]) (by kernel_rfl) rfl
      refine aX E hr4 ?_
      obtain⟨w6_6,s6_6,q6_6,k6_6⟩:=k4.stS (P:=Tryz.prog) (t:=48) (m:=[I em.kd,I em.ix,B em.at_.1,x38_0,x38_1]) rfl (by kernel_rfl) (ao.cons rfl (ao.cons rfl (ao.cons rfl (ao.cons f38_0.one (ao.cons f38_1.one ao.nil)))))
      refine ax E E s6_6 ?_
      have x6_6:=aJ.of_new (x4) q6_6 l4
      refine ag (ab (af (aa (ah E E (ap (o:=0) KH E (by kernel_rfl) E) (aj E E (ai KI E (k6_6.cell (i:=0) E)) ?_)))))
      refine ak E E E (bb) (ae E E ?_)
      refine cq (fun h43=>?_) (fun h43=>?_)
      ·refine am E E E (am E E E (am E E E (ar E E E (ae E E (am E E E (am E E E (am E E E (am E E E (ar E E E ?_)))))))))
       refine ag (ab (bg E (af (aa (ac E E (ag (ab (aw (aY (aD (aD (aY (aD (av E E ?_))))))))))))))
       exact⟨_,rfl,(eL.trans x6_6),by
        rw[cr (.inr (.inr (.inr (.inr (fZ (p:=fu) (i:=i) (by omega) hall (by
         rw[←hem]
         refine gE ?_
         first
         |exact .inl (by omega)
         |exact .inr (.inl (by omega))
         |exact .inr (.inr hq)))))))]
        rfl⟩
      ·refine al E (ah E E (ap (o:=0) KH E (by kernel_rfl) E) (al E (aj E E (ai KI E (k6_6.cell (i:=0) E)) ?_)))
       refine al E (ak E E E (bV) (aI E E E (ae E E ?_)))
       refine cq (fun h48=>?_) (fun h48=>?_)
       ·refine am E E E (am E E E (am E E E (am E E E (ar E E E (ag (ab (bg E (af (aa (ac E E (ag (ab (aw (aY ?_))))))))))))))
        refine aD (aD (aY (aD (av E E ?_))))
        exact⟨_,rfl,(eL.trans x6_6),by
         rw[cr (.inr (.inr (.inr (.inr (fZ (p:=fu) (i:=i) (by omega) hall (by
          rw[←hem]
          refine gE ?_
          first
          |exact .inl (by omega)
          |exact .inr (.inl (by omega))
          |exact .inr (.inr hq)))))))]
         rfl⟩
       ·refine al rfl (ah rfl rfl (ap (o:=2) Tryz.underlying48 rfl (by kernel_rfl) rfl) (al rfl (aj rfl rfl (k6_6.ldO (ms:=[B em.at_.1,x38_0,x38_1]) (o:=2) (fun j v hj=>by rcases j with _|_|_|_|_|_|_|_|_|j<;>simp_all) Tryz.underlying46 rfl (by kernel_rfl)) ?_)))
        refine al E (an f5 E E ((by have h:=mV (q:=em.at_) (f38_0.ext x6_6) (f38_1.ext x6_6) (hs.1 em hmem);rw[hq] at h;exact h)) ?_)
        rintro v51 w51 ⟨x51,rfl⟩
        refine al E (bo E E bu (aI E E E (ag (ab (bg E (af (aa (ac E E (ag (ab (aw (aY (aD (aD (aY (aD (av E E ?_)))))))))))))))))
        exact⟨_,rfl,((eL.trans x6_6).trans x51),by
         rw[cr (.inr (.inr (.inr (.inr (fZ (p:=fu) (i:=i) (by omega) hall (by
          rw[←hem]
          refine gE ?_
          first
          |exact .inl (by omega)
          |exact .inr (.inl (by omega))
          |exact .inr (.inr hq)))))))]
         rfl⟩
     ·refine aa (ah E E (ap (o:=0) KK E (by kernel_rfl) E) (aj E E (ai KN E (e1L.cell_some (k1.cell (i:=0) E))) ?_))
      refine ae E E ?_
      obtain⟨a38,c38,p38,q38,h38⟩:=bR (P:=Tryz.prog) (sz:=5) KN (by kernel_rfl) bN (by omega) (hd.ext eL) (i:=i) (by omega) .i64
      rw[←hem] at h38
      obtain⟨x38_0,x38_1,rfl,f38_0,f38_1⟩:=fE h38
      refine au E E E (p38 _) (aj E E (q38.ld KH E (by kernel_rfl)) ?_)
      obtain⟨g4,w4,hr4,l4,x4,k4⟩:=aZ (P:=Tryz.prog) (w:=wL) (t:=48) (z:=.agg #[I 0,I 0,B false,.slice none 0 0,.slice none 0 0]) (l:=[I 0,I 0,B false,.slice none 0 0,.slice none 0 0]) (by kernel_rfl) rfl
      refine aX E hr4 ?_
      obtain⟨w6_6,s6_6,q6_6,k6_6⟩:=k4.stS (P:=Tryz.prog) (t:=48) (m:=[I em.kd,I em.ix,B em.at_.1,x38_0,x38_1]) rfl (by kernel_rfl) (ao.cons rfl (ao.cons rfl (ao.cons rfl (ao.cons f38_0.one (ao.cons f38_1.one ao.nil)))))
      refine ax E E s6_6 ?_
      have x6_6:=aJ.of_new (x4) q6_6 l4
      refine ag (ab (af (aa (ah E E (ap (o:=0) KH E (by kernel_rfl) E) (aj E E (ai KI E (k6_6.cell (i:=0) E)) ?_)))))
      refine ak E E E (bb) (ae E E ?_)
      refine cq (fun h43=>?_) (fun h43=>?_)
      ·refine am E E E (am E E E (am E E E (ar E E E (ae E E (am E E E (am E E E (am E E E (am E E E (ar E E E ?_)))))))))
       refine ag (ab (bg E (af (aa (ac E E (ag (ab (aw (aY (aD (aD (aY (aD (av E E ?_))))))))))))))
       exact⟨_,rfl,(eL.trans x6_6),by
        rw[cr (.inr (.inr (.inr (.inr (fZ (p:=fu) (i:=i) (by omega) hall (by
         rw[←hem]
         refine gE ?_
         first
         |exact .inl (by omega)
         |exact .inr (.inl (by omega))
         |exact .inr (.inr hq)))))))]
        rfl⟩
      ·refine al E (ah E E (ap (o:=0) KH E (by kernel_rfl) E) (al E (aj E E (ai KI E (k6_6.cell (i:=0) E)) ?_)))
       refine al E (ak E E E (bV) (aI E E E (ae E E ?_)))
       refine cq (fun h48=>?_) (fun h48=>?_)
       ·refine am E E E (am E E E (am E E E (am E E E (ar E E E (ag (ab (bg E (af (aa (ac E E (ag (ab (aw (aY ?_))))))))))))))
        refine aD (aD (aY (aD (av E E ?_))))
        exact⟨_,rfl,(eL.trans x6_6),by
         rw[cr (.inr (.inr (.inr (.inr (fZ (p:=fu) (i:=i) (by omega) hall (by
          rw[←hem]
          refine gE ?_
          first
          |exact .inl (by omega)
          |exact .inr (.inl (by omega))
          |exact .inr (.inr hq)))))))]
         rfl⟩
       ·refine al rfl (ah rfl rfl (ap (o:=2) Tryz.underlying48 rfl (by kernel_rfl) rfl) (al rfl (aj rfl rfl (k6_6.ldO (ms:=[B em.at_.1,x38_0,x38_1]) (o:=2) (fun j v hj=>by rcases j with _|_|_|_|_|_|_|_|_|j<;>simp_all) Tryz.underlying46 rfl (by kernel_rfl)) ?_)))
        refine al E (an f5 E E ((by have h:=mV (q:=em.at_) (f38_0.ext x6_6) (f38_1.ext x6_6) (hs.1 em hmem);rw[hq] at h;exact h)) ?_)
        rintro v51 w51 ⟨x51,rfl⟩
        refine al E (bo E E bu (aI E E E (ag (ab (cy E (aC (aR (ab (aa (ae E E (ak (r:=I ((i+1:Nat):Int)) E E E (by have e:((i+1:Nat):Int)=(i:Int)+1:=(by omega);rw[e];exact aP (by omega) (by omega)) ?_)))))))))))
        refine ac E E (ag ?_)
        refine bJ (i+1) ⟨rfl,rfl,trivial⟩ ⟨((eL.trans x6_6).trans x51),((e1L.trans x6_6).trans x51),by omega,pT (p:=fu) (by omega) hall (by rw[←hem];exact xz (by omega) (by omega) hq)⟩ (by omega)
    ·refine be (aK (aK (bf (ab (af (aa (ac E E (ag (ab (aw (av E E ?_)))))))))))
     exact⟨_,rfl,eL,by rw[xA (by omega) (by omega) hv1 hv2 (mS (p:=fu) (l:=u.path) (i:=i) (by omega) hall)];rfl⟩
 ·refine aa (ah E E (ap (o:=0) KK E (by kernel_rfl) E) (aj E E (ai KN E (k1.cell (i:=0) E)) ?_))
  refine aS E E (a9 KN (hd.ext x1)) (ak E E E (bV) (ae E E ?_))
  refine cq (fun h9=>?_) (fun h9=>?_)
  ·refine am E E E (am E E E (am E E E (am E E E (am E E E (ar E E E (ae E E (am E E E (am E E E (am E E E ?_)))))))))
   refine am E E E (ar E E E (ae E E (am E E E (am E E E (am E E E (am E E E (ar E E E (ag (ab (bg E ?_))))))))))
   refine af (aa (ac E E (ag (ab (aw (aD (av E E ?_)))))))
   exact⟨_,rfl,x1,by
    rw[cr (by
     first
     |exact .inl (by omega)
     |exact .inr (.inl (by omega))
     |exact .inr (.inr (.inl hv1))
     |exact .inr (.inr (.inr (.inl hv2))))]
    rfl⟩
  ·refine al E (ah E E (ap (o:=1) KK E (by kernel_rfl) E) (al E (ah E E (cx (b:=1) (o:=6) KF E (by kernel_rfl) E) ?_)))
   refine al E (aj E E (ai KO E (k1.cell (i:=7) E)) (al E (aS E E (a9 KO (hk.ext x1)) ?_)))
   refine al E (ak E E E (bV) (aI E E E (ae E E ?_)))
   refine cq (fun h16=>?_) (fun h16=>?_)
   ·refine am E E E (am E E E (am E E E (am E E E (ar E E E (ae E E (am E E E (am E E E (am E E E (am E E E ?_)))))))))
    refine ar E E E (ag (ab (bg E (af (aa (ac E E (ag (ab (aw (aD (av E E ?_)))))))))))
    exact⟨_,rfl,x1,by
     rw[cr (by
      first
      |exact .inl (by omega)
      |exact .inr (.inl (by omega))
      |exact .inr (.inr (.inl hv1))
      |exact .inr (.inr (.inr (.inl hv2))))]
     rfl⟩
   ·refine al rfl (ah rfl rfl (ap (o:=1) Tryz.underlying54 rfl (by kernel_rfl) rfl) (al rfl (aj rfl rfl (k1.ldO (ms:=[vl,I u.leaf.split.kd,I u.leaf.split.ix,B u.leaf.split.at_.1,x,y,vk,B u.leaf.empty,vp]) (o:=1) (fun j v hj=>by rcases j with _|_|_|_|_|_|_|_|_|j<;>simp_all) Tryz.underlying52 rfl (by kernel_rfl)) ?_)))
    refine al E (an ja E E ((by have h:=jb (n:=u.leaf) (hl.ext x1) (hx.ext x1) (hy.ext x1) (hk.ext x1) (hp.ext x1);rw[hv1] at h;exact h)) ?_)
    rintro v19 w19 ⟨x19,rfl⟩
    refine al E (bo E E bu (aI E E E (ae E E (am E E E (am E E E (am E E E (am E E E (ar E E E (ag ?_)))))))))
    refine ab (bg E (af (aa (ac E E (ag (ab (aw (aD (av E E ?_)))))))))
    exact⟨_,rfl,(x1.trans x19),by
     rw[cr (by
      first
      |exact .inl (by omega)
      |exact .inr (.inl (by omega))
      |exact .inr (.inr (.inl hv1))
      |exact .inr (.inr (.inr (.inl hv2))))]
     rfl⟩
theorem xB {n:aV} (h:n.kids.length=0):iD n=(fl n.split.at_&&lJ n.pf&&n.lems.all ig):=by
 cases n with
 |mk l s k e p=>
  obtain rfl:k=[]:=List.eq_nil_of_length_eq_zero h
  simp only[iD,uI,aV.split,aV.pf,aV.lems]
  cases fl s.at_<;>cases lJ p<;>cases l.all ig<;>rfl
theorem dO {n:aV} (h:n.kids.length=0) (h1:fl n.split.at_=false∨lJ n.pf=false∨n.lems.all ig=false):iD n=false:=by
 rw[xB h]
 rcases h1 with h|h|h<;>rw[h]
 ·rfl
 ·rw[Bool.and_false];rfl
 ·rw[Bool.and_false]
theorem yZ {n:aV} (h:n.kids.length=0) (h1:fl n.split.at_=true) (h2:lJ n.pf=true) (h3:n.lems.all ig=true):iD n=true:=by
 rw[xB h,h1,h2,h3];rfl
theorem mZ {w:World} {u:cn} {vd vl x y vk vp:Value} (hd:ct cQ u.path vd w) (hl:ct cP u.leaf.lems vl w) (hx:bi u.leaf.split.at_.2.1 x w) (hy:bi u.leaf.split.at_.2.2 y w) (hk:ct bm u.leaf.kids vk w) (hp:ct bI u.leaf.pf vp w) (hs:JC u):
 Calls Tryz.prog 54 #[.agg #[vd,vl,I u.leaf.split.kd,I u.leaf.split.ix,B u.leaf.split.at_.1,x,y,vk,B u.leaf.empty,vp]] w (bH fun r w'=>aJ w w'∧r=B (dy u)):=by
 refine enter (vs:=[.agg #[vd,vl,I u.leaf.split.kd,I u.leaf.split.ix,B u.leaf.split.at_.1,x,y,vk,B u.leaf.empty,vp]]) Tryz.func54 E E E ?_
 have hpl:=hd.len
 have hkl:=hk.len
 have hll:=hl.len
 obtain⟨sl,sd,sp,_⟩:=(uW u.leaf).1 hs.2
 refine af (aa ?_)
 obtain⟨g1,w1,hr1,l1,x1,k1⟩:=ca (P:=Tryz.prog) (w:=w) (T:=54) (cs:=[vd,vl,I u.leaf.split.kd,I u.leaf.split.ix,B u.leaf.split.at_.1,x,y,vk,B u.leaf.empty,vp])
 refine cm E E hr1 (ac E E (ag (ab (af (af ?_)))))
 rcases hv1:mG u.leaf
 rotate_left
 rcases hv2:lJ u.leaf.pf
 ·refine aa (ah E E (ap (o:=0) KK E (by kernel_rfl) E) (aj E E (ai KN E (k1.cell (i:=0) E)) ?_))
  refine aS E E (a9 KN (hd.ext x1)) (ak E E E (bV) (ae E E ?_))
  refine cq (fun h11=>?_) (fun h11=>?_)
  ·refine am E E E (am E E E (am E E E (am E E E (am E E E (ar E E E (ae E E (am E E E (am E E E (am E E E ?_)))))))))
   refine am E E E (ar E E E (ae E E (am E E E (am E E E (am E E E (am E E E (am E E E (ar E E E (ag ?_)))))))))
   refine ab (bg E (af (aa (ac E E (ag (ab (aw (aD (av E E ?_)))))))))
   exact⟨_,rfl,x1,by
    rw[cr (by
     first
     |exact .inl (by omega)
     |exact .inr (.inl (by omega))
     |exact .inr (.inr (.inl hv1))
     |exact .inr (.inr (.inr (.inl (dO (by omega) (.inr (.inl hv2)))))))]
    rfl⟩
  ·refine al E (ah E E (ap (o:=1) KK E (by kernel_rfl) E) (al E (ah E E (cx (b:=1) (o:=6) KF E (by kernel_rfl) E) ?_)))
   refine al E (aj E E (ai KO E (k1.cell (i:=7) E)) (al E (aS E E (a9 KO (hk.ext x1)) ?_)))
   refine al E (ak E E E (bV) (aI E E E (ae E E ?_)))
   refine cq (fun h18=>?_) (fun h18=>?_)
   ·refine am E E E (am E E E (am E E E (am E E E (ar E E E (ae E E (am E E E (am E E E (am E E E (am E E E ?_)))))))))
    refine am E E E (ar E E E (ag (ab (bg E (af (aa (ac E E (ag (ab (aw (aD (av E E ?_))))))))))))
    exact⟨_,rfl,x1,by
     rw[cr (by
      first
      |exact .inl (by omega)
      |exact .inr (.inl (by omega))
      |exact .inr (.inr (.inl hv1))
      |exact .inr (.inr (.inr (.inl (dO (by omega) (.inr (.inl hv2)))))))]
     rfl⟩
   ·refine al rfl (ah rfl rfl (ap (o:=1) Tryz.underlying54 rfl (by kernel_rfl) rfl) (al rfl (aj rfl rfl (k1.ldO (ms:=[vl,I u.leaf.split.kd,I u.leaf.split.ix,B u.leaf.split.at_.1,x,y,vk,B u.leaf.empty,vp]) (o:=1) (fun j v hj=>by rcases j with _|_|_|_|_|_|_|_|_|j<;>simp_all) Tryz.underlying52 rfl (by kernel_rfl)) ?_)))
    refine al E (an fU E E ((by have h:=lI (n:=u.leaf) (hl.ext x1) (hx.ext x1) (hy.ext x1) (hk.ext x1) (hp.ext x1);rw[hv1] at h;exact h)) ?_)
    rintro v21 w21 ⟨x21,rfl⟩
    refine al E (bo E E bu (aI E E E (ae E E (al E (ah E E (ap (o:=1) KK E (by kernel_rfl) E) ?_)))))
    refine al E (ah E E (cx (b:=1) (o:=8) KF E (by kernel_rfl) E) (al E (aj E E (ai KS E (x21.cell_some (k1.cell (i:=9) E))) ?_)))
    refine al E (an qY E E ((by have h:=qZ (hp.ext (x1.trans x21)) sp;rw[hv2] at h;exact h)) ?_)
    rintro v28 w28 ⟨x28,rfl⟩
    refine al E (bo E E bu (aI E E E (ag (ab (bg E (af (aa (ac E E (ag (ab (aw (aD (av E E ?_)))))))))))))
    exact⟨_,rfl,((x1.trans x21).trans x28),by
     rw[cr (by
      first
      |exact .inl (by omega)
      |exact .inr (.inl (by omega))
      |exact .inr (.inr (.inl hv1))
      |exact .inr (.inr (.inr (.inl (dO (by omega) (.inr (.inl hv2)))))))]
     rfl⟩
 ·refine aa (ah E E (ap (o:=0) KK E (by kernel_rfl) E) (aj E E (ai KN E (k1.cell (i:=0) E)) ?_))
  refine aS E E (a9 KN (hd.ext x1)) (ak E E E (bV) (ae E E ?_))
  refine cq (fun h11=>?_) (fun h11=>?_)
  ·refine am E E E (am E E E (am E E E (am E E E (am E E E (ar E E E (ae E E (am E E E (am E E E (am E E E ?_)))))))))
   refine am E E E (ar E E E (ae E E (am E E E (am E E E (am E E E (am E E E (am E E E (ar E E E (ag ?_)))))))))
   refine ab (bg E (af (aa (ac E E (ag (ab (aw (aD (av E E ?_)))))))))
   exact⟨_,rfl,x1,by
    rw[cr (by
     first
     |exact .inl (by omega)
     |exact .inr (.inl (by omega))
     |exact .inr (.inr (.inl hv1))
     |exact .inr (.inr (.inr (.inl (dO (by omega) (.inr (.inl hv2)))))))]
    rfl⟩
  ·refine al E (ah E E (ap (o:=1) KK E (by kernel_rfl) E) (al E (ah E E (cx (b:=1) (o:=6) KF E (by kernel_rfl) E) ?_)))
   refine al E (aj E E (ai KO E (k1.cell (i:=7) E)) (al E (aS E E (a9 KO (hk.ext x1)) ?_)))
   refine al E (ak E E E (bV) (aI E E E (ae E E ?_)))
   refine cq (fun h18=>?_) (fun h18=>?_)
   ·refine am E E E (am E E E (am E E E (am E E E (ar E E E (ae E E (am E E E (am E E E (am E E E (am E E E ?_)))))))))
    refine am E E E (ar E E E (ag (ab (bg E (af (aa (ac E E (ag (ab (aw (aD (av E E ?_))))))))))))
    exact⟨_,rfl,x1,by
     rw[cr (by
      first
      |exact .inl (by omega)
      |exact .inr (.inl (by omega))
      |exact .inr (.inr (.inl hv1))
      |exact .inr (.inr (.inr (.inl (dO (by omega) (.inr (.inl hv2)))))))]
     rfl⟩
   ·refine al rfl (ah rfl rfl (ap (o:=1) Tryz.underlying54 rfl (by kernel_rfl) rfl) (al rfl (aj rfl rfl (k1.ldO (ms:=[vl,I u.leaf.split.kd,I u.leaf.split.ix,B u.leaf.split.at_.1,x,y,vk,B u.leaf.empty,vp]) (o:=1) (fun j v hj=>by rcases j with _|_|_|_|_|_|_|_|_|j<;>simp_all) Tryz.underlying52 rfl (by kernel_rfl)) ?_)))
    refine al E (an fU E E ((by have h:=lI (n:=u.leaf) (hl.ext x1) (hx.ext x1) (hy.ext x1) (hk.ext x1) (hp.ext x1);rw[hv1] at h;exact h)) ?_)
    rintro v21 w21 ⟨x21,rfl⟩
    refine al E (bo E E bu (aI E E E (ae E E (al E (ah E E (ap (o:=1) KK E (by kernel_rfl) E) ?_)))))
    refine al E (ah E E (cx (b:=1) (o:=8) KF E (by kernel_rfl) E) (al E (aj E E (ai KS E (x21.cell_some (k1.cell (i:=9) E))) ?_)))
    refine al E (an qY E E ((by have h:=qZ (hp.ext (x1.trans x21)) sp;rw[hv2] at h;exact h)) ?_)
    rintro v28 w28 ⟨x28,rfl⟩
    refine al E (bo E E bu (aI E E E (ag (ab (cy E (aC (ab (af (af (aa (ah E E (ap (o:=0) KK E (by kernel_rfl) E) ?_)))))))))))
    refine aj E E (ai KN E ((x21.trans x28).cell_some (k1.cell (i:=0) E))) (aS E E (a9 KN (hd.ext ((x1.trans x21).trans x28))) ?_)
    refine ae E E (ag (ab (aE ?_)))
    refine bZ (α:=Nat) (fun i=>[(1,.pointer (some ⟨g1,0,none⟩)),(32,vd),(33,I (u.path.length:Int)),(34,I (i:Int))]) (fun i w'=>aJ w w'∧aJ w1 w'∧i≤u.path.length∧u.path.all fu=(u.path.drop i).all fu) (fun i=>u.path.length-i) (0) ⟨rfl,rfl,rfl,rfl,trivial⟩ ⟨((x1.trans x21).trans x28),(x21.trans x28),by omega,rfl⟩ ?_
    rintro i wL ⟨eL,e1L,hi,hall⟩
    refine af (aa (ak E E E (bb) (ag (ab (af ?_)))))
    refine bt E (fun h35=>?_) (fun h35=>?_)
    ·refine aC (ab (af (aE (af ?_))))
     obtain⟨em,hem⟩:∃em,em=u.path[i]'(by omega):=⟨_,rfl⟩
     have hmem:em∈u.path:=by rw[hem];exact List.getElem_mem _
     rcases hq:fl em.at_
     ·refine aa ?_
      obtain⟨a36,c36,p36,q36,h36⟩:=bR (P:=Tryz.prog) (sz:=5) KN (by kernel_rfl) bN (by omega) (hd.ext eL) (i:=i) (by omega) .i64
      rw[←hem] at h36
      obtain⟨x36_0,x36_1,rfl,f36_0,f36_1⟩:=fE h36
      refine au E E E (p36 _) (aj E E (q36.ld KH E (by kernel_rfl)) ?_)
      obtain⟨g4,w4,hr4,l4,x4,k4⟩:=aZ (P:=Tryz.prog) (w:=wL) (t:=48) (z:=.agg #[I 0,I 0,B false,.slice none 0 0,.slice none 0 0]) (l:=[I 0,I 0,B false,.slice none 0 0,.slice none 0 0]) (by kernel_rfl) rfl
      refine aX E hr4 ?_
      obtain⟨w5_3,s5_3,q5_3,k5_3⟩:=k4.stS (P:=Tryz.prog) (t:=48) (m:=[I em.kd,I em.ix,B em.at_.1,x36_0,x36_1]) rfl (by kernel_rfl) (ao.cons rfl (ao.cons rfl (ao.cons rfl (ao.cons f36_0.one (ao.cons f36_1.one ao.nil)))))
      refine ax E E s5_3 ?_
      have x5_3:=aJ.of_new (x4) q5_3 l4
      refine ag (ab (af (aa (ah E E (ap (o:=0) KH E (by kernel_rfl) E) (aj E E (ai KI E (k5_3.cell (i:=0) E)) ?_)))))
      refine ak E E E (bb) (ae E E ?_)
      refine cq (fun h41=>?_) (fun h41=>?_)
      ·refine am E E E (am E E E (am E E E (ar E E E (ae E E (am E E E (am E E E (am E E E (am E E E (ar E E E ?_)))))))))
       refine ag (ab (bg E (af (aa (ac E E (ag (ab (aw (aY (aD (aD (aY (aD (av E E ?_))))))))))))))
       exact⟨_,rfl,(eL.trans x5_3),by
        rw[cr (.inr (.inr (.inr (.inr (fZ (p:=fu) (i:=i) (by omega) hall (by
         rw[←hem]
         refine gE ?_
         first
         |exact .inl (by omega)
         |exact .inr (.inl (by omega))
         |exact .inr (.inr hq)))))))]
        rfl⟩
      ·refine al E (ah E E (ap (o:=0) KH E (by kernel_rfl) E) (al E (aj E E (ai KI E (k5_3.cell (i:=0) E)) ?_)))
       refine al E (ak E E E (bV) (aI E E E (ae E E ?_)))
       refine cq (fun h46=>?_) (fun h46=>?_)
       ·refine am E E E (am E E E (am E E E (am E E E (ar E E E (ag (ab (bg E (af (aa (ac E E (ag (ab (aw (aY ?_))))))))))))))
        refine aD (aD (aY (aD (av E E ?_))))
        exact⟨_,rfl,(eL.trans x5_3),by
         rw[cr (.inr (.inr (.inr (.inr (fZ (p:=fu) (i:=i) (by omega) hall (by
          rw[←hem]
          refine gE ?_
          first
          |exact .inl (by omega)
          |exact .inr (.inl (by omega))
          |exact .inr (.inr hq)))))))]
         rfl⟩
       ·refine al rfl (ah rfl rfl (ap (o:=2) Tryz.underlying48 rfl (by kernel_rfl) rfl) (al rfl (aj rfl rfl (k5_3.ldO (ms:=[B em.at_.1,x36_0,x36_1]) (o:=2) (fun j v hj=>by rcases j with _|_|_|_|_|_|_|_|_|j<;>simp_all) Tryz.underlying46 rfl (by kernel_rfl)) ?_)))
        refine al E (an eI E E ((by have h:=gR (q:=em.at_) (f36_0.ext x5_3) (f36_1.ext x5_3) (hs.1 em hmem);rw[hq] at h;exact h)) ?_)
        rintro v49 w49 ⟨x49,rfl⟩
        refine al E (bo E E bu (aI E E E (ag (ab (bg E (af (aa (ac E E (ag (ab (aw (aY (aD (aD (aY (aD (av E E ?_)))))))))))))))))
        exact⟨_,rfl,((eL.trans x5_3).trans x49),by
         rw[cr (.inr (.inr (.inr (.inr (fZ (p:=fu) (i:=i) (by omega) hall (by
          rw[←hem]
          refine gE ?_
          first
          |exact .inl (by omega)
          |exact .inr (.inl (by omega))
          |exact .inr (.inr hq)))))))]
         rfl⟩
     ·refine aa ?_
      obtain⟨a36,c36,p36,q36,h36⟩:=bR (P:=Tryz.prog) (sz:=5) KN (by kernel_rfl) bN (by omega) (hd.ext eL) (i:=i) (by omega) .i64
      rw[←hem] at h36
      obtain⟨x36_0,x36_1,rfl,f36_0,f36_1⟩:=fE h36
      refine au E E E (p36 _) (aj E E (q36.ld KH E (by kernel_rfl)) ?_)
      obtain⟨g4,w4,hr4,l4,x4,k4⟩:=aZ (P:=Tryz.prog) (w:=wL) (t:=48) (z:=.agg #[I 0,I 0,B false,.slice none 0 0,.slice none 0 0]) (l:=[I 0,I 0,B false,.slice none 0 0,.slice none 0 0]) (by kernel_rfl) rfl
      refine aX E hr4 ?_
      obtain⟨w5_3,s5_3,q5_3,k5_3⟩:=k4.stS (P:=Tryz.prog) (t:=48) (m:=[I em.kd,I em.ix,B em.at_.1,x36_0,x36_1]) rfl (by kernel_rfl) (ao.cons rfl (ao.cons rfl (ao.cons rfl (ao.cons f36_0.one (ao.cons f36_1.one ao.nil)))))
      refine ax E E s5_3 ?_
      have x5_3:=aJ.of_new (x4) q5_3 l4
      refine ag (ab (af (aa (ah E E (ap (o:=0) KH E (by kernel_rfl) E) (aj E E (ai KI E (k5_3.cell (i:=0) E)) ?_)))))
      refine ak E E E (bb) (ae E E ?_)
      refine cq (fun h41=>?_) (fun h41=>?_)
      ·refine am E E E (am E E E (am E E E (ar E E E (ae E E (am E E E (am E E E (am E E E (am E E E (ar E E E ?_)))))))))
       refine ag (ab (bg E (af (aa (ac E E (ag (ab (aw (aY (aD (aD (aY (aD (av E E ?_))))))))))))))
       exact⟨_,rfl,(eL.trans x5_3),by
        rw[cr (.inr (.inr (.inr (.inr (fZ (p:=fu) (i:=i) (by omega) hall (by
         rw[←hem]
         refine gE ?_
         first
         |exact .inl (by omega)
         |exact .inr (.inl (by omega))
         |exact .inr (.inr hq)))))))]
        rfl⟩
      ·refine al E (ah E E (ap (o:=0) KH E (by kernel_rfl) E) (al E (aj E E (ai KI E (k5_3.cell (i:=0) E)) ?_)))
       refine al E (ak E E E (bV) (aI E E E (ae E E ?_)))
       refine cq (fun h46=>?_) (fun h46=>?_)
       ·refine am E E E (am E E E (am E E E (am E E E (ar E E E (ag (ab (bg E (af (aa (ac E E (ag (ab (aw (aY ?_))))))))))))))
        refine aD (aD (aY (aD (av E E ?_))))
        exact⟨_,rfl,(eL.trans x5_3),by
         rw[cr (.inr (.inr (.inr (.inr (fZ (p:=fu) (i:=i) (by omega) hall (by
          rw[←hem]
          refine gE ?_
          first
          |exact .inl (by omega)
          |exact .inr (.inl (by omega))
          |exact .inr (.inr hq)))))))]
         rfl⟩
       ·refine al rfl (ah rfl rfl (ap (o:=2) Tryz.underlying48 rfl (by kernel_rfl) rfl) (al rfl (aj rfl rfl (k5_3.ldO (ms:=[B em.at_.1,x36_0,x36_1]) (o:=2) (fun j v hj=>by rcases j with _|_|_|_|_|_|_|_|_|j<;>simp_all) Tryz.underlying46 rfl (by kernel_rfl)) ?_)))
        refine al E (an eI E E ((by have h:=gR (q:=em.at_) (f36_0.ext x5_3) (f36_1.ext x5_3) (hs.1 em hmem);rw[hq] at h;exact h)) ?_)
        rintro v49 w49 ⟨x49,rfl⟩
        refine al E (bo E E bu (aI E E E (ag (ab (cy E (aC (aR (ab (aa (ak (r:=I ((i+1:Nat):Int)) E E E (by have e:((i+1:Nat):Int)=(i:Int)+1:=(by omega);rw[e];exact aP (by omega) (by omega)) ?_))))))))))
        refine ae E E (ag ?_)
        refine bJ (i+1) ⟨rfl,rfl,rfl,rfl,trivial⟩ ⟨((eL.trans x5_3).trans x49),((e1L.trans x5_3).trans x49),by omega,pT (p:=fu) (by omega) hall (by rw[←hem];exact xz (by omega) (by omega) hq)⟩ (by omega)
    ·refine be (aK (aK (bf (ab (af (af ?_))))))
     have hpa:=mS (p:=fu) (l:=u.path) (i:=i) (by omega) hall
     refine aa (ah E E (ap (o:=1) KK E (by kernel_rfl) E) (ah E E (cx (b:=1) (o:=0) KF E (by kernel_rfl) E) ?_))
     refine aj E E (ai KT E (e1L.cell_some (k1.cell (i:=1) E))) (aS E E (a9 KT (hl.ext eL)) ?_)
     refine ae E E (ag (ab (aE ?_)))
     refine bZ (α:=Nat) (fun j=>[(1,.pointer (some ⟨g1,0,none⟩)),(55,vl),(56,I (u.leaf.lems.length:Int)),(57,I (j:Int))]) (fun j w'=>aJ w w'∧aJ w1 w'∧j≤u.leaf.lems.length∧u.leaf.lems.all ig=(u.leaf.lems.drop j).all ig) (fun j=>u.leaf.lems.length-j) (0) ⟨rfl,rfl,rfl,rfl,trivial⟩ ⟨eL,e1L,by omega,rfl⟩ ?_
     rintro j wM ⟨eM,e1M,hj,hlm⟩
     refine af (aa (ak E E E (bb) (ag (ab (af ?_)))))
     refine bt E (fun h58=>?_) (fun h58=>?_)
     ·refine aC (ab (af (aE (af ?_))))
      obtain⟨eq,heq⟩:∃eq,eq=u.leaf.lems[j]'(by omega):=⟨_,rfl⟩
      have hmm:eq∈u.leaf.lems:=by rw[heq];exact List.getElem_mem _
      rcases hq1:fl eq.va
      rotate_left
      rcases hq2:lJ eq.pf
      ·refine aa ?_
       obtain⟨a59,c59,p59,q59,h59⟩:=bR (P:=Tryz.prog) (sz:=6) KT (by kernel_rfl) cV (by omega) (hl.ext eM) (i:=j) (by omega) .i64
       rw[←heq] at h59
       obtain⟨x59_0,x59_1,x59_2,rfl,f59_0,f59_1,f59_2⟩:=fk h59
       refine au E E E (p59 _) (aj E E (q59.ld KV E (by kernel_rfl)) ?_)
       obtain⟨g6,w6,hr6,l6,x6,k6⟩:=aZ (P:=Tryz.prog) (w:=wM) (t:=173) (z:=.agg #[I 0,B false,B false,.slice none 0 0,.slice none 0 0,.slice none 0 0]) (l:=[I 0,B false,B false,.slice none 0 0,.slice none 0 0,.slice none 0 0]) (by kernel_rfl) rfl
       refine aX E hr6 ?_
       obtain⟨w11_3,s11_3,q11_3,k11_3⟩:=k6.stS (P:=Tryz.prog) (t:=173) (m:=[I eq.un,B eq.up,B eq.va.1,x59_0,x59_1,x59_2]) rfl (by kernel_rfl) (ao.cons rfl (ao.cons rfl (ao.cons rfl (ao.cons f59_0.one (ao.cons f59_1.one (ao.cons f59_2.one ao.nil))))))
       refine ax E E s11_3 ?_
       have x11_3:=aJ.of_new (x6) q11_3 l6
       refine ag (ab (af (aa (ah rfl rfl (ap (o:=2) Tryz.underlying173 rfl (by kernel_rfl) rfl) (aj rfl rfl (k11_3.ldO (ms:=[B eq.va.1,x59_0,x59_1]) (o:=2) (fun j v hj=>by rcases j with _|_|_|_|_|_|_|_|_|j<;>simp_all) Tryz.underlying46 rfl (by kernel_rfl)) ?_)))))
       refine an eI E E ((by have h:=gR (q:=eq.va) (f59_0.ext x11_3) (f59_1.ext x11_3) (sl eq hmm).1;rw[hq1] at h;exact h)) ?_
       rintro v63 w63 ⟨x63,rfl⟩
       refine bo E E bu (ae E E (al E (ah E E (ap (o:=5) KV E (by kernel_rfl) E) (al E (aj E E (ai KS E (x63.cell_some (k11_3.cell (i:=5) E))) ?_)))))
       refine al E (an qY E E ((by have h:=qZ (f59_2.ext (x11_3.trans x63)) (sl eq hmm).2;rw[hq2] at h;exact h)) ?_)
       rintro v68 w68 ⟨x68,rfl⟩
       refine al E (bo E E bu (aI E E E (ag (ab (bg E (af (aa (ac E E (ag (ab (aw (aY (aD (aD (aY (aD (av E E ?_)))))))))))))))))
       exact⟨_,rfl,(((eM.trans x11_3).trans x63).trans x68),by
        rw[cr (.inr (.inr (.inr (.inl (dO (by omega) (.inr (.inr (fZ (p:=ig) (i:=j) (by omega) hlm (by
         rw[←heq]
         unfold ig
         first
         |(rw[hq1];rfl)
         |(rw[hq2,Bool.and_false]))))))))))]
        rfl⟩
      ·refine aa ?_
       obtain⟨a59,c59,p59,q59,h59⟩:=bR (P:=Tryz.prog) (sz:=6) KT (by kernel_rfl) cV (by omega) (hl.ext eM) (i:=j) (by omega) .i64
       rw[←heq] at h59
       obtain⟨x59_0,x59_1,x59_2,rfl,f59_0,f59_1,f59_2⟩:=fk h59
       refine au E E E (p59 _) (aj E E (q59.ld KV E (by kernel_rfl)) ?_)
       obtain⟨g6,w6,hr6,l6,x6,k6⟩:=aZ (P:=Tryz.prog) (w:=wM) (t:=173) (z:=.agg #[I 0,B false,B false,.slice none 0 0,.slice none 0 0,.slice none 0 0]) (l:=[I 0,B false,B false,.slice none 0 0,.slice none 0 0,.slice none 0 0]) (by kernel_rfl) rfl
       refine aX E hr6 ?_
       obtain⟨w11_3,s11_3,q11_3,k11_3⟩:=k6.stS (P:=Tryz.prog) (t:=173) (m:=[I eq.un,B eq.up,B eq.va.1,x59_0,x59_1,x59_2]) rfl (by kernel_rfl) (ao.cons rfl (ao.cons rfl (ao.cons rfl (ao.cons f59_0.one (ao.cons f59_1.one (ao.cons f59_2.one ao.nil))))))
       refine ax E E s11_3 ?_
       have x11_3:=aJ.of_new (x6) q11_3 l6
       refine ag (ab (af (aa (ah rfl rfl (ap (o:=2) Tryz.underlying173 rfl (by kernel_rfl) rfl) (aj rfl rfl (k11_3.ldO (ms:=[B eq.va.1,x59_0,x59_1]) (o:=2) (fun j v hj=>by rcases j with _|_|_|_|_|_|_|_|_|j<;>simp_all) Tryz.underlying46 rfl (by kernel_rfl)) ?_)))))
       refine an eI E E ((by have h:=gR (q:=eq.va) (f59_0.ext x11_3) (f59_1.ext x11_3) (sl eq hmm).1;rw[hq1] at h;exact h)) ?_
       rintro v63 w63 ⟨x63,rfl⟩
       refine bo E E bu (ae E E (al E (ah E E (ap (o:=5) KV E (by kernel_rfl) E) (al E (aj E E (ai KS E (x63.cell_some (k11_3.cell (i:=5) E))) ?_)))))
       refine al E (an qY E E ((by have h:=qZ (f59_2.ext (x11_3.trans x63)) (sl eq hmm).2;rw[hq2] at h;exact h)) ?_)
       rintro v68 w68 ⟨x68,rfl⟩
       refine al E (bo E E bu (aI E E E (ag (ab (cy E (aC (aR (ab (aa (ak (r:=I ((j+1:Nat):Int)) E E E (by have e:((j+1:Nat):Int)=(j:Int)+1:=(by omega);rw[e];exact aP (by omega) (by omega)) ?_))))))))))
       refine ae E E (ag ?_)
       refine bJ (j+1) ⟨rfl,rfl,rfl,rfl,trivial⟩ ⟨(((eM.trans x11_3).trans x63).trans x68),(((e1M.trans x11_3).trans x63).trans x68),by omega,pT (p:=ig) (by omega) hlm (by rw[←heq];unfold ig;rw[hq1,hq2];rfl)⟩ (by omega)
      ·refine aa ?_
       obtain⟨a59,c59,p59,q59,h59⟩:=bR (P:=Tryz.prog) (sz:=6) KT (by kernel_rfl) cV (by omega) (hl.ext eM) (i:=j) (by omega) .i64
       rw[←heq] at h59
       obtain⟨x59_0,x59_1,x59_2,rfl,f59_0,f59_1,f59_2⟩:=fk h59
       refine au E E E (p59 _) (aj E E (q59.ld KV E (by kernel_rfl)) ?_)
       obtain⟨g6,w6,hr6,l6,x6,k6⟩:=aZ (P:=Tryz.prog) (w:=wM) (t:=173) (z:=.agg #[I 0,B false,B false,.slice none 0 0,.slice none 0 0,.slice none 0 0]) (l:=[I 0,B false,B false,.slice none 0 0,.slice none 0 0,.slice none 0 0]) (by kernel_rfl) rfl
       refine aX E hr6 ?_
       obtain⟨w11_3,s11_3,q11_3,k11_3⟩:=k6.stS (P:=Tryz.prog) (t:=173) (m:=[I eq.un,B eq.up,B eq.va.1,x59_0,x59_1,x59_2]) rfl (by kernel_rfl) (ao.cons rfl (ao.cons rfl (ao.cons rfl (ao.cons f59_0.one (ao.cons f59_1.one (ao.cons f59_2.one ao.nil))))))
       refine ax E E s11_3 ?_
       have x11_3:=aJ.of_new (x6) q11_3 l6
       refine ag (ab (af (aa (ah rfl rfl (ap (o:=2) Tryz.underlying173 rfl (by kernel_rfl) rfl) (aj rfl rfl (k11_3.ldO (ms:=[B eq.va.1,x59_0,x59_1]) (o:=2) (fun j v hj=>by rcases j with _|_|_|_|_|_|_|_|_|j<;>simp_all) Tryz.underlying46 rfl (by kernel_rfl)) ?_)))))
       refine an eI E E ((by have h:=gR (q:=eq.va) (f59_0.ext x11_3) (f59_1.ext x11_3) (sl eq hmm).1;rw[hq1] at h;exact h)) ?_
       rintro v63 w63 ⟨x63,rfl⟩
       refine bo E E bu (ae E E (am E E E (am E E E (am E E E (am E E E (ar E E E (ag (ab (bg E (af (aa (ac E E ?_))))))))))))
       refine ag (ab (aw (aY (aD (aD (aY (aD (av E E ?_))))))))
       exact⟨_,rfl,((eM.trans x11_3).trans x63),by
        rw[cr (.inr (.inr (.inr (.inl (dO (by omega) (.inr (.inr (fZ (p:=ig) (i:=j) (by omega) hlm (by
         rw[←heq]
         unfold ig
         first
         |(rw[hq1];rfl)
         |(rw[hq2,Bool.and_false]))))))))))]
        rfl⟩
     ·refine be (aK (aK (bf (ab (af ?_)))))
      have hla:=mS (p:=ig) (l:=u.leaf.lems) (i:=j) (by omega) hlm
      refine aa (ah E E (ap (o:=1) KK E (by kernel_rfl) E) (ah E E (cx (b:=1) (o:=1) KF E (by kernel_rfl) E) ?_))
      refine ah rfl rfl (cx (b:=2) (o:=2) Tryz.underlying48 rfl (by kernel_rfl) rfl) (aj rfl rfl ((k1.ext e1M).ldO (ms:=[B u.leaf.split.at_.1,x,y]) (o:=4) (fun j v hj=>by rcases j with _|_|_|_|_|_|_|_|_|j<;>simp_all) Tryz.underlying46 rfl (by kernel_rfl)) ?_)
      refine an eI E E ((gR (q:=u.leaf.split.at_) (hx.ext eM) (hy.ext eM) sd)) ?_
      rintro v76 w76 ⟨x76,rfl⟩
      refine ac E E (ag (ab (aw (av E E ?_))))
      exact⟨_,rfl,(eM.trans x76),by
       congr 1
       cases hc:fl u.leaf.split.at_ with
       |false=>exact(cr (.inr (.inr (.inr (.inl (dO (by omega) (.inl hc))))))).symm
       |true=>exact(xA (by omega) (by omega) hv1 (yZ (by omega) hc hv2 hla) hpa).symm⟩
 ·refine aa (ah E E (ap (o:=0) KK E (by kernel_rfl) E) (aj E E (ai KN E (k1.cell (i:=0) E)) ?_))
  refine aS E E (a9 KN (hd.ext x1)) (ak E E E (bV) (ae E E ?_))
  refine cq (fun h11=>?_) (fun h11=>?_)
  ·refine am E E E (am E E E (am E E E (am E E E (am E E E (ar E E E (ae E E (am E E E (am E E E (am E E E ?_)))))))))
   refine am E E E (ar E E E (ae E E (am E E E (am E E E (am E E E (am E E E (am E E E (ar E E E (ag ?_)))))))))
   refine ab (bg E (af (aa (ac E E (ag (ab (aw (aD (av E E ?_)))))))))
   exact⟨_,rfl,x1,by
    rw[cr (by
     first
     |exact .inl (by omega)
     |exact .inr (.inl (by omega))
     |exact .inr (.inr (.inl hv1))
     |exact .inr (.inr (.inr (.inl (dO (by omega) (.inr (.inl hv2)))))))]
    rfl⟩
  ·refine al E (ah E E (ap (o:=1) KK E (by kernel_rfl) E) (al E (ah E E (cx (b:=1) (o:=6) KF E (by kernel_rfl) E) ?_)))
   refine al E (aj E E (ai KO E (k1.cell (i:=7) E)) (al E (aS E E (a9 KO (hk.ext x1)) ?_)))
   refine al E (ak E E E (bV) (aI E E E (ae E E ?_)))
   refine cq (fun h18=>?_) (fun h18=>?_)
   ·refine am E E E (am E E E (am E E E (am E E E (ar E E E (ae E E (am E E E (am E E E (am E E E (am E E E ?_)))))))))
    refine am E E E (ar E E E (ag (ab (bg E (af (aa (ac E E (ag (ab (aw (aD (av E E ?_))))))))))))
    exact⟨_,rfl,x1,by
     rw[cr (by
      first
      |exact .inl (by omega)
      |exact .inr (.inl (by omega))
      |exact .inr (.inr (.inl hv1))
      |exact .inr (.inr (.inr (.inl (dO (by omega) (.inr (.inl hv2)))))))]
     rfl⟩
   ·refine al rfl (ah rfl rfl (ap (o:=1) Tryz.underlying54 rfl (by kernel_rfl) rfl) (al rfl (aj rfl rfl (k1.ldO (ms:=[vl,I u.leaf.split.kd,I u.leaf.split.ix,B u.leaf.split.at_.1,x,y,vk,B u.leaf.empty,vp]) (o:=1) (fun j v hj=>by rcases j with _|_|_|_|_|_|_|_|_|j<;>simp_all) Tryz.underlying52 rfl (by kernel_rfl)) ?_)))
    refine al E (an fU E E ((by have h:=lI (n:=u.leaf) (hl.ext x1) (hx.ext x1) (hy.ext x1) (hk.ext x1) (hp.ext x1);rw[hv1] at h;exact h)) ?_)
    rintro v21 w21 ⟨x21,rfl⟩
    refine al E (bo E E bu (aI E E E (ae E E (am E E E (am E E E (am E E E (am E E E (am E E E (ar E E E ?_)))))))))
    refine ag (ab (bg E (af (aa (ac E E (ag (ab (aw (aD (av E E ?_))))))))))
    exact⟨_,rfl,(x1.trans x21),by
     rw[cr (by
      first
      |exact .inl (by omega)
      |exact .inr (.inl (by omega))
      |exact .inr (.inr (.inl hv1))
      |exact .inr (.inr (.inr (.inl (dO (by omega) (.inr (.inl hv2)))))))]
     rfl⟩
end Go.Rl
namespace Go.Rl
open Go.RowKit Go.Proofs
theorem BW:aH Tryz.prog 33:=⟨_,Tryz.func33,by kernel_rfl,rfl⟩
theorem BX {w:World} {l m:List bz} {v u:Value} (hv:ct cQ l v w) (hu:ct cQ m u w):
 Calls Tryz.prog 33 #[v,u] w (bH fun r w'=>aJ w w'∧r=B (decide (l=m))):=by
 refine enter (vs:=[v,u]) Tryz.func33 E E E ?_
 have hll:=hv.len
 have hml:=hu.len
 refine af (aa (ac E E (ag (ab (af (af (aa (ae E E (aS E E (a9 KN hv) (ae E E (aS E E (a9 KN hu) ?_)))))))))))
 refine ak E E E (dF) (ag (ab ?_))
 refine bt E (fun h10=>?_) (fun h10=>?_)
 ·refine af (aa (ac E E (ag (ab (aw (aD (av E E ?_)))))))
  exact⟨_,rfl,aJ.refl _,by rw[decide_eq_false (fun h=>by rw[h] at h10;exact h10 rfl)];rfl⟩
 ·refine aC (ab (af (af (aa (ac E E (ag (ab (aE ?_))))))))
  refine bZ (α:=Nat) (fun i=>[(0,v),(1,u),(5,I (i:Int))]) (fun i w'=>aJ w w'∧i≤l.length∧l.take i=m.take i) (fun i=>l.length-i) (0) ⟨rfl,rfl,rfl,trivial⟩ ⟨aJ.refl _,by omega,rfl⟩ ?_
  rintro i wL ⟨eL,hi,hall⟩
  refine af (af (aa (ae E E (ae E E (aS E E (a9 KN (hv.ext eL)) (ak E E E (bb) (ag (ab ?_))))))))
  refine bt E (fun h14=>?_) (fun h14=>?_)
  ·refine aC (ab (af (aE (af (bD 9 [0,1,5,25] (by kernel_rfl) (by kernel_rfl) ?_)))))
   refine ay E E (ay E E ?_)
   obtain⟨a19,c19,p19,q19,h19⟩:=bR (P:=Tryz.prog) (sz:=5) KN (by kernel_rfl) bN (by omega) (hv.ext eL) (i:=i) (by omega) .i64
   obtain⟨e19,he19⟩:∃e,e=l[i]'(by omega):=⟨_,rfl⟩
   rw[←he19] at h19
   obtain⟨x19_0,x19_1,rfl,f19_0,f19_1⟩:=fE h19
   refine aA E E E (fun w _=>p19 w) (aN E E (fun w hw=>(q19.ext hw).ld KH E (by kernel_rfl)) (ay E E ?_))
   refine ay E E ?_
   obtain⟨a23,c23,p23,q23,h23⟩:=bR (P:=Tryz.prog) (sz:=5) KN (by kernel_rfl) bN (by omega) (hu.ext eL) (i:=i) (by omega) .i64
   obtain⟨e23,he23⟩:∃e,e=m[i]'(by omega):=⟨_,rfl⟩
   rw[←he23] at h23
   obtain⟨x23_0,x23_1,rfl,f23_0,f23_1⟩:=fE h23
   refine aA rfl rfl rfl (fun w _=>p23 w) (aN rfl rfl (fun w hw=>(q23.ext hw).ld KH rfl (by kernel_rfl)) (cd (S:=Is (B (decide (e19=e23)))) lG (bG.is _) rfl (fun w hw=>by rintro _ rfl _ rfl;exact lH (a:=e19) (b:=e23) (f19_0.ext hw) (f19_1.ext hw) (f23_0.ext hw) (f23_1.ext hw)) ?_))
   refine cb ?_
   intro wg6 xg6
   rintro _ hq0
   obtain rfl:=Eq.symm hq0
   rintro _ hq1
   obtain rfl:=Eq.symm hq1
   rintro _ rfl
   rintro _ rfl
   refine bo E E bu (ag (ab ?_))
   refine fc E (fun h26=>?_) (fun h26=>?_)
   ·refine af (aa (ac E E (ag (ab (aw (aY (aD (aD (aY (aD (av E E ?_)))))))))))
    exact⟨_,rfl,(eL.trans xg6),by
     rw[decide_eq_false (fun h=>by
      subst h
      have e:=he19.trans he23.symm
      rw[e] at h26
      simp at h26)]
     rfl⟩
   ·refine aC (aR (ab (aa (ae E E (ak (r:=I ((i+1:Nat):Int)) E E E (by have e:((i+1:Nat):Int)=(i:Int)+1:=(by omega);rw[e];exact aP (by omega) (by omega)) ?_)))))
    refine ac E E (ag ?_)
    refine bJ (i+1) ⟨rfl,rfl,rfl,trivial⟩ ⟨(eL.trans xg6),by omega,by
     have h:e19=e23:=by simpa using h26
     rw[List.take_add_one,List.take_add_one,hall,List.getElem?_eq_getElem (by omega),List.getElem?_eq_getElem (by omega),←he19,←he23,h]⟩ (by omega)
  ·refine be (aK (aK (bf (ab (af (aa (ac E E (ag (ab (aw (av E E ?_)))))))))))
   exact⟨_,rfl,eL,by
    rw[List.take_of_length_le (by omega),List.take_of_length_le (by omega)] at hall
    rw[decide_eq_true hall];rfl⟩
end Go.Rl
namespace Go.Rl
open Go.RowKit Go.Proofs
theorem Et {l t:List UInt8} {d:bz} (h:wW l=some (d,t)) (hl:l.length≤4294967296):sQ d.at_:=by
 unfold wW at h
 obtain⟨p1,h1,h⟩:=Option.bind_eq_some_iff.1 h
 obtain⟨p2,h2,h⟩:=Option.bind_eq_some_iff.1 h
 obtain⟨p3,h3,h⟩:=Option.bind_eq_some_iff.1 h
 cases h
 have l1:=fT.le l _ _ h1
 have l2:=fT.le p1.2 _ _ h2
 exact oJ h3 (by omega)
theorem vq {l t:List UInt8} {u:cn} (h:pY l=some (u,t)) (hl:l.length≤4294967296):JC u:=by
 unfold pY at h
 obtain⟨p1,h1,h⟩:=Option.bind_eq_some_iff.1 h
 obtain⟨p2,h2,h⟩:=Option.bind_eq_some_iff.1 h
 cases h
 have l1:=(rK rJ.le).le l _ _ h1
 exact⟨pZ rJ.le (fun _ _ _ h hl=>Et h hl) h1 hl,p7 p1.2.length p1.2 _ _ h2 (by omega)⟩
def EntQ (base:Nat) (b:List UInt8) (r:Value) (w':World):Prop:=∃(u:cn) (cs:List Value) (ok:Bool),r=.tuple #[.agg cs.toArray,B ok]∧cv (fun k=>k<base) w' (mW u) cs∧ao cs∧(ok=true→kW b=some u)∧(ok=false→kW b=none)
theorem ra {X:Nat→Prop} {w:World} {u:cn} {v:Value} {cs:List Value} (h1:cv X w (.sl (u.path.map cQ)) [v]) (h2:cv X w (bm u.leaf) cs):cv X w (mW u) (v::cs):=by
 unfold mW
 simp only[cv.eq_5]
 have:=aO.cons (a:=[v]) h1 (aO.cons (a:=cs) h2 aO.nil)
 simpa using this
def G8:aV:=.mk [] kI [] false []
theorem tD {X:Nat→Prop} {w:World}:cv X w (bm G8) [.slice none 0 0,I 0,I 0,B false,.slice none 0 0,.slice none 0 0,.slice none 0 0,B false,.slice none 0 0]:=g0 (ls:=[]) (d:=kI) (ks:=[]) (em:=false) (ps:=[]) pQ qN pQ pQ
abbrev Kx:List Value:=[.slice none 0 0,I 0,I 0,B false,.slice none 0 0,.slice none 0 0,.slice none 0 0,B false,.slice none 0 0]
section
variable {P:Program} {ops:Array Oper} {Q:im} {N:Nat} {D:List Deferred} {S:World→Prop} {fuel:Nat} {listed:Array Bool} {l:Fr} {w:World} {d:Nat} {ty:TypeId} {pos:String} {aft:Array Edge}
theorem HQ (i:Nat) {c x y:Operand} {u:Value} (hi:ops[i]? =some ⟨some d,.pick c x y,ty,pos,aft,none⟩) (hc:ev l c=some (.bool true)) (hx:ev l x=some u) (hB:mr ops listed i=true) (hd:Nat.blt d N=true) (hS:S w)
 (k:db P ops Q N D S fuel (listed.setIfInBounds i true) ((d,u)::l) w):db P ops Q N D S (fuel+1) listed l w:=
 ww i hi hB hd hS (fun ρ w' hρ _=>by simp[execOp,hρ c _ hc,asBool,hρ x _ hx]) k
theorem y8 (i:Nat) {c x y:Operand} {v:Value} (hi:ops[i]? =some ⟨some d,.pick c x y,ty,pos,aft,none⟩) (hc:ev l c=some (.bool false)) (hy:ev l y=some v) (hB:mr ops listed i=true) (hd:Nat.blt d N=true) (hS:S w)
 (k:db P ops Q N D S fuel (listed.setIfInBounds i true) ((d,v)::l) w):db P ops Q N D S (fuel+1) listed l w:=
 ww i hi hB hd hS (fun ρ w' hρ _=>by simp[execOp,hρ c _ hc,asBool,hρ y _ hy]) k
end
theorem C1 {P:Program} {w:World} {t:TypeId} {x y:Operand}:(bin .eql t x y (I (if some ([]:List UInt8)=some [] then 0 else 5)) (I 0)).run P w=.ok (B true) w:=FZ (l:=[])
theorem HR {P:Program} {w:World} {t:TypeId} {x y:Operand} {c:UInt8} {l:List UInt8}:(bin .eql t x y (I (if some (c::l)=some [] then 0 else 5)) (I 0)).run P w=.ok (B false) w:=by
 have h:=FZ (P:=P) (w:=w) (t:=t) (x:=x) (y:=y) (l:=c::l)
 rwa [decide_eq_false (by simp)] at h
theorem GG {b:List UInt8} {u:cn} (h:pY b=some (u,[])) (hv:dy u=false):kW b=none:=by
 unfold kW
 rw[h]
 exact if_neg (by rw[hv];simp)
end Go.Rl
namespace Go.Rl
open Go.RowKit Go.Proofs
inductive JT where
 |gap
 |leaf (n:aV)
 |split (d:bz) (a b:JT)
def m0 (d:bz):bz:=if d.kd=2∨d.kd=3 then bT d else d
def pj (d:bz):JT→JT
 |.gap=>.split (m0 d) .gap .gap
 |.leaf n=>.leaf n
 |.split s a b=>.split s a b
def gt (n:aV):List bz→JT→Option JT
 |[],.gap=>some (.leaf n)
 |[],.leaf m=>some (.leaf m)
 |[],.split _ _ _=>none
 |d::p,t=>
  match pj d t with
  |.split s a b=>if s=d then(gt n p a).map fun a'=>.split s a' b else if bT s=d then(gt n p b).map fun b'=>.split s a b' else none
  |.leaf _=>none
  |.gap=>none
def Eu (e:cn) (t:JT):Option JT:=gt e.leaf e.path t
def gS:List cn→JT→Option JT
 |[],t=>some t
 |e::es,t=>(Eu e t).bind (gS es)
def JT.node:JT→aV
 |.gap=>G8
 |.leaf n=>n
 |.split s a b=>.mk [] s [a.node,b.node] false []
def JT.miss:JT→List bz→List (List bz)
 |.gap,p=>[p]
 |.leaf _,_=>[]
 |.split s a b,p=>a.miss (p++[s])++b.miss (p++[bT s])
def JT.depth:JT→Nat
 |.gap=>0
 |.leaf _=>0
 |.split _ a b=>1+max a.depth b.depth
theorem na (n:aV):∀(p:List bz) {t t':JT},gt n p t=some t'→t'.depth≤max t.depth p.length
 |[],.gap,t',h=>by simp only[gt,Option.some.injEq] at h;subst h;simp[JT.depth]
 |[],.leaf m,t',h=>by simp only[gt,Option.some.injEq] at h;subst h;simp[JT.depth]
 |[],.split _ _ _,t',h=>by simp[gt] at h
 |d::p,t,t',h=>by
  have key:∀s a b,pj d t=.split s a b→t'.depth≤max (pj d t).depth (p.length+1):=fun s a b ho=>by
   simp only[gt,ho] at h
   rw[ho]
   split at h
   ·obtain⟨a',h1,rfl⟩:=Option.map_eq_some_iff.1 h
    have:=na n p h1
    simp only[JT.depth];omega
   ·split at h
    ·obtain⟨b',h1,rfl⟩:=Option.map_eq_some_iff.1 h
     have:=na n p h1
     simp only[JT.depth];omega
    ·cases h
  cases t with
  |gap=>
   have:=key _ _ _ rfl
   simp only[pj,JT.depth] at this
   simp only[JT.depth,List.length_cons];omega
  |leaf m=>simp[gt,pj] at h
  |split s a b=>
   have:=key _ _ _ rfl
   simp only[pj] at this
   simpa using this
def iS (d:bz) (x y k1 k2 lf:Value):List Value:=[I d.kd,I d.ix,B d.at_.1,x,y,k1,k2,lf]
def dY:Value:=.pointer none
def kX (g:Nat):Value:=.pointer (some ⟨g,0,none⟩)
def rc (w0 w:World):Nat→JT→List Nat→Prop
 |g,.gap,ids=>ids=[g]∧bA g 114 (iS kI (.slice none 0 0) (.slice none 0 0) dY dY dY) w
 |g,.leaf n,ids=>∃h cs,ids=[g,h]∧bA g 114 (iS kI (.slice none 0 0) (.slice none 0 0) dY dY (kX h)) w∧bA h 52 cs w∧Rp w0 (bm n) cs
 |g,.split d a b,ids=>∃x y g1 g2 i1 i2,ids=g::(i1++i2)∧bi d.at_.2.1 x w0∧bi d.at_.2.2 y w0∧bA g 114 (iS d x y (kX g1) (kX g2) dY) w∧rc w0 w g1 a i1∧rc w0 w g2 b i2
theorem rc.mv {w0 w w':World} {X:Nat→Prop} (hm:Mv X w w'):∀{t:JT} {g:Nat} {ids:List Nat},rc w0 w g t ids→(∀k∈ids,¬X k)→rc w0 w' g t ids
 |.gap,g,ids,h,hX=>by
  simp only[rc] at h⊢
  obtain⟨rfl,h1⟩:=h
  exact⟨rfl,hm.blk h1 (hX g (by simp))⟩
 |.leaf n,g,ids,h,hX=>by
  simp only[rc] at h⊢
  obtain⟨k,cs,rfl,h1,h2,h3⟩:=h
  exact⟨k,cs,rfl,hm.blk h1 (hX g (by simp)),hm.blk h2 (hX k (by simp)),h3⟩
 |.split d a b,g,ids,h,hX=>by
  simp only[rc] at h⊢
  obtain⟨x,y,g1,g2,i1,i2,rfl,hx,hy,h1,h2,h3⟩:=h
  exact⟨x,y,g1,g2,i1,i2,rfl,hx,hy,hm.blk h1 (hX g (by simp)),h2.mv hm fun k hk=>hX k (by simp[hk]),h3.mv hm fun k hk=>hX k (by simp[hk])⟩
theorem rc.lt {w0 w:World}:∀{t:JT} {g:Nat} {ids:List Nat},rc w0 w g t ids→∀k∈ids,k<w.heap.size
 |.gap,g,ids,h,k,hk=>by
  simp only[rc] at h
  obtain⟨rfl,h1⟩:=h
  simp only[List.mem_singleton] at hk
  subst hk
  exact h1.lt
 |.leaf n,g,ids,h,k,hk=>by
  simp only[rc] at h
  obtain⟨j,cs,rfl,h1,h2,_⟩:=h
  simp only[List.mem_cons,List.not_mem_nil,or_false] at hk
  rcases hk with rfl|rfl
  ·exact h1.lt
  ·exact h2.lt
 |.split d a b,g,ids,h,k,hk=>by
  simp only[rc] at h
  obtain⟨x,y,g1,g2,i1,i2,rfl,hx,hy,h1,h2,h3⟩:=h
  simp only[List.mem_cons,List.mem_append] at hk
  rcases hk with rfl|hk|hk
  ·exact h1.lt
  ·exact h2.lt k hk
  ·exact h3.lt k hk
structure jp (w0 w:World) (g:Nat) (t:JT) (ids:List Nat):Prop where
 at_:rc w0 w g t ids
 nodup:ids.Nodup
 young:∀k∈ids,w0.heap.size≤k
theorem jp.mv {w0 w w':World} {X:Nat→Prop} {g:Nat} {t:JT} {ids:List Nat} (h:jp w0 w g t ids) (hm:Mv X w w') (hX:∀k∈ids,¬X k):jp w0 w' g t ids:=⟨h.at_.mv hm hX,h.nodup,h.young⟩
theorem jp.lt {w0 w:World} {g:Nat} {t:JT} {ids:List Nat} (h:jp w0 w g t ids):∀k∈ids,k<w.heap.size:=h.at_.lt
theorem jp.gap {w0 w:World} {g:Nat} (k:bA g 114 (iS kI (.slice none 0 0) (.slice none 0 0) dY dY dY) w) (hg:w0.heap.size≤g):jp w0 w g .gap [g]:=
 ⟨⟨rfl,k⟩,by simp,fun j hj=>by simp only[List.mem_singleton] at hj;omega⟩
theorem jp.leaf {w0 w:World} {g h:Nat} {n:aV} {cs:List Value} (k:bA g 114 (iS kI (.slice none 0 0) (.slice none 0 0) dY dY (kX h)) w) (k2:bA h 52 cs w) (hr:Rp w0 (bm n) cs) (hg:w0.heap.size≤g) (hh:w0.heap.size≤h) (hne:g≠h):jp w0 w g (.leaf n) [g,h]:=
 ⟨⟨h,cs,rfl,k,k2,hr⟩,by simp[hne],fun j hj=>by simp only[List.mem_cons,List.not_mem_nil,or_false] at hj;omega⟩
theorem jp.split_inv {w0 w:World} {g:Nat} {d:bz} {a b:JT} {ids:List Nat} (h:jp w0 w g (.split d a b) ids):∃x y g1 g2 i1 i2,ids=g::(i1++i2)∧bi d.at_.2.1 x w0∧bi d.at_.2.2 y w0∧bA g 114 (iS d x y (kX g1) (kX g2) dY) w∧jp w0 w g1 a i1∧jp w0 w g2 b i2∧w0.heap.size≤g∧g∉i1∧g∉i2∧(∀k∈i1,k∉i2):=by
 obtain⟨⟨x,y,g1,g2,i1,i2,rfl,hx,hy,h1,h2,h3⟩,hn,hy2⟩:=h
 rw[List.nodup_cons,List.nodup_append] at hn
 obtain⟨n1,n2,n3,n4⟩:=hn
 refine⟨x,y,g1,g2,i1,i2,rfl,hx,hy,h1,⟨h2,n2,fun k hk=>hy2 k (by simp[hk])⟩,⟨h3,n3,fun k hk=>hy2 k (by simp[hk])⟩,hy2 g (by simp),fun hg=>n1 (by simp[hg]),fun hg=>n1 (by simp[hg]),fun k hk hk'=>n4 k hk k hk' rfl⟩
theorem jp.split {w0 w:World} {g g1 g2:Nat} {d:bz} {a b:JT} {i1 i2:List Nat} {x y:Value} (hx:bi d.at_.2.1 x w0) (hy:bi d.at_.2.2 y w0) (k:bA g 114 (iS d x y (kX g1) (kX g2) dY) w) (h1:jp w0 w g1 a i1) (h2:jp w0 w g2 b i2) (hg:w0.heap.size≤g) (n1:g∉i1) (n2:g∉i2) (n3:∀k∈i1,k∉i2):jp w0 w g (.split d a b) (g::(i1++i2)):=by
 refine⟨⟨x,y,g1,g2,i1,i2,rfl,hx,hy,k,h1.at_,h2.at_⟩,?_,fun j hj=>?_⟩
 ·rw[List.nodup_cons,List.nodup_append]
  exact⟨by simp[n1,n2],h1.nodup,h2.nodup,fun k hk j hj e=>n3 k hk (e▸hj)⟩
 ·simp only[List.mem_cons,List.mem_append] at hj
  rcases hj with rfl|hj|hj
  ·exact hg
  ·exact h1.young j hj
  ·exact h2.young j hj
end Go.Rl
namespace Go.Rl
open Go.RowKit Go.Proofs
theorem GH:(Tryz.prog.info? 54).map (fun i=>(i.zero,i.size,i.bytes))=some (some (.agg #[.slice none 0 0,.slice none 0 0,I 0,I 0,B false,.slice none 0 0,.slice none 0 0,.slice none 0 0,B false,.slice none 0 0]),10,176):=by kernel_rfl
theorem j0 {P:Program} {fn:Func} {R:Ending→World→Prop} {N:Nat} {fr:Fr} {p s1 s2 s3:Tmp} {t T:TypeId} {u1 u2 u3:Value} {l:List Value} {w:World} {g:Nat} {d:TypeDesc} (hr:fn.results= #[.cell p t,.tmp s1,.tmp s2,.tmp s3]) (hv:lk fr p=some (.pointer (some ⟨g,0,none⟩))) (h1:lk fr s1=some u1) (h2:lk fr s2=some u2) (h3:lk fr s3=some u3) (hb:bA g T l w) (hu:P.underlying t=some d) (hd:d.isRow=true) (hi:(P.info? t).map (·.size)=some l.length)
 (h:R (.returned (.tuple #[.agg l.toArray,u1,u2,u3])) w):gu (bodyPost P fn R) N [] fr w .ret:=fun a ha=>by
 refine⟨ha.defers,.tuple #[.agg l.toArray,u1,u2,u3],?_,h⟩
 have hp:=ha.at_ p _ hv
 have hp':a.tmps[p]?.getD undef=.pointer (some ⟨g,0,none⟩):=by simpa using hp
 have q1:=ha.at_ s1 _ h1
 have q2:=ha.at_ s2 _ h2
 have q3:=ha.at_ s3 _ h3
 have hl:=run_loadVar_row w g T t l.toArray (0,0) d hb hu (by cases d<;>first|rfl|exact hd) (by simpa using hi)
 simp[results,hr,hp',asAddr,hl,←q1,←q2,←q3]
def ol (base:Nat) (b:List UInt8) (r:Value) (w':World):Prop:=∃ve,r=.tuple #[.agg ((oh b).1.1.map U8).toArray,ve,I (((oh b).1.2.2:Nat):Int),I (oh b).2]∧cv (fun k=>k<base) w' (.sl ((oh b).1.2.1.map mW)) [ve]
theorem ol.err {base:Nat} {b:List UInt8} {w':World} (h:b.length<44∨b.take 4≠j6∨fF b 36=false):ol base b (.tuple #[.agg (vF.map U8).toArray,.slice none 0 0,I 0,I 5]) w':=by
 have e:oh b=((vF,[],0),5):=by unfold oh;rw[if_pos h]
 unfold ol
 rw[e]
 exact⟨_,rfl,pQ⟩
theorem ol.ok {base k:Nat} {b:List UInt8} {es:List cn} {ve:Value} {w':World} (h:¬(b.length<44∨b.take 4≠j6∨fF b 36=false)) (hj:fM b 44=(es,k)) (hr:cv (fun k=>k<base) w' (.sl (es.map mW)) [ve]):ol base b (.tuple #[.agg (((b.take 36).drop 4).map U8).toArray,ve,I (k:Int),I 0]) w':=by
 have e:oh b=(((b.take 36).drop 4,es,k),0):=by unfold oh;rw[if_neg h,hj]
 unfold ol
 rw[e]
 exact⟨_,rfl,hr⟩
theorem GI {b:List UInt8} {k:Nat} (h:ug (b.drop k)=none):gD b k=none:=by unfold gD;rw[h];rfl
theorem vt {b p t:List UInt8} {k:Nat} (h:ug (b.drop k)=some (p,t)) (hc:fF b (b.length-t.length)=false):gD b k=none:=by
 unfold gD;rw[h];show(if fF b (b.length-t.length)=true then _ else _)=_;rw[hc];rfl
theorem GJ {b p t:List UInt8} {k:Nat} (h:ug (b.drop k)=some (p,t)) (hc:fF b (b.length-t.length)=true) (he:kW p=none):gD b k=none:=by
 unfold gD;rw[h];show(if fF b (b.length-t.length)=true then _ else _)=_;rw[if_pos hc,he];rfl
theorem HS {b p t:List UInt8} {k:Nat} {u:cn} (h:ug (b.drop k)=some (p,t)) (hc:fF b (b.length-t.length)=true) (he:kW p=some u):gD b k=some (u,b.length-t.length+8):=by
 unfold gD;rw[h];show(if fF b (b.length-t.length)=true then _ else _)=_;rw[if_pos hc,he];rfl
theorem HT {b:List UInt8} {k:Nat} {es:List cn} (hJ:fM b 44=(es++(fM b k).1,(fM b k).2)) (h:gD b k=none):fM b 44=(es,k):=by
 rw[hJ,vh h,List.append_nil]
theorem oK:(Tryz.prog.info? 24).map (·.size)=some (vF.map U8).length:=by rw[List.length_map,HG];exact mO
end Go.Rl
namespace Go.Rl
open Go.RowKit Go.Proofs
theorem kr:aH Tryz.prog 126:=⟨_,Tryz.func126,by kernel_rfl,rfl⟩
theorem kt:aH Tryz.prog 127:=⟨_,Tryz.func127,by kernel_rfl,rfl⟩
theorem tE:aH Tryz.prog 128:=⟨_,Tryz.func128,by kernel_rfl,rfl⟩
structure jj (h g:Nat) (st:Option (List UInt8)) (ok:Bool) (w:World):Prop where
 blk:bA h 163 [.pointer (some ⟨g,0,none⟩),B ok] w
 rd:cw g st w
 lt:g<h
theorem nh:(Tryz.prog.info? 4).map (·.size)=some 1:=by kernel_rfl
theorem jj.flag {h g:Nat} {st s1:Option (List UInt8)} {ok:Bool} {w w1:World} (hm:jj h g st ok w) (hg:w.grownBy w1 (some g)) (hr:cw g s1 w1) (b:Bool):
 ∃w2,(Instr.storeAt 4 (.pointer (some ⟨h,1,none⟩)) (B b)).run Tryz.prog w1=.ok () w2∧Mv (lh h g) w w2∧jj h g s1 b w2∧w1.grownBy w2 (some h):=by
 obtain⟨w2,h1,h2,h3,h4,h5⟩:=pH.put (P:=Tryz.prog) (t:=4) (v:=B b) hm.blk hg hr hm.lt (i:=1) nh rfl (by simp)
 exact⟨w2,h1,h2.weak (fun k hk _=>hk.elim .inr .inl),⟨h3,h4,hm.lt⟩,h5⟩
theorem jj.mv {h g:Nat} {st:Option (List UInt8)} {ok:Bool} {X:Nat→Prop} {w w':World} (hm:jj h g st ok w) (m:Mv X w w') (hX:∀k,X k→h<k):jj h g st ok w':=
 ⟨m.blk hm.blk (fun hx=>by have:=hX h hx;omega),pH.mv hm.rd m fun k hk=>by have:=hX k hk;have:=hm.lt;omega,hm.lt⟩
theorem jj.ext {h g:Nat} {st:Option (List UInt8)} {ok:Bool} {w w':World} (hm:jj h g st ok w) (e:aJ w w'):jj h g st ok w':=hm.mv (Mv.of_ext (X:=fun _=>False) e) fun _ h=>h.elim
theorem jj.set {h g:Nat} {st:Option (List UInt8)} {ok:Bool} {w:World} (hm:jj h g st ok w) (b:Bool):
 ∃w2,(Instr.storeAt 4 (.pointer (some ⟨h,1,none⟩)) (B b)).run Tryz.prog w=.ok () w2∧Mv (fun k=>k=h) w w2∧jj h g st b w2:=by
 obtain⟨w2,h1,h2,h3⟩:=hm.blk.stC (P:=Tryz.prog) (t:=4) (i:=1) (v:=B b) nh rfl (by simp)
 have m:Mv (fun k=>k=h) w w2:=Mv.of_grown h2 fun k hk _=>(Option.some.inj hk).symm
 exact⟨w2,h1,m,h3,pH.mv hm.rd m fun k hk=>by have:=hm.lt;have:k=h:=hk;omega,hm.lt⟩
theorem jj.step {h g:Nat} {st s1:Option (List UInt8)} {ok:Bool} {w w1:World} (hm:jj h g st ok w) (hg:w.grownBy w1 (some g)) (hr:cw g s1 w1):jj h g s1 ok w1:=
 ⟨hm.blk.other hg (fun e=>by have:=Option.some.inj e;have:=hm.lt;omega),hr,hm.lt⟩
theorem leN {n m:Nat} (hn:n<18446744073709551616) (hm:m<18446744073709551616):UInt64.ofNat n≤UInt64.ofNat m↔n≤m:=by
 rw[UInt64.le_iff_toNat_le,UInt64.toNat_ofNat',UInt64.toNat_ofNat']
 omega
theorem HU {w:World} {h g n0 most:Nat} {st s1:Option (List UInt8)} {ok:Bool} (hm:jj h g st ok w) (hn:n0<18446744073709551616) (hmo:most<18446744073709551616)
 (c:Calls Tryz.prog 89 #[.pointer (some ⟨g,0,none⟩)] w (bH fun r w'=>w.grownBy w' (some g)∧r=.tuple #[bS (UInt64.ofNat n0),I (if s1.isSome=true then 0 else 5)]∧cw g s1 w')):
 Calls Tryz.prog 126 #[.pointer (some ⟨h,0,none⟩),bS (UInt64.ofNat most)] w (bH fun r w'=>Mv (lh h g) w w'∧r=bS (UInt64.ofNat (if (ok&&s1.isSome&&decide (n0≤most))=true then n0 else 0))∧jj h g s1 (ok&&s1.isSome&&decide (n0≤most)) w'):=by
 refine enter (vs:=[.pointer (some ⟨h,0,none⟩),bS (UInt64.ofNat most)]) Tryz.func126 E E E ?_
 have kb:=hm.blk
 refine af (aa (ac E E (ag (ab (af ?_)))))
 rcases ok with _|_
 rotate_left
 rcases s1 with _|l1
 rotate_left
 rcases Nat.lt_or_ge most n0 with hlt|hle
 ·refine aa (ae E E (aq E E (ah E E (ap (o:=0) KU E (by kernel_rfl) E) (aj E E (ai La E (kb.cell (i:=0) E)) ?_))))
  refine an gb E E (c) ?_
  rintro v12 w12 ⟨g12,rfl,rs⟩
  have m12:=(hm.rd.rdT).kp g12
  have kb1:=kb.other g12 (fun e=>by have:=Option.some.inj e;have:=hm.lt;omega)
  obtain⟨w2,s2,m2,h2,_⟩:=hm.flag g12 rs false
  refine ae E E (az E E (ce) (az E E (cf) (ac E E (ac E E (ag (ab (af (aa (ae E E (ae E E (aq E E ?_)))))))))))
  refine ah E E (ap (o:=1) KU E (by kernel_rfl) E) (aj E E (ai KQ E (kb1.cell (i:=1) E)) ?_)
  refine ae E E (al E (ae E E (al E (ak E E E (cR E a6) (ar E E E (ae E E (al E (ae E E (al E (ae E E ?_))))))))))
  refine al E (ak E E E (dn (mt (leN hn hmo).1 (by omega)) vQ) (ar E E E (aq E E (ah E E (ap (o:=1) KU E (by kernel_rfl) E) ?_))))
  refine ax E E s2 ?_
  refine ag (ab (af (af (aa (ae E E (aq E E (ah E E (ap (o:=1) KU E (by kernel_rfl) E) ?_)))))))
  refine aj E E (ai KQ E (h2.blk.cell (i:=1) E)) (bo E E bu (ag (ab (bg E (af (aa (ac E E (ag ?_))))))))
  refine ab (aw (aD (av E E ?_)))
  exact⟨_,rfl,m2,by simp[show ¬n0≤most by omega];rfl,by simpa [show ¬n0≤most by omega] using h2⟩
 ·refine aa (ae E E (aq E E (ah E E (ap (o:=0) KU E (by kernel_rfl) E) (aj E E (ai La E (kb.cell (i:=0) E)) ?_))))
  refine an gb E E (c) ?_
  rintro v12 w12 ⟨g12,rfl,rs⟩
  have m12:=(hm.rd.rdT).kp g12
  have kb1:=kb.other g12 (fun e=>by have:=Option.some.inj e;have:=hm.lt;omega)
  obtain⟨w2,s2,m2,h2,_⟩:=hm.flag g12 rs true
  refine ae E E (az E E (ce) (az E E (cf) (ac E E (ac E E (ag (ab (af (aa (ae E E (ae E E (aq E E ?_)))))))))))
  refine ah E E (ap (o:=1) KU E (by kernel_rfl) E) (aj E E (ai KQ E (kb1.cell (i:=1) E)) ?_)
  refine ae E E (al E (ae E E (al E (ak E E E (cR E a6) (ar E E E (ae E E (al E (ae E E (al E (ae E E ?_))))))))))
  refine al E (ak E E E (cR ((leN hn hmo).2 hle) vQ) (ar E E E (aq E E (ah E E (ap (o:=1) KU E (by kernel_rfl) E) ?_))))
  refine ax E E s2 ?_
  refine ag (ab (af (af (aa (ae E E (aq E E (ah E E (ap (o:=1) KU E (by kernel_rfl) E) ?_)))))))
  refine aj E E (ai KQ E (h2.blk.cell (i:=1) E)) (bo E E bu (ag (ab (cy E (aC (ab (af (aa (ae E E ?_)))))))))
  refine ac E E (ag (ab (aw (av E E ?_))))
  exact⟨_,rfl,m2,by simp[hle],by simpa [hle] using h2⟩
 ·refine aa (ae E E (aq E E (ah E E (ap (o:=0) KU E (by kernel_rfl) E) (aj E E (ai La E (kb.cell (i:=0) E)) ?_))))
  refine an gb E E (c) ?_
  rintro v12 w12 ⟨g12,rfl,rs⟩
  have m12:=(hm.rd.rdT).kp g12
  have kb1:=kb.other g12 (fun e=>by have:=Option.some.inj e;have:=hm.lt;omega)
  obtain⟨w2,s2,m2,h2,_⟩:=hm.flag g12 rs false
  refine ae E E (az E E (ce) (az E E (cf) (ac E E (ac E E (ag (ab (af (aa (ae E E (ae E E (aq E E ?_)))))))))))
  refine ah E E (ap (o:=1) KU E (by kernel_rfl) E) (aj E E (ai KQ E (kb1.cell (i:=1) E)) ?_)
  refine ae E E (am E E E (am E E E (aI E E E (ae E E (am E E E (am E E E (am E E E (aI E E E (aq E E ?_)))))))))
  refine ah E E (ap (o:=1) KU E (by kernel_rfl) E) ?_
  refine ax E E s2 ?_
  refine ag (ab (af (af (aa (ae E E (aq E E (ah E E (ap (o:=1) KU E (by kernel_rfl) E) ?_)))))))
  refine aj E E (ai KQ E (h2.blk.cell (i:=1) E)) (bo E E bu (ag (ab (bg E (af (aa (ac E E (ag ?_))))))))
  refine ab (aw (aD (av E E ?_)))
  exact⟨_,rfl,m2,rfl,h2⟩
 ·refine aa (ae E E (aq E E (ah E E (ap (o:=0) KU E (by kernel_rfl) E) (aj E E (ai La E (kb.cell (i:=0) E)) ?_))))
  refine an gb E E (c) ?_
  rintro v12 w12 ⟨g12,rfl,rs⟩
  have m12:=(hm.rd.rdT).kp g12
  have kb1:=kb.other g12 (fun e=>by have:=Option.some.inj e;have:=hm.lt;omega)
  obtain⟨w2,s2,m2,h2,_⟩:=hm.flag g12 rs false
  refine ae E E (az E E (ce) (az E E (cf) (ac E E (ac E E (ag (ab (af (aa (ae E E (ae E E (aq E E ?_)))))))))))
  refine ah E E (ap (o:=1) KU E (by kernel_rfl) E) (aj E E (ai KQ E (kb1.cell (i:=1) E)) ?_)
  refine ae E E (al E (ae E E (al E (ak E E E (dn (by decide) a6) (ar E E E (ae E E (am E E E (am E E E ?_))))))))
  refine am E E E (aI E E E (aq E E (ah E E (ap (o:=1) KU E (by kernel_rfl) E) ?_)))
  refine ax E E s2 ?_
  refine ag (ab (af (af (aa (ae E E (aq E E (ah E E (ap (o:=1) KU E (by kernel_rfl) E) ?_)))))))
  refine aj E E (ai KQ E (h2.blk.cell (i:=1) E)) (bo E E bu (ag (ab (bg E (af (aa (ac E E (ag ?_))))))))
  refine ab (aw (aD (av E E ?_)))
  exact⟨_,rfl,m2,rfl,h2⟩
theorem om (st:Option (List UInt8)) (ok:Bool) {most:Nat} (hmo:most<18446744073709551616):∃n s1 ok1,JR (pa most) st ok n s1 ok1∧n≤most∧(∀k,vE k st→vE k s1)∧∀{w:World} {h g:Nat},jj h g st ok w→
 Calls Tryz.prog 126 #[.pointer (some ⟨h,0,none⟩),bS (UInt64.ofNat most)] w (bH fun r w'=>Mv (lh h g) w w'∧r=bS (UInt64.ofNat n)∧jj h g s1 ok1 w'):=by
 obtain⟨n0,s1,q,hn,c⟩:=Jd st
 refine⟨_,s1,_,?_,?_,fun k hk=>q.atM uu.le hk,fun hm=>HU hm hn hmo (c hm.rd)⟩
 ·have q':st.bind gp=s1.map fun t=>(n0,t):=q
  have e:st.bind (pa most)=(st.bind gp).bind fun p=>if p.1≤most then some p else none:=by cases st<;>rfl
  cases s1 with
  |none=>exact⟨by rw[e,q'];cases ok<;>rfl,fun h=>by simp at h⟩
  |some l1=>
   by_cases hle:n0≤most
   ·refine⟨?_,fun h=>?_⟩
    ·rw[e,q'];simp[hle]
    ·rw[e,q',if_pos h];simp[hle]
   ·refine⟨?_,fun h=>?_⟩
    ·rw[e,q'];simp[hle]
    ·simp[hle] at h
 ·split
  ·rename_i h
   simp only[Bool.and_eq_true,decide_eq_true_eq] at h
   exact h.2
  ·exact Nat.zero_le _
theorem HV {w:World} {h g:Nat} {n:Int} {st s1:Option (List UInt8)} {ok:Bool} (hm:jj h g st ok w)
 (c:Calls Tryz.prog 158 #[.pointer (some ⟨g,0,none⟩)] w (bH fun r w'=>w.grownBy w' (some g)∧r=.tuple #[I n,I (if s1.isSome=true then 0 else 5)]∧cw g s1 w')):
 Calls Tryz.prog 127 #[.pointer (some ⟨h,0,none⟩)] w (bH fun r w'=>Mv (lh h g) w w'∧r=I n∧jj h g s1 (ok&&s1.isSome) w'):=by
 refine enter (vs:=[.pointer (some ⟨h,0,none⟩)]) Tryz.func127 E E E ?_
 have kb:=hm.blk
 refine af (aa (ac E E (ag (ab (af ?_)))))
 rcases ok with _|_
 rotate_left
 ·refine aa (ae E E (aq E E (ah E E (ap (o:=0) KU E (by kernel_rfl) E) (aj E E (ai La E (kb.cell (i:=0) E)) ?_))))
  refine an wI E E (c) ?_
  rintro v10 w10 ⟨g10,rfl,rs⟩
  have m10:=(hm.rd.rdT).kp g10
  have kb1:=kb.other g10 (fun e=>by have:=Option.some.inj e;have:=hm.lt;omega)
  obtain⟨w2,s2,m2,h2,_⟩:=hm.flag g10 rs s1.isSome
  refine ae E E (az E E (ce) (az E E (cf) (ac E E (ac E E (ag (ab (af (aa (ae E E (ae E E (aq E E ?_)))))))))))
  refine ah E E (ap (o:=1) KU E (by kernel_rfl) E) (aj E E (ai KQ E (kb1.cell (i:=1) E)) ?_)
  refine ae E E (al E (ae E E (al E (ak (r:=B s1.isSome) E E E (FY) (ar E E E (aq E E (ah E E (ap (o:=1) KU E (by kernel_rfl) E) ?_)))))))
  refine ax E E s2 ?_
  refine ag (ab (af (aa (ae E E (ac E E (ag (ab (aw (av E E ?_)))))))))
  exact⟨_,rfl,m2,rfl,by simpa using h2⟩
 ·refine aa (ae E E (aq E E (ah E E (ap (o:=0) KU E (by kernel_rfl) E) (aj E E (ai La E (kb.cell (i:=0) E)) ?_))))
  refine an wI E E (c) ?_
  rintro v10 w10 ⟨g10,rfl,rs⟩
  have m10:=(hm.rd.rdT).kp g10
  have kb1:=kb.other g10 (fun e=>by have:=Option.some.inj e;have:=hm.lt;omega)
  obtain⟨w2,s2,m2,h2,_⟩:=hm.flag g10 rs false
  refine ae E E (az E E (ce) (az E E (cf) (ac E E (ac E E (ag (ab (af (aa (ae E E (ae E E (aq E E ?_)))))))))))
  refine ah E E (ap (o:=1) KU E (by kernel_rfl) E) (aj E E (ai KQ E (kb1.cell (i:=1) E)) ?_)
  refine ae E E (am E E E (am E E E (aI E E E (aq E E (ah E E (ap (o:=1) KU E (by kernel_rfl) E) ?_)))))
  refine ax E E s2 ?_
  refine ag (ab (af (aa (ae E E (ac E E (ag (ab (aw (av E E ?_)))))))))
  exact⟨_,rfl,m2,rfl,h2⟩
theorem oo (st:Option (List UInt8)) (ok:Bool):∃n s1 ok1,JR o0 st ok n s1 ok1∧ko n∧(∀k,vE k st→vE k s1)∧∀{w:World} {h g:Nat},jj h g st ok w→
 Calls Tryz.prog 127 #[.pointer (some ⟨h,0,none⟩)] w (bH fun r w'=>Mv (lh h g) w w'∧r=I n∧jj h g s1 ok1 w'):=by
 obtain⟨n,s1,q,hn,c⟩:=Je st
 exact⟨n,s1,_,JR.of_rdE q,hn,fun k hk=>q.atM fT.le hk,fun hm=>HV hm (c hm.rd)⟩
theorem HW {w:World} {h g:Nat} {q:eW} {st s1:Option (List UInt8)} {ok:Bool} (hm:jj h g st ok w)
 (c:∀{w:World},cw g st w→Calls Tryz.prog 159 #[.pointer (some ⟨g,0,none⟩)] w (bH fun r w'=>w.grownBy w' (some g)∧Bu w.heap.size q (if s1.isSome=true then 0 else 5) r w'∧cw g s1 w')):
 Calls Tryz.prog 128 #[.pointer (some ⟨h,0,none⟩)] w (bH fun r w'=>Mv (lh h g) w w'∧rP w.heap.size q r w'∧jj h g s1 (ok&&s1.isSome) w'):=by
 refine enter (vs:=[.pointer (some ⟨h,0,none⟩)]) Tryz.func128 E E E ?_
 have hlt:=hm.blk.lt
 refine af ?_
 rcases ok with _|_
 rotate_left
 ·refine aa ?_
  obtain⟨g2,w2,hr2,l2,x2,k2⟩:=aZ (P:=Tryz.prog) (w:=w) (t:=46) (z:=.agg #[B false,.slice none 0 0,.slice none 0 0]) (l:=[B false,.slice none 0 0,.slice none 0 0]) (by kernel_rfl) rfl
  refine aX E hr2 ?_
  have hm2:=hm.ext x2
  refine ag (ab (af (aa (ae E E (aq E E (ah E E (ap (o:=0) KU E (by kernel_rfl) E) ?_))))))
  refine aj E E (ai La E (x2.cell_some (hm.blk.cell (i:=0) E))) (an wH E E ((c hm2.rd)) ?_)
  rintro v10 w10 ⟨g10,⟨x,y,rfl,rq⟩,rs⟩
  have m10:=(hm2.rd.rdT).kp g10
  have hm10:=hm2.step g10 rs
  obtain⟨x',y',eq',hx,hy⟩:=lF rq.rp
  cases eq'
  have k210:=k2.other g10 (fun e=>by have:=Option.some.inj e;have:=hm.lt;have:=k2.lt;omega)
  refine ae E E (az E E (ce) (az E E (cf) ?_))
  obtain⟨g3,w3,hr3,l3,x3,k3⟩:=aZ (P:=Tryz.prog) (w:=w10) (t:=46) (z:=.agg #[B false,.slice none 0 0,.slice none 0 0]) (l:=[B false,.slice none 0 0,.slice none 0 0]) (by kernel_rfl) rfl
  refine aX E hr3 ?_
  obtain⟨w1_9,s1_9,q1_9,k1_9⟩:=k3.stS (P:=Tryz.prog) (t:=46) (m:=[B q.1,x,y]) rfl (by kernel_rfl) (ao.cons rfl (ao.cons hx.one (ao.cons hy.one ao.nil)))
  refine ax E E s1_9 ?_
  have x1_9:=aJ.of_new (x3) q1_9 l3
  refine ac E E (ag (ab (af ?_)))
  have hm3:=hm10.ext x1_9
  obtain⟨w4,s4,m4,h4⟩:=hm3.set s1.isSome
  have hn3:g3≠h:=by have:=g10.size;have:=x2.size;omega
  have hn2:g2≠h:=by omega
  have k34:=m4.blk k1_9 (fun e=>hn3 e)
  have k24:=m4.blk (k210.ext x1_9) (fun e=>hn2 e)
  have o3:ao [B q.1,x,y]:=ao.cons rfl (ao.cons hx.one (ao.cons hy.one ao.nil))
  obtain⟨w5,s5,q5,k5⟩:=k24.stS (P:=Tryz.prog) (t:=46) (m:=[B q.1,x,y]) rfl (by kernel_rfl) o3
  have m5:Mv (fun k=>k=g2) w4 w5:=Mv.of_grown q5 fun k hk _=>(Option.some.inj hk).symm
  refine aa (ae E E (ae E E (aq E E (ah E E (ap (o:=1) KU E (by kernel_rfl) E) ?_))))
  refine aj E E (ai KQ E (hm3.blk.cell (i:=1) E)) (ae E E (al E (ae E E (al E (ak (r:=B s1.isSome) E E E (FY) ?_)))))
  refine ar E E E (aq E E (ah E E (ap (o:=1) KU E (by kernel_rfl) E) ?_))
  refine ax E E s4 ?_
  refine ag (ab (af ?_))
  have mA:Mv (lh h g) w w1_9:=((Mv.of_ext x2).trans (Mv.of_grown g10 fun k hk _=>.inr (Option.some.inj hk).symm) fun _ hk _=>hk).trans (Mv.of_ext x1_9) fun _ hk _=>hk
  have mB:Mv (lh h g) w w5:=(mA.trans (m4.weak fun k hk _=>(.inl hk:lh h g k)) fun _ hk _=>hk).trans m5 fun k hk hlt=>by omega
  have sz2:=x2.size
  have szA:=mA.size
  have rA:=(rq.mv (Mv.of_ext x1_9) fun _ hk=>.inl hk).mv (m4.weak fun k hk _=>by show k<w2.heap.size;omega) fun _ hk=>.inl hk
  have g2lt:=k2.lt
  have rB:=(rA.mv (Y:=fun k=>k<w2.heap.size) (m5.weak fun k hk _=>by show k<w2.heap.size;omega) fun _ hk=>.inl hk).weak (Y:=fun k=>k<w.heap.size) fun k hk=>.inl (by show k<w2.heap.size;omega)
  refine aa ?_
  refine aj E E (k34.ld KJ E (by kernel_rfl)) ?_
  refine ax E E s5 ?_
  refine ag (ab (aw ?_))
  refine cZ E E k5 KJ E (by kernel_rfl) ?_
  exact⟨_,rfl,mB,⟨x,y,rfl,rB⟩,h4.mv m5 fun k hk=>by omega⟩
 ·refine aa ?_
  obtain⟨g2,w2,hr2,l2,x2,k2⟩:=aZ (P:=Tryz.prog) (w:=w) (t:=46) (z:=.agg #[B false,.slice none 0 0,.slice none 0 0]) (l:=[B false,.slice none 0 0,.slice none 0 0]) (by kernel_rfl) rfl
  refine aX E hr2 ?_
  have hm2:=hm.ext x2
  refine ag (ab (af (aa (ae E E (aq E E (ah E E (ap (o:=0) KU E (by kernel_rfl) E) ?_))))))
  refine aj E E (ai La E (x2.cell_some (hm.blk.cell (i:=0) E))) (an wH E E ((c hm2.rd)) ?_)
  rintro v10 w10 ⟨g10,⟨x,y,rfl,rq⟩,rs⟩
  have m10:=(hm2.rd.rdT).kp g10
  have hm10:=hm2.step g10 rs
  obtain⟨x',y',eq',hx,hy⟩:=lF rq.rp
  cases eq'
  have k210:=k2.other g10 (fun e=>by have:=Option.some.inj e;have:=hm.lt;have:=k2.lt;omega)
  refine ae E E (az E E (ce) (az E E (cf) ?_))
  obtain⟨g3,w3,hr3,l3,x3,k3⟩:=aZ (P:=Tryz.prog) (w:=w10) (t:=46) (z:=.agg #[B false,.slice none 0 0,.slice none 0 0]) (l:=[B false,.slice none 0 0,.slice none 0 0]) (by kernel_rfl) rfl
  refine aX E hr3 ?_
  obtain⟨w1_9,s1_9,q1_9,k1_9⟩:=k3.stS (P:=Tryz.prog) (t:=46) (m:=[B q.1,x,y]) rfl (by kernel_rfl) (ao.cons rfl (ao.cons hx.one (ao.cons hy.one ao.nil)))
  refine ax E E s1_9 ?_
  have x1_9:=aJ.of_new (x3) q1_9 l3
  refine ac E E (ag (ab (af ?_)))
  have hm3:=hm10.ext x1_9
  obtain⟨w4,s4,m4,h4⟩:=hm3.set false
  have hn3:g3≠h:=by have:=g10.size;have:=x2.size;omega
  have hn2:g2≠h:=by omega
  have k34:=m4.blk k1_9 (fun e=>hn3 e)
  have k24:=m4.blk (k210.ext x1_9) (fun e=>hn2 e)
  have o3:ao [B q.1,x,y]:=ao.cons rfl (ao.cons hx.one (ao.cons hy.one ao.nil))
  obtain⟨w5,s5,q5,k5⟩:=k24.stS (P:=Tryz.prog) (t:=46) (m:=[B q.1,x,y]) rfl (by kernel_rfl) o3
  have m5:Mv (fun k=>k=g2) w4 w5:=Mv.of_grown q5 fun k hk _=>(Option.some.inj hk).symm
  refine aa (ae E E (ae E E (aq E E (ah E E (ap (o:=1) KU E (by kernel_rfl) E) ?_))))
  refine aj E E (ai KQ E (hm3.blk.cell (i:=1) E)) (ae E E (am E E E (am E E E (aI E E E (aq E E ?_)))))
  refine ah E E (ap (o:=1) KU E (by kernel_rfl) E) ?_
  refine ax E E s4 ?_
  refine ag (ab (af ?_))
  have mA:Mv (lh h g) w w1_9:=((Mv.of_ext x2).trans (Mv.of_grown g10 fun k hk _=>.inr (Option.some.inj hk).symm) fun _ hk _=>hk).trans (Mv.of_ext x1_9) fun _ hk _=>hk
  have mB:Mv (lh h g) w w5:=(mA.trans (m4.weak fun k hk _=>(.inl hk:lh h g k)) fun _ hk _=>hk).trans m5 fun k hk hlt=>by omega
  have sz2:=x2.size
  have szA:=mA.size
  have rA:=(rq.mv (Mv.of_ext x1_9) fun _ hk=>.inl hk).mv (m4.weak fun k hk _=>by show k<w2.heap.size;omega) fun _ hk=>.inl hk
  have g2lt:=k2.lt
  have rB:=(rA.mv (Y:=fun k=>k<w2.heap.size) (m5.weak fun k hk _=>by show k<w2.heap.size;omega) fun _ hk=>.inl hk).weak (Y:=fun k=>k<w.heap.size) fun k hk=>.inl (by show k<w2.heap.size;omega)
  refine aa ?_
  refine aj E E (k34.ld KJ E (by kernel_rfl)) ?_
  refine ax E E s5 ?_
  refine ag (ab (aw ?_))
  refine cZ E E k5 KJ E (by kernel_rfl) ?_
  exact⟨_,rfl,mB,⟨x,y,rfl,rB⟩,h4.mv m5 fun k hk=>by omega⟩
theorem za (st:Option (List UInt8)) (ok:Bool) (hl:CI st):∃q s1 ok1,JR ny st ok q s1 ok1∧(∀k,vE k st→vE k s1)∧∀{w:World} {h g:Nat},jj h g st ok w→
 Calls Tryz.prog 128 #[.pointer (some ⟨h,0,none⟩)] w (bH fun r w'=>Mv (lh h g) w w'∧rP w.heap.size q r w'∧jj h g s1 ok1 w'):=by
 obtain⟨q,s1,hq,c⟩:=Jf st
 exact⟨q,s1,_,JR.of_rdE hq,fun k hk=>hq.atM uw.le hk,fun hm=>HW hm (c hl)⟩
end Go.Rl
namespace Go.Rl
open Go.RowKit Go.Proofs
theorem oN:aH Tryz.prog 129:=⟨_,Tryz.func129,by kernel_rfl,rfl⟩
structure FL {α:Type} (f:List UInt8→Option (α×List UInt8)) (ok:Bool) (X:Option (List α×List UInt8)) (so:Option (List UInt8)) (oko:Bool) (k:Nat) (ps:List α):Prop where
 t:oko=true→ok=true∧so.isSome=true∧X=so.bind fun l=>(cH f k l).map fun p=>(ps++p.1,p.2)
 f:oko=false→(ok&&X.isSome)=false
section
variable {α:Type} {f:List UInt8→Option (α×List UInt8)} {ok oko okE:Bool} {X:Option (List α×List UInt8)} {st so s0 sE:Option (List UInt8)} {k N most:Nat} {ps:List α} {m:α}
theorem FL.start (hU:JR (pa most) st ok N s0 oko):FL f ok (st.bind (nB most f)) s0 oko N []:=by
 have e:st.bind (nB most f)=(st.bind (pa most)).bind fun p=>cH f p.1 p.2:=by cases st<;>rfl
 refine⟨fun h=>?_,fun h=>?_⟩
 ·obtain⟨h1,h2⟩:=hU.ok_le h
  refine⟨h1,h2,?_⟩
  rw[e,hU.val h]
  cases s0 with
  |none=>rfl
  |some l=>show cH f N l=(cH f N l).map fun p=>([]++p.1,p.2);cases cH f N l<;>rfl
 ·have hi:=hU.iff
  rw[h] at hi
  rw[e]
  cases ok with
  |false=>rfl
  |true=>
   simp only[Bool.true_and] at hi⊢
   have:st.bind (pa most)=none:=Option.not_isSome_iff_eq_none.1 (by rw[←hi];simp)
   rw[this];rfl
theorem FL.step (h:FL f ok X so true (k+1) ps) (q:JR f so true m sE okE):FL f ok X sE okE k (ps++[m]):=by
 obtain⟨h1,h2,h3⟩:=h.t rfl
 refine⟨fun e=>⟨h1,(q.ok_le e).2,D0 h3 (q.val e)⟩,fun e=>?_⟩
 have hi:=q.iff
 rw[e] at hi
 simp only[Bool.true_and] at hi
 have hn:so.bind f=none:=Option.not_isSome_iff_eq_none.1 (by rw[←hi];simp)
 have hX:X=none:=by
  rw[h3]
  cases so with
  |none=>rfl
  |some l=>
   have hl:f l=none:=hn
   show(cH f (k+1) l).map _=none
   have:cH f (k+1) l=none:=by simp only[cH,hl,Option.bind_none]
   rw[this];rfl
 rw[hX];cases ok<;>rfl
theorem FL.jr {g:List UInt8→Option (List α×List UInt8)} (h:FL f ok (st.bind g) so oko k ps) (hk:oko=true→k=0):JR g st ok ps so oko:=by
 cases oko with
 |false=>exact⟨(h.f rfl).symm,fun e=>by cases e⟩
 |true=>
  obtain⟨h1,h2,h3⟩:=h.t rfl
  obtain rfl:=hk rfl
  cases so with
  |none=>cases h2
  |some l=>
   have e:st.bind g=some (ps,l):=by rw[h3];simp[cH]
   exact⟨by rw[e,h1];rfl,fun _=>e⟩
end
theorem HX {so sA sB sC sD sE:Option (List UInt8)} {ok okA mr okC okD okE:Bool} {n1 n2 n3 n4:Int} {q:eW} (q1:JR o0 so ok n1 sA okA) (q2:JR o0 sA okA n2 sB mr) (q3:JR o0 sB mr n3 sC okC) (q4:JR o0 sC okC n4 sD okD) (q5:JR ny sD okD q sE okE):JR uB so ok ⟨n1,n2,n3,n4,q⟩ sE okE:=
 JR.bind (g:=fun a l=>(o0 l).bind fun b=>(o0 b.2).bind fun c=>(o0 c.2).bind fun d=>(ny d.2).bind fun e=>some ((⟨a,b.1,c.1,d.1,e.1⟩:ci),e.2)) q1
  (JR.bind (g:=fun b l=>(o0 l).bind fun c=>(o0 c.2).bind fun d=>(ny d.2).bind fun e=>some ((⟨n1,b,c.1,d.1,e.1⟩:ci),e.2)) q2
    (JR.bind (g:=fun c l=>(o0 l).bind fun d=>(ny d.2).bind fun e=>some ((⟨n1,n2,c,d.1,e.1⟩:ci),e.2)) q3
      (JR.bind (g:=fun d l=>(ny l).bind fun e=>some ((⟨n1,n2,n3,d,e.1⟩:ci),e.2)) q4 (q5.map fun e=>(⟨n1,n2,n3,n4,e⟩:ci)))))
theorem rP.stableX {b:Nat} {q:eW} {X:Nat→Prop} (hX:∀k,X k→k<b):ck (Mv X) (rP b q):=fun _ _ _ ⟨x,y,h,h2⟩ hm=>⟨x,y,h,h2.mv (hm.weak fun j hj _=>hX j hj) fun _ hk=>.inl hk⟩
theorem rP.up {b c:Nat} {q:eW} {v:Value} {w:World} (hc:b≤c) (h:rP c q v w):rP b q v w:=by
 obtain⟨x,y,h1,h2⟩:=h
 exact⟨x,y,h1,h2.weak fun j hj=>.inl (by show j<c;omega)⟩
theorem nT.stableX {α:Type} {b sz:Nat} {f:α→Dt} {l:List α} {X:Nat→Prop} (hX:∀k,X k→k<b):ck (Mv X) (nT b sz f l):=fun _ _ _ ⟨cs,h1,h2,h3,h4⟩ hm=>
 ⟨cs,h1.mv hm fun k hk hx=>by have:=h2 k hk;have:=hX k hx;omega,h2,h3,aO.mv (hm.weak fun j hj _=>hX j hj) (fun _ hk=>.inl hk) h4⟩
theorem jj.stableZ {h g:Nat} {st:Option (List UInt8)} {ok:Bool}:dE (jj h g st ok):=fun _ _ hm hx=>hm.ext hx
theorem gI {k:Nat} (hk:k<18446744073709551616):(0:UInt64)<UInt64.ofNat k↔0<k:=by
 rw[UInt64.lt_iff_toNat_lt,UInt64.toNat_ofNat',show(0:UInt64).toNat=0 from rfl]
 omega
theorem tF {k:Nat} (hk:k+1<18446744073709551616):UInt64.ofNat (k+1)-1=UInt64.ofNat k:=by
 have hkn:(UInt64.ofNat (k+1)).toNat=k+1:=by rw[UInt64.toNat_ofNat'];omega
 refine UInt64.toNat_inj.1 ?_
 rw[UInt64.toNat_sub_of_le _ _ (UInt64.le_iff_toNat_le.2 (by rw[hkn];show 1≤_;omega)),hkn,UInt64.toNat_ofNat',show(1:UInt64).toNat=1 from rfl]
 omega
theorem oP {w:World} {h g:Nat} {st:Option (List UInt8)} {ok:Bool} (hm:jj h g st ok w) (hl:CI st):
 Calls Tryz.prog 129 #[.pointer (some ⟨h,0,none⟩)] w (bH fun r w'=>Mv (lh h g) w w'∧∃ps s1 ok1,cv (fun k=>k<w.heap.size) w' (gN ps) [r]∧r.oneCell'=true∧jj h g s1 ok1 w'∧JR gP st ok ps s1 ok1∧∀k,vE k st→vE k s1):=by
 refine enter (vs:=[.pointer (some ⟨h,0,none⟩)]) Tryz.func129 E E E ?_
 have hlt:=hm.blk.lt
 have hgh:=hm.lt
 have hX:∀k,lh h g k→k<w.heap.size:=fun k hk=>by rcases hk with rfl|rfl<;>omega
 obtain⟨N,s0,ok0,qU,hN,aU,cU⟩:=om st ok (most:=1048576) (by omega)
 refine af (aa (ac E E (ag (ab (af (aa (ac E E (ag (ab (af (af (aa (ae E E (an kr E E ((cU hm)) ?_))))))))))))))
 rintro v7 w7 ⟨m7,rfl,hm7⟩
 have m7:=m7
 refine ac E E (ag (ab (aE ?_)))
 refine tt (fun(k:Nat) (v:Value) (so:Option (List UInt8)) (oko:Bool) (ps:List ci)=>[(0,.pointer (some ⟨h,0,none⟩)),(3,v),(4,bS (UInt64.ofNat k))]) (fun(k:Nat) (v:Value) (so:Option (List UInt8)) (oko:Bool) (ps:List ci) w'=>Mv (lh h g) w w'∧jj h g so oko w'∧iF 187 7 w.heap.size bI ps v w'∧FL uB ok (st.bind gP) so oko k ps∧k+ps.length≤1048576∧∀j,vE j st→vE j so) (fun(k:Nat) (v:Value) (so:Option (List UInt8)) (oko:Bool) (ps:List ci)=>k) (N) (.slice none 0 0) (s0) (ok0) ([]) ⟨rfl,rfl,rfl,trivial⟩ ⟨m7,hm7,iF.nil _,FL.start qU,by simpa using hN,aU⟩ ?_
 rintro k v so oko ps wL ⟨mL,hmL,oL,hF,hk,aL⟩
 refine af (af ?_)
 have szL:=mL.size
 have hvo:v.oneCell'=true:=by obtain⟨_,_,_,rfl⟩:=oL.isS;rfl
 rcases Nat.eq_zero_or_pos k with h0|h0
 rotate_left
 rcases oko with _|_
 rotate_left
 ·refine aa (ae E E (ak (v:=bS 0) E E E (cR ((gI (by omega)).2 h0) cS) (ae E E (al E (ae E E (al E (aq E E ?_)))))))
  refine al E (ah E E (ap (o:=1) KU E (by kernel_rfl) E) (al E (aj E E (ai KQ E (hmL.blk.cell (i:=1) E)) ?_)))
  refine ar E E E (ag (ab (bg E (aC (ab (af (aE (af ?_))))))))
  obtain⟨k',rfl⟩:∃k',k=k'+1:=⟨k-1,by omega⟩
  obtain⟨n1,sA,okA,q1,i1,a1,c1⟩:=oo so true
  obtain⟨n2,sB,mr,q2,i2,a2,c2⟩:=oo sA okA
  obtain⟨n3,sC,okC,q3,i3,a3,c3⟩:=oo sB mr
  obtain⟨n4,sD,okD,q4,i4,a4,c4⟩:=oo sC okC
  obtain⟨q,sE,okE,q5,a5,c5⟩:=za sD okD (a4 _ (a3 _ (a2 _ (a1 _ (aL _ hl)))))
  have qM:=HX q1 q2 q3 q4 q5
  refine aa (ae E E (an kt E E ((c1 hmL)) ?_))
  rintro v19 w19 ⟨m19,rfl,hm19⟩
  have m19:=m19
  refine ae E E (an kt E E ((c2 hm19)) ?_)
  rintro v21 w21 ⟨m21,rfl,hm21⟩
  have m21:=m21
  refine ae E E (an kt E E ((c3 hm21)) ?_)
  rintro v23 w23 ⟨m23,rfl,hm23⟩
  have m23:=m23
  refine ae E E (an kt E E ((c4 hm23)) ?_)
  rintro v25 w25 ⟨m25,rfl,hm25⟩
  have m25:=m25
  have m4:Mv (lh h g) wL w25:=((m19.trans m21 fun _ h _=>h).trans m23 fun _ h _=>h).trans m25 fun _ h _=>h
  refine bj (vs:=[(0,I n1),(1,I n2),(2,I n3),(3,I n4)]) (r:=.agg #[I n1,I n2,I n3,I n4]) E E (run_build _ _ _ _ (by kernel_rfl)) ?_
  obtain⟨g5,w5,hr5,l5,x5,k5⟩:=aZ (P:=Tryz.prog) (w:=w25) (t:=185) (z:=.agg #[I 0,I 0,I 0,I 0]) (l:=[I 0,I 0,I 0,I 0]) (by kernel_rfl) rfl
  refine aX E hr5 ?_
  obtain⟨wd,sd,qd,kd⟩:=k5.stS (P:=Tryz.prog) (t:=185) (m:=[I n1,I n2,I n3,I n4]) rfl (by kernel_rfl) (ao.cons rfl (ao.cons rfl (ao.cons rfl (ao.cons rfl ao.nil))))
  refine ax E E sd ?_
  have xd:=aJ.of_new x5 qd l5
  refine ag (ab ?_)
  have hmd:=hm25.ext xd
  have mLd:Mv (lh h g) wL wd:=m4.trans (Mv.of_ext xd) fun _ h _=>h
  have szd:=mLd.size
  have hXd:∀k,lh h g k→k<wd.heap.size:=fun k hk=>by have:=hX k hk;omega
  have nX5:¬lh h g g5:=fun hh=>by have:=m4.size;have:=hX g5 hh;omega
  refine qm 6 [0,4,27,32] (Mv (lh h g) wd) (Mv (lh h g)) true IM (jj h g sD okD) (jq.mv _ _) (Mv.refl _ _) jj.stableZ hmd (fun _ _ _ _ h=>h.elim) (fun _=>by kernel_rfl) (by kernel_rfl) (by kernel_rfl) ?_
  refine ay rfl rfl (aN rfl rfl (fun w hw=>(hw.blk kd nX5).ld Lb rfl (by kernel_rfl)) (ay rfl rfl (tk (S:=rP wd.heap.size q) (Z':=jj h g sE okE) tE rfl (rP.stableX hXd) (jj.stableZ) rfl (fun w hw hz=>by rintro _ rfl;exact(c5 hz).mono fun _ _ ⟨r,he,h1,h2,h3⟩=>.inl ⟨r,he,h1,h2.up hw.size,h3⟩) ?_)))
  refine tj (S:=fun v w'=>∃x y,v=.agg #[I n1,I n2,I n3,I n4,B q.1,x,y]∧cv (fun k=>k<wd.heap.size) w' (iB q) [B q.1,x,y]) (fun _ _ _ ⟨x,y,h,h2⟩ hm=>⟨x,y,h,h2.mv (hm.weak fun j hj _=>hXd j hj) fun _ hk=>.inl hk⟩) E (fun w' hw=>by
 rintro _ rfl _ ⟨x,y,rfl,h⟩
 exact⟨_,w',run_build _ _ _ _ (by kernel_rfl),aJ.refl _,x,y,rfl,h⟩) ?_
  refine f8 (S:=nT wd.heap.size 7 bI [⟨n1,n2,n3,n4,q⟩]) (nT.stableX hXd) E (fun w' hw=>by
 rintro _ ⟨x,y,rfl,h⟩
 exact F0 (cs:=[I n1,I n2,I n3,I n4,B q.1,x,y]) KS wX rfl (by omega) (by omega) hw.size (ao.cons rfl (ao.cons rfl (ao.cons rfl (ao.cons rfl (ao.cons rfl (ao.cons (jG h).1 (ao.cons (jG h).2 ao.nil))))))) (D3 (m:=⟨n1,n2,n3,n4,q⟩) h) (dB _)) ?_
  refine cb ?_
  intro wg6 xg6 zg6
  rintro _ rfl
  rintro _ rfl
  rintro _ hq27
  obtain rfl:=Eq.symm hq27
  intro vg32 b32
  obtain⟨cs,hcs,hown,h1cs,hall⟩:=b32
  have mAll:Mv (lh h g) wL wg6:=mLd.trans xg6 fun _ hj _=>hj
  have oG:=oL.mv mAll hX
  have own:∀j,v.ownBlock=some j→w.heap.size≤j∧j<wL.heap.size:=oL.lt
  have hM:=(aO.one hall).weak (Y:=fun k=>k<w.heap.size∨v.ownBlock=some k) fun j hj=>.inl (by
   rcases hj with hj|hj
   ·show j<wd.heap.size;omega
   ·have:=(own j hj).2;show j<wd.heap.size;omega)
  obtain⟨v33,w33,hr33,o33,g33⟩:=oG.app (t:=50) (ty:=50) KS wX rfl (by omega) (by omega) hcs h1cs hM dB (by omega) (Nat.le_trans szL mAll.size)
  have m33:Mv (fun k=>v.ownBlock=some k) wg6 w33:=Mv.of_grown g33.grown fun k hk _=>hk
  have h33:jj h g sE okE w33:=zg6.mv m33 fun j hj=>by have:=own j hj;omega
  refine aW E E hr33 ?_
  refine ac E E (ag (aR (ab (aa (ae E E (ak (v:=bS 1) (r:=bS (UInt64.ofNat k')) E E E ((by rw[←tF (k:=k') (by omega)];exact dQ)) ?_))))))
  refine ac E E (ag ?_)
  refine qt (k') (v33) (sE) (okE) (ps++[⟨n1,n2,n3,n4,q⟩]) ⟨rfl,rfl,rfl,trivial⟩ ⟨(mL.trans mAll fun _ hj _=>hj).trans m33 fun j hj hlt=>by have:=(own j hj).1;omega,h33,o33,hF.step qM,by simp;omega,fun j hj=>a5 _ (a4 _ (a3 _ (a2 _ (a1 _ (aL _ hj)))))⟩ (by omega)
 ·refine aa (ae E E (ak (v:=bS 0) E E E (dn (mt (gI (by omega)).1 (by omega)) cS) (ae E E (am E E E (am E E E ?_)))))
  refine am E E E (am E E E (aI E E E (ag (ab (cy E (be (aK (aK (bf (ab (af (aa (ae E E (ac E E (ag (ab ?_))))))))))))))))
  refine aw (av E E ?_)
  exact⟨_,rfl,mL,ps,so,oko,oL.rpx dB (by omega),hvo,hmL,hF.jr (fun _=>h0),aL⟩
 ·refine aa (ae E E (ak (v:=bS 0) E E E (cR ((gI (by omega)).2 h0) cS) (ae E E (al E (ae E E (al E (aq E E ?_)))))))
  refine al E (ah E E (ap (o:=1) KU E (by kernel_rfl) E) (al E (aj E E (ai KQ E (hmL.blk.cell (i:=1) E)) ?_)))
  refine ar E E E (ag (ab (cy E (be (aK (aK (bf (ab (af (aa (ae E E (ac E E (ag (ab (aw (av E E ?_))))))))))))))))
  exact⟨_,rfl,mL,ps,so,false,oL.rpx dB (by omega),hvo,hmL,hF.jr (fun h=>by cases h),aL⟩
end Go.Rl
namespace Go.Rl
open Go.RowKit Go.Proofs
theorem HY:aH Tryz.prog 91:=⟨_,Tryz.func91,by kernel_rfl,rfl⟩
theorem JD {so sA sB sC:Option (List UInt8)} {ok okA mr okC:Bool} {n1 n2:Int} {q:eW} (q1:JR o0 so ok n1 sA okA) (q2:JR o0 sA okA n2 sB mr) (q3:JR ny sB mr q sC okC):JR wW so ok ⟨n1,n2,q⟩ sC okC:=
 JR.bind (g:=fun a l=>(o0 l).bind fun b=>(ny b.2).bind fun c=>some ((⟨a,b.1,c.1⟩:bz),c.2)) q1
  (JR.bind (g:=fun b l=>(ny l).bind fun c=>some ((⟨n1,b,c.1⟩:bz),c.2)) q2 (q3.map fun c=>(⟨n1,n2,c⟩:bz)))
theorem GK {so sA sB sC sD:Option (List UInt8)} {ok okA mr okC okD:Bool} {n:Int} {nb:Nat} {q:eW} {ps:List ci} (q1:JR o0 so ok n sA okA) (q2:JR (pa 1) sA okA nb sB mr) (q3:JR ny sB mr q sC okC) (q4:JR gP sC okC ps sD okD):JR CW so ok ⟨n,cc nb,q,ps⟩ sD okD:=
 JR.bind (g:=fun a l=>(pa 1 l).bind fun b=>(ny b.2).bind fun c=>(gP c.2).bind fun d=>some ((⟨a,cc b.1,c.1,d.1⟩:er),d.2)) q1
  (JR.bind (g:=fun b l=>(ny l).bind fun c=>(gP c.2).bind fun d=>some ((⟨n,cc b,c.1,d.1⟩:er),d.2)) q2
    (JR.bind (g:=fun c l=>(gP l).bind fun d=>some ((⟨n,cc nb,c,d.1⟩:er),d.2)) q3 (q4.map fun d=>(⟨n,cc nb,q,d⟩:er))))
theorem zb {so sA sB sC sD:Option (List UInt8)} {ok okA mr okC okD:Bool} {ds:List bz} {nb:Nat} {ls:List er} {ps:List ci} (q1:JR (nB 2048 wW) so ok ds sA okA) (q2:JR (pa 1) sA okA nb sB mr) (q3:JR (nB 1073741824 CW) sB mr ls sC okC) (q4:JR gP sC okC ps sD okD):JR EJ so ok ⟨ds,.mk ls kI [] (cc nb) ps⟩ sD okD:=
 JR.bind (g:=fun a l=>(pa 1 l).bind fun b=>(nB 1073741824 CW b.2).bind fun c=>(gP c.2).bind fun d=>some ((⟨a,.mk c.1 kI [] (cc b.1) d.1⟩:cn),d.2)) q1
  (JR.bind (g:=fun b l=>(nB 1073741824 CW l).bind fun c=>(gP c.2).bind fun d=>some ((⟨ds,.mk c.1 kI [] (cc b) d.1⟩:cn),d.2)) q2
    (JR.bind (g:=fun c l=>(gP l).bind fun d=>some ((⟨ds,.mk c kI [] (cc nb) d.1⟩:cn),d.2)) q3 (q4.map fun d=>(⟨ds,.mk ls kI [] (cc nb) d⟩:cn))))
theorem tG {P:Program} {w:World} {t:TypeId} {x y:Operand} {n:Nat} (hn:n≤1):(bin .eql t x y (bS (UInt64.ofNat n)) (bS 1)).run P w=.ok (B (cc n)) w:=by
 rcases(by omega:n=0∨n=1) with rfl|rfl<;>exact lw
def zc (h g g3:Nat):Nat→Prop:=fun k=>lh h g k∨k=g3
theorem HZ {w:World} {h g:Nat} {st:Option (List UInt8)} {ok:Bool} (hm:jj h g st ok w) (hl:CI st):
 Calls Tryz.prog 91 #[.pointer (some ⟨h,0,none⟩)] w (bH fun r w'=>Mv (lh h g) w w'∧∃u cs s1 ok1,r=.agg cs.toArray∧cv (fun k=>k<w.heap.size) w' (mW u) cs∧ao cs∧jj h g s1 ok1 w'∧JR EJ st ok u s1 ok1):=by
 refine enter (vs:=[.pointer (some ⟨h,0,none⟩)]) Tryz.func91 E E E ?_
 have hlt:=hm.blk.lt
 have hgh:=hm.lt
 have hX:∀k,lh h g k→k<w.heap.size:=fun k hk=>by rcases hk with rfl|rfl<;>omega
 obtain⟨N,s0,ok0,qU,hN,aU,cU⟩:=om st ok (most:=2048) (by omega)
 refine af (aa ?_)
 obtain⟨g2,w2,hr2,l2,x2,k2⟩:=aZ (P:=Tryz.prog) (w:=w) (t:=54) (z:=.agg #[.slice none 0 0,.slice none 0 0,I 0,I 0,B false,.slice none 0 0,.slice none 0 0,.slice none 0 0,B false,.slice none 0 0]) (l:=[.slice none 0 0,.slice none 0 0,I 0,I 0,B false,.slice none 0 0,.slice none 0 0,.slice none 0 0,B false,.slice none 0 0]) (by kernel_rfl) rfl
 refine aX E hr2 (ag (ab (af (aa ?_))))
 obtain⟨g3,w3,hr3,l3,x3,k3⟩:=aZ (P:=Tryz.prog) (w:=w2) (t:=54) (z:=.agg #[.slice none 0 0,.slice none 0 0,I 0,I 0,B false,.slice none 0 0,.slice none 0 0,.slice none 0 0,B false,.slice none 0 0]) (l:=[.slice none 0 0,.slice none 0 0,I 0,I 0,B false,.slice none 0 0,.slice none 0 0,.slice none 0 0,B false,.slice none 0 0]) (by kernel_rfl) rfl
 refine aX E hr3 ?_
 have e3:=(x2.trans x3)
 have hm3:=hm.ext e3
 have k23:=k2.ext x3
 have g23:g2<g3:=by have:=k2.lt;omega
 have g3lt:=k3.lt
 have sz3:=e3.size
 have hX3:∀k,lh h g k→k<g3:=fun k hk=>by have:=hX k hk;have:=x2.size;omega
 refine ag (ab (af (af (aa (ae E E (an kr E E ((cU hm3)) ?_))))))
 rintro v8 w8 ⟨m8,rfl,hm8⟩
 have m8:=m8
 refine ac E E (ag (ab (aE ?_)))
 refine tt (fun(k:Nat) (vd:Value) (so:Option (List UInt8)) (oko:Bool) (ds:List bz)=>[(0,.pointer (some ⟨h,0,none⟩)),(2,.pointer (some ⟨g2,0,none⟩)),(3,.pointer (some ⟨g3,0,none⟩)),(4,bS (UInt64.ofNat k))]) (fun(k:Nat) (vd:Value) (so:Option (List UInt8)) (oko:Bool) (ds:List bz) w'=>Mv (zc h g g3) w3 w'∧jj h g so oko w'∧bA g3 54 (vd::Kx) w'∧iF 48 5 w3.heap.size cQ ds vd w'∧FL wW ok (st.bind (nB 2048 wW)) so oko k ds∧k+ds.length≤2048∧∀j,vE j st→vE j so) (fun(k:Nat) (vd:Value) (so:Option (List UInt8)) (oko:Bool) (ds:List bz)=>k) (N) (.slice none 0 0) (s0) (ok0) ([]) ⟨rfl,rfl,rfl,rfl,trivial⟩ ⟨m8.weak fun _ hk _=>.inl hk,hm8,m8.blk k3 (fun hk=>by have:=hX3 _ hk;omega),iF.nil _,FL.start qU,by simpa using hN,aU⟩ ?_
 rintro k vd so oko ds wL ⟨mL,hmL,kL,oL,hF,hk,aL⟩
 refine af (af ?_)
 have szL:=mL.size
 have hvd:vd.oneCell'=true:=by obtain⟨_,_,_,rfl⟩:=oL.isS;rfl
 have k2L:=mL.blk k23 (fun hk=>hk.elim (fun hk=>by rcases hk with rfl|rfl<;>omega) (fun hk=>by omega))
 rcases Nat.eq_zero_or_pos k with h0|h0
 rotate_left
 rcases oko with _|_
 rotate_left
 ·refine aa (ae E E (ak (v:=bS 0) E E E (cR ((gI (by omega)).2 h0) cS) (ae E E (al E (ae E E (al E (aq E E ?_)))))))
  refine al E (ah E E (ap (o:=1) KU E (by kernel_rfl) E) (al E (aj E E (ai KQ E (hmL.blk.cell (i:=1) E)) ?_)))
  refine ar E E E (ag (ab (bg E (aC (ab (af (aE ?_)))))))
  obtain⟨k',rfl⟩:∃k',k=k'+1:=⟨k-1,by omega⟩
  obtain⟨n1,sA,okA,q1,i1,a1,c1⟩:=oo so true
  obtain⟨n2,sB,mr,q2,i2,a2,c2⟩:=oo sA okA
  obtain⟨q,sC,okC,q3,a3,c3⟩:=za sB mr (a2 _ (a1 _ (aL _ hl)))
  have qM:=JD q1 q2 q3
  have hXL:∀k,lh h g k→k<wL.heap.size:=fun k hk=>by have:=hX k hk;omega
  refine qm 10 [0,2,3,4,20,28] (Mv (lh h g) wL) (Mv (lh h g)) true IM (jj h g so true) (jq.mv _ _) (Mv.refl _ _) jj.stableZ hmL (fun _ _ _ _ h=>h.elim) (fun _=>by kernel_rfl) (by kernel_rfl) (by kernel_rfl) ?_
  refine aT E E (fun w hw=>ap (o:=0) KK E (by kernel_rfl) E) (aN E E (fun w hw=>ai KN E ((hw.blk kL (fun hk=>by have:=hX3 _ hk;omega)).cell (i:=0) E)) ?_)
  refine ay rfl rfl (tk (S:=Is (I n1)) (Z':=jj h g sA okA) kt rfl (bG.is _) (jj.stableZ) rfl (fun w hw hz=>by rintro _ rfl;exact(c1 hz).mono fun _ _ ⟨r,he,h1,h2,h3⟩=>.inl ⟨r,he,h1,h2,h3⟩) ?_)
  refine ay rfl rfl (tk (S:=Is (I n2)) (Z':=jj h g sB mr) kt rfl (bG.is _) (jj.stableZ) rfl (fun w hw hz=>by rintro _ rfl;exact(c2 hz).mono fun _ _ ⟨r,he,h1,h2,h3⟩=>.inl ⟨r,he,h1,h2,h3⟩) ?_)
  refine ay rfl rfl (tk (S:=rP wL.heap.size q) (Z':=jj h g sC okC) tE rfl (rP.stableX hXL) (jj.stableZ) rfl (fun w hw hz=>by rintro _ rfl;exact(c3 hz).mono fun _ _ ⟨r,he,h1,h2,h3⟩=>.inl ⟨r,he,h1,h2.up hw.size,h3⟩) ?_)
  refine tj (S:=fun v w'=>∃x y,v=.agg #[I n1,I n2,B q.1,x,y]∧cv (fun k=>k<wL.heap.size) w' (iB q) [B q.1,x,y]) (fun _ _ _ ⟨x,y,h,h2⟩ hm=>⟨x,y,h,h2.mv (hm.weak fun j hj _=>hXL j hj) fun _ hk=>.inl hk⟩) E (fun w' hw=>by
 rintro _ rfl _ rfl _ ⟨x,y,rfl,h⟩
 exact⟨_,w',run_build _ _ _ _ (by kernel_rfl),aJ.refl _,x,y,rfl,h⟩) ?_
  refine f8 (S:=nT wL.heap.size 5 cQ [⟨n1,n2,q⟩]) (nT.stableX hXL) E (fun w' hw=>by
 rintro _ ⟨x,y,rfl,h⟩
 exact F0 (cs:=[I n1,I n2,B q.1,x,y]) KN f4 rfl (by omega) (by omega) hw.size (ao.cons rfl (ao.cons rfl (ao.cons rfl (ao.cons (jG h).1 (ao.cons (jG h).2 ao.nil))))) (Ah (d:=⟨n1,n2,q⟩) h) (bN _)) ?_
  refine cb ?_
  intro wg5 xg5 zg5
  rintro _ rfl
  rintro _ rfl
  rintro _ rfl
  rintro _ rfl
  rintro _ hq20
  obtain rfl:=Eq.symm hq20
  intro vg28 b28
  obtain⟨cs,hcs,hown,h1cs,hall⟩:=b28
  have oG:=oL.mv xg5 fun k hk=>by have:=hX k hk;omega
  have own:∀j,vd.ownBlock=some j→w3.heap.size≤j∧j<wL.heap.size:=oL.lt
  have hM:=(aO.one hall).weak (Y:=fun k=>k<w3.heap.size∨vd.ownBlock=some k) fun j hj=>.inl (by
   rcases hj with hj|hj
   ·show j<wL.heap.size;omega
   ·have:=(own j hj).2;show j<wL.heap.size;omega)
  obtain⟨v29,w29,hr29,o29,g29⟩:=oG.app (t:=41) (ty:=41) KN f4 rfl (by omega) (by omega) hcs h1cs hM bN (by omega) (Nat.le_trans szL xg5.size)
  have m29:Mv (fun k=>vd.ownBlock=some k) wg5 w29:=Mv.of_grown g29.grown fun k hk _=>hk
  have h29:jj h g sC okC w29:=zg5.mv m29 fun j hj=>by have:=own j hj;omega
  have k29:=m29.blk (xg5.blk kL (fun hk=>by have:=hX3 _ hk;omega)) (fun e=>by have:=own g3 e;omega)
  have hv29:v29.oneCell'=true:=by obtain⟨_,_,_,rfl⟩:=o29.isS;rfl
  obtain⟨wz,sz,qz,kz⟩:=k29.stC (P:=Tryz.prog) (t:=41) (i:=0) (v:=v29) (by kernel_rfl) hv29 (by simp)
  have mz:Mv (fun k=>k=g3) w29 wz:=Mv.of_grown qz fun k hk _=>(Option.some.inj hk).symm
  refine aW E E hr29 ?_
  refine ah E E (ap (o:=0) KK E (by kernel_rfl) E) ?_
  refine ax E E sz ?_
  refine ag (aR (ab (aa (ae E E (ak (v:=bS 1) (r:=bS (UInt64.ofNat k')) E E E ((by rw[←tF (k:=k') (by omega)];exact dQ)) ?_)))))
  refine ac E E (ag ?_)
  refine qt (k') (v29) (sC) (okC) (ds++[⟨n1,n2,q⟩]) ⟨rfl,rfl,rfl,rfl,trivial⟩ ⟨((mL.trans (xg5.weak fun j hj _=>.inl hj) fun _ hj _=>hj).trans m29 fun j hj hlt=>by have:=(own j hj).1;omega).trans (mz.weak fun j hj _=>.inr hj) fun _ hj _=>hj,h29.mv mz fun j hj=>by have:=hX3 h (.inl E);omega,kz,o29.mv mz (fun j hj=>by omega),hF.step qM,by simp;omega,fun j hj=>a3 _ (a2 _ (a1 _ (aL _ hj)))⟩ (by omega)
 ·have hJ:=hF.jr (fun _=>h0)
  have hmL':=hmL
  refine aa (ae E E (ak (v:=bS 0) E E E (dn (mt (gI (by omega)).1 (by omega)) cS) (ae E E (am E E E (am E E E ?_)))))
  refine am E E E (am E E E (aI E E E (ag (ab (cy E (be (aK (aK (bf (ab (af ?_)))))))))))
  obtain⟨nb,s5,ok5,qB,hB1,aB,cB⟩:=om so oko (most:=1) (by omega)
  obtain⟨N2,s6,ok6,qU2,hN2,aU2,cU2⟩:=om s5 ok5 (most:=1073741824) (by omega)
  refine aa (ae E E (an kr E E ((cB hmL')) ?_))
  rintro v32 w32 ⟨m32,rfl,hm32⟩
  have m32:=m32
  have k32:=m32.blk kL (fun hk=>by have:=hX3 _ hk;omega)
  obtain⟨wb,sb,qb,kb⟩:=k32.stC (P:=Tryz.prog) (t:=4) (i:=8) (v:=B (cc nb)) nh rfl (by simp)
  have mb:Mv (fun k=>k=g3) w32 wb:=Mv.of_grown qb fun k hk _=>(Option.some.inj hk).symm
  have hmb:=hm32.mv mb fun j hj=>by have:=hX3 h (.inl rfl);omega
  have mLb:Mv (zc h g g3) wL wb:=(m32.weak fun j hj _=>.inl hj).trans (mb.weak fun j hj _=>.inr hj) fun _ hj _=>hj
  have hJX:∀k,zc h g g3 k→k≤g3:=fun k hk=>hk.elim (fun hk=>by have:=hX3 k hk;omega) (fun hk=>by omega)
  have oDb:=oL.mv mLb fun k hk=>by have:=hJX k hk;omega
  have k2b:=mLb.blk k2L (fun hk=>hk.elim (fun hk=>by rcases hk with rfl|rfl<;>omega) (fun hk=>by omega))
  have kb:bA g3 54 [vd,.slice none 0 0,I 0,I 0,B false,.slice none 0 0,.slice none 0 0,.slice none 0 0,B (cc nb),.slice none 0 0] wb:=kb
  refine ak (v:=bS 1) (r:=B (cc nb)) E E E ((tG hB1)) ?_
  refine ah E E (ap (o:=1) KK E (by kernel_rfl) E) ?_
  refine ah E E (cx (b:=1) (o:=7) KF E (by kernel_rfl) E) ?_
  refine ax E E sb ?_
  refine ag (ab (af (af (aa (ae E E (an kr E E ((cU2 hmb)) ?_))))))
  rintro v37 w37 ⟨m37,rfl,hm37⟩
  have m37:=m37
  have k37:=m37.blk kb (fun hk=>by have:=hX3 _ hk;omega)
  have k2c:=m37.blk k2b (by rintro(rfl|rfl)<;>omega)
  have oDc:=oDb.mv m37 fun k hk=>by have:=hX k hk;omega
  have szb:=mLb.size
  have sz37:=m37.size
  refine ac E E (ag (ab (aE ?_)))
  refine tt (fun(k2:Nat) (vl:Value) (so2:Option (List UInt8)) (oko2:Bool) (ls:List er)=>[(0,.pointer (some ⟨h,0,none⟩)),(2,.pointer (some ⟨g2,0,none⟩)),(3,.pointer (some ⟨g3,0,none⟩)),(5,bS (UInt64.ofNat k2))]) (fun(k2:Nat) (vl:Value) (so2:Option (List UInt8)) (oko2:Bool) (ls:List er) w'=>Mv (zc h g g3) w37 w'∧jj h g so2 oko2 w'∧bA g3 54 [vd,vl,I 0,I 0,B false,.slice none 0 0,.slice none 0 0,.slice none 0 0,B (cc nb),.slice none 0 0] w'∧iF 173 6 w37.heap.size cP ls vl w'∧FL CW ok5 (s5.bind (nB 1073741824 CW)) so2 oko2 k2 ls∧k2+ls.length≤1073741824∧∀j,vE j st→vE j so2) (fun(k2:Nat) (vl:Value) (so2:Option (List UInt8)) (oko2:Bool) (ls:List er)=>k2) (N2) (.slice none 0 0) (s6) (ok6) ([]) ⟨rfl,rfl,rfl,rfl,trivial⟩ ⟨Mv.refl _ _,hm37,k37,iF.nil _,FL.start qU2,by simpa using hN2,fun j hj=>aU2 _ (aB _ (aL _ hj))⟩ ?_
  rintro k2 vl so2 oko2 ls wM ⟨mM,hmM,kM,oM,hF2,hk2,aM⟩
  refine af (af ?_)
  have szM:=mM.size
  have hvl:vl.oneCell'=true:=by obtain⟨_,_,_,rfl⟩:=oM.isS;rfl
  have k2M:=mM.blk k2c (fun hk=>hk.elim (fun hk=>by rcases hk with rfl|rfl<;>omega) (fun hk=>by omega))
  have oDM:=oDc.mv mM fun k hk=>by have:=hJX k hk;omega
  rcases Nat.eq_zero_or_pos k2 with h0'|h0'
  rotate_left
  rcases oko2 with _|_
  rotate_left
  ·refine aa (ae E E (ak (v:=bS 0) E E E (cR ((gI (by omega)).2 h0') cS) (ae E E (al E (ae E E (al E (aq E E ?_)))))))
   refine al E (ah E E (ap (o:=1) KU E (by kernel_rfl) E) (al E (aj E E (ai KQ E (hmM.blk.cell (i:=1) E)) ?_)))
   refine ar E E E (ag (ab (bg E (aC (ab (af (aE (af ?_))))))))
   obtain⟨k',rfl⟩:∃k',k2=k'+1:=⟨k2-1,by omega⟩
   obtain⟨n1,sA,okA,q1,i1,a1,c1⟩:=oo so2 true
   obtain⟨nc,sB,mr,q2,hc1,a2,c2⟩:=om sA okA (most:=1) (by omega)
   obtain⟨q,sC,okC,q3,a3,c3⟩:=za sB mr (a2 _ (a1 _ (aM _ hl)))
   refine aa (ae E E (an kt E E ((c1 hmM)) ?_))
   rintro v49 w49 ⟨m49,rfl,hm49⟩
   have m49:=m49
   refine ae E E (an kr E E ((c2 hm49)) ?_)
   rintro v51 w51 ⟨m51,rfl,hm51⟩
   have m51:=m51
   refine ak (v:=bS 1) (r:=B (cc nc)) E E E ((tG hc1)) (ae E E (an tE E E ((c3 hm51)) ?_))
   rintro v54 w54 ⟨m54,⟨x,y,rfl,rq⟩,hm54⟩
   have m54:=m54
   have m3:Mv (lh h g) wM w54:=(m49.trans m51 fun _ hj _=>hj).trans m54 fun _ hj _=>hj
   have hxy:=jG rq
   refine bj (vs:=[(0,I n1),(1,B (cc nc)),(2,.agg #[B q.1,x,y])]) (r:=.agg #[I n1,B (cc nc),B q.1,x,y,.slice none 0 0]) E E (run_build _ _ _ _ (by kernel_rfl)) ?_
   obtain⟨g6,w6,hr6,l6,x6,k6⟩:=aZ (P:=Tryz.prog) (w:=w54) (t:=173) (z:=.agg #[I 0,B false,B false,.slice none 0 0,.slice none 0 0,.slice none 0 0]) (l:=[I 0,B false,B false,.slice none 0 0,.slice none 0 0,.slice none 0 0]) (by kernel_rfl) rfl
   refine aX E hr6 ?_
   obtain⟨wd,sd,qd,kd⟩:=k6.stS (P:=Tryz.prog) (t:=173) (m:=[I n1,B (cc nc),B q.1,x,y,.slice none 0 0]) rfl (by kernel_rfl) (ao.cons rfl (ao.cons rfl (ao.cons rfl (ao.cons hxy.1 (ao.cons hxy.2 (ao.cons rfl ao.nil))))))
   refine ax E E sd ?_
   have xd:=aJ.of_new x6 qd l6
   have hmd:=hm54.ext xd
   have mMd:Mv (lh h g) wM wd:=m3.trans (Mv.of_ext xd) fun _ hj _=>hj
   have g6M:wM.heap.size≤g6:=by have:=m3.size;omega
   refine ag (ab (af (aa (ae E E (an oN E E ((oP hmd (a3 _ (a2 _ (a1 _ (aM _ hl)))))) ?_)))))
   rintro v57 w57 ⟨m57,ps,s4,ok4,rp57,h1p,hm57,q4,a4⟩
   have m57:=m57
   have qM:=GK q1 q2 q3 q4
   have k6a:=m57.blk kd (fun hk=>by have:=hX _ hk;omega)
   obtain⟨we,se,qe,ke⟩:=k6a.stC (P:=Tryz.prog) (t:=50) (i:=5) (v:=v57) (by kernel_rfl) h1p (by simp)
   have me:Mv (fun k=>k=g6) w57 we:=Mv.of_grown qe fun k hk _=>(Option.some.inj hk).symm
   have ke:bA g6 173 [I n1,B (cc nc),B q.1,x,y,v57] we:=ke
   have hme:=hm57.mv me fun j hj=>by omega
   have mMe:Mv (lh h g) wM we:=(mMd.trans m57 fun _ hj _=>hj).trans me fun j hj hlt=>by omega
   have k3e:=mMe.blk kM (fun hk=>by have:=hX3 _ hk;omega)
   have oMe:=oM.mv mMe fun k hk=>by have:=hX k hk;omega
   have own:∀j,vl.ownBlock=some j→w37.heap.size≤j∧j<wM.heap.size:=oM.lt
   have szd:=mMd.size
   have sz54:=m51.size
   have sz49:=m49.size
   have g6d:g6<wd.heap.size:=kd.lt
   have rq0:=(rq.weak (Y:=fun k=>k<wM.heap.size∨k=g6) fun j hj=>hj.elim (fun hj=>.inl (by show j<w51.heap.size;omega)) (fun hj=>.inr (by omega))).ext xd
   have rqe:cv (fun k=>k<wM.heap.size) we (iB q) [B q.1,x,y]:=(((rq0.mv (m57.weak fun j hj _=>.inl (by have:=hX j hj;omega)) fun _ hj=>.inl hj).mv (me.weak fun j hj _=>.inr hj) fun _ hj=>.inl hj).weak fun _ hj=>.inl (.inl hj))
   have rpe:cv (fun k=>k<wM.heap.size) we (gN ps) [v57]:=(rp57.mv (me.weak fun j hj _=>by show j<wd.heap.size;omega) fun _ hj=>.inl hj).weak fun j hj=>.inl (by show j<wd.heap.size;omega)
   have h1L:ao [I n1,B (cc nc),B q.1,x,y,v57]:=ao.cons rfl (ao.cons rfl (ao.cons rfl (ao.cons hxy.1 (ao.cons hxy.2 (ao.cons h1p ao.nil)))))
   obtain⟨x63,w63,v64,w64,hr63,hr64,o64,m64,n64⟩:=oMe.push (ty:=42) (t:=42) KT Ai rfl (by omega) (by omega) (by omega) h1L ((Aj (l:=⟨n1,cc nc,q,ps⟩) rqe rpe).weak fun j hj=>.inl (by
    rcases hj with hj|hj
    ·show j<wM.heap.size;omega
    ·have:=(own j hj).2;show j<wM.heap.size;omega)) cV (by omega) (Nat.le_trans szM mMe.size)
   have k3f:=m64.blk k3e (fun e=>by have:=own g3 e;omega)
   have hv64:v64.oneCell'=true:=by obtain⟨_,_,_,rfl⟩:=o64.isS;rfl
   obtain⟨wz,sz,qz,kz⟩:=k3f.stC (P:=Tryz.prog) (t:=42) (i:=1) (v:=v64) (by kernel_rfl) hv64 (by simp)
   have mz:Mv (fun k=>k=g3) w64 wz:=Mv.of_grown qz fun k hk _=>(Option.some.inj hk).symm
   refine ah E E (ap (o:=5) KV E (by kernel_rfl) E) ?_
   refine ax E E se ?_
   refine ag (ab (aa ?_))
   refine ah E E (ap (o:=1) KK E (by kernel_rfl) E) ?_
   refine ah E E (cx (b:=1) (o:=0) KF E (by kernel_rfl) E) ?_
   refine aj E E (ai KT E (k3e.cell (i:=1) E)) ?_
   refine aj E E (ke.ld KV E (by kernel_rfl)) ?_
   refine aG (vs:=[(0,.agg #[I n1,B (cc nc),B q.1,x,y,v57])]) E E hr63 ?_
   refine aW E E hr64 ?_
   refine ah E E (ap (o:=1) KK E (by kernel_rfl) E) ?_
   refine ah E E (cx (b:=1) (o:=0) KF E (by kernel_rfl) E) ?_
   refine ax E E sz ?_
   refine ag (aR (ab (aa (ae E E (ak (v:=bS 1) (r:=bS (UInt64.ofNat k')) E E E ((by rw[←tF (k:=k') (by omega)];exact dQ)) ?_)))))
   refine ac E E (ag ?_)
   refine qt (k') (v64) (s4) (ok4) (ls++[⟨n1,cc nc,q,ps⟩]) ⟨rfl,rfl,rfl,rfl,trivial⟩ ⟨((mM.trans (mMe.weak fun j hj _=>.inl hj) fun _ hj _=>hj).trans m64 fun j hj hlt=>by have:=(own j hj).1;omega).trans (mz.weak fun j hj _=>.inr hj) fun _ hj _=>hj,(hme.mv m64 fun j hj=>by have:=own j hj;omega).mv mz fun j hj=>by have:=hX3 h (.inl E);omega,kz,o64.mv mz (fun j hj=>by omega),hF2.step qM,by simp;omega,fun j hj=>a4 _ (a3 _ (a2 _ (a1 _ (aM _ hj))))⟩ (by omega)
  ·have hJ2:=hF2.jr (fun _=>h0')
   have hmM':=hmM
   refine aa (ae E E (ak (v:=bS 0) E E E (dn (mt (gI (by omega)).1 (by omega)) cS) (ae E E (am E E E (am E E E ?_)))))
   refine am E E E (am E E E (aI E E E (ag (ab (cy E (be (aK (aK (bf (ab (af (aa (ae E E (an oN E E ((oP hmM' (aM _ hl))) ?_))))))))))))))
   rintro v68 w68 ⟨m68,ps,s7,ok7,rp68,h1p,hm68,q7,a7⟩
   have m68:=m68
   have k68:=m68.blk kM (fun hk=>by have:=hX3 _ hk;omega)
   obtain⟨wy,sy,qy,ky⟩:=k68.stC (P:=Tryz.prog) (t:=50) (i:=9) (v:=v68) (by kernel_rfl) h1p (by simp)
   have my:Mv (fun k=>k=g3) w68 wy:=Mv.of_grown qy fun k hk _=>(Option.some.inj hk).symm
   have ky:bA g3 54 [vd,vl,I 0,I 0,B false,.slice none 0 0,.slice none 0 0,.slice none 0 0,B (cc nb),v68] wy:=ky
   have hO:ao [vd,vl,I 0,I 0,B false,.slice none 0 0,.slice none 0 0,.slice none 0 0,B (cc nb),v68]:=ao.cons hvd (ao.cons hvl (ao.cons rfl (ao.cons rfl (ao.cons rfl (ao.cons rfl (ao.cons rfl (ao.cons rfl (ao.cons rfl (ao.cons h1p ao.nil)))))))))
   have mMy:Mv (zc h g g3) wM wy:=(m68.weak fun j hj _=>.inl hj).trans (my.weak fun j hj _=>.inr hj) fun _ hj _=>hj
   have k2y:=mMy.blk k2M (fun hk=>hk.elim (fun hk=>by rcases hk with rfl|rfl<;>omega) (fun hk=>by omega))
   obtain⟨wR,sR,qR,kR⟩:=k2y.stS (P:=Tryz.prog) (t:=54) (m:=[vd,vl,I 0,I 0,B false,.slice none 0 0,.slice none 0 0,.slice none 0 0,B (cc nb),v68]) rfl (by kernel_rfl) hO
   have mR:Mv (fun k=>k=g2) wy wR:=Mv.of_grown qR fun k hk _=>(Option.some.inj hk).symm
   have mw3:Mv (fun k=>zc h g g3 k∨k=g2) w3 wR:=(((((mL.trans mLb fun _ hj _=>hj).trans (m37.weak fun j hj _=>(.inl hj:zc h g g3 j)) fun _ hj _=>hj).trans mM fun _ hj _=>hj).trans mMy fun _ hj _=>hj).weak fun j hj _=>.inl hj).trans (mR.weak fun j hj _=>.inr hj) fun _ hj _=>hj
   have hfin:Mv (lh h g) w wR:=(Mv.of_ext e3).trans mw3 fun j hj hlt=>by
    rcases hj with(hj|hj)|hj
    ·exact hj
    ·omega
    ·omega
   have oDR:=(oDM.mv mMy fun k hk=>by have:=hJX k hk;omega).mv mR fun k hk=>by omega
   have oMR:=(oM.mv mMy fun k hk=>by have:=hJX k hk;omega).mv mR fun k hk=>by omega
   have rpR:cv (fun k=>k<w.heap.size) wR (gN ps) [v68]:=((rp68.mv (my.weak fun j hj _=>by show j<wM.heap.size;omega) fun _ hj=>.inl hj).mv (mR.weak fun j hj _=>by show j<wM.heap.size;omega) fun _ hj=>.inl hj).weak fun j hj=>.inl (by show j<wM.heap.size;omega)
   have hrp:=ra (u:=⟨ds,.mk ls kI [] (cc nb) ps⟩) ((oDR.rpx bN (by omega)).weak (Y:=fun k=>k<w.heap.size) fun j hj=>.inl (by show j<w3.heap.size;omega)) (g0 (ls:=ls) (d:=kI) (ks:=[]) (em:=cc nb) (ps:=ps) ((oMR.rpx cV (by omega)).weak (Y:=fun k=>k<w.heap.size) fun j hj=>.inl (by show j<w37.heap.size;omega)) qN pQ rpR)
   refine ah E E (ap (o:=1) KK E (by kernel_rfl) E) ?_
   refine ah E E (cx (b:=1) (o:=8) KF E (by kernel_rfl) E) ?_
   refine ax E E sy ?_
   refine ag (ab (af (aa ?_)))
   refine aj E E (ky.ld KK E (by kernel_rfl)) ?_
   refine ax E E sR ?_
   refine ag (ab (aw ?_))
   refine cZ E E kR KK E (by kernel_rfl) ?_
   exact⟨_,rfl,hfin,⟨ds,.mk ls kI [] (cc nb) ps⟩,_,s7,ok7,rfl,hrp,hO,(hm68.mv my fun j hj=>by have:=hX3 h (.inl rfl);omega).mv mR fun j hj=>by omega,zb hJ qB hJ2 q7⟩
  ·obtain⟨oko2,ho2⟩:∃o:Bool,o=false:=⟨_,rfl⟩
   have hJ2:=hF2.jr (fun hk=>by cases hk)
   have hmM':=hmM
   rw[←ho2] at hJ2 hmM'
   refine aa (ae E E (ak (v:=bS 0) E E E (cR ((gI (by omega)).2 h0') cS) (ae E E (al E (ae E E (al E (aq E E ?_)))))))
   refine al E (ah E E (ap (o:=1) KU E (by kernel_rfl) E) (al E (aj E E (ai KQ E (hmM.blk.cell (i:=1) E)) ?_)))
   refine ar E E E (ag (ab (cy E (be (aK (aK (bf (ab (af (aa (ae E E (an oN E E ((oP hmM' (aM _ hl))) ?_))))))))))))
   rintro v68 w68 ⟨m68,ps,s7,ok7,rp68,h1p,hm68,q7,a7⟩
   have m68:=m68
   have k68:=m68.blk kM (fun hk=>by have:=hX3 _ hk;omega)
   obtain⟨wy,sy,qy,ky⟩:=k68.stC (P:=Tryz.prog) (t:=50) (i:=9) (v:=v68) (by kernel_rfl) h1p (by simp)
   have my:Mv (fun k=>k=g3) w68 wy:=Mv.of_grown qy fun k hk _=>(Option.some.inj hk).symm
   have ky:bA g3 54 [vd,vl,I 0,I 0,B false,.slice none 0 0,.slice none 0 0,.slice none 0 0,B (cc nb),v68] wy:=ky
   have hO:ao [vd,vl,I 0,I 0,B false,.slice none 0 0,.slice none 0 0,.slice none 0 0,B (cc nb),v68]:=ao.cons hvd (ao.cons hvl (ao.cons rfl (ao.cons rfl (ao.cons rfl (ao.cons rfl (ao.cons rfl (ao.cons rfl (ao.cons rfl (ao.cons h1p ao.nil)))))))))
   have mMy:Mv (zc h g g3) wM wy:=(m68.weak fun j hj _=>.inl hj).trans (my.weak fun j hj _=>.inr hj) fun _ hj _=>hj
   have k2y:=mMy.blk k2M (fun hk=>hk.elim (fun hk=>by rcases hk with rfl|rfl<;>omega) (fun hk=>by omega))
   obtain⟨wR,sR,qR,kR⟩:=k2y.stS (P:=Tryz.prog) (t:=54) (m:=[vd,vl,I 0,I 0,B false,.slice none 0 0,.slice none 0 0,.slice none 0 0,B (cc nb),v68]) rfl (by kernel_rfl) hO
   have mR:Mv (fun k=>k=g2) wy wR:=Mv.of_grown qR fun k hk _=>(Option.some.inj hk).symm
   have mw3:Mv (fun k=>zc h g g3 k∨k=g2) w3 wR:=(((((mL.trans mLb fun _ hj _=>hj).trans (m37.weak fun j hj _=>(.inl hj:zc h g g3 j)) fun _ hj _=>hj).trans mM fun _ hj _=>hj).trans mMy fun _ hj _=>hj).weak fun j hj _=>.inl hj).trans (mR.weak fun j hj _=>.inr hj) fun _ hj _=>hj
   have hfin:Mv (lh h g) w wR:=(Mv.of_ext e3).trans mw3 fun j hj hlt=>by
    rcases hj with(hj|hj)|hj
    ·exact hj
    ·omega
    ·omega
   have oDR:=(oDM.mv mMy fun k hk=>by have:=hJX k hk;omega).mv mR fun k hk=>by omega
   have oMR:=(oM.mv mMy fun k hk=>by have:=hJX k hk;omega).mv mR fun k hk=>by omega
   have rpR:cv (fun k=>k<w.heap.size) wR (gN ps) [v68]:=((rp68.mv (my.weak fun j hj _=>by show j<wM.heap.size;omega) fun _ hj=>.inl hj).mv (mR.weak fun j hj _=>by show j<wM.heap.size;omega) fun _ hj=>.inl hj).weak fun j hj=>.inl (by show j<wM.heap.size;omega)
   have hrp:=ra (u:=⟨ds,.mk ls kI [] (cc nb) ps⟩) ((oDR.rpx bN (by omega)).weak (Y:=fun k=>k<w.heap.size) fun j hj=>.inl (by show j<w3.heap.size;omega)) (g0 (ls:=ls) (d:=kI) (ks:=[]) (em:=cc nb) (ps:=ps) ((oMR.rpx cV (by omega)).weak (Y:=fun k=>k<w.heap.size) fun j hj=>.inl (by show j<w37.heap.size;omega)) qN pQ rpR)
   refine ah E E (ap (o:=1) KK E (by kernel_rfl) E) ?_
   refine ah E E (cx (b:=1) (o:=8) KF E (by kernel_rfl) E) ?_
   refine ax E E sy ?_
   refine ag (ab (af (aa ?_)))
   refine aj E E (ky.ld KK E (by kernel_rfl)) ?_
   refine ax E E sR ?_
   refine ag (ab (aw ?_))
   refine cZ E E kR KK E (by kernel_rfl) ?_
   exact⟨_,rfl,hfin,⟨ds,.mk ls kI [] (cc nb) ps⟩,_,s7,ok7,rfl,hrp,hO,(hm68.mv my fun j hj=>by have:=hX3 h (.inl rfl);omega).mv mR fun j hj=>by omega,zb hJ qB hJ2 q7⟩
 ·obtain⟨oko,ho⟩:∃o:Bool,o=false:=⟨_,rfl⟩
  have hJ:=hF.jr (fun hk=>by cases hk)
  have hmL':=hmL
  rw[←ho] at hJ hmL'
  refine aa (ae E E (ak (v:=bS 0) E E E (cR ((gI (by omega)).2 h0) cS) (ae E E (al E (ae E E (al E (aq E E ?_)))))))
  refine al E (ah E E (ap (o:=1) KU E (by kernel_rfl) E) (al E (aj E E (ai KQ E (hmL.blk.cell (i:=1) E)) ?_)))
  refine ar E E E (ag (ab (cy E (be (aK (aK (bf (ab (af ?_)))))))))
  obtain⟨nb,s5,ok5,qB,hB1,aB,cB⟩:=om so oko (most:=1) (by omega)
  obtain⟨N2,s6,ok6,qU2,hN2,aU2,cU2⟩:=om s5 ok5 (most:=1073741824) (by omega)
  refine aa (ae E E (an kr E E ((cB hmL')) ?_))
  rintro v32 w32 ⟨m32,rfl,hm32⟩
  have m32:=m32
  have k32:=m32.blk kL (fun hk=>by have:=hX3 _ hk;omega)
  obtain⟨wb,sb,qb,kb⟩:=k32.stC (P:=Tryz.prog) (t:=4) (i:=8) (v:=B (cc nb)) nh rfl (by simp)
  have mb:Mv (fun k=>k=g3) w32 wb:=Mv.of_grown qb fun k hk _=>(Option.some.inj hk).symm
  have hmb:=hm32.mv mb fun j hj=>by have:=hX3 h (.inl rfl);omega
  have mLb:Mv (zc h g g3) wL wb:=(m32.weak fun j hj _=>.inl hj).trans (mb.weak fun j hj _=>.inr hj) fun _ hj _=>hj
  have hJX:∀k,zc h g g3 k→k≤g3:=fun k hk=>hk.elim (fun hk=>by have:=hX3 k hk;omega) (fun hk=>by omega)
  have oDb:=oL.mv mLb fun k hk=>by have:=hJX k hk;omega
  have k2b:=mLb.blk k2L (fun hk=>hk.elim (fun hk=>by rcases hk with rfl|rfl<;>omega) (fun hk=>by omega))
  have kb:bA g3 54 [vd,.slice none 0 0,I 0,I 0,B false,.slice none 0 0,.slice none 0 0,.slice none 0 0,B (cc nb),.slice none 0 0] wb:=kb
  refine ak (v:=bS 1) (r:=B (cc nb)) E E E ((tG hB1)) ?_
  refine ah E E (ap (o:=1) KK E (by kernel_rfl) E) ?_
  refine ah E E (cx (b:=1) (o:=7) KF E (by kernel_rfl) E) ?_
  refine ax E E sb ?_
  refine ag (ab (af (af (aa (ae E E (an kr E E ((cU2 hmb)) ?_))))))
  rintro v37 w37 ⟨m37,rfl,hm37⟩
  have m37:=m37
  have k37:=m37.blk kb (fun hk=>by have:=hX3 _ hk;omega)
  have k2c:=m37.blk k2b (by rintro(rfl|rfl)<;>omega)
  have oDc:=oDb.mv m37 fun k hk=>by have:=hX k hk;omega
  have szb:=mLb.size
  have sz37:=m37.size
  refine ac E E (ag (ab (aE ?_)))
  refine tt (fun(k2:Nat) (vl:Value) (so2:Option (List UInt8)) (oko2:Bool) (ls:List er)=>[(0,.pointer (some ⟨h,0,none⟩)),(2,.pointer (some ⟨g2,0,none⟩)),(3,.pointer (some ⟨g3,0,none⟩)),(5,bS (UInt64.ofNat k2))]) (fun(k2:Nat) (vl:Value) (so2:Option (List UInt8)) (oko2:Bool) (ls:List er) w'=>Mv (zc h g g3) w37 w'∧jj h g so2 oko2 w'∧bA g3 54 [vd,vl,I 0,I 0,B false,.slice none 0 0,.slice none 0 0,.slice none 0 0,B (cc nb),.slice none 0 0] w'∧iF 173 6 w37.heap.size cP ls vl w'∧FL CW ok5 (s5.bind (nB 1073741824 CW)) so2 oko2 k2 ls∧k2+ls.length≤1073741824∧∀j,vE j st→vE j so2) (fun(k2:Nat) (vl:Value) (so2:Option (List UInt8)) (oko2:Bool) (ls:List er)=>k2) (N2) (.slice none 0 0) (s6) (ok6) ([]) ⟨rfl,rfl,rfl,rfl,trivial⟩ ⟨Mv.refl _ _,hm37,k37,iF.nil _,FL.start qU2,by simpa using hN2,fun j hj=>aU2 _ (aB _ (aL _ hj))⟩ ?_
  rintro k2 vl so2 oko2 ls wM ⟨mM,hmM,kM,oM,hF2,hk2,aM⟩
  refine af (af ?_)
  have szM:=mM.size
  have hvl:vl.oneCell'=true:=by obtain⟨_,_,_,rfl⟩:=oM.isS;rfl
  have k2M:=mM.blk k2c (fun hk=>hk.elim (fun hk=>by rcases hk with rfl|rfl<;>omega) (fun hk=>by omega))
  have oDM:=oDc.mv mM fun k hk=>by have:=hJX k hk;omega
  rcases Nat.eq_zero_or_pos k2 with h0'|h0'
  rotate_left
  rcases oko2 with _|_
  rotate_left
  ·refine aa (ae E E (ak (v:=bS 0) E E E (cR ((gI (by omega)).2 h0') cS) (ae E E (al E (ae E E (al E (aq E E ?_)))))))
   refine al E (ah E E (ap (o:=1) KU E (by kernel_rfl) E) (al E (aj E E (ai KQ E (hmM.blk.cell (i:=1) E)) ?_)))
   refine ar E E E (ag (ab (bg E (aC (ab (af (aE (af ?_))))))))
   obtain⟨k',rfl⟩:∃k',k2=k'+1:=⟨k2-1,by omega⟩
   obtain⟨n1,sA,okA,q1,i1,a1,c1⟩:=oo so2 true
   obtain⟨nc,sB,mr,q2,hc1,a2,c2⟩:=om sA okA (most:=1) (by omega)
   obtain⟨q,sC,okC,q3,a3,c3⟩:=za sB mr (a2 _ (a1 _ (aM _ hl)))
   refine aa (ae E E (an kt E E ((c1 hmM)) ?_))
   rintro v49 w49 ⟨m49,rfl,hm49⟩
   have m49:=m49
   refine ae E E (an kr E E ((c2 hm49)) ?_)
   rintro v51 w51 ⟨m51,rfl,hm51⟩
   have m51:=m51
   refine ak (v:=bS 1) (r:=B (cc nc)) E E E ((tG hc1)) (ae E E (an tE E E ((c3 hm51)) ?_))
   rintro v54 w54 ⟨m54,⟨x,y,rfl,rq⟩,hm54⟩
   have m54:=m54
   have m3:Mv (lh h g) wM w54:=(m49.trans m51 fun _ hj _=>hj).trans m54 fun _ hj _=>hj
   have hxy:=jG rq
   refine bj (vs:=[(0,I n1),(1,B (cc nc)),(2,.agg #[B q.1,x,y])]) (r:=.agg #[I n1,B (cc nc),B q.1,x,y,.slice none 0 0]) E E (run_build _ _ _ _ (by kernel_rfl)) ?_
   obtain⟨g6,w6,hr6,l6,x6,k6⟩:=aZ (P:=Tryz.prog) (w:=w54) (t:=173) (z:=.agg #[I 0,B false,B false,.slice none 0 0,.slice none 0 0,.slice none 0 0]) (l:=[I 0,B false,B false,.slice none 0 0,.slice none 0 0,.slice none 0 0]) (by kernel_rfl) rfl
   refine aX E hr6 ?_
   obtain⟨wd,sd,qd,kd⟩:=k6.stS (P:=Tryz.prog) (t:=173) (m:=[I n1,B (cc nc),B q.1,x,y,.slice none 0 0]) rfl (by kernel_rfl) (ao.cons rfl (ao.cons rfl (ao.cons rfl (ao.cons hxy.1 (ao.cons hxy.2 (ao.cons rfl ao.nil))))))
   refine ax E E sd ?_
   have xd:=aJ.of_new x6 qd l6
   have hmd:=hm54.ext xd
   have mMd:Mv (lh h g) wM wd:=m3.trans (Mv.of_ext xd) fun _ hj _=>hj
   have g6M:wM.heap.size≤g6:=by have:=m3.size;omega
   refine ag (ab (af (aa (ae E E (an oN E E ((oP hmd (a3 _ (a2 _ (a1 _ (aM _ hl)))))) ?_)))))
   rintro v57 w57 ⟨m57,ps,s4,ok4,rp57,h1p,hm57,q4,a4⟩
   have m57:=m57
   have qM:=GK q1 q2 q3 q4
   have k6a:=m57.blk kd (fun hk=>by have:=hX _ hk;omega)
   obtain⟨we,se,qe,ke⟩:=k6a.stC (P:=Tryz.prog) (t:=50) (i:=5) (v:=v57) (by kernel_rfl) h1p (by simp)
   have me:Mv (fun k=>k=g6) w57 we:=Mv.of_grown qe fun k hk _=>(Option.some.inj hk).symm
   have ke:bA g6 173 [I n1,B (cc nc),B q.1,x,y,v57] we:=ke
   have hme:=hm57.mv me fun j hj=>by omega
   have mMe:Mv (lh h g) wM we:=(mMd.trans m57 fun _ hj _=>hj).trans me fun j hj hlt=>by omega
   have k3e:=mMe.blk kM (fun hk=>by have:=hX3 _ hk;omega)
   have oMe:=oM.mv mMe fun k hk=>by have:=hX k hk;omega
   have own:∀j,vl.ownBlock=some j→w37.heap.size≤j∧j<wM.heap.size:=oM.lt
   have szd:=mMd.size
   have sz54:=m51.size
   have sz49:=m49.size
   have g6d:g6<wd.heap.size:=kd.lt
   have rq0:=(rq.weak (Y:=fun k=>k<wM.heap.size∨k=g6) fun j hj=>hj.elim (fun hj=>.inl (by show j<w51.heap.size;omega)) (fun hj=>.inr (by omega))).ext xd
   have rqe:cv (fun k=>k<wM.heap.size) we (iB q) [B q.1,x,y]:=(((rq0.mv (m57.weak fun j hj _=>.inl (by have:=hX j hj;omega)) fun _ hj=>.inl hj).mv (me.weak fun j hj _=>.inr hj) fun _ hj=>.inl hj).weak fun _ hj=>.inl (.inl hj))
   have rpe:cv (fun k=>k<wM.heap.size) we (gN ps) [v57]:=(rp57.mv (me.weak fun j hj _=>by show j<wd.heap.size;omega) fun _ hj=>.inl hj).weak fun j hj=>.inl (by show j<wd.heap.size;omega)
   have h1L:ao [I n1,B (cc nc),B q.1,x,y,v57]:=ao.cons rfl (ao.cons rfl (ao.cons rfl (ao.cons hxy.1 (ao.cons hxy.2 (ao.cons h1p ao.nil)))))
   obtain⟨x63,w63,v64,w64,hr63,hr64,o64,m64,n64⟩:=oMe.push (ty:=42) (t:=42) KT Ai rfl (by omega) (by omega) (by omega) h1L ((Aj (l:=⟨n1,cc nc,q,ps⟩) rqe rpe).weak fun j hj=>.inl (by
    rcases hj with hj|hj
    ·show j<wM.heap.size;omega
    ·have:=(own j hj).2;show j<wM.heap.size;omega)) cV (by omega) (Nat.le_trans szM mMe.size)
   have k3f:=m64.blk k3e (fun e=>by have:=own g3 e;omega)
   have hv64:v64.oneCell'=true:=by obtain⟨_,_,_,rfl⟩:=o64.isS;rfl
   obtain⟨wz,sz,qz,kz⟩:=k3f.stC (P:=Tryz.prog) (t:=42) (i:=1) (v:=v64) (by kernel_rfl) hv64 (by simp)
   have mz:Mv (fun k=>k=g3) w64 wz:=Mv.of_grown qz fun k hk _=>(Option.some.inj hk).symm
   refine ah E E (ap (o:=5) KV E (by kernel_rfl) E) ?_
   refine ax E E se ?_
   refine ag (ab (aa ?_))
   refine ah E E (ap (o:=1) KK E (by kernel_rfl) E) ?_
   refine ah E E (cx (b:=1) (o:=0) KF E (by kernel_rfl) E) ?_
   refine aj E E (ai KT E (k3e.cell (i:=1) E)) ?_
   refine aj E E (ke.ld KV E (by kernel_rfl)) ?_
   refine aG (vs:=[(0,.agg #[I n1,B (cc nc),B q.1,x,y,v57])]) E E hr63 ?_
   refine aW E E hr64 ?_
   refine ah E E (ap (o:=1) KK E (by kernel_rfl) E) ?_
   refine ah E E (cx (b:=1) (o:=0) KF E (by kernel_rfl) E) ?_
   refine ax E E sz ?_
   refine ag (aR (ab (aa (ae E E (ak (v:=bS 1) (r:=bS (UInt64.ofNat k')) E E E ((by rw[←tF (k:=k') (by omega)];exact dQ)) ?_)))))
   refine ac E E (ag ?_)
   refine qt (k') (v64) (s4) (ok4) (ls++[⟨n1,cc nc,q,ps⟩]) ⟨rfl,rfl,rfl,rfl,trivial⟩ ⟨((mM.trans (mMe.weak fun j hj _=>.inl hj) fun _ hj _=>hj).trans m64 fun j hj hlt=>by have:=(own j hj).1;omega).trans (mz.weak fun j hj _=>.inr hj) fun _ hj _=>hj,(hme.mv m64 fun j hj=>by have:=own j hj;omega).mv mz fun j hj=>by have:=hX3 h (.inl E);omega,kz,o64.mv mz (fun j hj=>by omega),hF2.step qM,by simp;omega,fun j hj=>a4 _ (a3 _ (a2 _ (a1 _ (aM _ hj))))⟩ (by omega)
  ·have hJ2:=hF2.jr (fun _=>h0')
   have hmM':=hmM
   refine aa (ae E E (ak (v:=bS 0) E E E (dn (mt (gI (by omega)).1 (by omega)) cS) (ae E E (am E E E (am E E E ?_)))))
   refine am E E E (am E E E (aI E E E (ag (ab (cy E (be (aK (aK (bf (ab (af (aa (ae E E (an oN E E ((oP hmM' (aM _ hl))) ?_))))))))))))))
   rintro v68 w68 ⟨m68,ps,s7,ok7,rp68,h1p,hm68,q7,a7⟩
   have m68:=m68
   have k68:=m68.blk kM (fun hk=>by have:=hX3 _ hk;omega)
   obtain⟨wy,sy,qy,ky⟩:=k68.stC (P:=Tryz.prog) (t:=50) (i:=9) (v:=v68) (by kernel_rfl) h1p (by simp)
   have my:Mv (fun k=>k=g3) w68 wy:=Mv.of_grown qy fun k hk _=>(Option.some.inj hk).symm
   have ky:bA g3 54 [vd,vl,I 0,I 0,B false,.slice none 0 0,.slice none 0 0,.slice none 0 0,B (cc nb),v68] wy:=ky
   have hO:ao [vd,vl,I 0,I 0,B false,.slice none 0 0,.slice none 0 0,.slice none 0 0,B (cc nb),v68]:=ao.cons hvd (ao.cons hvl (ao.cons rfl (ao.cons rfl (ao.cons rfl (ao.cons rfl (ao.cons rfl (ao.cons rfl (ao.cons rfl (ao.cons h1p ao.nil)))))))))
   have mMy:Mv (zc h g g3) wM wy:=(m68.weak fun j hj _=>.inl hj).trans (my.weak fun j hj _=>.inr hj) fun _ hj _=>hj
   have k2y:=mMy.blk k2M (fun hk=>hk.elim (fun hk=>by rcases hk with rfl|rfl<;>omega) (fun hk=>by omega))
   obtain⟨wR,sR,qR,kR⟩:=k2y.stS (P:=Tryz.prog) (t:=54) (m:=[vd,vl,I 0,I 0,B false,.slice none 0 0,.slice none 0 0,.slice none 0 0,B (cc nb),v68]) rfl (by kernel_rfl) hO
   have mR:Mv (fun k=>k=g2) wy wR:=Mv.of_grown qR fun k hk _=>(Option.some.inj hk).symm
   have mw3:Mv (fun k=>zc h g g3 k∨k=g2) w3 wR:=(((((mL.trans mLb fun _ hj _=>hj).trans (m37.weak fun j hj _=>(.inl hj:zc h g g3 j)) fun _ hj _=>hj).trans mM fun _ hj _=>hj).trans mMy fun _ hj _=>hj).weak fun j hj _=>.inl hj).trans (mR.weak fun j hj _=>.inr hj) fun _ hj _=>hj
   have hfin:Mv (lh h g) w wR:=(Mv.of_ext e3).trans mw3 fun j hj hlt=>by
    rcases hj with(hj|hj)|hj
    ·exact hj
    ·omega
    ·omega
   have oDR:=(oDM.mv mMy fun k hk=>by have:=hJX k hk;omega).mv mR fun k hk=>by omega
   have oMR:=(oM.mv mMy fun k hk=>by have:=hJX k hk;omega).mv mR fun k hk=>by omega
   have rpR:cv (fun k=>k<w.heap.size) wR (gN ps) [v68]:=((rp68.mv (my.weak fun j hj _=>by show j<wM.heap.size;omega) fun _ hj=>.inl hj).mv (mR.weak fun j hj _=>by show j<wM.heap.size;omega) fun _ hj=>.inl hj).weak fun j hj=>.inl (by show j<wM.heap.size;omega)
   have hrp:=ra (u:=⟨ds,.mk ls kI [] (cc nb) ps⟩) ((oDR.rpx bN (by omega)).weak (Y:=fun k=>k<w.heap.size) fun j hj=>.inl (by show j<w3.heap.size;omega)) (g0 (ls:=ls) (d:=kI) (ks:=[]) (em:=cc nb) (ps:=ps) ((oMR.rpx cV (by omega)).weak (Y:=fun k=>k<w.heap.size) fun j hj=>.inl (by show j<w37.heap.size;omega)) qN pQ rpR)
   refine ah E E (ap (o:=1) KK E (by kernel_rfl) E) ?_
   refine ah E E (cx (b:=1) (o:=8) KF E (by kernel_rfl) E) ?_
   refine ax E E sy ?_
   refine ag (ab (af (aa ?_)))
   refine aj E E (ky.ld KK E (by kernel_rfl)) ?_
   refine ax E E sR ?_
   refine ag (ab (aw ?_))
   refine cZ E E kR KK E (by kernel_rfl) ?_
   exact⟨_,rfl,hfin,⟨ds,.mk ls kI [] (cc nb) ps⟩,_,s7,ok7,rfl,hrp,hO,(hm68.mv my fun j hj=>by have:=hX3 h (.inl rfl);omega).mv mR fun j hj=>by omega,zb hJ qB hJ2 q7⟩
  ·obtain⟨oko2,ho2⟩:∃o:Bool,o=false:=⟨_,rfl⟩
   have hJ2:=hF2.jr (fun hk=>by cases hk)
   have hmM':=hmM
   rw[←ho2] at hJ2 hmM'
   refine aa (ae E E (ak (v:=bS 0) E E E (cR ((gI (by omega)).2 h0') cS) (ae E E (al E (ae E E (al E (aq E E ?_)))))))
   refine al E (ah E E (ap (o:=1) KU E (by kernel_rfl) E) (al E (aj E E (ai KQ E (hmM.blk.cell (i:=1) E)) ?_)))
   refine ar E E E (ag (ab (cy E (be (aK (aK (bf (ab (af (aa (ae E E (an oN E E ((oP hmM' (aM _ hl))) ?_))))))))))))
   rintro v68 w68 ⟨m68,ps,s7,ok7,rp68,h1p,hm68,q7,a7⟩
   have m68:=m68
   have k68:=m68.blk kM (fun hk=>by have:=hX3 _ hk;omega)
   obtain⟨wy,sy,qy,ky⟩:=k68.stC (P:=Tryz.prog) (t:=50) (i:=9) (v:=v68) (by kernel_rfl) h1p (by simp)
   have my:Mv (fun k=>k=g3) w68 wy:=Mv.of_grown qy fun k hk _=>(Option.some.inj hk).symm
   have ky:bA g3 54 [vd,vl,I 0,I 0,B false,.slice none 0 0,.slice none 0 0,.slice none 0 0,B (cc nb),v68] wy:=ky
   have hO:ao [vd,vl,I 0,I 0,B false,.slice none 0 0,.slice none 0 0,.slice none 0 0,B (cc nb),v68]:=ao.cons hvd (ao.cons hvl (ao.cons rfl (ao.cons rfl (ao.cons rfl (ao.cons rfl (ao.cons rfl (ao.cons rfl (ao.cons rfl (ao.cons h1p ao.nil)))))))))
   have mMy:Mv (zc h g g3) wM wy:=(m68.weak fun j hj _=>.inl hj).trans (my.weak fun j hj _=>.inr hj) fun _ hj _=>hj
   have k2y:=mMy.blk k2M (fun hk=>hk.elim (fun hk=>by rcases hk with rfl|rfl<;>omega) (fun hk=>by omega))
   obtain⟨wR,sR,qR,kR⟩:=k2y.stS (P:=Tryz.prog) (t:=54) (m:=[vd,vl,I 0,I 0,B false,.slice none 0 0,.slice none 0 0,.slice none 0 0,B (cc nb),v68]) rfl (by kernel_rfl) hO
   have mR:Mv (fun k=>k=g2) wy wR:=Mv.of_grown qR fun k hk _=>(Option.some.inj hk).symm
   have mw3:Mv (fun k=>zc h g g3 k∨k=g2) w3 wR:=(((((mL.trans mLb fun _ hj _=>hj).trans (m37.weak fun j hj _=>(.inl hj:zc h g g3 j)) fun _ hj _=>hj).trans mM fun _ hj _=>hj).trans mMy fun _ hj _=>hj).weak fun j hj _=>.inl hj).trans (mR.weak fun j hj _=>.inr hj) fun _ hj _=>hj
   have hfin:Mv (lh h g) w wR:=(Mv.of_ext e3).trans mw3 fun j hj hlt=>by
    rcases hj with(hj|hj)|hj
    ·exact hj
    ·omega
    ·omega
   have oDR:=(oDM.mv mMy fun k hk=>by have:=hJX k hk;omega).mv mR fun k hk=>by omega
   have oMR:=(oM.mv mMy fun k hk=>by have:=hJX k hk;omega).mv mR fun k hk=>by omega
   have rpR:cv (fun k=>k<w.heap.size) wR (gN ps) [v68]:=((rp68.mv (my.weak fun j hj _=>by show j<wM.heap.size;omega) fun _ hj=>.inl hj).mv (mR.weak fun j hj _=>by show j<wM.heap.size;omega) fun _ hj=>.inl hj).weak fun j hj=>.inl (by show j<wM.heap.size;omega)
   have hrp:=ra (u:=⟨ds,.mk ls kI [] (cc nb) ps⟩) ((oDR.rpx bN (by omega)).weak (Y:=fun k=>k<w.heap.size) fun j hj=>.inl (by show j<w3.heap.size;omega)) (g0 (ls:=ls) (d:=kI) (ks:=[]) (em:=cc nb) (ps:=ps) ((oMR.rpx cV (by omega)).weak (Y:=fun k=>k<w.heap.size) fun j hj=>.inl (by show j<w37.heap.size;omega)) qN pQ rpR)
   refine ah E E (ap (o:=1) KK E (by kernel_rfl) E) ?_
   refine ah E E (cx (b:=1) (o:=8) KF E (by kernel_rfl) E) ?_
   refine ax E E sy ?_
   refine ag (ab (af (aa ?_)))
   refine aj E E (ky.ld KK E (by kernel_rfl)) ?_
   refine ax E E sR ?_
   refine ag (ab (aw ?_))
   refine cZ E E kR KK E (by kernel_rfl) ?_
   exact⟨_,rfl,hfin,⟨ds,.mk ls kI [] (cc nb) ps⟩,_,s7,ok7,rfl,hrp,hO,(hm68.mv my fun j hj=>by have:=hX3 h (.inl rfl);omega).mv mR fun j hj=>by omega,zb hJ qB hJ2 q7⟩
end Go.Rl
namespace Go.Rl
open Go.RowKit Go.Proofs
theorem BY:aH Tryz.prog 45:=⟨_,Tryz.func45,by kernel_rfl,rfl⟩
section
variable {P:Program} {ops:Array Oper} {Q:im} {N:Nat} {D:List Deferred} {S:World→Prop} {fuel:Nat} {listed:Array Bool} {l:Fr} {w:World} {d:Nat} {ty:TypeId} {pos:String} {aft:Array Edge} {op:Op}
theorem H0 (i:Nat) {x:Operand} {v:Value} {j:Nat} {b:Bool} (hi:ops[i]? =some ⟨some d,.move x,ty,pos,aft,some (j,b)⟩) (hg:gv ops l j=some (.bool b)) (hx:ev l x=some v) (hB:mr ops listed i=true) (hd:Nat.blt d N=true) (hS:S w)
 (k:db P ops Q N D S fuel (listed.setIfInBounds i true) ((d,v)::l) w):db P ops Q N D S (fuel+1) listed l w:=fun a ha=>by
 simp only[mr,Bool.and_eq_true] at hB
 exact wpAnyH_take hi hB.1.1 hB.1.2 hB.2 (fun c a w h=>by obtain⟨h,_⟩:=h;cases h) (.inl ⟨by simp[Region.wanted,lV ha hg],fun w' _=>by simp[execOp,ha.ev hx]⟩) hS (k _ (ha.put hd v))
theorem xC (i:Nat) {j:Nat} {b b':Bool} (hi:ops[i]? =some ⟨some d,op,ty,pos,aft,some (j,b)⟩) (hg:gv ops l j=some (.bool b')) (hb:b'= !b) (hB:mr ops listed i=true) (hd:Nat.blt d N=true) (hS:S w)
 (k:db P ops Q N D S fuel (listed.setIfInBounds i true) ((d,undef)::l) w):db P ops Q N D S (fuel+1) listed l w:=fun a ha=>by
 simp only[mr,Bool.and_eq_true] at hB
 exact wpAnyH_take hi hB.1.1 hB.1.2 hB.2 (fun c a w h=>by obtain⟨h,_⟩:=h;cases h) (.inr ⟨by subst hb;simp[Region.wanted,lV ha hg],rfl⟩) hS (k _ (ha.put hd undef))
end
theorem zd {w:World} {g:Nat} {st:Option (List UInt8)} (hr:cw g st w):Calls Tryz.prog 92 #[.pointer (some ⟨g,0,none⟩)] w (bH fun r w'=>w=w'∧r=I (if st=some [] then 0 else 5)):=(DS hr).mono fun _ _ ⟨v,h,h1,h2⟩=>⟨v,h,h2.symm,h1⟩
theorem JE {p:List UInt8} {u:cn} {s1:Option (List UInt8)} (hl:p.length≤7340032) (h:JR EJ (some p) true u s1 false):kW p=none:=by
 cases he:kW p with
 |none=>rfl
 |some e=>
  have h1:=CX he hl
  have h2:=h.iff
  have h3:(some p).bind EJ=some (e,[]):=h1
  rw[h3] at h2
  cases h2
theorem JF {p l:List UInt8} {u:cn} {c:UInt8} (hl:p.length≤7340032) (h:JR EJ (some p) true u (some (c::l)) true):kW p=none:=by
 cases he:kW p with
 |none=>rfl
 |some e=>
  have h1:=CX he hl
  have h2:EJ p=some (u,c::l):=h.val rfl
  rw[h1] at h2
  cases h2
theorem JG {p:List UInt8} {u:cn} (h:JR EJ (some p) true u (some []) true):pY p=some (u,[]):=Jx (h.val rfl)
theorem BZ {w:World} {p:List UInt8} {v:Value} (hv:cE p v w) (hl:p.length≤7340032):
 Calls Tryz.prog 45 #[v] w (bH fun r w'=>aJ w w'∧EntQ w.heap.size p r w'):=by
 refine enter (vs:=[v]) Tryz.func45 E E E ?_
 refine af (aa ?_)
 obtain⟨g2,w2,hr2,l2,x2,k2⟩:=aZ (P:=Tryz.prog) (w:=w) (t:=54) (z:=.agg #[.slice none 0 0,.slice none 0 0,I 0,I 0,B false,.slice none 0 0,.slice none 0 0,.slice none 0 0,B false,.slice none 0 0]) (l:=[.slice none 0 0,.slice none 0 0,I 0,I 0,B false,.slice none 0 0,.slice none 0 0,.slice none 0 0,B false,.slice none 0 0]) (by kernel_rfl) rfl
 refine aX E hr2 (ac E E (ag (ab (af (aa (ae E E (an zw E E ((zy (hv.ext x2) (by omega))) ?_)))))))
 rintro v7 w7 ⟨x7,g,lg,rfl,hr7⟩
 refine bj (vs:=[(0,.pointer (some ⟨g,0,none⟩)),(1,B true)]) (r:=.agg #[.pointer (some ⟨g,0,none⟩),B true]) E E (run_build _ _ _ _ (by kernel_rfl)) ?_
 obtain⟨h,w9,hr9,l9,x9,k9⟩:=ca (P:=Tryz.prog) (w:=w7) (T:=163) (cs:=[.pointer (some ⟨g,0,none⟩),B true])
 refine cm E E hr9 ?_
 have hgh:g<h:=by have:=cw.lt hr7;omega
 have hm9:jj h g (some p) true w9:=⟨k9,hr7.ext x9,hgh⟩
 have g2g:g2<g:=by have:=k2.lt;omega
 refine ac rfl rfl (ag (ab (af (aa (ae rfl rfl (an HY rfl rfl ((HZ hm9 (fun l e=>by cases e;omega))) ?_))))))
 rintro v11 w11 ⟨m11,u,cs,s1,okr,rfl,rp11,h1cs,hm11,hJ⟩
 have m11:=m11
 have e9:aJ w w9:=(x2.trans x7).trans x9
 have hX:∀k,lh h g k→w2.heap.size≤k∧k<w9.heap.size:=fun k hk=>by
  have:=hm9.blk.lt
  have:=x2.size
  rcases hk with rfl|rfl<;>constructor<;>omega
 have hcs:cs.length=10:=rp11.len.trans (dN u)
 have k2y:=m11.blk ((k2.ext x7).ext x9) (fun hk=>by have:=(hX _ hk).1;have:=k2.lt;omega)
 obtain⟨g5,w5,hr5,l5,x5,k5⟩:=aZ (P:=Tryz.prog) (w:=w11) (t:=54) (z:=.agg #[.slice none 0 0,.slice none 0 0,I 0,I 0,B false,.slice none 0 0,.slice none 0 0,.slice none 0 0,B false,.slice none 0 0]) (l:=[.slice none 0 0,.slice none 0 0,I 0,I 0,B false,.slice none 0 0,.slice none 0 0,.slice none 0 0,B false,.slice none 0 0]) (by kernel_rfl) rfl
 refine aX E hr5 ?_
 obtain⟨wy,sy,qy,ky⟩:=k5.stS (P:=Tryz.prog) (t:=54) (m:=cs) (by rw[hcs];rfl) (by rw[hcs];kernel_rfl) h1cs
 refine ax E E sy ?_
 have xy:=aJ.of_new x5 qy l5
 have hmy:=hm11.ext xy
 have k2y:=k2y.ext xy
 have rpy:=rp11.ext xy
 have sz9:=e9.size
 have g29:g2<w9.heap.size:=by have:=k2.lt;have:=x7.size;have:=x9.size;omega
 have m2y:Mv (lh h g) w9 wy:=m11.trans (Mv.of_ext xy) fun _ hj _=>hj
 have eY:aJ w wy:=Mv.ext_from m2y e9 fun k hk=>by have:=(hX k hk).1;have:=x2.size;omega
 have bpy:=hv.ext eY
 have g25:g2<g5:=by have:=m11.size;have:=k2.lt;have:=x7.size;have:=x9.size;omega
 refine ag (ab (af ?_))
 obtain⟨vd,vl,x,y,vk,vp,rfl,n0,n1,n2,n3,n4,n5⟩:=iZ rpy.rp
 rcases okr with _|_
 rotate_left
 rcases s1 with _|l1
 ·exact absurd (hJ.ok_le rfl).2 (by simp)
 rcases l1 with _|⟨c1,l1⟩
 have hE:=JG hJ
 rcases hV:dy u
 ·have hS:Mv (fun k=>k=g2) wy wy.drew:=Mv.of_ext ((aJ.refl wy).drew)
  have e11:aJ wy wy.drew:=(aJ.refl wy).drew
  refine fR (Mv (fun k=>k=g2) wy) 25 E (by kernel_rfl) ?_
  refine eQ 0 E E (by kernel_rfl) E hS (fun w' hw'=>(hw'.blk ky (fun e=>by omega)).ld KK E (by kernel_rfl)) ?_
  refine aQ 1 (by kernel_rfl) E (ae E E (aF hS ?_))
  refine aQ 2 (by kernel_rfl) E (aq E E (aF hS ?_))
  refine aQ 3 (by kernel_rfl) E (ah E E (ap (o:=1) KU E (by kernel_rfl) E) (aF hS ?_))
  refine aQ 4 (by kernel_rfl) E (aj E E (ai KQ E ((hmy.blk.ext e11).cell (i:=1) E)) (aF hS ?_))
  refine aQ 5 (by kernel_rfl) E (ae E E (aF hS ?_))
  refine aQ 6 (by kernel_rfl) E (al E (ae E E (aF hS ?_)))
  refine aQ 7 (by kernel_rfl) E (al E (aq E E (aF hS ?_)))
  refine aQ 8 (by kernel_rfl) E (al E (ah E E (ap (o:=0) KU E (by kernel_rfl) E) (aF hS ?_)))
  refine aQ 9 (by kernel_rfl) E (al E (aj E E (ai La E ((hmy.blk.ext e11).cell (i:=0) E)) (aF hS ?_)))
  refine aQ 10 (by kernel_rfl) E (al E (an rD E E (zd (hmy.rd.ext e11)) ?_))
  rintro _ _ ⟨rfl,rfl⟩
  refine aF hS ?_
  refine aQ 11 (by kernel_rfl) E (al E (ak (r:=B true) E E E C1 (aF hS ?_)))
  refine aQ 12 (by kernel_rfl) E (ar E E E (aF hS ?_))
  refine aQ 13 (by kernel_rfl) E (ae E E (aF hS ?_))
  refine aQ 14 (by kernel_rfl) E (al E (aj E E ((ky.ext e11).ld KK E (by kernel_rfl)) (aF hS ?_)))
  refine aQ 15 (by kernel_rfl) E (al E (an mY E E (by have h:=mZ (u:=u) (ct.ext n0 e11) (ct.ext n1 e11) (n2.ext e11) (n3.ext e11) (ct.ext n4 e11) (ct.ext n5 e11) (vq hE (by omega));rw[hV] at h;exact h) ?_))
  rintro _ w27 ⟨x27,rfl⟩
  have e11:aJ wy w27:=e11.trans x27
  have hS:Mv (fun k=>k=g2) wy w27:=Mv.of_ext e11
  refine aF hS ?_
  refine aQ 16 (by kernel_rfl) E (ar E E E (aF hS ?_))
  refine aQ 17 (by kernel_rfl) E (ae E E (aF hS ?_))
  refine xC 18 E E E (by kernel_rfl) E hS ?_
  refine xC 20 E E E (by kernel_rfl) E hS ?_
  refine aQ 19 (by kernel_rfl) E (am E E E (aF hS ?_))
  refine aQ 21 (by kernel_rfl) E (am E E E (aF hS ?_))
  refine y8 22 E E E (by kernel_rfl) E hS ?_
  have k2g:=k2y.ext e11
  obtain⟨wd,sd,qd,kd⟩:=k2g.stS (P:=Tryz.prog) (t:=54) (m:=[vd,vl,I u.leaf.split.kd,I u.leaf.split.ix,B u.leaf.split.at_.1,x,y,vk,B u.leaf.empty,vp]) rfl (by kernel_rfl) h1cs
  have md:Mv (fun k=>k=g2) w27 wd:=Mv.of_grown qd fun k hk _=>(Option.some.inj hk).symm
  have hSd:Mv (fun k=>k=g2) wy wd:=(Mv.of_ext e11).trans md fun _ hj _=>hj
  have eF:aJ w wd:=Mv.ext_from hSd eY (fun k hk=>by have:k=g2:=hk;omega)
  have rF:=(rpy.mv (hSd.weak fun j hj _=>by have:j=g2:=hj;show j<w9.heap.size;omega) fun _ hj=>.inl hj).weak (Y:=fun k=>k<w.heap.size) fun j hj=>.inl (by show j<w9.heap.size;omega)
  refine aQ 23 (by kernel_rfl) E (ax E E sd (aF hSd ?_))
  refine aQ 24 (by kernel_rfl) E (ac E E (aF hSd (fS (by kernel_rfl) ?_)))
  refine ab (aw ?_)
  refine eJ E E E kd KK E (by kernel_rfl) ?_
  exact⟨_,rfl,eF,u,_,false,rfl,rF,h1cs,(fun e=>nomatch e),fun _=>GG hE hV⟩
 ·have hpe:de u=p:=by have:=(u6 hE).1;simpa using this.symm
  have hS:Mv (fun k=>k=g2) wy wy.drew:=Mv.of_ext ((aJ.refl wy).drew)
  have e11:aJ wy wy.drew:=(aJ.refl wy).drew
  refine fR (Mv (fun k=>k=g2) wy) 25 E (by kernel_rfl) ?_
  refine eQ 0 E E (by kernel_rfl) E hS (fun w' hw'=>(hw'.blk ky (fun e=>by omega)).ld KK E (by kernel_rfl)) ?_
  refine aQ 1 (by kernel_rfl) E (ae E E (aF hS ?_))
  refine aQ 2 (by kernel_rfl) E (aq E E (aF hS ?_))
  refine aQ 3 (by kernel_rfl) E (ah E E (ap (o:=1) KU E (by kernel_rfl) E) (aF hS ?_))
  refine aQ 4 (by kernel_rfl) E (aj E E (ai KQ E ((hmy.blk.ext e11).cell (i:=1) E)) (aF hS ?_))
  refine aQ 5 (by kernel_rfl) E (ae E E (aF hS ?_))
  refine aQ 6 (by kernel_rfl) E (al E (ae E E (aF hS ?_)))
  refine aQ 7 (by kernel_rfl) E (al E (aq E E (aF hS ?_)))
  refine aQ 8 (by kernel_rfl) E (al E (ah E E (ap (o:=0) KU E (by kernel_rfl) E) (aF hS ?_)))
  refine aQ 9 (by kernel_rfl) E (al E (aj E E (ai La E ((hmy.blk.ext e11).cell (i:=0) E)) (aF hS ?_)))
  refine aQ 10 (by kernel_rfl) E (al E (an rD E E (zd (hmy.rd.ext e11)) ?_))
  rintro _ _ ⟨rfl,rfl⟩
  refine aF hS ?_
  refine aQ 11 (by kernel_rfl) E (al E (ak (r:=B true) E E E C1 (aF hS ?_)))
  refine aQ 12 (by kernel_rfl) E (ar E E E (aF hS ?_))
  refine aQ 13 (by kernel_rfl) E (ae E E (aF hS ?_))
  refine aQ 14 (by kernel_rfl) E (al E (aj E E ((ky.ext e11).ld KK E (by kernel_rfl)) (aF hS ?_)))
  refine aQ 15 (by kernel_rfl) E (al E (an mY E E (by have h:=mZ (u:=u) (ct.ext n0 e11) (ct.ext n1 e11) (n2.ext e11) (n3.ext e11) (ct.ext n4 e11) (ct.ext n5 e11) (vq hE (by omega));rw[hV] at h;exact h) ?_))
  rintro _ w27 ⟨x27,rfl⟩
  have e11:aJ wy w27:=e11.trans x27
  have hS:Mv (fun k=>k=g2) wy w27:=Mv.of_ext e11
  refine aF hS ?_
  refine aQ 16 (by kernel_rfl) E (ar E E E (aF hS ?_))
  refine aQ 17 (by kernel_rfl) E (ae E E (aF hS ?_))
  refine H0 20 E E E (by kernel_rfl) E hS ?_
  refine aQ 18 (by kernel_rfl) E (al E (aj E E ((ky.ext e11).ld KK E (by kernel_rfl)) (aF hS ?_)))
  refine aQ 19 (by kernel_rfl) E (al E (an Er E E (Es (u:=u) (ct.ext n0 e11) (ct.ext n1 e11) (n2.ext e11) (n3.ext e11) (ct.ext n4 e11) (ct.ext n5 e11) (u6 hE).2.1 (by rw[hpe];omega)) ?_))
  rintro v31 w31 ⟨x31,b31⟩
  have e11:aJ wy w31:=e11.trans x31
  have hS:Mv (fun k=>k=g2) wy w31:=Mv.of_ext e11
  refine aF hS ?_
  refine aQ 21 (by kernel_rfl) E (al E (an An E E (by have h:=Ao b31 (bpy.ext e11);rw[decide_eq_true hpe] at h;exact h) ?_))
  rintro _ w33 ⟨x33,rfl⟩
  have e11:aJ wy w33:=e11.trans x33
  have hS:Mv (fun k=>k=g2) wy w33:=Mv.of_ext e11
  refine aF hS ?_
  refine HQ 22 E E E (by kernel_rfl) E hS ?_
  have k2g:=k2y.ext e11
  obtain⟨wd,sd,qd,kd⟩:=k2g.stS (P:=Tryz.prog) (t:=54) (m:=[vd,vl,I u.leaf.split.kd,I u.leaf.split.ix,B u.leaf.split.at_.1,x,y,vk,B u.leaf.empty,vp]) rfl (by kernel_rfl) h1cs
  have md:Mv (fun k=>k=g2) w33 wd:=Mv.of_grown qd fun k hk _=>(Option.some.inj hk).symm
  have hSd:Mv (fun k=>k=g2) wy wd:=(Mv.of_ext e11).trans md fun _ hj _=>hj
  have eF:aJ w wd:=Mv.ext_from hSd eY (fun k hk=>by have:k=g2:=hk;omega)
  have rF:=(rpy.mv (hSd.weak fun j hj _=>by have:j=g2:=hj;show j<w9.heap.size;omega) fun _ hj=>.inl hj).weak (Y:=fun k=>k<w.heap.size) fun j hj=>.inl (by show j<w9.heap.size;omega)
  refine aQ 23 (by kernel_rfl) E (ax E E sd (aF hSd ?_))
  refine aQ 24 (by kernel_rfl) E (ac E E (aF hSd (fS (by kernel_rfl) ?_)))
  refine ab (aw ?_)
  refine eJ E E E kd KK E (by kernel_rfl) ?_
  exact⟨_,rfl,eF,u,_,true,rfl,rF,h1cs,(fun _=>CU hE hV),fun e=>nomatch e⟩
 ·have hS:Mv (fun k=>k=g2) wy wy.drew:=Mv.of_ext ((aJ.refl wy).drew)
  have e11:aJ wy wy.drew:=(aJ.refl wy).drew
  refine fR (Mv (fun k=>k=g2) wy) 25 E (by kernel_rfl) ?_
  refine eQ 0 E E (by kernel_rfl) E hS (fun w' hw'=>(hw'.blk ky (fun e=>by omega)).ld KK E (by kernel_rfl)) ?_
  refine aQ 1 (by kernel_rfl) E (ae E E (aF hS ?_))
  refine aQ 2 (by kernel_rfl) E (aq E E (aF hS ?_))
  refine aQ 3 (by kernel_rfl) E (ah E E (ap (o:=1) KU E (by kernel_rfl) E) (aF hS ?_))
  refine aQ 4 (by kernel_rfl) E (aj E E (ai KQ E ((hmy.blk.ext e11).cell (i:=1) E)) (aF hS ?_))
  refine aQ 5 (by kernel_rfl) E (ae E E (aF hS ?_))
  refine aQ 6 (by kernel_rfl) E (al E (ae E E (aF hS ?_)))
  refine aQ 7 (by kernel_rfl) E (al E (aq E E (aF hS ?_)))
  refine aQ 8 (by kernel_rfl) E (al E (ah E E (ap (o:=0) KU E (by kernel_rfl) E) (aF hS ?_)))
  refine aQ 9 (by kernel_rfl) E (al E (aj E E (ai La E ((hmy.blk.ext e11).cell (i:=0) E)) (aF hS ?_)))
  refine aQ 10 (by kernel_rfl) E (al E (an rD E E (zd (hmy.rd.ext e11)) ?_))
  rintro _ _ ⟨rfl,rfl⟩
  refine aF hS ?_
  refine aQ 11 (by kernel_rfl) E (al E (ak (r:=B false) E E E HR (aF hS ?_)))
  refine aQ 12 (by kernel_rfl) E (ar E E E (aF hS ?_))
  refine aQ 13 (by kernel_rfl) E (ae E E (aF hS ?_))
  refine aQ 14 (by kernel_rfl) E (am E E E (aF hS ?_))
  refine aQ 15 (by kernel_rfl) E (am E E E (aF hS ?_))
  refine aQ 16 (by kernel_rfl) E (aI E E E (aF hS ?_))
  refine aQ 17 (by kernel_rfl) E (ae E E (aF hS ?_))
  refine xC 18 E E E (by kernel_rfl) E hS ?_
  refine xC 20 E E E (by kernel_rfl) E hS ?_
  refine aQ 19 (by kernel_rfl) E (am E E E (aF hS ?_))
  refine aQ 21 (by kernel_rfl) E (am E E E (aF hS ?_))
  refine y8 22 E E E (by kernel_rfl) E hS ?_
  have k2g:=k2y.ext e11
  obtain⟨wd,sd,qd,kd⟩:=k2g.stS (P:=Tryz.prog) (t:=54) (m:=[vd,vl,I u.leaf.split.kd,I u.leaf.split.ix,B u.leaf.split.at_.1,x,y,vk,B u.leaf.empty,vp]) rfl (by kernel_rfl) h1cs
  have md:Mv (fun k=>k=g2) wy.drew wd:=Mv.of_grown qd fun k hk _=>(Option.some.inj hk).symm
  have hSd:Mv (fun k=>k=g2) wy wd:=(Mv.of_ext e11).trans md fun _ hj _=>hj
  have eF:aJ w wd:=Mv.ext_from hSd eY (fun k hk=>by have:k=g2:=hk;omega)
  have rF:=(rpy.mv (hSd.weak fun j hj _=>by have:j=g2:=hj;show j<w9.heap.size;omega) fun _ hj=>.inl hj).weak (Y:=fun k=>k<w.heap.size) fun j hj=>.inl (by show j<w9.heap.size;omega)
  refine aQ 23 (by kernel_rfl) E (ax E E sd (aF hSd ?_))
  refine aQ 24 (by kernel_rfl) E (ac E E (aF hSd (fS (by kernel_rfl) ?_)))
  refine ab (aw ?_)
  refine eJ E E E kd KK E (by kernel_rfl) ?_
  exact⟨_,rfl,eF,u,_,false,rfl,rF,h1cs,(fun e=>nomatch e),fun _=>JF hl hJ⟩
 ·have hS:Mv (fun k=>k=g2) wy wy.drew:=Mv.of_ext ((aJ.refl wy).drew)
  have e11:aJ wy wy.drew:=(aJ.refl wy).drew
  refine fR (Mv (fun k=>k=g2) wy) 25 E (by kernel_rfl) ?_
  refine eQ 0 E E (by kernel_rfl) E hS (fun w' hw'=>(hw'.blk ky (fun e=>by omega)).ld KK E (by kernel_rfl)) ?_
  refine aQ 1 (by kernel_rfl) E (ae E E (aF hS ?_))
  refine aQ 2 (by kernel_rfl) E (aq E E (aF hS ?_))
  refine aQ 3 (by kernel_rfl) E (ah E E (ap (o:=1) KU E (by kernel_rfl) E) (aF hS ?_))
  refine aQ 4 (by kernel_rfl) E (aj E E (ai KQ E ((hmy.blk.ext e11).cell (i:=1) E)) (aF hS ?_))
  refine aQ 5 (by kernel_rfl) E (ae E E (aF hS ?_))
  refine aQ 6 (by kernel_rfl) E (am E E E (aF hS ?_))
  refine aQ 7 (by kernel_rfl) E (am E E E (aF hS ?_))
  refine aQ 8 (by kernel_rfl) E (am E E E (aF hS ?_))
  refine aQ 9 (by kernel_rfl) E (am E E E (aF hS ?_))
  refine aQ 10 (by kernel_rfl) E (am E E E (aF hS ?_))
  refine aQ 11 (by kernel_rfl) E (am E E E (aF hS ?_))
  refine aQ 12 (by kernel_rfl) E (aI E E E (aF hS ?_))
  refine aQ 13 (by kernel_rfl) E (ae E E (aF hS ?_))
  refine aQ 14 (by kernel_rfl) E (am E E E (aF hS ?_))
  refine aQ 15 (by kernel_rfl) E (am E E E (aF hS ?_))
  refine aQ 16 (by kernel_rfl) E (aI E E E (aF hS ?_))
  refine aQ 17 (by kernel_rfl) E (ae E E (aF hS ?_))
  refine xC 18 E E E (by kernel_rfl) E hS ?_
  refine xC 20 E E E (by kernel_rfl) E hS ?_
  refine aQ 19 (by kernel_rfl) E (am E E E (aF hS ?_))
  refine aQ 21 (by kernel_rfl) E (am E E E (aF hS ?_))
  refine y8 22 E E E (by kernel_rfl) E hS ?_
  have k2g:=k2y.ext e11
  obtain⟨wd,sd,qd,kd⟩:=k2g.stS (P:=Tryz.prog) (t:=54) (m:=[vd,vl,I u.leaf.split.kd,I u.leaf.split.ix,B u.leaf.split.at_.1,x,y,vk,B u.leaf.empty,vp]) rfl (by kernel_rfl) h1cs
  have md:Mv (fun k=>k=g2) wy.drew wd:=Mv.of_grown qd fun k hk _=>(Option.some.inj hk).symm
  have hSd:Mv (fun k=>k=g2) wy wd:=(Mv.of_ext e11).trans md fun _ hj _=>hj
  have eF:aJ w wd:=Mv.ext_from hSd eY (fun k hk=>by have:k=g2:=hk;omega)
  have rF:=(rpy.mv (hSd.weak fun j hj _=>by have:j=g2:=hj;show j<w9.heap.size;omega) fun _ hj=>.inl hj).weak (Y:=fun k=>k<w.heap.size) fun j hj=>.inl (by show j<w9.heap.size;omega)
  refine aQ 23 (by kernel_rfl) E (ax E E sd (aF hSd ?_))
  refine aQ 24 (by kernel_rfl) E (ac E E (aF hSd (fS (by kernel_rfl) ?_)))
  refine ab (aw ?_)
  refine eJ E E E kd KK E (by kernel_rfl) ?_
  exact⟨_,rfl,eF,u,_,false,rfl,rF,h1cs,(fun e=>nomatch e),fun _=>JE hl hJ⟩
end Go.Rl
namespace Go.Rl
open Go.RowKit Go.Proofs
theorem p9:aH Tryz.prog 44:=⟨_,Tryz.func44,by kernel_rfl,rfl⟩
def vu (l:List UInt8) (r:Value) (w:World):Prop:=match ug l with
 |some (p,t)=>∃vp,r=.tuple #[I ((l.length-t.length:Nat):Int),vp,B (decide (8≤t.length))]∧cE p vp w
 |none=>r=.tuple #[I 0,.slice none 0 0,B false]
theorem H1 {l:List UInt8} (h:gp l=none):ug l=none:=by unfold ug;rw[h];rfl
theorem H2 {l:List UInt8} {n:Nat} (h:gp l=some (n,l.drop (uv n).length)) (hn:l.length-(uv n).length<n):ug l=none:=by
 unfold ug;rw[h]
 show(if n≤(l.drop (uv n).length).length then _ else _)=_
 rw[if_neg (by rw[List.length_drop];omega)]
theorem H3 {l:List UInt8} {n:Nat} (h:gp l=some (n,l.drop (uv n).length)) (hn:n≤l.length-(uv n).length):ug l=some ((l.drop (uv n).length).take n,l.drop ((uv n).length+n)):=by
 unfold ug;rw[h]
 show(if n≤(l.drop (uv n).length).length then _ else _)=_
 rw[if_pos (by rw[List.length_drop];omega),List.drop_drop]
theorem B0 {w:World} {l:List UInt8} {v:Value} (hv:cE l v w) (hl:l.length≤4294967296):
 Calls Tryz.prog 44 #[v] w (bH fun r w'=>aJ w w'∧vu l r w):=by
 refine enter (vs:=[v]) Tryz.func44 E E E ?_
 refine af (aa (ac E E (ac E E (ac E E (ag (ab (af (aa (ae E E (ae E E (aS E E (ey hv) ?_)))))))))))
 refine J0 (vs:=[I (l.length:Int),I 10]) E E Hw ?_
 obtain⟨v15,p15,b15⟩:=qr hv (hi:=min l.length 10) (by omega) .i64
 refine dl E E E E E (p15 _) ?_
 have b15:cE (l.take 10) v15 w:=by
  have e:l.take (min l.length 10)=l.take 10:=by rw[Nat.min_comm,←List.take_take,List.take_length]
  rw[e] at b15;exact b15
 refine ac E E (ag (ab (af (aa (ae E E (an zw E E ((zy b15 (by rw[List.length_take];omega))) ?_))))))
 rintro v17 w17 ⟨x17,g,lg,rfl,rr⟩
 refine ac E E (ag (ab (af ?_)))
 rcases hU:gp (l.take 10) with _|⟨n,t⟩
 rotate_left
 obtain⟨hs,hlen⟩:=yJ hU
 have hn64:=(ga hU).2
 rcases Nat.lt_or_ge (l.length-(uv n).length) n with hlt|hge
 ·refine aa (ae E E (an gb E E ((FQ (st:=some (l.take 10)) rr hU)) ?_))
  rintro v20 w20 ⟨g16,rfl,r1⟩
  have x20:=(x17).of_new g16 lg
  refine ae E E (az E E (ce) (az E E (cf) (ac E E (ac E E (ag (ab (af (af (aa (ae E E (ak E E E (dn (by decide) dF) ?_)))))))))))
  refine ag (ab (cy E (aC (ab (af (aa (ae E E (aS E E (ey (b15.ext x20)) (ae E E (an wG E E ((Gc r1)) ?_))))))))))
  rintro v28 _ ⟨rfl,rfl⟩
  refine ak (r:=I (((uv n).length:Nat):Int)) E E E ((Gd (a:=(l.take 10).length) (b:=t.length) (by rw[List.length_take];omega) (by rw[List.length_take];omega))) ?_
  have hcl:(uv n).length≤l.length:=by omega
  refine ac E E (ag (ab (af (af (aa (ae E E (ae E E (aS E E (ey (hv.ext x20)) (ae E E (ak (r:=I ((l.length-(uv n).length:Nat):Int)) E E E ((by have e:((l.length-(uv n).length:Nat):Int)=(l.length:Int)-((uv n).length:Int):=(by omega);rw[e];exact bB (by omega) (by omega))) ?_))))))))))
  refine bc E E (fJ KI KM) (ak E E E (cR ((ltN (by omega) hn64).2 hlt) cS) (ag (ab (bg E ?_))))
  refine af (aa (ac E E (ac E E (ac E E (ag (ab (aw (aD (j9 E E E E ?_)))))))))
  exact⟨_,rfl,x20,by unfold vu;rw[H2 hs hlt];exact rfl⟩
 ·refine aa (ae E E (an gb E E ((FQ (st:=some (l.take 10)) rr hU)) ?_))
  rintro v20 w20 ⟨g16,rfl,r1⟩
  have x20:=(x17).of_new g16 lg
  refine ae E E (az E E (ce) (az E E (cf) (ac E E (ac E E (ag (ab (af (af (aa (ae E E (ak E E E (dn (by decide) dF) ?_)))))))))))
  refine ag (ab (cy E (aC (ab (af (aa (ae E E (aS E E (ey (b15.ext x20)) (ae E E (an wG E E ((Gc r1)) ?_))))))))))
  rintro v28 _ ⟨rfl,rfl⟩
  refine ak (r:=I (((uv n).length:Nat):Int)) E E E ((Gd (a:=(l.take 10).length) (b:=t.length) (by rw[List.length_take];omega) (by rw[List.length_take];omega))) ?_
  have hcl:(uv n).length≤l.length:=by omega
  refine ac E E (ag (ab (af (af (aa (ae E E (ae E E (aS E E (ey (hv.ext x20)) (ae E E (ak (r:=I ((l.length-(uv n).length:Nat):Int)) E E E ((by have e:((l.length-(uv n).length:Nat):Int)=(l.length:Int)-((uv n).length:Int):=(by omega);rw[e];exact bB (by omega) (by omega))) ?_))))))))))
  refine bc E E (fJ KI KM) (ak E E E (dn (mt (ltN (by omega) hn64).1 (by omega)) cS) (ag ?_))
  refine ab (cy E (aC (ab (af (aa (ae E E (ae E E (bc E E (Hs KM KI (by omega)) ?_))))))))
  refine ak (r:=I (((uv n).length+n:Nat):Int)) E E E (by have e:(((uv n).length+n:Nat):Int)=(((uv n).length:Nat):Int)+(n:Int):=(by omega);rw[e];exact aP (by omega) (by omega)) ?_
  refine ac E E (ag (ab (af ?_)))
  have hd:aJ w20 w20.drew:=(aJ.refl w20).drew
  obtain⟨v45,p45,b45⟩:=sq hv (lo:=(uv n).length) (hi:=(uv n).length+n) (by omega) (by omega) .i64 .i64
  refine fR (aJ w20) 13 E (by kernel_rfl) ?_
  refine cT 0 E E (by kernel_rfl) E hd ?_
  refine cT 1 E E (by kernel_rfl) E hd ?_
  refine cT 2 E E (by kernel_rfl) E hd ?_
  refine cT 3 E E (by kernel_rfl) E hd ?_
  refine C0 4 E E E E E (by kernel_rfl) E hd (fun w' _=>p45 w') ?_
  refine cT 5 E E (by kernel_rfl) E hd ?_
  refine Iy 6 (r:=I (l.length:Int)) E E (by kernel_rfl) E hd (fun w' hw'=>ey (hv.ext (x20.trans hw'))) ?_
  refine cT 7 E E (by kernel_rfl) E hd ?_
  refine Iw 8 (r:=I ((l.length-((uv n).length+n):Nat):Int)) E E E (by kernel_rfl) E hd (fun w' _=>by
   have e:((l.length-((uv n).length+n):Nat):Int)=(l.length:Int)-(((uv n).length+n:Nat):Int):=by omega
   rw[e];exact bB (by omega) (by omega)) ?_
  refine Iw 9 (r:=B (decide (((l.length-((uv n).length+n):Nat):Int)≥8))) E E E (by kernel_rfl) E hd (fun w' _=>iq) ?_
  refine aQ 10 (by kernel_rfl) E (ac E E (aF hd ?_))
  refine aQ 11 (by kernel_rfl) E (ac E E (aF hd ?_))
  refine aQ 12 (by kernel_rfl) E (ac E E (aF hd (fS (by kernel_rfl) ?_)))
  refine ab (aw (j9 E E E E ?_))
  exact⟨_,rfl,x20.drew,by
   unfold vu
   rw[H3 hs hge]
   refine⟨v45,?_,?_⟩
   ·have e1:l.length-(l.drop ((uv n).length+n)).length=(uv n).length+n:=by rw[List.length_drop];omega
    have e2:decide (((l.length-((uv n).length+n):Nat):Int)≥8)=decide (8≤(l.drop ((uv n).length+n)).length):=decide_eq_decide.2 (by rw[List.length_drop];omega)
    rw[e1,e2]
   ·have e3:(l.take ((uv n).length+n)).drop (uv n).length=(l.drop (uv n).length).take n:=by rw[List.drop_take];congr 1;omega
    exact e3▸b45⟩
 ·refine aa (ae E E (an gb E E ((Iz (st:=some (l.take 10)) rr hU)) ?_))
  rintro v20 w20 ⟨g16,rfl,r1⟩
  have x20:=(x17).of_new g16 lg
  refine ae E E (az E E (ce) (az E E (cf) (ac E E (ac E E (ag (ab (af (af (aa (ae E E (ak E E E (cR (by decide) dF) ?_)))))))))))
  refine ag (ab (bg E (af (aa (ac E E (ac E E (ac E E (ag (ab (aw (aD (j9 E E E E ?_))))))))))))
  exact⟨_,rfl,x20,by unfold vu;rw[H1 (yL hU)];exact rfl⟩
end Go.Rl
namespace Go.Rl
open Go.RowKit Go.Proofs
theorem oQ:aH Tryz.prog 41:=⟨_,Tryz.func41,by kernel_rfl,rfl⟩
theorem Ev {b:List UInt8} {k:Nat} (hk:k+8≤b.length):fF b k=decide ((jA (b.take k)).take 8=(b.take (k+8)).drop k):=by
 unfold fF
 rw[decide_eq_true hk,Bool.true_and]
 refine decide_eq_decide.2 ?_
 have e:b.take (k+8)=b.take k++(b.take (k+8)).drop k:=by
  have h:=List.take_append_drop k (b.take (k+8))
  rw[List.take_take,Nat.min_eq_left (by omega)] at h
  exact h.symm
 unfold AW
 constructor
 ·intro h
  rw[e] at h
  exact List.append_cancel_left h
 ·intro h
  rw[h,←e]
theorem Ew {b:List UInt8} {k:Nat}:b.take k++(b.take (k+8)).drop k=b.take (k+8):=by
 have h:=List.take_append_drop k (b.take (k+8))
 rw[List.take_take,Nat.min_eq_left (by omega)] at h
 exact h
theorem oS {w:World} {b:List UInt8} {v:Value} {k gh g7 g1:Nat} (hb:cE b v w) (k7:bA g7 88 [.pointer (some ⟨gh,0,none⟩)] w) (k1:bA g1 22 [v] w) (hh:HA gh (b.take k) (UInt64.ofNat k) w) (hk:k+8≤b.length) (hl:b.length≤4294967296) (hloc:∀A n c,v=.slice A n c→py A gh):
 Calls Tryz.prog 41 #[I (k:Int),.pointer (some ⟨g7,0,none⟩),.pointer (some ⟨g1,0,none⟩)] w (bH fun r w'=>Mv (fun j=>j=gh) w w'∧r=B (fF b k)∧HA gh (b.take (k+8)) (UInt64.ofNat (k+8)) w'):=by
 refine enter (vs:=[I (k:Int),.pointer (some ⟨g7,0,none⟩),.pointer (some ⟨g1,0,none⟩)]) Tryz.func41 E E E ?_
 have hhl:=hh.lt
 have hh0:HA gh (b.take k) (UInt64.ofNat (b.take k).length) w:=by rw[List.length_take,Nat.min_eq_left (by omega)];exact hh
 refine af (aa (ac E E (ag (ab (af (aa ?_))))))
 refine aj E E (ai Lg E k7.k0) ?_
 refine an xj E E ((xk hh0)) ?_
 rintro v8 w8 ⟨x8,rfl⟩
 obtain⟨g5,w5,hr5,l5,x5,k5⟩:=aZ (P:=Tryz.prog) (w:=w8) (t:=24) (l:=(List.replicate 32 0).map U8) kQ rfl
 refine aX E hr5 ?_
 obtain⟨w6,s6,q6,k6⟩:=k5.stS (P:=Tryz.prog) (t:=24) (m:=(jA (b.take k)).map U8) (by simp[dw]) (by rw[List.length_map,dw];exact mO) (iu _)
 refine ax E E s6 ?_
 have x6:=x5.of_new q6 l5
 have b32:cE (jA (b.take k)) (.slice (some ⟨g5,0,none⟩) 32 32) w6:=by
  have:=k6.bts (by rw[dw];omega)
  rwa [dw] at this
 have b8:=b32.front (k:=8) (by omega) (by omega)
 have e6:aJ w w6:=x8.trans x6
 have hb6:=hb.ext e6
 obtain⟨v14,p14,b14⟩:=sq hb6 (lo:=k) (hi:=k+8) (by omega) (by omega) .i64 .i64
 have haw:yQ gh v14:=by
  obtain⟨A,n,c,hveq,_⟩:=hb
  subst hveq
  intro a n' c' e he
  have h:=E2 (p14 w) (hloc _ _ _ rfl) _ _ _ e a rfl
  omega
 refine ag (ab (af (bD 7 [0,1,2,15] (by kernel_rfl) (by kernel_rfl) ?_)))
 refine iV (a:=none) (b:=some (I 8)) E E E E (fun w _=>yY) ?_
 refine aN E E (fun w' hw=>ai KP E ((k1.ext e6).ext hw).k0) (ay E E (ay E E (ba (r:=I ((k+8:Nat):Int)) E E E (fun w _=>by have e:((k+8:Nat):Int)=(k:Int)+8:=(by omega);rw[e];exact aP (by omega) (by omega)) ?_)))
 refine iV (a:=some (I (k:Int))) (b:=some (I ((k+8:Nat):Int))) E E E E (fun w _=>p14 w) ?_
 refine cd (S:=Is (B (fF b k))) An (bG.is _) rfl (fun w hw=>by rintro _ rfl _ rfl;exact bH.mono (Ao (b8.ext hw) (b14.ext hw)) fun v w' h=>⟨h.1,by rw[Ev hk];exact h.2⟩) ?_
 refine cb ?_
 intro wg2 xg2
 rintro _ rfl
 rintro _ rfl
 rintro _ rfl
 rintro _ rfl
 refine ac E E (ag (ab (af (bD 6 [6,16,21] (by kernel_rfl) (by kernel_rfl) ?_))))
 refine aN E E (fun w' hw=>ai Lg E (((k7.ext e6).ext xg2).ext hw).k0) (aN E E (fun w' hw=>ai KP E (((k1.ext e6).ext xg2).ext hw).k0) ?_)
 refine ay E E (ay E E (ba (r:=I ((k+8:Nat):Int)) E E E (fun w _=>by have e:((k+8:Nat):Int)=(k:Int)+8:=(by omega);rw[e];exact aP (by omega) (by omega)) ?_))
 refine iV (a:=some (I (k:Int))) (b:=some (I ((k+8:Nat):Int))) E E E E (fun w _=>p14 w) ?_
 refine cb ?_
 intro wg3 xg3
 rintro _ rfl
 rintro _ rfl
 rintro _ hq21
 obtain rfl:=Eq.symm hq21
 refine an fX E E ((fY (hh.ext ((e6.trans xg2).trans xg3)) (b14.ext (xg2.trans xg3)) fun _=>haw)) ?_
 rintro v22 w22 ⟨g22,h22⟩
 refine ag (ab (af (aa (ae E E (ac E E (ag (ab (aw (av E E ?_)))))))))
 exact⟨_,rfl,(Mv.of_ext ((e6.trans xg2).trans xg3)).trans (Mv.of_grown g22 fun j hj _=>(Option.some.inj hj).symm) fun _ h _=>h,rfl,by
  rw[Ew] at h22
  have e:UInt64.ofNat k+UInt64.ofNat ((b.take (k+8)).drop k).length=UInt64.ofNat (k+8):=by
   have:((b.take (k+8)).drop k).length=8:=by rw[List.length_drop,List.length_take];omega
   rw[this,←UInt64.ofNat_add]
  rw[e] at h22
  exact h22⟩
end Go.Rl
namespace Go.Rl
open Go.RowKit Go.Proofs
theorem Ex:aH Tryz.prog 13:=⟨_,Tryz.func13,by kernel_rfl,rfl⟩
theorem H4 {b:List UInt8} {k n:Nat}:b.take k++(b.take (k+n)).drop k=b.take (k+n):=by
 have h:=List.take_append_drop k (b.take (k+n))
 rw[List.take_take,Nat.min_eq_left (by omega)] at h
 exact h
theorem HA.on {g k n:Nat} {b:List UInt8} {w:World} (hk:k+n≤b.length) (h:HA g (b.take k++(b.take (k+n)).drop k) (UInt64.ofNat k+UInt64.ofNat ((b.take (k+n)).drop k).length) w):HA g (b.take (k+n)) (UInt64.ofNat (k+n)) w:=by
 rw[H4] at h
 have e:UInt64.ofNat k+UInt64.ofNat ((b.take (k+n)).drop k).length=UInt64.ofNat (k+n):=by
  have:((b.take (k+n)).drop k).length=n:=by rw[List.length_drop,List.length_take];omega
  rw[this,←UInt64.ofNat_add]
 rw[e] at h
 exact h
theorem GL {b p t:List UInt8} {k:Nat} (h:ug (b.drop k)=some (p,t)) (he:kW p=none):gD b k=none:=by
 cases hc:fF b (b.length-t.length) with
 |false=>exact vt h hc
 |true=>exact GJ h hc he
theorem GM {b:List UInt8} {k:Nat} (h:b.length<k+8):fF b k=false:=by
 unfold fF;rw[decide_eq_false (by omega)];rfl
theorem ze {b x:List UInt8} {v r:Value} {g:Nat} {w:World} {lo hi mx:Option Value} (hb:cE b v w) (hloc:∀A n c,v=.slice A n c→py A g) (hrun:(Instr.sliceAt 22 v lo hi mx).run Tryz.prog w=.ok r w):0<x.length→yQ g r:=by
 obtain⟨A,n,c,hveq,_⟩:=hb
 subst hveq
 intro _ a n' c' e he
 have h:=E2 hrun (hloc _ _ _ rfl) _ _ _ e a rfl
 omega
theorem H5 {b:List UInt8} {v:Value} {w:World} {g:Nat} (hb:cE b v w) (h0:0<b.length) (hg:w.heap.size≤g):∀A n c,v=.slice A n c→py A g:=by
 obtain⟨A,n,c,rfl,h1,h2,h3,h4,h5⟩:=hb
 intro A' n' c' e ad hA
 cases e
 obtain⟨ad',e',hc⟩:=h4 (by simp at h3;omega)
 rw[hA] at e'
 cases e'
 have:=hc.block_lt (by intro e;simp at e;simp[e] at h0)
 omega
theorem Ky {g:Nat} {m:List UInt8} {tot:UInt64} {w w':World} {X:Nat→Prop} (h:HA g m tot w) (hm:Mv X w w') (hx:¬X g):HA g m tot w':=by
 obtain⟨blk,hc,ht⟩:=h
 exact⟨blk,⟨hm.blk hc.hb hx,hc.ls,hc.lb⟩,ht⟩
theorem Ey {w:World} {b:List UInt8} {v:Value} (hv:cE b v w) (hl:b.length≤7340032):
 Calls Tryz.prog 13 #[v] w (bH fun r w'=>aJ w w'∧ol w.heap.size b r w'):=by
 refine enter (vs:=[v]) Tryz.func13 E E E ?_
 refine af (aa ?_)
 have hvc:v.cells=[v].toArray:=by obtain⟨A,n,c,rfl,_⟩:=hv;rfl
 obtain⟨g1,w1,hr1,l1,x1,k1⟩:=Bz (P:=Tryz.prog) (w:=w) (t:=22) (l:=[v]) hvc
 refine cm E E hr1 ?_
 obtain⟨g2,w2,hr2,l2,x2,k2⟩:=aZ (P:=Tryz.prog) (w:=w1) (t:=24) (l:=vF.map U8) kQ rfl
 refine aX E hr2 ?_
 have g12:g1<g2:=by have:=k1.lt;omega
 have e2:aJ w w2:=x1.trans x2
 have k12:=k1.ext x2
 have hv2:=hv.ext e2
 refine ac E E (ac E E (ac E E (ag (ab (af (aa (ac E E (ag (ab (af (af (aa ?_))))))))))))
 refine aj E E (ai KP E k12.k0) ?_
 refine aS E E (ey hv2) (ae E E (ak (r:=I ((44:Nat):Int)) E E E (by have e:((44:Nat):Int)=36+8:=(by omega);rw[e];exact aP (by omega) (by omega)) ?_))
 refine ak E E E (bb) (ae E E ?_)
 refine cq (fun h20=>?_) (fun h20=>?_)
 ·refine am E E E (am E E E (am E E E (am E E E (ar E E E (ag (ab (bg E (af (aa ?_)))))))))
  refine bj (vs:=[]) (r:=.agg (vF.map U8).toArray) E E (run_build _ _ _ _ (by kernel_rfl)) ?_
  obtain⟨wR,sR,qR,kR⟩:=k2.stS (P:=Tryz.prog) (t:=24) (m:=vF.map U8) rfl oK (iu _)
  refine ax E E sR ?_
  have xR:=aJ.of_new e2 qR (Nat.le_trans x1.size l2)
  refine ac E E (ac E E (ac E E (ag (ab (aw (aD ?_))))))
  refine j0 E E E E E kR K7 E oK ?_
  exact⟨_,rfl,xR,ol.err (by
   first
   |exact .inl (by omega)
   |exact .inr (.inl (by assumption)))⟩
 ·refine al E ?_
  refine aj E E (ai KP E k12.k0) ?_
  refine al E ?_
  obtain⟨v22,p22,b22⟩:=qr hv2 (hi:=4) (by omega) .i64
  refine dl E E E E E (p22 _) (al E (bc E E (J2 b22) (al E (ak (v:=S [82,76,85,74]) E E E (Hf) (aI E E E ?_)))))
  refine ag (ab ?_)
  refine bt E (fun h25=>?_) (fun h25=>?_)
  ·refine af (aa ?_)
   refine bj (vs:=[]) (r:=.agg (vF.map U8).toArray) E E (run_build _ _ _ _ (by kernel_rfl)) ?_
   obtain⟨wR,sR,qR,kR⟩:=k2.stS (P:=Tryz.prog) (t:=24) (m:=vF.map U8) rfl oK (iu _)
   refine ax E E sR ?_
   have xR:=aJ.of_new e2 qR (Nat.le_trans x1.size l2)
   refine ac E E (ac E E (ac E E (ag (ab (aw (aD ?_))))))
   refine j0 E E E E E kR K7 E oK ?_
   exact⟨_,rfl,xR,ol.err (by
    first
    |exact .inl (by omega)
    |exact .inr (.inl (by assumption)))⟩
  ·refine aC (ab (af ?_))
   have h44:44≤b.length:=by omega
   refine aa (an xh E E ((xi _)) ?_)
   rintro v27 w27 ⟨x27,gh,lgh,rfl,hh27⟩
   obtain⟨g7,w7,hr7,l7,x7,k7⟩:=aZ (P:=Tryz.prog) (w:=w27) (t:=88) (z:=.pointer none) (l:=[.pointer none]) (by kernel_rfl) rfl
   refine aX E hr7 ?_
   obtain⟨w8,s8,q8,k8⟩:=k7.stC (P:=Tryz.prog) (t:=88) (i:=0) (v:=.pointer (some ⟨gh,0,none⟩)) (by kernel_rfl) rfl (by simp)
   refine ax E E s8 ?_
   have x8:=aJ.of_new x7 q8 l7
   have k8:bA g7 88 [.pointer (some ⟨gh,0,none⟩)] w8:=k8
   have hh8:=hh27.ext x8
   have e8:aJ w w8:=(e2.trans x27).trans x8
   have hv8:=hv.ext e8
   have k18:=(k12.ext x27).ext x8
   have k28:=(k2.ext x27).ext x8
   have ghlt:=hh27.lt
   have g2lt:=k2.lt
   have g17:g7≠gh:=by omega
   have g1h:g1≠gh:=by omega
   have g2h:g2≠gh:=by omega
   have hgh:w.heap.size≤gh:=by have:=e2.size;omega
   have hloc:=H5 hv (by omega) hgh
   obtain⟨v31,p31,b31⟩:=qr hv8 (hi:=36) (by omega) .i64
   refine ag (ab (af (bD 4 [1,2,6,7,28,31] (by kernel_rfl) (by kernel_rfl) ?_)))
   refine aN E E (fun w' hw=>ai Lg E (k8.ext hw).k0) (aN E E (fun w' hw=>ai KP E (k18.ext hw).k0) ?_)
   refine ay E E ?_
   refine iV (a:=none) (b:=some (I 36)) E E E E (fun w _=>p31 w) ?_
   refine cb ?_
   intro wg5 xg5
   rintro _ rfl
   rintro _ rfl
   rintro _ rfl
   rintro _ rfl
   rintro _ rfl
   rintro _ hq31
   obtain rfl:=Eq.symm hq31
   refine an fX E E ((fY (hh8.ext xg5) (b31.ext xg5) (ze hv8 hloc (p31 _)))) ?_
   rintro v32 w32 ⟨g32,h32⟩
   have hh32:HA gh (b.take 36) (UInt64.ofNat 36) w32:=by
    have e:(0:UInt64)+UInt64.ofNat (b.take 36).length=UInt64.ofNat 36:=by rw[List.length_take,Nat.min_eq_left (by omega)];rfl
    rw[e] at h32
    exact h32
   have m32:Mv (fun j=>j=gh) w8 w32:=(Mv.of_ext xg5).trans (Mv.of_grown g32 fun j hj _=>(Option.some.inj hj).symm) fun _ hj _=>hj
   have k732:=m32.blk k8 g17
   have k132:=m32.blk k18 g1h
   have k232:=m32.blk k28 g2h
   have hv32:=hv.ext (Mv.ext_from m32 e8 fun j hj=>by have:j=gh:=hj;omega)
   refine ag (ab (af (aa ?_)))
   refine A6 (us:=[]) (vs:=[.pointer (some ⟨g7,0,none⟩),.pointer (some ⟨g1,0,none⟩)]) E E E ?_
   refine ac E E (ag (ab (af (af ?_))))
   rcases hC:fF b 36
   ·refine aa (ae E E (ae E E (ly E oQ E E ((by have h:=oS (k:=36) hv32 k732 k132 hh32 (by omega) (by omega) hloc;rw[hC] at h;exact h)) ?_)))
    rintro v36 w36 ⟨m36,rfl,hh36⟩
    have m836:=m32.trans m36 fun _ hj _=>hj
    have k236:=m36.blk k232 g2h
    refine bo E E bu (ag (ab (bg E (af (aa ?_)))))
    refine bj (vs:=[]) (r:=.agg (vF.map U8).toArray) E E (run_build _ _ _ _ (by kernel_rfl)) ?_
    obtain⟨wR,sR,qR,kR⟩:=k236.stS (P:=Tryz.prog) (t:=24) (m:=vF.map U8) rfl oK (iu _)
    refine ax E E sR ?_
    have xR:=aJ.of_new (Mv.ext_from m836 e8 fun j hj=>by have:j=gh:=hj;omega) qR (Nat.le_trans x1.size l2)
    refine ac E E (ac E E (ac E E (ag (ab (aw (aD ?_))))))
    refine j0 E E E E E kR K7 E oK ?_
    exact⟨_,rfl,xR,ol.err (.inr (.inr hC))⟩
   ·refine aa (ae E E (ae E E (ly E oQ E E ((by have h:=oS (k:=36) hv32 k732 k132 hh32 (by omega) (by omega) hloc;rw[hC] at h;exact h)) ?_)))
    rintro v36 w36 ⟨m36,rfl,hh36⟩
    have m836:=m32.trans m36 fun _ hj _=>hj
    have k236:=m36.blk k232 g2h
    have k136:=m36.blk k132 g1h
    have k736:=m36.blk k732 g17
    have e36:aJ w w36:=Mv.ext_from m836 e8 fun j hj=>by have:j=gh:=hj;omega
    have gh36:=hh36.lt
    refine bo E E bu (ag (ab (cy E (aC (ab (af (aa (ae E E (ak (r:=I ((44:Nat):Int)) E E E (by have e:((44:Nat):Int)=36+8:=(by omega);rw[e];exact aP (by omega) (by omega)) ?_)))))))))
    refine ac E E (ag (ab (af ?_)))
    have hOK:¬(b.length<44∨b.take 4≠j6∨fF b 36=false):=by
     rintro(h|h|h)
     ·omega
     ·exact h25 h
     ·rw[hC] at h;cases h
    have s32:(Tryz.prog.info? 24).map (·.size)=some ((((b.take 36).drop 4)).map U8).length:=by rw[List.length_map,List.length_drop,List.length_take,Nat.min_eq_left (by omega)];exact mO
    refine aa (ac E E (ag (ab (af (aE ?_)))))
    refine jx (fun(k:Nat) (ve:Value) (es:List cn)=>[(1,.pointer (some ⟨g1,0,none⟩)),(2,.pointer (some ⟨g2,0,none⟩)),(6,I 36),(7,.pointer (some ⟨g7,0,none⟩)),(8,.func (.func 41) #[] #[.pointer (some ⟨g7,0,none⟩),.pointer (some ⟨g1,0,none⟩)]),(9,I (k:Int)),(10,ve)]) (fun(k:Nat) (ve:Value) (es:List cn) w'=>Mv (fun j=>j=gh) w36 w'∧HA gh (b.take k) (UInt64.ofNat k) w'∧iF 54 10 w36.heap.size mW es ve w'∧44≤k∧k≤b.length∧fM b 44=(es++(fM b k).1,(fM b k).2)∧es.length≤k) (fun(k:Nat) (ve:Value) (es:List cn)=>b.length-k) (44) (.slice none 0 0) ([]) ⟨rfl,rfl,rfl,rfl,rfl,rfl,rfl,trivial⟩ ⟨Mv.refl _ _,hh36,iF.nil _,by omega,by omega,by simp,by simp⟩ ?_
    rintro k ve es wL ⟨mL,hhL,oL,hk1,hk2,hJ,hel⟩
    refine aE (af ?_)
    have szL:=mL.size
    have k1L:=mL.blk k136 g1h
    have k2L:=mL.blk k236 g2h
    have k7L:=mL.blk k736 g17
    have eL:aJ w wL:=Mv.ext_from mL e36 fun j hj=>by have:j=gh:=hj;omega
    have hvL:=hv.ext eL
    have hdl:(b.drop k).length=b.length-k:=List.length_drop
    obtain⟨v44,p44,b44⟩:=qq hvL (lo:=k) (by omega) .i64
    have hrec:=B0 b44 (by omega)
    rcases hB:ug (b.drop k) with _|⟨p,t⟩
    rotate_left
    have hbl:=Jj hB
    rcases Nat.lt_or_ge t.length 8 with h8|h8
    ·simp only[vu,hB,decide_eq_false (Nat.not_le.2 h8)] at hrec
     refine aa ?_
     refine aj E E (ai KP E k1L.k0) ?_
     refine ae E E ?_
     refine dl E E E E E (p44 _) ?_
     refine an p9 E E (hrec) ?_
     rintro v45 w45 ⟨x45,vp,rfl,bp⟩
     refine ae E E (az E E (fg) (az E E (fh) (az E E (fi) (ac E E (ac E E (ac E E (ag ?_)))))))
     refine ab (af (af (aa (ae E E (bo E E bu (ag (ab (bg E (be (aK (vM E (aK (bf (ab (af ?_)))))))))))))))
     have mX:=Mv.of_ext (X:=fun j=>j=gh) x45
     have hfin:=HT hJ (vt hB (GM (by omega)))
     have k1X:=mX.blk k1L g1h
     have k2X:=mX.blk k2L g2h
     have eX:=Mv.ext_from mX eL fun j hj=>by have:j=gh:=hj;omega
     obtain⟨v84,p84,b84⟩:=sq (hv.ext eX) (lo:=4) (hi:=36) (by omega) (by omega) .i64 .i64
     have l84:((b.take 36).drop 4).length=32:=by rw[List.length_drop,List.length_take];omega
     obtain⟨ad,p85,c85⟩:=CP b84 l84
     obtain⟨wR,sR,qR,kR⟩:=k2X.stS (P:=Tryz.prog) (t:=24) (m:=((b.take 36).drop 4).map U8) (by rw[List.length_map,List.length_map,l84];rfl) s32 (iu _)
     have eR:=aJ.of_new eX qR (Nat.le_trans x1.size l2)
     have oR:=(oL.mv mX fun j hj=>by have:j=gh:=hj;omega).mv (Mv.of_grown (X:=fun j=>j=g2) qR fun j hj _=>(Option.some.inj hj).symm) fun j hj=>by have:j=g2:=hj;have:=k236.lt;omega
     refine aa ?_
     refine aj E E (ai KP E k1X.k0) ?_
     refine ae E E ?_
     refine dl E E E E E (p84 _) ?_
     refine ow E E (p85 _) ?_
     refine aj E E (tA c85 l84) ?_
     refine ae E E (ae E E ?_)
     refine ax E E sR ?_
     refine ac E E (ac E E (ac E E (ag (ab (aw ?_)))))
     refine j0 E E E E E kR K7 E s32 ?_
     exact⟨_,rfl,eR,ol.ok hOK hfin ((oR.rpx dN (by omega)).weak fun j hj=>.inl (by show j<w36.heap.size;have:=e36.size;omega))⟩
    ·simp only[vu,hB,decide_eq_true h8] at hrec
     have ekn:k+((b.drop k).length-t.length)=b.length-t.length:=by omega
     refine aa ?_
     refine aj E E (ai KP E k1L.k0) ?_
     refine ae E E ?_
     refine dl E E E E E (p44 _) ?_
     refine an p9 E E (hrec) ?_
     rintro v45 w45 ⟨x45,vp,rfl,bp⟩
     refine ae E E (az E E (fg) (az E E (fh) (az E E (fi) (ac E E (ac E E (ac E E (ag ?_)))))))
     refine ab (af (af (aa (ae E E (bo E E bu (ag (ab (cy E (aC (ab (af (aa (ae E E (an BY E E ((BZ (bp.ext x45) (by omega))) ?_))))))))))))))
     rintro v53 w53 ⟨x53,u,cs,ok,rfl,rp53,h1cs,hok1,hok2⟩
     refine ae E E (az E E (ce) (az E E (cf) ?_))
     obtain⟨g14,w14,hr14,l14,x14,k14⟩:=aZ (P:=Tryz.prog) (w:=w53) (t:=54) (z:=.agg #[.slice none 0 0,.slice none 0 0,I 0,I 0,B false,.slice none 0 0,.slice none 0 0,.slice none 0 0,B false,.slice none 0 0]) (l:=[.slice none 0 0,.slice none 0 0,I 0,I 0,B false,.slice none 0 0,.slice none 0 0,.slice none 0 0,B false,.slice none 0 0]) (by kernel_rfl) rfl
     refine aX E hr14 ?_
     have hcs:cs.length=10:=rp53.len.trans (dN u)
     obtain⟨wE,sE,qE,kE⟩:=k14.stS (P:=Tryz.prog) (t:=54) (m:=cs) (by rw[hcs];rfl) (by rw[hcs];kernel_rfl) h1cs
     refine ax E E sE ?_
     have xE:=aJ.of_new x14 qE l14
     have eLE:aJ wL wE:=(x45.trans x53).trans xE
     have rpE:=rp53.ext xE
     have k7E:=k7L.ext eLE
     have k1E:=k1L.ext eLE
     have hhE:=hhL.ext eLE
     have hvE:=hvL.ext eLE
     have s45:=x45.size
     have g14h:g14≠gh:=by have:=x53.size;have:=mL.size;omega
     obtain⟨v62,p62,b62⟩:=sq hvE (lo:=k) (hi:=k+((b.drop k).length-t.length)) (by omega) (by omega) .i64 .i64
     refine ac E E (ag (ab (af ?_)))
     rcases hok:ok
     ·subst hok
      refine bD 7 [1,2,6,7,8,9,10,11,13,14,56,62] (by kernel_rfl) (by kernel_rfl) ?_
      refine aN E E (fun w' hw=>ai Lg E (k7E.ext hw).k0) (aN E E (fun w' hw=>ai KP E (k1E.ext hw).k0) ?_)
      refine ay E E (ay E E (ay E E (ba (r:=I ((k+((b.drop k).length-t.length):Nat):Int)) E E E (fun w _=>by have e:((k+((b.drop k).length-t.length):Nat):Int)=(k:Int)+(((b.drop k).length-t.length):Nat):=(by omega);rw[e];exact aP (by omega) (by omega)) ?_)))
      refine iV (a:=some (I (k:Int))) (b:=some (I ((k+((b.drop k).length-t.length):Nat):Int))) E E E E (fun w _=>p62 w) ?_
      refine cb ?_
      intro wg14 xg14
      rintro _ rfl
      rintro _ rfl
      rintro _ rfl
      rintro _ rfl
      rintro _ rfl
      rintro _ rfl
      rintro _ hq10
      obtain rfl:=Eq.symm hq10
      rintro _ rfl
      rintro _ rfl
      rintro _ rfl
      rintro _ rfl
      rintro _ hq62
      obtain rfl:=Eq.symm hq62
      refine an fX E E ((fY (hhE.ext xg14) (b62.ext xg14) (ze hvE hloc (p62 _)))) ?_
      rintro v63 w63 ⟨g63,h63⟩
      have hh63:=HA.on (by omega) h63
      have m63:Mv (fun j=>j=gh) wL w63:=(Mv.of_ext (eLE.trans xg14)).trans (Mv.of_grown g63 fun j hj _=>(Option.some.inj hj).symm) fun _ hj _=>hj
      have mE63:Mv (fun j=>j=gh) wE w63:=(Mv.of_ext xg14).trans (Mv.of_grown g63 fun j hj _=>(Option.some.inj hj).symm) fun _ hj _=>hj
      have k763:=m63.blk k7L g17
      have k163:=m63.blk k1L g1h
      have hv63:=hv.ext (Mv.ext_from m63 eL fun j hj=>by have:j=gh:=hj;omega)
      refine ag (ab (af (af (aa (ae E E (bo E E bu (ae E E (am E E E (am E E E (am E E E (am E E E (am E E E ?_))))))))))))
      refine am E E E (ar E E E (ag (ab (bg E (be (aK (vM E (aK (bf (ab (af ?_)))))))))))
      have mX:=m63
      have hfin:=HT hJ (GL hB (hok2 rfl))
      have k1X:=mX.blk k1L g1h
      have k2X:=mX.blk k2L g2h
      have eX:=Mv.ext_from mX eL fun j hj=>by have:j=gh:=hj;omega
      obtain⟨v84,p84,b84⟩:=sq (hv.ext eX) (lo:=4) (hi:=36) (by omega) (by omega) .i64 .i64
      have l84:((b.take 36).drop 4).length=32:=by rw[List.length_drop,List.length_take];omega
      obtain⟨ad,p85,c85⟩:=CP b84 l84
      obtain⟨wR,sR,qR,kR⟩:=k2X.stS (P:=Tryz.prog) (t:=24) (m:=((b.take 36).drop 4).map U8) (by rw[List.length_map,List.length_map,l84];rfl) s32 (iu _)
      have eR:=aJ.of_new eX qR (Nat.le_trans x1.size l2)
      have oR:=(oL.mv mX fun j hj=>by have:j=gh:=hj;omega).mv (Mv.of_grown (X:=fun j=>j=g2) qR fun j hj _=>(Option.some.inj hj).symm) fun j hj=>by have:j=g2:=hj;have:=k236.lt;omega
      refine aa ?_
      refine aj E E (ai KP E k1X.k0) ?_
      refine ae E E ?_
      refine dl E E E E E (p84 _) ?_
      refine ow E E (p85 _) ?_
      refine aj E E (tA c85 l84) ?_
      refine ae E E (ae E E ?_)
      refine ax E E sR ?_
      refine ac E E (ac E E (ac E E (ag (ab (aw ?_)))))
      refine j0 E E E E E kR K7 E s32 ?_
      exact⟨_,rfl,eR,ol.ok hOK hfin ((oR.rpx dN (by omega)).weak fun j hj=>.inl (by show j<w36.heap.size;have:=e36.size;omega))⟩
     ·subst hok
      have hent:=hok1 rfl
      refine bD 7 [1,2,6,7,8,9,10,11,13,14,56,62] (by kernel_rfl) (by kernel_rfl) ?_
      refine aN E E (fun w' hw=>ai Lg E (k7E.ext hw).k0) (aN E E (fun w' hw=>ai KP E (k1E.ext hw).k0) ?_)
      refine ay E E (ay E E (ay E E (ba (r:=I ((k+((b.drop k).length-t.length):Nat):Int)) E E E (fun w _=>by have e:((k+((b.drop k).length-t.length):Nat):Int)=(k:Int)+(((b.drop k).length-t.length):Nat):=(by omega);rw[e];exact aP (by omega) (by omega)) ?_)))
      refine iV (a:=some (I (k:Int))) (b:=some (I ((k+((b.drop k).length-t.length):Nat):Int))) E E E E (fun w _=>p62 w) ?_
      refine cb ?_
      intro wg14 xg14
      rintro _ rfl
      rintro _ rfl
      rintro _ rfl
      rintro _ rfl
      rintro _ rfl
      rintro _ rfl
      rintro _ hq10
      obtain rfl:=Eq.symm hq10
      rintro _ rfl
      rintro _ rfl
      rintro _ rfl
      rintro _ rfl
      rintro _ hq62
      obtain rfl:=Eq.symm hq62
      refine an fX E E ((fY (hhE.ext xg14) (b62.ext xg14) (ze hvE hloc (p62 _)))) ?_
      rintro v63 w63 ⟨g63,h63⟩
      have hh63:=HA.on (by omega) h63
      have m63:Mv (fun j=>j=gh) wL w63:=(Mv.of_ext (eLE.trans xg14)).trans (Mv.of_grown g63 fun j hj _=>(Option.some.inj hj).symm) fun _ hj _=>hj
      have mE63:Mv (fun j=>j=gh) wE w63:=(Mv.of_ext xg14).trans (Mv.of_grown g63 fun j hj _=>(Option.some.inj hj).symm) fun _ hj _=>hj
      have k763:=m63.blk k7L g17
      have k163:=m63.blk k1L g1h
      have hv63:=hv.ext (Mv.ext_from m63 eL fun j hj=>by have:j=gh:=hj;omega)
      refine ag (ab (af (af ?_)))
      rcases hC2:fF b (b.length-t.length)
      ·refine aa (ae E E (bo E E bu (ae E E (al E (ae E E (al E (ae E E (al E (ae E E (al E (ak (r:=I ((k+((b.drop k).length-t.length):Nat):Int)) E E E (by have e:((k+((b.drop k).length-t.length):Nat):Int)=(k:Int)+(((b.drop k).length-t.length):Nat):=(by omega);rw[e];exact aP (by omega) (by omega)) ?_)))))))))))
       refine al E (ly E oQ E E ((by have h:=oS (k:=k+((b.drop k).length-t.length)) hv63 k763 k163 hh63 (by omega) (by omega) hloc;rw[ekn,hC2] at h;rw[ekn];exact h)) ?_)
       rintro v71 w71 ⟨m71,rfl,hh71⟩
       refine al E (bo E E bu (aI E E E (ag (ab (bg E (be (aK (vM E (aK (bf (ab (af ?_))))))))))))
       have mX:=m63.trans m71 fun _ hj _=>hj
       have hfin:=HT hJ (vt hB hC2)
       have k1X:=mX.blk k1L g1h
       have k2X:=mX.blk k2L g2h
       have eX:=Mv.ext_from mX eL fun j hj=>by have:j=gh:=hj;omega
       obtain⟨v84,p84,b84⟩:=sq (hv.ext eX) (lo:=4) (hi:=36) (by omega) (by omega) .i64 .i64
       have l84:((b.take 36).drop 4).length=32:=by rw[List.length_drop,List.length_take];omega
       obtain⟨ad,p85,c85⟩:=CP b84 l84
       obtain⟨wR,sR,qR,kR⟩:=k2X.stS (P:=Tryz.prog) (t:=24) (m:=((b.take 36).drop 4).map U8) (by rw[List.length_map,List.length_map,l84];rfl) s32 (iu _)
       have eR:=aJ.of_new eX qR (Nat.le_trans x1.size l2)
       have oR:=(oL.mv mX fun j hj=>by have:j=gh:=hj;omega).mv (Mv.of_grown (X:=fun j=>j=g2) qR fun j hj _=>(Option.some.inj hj).symm) fun j hj=>by have:j=g2:=hj;have:=k236.lt;omega
       refine aa ?_
       refine aj E E (ai KP E k1X.k0) ?_
       refine ae E E ?_
       refine dl E E E E E (p84 _) ?_
       refine ow E E (p85 _) ?_
       refine aj E E (tA c85 l84) ?_
       refine ae E E (ae E E ?_)
       refine ax E E sR ?_
       refine ac E E (ac E E (ac E E (ag (ab (aw ?_)))))
       refine j0 E E E E E kR K7 E s32 ?_
       exact⟨_,rfl,eR,ol.ok hOK hfin ((oR.rpx dN (by omega)).weak fun j hj=>.inl (by show j<w36.heap.size;have:=e36.size;omega))⟩
      ·refine aa (ae E E (bo E E bu (ae E E (al E (ae E E (al E (ae E E (al E (ae E E (al E (ak (r:=I ((k+((b.drop k).length-t.length):Nat):Int)) E E E (by have e:((k+((b.drop k).length-t.length):Nat):Int)=(k:Int)+(((b.drop k).length-t.length):Nat):=(by omega);rw[e];exact aP (by omega) (by omega)) ?_)))))))))))
       refine al E (ly E oQ E E ((by have h:=oS (k:=k+((b.drop k).length-t.length)) hv63 k763 k163 hh63 (by omega) (by omega) hloc;rw[ekn,hC2] at h;rw[ekn];exact h)) ?_)
       rintro v71 w71 ⟨m71,rfl,hh71⟩
       refine al E (bo E E bu (aI E E E (ag (ab (cy E (aC (ab (af ?_))))))))
       have hst:=HS hB hC2 hent
       obtain⟨_,_,_,_,_,_,hk9,hkb⟩:=rZ hst
       have mE71:=mE63.trans m71 fun _ hj _=>hj
       have m71L:=m63.trans m71 fun _ hj _=>hj
       have kE71:=mE71.blk kE g14h
       have oE:=oL.mv m71L fun j hj=>by have:j=gh:=hj;omega
       have own:∀j,ve.ownBlock=some j→w36.heap.size≤j∧j<wL.heap.size:=oL.lt
       have rp71:=rpE.mv (mE71.weak fun j hj _=>by have:j=gh:=hj;show j<w45.heap.size;have:=mL.size;omega) fun _ hj=>.inl hj
       obtain⟨x76,w76,v77,w77,hr76,hr77,o77,m77,n77⟩:=oE.push (ty:=25) (t:=25) K3 GH rfl (by omega) (by omega) (by omega) h1cs (rp71.weak fun j hj=>.inl (by
        show j<w45.heap.size
        rcases hj with hj|hj
        ·have:=mL.size;omega
        ·have:=(own j hj).2;omega)) dN (by omega) (Nat.le_trans szL m71L.size)
       refine aa (ae E E ?_)
       refine aj E E (kE71.ld KK E (by rw[hcs];kernel_rfl)) ?_
       refine aG (vs:=[(0,.agg cs.toArray)]) E E hr76 ?_
       refine aW E E hr77 ?_
       refine ac E E (ag (ab (aa (ae E E (ae E E (ak (r:=I ((((b.drop k).length-t.length)+8:Nat):Int)) E E E (by have e:((((b.drop k).length-t.length)+8:Nat):Int)=(((b.drop k).length-t.length):Nat)+8:=(by omega);rw[e];exact aP (by omega) (by omega)) ?_))))))
       refine ak (r:=I ((k+(((b.drop k).length-t.length)+8):Nat):Int)) E E E (by have e:((k+(((b.drop k).length-t.length)+8):Nat):Int)=(k:Int)+((((b.drop k).length-t.length)+8:Nat):Int):=(by omega);rw[e];exact aP (by omega) (by omega)) ?_
       refine ac E E (ag (aR ?_))
       refine gz (k+(((b.drop k).length-t.length)+8)) (v77) (es++[u]) ⟨rfl,rfl,rfl,rfl,rfl,rfl,rfl,trivial⟩ ⟨(mL.trans m71L fun _ hj _=>hj).trans m77 fun j hj hlt=>by have:=(own j hj).1;omega,(by
        have e:k+(((b.drop k).length-t.length)+8)=b.length-t.length+8:=by omega
        rw[e]
        exact Ky hh71 m77 fun hj=>by have:=(own gh hj).1;omega),o77,by omega,by omega,by
        have e:k+(((b.drop k).length-t.length)+8)=b.length-t.length+8:=by omega
        rw[hJ,e,vg hst];simp,by simp;omega⟩ (by omega)
    ·simp only[vu,hB] at hrec
     refine aa ?_
     refine aj E E (ai KP E k1L.k0) ?_
     refine ae E E ?_
     refine dl E E E E E (p44 _) ?_
     refine an p9 E E (hrec) ?_
     rintro v45 w45 ⟨x45,rfl⟩
     refine ae E E (az E E (fg) (az E E (fh) (az E E (fi) (ac E E (ac E E (ac E E (ag ?_)))))))
     refine ab (af (af (aa (ae E E (bo E E bu (ag (ab (bg E (be (aK (vM E (aK (bf (ab (af ?_)))))))))))))))
     have mX:=Mv.of_ext (X:=fun j=>j=gh) x45
     have hfin:=HT hJ (GI hB)
     have k1X:=mX.blk k1L g1h
     have k2X:=mX.blk k2L g2h
     have eX:=Mv.ext_from mX eL fun j hj=>by have:j=gh:=hj;omega
     obtain⟨v84,p84,b84⟩:=sq (hv.ext eX) (lo:=4) (hi:=36) (by omega) (by omega) .i64 .i64
     have l84:((b.take 36).drop 4).length=32:=by rw[List.length_drop,List.length_take];omega
     obtain⟨ad,p85,c85⟩:=CP b84 l84
     obtain⟨wR,sR,qR,kR⟩:=k2X.stS (P:=Tryz.prog) (t:=24) (m:=((b.take 36).drop 4).map U8) (by rw[List.length_map,List.length_map,l84];rfl) s32 (iu _)
     have eR:=aJ.of_new eX qR (Nat.le_trans x1.size l2)
     have oR:=(oL.mv mX fun j hj=>by have:j=gh:=hj;omega).mv (Mv.of_grown (X:=fun j=>j=g2) qR fun j hj _=>(Option.some.inj hj).symm) fun j hj=>by have:j=g2:=hj;have:=k236.lt;omega
     refine aa ?_
     refine aj E E (ai KP E k1X.k0) ?_
     refine ae E E ?_
     refine dl E E E E E (p84 _) ?_
     refine ow E E (p85 _) ?_
     refine aj E E (tA c85 l84) ?_
     refine ae E E (ae E E ?_)
     refine ax E E sR ?_
     refine ac E E (ac E E (ac E E (ag (ab (aw ?_)))))
     refine j0 E E E E E kR K7 E s32 ?_
     exact⟨_,rfl,eR,ol.ok hOK hfin ((oR.rpx dN (by omega)).weak fun j hj=>.inl (by show j<w36.heap.size;have:=e36.size;omega))⟩
end Go.Rl
namespace Go.Rl
open Go.RowKit Go.Proofs
theorem GN {P:Program} {w:World} {a b c d:Value}:(Instr.extract (.tuple #[a,b,c,d]) 0).run P w=.ok a w:=rfl
theorem GO {P:Program} {w:World} {a b c d:Value}:(Instr.extract (.tuple #[a,b,c,d]) 1).run P w=.ok b w:=rfl
theorem GP {P:Program} {w:World} {a b c d:Value}:(Instr.extract (.tuple #[a,b,c,d]) 2).run P w=.ok c w:=rfl
theorem GQ {P:Program} {w:World} {a b c d:Value}:(Instr.extract (.tuple #[a,b,c,d]) 3).run P w=.ok d w:=rfl
def JH (b:List UInt8) (u:cn) (r:Value) (w':World):Prop:=∃v,r=.tuple #[v,I (JA b u).2]∧cE (JA b u).1 v w'
end Go.Rl

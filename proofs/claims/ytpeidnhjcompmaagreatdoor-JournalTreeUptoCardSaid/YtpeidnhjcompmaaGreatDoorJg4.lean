/- Part 4 of a proof: plain facts and walks of functions, merged by a program. Conditions: each lemma names its own. -/
import Derived.Test.YtpeidnhjcompmaaGreatDoorJg3
namespace Go.Rl
open Go.RowKit Go.Proofs
theorem JY:(Tryz.prog.info? 224).map (·.size)=some 4:=by kernel_rfl
theorem JZ:(Tryz.prog.info? 3).map (·.size)=some 1:=by kernel_rfl
theorem BR.sE {b:Nat} {T:TypeId} {l:List Value}:bO (BR b T l):=fun _ _ _ ⟨g5,h1,h2,h3⟩ hm=>⟨g5,h1,h2,h3.ext hm⟩
def j5 (m:cp):List Int:=[m.kd,m.ix,m.lo,m.hi]
theorem sG (m:cp):gy m=(j5 m).flatMap de++gw m.co:=by simp[gy,j5,List.append_assoc]
theorem GV {l:List Int} {k:Nat} (hk:k<l.length):(l.take (k+1)).flatMap de=(l.take k).flatMap de++de l[k]:=by
 rw[List.take_succ_eq_append_getElem hk,List.flatMap_append]
 simp
theorem EK {l:List Int} {k:Nat} (hk:k<l.length):(l.map I)[k]? =some (I l[k]):=by simp[hk]
theorem vx {w:World} {b:List UInt8} {bv v:Value} {l:List cp} (hb:cK b bv w) (hd:cd bK l v w) (hw:wP l) (hl:b.length+(jE l).length≤4398046511104):
 Calls Tryz.prog 107 #[bv,v] w (bN fun r w'=>aH w w'∧cK (b++jE l) r w'):=by
 refine enter (vs:=[bv,v]) Tryz.func107 E E E ?_
 have hll:=hd.len
 have hpl:(jE l).length=(uv l.length).length+(l.flatMap gy).length:=by simp only[jE,List.length_append]
 have hun:(UInt64.ofNat l.length).toNat=l.length:=by rw[UInt64.toNat_ofNat'];omega
 refine af (aa (ac E E (ag (ab (af (aa (ae E E (ae E E (aV E E (aY Ly hd) (bb E E (fO Lo Lp) ?_))))))))))
 refine an ei E E ((ej (n:=UInt64.ofNat l.length) hb (by omega))) ?_
 rintro v12 w12 ⟨x12,o12⟩
 rw[hun] at o12
 have b12:=o12.bts
 refine ac E E (ag (ab (af (af (aa (ac E E (ag (ab (aG ?_)))))))))
 refine eu (fun(i:Nat) (u:Value)=>[(0,u),(1,v),(5,I (i:Int))]) (fun(i:Nat) (u:Value) w'=>aH w w'∧i≤l.length∧cK (b++uv l.length++(l.take i).flatMap gy) u w') (fun(i:Nat) (u:Value)=>l.length-i) (0) (v12) ⟨rfl,rfl,rfl,trivial⟩ ⟨x12,by omega,by simpa using b12⟩ ?_
 rintro i u wL ⟨eL,hi,bL⟩
 refine af (af (aa (ae E E (ae E E (aV E E (aY Ly (hd.ext eL)) (al E E E (a6) (ag (ab ?_))))))))
 refine bu E (fun h16=>?_) (fun h16=>?_)
 ·refine aC (ab (af (aG (af ?_))))
  obtain⟨pre,hpre⟩:∃pre,pre=b++uv l.length++(l.take i).flatMap gy:=⟨_,rfl⟩
  have hprl:pre.length=b.length+(uv l.length).length+((l.take i).flatMap gy).length:=by rw[hpre];simp only[List.length_append]
  rw[←hpre] at bL
  refine bP 26 [0,1,5,6,43] (by kernel_rfl) (by kernel_rfl) ?_
  refine ax (S:=Is (v)) E E (ax (S:=Is (I (i:Int))) E E ?_)
  obtain⟨a21,c21,p21,q21,h21⟩:=cb (P:=Tryz.prog) (sz:=7) Ly (by kernel_rfl) dC (by omega) (hd.ext eL) (i:=i) (by omega) .i64
  obtain⟨e21,he21⟩:∃e,e=l[i]'(by omega):=⟨_,rfl⟩
  rw[←he21] at h21
  obtain⟨x21_0,x21_1,rfl,f21_0,f21_1⟩:=fI h21
  refine aD E E E (fun w _=>p21 w) ?_
  have hm:=hw e21 (by rw[he21];exact List.getElem_mem _)
  have hfl:=fo (f:=gy) (l:=l) (i:=i) (by omega)
  rw[←he21] at hfl
  have hml:(gy e21).length=(de e21.kd).length+(de e21.ix).length+(de e21.lo).length+(de e21.hi).length+(gw e21.co).length:=by simp only[gy,List.length_append]
  refine aX E E (fun w hw=>gt (o:=0) LF E (by kernel_rfl) E) (aX E E (fun w hw=>gt (o:=0) LL E (by kernel_rfl) E) ?_)
  refine aQ E E (fun w hw=>ai Lo E (hw.cell_some (q21.at (j:=0) E))) (ax (S:=Is (v)) E E (ax (S:=Is (I (i:Int))) E E ?_))
  refine aD E E E (fun w _=>p21 w) (aX E E (fun w hw=>gt (o:=0) LF E (by kernel_rfl) E) (aX E E (fun w hw=>gt (o:=1) LL E (by kernel_rfl) E) ?_))
  refine aQ E E (fun w hw=>ai Lo E (hw.cell_some (q21.at (j:=1) E))) (ax (S:=Is (v)) E E (ax (S:=Is (I (i:Int))) E E ?_))
  refine aD E E E (fun w _=>p21 w) (aX E E (fun w hw=>gt (o:=0) LF E (by kernel_rfl) E) (aX E E (fun w hw=>gt (o:=2) LL E (by kernel_rfl) E) ?_))
  refine aQ E E (fun w hw=>ai Lo E (hw.cell_some (q21.at (j:=2) E))) (ax (S:=Is (v)) E E (ax (S:=Is (I (i:Int))) E E ?_))
  refine aD E E E (fun w _=>p21 w) (aX E E (fun w hw=>gt (o:=0) LF E (by kernel_rfl) E) (aX E E (fun w hw=>gt (o:=3) LL E (by kernel_rfl) E) ?_))
  refine aQ rfl rfl (fun w hw=>ai Lo rfl (hw.cell_some (q21.at (j:=3) rfl))) (oX (S:=Is (.agg #[I e21.kd,I e21.ix,I e21.lo,I e21.hi])) (bO.is _) rfl (fun w' hw=>by rintro _ rfl _ rfl _ rfl _ rfl;exact⟨_,w',run_build _ _ _ _ (by kernel_rfl),aH.refl _,rfl⟩) ?_)
  refine HG (S:=BR wL.heap.size 224 [I 0,I 0,I 0,I 0]) BR.sE E (fun w' hw=>JL (z:=.agg #[I 0,I 0,I 0,I 0]) (by kernel_rfl) E hw.size) ?_
  refine cn ?_
  intro wg5 xg5
  rintro _ hq0
  obtain rfl:=Eq.symm hq0
  rintro _ hq1
  obtain rfl:=Eq.symm hq1
  rintro _ rfl
  intro vg6 b6
  rintro _ rfl
  obtain⟨g6,rfl,hg6,k6⟩:=b6
  obtain⟨wd,sd,qd,kd0⟩:=k6.stS (P:=Tryz.prog) (t:=224) (m:=[I e21.kd,I e21.ix,I e21.lo,I e21.hi]) rfl JY (ap.cons rfl (ap.cons rfl (ap.cons rfl (ap.cons rfl ap.nil))))
  have kd:bQ g6 224 ((j5 e21).map I) wd:=kd0
  refine ay E E sd ?_
  have xd:=aH.of_new xg5 qd hg6
  have bd:=bL.ext xd
  refine ag (ab (af (af (aa (ac E E (ag (ab (aG ?_))))))))
  refine eu (fun(k:Nat) (u2:Value)=>[(0,u2),(1,v),(5,I (i:Int)),(6,.pointer (some ⟨g6,0,none⟩)),(7,I (k:Int))]) (fun(k:Nat) (u2:Value) w'=>aH wd w'∧k≤4∧cK (pre++((j5 e21).take k).flatMap de) u2 w') (fun(k:Nat) (u2:Value)=>4-k) (0) (u) ⟨rfl,rfl,rfl,rfl,rfl,trivial⟩ ⟨aH.refl _,by omega,by simpa using bd⟩ ?_
  rintro k u2 wM ⟨eM,hk4,bM⟩
  refine af (af (aa (ae E E (al E E E (a6) (ag (ab ?_))))))
  refine bu E (fun h45=>?_) (fun h45=>?_)
  ·have hk4':k<4:=by omega
   have hlen4:(j5 e21).length=4:=rfl
   have hi64:kY (j5 e21)[k]:=by
    have h4:=Jg hm.1 hm.2.1 hm.2.2.1 hm.2.2.2
    exact h4 _ (List.getElem_mem (l:=j5 e21) (by omega))
   have hfl2:=ql (f:=de) (j5 e21) k
   have hme:=congrArg List.length (sG e21)
   rw[List.length_append] at hme
   refine aC (ab (af (aG (aa (ae E E (ae E E ?_))))))
   refine ar E E E (iz Tryz.underlying224 JZ (i:=k) hk4' .i64) ?_
   have c50:(wM).cell? ⟨g6,0+k,none⟩=some (I (j5 e21)[k]):=by rw[Nat.zero_add];exact(kd.ext eM).cell (EK (by omega))
   refine aj E E (ai Tryz.underlying3 E c50) (an gM E E ((gN (n:=(j5 e21)[k]) bM (by simp only[List.length_append];omega) hi64.1 hi64.2)) ?_)
   rintro v52 w52 ⟨x52,o52⟩
   have b52:=o52.bts
   refine ac E E (ag (aW (ab (aa (ae E E (al (r:=I ((k+1:Nat):Int)) E E E (by have e:((k+1:Nat):Int)=(k:Int)+1:=(by omega);rw[e];exact aR (by omega) (by omega)) ?_))))))
   refine ac E E (ag ?_)
   refine c6 (k+1) (v52) ⟨rfl,rfl,rfl,rfl,rfl,trivial⟩ ⟨(eM.trans x52),by omega,by rw[GV (by omega),←List.append_assoc];exact b52⟩ (by omega)
  ·refine bc (aK (aK (bf (ab (aa (ae E E (ae E E (ae E E ?_))))))))
   have hk:k=4:=by omega
   subst hk
   have hqa:=lO e21.co
   refine ar rfl rfl rfl (p21 _) (ah rfl rfl (gt (o:=4) Tryz.underlying187 rfl (by kernel_rfl) rfl) (aj rfl rfl ((q21.ext (xd.trans eM)).ldO (ms:=[B e21.co.1,x21_0,x21_1]) (o:=4) (fun j v hj=>by rcases j with _|_|_|_|_|_|_|_|_|j<;>simp_all) Tryz.underlying46 rfl (by kernel_rfl)) ?_))
   refine an jo E E ((jp bM (du.mk (f21_0.ext (xd.trans eM)) (f21_1.ext (xd.trans eM))) (by
 have hme:=congrArg List.length (sG e21)
 rw[List.length_append] at hme
 have h4:(j5 e21).take 4=j5 e21:=rfl
 simp only[h4,List.length_append];omega))) ?_
   rintro v59 w59 ⟨x59,o59⟩
   have b59:=o59.bts
   refine ac E E (ag (aW (ab (aa (ae E E (al (r:=I ((i+1:Nat):Int)) E E E (by have e:((i+1:Nat):Int)=(i:Int)+1:=(by omega);rw[e];exact aR (by omega) (by omega)) ?_))))))
   refine ac E E (ag ?_)
   refine c6 (i+1) (v59) ⟨rfl,rfl,rfl,trivial⟩ ⟨(((eL.trans xd).trans eM).trans x59),by omega,by
    have h:cK (pre++((j5 e21).take 4).flatMap de++gw e21.co) v59 w59:=b59
    have h4:(j5 e21).take 4=j5 e21:=rfl
    rw[df (by omega),←he21,sG,←List.append_assoc,←List.append_assoc,←hpre,←h4]
    exact h⟩ (by omega)
 ·refine bc (aK (aK (bf (ab (af (aa (ae E E (ac E E (ag (ab (aw (au E E ?_))))))))))))
  exact⟨_,rfl,eL,by
   rw[List.take_of_length_le (by omega),List.append_assoc] at bL
   exact bL⟩
theorem ry (b:Bool):(xq b).length=1:=by cases b<;>rfl
theorem Cb {w:World} {b:List UInt8} {bv:Value} {n:aP} {vl x y vk vp:Value}
 (ih:∀k∈n.kids,∀{w:World} {b:List UInt8} {bv vl x y vk vp:Value},cK b bv w→cd cP k.lems vl w→bk k.split.at_.2.1 x w→bk k.split.at_.2.2 y w→cd bh k.kids vk w→cd bK k.pf vp w→wN k→b.length+(dt k).length≤4398046511104→
   Calls Tryz.prog 63 #[bv,.agg #[vl,I k.split.kd,I k.split.ix,B k.split.at_.1,x,y,vk,B k.empty,vp]] w (bN fun r w'=>aH w w'∧cK (b++dt k) r w'))
 (hb:cK b bv w) (hl:cd cP n.lems vl w) (hx:bk n.split.at_.2.1 x w) (hy:bk n.split.at_.2.2 y w) (hk:cd bh n.kids vk w) (hp:cd bK n.pf vp w) (hw:wN n) (hlen:b.length+(dt n).length≤4398046511104):
 Calls Tryz.prog 63 #[bv,.agg #[vl,I n.split.kd,I n.split.ix,B n.split.at_.1,x,y,vk,B n.empty,vp]] w (bN fun r w'=>aH w w'∧cK (b++dt n) r w'):=by
 refine enter (vs:=[bv,.agg #[vl,I n.split.kd,I n.split.ix,B n.split.at_.1,x,y,vk,B n.empty,vp]]) Tryz.func63 E E E ?_
 have hll:=hl.len
 have hkl:=hk.len
 obtain⟨wl,wd,wp,wk⟩:=(yV n).1 hw
 have hen:=ro n
 have hpl:(eS n.lems).length=(uv n.lems.length).length+(n.lems.flatMap fj).length:=by simp only[eS,List.length_append]
 have hun:(UInt64.ofNat n.lems.length).toNat=n.lems.length:=by rw[UInt64.toNat_ofNat'];omega
 obtain⟨tag,htag⟩:∃tag:UInt8,tag=(if n.kids.length=0 then(if n.empty=true then 1 else 0) else 2):=⟨_,rfl⟩
 have htl:b.length+1+(eS n.lems).length+(if n.kids.length=0 then(jE n.pf).length else(gG n.split).length+(n.kids.flatMap dt).length)≤4398046511104:=by
  rw[hen] at hlen
  by_cases h0:n.kids.length=0
  ·rw[if_pos h0] at hlen⊢;simp only[List.length_append,ry] at hlen;omega
  ·rw[if_neg h0] at hlen⊢;simp only[List.length_append,List.length_cons,List.length_nil] at hlen;omega
 refine af (aa ?_)
 obtain⟨g3,w3,hr3,l3,x3,k3⟩:=cq (P:=Tryz.prog) (w:=w) (T:=52) (cs:=[vl,I n.split.kd,I n.split.ix,B n.split.at_.1,x,y,vk,B n.empty,vp])
 refine cw E E hr3 (ac E E (ag (ab (af (aa (ac E E (ag (ab (af ?_)))))))))
 refine ew (fun t:UInt8=>[(0,bv),(3,.pointer (some ⟨g3,0,none⟩)),(5,U8 t)]) (fun t w'=>w3=w'∧t=(if n.empty=true then 1 else 0)) ?_ ?_
 ·refine af (aa (ah E E (av (o:=7) Lk E (by kernel_rfl) E) (aj E E (ai Lw E (k3.cell (i:=7) E)) ?_)))
  refine ag (ab ?_)
  refine fJ E (fun h11=>?_) (fun h11=>?_)
  ·refine aa (ac E E (ag ?_))
   exact cf (1) ⟨rfl,rfl,rfl,trivial⟩ ⟨rfl,by simp[h11]⟩
  ·refine aC ?_
   exact cf (0) ⟨rfl,rfl,rfl,trivial⟩ ⟨rfl,by simp[h11]⟩
 rintro t5 _ ⟨rfl,ht5⟩
 refine ab (af ?_)
 refine ew (fun t:UInt8=>[(0,bv),(3,.pointer (some ⟨g3,0,none⟩)),(5,U8 t)]) (fun t w'=>w3=w'∧tag=t) ?_ ?_
 ·refine af (aa (ah E E (av (o:=6) Lk E (by kernel_rfl) E) (aj E E (ai Ls E (k3.cell (i:=6) E)) ?_)))
  refine aV E E (aY Ls (hk.ext x3)) (al E E E (bT) (ag (ab ?_)))
  refine bu E (fun h15=>?_) (fun h15=>?_)
  ·refine aa (ac E E (ag ?_))
   exact cf (2) ⟨rfl,rfl,rfl,trivial⟩ ⟨rfl,by
    have h15:=h15
    first
    |(have h0:¬n.kids.length=0:=by omega
      rw[htag,if_neg h0])
    |(have h0:n.kids.length=0:=by omega
      rw[ht5,htag,if_pos h0])⟩
  ·refine aC ?_
   exact cf (t5) ⟨rfl,rfl,rfl,trivial⟩ ⟨rfl,by
    have h15:=h15
    first
    |(have h0:¬n.kids.length=0:=by omega
      rw[htag,if_neg h0])
    |(have h0:n.kids.length=0:=by omega
      rw[ht5,htag,if_pos h0])⟩
 rintro _ _ ⟨rfl,rfl⟩
 refine ab (af ?_)
 have hd:aH w3 w3.drew:=(aH.refl w3).drew
 refine fw (aH w3) 12 E (by kernel_rfl) ?_
 refine cF 1 E E (by kernel_rfl) E hd ?_
 refine cF 3 E E (by kernel_rfl) E hd ?_
 refine dl 6 E E (by kernel_rfl) E hd (fun w' _=>av (o:=0) Lk E (by kernel_rfl) E) ?_
 refine d6 7 E E (by kernel_rfl) E hd (fun w' hw'=>ai Lz E (hw'.cell_some (k3.cell (i:=0) E))) ?_
 refine I5 8 (r:=I (n.lems.length:Int)) E E (by kernel_rfl) E hd (fun w' hw'=>aY (f:=cP) Lz (hl.ext (x3.trans hw'))) ?_
 refine Jy 9 E E (by kernel_rfl) E hd (fun w' _=>fO Lo Lp) ?_
 refine iA (fun p:Value×Value=>[(3,.pointer (some ⟨g3,0,none⟩)),(5,U8 tag),(18,p.1),(20,p.2),(25,bW (UInt64.ofNat n.lems.length))]) (fun p w'=>aH w3 w'∧cL w3.heap.size b p.1 w'∧cK [tag] p.2 w') #[true,true,true,true,true,false,true,true,true,true,false,false] 3 ?_ (fun join=>?_)
 rotate_left
 ·refine ep 0 4 (by kernel_rfl) E E ?_ ?_
  ·obtain⟨v16,w16,hr16,x16,o16,ob16⟩:=dS (w:=w3.drew) w3.heap.size [] (by simp) hd.size
   have e16:=hd.trans x16
   refine aF (vs:=[]) E E hr16 (ao e16 (ep 2 4 (by kernel_rfl) E E ?_ ?_))
   ·obtain⟨v18,w18,hr18,o18,g18⟩:=di (ty:=22) o16 (hb.ext (x3.trans e16)) (by simp;omega) e16.size
    have e18:=aH.of_grew e16 g18 o16.ge
    obtain⟨v20,w20,hr20,x20,o20,_⟩:=dS (w:=w18) w3.heap.size [tag] (by simp) e18.size
    refine aT E E hr18 (ao e18 (aO 4 (by kernel_rfl) E ?_))
    exact aF (vs:=[(0,U8 tag)]) rfl rfl hr20 (ao (e18.trans x20) (Au (by kernel_rfl) (join _ _ ⟨(v18,v20),⟨rfl,rfl,rfl,rfl,rfl,trivial⟩,e18.trans x20,by simpa using o18.ext x20,o20.bts⟩)))
   ·obtain⟨v20,w20,hr20,x20,o20,ob20⟩:=dS (w:=w16) w3.heap.size [tag] (by simp) e16.size
    have e20:=e16.trans x20
    obtain⟨v18,w18,hr18,o18,g18⟩:=di (ty:=22) (o16.ext x20) (hb.ext (x3.trans e20)) (by simp;omega) e20.size
    have e18:=aH.of_grew e20 g18 (o16.ext x20).ge
    refine aF (vs:=[(0,U8 tag)]) E E hr20 (ao e20 (aO 2 (by kernel_rfl) E ?_))
    exact aT rfl rfl hr18 (ao e18 (Au (by kernel_rfl) (join _ _ ⟨(v18,v20),⟨rfl,rfl,rfl,rfl,rfl,trivial⟩,e18,by simpa using o18,(o20.grown g18 (.inr fun e=>by rw[ob20] at e;have:=o16.lt _ e.symm;omega)).bts⟩)))
  ·obtain⟨v20,w20,hr20,x20,o20,ob20⟩:=dS (w:=w3.drew) w3.heap.size [tag] (by simp) hd.size
   have e20:=hd.trans x20
   obtain⟨v16,w16,hr16,x16,o16,ob16⟩:=dS (w:=w20) w3.heap.size [] (by simp) e20.size
   have e16:=e20.trans x16
   obtain⟨v18,w18,hr18,o18,g18⟩:=di (ty:=22) o16 (hb.ext (x3.trans e16)) (by simp;omega) e16.size
   have e18:=aH.of_grew e16 g18 o16.ge
   refine aF (vs:=[(0,U8 tag)]) E E hr20 (ao e20 (aO 0 (by kernel_rfl) E ?_))
   refine aF (vs:=[]) E E hr16 (ao e16 (aO 2 (by kernel_rfl) E ?_))
   exact aT rfl rfl hr18 (ao e18 (Au (by kernel_rfl) (join _ _ ⟨(v18,v20),⟨rfl,rfl,rfl,rfl,rfl,trivial⟩,e18,by simpa using o18,((o20.ext x16).grown g18 (.inr fun e=>by rw[ob16] at e;have:=o20.lt _ e;omega)).bts⟩)))
 rintro⟨v18,v20⟩ w20 ⟨e20,o18,b20⟩
 dsimp only at o18 b20
 obtain⟨v21,w21,hr21,o21,g21⟩:=di (ty:=22) o18 b20 (by simp;omega) e20.size
 have x21:=aH.of_grew e20 g21 o18.ge
 refine aO 5 (by kernel_rfl) E ?_
 refine aT E E hr21 (ao x21 (aO 10 (by kernel_rfl) E ?_))
 refine an ei E E (ej (n:=UInt64.ofNat n.lems.length) o21.bts (by simp;omega)) ?_
 rintro v26 w26 ⟨x26,o26⟩
 rw[hun] at o26
 have b26:=o26.bts
 have e26:=x21.trans x26
 refine ao e26 (aO 11 (by kernel_rfl) E ?_)
 refine ac E E (ao e26 (fx (by kernel_rfl) ?_))
 refine ab (af (af (aa (ac E E (ag (ab (aG ?_)))))))
 refine eu (fun(i:Nat) (u:Value)=>[(0,u),(3,.pointer (some ⟨g3,0,none⟩)),(5,U8 tag),(6,I (i:Int))]) (fun(i:Nat) (u:Value) w'=>aH w3 w'∧i≤n.lems.length∧cK (b++[tag]++uv n.lems.length++(n.lems.take i).flatMap fj) u w') (fun(i:Nat) (u:Value)=>n.lems.length-i) (0) (v26) ⟨rfl,rfl,rfl,rfl,trivial⟩ ⟨e26,by omega,by simpa using b26⟩ ?_
 rintro i u wL ⟨eL,hi,bL⟩
 refine af (af ?_)
 obtain⟨pre,hpre⟩:∃pre,pre=b++[tag]++uv n.lems.length++(n.lems.take i).flatMap fj:=⟨_,rfl⟩
 have hprl:pre.length=b.length+1+(uv n.lems.length).length+((n.lems.take i).flatMap fj).length:=by rw[hpre];simp only[List.length_append,List.length_cons,List.length_nil]
 have hfi:=ql (f:=fj) n.lems i
 rw[←hpre] at bL
 refine aa (ae E E (ah E E (av (o:=0) Lk E (by kernel_rfl) E) (aj E E (ai Lz E (eL.cell_some (k3.cell (i:=0) E))) ?_)))
 refine aV E E (aY Lz (hl.ext (x3.trans eL))) (al E E E (a6) (ag (ab ?_)))
 refine bu E (fun h31=>?_) (fun h31=>?_)
 ·refine aC (ab (af (aG (af (aa (ah E E (av (o:=0) Lk E (by kernel_rfl) E) (aj E E (ai Lz E (eL.cell_some (k3.cell (i:=0) E))) ?_)))))))
  refine ae E E ?_
  obtain⟨a37,c37,p37,q37,h37⟩:=cb (P:=Tryz.prog) (sz:=6) Lz (by kernel_rfl) cY (by omega) (hl.ext (x3.trans eL)) (i:=i) (by omega) .i64
  obtain⟨e37,he37⟩:∃e,e=n.lems[i]'(by omega):=⟨_,rfl⟩
  rw[←he37] at h37
  obtain⟨x37_0,x37_1,x37_2,rfl,f37_0,f37_1,f37_2⟩:=eK h37
  refine ar E E E (p37 _) ?_
  have hm:=wl e37 (by rw[he37];exact List.getElem_mem _)
  have hfl:=fo (f:=fj) (l:=n.lems) (i:=i) (by omega)
  rw[←he37] at hfl
  have hml:(fj e37).length=(de e37.un).length+1+(gw e37.va).length+(jE e37.pf).length:=by simp only[fj,List.length_append,ry]
  refine aj E E (q37.ld LB E (by kernel_rfl)) ?_
  obtain⟨g7,w7,hr7,l7,x7,k7⟩:=a9 (P:=Tryz.prog) (w:=wL) (t:=173) (z:=.agg #[I 0,B false,B false,.slice none 0 0,.slice none 0 0,.slice none 0 0]) (l:=[I 0,B false,B false,.slice none 0 0,.slice none 0 0,.slice none 0 0]) (by kernel_rfl) rfl
  refine aS E hr7 ?_
  obtain⟨w10_6,s10_6,q10_6,k10_6⟩:=k7.stS (P:=Tryz.prog) (t:=173) (m:=[I e37.un,B e37.up,B e37.va.1,x37_0,x37_1,x37_2]) rfl (by kernel_rfl) (ap.cons rfl (ap.cons rfl (ap.cons rfl (ap.cons f37_0.one (ap.cons f37_1.one (ap.cons f37_2.one ap.nil))))))
  refine ay E E s10_6 ?_
  have x10_6:=aH.of_new (x7) q10_6 l7
  refine ag (ab (af (aa (ac E E (ag (ab (af ?_)))))))
  refine ew (fun t:UInt8=>[(0,u),(3,.pointer (some ⟨g3,0,none⟩)),(5,U8 tag),(6,I (i:Int)),(7,.pointer (some ⟨g7,0,none⟩)),(8,U8 t)]) (fun t w'=>w10_6=w'∧[t]=xq e37.up) ?_ ?_
  ·refine af (aa (ah E E (av (o:=1) LB E (by kernel_rfl) E) (aj E E (ai Lw E (k10_6.cell (i:=1) E)) ?_)))
   refine ag (ab ?_)
   refine fJ E (fun h40=>?_) (fun h40=>?_)
   ·refine aa (ac E E (ag ?_))
    exact cf (1) ⟨rfl,rfl,rfl,rfl,rfl,rfl,trivial⟩ ⟨rfl,by rw[h40];rfl⟩
   ·refine aC ?_
    exact cf (0) ⟨rfl,rfl,rfl,rfl,rfl,rfl,trivial⟩ ⟨rfl,by rw[h40];rfl⟩
  rintro up _ ⟨rfl,hup⟩
  refine ab (af (aa (ae E E (ah E E (av (o:=0) LB E (by kernel_rfl) E) (aj E E (ai Lo E (k10_6.cell (i:=0) E)) ?_)))))
  refine an gM E E ((gN (n:=e37.un) (bL.ext x10_6) (by omega) hm.1.1 hm.1.2)) ?_
  rintro v44 w44 ⟨x44,o44⟩
  have o44:cL _ (pre++de e37.un) _ _:=o44
  refine ae E E ?_
  obtain⟨v46,w46,hr46,x46,o46,ob46⟩:=dS (w:=w44) w44.heap.size [up] (by simp) (Nat.le_refl _)
  refine aF (vs:=[(0,U8 up)]) E E hr46 ?_
  obtain⟨v47,w47,hr47,o47,g47⟩:=di (ty:=22) (o44.ext x46) o46.bts (by simp only[List.length_append,List.length_cons,List.length_nil];omega) ((x44.trans x46)).size
  have x47:=aH.of_grew ((x44.trans x46)) g47 (o44.ext x46).ge
  refine aT E E hr47 ?_
  have b47:cK (pre++de e37.un++xq e37.up) v47 w47:=by rw[←hup];exact o47.bts
  have hqa:=lO e37.va
  refine ac E E (ag (ab (bP 7 [3,5,6,54] (by kernel_rfl) (by kernel_rfl) ?_)))
  refine ax rfl rfl (aX rfl rfl (fun w hw=>av (o:=2) Tryz.underlying173 rfl (by kernel_rfl) rfl) (aQ rfl rfl (fun w hw=>((k10_6.ext x47).ext hw).ldO (ms:=[B e37.va.1,x37_0,x37_1]) (o:=2) (fun j v hj=>by rcases j with _|_|_|_|_|_|_|_|_|j<;>simp_all) Tryz.underlying46 rfl (by kernel_rfl)) ?_))
  refine ce (S:=cK (pre++de e37.un++xq e37.up++gw e37.va)) jo (cK.stable _) rfl (fun w hw=>by rintro _ rfl _ rfl;exact bN.mono (jp (b47.ext hw) (du.mk ((f37_0.ext (x10_6.trans x47)).ext hw) ((f37_1.ext (x10_6.trans x47)).ext hw)) (by simp only[List.length_append,ry];omega)) fun v w' h=>⟨h.1,h.2.bts⟩) ?_
  refine aX E E (fun w hw=>av (o:=5) LB E (by kernel_rfl) E) (aQ E E (fun w hw=>ai Ly E (hw.cell_some (x47.cell_some (k10_6.cell (i:=5) E)))) ?_)
  refine ce (S:=cK (pre++de e37.un++xq e37.up++gw e37.va++jE e37.pf)) vt (cK.stable _) rfl (fun w hw=>by rintro _ h51 _ rfl;exact vx h51 ((f37_2.ext (x10_6.trans x47)).ext hw) hm.2 (by simp only[List.length_append,ry];omega)) ?_
  refine cn ?_
  intro wg15 xg15
  rintro _ rfl
  rintro _ rfl
  rintro _ rfl
  intro vg54 b54
  refine ac E E (ag (aW (ab (aa (ae E E (al (r:=I ((i+1:Nat):Int)) E E E (by have e:((i+1:Nat):Int)=(i:Int)+1:=(by omega);rw[e];exact aR (by omega) (by omega)) ?_))))))
  refine ac E E (ag ?_)
  refine c6 (i+1) (vg54) ⟨rfl,rfl,rfl,rfl,trivial⟩ ⟨(((eL.trans x10_6).trans x47).trans xg15),by omega,by
   have h:cK (pre++de e37.un++xq e37.up++gw e37.va++jE e37.pf) vg54 wg15:=b54
   rw[df (by omega),←he37,←List.append_assoc,←hpre]
   simpa only[fj,List.append_assoc] using h⟩ (by omega)
 ·refine bc (aK (aK (bf (ab (af (af ?_))))))
  rw[List.take_of_length_le (by omega)] at hpre
  by_cases hk0:n.kids.length=0
  ·refine aa (ae E E (al (v:=U8 2) E E E (dD (by rw[htag,if_pos hk0];split<;>decide) lu) (ag (ab (bm E (af (aa (ae E E ?_))))))))
   refine ah E E (av (o:=8) Lk E (by kernel_rfl) E) (aj E E (ai Ly E (eL.cell_some (k3.cell (i:=8) E))) ?_)
   refine an vt E E ((vx bL (hp.ext ((x3.trans eL))) wp (by rw[if_pos hk0] at htl;omega))) ?_
   rintro v60 w60 ⟨x60,b60⟩
   refine ac E E (ag (ab (aw (az (au E E ?_)))))
   exact⟨_,rfl,((x3.trans eL).trans x60),by
    have ht:[tag]=xq n.empty:=by rw[htag,if_pos hk0];cases n.empty<;>rfl
    rw[hpre,ht] at b60
    rw[hen,if_pos hk0]
    simpa only[eS,List.append_assoc] using b60⟩
  ·refine aa (ae E E (al (v:=U8 2) E E E (d7 (by rw[htag,if_neg hk0];decide) lu) (ag (ab (cN E (aC (ab (af (aa (ae E E ?_))))))))))
   refine ah rfl rfl (av (o:=1) Tryz.underlying52 rfl (by kernel_rfl) rfl) (aj rfl rfl ((k3.ext eL).ldO (ms:=[I n.split.kd,I n.split.ix,B n.split.at_.1,x,y]) (o:=1) (fun j v hj=>by rcases j with _|_|_|_|_|_|_|_|_|j<;>simp_all) Tryz.underlying48 rfl (by kernel_rfl)) ?_)
   refine an vq E E ((vw (d:=n.split) bL (hx.ext ((x3.trans eL))) (hy.ext ((x3.trans eL))) wd (by rw[if_neg hk0] at htl;omega))) ?_
   rintro v64 w64 ⟨x64,b64⟩
   refine ac E E (ag (ab (af (af (aa (ac E E (ag (ab (aG ?_)))))))))
   refine eu (fun(j:Nat) (u2:Value)=>[(0,u2),(3,.pointer (some ⟨g3,0,none⟩)),(9,I (j:Int))]) (fun(j:Nat) (u2:Value) w'=>aH w3 w'∧j≤n.kids.length∧cK (pre++gG n.split++(n.kids.take j).flatMap dt) u2 w') (fun(j:Nat) (u2:Value)=>n.kids.length-j) (0) (v64) ⟨rfl,rfl,rfl,trivial⟩ ⟨(eL.trans x64),by omega,by simpa using b64⟩ ?_
   rintro j u2 wM ⟨eM,hj,bM⟩
   refine af (af (aa (ae E E (ah E E (av (o:=6) Lk E (by kernel_rfl) E) (aj E E (ai Ls E (eM.cell_some (k3.cell (i:=6) E))) ?_)))))
   refine aV E E (aY Ls (hk.ext (x3.trans eM))) (al E E E (a6) (ag (ab ?_)))
   refine bu E (fun h69=>?_) (fun h69=>?_)
   ·refine aC (ab (af (aG (aa (ae E E (ah E E (av (o:=6) Lk E (by kernel_rfl) E) (aj E E (ai Ls E (eM.cell_some (k3.cell (i:=6) E))) ?_)))))))
    refine ae E E ?_
    obtain⟨a76,c76,p76,q76,h76⟩:=cb (P:=Tryz.prog) (sz:=9) Ls (by kernel_rfl) bF (by omega) (hk.ext (x3.trans eM)) (i:=j) (by omega) .i64
    obtain⟨e76,he76⟩:∃e,e=n.kids[j]'(by omega):=⟨_,rfl⟩
    rw[←he76] at h76
    obtain⟨x76_0,x76_1,x76_2,x76_3,x76_4,rfl,f76_0,f76_1,f76_2,f76_3,f76_4⟩:=dc h76
    refine ar E E E (p76 _) ?_
    have hmem:e76∈n.kids:=by rw[he76];exact List.getElem_mem _
    have hfk:=fo (f:=dt) (l:=n.kids) (i:=j) (by omega)
    rw[←he76] at hfk
    refine aj E E (q76.ld Tryz.underlying52 E (by kernel_rfl)) (an vu E E ((ih e76 hmem bM f76_0 f76_1 f76_2 f76_3 f76_4 (wk e76 hmem) (by rw[if_neg hk0] at htl;simp only[List.length_append];omega))) ?_)
    rintro v78 w78 ⟨x78,b78⟩
    refine ac E E (ag (aW (ab (aa (ae E E (al (r:=I ((j+1:Nat):Int)) E E E (by have e:((j+1:Nat):Int)=(j:Int)+1:=(by omega);rw[e];exact aR (by omega) (by omega)) ?_))))))
    refine ac E E (ag ?_)
    refine c6 (j+1) (v78) ⟨rfl,rfl,rfl,trivial⟩ ⟨(eM.trans x78),by omega,by rw[df (by omega),←he76,←List.append_assoc];exact b78⟩ (by omega)
   ·refine bc (aK (aK (bf (ab (af (aa (ae E E (ac E E (ag (ab (aw (au E E ?_))))))))))))
    exact⟨_,rfl,(x3.trans eM),by
     have ht:tag=2:=by rw[htag,if_neg hk0]
     rw[List.take_of_length_le (by omega),hpre,ht] at bM
     rw[hen,if_neg hk0]
     simpa only[eS,List.append_assoc] using bM⟩
theorem vy:∀(m:Nat) {n:aP},SizeOf.sizeOf n≤m→∀{w:World} {b:List UInt8} {bv vl x y vk vp:Value},cK b bv w→cd cP n.lems vl w→bk n.split.at_.2.1 x w→bk n.split.at_.2.2 y w→cd bh n.kids vk w→cd bK n.pf vp w→wN n→b.length+(dt n).length≤4398046511104→
 Calls Tryz.prog 63 #[bv,.agg #[vl,I n.split.kd,I n.split.ix,B n.split.at_.1,x,y,vk,B n.empty,vp]] w (bN fun r w'=>aH w w'∧cK (b++dt n) r w')
 |0,n,hm=>by cases n;simp at hm
 |m+1,n,hm=>fun h1 h2 h3 h4 h5 h6 h7 h8=>Cb (fun k hk _ _ _ _ _ _ _ _=>vy m (by have:=aP.lt_of_mem hk;omega)) h1 h2 h3 h4 h5 h6 h7 h8
end Go.Rl
namespace Go.Rl
open Go.RowKit Go.Proofs
end Go.Rl
namespace Go.Rl
open Go.RowKit Go.Proofs
def mQ (m:cp):Nat:=1+m.co.2.1.length+m.co.2.2.length
def mP (l:List cp):Nat:=(l.map mQ).sum
def mL (m:eB):Nat:=m.va.2.1.length+m.va.2.2.length+mP m.pf
mutual
def tx:aP→Nat
 |.mk l _ ks _ p=>1+l.length+mP p+(l.map mL).sum+zd ks
def zd:List aP→Nat
 |[]=>0
 |n::l=>tx n+zd l
end
theorem vz:∀l:List aP,zd l=(l.map tx).sum
 |[]=>rfl
 |n::l=>by simp only[zd,List.map_cons,List.sum_cons,vz l]
theorem GW (n:aP):tx n=1+n.lems.length+mP n.pf+(n.lems.map mL).sum+(n.kids.map tx).sum:=by
 cases n with
 |mk l s k e p=>simp only[tx,vz];rfl
end Go.Rl
namespace Go.Rl
open Go.RowKit Go.Proofs
mutual
def Dt.bulk:Dt→Nat
 |.int _ _=>1
 |.bool _=>1
 |.str l=>l.length+1
 |.sl l=>Dt.bulkAll l+1
 |.st l=>Dt.bulkAll l+1
def Dt.bulkAll:List Dt→Nat
 |[]=>0
 |d::l=>Dt.bulk d+Dt.bulkAll l
end
mutual
theorem xJ {H:Type}:∀d:DataW H,(en d).bulk≤YtpeidnhjcompmaaGreatDoor.Rows.uptoBulk d
 |.lit (.string b)=>by simp[en,Dt.bulk,YtpeidnhjcompmaaGreatDoor.Rows.uptoBulk]
 |.lit (.int k n)=>by simp[en,Dt.bulk,YtpeidnhjcompmaaGreatDoor.Rows.uptoBulk]
 |.lit (.bool b)=>by simp[en,Dt.bulk,YtpeidnhjcompmaaGreatDoor.Rows.uptoBulk]
 |.lit (.float ..)=>by simp[en,Dt.bulk,Dt.bulkAll,YtpeidnhjcompmaaGreatDoor.Rows.uptoBulk]
 |.lit .nil=>by simp[en,Dt.bulk,Dt.bulkAll,YtpeidnhjcompmaaGreatDoor.Rows.uptoBulk]
 |.nil=>by simp[en,Dt.bulk,Dt.bulkAll,YtpeidnhjcompmaaGreatDoor.Rows.uptoBulk]
 |.ptr d=>by simp[en,Dt.bulk,Dt.bulkAll,YtpeidnhjcompmaaGreatDoor.Rows.uptoBulk]
 |.slice elems spare=>by
  have:=lj elems
  simp only[en,Dt.bulk,YtpeidnhjcompmaaGreatDoor.Rows.uptoBulk]
  omega
 |.agg parts=>by
  have:=lj parts
  simp only[en,Dt.bulk,YtpeidnhjcompmaaGreatDoor.Rows.uptoBulk]
  omega
 |.iface t d=>by simp[en,Dt.bulk,Dt.bulkAll,YtpeidnhjcompmaaGreatDoor.Rows.uptoBulk]
 |.map entries=>by simp[en,Dt.bulk,Dt.bulkAll,YtpeidnhjcompmaaGreatDoor.Rows.uptoBulk]
 |.held h=>by simp[en,Dt.bulk,Dt.bulkAll,YtpeidnhjcompmaaGreatDoor.Rows.uptoBulk]
theorem lj {H:Type}:∀l:List (DataW H),Dt.bulkAll (nI l)≤YtpeidnhjcompmaaGreatDoor.Rows.uptoBulkAll l
 |[]=>by simp[nI,Dt.bulkAll,YtpeidnhjcompmaaGreatDoor.Rows.uptoBulkAll]
 |d::l=>by
  have:=xJ d
  have:=lj l
  simp only[nI,Dt.bulkAll,YtpeidnhjcompmaaGreatDoor.Rows.uptoBulkAll]
  omega
end
theorem xK {H:Type} {d:DataW H}:∀{l:List (DataW H)},d∈l→YtpeidnhjcompmaaGreatDoor.Rows.uptoBulk d≤YtpeidnhjcompmaaGreatDoor.Rows.uptoBulkAll l
 |[],h=>by simp at h
 |x::l,h=>by
  simp only[YtpeidnhjcompmaaGreatDoor.Rows.uptoBulkAll]
  rcases List.mem_cons.1 h with rfl|h
  ·omega
  ·have:=xK h;omega
theorem Ku {H:Type} {d:DataW H} {l:List (DataW H)} (hk:YtpeidnhjcompmaaGreatDoor.Rows.uptoSmall H l=true) (h:d∈l):(en d).bulk≤1048576:=by
 have h1:YtpeidnhjcompmaaGreatDoor.Rows.uptoBulkAll l≤1048576:=of_decide_eq_true hk
 have:=xJ d
 have:=xK h
 omega
theorem vC {α:Type} {f:α→Dt} {p:α→Prop}:∀(l:List Dt),(∀d∈l,∃x,d=f x∧p x)→∃m:List α,l=m.map f∧∀x∈m,p x
 |[],_=>⟨[],rfl,by simp⟩
 |d::l,h=>by
  obtain⟨x,rfl,hx⟩:=h d (by simp)
  obtain⟨m,rfl,hm⟩:=vC l fun e he=>h e (by simp[he])
  exact⟨x::m,rfl,by simpa using⟨hx,hm⟩⟩
theorem Ty.inv_slP {P:Program} {t e:TypeId} {d:Dt} {α:Type} {f:α→Dt} {p:α→Prop} (hu:P.underlying t=some (.slice e)) (he:∀x,Ty P e x→∃y,x=f y∧p y) (h:Ty P t d):∃l:List α,d=.sl (l.map f)∧∀x∈l,p x:=by
 obtain⟨l,rfl,ha⟩:=h.inv_slD hu
 obtain⟨m,rfl,hm⟩:=vC l fun x hx=>he x (ha x hx)
 exact⟨m,rfl,hm⟩
theorem dO {l:List Dt}:∀{d:Dt},d∈l→d.bulk≤Dt.bulkAll l:=by
 induction l with
 |nil=>intro d h;simp at h
 |cons x l ih=>
  intro d h
  simp only[Dt.bulkAll]
  rcases List.mem_cons.1 h with rfl|h
  ·omega
  ·have:=ih h;omega
theorem GX (d:Dt):1≤d.bulk:=by cases d<;>simp[Dt.bulk]
theorem gb (l:List Dt):l.length≤Dt.bulkAll l:=by
 induction l with
 |nil=>simp
 |cons d l ih=>have:=GX d;simp only[List.length_cons,Dt.bulkAll];omega
end Go.Rl
namespace Go.Rl
open Go.ChangeShapes Go.WideShapes Go.ChangeAt Go.RowKit Go.Proofs
theorem cel2 {α:Type} {l:List α} (h:l.length=2):∃a b,l=[a,b]:=by
 match l,h with
 |[a,b],_=>exact⟨a,b,rfl⟩
theorem La {α:Type} {l:List α} (h:l.length=3):∃a b c,l=[a,b,c]:=by
 match l,h with
 |[a,b,c],_=>exact⟨a,b,c,rfl⟩
theorem Lb {α:Type} {l:List α} (h:l.length=4):∃a b c d,l=[a,b,c,d]:=by
 match l,h with
 |[a,b,c,d],_=>exact⟨a,b,c,d,rfl⟩
theorem cel5 {α:Type} {l:List α} (h:l.length=5):∃a b c d e,l=[a,b,c,d,e]:=by
 match l,h with
 |[a,b,c,d,e],_=>exact⟨a,b,c,d,e,rfl⟩
theorem Cc {d:Dt} (ht:Ty Tryz.prog 46 d):∃q:eW,d=fK q:=by
 obtain⟨l,rfl,hl,hf⟩:=ht.inv_st Ln
 obtain⟨a,b,c,rfl⟩:=La (show l.length=3 from hl)
 obtain⟨s,rfl⟩:=(hf 0 _ a rfl rfl).inv_bool Lw
 obtain⟨n,rfl⟩:=(hf 1 _ b rfl rfl).inv_nat Lj Ll
 obtain⟨m,rfl⟩:=(hf 2 _ c rfl rfl).inv_nat Lj Ll
 exact⟨(s,n,m),rfl⟩
theorem qn {d:Dt} (ht:Ty Tryz.prog 3 d):∃n:Int,d=kH n∧kY n:=by
 obtain⟨n,rfl,hw⟩:=ht.inv_int Lo
 exact⟨n,rfl,KJ hw⟩
theorem J0 {d:Dt} (ht:Ty Tryz.prog 185 d):∃a b c e:Int,d=.st [kH a,kH b,kH c,kH e]∧kY a∧kY b∧kY c∧kY e:=by
 obtain⟨l,rfl,hl,hf⟩:=ht.inv_st LL
 obtain⟨d0,d1,d2,d3,rfl⟩:=Lb (show l.length=4 from hl)
 obtain⟨n0,rfl,w0⟩:=qn (hf 0 _ d0 rfl rfl)
 obtain⟨n1,rfl,w1⟩:=qn (hf 1 _ d1 rfl rfl)
 obtain⟨n2,rfl,w2⟩:=qn (hf 2 _ d2 rfl rfl)
 obtain⟨n3,rfl,w3⟩:=qn (hf 3 _ d3 rfl rfl)
 exact⟨n0,n1,n2,n3,rfl,w0,w1,w2,w3⟩
theorem Ic {d:Dt} (ht:Ty Tryz.prog 187 d):∃m:cp,d=bK m∧wMu m:=by
 obtain⟨l,rfl,hl,hf⟩:=ht.inv_st LF
 obtain⟨d0,d1,rfl⟩:=cel2 (show l.length=2 from hl)
 obtain⟨a,b,c,e,rfl,w⟩:=J0 (hf 0 _ d0 rfl rfl)
 obtain⟨q,rfl⟩:=Cc (hf 1 _ d1 rfl rfl)
 exact⟨⟨a,b,c,e,q⟩,rfl,w⟩
theorem A7 {d:Dt} (ht:Ty Tryz.prog 50 d):∃l:List cp,d=fL l∧wP l:=ht.inv_slP Ly fun _ hx=>Ic hx
theorem J1 {d:Dt} (ht:Ty Tryz.prog 48 d):∃m:bj,d=c9 m∧wD m:=by
 obtain⟨l,rfl,hl,hf⟩:=ht.inv_st Lm
 obtain⟨d0,d1,d2,rfl⟩:=La (show l.length=3 from hl)
 obtain⟨n0,rfl,w0⟩:=qn (hf 0 _ d0 rfl rfl)
 obtain⟨n1,rfl,w1⟩:=qn (hf 1 _ d1 rfl rfl)
 obtain⟨q,rfl⟩:=Cc (hf 2 _ d2 rfl rfl)
 exact⟨⟨n0,n1,q⟩,rfl,w0,w1⟩
theorem J2 {d:Dt} (ht:Ty Tryz.prog 173 d):∃m:eB,d=cP m∧I9 m:=by
 obtain⟨l,rfl,hl,hf⟩:=ht.inv_st LB
 obtain⟨d0,d1,d2,d3,rfl⟩:=Lb (show l.length=4 from hl)
 obtain⟨n0,rfl,w0⟩:=qn (hf 0 _ d0 rfl rfl)
 obtain⟨b,rfl⟩:=(hf 1 _ d1 rfl rfl).inv_bool Lw
 obtain⟨q,rfl⟩:=Cc (hf 2 _ d2 rfl rfl)
 obtain⟨p,rfl,wp⟩:=A7 (hf 3 _ d3 rfl rfl)
 exact⟨⟨n0,b,q,p⟩,rfl,w0,wp⟩
theorem Cd {l:List Dt} {d:Dt} (h:d∈l):SizeOf.sizeOf d<SizeOf.sizeOf l:=List.sizeOf_lt_of_mem h
theorem Ie:∀(k:Nat) {d:Dt},SizeOf.sizeOf d≤k→Ty Tryz.prog 52 d→∃n:aP,d=bh n∧wN n
 |0,d,hk,_=>by cases d<;>simp at hk
 |k+1,d,hk,ht=>by
  obtain⟨l,rfl,hl,hf⟩:=ht.inv_st Lk
  obtain⟨d0,d1,d2,d3,d4,rfl⟩:=cel5 (show l.length=5 from hl)
  obtain⟨ls,rfl,wl⟩:=(hf 0 _ d0 rfl rfl).inv_slP Lz fun _ hx=>J2 hx
  obtain⟨sp,rfl,ws⟩:=J1 (hf 1 _ d1 rfl rfl)
  obtain⟨ks,rfl,hks⟩:=(hf 2 _ d2 rfl rfl).inv_slD Ls
  obtain⟨em,rfl⟩:=(hf 3 _ d3 rfl rfl).inv_bool Lw
  obtain⟨pf,rfl,wp⟩:=A7 (hf 4 _ d4 rfl rfl)
  obtain⟨ns,rfl,wn⟩:=vC (f:=bh) (p:=wN) ks fun x hx=>Ie k (by
   have:=Cd hx
   simp only[Dt.st.sizeOf_spec,List.cons.sizeOf_spec,Dt.sl.sizeOf_spec] at hk
   omega) (hks x hx)
  refine⟨.mk ls sp ns em pf,?_,?_⟩
  ·simp only[bh,iT]
  ·simp only[wN,yU]
   exact⟨wl,ws,wp,wn⟩
end Go.Rl
namespace Go.Rl
open Go.RowKit
structure cm where
 path:List bj
 leaf:aP
def fq (e:cm):List UInt8:=uv e.path.length++e.path.flatMap gG++dt e.leaf
def fD (d:bj):Bool:=decide (1≤d.kd)&&decide (d.kd≤4)&&fC d.at_
def fk (e:cm):Bool:=decide (e.path.length≤2048)&&decide (e.leaf.kids.length=0)&&iF e.leaf&&iG e.leaf&&e.path.all fD
def sH (l:List UInt8):Option (cm×List UInt8):=(fi zR l).bind fun a=>(BO a.2).bind fun b=>some (⟨a.1,b.1⟩,b.2)
def lQ (b:List UInt8):Option cm:=match sH b with
 |some (e,[])=>if fk e=true then some e else none
 |_=>none
def Kv (e:cm):Prop:=(∀d∈e.path,wD d)∧wN e.leaf
theorem vD {l t:List UInt8} {e:cm} (h:sH l=some (e,t)):l=fq e++t∧Kv e∧e.path.length<18446744073709551616:=by
 unfold sH at h
 obtain⟨p1,h1,h⟩:=Option.bind_eq_some_iff.1 h
 obtain⟨p2,h2,h⟩:=Option.bind_eq_some_iff.1 h
 simp only[Option.some.injEq,Prod.mk.injEq] at h
 obtain⟨rfl,rfl⟩:=h
 obtain⟨a1,a2,a3⟩:=qj (fun l a t h=>Dj h) (xs:=p1.1) (t:=p1.2) h1
 have b:=GF (n:=p2.1) (t:=p2.2) h2
 refine⟨?_,⟨fun d hd=>(a3 d hd).2,b.2.2.1⟩,a2⟩
 show l=uv p1.1.length++p1.1.flatMap gG++dt p2.1++p2.2
 rw[List.append_assoc,←b.1,←a1]
theorem GY {b:List UInt8} {e:cm} (h:lQ b=some e):fq e=b∧fk e=true∧Kv e∧sH b=some (e,[]):=by
 unfold lQ at h
 split at h
 ·rename_i e' he
  split at h
  ·cases h
   have:=vD he
   rw[List.append_nil] at this
   exact⟨this.1.symm,by assumption,this.2.1,he⟩
  ·cases h
 ·cases h
theorem If {b:List UInt8} {e:cm} (h:sH b=some (e,[])) (hv:fk e=true):lQ b=some e:=by
 unfold lQ
 rw[h]
 exact if_pos hv
theorem GZ {α:Type} {f:α→List UInt8} {l:List α} {a:α} (h:a∈l):(f a).length≤(l.flatMap f).length:=by
 induction l with
 |nil=>cases h
 |cons b l ih=>
  rw[List.flatMap_cons,List.length_append]
  rcases List.mem_cons.1 h with rfl|h
  ·omega
  ·have:=ih h;omega
theorem qo {α:Type} {f:α→List UInt8} {k:Nat} (l:List α) (h:∀a∈l,k≤(f a).length):k*l.length≤(l.flatMap f).length:=by
 induction l with
 |nil=>simp
 |cons b l ih=>
  rw[List.flatMap_cons,List.length_append,List.length_cons]
  have:=ih fun a ha=>h a (by simp[ha])
  have:=h b (by simp)
  rw[Nat.mul_succ];omega
theorem A9 (q:eW):3≤(gw q).length:=by
 have h:∀n:List UInt32,1≤(mh n).length:=fun n=>by
  have:=pR n.length
  simp only[mh,List.length_append];omega
 have h1:=h q.2.1
 have h2:=h q.2.2
 simp only[gw,pY,List.length_append,List.length_cons,List.length_nil]
 omega
theorem oH (n:Int):1≤(de n).length:=pR _
theorem xL (m:cp):7≤(gy m).length:=by
 have:=oH m.kd;have:=oH m.ix;have:=oH m.lo;have:=oH m.hi;have:=A9 m.co
 simp only[gy,List.length_append];omega
theorem EL (m:eB):6≤(fj m).length:=by
 have:=oH m.un;have:=A9 m.va;have:=pR m.pf.length
 have:(xq m.up).length=1:=by cases m.up<;>rfl
 simp only[fj,jE,List.length_append];omega
def nN {α:Type} (most:Nat) (f:List UInt8→Option (α×List UInt8)) (l:List UInt8):Option (List α×List UInt8):=(qD most l).bind fun p=>cR f p.1 p.2
def gP:List UInt8→Option (List cp×List UInt8):=nN 1048576 yI
def Dp (l:List UInt8):Option (eB×List UInt8):=(qh l).bind fun a=>(qD 1 a.2).bind fun b=>(nQ b.2).bind fun c=>(gP c.2).bind fun d=>some (⟨a.1,cg b.1,c.1,d.1⟩,d.2)
def Fg (l:List UInt8):Option (cm×List UInt8):=(nN 2048 zR l).bind fun a=>(qD 1 a.2).bind fun b=>(nN 1073741824 Dp b.2).bind fun c=>(gP c.2).bind fun d=>some (⟨a.1,.mk c.1 lL [] (cg b.1) d.1⟩,d.2)
theorem G0 {k n:Nat} {l t:List UInt8} (h:qD k l=some (n,t)):gx l=some (n,t)∧n≤k:=by
 unfold qD at h
 obtain⟨p,h1,h2⟩:=Option.bind_eq_some_iff.1 h
 split at h2
 ·cases h2;exact⟨h1,by assumption⟩
 ·cases h2
theorem G3 {k m n:Nat} {l t:List UInt8} (h:qD k l=some (n,t)) (hm:n≤m):qD m l=some (n,t):=by
 unfold qD
 rw[(G0 h).1]
 exact if_pos hm
theorem ph {α:Type} {most:Nat} {f:List UInt8→Option (α×List UInt8)} {l t:List UInt8} {xs:List α} (h:nN most f l=some (xs,t)):fi f l=some (xs,t):=by
 unfold nN at h
 obtain⟨p,h1,h2⟩:=Option.bind_eq_some_iff.1 h
 unfold fi
 rw[(G0 (n:=p.1) (t:=p.2) h1).1]
 exact h2
theorem vF {α:Type} {f:List UInt8→Option (α×List UInt8)}:∀(n:Nat) (l:List UInt8) (xs:List α) (t:List UInt8),cR f n l=some (xs,t)→xs.length=n
 |0,l,xs,t,h=>by
  simp only[cR,Option.some.injEq,Prod.mk.injEq] at h
  rw[←h.1];rfl
 |n+1,l,xs,t,h=>by
  simp only[cR] at h
  obtain⟨p,h1,h2⟩:=Option.bind_eq_some_iff.1 h
  obtain⟨q,h3,h4⟩:=Option.map_eq_some_iff.1 h2
  simp only[Prod.mk.injEq] at h4
  rw[←h4.1,List.length_cons,vF n _ _ _ (show cR f n p.2=some (q.1,q.2) from h3)]
theorem ze {α:Type} {most:Nat} {f:List UInt8→Option (α×List UInt8)} {l t:List UInt8} {xs:List α} (h:fi f l=some (xs,t)) (hn:xs.length≤most):nN most f l=some (xs,t):=by
 unfold fi at h
 obtain⟨p,h1,h2⟩:=Option.bind_eq_some_iff.1 h
 unfold nN qD
 rw[h1]
 simp only[Option.bind_some]
 rw[if_pos (by rw[←vF _ _ _ _ h2];exact hn)]
 exact h2
theorem tz {α:Type} {f g:List UInt8→Option (α×List UInt8)} (h:∀l a t,f l=some (a,t)→g l=some (a,t)):∀(n:Nat) (l:List UInt8) (xs:List α) (t:List UInt8),cR f n l=some (xs,t)→cR g n l=some (xs,t)
 |0,l,xs,t,e=>e
 |n+1,l,xs,t,e=>by
  simp only[cR] at e⊢
  obtain⟨p,h1,h2⟩:=Option.bind_eq_some_iff.1 e
  obtain⟨q,h3,h4⟩:=Option.map_eq_some_iff.1 h2
  rw[h l p.1 p.2 h1]
  simp only[Option.bind_some]
  rw[tz h n p.2 q.1 q.2 h3]
  exact congrArg some h4
theorem Ba {α:Type} {f g:List UInt8→Option (α×List UInt8)} (h:∀l a t,f l=some (a,t)→g l=some (a,t)) {l t:List UInt8} {xs:List α} (e:fi f l=some (xs,t)):fi g l=some (xs,t):=by
 unfold fi at e⊢
 obtain⟨p,h1,h2⟩:=Option.bind_eq_some_iff.1 e
 rw[h1]
 exact tz h _ _ _ _ h2
theorem J3 {l t:List UInt8} {m:eB} (h:Dp l=some (m,t)):uU l=some (m,t):=by
 unfold Dp at h
 unfold uU
 obtain⟨p1,h1,h⟩:=Option.bind_eq_some_iff.1 h
 obtain⟨p2,h2,h⟩:=Option.bind_eq_some_iff.1 h
 obtain⟨p3,h3,h⟩:=Option.bind_eq_some_iff.1 h
 obtain⟨p4,h4,h⟩:=Option.bind_eq_some_iff.1 h
 rw[h1];simp only[Option.bind_some]
 rw[h2];simp only[Option.bind_some]
 rw[h3];simp only[Option.bind_some]
 rw[show HZ p3.2=some p4 from ph (t:=p4.2) h4]
 exact h
theorem J4 {l t:List UInt8} {e:cm} (h:Fg l=some (e,t)):sH l=some (e,t):=by
 unfold Fg at h
 unfold sH
 obtain⟨p1,h1,h⟩:=Option.bind_eq_some_iff.1 h
 obtain⟨p2,h2,h⟩:=Option.bind_eq_some_iff.1 h
 obtain⟨p3,h3,h⟩:=Option.bind_eq_some_iff.1 h
 obtain⟨p4,h4,h⟩:=Option.bind_eq_some_iff.1 h
 simp only[Option.some.injEq,Prod.mk.injEq] at h
 obtain⟨rfl,rfl⟩:=h
 have hk:p2.1≤1:=(G0 (n:=p2.1) (t:=p2.2) h2).2
 rw[show fi zR l=some p1 from ph (t:=p1.2) h1]
 simp only[Option.bind_some]
 rw[xr,show qD 2 p1.2=some p2 from G3 (n:=p2.1) (t:=p2.2) h2 (by omega)]
 simp only[Option.bind_some]
 rw[show uV p2.2=some p3 from Ba (fun _ _ _ h=>J3 h) (ph (xs:=p3.1) (t:=p3.2) h3)]
 simp only[Option.bind_some]
 rw[if_pos (by omega),show HZ p3.2=some p4 from ph (t:=p4.2) h4]
 rfl
theorem Ji {l t:List UInt8} {ps:List cp} (h:HZ l=some (ps,t)) (hn:ps.length≤1048576):gP l=some (ps,t):=ze h hn
theorem J5 {l t:List UInt8} {m:eB} (h:uU l=some (m,t)) (hn:m.pf.length≤1048576):Dp l=some (m,t):=by
 unfold uU at h
 unfold Dp
 obtain⟨p1,h1,h⟩:=Option.bind_eq_some_iff.1 h
 obtain⟨p2,h2,h⟩:=Option.bind_eq_some_iff.1 h
 obtain⟨p3,h3,h⟩:=Option.bind_eq_some_iff.1 h
 obtain⟨p4,h4,h⟩:=Option.bind_eq_some_iff.1 h
 simp only[Option.some.injEq,Prod.mk.injEq] at h
 obtain⟨rfl,rfl⟩:=h
 rw[h1];simp only[Option.bind_some]
 rw[h2];simp only[Option.bind_some]
 rw[h3];simp only[Option.bind_some]
 rw[show gP p3.2=some p4 from Ji (t:=p4.2) h4 hn]
 rfl
theorem xN {α:Type} {f g:List UInt8→Option (α×List UInt8)}:∀(n:Nat) (l:List UInt8) (xs:List α) (t:List UInt8),cR f n l=some (xs,t)→(∀x∈xs,∀l t,f l=some (x,t)→g l=some (x,t))→cR g n l=some (xs,t)
 |0,l,xs,t,e,_=>e
 |n+1,l,xs,t,e,h=>by
  simp only[cR] at e⊢
  obtain⟨p,h1,h2⟩:=Option.bind_eq_some_iff.1 e
  obtain⟨q,h3,h4⟩:=Option.map_eq_some_iff.1 h2
  simp only[Prod.mk.injEq] at h4
  obtain⟨rfl,rfl⟩:=h4
  rw[h p.1 (by simp) l p.2 h1]
  simp only[Option.bind_some]
  rw[xN n p.2 q.1 q.2 h3 fun x hx=>h x (by simp[hx])]
  rfl
theorem J6 {l t:List UInt8} {e:cm} (h:sH l=some (e,t)) (hk:e.leaf.kids.length=0) (h1:e.path.length≤2048) (h2:e.leaf.lems.length≤1073741824) (h3:e.leaf.pf.length≤1048576) (h4:∀m∈e.leaf.lems,m.pf.length≤1048576):Fg l=some (e,t):=by
 unfold sH at h
 obtain⟨a,ha,h⟩:=Option.bind_eq_some_iff.1 h
 obtain⟨n,hn,h⟩:=Option.bind_eq_some_iff.1 h
 simp only[Option.some.injEq,Prod.mk.injEq] at h
 obtain⟨rfl,rfl⟩:=h
 rw[xr] at hn
 obtain⟨p2,hp2,hn⟩:=Option.bind_eq_some_iff.1 hn
 obtain⟨p3,hp3,hn⟩:=Option.bind_eq_some_iff.1 hn
 split at hn
 ·rename_i hlt
  obtain⟨p4,hp4,hn⟩:=Option.bind_eq_some_iff.1 hn
  simp only[Option.some.injEq] at hn
  subst hn
  unfold Fg
  rw[show nN 2048 zR l=some a from ze (xs:=a.1) (t:=a.2) ha h1]
  simp only[Option.bind_some]
  rw[show qD 1 a.2=some p2 from G3 (n:=p2.1) (t:=p2.2) hp2 (by omega)]
  simp only[Option.bind_some]
  have hL:nN 1073741824 Dp p2.2=some p3:=by
   refine ze (xs:=p3.1) (t:=p3.2) ?_ h2
   have hp3':fi uU p2.2=some p3:=hp3
   unfold fi at hp3'⊢
   obtain⟨q,hq,hq2⟩:=Option.bind_eq_some_iff.1 hp3'
   rw[hq]
   exact xN _ _ _ _ hq2 fun x hx l t hh=>J5 hh (h4 x hx)
  rw[hL]
  simp only[Option.bind_some]
  rw[show gP p3.2=some p4 from Ji (ps:=p4.1) (t:=p4.2) hp4 h3]
  rfl
 ·obtain⟨p4,hp4,hn⟩:=Option.bind_eq_some_iff.1 hn
  obtain⟨p5,hp5,hn⟩:=Option.bind_eq_some_iff.1 hn
  obtain⟨p6,hp6,hn⟩:=Option.bind_eq_some_iff.1 hn
  simp only[Option.some.injEq] at hn
  subst hn
  simp[aP.kids] at hk
theorem EM {e:cm} (hk:e.leaf.kids.length=0) (hl:(fq e).length≤7340032):e.leaf.lems.length≤1073741824∧e.leaf.pf.length≤1048576∧∀m∈e.leaf.lems,m.pf.length≤1048576:=by
 have he:=ro e.leaf
 rw[if_pos hk] at he
 simp only[fq,he,List.length_append,eS,jE] at hl
 have h1:=qo e.leaf.pf fun m _=>xL m
 have h2:=qo e.leaf.lems fun m _=>EL m
 refine⟨by omega,by omega,fun m hm=>?_⟩
 have h3:=GZ (f:=fj) hm
 have h4:=qo m.pf fun m _=>xL m
 simp only[fj,jE,List.length_append] at h3
 omega
theorem Dq {b:List UInt8} {e:cm} (h:lQ b=some e) (hl:b.length≤7340032):Fg b=some (e,[]):=by
 obtain⟨h1,h2,_,h4⟩:=GY h
 simp only[fk,Bool.and_eq_true,decide_eq_true_eq] at h2
 obtain⟨a,b',c⟩:=EM h2.1.1.1.2 (by rw[h1];exact hl)
 exact J6 h4 h2.1.1.1.2 h2.1.1.1.1 a b' c
structure JR {α:Type} (f:List UInt8→Option (α×List UInt8)) (st:Option (List UInt8)) (ok:Bool) (a:α) (s1:Option (List UInt8)) (ok1:Bool):Prop where
 iff:ok1=(ok&&(st.bind f).isSome)
 val:ok1=true→st.bind f=s1.map fun t=>(a,t)
section
variable {α β:Type} {f:List UInt8→Option (α×List UInt8)} {g:α→List UInt8→Option (β×List UInt8)} {st s1 s2:Option (List UInt8)} {ok ok1 ok2:Bool} {a:α} {b:β}
theorem JR.of_rdE (h:Gq f st a s1):JR f st ok a s1 (ok&&s1.isSome):=by
 have h:st.bind f=s1.map fun t=>(a,t):=h
 refine⟨by rw[h];cases s1<;>rfl,fun _=>h⟩
theorem JR.bind (h1:JR f st ok a s1 ok1) (h2:JR (g a) s1 ok1 b s2 ok2):JR (fun l=>(f l).bind fun p=>g p.1 p.2) st ok b s2 ok2:=by
 have e:st.bind (fun l=>(f l).bind fun p=>g p.1 p.2)=(st.bind f).bind fun p=>g p.1 p.2:=by cases st<;>rfl
 refine⟨?_,fun h=>?_⟩
 ·rw[h2.iff,e]
  cases hk:ok1 with
  |true=>
   have hv:=h1.val hk
   have hi:=h1.iff
   rw[hk] at hi
   simp only[Bool.true_eq,Bool.and_eq_true] at hi
   rw[hi.1,hv]
   cases s1<;>rfl
  |false=>
   have hi:=h1.iff
   rw[hk] at hi
   cases ok with
   |false=>rfl
   |true=>
    simp only[Bool.true_and] at hi
    have:st.bind f=none:=Option.isNone_iff_eq_none.1 (by rw[Option.isNone_iff_eq_none];exact Option.not_isSome_iff_eq_none.1 (by rw[←hi];simp))
    rw[this];rfl
 ·have hi2:=h2.iff
  rw[h] at hi2
  simp only[Bool.true_eq,Bool.and_eq_true] at hi2
  rw[e,h1.val hi2.1]
  have:=h2.val h
  cases s1 with
  |none=>exact this
  |some t=>exact this
theorem JR.ok_le (h:JR f st ok a s1 ok1):ok1=true→ok=true∧s1.isSome=true:=fun e=>by
 have h1:=h.iff
 rw[e] at h1
 simp only[Bool.true_eq,Bool.and_eq_true] at h1
 refine⟨h1.1,?_⟩
 have:=h.val e
 rw[this] at h1
 cases s1 with
 |none=>exact absurd h1.2 (by simp)
 |some t=>rfl
theorem JR.map (h:JR f st ok a s1 ok1) (k:α→β):JR (fun l=>(f l).bind fun p=>some (k p.1,p.2)) st ok (k a) s1 ok1:=by
 have e:st.bind (fun l=>(f l).bind fun p=>some (k p.1,p.2))=(st.bind f).map fun p=>(k p.1,p.2):=by
  cases st with
  |none=>rfl
  |some l=>show(f l).bind _=(f l).map _;cases f l<;>rfl
 refine⟨?_,fun hk=>?_⟩
 ·rw[h.iff,e];cases st.bind f<;>rfl
 ·rw[e,h.val hk];cases s1<;>rfl
end
end Go.Rl
namespace Go.Rl
open Go.RowKit Go.Proofs
theorem Ig (l:List UInt32):(jA l).bulk=l.length+1:=by
 have:∀l:List UInt32,Dt.bulkAll (l.map rR)=l.length:=by
  intro l
  induction l with
  |nil=>rfl
  |cons a l ih=>simp only[List.map_cons,Dt.bulkAll,ih,rR,Dt.bulk,List.length_cons];omega
 simp only[jA,Dt.bulk,this]
theorem zf (q:eW):(fK q).bulk=q.2.1.length+q.2.2.length+4:=by
 simp only[fK,Dt.bulk,Dt.bulkAll,Ig];omega
theorem oI {α:Type} {f:α→Dt} {m:α→Nat} {c:Nat} (l:List α) (h:∀a∈l,m a≤c*(f a).bulk):(l.map m).sum≤c*Dt.bulkAll (l.map f):=by
 induction l with
 |nil=>simp
 |cons a l ih=>
  simp only[List.map_cons,List.sum_cons,Dt.bulkAll,Nat.mul_add]
  have:=h a (by simp)
  have:=ih fun b hb=>h b (by simp[hb])
  omega
theorem sI {α:Type} {f:α→Dt} {e:α→List UInt8} {c:Nat} (l:List α) (h:∀a∈l,(e a).length≤c*(f a).bulk):(l.flatMap e).length≤c*Dt.bulkAll (l.map f):=by
 have:∀l:List α,(l.flatMap e).length=(l.map fun a=>(e a).length).sum:=by
  intro l
  induction l with
  |nil=>rfl
  |cons a l ih=>simp only[List.flatMap_cons,List.length_append,List.map_cons,List.sum_cons,ih]
 rw[this]
 exact oI l h
theorem iX (m:cp):(bK m).bulk=m.co.2.1.length+m.co.2.2.length+10:=by
 simp only[bK,kH,Dt.bulk,Dt.bulkAll,zf];omega
theorem vG (d:bj):(c9 d).bulk=d.at_.2.1.length+d.at_.2.2.length+7:=by
 simp only[c9,kH,Dt.bulk,Dt.bulkAll,zf];omega
theorem vH (l:List cp):(fL l).bulk=Dt.bulkAll (l.map bK)+1:=rfl
theorem j6 (m:eB):(cP m).bulk=m.va.2.1.length+m.va.2.2.length+Dt.bulkAll (m.pf.map bK)+8:=by
 simp only[cP,kH,Dt.bulk,Dt.bulkAll,zf,vH];omega
theorem sJ (n:aP):(bh n).bulk=Dt.bulkAll (n.lems.map cP)+(c9 n.split).bulk+Dt.bulkAll (n.kids.map bh)+Dt.bulkAll (n.pf.map bK)+5:=by
 cases n with
 |mk l s k e p=>
  simp only[bh,iT,Dt.bulk,Dt.bulkAll,vH,aP.lems,aP.split,aP.kids,aP.pf]
  omega
theorem zg {q:eW} (h:q.2.1.length≤1073741824) (h2:q.2.2.length≤1073741824):(gw q).length≤4*(q.2.1.length+q.2.2.length)+21:=by
 have a1:=iL (n:=q.2.1.length) (by omega)
 have a2:=iL (n:=q.2.2.length) (by omega)
 simp only[gw,pY,mh,List.length_append,List.length_cons,List.length_nil,fU]
 omega
theorem na {n:Int} (h:kY n):(de n).length≤10:=iL (FB h.1 h.2)
section
variable {B:Nat}
theorem G5 {m:cp} (hb:(bK m).bulk≤1048576) (hw:wMu m):(gy m).length≤10*(bK m).bulk:=by
 rw[iX] at hb⊢
 have:=na hw.1;have:=na hw.2.1;have:=na hw.2.2.1;have:=na hw.2.2.2
 have:=zg (q:=m.co) (by omega) (by omega)
 simp only[gy,List.length_append];omega
theorem Dr {l:List cp} (hb:Dt.bulkAll (l.map bK)≤1048576) (hw:wP l):(jE l).length≤10*Dt.bulkAll (l.map bK)+10:=by
 have h1:=gb (l.map bK)
 rw[List.length_map] at h1
 have:=iL (n:=l.length) (by omega)
 have:=sI (f:=bK) (e:=gy) (c:=10) l fun m hm=>G5 (Nat.le_trans (dO (List.mem_map_of_mem (f:=bK) hm)) hb) (hw m hm)
 simp only[jE,List.length_append];omega
theorem G6 {m:eB} (hb:(cP m).bulk≤1048576) (hw:I9 m):(fj m).length≤10*(cP m).bulk:=by
 rw[j6] at hb⊢
 have:=na hw.1
 have:=zg (q:=m.va) (by omega) (by omega)
 have:=Dr (l:=m.pf) (by omega) hw.2
 have:(xq m.up).length=1:=tS m.up
 simp only[fj,List.length_append];omega
theorem EN {l:List eB} (hb:Dt.bulkAll (l.map cP)≤1048576) (hw:∀m∈l,I9 m):(eS l).length≤10*Dt.bulkAll (l.map cP)+10:=by
 have h1:=gb (l.map cP)
 rw[List.length_map] at h1
 have:=iL (n:=l.length) (by omega)
 have:=sI (f:=cP) (e:=fj) (c:=10) l fun m hm=>G6 (Nat.le_trans (dO (List.mem_map_of_mem (f:=cP) hm)) hb) (hw m hm)
 simp only[eS,List.length_append];omega
theorem Ih {d:bj} (hb:(c9 d).bulk≤1048576) (hw:wD d):(gG d).length≤10*(c9 d).bulk:=by
 rw[vG] at hb⊢
 have:=na hw.1;have:=na hw.2
 have:=zg (q:=d.at_) (by omega) (by omega)
 simp only[gG,List.length_append];omega
theorem zh:∀(k:Nat) {n:aP},SizeOf.sizeOf n≤k→(bh n).bulk≤1048576→wN n→(dt n).length≤10*(bh n).bulk∧tx n≤2*(bh n).bulk∧sN n
 |0,n,hk,_,_=>by cases n;simp at hk
 |k+1,n,hk,hb,hw=>by
  obtain⟨wl,wd,wp,wk⟩:=(yV n).1 hw
  rw[sJ] at hb⊢
  have ih:∀c∈n.kids,(dt c).length≤10*(bh c).bulk∧tx c≤2*(bh c).bulk∧sN c:=fun c hc=>by
   have h1:=dO (List.mem_map_of_mem (f:=bh) hc)
   exact zh k (by have:=aP.lt_of_mem hc;omega) (by omega) (wk c hc)
  have e1:=EN (l:=n.lems) (by omega) wl
  have e2:=Ih (d:=n.split) (by omega) wd
  have e3:=Dr (l:=n.pf) (by omega) wp
  have e4:=sI (f:=bh) (e:=dt) (c:=10) n.kids fun c hc=>(ih c hc).1
  have s1:=oI (f:=bK) (m:=mQ) (c:=1) n.pf fun m _=>by rw[iX];unfold mQ;omega
  have s2:=oI (f:=cP) (m:=mL) (c:=1) n.lems fun m _=>by
   have:=oI (f:=bK) (m:=mQ) (c:=1) m.pf fun m _=>by rw[iX];unfold mQ;omega
   rw[j6];unfold mL mP;omega
  have s3:=oI (f:=bh) (m:=tx) (c:=2) n.kids fun c hc=>(ih c hc).2.1
  have s4:=gb (n.lems.map cP)
  rw[List.length_map] at s4
  have hd:=vG n.split
  refine⟨?_,?_,?_⟩
  ·rw[ro]
   split
   ·simp only[List.length_append,tS];omega
   ·simp only[List.length_append,List.length_cons,List.length_nil];omega
  ·rw[GW];unfold mP;omega
  ·refine(vv n).2 ⟨fun m hm=>⟨⟨?_,?_⟩,fun p hp=>⟨?_,?_⟩⟩,⟨by omega,by omega⟩,fun p hp=>⟨?_,?_⟩,fun c hc=>(ih c hc).2.2⟩
   ·have:=dO (List.mem_map_of_mem (f:=cP) hm);rw[j6] at this;omega
   ·have:=dO (List.mem_map_of_mem (f:=cP) hm);rw[j6] at this;omega
   ·have h1:=dO (List.mem_map_of_mem (f:=cP) hm);rw[j6] at h1
    have h2:=dO (List.mem_map_of_mem (f:=bK) hp);rw[iX] at h2;omega
   ·have h1:=dO (List.mem_map_of_mem (f:=cP) hm);rw[j6] at h1
    have h2:=dO (List.mem_map_of_mem (f:=bK) hp);rw[iX] at h2;omega
   ·have h2:=dO (List.mem_map_of_mem (f:=bK) hp);rw[iX] at h2;omega
   ·have h2:=dO (List.mem_map_of_mem (f:=bK) hp);rw[iX] at h2;omega
end
end Go.Rl
namespace Go.Rl
open Go.RowKit
end Go.Rl
namespace Go.Rl
open Go.RowKit
mutual
def sK:aP→List aP
 |.mk l s ks e p=>.mk l s ks e p::Ds ks
def Ds:List aP→List aP
 |[]=>[]
 |n::l=>sK n++Ds l
end
theorem vI:∀l:List aP,Ds l=l.flatMap sK
 |[]=>rfl
 |n::l=>by simp only[Ds,List.flatMap_cons,vI l]
theorem zi (n:aP):sK n=n::n.kids.flatMap sK:=by
 cases n with
 |mk l s k e p=>simp only[sK,vI];rfl
end Go.Rl
namespace Go.Rl
open Go.RowKit Go.Proofs
def zj (w w':World):Prop:=∀a v,w.cell? a=some v→w'.cell? a=some v
theorem zj.cells {w w':World} (h:zj w w') {ad:Addr} {xs:List Value} (hc:dw w ad xs):dw w' ad xs:=fun j u hu=>h _ _ (hc j u hu)
structure Kc (b:Nat) (w w':World):Prop where
 os:w'.os=w.os
 tape:w'.tape=w.tape
 output:w'.output=w.output
 size:w.heap.size≤w'.heap.size
 low:∀k,k<b→w'.heap[k]? =w.heap[k]?
 cel:∀(k:Nat) (o:Obj),w.heap[k]? =some o→o.isCells=true→w'.heap[k]? =some o
section
variable {b:Nat} {w w0 w1 w2:World}
theorem Kc.refl (b:Nat) (w:World):Kc b w w:=⟨rfl,rfl,rfl,Nat.le_refl _,fun _ _=>rfl,fun _ _ h _=>h⟩
theorem Kc.trans (h:Kc b w w1) (k:Kc b w1 w2):Kc b w w2:=⟨k.os.trans h.os,k.tape.trans h.tape,k.output.trans h.output,Nat.le_trans h.size k.size,fun n hn=>(k.low n hn).trans (h.low n hn),fun n o hn ho=>k.cel n o (h.cel n o hn ho) ho⟩
theorem Kc.of_ext (h:aH w w1) (hb:b≤w.heap.size):Kc b w w1:=⟨h.os,h.tape,h.output,h.size,fun _ hn=>h.heap (Nat.lt_of_lt_of_le hn hb),fun _ _ hn _=>h.heap_some hn⟩
theorem Kc.cells (h:Kc b w w1):zj w w1:=fun a v hv=>by
 unfold World.cell? at hv⊢
 cases ho:w.heap[a.block]? with
 |none=>rw[ho] at hv;cases hv
 |some o=>
  rw[ho] at hv
  cases o with
  |cells c t f=>rw[h.cel _ _ ho rfl];exact hv
  |_=>cases hv
theorem Kc.blk {g:Nat} {T:TypeId} {l:List Value} (h:Kc b w w1) (k:bQ g T l w):bQ g T l w1:=h.cel _ _ k rfl
theorem Kc.ext (h:Kc w0.heap.size w w1) (e:aH w0 w):aH w0 w1:=⟨h.os.trans e.os,h.tape.trans e.tape,h.output.trans e.output,Nat.le_trans e.size h.size,fun n hn=>(h.low n hn).trans (e.heap hn)⟩
theorem Kc.own {row:Option Nat} (hg:w.grownBy w1 row) (hr:∀r,row=some r→b≤r∧∃o:Obj,w.heap[r]? =some o∧o.isCells=false) (hb:b≤w.heap.size):Kc b w w1:=by
 refine⟨hg.os,hg.tape,hg.output,hg.size,fun k hk=>hg.block k (by omega) fun e=>by have:=(hr k e.symm).1;omega,fun k o hk ho=>?_⟩
 refine(hg.block k (Array.getElem?_eq_some_iff.1 hk).1 fun e=>?_).trans hk
 obtain⟨_,o2,h2,h3⟩:=hr k e.symm
 rw[hk] at h2
 cases h2
 rw[ho] at h3
 cases h3
end
end Go.Rl
namespace Go.Rl
open Go.RowKit Go.Proofs Go.Proofs.YtpeidnhjcompmaaGreatDoor
end Go.Rl
namespace Go.Rl
open Go.RowKit
end Go.Rl
namespace Go.Rl
open Go.RowKit Go.Proofs Go.Proofs.YtpeidnhjcompmaaGreatDoor
theorem gX {w:World} {q:eW} {x y:Value} (hx:bk q.2.1 x w) (hy:bk q.2.2 y w) (hs:sQ q):
 Calls Tryz.prog 99 #[.agg #[B q.1,x,y]] w (bN fun r w'=>aH w w'∧r=B (fC q)):=
 od (b:=q.1) ⟨x,y,rfl,hx,hy⟩ (by have:=hs.1;omega) (by have:=hs.2;omega)
end Go.Rl
namespace Go.Rl
open Go.RowKit Go.Proofs Go.Proofs.YtpeidnhjcompmaaGreatDoor
end Go.Rl
namespace Go.Rl
open Go.RowKit Go.Proofs
end Go.Rl
namespace Go.Rl
open Go.RowKit Go.Proofs Go.Proofs.YtpeidnhjcompmaaGreatDoor
theorem xO {α:Type} {f:List UInt8→Option (α×List UInt8)} {P:α→Prop} {K:Nat} (hf:Le f) (h:∀l a t,f l=some (a,t)→l.length≤K→P a):∀(n:Nat) (l:List UInt8) (xs:List α) (t:List UInt8),cR f n l=some (xs,t)→l.length≤K→∀x∈xs,P x
 |0,l,xs,t,e,_=>by
  simp only[cR,Option.some.injEq,Prod.mk.injEq] at e
  rw[←e.1]
  exact fun _ h=>by simp at h
 |n+1,l,xs,t,e,hl=>by
  simp only[cR] at e
  obtain⟨p,h1,h2⟩:=Option.bind_eq_some_iff.1 e
  obtain⟨q,h3,h4⟩:=Option.map_eq_some_iff.1 h2
  simp only[Prod.mk.injEq] at h4
  have h5:=hf l p.1 p.2 h1
  have ih:=xO hf h n p.2 q.1 q.2 h3 (by omega)
  rw[←h4.1]
  intro x hx
  rcases List.mem_cons.1 hx with rfl|hx
  ·exact h l _ p.2 h1 hl
  ·exact ih x hx
theorem qp {α:Type} {f:List UInt8→Option (α×List UInt8)} {P:α→Prop} {K:Nat} (hf:Le f) (h:∀l a t,f l=some (a,t)→l.length≤K→P a) {l t:List UInt8} {xs:List α} (e:fi f l=some (xs,t)) (hl:l.length≤K):∀x∈xs,P x:=by
 unfold fi at e
 obtain⟨p,h1,h2⟩:=Option.bind_eq_some_iff.1 e
 have:=uP l p.1 p.2 h1
 exact xO hf h _ _ _ _ h2 (by omega)
theorem pi {l t:List UInt8} {q:eW} (h:nQ l=some (q,t)) (hl:l.length≤4294967296):sQ q:=by
 have h1:=(tP h).1
 have h2:=lO q
 have h3:=congrArg List.length h1
 rw[List.length_append] at h3
 exact⟨by omega,by omega⟩
theorem Ce {l t:List UInt8} {m:cp} (h:yI l=some (m,t)) (hl:l.length≤4294967296):sQ m.co:=by
 unfold yI at h
 obtain⟨p1,h1,h⟩:=Option.bind_eq_some_iff.1 h
 obtain⟨p2,h2,h⟩:=Option.bind_eq_some_iff.1 h
 obtain⟨p3,h3,h⟩:=Option.bind_eq_some_iff.1 h
 obtain⟨p4,h4,h⟩:=Option.bind_eq_some_iff.1 h
 obtain⟨p5,h5,h⟩:=Option.bind_eq_some_iff.1 h
 simp only[Option.some.injEq,Prod.mk.injEq] at h
 obtain⟨rfl,rfl⟩:=h
 have a1:=fW _ _ _ h1;have a2:=fW _ _ _ h2;have a3:=fW _ _ _ h3;have a4:=fW _ _ _ h4
 exact pi (q:=p5.1) (t:=p5.2) h5 (by omega)
theorem xP {l t:List UInt8} {xs:List cp} (h:HZ l=some (xs,t)) (hl:l.length≤4294967296):sP xs:=qp Dd.le (fun _ _ _ h hl=>Ce h hl) h hl
theorem Cf {l t:List UInt8} {m:eB} (h:uU l=some (m,t)) (hl:l.length≤4294967296):sL m:=by
 unfold uU at h
 obtain⟨p1,h1,h⟩:=Option.bind_eq_some_iff.1 h
 obtain⟨p2,h2,h⟩:=Option.bind_eq_some_iff.1 h
 obtain⟨p3,h3,h⟩:=Option.bind_eq_some_iff.1 h
 obtain⟨p4,h4,h⟩:=Option.bind_eq_some_iff.1 h
 simp only[Option.some.injEq,Prod.mk.injEq] at h
 obtain⟨rfl,rfl⟩:=h
 have a1:=fW _ _ _ h1;have a2:=sc 1 _ _ _ h2;have a3:=uQ _ _ _ h3
 exact⟨pi (q:=p3.1) (t:=p3.2) h3 (by omega),xP (xs:=p4.1) (t:=p4.2) h4 (by omega)⟩
theorem qq:∀(k:Nat) (l t:List UInt8) (n:aP),pz k l=some (n,t)→l.length≤4294967296→sN n
 |0,_,_,_,h,_=>by cases h
 |k+1,l,t,n,h,hl=>by
  simp only[pz] at h
  obtain⟨p1,h1,h⟩:=Option.bind_eq_some_iff.1 h
  obtain⟨p2,h2,h⟩:=Option.bind_eq_some_iff.1 h
  have a1:=sc 2 _ _ _ h1;have a2:=rh _ _ _ h2
  have s2:=qp De.le (fun _ _ _ h hl=>Cf h hl) (xs:=p2.1) (t:=p2.2) h2 (by omega)
  split at h
  ·obtain⟨p3,h3,h⟩:=Option.bind_eq_some_iff.1 h
   simp only[Option.some.injEq,Prod.mk.injEq] at h
   obtain⟨rfl,rfl⟩:=h
   refine(vv _).2 ⟨s2,⟨?_,?_⟩,xP (xs:=p3.1) (t:=p3.2) h3 (by omega),fun _ h=>?_⟩
   ·show([]:List UInt32).length≤_;simp
   ·show([]:List UInt32).length≤_;simp
   ·simp[aP.kids] at h
  ·obtain⟨p3,h3,h⟩:=Option.bind_eq_some_iff.1 h
   obtain⟨p4,h4,h⟩:=Option.bind_eq_some_iff.1 h
   obtain⟨p5,h5,h⟩:=Option.bind_eq_some_iff.1 h
   simp only[Option.some.injEq,Prod.mk.injEq] at h
   obtain⟨rfl,rfl⟩:=h
   have a3:=sf _ _ _ h3;have a4:=ri _ _ _ _ h4
   have s4:=qq k _ p4.2 p4.1 h4 (by omega)
   have s5:=qq k _ p5.2 p5.1 h5 (by omega)
   have sd:sQ p3.1.at_:=by
    unfold zR at h3
    obtain⟨q1,i1,h3⟩:=Option.bind_eq_some_iff.1 h3
    obtain⟨q2,i2,h3⟩:=Option.bind_eq_some_iff.1 h3
    obtain⟨q3,i3,h3⟩:=Option.bind_eq_some_iff.1 h3
    have b1:=fW _ _ _ i1;have b2:=fW _ _ _ i2
    simp only[Option.some.injEq] at h3
    rw[←h3]
    exact pi (q:=q3.1) (t:=q3.2) i3 (by omega)
   refine(vv _).2 ⟨s2,sd,fun _ h=>by simp[aP.pf] at h,fun c hc=>?_⟩
   simp only[aP.kids,List.mem_cons,List.not_mem_nil,or_false] at hc
   rcases hc with rfl|rfl
   ·exact s4
   ·exact s5
end Go.Rl
namespace Go.Rl
open Go.RowKit
def kr:List UInt8:=[82,76,85,74]
def Bl (b:List UInt8):List UInt8:=b++(jD b).take 8
def fE (b:List UInt8) (k:Nat):Bool:=decide (k+8≤b.length)&&decide (Bl (b.take k)=b.take (k+8))
def jH (d:List UInt8):List UInt8:=Bl (kr++d)
def lR (b p:List UInt8):List UInt8:=Bl (b++nU p)
def gH (b:List UInt8) (k:Nat):Option (cm×Nat):=(uJ (b.drop k)).bind fun p=>if fE b (b.length-p.2.length)=true then(lQ p.1).map fun x=>(x,b.length-p.2.length+8) else none
def pD (b:List UInt8):Nat→Nat→List cm×Nat
 |0,k=>([],k)
 |f+1,k=>match gH b k with
  |some (x,k')=>(x::(pD b f k').1,(pD b f k').2)
  |none=>([],k)
def fQ (b:List UInt8) (k:Nat):List cm×Nat:=pD b (b.length-k) k
def oJ (b:List UInt8):(List UInt8×List cm×Nat)×Int:=if b.length<44∨b.take 4≠kr∨fE b 36=false then((vY,[],0),5) else(((b.take 36).drop 4,fQ b 44),0)
section
variable {b:List UInt8} {k k' f:Nat} {x:cm}
theorem Ii {l a t:List UInt8} (h:uJ l=some (a,t)):t.length+1≤l.length:=by
 have:=HX h
 have h2:=pR a.length
 rw[this]
 unfold nU
 simp only[List.length_append]
 omega
theorem sO (h:gH b k=some (x,k')):∃p t,uJ (b.drop k)=some (p,t)∧fE b (b.length-t.length)=true∧lQ p=some x∧k'=b.length-t.length+8∧k+9≤k'∧k'≤b.length:=by
 unfold gH at h
 obtain⟨p,h1,h2⟩:=Option.bind_eq_some_iff.1 h
 split at h2
 ·rename_i hc
  obtain⟨y,h3,h4⟩:=Option.map_eq_some_iff.1 h2
  simp only[Prod.mk.injEq] at h4
  obtain⟨rfl,rfl⟩:=h4
  have h5:=Ii (a:=p.1) (t:=p.2) h1
  rw[List.length_drop] at h5
  have hc':=hc
  simp only[fE,Bool.and_eq_true,decide_eq_true_eq] at hc'
  exact⟨p.1,p.2,h1,hc,h3,rfl,by omega,by omega⟩
 ·cases h2
theorem xQ (h:b.length≤k):gH b k=none:=by
 unfold gH
 rw[List.drop_eq_nil_of_le h]
 rfl
theorem j7:∀(f k:Nat),b.length-k≤f→pD b f k=fQ b k
 |0,k,h=>by
  unfold fQ
  rw[show b.length-k=0 by omega]
 |f+1,k,h=>by
  unfold fQ
  rcases Nat.lt_or_ge k b.length with hk|hk
  ·obtain⟨m,hm⟩:∃m,b.length-k=m+1:=⟨b.length-k-1,by omega⟩
   rw[hm]
   simp only[pD]
   cases hs:gH b k with
   |none=>rfl
   |some p=>
    obtain⟨x,k'⟩:=p
    obtain⟨_,_,_,_,_,_,h9,_⟩:=sO hs
    simp only[]
    rw[j7 f k' (by omega),j7 m k' (by omega)]
  ·rw[show b.length-k=0 by omega]
   simp only[pD,xQ hk]
theorem vJ (h:gH b k=some (x,k')):fQ b k=(x::(fQ b k').1,(fQ b k').2):=by
 obtain⟨_,_,_,_,_,_,h9,h10⟩:=sO h
 have:fQ b k=pD b (b.length-k-1+1) k:=(j7 _ _ (by omega)).symm
 rw[this]
 simp only[pD,h]
 rw[j7 _ _ (by omega)]
theorem vL (h:gH b k=none):fQ b k=([],k):=by
 have:fQ b k=pD b (b.length-k+1) k:=(j7 _ _ (by omega)).symm
 rw[this]
 simp only[pD,h]
end
theorem zm (b:List UInt8):(Bl b).length=b.length+8:=by
 unfold Bl
 rw[List.length_append,List.length_take,dx]
 omega
theorem xS (a s:List UInt8):fE (Bl a++s) a.length=true:=by
 have h:=zm a
 unfold fE
 rw[Bool.and_eq_true]
 refine⟨decide_eq_true (by rw[List.length_append];omega),decide_eq_true ?_⟩
 have e1:(Bl a++s).take a.length=a:=by
  unfold Bl
  rw[List.append_assoc]
  exact List.take_left' rfl
 have e2:(Bl a++s).take (a.length+8)=Bl a:=List.take_left' h
 rw[e1,e2]
theorem G7 (b p:List UInt8):(lR b p).length=b.length+(nU p).length+8:=by unfold lR;rw[zm,List.length_append]
theorem Bb (b p:List UInt8):lR b p=b++(nU p++(jD (b++nU p)).take 8):=by
 unfold lR Bl
 rw[List.append_assoc]
theorem Cg {b p:List UInt8} (rest:List UInt8) (hp:p.length<18446744073709551616):gH (lR b p++rest) b.length=(lQ p).map fun x=>(x,(lR b p).length):=by
 have hc:((jD (b++nU p)).take 8).length=8:=by rw[List.length_take,dx];rfl
 have hd:(lR b p++rest).drop b.length=nU p++((jD (b++nU p)).take 8++rest):=by
  rw[Bb,List.append_assoc,List.append_assoc]
  exact List.drop_left' rfl
 have hl:=G7 b p
 unfold gH
 rw[hd,Gb hp]
 simp only[Option.bind_some]
 have e:(lR b p++rest).length-((jD (b++nU p)).take 8++rest).length=(b++nU p).length:=by
  rw[List.length_append,List.length_append,List.length_append,hl,hc];omega
 rw[e,if_pos (show fE (lR b p++rest) (b++nU p).length=true from xS _ _)]
 congr 1
 funext x
 rw[hl,List.length_append]
def Kw (b:List UInt8) (ps:List (List UInt8)):List UInt8:=ps.foldl lR b
theorem zn:∀(ps:List (List UInt8)) (b:List UInt8),∃s,Kw b ps=b++s
 |[],b=>⟨[],by simp[Kw]⟩
 |p::ps,b=>by
  obtain⟨s,h⟩:=zn ps (lR b p)
  exact⟨nU p++(jD (b++nU p)).take 8++s,by
   show Kw (lR b p) ps=_
   rw[h,Bb]
   simp only[List.append_assoc]⟩
def zS (b:List UInt8) (es:List cm):List UInt8:=Kw b (es.map fq)
def G8 (es:List cm):Prop:=∀e∈es,lQ (fq e)=some e∧(fq e).length<18446744073709551616
theorem vM:∀(es:List cm) (b rest:List UInt8),G8 es→fQ (zS b es++rest) b.length=(es++(fQ (zS b es++rest) (zS b es).length).1,(fQ (zS b es++rest) (zS b es).length).2)
 |[],b,rest,_=>rfl
 |e::es,b,rest,h=>by
  obtain⟨h1,h2⟩:=h e (by simp)
  have e0:zS b (e::es)=zS (lR b (fq e)) es:=rfl
  obtain⟨s,hs⟩:=zn (es.map fq) (lR b (fq e))
  have e1:zS (lR b (fq e)) es++rest=lR b (fq e)++(s++rest):=by
   show Kw _ _++rest=_
   rw[hs,List.append_assoc]
  have hst:gH (zS (lR b (fq e)) es++rest) b.length=some (e,(lR b (fq e)).length):=by
   rw[e1,Cg _ h2,h1];rfl
  rw[e0,vJ hst,vM es (lR b (fq e)) rest fun x hx=>h x (by simp[hx])]
  rfl
theorem oK {d:List UInt8} (hd:d.length=32):(jH d).length=44:=by unfold jH;rw[zm,List.length_append,hd];rfl
theorem EO {d:List UInt8} (s:List UInt8) (hd:d.length=32):oJ (jH d++s)=((d,fQ (jH d++s) 44),0):=by
 have h:=oK hd
 have hl:(kr++d).length=36:=by rw[List.length_append,hd];rfl
 have h4:(jH d++s).take 4=kr:=by
  unfold jH Bl
  rw[List.append_assoc,List.append_assoc]
  exact List.take_left' (l₁:=kr) rfl
 have h36:(jH d++s).take 36=kr++d:=by
  unfold jH Bl
  rw[List.append_assoc]
  exact List.take_left' hl
 unfold oJ
 rw[if_neg,h36,show(kr++d).drop 4=d from List.drop_left' (l₁:=kr) rfl]
 rintro(h1|h1|h1)
 ·rw[List.length_append] at h1;omega
 ·exact h1 h4
 ·have:=xS (kr++d) s
  rw[hl] at this
  rw[show jH d=Bl (kr++d) from rfl,this] at h1
  cases h1
theorem Ij {d:List UInt8} (es:List cm) (rest:List UInt8):∃s,zS (jH d) es++rest=jH d++s:=by
 obtain⟨s,hs⟩:=zn (es.map fq) (jH d)
 exact⟨s++rest,by show Kw _ _++rest=_;rw[hs,List.append_assoc]⟩
theorem EP {d:List UInt8} {es:List cm} (rest:List UInt8) (hd:d.length=32) (hb:G8 es):oJ (zS (jH d) es++rest)=((d,es++(fQ (zS (jH d) es++rest) (zS (jH d) es).length).1,(fQ (zS (jH d) es++rest) (zS (jH d) es).length).2),0):=by
 obtain⟨s,hs⟩:=Ij (d:=d) es rest
 have h:=EO (d:=d) s hd
 rw[←hs] at h
 have h2:=vM es (jH d) rest hb
 rw[oK hd] at h2
 rw[h,h2]
theorem Ch {d:List UInt8} {es:List cm} (hd:d.length=32) (hb:G8 es):oJ (zS (jH d) es)=((d,es,(zS (jH d) es).length),0):=by
 have h:=EP [] hd hb
 rw[List.append_nil] at h
 rw[h,vL (xQ (Nat.le_refl _)),List.append_nil]
def J7 (b:List UInt8) (e:cm):List UInt8×Int:=if fk e=false then([],1) else if (oJ b).2≠0∨(oJ b).1.2.2≠b.length then([],5) else(lR b (fq e),0)
end Go.Rl
namespace Go.Rl
open Go.RowKit Go.Proofs
def jR (e:cm):Dt:=.st [.sl (e.path.map c9),bh e.leaf]
section
variable {w:World} {cs:List Value}
theorem nh {e:cm} (h:Rp w (jR e) cs):∃vd vl x y vk vp,cs=[vd,vl,I e.leaf.split.kd,I e.leaf.split.ix,B e.leaf.split.at_.1,x,y,vk,B e.leaf.empty,vp]∧cd c9 e.path vd w∧cd cP e.leaf.lems vl w∧bk e.leaf.split.at_.2.1 x w∧bk e.leaf.split.at_.2.2 y w∧cd bh e.leaf.kids vk w∧cd bK e.leaf.pf vp w:=by
 simp only[jR,bn,Rp.eq_5] at h
 obtain⟨_,_,rfl,h1,_,_,rfl,h2,rfl⟩:=h
 obtain⟨vd,rfl,hd,_⟩:=Rp.isSlice h1
 obtain⟨vl,x,y,vk,vp,rfl,a1,a2,a3,a4,a5⟩:=dc h2
 exact⟨vd,vl,x,y,vk,vp,rfl,hd,a1,a2,a3,a4,a5⟩
theorem bG (e:cm):(jR e).size=10:=by simp[jR,Dt.size,Dt.sizeAll,bF]
theorem zo {g:Nat}:(Instr.sliceAt 24 (.pointer (some ⟨g,0,none⟩)) none (some (I 8)) none).run Tryz.prog w=.ok (.slice (some ⟨g,0,none⟩) 8 32) w:=by
 have a1:=run_sliceBound (P:=Tryz.prog) (w:=w) .i64 (8:Int) 32 .sliceAlen (by omega) (by omega)
 have h8:(8:Int).toNat=8:=rfl
 rw[h8] at a1
 simp[Instr.sliceAt,run_underlying Tryz.underlying24,Instr.sureAddr,Instr.sliceBounds,fh fe,Addr.add_mid,I,a1]
theorem cK.front {l:List UInt8} {g n c k:Nat} (h:cK l (.slice (some ⟨g,0,none⟩) n c) w) (hk:k≤n) (h0:0<k):cK (l.take k) (.slice (some ⟨g,0,none⟩) k c) w:=by
 obtain⟨A,n',c',he,h1,h2,h3,h4,h5⟩:=h
 cases he
 refine⟨_,_,_,rfl,Nat.le_trans hk h1,h2,by simp only[List.length_map,List.length_take] at h3⊢;omega,fun _=>?_,fun h=>by cases h⟩
 obtain⟨ad,e,hc⟩:=h4 (by omega)
 cases e
 exact⟨_,rfl,by rw[List.map_take];exact hc.take k⟩
end
section
variable {P:Program} {ops:Array Oper} {Q:iq} {N:Nat} {D:List Deferred} {S:World→Prop} {fuel:Nat} {listed:Array Bool} {l:Fr} {w:World} {d:Nat} {ty:TypeId} {pos:String} {aft:Array Edge}
theorem pj (i:Nat) {t:TypeId} {x:Operand} {lo hi mx:Option Operand} {u r:Value} {a b c:Option Value} (hi':ops[i]? =some ⟨some d,.slice t x lo hi mx,ty,pos,aft,none⟩) (hx:ev l x=some u) (hlo:HD l lo=some a) (hhi:HD l hi=some b) (hmx:HD l mx=some c)
 (hB:mH ops listed i=true) (hd:Nat.blt d N=true) (hS:S w) (hrun:∀w',S w'→(Instr.sliceAt t u a b c).run P w'=.ok r w')
 (k:dh P ops Q N D S fuel (listed.setIfInBounds i true) ((d,r)::l) w):dh P ops Q N D S (fuel+1) listed l w:=
 xh i hi' hB hd hS (fun ρ w' hρ hw'=>by
  have:execOp ρ ⟨some d,.slice t x lo hi mx,ty,pos,aft,none⟩=(do pure (Next.value (←Instr.sliceAt t (ρ x) (lo.map ρ) (hi.map ρ) (mx.map ρ))):Sem Next):=rfl
  rw[this,hρ x _ hx,rN hρ hlo,rN hρ hhi,rN hρ hmx,Sem.run_bind,hrun w' hw'];rfl) k
end
end Go.Rl
namespace Go.Rl
open Go.RowKit Go.Proofs
theorem Bc:aJ Tryz.prog 53:=⟨_,Tryz.func53,by kernel_rfl,rfl⟩
theorem Ci:aJ Tryz.prog 18:=⟨_,Tryz.func18,by kernel_rfl,rfl⟩
theorem Bd {w:World} {b:List UInt8} {v:Value} (hb:cK b v w) (hl:b.length≤1099511627776):
 Calls Tryz.prog 53 #[v] w (bN fun r w'=>aH w w'∧cL w.heap.size (Bl b) r w'):=by
 refine enter (vs:=[v]) Tryz.func53 E E E ?_
 refine af (aa (ac E E (ag (ab (af (aa (ae E E (an EA E E ((EB hb (by omega))) ?_))))))))
 rintro v5 w5 ⟨x5,rfl⟩
 obtain⟨g3,w3,hr3,l3,x3,k3⟩:=a9 (P:=Tryz.prog) (w:=w5) (t:=24) (l:=(List.replicate 32 0).map U8) li rfl
 refine aS E hr3 ?_
 obtain⟨w6,s6,q6,k6⟩:=k3.stS (P:=Tryz.prog) (t:=24) (m:=(jD b).map U8) (by simp[dx]) (by rw[List.length_map,dx];exact mW) (iu _)
 refine ay E E s6 ?_
 have x6:=x3.of_new q6 l3
 have b32:cK (jD b) (.slice (some ⟨g3,0,none⟩) 32 32) w6:=by
  have:=k6.bts (by rw[dx];omega)
  rwa [dx] at this
 refine ag (ab (af ?_))
 have hd:aH w6 w6.drew:=(aH.refl w6).drew
 have b8:=b32.front (k:=8) (by omega) (by omega)
 have d8:((jD b).take 8).length=8:=by rw[List.length_take,dx];omega
 refine fw (aH w6) 6 E (by kernel_rfl) ?_
 refine cF 1 E E (by kernel_rfl) E hd ?_
 refine pj 3 E E E E E (by kernel_rfl) E hd (fun w' _=>zo) ?_
 refine aO 0 (by kernel_rfl) E ?_
 obtain⟨v7,w7,hr7,x7,o7,_⟩:=dS (w:=w6.drew) w6.heap.size [] (by simp) hd.size
 have e7:=hd.trans x7
 refine aF (vs:=[]) E E hr7 (ao e7 (aO 2 (by kernel_rfl) E ?_))
 obtain⟨v8,w8,hr8,o8,g8⟩:=di (ty:=22) o7 (hb.ext ((x5.trans x6).trans e7)) (by simp;omega) e7.size
 have x8:=aH.of_grew e7 g8 o7.ge
 refine aT E E hr8 (ao x8 (aO 4 (by kernel_rfl) E ?_))
 obtain⟨v10,w10,hr10,o10,g10⟩:=di (ty:=22) o8 (b8.ext x8) (by simp[d8];omega) x8.size
 have x10:=aH.of_grew x8 g10 o8.ge
 refine aT E E hr10 (ao x10 (aO 5 (by kernel_rfl) E ?_))
 refine ac E E (ao x10 (fx (by kernel_rfl) ?_))
 refine ab (aw (au E E ?_))
 exact⟨_,rfl,((x5.trans x6).trans x10),by have h:cL w6.heap.size ([]++b++(jD b).take 8) v10 w10:=o10;exact h.low (x5.trans x6).size⟩
theorem J8 {w:World} {d:List UInt8} (hd:d.length=32):
 Calls Tryz.prog 19 #[.agg (d.map U8).toArray] w (bN fun r w'=>aH w w'∧cL w.heap.size (jH d) r w'):=by
 refine enter (vs:=[.agg (d.map U8).toArray]) Tryz.func19 E E E ?_
 refine af (aa ?_)
 obtain⟨g2,w2,hr2,l2,x2,k2⟩:=cq (P:=Tryz.prog) (w:=w) (T:=24) (cs:=d.map U8)
 refine cw E E hr2 ?_
 refine ac E E (ag (ab (af (aa ?_))))
 obtain⟨v7,w7a,w7,hr7,hc7,x7,b7,ad,hv7,had,hlt⟩:=F9 (w:=w2) (t:=22) Tryz.underlying22 [82,76,85,74] (by simp) (by simp)
 refine aF (vs:=[(0,U8 82),(1,U8 76),(2,U8 85),(3,U8 74)]) E E hr7 ?_
 refine bb E E hc7 ?_
 have e7:=x2.trans x7
 have bd:cK d (.slice (some ⟨g2,0,none⟩) 32 32) w7:=by
  have:=(k2.ext x7).bts (by rw[hd];omega)
  rwa [hd] at this
 obtain⟨v10,w10,hr10,o10,x10⟩:=Br (ty:=22) e7 (.inr ⟨b7,ad,hv7⟩) bd (by omega) (by simp[hd])
 refine dm E E E E E (GS) ?_
 refine aT E E hr10 ?_
 have b10:cK (kr++d) v10 w10:=o10.bts
 refine an Bc E E ((Bd b10 (by simp only[List.length_append,hd,kr,List.length_cons,List.length_nil];omega))) ?_
 rintro v7 w7' ⟨x7',o11⟩
 refine ac E E (ag (ab (aw (au E E ?_))))
 exact⟨_,rfl,(x10.trans x7'),o11.low x10.size⟩
theorem Cj {w:World} {d:List UInt8} (hd:d.length=32):
 Calls Tryz.prog 18 #[.agg (d.map U8).toArray] w (bN fun r w'=>aH w w'∧cL w.heap.size (jH d) r w'):=by
 refine enter (vs:=[.agg (d.map U8).toArray]) Tryz.func18 E E E ?_
 refine af (aa ?_)
 obtain⟨g2,w2,hr2,l2,x2,k2⟩:=cq (P:=Tryz.prog) (w:=w) (T:=24) (cs:=d.map U8)
 refine cw E E hr2 ?_
 refine ac E E (ag (ab (af (aa ?_))))
 obtain⟨v7,w7a,w7,hr7,hc7,x7,b7,ad,hv7,had,hlt⟩:=F9 (w:=w2) (t:=22) Tryz.underlying22 [82,76,85,74] (by simp) (by simp)
 refine aF (vs:=[(0,U8 82),(1,U8 76),(2,U8 85),(3,U8 74)]) E E hr7 ?_
 refine bb E E hc7 ?_
 have e7:=x2.trans x7
 have bd:cK d (.slice (some ⟨g2,0,none⟩) 32 32) w7:=by
  have:=(k2.ext x7).bts (by rw[hd];omega)
  rwa [hd] at this
 obtain⟨v8,w8,hr8,o8,x8⟩:=Br (ty:=22) e7 (.inr ⟨b7,ad,hv7⟩) bd (by omega) (by simp[hd])
 refine dm E E E E E (GS) ?_
 refine aT E E hr8 ?_
 refine ac E E (ag (ab (af (aa (ae E E ?_)))))
 have b8:cK (kr++d) v8 w8:=o8.bts
 have hl8:(kr++d).length=36:=by simp only[List.length_append,hd,show kr.length=4 from rfl]
 refine an EG E E ((EH b8)) ?_
 rintro v10 w10 ⟨x10,rfl⟩
 obtain⟨g6,w6,hr6,l6,x6,k6⟩:=a9 (P:=Tryz.prog) (w:=w10) (t:=24) (l:=(List.replicate 32 0).map U8) li rfl
 refine aS E hr6 ?_
 obtain⟨w11,s11,q11,k11⟩:=k6.stS (P:=Tryz.prog) (t:=24) (m:=(jD (kr++d)).map U8) (by simp[dx]) (by rw[List.length_map,dx];exact mW) (iu _)
 refine ay E E s11 ?_
 have x11:=x6.of_new q11 l6
 have b32:cK (jD (kr++d)) (.slice (some ⟨g6,0,none⟩) 32 32) w11:=by
  have:=k11.bts (by rw[dx];omega)
  rwa [dx] at this
 have b12:=b32.front (k:=8) (by omega) (by omega)
 have d8:((jD (kr++d)).take 8).length=8:=by rw[List.length_take,dx];omega
 refine ag (ab (af (aa (ae E E (dm E E E E E (zo) ?_)))))
 have o8':cL w.heap.size (kr++d) v8 w11:=o8.ext ((x10.trans x11))
 obtain⟨v13,w13,hr13,o13,g13⟩:=di (ty:=22) o8' b12 (by rw[hl8,d8];omega) (((x8.trans x10).trans x11)).size
 have x13:=aH.of_grew (((x8.trans x10).trans x11)) g13 o8'.ge
 refine aT E E hr13 ?_
 refine ac E E (ag (ab (aw (au E E ?_))))
 exact⟨_,rfl,x13,o13⟩
end Go.Rl
namespace Go.Rl
open Go.RowKit Go.Proofs
theorem EQ:aJ Tryz.prog 57:=⟨_,Tryz.func57,by kernel_rfl,rfl⟩
theorem gR.off {w w':World} {v r:Value} {g:Nat} (h:gR w w' v r) (hn:some g≠v.ownBlock) (hg:g<w.heap.size):some g≠r.ownBlock:=fun e=>by
 rcases h.own with h1|h1
 ·exact hn (e.trans h1)
 ·have:=h1 _ e.symm;omega
theorem Kx {w:World} {u:cm} {vd vl x y vk vp:Value} (hd:cd c9 u.path vd w) (hl:cd cP u.leaf.lems vl w) (hx:bk u.leaf.split.at_.2.1 x w) (hy:bk u.leaf.split.at_.2.2 y w) (hk:cd bh u.leaf.kids vk w) (hp:cd bK u.leaf.pf vp w)
 (hw:Kv u) (hlen:(fq u).length≤4398046511104):
 Calls Tryz.prog 24 #[.agg #[vd,vl,I u.leaf.split.kd,I u.leaf.split.ix,B u.leaf.split.at_.1,x,y,vk,B u.leaf.empty,vp]] w (bN fun r w'=>aH w w'∧cK (fq u) r w'):=by
 refine enter (vs:=[.agg #[vd,vl,I u.leaf.split.kd,I u.leaf.split.ix,B u.leaf.split.at_.1,x,y,vk,B u.leaf.empty,vp]]) Tryz.func24 E E E ?_
 have hpl:=hd.len
 have hun:(UInt64.ofNat u.path.length).toNat=u.path.length:=by rw[UInt64.toNat_ofNat'];omega
 have hen:(fq u).length=(uv u.path.length).length+(u.path.flatMap gG).length+(dt u.leaf).length:=by simp only[fq,List.length_append]
 refine af (aa ?_)
 obtain⟨g1,w1,hr1,l1,x1,k1⟩:=cq (P:=Tryz.prog) (w:=w) (T:=54) (cs:=[vd,vl,I u.leaf.split.kd,I u.leaf.split.ix,B u.leaf.split.at_.1,x,y,vk,B u.leaf.empty,vp])
 refine cw E E hr1 (ac E E (ag (ab (af (aa (ah E E (av (o:=0) Lr E (by kernel_rfl) E) ?_))))))
 refine aj E E (ai Lu E (k1.cell (i:=0) E)) (aV E E (aY Lu (hd.ext x1)) ?_)
 refine bb E E (fO Tryz.underlying3 Tryz.underlying107) (an ei E E ((ej (l:=[]) (n:=UInt64.ofNat u.path.length) (cK.nil _) (by simp))) ?_)
 rintro v9 w9 ⟨x9,o9⟩
 rw[hun,List.nil_append] at o9
 have b9:=o9.bts
 refine ac E E (ag (ab (af (af (aa (ac E E (ag (ab (aG ?_)))))))))
 refine eu (fun(i:Nat) (v3:Value)=>[(1,.pointer (some ⟨g1,0,none⟩)),(3,v3),(4,I (i:Int))]) (fun(i:Nat) (v3:Value) w'=>aH w w'∧aH w1 w'∧i≤u.path.length∧cK (uv u.path.length++(u.path.take i).flatMap gG) v3 w') (fun(i:Nat) (v3:Value)=>u.path.length-i) (0) (v9) ⟨rfl,rfl,rfl,trivial⟩ ⟨(x1.trans x9),x9,by omega,by simpa using b9⟩ ?_
 rintro i v3 wL ⟨eL,e1L,hi,bL⟩
 refine af (af (aa (ae E E (ah E E (av (o:=0) Lr E (by kernel_rfl) E) (aj E E (ai Lu E (e1L.cell_some (k1.cell (i:=0) E))) ?_)))))
 refine aV E E (aY Lu (hd.ext eL)) (al E E E (a6) (ag (ab ?_)))
 refine bu E (fun h14=>?_) (fun h14=>?_)
 ·refine aC (ab (af (aG (aa (ae E E (ah E E (av (o:=0) Lr E (by kernel_rfl) E) (aj E E (ai Lu E (e1L.cell_some (k1.cell (i:=0) E))) ?_)))))))
  refine ae E E ?_
  obtain⟨a21,c21,p21,q21,h21⟩:=cb (P:=Tryz.prog) (sz:=5) Lu (by kernel_rfl) ca (by omega) (hd.ext eL) (i:=i) (by omega) .i64
  obtain⟨e21,he21⟩:∃e,e=u.path[i]'(by omega):=⟨_,rfl⟩
  rw[←he21] at h21
  obtain⟨x21_0,x21_1,rfl,f21_0,f21_1⟩:=fY h21
  refine ar E E E (p21 _) (aj E E (q21.ld Lm E (by kernel_rfl)) (an vq E E ((vw bL f21_0 f21_1 (hw.1 e21 (by rw[he21];exact List.getElem_mem _)) (by
 have h:=fo (f:=gG) (l:=u.path) (i:=i) (by omega)
 rw[←he21] at h
 simp only[List.length_append] at h⊢;omega))) ?_))
  rintro v23 w23 ⟨x23,b23⟩
  refine ac E E (ag (aW (ab (aa (ae E E (al (r:=I ((i+1:Nat):Int)) E E E (by have e:((i+1:Nat):Int)=(i:Int)+1:=(by omega);rw[e];exact aR (by omega) (by omega)) ?_))))))
  refine ac E E (ag ?_)
  refine c6 (i+1) (v23) ⟨rfl,rfl,rfl,trivial⟩ ⟨(eL.trans x23),(e1L.trans x23),by omega,by
   rw[df (by omega),←he21,←List.append_assoc]
   exact b23⟩ (by omega)
 ·refine bc (aK (aK (bf (ab (af (aa (ae E E (ah E E (av (o:=1) Lr E (by kernel_rfl) E) ?_))))))))
  refine aj rfl rfl ((k1.ext e1L).ldO (ms:=[vl,I u.leaf.split.kd,I u.leaf.split.ix,B u.leaf.split.at_.1,x,y,vk,B u.leaf.empty,vp]) (o:=1) (fun j v hj=>by rcases j with _|_|_|_|_|_|_|_|_|j<;>simp_all) Tryz.underlying52 rfl (by kernel_rfl)) ?_
  refine an vu E E ((vy _ (Nat.le_refl _) bL (hl.ext eL) (hx.ext eL) (hy.ext eL) (hk.ext eL) (hp.ext eL) hw.2 (by rw[List.take_of_length_le (by omega)];simp only[List.length_append];omega))) ?_
  rintro v27 w27 ⟨x27,b27⟩
  refine ac E E (ag (ab (aw (au E E ?_))))
  exact⟨_,rfl,(eL.trans x27),by
   rw[List.take_of_length_le (by omega)] at b27
   exact b27⟩
theorem ER {w:World} {u:cm} {vd vl x y vk vp:Value} (hd:cd c9 u.path vd w) (hl:cd cP u.leaf.lems vl w) (hx:bk u.leaf.split.at_.2.1 x w) (hy:bk u.leaf.split.at_.2.2 y w) (hk:cd bh u.leaf.kids vk w) (hp:cd bK u.leaf.pf vp w)
 (hw:Kv u) (hlen:(fq u).length≤4398046511104):
 Calls Tryz.prog 57 #[.agg #[vd,vl,I u.leaf.split.kd,I u.leaf.split.ix,B u.leaf.split.at_.1,x,y,vk,B u.leaf.empty,vp]] w (bN fun r w'=>aH w w'∧cK (fq u) r w'):=by
 refine enter (vs:=[.agg #[vd,vl,I u.leaf.split.kd,I u.leaf.split.ix,B u.leaf.split.at_.1,x,y,vk,B u.leaf.empty,vp]]) Tryz.func57 E E E ?_
 have hpl:=hd.len
 have hun:(UInt64.ofNat u.path.length).toNat=u.path.length:=by rw[UInt64.toNat_ofNat'];omega
 have hen:(fq u).length=(uv u.path.length).length+(u.path.flatMap gG).length+(dt u.leaf).length:=by simp only[fq,List.length_append]
 refine af (aa ?_)
 obtain⟨g1,w1,hr1,l1,x1,k1⟩:=cq (P:=Tryz.prog) (w:=w) (T:=54) (cs:=[vd,vl,I u.leaf.split.kd,I u.leaf.split.ix,B u.leaf.split.at_.1,x,y,vk,B u.leaf.empty,vp])
 refine cw E E hr1 (ac E E (ag (ab (af (aa (ah E E (av (o:=0) Lr E (by kernel_rfl) E) ?_))))))
 refine aj E E (ai Lu E (k1.cell (i:=0) E)) (aV E E (aY Lu (hd.ext x1)) ?_)
 refine bb E E (fO Tryz.underlying3 Tryz.underlying107) (an nE E E ((nF (l:=[]) (n:=UInt64.ofNat u.path.length) (cK.nil _) (by simp))) ?_)
 rintro v10 w10 ⟨x10,o10⟩
 rw[hun,List.nil_append] at o10
 refine ac E E (ag (ab (af (af (aa (ah E E (av (o:=0) Lr E (by kernel_rfl) E) (aj E E (ai Lu E (x10.cell_some (k1.cell (i:=0) E))) ?_)))))))
 refine aV E E (aY Lu (hd.ext (x1.trans x10))) (ae E E (ag (ab (aG ?_))))
 refine eu (fun(i:Nat) (v3:Value)=>[(1,.pointer (some ⟨g1,0,none⟩)),(3,v3),(12,vd),(13,I (u.path.length:Int)),(14,I (i:Int))]) (fun(i:Nat) (v3:Value) w'=>aH w w'∧aH w1 w'∧i≤u.path.length∧cL w1.heap.size (uv u.path.length++(u.path.take i).flatMap gG) v3 w') (fun(i:Nat) (v3:Value)=>u.path.length-i) (0) (v10) ⟨rfl,rfl,rfl,rfl,rfl,trivial⟩ ⟨(x1.trans x10),x10,by omega,by simpa using o10⟩ ?_
 rintro i v3 wL ⟨eL,e1L,hi,oL⟩
 refine af (aa (al E E E (a6) (ag (ab (af ?_)))))
 refine bu E (fun h15=>?_) (fun h15=>?_)
 ·refine aC (ab (af (aG (af (aa ?_)))))
  obtain⟨a16,c16,p16,q16,h16⟩:=cb (P:=Tryz.prog) (sz:=5) Lu (by kernel_rfl) ca (by omega) hd (i:=i) (by omega) .i64
  obtain⟨e16,he16⟩:∃e,e=u.path[i]'(by omega):=⟨_,rfl⟩
  rw[←he16] at h16
  obtain⟨x16_0,x16_1,rfl,f16_0,f16_1⟩:=fY h16
  refine ar E E E (p16 _) ?_
  have hm:=hw.1 e16 (by rw[he16];exact List.getElem_mem _)
  have hfl:=fo (f:=gG) (l:=u.path) (i:=i) (by omega)
  rw[←he16] at hfl
  have hml:(gG e16).length=(de e16.kd).length+(de e16.ix).length+(gw e16.at_).length:=by simp only[gG,List.length_append]
  have hqa:=lO e16.at_
  refine aj E E ((q16.ext eL).ld Lm E (by kernel_rfl)) ?_
  obtain⟨g5,w5,hr5,l5,x5,k5⟩:=a9 (P:=Tryz.prog) (w:=wL) (t:=48) (z:=.agg #[I 0,I 0,B false,.slice none 0 0,.slice none 0 0]) (l:=[I 0,I 0,B false,.slice none 0 0,.slice none 0 0]) (by kernel_rfl) rfl
  refine aS E hr5 ?_
  obtain⟨w4_3,s4_3,q4_3,k4_3⟩:=k5.stS (P:=Tryz.prog) (t:=48) (m:=[I e16.kd,I e16.ix,B e16.at_.1,x16_0,x16_1]) rfl (by kernel_rfl) (ap.cons rfl (ap.cons rfl (ap.cons rfl (ap.cons f16_0.one (ap.cons f16_1.one ap.nil)))))
  refine ay E E s4_3 ?_
  have x4_3:=aH.of_new (x5) q4_3 l5
  refine ag (ab (af (aa (ae E E (ah E E (av (o:=0) Lm E (by kernel_rfl) E) (aj E E (ai Lo E (k4_3.cell (i:=0) E)) ?_))))))
  refine an jW E E ((jY (l:=[]) (n:=e16.kd) (cK.nil _) (by simp) hm.1.1 hm.1.2)) ?_
  rintro v21 w21 ⟨x21,o21⟩
  have b21:cK (de e16.kd) v21 w21:=o21.bts
  have oL1:=oL.ext ((x4_3.trans x21))
  obtain⟨v22,w22,hr22,o22,g22⟩:=di (ty:=22) oL1 b21 (by simp only[List.length_append];omega) (((e1L.trans x4_3).trans x21)).size
  have x22:=aH.of_grew (((e1L.trans x4_3).trans x21)) g22 oL1.ge
  have n5:some g5≠v3.ownBlock:=fun h=>by have:=oL.lt _ h.symm;omega
  have k5a:=(k4_3.ext x21).other g22.grown n5
  have n5a:=g22.off n5 (k4_3.ext x21).lt
  refine aT E E hr22 ?_
  refine ac E E (ag (ab (af (aa (ae E E (ah E E (av (o:=1) Lm E (by kernel_rfl) E) ?_))))))
  refine aj E E (ai Tryz.underlying3 E (k5a.cell (i:=1) E)) (an jW E E ((jY (l:=[]) (n:=e16.ix) (cK.nil _) (by simp) hm.2.1 hm.2.2)) ?_)
  rintro v26 w26 ⟨x26,o26⟩
  have b26:cK (de e16.ix) v26 w26:=o26.bts
  have o22a:=o22.ext x26
  obtain⟨v27,w27,hr27,o27,g27⟩:=di (ty:=22) o22a b26 (by simp only[List.length_append];omega) ((x22.trans x26)).size
  have x27:=aH.of_grew ((x22.trans x26)) g27 o22a.ge
  have k5b:=(k5a.ext x26).other g27.grown n5a
  have n5b:=g27.off n5a (k5a.ext x26).lt
  refine aT E E hr27 ?_
  refine ac rfl rfl (ag (ab (aa (ae rfl rfl (ah rfl rfl (av (o:=2) Tryz.underlying48 rfl (by kernel_rfl) rfl) (aj rfl rfl (k5b.ldO (ms:=[B e16.at_.1,x16_0,x16_1]) (o:=2) (fun j v hj=>by rcases j with _|_|_|_|_|_|_|_|_|j<;>simp_all) Tryz.underlying46 rfl (by kernel_rfl)) ?_))))))
  refine an ob E E ((oc (l:=[]) (cK.nil _) (du.mk (f16_0.ext (x1.trans x27)) (f16_1.ext (x1.trans x27))) (by simp only[List.length_nil];omega))) ?_
  rintro v31 w31 ⟨x31,o31⟩
  have b31:cK (gw e16.at_) v31 w31:=o31.bts
  have o27a:=o27.ext x31
  obtain⟨v32,w32,hr32,o32,g32⟩:=di (ty:=22) o27a b31 (by simp only[List.length_append];omega) ((x27.trans x31)).size
  have x32:=aH.of_grew ((x27.trans x31)) g32 o27a.ge
  refine aT E E hr32 ?_
  refine ac E E (ag (aW (ab (aa (al (r:=I ((i+1:Nat):Int)) E E E (by have e:((i+1:Nat):Int)=(i:Int)+1:=(by omega);rw[e];exact aR (by omega) (by omega)) ?_)))))
  refine ae E E (ag ?_)
  refine c6 (i+1) (v32) ⟨rfl,rfl,rfl,rfl,rfl,trivial⟩ ⟨(x1.trans x32),x32,by omega,by
   have h:cL w1.heap.size (uv u.path.length++(u.path.take i).flatMap gG++de e16.kd++de e16.ix++gw e16.at_) v32 w32:=o32
   rw[df (by omega),←he16]
   simpa only[gG,List.append_assoc] using h⟩ (by omega)
 ·refine bc (aK (aK (bf (ab (af (aa (ae E E (ah E E (av (o:=1) Lr E (by kernel_rfl) E) ?_))))))))
  refine aj rfl rfl ((k1.ext e1L).ldO (ms:=[vl,I u.leaf.split.kd,I u.leaf.split.ix,B u.leaf.split.at_.1,x,y,vk,B u.leaf.empty,vp]) (o:=1) (fun j v hj=>by rcases j with _|_|_|_|_|_|_|_|_|j<;>simp_all) Tryz.underlying52 rfl (by kernel_rfl)) ?_
  refine an B0 E E ((B7 oL.bts (hl.ext eL) (hx.ext eL) (hy.ext eL) (hk.ext eL) (hp.ext eL) hw.2 (by rw[List.take_of_length_le (by omega)];simp only[List.length_append];omega))) ?_
  rintro v37 w37 ⟨x37,b37⟩
  refine ac E E (ag (ab (aw (au E E ?_))))
  exact⟨_,rfl,(eL.trans x37),by
   rw[List.take_of_length_le (by omega)] at b37
   exact b37⟩
end Go.Rl
namespace Go.Rl
open Go.RowKit Go.Proofs
theorem xU:aJ Tryz.prog 135:=⟨_,Tryz.func135,by kernel_rfl,rfl⟩
theorem Ck:aJ Tryz.prog 161:=⟨_,Tryz.func161,by kernel_rfl,rfl⟩
theorem Cl:aJ Tryz.prog 134:=⟨_,Tryz.func134,by kernel_rfl,rfl⟩
theorem rz:aJ Tryz.prog 98:=⟨_,Tryz.func98,by kernel_rfl,rfl⟩
theorem vN:aJ Tryz.prog 22:=⟨_,Tryz.func22,by kernel_rfl,rfl⟩
theorem ni:aJ Tryz.prog 54:=⟨_,Tryz.func54,by kernel_rfl,rfl⟩
theorem xV {w:World} {m:cp} {x y:Value} (hx:bk m.co.2.1 x w) (hy:bk m.co.2.2 y w) (hs:sQ m.co):
 Calls Tryz.prog 135 #[.agg #[I m.kd,I m.ix,I m.lo,I m.hi,B m.co.1,x,y]] w (bN fun r w'=>aH w w'∧r=B (!fC m.co)):=by
 refine enter (vs:=[.agg #[I m.kd,I m.ix,I m.lo,I m.hi,B m.co.1,x,y]]) Tryz.func135 E E E ?_
 refine af (aa ?_)
 obtain⟨g1,w1,hr1,l1,x1,k1⟩:=cq (P:=Tryz.prog) (w:=w) (T:=187) (cs:=[I m.kd,I m.ix,I m.lo,I m.hi,B m.co.1,x,y])
 refine cw E E hr1 (ac E E (ag (ab (af (aa (ah E E (av (o:=4) LF E (by kernel_rfl) E) ?_))))))
 refine aj rfl rfl (k1.ldO (ms:=[B m.co.1,x,y]) (o:=4) (fun j v hj=>by rcases j with _|_|_|_|_|_|_|_|_|j<;>simp_all) Tryz.underlying46 rfl (by kernel_rfl)) ?_
 refine an eJ E E ((gX (q:=m.co) (hx.ext x1) (hy.ext x1) hs)) ?_
 rintro v5 w5 ⟨x5,rfl⟩
 refine bw E E bB (ac E E (ag (ab (aw (au E E ?_)))))
 exact⟨_,rfl,(x1.trans x5),rfl⟩
theorem Cm {w:World} {l:List cp} {v:Value} (hv:cd bK l v w) (hs:sP l):
 Calls Tryz.prog 161 #[v,.func (.func 135) #[] #[]] w (bN fun r w'=>aH w w'∧∃k:Int,r=I k∧ -1≤k∧k≤9223372036854775807∧(0≤k↔mS l=false)):=by
 refine enter (vs:=[v,.func (.func 135) #[] #[]]) Tryz.func161 E E E ?_
 have hll:=hv.len
 refine af (aa (ac E E (ag (ab (af (af (aa (ae E E (aV E E (aY Ly hv) (ae E E (ag (ab ?_))))))))))))
 refine aG ?_
 refine ck (α:=Nat) (fun i=>[(0,v),(1,.func (.func 135) #[] #[]),(7,I (l.length:Int)),(8,I (i:Int))]) (fun i w'=>aH w w'∧i≤l.length∧(l.all fun m=>fC m.co)=((l.drop i).all fun m=>fC m.co)) (fun i=>l.length-i) (0) ⟨rfl,rfl,rfl,rfl,trivial⟩ ⟨aH.refl _,by omega,rfl⟩ ?_
 rintro i wL ⟨eL,hi,hall⟩
 refine af (aa (al E E E (a6) (ag (ab (af ?_)))))
 refine bu E (fun h9=>?_) (fun h9=>?_)
 ·refine aC (ab (af (aG (af (aa (ae E E (ac E E (ag (ab (af ?_))))))))))
  obtain⟨em,hem⟩:∃em,em=l[i]'(by omega):=⟨_,rfl⟩
  have hmem:em∈l:=by rw[hem];exact List.getElem_mem _
  rcases hc:fC em.co
  ·refine aa (ae E E (ae E E (ae E E ?_)))
   obtain⟨a14,c14,p14,q14,h14⟩:=cb (P:=Tryz.prog) (sz:=7) Ly (by kernel_rfl) dC (by omega) (hv.ext eL) (i:=i) (by omega) .i64
   rw[←hem] at h14
   obtain⟨x14_0,x14_1,rfl,f14_0,f14_1⟩:=fI h14
   refine ar E E E (p14 _) (aj E E (q14.ld LF E (by kernel_rfl)) (lD E xU E E ((by have h:=xV (m:=em) f14_0 f14_1 (hs em hmem);rw[hc] at h;exact h)) ?_))
   rintro v16 w16 ⟨x16,rfl⟩
   refine ag (ab (bm E (af (aa (ae E E (ac E E (ag (ab (aw (ba (az (az (ba (az (au E E ?_)))))))))))))))
   exact⟨_,rfl,(eL.trans x16),i,rfl,by omega,by omega,⟨fun _=>show(l.all fun m=>fC m.co)=false from f8 (p:=fun m:cp=>fC m.co) (l:=l) (i:=i) (by omega) hall (by rw[←hem];exact hc),fun _=>by omega⟩⟩
  ·refine aa (ae E E (ae E E (ae E E ?_)))
   obtain⟨a14,c14,p14,q14,h14⟩:=cb (P:=Tryz.prog) (sz:=7) Ly (by kernel_rfl) dC (by omega) (hv.ext eL) (i:=i) (by omega) .i64
   rw[←hem] at h14
   obtain⟨x14_0,x14_1,rfl,f14_0,f14_1⟩:=fI h14
   refine ar E E E (p14 _) (aj E E (q14.ld LF E (by kernel_rfl)) (lD E xU E E ((by have h:=xV (m:=em) f14_0 f14_1 (hs em hmem);rw[hc] at h;exact h)) ?_))
   rintro v16 w16 ⟨x16,rfl⟩
   refine ag (ab (cN E (aC (aW (ab (aa (al (r:=I ((i+1:Nat):Int)) E E E (by have e:((i+1:Nat):Int)=(i:Int)+1:=(by omega);rw[e];exact aR (by omega) (by omega)) ?_)))))))
   refine ae E E (ag ?_)
   refine bS (i+1) ⟨rfl,rfl,rfl,rfl,trivial⟩ ⟨(eL.trans x16),by omega,qk (p:=fun m:cp=>fC m.co) (l:=l) (by omega) hall (by rw[←hem];exact hc)⟩ (by omega)
 ·refine bc (aK (aK (bf (ab (af (aa (ac E E (ag (ab (aw (au E E ?_)))))))))))
  exact⟨_,rfl,eL,-1,rfl,by omega,by omega,⟨fun h=>absurd h (by omega),fun h=>by rw[show mS l=true from mY (p:=fun m:cp=>fC m.co) (l:=l) (by omega) hall] at h;cases h⟩⟩
theorem Cn {w:World} {l:List cp} {v:Value} (hv:cd bK l v w) (hs:sP l):
 Calls Tryz.prog 134 #[v,.func (.func 135) #[] #[]] w (bN fun r w'=>aH w w'∧r=B (!mS l)):=by
 refine enter (vs:=[v,.func (.func 135) #[] #[]]) Tryz.func134 E E E ?_
 refine af (aa (ac E E (ag (ab (af (aa (ae E E (ae E E (an Ck E E ((Cm hv hs)) ?_)))))))))
 rintro v7 w7 ⟨x7,k,rfl,k1,k2,kc⟩
 refine al E E E (gL) (ac E E (ag (ab (aw (au E E ?_)))))
 exact⟨_,rfl,x7,by
  congr 1
  cases hc:mS l with
  |true=>exact decide_eq_false fun h=>by have:=kc.1 h;rw[hc] at this;cases this
  |false=>exact decide_eq_true (kc.2 hc)⟩
theorem rD {w:World} {l:List cp} {v:Value} (hv:cd bK l v w) (hs:sP l):
 Calls Tryz.prog 98 #[v] w (bN fun r w'=>aH w w'∧r=B (mS l)):=by
 refine enter (vs:=[v]) Tryz.func98 E E E ?_
 refine af (aa (ac E E (ag (ab (af (aa (ae E E (an Cl E E ((Cn hv hs)) ?_))))))))
 rintro v4 w4 ⟨x4,rfl⟩
 refine bw E E bB (ac E E (ag (ab (aw (au E E ?_)))))
 exact⟨_,rfl,x4,by simp⟩
theorem gI {d:bj} (h:d.kd<1∨4<d.kd∨fC d.at_=false):fD d=false:=by
 unfold fD
 rcases h with h|h|h
 ·rw[decide_eq_false (by omega:¬1≤d.kd)];rfl
 ·rw[decide_eq_false (by omega:¬d.kd≤4),Bool.and_false];rfl
 ·rw[h,Bool.and_false]
theorem xW {d:bj} (h1:1≤d.kd) (h2:d.kd≤4) (h3:fC d.at_=true):fD d=true:=by
 unfold fD
 rw[decide_eq_true h1,decide_eq_true h2,h3];rfl
theorem cA {u:cm} (h:2048<u.path.length∨0<u.leaf.kids.length∨iF u.leaf=false∨iG u.leaf=false∨u.path.all fD=false):fk u=false:=by
 unfold fk
 rcases h with h|h|h|h|h
 ·rw[decide_eq_false (by omega:¬u.path.length≤2048)];rfl
 ·rw[decide_eq_false (by omega:¬u.leaf.kids.length=0),Bool.and_false];rfl
 ·rw[h,Bool.and_false];rfl
 ·rw[h,Bool.and_false];rfl
 ·rw[h,Bool.and_false]
theorem xX {u:cm} (h1:u.path.length≤2048) (h2:u.leaf.kids.length=0) (h3:iF u.leaf=true) (h4:iG u.leaf=true) (h5:u.path.all fD=true):fk u=true:=by
 unfold fk
 rw[decide_eq_true h1,decide_eq_true h2,h3,h4,h5];rfl
def Jj (u:cm):Prop:=(∀d∈u.path,sQ d.at_)∧sN u.leaf
theorem vO {w:World} {u:cm} {vd vl x y vk vp:Value} (hd:cd c9 u.path vd w) (hl:cd cP u.leaf.lems vl w) (hx:bk u.leaf.split.at_.2.1 x w) (hy:bk u.leaf.split.at_.2.2 y w) (hk:cd bh u.leaf.kids vk w) (hp:cd bK u.leaf.pf vp w) (hs:Jj u):
 Calls Tryz.prog 22 #[.agg #[vd,vl,I u.leaf.split.kd,I u.leaf.split.ix,B u.leaf.split.at_.1,x,y,vk,B u.leaf.empty,vp]] w (bN fun r w'=>aH w w'∧r=B (fk u)):=by
 refine enter (vs:=[.agg #[vd,vl,I u.leaf.split.kd,I u.leaf.split.ix,B u.leaf.split.at_.1,x,y,vk,B u.leaf.empty,vp]]) Tryz.func22 E E E ?_
 have hpl:=hd.len
 have hkl:=hk.len
 refine af (aa ?_)
 obtain⟨g1,w1,hr1,l1,x1,k1⟩:=cq (P:=Tryz.prog) (w:=w) (T:=54) (cs:=[vd,vl,I u.leaf.split.kd,I u.leaf.split.ix,B u.leaf.split.at_.1,x,y,vk,B u.leaf.empty,vp])
 refine cw E E hr1 (ac E E (ag (ab (af (af ?_)))))
 rcases hv1:iF u.leaf
 rotate_left
 rcases hv2:iG u.leaf
 ·refine aa (ah E E (av (o:=0) Lr E (by kernel_rfl) E) (aj E E (ai Lu E (k1.cell (i:=0) E)) ?_))
  refine aV E E (aY Lu (hd.ext x1)) (al E E E (bT) (ae E E ?_))
  refine ci (fun h9=>?_) (fun h9=>?_)
  ·refine am E E E (am E E E (am E E E (am E E E (am E E E (aq E E E (ae E E (am E E E (am E E E (am E E E ?_)))))))))
   refine am E E E (aq E E E (ae E E (am E E E (am E E E (am E E E (am E E E (aq E E E (ag (ab (bm E ?_))))))))))
   refine af (aa (ac E E (ag (ab (aw (az (au E E ?_)))))))
   exact⟨_,rfl,x1,by
    rw[cA (by
     first
     |exact .inl (by omega)
     |exact .inr (.inl (by omega))
     |exact .inr (.inr (.inl hv1))
     |exact .inr (.inr (.inr (.inl hv2))))]
    rfl⟩
  ·refine ak E (ah E E (av (o:=1) Lr E (by kernel_rfl) E) (ak E (ah E E (cx (b:=1) (o:=6) Lk E (by kernel_rfl) E) ?_)))
   refine ak E (aj E E (ai Ls E (k1.cell (i:=7) E)) (ak E (aV E E (aY Ls (hk.ext x1)) ?_)))
   refine ak E (al E E E (bT) (aI E E E (ae E E ?_)))
   refine ci (fun h16=>?_) (fun h16=>?_)
   ·refine am E E E (am E E E (am E E E (am E E E (aq E E E (ae E E (am E E E (am E E E (am E E E (am E E E ?_)))))))))
    refine aq E E E (ag (ab (bm E (af (aa (ac E E (ag (ab (aw (az (au E E ?_)))))))))))
    exact⟨_,rfl,x1,by
     rw[cA (by
      first
      |exact .inl (by omega)
      |exact .inr (.inl (by omega))
      |exact .inr (.inr (.inl hv1))
      |exact .inr (.inr (.inr (.inl hv2))))]
     rfl⟩
   ·refine ak rfl (ah rfl rfl (av (o:=1) Tryz.underlying54 rfl (by kernel_rfl) rfl) (ak rfl (aj rfl rfl (k1.ldO (ms:=[vl,I u.leaf.split.kd,I u.leaf.split.ix,B u.leaf.split.at_.1,x,y,vk,B u.leaf.empty,vp]) (o:=1) (fun j v hj=>by rcases j with _|_|_|_|_|_|_|_|_|j<;>simp_all) Tryz.underlying52 rfl (by kernel_rfl)) ?_)))
    refine ak E (an jg E E ((by have h:=jh (n:=u.leaf) (hl.ext x1) (hx.ext x1) (hy.ext x1) (hk.ext x1) (hp.ext x1);rw[hv1] at h;exact h)) ?_)
    rintro v19 w19 ⟨x19,rfl⟩
    refine ak E (bw E E bB (aI E E E (ae E E (ak E (ah E E (av (o:=1) Lr E (by kernel_rfl) E) ?_)))))
    refine ak rfl (aj rfl rfl ((k1.ext x19).ldO (ms:=[vl,I u.leaf.split.kd,I u.leaf.split.ix,B u.leaf.split.at_.1,x,y,vk,B u.leaf.empty,vp]) (o:=1) (fun j v hj=>by rcases j with _|_|_|_|_|_|_|_|_|j<;>simp_all) Tryz.underlying52 rfl (by kernel_rfl)) ?_)
    refine ak E (an sv E E ((by have h:=sw _ (Nat.le_refl _) (n:=u.leaf) (hl.ext (x1.trans x19)) (hx.ext (x1.trans x19)) (hy.ext (x1.trans x19)) (hk.ext (x1.trans x19)) (hp.ext (x1.trans x19)) hs.2;rw[hv2] at h;exact h)) ?_)
    rintro v25 w25 ⟨x25,rfl⟩
    refine ak E (bw E E bB (aI E E E (ag (ab (bm E (af (aa (ac E E (ag (ab (aw (az (au E E ?_)))))))))))))
    exact⟨_,rfl,((x1.trans x19).trans x25),by
     rw[cA (by
      first
      |exact .inl (by omega)
      |exact .inr (.inl (by omega))
      |exact .inr (.inr (.inl hv1))
      |exact .inr (.inr (.inr (.inl hv2))))]
     rfl⟩
 ·refine aa (ah E E (av (o:=0) Lr E (by kernel_rfl) E) (aj E E (ai Lu E (k1.cell (i:=0) E)) ?_))
  refine aV E E (aY Lu (hd.ext x1)) (al E E E (bT) (ae E E ?_))
  refine ci (fun h9=>?_) (fun h9=>?_)
  ·refine am E E E (am E E E (am E E E (am E E E (am E E E (aq E E E (ae E E (am E E E (am E E E (am E E E ?_)))))))))
   refine am E E E (aq E E E (ae E E (am E E E (am E E E (am E E E (am E E E (aq E E E (ag (ab (bm E ?_))))))))))
   refine af (aa (ac E E (ag (ab (aw (az (au E E ?_)))))))
   exact⟨_,rfl,x1,by
    rw[cA (by
     first
     |exact .inl (by omega)
     |exact .inr (.inl (by omega))
     |exact .inr (.inr (.inl hv1))
     |exact .inr (.inr (.inr (.inl hv2))))]
    rfl⟩
  ·refine ak E (ah E E (av (o:=1) Lr E (by kernel_rfl) E) (ak E (ah E E (cx (b:=1) (o:=6) Lk E (by kernel_rfl) E) ?_)))
   refine ak E (aj E E (ai Ls E (k1.cell (i:=7) E)) (ak E (aV E E (aY Ls (hk.ext x1)) ?_)))
   refine ak E (al E E E (bT) (aI E E E (ae E E ?_)))
   refine ci (fun h16=>?_) (fun h16=>?_)
   ·refine am E E E (am E E E (am E E E (am E E E (aq E E E (ae E E (am E E E (am E E E (am E E E (am E E E ?_)))))))))
    refine aq E E E (ag (ab (bm E (af (aa (ac E E (ag (ab (aw (az (au E E ?_)))))))))))
    exact⟨_,rfl,x1,by
     rw[cA (by
      first
      |exact .inl (by omega)
      |exact .inr (.inl (by omega))
      |exact .inr (.inr (.inl hv1))
      |exact .inr (.inr (.inr (.inl hv2))))]
     rfl⟩
   ·refine ak rfl (ah rfl rfl (av (o:=1) Tryz.underlying54 rfl (by kernel_rfl) rfl) (ak rfl (aj rfl rfl (k1.ldO (ms:=[vl,I u.leaf.split.kd,I u.leaf.split.ix,B u.leaf.split.at_.1,x,y,vk,B u.leaf.empty,vp]) (o:=1) (fun j v hj=>by rcases j with _|_|_|_|_|_|_|_|_|j<;>simp_all) Tryz.underlying52 rfl (by kernel_rfl)) ?_)))
    refine ak E (an jg E E ((by have h:=jh (n:=u.leaf) (hl.ext x1) (hx.ext x1) (hy.ext x1) (hk.ext x1) (hp.ext x1);rw[hv1] at h;exact h)) ?_)
    rintro v19 w19 ⟨x19,rfl⟩
    refine ak E (bw E E bB (aI E E E (ae E E (ak E (ah E E (av (o:=1) Lr E (by kernel_rfl) E) ?_)))))
    refine ak rfl (aj rfl rfl ((k1.ext x19).ldO (ms:=[vl,I u.leaf.split.kd,I u.leaf.split.ix,B u.leaf.split.at_.1,x,y,vk,B u.leaf.empty,vp]) (o:=1) (fun j v hj=>by rcases j with _|_|_|_|_|_|_|_|_|j<;>simp_all) Tryz.underlying52 rfl (by kernel_rfl)) ?_)
    refine ak E (an sv E E ((by have h:=sw _ (Nat.le_refl _) (n:=u.leaf) (hl.ext (x1.trans x19)) (hx.ext (x1.trans x19)) (hy.ext (x1.trans x19)) (hk.ext (x1.trans x19)) (hp.ext (x1.trans x19)) hs.2;rw[hv2] at h;exact h)) ?_)
    rintro v25 w25 ⟨x25,rfl⟩
    refine ak E (bw E E bB (aI E E E (ag (ab (cN E (aC (ab (af (af (aa (ac E E (ag (ab (aG ?_))))))))))))))
    refine ck (α:=Nat) (fun i=>[(1,.pointer (some ⟨g1,0,none⟩)),(3,I (i:Int))]) (fun i w'=>aH w w'∧aH w1 w'∧i≤u.path.length∧u.path.all fD=(u.path.drop i).all fD) (fun i=>u.path.length-i) (0) ⟨rfl,rfl,trivial⟩ ⟨((x1.trans x19).trans x25),(x19.trans x25),by omega,rfl⟩ ?_
    rintro i wL ⟨eL,e1L,hi,hall⟩
    refine af (af (aa (ae E E (ah E E (av (o:=0) Lr E (by kernel_rfl) E) (aj E E (ai Lu E (e1L.cell_some (k1.cell (i:=0) E))) ?_)))))
    refine aV E E (aY Lu (hd.ext eL)) (al E E E (a6) (ag (ab ?_)))
    refine bu E (fun h32=>?_) (fun h32=>?_)
    ·refine aC (ab (af (aG (af ?_))))
     obtain⟨em,hem⟩:∃em,em=u.path[i]'(by omega):=⟨_,rfl⟩
     have hmem:em∈u.path:=by rw[hem];exact List.getElem_mem _
     rcases hq:fC em.at_
     ·refine aa (ah E E (av (o:=0) Lr E (by kernel_rfl) E) (aj E E (ai Lu E (e1L.cell_some (k1.cell (i:=0) E))) ?_))
      refine ae E E ?_
      obtain⟨a38,c38,p38,q38,h38⟩:=cb (P:=Tryz.prog) (sz:=5) Lu (by kernel_rfl) ca (by omega) (hd.ext eL) (i:=i) (by omega) .i64
      rw[←hem] at h38
      obtain⟨x38_0,x38_1,rfl,f38_0,f38_1⟩:=fY h38
      refine ar E E E (p38 _) (aj E E (q38.ld Lm E (by kernel_rfl)) ?_)
      obtain⟨g4,w4,hr4,l4,x4,k4⟩:=a9 (P:=Tryz.prog) (w:=wL) (t:=48) (z:=.agg #[I 0,I 0,B false,.slice none 0 0,.slice none 0 0]) (l:=[I 0,I 0,B false,.slice none 0 0,.slice none 0 0]) (by kernel_rfl) rfl
      refine aS E hr4 ?_
      obtain⟨w6_6,s6_6,q6_6,k6_6⟩:=k4.stS (P:=Tryz.prog) (t:=48) (m:=[I em.kd,I em.ix,B em.at_.1,x38_0,x38_1]) rfl (by kernel_rfl) (ap.cons rfl (ap.cons rfl (ap.cons rfl (ap.cons f38_0.one (ap.cons f38_1.one ap.nil)))))
      refine ay E E s6_6 ?_
      have x6_6:=aH.of_new (x4) q6_6 l4
      refine ag (ab (af (aa (ah E E (av (o:=0) Lm E (by kernel_rfl) E) (aj E E (ai Lo E (k6_6.cell (i:=0) E)) ?_)))))
      refine al E E E (a6) (ae E E ?_)
      refine ci (fun h43=>?_) (fun h43=>?_)
      ·refine am E E E (am E E E (am E E E (aq E E E (ae E E (am E E E (am E E E (am E E E (am E E E (aq E E E ?_)))))))))
       refine ag (ab (bm E (af (aa (ac E E (ag (ab (aw (ba (az (az (ba (az (au E E ?_))))))))))))))
       exact⟨_,rfl,(eL.trans x6_6),by
        rw[cA (.inr (.inr (.inr (.inr (f8 (p:=fD) (i:=i) (by omega) hall (by
         rw[←hem]
         refine gI ?_
         first
         |exact .inl (by omega)
         |exact .inr (.inl (by omega))
         |exact .inr (.inr hq)))))))]
        rfl⟩
      ·refine ak E (ah E E (av (o:=0) Lm E (by kernel_rfl) E) (ak E (aj E E (ai Lo E (k6_6.cell (i:=0) E)) ?_)))
       refine ak E (al E E E (bT) (aI E E E (ae E E ?_)))
       refine ci (fun h48=>?_) (fun h48=>?_)
       ·refine am E E E (am E E E (am E E E (am E E E (aq E E E (ag (ab (bm E (af (aa (ac E E (ag (ab (aw (ba ?_))))))))))))))
        refine az (az (ba (az (au E E ?_))))
        exact⟨_,rfl,(eL.trans x6_6),by
         rw[cA (.inr (.inr (.inr (.inr (f8 (p:=fD) (i:=i) (by omega) hall (by
          rw[←hem]
          refine gI ?_
          first
          |exact .inl (by omega)
          |exact .inr (.inl (by omega))
          |exact .inr (.inr hq)))))))]
         rfl⟩
       ·refine ak rfl (ah rfl rfl (av (o:=2) Tryz.underlying48 rfl (by kernel_rfl) rfl) (ak rfl (aj rfl rfl (k6_6.ldO (ms:=[B em.at_.1,x38_0,x38_1]) (o:=2) (fun j v hj=>by rcases j with _|_|_|_|_|_|_|_|_|j<;>simp_all) Tryz.underlying46 rfl (by kernel_rfl)) ?_)))
        refine ak E (an ga E E ((by have h:=m9 (q:=em.at_) (f38_0.ext x6_6) (f38_1.ext x6_6) (hs.1 em hmem);rw[hq] at h;exact h)) ?_)
        rintro v51 w51 ⟨x51,rfl⟩
        refine ak E (bw E E bB (aI E E E (ag (ab (bm E (af (aa (ac E E (ag (ab (aw (ba (az (az (ba (az (au E E ?_)))))))))))))))))
        exact⟨_,rfl,((eL.trans x6_6).trans x51),by
         rw[cA (.inr (.inr (.inr (.inr (f8 (p:=fD) (i:=i) (by omega) hall (by
          rw[←hem]
          refine gI ?_
          first
          |exact .inl (by omega)
          |exact .inr (.inl (by omega))
          |exact .inr (.inr hq)))))))]
         rfl⟩
     ·refine aa (ah E E (av (o:=0) Lr E (by kernel_rfl) E) (aj E E (ai Lu E (e1L.cell_some (k1.cell (i:=0) E))) ?_))
      refine ae E E ?_
      obtain⟨a38,c38,p38,q38,h38⟩:=cb (P:=Tryz.prog) (sz:=5) Lu (by kernel_rfl) ca (by omega) (hd.ext eL) (i:=i) (by omega) .i64
      rw[←hem] at h38
      obtain⟨x38_0,x38_1,rfl,f38_0,f38_1⟩:=fY h38
      refine ar E E E (p38 _) (aj E E (q38.ld Lm E (by kernel_rfl)) ?_)
      obtain⟨g4,w4,hr4,l4,x4,k4⟩:=a9 (P:=Tryz.prog) (w:=wL) (t:=48) (z:=.agg #[I 0,I 0,B false,.slice none 0 0,.slice none 0 0]) (l:=[I 0,I 0,B false,.slice none 0 0,.slice none 0 0]) (by kernel_rfl) rfl
      refine aS E hr4 ?_
      obtain⟨w6_6,s6_6,q6_6,k6_6⟩:=k4.stS (P:=Tryz.prog) (t:=48) (m:=[I em.kd,I em.ix,B em.at_.1,x38_0,x38_1]) rfl (by kernel_rfl) (ap.cons rfl (ap.cons rfl (ap.cons rfl (ap.cons f38_0.one (ap.cons f38_1.one ap.nil)))))
      refine ay E E s6_6 ?_
      have x6_6:=aH.of_new (x4) q6_6 l4
      refine ag (ab (af (aa (ah E E (av (o:=0) Lm E (by kernel_rfl) E) (aj E E (ai Lo E (k6_6.cell (i:=0) E)) ?_)))))
      refine al E E E (a6) (ae E E ?_)
      refine ci (fun h43=>?_) (fun h43=>?_)
      ·refine am E E E (am E E E (am E E E (aq E E E (ae E E (am E E E (am E E E (am E E E (am E E E (aq E E E ?_)))))))))
       refine ag (ab (bm E (af (aa (ac E E (ag (ab (aw (ba (az (az (ba (az (au E E ?_))))))))))))))
       exact⟨_,rfl,(eL.trans x6_6),by
        rw[cA (.inr (.inr (.inr (.inr (f8 (p:=fD) (i:=i) (by omega) hall (by
         rw[←hem]
         refine gI ?_
         first
         |exact .inl (by omega)
         |exact .inr (.inl (by omega))
         |exact .inr (.inr hq)))))))]
        rfl⟩
      ·refine ak E (ah E E (av (o:=0) Lm E (by kernel_rfl) E) (ak E (aj E E (ai Lo E (k6_6.cell (i:=0) E)) ?_)))
       refine ak E (al E E E (bT) (aI E E E (ae E E ?_)))
       refine ci (fun h48=>?_) (fun h48=>?_)
       ·refine am E E E (am E E E (am E E E (am E E E (aq E E E (ag (ab (bm E (af (aa (ac E E (ag (ab (aw (ba ?_))))))))))))))
        refine az (az (ba (az (au E E ?_))))
        exact⟨_,rfl,(eL.trans x6_6),by
         rw[cA (.inr (.inr (.inr (.inr (f8 (p:=fD) (i:=i) (by omega) hall (by
          rw[←hem]
          refine gI ?_
          first
          |exact .inl (by omega)
          |exact .inr (.inl (by omega))
          |exact .inr (.inr hq)))))))]
         rfl⟩
       ·refine ak rfl (ah rfl rfl (av (o:=2) Tryz.underlying48 rfl (by kernel_rfl) rfl) (ak rfl (aj rfl rfl (k6_6.ldO (ms:=[B em.at_.1,x38_0,x38_1]) (o:=2) (fun j v hj=>by rcases j with _|_|_|_|_|_|_|_|_|j<;>simp_all) Tryz.underlying46 rfl (by kernel_rfl)) ?_)))
        refine ak E (an ga E E ((by have h:=m9 (q:=em.at_) (f38_0.ext x6_6) (f38_1.ext x6_6) (hs.1 em hmem);rw[hq] at h;exact h)) ?_)
        rintro v51 w51 ⟨x51,rfl⟩
        refine ak E (bw E E bB (aI E E E (ag (ab (cN E (aC (aW (ab (aa (ae E E (al (r:=I ((i+1:Nat):Int)) E E E (by have e:((i+1:Nat):Int)=(i:Int)+1:=(by omega);rw[e];exact aR (by omega) (by omega)) ?_)))))))))))
        refine ac E E (ag ?_)
        refine bS (i+1) ⟨rfl,rfl,trivial⟩ ⟨((eL.trans x6_6).trans x51),((e1L.trans x6_6).trans x51),by omega,qk (p:=fD) (by omega) hall (by rw[←hem];exact xW (by omega) (by omega) hq)⟩ (by omega)
    ·refine bc (aK (aK (bf (ab (af (aa (ac E E (ag (ab (aw (au E E ?_)))))))))))
     exact⟨_,rfl,eL,by rw[xX (by omega) (by omega) hv1 hv2 (mY (p:=fD) (l:=u.path) (i:=i) (by omega) hall)];rfl⟩
 ·refine aa (ah E E (av (o:=0) Lr E (by kernel_rfl) E) (aj E E (ai Lu E (k1.cell (i:=0) E)) ?_))
  refine aV E E (aY Lu (hd.ext x1)) (al E E E (bT) (ae E E ?_))
  refine ci (fun h9=>?_) (fun h9=>?_)
  ·refine am E E E (am E E E (am E E E (am E E E (am E E E (aq E E E (ae E E (am E E E (am E E E (am E E E ?_)))))))))
   refine am E E E (aq E E E (ae E E (am E E E (am E E E (am E E E (am E E E (aq E E E (ag (ab (bm E ?_))))))))))
   refine af (aa (ac E E (ag (ab (aw (az (au E E ?_)))))))
   exact⟨_,rfl,x1,by
    rw[cA (by
     first
     |exact .inl (by omega)
     |exact .inr (.inl (by omega))
     |exact .inr (.inr (.inl hv1))
     |exact .inr (.inr (.inr (.inl hv2))))]
    rfl⟩
  ·refine ak E (ah E E (av (o:=1) Lr E (by kernel_rfl) E) (ak E (ah E E (cx (b:=1) (o:=6) Lk E (by kernel_rfl) E) ?_)))
   refine ak E (aj E E (ai Ls E (k1.cell (i:=7) E)) (ak E (aV E E (aY Ls (hk.ext x1)) ?_)))
   refine ak E (al E E E (bT) (aI E E E (ae E E ?_)))
   refine ci (fun h16=>?_) (fun h16=>?_)
   ·refine am E E E (am E E E (am E E E (am E E E (aq E E E (ae E E (am E E E (am E E E (am E E E (am E E E ?_)))))))))
    refine aq E E E (ag (ab (bm E (af (aa (ac E E (ag (ab (aw (az (au E E ?_)))))))))))
    exact⟨_,rfl,x1,by
     rw[cA (by
      first
      |exact .inl (by omega)
      |exact .inr (.inl (by omega))
      |exact .inr (.inr (.inl hv1))
      |exact .inr (.inr (.inr (.inl hv2))))]
     rfl⟩
   ·refine ak rfl (ah rfl rfl (av (o:=1) Tryz.underlying54 rfl (by kernel_rfl) rfl) (ak rfl (aj rfl rfl (k1.ldO (ms:=[vl,I u.leaf.split.kd,I u.leaf.split.ix,B u.leaf.split.at_.1,x,y,vk,B u.leaf.empty,vp]) (o:=1) (fun j v hj=>by rcases j with _|_|_|_|_|_|_|_|_|j<;>simp_all) Tryz.underlying52 rfl (by kernel_rfl)) ?_)))
    refine ak E (an jg E E ((by have h:=jh (n:=u.leaf) (hl.ext x1) (hx.ext x1) (hy.ext x1) (hk.ext x1) (hp.ext x1);rw[hv1] at h;exact h)) ?_)
    rintro v19 w19 ⟨x19,rfl⟩
    refine ak E (bw E E bB (aI E E E (ae E E (am E E E (am E E E (am E E E (am E E E (aq E E E (ag ?_)))))))))
    refine ab (bm E (af (aa (ac E E (ag (ab (aw (az (au E E ?_)))))))))
    exact⟨_,rfl,(x1.trans x19),by
     rw[cA (by
      first
      |exact .inl (by omega)
      |exact .inr (.inl (by omega))
      |exact .inr (.inr (.inl hv1))
      |exact .inr (.inr (.inr (.inl hv2))))]
     rfl⟩
theorem xY {n:aP} (h:n.kids.length=0):iG n=(fC n.split.at_&&mS n.pf&&n.lems.all iU):=by
 cases n with
 |mk l s k e p=>
  obtain rfl:k=[]:=List.eq_nil_of_length_eq_zero h
  simp only[iG,u6,aP.split,aP.pf,aP.lems]
  cases fC s.at_<;>cases mS p<;>cases l.all iU<;>rfl
theorem dP {n:aP} (h:n.kids.length=0) (h1:fC n.split.at_=false∨mS n.pf=false∨n.lems.all iU=false):iG n=false:=by
 rw[xY h]
 rcases h1 with h|h|h<;>rw[h]
 ·rfl
 ·rw[Bool.and_false];rfl
 ·rw[Bool.and_false]
theorem zq {n:aP} (h:n.kids.length=0) (h1:fC n.split.at_=true) (h2:mS n.pf=true) (h3:n.lems.all iU=true):iG n=true:=by
 rw[xY h,h1,h2,h3];rfl
theorem nj {w:World} {u:cm} {vd vl x y vk vp:Value} (hd:cd c9 u.path vd w) (hl:cd cP u.leaf.lems vl w) (hx:bk u.leaf.split.at_.2.1 x w) (hy:bk u.leaf.split.at_.2.2 y w) (hk:cd bh u.leaf.kids vk w) (hp:cd bK u.leaf.pf vp w) (hs:Jj u):
 Calls Tryz.prog 54 #[.agg #[vd,vl,I u.leaf.split.kd,I u.leaf.split.ix,B u.leaf.split.at_.1,x,y,vk,B u.leaf.empty,vp]] w (bN fun r w'=>aH w w'∧r=B (fk u)):=by
 refine enter (vs:=[.agg #[vd,vl,I u.leaf.split.kd,I u.leaf.split.ix,B u.leaf.split.at_.1,x,y,vk,B u.leaf.empty,vp]]) Tryz.func54 E E E ?_
 have hpl:=hd.len
 have hkl:=hk.len
 have hll:=hl.len
 obtain⟨sl,sd,sp,_⟩:=(vv u.leaf).1 hs.2
 refine af (aa ?_)
 obtain⟨g1,w1,hr1,l1,x1,k1⟩:=cq (P:=Tryz.prog) (w:=w) (T:=54) (cs:=[vd,vl,I u.leaf.split.kd,I u.leaf.split.ix,B u.leaf.split.at_.1,x,y,vk,B u.leaf.empty,vp])
 refine cw E E hr1 (ac E E (ag (ab (af (af ?_)))))
 rcases hv1:iF u.leaf
 rotate_left
 rcases hv2:mS u.leaf.pf
 ·refine aa (ah E E (av (o:=0) Lr E (by kernel_rfl) E) (aj E E (ai Lu E (k1.cell (i:=0) E)) ?_))
  refine aV E E (aY Lu (hd.ext x1)) (al E E E (bT) (ae E E ?_))
  refine ci (fun h11=>?_) (fun h11=>?_)
  ·refine am E E E (am E E E (am E E E (am E E E (am E E E (aq E E E (ae E E (am E E E (am E E E (am E E E ?_)))))))))
   refine am E E E (aq E E E (ae E E (am E E E (am E E E (am E E E (am E E E (am E E E (aq E E E (ag ?_)))))))))
   refine ab (bm E (af (aa (ac E E (ag (ab (aw (az (au E E ?_)))))))))
   exact⟨_,rfl,x1,by
    rw[cA (by
     first
     |exact .inl (by omega)
     |exact .inr (.inl (by omega))
     |exact .inr (.inr (.inl hv1))
     |exact .inr (.inr (.inr (.inl (dP (by omega) (.inr (.inl hv2)))))))]
    rfl⟩
  ·refine ak E (ah E E (av (o:=1) Lr E (by kernel_rfl) E) (ak E (ah E E (cx (b:=1) (o:=6) Lk E (by kernel_rfl) E) ?_)))
   refine ak E (aj E E (ai Ls E (k1.cell (i:=7) E)) (ak E (aV E E (aY Ls (hk.ext x1)) ?_)))
   refine ak E (al E E E (bT) (aI E E E (ae E E ?_)))
   refine ci (fun h18=>?_) (fun h18=>?_)
   ·refine am E E E (am E E E (am E E E (am E E E (aq E E E (ae E E (am E E E (am E E E (am E E E (am E E E ?_)))))))))
    refine am E E E (aq E E E (ag (ab (bm E (af (aa (ac E E (ag (ab (aw (az (au E E ?_))))))))))))
    exact⟨_,rfl,x1,by
     rw[cA (by
      first
      |exact .inl (by omega)
      |exact .inr (.inl (by omega))
      |exact .inr (.inr (.inl hv1))
      |exact .inr (.inr (.inr (.inl (dP (by omega) (.inr (.inl hv2)))))))]
     rfl⟩
   ·refine ak rfl (ah rfl rfl (av (o:=1) Tryz.underlying54 rfl (by kernel_rfl) rfl) (ak rfl (aj rfl rfl (k1.ldO (ms:=[vl,I u.leaf.split.kd,I u.leaf.split.ix,B u.leaf.split.at_.1,x,y,vk,B u.leaf.empty,vp]) (o:=1) (fun j v hj=>by rcases j with _|_|_|_|_|_|_|_|_|j<;>simp_all) Tryz.underlying52 rfl (by kernel_rfl)) ?_)))
    refine ak E (an fX E E ((by have h:=lN (n:=u.leaf) (hl.ext x1) (hx.ext x1) (hy.ext x1) (hk.ext x1) (hp.ext x1);rw[hv1] at h;exact h)) ?_)
    rintro v21 w21 ⟨x21,rfl⟩
    refine ak E (bw E E bB (aI E E E (ae E E (ak E (ah E E (av (o:=1) Lr E (by kernel_rfl) E) ?_)))))
    refine ak E (ah E E (cx (b:=1) (o:=8) Lk E (by kernel_rfl) E) (ak E (aj E E (ai Ly E (x21.cell_some (k1.cell (i:=9) E))) ?_)))
    refine ak E (an rz E E ((by have h:=rD (hp.ext (x1.trans x21)) sp;rw[hv2] at h;exact h)) ?_)
    rintro v28 w28 ⟨x28,rfl⟩
    refine ak E (bw E E bB (aI E E E (ag (ab (bm E (af (aa (ac E E (ag (ab (aw (az (au E E ?_)))))))))))))
    exact⟨_,rfl,((x1.trans x21).trans x28),by
     rw[cA (by
      first
      |exact .inl (by omega)
      |exact .inr (.inl (by omega))
      |exact .inr (.inr (.inl hv1))
      |exact .inr (.inr (.inr (.inl (dP (by omega) (.inr (.inl hv2)))))))]
     rfl⟩
 ·refine aa (ah E E (av (o:=0) Lr E (by kernel_rfl) E) (aj E E (ai Lu E (k1.cell (i:=0) E)) ?_))
  refine aV E E (aY Lu (hd.ext x1)) (al E E E (bT) (ae E E ?_))
  refine ci (fun h11=>?_) (fun h11=>?_)
  ·refine am E E E (am E E E (am E E E (am E E E (am E E E (aq E E E (ae E E (am E E E (am E E E (am E E E ?_)))))))))
   refine am E E E (aq E E E (ae E E (am E E E (am E E E (am E E E (am E E E (am E E E (aq E E E (ag ?_)))))))))
   refine ab (bm E (af (aa (ac E E (ag (ab (aw (az (au E E ?_)))))))))
   exact⟨_,rfl,x1,by
    rw[cA (by
     first
     |exact .inl (by omega)
     |exact .inr (.inl (by omega))
     |exact .inr (.inr (.inl hv1))
     |exact .inr (.inr (.inr (.inl (dP (by omega) (.inr (.inl hv2)))))))]
    rfl⟩
  ·refine ak E (ah E E (av (o:=1) Lr E (by kernel_rfl) E) (ak E (ah E E (cx (b:=1) (o:=6) Lk E (by kernel_rfl) E) ?_)))
   refine ak E (aj E E (ai Ls E (k1.cell (i:=7) E)) (ak E (aV E E (aY Ls (hk.ext x1)) ?_)))
   refine ak E (al E E E (bT) (aI E E E (ae E E ?_)))
   refine ci (fun h18=>?_) (fun h18=>?_)
   ·refine am E E E (am E E E (am E E E (am E E E (aq E E E (ae E E (am E E E (am E E E (am E E E (am E E E ?_)))))))))
    refine am E E E (aq E E E (ag (ab (bm E (af (aa (ac E E (ag (ab (aw (az (au E E ?_))))))))))))
    exact⟨_,rfl,x1,by
     rw[cA (by
      first
      |exact .inl (by omega)
      |exact .inr (.inl (by omega))
      |exact .inr (.inr (.inl hv1))
      |exact .inr (.inr (.inr (.inl (dP (by omega) (.inr (.inl hv2)))))))]
     rfl⟩
   ·refine ak rfl (ah rfl rfl (av (o:=1) Tryz.underlying54 rfl (by kernel_rfl) rfl) (ak rfl (aj rfl rfl (k1.ldO (ms:=[vl,I u.leaf.split.kd,I u.leaf.split.ix,B u.leaf.split.at_.1,x,y,vk,B u.leaf.empty,vp]) (o:=1) (fun j v hj=>by rcases j with _|_|_|_|_|_|_|_|_|j<;>simp_all) Tryz.underlying52 rfl (by kernel_rfl)) ?_)))
    refine ak E (an fX E E ((by have h:=lN (n:=u.leaf) (hl.ext x1) (hx.ext x1) (hy.ext x1) (hk.ext x1) (hp.ext x1);rw[hv1] at h;exact h)) ?_)
    rintro v21 w21 ⟨x21,rfl⟩
    refine ak E (bw E E bB (aI E E E (ae E E (ak E (ah E E (av (o:=1) Lr E (by kernel_rfl) E) ?_)))))
    refine ak E (ah E E (cx (b:=1) (o:=8) Lk E (by kernel_rfl) E) (ak E (aj E E (ai Ly E (x21.cell_some (k1.cell (i:=9) E))) ?_)))
    refine ak E (an rz E E ((by have h:=rD (hp.ext (x1.trans x21)) sp;rw[hv2] at h;exact h)) ?_)
    rintro v28 w28 ⟨x28,rfl⟩
    refine ak E (bw E E bB (aI E E E (ag (ab (cN E (aC (ab (af (af (aa (ah E E (av (o:=0) Lr E (by kernel_rfl) E) ?_)))))))))))
    refine aj E E (ai Lu E ((x21.trans x28).cell_some (k1.cell (i:=0) E))) (aV E E (aY Lu (hd.ext ((x1.trans x21).trans x28))) ?_)
    refine ae E E (ag (ab (aG ?_)))
    refine ck (α:=Nat) (fun i=>[(1,.pointer (some ⟨g1,0,none⟩)),(32,vd),(33,I (u.path.length:Int)),(34,I (i:Int))]) (fun i w'=>aH w w'∧aH w1 w'∧i≤u.path.length∧u.path.all fD=(u.path.drop i).all fD) (fun i=>u.path.length-i) (0) ⟨rfl,rfl,rfl,rfl,trivial⟩ ⟨((x1.trans x21).trans x28),(x21.trans x28),by omega,rfl⟩ ?_
    rintro i wL ⟨eL,e1L,hi,hall⟩
    refine af (aa (al E E E (a6) (ag (ab (af ?_)))))
    refine bu E (fun h35=>?_) (fun h35=>?_)
    ·refine aC (ab (af (aG (af ?_))))
     obtain⟨em,hem⟩:∃em,em=u.path[i]'(by omega):=⟨_,rfl⟩
     have hmem:em∈u.path:=by rw[hem];exact List.getElem_mem _
     rcases hq:fC em.at_
     ·refine aa ?_
      obtain⟨a36,c36,p36,q36,h36⟩:=cb (P:=Tryz.prog) (sz:=5) Lu (by kernel_rfl) ca (by omega) (hd.ext eL) (i:=i) (by omega) .i64
      rw[←hem] at h36
      obtain⟨x36_0,x36_1,rfl,f36_0,f36_1⟩:=fY h36
      refine ar E E E (p36 _) (aj E E (q36.ld Lm E (by kernel_rfl)) ?_)
      obtain⟨g4,w4,hr4,l4,x4,k4⟩:=a9 (P:=Tryz.prog) (w:=wL) (t:=48) (z:=.agg #[I 0,I 0,B false,.slice none 0 0,.slice none 0 0]) (l:=[I 0,I 0,B false,.slice none 0 0,.slice none 0 0]) (by kernel_rfl) rfl
      refine aS E hr4 ?_
      obtain⟨w5_3,s5_3,q5_3,k5_3⟩:=k4.stS (P:=Tryz.prog) (t:=48) (m:=[I em.kd,I em.ix,B em.at_.1,x36_0,x36_1]) rfl (by kernel_rfl) (ap.cons rfl (ap.cons rfl (ap.cons rfl (ap.cons f36_0.one (ap.cons f36_1.one ap.nil)))))
      refine ay E E s5_3 ?_
      have x5_3:=aH.of_new (x4) q5_3 l4
      refine ag (ab (af (aa (ah E E (av (o:=0) Lm E (by kernel_rfl) E) (aj E E (ai Lo E (k5_3.cell (i:=0) E)) ?_)))))
      refine al E E E (a6) (ae E E ?_)
      refine ci (fun h41=>?_) (fun h41=>?_)
      ·refine am E E E (am E E E (am E E E (aq E E E (ae E E (am E E E (am E E E (am E E E (am E E E (aq E E E ?_)))))))))
       refine ag (ab (bm E (af (aa (ac E E (ag (ab (aw (ba (az (az (ba (az (au E E ?_))))))))))))))
       exact⟨_,rfl,(eL.trans x5_3),by
        rw[cA (.inr (.inr (.inr (.inr (f8 (p:=fD) (i:=i) (by omega) hall (by
         rw[←hem]
         refine gI ?_
         first
         |exact .inl (by omega)
         |exact .inr (.inl (by omega))
         |exact .inr (.inr hq)))))))]
        rfl⟩
      ·refine ak E (ah E E (av (o:=0) Lm E (by kernel_rfl) E) (ak E (aj E E (ai Lo E (k5_3.cell (i:=0) E)) ?_)))
       refine ak E (al E E E (bT) (aI E E E (ae E E ?_)))
       refine ci (fun h46=>?_) (fun h46=>?_)
       ·refine am E E E (am E E E (am E E E (am E E E (aq E E E (ag (ab (bm E (af (aa (ac E E (ag (ab (aw (ba ?_))))))))))))))
        refine az (az (ba (az (au E E ?_))))
        exact⟨_,rfl,(eL.trans x5_3),by
         rw[cA (.inr (.inr (.inr (.inr (f8 (p:=fD) (i:=i) (by omega) hall (by
          rw[←hem]
          refine gI ?_
          first
          |exact .inl (by omega)
          |exact .inr (.inl (by omega))
          |exact .inr (.inr hq)))))))]
         rfl⟩
       ·refine ak rfl (ah rfl rfl (av (o:=2) Tryz.underlying48 rfl (by kernel_rfl) rfl) (ak rfl (aj rfl rfl (k5_3.ldO (ms:=[B em.at_.1,x36_0,x36_1]) (o:=2) (fun j v hj=>by rcases j with _|_|_|_|_|_|_|_|_|j<;>simp_all) Tryz.underlying46 rfl (by kernel_rfl)) ?_)))
        refine ak E (an eJ E E ((by have h:=gX (q:=em.at_) (f36_0.ext x5_3) (f36_1.ext x5_3) (hs.1 em hmem);rw[hq] at h;exact h)) ?_)
        rintro v49 w49 ⟨x49,rfl⟩
        refine ak E (bw E E bB (aI E E E (ag (ab (bm E (af (aa (ac E E (ag (ab (aw (ba (az (az (ba (az (au E E ?_)))))))))))))))))
        exact⟨_,rfl,((eL.trans x5_3).trans x49),by
         rw[cA (.inr (.inr (.inr (.inr (f8 (p:=fD) (i:=i) (by omega) hall (by
          rw[←hem]
          refine gI ?_
          first
          |exact .inl (by omega)
          |exact .inr (.inl (by omega))
          |exact .inr (.inr hq)))))))]
         rfl⟩
     ·refine aa ?_
      obtain⟨a36,c36,p36,q36,h36⟩:=cb (P:=Tryz.prog) (sz:=5) Lu (by kernel_rfl) ca (by omega) (hd.ext eL) (i:=i) (by omega) .i64
      rw[←hem] at h36
      obtain⟨x36_0,x36_1,rfl,f36_0,f36_1⟩:=fY h36
      refine ar E E E (p36 _) (aj E E (q36.ld Lm E (by kernel_rfl)) ?_)
      obtain⟨g4,w4,hr4,l4,x4,k4⟩:=a9 (P:=Tryz.prog) (w:=wL) (t:=48) (z:=.agg #[I 0,I 0,B false,.slice none 0 0,.slice none 0 0]) (l:=[I 0,I 0,B false,.slice none 0 0,.slice none 0 0]) (by kernel_rfl) rfl
      refine aS E hr4 ?_
      obtain⟨w5_3,s5_3,q5_3,k5_3⟩:=k4.stS (P:=Tryz.prog) (t:=48) (m:=[I em.kd,I em.ix,B em.at_.1,x36_0,x36_1]) rfl (by kernel_rfl) (ap.cons rfl (ap.cons rfl (ap.cons rfl (ap.cons f36_0.one (ap.cons f36_1.one ap.nil)))))
      refine ay E E s5_3 ?_
      have x5_3:=aH.of_new (x4) q5_3 l4
      refine ag (ab (af (aa (ah E E (av (o:=0) Lm E (by kernel_rfl) E) (aj E E (ai Lo E (k5_3.cell (i:=0) E)) ?_)))))
      refine al E E E (a6) (ae E E ?_)
      refine ci (fun h41=>?_) (fun h41=>?_)
      ·refine am E E E (am E E E (am E E E (aq E E E (ae E E (am E E E (am E E E (am E E E (am E E E (aq E E E ?_)))))))))
       refine ag (ab (bm E (af (aa (ac E E (ag (ab (aw (ba (az (az (ba (az (au E E ?_))))))))))))))
       exact⟨_,rfl,(eL.trans x5_3),by
        rw[cA (.inr (.inr (.inr (.inr (f8 (p:=fD) (i:=i) (by omega) hall (by
         rw[←hem]
         refine gI ?_
         first
         |exact .inl (by omega)
         |exact .inr (.inl (by omega))
         |exact .inr (.inr hq)))))))]
        rfl⟩
      ·refine ak E (ah E E (av (o:=0) Lm E (by kernel_rfl) E) (ak E (aj E E (ai Lo E (k5_3.cell (i:=0) E)) ?_)))
       refine ak E (al E E E (bT) (aI E E E (ae E E ?_)))
       refine ci (fun h46=>?_) (fun h46=>?_)
       ·refine am E E E (am E E E (am E E E (am E E E (aq E E E (ag (ab (bm E (af (aa (ac E E (ag (ab (aw (ba ?_))))))))))))))
        refine az (az (ba (az (au E E ?_))))
        exact⟨_,rfl,(eL.trans x5_3),by
         rw[cA (.inr (.inr (.inr (.inr (f8 (p:=fD) (i:=i) (by omega) hall (by
          rw[←hem]
          refine gI ?_
          first
          |exact .inl (by omega)
          |exact .inr (.inl (by omega))
          |exact .inr (.inr hq)))))))]
         rfl⟩
       ·refine ak rfl (ah rfl rfl (av (o:=2) Tryz.underlying48 rfl (by kernel_rfl) rfl) (ak rfl (aj rfl rfl (k5_3.ldO (ms:=[B em.at_.1,x36_0,x36_1]) (o:=2) (fun j v hj=>by rcases j with _|_|_|_|_|_|_|_|_|j<;>simp_all) Tryz.underlying46 rfl (by kernel_rfl)) ?_)))
        refine ak E (an eJ E E ((by have h:=gX (q:=em.at_) (f36_0.ext x5_3) (f36_1.ext x5_3) (hs.1 em hmem);rw[hq] at h;exact h)) ?_)
        rintro v49 w49 ⟨x49,rfl⟩
        refine ak E (bw E E bB (aI E E E (ag (ab (cN E (aC (aW (ab (aa (al (r:=I ((i+1:Nat):Int)) E E E (by have e:((i+1:Nat):Int)=(i:Int)+1:=(by omega);rw[e];exact aR (by omega) (by omega)) ?_))))))))))
        refine ae E E (ag ?_)
        refine bS (i+1) ⟨rfl,rfl,rfl,rfl,trivial⟩ ⟨((eL.trans x5_3).trans x49),((e1L.trans x5_3).trans x49),by omega,qk (p:=fD) (by omega) hall (by rw[←hem];exact xW (by omega) (by omega) hq)⟩ (by omega)
    ·refine bc (aK (aK (bf (ab (af (af ?_))))))
     have hpa:=mY (p:=fD) (l:=u.path) (i:=i) (by omega) hall
     refine aa (ah E E (av (o:=1) Lr E (by kernel_rfl) E) (ah E E (cx (b:=1) (o:=0) Lk E (by kernel_rfl) E) ?_))
     refine aj E E (ai Lz E (e1L.cell_some (k1.cell (i:=1) E))) (aV E E (aY Lz (hl.ext eL)) ?_)
     refine ae E E (ag (ab (aG ?_)))
     refine ck (α:=Nat) (fun j=>[(1,.pointer (some ⟨g1,0,none⟩)),(55,vl),(56,I (u.leaf.lems.length:Int)),(57,I (j:Int))]) (fun j w'=>aH w w'∧aH w1 w'∧j≤u.leaf.lems.length∧u.leaf.lems.all iU=(u.leaf.lems.drop j).all iU) (fun j=>u.leaf.lems.length-j) (0) ⟨rfl,rfl,rfl,rfl,trivial⟩ ⟨eL,e1L,by omega,rfl⟩ ?_
     rintro j wM ⟨eM,e1M,hj,hlm⟩
     refine af (aa (al E E E (a6) (ag (ab (af ?_)))))
     refine bu E (fun h58=>?_) (fun h58=>?_)
     ·refine aC (ab (af (aG (af ?_))))
      obtain⟨eq,heq⟩:∃eq,eq=u.leaf.lems[j]'(by omega):=⟨_,rfl⟩
      have hmm:eq∈u.leaf.lems:=by rw[heq];exact List.getElem_mem _
      rcases hq1:fC eq.va
      rotate_left
      rcases hq2:mS eq.pf
      ·refine aa ?_
       obtain⟨a59,c59,p59,q59,h59⟩:=cb (P:=Tryz.prog) (sz:=6) Lz (by kernel_rfl) cY (by omega) (hl.ext eM) (i:=j) (by omega) .i64
       rw[←heq] at h59
       obtain⟨x59_0,x59_1,x59_2,rfl,f59_0,f59_1,f59_2⟩:=eK h59
       refine ar E E E (p59 _) (aj E E (q59.ld LB E (by kernel_rfl)) ?_)
       obtain⟨g6,w6,hr6,l6,x6,k6⟩:=a9 (P:=Tryz.prog) (w:=wM) (t:=173) (z:=.agg #[I 0,B false,B false,.slice none 0 0,.slice none 0 0,.slice none 0 0]) (l:=[I 0,B false,B false,.slice none 0 0,.slice none 0 0,.slice none 0 0]) (by kernel_rfl) rfl
       refine aS E hr6 ?_
       obtain⟨w11_3,s11_3,q11_3,k11_3⟩:=k6.stS (P:=Tryz.prog) (t:=173) (m:=[I eq.un,B eq.up,B eq.va.1,x59_0,x59_1,x59_2]) rfl (by kernel_rfl) (ap.cons rfl (ap.cons rfl (ap.cons rfl (ap.cons f59_0.one (ap.cons f59_1.one (ap.cons f59_2.one ap.nil))))))
       refine ay E E s11_3 ?_
       have x11_3:=aH.of_new (x6) q11_3 l6
       refine ag (ab (af (aa (ah rfl rfl (av (o:=2) Tryz.underlying173 rfl (by kernel_rfl) rfl) (aj rfl rfl (k11_3.ldO (ms:=[B eq.va.1,x59_0,x59_1]) (o:=2) (fun j v hj=>by rcases j with _|_|_|_|_|_|_|_|_|j<;>simp_all) Tryz.underlying46 rfl (by kernel_rfl)) ?_)))))
       refine an eJ E E ((by have h:=gX (q:=eq.va) (f59_0.ext x11_3) (f59_1.ext x11_3) (sl eq hmm).1;rw[hq1] at h;exact h)) ?_
       rintro v63 w63 ⟨x63,rfl⟩
       refine bw E E bB (ae E E (ak E (ah E E (av (o:=5) LB E (by kernel_rfl) E) (ak E (aj E E (ai Ly E (x63.cell_some (k11_3.cell (i:=5) E))) ?_)))))
       refine ak E (an rz E E ((by have h:=rD (f59_2.ext (x11_3.trans x63)) (sl eq hmm).2;rw[hq2] at h;exact h)) ?_)
       rintro v68 w68 ⟨x68,rfl⟩
       refine ak E (bw E E bB (aI E E E (ag (ab (bm E (af (aa (ac E E (ag (ab (aw (ba (az (az (ba (az (au E E ?_)))))))))))))))))
       exact⟨_,rfl,(((eM.trans x11_3).trans x63).trans x68),by
        rw[cA (.inr (.inr (.inr (.inl (dP (by omega) (.inr (.inr (f8 (p:=iU) (i:=j) (by omega) hlm (by
         rw[←heq]
         unfold iU
         first
         |(rw[hq1];rfl)
         |(rw[hq2,Bool.and_false]))))))))))]
        rfl⟩
      ·refine aa ?_
       obtain⟨a59,c59,p59,q59,h59⟩:=cb (P:=Tryz.prog) (sz:=6) Lz (by kernel_rfl) cY (by omega) (hl.ext eM) (i:=j) (by omega) .i64
       rw[←heq] at h59
       obtain⟨x59_0,x59_1,x59_2,rfl,f59_0,f59_1,f59_2⟩:=eK h59
       refine ar E E E (p59 _) (aj E E (q59.ld LB E (by kernel_rfl)) ?_)
       obtain⟨g6,w6,hr6,l6,x6,k6⟩:=a9 (P:=Tryz.prog) (w:=wM) (t:=173) (z:=.agg #[I 0,B false,B false,.slice none 0 0,.slice none 0 0,.slice none 0 0]) (l:=[I 0,B false,B false,.slice none 0 0,.slice none 0 0,.slice none 0 0]) (by kernel_rfl) rfl
       refine aS E hr6 ?_
       obtain⟨w11_3,s11_3,q11_3,k11_3⟩:=k6.stS (P:=Tryz.prog) (t:=173) (m:=[I eq.un,B eq.up,B eq.va.1,x59_0,x59_1,x59_2]) rfl (by kernel_rfl) (ap.cons rfl (ap.cons rfl (ap.cons rfl (ap.cons f59_0.one (ap.cons f59_1.one (ap.cons f59_2.one ap.nil))))))
       refine ay E E s11_3 ?_
       have x11_3:=aH.of_new (x6) q11_3 l6
       refine ag (ab (af (aa (ah rfl rfl (av (o:=2) Tryz.underlying173 rfl (by kernel_rfl) rfl) (aj rfl rfl (k11_3.ldO (ms:=[B eq.va.1,x59_0,x59_1]) (o:=2) (fun j v hj=>by rcases j with _|_|_|_|_|_|_|_|_|j<;>simp_all) Tryz.underlying46 rfl (by kernel_rfl)) ?_)))))
       refine an eJ E E ((by have h:=gX (q:=eq.va) (f59_0.ext x11_3) (f59_1.ext x11_3) (sl eq hmm).1;rw[hq1] at h;exact h)) ?_
       rintro v63 w63 ⟨x63,rfl⟩
       refine bw E E bB (ae E E (ak E (ah E E (av (o:=5) LB E (by kernel_rfl) E) (ak E (aj E E (ai Ly E (x63.cell_some (k11_3.cell (i:=5) E))) ?_)))))
       refine ak E (an rz E E ((by have h:=rD (f59_2.ext (x11_3.trans x63)) (sl eq hmm).2;rw[hq2] at h;exact h)) ?_)
       rintro v68 w68 ⟨x68,rfl⟩
       refine ak E (bw E E bB (aI E E E (ag (ab (cN E (aC (aW (ab (aa (al (r:=I ((j+1:Nat):Int)) E E E (by have e:((j+1:Nat):Int)=(j:Int)+1:=(by omega);rw[e];exact aR (by omega) (by omega)) ?_))))))))))
       refine ae E E (ag ?_)
       refine bS (j+1) ⟨rfl,rfl,rfl,rfl,trivial⟩ ⟨(((eM.trans x11_3).trans x63).trans x68),(((e1M.trans x11_3).trans x63).trans x68),by omega,qk (p:=iU) (by omega) hlm (by rw[←heq];unfold iU;rw[hq1,hq2];rfl)⟩ (by omega)
      ·refine aa ?_
       obtain⟨a59,c59,p59,q59,h59⟩:=cb (P:=Tryz.prog) (sz:=6) Lz (by kernel_rfl) cY (by omega) (hl.ext eM) (i:=j) (by omega) .i64
       rw[←heq] at h59
       obtain⟨x59_0,x59_1,x59_2,rfl,f59_0,f59_1,f59_2⟩:=eK h59
       refine ar E E E (p59 _) (aj E E (q59.ld LB E (by kernel_rfl)) ?_)
       obtain⟨g6,w6,hr6,l6,x6,k6⟩:=a9 (P:=Tryz.prog) (w:=wM) (t:=173) (z:=.agg #[I 0,B false,B false,.slice none 0 0,.slice none 0 0,.slice none 0 0]) (l:=[I 0,B false,B false,.slice none 0 0,.slice none 0 0,.slice none 0 0]) (by kernel_rfl) rfl
       refine aS E hr6 ?_
       obtain⟨w11_3,s11_3,q11_3,k11_3⟩:=k6.stS (P:=Tryz.prog) (t:=173) (m:=[I eq.un,B eq.up,B eq.va.1,x59_0,x59_1,x59_2]) rfl (by kernel_rfl) (ap.cons rfl (ap.cons rfl (ap.cons rfl (ap.cons f59_0.one (ap.cons f59_1.one (ap.cons f59_2.one ap.nil))))))
       refine ay E E s11_3 ?_
       have x11_3:=aH.of_new (x6) q11_3 l6
       refine ag (ab (af (aa (ah rfl rfl (av (o:=2) Tryz.underlying173 rfl (by kernel_rfl) rfl) (aj rfl rfl (k11_3.ldO (ms:=[B eq.va.1,x59_0,x59_1]) (o:=2) (fun j v hj=>by rcases j with _|_|_|_|_|_|_|_|_|j<;>simp_all) Tryz.underlying46 rfl (by kernel_rfl)) ?_)))))
       refine an eJ E E ((by have h:=gX (q:=eq.va) (f59_0.ext x11_3) (f59_1.ext x11_3) (sl eq hmm).1;rw[hq1] at h;exact h)) ?_
       rintro v63 w63 ⟨x63,rfl⟩
       refine bw E E bB (ae E E (am E E E (am E E E (am E E E (am E E E (aq E E E (ag (ab (bm E (af (aa (ac E E ?_))))))))))))
       refine ag (ab (aw (ba (az (az (ba (az (au E E ?_))))))))
       exact⟨_,rfl,((eM.trans x11_3).trans x63),by
        rw[cA (.inr (.inr (.inr (.inl (dP (by omega) (.inr (.inr (f8 (p:=iU) (i:=j) (by omega) hlm (by
         rw[←heq]
         unfold iU
         first
         |(rw[hq1];rfl)
         |(rw[hq2,Bool.and_false]))))))))))]
        rfl⟩
     ·refine bc (aK (aK (bf (ab (af ?_)))))
      have hla:=mY (p:=iU) (l:=u.leaf.lems) (i:=j) (by omega) hlm
      refine aa (ah E E (av (o:=1) Lr E (by kernel_rfl) E) (ah E E (cx (b:=1) (o:=1) Lk E (by kernel_rfl) E) ?_))
      refine ah rfl rfl (cx (b:=2) (o:=2) Tryz.underlying48 rfl (by kernel_rfl) rfl) (aj rfl rfl ((k1.ext e1M).ldO (ms:=[B u.leaf.split.at_.1,x,y]) (o:=4) (fun j v hj=>by rcases j with _|_|_|_|_|_|_|_|_|j<;>simp_all) Tryz.underlying46 rfl (by kernel_rfl)) ?_)
      refine an eJ E E ((gX (q:=u.leaf.split.at_) (hx.ext eM) (hy.ext eM) sd)) ?_
      rintro v76 w76 ⟨x76,rfl⟩
      refine ac E E (ag (ab (aw (au E E ?_))))
      exact⟨_,rfl,(eM.trans x76),by
       congr 1
       cases hc:fC u.leaf.split.at_ with
       |false=>exact(cA (.inr (.inr (.inr (.inl (dP (by omega) (.inl hc))))))).symm
       |true=>exact(xX (by omega) (by omega) hv1 (zq (by omega) hc hv2 hla) hpa).symm⟩
 ·refine aa (ah E E (av (o:=0) Lr E (by kernel_rfl) E) (aj E E (ai Lu E (k1.cell (i:=0) E)) ?_))
  refine aV E E (aY Lu (hd.ext x1)) (al E E E (bT) (ae E E ?_))
  refine ci (fun h11=>?_) (fun h11=>?_)
  ·refine am E E E (am E E E (am E E E (am E E E (am E E E (aq E E E (ae E E (am E E E (am E E E (am E E E ?_)))))))))
   refine am E E E (aq E E E (ae E E (am E E E (am E E E (am E E E (am E E E (am E E E (aq E E E (ag ?_)))))))))
   refine ab (bm E (af (aa (ac E E (ag (ab (aw (az (au E E ?_)))))))))
   exact⟨_,rfl,x1,by
    rw[cA (by
     first
     |exact .inl (by omega)
     |exact .inr (.inl (by omega))
     |exact .inr (.inr (.inl hv1))
     |exact .inr (.inr (.inr (.inl (dP (by omega) (.inr (.inl hv2)))))))]
    rfl⟩
  ·refine ak E (ah E E (av (o:=1) Lr E (by kernel_rfl) E) (ak E (ah E E (cx (b:=1) (o:=6) Lk E (by kernel_rfl) E) ?_)))
   refine ak E (aj E E (ai Ls E (k1.cell (i:=7) E)) (ak E (aV E E (aY Ls (hk.ext x1)) ?_)))
   refine ak E (al E E E (bT) (aI E E E (ae E E ?_)))
   refine ci (fun h18=>?_) (fun h18=>?_)
   ·refine am E E E (am E E E (am E E E (am E E E (aq E E E (ae E E (am E E E (am E E E (am E E E (am E E E ?_)))))))))
    refine am E E E (aq E E E (ag (ab (bm E (af (aa (ac E E (ag (ab (aw (az (au E E ?_))))))))))))
    exact⟨_,rfl,x1,by
     rw[cA (by
      first
      |exact .inl (by omega)
      |exact .inr (.inl (by omega))
      |exact .inr (.inr (.inl hv1))
      |exact .inr (.inr (.inr (.inl (dP (by omega) (.inr (.inl hv2)))))))]
     rfl⟩
   ·refine ak rfl (ah rfl rfl (av (o:=1) Tryz.underlying54 rfl (by kernel_rfl) rfl) (ak rfl (aj rfl rfl (k1.ldO (ms:=[vl,I u.leaf.split.kd,I u.leaf.split.ix,B u.leaf.split.at_.1,x,y,vk,B u.leaf.empty,vp]) (o:=1) (fun j v hj=>by rcases j with _|_|_|_|_|_|_|_|_|j<;>simp_all) Tryz.underlying52 rfl (by kernel_rfl)) ?_)))
    refine ak E (an fX E E ((by have h:=lN (n:=u.leaf) (hl.ext x1) (hx.ext x1) (hy.ext x1) (hk.ext x1) (hp.ext x1);rw[hv1] at h;exact h)) ?_)
    rintro v21 w21 ⟨x21,rfl⟩
    refine ak E (bw E E bB (aI E E E (ae E E (am E E E (am E E E (am E E E (am E E E (am E E E (aq E E E ?_)))))))))
    refine ag (ab (bm E (af (aa (ac E E (ag (ab (aw (az (au E E ?_))))))))))
    exact⟨_,rfl,(x1.trans x21),by
     rw[cA (by
      first
      |exact .inl (by omega)
      |exact .inr (.inl (by omega))
      |exact .inr (.inr (.inl hv1))
      |exact .inr (.inr (.inr (.inl (dP (by omega) (.inr (.inl hv2)))))))]
     rfl⟩
end Go.Rl
namespace Go.Rl
open Go.RowKit Go.Proofs
theorem Co:aJ Tryz.prog 33:=⟨_,Tryz.func33,by kernel_rfl,rfl⟩
theorem Cp {w:World} {l m:List bj} {v u:Value} (hv:cd c9 l v w) (hu:cd c9 m u w):
 Calls Tryz.prog 33 #[v,u] w (bN fun r w'=>aH w w'∧r=B (decide (l=m))):=by
 refine enter (vs:=[v,u]) Tryz.func33 E E E ?_
 have hll:=hv.len
 have hml:=hu.len
 refine af (aa (ac E E (ag (ab (af (af (aa (ae E E (aV E E (aY Lu hv) (ae E E (aV E E (aY Lu hu) ?_)))))))))))
 refine al E E E (dn) (ag (ab ?_))
 refine bu E (fun h10=>?_) (fun h10=>?_)
 ·refine af (aa (ac E E (ag (ab (aw (az (au E E ?_)))))))
  exact⟨_,rfl,aH.refl _,by rw[decide_eq_false (fun h=>by rw[h] at h10;exact h10 rfl)];rfl⟩
 ·refine aC (ab (af (af (aa (ac E E (ag (ab (aG ?_))))))))
  refine ck (α:=Nat) (fun i=>[(0,v),(1,u),(5,I (i:Int))]) (fun i w'=>aH w w'∧i≤l.length∧l.take i=m.take i) (fun i=>l.length-i) (0) ⟨rfl,rfl,rfl,trivial⟩ ⟨aH.refl _,by omega,rfl⟩ ?_
  rintro i wL ⟨eL,hi,hall⟩
  refine af (af (aa (ae E E (ae E E (aV E E (aY Lu (hv.ext eL)) (al E E E (a6) (ag (ab ?_))))))))
  refine bu E (fun h14=>?_) (fun h14=>?_)
  ·refine aC (ab (af (aG (af (bP 9 [0,1,5,25] (by kernel_rfl) (by kernel_rfl) ?_)))))
   refine ax E E (ax E E ?_)
   obtain⟨a19,c19,p19,q19,h19⟩:=cb (P:=Tryz.prog) (sz:=5) Lu (by kernel_rfl) ca (by omega) (hv.ext eL) (i:=i) (by omega) .i64
   obtain⟨e19,he19⟩:∃e,e=l[i]'(by omega):=⟨_,rfl⟩
   rw[←he19] at h19
   obtain⟨x19_0,x19_1,rfl,f19_0,f19_1⟩:=fY h19
   refine aD E E E (fun w _=>p19 w) (aQ E E (fun w hw=>(q19.ext hw).ld Lm E (by kernel_rfl)) (ax E E ?_))
   refine ax E E ?_
   obtain⟨a23,c23,p23,q23,h23⟩:=cb (P:=Tryz.prog) (sz:=5) Lu (by kernel_rfl) ca (by omega) (hu.ext eL) (i:=i) (by omega) .i64
   obtain⟨e23,he23⟩:∃e,e=m[i]'(by omega):=⟨_,rfl⟩
   rw[←he23] at h23
   obtain⟨x23_0,x23_1,rfl,f23_0,f23_1⟩:=fY h23
   refine aD rfl rfl rfl (fun w _=>p23 w) (aQ rfl rfl (fun w hw=>(q23.ext hw).ld Lm rfl (by kernel_rfl)) (ce (S:=Is (B (decide (e19=e23)))) sn (bO.is _) rfl (fun w hw=>by rintro _ rfl _ rfl;exact sq (a:=e19) (b:=e23) (f19_0.ext hw) (f19_1.ext hw) (f23_0.ext hw) (f23_1.ext hw)) ?_))
   refine cn ?_
   intro wg6 xg6
   rintro _ hq0
   obtain rfl:=Eq.symm hq0
   rintro _ hq1
   obtain rfl:=Eq.symm hq1
   rintro _ rfl
   rintro _ rfl
   refine bw E E bB (ag (ab ?_))
   refine fJ E (fun h26=>?_) (fun h26=>?_)
   ·refine af (aa (ac E E (ag (ab (aw (ba (az (az (ba (az (au E E ?_)))))))))))
    exact⟨_,rfl,(eL.trans xg6),by
     rw[decide_eq_false (fun h=>by
      subst h
      have e:=he19.trans he23.symm
      rw[e] at h26
      simp at h26)]
     rfl⟩
   ·refine aC (aW (ab (aa (ae E E (al (r:=I ((i+1:Nat):Int)) E E E (by have e:((i+1:Nat):Int)=(i:Int)+1:=(by omega);rw[e];exact aR (by omega) (by omega)) ?_)))))
    refine ac E E (ag ?_)
    refine bS (i+1) ⟨rfl,rfl,rfl,trivial⟩ ⟨(eL.trans xg6),by omega,by
     have h:e19=e23:=by simpa using h26
     rw[List.take_add_one,List.take_add_one,hall,List.getElem?_eq_getElem (by omega),List.getElem?_eq_getElem (by omega),←he19,←he23,h]⟩ (by omega)
  ·refine bc (aK (aK (bf (ab (af (aa (ac E E (ag (ab (aw (au E E ?_)))))))))))
   exact⟨_,rfl,eL,by
    rw[List.take_of_length_le (by omega),List.take_of_length_le (by omega)] at hall
    rw[decide_eq_true hall];rfl⟩
end Go.Rl
namespace Go.Rl
open Go.RowKit Go.Proofs
theorem ES {l t:List UInt8} {d:bj} (h:zR l=some (d,t)) (hl:l.length≤4294967296):sQ d.at_:=by
 unfold zR at h
 obtain⟨p1,h1,h⟩:=Option.bind_eq_some_iff.1 h
 obtain⟨p2,h2,h⟩:=Option.bind_eq_some_iff.1 h
 obtain⟨p3,h3,h⟩:=Option.bind_eq_some_iff.1 h
 cases h
 have l1:=fW.le l _ _ h1
 have l2:=fW.le p1.2 _ _ h2
 exact pi h3 (by omega)
theorem vP {l t:List UInt8} {u:cm} (h:sH l=some (u,t)) (hl:l.length≤4294967296):Jj u:=by
 unfold sH at h
 obtain⟨p1,h1,h⟩:=Option.bind_eq_some_iff.1 h
 obtain⟨p2,h2,h⟩:=Option.bind_eq_some_iff.1 h
 cases h
 have l1:=(si sf.le).le l _ _ h1
 exact⟨qp sf.le (fun _ _ _ h hl=>ES h hl) h1 hl,qq p1.2.length p1.2 _ _ h2 (by omega)⟩
def EntQ (base:Nat) (b:List UInt8) (r:Value) (w':World):Prop:=∃(u:cm) (cs:List Value) (ok:Bool),r=.tuple #[.agg cs.toArray,B ok]∧bZ (fun k=>k<base) w' (jR u) cs∧ap cs∧(ok=true→lQ b=some u)∧(ok=false→lQ b=none)
theorem pl {X:Nat→Prop} {w:World} {u:cm} {v:Value} {cs:List Value} (h1:bZ X w (.sl (u.path.map c9)) [v]) (h2:bZ X w (bh u.leaf) cs):bZ X w (jR u) (v::cs):=by
 unfold jR
 simp only[bZ.eq_5]
 have:=aN.cons (a:=[v]) h1 (aN.cons (a:=cs) h2 aN.nil)
 simpa using this
def Du:aP:=.mk [] lL [] false []
theorem zr {X:Nat→Prop} {w:World}:bZ X w (bh Du) [.slice none 0 0,I 0,I 0,B false,.slice none 0 0,.slice none 0 0,.slice none 0 0,B false,.slice none 0 0]:=fH (ls:=[]) (d:=lL) (ks:=[]) (em:=false) (ps:=[]) nK rj nK nK
abbrev Lc:List Value:=[.slice none 0 0,I 0,I 0,B false,.slice none 0 0,.slice none 0 0,.slice none 0 0,B false,.slice none 0 0]
section
variable {P:Program} {ops:Array Oper} {Q:iq} {N:Nat} {D:List Deferred} {S:World→Prop} {fuel:Nat} {listed:Array Bool} {l:Fr} {w:World} {d:Nat} {ty:TypeId} {pos:String} {aft:Array Edge}
theorem Ik (i:Nat) {c x y:Operand} {u:Value} (hi:ops[i]? =some ⟨some d,.pick c x y,ty,pos,aft,none⟩) (hc:ev l c=some (.bool true)) (hx:ev l x=some u) (hB:mH ops listed i=true) (hd:Nat.blt d N=true) (hS:S w)
 (k:dh P ops Q N D S fuel (listed.setIfInBounds i true) ((d,u)::l) w):dh P ops Q N D S (fuel+1) listed l w:=
 xh i hi hB hd hS (fun ρ w' hρ _=>by simp[execOp,hρ c _ hc,asBool,hρ x _ hx]) k
theorem zs (i:Nat) {c x y:Operand} {v:Value} (hi:ops[i]? =some ⟨some d,.pick c x y,ty,pos,aft,none⟩) (hc:ev l c=some (.bool false)) (hy:ev l y=some v) (hB:mH ops listed i=true) (hd:Nat.blt d N=true) (hS:S w)
 (k:dh P ops Q N D S fuel (listed.setIfInBounds i true) ((d,v)::l) w):dh P ops Q N D S (fuel+1) listed l w:=
 xh i hi hB hd hS (fun ρ w' hρ _=>by simp[execOp,hρ c _ hc,asBool,hρ y _ hy]) k
end
theorem Dv {P:Program} {w:World} {t:TypeId} {x y:Operand}:(bin .eql t x y (I (if some ([]:List UInt8)=some [] then 0 else 5)) (I 0)).run P w=.ok (B true) w:=Gv (l:=[])
theorem Il {P:Program} {w:World} {t:TypeId} {x y:Operand} {c:UInt8} {l:List UInt8}:(bin .eql t x y (I (if some (c::l)=some [] then 0 else 5)) (I 0)).run P w=.ok (B false) w:=by
 have h:=Gv (P:=P) (w:=w) (t:=t) (x:=x) (y:=y) (l:=c::l)
 rwa [decide_eq_false (by simp)] at h
theorem G9 {b:List UInt8} {u:cm} (h:sH b=some (u,[])) (hv:fk u=false):lQ b=none:=by
 unfold lQ
 rw[h]
 exact if_neg (by rw[hv];simp)
end Go.Rl
namespace Go.Rl
open Go.RowKit Go.Proofs
inductive JT where
 |gap
 |leaf (n:aP)
 |split (d:bj) (a b:JT)
def rE (d:bj):bj:=if d.kd=2∨d.kd=3 then be d else d
def qr (d:bj):JT→JT
 |.gap=>.split (rE d) .gap .gap
 |.leaf n=>.leaf n
 |.split s a b=>.split s a b
def gd (n:aP):List bj→JT→Option JT
 |[],.gap=>some (.leaf n)
 |[],.leaf m=>some (.leaf m)
 |[],.split _ _ _=>none
 |d::p,t=>
  match qr d t with
  |.split s a b=>if s=d then(gd n p a).map fun a'=>.split s a' b else if be s=d then(gd n p b).map fun b'=>.split s a b' else none
  |.leaf _=>none
  |.gap=>none
def ET (e:cm) (t:JT):Option JT:=gd e.leaf e.path t
def gz:List cm→JT→Option JT
 |[],t=>some t
 |e::es,t=>(ET e t).bind (gz es)
def JT.node:JT→aP
 |.gap=>Du
 |.leaf n=>n
 |.split s a b=>.mk [] s [a.node,b.node] false []
def JT.miss:JT→List bj→List (List bj)
 |.gap,p=>[p]
 |.leaf _,_=>[]
 |.split s a b,p=>a.miss (p++[s])++b.miss (p++[be s])
def JT.depth:JT→Nat
 |.gap=>0
 |.leaf _=>0
 |.split _ a b=>1+max a.depth b.depth
theorem qs (n:aP):∀(p:List bj) {t t':JT},gd n p t=some t'→t'.depth≤max t.depth p.length
 |[],.gap,t',h=>by simp only[gd,Option.some.injEq] at h;subst h;simp[JT.depth]
 |[],.leaf m,t',h=>by simp only[gd,Option.some.injEq] at h;subst h;simp[JT.depth]
 |[],.split _ _ _,t',h=>by simp[gd] at h
 |d::p,t,t',h=>by
  have key:∀s a b,qr d t=.split s a b→t'.depth≤max (qr d t).depth (p.length+1):=fun s a b ho=>by
   simp only[gd,ho] at h
   rw[ho]
   split at h
   ·obtain⟨a',h1,rfl⟩:=Option.map_eq_some_iff.1 h
    have:=qs n p h1
    simp only[JT.depth];omega
   ·split at h
    ·obtain⟨b',h1,rfl⟩:=Option.map_eq_some_iff.1 h
     have:=qs n p h1
     simp only[JT.depth];omega
    ·cases h
  cases t with
  |gap=>
   have:=key _ _ _ rfl
   simp only[qr,JT.depth] at this
   simp only[JT.depth,List.length_cons];omega
  |leaf m=>simp[gd,qr] at h
  |split s a b=>
   have:=key _ _ _ rfl
   simp only[qr] at this
   simpa using this
def iY (d:bj) (x y k1 k2 lf:Value):List Value:=[I d.kd,I d.ix,B d.at_.1,x,y,k1,k2,lf]
def fF:Value:=.pointer none
def nk (g:Nat):Value:=.pointer (some ⟨g,0,none⟩)
def rG (w0 w:World):Nat→JT→List Nat→Prop
 |g,.gap,ids=>ids=[g]∧bQ g 114 (iY lL (.slice none 0 0) (.slice none 0 0) fF fF fF) w
 |g,.leaf n,ids=>∃h cs,ids=[g,h]∧bQ g 114 (iY lL (.slice none 0 0) (.slice none 0 0) fF fF (nk h)) w∧bQ h 52 cs w∧Rp w0 (bh n) cs
 |g,.split d a b,ids=>∃x y g1 g2 i1 i2,ids=g::(i1++i2)∧bk d.at_.2.1 x w0∧bk d.at_.2.2 y w0∧bQ g 114 (iY d x y (nk g1) (nk g2) fF) w∧rG w0 w g1 a i1∧rG w0 w g2 b i2
theorem rG.mv {w0 w w':World} {X:Nat→Prop} (hm:Mv X w w'):∀{t:JT} {g:Nat} {ids:List Nat},rG w0 w g t ids→(∀k∈ids,¬X k)→rG w0 w' g t ids
 |.gap,g,ids,h,hX=>by
  simp only[rG] at h⊢
  obtain⟨rfl,h1⟩:=h
  exact⟨rfl,hm.blk h1 (hX g (by simp))⟩
 |.leaf n,g,ids,h,hX=>by
  simp only[rG] at h⊢
  obtain⟨k,cs,rfl,h1,h2,h3⟩:=h
  exact⟨k,cs,rfl,hm.blk h1 (hX g (by simp)),hm.blk h2 (hX k (by simp)),h3⟩
 |.split d a b,g,ids,h,hX=>by
  simp only[rG] at h⊢
  obtain⟨x,y,g1,g2,i1,i2,rfl,hx,hy,h1,h2,h3⟩:=h
  exact⟨x,y,g1,g2,i1,i2,rfl,hx,hy,hm.blk h1 (hX g (by simp)),h2.mv hm fun k hk=>hX k (by simp[hk]),h3.mv hm fun k hk=>hX k (by simp[hk])⟩
theorem rG.lt {w0 w:World}:∀{t:JT} {g:Nat} {ids:List Nat},rG w0 w g t ids→∀k∈ids,k<w.heap.size
 |.gap,g,ids,h,k,hk=>by
  simp only[rG] at h
  obtain⟨rfl,h1⟩:=h
  simp only[List.mem_singleton] at hk
  subst hk
  exact h1.lt
 |.leaf n,g,ids,h,k,hk=>by
  simp only[rG] at h
  obtain⟨j,cs,rfl,h1,h2,_⟩:=h
  simp only[List.mem_cons,List.not_mem_nil,or_false] at hk
  rcases hk with rfl|rfl
  ·exact h1.lt
  ·exact h2.lt
 |.split d a b,g,ids,h,k,hk=>by
  simp only[rG] at h
  obtain⟨x,y,g1,g2,i1,i2,rfl,hx,hy,h1,h2,h3⟩:=h
  simp only[List.mem_cons,List.mem_append] at hk
  rcases hk with rfl|hk|hk
  ·exact h1.lt
  ·exact h2.lt k hk
  ·exact h3.lt k hk
structure jq (w0 w:World) (g:Nat) (t:JT) (ids:List Nat):Prop where
 at_:rG w0 w g t ids
 nodup:ids.Nodup
 young:∀k∈ids,w0.heap.size≤k
theorem jq.mv {w0 w w':World} {X:Nat→Prop} {g:Nat} {t:JT} {ids:List Nat} (h:jq w0 w g t ids) (hm:Mv X w w') (hX:∀k∈ids,¬X k):jq w0 w' g t ids:=⟨h.at_.mv hm hX,h.nodup,h.young⟩
theorem jq.lt {w0 w:World} {g:Nat} {t:JT} {ids:List Nat} (h:jq w0 w g t ids):∀k∈ids,k<w.heap.size:=h.at_.lt
theorem jq.gap {w0 w:World} {g:Nat} (k:bQ g 114 (iY lL (.slice none 0 0) (.slice none 0 0) fF fF fF) w) (hg:w0.heap.size≤g):jq w0 w g .gap [g]:=
 ⟨⟨rfl,k⟩,by simp,fun j hj=>by simp only[List.mem_singleton] at hj;omega⟩
theorem jq.leaf {w0 w:World} {g h:Nat} {n:aP} {cs:List Value} (k:bQ g 114 (iY lL (.slice none 0 0) (.slice none 0 0) fF fF (nk h)) w) (k2:bQ h 52 cs w) (hr:Rp w0 (bh n) cs) (hg:w0.heap.size≤g) (hh:w0.heap.size≤h) (hne:g≠h):jq w0 w g (.leaf n) [g,h]:=
 ⟨⟨h,cs,rfl,k,k2,hr⟩,by simp[hne],fun j hj=>by simp only[List.mem_cons,List.not_mem_nil,or_false] at hj;omega⟩
theorem jq.split_inv {w0 w:World} {g:Nat} {d:bj} {a b:JT} {ids:List Nat} (h:jq w0 w g (.split d a b) ids):∃x y g1 g2 i1 i2,ids=g::(i1++i2)∧bk d.at_.2.1 x w0∧bk d.at_.2.2 y w0∧bQ g 114 (iY d x y (nk g1) (nk g2) fF) w∧jq w0 w g1 a i1∧jq w0 w g2 b i2∧w0.heap.size≤g∧g∉i1∧g∉i2∧(∀k∈i1,k∉i2):=by
 obtain⟨⟨x,y,g1,g2,i1,i2,rfl,hx,hy,h1,h2,h3⟩,hn,hy2⟩:=h
 rw[List.nodup_cons,List.nodup_append] at hn
 obtain⟨n1,n2,n3,n4⟩:=hn
 refine⟨x,y,g1,g2,i1,i2,rfl,hx,hy,h1,⟨h2,n2,fun k hk=>hy2 k (by simp[hk])⟩,⟨h3,n3,fun k hk=>hy2 k (by simp[hk])⟩,hy2 g (by simp),fun hg=>n1 (by simp[hg]),fun hg=>n1 (by simp[hg]),fun k hk hk'=>n4 k hk k hk' rfl⟩
theorem jq.split {w0 w:World} {g g1 g2:Nat} {d:bj} {a b:JT} {i1 i2:List Nat} {x y:Value} (hx:bk d.at_.2.1 x w0) (hy:bk d.at_.2.2 y w0) (k:bQ g 114 (iY d x y (nk g1) (nk g2) fF) w) (h1:jq w0 w g1 a i1) (h2:jq w0 w g2 b i2) (hg:w0.heap.size≤g) (n1:g∉i1) (n2:g∉i2) (n3:∀k∈i1,k∉i2):jq w0 w g (.split d a b) (g::(i1++i2)):=by
 refine⟨⟨x,y,g1,g2,i1,i2,rfl,hx,hy,k,h1.at_,h2.at_⟩,?_,fun j hj=>?_⟩
 ·rw[List.nodup_cons,List.nodup_append]
  exact⟨by simp[n1,n2],h1.nodup,h2.nodup,fun k hk j hj e=>n3 k hk (e▸hj)⟩
 ·simp only[List.mem_cons,List.mem_append] at hj
  rcases hj with rfl|hj|hj
  ·exact hg
  ·exact h1.young j hj
  ·exact h2.young j hj
end Go.Rl
namespace Go.Rl
def bg:JT→List bj→List cm
 |.gap,_=>[]
 |.leaf n,p=>[⟨p,n⟩]
 |.split s a b,p=>bg a (p++[s])++bg b (p++[be s])
def gJ:JT→Bool
 |.gap=>false
 |.leaf _=>true
 |.split s a b=>(decide (s.kd=1)||decide (s.kd=4))&&gJ a&&gJ b
def nl (P:List bj→Bool):JT→List bj→Bool
 |.gap,_=>false
 |.leaf _,p=>P p
 |.split s a b,p=>nl P a (p++[s])||nl P b (p++[be s])
def eZ (P:List bj→Bool):JT→List bj→JT
 |.gap,_=>.gap
 |.leaf n,p=>if P p=true then .leaf n else .gap
 |.split s a b,p=>if (nl P a (p++[s])||nl P b (p++[be s]))=true then .split s (eZ P a (p++[s])) (eZ P b (p++[be s])) else .gap
theorem iZ {s:bj} {a b:JT} (h:gJ (.split s a b)=true):(s.kd=1∨s.kd=4)∧gJ a=true∧gJ b=true:=by
 simp only[gJ,Bool.and_eq_true,Bool.or_eq_true,decide_eq_true_eq] at h
 exact⟨h.1.1,h.1.2,h.2⟩
theorem Ha {s:bj} (h:s.kd=1∨s.kd=4):rE s=s∧rE (be s)=s∧s≠be s:=by
 obtain⟨k,i,a⟩:=s
 simp only at h
 rcases h with rfl|rfl
 ·exact⟨rfl,rfl,fun h=>absurd (congrArg bj.kd h) (by show ¬((1:Int)=j3 1);decide)⟩
 ·exact⟨rfl,rfl,fun h=>absurd (congrArg bj.kd h) (by show ¬((4:Int)=j3 4);decide)⟩
theorem vQ {P:List bj→Bool} {t:JT} {p:List bj} (h:nl P t p=false):eZ P t p=.gap:=by
 cases t with
 |gap=>rfl
 |leaf n=>
  simp only[nl] at h
  simp[eZ,h]
 |split s a b=>
  simp only[nl] at h
  simp only[eZ]
  rw[if_neg (by rw[h];simp)]
theorem jl:∀{t:JT} {p:List bj} {e:cm},e∈bg t p→∃r,e.path=p++r
 |.gap,p,e,h=>by simp[bg] at h
 |.leaf n,p,e,h=>by
  simp only[bg,List.mem_singleton] at h
  subst h
  exact⟨[],by simp⟩
 |.split s a b,p,e,h=>by
  simp only[bg,List.mem_append] at h
  rcases h with h|h
  ·obtain⟨r,hr⟩:=jl h
   exact⟨s::r,by rw[hr];simp⟩
  ·obtain⟨r,hr⟩:=jl h
   exact⟨be s::r,by rw[hr];simp⟩
theorem pm {P:List bj→Bool}:∀{t:JT} {p:List bj} {e:cm},e∈bg t p→P e.path=true→nl P t p=true
 |.gap,p,e,h,hp=>by simp[bg] at h
 |.leaf n,p,e,h,hp=>by
  simp only[bg,List.mem_singleton] at h
  subst h
  exact hp
 |.split s a b,p,e,h,hp=>by
  simp only[bg,List.mem_append] at h
  simp only[nl,Bool.or_eq_true]
  rcases h with h|h
  ·exact .inl (pm h hp)
  ·exact .inr (pm h hp)
theorem pn {P Q:List bj→Bool}:∀{t:JT} {p:List bj},(∀e∈bg t p,P e.path=Q e.path)→nl P t p=nl Q t p
 |.gap,p,h=>rfl
 |.leaf n,p,h=>h ⟨p,n⟩ (by simp[bg])
 |.split s a b,p,h=>by
  simp only[nl]
  rw[pn fun e he=>h e (by simp[bg,he]),pn fun e he=>h e (by simp[bg,he])]
theorem po {P Q:List bj→Bool}:∀{t:JT} {p:List bj},(∀e∈bg t p,P e.path=Q e.path)→eZ P t p=eZ Q t p
 |.gap,p,h=>rfl
 |.leaf n,p,h=>by
  have:=h ⟨p,n⟩ (by simp[bg])
  simp only[eZ]
  rw[this]
 |.split s a b,p,h=>by
  have h1:∀e∈bg a (p++[s]),P e.path=Q e.path:=fun e he=>h e (by simp[bg,he])
  have h2:∀e∈bg b (p++[be s]),P e.path=Q e.path:=fun e he=>h e (by simp[bg,he])
  simp only[eZ]
  rw[pn h1,pn h2,po h1,po h2]
theorem zt {P:List bj→Bool} {n:aP}:∀{t:JT} {p q:List bj},gJ t=true→(⟨p++q,n⟩:cm)∈bg t p→gd n q (eZ P t p)=some (eZ (fun x=>P x||decide (x=p++q)) t p)
 |.gap,p,q,hf,h=>by simp[bg] at h
 |.leaf m,p,q,hf,h=>by
  simp only[bg,List.mem_singleton,cm.mk.injEq] at h
  obtain⟨h1,rfl⟩:=h
  have hq:q=[]:=List.append_right_eq_self.1 h1
  subst hq
  simp only[eZ,List.append_nil,decide_true,Bool.or_true,if_true]
  by_cases hp:P p=true
  ·rw[if_pos hp];rfl
  ·rw[if_neg hp];rfl
 |.split s a b,p,q,hf,h=>by
  obtain⟨hk,fa,fb⟩:=iZ hf
  obtain⟨n1,n2,n3⟩:=Ha hk
  have hmem:=h
  simp only[bg,List.mem_append] at h
  have hr:∃d r,q=d::r∧(d=s∧(⟨(p++[s])++r,n⟩:cm)∈bg a (p++[s])∨d=be s∧(⟨(p++[be s])++r,n⟩:cm)∈bg b (p++[be s])):=by
   rcases h with h|h
   ·obtain⟨r,hr⟩:=jl h
    have:q=s::r:=by
     have hr':p++q=p++(s::r):=by simpa using hr
     exact List.append_cancel_left hr'
    subst this
    exact⟨s,r,rfl,.inl ⟨rfl,by simpa using h⟩⟩
   ·obtain⟨r,hr⟩:=jl h
    have:q=be s::r:=by
     have hr':p++q=p++(be s::r):=by simpa using hr
     exact List.append_cancel_left hr'
    subst this
    exact⟨be s,r,rfl,.inr ⟨rfl,by simpa using h⟩⟩
  obtain⟨d,r,rfl,hd⟩:=hr
  have hn:rE d=s:=by
   rcases hd with⟨rfl,_⟩|⟨rfl,_⟩
   ·exact n1
   ·exact n2
  have ho:qr d (eZ P (.split s a b) p)=.split s (eZ P a (p++[s])) (eZ P b (p++[be s])):=by
   simp only[eZ]
   by_cases hc:(nl P a (p++[s])||nl P b (p++[be s]))=true
   ·rw[if_pos hc];rfl
   ·rw[if_neg hc]
    simp only[Bool.or_eq_true,not_or,Bool.not_eq_true] at hc
    rw[vQ hc.1,vQ hc.2]
    show JT.split (rE d) .gap .gap=_
    rw[hn]
  have hany:(nl (fun x=>P x||decide (x=p++d::r)) a (p++[s])||nl (fun x=>P x||decide (x=p++d::r)) b (p++[be s]))=true:=pm (t:=.split s a b) hmem (by simp)
  rw[show gd n (d::r) (eZ P (.split s a b) p)=(match qr d (eZ P (.split s a b) p) with
   |.split s a b=>if s=d then(gd n r a).map fun a'=>.split s a' b else if be s=d then(gd n r b).map fun b'=>.split s a b' else none
   |.leaf _=>none
   |.gap=>none) from rfl,ho]
  rw[show eZ (fun x=>P x||decide (x=p++d::r)) (.split s a b) p=.split s (eZ (fun x=>P x||decide (x=p++d::r)) a (p++[s])) (eZ (fun x=>P x||decide (x=p++d::r)) b (p++[be s])) by simp only[eZ];rw[if_pos hany]]
  rcases hd with⟨rfl,hm⟩|⟨rfl,hm⟩
  ·simp only[]
   rw[if_pos trivial,zt fa hm]
   have e1:p++[d]++r=p++d::r:=by simp
   have e2:eZ (fun x=>P x||decide (x=p++d::r)) b (p++[be d])=eZ P b (p++[be d]):=po fun e he=>by
    obtain⟨u,hu⟩:=jl he
    have:¬e.path=p++d::r:=fun hh=>by
     rw[hu] at hh
     have hh':p++(be d::u)=p++(d::r):=by simpa using hh
     have:=List.append_cancel_left hh'
     injection this with h1
     exact n3 h1.symm
    simp[this]
   rw[Option.map_some,e1,e2]
  ·simp only[]
   rw[if_neg n3,if_pos trivial,zt fb hm]
   have e1:p++[be s]++r=p++be s::r:=by simp
   have e2:eZ (fun x=>P x||decide (x=p++be s::r)) a (p++[s])=eZ P a (p++[s]):=po fun e he=>by
    obtain⟨u,hu⟩:=jl he
    have:¬e.path=p++be s::r:=fun hh=>by
     rw[hu] at hh
     have hh':p++(s::u)=p++(be s::r):=by simpa using hh
     have:=List.append_cancel_left hh'
     injection this with h1
     exact n3 h1
    simp[this]
   rw[Option.map_some,e1,e2]
theorem qt {t:JT} (hf:gJ t=true):∀(l:List cm) (P:List bj→Bool),(∀e∈l,e∈bg t [])→gz l (eZ P t [])=some (eZ (fun x=>P x||l.any fun e=>decide (x=e.path)) t [])
 |[],P,_=>by simp[gz]
 |e::l,P,h=>by
  have h1:=zt (P:=P) (n:=e.leaf) (p:=[]) (q:=e.path) hf (h e (by simp))
  simp only[gz,ET]
  rw[h1,Option.bind_some,qt hf l _ fun x hx=>h x (by simp[hx])]
  simp only[List.nil_append,List.any_cons,Bool.or_assoc]
theorem xZ (t:JT) (p:List bj):eZ (fun _=>false) t p=.gap:=by
 apply vQ
 induction t generalizing p with
 |gap=>rfl
 |leaf n=>rfl
 |split s a b ih1 ih2=>simp only[nl];rw[ih1,ih2];rfl
theorem kJ:∀{t:JT} (p:List bj),gJ t=true→∃e,e∈bg t p
 |.gap,p,h=>by simp[gJ] at h
 |.leaf n,p,h=>⟨⟨p,n⟩,by simp[bg]⟩
 |.split s a b,p,h=>by
  obtain⟨e,he⟩:=kJ (p++[s]) (iZ h).2.1
  exact⟨e,by simp[bg,he]⟩
theorem zu {P:List bj→Bool}:∀{t:JT} {p:List bj},gJ t=true→(∀e∈bg t p,P e.path=true)→eZ P t p=t
 |.gap,p,hf,h=>rfl
 |.leaf n,p,hf,h=>by
  simp only[eZ]
  rw[if_pos (h ⟨p,n⟩ (by simp[bg]))]
 |.split s a b,p,hf,h=>by
  obtain⟨_,fa,fb⟩:=iZ hf
  have h1:∀e∈bg a (p++[s]),P e.path=true:=fun e he=>h e (by simp[bg,he])
  have h2:∀e∈bg b (p++[be s]),P e.path=true:=fun e he=>h e (by simp[bg,he])
  obtain⟨e,he⟩:=kJ (p++[s]) fa
  simp only[eZ]
  rw[if_pos (by rw[pm he (h1 e he)];rfl),zu fa h1,zu fb h2]
theorem sS:∀{t:JT} {p:List bj},gJ t=true→t.miss p=[]
 |.gap,p,h=>by simp[gJ] at h
 |.leaf n,p,h=>rfl
 |.split s a b,p,h=>by
  obtain⟨_,fa,fb⟩:=iZ h
  simp only[JT.miss]
  rw[sS fa,sS fb];rfl
theorem qu {s:bj} (hk:s.kd=1∨s.kd=4) {a b:JT} {p:List bj} {e f:cm} (he:e∈bg a (p++[s])) (hf:f∈bg b (p++[be s])):e.path≠f.path:=fun h=>by
 obtain⟨r,hr⟩:=jl he
 obtain⟨u,hu⟩:=jl hf
 rw[hr,hu] at h
 have h':p++(s::r)=p++(be s::u):=by simpa using h
 have:=List.append_cancel_left h'
 injection this with h1
 exact(Ha hk).2.2 h1
theorem np:∀{t:JT} {p:List bj},gJ t=true→((bg t p).map (·.path)).Nodup
 |.gap,p,h=>by simp[bg]
 |.leaf n,p,h=>by simp[bg]
 |.split s a b,p,h=>by
  obtain⟨hk,fa,fb⟩:=iZ h
  simp only[bg,List.map_append]
  refine List.nodup_append.2 ⟨np fa,np fb,fun x hx y hy=>?_⟩
  obtain⟨e,he,rfl⟩:=List.mem_map.1 hx
  obtain⟨f,hf,rfl⟩:=List.mem_map.1 hy
  exact qu hk he hf
theorem zv {P:List bj→Bool} {x:List bj}:∀{t:JT} {p:List bj},gJ t=true→(∀e∈bg t p,P e.path=decide (e.path≠x))→(eZ P t p).miss p=if (∃e∈bg t p,e.path=x) then[x] else[]
 |.gap,p,hf,h=>by simp[gJ] at hf
 |.leaf n,p,hf,h=>by
  have h1:=h ⟨p,n⟩ (by simp[bg])
  simp only at h1
  simp only[eZ,bg,List.mem_singleton,exists_eq_left]
  by_cases hp:p=x
  ·subst hp
   rw[if_pos rfl,if_neg (by rw[h1];simp)]
   rfl
  ·rw[if_neg hp,if_pos (by rw[h1];simp[hp])]
   rfl
 |.split s a b,p,hf,h=>by
  obtain⟨hk,fa,fb⟩:=iZ hf
  have h1:∀e∈bg a (p++[s]),P e.path=decide (e.path≠x):=fun e he=>h e (by simp[bg,he])
  have h2:∀e∈bg b (p++[be s]),P e.path=decide (e.path≠x):=fun e he=>h e (by simp[bg,he])
  obtain⟨e,he⟩:=kJ (p++[s]) fa
  obtain⟨f,hff⟩:=kJ (p++[be s]) fb
  have hany:(nl P a (p++[s])||nl P b (p++[be s]))=true:=by
   by_cases hx:e.path=x
   ·have:f.path≠x:=fun hh=>qu hk he hff (hx.trans hh.symm)
    rw[pm hff (by rw[h2 f hff];simp[this])];simp
   ·rw[pm he (by rw[h1 e he];simp[hx])];simp
  simp only[eZ]
  rw[if_pos hany]
  simp only[JT.miss]
  rw[zv fa h1,zv fb h2]
  by_cases ha:∃e∈bg a (p++[s]),e.path=x
  ·have hb:¬∃e∈bg b (p++[be s]),e.path=x:=fun⟨f,hf,hfx⟩=>by
    obtain⟨e,he,hex⟩:=ha
    exact qu hk he hf (hex.trans hfx.symm)
   rw[if_pos ha,if_neg hb,if_pos,List.append_nil]
   obtain⟨e,he,hex⟩:=ha
   exact⟨e,by simp[bg,he],hex⟩
  ·rw[if_neg ha,List.nil_append]
   by_cases hb:∃e∈bg b (p++[be s]),e.path=x
   ·rw[if_pos hb,if_pos]
    obtain⟨e,he,hex⟩:=hb
    exact⟨e,by simp[bg,he],hex⟩
   ·rw[if_neg hb,if_neg]
    rintro⟨e,he,hex⟩
    simp only[bg,List.mem_append] at he
    rcases he with he|he
    ·exact ha ⟨e,he,hex⟩
    ·exact hb ⟨e,he,hex⟩
theorem et (s:bj) (a b:JT):(JT.split s a b).node=.mk [] s [a.node,b.node] false []:=rfl
theorem zw (d:Nat):kn d Du=true∧fM d Du=1:=by
 constructor
 ·unfold kn;show wj lL=true;decide
 ·unfold fM;rfl
theorem Cq {P:List bj→Bool}:∀{t:JT} {p:List bj} {d:Nat},kn d t.node=true→kn d (eZ P t p).node=true∧fM d (eZ P t p).node≤fM d t.node
 |.gap,p,d,h=>⟨h,Nat.le_refl _⟩
 |.leaf n,p,d,h=>by
  simp only[eZ]
  split
  ·exact⟨h,Nat.le_refl _⟩
  ·exact⟨(zw d).1,by rw[show JT.node .gap=Du from rfl,(zw d).2];exact rk _ _⟩
 |.split s a b,p,d,h=>by
  simp only[eZ]
  split
  ·rw[et] at h⊢
   rw[et]
   cases d with
   |zero=>unfold kn at h;simp[aP.kids] at h
   |succ d=>
    unfold kn at h
    simp only[aP.kids,Bool.and_eq_true] at h
    obtain⟨a1,a2⟩:=Cq (P:=P) (p:=p++[s]) h.2.1
    obtain⟨b1,b2⟩:=Cq (P:=P) (p:=p++[be s]) h.2.2
    constructor
    ·unfold kn
     simp only[aP.kids,Bool.and_eq_true]
     exact⟨h.1,a1,b1⟩
    ·unfold fM
     simp only[aP.kids]
     omega
  ·exact⟨(zw d).1,by rw[show JT.node .gap=Du from rfl,(zw d).2];exact rk _ _⟩
theorem Im {P:List bj→Bool} {t:JT} (h:iF t.node=true):iF (eZ P t []).node=true:=by
 unfold iF at h⊢
 simp only[Bool.and_eq_true,decide_eq_true_eq] at h⊢
 obtain⟨h1,h2⟩:=Cq (P:=P) (p:=[]) h.1
 exact⟨h1,by omega⟩
end Go.Rl
namespace Go.Rl
open Go.RowKit Go.Proofs
section
variable {α:Type} {f:α→Dt} {l m:List α} {v x:Value} {w w0 w':World} {e t ty:TypeId} {sz base:Nat} {X Y Z:Nat→Prop}
theorem bZ.toSl {sz:Nat} {l:List Dt} {v:Value} (h:bZ X w (.sl l) [v]) (hs:∀d∈l,d.size=sz):∃xs,Sl sz xs v w∧aN X w l xs:=by
 simp only[bZ] at h
 obtain⟨A,n,c,hv,h2,h3,h4,h5,h6⟩:=h
 obtain rfl:v=.slice A n c:=by simpa using hv
 rcases Nat.eq_zero_or_pos n with h0|h0
 ·have:l=[]:=List.eq_nil_of_length_eq_zero (by omega)
  subst this
  exact⟨[],⟨A,n,c,rfl,h3,h4,by subst h0;simp,fun h=>by omega,h5⟩,aN.nil⟩
 ·obtain⟨ad,xs,rfl,_,h8,h9⟩:=h6 h0
  exact⟨xs,⟨_,n,c,rfl,h3,h4,by rw[h9.len,cy hs,h2],fun _=>⟨ad,rfl,h8⟩,h5⟩,h9⟩
theorem bZ.isSl {l:List Dt} {v:Value} (h:bZ X w (.sl l) [v]):∃A n c,v=.slice A n c:=by
 simp only[bZ] at h
 obtain⟨A,n,c,hv,_⟩:=h
 exact⟨A,n,c,by simpa using hv⟩
theorem bZ.ofSl {sz:Nat} {l:List Dt} {v:Value} {xs:List Value} (h:Sl sz xs v w) (ha:aN X w l xs) (hs:∀d∈l,d.size=sz) (h0:0<sz) (hX:∀k,v.ownBlock=some k→¬X k):bZ X w (.sl l) [v]:=by
 obtain⟨A,n,c,rfl,h3,h4,h5,h6,h7⟩:=h
 simp only[bZ]
 refine⟨A,n,c,rfl,?_,h3,h4,h7,fun hn=>?_⟩
 ·have:=ha.len
  rw[cy hs,h5] at this
  exact(Nat.eq_of_mul_eq_mul_right h0 this).symm
 ·obtain⟨ad,rfl,hc⟩:=h6 hn
  exact⟨ad,xs,rfl,fun _=>hX _ rfl,hc,ha⟩
def dY (e:TypeId) (sz base:Nat) (X:Nat→Prop) (f:α→Dt) (l:List α) (v:Value) (w:World):Prop:=∃n xs,w.ownsRow base e sz v n xs∧aN (fun k=>X k∨v.ownBlock=some k) w (l.map f) xs
theorem dY.nil (w:World):dY e sz base X f ([]:List α) (.slice none 0 0) w:=⟨0,[],World.ownsRow_nil _ _ _ _,aN.nil⟩
theorem dY.lt (h:dY e sz base X f l v w):∀k,v.ownBlock=some k→base≤k∧k<w.heap.size:=fun k hk=>by
 obtain⟨n,xs,h,_⟩:=h
 exact World.ownsRow.lt h k hk
theorem dY.isS (h:dY e sz base X f l v w):∃A n c,v=.slice A n c:=by
 obtain⟨n,xs,⟨_,h|⟨g,cap,cur,rfl,_⟩⟩,_⟩:=h
 ·exact⟨_,_,_,h.1⟩
 ·exact⟨_,_,_,rfl⟩
theorem dY.one (h:dY e sz base X f l v w):v.oneCell'=true:=by obtain⟨_,_,_,rfl⟩:=h.isS;rfl
theorem dY.rpx (h:dY e sz base X f l v w) (hs:∀a,(f a).size=sz) (h0:0<sz) (hY:∀k,Y k→X k) (hne:∀k,v.ownBlock=some k→¬Y k):bZ Y w (.sl (l.map f)) [v]:=by
 obtain⟨n,xs,h1,h2⟩:=h
 exact bZ.ofOwn h1 (h2.weak fun k hk=>.inl (.inl (hY k hk))) (by simp[hs]) h0 hne
theorem dY.ext (h:dY e sz base X f l v w) (hx:aH w w'):dY e sz base X f l v w':=by
 obtain⟨n,xs,h1,h2⟩:=h
 exact⟨n,xs,fl h1 hx,h2.ext hx⟩
theorem dY.stable:bO (dY e sz base X f l):=fun _ _ _ h hx=>h.ext hx
theorem dY.mv (h:dY e sz base X f l v w) (hm:Mv Z w w') (hZ:∀k,Z k→X k) (hne:∀k,v.ownBlock=some k→¬Z k):dY e sz base X f l v w':=by
 obtain⟨n,xs,h1,h2⟩:=h
 refine⟨n,xs,⟨h1.1,?_⟩,aN.mv (hm.weak fun k hk _=>.inl (hZ k hk)) (fun k hk=>.inl hk) h2⟩
 rcases h1.2 with h3|⟨g,cap,cur,rfl,h3,h4,h5⟩
 ·exact .inl h3
 ·refine .inr ⟨g,cap,cur,rfl,h3,?_,h5⟩
  rw[hm.keep g (Array.getElem?_eq_some_iff.1 h4).1 (hne g rfl)]
  exact h4
theorem dY.weak (h:dY e sz base X f l v w) (hY:∀k,Y k→X k∨w.heap.size≤k):dY e sz base Y f l v w:=by
 obtain⟨n,xs,h1,h2⟩:=h
 exact⟨n,xs,h1,h2.weak fun k hk=>hk.elim (fun h=>(hY k h).imp .inl id) fun h=>.inl (.inr h)⟩
theorem dY.app {P:Program} {z:Value} {bytes:Nat} (ht:P.underlying t=some (.slice e)) (hi:(P.info? e).map (fun i=>(i.zero,i.size,i.bytes))=some (some z,sz,bytes)) (hzs:z.cells.size=sz) (hsz:0<sz) (hb0:0<bytes)
 (h:dY e sz base X f l v w) {cs:List Value} (hx:Sl sz cs x w) (h1:ap cs) (ha:aN (fun k=>X k∨v.ownBlock=some k) w (m.map f) cs) (hs:∀a,(f a).size=sz) (hb:(l.length+m.length)*bytes≤140737488355328) (hbase:base≤w.heap.size):
 ∃r w1,(Builtin.append_ #[t,t] ty #[v,x]).run P w=.ok r w1∧dY e sz base X f (l++m) r w1∧gR w w1 v r:=by
 obtain⟨n,xs,h2,h3⟩:=h
 have hxl:xs.length=l.length*sz:=by rw[h3.len,cy (sz:=sz) (by simp[hs]),List.length_map]
 have hcl:cs.length=m.length*sz:=by rw[ha.len,cy (sz:=sz) (by simp[hs]),List.length_map]
 obtain⟨r,w1,n',h4,h5,h6⟩:=qK (P:=P) (ty:=ty) ht hi hzs hsz h2 hx h1 (by
  rw[hxl,hcl,←Nat.add_mul,Nat.mul_right_comm]
  exact Nat.mul_le_mul_right _ hb) hb0 hbase
 refine⟨r,w1,h4,⟨n',_,h5,?_⟩,h6⟩
 have hm:Mv (fun k=>X k∨v.ownBlock=some k) w w1:=Mv.of_grown h6.grown fun k hk _=>.inr hk
 have hY:∀k,(X k∨r.ownBlock=some k)→(X k∨v.ownBlock=some k)∨w.heap.size≤k:=fun k hk=>by
  rcases hk with hk|hk
  ·exact .inl (.inl hk)
  ·rcases h6.own with h7|h7
   ·rw[h7] at hk;exact .inl (.inr hk)
   ·exact .inr (h7 k hk)
 rw[List.map_append]
 exact aN.append (aN.mv hm hY h3) (aN.mv hm hY ha)
theorem nq {P:Program} {z:Value} (ht:P.underlying t=some (.slice e)) (hi:(P.info? e).map (fun i=>(i.zero,i.size))=some (some z,sz)):
 ∃r w1,(Instr.buildSlice t 0 #[]).run P w=.ok r w1∧aH w w1∧dY e sz w.heap.size X f ([]:List α) r w1∧r.ownBlock=some w.heap.size:=by
 obtain⟨r,w1,a,b,⟨n,xs,h1,h2⟩,d⟩:=KS (w:=w) (f:=f) ht hi
 refine⟨r,w1,a,b,⟨n,xs,h1,?_⟩,d⟩
 simp only[List.map_nil,aN] at h2⊢
 exact h2
end
end Go.Rl
namespace Go.Rl
open Go.RowKit Go.Proofs
theorem gf:(Tryz.prog.info? 54).map (fun i=>(i.zero,i.size,i.bytes))=some (some (.agg #[.slice none 0 0,.slice none 0 0,I 0,I 0,B false,.slice none 0 0,.slice none 0 0,.slice none 0 0,B false,.slice none 0 0]),10,176):=by kernel_rfl
theorem j8 {P:Program} {fn:Func} {R:Ending→World→Prop} {N:Nat} {fr:Fr} {p s1 s2 s3:Tmp} {t T:TypeId} {u1 u2 u3:Value} {l:List Value} {w:World} {g:Nat} {d:TypeDesc} (hr:fn.results= #[.cell p t,.tmp s1,.tmp s2,.tmp s3]) (hv:lk fr p=some (.pointer (some ⟨g,0,none⟩))) (h1:lk fr s1=some u1) (h2:lk fr s2=some u2) (h3:lk fr s3=some u3) (hb:bQ g T l w) (hu:P.underlying t=some d) (hd:d.isRow=true) (hi:(P.info? t).map (·.size)=some l.length)
 (h:R (.returned (.tuple #[.agg l.toArray,u1,u2,u3])) w):gC (bodyPost P fn R) N [] fr w .ret:=fun a ha=>by
 refine⟨ha.defers,.tuple #[.agg l.toArray,u1,u2,u3],?_,h⟩
 have hp:=ha.at_ p _ hv
 have hp':a.tmps[p]?.getD undef=.pointer (some ⟨g,0,none⟩):=by simpa using hp
 have q1:=ha.at_ s1 _ h1
 have q2:=ha.at_ s2 _ h2
 have q3:=ha.at_ s3 _ h3
 have hl:=run_loadVar_row w g T t l.toArray (0,0) d hb hu (by cases d<;>first|rfl|exact hd) (by simpa using hi)
 simp[results,hr,hp',asAddr,hl,←q1,←q2,←q3]
def oN (base:Nat) (b:List UInt8) (r:Value) (w':World):Prop:=∃ve,r=.tuple #[.agg ((oJ b).1.1.map U8).toArray,ve,I (((oJ b).1.2.2:Nat):Int),I (oJ b).2]∧bZ (fun k=>k<base) w' (.sl ((oJ b).1.2.1.map jR)) [ve]
theorem oN.err {base:Nat} {b:List UInt8} {w':World} (h:b.length<44∨b.take 4≠kr∨fE b 36=false):oN base b (.tuple #[.agg (vY.map U8).toArray,.slice none 0 0,I 0,I 5]) w':=by
 have e:oJ b=((vY,[],0),5):=by unfold oJ;rw[if_pos h]
 unfold oN
 rw[e]
 exact⟨_,rfl,nK⟩
theorem oN.ok {base k:Nat} {b:List UInt8} {es:List cm} {ve:Value} {w':World} (h:¬(b.length<44∨b.take 4≠kr∨fE b 36=false)) (hj:fQ b 44=(es,k)) (hr:bZ (fun k=>k<base) w' (.sl (es.map jR)) [ve]):oN base b (.tuple #[.agg (((b.take 36).drop 4).map U8).toArray,ve,I (k:Int),I 0]) w':=by
 have e:oJ b=(((b.take 36).drop 4,es,k),0):=by unfold oJ;rw[if_neg h,hj]
 unfold oN
 rw[e]
 exact⟨_,rfl,hr⟩
theorem Hb {b:List UInt8} {k:Nat} (h:uJ (b.drop k)=none):gH b k=none:=by unfold gH;rw[h];rfl
theorem vR {b p t:List UInt8} {k:Nat} (h:uJ (b.drop k)=some (p,t)) (hc:fE b (b.length-t.length)=false):gH b k=none:=by
 unfold gH;rw[h];show(if fE b (b.length-t.length)=true then _ else _)=_;rw[hc];rfl
theorem Hc {b p t:List UInt8} {k:Nat} (h:uJ (b.drop k)=some (p,t)) (hc:fE b (b.length-t.length)=true) (he:lQ p=none):gH b k=none:=by
 unfold gH;rw[h];show(if fE b (b.length-t.length)=true then _ else _)=_;rw[if_pos hc,he];rfl
theorem In {b p t:List UInt8} {k:Nat} {u:cm} (h:uJ (b.drop k)=some (p,t)) (hc:fE b (b.length-t.length)=true) (he:lQ p=some u):gH b k=some (u,b.length-t.length+8):=by
 unfold gH;rw[h];show(if fE b (b.length-t.length)=true then _ else _)=_;rw[if_pos hc,he];rfl
theorem Ip {b:List UInt8} {k:Nat} {es:List cm} (hJ:fQ b 44=(es++(fQ b k).1,(fQ b k).2)) (h:gH b k=none):fQ b 44=(es,k):=by
 rw[hJ,vL h,List.append_nil]
theorem pp:(Tryz.prog.info? 24).map (·.size)=some (vY.map U8).length:=by rw[List.length_map,Ia];exact mW
end Go.Rl
namespace Go.Rl
open Go.RowKit Go.Proofs
theorem kK:aJ Tryz.prog 126:=⟨_,Tryz.func126,by kernel_rfl,rfl⟩
theorem kO:aJ Tryz.prog 127:=⟨_,Tryz.func127,by kernel_rfl,rfl⟩
theorem tT:aJ Tryz.prog 128:=⟨_,Tryz.func128,by kernel_rfl,rfl⟩
structure jn (h g:Nat) (st:Option (List UInt8)) (ok:Bool) (w:World):Prop where
 blk:bQ h 163 [.pointer (some ⟨g,0,none⟩),B ok] w
 rd:cD g st w
 lt:g<h
theorem nr:(Tryz.prog.info? 4).map (·.size)=some 1:=by kernel_rfl
theorem jn.flag {h g:Nat} {st s1:Option (List UInt8)} {ok:Bool} {w w1:World} (hm:jn h g st ok w) (hg:w.grownBy w1 (some g)) (hr:cD g s1 w1) (b:Bool):
 ∃w2,(Instr.storeAt 4 (.pointer (some ⟨h,1,none⟩)) (B b)).run Tryz.prog w1=.ok () w2∧Mv (ln h g) w w2∧jn h g s1 b w2∧w1.grownBy w2 (some h):=by
 obtain⟨w2,h1,h2,h3,h4,h5⟩:=qa.put (P:=Tryz.prog) (t:=4) (v:=B b) hm.blk hg hr hm.lt (i:=1) nr rfl (by simp)
 exact⟨w2,h1,h2.weak (fun k hk _=>hk.elim .inr .inl),⟨h3,h4,hm.lt⟩,h5⟩
theorem jn.mv {h g:Nat} {st:Option (List UInt8)} {ok:Bool} {X:Nat→Prop} {w w':World} (hm:jn h g st ok w) (m:Mv X w w') (hX:∀k,X k→h<k):jn h g st ok w':=
 ⟨m.blk hm.blk (fun hx=>by have:=hX h hx;omega),qa.mv hm.rd m fun k hk=>by have:=hX k hk;have:=hm.lt;omega,hm.lt⟩
theorem jn.ext {h g:Nat} {st:Option (List UInt8)} {ok:Bool} {w w':World} (hm:jn h g st ok w) (e:aH w w'):jn h g st ok w':=hm.mv (Mv.of_ext (X:=fun _=>False) e) fun _ h=>h.elim
theorem jn.set {h g:Nat} {st:Option (List UInt8)} {ok:Bool} {w:World} (hm:jn h g st ok w) (b:Bool):
 ∃w2,(Instr.storeAt 4 (.pointer (some ⟨h,1,none⟩)) (B b)).run Tryz.prog w=.ok () w2∧Mv (fun k=>k=h) w w2∧jn h g st b w2:=by
 obtain⟨w2,h1,h2,h3⟩:=hm.blk.stC (P:=Tryz.prog) (t:=4) (i:=1) (v:=B b) nr rfl (by simp)
 have m:Mv (fun k=>k=h) w w2:=Mv.of_grown h2 fun k hk _=>(Option.some.inj hk).symm
 exact⟨w2,h1,m,h3,qa.mv hm.rd m fun k hk=>by have:=hm.lt;have:k=h:=hk;omega,hm.lt⟩
theorem jn.step {h g:Nat} {st s1:Option (List UInt8)} {ok:Bool} {w w1:World} (hm:jn h g st ok w) (hg:w.grownBy w1 (some g)) (hr:cD g s1 w1):jn h g s1 ok w1:=
 ⟨hm.blk.other hg (fun e=>by have:=Option.some.inj e;have:=hm.lt;omega),hr,hm.lt⟩
theorem leN {n m:Nat} (hn:n<18446744073709551616) (hm:m<18446744073709551616):UInt64.ofNat n≤UInt64.ofNat m↔n≤m:=by
 rw[UInt64.le_iff_toNat_le,UInt64.toNat_ofNat',UInt64.toNat_ofNat']
 omega
theorem Iq {w:World} {h g n0 most:Nat} {st s1:Option (List UInt8)} {ok:Bool} (hm:jn h g st ok w) (hn:n0<18446744073709551616) (hmo:most<18446744073709551616)
 (c:Calls Tryz.prog 89 #[.pointer (some ⟨g,0,none⟩)] w (bN fun r w'=>w.grownBy w' (some g)∧r=.tuple #[bW (UInt64.ofNat n0),I (if s1.isSome=true then 0 else 5)]∧cD g s1 w')):
 Calls Tryz.prog 126 #[.pointer (some ⟨h,0,none⟩),bW (UInt64.ofNat most)] w (bN fun r w'=>Mv (ln h g) w w'∧r=bW (UInt64.ofNat (if (ok&&s1.isSome&&decide (n0≤most))=true then n0 else 0))∧jn h g s1 (ok&&s1.isSome&&decide (n0≤most)) w'):=by
 refine enter (vs:=[.pointer (some ⟨h,0,none⟩),bW (UInt64.ofNat most)]) Tryz.func126 E E E ?_
 have kb:=hm.blk
 refine af (aa (ac E E (ag (ab (af ?_)))))
 rcases ok with _|_
 rotate_left
 rcases s1 with _|l1
 rotate_left
 rcases Nat.lt_or_ge most n0 with hlt|hle
 ·refine aa (ae E E (aE E E (ah E E (av (o:=0) LA E (by kernel_rfl) E) (aj E E (ai LK E (kb.cell (i:=0) E)) ?_))))
  refine an gp E E (c) ?_
  rintro v12 w12 ⟨g12,rfl,rs⟩
  have m12:=(hm.rd.rdT).kp g12
  have kb1:=kb.other g12 (fun e=>by have:=Option.some.inj e;have:=hm.lt;omega)
  obtain⟨w2,s2,m2,h2,_⟩:=hm.flag g12 rs false
  refine ae E E (aA E E (cu) (aA E E (cv) (ac E E (ac E E (ag (ab (af (aa (ae E E (ae E E (aE E E ?_)))))))))))
  refine ah E E (av (o:=1) LA E (by kernel_rfl) E) (aj E E (ai Lw E (kb1.cell (i:=1) E)) ?_)
  refine ae E E (ak E (ae E E (ak E (al E E E (dD E bo) (aq E E E (ae E E (ak E (ae E E (ak E (ae E E ?_))))))))))
  refine ak E (al E E E (d7 (mt (leN hn hmo).1 (by omega)) ww) (aq E E E (aE E E (ah E E (av (o:=1) LA E (by kernel_rfl) E) ?_))))
  refine ay E E s2 ?_
  refine ag (ab (af (af (aa (ae E E (aE E E (ah E E (av (o:=1) LA E (by kernel_rfl) E) ?_)))))))
  refine aj E E (ai Lw E (h2.blk.cell (i:=1) E)) (bw E E bB (ag (ab (bm E (af (aa (ac E E (ag ?_))))))))
  refine ab (aw (az (au E E ?_)))
  exact⟨_,rfl,m2,by simp[show ¬n0≤most by omega];rfl,by simpa [show ¬n0≤most by omega] using h2⟩
 ·refine aa (ae E E (aE E E (ah E E (av (o:=0) LA E (by kernel_rfl) E) (aj E E (ai LK E (kb.cell (i:=0) E)) ?_))))
  refine an gp E E (c) ?_
  rintro v12 w12 ⟨g12,rfl,rs⟩
  have m12:=(hm.rd.rdT).kp g12
  have kb1:=kb.other g12 (fun e=>by have:=Option.some.inj e;have:=hm.lt;omega)
  obtain⟨w2,s2,m2,h2,_⟩:=hm.flag g12 rs true
  refine ae E E (aA E E (cu) (aA E E (cv) (ac E E (ac E E (ag (ab (af (aa (ae E E (ae E E (aE E E ?_)))))))))))
  refine ah E E (av (o:=1) LA E (by kernel_rfl) E) (aj E E (ai Lw E (kb1.cell (i:=1) E)) ?_)
  refine ae E E (ak E (ae E E (ak E (al E E E (dD E bo) (aq E E E (ae E E (ak E (ae E E (ak E (ae E E ?_))))))))))
  refine ak E (al E E E (dD ((leN hn hmo).2 hle) ww) (aq E E E (aE E E (ah E E (av (o:=1) LA E (by kernel_rfl) E) ?_))))
  refine ay E E s2 ?_
  refine ag (ab (af (af (aa (ae E E (aE E E (ah E E (av (o:=1) LA E (by kernel_rfl) E) ?_)))))))
  refine aj E E (ai Lw E (h2.blk.cell (i:=1) E)) (bw E E bB (ag (ab (cN E (aC (ab (af (aa (ae E E ?_)))))))))
  refine ac E E (ag (ab (aw (au E E ?_))))
  exact⟨_,rfl,m2,by simp[hle],by simpa [hle] using h2⟩
 ·refine aa (ae E E (aE E E (ah E E (av (o:=0) LA E (by kernel_rfl) E) (aj E E (ai LK E (kb.cell (i:=0) E)) ?_))))
  refine an gp E E (c) ?_
  rintro v12 w12 ⟨g12,rfl,rs⟩
  have m12:=(hm.rd.rdT).kp g12
  have kb1:=kb.other g12 (fun e=>by have:=Option.some.inj e;have:=hm.lt;omega)
  obtain⟨w2,s2,m2,h2,_⟩:=hm.flag g12 rs false
  refine ae E E (aA E E (cu) (aA E E (cv) (ac E E (ac E E (ag (ab (af (aa (ae E E (ae E E (aE E E ?_)))))))))))
  refine ah E E (av (o:=1) LA E (by kernel_rfl) E) (aj E E (ai Lw E (kb1.cell (i:=1) E)) ?_)
  refine ae E E (am E E E (am E E E (aI E E E (ae E E (am E E E (am E E E (am E E E (aI E E E (aE E E ?_)))))))))
  refine ah E E (av (o:=1) LA E (by kernel_rfl) E) ?_
  refine ay E E s2 ?_
  refine ag (ab (af (af (aa (ae E E (aE E E (ah E E (av (o:=1) LA E (by kernel_rfl) E) ?_)))))))
  refine aj E E (ai Lw E (h2.blk.cell (i:=1) E)) (bw E E bB (ag (ab (bm E (af (aa (ac E E (ag ?_))))))))
  refine ab (aw (az (au E E ?_)))
  exact⟨_,rfl,m2,rfl,h2⟩
 ·refine aa (ae E E (aE E E (ah E E (av (o:=0) LA E (by kernel_rfl) E) (aj E E (ai LK E (kb.cell (i:=0) E)) ?_))))
  refine an gp E E (c) ?_
  rintro v12 w12 ⟨g12,rfl,rs⟩
  have m12:=(hm.rd.rdT).kp g12
  have kb1:=kb.other g12 (fun e=>by have:=Option.some.inj e;have:=hm.lt;omega)
  obtain⟨w2,s2,m2,h2,_⟩:=hm.flag g12 rs false
  refine ae E E (aA E E (cu) (aA E E (cv) (ac E E (ac E E (ag (ab (af (aa (ae E E (ae E E (aE E E ?_)))))))))))
  refine ah E E (av (o:=1) LA E (by kernel_rfl) E) (aj E E (ai Lw E (kb1.cell (i:=1) E)) ?_)
  refine ae E E (ak E (ae E E (ak E (al E E E (d7 (by decide) bo) (aq E E E (ae E E (am E E E (am E E E ?_))))))))
  refine am E E E (aI E E E (aE E E (ah E E (av (o:=1) LA E (by kernel_rfl) E) ?_)))
  refine ay E E s2 ?_
  refine ag (ab (af (af (aa (ae E E (aE E E (ah E E (av (o:=1) LA E (by kernel_rfl) E) ?_)))))))
  refine aj E E (ai Lw E (h2.blk.cell (i:=1) E)) (bw E E bB (ag (ab (bm E (af (aa (ac E E (ag ?_))))))))
  refine ab (aw (az (au E E ?_)))
  exact⟨_,rfl,m2,rfl,h2⟩
theorem oP (st:Option (List UInt8)) (ok:Bool) {most:Nat} (hmo:most<18446744073709551616):∃n s1 ok1,JR (qD most) st ok n s1 ok1∧n≤most∧(∀k,vX k st→vX k s1)∧∀{w:World} {h g:Nat},jn h g st ok w→
 Calls Tryz.prog 126 #[.pointer (some ⟨h,0,none⟩),bW (UInt64.ofNat most)] w (bN fun r w'=>Mv (ln h g) w w'∧r=bW (UInt64.ofNat n)∧jn h g s1 ok1 w'):=by
 obtain⟨n0,s1,q,hn,c⟩:=JI st
 refine⟨_,s1,_,?_,?_,fun k hk=>q.atM uP.le hk,fun hm=>Iq hm hn hmo (c hm.rd)⟩
 ·have q':st.bind gx=s1.map fun t=>(n0,t):=q
  have e:st.bind (qD most)=(st.bind gx).bind fun p=>if p.1≤most then some p else none:=by cases st<;>rfl
  cases s1 with
  |none=>exact⟨by rw[e,q'];cases ok<;>rfl,fun h=>by simp at h⟩
  |some l1=>
   by_cases hle:n0≤most
   ·refine⟨?_,fun h=>?_⟩
    ·rw[e,q'];simp[hle]
    ·rw[e,q',if_pos h];simp[hle]
   ·refine⟨?_,fun h=>?_⟩
    ·rw[e,q'];simp[hle]
    ·simp[hle] at h
 ·split
  ·rename_i h
   simp only[Bool.and_eq_true,decide_eq_true_eq] at h
   exact h.2
  ·exact Nat.zero_le _
theorem Ir {w:World} {h g:Nat} {n:Int} {st s1:Option (List UInt8)} {ok:Bool} (hm:jn h g st ok w)
 (c:Calls Tryz.prog 158 #[.pointer (some ⟨g,0,none⟩)] w (bN fun r w'=>w.grownBy w' (some g)∧r=.tuple #[I n,I (if s1.isSome=true then 0 else 5)]∧cD g s1 w')):
 Calls Tryz.prog 127 #[.pointer (some ⟨h,0,none⟩)] w (bN fun r w'=>Mv (ln h g) w w'∧r=I n∧jn h g s1 (ok&&s1.isSome) w'):=by
 refine enter (vs:=[.pointer (some ⟨h,0,none⟩)]) Tryz.func127 E E E ?_
 have kb:=hm.blk
 refine af (aa (ac E E (ag (ab (af ?_)))))
 rcases ok with _|_
 rotate_left
 ·refine aa (ae E E (aE E E (ah E E (av (o:=0) LA E (by kernel_rfl) E) (aj E E (ai LK E (kb.cell (i:=0) E)) ?_))))
  refine an xk E E (c) ?_
  rintro v10 w10 ⟨g10,rfl,rs⟩
  have m10:=(hm.rd.rdT).kp g10
  have kb1:=kb.other g10 (fun e=>by have:=Option.some.inj e;have:=hm.lt;omega)
  obtain⟨w2,s2,m2,h2,_⟩:=hm.flag g10 rs s1.isSome
  refine ae E E (aA E E (cu) (aA E E (cv) (ac E E (ac E E (ag (ab (af (aa (ae E E (ae E E (aE E E ?_)))))))))))
  refine ah E E (av (o:=1) LA E (by kernel_rfl) E) (aj E E (ai Lw E (kb1.cell (i:=1) E)) ?_)
  refine ae E E (ak E (ae E E (ak E (al (r:=B s1.isSome) E E E (Gu) (aq E E E (aE E E (ah E E (av (o:=1) LA E (by kernel_rfl) E) ?_)))))))
  refine ay E E s2 ?_
  refine ag (ab (af (aa (ae E E (ac E E (ag (ab (aw (au E E ?_)))))))))
  exact⟨_,rfl,m2,rfl,by simpa using h2⟩
 ·refine aa (ae E E (aE E E (ah E E (av (o:=0) LA E (by kernel_rfl) E) (aj E E (ai LK E (kb.cell (i:=0) E)) ?_))))
  refine an xk E E (c) ?_
  rintro v10 w10 ⟨g10,rfl,rs⟩
  have m10:=(hm.rd.rdT).kp g10
  have kb1:=kb.other g10 (fun e=>by have:=Option.some.inj e;have:=hm.lt;omega)
  obtain⟨w2,s2,m2,h2,_⟩:=hm.flag g10 rs false
  refine ae E E (aA E E (cu) (aA E E (cv) (ac E E (ac E E (ag (ab (af (aa (ae E E (ae E E (aE E E ?_)))))))))))
  refine ah E E (av (o:=1) LA E (by kernel_rfl) E) (aj E E (ai Lw E (kb1.cell (i:=1) E)) ?_)
  refine ae E E (am E E E (am E E E (aI E E E (aE E E (ah E E (av (o:=1) LA E (by kernel_rfl) E) ?_)))))
  refine ay E E s2 ?_
  refine ag (ab (af (aa (ae E E (ac E E (ag (ab (aw (au E E ?_)))))))))
  exact⟨_,rfl,m2,rfl,h2⟩
theorem oQ (st:Option (List UInt8)) (ok:Bool):∃n s1 ok1,JR qh st ok n s1 ok1∧kY n∧(∀k,vX k st→vX k s1)∧∀{w:World} {h g:Nat},jn h g st ok w→
 Calls Tryz.prog 127 #[.pointer (some ⟨h,0,none⟩)] w (bN fun r w'=>Mv (ln h g) w w'∧r=I n∧jn h g s1 ok1 w'):=by
 obtain⟨n,s1,q,hn,c⟩:=JJ st
 exact⟨n,s1,_,JR.of_rdE q,hn,fun k hk=>q.atM fW.le hk,fun hm=>Ir hm (c hm.rd)⟩
theorem It {w:World} {h g:Nat} {q:eW} {st s1:Option (List UInt8)} {ok:Bool} (hm:jn h g st ok w)
 (c:∀{w:World},cD g st w→Calls Tryz.prog 159 #[.pointer (some ⟨g,0,none⟩)] w (bN fun r w'=>w.grownBy w' (some g)∧BQ w.heap.size q (if s1.isSome=true then 0 else 5) r w'∧cD g s1 w')):
 Calls Tryz.prog 128 #[.pointer (some ⟨h,0,none⟩)] w (bN fun r w'=>Mv (ln h g) w w'∧sm w.heap.size q r w'∧jn h g s1 (ok&&s1.isSome) w'):=by
 refine enter (vs:=[.pointer (some ⟨h,0,none⟩)]) Tryz.func128 E E E ?_
 have hlt:=hm.blk.lt
 refine af ?_
 rcases ok with _|_
 rotate_left
 ·refine aa ?_
  obtain⟨g2,w2,hr2,l2,x2,k2⟩:=a9 (P:=Tryz.prog) (w:=w) (t:=46) (z:=.agg #[B false,.slice none 0 0,.slice none 0 0]) (l:=[B false,.slice none 0 0,.slice none 0 0]) (by kernel_rfl) rfl
  refine aS E hr2 ?_
  have hm2:=hm.ext x2
  refine ag (ab (af (aa (ae E E (aE E E (ah E E (av (o:=0) LA E (by kernel_rfl) E) ?_))))))
  refine aj E E (ai LK E (x2.cell_some (hm.blk.cell (i:=0) E))) (an xj E E ((c hm2.rd)) ?_)
  rintro v10 w10 ⟨g10,⟨x,y,rfl,rq⟩,rs⟩
  have m10:=(hm2.rd.rdT).kp g10
  have hm10:=hm2.step g10 rs
  obtain⟨x',y',eq',hx,hy⟩:=lK rq.rp
  cases eq'
  have k210:=k2.other g10 (fun e=>by have:=Option.some.inj e;have:=hm.lt;have:=k2.lt;omega)
  refine ae E E (aA E E (cu) (aA E E (cv) ?_))
  obtain⟨g3,w3,hr3,l3,x3,k3⟩:=a9 (P:=Tryz.prog) (w:=w10) (t:=46) (z:=.agg #[B false,.slice none 0 0,.slice none 0 0]) (l:=[B false,.slice none 0 0,.slice none 0 0]) (by kernel_rfl) rfl
  refine aS E hr3 ?_
  obtain⟨w1_9,s1_9,q1_9,k1_9⟩:=k3.stS (P:=Tryz.prog) (t:=46) (m:=[B q.1,x,y]) rfl (by kernel_rfl) (ap.cons rfl (ap.cons hx.one (ap.cons hy.one ap.nil)))
  refine ay E E s1_9 ?_
  have x1_9:=aH.of_new (x3) q1_9 l3
  refine ac E E (ag (ab (af ?_)))
  have hm3:=hm10.ext x1_9
  obtain⟨w4,s4,m4,h4⟩:=hm3.set s1.isSome
  have hn3:g3≠h:=by have:=g10.size;have:=x2.size;omega
  have hn2:g2≠h:=by omega
  have k34:=m4.blk k1_9 (fun e=>hn3 e)
  have k24:=m4.blk (k210.ext x1_9) (fun e=>hn2 e)
  have o3:ap [B q.1,x,y]:=ap.cons rfl (ap.cons hx.one (ap.cons hy.one ap.nil))
  obtain⟨w5,s5,q5,k5⟩:=k24.stS (P:=Tryz.prog) (t:=46) (m:=[B q.1,x,y]) rfl (by kernel_rfl) o3
  have m5:Mv (fun k=>k=g2) w4 w5:=Mv.of_grown q5 fun k hk _=>(Option.some.inj hk).symm
  refine aa (ae E E (ae E E (aE E E (ah E E (av (o:=1) LA E (by kernel_rfl) E) ?_))))
  refine aj E E (ai Lw E (hm3.blk.cell (i:=1) E)) (ae E E (ak E (ae E E (ak E (al (r:=B s1.isSome) E E E (Gu) ?_)))))
  refine aq E E E (aE E E (ah E E (av (o:=1) LA E (by kernel_rfl) E) ?_))
  refine ay E E s4 ?_
  refine ag (ab (af ?_))
  have mA:Mv (ln h g) w w1_9:=((Mv.of_ext x2).trans (Mv.of_grown g10 fun k hk _=>.inr (Option.some.inj hk).symm) fun _ hk _=>hk).trans (Mv.of_ext x1_9) fun _ hk _=>hk
  have mB:Mv (ln h g) w w5:=(mA.trans (m4.weak fun k hk _=>(.inl hk:ln h g k)) fun _ hk _=>hk).trans m5 fun k hk hlt=>by omega
  have sz2:=x2.size
  have szA:=mA.size
  have rA:=(rq.mv (Mv.of_ext x1_9) fun _ hk=>.inl hk).mv (m4.weak fun k hk _=>by show k<w2.heap.size;omega) fun _ hk=>.inl hk
  have g2lt:=k2.lt
  have rB:=(rA.mv (Y:=fun k=>k<w2.heap.size) (m5.weak fun k hk _=>by show k<w2.heap.size;omega) fun _ hk=>.inl hk).weak (Y:=fun k=>k<w.heap.size) fun k hk=>.inl (by show k<w2.heap.size;omega)
  refine aa ?_
  refine aj E E (k34.ld Ln E (by kernel_rfl)) ?_
  refine ay E E s5 ?_
  refine ag (ab (aw ?_))
  refine cM E E k5 Ln E (by kernel_rfl) ?_
  exact⟨_,rfl,mB,⟨x,y,rfl,rB⟩,h4.mv m5 fun k hk=>by omega⟩
 ·refine aa ?_
  obtain⟨g2,w2,hr2,l2,x2,k2⟩:=a9 (P:=Tryz.prog) (w:=w) (t:=46) (z:=.agg #[B false,.slice none 0 0,.slice none 0 0]) (l:=[B false,.slice none 0 0,.slice none 0 0]) (by kernel_rfl) rfl
  refine aS E hr2 ?_
  have hm2:=hm.ext x2
  refine ag (ab (af (aa (ae E E (aE E E (ah E E (av (o:=0) LA E (by kernel_rfl) E) ?_))))))
  refine aj E E (ai LK E (x2.cell_some (hm.blk.cell (i:=0) E))) (an xj E E ((c hm2.rd)) ?_)
  rintro v10 w10 ⟨g10,⟨x,y,rfl,rq⟩,rs⟩
  have m10:=(hm2.rd.rdT).kp g10
  have hm10:=hm2.step g10 rs
  obtain⟨x',y',eq',hx,hy⟩:=lK rq.rp
  cases eq'
  have k210:=k2.other g10 (fun e=>by have:=Option.some.inj e;have:=hm.lt;have:=k2.lt;omega)
  refine ae E E (aA E E (cu) (aA E E (cv) ?_))
  obtain⟨g3,w3,hr3,l3,x3,k3⟩:=a9 (P:=Tryz.prog) (w:=w10) (t:=46) (z:=.agg #[B false,.slice none 0 0,.slice none 0 0]) (l:=[B false,.slice none 0 0,.slice none 0 0]) (by kernel_rfl) rfl
  refine aS E hr3 ?_
  obtain⟨w1_9,s1_9,q1_9,k1_9⟩:=k3.stS (P:=Tryz.prog) (t:=46) (m:=[B q.1,x,y]) rfl (by kernel_rfl) (ap.cons rfl (ap.cons hx.one (ap.cons hy.one ap.nil)))
  refine ay E E s1_9 ?_
  have x1_9:=aH.of_new (x3) q1_9 l3
  refine ac E E (ag (ab (af ?_)))
  have hm3:=hm10.ext x1_9
  obtain⟨w4,s4,m4,h4⟩:=hm3.set false
  have hn3:g3≠h:=by have:=g10.size;have:=x2.size;omega
  have hn2:g2≠h:=by omega
  have k34:=m4.blk k1_9 (fun e=>hn3 e)
  have k24:=m4.blk (k210.ext x1_9) (fun e=>hn2 e)
  have o3:ap [B q.1,x,y]:=ap.cons rfl (ap.cons hx.one (ap.cons hy.one ap.nil))
  obtain⟨w5,s5,q5,k5⟩:=k24.stS (P:=Tryz.prog) (t:=46) (m:=[B q.1,x,y]) rfl (by kernel_rfl) o3
  have m5:Mv (fun k=>k=g2) w4 w5:=Mv.of_grown q5 fun k hk _=>(Option.some.inj hk).symm
  refine aa (ae E E (ae E E (aE E E (ah E E (av (o:=1) LA E (by kernel_rfl) E) ?_))))
  refine aj E E (ai Lw E (hm3.blk.cell (i:=1) E)) (ae E E (am E E E (am E E E (aI E E E (aE E E ?_)))))
  refine ah E E (av (o:=1) LA E (by kernel_rfl) E) ?_
  refine ay E E s4 ?_
  refine ag (ab (af ?_))
  have mA:Mv (ln h g) w w1_9:=((Mv.of_ext x2).trans (Mv.of_grown g10 fun k hk _=>.inr (Option.some.inj hk).symm) fun _ hk _=>hk).trans (Mv.of_ext x1_9) fun _ hk _=>hk
  have mB:Mv (ln h g) w w5:=(mA.trans (m4.weak fun k hk _=>(.inl hk:ln h g k)) fun _ hk _=>hk).trans m5 fun k hk hlt=>by omega
  have sz2:=x2.size
  have szA:=mA.size
  have rA:=(rq.mv (Mv.of_ext x1_9) fun _ hk=>.inl hk).mv (m4.weak fun k hk _=>by show k<w2.heap.size;omega) fun _ hk=>.inl hk
  have g2lt:=k2.lt
  have rB:=(rA.mv (Y:=fun k=>k<w2.heap.size) (m5.weak fun k hk _=>by show k<w2.heap.size;omega) fun _ hk=>.inl hk).weak (Y:=fun k=>k<w.heap.size) fun k hk=>.inl (by show k<w2.heap.size;omega)
  refine aa ?_
  refine aj E E (k34.ld Ln E (by kernel_rfl)) ?_
  refine ay E E s5 ?_
  refine ag (ab (aw ?_))
  refine cM E E k5 Ln E (by kernel_rfl) ?_
  exact⟨_,rfl,mB,⟨x,y,rfl,rB⟩,h4.mv m5 fun k hk=>by omega⟩
theorem zA (st:Option (List UInt8)) (ok:Bool) (hl:Df st):∃q s1 ok1,JR nQ st ok q s1 ok1∧(∀k,vX k st→vX k s1)∧∀{w:World} {h g:Nat},jn h g st ok w→
 Calls Tryz.prog 128 #[.pointer (some ⟨h,0,none⟩)] w (bN fun r w'=>Mv (ln h g) w w'∧sm w.heap.size q r w'∧jn h g s1 ok1 w'):=by
 obtain⟨q,s1,hq,c⟩:=JK st
 exact⟨q,s1,_,JR.of_rdE hq,fun k hk=>hq.atM uQ.le hk,fun hm=>It hm (c hl)⟩
end Go.Rl
namespace Go.Rl
open Go.RowKit Go.Proofs
theorem pq:aJ Tryz.prog 129:=⟨_,Tryz.func129,by kernel_rfl,rfl⟩
structure FL {α:Type} (f:List UInt8→Option (α×List UInt8)) (ok:Bool) (X:Option (List α×List UInt8)) (so:Option (List UInt8)) (oko:Bool) (k:Nat) (ps:List α):Prop where
 t:oko=true→ok=true∧so.isSome=true∧X=so.bind fun l=>(cR f k l).map fun p=>(ps++p.1,p.2)
 f:oko=false→(ok&&X.isSome)=false
section
variable {α:Type} {f:List UInt8→Option (α×List UInt8)} {ok oko okE:Bool} {X:Option (List α×List UInt8)} {st so s0 sE:Option (List UInt8)} {k N most:Nat} {ps:List α} {m:α}
theorem FL.start (hU:JR (qD most) st ok N s0 oko):FL f ok (st.bind (nN most f)) s0 oko N []:=by
 have e:st.bind (nN most f)=(st.bind (qD most)).bind fun p=>cR f p.1 p.2:=by cases st<;>rfl
 refine⟨fun h=>?_,fun h=>?_⟩
 ·obtain⟨h1,h2⟩:=hU.ok_le h
  refine⟨h1,h2,?_⟩
  rw[e,hU.val h]
  cases s0 with
  |none=>rfl
  |some l=>show cR f N l=(cR f N l).map fun p=>([]++p.1,p.2);cases cR f N l<;>rfl
 ·have hi:=hU.iff
  rw[h] at hi
  rw[e]
  cases ok with
  |false=>rfl
  |true=>
   simp only[Bool.true_and] at hi⊢
   have:st.bind (qD most)=none:=Option.not_isSome_iff_eq_none.1 (by rw[←hi];simp)
   rw[this];rfl
theorem FL.step (h:FL f ok X so true (k+1) ps) (q:JR f so true m sE okE):FL f ok X sE okE k (ps++[m]):=by
 obtain⟨h1,h2,h3⟩:=h.t rfl
 refine⟨fun e=>⟨h1,(q.ok_le e).2,Ev h3 (q.val e)⟩,fun e=>?_⟩
 have hi:=q.iff
 rw[e] at hi
 simp only[Bool.true_and] at hi
 have hn:so.bind f=none:=Option.not_isSome_iff_eq_none.1 (by rw[←hi];simp)
 have hX:X=none:=by
  rw[h3]
  cases so with
  |none=>rfl
  |some l=>
   have hl:f l=none:=hn
   show(cR f (k+1) l).map _=none
   have:cR f (k+1) l=none:=by simp only[cR,hl,Option.bind_none]
   rw[this];rfl
 rw[hX];cases ok<;>rfl
theorem FL.jr {g:List UInt8→Option (List α×List UInt8)} (h:FL f ok (st.bind g) so oko k ps) (hk:oko=true→k=0):JR g st ok ps so oko:=by
 cases oko with
 |false=>exact⟨(h.f rfl).symm,fun e=>by cases e⟩
 |true=>
  obtain⟨h1,h2,h3⟩:=h.t rfl
  obtain rfl:=hk rfl
  cases so with
  |none=>cases h2
  |some l=>
   have e:st.bind g=some (ps,l):=by rw[h3];simp[cR]
   exact⟨by rw[e,h1];rfl,fun _=>e⟩
end
theorem Iu {so sA sB sC sD sE:Option (List UInt8)} {ok okA mH okC okD okE:Bool} {n1 n2 n3 n4:Int} {q:eW} (q1:JR qh so ok n1 sA okA) (q2:JR qh sA okA n2 sB mH) (q3:JR qh sB mH n3 sC okC) (q4:JR qh sC okC n4 sD okD) (q5:JR nQ sD okD q sE okE):JR yI so ok ⟨n1,n2,n3,n4,q⟩ sE okE:=
 JR.bind (g:=fun a l=>(qh l).bind fun b=>(qh b.2).bind fun c=>(qh c.2).bind fun d=>(nQ d.2).bind fun e=>some ((⟨a,b.1,c.1,d.1,e.1⟩:cp),e.2)) q1
  (JR.bind (g:=fun b l=>(qh l).bind fun c=>(qh c.2).bind fun d=>(nQ d.2).bind fun e=>some ((⟨n1,b,c.1,d.1,e.1⟩:cp),e.2)) q2
    (JR.bind (g:=fun c l=>(qh l).bind fun d=>(nQ d.2).bind fun e=>some ((⟨n1,n2,c,d.1,e.1⟩:cp),e.2)) q3
      (JR.bind (g:=fun d l=>(nQ l).bind fun e=>some ((⟨n1,n2,n3,d,e.1⟩:cp),e.2)) q4 (q5.map fun e=>(⟨n1,n2,n3,n4,e⟩:cp)))))
theorem sm.stableX {b:Nat} {q:eW} {X:Nat→Prop} (hX:∀k,X k→k<b):cr (Mv X) (sm b q):=fun _ _ _ ⟨x,y,h,h2⟩ hm=>⟨x,y,h,h2.mv (hm.weak fun j hj _=>hX j hj) fun _ hk=>.inl hk⟩
theorem sm.up {b c:Nat} {q:eW} {v:Value} {w:World} (hc:b≤c) (h:sm c q v w):sm b q v w:=by
 obtain⟨x,y,h1,h2⟩:=h
 exact⟨x,y,h1,h2.weak fun j hj=>.inl (by show j<c;omega)⟩
theorem oh.stableX {α:Type} {b sz:Nat} {f:α→Dt} {l:List α} {X:Nat→Prop} (hX:∀k,X k→k<b):cr (Mv X) (oh b sz f l):=fun _ _ _ ⟨cs,h1,h2,h3,h4⟩ hm=>
 ⟨cs,h1.mv hm fun k hk hx=>by have:=h2 k hk;have:=hX k hx;omega,h2,h3,aN.mv (hm.weak fun j hj _=>hX j hj) (fun _ hk=>.inl hk) h4⟩
theorem jn.stableZ {h g:Nat} {st:Option (List UInt8)} {ok:Bool}:dF (jn h g st ok):=fun _ _ hm hx=>hm.ext hx
theorem gQ {k:Nat} (hk:k<18446744073709551616):(0:UInt64)<UInt64.ofNat k↔0<k:=by
 rw[UInt64.lt_iff_toNat_lt,UInt64.toNat_ofNat',show(0:UInt64).toNat=0 from rfl]
 omega
theorem tW {k:Nat} (hk:k+1<18446744073709551616):UInt64.ofNat (k+1)-1=UInt64.ofNat k:=by
 have hkn:(UInt64.ofNat (k+1)).toNat=k+1:=by rw[UInt64.toNat_ofNat'];omega
 refine UInt64.toNat_inj.1 ?_
 rw[UInt64.toNat_sub_of_le _ _ (UInt64.le_iff_toNat_le.2 (by rw[hkn];show 1≤_;omega)),hkn,UInt64.toNat_ofNat',show(1:UInt64).toNat=1 from rfl]
 omega
theorem pr {w:World} {h g:Nat} {st:Option (List UInt8)} {ok:Bool} (hm:jn h g st ok w) (hl:Df st):
 Calls Tryz.prog 129 #[.pointer (some ⟨h,0,none⟩)] w (bN fun r w'=>Mv (ln h g) w w'∧∃ps s1 ok1,bZ (fun k=>k<w.heap.size) w' (fL ps) [r]∧r.oneCell'=true∧jn h g s1 ok1 w'∧JR gP st ok ps s1 ok1∧∀k,vX k st→vX k s1):=by
 refine enter (vs:=[.pointer (some ⟨h,0,none⟩)]) Tryz.func129 E E E ?_
 have hlt:=hm.blk.lt
 have hgh:=hm.lt
 have hX:∀k,ln h g k→k<w.heap.size:=fun k hk=>by rcases hk with rfl|rfl<;>omega
 obtain⟨N,s0,ok0,qU,hN,aU,cU⟩:=oP st ok (most:=1048576) (by omega)
 refine af (aa (ac E E (ag (ab (af (aa (ac E E (ag (ab (af (af (aa (ae E E (an kK E E ((cU hm)) ?_))))))))))))))
 rintro v7 w7 ⟨m7,rfl,hm7⟩
 have m7:=m7
 refine ac E E (ag (ab (aG ?_)))
 refine tK (fun(k:Nat) (v:Value) (so:Option (List UInt8)) (oko:Bool) (ps:List cp)=>[(0,.pointer (some ⟨h,0,none⟩)),(3,v),(4,bW (UInt64.ofNat k))]) (fun(k:Nat) (v:Value) (so:Option (List UInt8)) (oko:Bool) (ps:List cp) w'=>Mv (ln h g) w w'∧jn h g so oko w'∧iD 187 7 w.heap.size bK ps v w'∧FL yI ok (st.bind gP) so oko k ps∧k+ps.length≤1048576∧∀j,vX j st→vX j so) (fun(k:Nat) (v:Value) (so:Option (List UInt8)) (oko:Bool) (ps:List cp)=>k) (N) (.slice none 0 0) (s0) (ok0) ([]) ⟨rfl,rfl,rfl,trivial⟩ ⟨m7,hm7,iD.nil _,FL.start qU,by simpa using hN,aU⟩ ?_
 rintro k v so oko ps wL ⟨mL,hmL,oL,hF,hk,aL⟩
 refine af (af ?_)
 have szL:=mL.size
 have hvo:v.oneCell'=true:=by obtain⟨_,_,_,rfl⟩:=oL.isS;rfl
 rcases Nat.eq_zero_or_pos k with h0|h0
 rotate_left
 rcases oko with _|_
 rotate_left
 ·refine aa (ae E E (al (v:=bW 0) E E E (dD ((gQ (by omega)).2 h0) cX) (ae E E (ak E (ae E E (ak E (aE E E ?_)))))))
  refine ak E (ah E E (av (o:=1) LA E (by kernel_rfl) E) (ak E (aj E E (ai Lw E (hmL.blk.cell (i:=1) E)) ?_)))
  refine aq E E E (ag (ab (bm E (aC (ab (af (aG (af ?_))))))))
  obtain⟨k',rfl⟩:∃k',k=k'+1:=⟨k-1,by omega⟩
  obtain⟨n1,sA,okA,q1,i1,a1,c1⟩:=oQ so true
  obtain⟨n2,sB,mH,q2,i2,a2,c2⟩:=oQ sA okA
  obtain⟨n3,sC,okC,q3,i3,a3,c3⟩:=oQ sB mH
  obtain⟨n4,sD,okD,q4,i4,a4,c4⟩:=oQ sC okC
  obtain⟨q,sE,okE,q5,a5,c5⟩:=zA sD okD (a4 _ (a3 _ (a2 _ (a1 _ (aL _ hl)))))
  have qM:=Iu q1 q2 q3 q4 q5
  refine aa (ae E E (an kO E E ((c1 hmL)) ?_))
  rintro v19 w19 ⟨m19,rfl,hm19⟩
  have m19:=m19
  refine ae E E (an kO E E ((c2 hm19)) ?_)
  rintro v21 w21 ⟨m21,rfl,hm21⟩
  have m21:=m21
  refine ae E E (an kO E E ((c3 hm21)) ?_)
  rintro v23 w23 ⟨m23,rfl,hm23⟩
  have m23:=m23
  refine ae E E (an kO E E ((c4 hm23)) ?_)
  rintro v25 w25 ⟨m25,rfl,hm25⟩
  have m25:=m25
  have m4:Mv (ln h g) wL w25:=((m19.trans m21 fun _ h _=>h).trans m23 fun _ h _=>h).trans m25 fun _ h _=>h
  refine bC (vs:=[(0,I n1),(1,I n2),(2,I n3),(3,I n4)]) (r:=.agg #[I n1,I n2,I n3,I n4]) E E (run_build _ _ _ _ (by kernel_rfl)) ?_
  obtain⟨g5,w5,hr5,l5,x5,k5⟩:=a9 (P:=Tryz.prog) (w:=w25) (t:=185) (z:=.agg #[I 0,I 0,I 0,I 0]) (l:=[I 0,I 0,I 0,I 0]) (by kernel_rfl) rfl
  refine aS E hr5 ?_
  obtain⟨wd,sd,qd,kd⟩:=k5.stS (P:=Tryz.prog) (t:=185) (m:=[I n1,I n2,I n3,I n4]) rfl (by kernel_rfl) (ap.cons rfl (ap.cons rfl (ap.cons rfl (ap.cons rfl ap.nil))))
  refine ay E E sd ?_
  have xd:=aH.of_new x5 qd l5
  refine ag (ab ?_)
  have hmd:=hm25.ext xd
  have mLd:Mv (ln h g) wL wd:=m4.trans (Mv.of_ext xd) fun _ h _=>h
  have szd:=mLd.size
  have hXd:∀k,ln h g k→k<wd.heap.size:=fun k hk=>by have:=hX k hk;omega
  have nX5:¬ln h g g5:=fun hh=>by have:=m4.size;have:=hX g5 hh;omega
  refine qI 6 [0,4,27,32] (Mv (ln h g) wd) (Mv (ln h g)) true Jl (jn h g sD okD) (jt.mv _ _) (Mv.refl _ _) jn.stableZ hmd (fun _ _ _ _ h=>h.elim) (fun _=>by kernel_rfl) (by kernel_rfl) (by kernel_rfl) ?_
  refine ax rfl rfl (aQ rfl rfl (fun w hw=>(hw.blk kd nX5).ld LL rfl (by kernel_rfl)) (ax rfl rfl (tF (S:=sm wd.heap.size q) (Z':=jn h g sE okE) tT rfl (sm.stableX hXd) (jn.stableZ) rfl (fun w hw hz=>by rintro _ rfl;exact(c5 hz).mono fun _ _ ⟨r,he,h1,h2,h3⟩=>.inl ⟨r,he,h1,h2.up hw.size,h3⟩) ?_)))
  refine oX (S:=fun v w'=>∃x y,v=.agg #[I n1,I n2,I n3,I n4,B q.1,x,y]∧bZ (fun k=>k<wd.heap.size) w' (fK q) [B q.1,x,y]) (fun _ _ _ ⟨x,y,h,h2⟩ hm=>⟨x,y,h,h2.mv (hm.weak fun j hj _=>hXd j hj) fun _ hk=>.inl hk⟩) E (fun w' hw=>by
 rintro _ rfl _ ⟨x,y,rfl,h⟩
 exact⟨_,w',run_build _ _ _ _ (by kernel_rfl),aH.refl _,x,y,rfl,h⟩) ?_
  refine eG (S:=oh wd.heap.size 7 bK [⟨n1,n2,n3,n4,q⟩]) (oh.stableX hXd) E (fun w' hw=>by
 rintro _ ⟨x,y,rfl,h⟩
 exact Gw (cs:=[I n1,I n2,I n3,I n4,B q.1,x,y]) Ly xt rfl (by omega) (by omega) hw.size (ap.cons rfl (ap.cons rfl (ap.cons rfl (ap.cons rfl (ap.cons rfl (ap.cons (jL h).1 (ap.cons (jL h).2 ap.nil))))))) (Ex (m:=⟨n1,n2,n3,n4,q⟩) h) (dC _)) ?_
  refine cn ?_
  intro wg6 xg6 zg6
  rintro _ rfl
  rintro _ rfl
  rintro _ hq27
  obtain rfl:=Eq.symm hq27
  intro vg32 b32
  obtain⟨cs,hcs,hown,h1cs,hall⟩:=b32
  have mAll:Mv (ln h g) wL wg6:=mLd.trans xg6 fun _ hj _=>hj
  have oG:=oL.mv mAll hX
  have own:∀j,v.ownBlock=some j→w.heap.size≤j∧j<wL.heap.size:=oL.lt
  have hM:=(aN.one hall).weak (Y:=fun k=>k<w.heap.size∨v.ownBlock=some k) fun j hj=>.inl (by
   rcases hj with hj|hj
   ·show j<wd.heap.size;omega
   ·have:=(own j hj).2;show j<wd.heap.size;omega)
  obtain⟨v33,w33,hr33,o33,g33⟩:=oG.app (t:=50) (ty:=50) Ly xt rfl (by omega) (by omega) hcs h1cs hM dC (by omega) (Nat.le_trans szL mAll.size)
  have m33:Mv (fun k=>v.ownBlock=some k) wg6 w33:=Mv.of_grown g33.grown fun k hk _=>hk
  have h33:jn h g sE okE w33:=zg6.mv m33 fun j hj=>by have:=own j hj;omega
  refine aT E E hr33 ?_
  refine ac E E (ag (aW (ab (aa (ae E E (al (v:=bW 1) (r:=bW (UInt64.ofNat k')) E E E ((by rw[←tW (k:=k') (by omega)];exact dR)) ?_))))))
  refine ac E E (ag ?_)
  refine qV (k') (v33) (sE) (okE) (ps++[⟨n1,n2,n3,n4,q⟩]) ⟨rfl,rfl,rfl,trivial⟩ ⟨(mL.trans mAll fun _ hj _=>hj).trans m33 fun j hj hlt=>by have:=(own j hj).1;omega,h33,o33,hF.step qM,by simp;omega,fun j hj=>a5 _ (a4 _ (a3 _ (a2 _ (a1 _ (aL _ hj)))))⟩ (by omega)
 ·refine aa (ae E E (al (v:=bW 0) E E E (d7 (mt (gQ (by omega)).1 (by omega)) cX) (ae E E (am E E E (am E E E ?_)))))
  refine am E E E (am E E E (aI E E E (ag (ab (cN E (bc (aK (aK (bf (ab (af (aa (ae E E (ac E E (ag (ab ?_))))))))))))))))
  refine aw (au E E ?_)
  exact⟨_,rfl,mL,ps,so,oko,oL.rpx dC (by omega),hvo,hmL,hF.jr (fun _=>h0),aL⟩
 ·refine aa (ae E E (al (v:=bW 0) E E E (dD ((gQ (by omega)).2 h0) cX) (ae E E (ak E (ae E E (ak E (aE E E ?_)))))))
  refine ak E (ah E E (av (o:=1) LA E (by kernel_rfl) E) (ak E (aj E E (ai Lw E (hmL.blk.cell (i:=1) E)) ?_)))
  refine aq E E E (ag (ab (cN E (bc (aK (aK (bf (ab (af (aa (ae E E (ac E E (ag (ab (aw (au E E ?_))))))))))))))))
  exact⟨_,rfl,mL,ps,so,false,oL.rpx dC (by omega),hvo,hmL,hF.jr (fun h=>by cases h),aL⟩
end Go.Rl
namespace Go.Rl
open Go.RowKit Go.Proofs
theorem Iv:aJ Tryz.prog 91:=⟨_,Tryz.func91,by kernel_rfl,rfl⟩
theorem J9 {so sA sB sC:Option (List UInt8)} {ok okA mH okC:Bool} {n1 n2:Int} {q:eW} (q1:JR qh so ok n1 sA okA) (q2:JR qh sA okA n2 sB mH) (q3:JR nQ sB mH q sC okC):JR zR so ok ⟨n1,n2,q⟩ sC okC:=
 JR.bind (g:=fun a l=>(qh l).bind fun b=>(nQ b.2).bind fun c=>some ((⟨a,b.1,c.1⟩:bj),c.2)) q1
  (JR.bind (g:=fun b l=>(nQ l).bind fun c=>some ((⟨n1,b,c.1⟩:bj),c.2)) q2 (q3.map fun c=>(⟨n1,n2,c⟩:bj)))
theorem Hd {so sA sB sC sD:Option (List UInt8)} {ok okA mH okC okD:Bool} {n:Int} {nb:Nat} {q:eW} {ps:List cp} (q1:JR qh so ok n sA okA) (q2:JR (qD 1) sA okA nb sB mH) (q3:JR nQ sB mH q sC okC) (q4:JR gP sC okC ps sD okD):JR Dp so ok ⟨n,cg nb,q,ps⟩ sD okD:=
 JR.bind (g:=fun a l=>(qD 1 l).bind fun b=>(nQ b.2).bind fun c=>(gP c.2).bind fun d=>some ((⟨a,cg b.1,c.1,d.1⟩:eB),d.2)) q1
  (JR.bind (g:=fun b l=>(nQ l).bind fun c=>(gP c.2).bind fun d=>some ((⟨n,cg b,c.1,d.1⟩:eB),d.2)) q2
    (JR.bind (g:=fun c l=>(gP l).bind fun d=>some ((⟨n,cg nb,c,d.1⟩:eB),d.2)) q3 (q4.map fun d=>(⟨n,cg nb,q,d⟩:eB))))
theorem zB {so sA sB sC sD:Option (List UInt8)} {ok okA mH okC okD:Bool} {ds:List bj} {nb:Nat} {ls:List eB} {ps:List cp} (q1:JR (nN 2048 zR) so ok ds sA okA) (q2:JR (qD 1) sA okA nb sB mH) (q3:JR (nN 1073741824 Dp) sB mH ls sC okC) (q4:JR gP sC okC ps sD okD):JR Fg so ok ⟨ds,.mk ls lL [] (cg nb) ps⟩ sD okD:=
 JR.bind (g:=fun a l=>(qD 1 l).bind fun b=>(nN 1073741824 Dp b.2).bind fun c=>(gP c.2).bind fun d=>some ((⟨a,.mk c.1 lL [] (cg b.1) d.1⟩:cm),d.2)) q1
  (JR.bind (g:=fun b l=>(nN 1073741824 Dp l).bind fun c=>(gP c.2).bind fun d=>some ((⟨ds,.mk c.1 lL [] (cg b) d.1⟩:cm),d.2)) q2
    (JR.bind (g:=fun c l=>(gP l).bind fun d=>some ((⟨ds,.mk c lL [] (cg nb) d.1⟩:cm),d.2)) q3 (q4.map fun d=>(⟨ds,.mk ls lL [] (cg nb) d⟩:cm))))
theorem tX {P:Program} {w:World} {t:TypeId} {x y:Operand} {n:Nat} (hn:n≤1):(bin .eql t x y (bW (UInt64.ofNat n)) (bW 1)).run P w=.ok (B (cg n)) w:=by
 rcases(by omega:n=0∨n=1) with rfl|rfl<;>exact lz
def zD (h g g3:Nat):Nat→Prop:=fun k=>ln h g k∨k=g3
theorem Iw {w:World} {h g:Nat} {st:Option (List UInt8)} {ok:Bool} (hm:jn h g st ok w) (hl:Df st):
 Calls Tryz.prog 91 #[.pointer (some ⟨h,0,none⟩)] w (bN fun r w'=>Mv (ln h g) w w'∧∃u cs s1 ok1,r=.agg cs.toArray∧bZ (fun k=>k<w.heap.size) w' (jR u) cs∧ap cs∧jn h g s1 ok1 w'∧JR Fg st ok u s1 ok1):=by
 refine enter (vs:=[.pointer (some ⟨h,0,none⟩)]) Tryz.func91 E E E ?_
 have hlt:=hm.blk.lt
 have hgh:=hm.lt
 have hX:∀k,ln h g k→k<w.heap.size:=fun k hk=>by rcases hk with rfl|rfl<;>omega
 obtain⟨N,s0,ok0,qU,hN,aU,cU⟩:=oP st ok (most:=2048) (by omega)
 refine af (aa ?_)
 obtain⟨g2,w2,hr2,l2,x2,k2⟩:=a9 (P:=Tryz.prog) (w:=w) (t:=54) (z:=.agg #[.slice none 0 0,.slice none 0 0,I 0,I 0,B false,.slice none 0 0,.slice none 0 0,.slice none 0 0,B false,.slice none 0 0]) (l:=[.slice none 0 0,.slice none 0 0,I 0,I 0,B false,.slice none 0 0,.slice none 0 0,.slice none 0 0,B false,.slice none 0 0]) (by kernel_rfl) rfl
 refine aS E hr2 (ag (ab (af (aa ?_))))
 obtain⟨g3,w3,hr3,l3,x3,k3⟩:=a9 (P:=Tryz.prog) (w:=w2) (t:=54) (z:=.agg #[.slice none 0 0,.slice none 0 0,I 0,I 0,B false,.slice none 0 0,.slice none 0 0,.slice none 0 0,B false,.slice none 0 0]) (l:=[.slice none 0 0,.slice none 0 0,I 0,I 0,B false,.slice none 0 0,.slice none 0 0,.slice none 0 0,B false,.slice none 0 0]) (by kernel_rfl) rfl
 refine aS E hr3 ?_
 have e3:=(x2.trans x3)
 have hm3:=hm.ext e3
 have k23:=k2.ext x3
 have g23:g2<g3:=by have:=k2.lt;omega
 have g3lt:=k3.lt
 have sz3:=e3.size
 have hX3:∀k,ln h g k→k<g3:=fun k hk=>by have:=hX k hk;have:=x2.size;omega
 refine ag (ab (af (af (aa (ae E E (an kK E E ((cU hm3)) ?_))))))
 rintro v8 w8 ⟨m8,rfl,hm8⟩
 have m8:=m8
 refine ac E E (ag (ab (aG ?_)))
 refine tK (fun(k:Nat) (vd:Value) (so:Option (List UInt8)) (oko:Bool) (ds:List bj)=>[(0,.pointer (some ⟨h,0,none⟩)),(2,.pointer (some ⟨g2,0,none⟩)),(3,.pointer (some ⟨g3,0,none⟩)),(4,bW (UInt64.ofNat k))]) (fun(k:Nat) (vd:Value) (so:Option (List UInt8)) (oko:Bool) (ds:List bj) w'=>Mv (zD h g g3) w3 w'∧jn h g so oko w'∧bQ g3 54 (vd::Lc) w'∧iD 48 5 w3.heap.size c9 ds vd w'∧FL zR ok (st.bind (nN 2048 zR)) so oko k ds∧k+ds.length≤2048∧∀j,vX j st→vX j so) (fun(k:Nat) (vd:Value) (so:Option (List UInt8)) (oko:Bool) (ds:List bj)=>k) (N) (.slice none 0 0) (s0) (ok0) ([]) ⟨rfl,rfl,rfl,rfl,trivial⟩ ⟨m8.weak fun _ hk _=>.inl hk,hm8,m8.blk k3 (fun hk=>by have:=hX3 _ hk;omega),iD.nil _,FL.start qU,by simpa using hN,aU⟩ ?_
 rintro k vd so oko ds wL ⟨mL,hmL,kL,oL,hF,hk,aL⟩
 refine af (af ?_)
 have szL:=mL.size
 have hvd:vd.oneCell'=true:=by obtain⟨_,_,_,rfl⟩:=oL.isS;rfl
 have k2L:=mL.blk k23 (fun hk=>hk.elim (fun hk=>by rcases hk with rfl|rfl<;>omega) (fun hk=>by omega))
 rcases Nat.eq_zero_or_pos k with h0|h0
 rotate_left
 rcases oko with _|_
 rotate_left
 ·refine aa (ae E E (al (v:=bW 0) E E E (dD ((gQ (by omega)).2 h0) cX) (ae E E (ak E (ae E E (ak E (aE E E ?_)))))))
  refine ak E (ah E E (av (o:=1) LA E (by kernel_rfl) E) (ak E (aj E E (ai Lw E (hmL.blk.cell (i:=1) E)) ?_)))
  refine aq E E E (ag (ab (bm E (aC (ab (af (aG ?_)))))))
  obtain⟨k',rfl⟩:∃k',k=k'+1:=⟨k-1,by omega⟩
  obtain⟨n1,sA,okA,q1,i1,a1,c1⟩:=oQ so true
  obtain⟨n2,sB,mH,q2,i2,a2,c2⟩:=oQ sA okA
  obtain⟨q,sC,okC,q3,a3,c3⟩:=zA sB mH (a2 _ (a1 _ (aL _ hl)))
  have qM:=J9 q1 q2 q3
  have hXL:∀k,ln h g k→k<wL.heap.size:=fun k hk=>by have:=hX k hk;omega
  refine qI 10 [0,2,3,4,20,28] (Mv (ln h g) wL) (Mv (ln h g)) true Jl (jn h g so true) (jt.mv _ _) (Mv.refl _ _) jn.stableZ hmL (fun _ _ _ _ h=>h.elim) (fun _=>by kernel_rfl) (by kernel_rfl) (by kernel_rfl) ?_
  refine aX E E (fun w hw=>av (o:=0) Lr E (by kernel_rfl) E) (aQ E E (fun w hw=>ai Lu E ((hw.blk kL (fun hk=>by have:=hX3 _ hk;omega)).cell (i:=0) E)) ?_)
  refine ax rfl rfl (tF (S:=Is (I n1)) (Z':=jn h g sA okA) kO rfl (bO.is _) (jn.stableZ) rfl (fun w hw hz=>by rintro _ rfl;exact(c1 hz).mono fun _ _ ⟨r,he,h1,h2,h3⟩=>.inl ⟨r,he,h1,h2,h3⟩) ?_)
  refine ax rfl rfl (tF (S:=Is (I n2)) (Z':=jn h g sB mH) kO rfl (bO.is _) (jn.stableZ) rfl (fun w hw hz=>by rintro _ rfl;exact(c2 hz).mono fun _ _ ⟨r,he,h1,h2,h3⟩=>.inl ⟨r,he,h1,h2,h3⟩) ?_)
  refine ax rfl rfl (tF (S:=sm wL.heap.size q) (Z':=jn h g sC okC) tT rfl (sm.stableX hXL) (jn.stableZ) rfl (fun w hw hz=>by rintro _ rfl;exact(c3 hz).mono fun _ _ ⟨r,he,h1,h2,h3⟩=>.inl ⟨r,he,h1,h2.up hw.size,h3⟩) ?_)
  refine oX (S:=fun v w'=>∃x y,v=.agg #[I n1,I n2,B q.1,x,y]∧bZ (fun k=>k<wL.heap.size) w' (fK q) [B q.1,x,y]) (fun _ _ _ ⟨x,y,h,h2⟩ hm=>⟨x,y,h,h2.mv (hm.weak fun j hj _=>hXL j hj) fun _ hk=>.inl hk⟩) E (fun w' hw=>by
 rintro _ rfl _ rfl _ ⟨x,y,rfl,h⟩
 exact⟨_,w',run_build _ _ _ _ (by kernel_rfl),aH.refl _,x,y,rfl,h⟩) ?_
  refine eG (S:=oh wL.heap.size 5 c9 [⟨n1,n2,q⟩]) (oh.stableX hXL) E (fun w' hw=>by
 rintro _ ⟨x,y,rfl,h⟩
 exact Gw (cs:=[I n1,I n2,B q.1,x,y]) Lu f9 rfl (by omega) (by omega) hw.size (ap.cons rfl (ap.cons rfl (ap.cons rfl (ap.cons (jL h).1 (ap.cons (jL h).2 ap.nil))))) (AI (d:=⟨n1,n2,q⟩) h) (ca _)) ?_
  refine cn ?_
  intro wg5 xg5 zg5
  rintro _ rfl
  rintro _ rfl
  rintro _ rfl
  rintro _ rfl
  rintro _ hq20
  obtain rfl:=Eq.symm hq20
  intro vg28 b28
  obtain⟨cs,hcs,hown,h1cs,hall⟩:=b28
  have oG:=oL.mv xg5 fun k hk=>by have:=hX k hk;omega
  have own:∀j,vd.ownBlock=some j→w3.heap.size≤j∧j<wL.heap.size:=oL.lt
  have hM:=(aN.one hall).weak (Y:=fun k=>k<w3.heap.size∨vd.ownBlock=some k) fun j hj=>.inl (by
   rcases hj with hj|hj
   ·show j<wL.heap.size;omega
   ·have:=(own j hj).2;show j<wL.heap.size;omega)
  obtain⟨v29,w29,hr29,o29,g29⟩:=oG.app (t:=41) (ty:=41) Lu f9 rfl (by omega) (by omega) hcs h1cs hM ca (by omega) (Nat.le_trans szL xg5.size)
  have m29:Mv (fun k=>vd.ownBlock=some k) wg5 w29:=Mv.of_grown g29.grown fun k hk _=>hk
  have h29:jn h g sC okC w29:=zg5.mv m29 fun j hj=>by have:=own j hj;omega
  have k29:=m29.blk (xg5.blk kL (fun hk=>by have:=hX3 _ hk;omega)) (fun e=>by have:=own g3 e;omega)
  have hv29:v29.oneCell'=true:=by obtain⟨_,_,_,rfl⟩:=o29.isS;rfl
  obtain⟨wz,sz,qz,kz⟩:=k29.stC (P:=Tryz.prog) (t:=41) (i:=0) (v:=v29) (by kernel_rfl) hv29 (by simp)
  have mz:Mv (fun k=>k=g3) w29 wz:=Mv.of_grown qz fun k hk _=>(Option.some.inj hk).symm
  refine aT E E hr29 ?_
  refine ah E E (av (o:=0) Lr E (by kernel_rfl) E) ?_
  refine ay E E sz ?_
  refine ag (aW (ab (aa (ae E E (al (v:=bW 1) (r:=bW (UInt64.ofNat k')) E E E ((by rw[←tW (k:=k') (by omega)];exact dR)) ?_)))))
  refine ac E E (ag ?_)
  refine qV (k') (v29) (sC) (okC) (ds++[⟨n1,n2,q⟩]) ⟨rfl,rfl,rfl,rfl,trivial⟩ ⟨((mL.trans (xg5.weak fun j hj _=>.inl hj) fun _ hj _=>hj).trans m29 fun j hj hlt=>by have:=(own j hj).1;omega).trans (mz.weak fun j hj _=>.inr hj) fun _ hj _=>hj,h29.mv mz fun j hj=>by have:=hX3 h (.inl E);omega,kz,o29.mv mz (fun j hj=>by omega),hF.step qM,by simp;omega,fun j hj=>a3 _ (a2 _ (a1 _ (aL _ hj)))⟩ (by omega)
 ·have hJ:=hF.jr (fun _=>h0)
  have hmL':=hmL
  refine aa (ae E E (al (v:=bW 0) E E E (d7 (mt (gQ (by omega)).1 (by omega)) cX) (ae E E (am E E E (am E E E ?_)))))
  refine am E E E (am E E E (aI E E E (ag (ab (cN E (bc (aK (aK (bf (ab (af ?_)))))))))))
  obtain⟨nb,s5,ok5,qB,hB1,aB,cB⟩:=oP so oko (most:=1) (by omega)
  obtain⟨N2,s6,ok6,qU2,hN2,aU2,cU2⟩:=oP s5 ok5 (most:=1073741824) (by omega)
  refine aa (ae E E (an kK E E ((cB hmL')) ?_))
  rintro v32 w32 ⟨m32,rfl,hm32⟩
  have m32:=m32
  have k32:=m32.blk kL (fun hk=>by have:=hX3 _ hk;omega)
  obtain⟨wb,sb,qb,kb⟩:=k32.stC (P:=Tryz.prog) (t:=4) (i:=8) (v:=B (cg nb)) nr rfl (by simp)
  have mb:Mv (fun k=>k=g3) w32 wb:=Mv.of_grown qb fun k hk _=>(Option.some.inj hk).symm
  have hmb:=hm32.mv mb fun j hj=>by have:=hX3 h (.inl rfl);omega
  have mLb:Mv (zD h g g3) wL wb:=(m32.weak fun j hj _=>.inl hj).trans (mb.weak fun j hj _=>.inr hj) fun _ hj _=>hj
  have hJX:∀k,zD h g g3 k→k≤g3:=fun k hk=>hk.elim (fun hk=>by have:=hX3 k hk;omega) (fun hk=>by omega)
  have oDb:=oL.mv mLb fun k hk=>by have:=hJX k hk;omega
  have k2b:=mLb.blk k2L (fun hk=>hk.elim (fun hk=>by rcases hk with rfl|rfl<;>omega) (fun hk=>by omega))
  have kb:bQ g3 54 [vd,.slice none 0 0,I 0,I 0,B false,.slice none 0 0,.slice none 0 0,.slice none 0 0,B (cg nb),.slice none 0 0] wb:=kb
  refine al (v:=bW 1) (r:=B (cg nb)) E E E ((tX hB1)) ?_
  refine ah E E (av (o:=1) Lr E (by kernel_rfl) E) ?_
  refine ah E E (cx (b:=1) (o:=7) Lk E (by kernel_rfl) E) ?_
  refine ay E E sb ?_
  refine ag (ab (af (af (aa (ae E E (an kK E E ((cU2 hmb)) ?_))))))
  rintro v37 w37 ⟨m37,rfl,hm37⟩
  have m37:=m37
  have k37:=m37.blk kb (fun hk=>by have:=hX3 _ hk;omega)
  have k2c:=m37.blk k2b (by rintro(rfl|rfl)<;>omega)
  have oDc:=oDb.mv m37 fun k hk=>by have:=hX k hk;omega
  have szb:=mLb.size
  have sz37:=m37.size
  refine ac E E (ag (ab (aG ?_)))
  refine tK (fun(k2:Nat) (vl:Value) (so2:Option (List UInt8)) (oko2:Bool) (ls:List eB)=>[(0,.pointer (some ⟨h,0,none⟩)),(2,.pointer (some ⟨g2,0,none⟩)),(3,.pointer (some ⟨g3,0,none⟩)),(5,bW (UInt64.ofNat k2))]) (fun(k2:Nat) (vl:Value) (so2:Option (List UInt8)) (oko2:Bool) (ls:List eB) w'=>Mv (zD h g g3) w37 w'∧jn h g so2 oko2 w'∧bQ g3 54 [vd,vl,I 0,I 0,B false,.slice none 0 0,.slice none 0 0,.slice none 0 0,B (cg nb),.slice none 0 0] w'∧iD 173 6 w37.heap.size cP ls vl w'∧FL Dp ok5 (s5.bind (nN 1073741824 Dp)) so2 oko2 k2 ls∧k2+ls.length≤1073741824∧∀j,vX j st→vX j so2) (fun(k2:Nat) (vl:Value) (so2:Option (List UInt8)) (oko2:Bool) (ls:List eB)=>k2) (N2) (.slice none 0 0) (s6) (ok6) ([]) ⟨rfl,rfl,rfl,rfl,trivial⟩ ⟨Mv.refl _ _,hm37,k37,iD.nil _,FL.start qU2,by simpa using hN2,fun j hj=>aU2 _ (aB _ (aL _ hj))⟩ ?_
  rintro k2 vl so2 oko2 ls wM ⟨mM,hmM,kM,oM,hF2,hk2,aM⟩
  refine af (af ?_)
  have szM:=mM.size
  have hvl:vl.oneCell'=true:=by obtain⟨_,_,_,rfl⟩:=oM.isS;rfl
  have k2M:=mM.blk k2c (fun hk=>hk.elim (fun hk=>by rcases hk with rfl|rfl<;>omega) (fun hk=>by omega))
  have oDM:=oDc.mv mM fun k hk=>by have:=hJX k hk;omega
  rcases Nat.eq_zero_or_pos k2 with h0'|h0'
  rotate_left
  rcases oko2 with _|_
  rotate_left
  ·refine aa (ae E E (al (v:=bW 0) E E E (dD ((gQ (by omega)).2 h0') cX) (ae E E (ak E (ae E E (ak E (aE E E ?_)))))))
   refine ak E (ah E E (av (o:=1) LA E (by kernel_rfl) E) (ak E (aj E E (ai Lw E (hmM.blk.cell (i:=1) E)) ?_)))
   refine aq E E E (ag (ab (bm E (aC (ab (af (aG (af ?_))))))))
   obtain⟨k',rfl⟩:∃k',k2=k'+1:=⟨k2-1,by omega⟩
   obtain⟨n1,sA,okA,q1,i1,a1,c1⟩:=oQ so2 true
   obtain⟨nc,sB,mH,q2,hc1,a2,c2⟩:=oP sA okA (most:=1) (by omega)
   obtain⟨q,sC,okC,q3,a3,c3⟩:=zA sB mH (a2 _ (a1 _ (aM _ hl)))
   refine aa (ae E E (an kO E E ((c1 hmM)) ?_))
   rintro v49 w49 ⟨m49,rfl,hm49⟩
   have m49:=m49
   refine ae E E (an kK E E ((c2 hm49)) ?_)
   rintro v51 w51 ⟨m51,rfl,hm51⟩
   have m51:=m51
   refine al (v:=bW 1) (r:=B (cg nc)) E E E ((tX hc1)) (ae E E (an tT E E ((c3 hm51)) ?_))
   rintro v54 w54 ⟨m54,⟨x,y,rfl,rq⟩,hm54⟩
   have m54:=m54
   have m3:Mv (ln h g) wM w54:=(m49.trans m51 fun _ hj _=>hj).trans m54 fun _ hj _=>hj
   have hxy:=jL rq
   refine bC (vs:=[(0,I n1),(1,B (cg nc)),(2,.agg #[B q.1,x,y])]) (r:=.agg #[I n1,B (cg nc),B q.1,x,y,.slice none 0 0]) E E (run_build _ _ _ _ (by kernel_rfl)) ?_
   obtain⟨g6,w6,hr6,l6,x6,k6⟩:=a9 (P:=Tryz.prog) (w:=w54) (t:=173) (z:=.agg #[I 0,B false,B false,.slice none 0 0,.slice none 0 0,.slice none 0 0]) (l:=[I 0,B false,B false,.slice none 0 0,.slice none 0 0,.slice none 0 0]) (by kernel_rfl) rfl
   refine aS E hr6 ?_
   obtain⟨wd,sd,qd,kd⟩:=k6.stS (P:=Tryz.prog) (t:=173) (m:=[I n1,B (cg nc),B q.1,x,y,.slice none 0 0]) rfl (by kernel_rfl) (ap.cons rfl (ap.cons rfl (ap.cons rfl (ap.cons hxy.1 (ap.cons hxy.2 (ap.cons rfl ap.nil))))))
   refine ay E E sd ?_
   have xd:=aH.of_new x6 qd l6
   have hmd:=hm54.ext xd
   have mMd:Mv (ln h g) wM wd:=m3.trans (Mv.of_ext xd) fun _ hj _=>hj
   have g6M:wM.heap.size≤g6:=by have:=m3.size;omega
   refine ag (ab (af (aa (ae E E (an pq E E ((pr hmd (a3 _ (a2 _ (a1 _ (aM _ hl)))))) ?_)))))
   rintro v57 w57 ⟨m57,ps,s4,ok4,rp57,h1p,hm57,q4,a4⟩
   have m57:=m57
   have qM:=Hd q1 q2 q3 q4
   have k6a:=m57.blk kd (fun hk=>by have:=hX _ hk;omega)
   obtain⟨we,se,qe,ke⟩:=k6a.stC (P:=Tryz.prog) (t:=50) (i:=5) (v:=v57) (by kernel_rfl) h1p (by simp)
   have me:Mv (fun k=>k=g6) w57 we:=Mv.of_grown qe fun k hk _=>(Option.some.inj hk).symm
   have ke:bQ g6 173 [I n1,B (cg nc),B q.1,x,y,v57] we:=ke
   have hme:=hm57.mv me fun j hj=>by omega
   have mMe:Mv (ln h g) wM we:=(mMd.trans m57 fun _ hj _=>hj).trans me fun j hj hlt=>by omega
   have k3e:=mMe.blk kM (fun hk=>by have:=hX3 _ hk;omega)
   have oMe:=oM.mv mMe fun k hk=>by have:=hX k hk;omega
   have own:∀j,vl.ownBlock=some j→w37.heap.size≤j∧j<wM.heap.size:=oM.lt
   have szd:=mMd.size
   have sz54:=m51.size
   have sz49:=m49.size
   have g6d:g6<wd.heap.size:=kd.lt
   have rq0:=(rq.weak (Y:=fun k=>k<wM.heap.size∨k=g6) fun j hj=>hj.elim (fun hj=>.inl (by show j<w51.heap.size;omega)) (fun hj=>.inr (by omega))).ext xd
   have rqe:bZ (fun k=>k<wM.heap.size) we (fK q) [B q.1,x,y]:=(((rq0.mv (m57.weak fun j hj _=>.inl (by have:=hX j hj;omega)) fun _ hj=>.inl hj).mv (me.weak fun j hj _=>.inr hj) fun _ hj=>.inl hj).weak fun _ hj=>.inl (.inl hj))
   have rpe:bZ (fun k=>k<wM.heap.size) we (fL ps) [v57]:=(rp57.mv (me.weak fun j hj _=>by show j<wd.heap.size;omega) fun _ hj=>.inl hj).weak fun j hj=>.inl (by show j<wd.heap.size;omega)
   have h1L:ap [I n1,B (cg nc),B q.1,x,y,v57]:=ap.cons rfl (ap.cons rfl (ap.cons rfl (ap.cons hxy.1 (ap.cons hxy.2 (ap.cons h1p ap.nil)))))
   obtain⟨x63,w63,v64,w64,hr63,hr64,o64,m64,n64⟩:=oMe.push (ty:=42) (t:=42) Lz AJ rfl (by omega) (by omega) (by omega) h1L ((AK (l:=⟨n1,cg nc,q,ps⟩) rqe rpe).weak fun j hj=>.inl (by
    rcases hj with hj|hj
    ·show j<wM.heap.size;omega
    ·have:=(own j hj).2;show j<wM.heap.size;omega)) cY (by omega) (Nat.le_trans szM mMe.size)
   have k3f:=m64.blk k3e (fun e=>by have:=own g3 e;omega)
   have hv64:v64.oneCell'=true:=by obtain⟨_,_,_,rfl⟩:=o64.isS;rfl
   obtain⟨wz,sz,qz,kz⟩:=k3f.stC (P:=Tryz.prog) (t:=42) (i:=1) (v:=v64) (by kernel_rfl) hv64 (by simp)
   have mz:Mv (fun k=>k=g3) w64 wz:=Mv.of_grown qz fun k hk _=>(Option.some.inj hk).symm
   refine ah E E (av (o:=5) LB E (by kernel_rfl) E) ?_
   refine ay E E se ?_
   refine ag (ab (aa ?_))
   refine ah E E (av (o:=1) Lr E (by kernel_rfl) E) ?_
   refine ah E E (cx (b:=1) (o:=0) Lk E (by kernel_rfl) E) ?_
   refine aj E E (ai Lz E (k3e.cell (i:=1) E)) ?_
   refine aj E E (ke.ld LB E (by kernel_rfl)) ?_
   refine aF (vs:=[(0,.agg #[I n1,B (cg nc),B q.1,x,y,v57])]) E E hr63 ?_
   refine aT E E hr64 ?_
   refine ah E E (av (o:=1) Lr E (by kernel_rfl) E) ?_
   refine ah E E (cx (b:=1) (o:=0) Lk E (by kernel_rfl) E) ?_
   refine ay E E sz ?_
   refine ag (aW (ab (aa (ae E E (al (v:=bW 1) (r:=bW (UInt64.ofNat k')) E E E ((by rw[←tW (k:=k') (by omega)];exact dR)) ?_)))))
   refine ac E E (ag ?_)
   refine qV (k') (v64) (s4) (ok4) (ls++[⟨n1,cg nc,q,ps⟩]) ⟨rfl,rfl,rfl,rfl,trivial⟩ ⟨((mM.trans (mMe.weak fun j hj _=>.inl hj) fun _ hj _=>hj).trans m64 fun j hj hlt=>by have:=(own j hj).1;omega).trans (mz.weak fun j hj _=>.inr hj) fun _ hj _=>hj,(hme.mv m64 fun j hj=>by have:=own j hj;omega).mv mz fun j hj=>by have:=hX3 h (.inl E);omega,kz,o64.mv mz (fun j hj=>by omega),hF2.step qM,by simp;omega,fun j hj=>a4 _ (a3 _ (a2 _ (a1 _ (aM _ hj))))⟩ (by omega)
  ·have hJ2:=hF2.jr (fun _=>h0')
   have hmM':=hmM
   refine aa (ae E E (al (v:=bW 0) E E E (d7 (mt (gQ (by omega)).1 (by omega)) cX) (ae E E (am E E E (am E E E ?_)))))
   refine am E E E (am E E E (aI E E E (ag (ab (cN E (bc (aK (aK (bf (ab (af (aa (ae E E (an pq E E ((pr hmM' (aM _ hl))) ?_))))))))))))))
   rintro v68 w68 ⟨m68,ps,s7,ok7,rp68,h1p,hm68,q7,a7⟩
   have m68:=m68
   have k68:=m68.blk kM (fun hk=>by have:=hX3 _ hk;omega)
   obtain⟨wy,sy,qy,ky⟩:=k68.stC (P:=Tryz.prog) (t:=50) (i:=9) (v:=v68) (by kernel_rfl) h1p (by simp)
   have my:Mv (fun k=>k=g3) w68 wy:=Mv.of_grown qy fun k hk _=>(Option.some.inj hk).symm
   have ky:bQ g3 54 [vd,vl,I 0,I 0,B false,.slice none 0 0,.slice none 0 0,.slice none 0 0,B (cg nb),v68] wy:=ky
   have hO:ap [vd,vl,I 0,I 0,B false,.slice none 0 0,.slice none 0 0,.slice none 0 0,B (cg nb),v68]:=ap.cons hvd (ap.cons hvl (ap.cons rfl (ap.cons rfl (ap.cons rfl (ap.cons rfl (ap.cons rfl (ap.cons rfl (ap.cons rfl (ap.cons h1p ap.nil)))))))))
   have mMy:Mv (zD h g g3) wM wy:=(m68.weak fun j hj _=>.inl hj).trans (my.weak fun j hj _=>.inr hj) fun _ hj _=>hj
   have k2y:=mMy.blk k2M (fun hk=>hk.elim (fun hk=>by rcases hk with rfl|rfl<;>omega) (fun hk=>by omega))
   obtain⟨wR,sR,qR,kR⟩:=k2y.stS (P:=Tryz.prog) (t:=54) (m:=[vd,vl,I 0,I 0,B false,.slice none 0 0,.slice none 0 0,.slice none 0 0,B (cg nb),v68]) rfl (by kernel_rfl) hO
   have mR:Mv (fun k=>k=g2) wy wR:=Mv.of_grown qR fun k hk _=>(Option.some.inj hk).symm
   have mw3:Mv (fun k=>zD h g g3 k∨k=g2) w3 wR:=(((((mL.trans mLb fun _ hj _=>hj).trans (m37.weak fun j hj _=>(.inl hj:zD h g g3 j)) fun _ hj _=>hj).trans mM fun _ hj _=>hj).trans mMy fun _ hj _=>hj).weak fun j hj _=>.inl hj).trans (mR.weak fun j hj _=>.inr hj) fun _ hj _=>hj
   have hfin:Mv (ln h g) w wR:=(Mv.of_ext e3).trans mw3 fun j hj hlt=>by
    rcases hj with(hj|hj)|hj
    ·exact hj
    ·omega
    ·omega
   have oDR:=(oDM.mv mMy fun k hk=>by have:=hJX k hk;omega).mv mR fun k hk=>by omega
   have oMR:=(oM.mv mMy fun k hk=>by have:=hJX k hk;omega).mv mR fun k hk=>by omega
   have rpR:bZ (fun k=>k<w.heap.size) wR (fL ps) [v68]:=((rp68.mv (my.weak fun j hj _=>by show j<wM.heap.size;omega) fun _ hj=>.inl hj).mv (mR.weak fun j hj _=>by show j<wM.heap.size;omega) fun _ hj=>.inl hj).weak fun j hj=>.inl (by show j<wM.heap.size;omega)
   have hrp:=pl (u:=⟨ds,.mk ls lL [] (cg nb) ps⟩) ((oDR.rpx ca (by omega)).weak (Y:=fun k=>k<w.heap.size) fun j hj=>.inl (by show j<w3.heap.size;omega)) (fH (ls:=ls) (d:=lL) (ks:=[]) (em:=cg nb) (ps:=ps) ((oMR.rpx cY (by omega)).weak (Y:=fun k=>k<w.heap.size) fun j hj=>.inl (by show j<w37.heap.size;omega)) rj nK rpR)
   refine ah E E (av (o:=1) Lr E (by kernel_rfl) E) ?_
   refine ah E E (cx (b:=1) (o:=8) Lk E (by kernel_rfl) E) ?_
   refine ay E E sy ?_
   refine ag (ab (af (aa ?_)))
   refine aj E E (ky.ld Lr E (by kernel_rfl)) ?_
   refine ay E E sR ?_
   refine ag (ab (aw ?_))
   refine cM E E kR Lr E (by kernel_rfl) ?_
   exact⟨_,rfl,hfin,⟨ds,.mk ls lL [] (cg nb) ps⟩,_,s7,ok7,rfl,hrp,hO,(hm68.mv my fun j hj=>by have:=hX3 h (.inl rfl);omega).mv mR fun j hj=>by omega,zB hJ qB hJ2 q7⟩
  ·obtain⟨oko2,ho2⟩:∃o:Bool,o=false:=⟨_,rfl⟩
   have hJ2:=hF2.jr (fun hk=>by cases hk)
   have hmM':=hmM
   rw[←ho2] at hJ2 hmM'
   refine aa (ae E E (al (v:=bW 0) E E E (dD ((gQ (by omega)).2 h0') cX) (ae E E (ak E (ae E E (ak E (aE E E ?_)))))))
   refine ak E (ah E E (av (o:=1) LA E (by kernel_rfl) E) (ak E (aj E E (ai Lw E (hmM.blk.cell (i:=1) E)) ?_)))
   refine aq E E E (ag (ab (cN E (bc (aK (aK (bf (ab (af (aa (ae E E (an pq E E ((pr hmM' (aM _ hl))) ?_))))))))))))
   rintro v68 w68 ⟨m68,ps,s7,ok7,rp68,h1p,hm68,q7,a7⟩
   have m68:=m68
   have k68:=m68.blk kM (fun hk=>by have:=hX3 _ hk;omega)
   obtain⟨wy,sy,qy,ky⟩:=k68.stC (P:=Tryz.prog) (t:=50) (i:=9) (v:=v68) (by kernel_rfl) h1p (by simp)
   have my:Mv (fun k=>k=g3) w68 wy:=Mv.of_grown qy fun k hk _=>(Option.some.inj hk).symm
   have ky:bQ g3 54 [vd,vl,I 0,I 0,B false,.slice none 0 0,.slice none 0 0,.slice none 0 0,B (cg nb),v68] wy:=ky
   have hO:ap [vd,vl,I 0,I 0,B false,.slice none 0 0,.slice none 0 0,.slice none 0 0,B (cg nb),v68]:=ap.cons hvd (ap.cons hvl (ap.cons rfl (ap.cons rfl (ap.cons rfl (ap.cons rfl (ap.cons rfl (ap.cons rfl (ap.cons rfl (ap.cons h1p ap.nil)))))))))
   have mMy:Mv (zD h g g3) wM wy:=(m68.weak fun j hj _=>.inl hj).trans (my.weak fun j hj _=>.inr hj) fun _ hj _=>hj
   have k2y:=mMy.blk k2M (fun hk=>hk.elim (fun hk=>by rcases hk with rfl|rfl<;>omega) (fun hk=>by omega))
   obtain⟨wR,sR,qR,kR⟩:=k2y.stS (P:=Tryz.prog) (t:=54) (m:=[vd,vl,I 0,I 0,B false,.slice none 0 0,.slice none 0 0,.slice none 0 0,B (cg nb),v68]) rfl (by kernel_rfl) hO
   have mR:Mv (fun k=>k=g2) wy wR:=Mv.of_grown qR fun k hk _=>(Option.some.inj hk).symm
   have mw3:Mv (fun k=>zD h g g3 k∨k=g2) w3 wR:=(((((mL.trans mLb fun _ hj _=>hj).trans (m37.weak fun j hj _=>(.inl hj:zD h g g3 j)) fun _ hj _=>hj).trans mM fun _ hj _=>hj).trans mMy fun _ hj _=>hj).weak fun j hj _=>.inl hj).trans (mR.weak fun j hj _=>.inr hj) fun _ hj _=>hj
   have hfin:Mv (ln h g) w wR:=(Mv.of_ext e3).trans mw3 fun j hj hlt=>by
    rcases hj with(hj|hj)|hj
    ·exact hj
    ·omega
    ·omega
   have oDR:=(oDM.mv mMy fun k hk=>by have:=hJX k hk;omega).mv mR fun k hk=>by omega
   have oMR:=(oM.mv mMy fun k hk=>by have:=hJX k hk;omega).mv mR fun k hk=>by omega
   have rpR:bZ (fun k=>k<w.heap.size) wR (fL ps) [v68]:=((rp68.mv (my.weak fun j hj _=>by show j<wM.heap.size;omega) fun _ hj=>.inl hj).mv (mR.weak fun j hj _=>by show j<wM.heap.size;omega) fun _ hj=>.inl hj).weak fun j hj=>.inl (by show j<wM.heap.size;omega)
   have hrp:=pl (u:=⟨ds,.mk ls lL [] (cg nb) ps⟩) ((oDR.rpx ca (by omega)).weak (Y:=fun k=>k<w.heap.size) fun j hj=>.inl (by show j<w3.heap.size;omega)) (fH (ls:=ls) (d:=lL) (ks:=[]) (em:=cg nb) (ps:=ps) ((oMR.rpx cY (by omega)).weak (Y:=fun k=>k<w.heap.size) fun j hj=>.inl (by show j<w37.heap.size;omega)) rj nK rpR)
   refine ah E E (av (o:=1) Lr E (by kernel_rfl) E) ?_
   refine ah E E (cx (b:=1) (o:=8) Lk E (by kernel_rfl) E) ?_
   refine ay E E sy ?_
   refine ag (ab (af (aa ?_)))
   refine aj E E (ky.ld Lr E (by kernel_rfl)) ?_
   refine ay E E sR ?_
   refine ag (ab (aw ?_))
   refine cM E E kR Lr E (by kernel_rfl) ?_
   exact⟨_,rfl,hfin,⟨ds,.mk ls lL [] (cg nb) ps⟩,_,s7,ok7,rfl,hrp,hO,(hm68.mv my fun j hj=>by have:=hX3 h (.inl rfl);omega).mv mR fun j hj=>by omega,zB hJ qB hJ2 q7⟩
 ·obtain⟨oko,ho⟩:∃o:Bool,o=false:=⟨_,rfl⟩
  have hJ:=hF.jr (fun hk=>by cases hk)
  have hmL':=hmL
  rw[←ho] at hJ hmL'
  refine aa (ae E E (al (v:=bW 0) E E E (dD ((gQ (by omega)).2 h0) cX) (ae E E (ak E (ae E E (ak E (aE E E ?_)))))))
  refine ak E (ah E E (av (o:=1) LA E (by kernel_rfl) E) (ak E (aj E E (ai Lw E (hmL.blk.cell (i:=1) E)) ?_)))
  refine aq E E E (ag (ab (cN E (bc (aK (aK (bf (ab (af ?_)))))))))
  obtain⟨nb,s5,ok5,qB,hB1,aB,cB⟩:=oP so oko (most:=1) (by omega)
  obtain⟨N2,s6,ok6,qU2,hN2,aU2,cU2⟩:=oP s5 ok5 (most:=1073741824) (by omega)
  refine aa (ae E E (an kK E E ((cB hmL')) ?_))
  rintro v32 w32 ⟨m32,rfl,hm32⟩
  have m32:=m32
  have k32:=m32.blk kL (fun hk=>by have:=hX3 _ hk;omega)
  obtain⟨wb,sb,qb,kb⟩:=k32.stC (P:=Tryz.prog) (t:=4) (i:=8) (v:=B (cg nb)) nr rfl (by simp)
  have mb:Mv (fun k=>k=g3) w32 wb:=Mv.of_grown qb fun k hk _=>(Option.some.inj hk).symm
  have hmb:=hm32.mv mb fun j hj=>by have:=hX3 h (.inl rfl);omega
  have mLb:Mv (zD h g g3) wL wb:=(m32.weak fun j hj _=>.inl hj).trans (mb.weak fun j hj _=>.inr hj) fun _ hj _=>hj
  have hJX:∀k,zD h g g3 k→k≤g3:=fun k hk=>hk.elim (fun hk=>by have:=hX3 k hk;omega) (fun hk=>by omega)
  have oDb:=oL.mv mLb fun k hk=>by have:=hJX k hk;omega
  have k2b:=mLb.blk k2L (fun hk=>hk.elim (fun hk=>by rcases hk with rfl|rfl<;>omega) (fun hk=>by omega))
  have kb:bQ g3 54 [vd,.slice none 0 0,I 0,I 0,B false,.slice none 0 0,.slice none 0 0,.slice none 0 0,B (cg nb),.slice none 0 0] wb:=kb
  refine al (v:=bW 1) (r:=B (cg nb)) E E E ((tX hB1)) ?_
  refine ah E E (av (o:=1) Lr E (by kernel_rfl) E) ?_
  refine ah E E (cx (b:=1) (o:=7) Lk E (by kernel_rfl) E) ?_
  refine ay E E sb ?_
  refine ag (ab (af (af (aa (ae E E (an kK E E ((cU2 hmb)) ?_))))))
  rintro v37 w37 ⟨m37,rfl,hm37⟩
  have m37:=m37
  have k37:=m37.blk kb (fun hk=>by have:=hX3 _ hk;omega)
  have k2c:=m37.blk k2b (by rintro(rfl|rfl)<;>omega)
  have oDc:=oDb.mv m37 fun k hk=>by have:=hX k hk;omega
  have szb:=mLb.size
  have sz37:=m37.size
  refine ac E E (ag (ab (aG ?_)))
  refine tK (fun(k2:Nat) (vl:Value) (so2:Option (List UInt8)) (oko2:Bool) (ls:List eB)=>[(0,.pointer (some ⟨h,0,none⟩)),(2,.pointer (some ⟨g2,0,none⟩)),(3,.pointer (some ⟨g3,0,none⟩)),(5,bW (UInt64.ofNat k2))]) (fun(k2:Nat) (vl:Value) (so2:Option (List UInt8)) (oko2:Bool) (ls:List eB) w'=>Mv (zD h g g3) w37 w'∧jn h g so2 oko2 w'∧bQ g3 54 [vd,vl,I 0,I 0,B false,.slice none 0 0,.slice none 0 0,.slice none 0 0,B (cg nb),.slice none 0 0] w'∧iD 173 6 w37.heap.size cP ls vl w'∧FL Dp ok5 (s5.bind (nN 1073741824 Dp)) so2 oko2 k2 ls∧k2+ls.length≤1073741824∧∀j,vX j st→vX j so2) (fun(k2:Nat) (vl:Value) (so2:Option (List UInt8)) (oko2:Bool) (ls:List eB)=>k2) (N2) (.slice none 0 0) (s6) (ok6) ([]) ⟨rfl,rfl,rfl,rfl,trivial⟩ ⟨Mv.refl _ _,hm37,k37,iD.nil _,FL.start qU2,by simpa using hN2,fun j hj=>aU2 _ (aB _ (aL _ hj))⟩ ?_
  rintro k2 vl so2 oko2 ls wM ⟨mM,hmM,kM,oM,hF2,hk2,aM⟩
  refine af (af ?_)
  have szM:=mM.size
  have hvl:vl.oneCell'=true:=by obtain⟨_,_,_,rfl⟩:=oM.isS;rfl
  have k2M:=mM.blk k2c (fun hk=>hk.elim (fun hk=>by rcases hk with rfl|rfl<;>omega) (fun hk=>by omega))
  have oDM:=oDc.mv mM fun k hk=>by have:=hJX k hk;omega
  rcases Nat.eq_zero_or_pos k2 with h0'|h0'
  rotate_left
  rcases oko2 with _|_
  rotate_left
  ·refine aa (ae E E (al (v:=bW 0) E E E (dD ((gQ (by omega)).2 h0') cX) (ae E E (ak E (ae E E (ak E (aE E E ?_)))))))
   refine ak E (ah E E (av (o:=1) LA E (by kernel_rfl) E) (ak E (aj E E (ai Lw E (hmM.blk.cell (i:=1) E)) ?_)))
   refine aq E E E (ag (ab (bm E (aC (ab (af (aG (af ?_))))))))
   obtain⟨k',rfl⟩:∃k',k2=k'+1:=⟨k2-1,by omega⟩
   obtain⟨n1,sA,okA,q1,i1,a1,c1⟩:=oQ so2 true
   obtain⟨nc,sB,mH,q2,hc1,a2,c2⟩:=oP sA okA (most:=1) (by omega)
   obtain⟨q,sC,okC,q3,a3,c3⟩:=zA sB mH (a2 _ (a1 _ (aM _ hl)))
   refine aa (ae E E (an kO E E ((c1 hmM)) ?_))
   rintro v49 w49 ⟨m49,rfl,hm49⟩
   have m49:=m49
   refine ae E E (an kK E E ((c2 hm49)) ?_)
   rintro v51 w51 ⟨m51,rfl,hm51⟩
   have m51:=m51
   refine al (v:=bW 1) (r:=B (cg nc)) E E E ((tX hc1)) (ae E E (an tT E E ((c3 hm51)) ?_))
   rintro v54 w54 ⟨m54,⟨x,y,rfl,rq⟩,hm54⟩
   have m54:=m54
   have m3:Mv (ln h g) wM w54:=(m49.trans m51 fun _ hj _=>hj).trans m54 fun _ hj _=>hj
   have hxy:=jL rq
   refine bC (vs:=[(0,I n1),(1,B (cg nc)),(2,.agg #[B q.1,x,y])]) (r:=.agg #[I n1,B (cg nc),B q.1,x,y,.slice none 0 0]) E E (run_build _ _ _ _ (by kernel_rfl)) ?_
   obtain⟨g6,w6,hr6,l6,x6,k6⟩:=a9 (P:=Tryz.prog) (w:=w54) (t:=173) (z:=.agg #[I 0,B false,B false,.slice none 0 0,.slice none 0 0,.slice none 0 0]) (l:=[I 0,B false,B false,.slice none 0 0,.slice none 0 0,.slice none 0 0]) (by kernel_rfl) rfl
   refine aS E hr6 ?_
   obtain⟨wd,sd,qd,kd⟩:=k6.stS (P:=Tryz.prog) (t:=173) (m:=[I n1,B (cg nc),B q.1,x,y,.slice none 0 0]) rfl (by kernel_rfl) (ap.cons rfl (ap.cons rfl (ap.cons rfl (ap.cons hxy.1 (ap.cons hxy.2 (ap.cons rfl ap.nil))))))
   refine ay E E sd ?_
   have xd:=aH.of_new x6 qd l6
   have hmd:=hm54.ext xd
   have mMd:Mv (ln h g) wM wd:=m3.trans (Mv.of_ext xd) fun _ hj _=>hj
   have g6M:wM.heap.size≤g6:=by have:=m3.size;omega
   refine ag (ab (af (aa (ae E E (an pq E E ((pr hmd (a3 _ (a2 _ (a1 _ (aM _ hl)))))) ?_)))))
   rintro v57 w57 ⟨m57,ps,s4,ok4,rp57,h1p,hm57,q4,a4⟩
   have m57:=m57
   have qM:=Hd q1 q2 q3 q4
   have k6a:=m57.blk kd (fun hk=>by have:=hX _ hk;omega)
   obtain⟨we,se,qe,ke⟩:=k6a.stC (P:=Tryz.prog) (t:=50) (i:=5) (v:=v57) (by kernel_rfl) h1p (by simp)
   have me:Mv (fun k=>k=g6) w57 we:=Mv.of_grown qe fun k hk _=>(Option.some.inj hk).symm
   have ke:bQ g6 173 [I n1,B (cg nc),B q.1,x,y,v57] we:=ke
   have hme:=hm57.mv me fun j hj=>by omega
   have mMe:Mv (ln h g) wM we:=(mMd.trans m57 fun _ hj _=>hj).trans me fun j hj hlt=>by omega
   have k3e:=mMe.blk kM (fun hk=>by have:=hX3 _ hk;omega)
   have oMe:=oM.mv mMe fun k hk=>by have:=hX k hk;omega
   have own:∀j,vl.ownBlock=some j→w37.heap.size≤j∧j<wM.heap.size:=oM.lt
   have szd:=mMd.size
   have sz54:=m51.size
   have sz49:=m49.size
   have g6d:g6<wd.heap.size:=kd.lt
   have rq0:=(rq.weak (Y:=fun k=>k<wM.heap.size∨k=g6) fun j hj=>hj.elim (fun hj=>.inl (by show j<w51.heap.size;omega)) (fun hj=>.inr (by omega))).ext xd
   have rqe:bZ (fun k=>k<wM.heap.size) we (fK q) [B q.1,x,y]:=(((rq0.mv (m57.weak fun j hj _=>.inl (by have:=hX j hj;omega)) fun _ hj=>.inl hj).mv (me.weak fun j hj _=>.inr hj) fun _ hj=>.inl hj).weak fun _ hj=>.inl (.inl hj))
   have rpe:bZ (fun k=>k<wM.heap.size) we (fL ps) [v57]:=(rp57.mv (me.weak fun j hj _=>by show j<wd.heap.size;omega) fun _ hj=>.inl hj).weak fun j hj=>.inl (by show j<wd.heap.size;omega)
   have h1L:ap [I n1,B (cg nc),B q.1,x,y,v57]:=ap.cons rfl (ap.cons rfl (ap.cons rfl (ap.cons hxy.1 (ap.cons hxy.2 (ap.cons h1p ap.nil)))))
   obtain⟨x63,w63,v64,w64,hr63,hr64,o64,m64,n64⟩:=oMe.push (ty:=42) (t:=42) Lz AJ rfl (by omega) (by omega) (by omega) h1L ((AK (l:=⟨n1,cg nc,q,ps⟩) rqe rpe).weak fun j hj=>.inl (by
    rcases hj with hj|hj
    ·show j<wM.heap.size;omega
    ·have:=(own j hj).2;show j<wM.heap.size;omega)) cY (by omega) (Nat.le_trans szM mMe.size)
   have k3f:=m64.blk k3e (fun e=>by have:=own g3 e;omega)
   have hv64:v64.oneCell'=true:=by obtain⟨_,_,_,rfl⟩:=o64.isS;rfl
   obtain⟨wz,sz,qz,kz⟩:=k3f.stC (P:=Tryz.prog) (t:=42) (i:=1) (v:=v64) (by kernel_rfl) hv64 (by simp)
   have mz:Mv (fun k=>k=g3) w64 wz:=Mv.of_grown qz fun k hk _=>(Option.some.inj hk).symm
   refine ah E E (av (o:=5) LB E (by kernel_rfl) E) ?_
   refine ay E E se ?_
   refine ag (ab (aa ?_))
   refine ah E E (av (o:=1) Lr E (by kernel_rfl) E) ?_
   refine ah E E (cx (b:=1) (o:=0) Lk E (by kernel_rfl) E) ?_
   refine aj E E (ai Lz E (k3e.cell (i:=1) E)) ?_
   refine aj E E (ke.ld LB E (by kernel_rfl)) ?_
   refine aF (vs:=[(0,.agg #[I n1,B (cg nc),B q.1,x,y,v57])]) E E hr63 ?_
   refine aT E E hr64 ?_
   refine ah E E (av (o:=1) Lr E (by kernel_rfl) E) ?_
   refine ah E E (cx (b:=1) (o:=0) Lk E (by kernel_rfl) E) ?_
   refine ay E E sz ?_
   refine ag (aW (ab (aa (ae E E (al (v:=bW 1) (r:=bW (UInt64.ofNat k')) E E E ((by rw[←tW (k:=k') (by omega)];exact dR)) ?_)))))
   refine ac E E (ag ?_)
   refine qV (k') (v64) (s4) (ok4) (ls++[⟨n1,cg nc,q,ps⟩]) ⟨rfl,rfl,rfl,rfl,trivial⟩ ⟨((mM.trans (mMe.weak fun j hj _=>.inl hj) fun _ hj _=>hj).trans m64 fun j hj hlt=>by have:=(own j hj).1;omega).trans (mz.weak fun j hj _=>.inr hj) fun _ hj _=>hj,(hme.mv m64 fun j hj=>by have:=own j hj;omega).mv mz fun j hj=>by have:=hX3 h (.inl E);omega,kz,o64.mv mz (fun j hj=>by omega),hF2.step qM,by simp;omega,fun j hj=>a4 _ (a3 _ (a2 _ (a1 _ (aM _ hj))))⟩ (by omega)
  ·have hJ2:=hF2.jr (fun _=>h0')
   have hmM':=hmM
   refine aa (ae E E (al (v:=bW 0) E E E (d7 (mt (gQ (by omega)).1 (by omega)) cX) (ae E E (am E E E (am E E E ?_)))))
   refine am E E E (am E E E (aI E E E (ag (ab (cN E (bc (aK (aK (bf (ab (af (aa (ae E E (an pq E E ((pr hmM' (aM _ hl))) ?_))))))))))))))
   rintro v68 w68 ⟨m68,ps,s7,ok7,rp68,h1p,hm68,q7,a7⟩
   have m68:=m68
   have k68:=m68.blk kM (fun hk=>by have:=hX3 _ hk;omega)
   obtain⟨wy,sy,qy,ky⟩:=k68.stC (P:=Tryz.prog) (t:=50) (i:=9) (v:=v68) (by kernel_rfl) h1p (by simp)
   have my:Mv (fun k=>k=g3) w68 wy:=Mv.of_grown qy fun k hk _=>(Option.some.inj hk).symm
   have ky:bQ g3 54 [vd,vl,I 0,I 0,B false,.slice none 0 0,.slice none 0 0,.slice none 0 0,B (cg nb),v68] wy:=ky
   have hO:ap [vd,vl,I 0,I 0,B false,.slice none 0 0,.slice none 0 0,.slice none 0 0,B (cg nb),v68]:=ap.cons hvd (ap.cons hvl (ap.cons rfl (ap.cons rfl (ap.cons rfl (ap.cons rfl (ap.cons rfl (ap.cons rfl (ap.cons rfl (ap.cons h1p ap.nil)))))))))
   have mMy:Mv (zD h g g3) wM wy:=(m68.weak fun j hj _=>.inl hj).trans (my.weak fun j hj _=>.inr hj) fun _ hj _=>hj
   have k2y:=mMy.blk k2M (fun hk=>hk.elim (fun hk=>by rcases hk with rfl|rfl<;>omega) (fun hk=>by omega))
   obtain⟨wR,sR,qR,kR⟩:=k2y.stS (P:=Tryz.prog) (t:=54) (m:=[vd,vl,I 0,I 0,B false,.slice none 0 0,.slice none 0 0,.slice none 0 0,B (cg nb),v68]) rfl (by kernel_rfl) hO
   have mR:Mv (fun k=>k=g2) wy wR:=Mv.of_grown qR fun k hk _=>(Option.some.inj hk).symm
   have mw3:Mv (fun k=>zD h g g3 k∨k=g2) w3 wR:=(((((mL.trans mLb fun _ hj _=>hj).trans (m37.weak fun j hj _=>(.inl hj:zD h g g3 j)) fun _ hj _=>hj).trans mM fun _ hj _=>hj).trans mMy fun _ hj _=>hj).weak fun j hj _=>.inl hj).trans (mR.weak fun j hj _=>.inr hj) fun _ hj _=>hj
   have hfin:Mv (ln h g) w wR:=(Mv.of_ext e3).trans mw3 fun j hj hlt=>by
    rcases hj with(hj|hj)|hj
    ·exact hj
    ·omega
    ·omega
   have oDR:=(oDM.mv mMy fun k hk=>by have:=hJX k hk;omega).mv mR fun k hk=>by omega
   have oMR:=(oM.mv mMy fun k hk=>by have:=hJX k hk;omega).mv mR fun k hk=>by omega
   have rpR:bZ (fun k=>k<w.heap.size) wR (fL ps) [v68]:=((rp68.mv (my.weak fun j hj _=>by show j<wM.heap.size;omega) fun _ hj=>.inl hj).mv (mR.weak fun j hj _=>by show j<wM.heap.size;omega) fun _ hj=>.inl hj).weak fun j hj=>.inl (by show j<wM.heap.size;omega)
   have hrp:=pl (u:=⟨ds,.mk ls lL [] (cg nb) ps⟩) ((oDR.rpx ca (by omega)).weak (Y:=fun k=>k<w.heap.size) fun j hj=>.inl (by show j<w3.heap.size;omega)) (fH (ls:=ls) (d:=lL) (ks:=[]) (em:=cg nb) (ps:=ps) ((oMR.rpx cY (by omega)).weak (Y:=fun k=>k<w.heap.size) fun j hj=>.inl (by show j<w37.heap.size;omega)) rj nK rpR)
   refine ah E E (av (o:=1) Lr E (by kernel_rfl) E) ?_
   refine ah E E (cx (b:=1) (o:=8) Lk E (by kernel_rfl) E) ?_
   refine ay E E sy ?_
   refine ag (ab (af (aa ?_)))
   refine aj E E (ky.ld Lr E (by kernel_rfl)) ?_
   refine ay E E sR ?_
   refine ag (ab (aw ?_))
   refine cM E E kR Lr E (by kernel_rfl) ?_
   exact⟨_,rfl,hfin,⟨ds,.mk ls lL [] (cg nb) ps⟩,_,s7,ok7,rfl,hrp,hO,(hm68.mv my fun j hj=>by have:=hX3 h (.inl rfl);omega).mv mR fun j hj=>by omega,zB hJ qB hJ2 q7⟩
  ·obtain⟨oko2,ho2⟩:∃o:Bool,o=false:=⟨_,rfl⟩
   have hJ2:=hF2.jr (fun hk=>by cases hk)
   have hmM':=hmM
   rw[←ho2] at hJ2 hmM'
   refine aa (ae E E (al (v:=bW 0) E E E (dD ((gQ (by omega)).2 h0') cX) (ae E E (ak E (ae E E (ak E (aE E E ?_)))))))
   refine ak E (ah E E (av (o:=1) LA E (by kernel_rfl) E) (ak E (aj E E (ai Lw E (hmM.blk.cell (i:=1) E)) ?_)))
   refine aq E E E (ag (ab (cN E (bc (aK (aK (bf (ab (af (aa (ae E E (an pq E E ((pr hmM' (aM _ hl))) ?_))))))))))))
   rintro v68 w68 ⟨m68,ps,s7,ok7,rp68,h1p,hm68,q7,a7⟩
   have m68:=m68
   have k68:=m68.blk kM (fun hk=>by have:=hX3 _ hk;omega)
   obtain⟨wy,sy,qy,ky⟩:=k68.stC (P:=Tryz.prog) (t:=50) (i:=9) (v:=v68) (by kernel_rfl) h1p (by simp)
   have my:Mv (fun k=>k=g3) w68 wy:=Mv.of_grown qy fun k hk _=>(Option.some.inj hk).symm
   have ky:bQ g3 54 [vd,vl,I 0,I 0,B false,.slice none 0 0,.slice none 0 0,.slice none 0 0,B (cg nb),v68] wy:=ky
   have hO:ap [vd,vl,I 0,I 0,B false,.slice none 0 0,.slice none 0 0,.slice none 0 0,B (cg nb),v68]:=ap.cons hvd (ap.cons hvl (ap.cons rfl (ap.cons rfl (ap.cons rfl (ap.cons rfl (ap.cons rfl (ap.cons rfl (ap.cons rfl (ap.cons h1p ap.nil)))))))))
   have mMy:Mv (zD h g g3) wM wy:=(m68.weak fun j hj _=>.inl hj).trans (my.weak fun j hj _=>.inr hj) fun _ hj _=>hj
   have k2y:=mMy.blk k2M (fun hk=>hk.elim (fun hk=>by rcases hk with rfl|rfl<;>omega) (fun hk=>by omega))
   obtain⟨wR,sR,qR,kR⟩:=k2y.stS (P:=Tryz.prog) (t:=54) (m:=[vd,vl,I 0,I 0,B false,.slice none 0 0,.slice none 0 0,.slice none 0 0,B (cg nb),v68]) rfl (by kernel_rfl) hO
   have mR:Mv (fun k=>k=g2) wy wR:=Mv.of_grown qR fun k hk _=>(Option.some.inj hk).symm
   have mw3:Mv (fun k=>zD h g g3 k∨k=g2) w3 wR:=(((((mL.trans mLb fun _ hj _=>hj).trans (m37.weak fun j hj _=>(.inl hj:zD h g g3 j)) fun _ hj _=>hj).trans mM fun _ hj _=>hj).trans mMy fun _ hj _=>hj).weak fun j hj _=>.inl hj).trans (mR.weak fun j hj _=>.inr hj) fun _ hj _=>hj
   have hfin:Mv (ln h g) w wR:=(Mv.of_ext e3).trans mw3 fun j hj hlt=>by
    rcases hj with(hj|hj)|hj
    ·exact hj
    ·omega
    ·omega
   have oDR:=(oDM.mv mMy fun k hk=>by have:=hJX k hk;omega).mv mR fun k hk=>by omega
   have oMR:=(oM.mv mMy fun k hk=>by have:=hJX k hk;omega).mv mR fun k hk=>by omega
   have rpR:bZ (fun k=>k<w.heap.size) wR (fL ps) [v68]:=((rp68.mv (my.weak fun j hj _=>by show j<wM.heap.size;omega) fun _ hj=>.inl hj).mv (mR.weak fun j hj _=>by show j<wM.heap.size;omega) fun _ hj=>.inl hj).weak fun j hj=>.inl (by show j<wM.heap.size;omega)
   have hrp:=pl (u:=⟨ds,.mk ls lL [] (cg nb) ps⟩) ((oDR.rpx ca (by omega)).weak (Y:=fun k=>k<w.heap.size) fun j hj=>.inl (by show j<w3.heap.size;omega)) (fH (ls:=ls) (d:=lL) (ks:=[]) (em:=cg nb) (ps:=ps) ((oMR.rpx cY (by omega)).weak (Y:=fun k=>k<w.heap.size) fun j hj=>.inl (by show j<w37.heap.size;omega)) rj nK rpR)
   refine ah E E (av (o:=1) Lr E (by kernel_rfl) E) ?_
   refine ah E E (cx (b:=1) (o:=8) Lk E (by kernel_rfl) E) ?_
   refine ay E E sy ?_
   refine ag (ab (af (aa ?_)))
   refine aj E E (ky.ld Lr E (by kernel_rfl)) ?_
   refine ay E E sR ?_
   refine ag (ab (aw ?_))
   refine cM E E kR Lr E (by kernel_rfl) ?_
   exact⟨_,rfl,hfin,⟨ds,.mk ls lL [] (cg nb) ps⟩,_,s7,ok7,rfl,hrp,hO,(hm68.mv my fun j hj=>by have:=hX3 h (.inl rfl);omega).mv mR fun j hj=>by omega,zB hJ qB hJ2 q7⟩
end Go.Rl
namespace Go.Rl
open Go.RowKit Go.Proofs
theorem Cr:aJ Tryz.prog 45:=⟨_,Tryz.func45,by kernel_rfl,rfl⟩
section
variable {P:Program} {ops:Array Oper} {Q:iq} {N:Nat} {D:List Deferred} {S:World→Prop} {fuel:Nat} {listed:Array Bool} {l:Fr} {w:World} {d:Nat} {ty:TypeId} {pos:String} {aft:Array Edge} {op:Op}
theorem Iy (i:Nat) {x:Operand} {v:Value} {j:Nat} {b:Bool} (hi:ops[i]? =some ⟨some d,.move x,ty,pos,aft,some (j,b)⟩) (hg:gv ops l j=some (.bool b)) (hx:ev l x=some v) (hB:mH ops listed i=true) (hd:Nat.blt d N=true) (hS:S w)
 (k:dh P ops Q N D S fuel (listed.setIfInBounds i true) ((d,v)::l) w):dh P ops Q N D S (fuel+1) listed l w:=fun a ha=>by
 simp only[mH,Bool.and_eq_true] at hB
 exact wpAnyH_take hi hB.1.1 hB.1.2 hB.2 (fun c a w h=>by obtain⟨h,_⟩:=h;cases h) (.inl ⟨by simp[Region.wanted,lY ha hg],fun w' _=>by simp[execOp,ha.ev hx]⟩) hS (k _ (ha.put hd v))
theorem ya (i:Nat) {j:Nat} {b b':Bool} (hi:ops[i]? =some ⟨some d,op,ty,pos,aft,some (j,b)⟩) (hg:gv ops l j=some (.bool b')) (hb:b'= !b) (hB:mH ops listed i=true) (hd:Nat.blt d N=true) (hS:S w)
 (k:dh P ops Q N D S fuel (listed.setIfInBounds i true) ((d,undef)::l) w):dh P ops Q N D S (fuel+1) listed l w:=fun a ha=>by
 simp only[mH,Bool.and_eq_true] at hB
 exact wpAnyH_take hi hB.1.1 hB.1.2 hB.2 (fun c a w h=>by obtain⟨h,_⟩:=h;cases h) (.inr ⟨by subst hb;simp[Region.wanted,lY ha hg],rfl⟩) hS (k _ (ha.put hd undef))
end
theorem zE {w:World} {g:Nat} {st:Option (List UInt8)} (hr:cD g st w):Calls Tryz.prog 92 #[.pointer (some ⟨g,0,none⟩)] w (bN fun r w'=>w=w'∧r=I (if st=some [] then 0 else 5)):=(Em hr).mono fun _ _ ⟨v,h,h1,h2⟩=>⟨v,h,h2.symm,h1⟩
theorem Ka {p:List UInt8} {u:cm} {s1:Option (List UInt8)} (hl:p.length≤7340032) (h:JR Fg (some p) true u s1 false):lQ p=none:=by
 cases he:lQ p with
 |none=>rfl
 |some e=>
  have h1:=Dq he hl
  have h2:=h.iff
  have h3:(some p).bind Fg=some (e,[]):=h1
  rw[h3] at h2
  cases h2
theorem Kd {p l:List UInt8} {u:cm} {c:UInt8} (hl:p.length≤7340032) (h:JR Fg (some p) true u (some (c::l)) true):lQ p=none:=by
 cases he:lQ p with
 |none=>rfl
 |some e=>
  have h1:=Dq he hl
  have h2:Fg p=some (u,c::l):=h.val rfl
  rw[h1] at h2
  cases h2
theorem Ke {p:List UInt8} {u:cm} (h:JR Fg (some p) true u (some []) true):sH p=some (u,[]):=J4 (h.val rfl)
theorem Cs {w:World} {p:List UInt8} {v:Value} (hv:cK p v w) (hl:p.length≤7340032):
 Calls Tryz.prog 45 #[v] w (bN fun r w'=>aH w w'∧EntQ w.heap.size p r w'):=by
 refine enter (vs:=[v]) Tryz.func45 E E E ?_
 refine af (aa ?_)
 obtain⟨g2,w2,hr2,l2,x2,k2⟩:=a9 (P:=Tryz.prog) (w:=w) (t:=54) (z:=.agg #[.slice none 0 0,.slice none 0 0,I 0,I 0,B false,.slice none 0 0,.slice none 0 0,.slice none 0 0,B false,.slice none 0 0]) (l:=[.slice none 0 0,.slice none 0 0,I 0,I 0,B false,.slice none 0 0,.slice none 0 0,.slice none 0 0,B false,.slice none 0 0]) (by kernel_rfl) rfl
 refine aS E hr2 (ac E E (ag (ab (af (aa (ae E E (an z4 E E ((z6 (hv.ext x2) (by omega))) ?_)))))))
 rintro v7 w7 ⟨x7,g,lg,rfl,hr7⟩
 refine bC (vs:=[(0,.pointer (some ⟨g,0,none⟩)),(1,B true)]) (r:=.agg #[.pointer (some ⟨g,0,none⟩),B true]) E E (run_build _ _ _ _ (by kernel_rfl)) ?_
 obtain⟨h,w9,hr9,l9,x9,k9⟩:=cq (P:=Tryz.prog) (w:=w7) (T:=163) (cs:=[.pointer (some ⟨g,0,none⟩),B true])
 refine cw E E hr9 ?_
 have hgh:g<h:=by have:=cD.lt hr7;omega
 have hm9:jn h g (some p) true w9:=⟨k9,hr7.ext x9,hgh⟩
 have g2g:g2<g:=by have:=k2.lt;omega
 refine ac rfl rfl (ag (ab (af (aa (ae rfl rfl (an Iv rfl rfl ((Iw hm9 (fun l e=>by cases e;omega))) ?_))))))
 rintro v11 w11 ⟨m11,u,cs,s1,okr,rfl,rp11,h1cs,hm11,hJ⟩
 have m11:=m11
 have e9:aH w w9:=(x2.trans x7).trans x9
 have hX:∀k,ln h g k→w2.heap.size≤k∧k<w9.heap.size:=fun k hk=>by
  have:=hm9.blk.lt
  have:=x2.size
  rcases hk with rfl|rfl<;>constructor<;>omega
 have hcs:cs.length=10:=rp11.len.trans (bG u)
 have k2y:=m11.blk ((k2.ext x7).ext x9) (fun hk=>by have:=(hX _ hk).1;have:=k2.lt;omega)
 obtain⟨g5,w5,hr5,l5,x5,k5⟩:=a9 (P:=Tryz.prog) (w:=w11) (t:=54) (z:=.agg #[.slice none 0 0,.slice none 0 0,I 0,I 0,B false,.slice none 0 0,.slice none 0 0,.slice none 0 0,B false,.slice none 0 0]) (l:=[.slice none 0 0,.slice none 0 0,I 0,I 0,B false,.slice none 0 0,.slice none 0 0,.slice none 0 0,B false,.slice none 0 0]) (by kernel_rfl) rfl
 refine aS E hr5 ?_
 obtain⟨wy,sy,qy,ky⟩:=k5.stS (P:=Tryz.prog) (t:=54) (m:=cs) (by rw[hcs];rfl) (by rw[hcs];kernel_rfl) h1cs
 refine ay E E sy ?_
 have xy:=aH.of_new x5 qy l5
 have hmy:=hm11.ext xy
 have k2y:=k2y.ext xy
 have rpy:=rp11.ext xy
 have sz9:=e9.size
 have g29:g2<w9.heap.size:=by have:=k2.lt;have:=x7.size;have:=x9.size;omega
 have m2y:Mv (ln h g) w9 wy:=m11.trans (Mv.of_ext xy) fun _ hj _=>hj
 have eY:aH w wy:=Mv.ext_from m2y e9 fun k hk=>by have:=(hX k hk).1;have:=x2.size;omega
 have bpy:=hv.ext eY
 have g25:g2<g5:=by have:=m11.size;have:=k2.lt;have:=x7.size;have:=x9.size;omega
 refine ag (ab (af ?_))
 obtain⟨vd,vl,x,y,vk,vp,rfl,n0,n1,n2,n3,n4,n5⟩:=nh rpy.rp
 rcases okr with _|_
 rotate_left
 rcases s1 with _|l1
 ·exact absurd (hJ.ok_le rfl).2 (by simp)
 rcases l1 with _|⟨c1,l1⟩
 have hE:=Ke hJ
 rcases hV:fk u
 ·have hS:Mv (fun k=>k=g2) wy wy.drew:=Mv.of_ext ((aH.refl wy).drew)
  have e11:aH wy wy.drew:=(aH.refl wy).drew
  refine fw (Mv (fun k=>k=g2) wy) 25 E (by kernel_rfl) ?_
  refine d6 0 E E (by kernel_rfl) E hS (fun w' hw'=>(hw'.blk ky (fun e=>by omega)).ld Lr E (by kernel_rfl)) ?_
  refine aO 1 (by kernel_rfl) E (ae E E (ao hS ?_))
  refine aO 2 (by kernel_rfl) E (aE E E (ao hS ?_))
  refine aO 3 (by kernel_rfl) E (ah E E (av (o:=1) LA E (by kernel_rfl) E) (ao hS ?_))
  refine aO 4 (by kernel_rfl) E (aj E E (ai Lw E ((hmy.blk.ext e11).cell (i:=1) E)) (ao hS ?_))
  refine aO 5 (by kernel_rfl) E (ae E E (ao hS ?_))
  refine aO 6 (by kernel_rfl) E (ak E (ae E E (ao hS ?_)))
  refine aO 7 (by kernel_rfl) E (ak E (aE E E (ao hS ?_)))
  refine aO 8 (by kernel_rfl) E (ak E (ah E E (av (o:=0) LA E (by kernel_rfl) E) (ao hS ?_)))
  refine aO 9 (by kernel_rfl) E (ak E (aj E E (ai LK E ((hmy.blk.ext e11).cell (i:=0) E)) (ao hS ?_)))
  refine aO 10 (by kernel_rfl) E (ak E (an rZ E E (zE (hmy.rd.ext e11)) ?_))
  rintro _ _ ⟨rfl,rfl⟩
  refine ao hS ?_
  refine aO 11 (by kernel_rfl) E (ak E (al (r:=B true) E E E Dv (ao hS ?_)))
  refine aO 12 (by kernel_rfl) E (aq E E E (ao hS ?_))
  refine aO 13 (by kernel_rfl) E (ae E E (ao hS ?_))
  refine aO 14 (by kernel_rfl) E (ak E (aj E E ((ky.ext e11).ld Lr E (by kernel_rfl)) (ao hS ?_)))
  refine aO 15 (by kernel_rfl) E (ak E (an ni E E (by have h:=nj (u:=u) (cd.ext n0 e11) (cd.ext n1 e11) (n2.ext e11) (n3.ext e11) (cd.ext n4 e11) (cd.ext n5 e11) (vP hE (by omega));rw[hV] at h;exact h) ?_))
  rintro _ w27 ⟨x27,rfl⟩
  have e11:aH wy w27:=e11.trans x27
  have hS:Mv (fun k=>k=g2) wy w27:=Mv.of_ext e11
  refine ao hS ?_
  refine aO 16 (by kernel_rfl) E (aq E E E (ao hS ?_))
  refine aO 17 (by kernel_rfl) E (ae E E (ao hS ?_))
  refine ya 18 E E E (by kernel_rfl) E hS ?_
  refine ya 20 E E E (by kernel_rfl) E hS ?_
  refine aO 19 (by kernel_rfl) E (am E E E (ao hS ?_))
  refine aO 21 (by kernel_rfl) E (am E E E (ao hS ?_))
  refine zs 22 E E E (by kernel_rfl) E hS ?_
  have k2g:=k2y.ext e11
  obtain⟨wd,sd,qd,kd⟩:=k2g.stS (P:=Tryz.prog) (t:=54) (m:=[vd,vl,I u.leaf.split.kd,I u.leaf.split.ix,B u.leaf.split.at_.1,x,y,vk,B u.leaf.empty,vp]) rfl (by kernel_rfl) h1cs
  have md:Mv (fun k=>k=g2) w27 wd:=Mv.of_grown qd fun k hk _=>(Option.some.inj hk).symm
  have hSd:Mv (fun k=>k=g2) wy wd:=(Mv.of_ext e11).trans md fun _ hj _=>hj
  have eF:aH w wd:=Mv.ext_from hSd eY (fun k hk=>by have:k=g2:=hk;omega)
  have rF:=(rpy.mv (hSd.weak fun j hj _=>by have:j=g2:=hj;show j<w9.heap.size;omega) fun _ hj=>.inl hj).weak (Y:=fun k=>k<w.heap.size) fun j hj=>.inl (by show j<w9.heap.size;omega)
  refine aO 23 (by kernel_rfl) E (ay E E sd (ao hSd ?_))
  refine aO 24 (by kernel_rfl) E (ac E E (ao hSd (fx (by kernel_rfl) ?_)))
  refine ab (aw ?_)
  refine fV E E E kd Lr E (by kernel_rfl) ?_
  exact⟨_,rfl,eF,u,_,false,rfl,rF,h1cs,(fun e=>nomatch e),fun _=>G9 hE hV⟩
 ·have hpe:fq u=p:=by have:=(vD hE).1;simpa using this.symm
  have hS:Mv (fun k=>k=g2) wy wy.drew:=Mv.of_ext ((aH.refl wy).drew)
  have e11:aH wy wy.drew:=(aH.refl wy).drew
  refine fw (Mv (fun k=>k=g2) wy) 25 E (by kernel_rfl) ?_
  refine d6 0 E E (by kernel_rfl) E hS (fun w' hw'=>(hw'.blk ky (fun e=>by omega)).ld Lr E (by kernel_rfl)) ?_
  refine aO 1 (by kernel_rfl) E (ae E E (ao hS ?_))
  refine aO 2 (by kernel_rfl) E (aE E E (ao hS ?_))
  refine aO 3 (by kernel_rfl) E (ah E E (av (o:=1) LA E (by kernel_rfl) E) (ao hS ?_))
  refine aO 4 (by kernel_rfl) E (aj E E (ai Lw E ((hmy.blk.ext e11).cell (i:=1) E)) (ao hS ?_))
  refine aO 5 (by kernel_rfl) E (ae E E (ao hS ?_))
  refine aO 6 (by kernel_rfl) E (ak E (ae E E (ao hS ?_)))
  refine aO 7 (by kernel_rfl) E (ak E (aE E E (ao hS ?_)))
  refine aO 8 (by kernel_rfl) E (ak E (ah E E (av (o:=0) LA E (by kernel_rfl) E) (ao hS ?_)))
  refine aO 9 (by kernel_rfl) E (ak E (aj E E (ai LK E ((hmy.blk.ext e11).cell (i:=0) E)) (ao hS ?_)))
  refine aO 10 (by kernel_rfl) E (ak E (an rZ E E (zE (hmy.rd.ext e11)) ?_))
  rintro _ _ ⟨rfl,rfl⟩
  refine ao hS ?_
  refine aO 11 (by kernel_rfl) E (ak E (al (r:=B true) E E E Dv (ao hS ?_)))
  refine aO 12 (by kernel_rfl) E (aq E E E (ao hS ?_))
  refine aO 13 (by kernel_rfl) E (ae E E (ao hS ?_))
  refine aO 14 (by kernel_rfl) E (ak E (aj E E ((ky.ext e11).ld Lr E (by kernel_rfl)) (ao hS ?_)))
  refine aO 15 (by kernel_rfl) E (ak E (an ni E E (by have h:=nj (u:=u) (cd.ext n0 e11) (cd.ext n1 e11) (n2.ext e11) (n3.ext e11) (cd.ext n4 e11) (cd.ext n5 e11) (vP hE (by omega));rw[hV] at h;exact h) ?_))
  rintro _ w27 ⟨x27,rfl⟩
  have e11:aH wy w27:=e11.trans x27
  have hS:Mv (fun k=>k=g2) wy w27:=Mv.of_ext e11
  refine ao hS ?_
  refine aO 16 (by kernel_rfl) E (aq E E E (ao hS ?_))
  refine aO 17 (by kernel_rfl) E (ae E E (ao hS ?_))
  refine Iy 20 E E E (by kernel_rfl) E hS ?_
  refine aO 18 (by kernel_rfl) E (ak E (aj E E ((ky.ext e11).ld Lr E (by kernel_rfl)) (ao hS ?_)))
  refine aO 19 (by kernel_rfl) E (ak E (an EQ E E (ER (u:=u) (cd.ext n0 e11) (cd.ext n1 e11) (n2.ext e11) (n3.ext e11) (cd.ext n4 e11) (cd.ext n5 e11) (vD hE).2.1 (by rw[hpe];omega)) ?_))
  rintro v31 w31 ⟨x31,b31⟩
  have e11:aH wy w31:=e11.trans x31
  have hS:Mv (fun k=>k=g2) wy w31:=Mv.of_ext e11
  refine ao hS ?_
  refine aO 21 (by kernel_rfl) E (ak E (an AO E E (by have h:=AP b31 (bpy.ext e11);rw[decide_eq_true hpe] at h;exact h) ?_))
  rintro _ w33 ⟨x33,rfl⟩
  have e11:aH wy w33:=e11.trans x33
  have hS:Mv (fun k=>k=g2) wy w33:=Mv.of_ext e11
  refine ao hS ?_
  refine Ik 22 E E E (by kernel_rfl) E hS ?_
  have k2g:=k2y.ext e11
  obtain⟨wd,sd,qd,kd⟩:=k2g.stS (P:=Tryz.prog) (t:=54) (m:=[vd,vl,I u.leaf.split.kd,I u.leaf.split.ix,B u.leaf.split.at_.1,x,y,vk,B u.leaf.empty,vp]) rfl (by kernel_rfl) h1cs
  have md:Mv (fun k=>k=g2) w33 wd:=Mv.of_grown qd fun k hk _=>(Option.some.inj hk).symm
  have hSd:Mv (fun k=>k=g2) wy wd:=(Mv.of_ext e11).trans md fun _ hj _=>hj
  have eF:aH w wd:=Mv.ext_from hSd eY (fun k hk=>by have:k=g2:=hk;omega)
  have rF:=(rpy.mv (hSd.weak fun j hj _=>by have:j=g2:=hj;show j<w9.heap.size;omega) fun _ hj=>.inl hj).weak (Y:=fun k=>k<w.heap.size) fun j hj=>.inl (by show j<w9.heap.size;omega)
  refine aO 23 (by kernel_rfl) E (ay E E sd (ao hSd ?_))
  refine aO 24 (by kernel_rfl) E (ac E E (ao hSd (fx (by kernel_rfl) ?_)))
  refine ab (aw ?_)
  refine fV E E E kd Lr E (by kernel_rfl) ?_
  exact⟨_,rfl,eF,u,_,true,rfl,rF,h1cs,(fun _=>If hE hV),fun e=>nomatch e⟩
 ·have hS:Mv (fun k=>k=g2) wy wy.drew:=Mv.of_ext ((aH.refl wy).drew)
  have e11:aH wy wy.drew:=(aH.refl wy).drew
  refine fw (Mv (fun k=>k=g2) wy) 25 E (by kernel_rfl) ?_
  refine d6 0 E E (by kernel_rfl) E hS (fun w' hw'=>(hw'.blk ky (fun e=>by omega)).ld Lr E (by kernel_rfl)) ?_
  refine aO 1 (by kernel_rfl) E (ae E E (ao hS ?_))
  refine aO 2 (by kernel_rfl) E (aE E E (ao hS ?_))
  refine aO 3 (by kernel_rfl) E (ah E E (av (o:=1) LA E (by kernel_rfl) E) (ao hS ?_))
  refine aO 4 (by kernel_rfl) E (aj E E (ai Lw E ((hmy.blk.ext e11).cell (i:=1) E)) (ao hS ?_))
  refine aO 5 (by kernel_rfl) E (ae E E (ao hS ?_))
  refine aO 6 (by kernel_rfl) E (ak E (ae E E (ao hS ?_)))
  refine aO 7 (by kernel_rfl) E (ak E (aE E E (ao hS ?_)))
  refine aO 8 (by kernel_rfl) E (ak E (ah E E (av (o:=0) LA E (by kernel_rfl) E) (ao hS ?_)))
  refine aO 9 (by kernel_rfl) E (ak E (aj E E (ai LK E ((hmy.blk.ext e11).cell (i:=0) E)) (ao hS ?_)))
  refine aO 10 (by kernel_rfl) E (ak E (an rZ E E (zE (hmy.rd.ext e11)) ?_))
  rintro _ _ ⟨rfl,rfl⟩
  refine ao hS ?_
  refine aO 11 (by kernel_rfl) E (ak E (al (r:=B false) E E E Il (ao hS ?_)))
  refine aO 12 (by kernel_rfl) E (aq E E E (ao hS ?_))
  refine aO 13 (by kernel_rfl) E (ae E E (ao hS ?_))
  refine aO 14 (by kernel_rfl) E (am E E E (ao hS ?_))
  refine aO 15 (by kernel_rfl) E (am E E E (ao hS ?_))
  refine aO 16 (by kernel_rfl) E (aI E E E (ao hS ?_))
  refine aO 17 (by kernel_rfl) E (ae E E (ao hS ?_))
  refine ya 18 E E E (by kernel_rfl) E hS ?_
  refine ya 20 E E E (by kernel_rfl) E hS ?_
  refine aO 19 (by kernel_rfl) E (am E E E (ao hS ?_))
  refine aO 21 (by kernel_rfl) E (am E E E (ao hS ?_))
  refine zs 22 E E E (by kernel_rfl) E hS ?_
  have k2g:=k2y.ext e11
  obtain⟨wd,sd,qd,kd⟩:=k2g.stS (P:=Tryz.prog) (t:=54) (m:=[vd,vl,I u.leaf.split.kd,I u.leaf.split.ix,B u.leaf.split.at_.1,x,y,vk,B u.leaf.empty,vp]) rfl (by kernel_rfl) h1cs
  have md:Mv (fun k=>k=g2) wy.drew wd:=Mv.of_grown qd fun k hk _=>(Option.some.inj hk).symm
  have hSd:Mv (fun k=>k=g2) wy wd:=(Mv.of_ext e11).trans md fun _ hj _=>hj
  have eF:aH w wd:=Mv.ext_from hSd eY (fun k hk=>by have:k=g2:=hk;omega)
  have rF:=(rpy.mv (hSd.weak fun j hj _=>by have:j=g2:=hj;show j<w9.heap.size;omega) fun _ hj=>.inl hj).weak (Y:=fun k=>k<w.heap.size) fun j hj=>.inl (by show j<w9.heap.size;omega)
  refine aO 23 (by kernel_rfl) E (ay E E sd (ao hSd ?_))
  refine aO 24 (by kernel_rfl) E (ac E E (ao hSd (fx (by kernel_rfl) ?_)))
  refine ab (aw ?_)
  refine fV E E E kd Lr E (by kernel_rfl) ?_
  exact⟨_,rfl,eF,u,_,false,rfl,rF,h1cs,(fun e=>nomatch e),fun _=>Kd hl hJ⟩
 ·have hS:Mv (fun k=>k=g2) wy wy.drew:=Mv.of_ext ((aH.refl wy).drew)
  have e11:aH wy wy.drew:=(aH.refl wy).drew
  refine fw (Mv (fun k=>k=g2) wy) 25 E (by kernel_rfl) ?_
  refine d6 0 E E (by kernel_rfl) E hS (fun w' hw'=>(hw'.blk ky (fun e=>by omega)).ld Lr E (by kernel_rfl)) ?_
  refine aO 1 (by kernel_rfl) E (ae E E (ao hS ?_))
  refine aO 2 (by kernel_rfl) E (aE E E (ao hS ?_))
  refine aO 3 (by kernel_rfl) E (ah E E (av (o:=1) LA E (by kernel_rfl) E) (ao hS ?_))
  refine aO 4 (by kernel_rfl) E (aj E E (ai Lw E ((hmy.blk.ext e11).cell (i:=1) E)) (ao hS ?_))
  refine aO 5 (by kernel_rfl) E (ae E E (ao hS ?_))
  refine aO 6 (by kernel_rfl) E (am E E E (ao hS ?_))
  refine aO 7 (by kernel_rfl) E (am E E E (ao hS ?_))
  refine aO 8 (by kernel_rfl) E (am E E E (ao hS ?_))
  refine aO 9 (by kernel_rfl) E (am E E E (ao hS ?_))
  refine aO 10 (by kernel_rfl) E (am E E E (ao hS ?_))
  refine aO 11 (by kernel_rfl) E (am E E E (ao hS ?_))
  refine aO 12 (by kernel_rfl) E (aI E E E (ao hS ?_))
  refine aO 13 (by kernel_rfl) E (ae E E (ao hS ?_))
  refine aO 14 (by kernel_rfl) E (am E E E (ao hS ?_))
  refine aO 15 (by kernel_rfl) E (am E E E (ao hS ?_))
  refine aO 16 (by kernel_rfl) E (aI E E E (ao hS ?_))
  refine aO 17 (by kernel_rfl) E (ae E E (ao hS ?_))
  refine ya 18 E E E (by kernel_rfl) E hS ?_
  refine ya 20 E E E (by kernel_rfl) E hS ?_
  refine aO 19 (by kernel_rfl) E (am E E E (ao hS ?_))
  refine aO 21 (by kernel_rfl) E (am E E E (ao hS ?_))
  refine zs 22 E E E (by kernel_rfl) E hS ?_
  have k2g:=k2y.ext e11
  obtain⟨wd,sd,qd,kd⟩:=k2g.stS (P:=Tryz.prog) (t:=54) (m:=[vd,vl,I u.leaf.split.kd,I u.leaf.split.ix,B u.leaf.split.at_.1,x,y,vk,B u.leaf.empty,vp]) rfl (by kernel_rfl) h1cs
  have md:Mv (fun k=>k=g2) wy.drew wd:=Mv.of_grown qd fun k hk _=>(Option.some.inj hk).symm
  have hSd:Mv (fun k=>k=g2) wy wd:=(Mv.of_ext e11).trans md fun _ hj _=>hj
  have eF:aH w wd:=Mv.ext_from hSd eY (fun k hk=>by have:k=g2:=hk;omega)
  have rF:=(rpy.mv (hSd.weak fun j hj _=>by have:j=g2:=hj;show j<w9.heap.size;omega) fun _ hj=>.inl hj).weak (Y:=fun k=>k<w.heap.size) fun j hj=>.inl (by show j<w9.heap.size;omega)
  refine aO 23 (by kernel_rfl) E (ay E E sd (ao hSd ?_))
  refine aO 24 (by kernel_rfl) E (ac E E (ao hSd (fx (by kernel_rfl) ?_)))
  refine ab (aw ?_)
  refine fV E E E kd Lr E (by kernel_rfl) ?_
  exact⟨_,rfl,eF,u,_,false,rfl,rF,h1cs,(fun e=>nomatch e),fun _=>Ka hl hJ⟩
end Go.Rl
namespace Go.Rl
open Go.RowKit Go.Proofs
theorem qv:aJ Tryz.prog 44:=⟨_,Tryz.func44,by kernel_rfl,rfl⟩
def vT (l:List UInt8) (r:Value) (w:World):Prop:=match uJ l with
 |some (p,t)=>∃vp,r=.tuple #[I ((l.length-t.length:Nat):Int),vp,B (decide (8≤t.length))]∧cK p vp w
 |none=>r=.tuple #[I 0,.slice none 0 0,B false]
theorem Iz {l:List UInt8} (h:gx l=none):uJ l=none:=by unfold uJ;rw[h];rfl
theorem IA {l:List UInt8} {n:Nat} (h:gx l=some (n,l.drop (uv n).length)) (hn:l.length-(uv n).length<n):uJ l=none:=by
 unfold uJ;rw[h]
 show(if n≤(l.drop (uv n).length).length then _ else _)=_
 rw[if_neg (by rw[List.length_drop];omega)]
theorem IB {l:List UInt8} {n:Nat} (h:gx l=some (n,l.drop (uv n).length)) (hn:n≤l.length-(uv n).length):uJ l=some ((l.drop (uv n).length).take n,l.drop ((uv n).length+n)):=by
 unfold uJ;rw[h]
 show(if n≤(l.drop (uv n).length).length then _ else _)=_
 rw[if_pos (by rw[List.length_drop];omega),List.drop_drop]
theorem Ct {w:World} {l:List UInt8} {v:Value} (hv:cK l v w) (hl:l.length≤4294967296):
 Calls Tryz.prog 44 #[v] w (bN fun r w'=>aH w w'∧vT l r w):=by
 refine enter (vs:=[v]) Tryz.func44 E E E ?_
 refine af (aa (ac E E (ac E E (ac E E (ag (ab (af (aa (ae E E (ae E E (aV E E (ey hv) ?_)))))))))))
 refine KA (vs:=[I (l.length:Int),I 10]) E E H2 ?_
 obtain⟨v15,p15,b15⟩:=qQ hv (hi:=min l.length 10) (by omega) .i64
 refine dm E E E E E (p15 _) ?_
 have b15:cK (l.take 10) v15 w:=by
  have e:l.take (min l.length 10)=l.take 10:=by rw[Nat.min_comm,←List.take_take,List.take_length]
  rw[e] at b15;exact b15
 refine ac E E (ag (ab (af (aa (ae E E (an z4 E E ((z6 b15 (by rw[List.length_take];omega))) ?_))))))
 rintro v17 w17 ⟨x17,g,lg,rfl,rr⟩
 refine ac E E (ag (ab (af ?_)))
 rcases hU:gx (l.take 10) with _|⟨n,t⟩
 rotate_left
 obtain⟨hs,hlen⟩:=yX hU
 have hn64:=(gn hU).2
 rcases Nat.lt_or_ge (l.length-(uv n).length) n with hlt|hge
 ·refine aa (ae E E (an gp E E ((Gm (st:=some (l.take 10)) rr hU)) ?_))
  rintro v20 w20 ⟨g16,rfl,r1⟩
  have x20:=(x17).of_new g16 lg
  refine ae E E (aA E E (cu) (aA E E (cv) (ac E E (ac E E (ag (ab (af (af (aa (ae E E (al E E E (d7 (by decide) dn) ?_)))))))))))
  refine ag (ab (cN E (aC (ab (af (aa (ae E E (aV E E (ey (b15.ext x20)) (ae E E (an xi E E ((GH r1)) ?_))))))))))
  rintro v28 _ ⟨rfl,rfl⟩
  refine al (r:=I (((uv n).length:Nat):Int)) E E E ((GI (a:=(l.take 10).length) (b:=t.length) (by rw[List.length_take];omega) (by rw[List.length_take];omega))) ?_
  have hcl:(uv n).length≤l.length:=by omega
  refine ac E E (ag (ab (af (af (aa (ae E E (ae E E (aV E E (ey (hv.ext x20)) (ae E E (al (r:=I ((l.length-(uv n).length:Nat):Int)) E E E ((by have e:((l.length-(uv n).length:Nat):Int)=(l.length:Int)-((uv n).length:Int):=(by omega);rw[e];exact bD (by omega) (by omega))) ?_))))))))))
  refine bb E E (fO Lo Lp) (al E E E (dD ((ltN (by omega) hn64).2 hlt) cX) (ag (ab (bm E ?_))))
  refine af (aa (ac E E (ac E E (ac E E (ag (ab (aw (az (ku E E E E ?_)))))))))
  exact⟨_,rfl,x20,by unfold vT;rw[IA hs hlt];exact rfl⟩
 ·refine aa (ae E E (an gp E E ((Gm (st:=some (l.take 10)) rr hU)) ?_))
  rintro v20 w20 ⟨g16,rfl,r1⟩
  have x20:=(x17).of_new g16 lg
  refine ae E E (aA E E (cu) (aA E E (cv) (ac E E (ac E E (ag (ab (af (af (aa (ae E E (al E E E (d7 (by decide) dn) ?_)))))))))))
  refine ag (ab (cN E (aC (ab (af (aa (ae E E (aV E E (ey (b15.ext x20)) (ae E E (an xi E E ((GH r1)) ?_))))))))))
  rintro v28 _ ⟨rfl,rfl⟩
  refine al (r:=I (((uv n).length:Nat):Int)) E E E ((GI (a:=(l.take 10).length) (b:=t.length) (by rw[List.length_take];omega) (by rw[List.length_take];omega))) ?_
  have hcl:(uv n).length≤l.length:=by omega
  refine ac E E (ag (ab (af (af (aa (ae E E (ae E E (aV E E (ey (hv.ext x20)) (ae E E (al (r:=I ((l.length-(uv n).length:Nat):Int)) E E E ((by have e:((l.length-(uv n).length:Nat):Int)=(l.length:Int)-((uv n).length:Int):=(by omega);rw[e];exact bD (by omega) (by omega))) ?_))))))))))
  refine bb E E (fO Lo Lp) (al E E E (d7 (mt (ltN (by omega) hn64).1 (by omega)) cX) (ag ?_))
  refine ab (cN E (aC (ab (af (aa (ae E E (ae E E (bb E E (HW Lp Lo (by omega)) ?_))))))))
  refine al (r:=I (((uv n).length+n:Nat):Int)) E E E (by have e:(((uv n).length+n:Nat):Int)=(((uv n).length:Nat):Int)+(n:Int):=(by omega);rw[e];exact aR (by omega) (by omega)) ?_
  refine ac E E (ag (ab (af ?_)))
  have hd:aH w20 w20.drew:=(aH.refl w20).drew
  obtain⟨v45,p45,b45⟩:=tg hv (lo:=(uv n).length) (hi:=(uv n).length+n) (by omega) (by omega) .i64 .i64
  refine fw (aH w20) 13 E (by kernel_rfl) ?_
  refine cF 0 E E (by kernel_rfl) E hd ?_
  refine cF 1 E E (by kernel_rfl) E hd ?_
  refine cF 2 E E (by kernel_rfl) E hd ?_
  refine cF 3 E E (by kernel_rfl) E hd ?_
  refine pj 4 E E E E E (by kernel_rfl) E hd (fun w' _=>p45 w') ?_
  refine cF 5 E E (by kernel_rfl) E hd ?_
  refine I5 6 (r:=I (l.length:Int)) E E (by kernel_rfl) E hd (fun w' hw'=>ey (hv.ext (x20.trans hw'))) ?_
  refine cF 7 E E (by kernel_rfl) E hd ?_
  refine F1 8 (r:=I ((l.length-((uv n).length+n):Nat):Int)) E E E (by kernel_rfl) E hd (fun w' _=>by
   have e:((l.length-((uv n).length+n):Nat):Int)=(l.length:Int)-(((uv n).length+n:Nat):Int):=by omega
   rw[e];exact bD (by omega) (by omega)) ?_
  refine F1 9 (r:=B (decide (((l.length-((uv n).length+n):Nat):Int)≥8))) E E E (by kernel_rfl) E hd (fun w' _=>gL) ?_
  refine aO 10 (by kernel_rfl) E (ac E E (ao hd ?_))
  refine aO 11 (by kernel_rfl) E (ac E E (ao hd ?_))
  refine aO 12 (by kernel_rfl) E (ac E E (ao hd (fx (by kernel_rfl) ?_)))
  refine ab (aw (ku E E E E ?_))
  exact⟨_,rfl,x20.drew,by
   unfold vT
   rw[IB hs hge]
   refine⟨v45,?_,?_⟩
   ·have e1:l.length-(l.drop ((uv n).length+n)).length=(uv n).length+n:=by rw[List.length_drop];omega
    have e2:decide (((l.length-((uv n).length+n):Nat):Int)≥8)=decide (8≤(l.drop ((uv n).length+n)).length):=decide_eq_decide.2 (by rw[List.length_drop];omega)
    rw[e1,e2]
   ·have e3:(l.take ((uv n).length+n)).drop (uv n).length=(l.drop (uv n).length).take n:=by rw[List.drop_take];congr 1;omega
    exact e3▸b45⟩
 ·refine aa (ae E E (an gp E E ((I6 (st:=some (l.take 10)) rr hU)) ?_))
  rintro v20 w20 ⟨g16,rfl,r1⟩
  have x20:=(x17).of_new g16 lg
  refine ae E E (aA E E (cu) (aA E E (cv) (ac E E (ac E E (ag (ab (af (af (aa (ae E E (al E E E (dD (by decide) dn) ?_)))))))))))
  refine ag (ab (bm E (af (aa (ac E E (ac E E (ac E E (ag (ab (aw (az (ku E E E E ?_))))))))))))
  exact⟨_,rfl,x20,by unfold vT;rw[Iz (yY hU)];exact rfl⟩
end Go.Rl
namespace Go.Rl
open Go.RowKit Go.Proofs
theorem pu:aJ Tryz.prog 41:=⟨_,Tryz.func41,by kernel_rfl,rfl⟩
theorem EU {b:List UInt8} {k:Nat} (hk:k+8≤b.length):fE b k=decide ((jD (b.take k)).take 8=(b.take (k+8)).drop k):=by
 unfold fE
 rw[decide_eq_true hk,Bool.true_and]
 refine decide_eq_decide.2 ?_
 have e:b.take (k+8)=b.take k++(b.take (k+8)).drop k:=by
  have h:=List.take_append_drop k (b.take (k+8))
  rw[List.take_take,Nat.min_eq_left (by omega)] at h
  exact h.symm
 unfold Bl
 constructor
 ·intro h
  rw[e] at h
  exact List.append_cancel_left h
 ·intro h
  rw[h,←e]
theorem EV {b:List UInt8} {k:Nat}:b.take k++(b.take (k+8)).drop k=b.take (k+8):=by
 have h:=List.take_append_drop k (b.take (k+8))
 rw[List.take_take,Nat.min_eq_left (by omega)] at h
 exact h
theorem px {w:World} {b:List UInt8} {v:Value} {k gh g7 g1:Nat} (hb:cK b v w) (k7:bQ g7 88 [.pointer (some ⟨gh,0,none⟩)] w) (k1:bQ g1 22 [v] w) (hh:HA gh (b.take k) (UInt64.ofNat k) w) (hk:k+8≤b.length) (hl:b.length≤4294967296) (hloc:∀A n c,v=.slice A n c→pS A gh):
 Calls Tryz.prog 41 #[I (k:Int),.pointer (some ⟨g7,0,none⟩),.pointer (some ⟨g1,0,none⟩)] w (bN fun r w'=>Mv (fun j=>j=gh) w w'∧r=B (fE b k)∧HA gh (b.take (k+8)) (UInt64.ofNat (k+8)) w'):=by
 refine enter (vs:=[I (k:Int),.pointer (some ⟨g7,0,none⟩),.pointer (some ⟨g1,0,none⟩)]) Tryz.func41 E E E ?_
 have hhl:=hh.lt
 have hh0:HA gh (b.take k) (UInt64.ofNat (b.take k).length) w:=by rw[List.length_take,Nat.min_eq_left (by omega)];exact hh
 refine af (aa (ac E E (ag (ab (af (aa ?_))))))
 refine aj E E (ai LP E k7.k0) ?_
 refine an xH E E ((xI hh0)) ?_
 rintro v8 w8 ⟨x8,rfl⟩
 obtain⟨g5,w5,hr5,l5,x5,k5⟩:=a9 (P:=Tryz.prog) (w:=w8) (t:=24) (l:=(List.replicate 32 0).map U8) li rfl
 refine aS E hr5 ?_
 obtain⟨w6,s6,q6,k6⟩:=k5.stS (P:=Tryz.prog) (t:=24) (m:=(jD (b.take k)).map U8) (by simp[dx]) (by rw[List.length_map,dx];exact mW) (iu _)
 refine ay E E s6 ?_
 have x6:=x5.of_new q6 l5
 have b32:cK (jD (b.take k)) (.slice (some ⟨g5,0,none⟩) 32 32) w6:=by
  have:=k6.bts (by rw[dx];omega)
  rwa [dx] at this
 have b8:=b32.front (k:=8) (by omega) (by omega)
 have e6:aH w w6:=x8.trans x6
 have hb6:=hb.ext e6
 obtain⟨v14,p14,b14⟩:=tg hb6 (lo:=k) (hi:=k+8) (by omega) (by omega) .i64 .i64
 have haw:zb gh v14:=by
  obtain⟨A,n,c,hveq,_⟩:=hb
  subst hveq
  intro a n' c' e he
  have h:=FC (p14 w) (hloc _ _ _ rfl) _ _ _ e a rfl
  omega
 refine ag (ab (af (bP 7 [0,1,2,15] (by kernel_rfl) (by kernel_rfl) ?_)))
 refine kA (a:=none) (b:=some (I 8)) E E E E (fun w _=>zo) ?_
 refine aQ E E (fun w' hw=>ai Lv E ((k1.ext e6).ext hw).k0) (ax E E (ax E E (aZ (r:=I ((k+8:Nat):Int)) E E E (fun w _=>by have e:((k+8:Nat):Int)=(k:Int)+8:=(by omega);rw[e];exact aR (by omega) (by omega)) ?_)))
 refine kA (a:=some (I (k:Int))) (b:=some (I ((k+8:Nat):Int))) E E E E (fun w _=>p14 w) ?_
 refine ce (S:=Is (B (fE b k))) AO (bO.is _) rfl (fun w hw=>by rintro _ rfl _ rfl;exact bN.mono (AP (b8.ext hw) (b14.ext hw)) fun v w' h=>⟨h.1,by rw[EU hk];exact h.2⟩) ?_
 refine cn ?_
 intro wg2 xg2
 rintro _ rfl
 rintro _ rfl
 rintro _ rfl
 rintro _ rfl
 refine ac E E (ag (ab (af (bP 6 [6,16,21] (by kernel_rfl) (by kernel_rfl) ?_))))
 refine aQ E E (fun w' hw=>ai LP E (((k7.ext e6).ext xg2).ext hw).k0) (aQ E E (fun w' hw=>ai Lv E (((k1.ext e6).ext xg2).ext hw).k0) ?_)
 refine ax E E (ax E E (aZ (r:=I ((k+8:Nat):Int)) E E E (fun w _=>by have e:((k+8:Nat):Int)=(k:Int)+8:=(by omega);rw[e];exact aR (by omega) (by omega)) ?_))
 refine kA (a:=some (I (k:Int))) (b:=some (I ((k+8:Nat):Int))) E E E E (fun w _=>p14 w) ?_
 refine cn ?_
 intro wg3 xg3
 rintro _ rfl
 rintro _ rfl
 rintro _ hq21
 obtain rfl:=Eq.symm hq21
 refine an f5 E E ((f6 (hh.ext ((e6.trans xg2).trans xg3)) (b14.ext (xg2.trans xg3)) fun _=>haw)) ?_
 rintro v22 w22 ⟨g22,h22⟩
 refine ag (ab (af (aa (ae E E (ac E E (ag (ab (aw (au E E ?_)))))))))
 exact⟨_,rfl,(Mv.of_ext ((e6.trans xg2).trans xg3)).trans (Mv.of_grown g22 fun j hj _=>(Option.some.inj hj).symm) fun _ h _=>h,rfl,by
  rw[EV] at h22
  have e:UInt64.ofNat k+UInt64.ofNat ((b.take (k+8)).drop k).length=UInt64.ofNat (k+8):=by
   have:((b.take (k+8)).drop k).length=8:=by rw[List.length_drop,List.length_take];omega
   rw[this,←UInt64.ofNat_add]
  rw[e] at h22
  exact h22⟩
end Go.Rl
namespace Go.Rl
open Go.RowKit Go.Proofs
theorem EW:aJ Tryz.prog 13:=⟨_,Tryz.func13,by kernel_rfl,rfl⟩
theorem IC {b:List UInt8} {k n:Nat}:b.take k++(b.take (k+n)).drop k=b.take (k+n):=by
 have h:=List.take_append_drop k (b.take (k+n))
 rw[List.take_take,Nat.min_eq_left (by omega)] at h
 exact h
theorem HA.on {g k n:Nat} {b:List UInt8} {w:World} (hk:k+n≤b.length) (h:HA g (b.take k++(b.take (k+n)).drop k) (UInt64.ofNat k+UInt64.ofNat ((b.take (k+n)).drop k).length) w):HA g (b.take (k+n)) (UInt64.ofNat (k+n)) w:=by
 rw[IC] at h
 have e:UInt64.ofNat k+UInt64.ofNat ((b.take (k+n)).drop k).length=UInt64.ofNat (k+n):=by
  have:((b.take (k+n)).drop k).length=n:=by rw[List.length_drop,List.length_take];omega
  rw[this,←UInt64.ofNat_add]
 rw[e] at h
 exact h
theorem He {b p t:List UInt8} {k:Nat} (h:uJ (b.drop k)=some (p,t)) (he:lQ p=none):gH b k=none:=by
 cases hc:fE b (b.length-t.length) with
 |false=>exact vR h hc
 |true=>exact Hc h hc he
theorem Hf {b:List UInt8} {k:Nat} (h:b.length<k+8):fE b k=false:=by
 unfold fE;rw[decide_eq_false (by omega)];rfl
theorem zF {b x:List UInt8} {v r:Value} {g:Nat} {w:World} {lo hi mx:Option Value} (hb:cK b v w) (hloc:∀A n c,v=.slice A n c→pS A g) (hrun:(Instr.sliceAt 22 v lo hi mx).run Tryz.prog w=.ok r w):0<x.length→zb g r:=by
 obtain⟨A,n,c,hveq,_⟩:=hb
 subst hveq
 intro _ a n' c' e he
 have h:=FC hrun (hloc _ _ _ rfl) _ _ _ e a rfl
 omega
theorem ID {b:List UInt8} {v:Value} {w:World} {g:Nat} (hb:cK b v w) (h0:0<b.length) (hg:w.heap.size≤g):∀A n c,v=.slice A n c→pS A g:=by
 obtain⟨A,n,c,rfl,h1,h2,h3,h4,h5⟩:=hb
 intro A' n' c' e ad hA
 cases e
 obtain⟨ad',e',hc⟩:=h4 (by simp at h3;omega)
 rw[hA] at e'
 cases e'
 have:=hc.block_lt (by intro e;simp at e;simp[e] at h0)
 omega
theorem Ld {g:Nat} {m:List UInt8} {tot:UInt64} {w w':World} {X:Nat→Prop} (h:HA g m tot w) (hm:Mv X w w') (hx:¬X g):HA g m tot w':=by
 obtain⟨blk,hc,ht⟩:=h
 exact⟨blk,⟨hm.blk hc.hb hx,hc.ls,hc.lb⟩,ht⟩
theorem EX {w:World} {b:List UInt8} {v:Value} (hv:cK b v w) (hl:b.length≤7340032):
 Calls Tryz.prog 13 #[v] w (bN fun r w'=>aH w w'∧oN w.heap.size b r w'):=by
 refine enter (vs:=[v]) Tryz.func13 E E E ?_
 refine af (aa ?_)
 have hvc:v.cells=[v].toArray:=by obtain⟨A,n,c,rfl,_⟩:=hv;rfl
 obtain⟨g1,w1,hr1,l1,x1,k1⟩:=BV (P:=Tryz.prog) (w:=w) (t:=22) (l:=[v]) hvc
 refine cw E E hr1 ?_
 obtain⟨g2,w2,hr2,l2,x2,k2⟩:=a9 (P:=Tryz.prog) (w:=w1) (t:=24) (l:=vY.map U8) li rfl
 refine aS E hr2 ?_
 have g12:g1<g2:=by have:=k1.lt;omega
 have e2:aH w w2:=x1.trans x2
 have k12:=k1.ext x2
 have hv2:=hv.ext e2
 refine ac E E (ac E E (ac E E (ag (ab (af (aa (ac E E (ag (ab (af (af (aa ?_))))))))))))
 refine aj E E (ai Lv E k12.k0) ?_
 refine aV E E (ey hv2) (ae E E (al (r:=I ((44:Nat):Int)) E E E (by have e:((44:Nat):Int)=36+8:=(by omega);rw[e];exact aR (by omega) (by omega)) ?_))
 refine al E E E (a6) (ae E E ?_)
 refine ci (fun h20=>?_) (fun h20=>?_)
 ·refine am E E E (am E E E (am E E E (am E E E (aq E E E (ag (ab (bm E (af (aa ?_)))))))))
  refine bC (vs:=[]) (r:=.agg (vY.map U8).toArray) E E (run_build _ _ _ _ (by kernel_rfl)) ?_
  obtain⟨wR,sR,qR,kR⟩:=k2.stS (P:=Tryz.prog) (t:=24) (m:=vY.map U8) rfl pp (iu _)
  refine ay E E sR ?_
  have xR:=aH.of_new e2 qR (Nat.le_trans x1.size l2)
  refine ac E E (ac E E (ac E E (ag (ab (aw (az ?_))))))
  refine j8 E E E E E kR LH E pp ?_
  exact⟨_,rfl,xR,oN.err (by
   first
   |exact .inl (by omega)
   |exact .inr (.inl (by assumption)))⟩
 ·refine ak E ?_
  refine aj E E (ai Lv E k12.k0) ?_
  refine ak E ?_
  obtain⟨v22,p22,b22⟩:=qQ hv2 (hi:=4) (by omega) .i64
  refine dm E E E E E (p22 _) (ak E (bb E E (KD b22) (ak E (al (v:=S [82,76,85,74]) E E E (HK) (aI E E E ?_)))))
  refine ag (ab ?_)
  refine bu E (fun h25=>?_) (fun h25=>?_)
  ·refine af (aa ?_)
   refine bC (vs:=[]) (r:=.agg (vY.map U8).toArray) E E (run_build _ _ _ _ (by kernel_rfl)) ?_
   obtain⟨wR,sR,qR,kR⟩:=k2.stS (P:=Tryz.prog) (t:=24) (m:=vY.map U8) rfl pp (iu _)
   refine ay E E sR ?_
   have xR:=aH.of_new e2 qR (Nat.le_trans x1.size l2)
   refine ac E E (ac E E (ac E E (ag (ab (aw (az ?_))))))
   refine j8 E E E E E kR LH E pp ?_
   exact⟨_,rfl,xR,oN.err (by
    first
    |exact .inl (by omega)
    |exact .inr (.inl (by assumption)))⟩
  ·refine aC (ab (af ?_))
   have h44:44≤b.length:=by omega
   refine aa (an xD E E ((xG _)) ?_)
   rintro v27 w27 ⟨x27,gh,lgh,rfl,hh27⟩
   obtain⟨g7,w7,hr7,l7,x7,k7⟩:=a9 (P:=Tryz.prog) (w:=w27) (t:=88) (z:=.pointer none) (l:=[.pointer none]) (by kernel_rfl) rfl
   refine aS E hr7 ?_
   obtain⟨w8,s8,q8,k8⟩:=k7.stC (P:=Tryz.prog) (t:=88) (i:=0) (v:=.pointer (some ⟨gh,0,none⟩)) (by kernel_rfl) rfl (by simp)
   refine ay E E s8 ?_
   have x8:=aH.of_new x7 q8 l7
   have k8:bQ g7 88 [.pointer (some ⟨gh,0,none⟩)] w8:=k8
   have hh8:=hh27.ext x8
   have e8:aH w w8:=(e2.trans x27).trans x8
   have hv8:=hv.ext e8
   have k18:=(k12.ext x27).ext x8
   have k28:=(k2.ext x27).ext x8
   have ghlt:=hh27.lt
   have g2lt:=k2.lt
   have g17:g7≠gh:=by omega
   have g1h:g1≠gh:=by omega
   have g2h:g2≠gh:=by omega
   have hgh:w.heap.size≤gh:=by have:=e2.size;omega
   have hloc:=ID hv (by omega) hgh
   obtain⟨v31,p31,b31⟩:=qQ hv8 (hi:=36) (by omega) .i64
   refine ag (ab (af (bP 4 [1,2,6,7,28,31] (by kernel_rfl) (by kernel_rfl) ?_)))
   refine aQ E E (fun w' hw=>ai LP E (k8.ext hw).k0) (aQ E E (fun w' hw=>ai Lv E (k18.ext hw).k0) ?_)
   refine ax E E ?_
   refine kA (a:=none) (b:=some (I 36)) E E E E (fun w _=>p31 w) ?_
   refine cn ?_
   intro wg5 xg5
   rintro _ rfl
   rintro _ rfl
   rintro _ rfl
   rintro _ rfl
   rintro _ rfl
   rintro _ hq31
   obtain rfl:=Eq.symm hq31
   refine an f5 E E ((f6 (hh8.ext xg5) (b31.ext xg5) (zF hv8 hloc (p31 _)))) ?_
   rintro v32 w32 ⟨g32,h32⟩
   have hh32:HA gh (b.take 36) (UInt64.ofNat 36) w32:=by
    have e:(0:UInt64)+UInt64.ofNat (b.take 36).length=UInt64.ofNat 36:=by rw[List.length_take,Nat.min_eq_left (by omega)];rfl
    rw[e] at h32
    exact h32
   have m32:Mv (fun j=>j=gh) w8 w32:=(Mv.of_ext xg5).trans (Mv.of_grown g32 fun j hj _=>(Option.some.inj hj).symm) fun _ hj _=>hj
   have k732:=m32.blk k8 g17
   have k132:=m32.blk k18 g1h
   have k232:=m32.blk k28 g2h
   have hv32:=hv.ext (Mv.ext_from m32 e8 fun j hj=>by have:j=gh:=hj;omega)
   refine ag (ab (af (aa ?_)))
   refine Bu (us:=[]) (vs:=[.pointer (some ⟨g7,0,none⟩),.pointer (some ⟨g1,0,none⟩)]) E E E ?_
   refine ac E E (ag (ab (af (af ?_))))
   rcases hC:fE b 36
   ·refine aa (ae E E (ae E E (lD E pu E E ((by have h:=px (k:=36) hv32 k732 k132 hh32 (by omega) (by omega) hloc;rw[hC] at h;exact h)) ?_)))
    rintro v36 w36 ⟨m36,rfl,hh36⟩
    have m836:=m32.trans m36 fun _ hj _=>hj
    have k236:=m36.blk k232 g2h
    refine bw E E bB (ag (ab (bm E (af (aa ?_)))))
    refine bC (vs:=[]) (r:=.agg (vY.map U8).toArray) E E (run_build _ _ _ _ (by kernel_rfl)) ?_
    obtain⟨wR,sR,qR,kR⟩:=k236.stS (P:=Tryz.prog) (t:=24) (m:=vY.map U8) rfl pp (iu _)
    refine ay E E sR ?_
    have xR:=aH.of_new (Mv.ext_from m836 e8 fun j hj=>by have:j=gh:=hj;omega) qR (Nat.le_trans x1.size l2)
    refine ac E E (ac E E (ac E E (ag (ab (aw (az ?_))))))
    refine j8 E E E E E kR LH E pp ?_
    exact⟨_,rfl,xR,oN.err (.inr (.inr hC))⟩
   ·refine aa (ae E E (ae E E (lD E pu E E ((by have h:=px (k:=36) hv32 k732 k132 hh32 (by omega) (by omega) hloc;rw[hC] at h;exact h)) ?_)))
    rintro v36 w36 ⟨m36,rfl,hh36⟩
    have m836:=m32.trans m36 fun _ hj _=>hj
    have k236:=m36.blk k232 g2h
    have k136:=m36.blk k132 g1h
    have k736:=m36.blk k732 g17
    have e36:aH w w36:=Mv.ext_from m836 e8 fun j hj=>by have:j=gh:=hj;omega
    have gh36:=hh36.lt
    refine bw E E bB (ag (ab (cN E (aC (ab (af (aa (ae E E (al (r:=I ((44:Nat):Int)) E E E (by have e:((44:Nat):Int)=36+8:=(by omega);rw[e];exact aR (by omega) (by omega)) ?_)))))))))
    refine ac E E (ag (ab (af ?_)))
    have hOK:¬(b.length<44∨b.take 4≠kr∨fE b 36=false):=by
     rintro(h|h|h)
     ·omega
     ·exact h25 h
     ·rw[hC] at h;cases h
    have s32:(Tryz.prog.info? 24).map (·.size)=some ((((b.take 36).drop 4)).map U8).length:=by rw[List.length_map,List.length_drop,List.length_take,Nat.min_eq_left (by omega)];exact mW
    refine aa (ac E E (ag (ab (af (aG ?_)))))
    refine mi (fun(k:Nat) (ve:Value) (es:List cm)=>[(1,.pointer (some ⟨g1,0,none⟩)),(2,.pointer (some ⟨g2,0,none⟩)),(6,I 36),(7,.pointer (some ⟨g7,0,none⟩)),(8,.func (.func 41) #[] #[.pointer (some ⟨g7,0,none⟩),.pointer (some ⟨g1,0,none⟩)]),(9,I (k:Int)),(10,ve)]) (fun(k:Nat) (ve:Value) (es:List cm) w'=>Mv (fun j=>j=gh) w36 w'∧HA gh (b.take k) (UInt64.ofNat k) w'∧iD 54 10 w36.heap.size jR es ve w'∧44≤k∧k≤b.length∧fQ b 44=(es++(fQ b k).1,(fQ b k).2)∧es.length≤k) (fun(k:Nat) (ve:Value) (es:List cm)=>b.length-k) (44) (.slice none 0 0) ([]) ⟨rfl,rfl,rfl,rfl,rfl,rfl,rfl,trivial⟩ ⟨Mv.refl _ _,hh36,iD.nil _,by omega,by omega,by simp,by simp⟩ ?_
    rintro k ve es wL ⟨mL,hhL,oL,hk1,hk2,hJ,hel⟩
    refine aG (af ?_)
    have szL:=mL.size
    have k1L:=mL.blk k136 g1h
    have k2L:=mL.blk k236 g2h
    have k7L:=mL.blk k736 g17
    have eL:aH w wL:=Mv.ext_from mL e36 fun j hj=>by have:j=gh:=hj;omega
    have hvL:=hv.ext eL
    have hdl:(b.drop k).length=b.length-k:=List.length_drop
    obtain⟨v44,p44,b44⟩:=qP hvL (lo:=k) (by omega) .i64
    have hrec:=Ct b44 (by omega)
    rcases hB:uJ (b.drop k) with _|⟨p,t⟩
    rotate_left
    have hbl:=JO hB
    rcases Nat.lt_or_ge t.length 8 with h8|h8
    ·simp only[vT,hB,decide_eq_false (Nat.not_le.2 h8)] at hrec
     refine aa ?_
     refine aj E E (ai Lv E k1L.k0) ?_
     refine ae E E ?_
     refine dm E E E E E (p44 _) ?_
     refine an qv E E (hrec) ?_
     rintro v45 w45 ⟨x45,vp,rfl,bp⟩
     refine ae E E (aA E E (dH) (aA E E (dJ) (aA E E (dK) (ac E E (ac E E (ac E E (ag ?_)))))))
     refine ab (af (af (aa (ae E E (bw E E bB (ag (ab (bm E (bc (aK (wr E (aK (bf (ab (af ?_)))))))))))))))
     have mX:=Mv.of_ext (X:=fun j=>j=gh) x45
     have hfin:=Ip hJ (vR hB (Hf (by omega)))
     have k1X:=mX.blk k1L g1h
     have k2X:=mX.blk k2L g2h
     have eX:=Mv.ext_from mX eL fun j hj=>by have:j=gh:=hj;omega
     obtain⟨v84,p84,b84⟩:=tg (hv.ext eX) (lo:=4) (hi:=36) (by omega) (by omega) .i64 .i64
     have l84:((b.take 36).drop 4).length=32:=by rw[List.length_drop,List.length_take];omega
     obtain⟨ad,p85,c85⟩:=Dm b84 l84
     obtain⟨wR,sR,qR,kR⟩:=k2X.stS (P:=Tryz.prog) (t:=24) (m:=((b.take 36).drop 4).map U8) (by rw[List.length_map,List.length_map,l84];rfl) s32 (iu _)
     have eR:=aH.of_new eX qR (Nat.le_trans x1.size l2)
     have oR:=(oL.mv mX fun j hj=>by have:j=gh:=hj;omega).mv (Mv.of_grown (X:=fun j=>j=g2) qR fun j hj _=>(Option.some.inj hj).symm) fun j hj=>by have:j=g2:=hj;have:=k236.lt;omega
     refine aa ?_
     refine aj E E (ai Lv E k1X.k0) ?_
     refine ae E E ?_
     refine dm E E E E E (p84 _) ?_
     refine oW E E (p85 _) ?_
     refine aj E E (tQ c85 l84) ?_
     refine ae E E (ae E E ?_)
     refine ay E E sR ?_
     refine ac E E (ac E E (ac E E (ag (ab (aw ?_)))))
     refine j8 E E E E E kR LH E s32 ?_
     exact⟨_,rfl,eR,oN.ok hOK hfin ((oR.rpx bG (by omega)).weak fun j hj=>.inl (by show j<w36.heap.size;have:=e36.size;omega))⟩
    ·simp only[vT,hB,decide_eq_true h8] at hrec
     have ekn:k+((b.drop k).length-t.length)=b.length-t.length:=by omega
     refine aa ?_
     refine aj E E (ai Lv E k1L.k0) ?_
     refine ae E E ?_
     refine dm E E E E E (p44 _) ?_
     refine an qv E E (hrec) ?_
     rintro v45 w45 ⟨x45,vp,rfl,bp⟩
     refine ae E E (aA E E (dH) (aA E E (dJ) (aA E E (dK) (ac E E (ac E E (ac E E (ag ?_)))))))
     refine ab (af (af (aa (ae E E (bw E E bB (ag (ab (cN E (aC (ab (af (aa (ae E E (an Cr E E ((Cs (bp.ext x45) (by omega))) ?_))))))))))))))
     rintro v53 w53 ⟨x53,u,cs,ok,rfl,rp53,h1cs,hok1,hok2⟩
     refine ae E E (aA E E (cu) (aA E E (cv) ?_))
     obtain⟨g14,w14,hr14,l14,x14,k14⟩:=a9 (P:=Tryz.prog) (w:=w53) (t:=54) (z:=.agg #[.slice none 0 0,.slice none 0 0,I 0,I 0,B false,.slice none 0 0,.slice none 0 0,.slice none 0 0,B false,.slice none 0 0]) (l:=[.slice none 0 0,.slice none 0 0,I 0,I 0,B false,.slice none 0 0,.slice none 0 0,.slice none 0 0,B false,.slice none 0 0]) (by kernel_rfl) rfl
     refine aS E hr14 ?_
     have hcs:cs.length=10:=rp53.len.trans (bG u)
     obtain⟨wE,sE,qE,kE⟩:=k14.stS (P:=Tryz.prog) (t:=54) (m:=cs) (by rw[hcs];rfl) (by rw[hcs];kernel_rfl) h1cs
     refine ay E E sE ?_
     have xE:=aH.of_new x14 qE l14
     have eLE:aH wL wE:=(x45.trans x53).trans xE
     have rpE:=rp53.ext xE
     have k7E:=k7L.ext eLE
     have k1E:=k1L.ext eLE
     have hhE:=hhL.ext eLE
     have hvE:=hvL.ext eLE
     have s45:=x45.size
     have g14h:g14≠gh:=by have:=x53.size;have:=mL.size;omega
     obtain⟨v62,p62,b62⟩:=tg hvE (lo:=k) (hi:=k+((b.drop k).length-t.length)) (by omega) (by omega) .i64 .i64
     refine ac E E (ag (ab (af ?_)))
     rcases hok:ok
     ·subst hok
      refine bP 7 [1,2,6,7,8,9,10,11,13,14,56,62] (by kernel_rfl) (by kernel_rfl) ?_
      refine aQ E E (fun w' hw=>ai LP E (k7E.ext hw).k0) (aQ E E (fun w' hw=>ai Lv E (k1E.ext hw).k0) ?_)
      refine ax E E (ax E E (ax E E (aZ (r:=I ((k+((b.drop k).length-t.length):Nat):Int)) E E E (fun w _=>by have e:((k+((b.drop k).length-t.length):Nat):Int)=(k:Int)+(((b.drop k).length-t.length):Nat):=(by omega);rw[e];exact aR (by omega) (by omega)) ?_)))
      refine kA (a:=some (I (k:Int))) (b:=some (I ((k+((b.drop k).length-t.length):Nat):Int))) E E E E (fun w _=>p62 w) ?_
      refine cn ?_
      intro wg14 xg14
      rintro _ rfl
      rintro _ rfl
      rintro _ rfl
      rintro _ rfl
      rintro _ rfl
      rintro _ rfl
      rintro _ hq10
      obtain rfl:=Eq.symm hq10
      rintro _ rfl
      rintro _ rfl
      rintro _ rfl
      rintro _ rfl
      rintro _ hq62
      obtain rfl:=Eq.symm hq62
      refine an f5 E E ((f6 (hhE.ext xg14) (b62.ext xg14) (zF hvE hloc (p62 _)))) ?_
      rintro v63 w63 ⟨g63,h63⟩
      have hh63:=HA.on (by omega) h63
      have m63:Mv (fun j=>j=gh) wL w63:=(Mv.of_ext (eLE.trans xg14)).trans (Mv.of_grown g63 fun j hj _=>(Option.some.inj hj).symm) fun _ hj _=>hj
      have mE63:Mv (fun j=>j=gh) wE w63:=(Mv.of_ext xg14).trans (Mv.of_grown g63 fun j hj _=>(Option.some.inj hj).symm) fun _ hj _=>hj
      have k763:=m63.blk k7L g17
      have k163:=m63.blk k1L g1h
      have hv63:=hv.ext (Mv.ext_from m63 eL fun j hj=>by have:j=gh:=hj;omega)
      refine ag (ab (af (af (aa (ae E E (bw E E bB (ae E E (am E E E (am E E E (am E E E (am E E E (am E E E ?_))))))))))))
      refine am E E E (aq E E E (ag (ab (bm E (bc (aK (wr E (aK (bf (ab (af ?_)))))))))))
      have mX:=m63
      have hfin:=Ip hJ (He hB (hok2 rfl))
      have k1X:=mX.blk k1L g1h
      have k2X:=mX.blk k2L g2h
      have eX:=Mv.ext_from mX eL fun j hj=>by have:j=gh:=hj;omega
      obtain⟨v84,p84,b84⟩:=tg (hv.ext eX) (lo:=4) (hi:=36) (by omega) (by omega) .i64 .i64
      have l84:((b.take 36).drop 4).length=32:=by rw[List.length_drop,List.length_take];omega
      obtain⟨ad,p85,c85⟩:=Dm b84 l84
      obtain⟨wR,sR,qR,kR⟩:=k2X.stS (P:=Tryz.prog) (t:=24) (m:=((b.take 36).drop 4).map U8) (by rw[List.length_map,List.length_map,l84];rfl) s32 (iu _)
      have eR:=aH.of_new eX qR (Nat.le_trans x1.size l2)
      have oR:=(oL.mv mX fun j hj=>by have:j=gh:=hj;omega).mv (Mv.of_grown (X:=fun j=>j=g2) qR fun j hj _=>(Option.some.inj hj).symm) fun j hj=>by have:j=g2:=hj;have:=k236.lt;omega
      refine aa ?_
      refine aj E E (ai Lv E k1X.k0) ?_
      refine ae E E ?_
      refine dm E E E E E (p84 _) ?_
      refine oW E E (p85 _) ?_
      refine aj E E (tQ c85 l84) ?_
      refine ae E E (ae E E ?_)
      refine ay E E sR ?_
      refine ac E E (ac E E (ac E E (ag (ab (aw ?_)))))
      refine j8 E E E E E kR LH E s32 ?_
      exact⟨_,rfl,eR,oN.ok hOK hfin ((oR.rpx bG (by omega)).weak fun j hj=>.inl (by show j<w36.heap.size;have:=e36.size;omega))⟩
     ·subst hok
      have hent:=hok1 rfl
      refine bP 7 [1,2,6,7,8,9,10,11,13,14,56,62] (by kernel_rfl) (by kernel_rfl) ?_
      refine aQ E E (fun w' hw=>ai LP E (k7E.ext hw).k0) (aQ E E (fun w' hw=>ai Lv E (k1E.ext hw).k0) ?_)
      refine ax E E (ax E E (ax E E (aZ (r:=I ((k+((b.drop k).length-t.length):Nat):Int)) E E E (fun w _=>by have e:((k+((b.drop k).length-t.length):Nat):Int)=(k:Int)+(((b.drop k).length-t.length):Nat):=(by omega);rw[e];exact aR (by omega) (by omega)) ?_)))
      refine kA (a:=some (I (k:Int))) (b:=some (I ((k+((b.drop k).length-t.length):Nat):Int))) E E E E (fun w _=>p62 w) ?_
      refine cn ?_
      intro wg14 xg14
      rintro _ rfl
      rintro _ rfl
      rintro _ rfl
      rintro _ rfl
      rintro _ rfl
      rintro _ rfl
      rintro _ hq10
      obtain rfl:=Eq.symm hq10
      rintro _ rfl
      rintro _ rfl
      rintro _ rfl
      rintro _ rfl
      rintro _ hq62
      obtain rfl:=Eq.symm hq62
      refine an f5 E E ((f6 (hhE.ext xg14) (b62.ext xg14) (zF hvE hloc (p62 _)))) ?_
      rintro v63 w63 ⟨g63,h63⟩
      have hh63:=HA.on (by omega) h63
      have m63:Mv (fun j=>j=gh) wL w63:=(Mv.of_ext (eLE.trans xg14)).trans (Mv.of_grown g63 fun j hj _=>(Option.some.inj hj).symm) fun _ hj _=>hj
      have mE63:Mv (fun j=>j=gh) wE w63:=(Mv.of_ext xg14).trans (Mv.of_grown g63 fun j hj _=>(Option.some.inj hj).symm) fun _ hj _=>hj
      have k763:=m63.blk k7L g17
      have k163:=m63.blk k1L g1h
      have hv63:=hv.ext (Mv.ext_from m63 eL fun j hj=>by have:j=gh:=hj;omega)
      refine ag (ab (af (af ?_)))
      rcases hC2:fE b (b.length-t.length)
      ·refine aa (ae E E (bw E E bB (ae E E (ak E (ae E E (ak E (ae E E (ak E (ae E E (ak E (al (r:=I ((k+((b.drop k).length-t.length):Nat):Int)) E E E (by have e:((k+((b.drop k).length-t.length):Nat):Int)=(k:Int)+(((b.drop k).length-t.length):Nat):=(by omega);rw[e];exact aR (by omega) (by omega)) ?_)))))))))))
       refine ak E (lD E pu E E ((by have h:=px (k:=k+((b.drop k).length-t.length)) hv63 k763 k163 hh63 (by omega) (by omega) hloc;rw[ekn,hC2] at h;rw[ekn];exact h)) ?_)
       rintro v71 w71 ⟨m71,rfl,hh71⟩
       refine ak E (bw E E bB (aI E E E (ag (ab (bm E (bc (aK (wr E (aK (bf (ab (af ?_))))))))))))
       have mX:=m63.trans m71 fun _ hj _=>hj
       have hfin:=Ip hJ (vR hB hC2)
       have k1X:=mX.blk k1L g1h
       have k2X:=mX.blk k2L g2h
       have eX:=Mv.ext_from mX eL fun j hj=>by have:j=gh:=hj;omega
       obtain⟨v84,p84,b84⟩:=tg (hv.ext eX) (lo:=4) (hi:=36) (by omega) (by omega) .i64 .i64
       have l84:((b.take 36).drop 4).length=32:=by rw[List.length_drop,List.length_take];omega
       obtain⟨ad,p85,c85⟩:=Dm b84 l84
       obtain⟨wR,sR,qR,kR⟩:=k2X.stS (P:=Tryz.prog) (t:=24) (m:=((b.take 36).drop 4).map U8) (by rw[List.length_map,List.length_map,l84];rfl) s32 (iu _)
       have eR:=aH.of_new eX qR (Nat.le_trans x1.size l2)
       have oR:=(oL.mv mX fun j hj=>by have:j=gh:=hj;omega).mv (Mv.of_grown (X:=fun j=>j=g2) qR fun j hj _=>(Option.some.inj hj).symm) fun j hj=>by have:j=g2:=hj;have:=k236.lt;omega
       refine aa ?_
       refine aj E E (ai Lv E k1X.k0) ?_
       refine ae E E ?_
       refine dm E E E E E (p84 _) ?_
       refine oW E E (p85 _) ?_
       refine aj E E (tQ c85 l84) ?_
       refine ae E E (ae E E ?_)
       refine ay E E sR ?_
       refine ac E E (ac E E (ac E E (ag (ab (aw ?_)))))
       refine j8 E E E E E kR LH E s32 ?_
       exact⟨_,rfl,eR,oN.ok hOK hfin ((oR.rpx bG (by omega)).weak fun j hj=>.inl (by show j<w36.heap.size;have:=e36.size;omega))⟩
      ·refine aa (ae E E (bw E E bB (ae E E (ak E (ae E E (ak E (ae E E (ak E (ae E E (ak E (al (r:=I ((k+((b.drop k).length-t.length):Nat):Int)) E E E (by have e:((k+((b.drop k).length-t.length):Nat):Int)=(k:Int)+(((b.drop k).length-t.length):Nat):=(by omega);rw[e];exact aR (by omega) (by omega)) ?_)))))))))))
       refine ak E (lD E pu E E ((by have h:=px (k:=k+((b.drop k).length-t.length)) hv63 k763 k163 hh63 (by omega) (by omega) hloc;rw[ekn,hC2] at h;rw[ekn];exact h)) ?_)
       rintro v71 w71 ⟨m71,rfl,hh71⟩
       refine ak E (bw E E bB (aI E E E (ag (ab (cN E (aC (ab (af ?_))))))))
       have hst:=In hB hC2 hent
       obtain⟨_,_,_,_,_,_,hk9,hkb⟩:=sO hst
       have mE71:=mE63.trans m71 fun _ hj _=>hj
       have m71L:=m63.trans m71 fun _ hj _=>hj
       have kE71:=mE71.blk kE g14h
       have oE:=oL.mv m71L fun j hj=>by have:j=gh:=hj;omega
       have own:∀j,ve.ownBlock=some j→w36.heap.size≤j∧j<wL.heap.size:=oL.lt
       have rp71:=rpE.mv (mE71.weak fun j hj _=>by have:j=gh:=hj;show j<w45.heap.size;have:=mL.size;omega) fun _ hj=>.inl hj
       obtain⟨x76,w76,v77,w77,hr76,hr77,o77,m77,n77⟩:=oE.push (ty:=25) (t:=25) LD gf rfl (by omega) (by omega) (by omega) h1cs (rp71.weak fun j hj=>.inl (by
        show j<w45.heap.size
        rcases hj with hj|hj
        ·have:=mL.size;omega
        ·have:=(own j hj).2;omega)) bG (by omega) (Nat.le_trans szL m71L.size)
       refine aa (ae E E ?_)
       refine aj E E (kE71.ld Lr E (by rw[hcs];kernel_rfl)) ?_
       refine aF (vs:=[(0,.agg cs.toArray)]) E E hr76 ?_
       refine aT E E hr77 ?_
       refine ac E E (ag (ab (aa (ae E E (ae E E (al (r:=I ((((b.drop k).length-t.length)+8:Nat):Int)) E E E (by have e:((((b.drop k).length-t.length)+8:Nat):Int)=(((b.drop k).length-t.length):Nat)+8:=(by omega);rw[e];exact aR (by omega) (by omega)) ?_))))))
       refine al (r:=I ((k+(((b.drop k).length-t.length)+8):Nat):Int)) E E E (by have e:((k+(((b.drop k).length-t.length)+8):Nat):Int)=(k:Int)+((((b.drop k).length-t.length)+8:Nat):Int):=(by omega);rw[e];exact aR (by omega) (by omega)) ?_
       refine ac E E (ag (aW ?_))
       refine je (k+(((b.drop k).length-t.length)+8)) (v77) (es++[u]) ⟨rfl,rfl,rfl,rfl,rfl,rfl,rfl,trivial⟩ ⟨(mL.trans m71L fun _ hj _=>hj).trans m77 fun j hj hlt=>by have:=(own j hj).1;omega,(by
        have e:k+(((b.drop k).length-t.length)+8)=b.length-t.length+8:=by omega
        rw[e]
        exact Ld hh71 m77 fun hj=>by have:=(own gh hj).1;omega),o77,by omega,by omega,by
        have e:k+(((b.drop k).length-t.length)+8)=b.length-t.length+8:=by omega
        rw[hJ,e,vJ hst];simp,by simp;omega⟩ (by omega)
    ·simp only[vT,hB] at hrec
     refine aa ?_
     refine aj E E (ai Lv E k1L.k0) ?_
     refine ae E E ?_
     refine dm E E E E E (p44 _) ?_
     refine an qv E E (hrec) ?_
     rintro v45 w45 ⟨x45,rfl⟩
     refine ae E E (aA E E (dH) (aA E E (dJ) (aA E E (dK) (ac E E (ac E E (ac E E (ag ?_)))))))
     refine ab (af (af (aa (ae E E (bw E E bB (ag (ab (bm E (bc (aK (wr E (aK (bf (ab (af ?_)))))))))))))))
     have mX:=Mv.of_ext (X:=fun j=>j=gh) x45
     have hfin:=Ip hJ (Hb hB)
     have k1X:=mX.blk k1L g1h
     have k2X:=mX.blk k2L g2h
     have eX:=Mv.ext_from mX eL fun j hj=>by have:j=gh:=hj;omega
     obtain⟨v84,p84,b84⟩:=tg (hv.ext eX) (lo:=4) (hi:=36) (by omega) (by omega) .i64 .i64
     have l84:((b.take 36).drop 4).length=32:=by rw[List.length_drop,List.length_take];omega
     obtain⟨ad,p85,c85⟩:=Dm b84 l84
     obtain⟨wR,sR,qR,kR⟩:=k2X.stS (P:=Tryz.prog) (t:=24) (m:=((b.take 36).drop 4).map U8) (by rw[List.length_map,List.length_map,l84];rfl) s32 (iu _)
     have eR:=aH.of_new eX qR (Nat.le_trans x1.size l2)
     have oR:=(oL.mv mX fun j hj=>by have:j=gh:=hj;omega).mv (Mv.of_grown (X:=fun j=>j=g2) qR fun j hj _=>(Option.some.inj hj).symm) fun j hj=>by have:j=g2:=hj;have:=k236.lt;omega
     refine aa ?_
     refine aj E E (ai Lv E k1X.k0) ?_
     refine ae E E ?_
     refine dm E E E E E (p84 _) ?_
     refine oW E E (p85 _) ?_
     refine aj E E (tQ c85 l84) ?_
     refine ae E E (ae E E ?_)
     refine ay E E sR ?_
     refine ac E E (ac E E (ac E E (ag (ab (aw ?_)))))
     refine j8 E E E E E kR LH E s32 ?_
     exact⟨_,rfl,eR,oN.ok hOK hfin ((oR.rpx bG (by omega)).weak fun j hj=>.inl (by show j<w36.heap.size;have:=e36.size;omega))⟩
end Go.Rl
namespace Go.Rl
open Go.RowKit Go.Proofs
theorem Hg {P:Program} {w:World} {a b c d:Value}:(Instr.extract (.tuple #[a,b,c,d]) 0).run P w=.ok a w:=rfl
theorem Hh {P:Program} {w:World} {a b c d:Value}:(Instr.extract (.tuple #[a,b,c,d]) 1).run P w=.ok b w:=rfl
theorem Hi {P:Program} {w:World} {a b c d:Value}:(Instr.extract (.tuple #[a,b,c,d]) 2).run P w=.ok c w:=rfl
theorem Hj {P:Program} {w:World} {a b c d:Value}:(Instr.extract (.tuple #[a,b,c,d]) 3).run P w=.ok d w:=rfl
def Kf (b:List UInt8) (u:cm) (r:Value) (w':World):Prop:=∃v,r=.tuple #[v,I (J7 b u).2]∧cK (J7 b u).1 v w'
end Go.Rl

/- Part 5 of a proof: plain facts and walks of functions, merged by a program. Conditions: each lemma names its own. -/
import Derived.Test.YtaajaakbcelmfaaGreatDoorCx4
namespace Go.Rl
open Go.RowKit Go.Proofs
theorem Ih:(Tryz.prog.info? 251).map (·.size)=some 4:=by kernel_rfl
theorem Ii:(Tryz.prog.info? 3).map (·.size)=some 1:=by kernel_rfl
theorem rZ.sE {b:Nat} {T:TypeId} {l:List Value}:bo (rZ b T l):=fun _ _ _ ⟨g5,h1,h2,h3⟩ hm=>⟨g5,h1,h2,h3.ext hm⟩
def js (m:cB):List Int:=[m.kd,m.ix,m.lo,m.hi]
theorem pS (m:cB):gD m=(js m).flatMap dS++iR m.co:=by simp[gD,js,List.append_assoc]
theorem FK {l:List Int} {k:Nat} (hk:k<l.length):(l.take (k+1)).flatMap dS=(l.take k).flatMap dS++dS l[k]:=by
 rw[List.take_succ_eq_append_getElem hk,List.flatMap_append]
 simp
theorem Dc {l:List Int} {k:Nat} (hk:k<l.length):(l.map I)[k]? =some (I l[k]):=by simp[hk]
theorem s9 {w:World} {b:List UInt8} {bv v:Value} {l:List cB} (hb:ci b bv w) (hd:cK cd l v w) (hw:wP l) (hl:b.length+(kW l).length≤4398046511104):
 Calls Tryz.prog 136 #[bv,v] w (bD fun r w'=>aG w w'∧ci (b++kW l) r w'):=by
 refine enter (vs:=[bv,v]) Tryz.func136 JL JL JL ?_
 have hll:=hd.len
 have hpl:(kW l).length=(uv l.length).length+(l.flatMap gD).length:=by simp only[kW,List.length_append]
 have hun:(UInt64.ofNat l.length).toNat=l.length:=by rw[UInt64.toNat_ofNat'];omega
 refine af (aa (ac JL JL (ag (ab (af (aa (ae JL JL (ae JL JL (aP JL JL (bO Jp hd) (aQ JL JL (cZ Jh Ji) ?_))))))))))
 refine am bZ JL JL ((cc (n:=UInt64.ofNat l.length) hb (by omega))) ?_
 rintro v12 w12 ⟨x12,o12⟩
 rw[hun] at o12
 have b12:=o12.bts
 refine ac JL JL (ag (ab (af (af (aa (ac JL JL (ag (ab (av ?_)))))))))
 refine dA (fun(i:Nat) (u:Value)=>[(0,u),(1,v),(5,I (i:Int))]) (fun(i:Nat) (u:Value) w'=>aG w w'∧i≤l.length∧ci (b++uv l.length++(l.take i).flatMap gD) u w') (fun(i:Nat) (u:Value)=>l.length-i) (0) (v12) ⟨rfl,rfl,rfl,trivial⟩ ⟨x12,by omega,by simpa using b12⟩ ?_
 rintro i u wL ⟨eL,hi,bL⟩
 refine af (af (aa (ae JL JL (ae JL JL (aP JL JL (bO Jp (hd.ext eL)) (aj JL JL JL (aS) (ag (ab ?_))))))))
 refine ba JL (fun h16=>?_) (fun h16=>?_)
 ·refine ar (ab (af (av (af ?_))))
  obtain⟨pre,hpre⟩:∃pre,pre=b++uv l.length++(l.take i).flatMap gD:=⟨_,rfl⟩
  have hprl:pre.length=b.length+(uv l.length).length+((l.take i).flatMap gD).length:=by rw[hpre];simp only[List.length_append]
  rw[←hpre] at bL
  refine bm 26 [0,1,5,6,43] (by kernel_rfl) (by kernel_rfl) ?_
  refine ao (S:=Is (v)) JL JL (ao (S:=Is (I (i:Int))) JL JL ?_)
  obtain⟨a21,c21,p21,q21,h21⟩:=cO (P:=Tryz.prog) (sz:=7) Jp (by kernel_rfl) fy (by omega) (hd.ext eL) (i:=i) (by omega) .i64
  obtain⟨e21,he21⟩:∃e,e=l[i]'(by omega):=⟨_,rfl⟩
  rw[←he21] at h21
  obtain⟨x21_0,x21_1,rfl,f21_0,f21_1⟩:=j9 h21
  refine ay JL JL JL (fun w _=>p21 w) ?_
  have hm:=hw e21 (by rw[he21];exact List.getElem_mem _)
  have hfl:=eY (f:=gD) (l:=l) (i:=i) (by omega)
  rw[←he21] at hfl
  have hml:(gD e21).length=(dS e21.kd).length+(dS e21.ix).length+(dS e21.lo).length+(dS e21.hi).length+(iR e21.co).length:=by simp only[gD,List.length_append]
  refine aF JL JL (fun w hw=>jM (o:=0) Jy JL (by kernel_rfl) JL) (aF JL JL (fun w hw=>jM (o:=0) JC JL (by kernel_rfl) JL) ?_)
  refine aD JL JL (fun w hw=>ai Jh JL (hw.cell_some (q21.at (j:=0) JL))) (ao (S:=Is (v)) JL JL (ao (S:=Is (I (i:Int))) JL JL ?_))
  refine ay JL JL JL (fun w _=>p21 w) (aF JL JL (fun w hw=>jM (o:=0) Jy JL (by kernel_rfl) JL) (aF JL JL (fun w hw=>jM (o:=1) JC JL (by kernel_rfl) JL) ?_))
  refine aD JL JL (fun w hw=>ai Jh JL (hw.cell_some (q21.at (j:=1) JL))) (ao (S:=Is (v)) JL JL (ao (S:=Is (I (i:Int))) JL JL ?_))
  refine ay JL JL JL (fun w _=>p21 w) (aF JL JL (fun w hw=>jM (o:=0) Jy JL (by kernel_rfl) JL) (aF JL JL (fun w hw=>jM (o:=2) JC JL (by kernel_rfl) JL) ?_))
  refine aD JL JL (fun w hw=>ai Jh JL (hw.cell_some (q21.at (j:=2) JL))) (ao (S:=Is (v)) JL JL (ao (S:=Is (I (i:Int))) JL JL ?_))
  refine ay JL JL JL (fun w _=>p21 w) (aF JL JL (fun w hw=>jM (o:=0) Jy JL (by kernel_rfl) JL) (aF JL JL (fun w hw=>jM (o:=3) JC JL (by kernel_rfl) JL) ?_))
  refine aD rfl rfl (fun w hw=>ai Jh rfl (hw.cell_some (q21.at (j:=3) rfl))) (nW (S:=Is (.agg #[I e21.kd,I e21.ix,I e21.lo,I e21.hi])) (bo.is _) rfl (fun w' hw=>by rintro _ rfl _ rfl _ rfl _ rfl;exact⟨_,w',run_build _ _ _ _ (by kernel_rfl),aG.refl _,rfl⟩) ?_)
  refine qv (S:=rZ wL.heap.size 251 [I 0,I 0,I 0,I 0]) rZ.sE JL (fun w' hw=>zE (z:=.agg #[I 0,I 0,I 0,I 0]) (by kernel_rfl) JL hw.size) ?_
  refine bu ?_
  intro wg5 xg5
  rintro _ hq0
  obtain rfl:=Eq.symm hq0
  rintro _ hq1
  obtain rfl:=Eq.symm hq1
  rintro _ rfl
  intro vg6 b6
  rintro _ rfl
  obtain⟨g6,rfl,hg6,k6⟩:=b6
  obtain⟨wd,sd,qd,kd0⟩:=k6.stS (P:=Tryz.prog) (t:=251) (m:=[I e21.kd,I e21.ix,I e21.lo,I e21.hi]) rfl Ih (aL.cons rfl (aL.cons rfl (aL.cons rfl (aL.cons rfl aL.nil))))
  have kd:cl g6 251 ((js e21).map I) wd:=kd0
  refine aC JL JL sd ?_
  have xd:=aG.of_new xg5 qd hg6
  have bd:=bL.ext xd
  refine ag (ab (af (af (aa (ac JL JL (ag (ab (av ?_))))))))
  refine dA (fun(k:Nat) (u2:Value)=>[(0,u2),(1,v),(5,I (i:Int)),(6,.pointer (some ⟨g6,0,none⟩)),(7,I (k:Int))]) (fun(k:Nat) (u2:Value) w'=>aG wd w'∧k≤4∧ci (pre++((js e21).take k).flatMap dS) u2 w') (fun(k:Nat) (u2:Value)=>4-k) (0) (u) ⟨rfl,rfl,rfl,rfl,rfl,trivial⟩ ⟨aG.refl _,by omega,by simpa using bd⟩ ?_
  rintro k u2 wM ⟨eM,hk4,bM⟩
  refine af (af (aa (ae JL JL (aj JL JL JL (aS) (ag (ab ?_))))))
  refine ba JL (fun h45=>?_) (fun h45=>?_)
  ·have hk4':k<4:=by omega
   have hlen4:(js e21).length=4:=rfl
   have hi64:mO (js e21)[k]:=by
    have h4:=Hx hm.1 hm.2.1 hm.2.2.1 hm.2.2.2
    exact h4 _ (List.getElem_mem (l:=js e21) (by omega))
   have hfl2:=lw (f:=dS) (js e21) k
   have hme:=congrArg List.length (pS e21)
   rw[List.length_append] at hme
   refine ar (ab (af (av (aa (ae JL JL (ae JL JL ?_))))))
   refine ap JL JL JL (tJ Tryz.underlying251 Ii (i:=k) hk4' .i64) ?_
   have c50:(wM).cell? ⟨g6,0+k,none⟩=some (I (js e21)[k]):=by rw[Nat.zero_add];exact(kd.ext eM).cell (Dc (by omega))
   refine ak JL JL (ai Tryz.underlying3 JL c50) (am fT JL JL ((fU (n:=(js e21)[k]) bM (by simp only[List.length_append];omega) hi64.1 hi64.2)) ?_)
   rintro v52 w52 ⟨x52,o52⟩
   have b52:=o52.bts
   refine ac JL JL (ag (aM (ab (aa (ae JL JL (aj (r:=I ((k+1:Nat):Int)) JL JL JL (by have e:((k+1:Nat):Int)=(k:Int)+1:=(by omega);rw[e];exact aE (by omega) (by omega)) ?_))))))
   refine ac JL JL (ag ?_)
   refine cF (k+1) (v52) ⟨rfl,rfl,rfl,rfl,rfl,trivial⟩ ⟨(eM.trans x52),by omega,by rw[FK (by omega),←List.append_assoc];exact b52⟩ (by omega)
  ·refine aX (aA (aA (aV (ab (aa (ae JL JL (ae JL JL (ae JL JL ?_))))))))
   have hk:k=4:=by omega
   subst hk
   have hqa:=oF e21.co
   refine ap rfl rfl rfl (p21 _) (ah rfl rfl (jM (o:=4) Tryz.underlying216 rfl (by kernel_rfl) rfl) (ak rfl rfl ((q21.ext (xd.trans eM)).ldO (ms:=[B e21.co.1,x21_0,x21_1]) (o:=4) (fun j v hj=>by rcases j with _|_|_|_|_|_|_|_|_|j<;>simp_all) Tryz.underlying55 rfl (by kernel_rfl)) ?_))
   refine am iP JL JL ((iQ bM (dw.mk (f21_0.ext (xd.trans eM)) (f21_1.ext (xd.trans eM))) (by
 have hme:=congrArg List.length (pS e21)
 rw[List.length_append] at hme
 have h4:(js e21).take 4=js e21:=rfl
 simp only[h4,List.length_append];omega))) ?_
   rintro v59 w59 ⟨x59,o59⟩
   have b59:=o59.bts
   refine ac JL JL (ag (aM (ab (aa (ae JL JL (aj (r:=I ((i+1:Nat):Int)) JL JL JL (by have e:((i+1:Nat):Int)=(i:Int)+1:=(by omega);rw[e];exact aE (by omega) (by omega)) ?_))))))
   refine ac JL JL (ag ?_)
   refine cF (i+1) (v59) ⟨rfl,rfl,rfl,trivial⟩ ⟨(((eL.trans xd).trans eM).trans x59),by omega,by
    have h:ci (pre++((js e21).take 4).flatMap dS++iR e21.co) v59 w59:=b59
    have h4:(js e21).take 4=js e21:=rfl
    rw[cQ (by omega),←he21,pS,←List.append_assoc,←List.append_assoc,←hpre,←h4]
    exact h⟩ (by omega)
 ·refine aX (aA (aA (aV (ab (af (aa (ae JL JL (ac JL JL (ag (ab (au (az JL JL ?_))))))))))))
  exact⟨_,rfl,eL,by
   rw[List.take_of_length_le (by omega),List.append_assoc] at bL
   exact bL⟩
theorem oT (b:Bool):(xL b).length=1:=by cases b<;>rfl
theorem Am {w:World} {b:List UInt8} {bv:Value} {n:aN} {vl x y vk vp:Value}
 (ih:∀k∈n.kids,∀{w:World} {b:List UInt8} {bv vl x y vk vp:Value},ci b bv w→cK dm k.lems vl w→bj k.split.at_.2.1 x w→bj k.split.at_.2.2 y w→cK bh k.kids vk w→cK cd k.pf vp w→wN k→b.length+(cG k).length≤4398046511104→
   Calls Tryz.prog 93 #[bv,.agg #[vl,I k.split.kd,I k.split.ix,B k.split.at_.1,x,y,vk,B k.empty,vp]] w (bD fun r w'=>aG w w'∧ci (b++cG k) r w'))
 (hb:ci b bv w) (hl:cK dm n.lems vl w) (hx:bj n.split.at_.2.1 x w) (hy:bj n.split.at_.2.2 y w) (hk:cK bh n.kids vk w) (hp:cK cd n.pf vp w) (hw:wN n) (hlen:b.length+(cG n).length≤4398046511104):
 Calls Tryz.prog 93 #[bv,.agg #[vl,I n.split.kd,I n.split.ix,B n.split.at_.1,x,y,vk,B n.empty,vp]] w (bD fun r w'=>aG w w'∧ci (b++cG n) r w'):=by
 refine enter (vs:=[bv,.agg #[vl,I n.split.kd,I n.split.ix,B n.split.at_.1,x,y,vk,B n.empty,vp]]) Tryz.func93 JL JL JL ?_
 have hll:=hl.len
 have hkl:=hk.len
 obtain⟨wl,wd,wp,wk⟩:=(zN n).1 hw
 have hen:=su n
 have hpl:(fe n.lems).length=(uv n.lems.length).length+(n.lems.flatMap fH).length:=by simp only[fe,List.length_append]
 have hun:(UInt64.ofNat n.lems.length).toNat=n.lems.length:=by rw[UInt64.toNat_ofNat'];omega
 obtain⟨tag,htag⟩:∃tag:UInt8,tag=(if n.kids.length=0 then(if n.empty=true then 1 else 0) else 2):=⟨_,rfl⟩
 have htl:b.length+1+(fe n.lems).length+(if n.kids.length=0 then(kW n.pf).length else(kV n.split).length+(n.kids.flatMap cG).length)≤4398046511104:=by
  rw[hen] at hlen
  by_cases h0:n.kids.length=0
  ·rw[if_pos h0] at hlen⊢;simp only[List.length_append,oT] at hlen;omega
  ·rw[if_neg h0] at hlen⊢;simp only[List.length_append,List.length_cons,List.length_nil] at hlen;omega
 refine af (aa ?_)
 obtain⟨g3,w3,hr3,l3,x3,k3⟩:=cI (P:=Tryz.prog) (w:=w) (T:=83) (cs:=[vl,I n.split.kd,I n.split.ix,B n.split.at_.1,x,y,vk,B n.empty,vp])
 refine cx JL JL hr3 (ac JL JL (ag (ab (af (aa (ac JL JL (ag (ab (af ?_)))))))))
 refine eK (fun t:UInt8=>[(0,bv),(3,.pointer (some ⟨g3,0,none⟩)),(5,U8 t)]) (fun t w'=>w3=w'∧t=(if n.empty=true then 1 else 0)) ?_ ?_
 ·refine af (aa (ah JL JL (aI (o:=7) Jg JL (by kernel_rfl) JL) (ak JL JL (ai Jq JL (k3.cell (i:=7) JL)) ?_)))
  refine ag (ab ?_)
  refine eZ JL (fun h11=>?_) (fun h11=>?_)
  ·refine aa (ac JL JL (ag ?_))
   exact cr (1) ⟨rfl,rfl,rfl,trivial⟩ ⟨rfl,by simp[h11]⟩
  ·refine ar ?_
   exact cr (0) ⟨rfl,rfl,rfl,trivial⟩ ⟨rfl,by simp[h11]⟩
 rintro t5 _ ⟨rfl,ht5⟩
 refine ab (af ?_)
 refine eK (fun t:UInt8=>[(0,bv),(3,.pointer (some ⟨g3,0,none⟩)),(5,U8 t)]) (fun t w'=>w3=w'∧tag=t) ?_ ?_
 ·refine af (aa (ah JL JL (aI (o:=6) Jg JL (by kernel_rfl) JL) (ak JL JL (ai Jk JL (k3.cell (i:=6) JL)) ?_)))
  refine aP JL JL (bO Jk (hk.ext x3)) (aj JL JL JL (cg) (ag (ab ?_)))
  refine ba JL (fun h15=>?_) (fun h15=>?_)
  ·refine aa (ac JL JL (ag ?_))
   exact cr (2) ⟨rfl,rfl,rfl,trivial⟩ ⟨rfl,by
    have h15:=h15
    first
    |(have h0:¬n.kids.length=0:=by omega
      rw[htag,if_neg h0])
    |(have h0:n.kids.length=0:=by omega
      rw[ht5,htag,if_pos h0])⟩
  ·refine ar ?_
   exact cr (t5) ⟨rfl,rfl,rfl,trivial⟩ ⟨rfl,by
    have h15:=h15
    first
    |(have h0:¬n.kids.length=0:=by omega
      rw[htag,if_neg h0])
    |(have h0:n.kids.length=0:=by omega
      rw[ht5,htag,if_pos h0])⟩
 rintro _ _ ⟨rfl,rfl⟩
 refine ab (af ?_)
 have hd:aG w3 w3.drew:=(aG.refl w3).drew
 refine zi (aG w3) 12 JL (by kernel_rfl) ?_
 refine jL 1 JL JL (by kernel_rfl) JL hd ?_
 refine jL 3 JL JL (by kernel_rfl) JL hd ?_
 refine iD 6 JL JL (by kernel_rfl) JL hd (fun w' _=>aI (o:=0) Jg JL (by kernel_rfl) JL) ?_
 refine nu 7 JL JL (by kernel_rfl) JL hd (fun w' hw'=>ai Jo JL (hw'.cell_some (k3.cell (i:=0) JL))) ?_
 refine IN 8 (r:=I (n.lems.length:Int)) JL JL (by kernel_rfl) JL hd (fun w' hw'=>bO (f:=dm) Jo (hl.ext (x3.trans hw'))) ?_
 refine HP 9 JL JL (by kernel_rfl) JL hd (fun w' _=>cZ Jh Ji) ?_
 refine vd (fun p:Value×Value=>[(3,.pointer (some ⟨g3,0,none⟩)),(5,U8 tag),(18,p.1),(20,p.2),(25,bC (UInt64.ofNat n.lems.length))]) (fun p w'=>aG w3 w'∧cf w3.heap.size b p.1 w'∧ci [tag] p.2 w') #[true,true,true,true,true,false,true,true,true,true,false,false] 3 ?_ (fun join=>?_)
 rotate_left
 ·refine rI 0 4 (by kernel_rfl) JL JL ?_ ?_
  ·obtain⟨v16,w16,hr16,x16,o16,ob16⟩:=dL (w:=w3.drew) w3.heap.size [] (by simp) hd.size
   have e16:=hd.trans x16
   refine aJ (vs:=[]) JL JL hr16 (cn e16 (rI 2 4 (by kernel_rfl) JL JL ?_ ?_))
   ·obtain⟨v18,w18,hr18,o18,g18⟩:=cH (ty:=28) o16 (hb.ext (x3.trans e16)) (by simp;omega) e16.size
    have e18:=aG.of_grew e16 g18 o16.ge
    obtain⟨v20,w20,hr20,x20,o20,_⟩:=dL (w:=w18) w3.heap.size [tag] (by simp) e18.size
    refine aW JL JL hr18 (cn e18 (ei 4 (by kernel_rfl) JL ?_))
    exact aJ (vs:=[(0,U8 tag)]) rfl rfl hr20 (cn (e18.trans x20) (xw (by kernel_rfl) (join _ _ ⟨(v18,v20),⟨rfl,rfl,rfl,rfl,rfl,trivial⟩,e18.trans x20,by simpa using o18.ext x20,o20.bts⟩)))
   ·obtain⟨v20,w20,hr20,x20,o20,ob20⟩:=dL (w:=w16) w3.heap.size [tag] (by simp) e16.size
    have e20:=e16.trans x20
    obtain⟨v18,w18,hr18,o18,g18⟩:=cH (ty:=28) (o16.ext x20) (hb.ext (x3.trans e20)) (by simp;omega) e20.size
    have e18:=aG.of_grew e20 g18 (o16.ext x20).ge
    refine aJ (vs:=[(0,U8 tag)]) JL JL hr20 (cn e20 (ei 2 (by kernel_rfl) JL ?_))
    exact aW rfl rfl hr18 (cn e18 (xw (by kernel_rfl) (join _ _ ⟨(v18,v20),⟨rfl,rfl,rfl,rfl,rfl,trivial⟩,e18,by simpa using o18,(o20.grown g18 (.inr fun e=>by rw[ob20] at e;have:=o16.lt _ e.symm;omega)).bts⟩)))
  ·obtain⟨v20,w20,hr20,x20,o20,ob20⟩:=dL (w:=w3.drew) w3.heap.size [tag] (by simp) hd.size
   have e20:=hd.trans x20
   obtain⟨v16,w16,hr16,x16,o16,ob16⟩:=dL (w:=w20) w3.heap.size [] (by simp) e20.size
   have e16:=e20.trans x16
   obtain⟨v18,w18,hr18,o18,g18⟩:=cH (ty:=28) o16 (hb.ext (x3.trans e16)) (by simp;omega) e16.size
   have e18:=aG.of_grew e16 g18 o16.ge
   refine aJ (vs:=[(0,U8 tag)]) JL JL hr20 (cn e20 (ei 0 (by kernel_rfl) JL ?_))
   refine aJ (vs:=[]) JL JL hr16 (cn e16 (ei 2 (by kernel_rfl) JL ?_))
   exact aW rfl rfl hr18 (cn e18 (xw (by kernel_rfl) (join _ _ ⟨(v18,v20),⟨rfl,rfl,rfl,rfl,rfl,trivial⟩,e18,by simpa using o18,((o20.ext x16).grown g18 (.inr fun e=>by rw[ob16] at e;have:=o20.lt _ e;omega)).bts⟩)))
 rintro⟨v18,v20⟩ w20 ⟨e20,o18,b20⟩
 dsimp only at o18 b20
 obtain⟨v21,w21,hr21,o21,g21⟩:=cH (ty:=28) o18 b20 (by simp;omega) e20.size
 have x21:=aG.of_grew e20 g21 o18.ge
 refine ei 5 (by kernel_rfl) JL ?_
 refine aW JL JL hr21 (cn x21 (ei 10 (by kernel_rfl) JL ?_))
 refine am bZ JL JL (cc (n:=UInt64.ofNat n.lems.length) o21.bts (by simp;omega)) ?_
 rintro v26 w26 ⟨x26,o26⟩
 rw[hun] at o26
 have b26:=o26.bts
 have e26:=x21.trans x26
 refine cn e26 (ei 11 (by kernel_rfl) JL ?_)
 refine ac JL JL (cn e26 (pq (by kernel_rfl) ?_))
 refine ab (af (af (aa (ac JL JL (ag (ab (av ?_)))))))
 refine dA (fun(i:Nat) (u:Value)=>[(0,u),(3,.pointer (some ⟨g3,0,none⟩)),(5,U8 tag),(6,I (i:Int))]) (fun(i:Nat) (u:Value) w'=>aG w3 w'∧i≤n.lems.length∧ci (b++[tag]++uv n.lems.length++(n.lems.take i).flatMap fH) u w') (fun(i:Nat) (u:Value)=>n.lems.length-i) (0) (v26) ⟨rfl,rfl,rfl,rfl,trivial⟩ ⟨e26,by omega,by simpa using b26⟩ ?_
 rintro i u wL ⟨eL,hi,bL⟩
 refine af (af ?_)
 obtain⟨pre,hpre⟩:∃pre,pre=b++[tag]++uv n.lems.length++(n.lems.take i).flatMap fH:=⟨_,rfl⟩
 have hprl:pre.length=b.length+1+(uv n.lems.length).length+((n.lems.take i).flatMap fH).length:=by rw[hpre];simp only[List.length_append,List.length_cons,List.length_nil]
 have hfi:=lw (f:=fH) n.lems i
 rw[←hpre] at bL
 refine aa (ae JL JL (ah JL JL (aI (o:=0) Jg JL (by kernel_rfl) JL) (ak JL JL (ai Jo JL (eL.cell_some (k3.cell (i:=0) JL))) ?_)))
 refine aP JL JL (bO Jo (hl.ext (x3.trans eL))) (aj JL JL JL (aS) (ag (ab ?_)))
 refine ba JL (fun h31=>?_) (fun h31=>?_)
 ·refine ar (ab (af (av (af (aa (ah JL JL (aI (o:=0) Jg JL (by kernel_rfl) JL) (ak JL JL (ai Jo JL (eL.cell_some (k3.cell (i:=0) JL))) ?_)))))))
  refine ae JL JL ?_
  obtain⟨a37,c37,p37,q37,h37⟩:=cO (P:=Tryz.prog) (sz:=6) Jo (by kernel_rfl) dW (by omega) (hl.ext (x3.trans eL)) (i:=i) (by omega) .i64
  obtain⟨e37,he37⟩:∃e,e=n.lems[i]'(by omega):=⟨_,rfl⟩
  rw[←he37] at h37
  obtain⟨x37_0,x37_1,x37_2,rfl,f37_0,f37_1,f37_2⟩:=fz h37
  refine ap JL JL JL (p37 _) ?_
  have hm:=wl e37 (by rw[he37];exact List.getElem_mem _)
  have hfl:=eY (f:=fH) (l:=n.lems) (i:=i) (by omega)
  rw[←he37] at hfl
  have hml:(fH e37).length=(dS e37.un).length+1+(iR e37.va).length+(kW e37.pf).length:=by simp only[fH,List.length_append,oT]
  refine ak JL JL (q37.ld Jr JL (by kernel_rfl)) ?_
  obtain⟨g7,w7,hr7,l7,x7,k7⟩:=bc (P:=Tryz.prog) (w:=wL) (t:=147) (z:=.agg #[I 0,B false,B false,.slice none 0 0,.slice none 0 0,.slice none 0 0]) (l:=[I 0,B false,B false,.slice none 0 0,.slice none 0 0,.slice none 0 0]) (by kernel_rfl) rfl
  refine bf JL hr7 ?_
  obtain⟨w10_6,s10_6,q10_6,k10_6⟩:=k7.stS (P:=Tryz.prog) (t:=147) (m:=[I e37.un,B e37.up,B e37.va.1,x37_0,x37_1,x37_2]) rfl (by kernel_rfl) (aL.cons rfl (aL.cons rfl (aL.cons rfl (aL.cons f37_0.one (aL.cons f37_1.one (aL.cons f37_2.one aL.nil))))))
  refine aC JL JL s10_6 ?_
  have x10_6:=aG.of_new (x7) q10_6 l7
  refine ag (ab (af (aa (ac JL JL (ag (ab (af ?_)))))))
  refine eK (fun t:UInt8=>[(0,u),(3,.pointer (some ⟨g3,0,none⟩)),(5,U8 tag),(6,I (i:Int)),(7,.pointer (some ⟨g7,0,none⟩)),(8,U8 t)]) (fun t w'=>w10_6=w'∧[t]=xL e37.up) ?_ ?_
  ·refine af (aa (ah JL JL (aI (o:=1) Jr JL (by kernel_rfl) JL) (ak JL JL (ai Jq JL (k10_6.cell (i:=1) JL)) ?_)))
   refine ag (ab ?_)
   refine eZ JL (fun h40=>?_) (fun h40=>?_)
   ·refine aa (ac JL JL (ag ?_))
    exact cr (1) ⟨rfl,rfl,rfl,rfl,rfl,rfl,trivial⟩ ⟨rfl,by rw[h40];rfl⟩
   ·refine ar ?_
    exact cr (0) ⟨rfl,rfl,rfl,rfl,rfl,rfl,trivial⟩ ⟨rfl,by rw[h40];rfl⟩
  rintro up _ ⟨rfl,hup⟩
  refine ab (af (aa (ae JL JL (ah JL JL (aI (o:=0) Jr JL (by kernel_rfl) JL) (ak JL JL (ai Jh JL (k10_6.cell (i:=0) JL)) ?_)))))
  refine am fT JL JL ((fU (n:=e37.un) (bL.ext x10_6) (by omega) hm.1.1 hm.1.2)) ?_
  rintro v44 w44 ⟨x44,o44⟩
  have o44:cf _ (pre++dS e37.un) _ _:=o44
  refine ae JL JL ?_
  obtain⟨v46,w46,hr46,x46,o46,ob46⟩:=dL (w:=w44) w44.heap.size [up] (by simp) (Nat.le_refl _)
  refine aJ (vs:=[(0,U8 up)]) JL JL hr46 ?_
  obtain⟨v47,w47,hr47,o47,g47⟩:=cH (ty:=28) (o44.ext x46) o46.bts (by simp only[List.length_append,List.length_cons,List.length_nil];omega) ((x44.trans x46)).size
  have x47:=aG.of_grew ((x44.trans x46)) g47 (o44.ext x46).ge
  refine aW JL JL hr47 ?_
  have b47:ci (pre++dS e37.un++xL e37.up) v47 w47:=by rw[←hup];exact o47.bts
  have hqa:=oF e37.va
  refine ac JL JL (ag (ab (bm 7 [3,5,6,54] (by kernel_rfl) (by kernel_rfl) ?_)))
  refine ao rfl rfl (aF rfl rfl (fun w hw=>aI (o:=2) Tryz.underlying147 rfl (by kernel_rfl) rfl) (aD rfl rfl (fun w hw=>((k10_6.ext x47).ext hw).ldO (ms:=[B e37.va.1,x37_0,x37_1]) (o:=2) (fun j v hj=>by rcases j with _|_|_|_|_|_|_|_|_|j<;>simp_all) Tryz.underlying55 rfl (by kernel_rfl)) ?_))
  refine bW (S:=ci (pre++dS e37.un++xL e37.up++iR e37.va)) iP (ci.stable _) rfl (fun w hw=>by rintro _ rfl _ rfl;exact bD.mono (iQ (b47.ext hw) (dw.mk ((f37_0.ext (x10_6.trans x47)).ext hw) ((f37_1.ext (x10_6.trans x47)).ext hw)) (by simp only[List.length_append,oT];omega)) fun v w' h=>⟨h.1,h.2.bts⟩) ?_
  refine aF JL JL (fun w hw=>aI (o:=5) Jr JL (by kernel_rfl) JL) (aD JL JL (fun w hw=>ai Jp JL (hw.cell_some (x47.cell_some (k10_6.cell (i:=5) JL)))) ?_)
  refine bW (S:=ci (pre++dS e37.un++xL e37.up++iR e37.va++kW e37.pf)) sX (ci.stable _) rfl (fun w hw=>by rintro _ h51 _ rfl;exact s9 h51 ((f37_2.ext (x10_6.trans x47)).ext hw) hm.2 (by simp only[List.length_append,oT];omega)) ?_
  refine bu ?_
  intro wg15 xg15
  rintro _ rfl
  rintro _ rfl
  rintro _ rfl
  intro vg54 b54
  refine ac JL JL (ag (aM (ab (aa (ae JL JL (aj (r:=I ((i+1:Nat):Int)) JL JL JL (by have e:((i+1:Nat):Int)=(i:Int)+1:=(by omega);rw[e];exact aE (by omega) (by omega)) ?_))))))
  refine ac JL JL (ag ?_)
  refine cF (i+1) (vg54) ⟨rfl,rfl,rfl,rfl,trivial⟩ ⟨(((eL.trans x10_6).trans x47).trans xg15),by omega,by
   have h:ci (pre++dS e37.un++xL e37.up++iR e37.va++kW e37.pf) vg54 wg15:=b54
   rw[cQ (by omega),←he37,←List.append_assoc,←hpre]
   simpa only[fH,List.append_assoc] using h⟩ (by omega)
 ·refine aX (aA (aA (aV (ab (af (af ?_))))))
  rw[List.take_of_length_le (by omega)] at hpre
  by_cases hk0:n.kids.length=0
  ·refine aa (ae JL JL (aj (v:=U8 2) JL JL JL (dv (by rw[htag,if_pos hk0];split<;>decide) jV) (ag (ab (bJ JL (af (aa (ae JL JL ?_))))))))
   refine ah JL JL (aI (o:=8) Jg JL (by kernel_rfl) JL) (ak JL JL (ai Jp JL (eL.cell_some (k3.cell (i:=8) JL))) ?_)
   refine am sX JL JL ((s9 bL (hp.ext ((x3.trans eL))) wp (by rw[if_pos hk0] at htl;omega))) ?_
   rintro v60 w60 ⟨x60,b60⟩
   refine ac JL JL (ag (ab (au (ax (az JL JL ?_)))))
   exact⟨_,rfl,((x3.trans eL).trans x60),by
    have ht:[tag]=xL n.empty:=by rw[htag,if_pos hk0];cases n.empty<;>rfl
    rw[hpre,ht] at b60
    rw[hen,if_pos hk0]
    simpa only[fe,List.append_assoc] using b60⟩
  ·refine aa (ae JL JL (aj (v:=U8 2) JL JL JL (eF (by rw[htag,if_neg hk0];decide) jV) (ag (ab (dI JL (ar (ab (af (aa (ae JL JL ?_))))))))))
   refine ah rfl rfl (aI (o:=1) Tryz.underlying83 rfl (by kernel_rfl) rfl) (ak rfl rfl ((k3.ext eL).ldO (ms:=[I n.split.kd,I n.split.ix,B n.split.at_.1,x,y]) (o:=1) (fun j v hj=>by rcases j with _|_|_|_|_|_|_|_|_|j<;>simp_all) Tryz.underlying80 rfl (by kernel_rfl)) ?_)
   refine am Aj JL JL ((Al (d:=n.split) bL (hx.ext ((x3.trans eL))) (hy.ext ((x3.trans eL))) wd (by rw[if_neg hk0] at htl;omega))) ?_
   rintro v64 w64 ⟨x64,b64⟩
   refine ac JL JL (ag (ab (af (af (aa (ac JL JL (ag (ab (av ?_)))))))))
   refine dA (fun(j:Nat) (u2:Value)=>[(0,u2),(3,.pointer (some ⟨g3,0,none⟩)),(9,I (j:Int))]) (fun(j:Nat) (u2:Value) w'=>aG w3 w'∧j≤n.kids.length∧ci (pre++kV n.split++(n.kids.take j).flatMap cG) u2 w') (fun(j:Nat) (u2:Value)=>n.kids.length-j) (0) (v64) ⟨rfl,rfl,rfl,trivial⟩ ⟨(eL.trans x64),by omega,by simpa using b64⟩ ?_
   rintro j u2 wM ⟨eM,hj,bM⟩
   refine af (af (aa (ae JL JL (ah JL JL (aI (o:=6) Jg JL (by kernel_rfl) JL) (ak JL JL (ai Jk JL (eM.cell_some (k3.cell (i:=6) JL))) ?_)))))
   refine aP JL JL (bO Jk (hk.ext (x3.trans eM))) (aj JL JL JL (aS) (ag (ab ?_)))
   refine ba JL (fun h69=>?_) (fun h69=>?_)
   ·refine ar (ab (af (av (aa (ae JL JL (ah JL JL (aI (o:=6) Jg JL (by kernel_rfl) JL) (ak JL JL (ai Jk JL (eM.cell_some (k3.cell (i:=6) JL))) ?_)))))))
    refine ae JL JL ?_
    obtain⟨a76,c76,p76,q76,h76⟩:=cO (P:=Tryz.prog) (sz:=9) Jk (by kernel_rfl) bK (by omega) (hk.ext (x3.trans eM)) (i:=j) (by omega) .i64
    obtain⟨e76,he76⟩:∃e,e=n.kids[j]'(by omega):=⟨_,rfl⟩
    rw[←he76] at h76
    obtain⟨x76_0,x76_1,x76_2,x76_3,x76_4,rfl,f76_0,f76_1,f76_2,f76_3,f76_4⟩:=dh h76
    refine ap JL JL JL (p76 _) ?_
    have hmem:e76∈n.kids:=by rw[he76];exact List.getElem_mem _
    have hfk:=eY (f:=cG) (l:=n.kids) (i:=j) (by omega)
    rw[←he76] at hfk
    refine ak JL JL (q76.ld Tryz.underlying83 JL (by kernel_rfl)) (am sY JL JL ((ih e76 hmem bM f76_0 f76_1 f76_2 f76_3 f76_4 (wk e76 hmem) (by rw[if_neg hk0] at htl;simp only[List.length_append];omega))) ?_)
    rintro v78 w78 ⟨x78,b78⟩
    refine ac JL JL (ag (aM (ab (aa (ae JL JL (aj (r:=I ((j+1:Nat):Int)) JL JL JL (by have e:((j+1:Nat):Int)=(j:Int)+1:=(by omega);rw[e];exact aE (by omega) (by omega)) ?_))))))
    refine ac JL JL (ag ?_)
    refine cF (j+1) (v78) ⟨rfl,rfl,rfl,trivial⟩ ⟨(eM.trans x78),by omega,by rw[cQ (by omega),←he76,←List.append_assoc];exact b78⟩ (by omega)
   ·refine aX (aA (aA (aV (ab (af (aa (ae JL JL (ac JL JL (ag (ab (au (az JL JL ?_))))))))))))
    exact⟨_,rfl,(x3.trans eM),by
     have ht:tag=2:=by rw[htag,if_neg hk0]
     rw[List.take_of_length_le (by omega),hpre,ht] at bM
     rw[hen,if_neg hk0]
     simpa only[fe,List.append_assoc] using bM⟩
theorem ta:∀(m:Nat) {n:aN},SizeOf.sizeOf n≤m→∀{w:World} {b:List UInt8} {bv vl x y vk vp:Value},ci b bv w→cK dm n.lems vl w→bj n.split.at_.2.1 x w→bj n.split.at_.2.2 y w→cK bh n.kids vk w→cK cd n.pf vp w→wN n→b.length+(cG n).length≤4398046511104→
 Calls Tryz.prog 93 #[bv,.agg #[vl,I n.split.kd,I n.split.ix,B n.split.at_.1,x,y,vk,B n.empty,vp]] w (bD fun r w'=>aG w w'∧ci (b++cG n) r w')
 |0,n,hm=>by cases n;simp at hm
 |m+1,n,hm=>fun h1 h2 h3 h4 h5 h6 h7 h8=>Am (fun k hk _ _ _ _ _ _ _ _=>ta m (by have:=aN.lt_of_mem hk;omega)) h1 h2 h3 h4 h5 h6 h7 h8
theorem wu {w:World} {ts:List aN} {v:Value} (hd:cK bh ts v w) (hw:∀n∈ts,wN n) (hl:(df ts).length≤4398046511104):
 Calls Tryz.prog 52 #[v] w (bD fun r w'=>aG w w'∧ci (df ts) r w'):=by
 refine enter (vs:=[v]) Tryz.func52 JL JL JL ?_
 have hll:=hd.len
 have hpl:(df ts).length=(uv ts.length).length+(ts.flatMap cG).length:=by simp only[df,List.length_append]
 have hun:(UInt64.ofNat ts.length).toNat=ts.length:=by rw[UInt64.toNat_ofNat'];omega
 refine af (aa (ac JL JL (ag (ab (af (aa (ae JL JL (aP JL JL (bO Jk hd) (aQ JL JL (cZ Jh Ji) ?_)))))))))
 refine am bZ JL JL ((cc (l:=[]) (n:=UInt64.ofNat ts.length) (ci.nil _) (by simp))) ?_
 rintro v8 w8 ⟨x8,o8⟩
 rw[hun,List.nil_append] at o8
 have b8:=o8.bts
 refine ac JL JL (ag (ab (af (af (aa (ac JL JL (ag (ab (av ?_)))))))))
 refine dA (fun(i:Nat) (u:Value)=>[(0,v),(3,u),(4,I (i:Int))]) (fun(i:Nat) (u:Value) w'=>aG w w'∧i≤ts.length∧ci (uv ts.length++(ts.take i).flatMap cG) u w') (fun(i:Nat) (u:Value)=>ts.length-i) (0) (v8) ⟨rfl,rfl,rfl,trivial⟩ ⟨x8,by omega,by simpa using b8⟩ ?_
 rintro i u wL ⟨eL,hi,bL⟩
 refine af (af (aa (ae JL JL (ae JL JL (aP JL JL (bO Jk (hd.ext eL)) (aj JL JL JL (aS) (ag (ab ?_))))))))
 refine ba JL (fun h12=>?_) (fun h12=>?_)
 ·refine ar (ab (af (av (aa (ae JL JL (ae JL JL (ae JL JL ?_)))))))
  obtain⟨a18,c18,p18,q18,h18⟩:=cO (P:=Tryz.prog) (sz:=9) Jk (by kernel_rfl) bK (by omega) (hd.ext eL) (i:=i) (by omega) .i64
  obtain⟨e18,he18⟩:∃e,e=ts[i]'(by omega):=⟨_,rfl⟩
  rw[←he18] at h18
  obtain⟨x18_0,x18_1,x18_2,x18_3,x18_4,rfl,f18_0,f18_1,f18_2,f18_3,f18_4⟩:=dh h18
  refine ap JL JL JL (p18 _) ?_
  have hfl:=eY (f:=cG) (l:=ts) (i:=i) (by omega)
  rw[←he18] at hfl
  have hmem:e18∈ts:=by rw[he18];exact List.getElem_mem _
  refine ak JL JL (q18.ld Tryz.underlying83 JL (by kernel_rfl)) (am sY JL JL ((ta _ (Nat.le_refl _) bL f18_0 f18_1 f18_2 f18_3 f18_4 (hw e18 hmem) (by simp only[List.length_append];omega))) ?_)
  rintro v20 w20 ⟨x20,b20⟩
  refine ac JL JL (ag (aM (ab (aa (ae JL JL (aj (r:=I ((i+1:Nat):Int)) JL JL JL (by have e:((i+1:Nat):Int)=(i:Int)+1:=(by omega);rw[e];exact aE (by omega) (by omega)) ?_))))))
  refine ac JL JL (ag ?_)
  refine cF (i+1) (v20) ⟨rfl,rfl,rfl,trivial⟩ ⟨(eL.trans x20),by omega,by rw[cQ (by omega),←he18,←List.append_assoc];exact b20⟩ (by omega)
 ·refine aX (aA (aA (aV (ab (af (aa (ae JL JL (ac JL JL (ag (ab (au (az JL JL ?_))))))))))))
  exact⟨_,rfl,eL,by rw[List.take_of_length_le (by omega)] at bL;exact bL⟩
end Go.Rl
namespace Go.Rl
open Go.RowKit Go.Proofs
theorem oW {w:World} {d:List UInt8} {ts:List aN} {tv:Value} (hd:d.length=32) (ht:cK bh ts tv w) (hs:∀n∈ts,sN n) (hw:∀n∈ts,wN n) (hb:(df ts).length≤1099511627776):
 Calls Tryz.prog 18 #[.agg (it d tv).toArray] w (bD fun r w'=>aG w w'∧jq w.heap.size (d,ts) r w'):=by
 refine enter (vs:=[.agg (it d tv).toArray]) Tryz.func18 JL JL JL ?_
 have hll:=ht.len
 refine af (aa ?_)
 obtain⟨g1,w1,hr1,l1,x1,k1⟩:=cI (P:=Tryz.prog) (w:=w) (T:=25) (cs:=it d tv)
 refine cx JL JL hr1 ?_
 have c1:=sV k1 hd
 refine ac JL JL (ac JL JL (ag (ab (af (af (aa (ac JL JL (ag (ab (av ?_))))))))))
 refine ck (α:=Nat) (fun i=>[(1,.pointer (some ⟨g1,0,none⟩)),(4,I (i:Int))]) (fun i w'=>aG w w'∧aG w1 w'∧i≤ts.length∧(ts.all fun n=>eS n&&eU n)=((ts.drop i).all fun n=>eS n&&eU n)) (fun i=>ts.length-i) (0) ⟨rfl,rfl,trivial⟩ ⟨x1,aG.refl _,by omega,rfl⟩ ?_
 rintro i wL ⟨eL,e1L,hi,hall⟩
 refine af (af ?_)
 have c1L:=e1L.cell_some c1
 have htL:=ht.ext eL
 refine aa (ae JL JL ?_)
 refine ah JL JL gF ?_
 refine ak JL JL (ai Jk JL c1L) (aP JL JL (bO Jk htL) (aj JL JL JL (aS) (ag ?_)))
 refine ab ?_
 refine ba JL (fun h11=>?_) (fun h11=>?_)
 ·refine ar (ab (af (av (af ?_))))
  obtain⟨em,hem⟩:∃em,em=ts[i]'(by omega):=⟨_,rfl⟩
  have hmem:em∈ts:=by rw[hem];exact List.getElem_mem _
  rcases hv1:eS em
  rotate_left
  rcases hv2:eU em
  ·refine aa ?_
   refine ah JL JL gF ?_
   refine ak JL JL (ai Jk JL c1L) (ae JL JL ?_)
   obtain⟨a17,c17,p17,q17,h17⟩:=cO (P:=Tryz.prog) (sz:=9) Jk (by kernel_rfl) bK (by omega) htL (i:=i) (by omega) .i64
   rw[←hem] at h17
   obtain⟨x17_0,x17_1,x17_2,x17_3,x17_4,rfl,f17_0,f17_1,f17_2,f17_3,f17_4⟩:=dh h17
   refine ap JL JL JL (p17 _) (ak JL JL (q17.ld Jg JL (by kernel_rfl)) (am lZ JL JL ((by have h:=ma (n:=em) f17_0 f17_1 f17_2 f17_3 f17_4;rw[hv1] at h;exact h)) ?_))
   rintro v19 w19 ⟨x19,rfl⟩
   refine bB JL JL bF (ae JL JL (al JL ?_))
   have c22:=((e1L.trans x19)).cell_some c1
   have htM:=ht.ext ((eL.trans x19))
   refine ah JL JL gF ?_
   refine al JL (ak JL JL (ai Jk JL c22) (al JL (ae JL JL (al JL (ap JL JL JL (p17 _) (al JL (ak JL JL ((q17.ext x19).ld Jg JL (by kernel_rfl)) ?_)))))))
   refine al JL (am pQ JL JL ((by have h:=pR _ (Nat.le_refl _) (n:=em) (f17_0.ext x19) (f17_1.ext x19) (f17_2.ext x19) (f17_3.ext x19) (f17_4.ext x19) (hs em hmem);rw[hv2] at h;exact h)) ?_)
   rintro v27 w27 ⟨x27,rfl⟩
   refine al JL (bB JL JL bF (aH JL JL JL (ag (ab (bJ JL (af (aa (ac JL JL (ac JL JL (ag (ab (au (aT (ax (ax (aT ?_))))))))))))))))
   refine ax (aR JL JL JL ?_)
   exact⟨_,rfl,((eL.trans x19).trans x27),jq.err (wo (jp (p:=fun n=>eS n&&eU n) (i:=i) (by omega) hall (by rw[←hem,hv1,hv2];rfl)))⟩
  ·refine aa ?_
   refine ah JL JL gF ?_
   refine ak JL JL (ai Jk JL c1L) (ae JL JL ?_)
   obtain⟨a17,c17,p17,q17,h17⟩:=cO (P:=Tryz.prog) (sz:=9) Jk (by kernel_rfl) bK (by omega) htL (i:=i) (by omega) .i64
   rw[←hem] at h17
   obtain⟨x17_0,x17_1,x17_2,x17_3,x17_4,rfl,f17_0,f17_1,f17_2,f17_3,f17_4⟩:=dh h17
   refine ap JL JL JL (p17 _) (ak JL JL (q17.ld Jg JL (by kernel_rfl)) (am lZ JL JL ((by have h:=ma (n:=em) f17_0 f17_1 f17_2 f17_3 f17_4;rw[hv1] at h;exact h)) ?_))
   rintro v19 w19 ⟨x19,rfl⟩
   refine bB JL JL bF (ae JL JL (al JL ?_))
   have c22:=((e1L.trans x19)).cell_some c1
   have htM:=ht.ext ((eL.trans x19))
   refine ah JL JL gF ?_
   refine al JL (ak JL JL (ai Jk JL c22) (al JL (ae JL JL (al JL (ap JL JL JL (p17 _) (al JL (ak JL JL ((q17.ext x19).ld Jg JL (by kernel_rfl)) ?_)))))))
   refine al JL (am pQ JL JL ((by have h:=pR _ (Nat.le_refl _) (n:=em) (f17_0.ext x19) (f17_1.ext x19) (f17_2.ext x19) (f17_3.ext x19) (f17_4.ext x19) (hs em hmem);rw[hv2] at h;exact h)) ?_)
   rintro v27 w27 ⟨x27,rfl⟩
   refine al JL (bB JL JL bF (aH JL JL JL (ag (ab (dI JL (ar (aM (ab (aa (ae JL JL (aj (r:=I ((i+1:Nat):Int)) JL JL JL (by have e:((i+1:Nat):Int)=(i:Int)+1:=(by omega);rw[e];exact aE (by omega) (by omega)) ?_)))))))))))
   refine ac JL JL (ag ?_)
   refine bN (i+1) ⟨rfl,rfl,trivial⟩ ⟨((eL.trans x19).trans x27),((e1L.trans x19).trans x27),by omega,mh (p:=fun n=>eS n&&eU n) (by omega) hall (by rw[←hem,hv1,hv2];rfl)⟩ (by omega)
  ·refine aa ?_
   refine ah JL JL gF ?_
   refine ak JL JL (ai Jk JL c1L) (ae JL JL ?_)
   obtain⟨a17,c17,p17,q17,h17⟩:=cO (P:=Tryz.prog) (sz:=9) Jk (by kernel_rfl) bK (by omega) htL (i:=i) (by omega) .i64
   rw[←hem] at h17
   obtain⟨x17_0,x17_1,x17_2,x17_3,x17_4,rfl,f17_0,f17_1,f17_2,f17_3,f17_4⟩:=dh h17
   refine ap JL JL JL (p17 _) (ak JL JL (q17.ld Jg JL (by kernel_rfl)) (am lZ JL JL ((by have h:=ma (n:=em) f17_0 f17_1 f17_2 f17_3 f17_4;rw[hv1] at h;exact h)) ?_))
   rintro v19 w19 ⟨x19,rfl⟩
   refine bB JL JL bF (ae JL JL (aq JL JL JL (aq JL JL JL (aq JL JL JL (aq JL JL JL (aq JL JL JL (aq JL JL JL (aq JL JL JL (aB JL JL JL ?_)))))))))
   refine ag (ab (bJ JL (af (aa (ac JL JL (ac JL JL (ag (ab (au (aT (ax (ax (aT (ax (aR JL JL JL ?_)))))))))))))))
   exact⟨_,rfl,(eL.trans x19),jq.err (wo (jp (p:=fun n=>eS n&&eU n) (i:=i) (by omega) hall (by rw[←hem,hv1];rfl)))⟩
 ·refine aX (aA (aA (aV (ab (af ?_)))))
  have hav:=jE (p:=fun n=>eS n&&eU n) (by omega) hall
  refine aa ?_
  refine ah JL JL gF ?_
  refine ak JL JL (ai Jk JL c1L) (am wr JL JL ((wu htL hw (by omega))) ?_)
  rintro v32 w32 ⟨x32,b32⟩
  refine ac JL JL (ag (ab (af (af (aa (ae JL JL (aP JL JL (bP b32) (aj JL JL JL (cg) (ag (ab ?_))))))))))
  refine ba JL (fun h35=>?_) (fun h35=>?_)
  ·refine af (aa (ac JL JL (ac JL JL (ag (ab (au (ax (aR JL JL JL ?_))))))))
   exact⟨_,rfl,(eL.trans x32),jq.err (uB hav (by omega))⟩
  ·refine ar (ab (af ?_))
   have hpk:=li (d:=df ts) (by omega)
   refine bm 5 [40] (by kernel_rfl) (by kernel_rfl) ?_
   refine aF rfl rfl (fun w hw=>FI) (aD rfl rfl (fun w hw=>Ie ((k1.ext ((e1L.trans x32))).ext hw) hd) (ao rfl rfl (bW (S:=ci (bQ (df ts))) zT (ci.stable _) rfl (fun w hw=>by rintro _ rfl;exact bD.mono (zU (b32.ext hw) (by omega)) fun v w' h=>h) ?_)))
   refine bW (S:=cf w.heap.size (ew d (bQ (df ts)))) Ag (cf.stable _ _) rfl (fun w hw=>by rintro _ rfl _ h39;exact bD.mono (Ai hd h39 (by omega)) fun v w' h=>⟨h.1,h.2.low (Nat.le_trans ((eL.trans x32)).size hw.size)⟩) ?_
   refine bu ?_
   intro wg9 xg9
   intro vg40 o40
   refine ac JL JL (ag (ab (af (af (aa (ae JL JL ?_))))))
   have b40:=o40.bts
   refine aP JL JL (bP b40) ?_
   refine aj JL JL JL (cg) (ag (ab ?_))
   refine ba JL (fun h43=>?_) (fun h43=>?_)
   ·refine af (aa (ac JL JL (ac JL JL (ag (ab (au (ax (aR JL JL JL ?_))))))))
    exact⟨_,rfl,((eL.trans x32).trans xg9),jq.err (yA hav (by omega) (by omega))⟩
   ·refine ar (ab (af (aa (ae JL JL (ac JL JL (ac JL JL (ag (ab (au (aR JL JL JL ?_))))))))))
    exact⟨_,rfl,((eL.trans x32).trans xg9),jq.ok (wq hav (by omega) (by omega)) o40⟩
end Go.Rl
namespace Go.Rl
open Go.RowKit Go.Proofs
theorem nk:aw Tryz.prog 94:=⟨_,Tryz.func94,by kernel_rfl,rfl⟩
theorem oY:aw Tryz.prog 44:=⟨_,Tryz.func44,by kernel_rfl,rfl⟩
theorem oZ:aw Tryz.prog 16:=⟨_,Tryz.func16,by kernel_rfl,rfl⟩
theorem my {α:Type} {f:α→Nat} {l:List α} {i:Nat} (hi:i<l.length):((l.take (i+1)).map f).sum=((l.take i).map f).sum+f l[i]:=by
 rw[List.take_succ_eq_append_getElem hi,List.map_append,List.sum_append]
 simp
theorem An {α:Type} {f:α→Nat} (l:List α) (i:Nat):((l.take i).map f).sum≤(l.map f).sum:=by
 have h:(l.map f).sum=((l.take i).map f).sum+((l.drop i).map f).sum:=by rw[←List.sum_append,←List.map_append,List.take_append_drop]
 omega
theorem qQ {α:Type} {f:α→Nat} {l:List α} {i:Nat} (hi:i<l.length):((l.take i).map f).sum+f l[i]≤(l.map f).sum:=by
 rw[←my hi]
 exact An l (i+1)
def mQ (m:cB):Nat:=1+m.co.2.1.length+m.co.2.2.length
def mP (l:List cB):Nat:=(l.map mQ).sum
def mL (m:fE):Nat:=m.va.2.1.length+m.va.2.2.length+mP m.pf
mutual
def eP:aN→Nat
 |.mk l _ ks _ p=>1+l.length+mP p+(l.map mL).sum+wv ks
def wv:List aN→Nat
 |[]=>0
 |n::l=>eP n+wv l
end
theorem tb:∀l:List aN,wv l=(l.map eP).sum
 |[]=>rfl
 |n::l=>by simp only[wv,List.map_cons,List.sum_cons,tb l]
theorem yB (n:aN):eP n=1+n.lems.length+mP n.pf+(n.lems.map mL).sum+(n.kids.map eP).sum:=by
 cases n with
 |mk l s k e p=>simp only[eP,tb];rfl
theorem nl {w:World} {l:List cB} {v:Value} (hv:cK cd l v w) (hb:mP l≤1099511627776):
 Calls Tryz.prog 94 #[v] w (bD fun r w'=>aG w w'∧r=I (mP l:Int)):=by
 refine enter (vs:=[v]) Tryz.func94 JL JL JL ?_
 have hll:=hv.len
 refine af (aa (ac JL JL (ag (ab (af (aa (ac JL JL (ag (ab (af (af (aa (ac JL JL (ag (ab (av ?_))))))))))))))))
 refine dA (fun(i:Nat) (k:Nat)=>[(0,v),(3,I (k:Int)),(4,I (i:Int))]) (fun(i:Nat) (k:Nat) w'=>aG w w'∧i≤l.length∧k=((l.take i).map mQ).sum) (fun(i:Nat) (k:Nat)=>l.length-i) (0) (0) ⟨rfl,rfl,rfl,trivial⟩ ⟨aG.refl _,by omega,rfl⟩ ?_
 rintro i k wL ⟨eL,hi,hk⟩
 refine af (af (aa (ae JL JL (ae JL JL (aP JL JL (bO Jp (hv.ext eL)) (aj JL JL JL (aS) (ag (ab ?_))))))))
 refine ba JL (fun h8=>?_) (fun h8=>?_)
 ·refine ar (ab (af (av ?_)))
  have hsl:=qQ (f:=mQ) (l:=l) (i:=i) (by omega)
  have hsn:=my (f:=mQ) (l:=l) (i:=i) (by omega)
  have hml:(l.map mQ).sum≤1099511627776:=hb
  refine bm 18 [0,4,28] (by kernel_rfl) (by kernel_rfl) ?_
  refine ao JL JL (ao JL JL (ao JL JL ?_))
  obtain⟨a14,c14,p14,q14,h14⟩:=cO (P:=Tryz.prog) (sz:=7) Jp (by kernel_rfl) fy (by omega) (hv.ext eL) (i:=i) (by omega) .i64
  obtain⟨e14,he14⟩:∃e,e=l[i]'(by omega):=⟨_,rfl⟩
  rw[←he14] at h14
  obtain⟨x14_0,x14_1,rfl,f14_0,f14_1⟩:=j9 h14
  refine ay JL JL JL (fun w _=>p14 w) ?_
  rw[←he14] at hsl hsn
  have hq:mQ e14=1+e14.co.2.1.length+e14.co.2.2.length:=rfl
  refine aF JL JL (fun w hw=>jM (o:=4) Jy JL (by kernel_rfl) JL) (aF JL JL (fun w hw=>AW (b:=4) (o:=1) Jj JL (by kernel_rfl) JL) ?_)
  refine aD JL JL (fun w hw=>ai Je JL (hw.cell_some (q14.at (j:=5) JL))) (gN (vs:=[x14_0]) JL JL (fun w hw=>be Je (f14_0.ext hw)) ?_)
  refine aO (r:=I ((1+e14.co.2.1.length:Nat):Int)) JL JL JL (fun w _=>by have e:((1+e14.co.2.1.length:Nat):Int)=1+(e14.co.2.1.length:Int):=(by omega);rw[e];exact aE (by omega) (by omega)) ?_
  refine ao JL JL (ao JL JL (ay JL JL JL (fun w _=>p14 w) (aF JL JL (fun w hw=>jM (o:=4) Jy JL (by kernel_rfl) JL) ?_)))
  refine aF JL JL (fun w hw=>AW (b:=4) (o:=2) Jj JL (by kernel_rfl) JL) (aD JL JL (fun w hw=>ai Je JL (hw.cell_some (q14.at (j:=6) JL))) ?_)
  refine gN (vs:=[x14_1]) JL JL (fun w hw=>be Je (f14_1.ext hw)) (aO (r:=I (((1+e14.co.2.1.length:Nat)+e14.co.2.2.length:Nat):Int)) JL JL JL (fun w _=>by have e:(((1+e14.co.2.1.length:Nat)+e14.co.2.2.length:Nat):Int)=((1+e14.co.2.1.length:Nat):Int)+(e14.co.2.2.length:Int):=(by omega);rw[e];exact aE (by omega) (by omega)) ?_)
  refine aO (r:=I ((k+((1+e14.co.2.1.length:Nat)+e14.co.2.2.length:Nat):Nat):Int)) JL JL JL (fun w _=>by have e:((k+((1+e14.co.2.1.length:Nat)+e14.co.2.2.length:Nat):Nat):Int)=(k:Int)+(((1+e14.co.2.1.length:Nat)+e14.co.2.2.length:Nat):Int):=(by omega);rw[e];exact aE (by omega) (by omega)) ?_
  refine bu ?_
  intro wg5 xg5
  rintro _ hq0
  obtain rfl:=Eq.symm hq0
  rintro _ rfl
  rintro _ rfl
  refine ac JL JL (ag (aM (ab (aa (ae JL JL (aj (r:=I ((i+1:Nat):Int)) JL JL JL (by have e:((i+1:Nat):Int)=(i:Int)+1:=(by omega);rw[e];exact aE (by omega) (by omega)) ?_))))))
  refine ac JL JL (ag ?_)
  refine cF (i+1) (k+((1+e14.co.2.1.length)+e14.co.2.2.length)) ⟨rfl,rfl,rfl,trivial⟩ ⟨(eL.trans xg5),by omega,by omega⟩ (by omega)
 ·refine aX (aA (aA (aV (ab (af (aa (ae JL JL (ac JL JL (ag (ab (au (az JL JL ?_))))))))))))
  exact⟨_,rfl,eL,by rw[hk,List.take_of_length_le (by omega)];rfl⟩
theorem ww {w:World} {n:aN} {most:Int} {vl x y vk vp:Value}
 (ih:∀k∈n.kids,∀{w:World} {vl x y vk vp:Value},cK dm k.lems vl w→bj k.split.at_.2.1 x w→bj k.split.at_.2.2 y w→cK bh k.kids vk w→cK cd k.pf vp w→eP k≤1099511627776→
   Calls Tryz.prog 44 #[.agg #[vl,I k.split.kd,I k.split.ix,B k.split.at_.1,x,y,vk,B k.empty,vp],I most] w (bD fun r w'=>aG w w'∧∃m:Nat,r=I (m:Int)∧m≤eP k))
 (hl:cK dm n.lems vl w) (_hx:bj n.split.at_.2.1 x w) (_hy:bj n.split.at_.2.2 y w) (hk:cK bh n.kids vk w) (hp:cK cd n.pf vp w) (hb:eP n≤1099511627776):
 Calls Tryz.prog 44 #[.agg #[vl,I n.split.kd,I n.split.ix,B n.split.at_.1,x,y,vk,B n.empty,vp],I most] w (bD fun r w'=>aG w w'∧∃m:Nat,r=I (m:Int)∧m≤eP n):=by
 refine enter (vs:=[.agg #[vl,I n.split.kd,I n.split.ix,B n.split.at_.1,x,y,vk,B n.empty,vp],I most]) Tryz.func44 JL JL JL ?_
 have hll:=hl.len
 have hkl:=hk.len
 have hsz:=yB n
 refine af (aa ?_)
 obtain⟨g2,w2,hr2,l2,x2,k2⟩:=cI (P:=Tryz.prog) (w:=w) (T:=83) (cs:=[vl,I n.split.kd,I n.split.ix,B n.split.at_.1,x,y,vk,B n.empty,vp])
 refine cx JL JL hr2 (ac JL JL (ag (ab (af (bm 8 [1,2,15] (by kernel_rfl) (by kernel_rfl) ?_)))))
 refine aF JL JL (fun w hw=>aI (o:=0) Jg JL (by kernel_rfl) JL) (aD JL JL (fun w hw=>ai Jo JL (hw.cell_some (k2.cell (i:=0) JL))) ?_)
 refine gN (vs:=[vl]) JL JL (fun w hw=>bO Jo ((hl.ext x2).ext hw)) (aO (r:=I ((1+n.lems.length:Nat):Int)) JL JL JL (fun w _=>by have e:((1+n.lems.length:Nat):Int)=1+(n.lems.length:Int):=(by omega);rw[e];exact aE (by omega) (by omega)) ?_)
 refine aF JL JL (fun w hw=>aI (o:=8) Jg JL (by kernel_rfl) JL) (aD JL JL (fun w hw=>ai Jp JL (hw.cell_some (k2.cell (i:=8) JL))) ?_)
 refine bW (S:=Is (I (mP n.pf:Int))) nk (bo.is _) rfl (fun w hw=>by rintro _ rfl;exact nl ((hp.ext (x2)).ext hw) (by omega)) ?_
 refine aO (r:=I (((1+n.lems.length:Nat)+mP n.pf:Nat):Int)) JL JL JL (fun w _=>by have e:(((1+n.lems.length:Nat)+mP n.pf:Nat):Int)=((1+n.lems.length:Nat):Int)+(mP n.pf:Int):=(by omega);rw[e];exact aE (by omega) (by omega)) ?_
 refine bu ?_
 intro wg1 xg1
 rintro _ rfl
 rintro _ rfl
 rintro _ rfl
 refine ac JL JL (ag (ab (af (af (aa (ac JL JL (ag (ab (av ?_)))))))))
 refine dA (fun(i:Nat) (k:Nat)=>[(1,I most),(2,.pointer (some ⟨g2,0,none⟩)),(5,I (k:Int)),(6,I (i:Int))]) (fun(i:Nat) (k:Nat) w'=>aG w w'∧aG w2 w'∧i≤n.lems.length∧k=1+n.lems.length+mP n.pf+((n.lems.take i).map mL).sum) (fun(i:Nat) (k:Nat)=>n.lems.length-i) (0) (1+n.lems.length+mP n.pf) ⟨rfl,rfl,rfl,rfl,trivial⟩ ⟨(x2.trans xg1),xg1,by omega,rfl⟩ ?_
 rintro i k wL ⟨eL,e2L,hi,hkk⟩
 refine af (af (aa (ae JL JL (ah JL JL (aI (o:=0) Jg JL (by kernel_rfl) JL) (ak JL JL (ai Jo JL (e2L.cell_some (k2.cell (i:=0) JL))) ?_)))))
 refine aP JL JL (bO Jo (hl.ext eL)) (aj JL JL JL (aS) (ag (ab ?_)))
 refine ba JL (fun h20=>?_) (fun h20=>?_)
 ·refine ar (ab (af (av ?_)))
  have hsl:=qQ (f:=mL) (l:=n.lems) (i:=i) (by omega)
  have hsn:=my (f:=mL) (l:=n.lems) (i:=i) (by omega)
  refine bm 27 [1,2,6,49] (by kernel_rfl) (by kernel_rfl) ?_
  refine ao (S:=Is (I (k:Int))) JL JL (aF JL JL (fun w hw=>aI (o:=0) Jg JL (by kernel_rfl) JL) (aD JL JL (fun w hw=>ai Jo JL (hw.cell_some (e2L.cell_some (k2.cell (i:=0) JL)))) ?_))
  refine ao (S:=Is (I (i:Int))) JL JL ?_
  obtain⟨a27,c27,p27,q27,h27⟩:=cO (P:=Tryz.prog) (sz:=6) Jo (by kernel_rfl) dW (by omega) (hl.ext eL) (i:=i) (by omega) .i64
  obtain⟨e27,he27⟩:∃e,e=n.lems[i]'(by omega):=⟨_,rfl⟩
  rw[←he27] at h27
  obtain⟨x27_0,x27_1,x27_2,rfl,f27_0,f27_1,f27_2⟩:=fz h27
  refine ay JL JL JL (fun w _=>p27 w) ?_
  rw[←he27] at hsl hsn
  have hq:mL e27=e27.va.2.1.length+e27.va.2.2.length+mP e27.pf:=rfl
  refine aF JL JL (fun w hw=>jM (o:=2) Jr JL (by kernel_rfl) JL) (aF JL JL (fun w hw=>AW (b:=2) (o:=1) Jj JL (by kernel_rfl) JL) ?_)
  refine aD JL JL (fun w hw=>ai Je JL (hw.cell_some (q27.at (j:=3) JL))) (gN (vs:=[x27_0]) JL JL (fun w hw=>be Je (f27_0.ext hw)) ?_)
  refine aF JL JL (fun w hw=>aI (o:=0) Jg JL (by kernel_rfl) JL) (aD JL JL (fun w hw=>ai Jo JL (hw.cell_some (e2L.cell_some (k2.cell (i:=0) JL)))) ?_)
  refine ao (S:=Is (I (i:Int))) JL JL (ay JL JL JL (fun w _=>p27 w) (aF JL JL (fun w hw=>jM (o:=2) Jr JL (by kernel_rfl) JL) ?_))
  refine aF JL JL (fun w hw=>AW (b:=2) (o:=2) Jj JL (by kernel_rfl) JL) (aD JL JL (fun w hw=>ai Je JL (hw.cell_some (q27.at (j:=4) JL))) ?_)
  refine gN (vs:=[x27_1]) JL JL (fun w hw=>be Je (f27_1.ext hw)) (aO (r:=I ((e27.va.2.1.length+e27.va.2.2.length:Nat):Int)) JL JL JL (fun w _=>by have e:((e27.va.2.1.length+e27.va.2.2.length:Nat):Int)=(e27.va.2.1.length:Int)+(e27.va.2.2.length:Int):=(by omega);rw[e];exact aE (by omega) (by omega)) ?_)
  refine aF JL JL (fun w hw=>aI (o:=0) Jg JL (by kernel_rfl) JL) (aD JL JL (fun w hw=>ai Jo JL (hw.cell_some (e2L.cell_some (k2.cell (i:=0) JL)))) ?_)
  refine ao (S:=Is (I (i:Int))) JL JL (ay JL JL JL (fun w _=>p27 w) (aF JL JL (fun w hw=>jM (o:=5) Jr JL (by kernel_rfl) JL) ?_))
  refine aD rfl rfl (fun w hw=>ai Jp rfl (hw.cell_some (q27.at (j:=5) rfl))) (bW (S:=Is (I (mP e27.pf:Int))) nk (bo.is _) rfl (fun w hw=>by rintro _ rfl;exact nl (f27_2.ext hw) (by omega)) ?_)
  refine aO (r:=I (((e27.va.2.1.length+e27.va.2.2.length:Nat)+mP e27.pf:Nat):Int)) JL JL JL (fun w _=>by have e:(((e27.va.2.1.length+e27.va.2.2.length:Nat)+mP e27.pf:Nat):Int)=((e27.va.2.1.length+e27.va.2.2.length:Nat):Int)+(mP e27.pf:Int):=(by omega);rw[e];exact aE (by omega) (by omega)) ?_
  refine aO (r:=I ((k+((e27.va.2.1.length+e27.va.2.2.length:Nat)+mP e27.pf:Nat):Nat):Int)) JL JL JL (fun w _=>by have e:((k+((e27.va.2.1.length+e27.va.2.2.length:Nat)+mP e27.pf:Nat):Nat):Int)=(k:Int)+(((e27.va.2.1.length+e27.va.2.2.length:Nat)+mP e27.pf:Nat):Int):=(by omega);rw[e];exact aE (by omega) (by omega)) ?_
  refine bu ?_
  intro wg5 xg5
  rintro _ rfl
  rintro _ rfl
  rintro _ rfl
  rintro _ rfl
  refine ac JL JL (ag (aM (ab (aa (ae JL JL (aj (r:=I ((i+1:Nat):Int)) JL JL JL (by have e:((i+1:Nat):Int)=(i:Int)+1:=(by omega);rw[e];exact aE (by omega) (by omega)) ?_))))))
  refine ac JL JL (ag ?_)
  refine cF (i+1) (k+((e27.va.2.1.length+e27.va.2.2.length)+mP e27.pf)) ⟨rfl,rfl,rfl,rfl,trivial⟩ ⟨(eL.trans xg5),(e2L.trans xg5),by omega,by omega⟩ (by omega)
 ·refine aX (aA (aA (aV (ab (af (af ?_))))))
  rw[List.take_of_length_le (by omega)] at hkk
  refine aa (ac JL JL (ag (ab (av ?_))))
  refine dA (fun(j:Nat) (q:Nat)=>[(1,I most),(2,.pointer (some ⟨g2,0,none⟩)),(5,I (q:Int)),(7,I (j:Int))]) (fun(j:Nat) (q:Nat) w'=>aG w w'∧aG w2 w'∧j≤n.kids.length∧q≤k+((n.kids.take j).map eP).sum) (fun(j:Nat) (q:Nat)=>n.kids.length-j) (0) (k) ⟨rfl,rfl,rfl,rfl,trivial⟩ ⟨eL,e2L,by omega,by omega⟩ ?_
  rintro j q wM ⟨eM,e2M,hj,hq2⟩
  refine af (af (aa (ae JL JL (ah JL JL (aI (o:=6) Jg JL (by kernel_rfl) JL) (ak JL JL (ai Jk JL (e2M.cell_some (k2.cell (i:=6) JL))) ?_)))))
  refine aP JL JL (bO Jk (hk.ext eM)) (aj JL JL JL (aS) (ae JL JL ?_))
  refine cW (fun h55=>?_) (fun h55=>?_)
  ·refine al JL (ae JL JL (al JL (ae JL JL (al JL (aj JL JL JL (kB) (aB JL JL JL (ag (ab ?_))))))))
   refine ba JL (fun h59=>?_) (fun h59=>?_)
   ·refine ar (ab (af (av (aa (ae JL JL (ah JL JL (aI (o:=6) Jg JL (by kernel_rfl) JL) (ak JL JL (ai Jk JL (e2M.cell_some (k2.cell (i:=6) JL))) ?_)))))))
    refine ae JL JL ?_
    obtain⟨a66,c66,p66,q66,h66⟩:=cO (P:=Tryz.prog) (sz:=9) Jk (by kernel_rfl) bK (by omega) (hk.ext eM) (i:=j) (by omega) .i64
    obtain⟨e66,he66⟩:∃e,e=n.kids[j]'(by omega):=⟨_,rfl⟩
    rw[←he66] at h66
    obtain⟨x66_0,x66_1,x66_2,x66_3,x66_4,rfl,f66_0,f66_1,f66_2,f66_3,f66_4⟩:=dh h66
    refine ap JL JL JL (p66 _) ?_
    have hmem:e66∈n.kids:=by rw[he66];exact List.getElem_mem _
    have hsl2:=qQ (f:=eP) (l:=n.kids) (i:=j) (by omega)
    have hsn2:=my (f:=eP) (l:=n.kids) (i:=j) (by omega)
    rw[←he66] at hsl2 hsn2
    refine ak JL JL (q66.ld Jg JL (by kernel_rfl)) (ae JL JL (am oY JL JL ((ih e66 hmem f66_0 f66_1 f66_2 f66_3 f66_4 (by omega))) ?_))
    rintro v69 w69 ⟨x69,m69,rfl,hm69⟩
    refine aj (r:=I ((q+m69:Nat):Int)) JL JL JL (by have e:((q+m69:Nat):Int)=(q:Int)+(m69:Int):=(by omega);rw[e];exact aE (by omega) (by omega)) ?_
    refine ac JL JL (ag (aM (ab (aa (ae JL JL (aj (r:=I ((j+1:Nat):Int)) JL JL JL (by have e:((j+1:Nat):Int)=(j:Int)+1:=(by omega);rw[e];exact aE (by omega) (by omega)) ?_))))))
    refine ac JL JL (ag ?_)
    refine cF (j+1) (q+m69) ⟨rfl,rfl,rfl,rfl,trivial⟩ ⟨(eM.trans x69),(e2M.trans x69),by omega,by omega⟩ (by omega)
   ·refine aX (aA (aA (aV (ab (af (aa (ae JL JL (ac JL JL (ag (ab (au (az JL JL ?_))))))))))))
    exact⟨_,rfl,eM,q,rfl,by have:=An (f:=eP) n.kids j;omega⟩
  ·refine aq JL JL JL (aq JL JL JL (aq JL JL JL (aH JL JL JL (ag (ab (dI JL (aX (aA (aA (aV (ab (af (aa (ae JL JL (ac JL JL ?_)))))))))))))))
   refine ag (ab (au (az JL JL ?_)))
   exact⟨_,rfl,eM,q,rfl,by have:=An (f:=eP) n.kids j;omega⟩
theorem o0:∀(m:Nat) {n:aN},SizeOf.sizeOf n≤m→∀{most:Int} {w:World} {vl x y vk vp:Value},cK dm n.lems vl w→bj n.split.at_.2.1 x w→bj n.split.at_.2.2 y w→cK bh n.kids vk w→cK cd n.pf vp w→eP n≤1099511627776→
 Calls Tryz.prog 44 #[.agg #[vl,I n.split.kd,I n.split.ix,B n.split.at_.1,x,y,vk,B n.empty,vp],I most] w (bD fun r w'=>aG w w'∧∃k:Nat,r=I (k:Int)∧k≤eP n)
 |0,n,hm=>by cases n;simp at hm
 |m+1,n,hm=>fun h1 h2 h3 h4 h5 h6=>ww (fun k hk _ _ _ _ _ _=>o0 m (by have:=aN.lt_of_mem hk;omega)) h1 h2 h3 h4 h5 h6
theorem wx {w:World} {d:List UInt8} {ts:List aN} {tv:Value} (hd:d.length=32) (ht:cK bh ts tv w) (hb:ts.length+(ts.map eP).sum≤1099511627776):
 Calls Tryz.prog 16 #[.agg (it d tv).toArray] w (bD fun r w'=>aG w w'∧∃b,r=B b):=by
 refine enter (vs:=[.agg (it d tv).toArray]) Tryz.func16 JL JL JL ?_
 have hll:=ht.len
 refine af (aa ?_)
 obtain⟨g1,w1,hr1,l1,x1,k1⟩:=cI (P:=Tryz.prog) (w:=w) (T:=25) (cs:=it d tv)
 refine cx JL JL hr1 ?_
 have c1:=sV k1 hd
 refine ac JL JL (ag (ab (af (aa ?_))))
 refine ah JL JL gF ?_
 refine ak JL JL (ai Jk JL c1) ?_
 refine aP JL JL (bO (f:=bh) Jk (ht.ext (x1))) ?_
 refine ac JL JL (ag (ab (af (af (aa (ac JL JL (ag (ab (av ?_)))))))))
 refine dA (fun(j:Nat) (q:Nat)=>[(1,.pointer (some ⟨g1,0,none⟩)),(3,I (q:Int)),(4,I (j:Int))]) (fun(j:Nat) (q:Nat) w'=>aG w w'∧aG w1 w'∧j≤ts.length∧q≤ts.length+((ts.take j).map eP).sum) (fun(j:Nat) (q:Nat)=>ts.length-j) (0) (ts.length) ⟨rfl,rfl,rfl,trivial⟩ ⟨x1,aG.refl _,by omega,by omega⟩ ?_
 rintro j q wL ⟨eL,e1L,hj,hq⟩
 refine af (af ?_)
 have c1L:=e1L.cell_some c1
 have htL:=ht.ext eL
 refine aa (ae JL JL ?_)
 refine ah JL JL gF ?_
 refine ak JL JL (ai Jk JL c1L) (aP JL JL (bO Jk htL) (aj JL JL JL (aS) (ae JL JL ?_)))
 refine cW (fun h13=>?_) (fun h13=>?_)
 ·refine al JL (ae JL JL (al JL (aj JL JL JL (kB) (aB JL JL JL (ag (ab ?_))))))
  refine ba JL (fun h16=>?_) (fun h16=>?_)
  ·refine ar (ab (af (av (aa (ae JL JL ?_)))))
   refine ah JL JL gF ?_
   refine ak JL JL (ai Jk JL c1L) (ae JL JL ?_)
   obtain⟨a23,c23,p23,q23,h23⟩:=cO (P:=Tryz.prog) (sz:=9) Jk (by kernel_rfl) bK (by omega) htL (i:=j) (by omega) .i64
   obtain⟨e23,he23⟩:∃e,e=ts[j]'(by omega):=⟨_,rfl⟩
   rw[←he23] at h23
   obtain⟨x23_0,x23_1,x23_2,x23_3,x23_4,rfl,f23_0,f23_1,f23_2,f23_3,f23_4⟩:=dh h23
   refine ap JL JL JL (p23 _) ?_
   have hsl2:=qQ (f:=eP) (l:=ts) (i:=j) (by omega)
   have hsn2:=my (f:=eP) (l:=ts) (i:=j) (by omega)
   rw[←he23] at hsl2 hsn2
   refine ak JL JL (q23.ld Jg JL (by kernel_rfl)) (am oY JL JL ((o0 _ (Nat.le_refl _) f23_0 f23_1 f23_2 f23_3 f23_4 (by omega))) ?_)
   rintro v25 w25 ⟨x25,m25,rfl,hm25⟩
   refine aj (r:=I ((q+m25:Nat):Int)) JL JL JL (by have e:((q+m25:Nat):Int)=(q:Int)+(m25:Int):=(by omega);rw[e];exact aE (by omega) (by omega)) ?_
   refine ac JL JL (ag (aM (ab (aa (ae JL JL (aj (r:=I ((j+1:Nat):Int)) JL JL JL (by have e:((j+1:Nat):Int)=(j:Int)+1:=(by omega);rw[e];exact aE (by omega) (by omega)) ?_))))))
   refine ac JL JL (ag ?_)
   refine cF (j+1) (q+m25) ⟨rfl,rfl,rfl,trivial⟩ ⟨(eL.trans x25),(e1L.trans x25),by omega,by omega⟩ (by omega)
  ·refine aX (aA (aA (aV (ab (af (aa (ae JL JL (aj JL JL JL (kB) (ac JL JL (ag (ab (au (az JL JL ?_)))))))))))))
   exact⟨_,rfl,eL,_,rfl⟩
 ·refine aq JL JL JL (aq JL JL JL (aH JL JL JL (ag (ab (dI JL (aX (aA (aA (aV (ab (af (aa (ae JL JL (aj JL JL JL (kB) ?_))))))))))))))
  refine ac JL JL (ag (ab (au (az JL JL ?_))))
  exact⟨_,rfl,eL,_,rfl⟩
end Go.Rl
namespace Go.Rl
open Go.RowKit Go.Proofs
mutual
def Dt.bulk:Dt→Nat
 |.int _ _=>1
 |.bool _=>1
 |.str l=>l.length+1
 |.sl l=>Dt.bulkAll l+1
 |.st l=>Dt.bulkAll l+1
def Dt.bulkAll:List Dt→Nat
 |[]=>0
 |d::l=>Dt.bulk d+Dt.bulkAll l
end
mutual
theorem uD {H:Type}:∀d:DataW H,(d7 d).bulk≤YtaajaakbcelmfaaGreatDoor.Rows.uptoBulk d
 |.lit (.string b)=>by simp[d7,Dt.bulk,YtaajaakbcelmfaaGreatDoor.Rows.uptoBulk]
 |.lit (.int k n)=>by simp[d7,Dt.bulk,YtaajaakbcelmfaaGreatDoor.Rows.uptoBulk]
 |.lit (.bool b)=>by simp[d7,Dt.bulk,YtaajaakbcelmfaaGreatDoor.Rows.uptoBulk]
 |.lit (.float ..)=>by simp[d7,Dt.bulk,Dt.bulkAll,YtaajaakbcelmfaaGreatDoor.Rows.uptoBulk]
 |.lit .nil=>by simp[d7,Dt.bulk,Dt.bulkAll,YtaajaakbcelmfaaGreatDoor.Rows.uptoBulk]
 |.nil=>by simp[d7,Dt.bulk,Dt.bulkAll,YtaajaakbcelmfaaGreatDoor.Rows.uptoBulk]
 |.ptr d=>by simp[d7,Dt.bulk,Dt.bulkAll,YtaajaakbcelmfaaGreatDoor.Rows.uptoBulk]
 |.slice elems spare=>by
  have:=jS elems
  simp only[d7,Dt.bulk,YtaajaakbcelmfaaGreatDoor.Rows.uptoBulk]
  omega
 |.agg parts=>by
  have:=jS parts
  simp only[d7,Dt.bulk,YtaajaakbcelmfaaGreatDoor.Rows.uptoBulk]
  omega
 |.iface t d=>by simp[d7,Dt.bulk,Dt.bulkAll,YtaajaakbcelmfaaGreatDoor.Rows.uptoBulk]
 |.map entries=>by simp[d7,Dt.bulk,Dt.bulkAll,YtaajaakbcelmfaaGreatDoor.Rows.uptoBulk]
 |.held h=>by simp[d7,Dt.bulk,Dt.bulkAll,YtaajaakbcelmfaaGreatDoor.Rows.uptoBulk]
theorem jS {H:Type}:∀l:List (DataW H),Dt.bulkAll (lG l)≤YtaajaakbcelmfaaGreatDoor.Rows.uptoBulkAll l
 |[]=>by simp[lG,Dt.bulkAll,YtaajaakbcelmfaaGreatDoor.Rows.uptoBulkAll]
 |d::l=>by
  have:=uD d
  have:=jS l
  simp only[lG,Dt.bulkAll,YtaajaakbcelmfaaGreatDoor.Rows.uptoBulkAll]
  omega
end
theorem uE {H:Type} {d:DataW H}:∀{l:List (DataW H)},d∈l→YtaajaakbcelmfaaGreatDoor.Rows.uptoBulk d≤YtaajaakbcelmfaaGreatDoor.Rows.uptoBulkAll l
 |[],h=>by simp at h
 |x::l,h=>by
  simp only[YtaajaakbcelmfaaGreatDoor.Rows.uptoBulkAll]
  rcases List.mem_cons.1 h with rfl|h
  ·omega
  ·have:=uE h;omega
theorem Iw {H:Type} {d:DataW H} {l:List (DataW H)} (hk:YtaajaakbcelmfaaGreatDoor.Rows.uptoSmall H l=true) (h:d∈l):(d7 d).bulk≤1048576:=by
 have h1:YtaajaakbcelmfaaGreatDoor.Rows.uptoBulkAll l≤1048576:=of_decide_eq_true hk
 have:=uD d
 have:=uE h
 omega
theorem tc {α:Type} {f:α→Dt} {p:α→Prop}:∀(l:List Dt),(∀d∈l,∃x,d=f x∧p x)→∃m:List α,l=m.map f∧∀x∈m,p x
 |[],_=>⟨[],rfl,by simp⟩
 |d::l,h=>by
  obtain⟨x,rfl,hx⟩:=h d (by simp)
  obtain⟨m,rfl,hm⟩:=tc l fun e he=>h e (by simp[he])
  exact⟨x::m,rfl,by simpa using⟨hx,hm⟩⟩
theorem Ty.inv_slP {P:Program} {t e:TypeId} {d:Dt} {α:Type} {f:α→Dt} {p:α→Prop} (hu:P.underlying t=some (.slice e)) (he:∀x,Ty P e x→∃y,x=f y∧p y) (h:Ty P t d):∃l:List α,d=.sl (l.map f)∧∀x∈l,p x:=by
 obtain⟨l,rfl,ha⟩:=h.inv_slD hu
 obtain⟨m,rfl,hm⟩:=tc l fun x hx=>he x (ha x hx)
 exact⟨m,rfl,hm⟩
theorem du {l:List Dt}:∀{d:Dt},d∈l→d.bulk≤Dt.bulkAll l:=by
 induction l with
 |nil=>intro d h;simp at h
 |cons x l ih=>
  intro d h
  simp only[Dt.bulkAll]
  rcases List.mem_cons.1 h with rfl|h
  ·omega
  ·have:=ih h;omega
theorem FL (d:Dt):1≤d.bulk:=by cases d<;>simp[Dt.bulk]
theorem jF (l:List Dt):l.length≤Dt.bulkAll l:=by
 induction l with
 |nil=>simp
 |cons d l ih=>have:=FL d;simp only[List.length_cons,Dt.bulkAll];omega
end Go.Rl
namespace Go.Rl
open Go.ChangeShapes Go.WideShapes Go.ChangeAt Go.RowKit Go.Proofs
theorem I8 {α:Type} {l:List α} (h:l.length=2):∃a b,l=[a,b]:=by
 match l,h with
 |[a,b],_=>exact⟨a,b,rfl⟩
theorem I9 {α:Type} {l:List α} (h:l.length=3):∃a b c,l=[a,b,c]:=by
 match l,h with
 |[a,b,c],_=>exact⟨a,b,c,rfl⟩
theorem Ja {α:Type} {l:List α} (h:l.length=4):∃a b c d,l=[a,b,c,d]:=by
 match l,h with
 |[a,b,c,d],_=>exact⟨a,b,c,d,rfl⟩
theorem cel5 {α:Type} {l:List α} (h:l.length=5):∃a b c d e,l=[a,b,c,d,e]:=by
 match l,h with
 |[a,b,c,d,e],_=>exact⟨a,b,c,d,e,rfl⟩
theorem Ao {d:Dt} (ht:Ty Tryz.prog 55 d):∃q:fx,d=fK q:=by
 obtain⟨l,rfl,hl,hf⟩:=ht.inv_st Jj
 obtain⟨a,b,c,rfl⟩:=I9 (show l.length=3 from hl)
 obtain⟨s,rfl⟩:=(hf 0 _ a rfl rfl).inv_bool Jq
 obtain⟨n,rfl⟩:=(hf 1 _ b rfl rfl).inv_nat Je Jf
 obtain⟨m,rfl⟩:=(hf 2 _ c rfl rfl).inv_nat Je Jf
 exact⟨(s,n,m),rfl⟩
theorem nN {d:Dt} (ht:Ty Tryz.prog 3 d):∃n:Int,d=nf n∧mO n:=by
 obtain⟨n,rfl,hw⟩:=ht.inv_int Jh
 exact⟨n,rfl,II hw⟩
theorem Ij {d:Dt} (ht:Ty Tryz.prog 214 d):∃a b c e:Int,d=.st [nf a,nf b,nf c,nf e]∧mO a∧mO b∧mO c∧mO e:=by
 obtain⟨l,rfl,hl,hf⟩:=ht.inv_st JC
 obtain⟨d0,d1,d2,d3,rfl⟩:=Ja (show l.length=4 from hl)
 obtain⟨n0,rfl,w0⟩:=nN (hf 0 _ d0 rfl rfl)
 obtain⟨n1,rfl,w1⟩:=nN (hf 1 _ d1 rfl rfl)
 obtain⟨n2,rfl,w2⟩:=nN (hf 2 _ d2 rfl rfl)
 obtain⟨n3,rfl,w3⟩:=nN (hf 3 _ d3 rfl rfl)
 exact⟨n0,n1,n2,n3,rfl,w0,w1,w2,w3⟩
theorem GY {d:Dt} (ht:Ty Tryz.prog 216 d):∃m:cB,d=cd m∧wMu m:=by
 obtain⟨l,rfl,hl,hf⟩:=ht.inv_st Jy
 obtain⟨d0,d1,rfl⟩:=I8 (show l.length=2 from hl)
 obtain⟨a,b,c,e,rfl,w⟩:=Ij (hf 0 _ d0 rfl rfl)
 obtain⟨q,rfl⟩:=Ao (hf 1 _ d1 rfl rfl)
 exact⟨⟨a,b,c,e,q⟩,rfl,w⟩
theorem yC {d:Dt} (ht:Ty Tryz.prog 81 d):∃l:List cB,d=kU l∧wP l:=ht.inv_slP Jp fun _ hx=>GY hx
theorem Ik {d:Dt} (ht:Ty Tryz.prog 80 d):∃m:eg,d=fF m∧wD m:=by
 obtain⟨l,rfl,hl,hf⟩:=ht.inv_st Jn
 obtain⟨d0,d1,d2,rfl⟩:=I9 (show l.length=3 from hl)
 obtain⟨n0,rfl,w0⟩:=nN (hf 0 _ d0 rfl rfl)
 obtain⟨n1,rfl,w1⟩:=nN (hf 1 _ d1 rfl rfl)
 obtain⟨q,rfl⟩:=Ao (hf 2 _ d2 rfl rfl)
 exact⟨⟨n0,n1,q⟩,rfl,w0,w1⟩
theorem Il {d:Dt} (ht:Ty Tryz.prog 147 d):∃m:fE,d=dm m∧Iu m:=by
 obtain⟨l,rfl,hl,hf⟩:=ht.inv_st Jr
 obtain⟨d0,d1,d2,d3,rfl⟩:=Ja (show l.length=4 from hl)
 obtain⟨n0,rfl,w0⟩:=nN (hf 0 _ d0 rfl rfl)
 obtain⟨b,rfl⟩:=(hf 1 _ d1 rfl rfl).inv_bool Jq
 obtain⟨q,rfl⟩:=Ao (hf 2 _ d2 rfl rfl)
 obtain⟨p,rfl,wp⟩:=yC (hf 3 _ d3 rfl rfl)
 exact⟨⟨n0,b,q,p⟩,rfl,w0,wp⟩
theorem Ap {l:List Dt} {d:Dt} (h:d∈l):SizeOf.sizeOf d<SizeOf.sizeOf l:=List.sizeOf_lt_of_mem h
theorem Bq:∀(k:Nat) {d:Dt},SizeOf.sizeOf d≤k→Ty Tryz.prog 83 d→∃n:aN,d=bh n∧wN n
 |0,d,hk,_=>by cases d<;>simp at hk
 |k+1,d,hk,ht=>by
  obtain⟨l,rfl,hl,hf⟩:=ht.inv_st Jg
  obtain⟨d0,d1,d2,d3,d4,rfl⟩:=cel5 (show l.length=5 from hl)
  obtain⟨ls,rfl,wl⟩:=(hf 0 _ d0 rfl rfl).inv_slP Jo fun _ hx=>Il hx
  obtain⟨sp,rfl,ws⟩:=Ik (hf 1 _ d1 rfl rfl)
  obtain⟨ks,rfl,hks⟩:=(hf 2 _ d2 rfl rfl).inv_slD Jk
  obtain⟨em,rfl⟩:=(hf 3 _ d3 rfl rfl).inv_bool Jq
  obtain⟨pf,rfl,wp⟩:=yC (hf 4 _ d4 rfl rfl)
  obtain⟨ns,rfl,wn⟩:=tc (f:=bh) (p:=wN) ks fun x hx=>Bq k (by
   have:=Ap hx
   simp only[Dt.st.sizeOf_spec,List.cons.sizeOf_spec,Dt.sl.sizeOf_spec] at hk
   omega) (hks x hx)
  refine⟨.mk ls sp ns em pf,?_,?_⟩
  ·simp only[bh,jn]
  ·simp only[wN,vQ]
   exact⟨wl,ws,wp,wn⟩
theorem FM {W:World}:∀(l:List UInt8) {cs:List Value},bi W (l.map ID) cs→cs=l.map U8
 |[],cs,h=>by simpa only[List.map_nil,bi] using h
 |a::l,cs,h=>by
  simp only[List.map_cons,bi,ID,Rp] at h
  obtain⟨c1,c2,rfl,rfl,h2⟩:=h
  rw[FM l h2]
  rfl
section
variable {H:Type} {enc:TypeId×Value→H} {W:World} {base:Nat} {spare:Nat→Bool} {held:Bool} {r:Reach} {b0:Nat} {v:Value} {d:DataW H} {ps:List MemPlace}
end
def FN (d:List UInt8) (ts:List aN):Dt:=.st [.st (d.map ID),.sl (ts.map bh)]
theorem Jb {W:World} {v:Value} {d:Dt} {cs:List Value} (hv:v=.agg cs.toArray) (hr:Rp W d cs) (ht:Ty Tryz.prog 25 d):
 ∃(dg:List UInt8) (ts:List aN) (tv:Value),v=.agg (it dg tv).toArray∧dg.length=32∧cK bh ts tv W∧(∀n∈ts,wN n)∧d=FN dg ts:=by
 obtain⟨l,rfl,hl,hf⟩:=ht.inv_st JB
 obtain⟨d0,d1,rfl⟩:=I8 (show l.length=2 from hl)
 obtain⟨dg,rfl,hdg⟩:=(hf 0 _ d0 rfl rfl).inv_arr (f:=ID) JA fun _ hx=>hx.inv_u8 Jm
 obtain⟨ts,rfl,hw⟩:=(hf 1 _ d1 rfl rfl).inv_slP Jk fun _ hx=>Bq _ (Nat.le_refl _) hx
 simp only[Rp,bi] at hr
 obtain⟨c1,_,rfl,h1,_,_,rfl,h2,rfl⟩:=hr
 have e1:=FM dg h1
 subst e1
 obtain⟨A,n,c,rfl,h3⟩:=h2
 rw[List.append_nil] at hv
 refine⟨dg,ts,_,hv,hdg,?_,hw,rfl⟩
 show Rp W (.sl (ts.map bh)) _
 simp only[Rp]
 exact⟨A,n,c,rfl,h3⟩
end Go.Rl
namespace Go.Rl
open Go.RowKit
section
variable {α β:Type} {f:List UInt8→Option (α×List UInt8)} {g:α→List UInt8→Option (β×List UInt8)} {st s1 s2:Option (List UInt8)} {ok ok1 ok2:Bool} {a:α} {b:β}
end
end Go.Rl
namespace Go.Rl
open Go.RowKit Go.Proofs
theorem GZ (l:List UInt32):(ju l).bulk=l.length+1:=by
 have:∀l:List UInt32,Dt.bulkAll (l.map pc)=l.length:=by
  intro l
  induction l with
  |nil=>rfl
  |cons a l ih=>simp only[List.map_cons,Dt.bulkAll,ih,pc,Dt.bulk,List.length_cons];omega
 simp only[ju,Dt.bulk,this]
theorem wy (q:fx):(fK q).bulk=q.2.1.length+q.2.2.length+4:=by
 simp only[fK,Dt.bulk,Dt.bulkAll,GZ];omega
theorem kr {α:Type} {f:α→Dt} {m:α→Nat} {c:Nat} (l:List α) (h:∀a∈l,m a≤c*(f a).bulk):(l.map m).sum≤c*Dt.bulkAll (l.map f):=by
 induction l with
 |nil=>simp
 |cons a l ih=>
  simp only[List.map_cons,List.sum_cons,Dt.bulkAll,Nat.mul_add]
  have:=h a (by simp)
  have:=ih fun b hb=>h b (by simp[hb])
  omega
theorem mY {α:Type} {f:α→Dt} {e:α→List UInt8} {c:Nat} (l:List α) (h:∀a∈l,(e a).length≤c*(f a).bulk):(l.flatMap e).length≤c*Dt.bulkAll (l.map f):=by
 have:∀l:List α,(l.flatMap e).length=(l.map fun a=>(e a).length).sum:=by
  intro l
  induction l with
  |nil=>rfl
  |cons a l ih=>simp only[List.flatMap_cons,List.length_append,List.map_cons,List.sum_cons,ih]
 rw[this]
 exact kr l h
theorem ig (m:cB):(cd m).bulk=m.co.2.1.length+m.co.2.2.length+10:=by
 simp only[cd,nf,Dt.bulk,Dt.bulkAll,wy];omega
theorem yD (d:eg):(fF d).bulk=d.at_.2.1.length+d.at_.2.2.length+7:=by
 simp only[fF,nf,Dt.bulk,Dt.bulkAll,wy];omega
theorem td (l:List cB):(kU l).bulk=Dt.bulkAll (l.map cd)+1:=rfl
theorem kt (m:fE):(dm m).bulk=m.va.2.1.length+m.va.2.2.length+Dt.bulkAll (m.pf.map cd)+8:=by
 simp only[dm,nf,Dt.bulk,Dt.bulkAll,wy,td];omega
theorem Dd (n:aN):(bh n).bulk=Dt.bulkAll (n.lems.map dm)+(fF n.split).bulk+Dt.bulkAll (n.kids.map bh)+Dt.bulkAll (n.pf.map cd)+5:=by
 cases n with
 |mk l s k e p=>
  simp only[bh,jn,Dt.bulk,Dt.bulkAll,td,aN.lems,aN.split,aN.kids,aN.pf]
  omega
theorem wB {q:fx} (h:q.2.1.length≤1073741824) (h2:q.2.2.length≤1073741824):(iR q).length≤4*(q.2.1.length+q.2.2.length)+21:=by
 have a1:=dy (n:=q.2.1.length) (by omega)
 have a2:=dy (n:=q.2.2.length) (by omega)
 simp only[iR,oo,lR,List.length_append,List.length_cons,List.length_nil,fw]
 omega
theorem lA {n:Int} (h:mO n):(dS n).length≤10:=dy (Eg h.1 h.2)
section
variable {B:Nat}
theorem FO {m:cB} (hb:(cd m).bulk≤1048576) (hw:wMu m):(gD m).length≤10*(cd m).bulk:=by
 rw[ig] at hb⊢
 have:=lA hw.1;have:=lA hw.2.1;have:=lA hw.2.2.1;have:=lA hw.2.2.2
 have:=wB (q:=m.co) (by omega) (by omega)
 simp only[gD,List.length_append];omega
theorem Br {l:List cB} (hb:Dt.bulkAll (l.map cd)≤1048576) (hw:wP l):(kW l).length≤10*Dt.bulkAll (l.map cd)+10:=by
 have h1:=jF (l.map cd)
 rw[List.length_map] at h1
 have:=dy (n:=l.length) (by omega)
 have:=mY (f:=cd) (e:=gD) (c:=10) l fun m hm=>FO (Nat.le_trans (du (List.mem_map_of_mem (f:=cd) hm)) hb) (hw m hm)
 simp only[kW,List.length_append];omega
theorem FP {m:fE} (hb:(dm m).bulk≤1048576) (hw:Iu m):(fH m).length≤10*(dm m).bulk:=by
 rw[kt] at hb⊢
 have:=lA hw.1
 have:=wB (q:=m.va) (by omega) (by omega)
 have:=Br (l:=m.pf) (by omega) hw.2
 have:(xL m.up).length=1:=qO m.up
 simp only[fH,List.length_append];omega
theorem De {l:List fE} (hb:Dt.bulkAll (l.map dm)≤1048576) (hw:∀m∈l,Iu m):(fe l).length≤10*Dt.bulkAll (l.map dm)+10:=by
 have h1:=jF (l.map dm)
 rw[List.length_map] at h1
 have:=dy (n:=l.length) (by omega)
 have:=mY (f:=dm) (e:=fH) (c:=10) l fun m hm=>FP (Nat.le_trans (du (List.mem_map_of_mem (f:=dm) hm)) hb) (hw m hm)
 simp only[fe,List.length_append];omega
theorem G0 {d:eg} (hb:(fF d).bulk≤1048576) (hw:wD d):(kV d).length≤10*(fF d).bulk:=by
 rw[yD] at hb⊢
 have:=lA hw.1;have:=lA hw.2
 have:=wB (q:=d.at_) (by omega) (by omega)
 simp only[kV,List.length_append];omega
theorem Bt:∀(k:Nat) {n:aN},SizeOf.sizeOf n≤k→(bh n).bulk≤1048576→wN n→(cG n).length≤10*(bh n).bulk∧eP n≤2*(bh n).bulk∧sN n
 |0,n,hk,_,_=>by cases n;simp at hk
 |k+1,n,hk,hb,hw=>by
  obtain⟨wl,wd,wp,wk⟩:=(zN n).1 hw
  rw[Dd] at hb⊢
  have ih:∀c∈n.kids,(cG c).length≤10*(bh c).bulk∧eP c≤2*(bh c).bulk∧sN c:=fun c hc=>by
   have h1:=du (List.mem_map_of_mem (f:=bh) hc)
   exact Bt k (by have:=aN.lt_of_mem hc;omega) (by omega) (wk c hc)
  have e1:=De (l:=n.lems) (by omega) wl
  have e2:=G0 (d:=n.split) (by omega) wd
  have e3:=Br (l:=n.pf) (by omega) wp
  have e4:=mY (f:=bh) (e:=cG) (c:=10) n.kids fun c hc=>(ih c hc).1
  have s1:=kr (f:=cd) (m:=mQ) (c:=1) n.pf fun m _=>by rw[ig];unfold mQ;omega
  have s2:=kr (f:=dm) (m:=mL) (c:=1) n.lems fun m _=>by
   have:=kr (f:=cd) (m:=mQ) (c:=1) m.pf fun m _=>by rw[ig];unfold mQ;omega
   rw[kt];unfold mL mP;omega
  have s3:=kr (f:=bh) (m:=eP) (c:=2) n.kids fun c hc=>(ih c hc).2.1
  have s4:=jF (n.lems.map dm)
  rw[List.length_map] at s4
  have hd:=yD n.split
  refine⟨?_,?_,?_⟩
  ·rw[su]
   split
   ·simp only[List.length_append,qO];omega
   ·simp only[List.length_append,List.length_cons,List.length_nil];omega
  ·rw[yB];unfold mP;omega
  ·refine(wt n).2 ⟨fun m hm=>⟨⟨?_,?_⟩,fun p hp=>⟨?_,?_⟩⟩,⟨by omega,by omega⟩,fun p hp=>⟨?_,?_⟩,fun c hc=>(ih c hc).2.2⟩
   ·have:=du (List.mem_map_of_mem (f:=dm) hm);rw[kt] at this;omega
   ·have:=du (List.mem_map_of_mem (f:=dm) hm);rw[kt] at this;omega
   ·have h1:=du (List.mem_map_of_mem (f:=dm) hm);rw[kt] at h1
    have h2:=du (List.mem_map_of_mem (f:=cd) hp);rw[ig] at h2;omega
   ·have h1:=du (List.mem_map_of_mem (f:=dm) hm);rw[kt] at h1
    have h2:=du (List.mem_map_of_mem (f:=cd) hp);rw[ig] at h2;omega
   ·have h2:=du (List.mem_map_of_mem (f:=cd) hp);rw[ig] at h2;omega
   ·have h2:=du (List.mem_map_of_mem (f:=cd) hp);rw[ig] at h2;omega
end
structure CrtB (ts:List aN):Prop where
 short:∀n∈ts,sN n
 enc:(df ts).length≤20000000
 size:ts.length+(ts.map eP).sum≤20000000
theorem yE {d:List UInt8} {ts:List aN} (h:(FN d ts).bulk≤1048576) (hw:∀n∈ts,wN n):CrtB ts:=by
 have hb:Dt.bulkAll (ts.map bh)≤1048576:=by
  simp only[FN,Dt.bulk,Dt.bulkAll] at h
  omega
 have ih:∀c∈ts,(cG c).length≤10*(bh c).bulk∧eP c≤2*(bh c).bulk∧sN c:=fun c hc=>Bt _ (Nat.le_refl _) (Nat.le_trans (du (List.mem_map_of_mem (f:=bh) hc)) hb) (hw c hc)
 have e1:=jF (ts.map bh)
 rw[List.length_map] at e1
 have e2:=dy (n:=ts.length) (by omega)
 have e4:=mY (f:=bh) (e:=cG) (c:=10) ts fun c hc=>(ih c hc).1
 have s3:=kr (f:=bh) (m:=eP) (c:=2) ts fun c hc=>(ih c hc).2.1
 refine⟨fun n hn=>(ih n hn).2.2,?_,by omega⟩
 simp only[df,List.length_append];omega
end Go.Rl
namespace Go.Rl
open Go.RowKit Go.Proofs
theorem aL.append {a b:List Value} (h:aL a) (k:aL b):aL (a++b):=fun v hv=>(List.mem_append.1 hv).elim (h v) (k v)
mutual
theorem G1 {w:World}:∀{d:Dt} {cs:List Value},Rp w d cs→aL cs
 |.int k n,cs,h=>by simp only[Rp] at h;subst h;exact aL.cons rfl aL.nil
 |.bool b,cs,h=>by simp only[Rp] at h;subst h;exact aL.cons rfl aL.nil
 |.str l,cs,h=>by simp only[Rp] at h;subst h;exact aL.cons rfl aL.nil
 |.sl l,cs,h=>by
  simp only[Rp] at h
  obtain⟨A,n,c,rfl,_⟩:=h
  exact aL.cons rfl aL.nil
 |.st l,cs,h=>by simp only[Rp] at h;exact nO h
theorem nO {w:World}:∀{l:List Dt} {cs:List Value},bi w l cs→aL cs
 |[],cs,h=>by simp only[bi] at h;subst h;exact aL.nil
 |d::l,cs,h=>by
  simp only[bi] at h
  obtain⟨c1,c2,rfl,h1,h2⟩:=h
  exact(G1 h1).append (nO h2)
end
section
variable {α:Type} {f:α→Dt} {l m:List α} {v x:Value} {w w0 w':World} {e t ty:TypeId} {sz base:Nat}
def fO (e:TypeId) (sz base:Nat) (f:α→Dt) (l:List α) (v:Value) (w:World):Prop:=∃n xs,w.ownsRow base e sz v n xs∧aK (fun k=>v.ownBlock=some k) w (l.map f) xs
theorem fO.nil (w:World):fO e sz base f ([]:List α) (.slice none 0 0) w:=⟨0,[],World.ownsRow_nil _ _ _ _,aK.nil⟩
theorem fO.lt (h:fO e sz base f l v w):∀k,v.ownBlock=some k→base≤k∧k<w.heap.size:=fun k hk=>by
 obtain⟨n,xs,h,_⟩:=h
 exact World.ownsRow.lt h k hk
theorem fO.ds (h:fO e sz base f l v w) (hs:∀a,(f a).size=sz) (h0:0<sz):cK f l v w:=by
 obtain⟨n,xs,h1,h2⟩:=h
 exact Rp.ofSl (Sl.of_own h1) h2.rp (by simp[hs]) h0
theorem fO.ext (h:fO e sz base f l v w) (hx:aG w w'):fO e sz base f l v w':=by
 obtain⟨n,xs,h1,h2⟩:=h
 exact⟨n,xs,iw h1 hx,h2.ext hx⟩
theorem fO.stable:bo (fO e sz base f l):=fun _ _ _ h hx=>h.ext hx
theorem fO.app {P:Program} {z:Value} {bytes:Nat} (ht:P.underlying t=some (.slice e)) (hi:(P.info? e).map (fun i=>(i.zero,i.size,i.bytes))=some (some z,sz,bytes)) (hzs:z.cells.size=sz) (hsz:0<sz) (hb0:0<bytes)
 (h:fO e sz base f l v w) {cs:List Value} (hx:Sl sz cs x w) (h1:aL cs) (ha:aK (fun k=>v.ownBlock=some k) w (m.map f) cs) (hs:∀a,(f a).size=sz) (hb:(l.length+m.length)*bytes≤140737488355328) (hbase:base≤w.heap.size):
 ∃r w1,(Builtin.append_ #[t,t] ty #[v,x]).run P w=.ok r w1∧fO e sz base f (l++m) r w1∧fM w w1 v r:=by
 obtain⟨n,xs,h2,h3⟩:=h
 have hxl:xs.length=l.length*sz:=by rw[h3.len,cz (sz:=sz) (by simp[hs]),List.length_map]
 have hcl:cs.length=m.length*sz:=by rw[ha.len,cz (sz:=sz) (by simp[hs]),List.length_map]
 obtain⟨r,w1,n',h4,h5,h6⟩:=lM (P:=P) (ty:=ty) ht hi hzs hsz h2 hx h1 (by
  rw[hxl,hcl,←Nat.add_mul,Nat.mul_right_comm]
  exact Nat.mul_le_mul_right _ hb) hb0 hbase
 refine⟨r,w1,h4,⟨n',_,h5,?_⟩,h6⟩
 have hm:Mv (fun k=>v.ownBlock=some k) w w1:=Mv.of_grown h6.grown fun k hk _=>hk
 have hY:∀k,r.ownBlock=some k→v.ownBlock=some k∨w.heap.size≤k:=fun k hk=>by
  rcases h6.own with h7|h7
  ·rw[h7] at hk;exact .inl hk
  ·exact .inr (h7 k hk)
 rw[List.map_append]
 exact aK.append (aK.mv hm hY h3) (aK.mv hm hY ha)
theorem fO.appDs {P:Program} {z:Value} {bytes:Nat} (ht:P.underlying t=some (.slice e)) (hi:(P.info? e).map (fun i=>(i.zero,i.size,i.bytes))=some (some z,sz,bytes)) (hzs:z.cells.size=sz) (hsz:0<sz) (hb0:0<bytes)
 (h:fO e sz base f l v w) (hx:cK f m x w0) (e0:aG w0 w) (hb:w0.heap.size≤base) (hs:∀a,(f a).size=sz) (hbb:(l.length+m.length)*bytes≤140737488355328) (hbase:base≤w.heap.size):
 ∃r w1,(Builtin.append_ #[t,t] ty #[v,x]).run P w=.ok r w1∧fO e sz base f (l++m) r w1∧fM w w1 v r:=by
 obtain⟨cs,h1,h2⟩:=Rp.toSl (sz:=sz) hx (by simp[hs])
 have hlt:=h.lt
 exact h.app ht hi hzs hsz hb0 (h1.ext e0) (nO h2) ((h2.x.ext e0).weak fun k hk=>.inl (by have:=(hlt k hk).1;omega)) hs hbb hbase
theorem Jc {P:Program} {z:Value} (ht:P.underlying t=some (.slice e)) (hi:(P.info? e).map (fun i=>(i.zero,i.size))=some (some z,sz)):
 ∃r w1,(Instr.buildSlice t 0 #[]).run P w=.ok r w1∧aG w w1∧fO e sz w.heap.size f ([]:List α) r w1∧r.ownBlock=some w.heap.size:=by
 obtain⟨i,hi',h2⟩:=Option.map_eq_some_iff.1 hi
 simp only[Prod.mk.injEq] at h2
 obtain⟨hz0,hs⟩:=h2
 have hinfo:(typeInfo e).run P w=.ok i w:=by simp[typeInfo,hi']
 have hsz:(sizeOf e).run P w=.ok sz w:=by simp[sizeOf,hinfo,hs]
 refine⟨.slice (some ⟨w.heap.size,0,none⟩) 0 0,w.alloc (.cells #[] e),?_,aG.new w _,⟨0,[],⟨by simp,.inr ⟨_,0,#[],rfl,Nat.le_refl _,heap_alloc_new _ _,Nat.le_refl _,Nat.zero_le _,by simp,by simp⟩⟩,aK.nil⟩,rfl⟩
 have hle:¬(0*sz>2^24):=by omega
 simp only[Instr.buildSlice,Sem.run_bind,run_underlying ht,Result.andThen_ok,hsz,if_neg hle]
 rw[if_pos (by simp)]
 have hr:Array.map (fun _:Nat=>(default:Value)) (Array.range 0)= #[]:=Array.eq_empty_of_size_eq_zero (by simp)
 simp[Instr.fill,newRow,hr]
end
end Go.Rl
namespace Go.Proofs.YtaajaakbcelmfaaGreatDoor
open Go Go.RowKit Go.Rl
theorem Df:Tryz.prog.globalNamed "relucert/phase.opposites" =some 0:=by kernel_rfl
theorem FQ:(Tryz.prog.globals[0]?).map (·.type)=some 260:=by kernel_rfl
theorem Fsz:Tryz.prog.cellsOf 260=5:=by kernel_rfl
theorem FT:Tryz.prog.cellsOf 3=1:=by kernel_rfl
noncomputable def Iy (os:Os):World:=
 {World.holding Tryz.prog os ⟨#[],#[],[]⟩ with heap:=(World.holding Tryz.prog os ⟨#[],#[],[]⟩).heap.modify 0 fun
  |.cells _ t frozen=>.cells #[.int .i64 0,.int .i64 2,.int .i64 1,.int .i64 4,.int .i64 3] t frozen
  |o=>o}
end Go.Proofs.YtaajaakbcelmfaaGreatDoor
namespace Go.Rl
open Go.RowKit Go.Proofs Go.Proofs.YtaajaakbcelmfaaGreatDoor
def yR (w:World):Prop:=dt w ⟨0,0,none⟩ [I 0,I 2,I 1,I 4,I 3]
theorem yR.ext {w w':World} (h:yR w) (hx:aG w w'):yR w':=fun j u hu=>hx.cell_some (h j u hu)
theorem yR.of_laid {W:World} (h:laidMetH Tryz.prog [("relucert/phase.opposites",Rows.laid_relucert_phase_opposites)] W):yR W:=fun j u hu=>by
 have hT:Lib.TabIs Tryz.prog W "relucert/phase.opposites" .i64 [0,2,1,4,3]:=Lib.tabIs_of_head (rest:=[]) Df FQ Tryz.underlying260 Jh FT Fsz h
 rw[Addr.add_mid,Nat.zero_add]
 rcases j with _|_|_|_|_|j
 ·simp only[List.getElem?_cons_zero,Option.some.injEq] at hu;subst hu;exact hT.cell Df 0 (by decide)
 ·simp only[List.getElem?_cons_succ,List.getElem?_cons_zero,Option.some.injEq] at hu;subst hu;exact hT.cell Df 1 (by decide)
 ·simp only[List.getElem?_cons_succ,List.getElem?_cons_zero,Option.some.injEq] at hu;subst hu;exact hT.cell Df 2 (by decide)
 ·simp only[List.getElem?_cons_succ,List.getElem?_cons_zero,Option.some.injEq] at hu;subst hu;exact hT.cell Df 3 (by decide)
 ·simp only[List.getElem?_cons_succ,List.getElem?_cons_zero,Option.some.injEq] at hu;subst hu;exact hT.cell Df 4 (by decide)
 ·simp at hu
end Go.Rl
namespace Go.Rl
open Go.RowKit Go.Proofs Go.Proofs.YtaajaakbcelmfaaGreatDoor
theorem Dg:aw Tryz.prog 158:=⟨_,Tryz.func158,by kernel_rfl,rfl⟩
theorem mz:aw Tryz.prog 157:=⟨_,Tryz.func157,by kernel_rfl,rfl⟩
theorem Dh:aw Tryz.prog 170:=⟨_,Tryz.func170,by kernel_rfl,rfl⟩
def Di (k:Int):Int:=if k=1 then 2 else if k=2 then 1 else if k=3 then 4 else if k=4 then 3 else k
def nP (d:eg):eg:=⟨Di d.kd,d.ix,d.at_⟩
theorem FU {k:Int} (h:¬(k>0∧k<5)):Di k=k:=by
 unfold Di
 repeat rw[if_neg (by omega)]
theorem FV {w:World} (h:yR w) {k:Int} (h1:k>0) (h2:k<5):∃j:Nat,k=(j:Int)∧j<5∧w.cell? ⟨0,0+j,none⟩=some (I (Di k)):=by
 have hc:∀(j:Nat) (u:Value),[I 0,I 2,I 1,I 4,I 3][j]? =some u→w.cell? ⟨0,0+j,none⟩=some u:=fun j u hu=>by
  have:=h j u hu
  rwa [Addr.add_mid] at this
 obtain⟨j,rfl⟩:∃j:Nat,k=(j:Int):=⟨k.toNat,by omega⟩
 refine⟨j,rfl,by omega,?_⟩
 have:j=1∨j=2∨j=3∨j=4:=by omega
 rcases this with rfl|rfl|rfl|rfl
 ·exact hc 1 _ rfl
 ·exact hc 2 _ rfl
 ·exact hc 3 _ rfl
 ·exact hc 4 _ rfl
theorem yF:(Tryz.prog.info? 80).map (fun i=>(i.zero,i.size,i.bytes))=some (some (.agg #[I 0,I 0,B false,.slice none 0 0,.slice none 0 0]),5,72):=by kernel_rfl
theorem uF:(Tryz.prog.info? 80).map (fun i=>(i.zero,i.size))=some (some (.agg #[I 0,I 0,B false,.slice none 0 0,.slice none 0 0]),5):=by kernel_rfl
theorem yG {d:eg} (h:¬(d.kd>0∧d.kd<5)):nP d=d:=by
 unfold nP
 rw[FU h]
theorem Dj {w:World} {d:eg} {x y:Value} (ho:yR w) (hx:bj d.at_.2.1 x w) (hy:bj d.at_.2.2 y w):
 Calls Tryz.prog 158 #[.agg #[I d.kd,I d.ix,B d.at_.1,x,y]] w (bD fun r w'=>aG w w'∧r=.agg #[I (nP d).kd,I (nP d).ix,B (nP d).at_.1,x,y]):=by
 refine enter (vs:=[.agg #[I d.kd,I d.ix,B d.at_.1,x,y]]) Tryz.func158 JL JL JL ?_
 refine af (aa ?_)
 obtain⟨g1,w1,hr1,l1,x1,k1⟩:=cI (P:=Tryz.prog) (w:=w) (T:=80) (cs:=[I d.kd,I d.ix,B d.at_.1,x,y])
 refine cx JL JL hr1 ?_
 obtain⟨g2,w2,hr2,l2,x2,k2⟩:=bc (P:=Tryz.prog) (w:=w1) (t:=80) (z:=.agg #[I 0,I 0,B false,.slice none 0 0,.slice none 0 0]) (l:=[I 0,I 0,B false,.slice none 0 0,.slice none 0 0]) (by kernel_rfl) rfl
 refine bf JL hr2 (ag (ab (af (af (aa (ah JL JL (aI (o:=0) Jn JL (by kernel_rfl) JL) (ak JL JL (ai Jh JL (x2.cell_some (k1.cell (i:=0) JL))) ?_)))))))
 refine aj JL JL JL (cg) (ae JL JL ?_)
 refine cW (fun h6=>?_) (fun h6=>?_)
 ·refine al JL (ah JL JL (aI (o:=0) Jn JL (by kernel_rfl) JL) (al JL (ak JL JL (ai Jh JL (x2.cell_some (k1.cell (i:=0) JL))) ?_)))
  refine al JL (aj JL JL JL (aS) (aB JL JL JL (ag (ab ?_))))
  refine ba JL (fun h10=>?_) (fun h10=>?_)
  ·have h10:d.kd<5:=h10
   obtain⟨j,hj,hj5,cj⟩:=FV (ho.ext (x1.trans x2)) h6 h10
   refine aa (ah JL JL (aI (o:=0) Jn JL (by kernel_rfl) JL) (ak JL JL (ai Jh JL (x2.cell_some (k1.cell (i:=0) JL))) ?_))
   refine ap (v:=.int .i64 (j:Int)) JL (by rw[hj];rfl) JL (tJ Tryz.underlying260 (by kernel_rfl) hj5 .i64) ?_
   refine ak JL JL (ai Jh JL cj) (ah JL JL (aI (o:=0) Jn JL (by kernel_rfl) JL) ?_)
   obtain⟨w2_5,s2_5,q2_5,k2_5⟩:=(k1.ext x2).stC (P:=Tryz.prog) (t:=3) (i:=0) (v:=I (Di d.kd)) (by kernel_rfl) rfl (by simp)
   refine aC JL JL s2_5 ?_
   have x2_5:=aG.of_new ((x1.trans x2)) q2_5 l1
   have k25:=k2.other q2_5 (fun e=>by have:=Option.some.inj e;have:=k1.lt;omega)
   refine ag (ab (af (aa (ak JL JL (k2_5.ld Jn JL (by kernel_rfl)) ?_))))
   obtain⟨w3_1,s3_1,q3_1,k3_1⟩:=k25.stS (P:=Tryz.prog) (t:=80) (m:=[I (Di d.kd),I d.ix,B d.at_.1,x,y]) rfl (by kernel_rfl) (aL.cons rfl (aL.cons rfl (aL.cons rfl (aL.cons hx.one (aL.cons hy.one aL.nil)))))
   refine aC JL JL s3_1 ?_
   have x3_1:=aG.of_new x2_5 q3_1 (Nat.le_trans x1.size l2)
   refine ag (ab (au ?_))
   refine dB JL JL k3_1 Jn JL (by kernel_rfl) ?_
   exact⟨_,rfl,x3_1,rfl⟩
  ·have h10:¬d.kd<5:=h10
   refine ar (ab (af (aa (ak JL JL ((k1.ext x2).ld Jn JL (by kernel_rfl)) ?_))))
   obtain⟨w3_1,s3_1,q3_1,k3_1⟩:=k2.stS (P:=Tryz.prog) (t:=80) (m:=[I d.kd,I d.ix,B d.at_.1,x,y]) rfl (by kernel_rfl) (aL.cons rfl (aL.cons rfl (aL.cons rfl (aL.cons hx.one (aL.cons hy.one aL.nil)))))
   refine aC JL JL s3_1 ?_
   have x3_1:=aG.of_new (x2) q3_1 l2
   refine ag (ab (au ?_))
   refine dB JL JL k3_1 Jn JL (by kernel_rfl) ?_
   exact⟨_,rfl,(x1.trans x3_1),by rw[yG (by first|exact fun h=>h6 h.1|exact fun h=>h10 h.2)]⟩
 ·refine aq JL JL JL (aq JL JL JL (aq JL JL JL (aH JL JL JL (ag (ab (dI JL (ar (ab (af (aa (ak JL JL ((k1.ext x2).ld Jn JL (by kernel_rfl)) ?_)))))))))))
  obtain⟨w3_1,s3_1,q3_1,k3_1⟩:=k2.stS (P:=Tryz.prog) (t:=80) (m:=[I d.kd,I d.ix,B d.at_.1,x,y]) rfl (by kernel_rfl) (aL.cons rfl (aL.cons rfl (aL.cons rfl (aL.cons hx.one (aL.cons hy.one aL.nil)))))
  refine aC JL JL s3_1 ?_
  have x3_1:=aG.of_new (x2) q3_1 l2
  refine ag (ab (au ?_))
  refine dB JL JL k3_1 Jn JL (by kernel_rfl) ?_
  exact⟨_,rfl,(x1.trans x3_1),by rw[yG (by first|exact fun h=>h6 h.1|exact fun h=>h10 h.2)]⟩
theorem mZ (d:eg):(fF d).size=5:=rfl
theorem mA {w:World} {l:List eg} {v:Value} (hv:cK fF l v w) (hl:l.length≤1099511627776):
 Calls Tryz.prog 157 #[v] w (bD fun r w'=>aG w w'∧fO 80 5 w.heap.size fF l r w'):=by
 obtain⟨A,n,c,rfl⟩:=hv.isS
 refine enter (vs:=[.slice A n c]) Tryz.func157 JL JL JL ?_
 refine af (aa (ac JL JL (ag (ab (af (af (aa (ae JL JL (aj JL JL JL (uT JI) (ag (ab ?_)))))))))))
 refine eZ JL (fun h4=>?_) (fun h4=>?_)
 ·refine af (aa (ac JL JL (ag (ab (au (ax (az JL JL ?_)))))))
  have hA:A=none:=by simpa using h4
  have hnil:l=[]:=by
   have h:=hv
   simp only[cK,Rp,List.cons.injEq,Value.slice.injEq,and_true] at h
   obtain⟨_,n',c',⟨rfl,rfl,rfl⟩,h1,h2,_,h3,_⟩:=h
   have:=h3 hA
   exact List.eq_nil_of_length_eq_zero (by rw[List.length_map] at h1;omega)
  subst hnil
  exact⟨_,rfl,aG.refl _,fO.nil _⟩
 ·refine ar (ab (af (aa ?_)))
  obtain⟨v5,w5,hr5,x5,o5,ob5⟩:=Jc (P:=Tryz.prog) (w:=w) (f:=fF) JI uF
  obtain⟨v7,w7,hr7,o7,g7⟩:=o5.appDs (P:=Tryz.prog) (t:=77) (ty:=77) Tryz.underlying77 yF rfl (by omega) (by omega) hv x5 (Nat.le_refl _) mZ (by simp;omega) x5.size
  have x7:=aG.of_grew x5 g7 (fun k hk=>(o5.lt k hk).1)
  refine aJ (vs:=[]) JL JL hr5 ?_
  refine ae JL JL ?_
  refine aW JL JL hr7 ?_
  refine ac JL JL (ag (ab (au (az JL JL ?_))))
  exact⟨_,rfl,x7,by simpa using o7⟩
theorem fO.low {e:TypeId} {sz base b2:Nat} {l:List eg} {v:Value} {w:World} (h:fO e sz base fF l v w) (hb:b2≤base):fO e sz b2 fF l v w:=by
 obtain⟨n,xs,h1,h2⟩:=h
 exact⟨n,xs,gy h1 fun k hk=>Nat.le_trans hb (World.ownsRow.lt h1 k hk).1,h2⟩
theorem Im {w:World} {d:eg} {x y:Value} (hx:bj d.at_.2.1 x w) (hy:bj d.at_.2.2 y w):Rp w (fF d) [I d.kd,I d.ix,B d.at_.1,x,y]:=by
 simp only[fF,nf,Rp]
 have h3:Rp w (fK d.at_) [B d.at_.1,x,y]:=by
  simp only[fK,Rp]
  exact bi.cons (a:=[B d.at_.1]) (by simp only[Rp,B]) (bi.cons (a:=[x]) (Rp.words.2 hx) (bi.cons (b:=[]) (Rp.words.2 hy) bi.nil))
 exact bi.cons (a:=[I d.kd]) (by simp only[Rp,I]) (bi.cons (a:=[I d.ix]) (by simp only[Rp,I]) (by simpa using bi.cons h3 bi.nil))
def FW (n:aN) (i:Int):eg:=if i=1 then nP n.split else n.split
theorem Bu {w:World} {d:eg} {x y:Value}:∃r w',(Instr.buildSlice 77 1 (dC 0 [Value.agg #[I d.kd,I d.ix,B d.at_.1,x,y]]).toArray).run Tryz.prog w=.ok r w'∧aG w w'∧Sl 5 [I d.kd,I d.ix,B d.at_.1,x,y] r w':=by
 obtain⟨r,w',a,b,c,_⟩:=A0 (P:=Tryz.prog) (w:=w) Tryz.underlying77 uF rfl (by omega) [[I d.kd,I d.ix,B d.at_.1,x,y]] (by simp) (by simp) (by simp)
 exact⟨r,w',a,b,c⟩
theorem fO.snoc {w0 w:World} {l:List eg} {v u x y:Value} {d:eg} (h:fO 80 5 w0.heap.size fF l v w) (e:aG w0 w) (hx:bj d.at_.2.1 x w0) (hy:bj d.at_.2.2 y w0) (hu:Sl 5 [I d.kd,I d.ix,B d.at_.1,x,y] u w) (hl:l.length≤1099511627776):
 ∃r w1,(Builtin.append_ #[77,77] 77 #[v,u]).run Tryz.prog w=.ok r w1∧cK fF (l++[d]) r w1∧aG w0 w1∧fO 80 5 w0.heap.size fF (l++[d]) r w1:=by
 have hlt:=h.lt
 obtain⟨r,w1,h1,h2,h3⟩:=h.app (P:=Tryz.prog) (t:=77) (ty:=77) (m:=[d]) JI yF rfl (by omega) (by omega) hu (aL.cons rfl (aL.cons rfl (aL.cons rfl (aL.cons hx.one (aL.cons hy.one aL.nil))))) (by
  have:=(((Im hx hy).x.ext e).weak (Y:=fun k=>v.ownBlock=some k) fun k hk=>.inl (hlt k hk).1)
  simpa using aK.cons this aK.nil) mZ (by simp;omega) e.size
 exact⟨r,w1,h1,h2.ds mZ (by omega),aG.of_grew e h3 (fun k hk=>(hlt k hk).1),h2⟩
theorem Dk {w:World} {n:aN} {path:List eg} {i:Int} {pv vl x y vk vp:Value} (ho:yR w) (hpa:cK fF path pv w) (hpl:path.length≤1099511627776) (_hl:cK dm n.lems vl w) (hx:bj n.split.at_.2.1 x w) (hy:bj n.split.at_.2.2 y w) (_hk:cK bh n.kids vk w) (_hp:cK cd n.pf vp w):
 Calls Tryz.prog 170 #[pv,.agg #[vl,I n.split.kd,I n.split.ix,B n.split.at_.1,x,y,vk,B n.empty,vp],I i] w (bD fun r w'=>aG w w'∧cK fF (path++[FW n i]) r w'):=by
 refine enter (vs:=[pv,.agg #[vl,I n.split.kd,I n.split.ix,B n.split.at_.1,x,y,vk,B n.empty,vp],I i]) Tryz.func170 JL JL JL ?_
 refine af (aa ?_)
 obtain⟨g4,w4,hr4,l4,x4,k4⟩:=cI (P:=Tryz.prog) (w:=w) (T:=83) (cs:=[vl,I n.split.kd,I n.split.ix,B n.split.at_.1,x,y,vk,B n.empty,vp])
 refine cx JL JL hr4 (ac JL JL (ag (ab (af (aa (ah JL JL (aI (o:=1) Jg JL (by kernel_rfl) JL) ?_))))))
 refine ak rfl rfl (k4.ldO (ms:=[I n.split.kd,I n.split.ix,B n.split.at_.1,x,y]) (o:=1) (fun j v hj=>by rcases j with _|_|_|_|_|_|_|_|_|j<;>simp_all) Tryz.underlying80 rfl (by kernel_rfl)) ?_
 obtain⟨g7,w7,hr7,l7,x7,k7⟩:=bc (P:=Tryz.prog) (w:=w4) (t:=80) (z:=.agg #[I 0,I 0,B false,.slice none 0 0,.slice none 0 0]) (l:=[I 0,I 0,B false,.slice none 0 0,.slice none 0 0]) (by kernel_rfl) rfl
 refine bf JL hr7 ?_
 obtain⟨w1_3,s1_3,q1_3,k1_3⟩:=k7.stS (P:=Tryz.prog) (t:=80) (m:=[I n.split.kd,I n.split.ix,B n.split.at_.1,x,y]) rfl (by kernel_rfl) (aL.cons rfl (aL.cons rfl (aL.cons rfl (aL.cons hx.one (aL.cons hy.one aL.nil)))))
 refine aC JL JL s1_3 ?_
 have x1_3:=aG.of_new (x7) q1_3 l7
 refine ag (ab (af (af (aa (ae JL JL (aj JL JL JL (bA) (ag (ab ?_))))))))
 refine ba JL (fun h11=>?_) (fun h11=>?_)
 ·refine aa (ak JL JL (k1_3.ld Jn JL (by kernel_rfl)) (am Dg JL JL ((Dj (ho.ext ((x4.trans x1_3))) (hx.ext (x4.trans x1_3)) (hy.ext (x4.trans x1_3)))) ?_))
  rintro v13 w13 ⟨x13,rfl⟩
  obtain⟨w3_2,s3_2,q3_2,k3_2⟩:=(k1_3.ext x13).stS (P:=Tryz.prog) (t:=80) (m:=[I (nP n.split).kd,I (nP n.split).ix,B (nP n.split).at_.1,x,y]) rfl (by kernel_rfl) (aL.cons rfl (aL.cons rfl (aL.cons rfl (aL.cons hx.one (aL.cons hy.one aL.nil)))))
  refine aC JL JL s3_2 ?_
  have x3_2:=aG.of_new ((x1_3.trans x13)) q3_2 l7
  refine ag (ab (af (bm 4 [15,17] (by kernel_rfl) (by kernel_rfl) ?_)))
  refine ao rfl rfl (bW (S:=fO 80 5 w.heap.size fF path) mz (fO.stable) rfl (fun w hw=>by rintro _ rfl;exact bD.mono (mA ((hpa.ext ((x4.trans x3_2))).ext hw) hpl) fun v w' h=>⟨h.1,h.2.low (Nat.le_trans ((x4.trans x3_2)).size hw.size)⟩) ?_)
  refine aD rfl rfl (fun w hw=>(k3_2.ext hw).ld Jn rfl (by kernel_rfl)) (ep (S:=Sl 5 [I (nP n.split).kd,I (nP n.split).ix,B (nP n.split).at_.1,x,y]) (Sl.stable _ _) rfl (fun w' hw=>by rintro _ rfl;exact Bu (d:=nP n.split)) ?_)
  refine bu ?_
  intro wg4 xg4
  intro vg15 b15
  intro vg17 b17
  obtain⟨v18,w18,hr18,d18,e18,_⟩:=fO.snoc (d:=nP n.split) b15 (((x4.trans x3_2).trans xg4)) hx hy b17 hpl
  refine aW JL JL hr18 ?_
  refine ac JL JL (ag (ab (au (az JL JL ?_))))
  exact⟨_,rfl,e18,by rw[show FW n i=nP n.split from if_pos h11];exact d18⟩
 ·refine ar (ab (af (bm 4 [15,17] (by kernel_rfl) (by kernel_rfl) ?_)))
  refine ao rfl rfl (bW (S:=fO 80 5 w.heap.size fF path) mz (fO.stable) rfl (fun w hw=>by rintro _ rfl;exact bD.mono (mA ((hpa.ext ((x4.trans x1_3))).ext hw) hpl) fun v w' h=>⟨h.1,h.2.low (Nat.le_trans ((x4.trans x1_3)).size hw.size)⟩) ?_)
  refine aD rfl rfl (fun w hw=>(k1_3.ext hw).ld Jn rfl (by kernel_rfl)) (ep (S:=Sl 5 [I n.split.kd,I n.split.ix,B n.split.at_.1,x,y]) (Sl.stable _ _) rfl (fun w' hw=>by rintro _ rfl;exact Bu (d:=n.split)) ?_)
  refine bu ?_
  intro wg4 xg4
  intro vg15 b15
  intro vg17 b17
  obtain⟨v18,w18,hr18,d18,e18,_⟩:=fO.snoc (d:=n.split) b15 (((x4.trans x1_3).trans xg4)) hx hy b17 hpl
  refine aW JL JL hr18 ?_
  refine ac JL JL (ag (ab (au (az JL JL ?_))))
  exact⟨_,rfl,e18,by rw[show FW n i=n.split from if_neg h11];exact d18⟩
end Go.Rl
namespace Go.Rl
open Go.RowKit
section
variable {P:Program} {ops:Array Oper} {md:Region.Mode} {Env:World→Prop} {Rl:World→World→Prop} {mo:Bool} {Pn:List PanicEntry→World→Prop} {N:Nat}
theorem Dl {Q:eG} {i:Nat} {a:Act} {w:World} {K K':Act→World→Prop} (hQ:¬LetsOut Q) (hk:∀a w,K a w→K' a w) (h:wpOp P ops Q i K a w):wpOpIn Fence.wide 0 P ops Q i K' a w:=by
 unfold wpOp at h
 unfold wpOpIn
 cases ho:ops[i]? with
 |none=>
  simp only[ho] at h⊢
  exact hk _ _ h
 |some o=>
  simp only[ho] at h⊢
  split
  ·rename_i hw
   rw[if_pos hw] at h
   exact pg (rd:=none) (n:=0) (.inl rfl) hk (h.resolve_right fun h=>hQ h.2)
  ·rename_i hw
   rw[if_neg hw] at h
   exact⟨fun _ _=>trivial,hk _ _ h⟩
theorem mC {Q':eG}:∀(l:List Oper) (k:Nat) (listed:Array Bool) (a:Act) (w:World),(∀j,l[j]? =ops[k+j]?)→
 Region.seqB md ops l.length k listed=true→wpListIn Fence.wide 0 P ops Q' l a w→wpAnyIn Fence.wide 0 P md ops Q' l.length listed a w
 |[],k,listed,a,w,_,hB,h=>⟨by simpa [Region.seqB] using hB,h⟩
 |o::l,k,listed,a,w,hl,hB,h=>by
  have h0:ops[k]? =some o:=by simpa using(hl 0).symm
  simp only[List.length_cons,Region.seqB,Bool.and_eq_true,decide_eq_true_eq] at hB
  refine⟨fun h1=>(by rw[hB.1] at h1;cases h1),fun i hi=>?_⟩
  rw[hB.1] at hi
  have hik:i=k:=by simpa using hi
  subst hik
  have hw:wpOpIn Fence.wide 0 P ops Q' i (wpListIn Fence.wide 0 P ops Q' l) a w:=by unfold wpOpIn;simp only[h0];exact h
  exact wpOpIn_mono (fun a' w' h'=>mC l (i+1) _ a' w' (fun j=>by have:=hl (j+1);simpa [Nat.add_assoc,Nat.add_comm 1 j] using this) hB.2 h') hw
theorem ku {l0:List (Nat×Value)} {D:List Deferred} {n g:Nat} {L:Array Bool→cm→ij→Prop} {Q':eG} (hQ:¬LetsOut Q') (hE:fg Env Rl) (hP:∀c a w,a.tmps.size=N→a.defers=D→gw l0 a→Pn c w→Q' (.panic c) a w)
 (hd0:∀i o,i<n→ops[i]? =some o→∀d,o.dst=some d→∀p∈l0,p.1≠d)
 (hL:∀listed F Z,L listed F Z→(∀t,bR Rl (F t))→cw Z→∀a w,Env w→tn N D F a w→Z w→wpAnyIn Fence.wide 0 P md ops Q' g listed a w):
 ∀(f:Nat) (listed:Array Bool) (F:cm) (Z:ij),fV P md ops Env Rl mo Pn N n L f listed F Z→(∀t,bR Rl (F t))→cw Z→∀a w,Env w→tn N D F a w→gw l0 a→Z w→wpAnyIn Fence.wide 0 P md ops Q' (f+g) listed a w
 |0,listed,F,Z,h,hF,hZ,a,w,he,hs,_,hz=>by rw[Nat.zero_add];exact hL _ _ _ h hF hZ a w he hs hz
 |f+1,listed,F,Z,h,hF,hZ,a,w,he,hs,hk,hz=>by
  rw[show f+1+g=(f+g)+1 by omega]
  refine⟨fun h0=>absurd h0 h.1,fun i hi=>?_⟩
  obtain⟨hin,o,S,Z',ho,hspec,hrest⟩:=h.2 i hi
  refine Dl hQ (fun _ _ h=>h) (nT hE hP ho hspec hF hZ he hs hk (hd0 i o hin ho) hz (fun a' w' he' hs' hk' hz'=>?_))
  exact ku hQ hE hP hd0 hL f _ _ _ hrest (gQ hF hspec.stable) (hspec.zst hZ) a' w' he' hs' hk' hz'
end
section
variable {P:Program} {ops:Array Oper} {Q:eG} {N:Nat} {D:List Deferred} {l:Fr} {w:World}
theorem G2 {id:Nat} {os:List Oper} (n:Nat) (ts:List Nat) (hm:P.follows .mixedOrders=true) (hB:Region.lexTailB .any os.toArray n=true)
 (h:eQ P os.toArray (aG w) aG false F5 N (os.take n) (nV l) (fun _=>True) (fun F _=>∀w',aG w w'→ga F w' ts (fun l'=>yZ P os.toArray Q N D l' w' (os.drop n))))
 (hQ:¬LetsOut Q:=by repeat with_reducible first|exact i9|exact gW|exact gh|apply fv|apply gd):cD P Q N D l w (.region id os.toArray true):=fun a ha=>by
 refine wpIn_wide.1 (wpIn_region_any (n:=0) hm ?_)
 have hdr:aG w {w with drawn:=w.drawn+1}:=⟨rfl,rfl,rfl,Nat.le_refl _,fun _ _=>rfl⟩
 simp only[Region.lexTailB,Bool.and_eq_true,decide_eq_true_eq] at hB
 obtain⟨⟨⟨⟨_,hn⟩,hs⟩,hc⟩,hlex⟩:=hB
 have hn':n<os.length:=by simpa using hn
 have htl:(os.take n).length=n:=by simp;omega
 have hdl:(os.drop n).length=os.toArray.size-n:=by simp
 have inv0:HeadInv .any os.toArray n (Array.replicate os.toArray.size false):=
  ⟨by simp,fun j oj _ hl=>(by rw[getD_replicate_false] at hl;cases hl),fun t _ ht=>getD_in (by simpa using ht) (getD_replicate_false _ _)⟩
 have h2:eQ P os.toArray (aG w) aG false F5 N (os.take n) (nV l) (fun _=>True) (fun F Z=>∀a' w',aG w w'→tn N D F a' w'→Z w'→wpListIn Fence.wide 0 P os.toArray Q (os.drop n) a' w'):=gu _ _ _ (fun F Z hK a' w' he hs _=>by
  obtain⟨l',hl',hk⟩:=ga.use hs (hK w' he)
  exact hk a' hl') h
 have hZ:cw (fun _=>True):=fun _ _ _ _=>trivial
 have H:=kv (md:=.any) (g:=os.toArray.size-n) (fun h=>by cases h) hs hc hn (os.take n) 0 _ _ _ (fun j hj=>by
  have hj':j<n:=by rw[htl] at hj;exact hj
  simp[hj']) (by simpa using htl) inv0 (by rw[htl];exact hlex) (ey l) hZ h2
 have hsat:tn N D (nV l) a {w with drawn:=w.drawn+1}:=⟨ha.size,ha.defers,fun t=>by
  show nV l t (a.tmps.getD t undef) _
  unfold nV
  cases hv:lk l t with
  |some v=>exact ha.at_ t v hv
  |none=>trivial⟩
 have:=ku (D:=D) (Q':=Q) (l0:=[]) (g:=os.toArray.size-n) hQ (fg.plain w) (fun _ _ _ _ _ _ hp=>hp.elim) (fun _ _ _ _ _ _ _ hp=>by cases hp) (fun listed F Z hL hF hZ a' w' he hsat hz=>by
  have:=mC (md:=.any) (Q':=Q) (os.drop n) n listed a' w' (fun j=>by simp[List.getElem?_drop]) (by rw[hdl];exact hL.1) (hL.2 a' w' he hsat hz)
  rwa [hdl] at this) _ _ _ _ H (ey l) hZ a {w with drawn:=w.drawn+1} hdr hsat (fun _ hp=>by cases hp) trivial
 rw[htl,show n+(os.toArray.size-n)=os.toArray.size by omega] at this
 exact this
end
end Go.Rl
namespace Go.Rl
open Go.RowKit
mutual
def ej:aN→List aN
 |.mk l s ks e p=>.mk l s ks e p::uG ks
def uG:List aN→List aN
 |[]=>[]
 |n::l=>ej n++uG l
end
theorem te:∀l:List aN,uG l=l.flatMap ej
 |[]=>rfl
 |n::l=>by simp only[uG,List.flatMap_cons,te l]
theorem wC (n:aN):ej n=n::n.kids.flatMap ej:=by
 cases n with
 |mk l s k e p=>simp only[ej,te];rfl
def FX (n:aN):Bool:=gL n.split.at_&&pG n.pf&&n.lems.all jv
mutual
theorem tf:∀n:aN,eU n=(ej n).all FX
 |.mk l s ks e p=>by
  simp only[eU,ej,List.all_cons,←uH ks]
  show _=((gL s.at_&&pG p&&l.all jv)&&sq ks)
  cases pG p<;>cases gL s.at_<;>simp
theorem uH:∀l:List aN,sq l=(uG l).all FX
 |[]=>rfl
 |n::l=>by simp only[sq,uG,List.all_append,tf n,uH l]
end
end Go.Rl
namespace Go.Rl
open Go.RowKit Go.Proofs
def ex (w w':World):Prop:=∀a v,w.cell? a=some v→w'.cell? a=some v
theorem ex.cells {w w':World} (h:ex w w') {ad:Addr} {xs:List Value} (hc:dt w ad xs):dt w' ad xs:=fun j u hu=>h _ _ (hc j u hu)
mutual
theorem ex.rp {w w':World} (h:ex w w'):∀{d:Dt} {cs:List Value},Rp w d cs→Rp w' d cs
 |.int k n,cs,hr=>by simpa only[Rp] using hr
 |.bool b,cs,hr=>by simpa only[Rp] using hr
 |.str l,cs,hr=>by simpa only[Rp] using hr
 |.sl l,cs,hr=>by
  simp only[Rp] at hr⊢
  obtain⟨A,n,c,h1,h2,h3,h4,h5,h6⟩:=hr
  refine⟨A,n,c,h1,h2,h3,h4,h5,fun hn=>?_⟩
  obtain⟨ad,xs,h7,h8,h9⟩:=h6 hn
  exact⟨ad,xs,h7,h.cells h8,ex.rpAll h h9⟩
 |.st l,cs,hr=>by simp only[Rp] at hr⊢;exact ex.rpAll h hr
theorem ex.rpAll {w w':World} (h:ex w w'):∀{l:List Dt} {cs:List Value},bi w l cs→bi w' l cs
 |[],cs,hr=>by simpa only[bi] using hr
 |d::l,cs,hr=>by
  simp only[bi] at hr⊢
  obtain⟨c1,c2,h0,h1,h2⟩:=hr
  exact⟨c1,c2,h0,ex.rp h h1,ex.rpAll h h2⟩
end
structure Kc (b:Nat) (w w':World):Prop where
 os:w'.os=w.os
 tape:w'.tape=w.tape
 output:w'.output=w.output
 size:w.heap.size≤w'.heap.size
 low:∀k,k<b→w'.heap[k]? =w.heap[k]?
 cel:∀(k:Nat) (o:Obj),w.heap[k]? =some o→o.isCells=true→w'.heap[k]? =some o
section
variable {b:Nat} {w w0 w1 w2:World}
theorem Kc.refl (b:Nat) (w:World):Kc b w w:=⟨rfl,rfl,rfl,Nat.le_refl _,fun _ _=>rfl,fun _ _ h _=>h⟩
theorem Kc.trans (h:Kc b w w1) (k:Kc b w1 w2):Kc b w w2:=⟨k.os.trans h.os,k.tape.trans h.tape,k.output.trans h.output,Nat.le_trans h.size k.size,fun n hn=>(k.low n hn).trans (h.low n hn),fun n o hn ho=>k.cel n o (h.cel n o hn ho) ho⟩
theorem Kc.of_ext (h:aG w w1) (hb:b≤w.heap.size):Kc b w w1:=⟨h.os,h.tape,h.output,h.size,fun _ hn=>h.heap (Nat.lt_of_lt_of_le hn hb),fun _ _ hn _=>h.heap_some hn⟩
theorem Kc.cells (h:Kc b w w1):ex w w1:=fun a v hv=>by
 unfold World.cell? at hv⊢
 cases ho:w.heap[a.block]? with
 |none=>rw[ho] at hv;cases hv
 |some o=>
  rw[ho] at hv
  cases o with
  |cells c t f=>rw[h.cel _ _ ho rfl];exact hv
  |_=>cases hv
theorem Kc.blk {g:Nat} {T:TypeId} {l:List Value} (h:Kc b w w1) (k:cl g T l w):cl g T l w1:=h.cel _ _ k rfl
theorem Kc.ext (h:Kc w0.heap.size w w1) (e:aG w0 w):aG w0 w1:=⟨h.os.trans e.os,h.tape.trans e.tape,h.output.trans e.output,Nat.le_trans e.size h.size,fun n hn=>(h.low n hn).trans (e.heap hn)⟩
theorem Kc.put {l:Nat} {o o':Obj} (hb:b≤l) (hl:w.heap[l]? =some o) (ho:o.isCells=false):Kc b w (w.putObj l o'):=by
 have g:=grownBy_putObj' w l o'
 refine⟨g.os,g.tape,g.output,g.size,fun k hk=>World.putObj_heap_other (by omega),fun k o2 hk ho2=>?_⟩
 have:k≠l:=by
  rintro rfl
  rw[hl] at hk
  cases hk
  rw[ho] at ho2
  cases ho2
 rw[World.putObj_heap_other this]
 exact hk
theorem Kc.own {row:Option Nat} (hg:w.grownBy w1 row) (hr:∀r,row=some r→b≤r∧∃o:Obj,w.heap[r]? =some o∧o.isCells=false) (hb:b≤w.heap.size):Kc b w w1:=by
 refine⟨hg.os,hg.tape,hg.output,hg.size,fun k hk=>hg.block k (by omega) fun e=>by have:=(hr k e.symm).1;omega,fun k o hk ho=>?_⟩
 refine(hg.block k (Array.getElem?_eq_some_iff.1 hk).1 fun e=>?_).trans hk
 obtain⟨_,o2,h2,h3⟩:=hr k e.symm
 rw[hk] at h2
 cases h2
 rw[ho] at h3
 cases h3
theorem aG.grownNone (h:aG w w1):w.grownBy w1 none:=⟨h.os,h.tape,h.output,h.size,fun _ hk _=>h.heap hk⟩
theorem yR.le (h:yR w) (c:ex w w1):yR w1:=c.cells h
theorem bj.le {l:List UInt32} {v:Value} (h:bj l v w) (c:ex w w1):bj l v w1:=Rp.words.1 (c.rp (Rp.words.2 h))
theorem cK.le {α:Type} {f:α→Dt} {l:List α} {v:Value} (h:cK f l v w) (c:ex w w1):cK f l v w1:=c.rp h
end
structure nR (w:World) where
 n:aN
 pv:Value
 vl:Value
 x:Value
 y:Value
 vk:Value
 vp:Value
 hl:cK dm n.lems vl w
 hx:bj n.split.at_.2.1 x w
 hy:bj n.split.at_.2.2 y w
 hk:cK bh n.kids vk w
 hp:cK cd n.pf vp w
 hs:sN n
def nR.enc {w:World} (v:nR w):List Value:=[v.pv,.agg #[v.vl,I v.n.split.kd,I v.n.split.ix,B v.n.split.at_.1,v.x,v.y,v.vk,B v.n.empty,v.vp]]
section
variable {P:Program} {fn:Func} {R:Ending→World→Prop} {N:Nat} {l:Fr} {w:World} {p:Tmp} {t T:TypeId} {d:TypeDesc} {g D0:Nat} {v:Value}
theorem nn {tmps:Array Value} {a:Addr} (h:fn.results= #[.cell p t]) (hp:tmps.getD p undef=.pointer (some a)) (l1:(loadVar t a).run P w=.ok v w):(results fn tmps).run P w=.ok v w:=by
 simp only[results,h]
 simp only[Array.getD_eq_getD_getElem?] at hp
 simp[hp,l1,asAddr]
theorem FY (hr:fn.results= #[.cell p t]) (hv:lk l p=some (.pointer (some ⟨g,0,none⟩))) (hb:cl g T [v] w) (ht:P.underlying t=some d) (hd:(match d with|.struct _|.array _ _=>true|_=>false)=false) (h:R (.returned v) w):ft (bodyPostM Fence.wide 0 P fn R) N [] l w .ret:=fun a ha=>by
 show LeavesInM Fence.wide 0 P fn a.tmps R a.defers .returning w
 rw[ha.defers]
 exact⟨v,nn hr (ha.at_ p _ hv) (oD ht hd hb.k0),h⟩
theorem yH (hr:fn.results= #[.cell p t]) (hv:lk l p=some (.pointer (some ⟨g,0,none⟩))) (hb:cl g T [v] w) (ht:P.underlying t=some d) (hd:(match d with|.struct _|.array _ _=>true|_=>false)=false) (hD:w.heap[D0]? =some (.deferred (some []))) (h:∀w',w.grownBy w' (some D0)→R (.returned v) w'):ft (bodyPostM Fence.wide 0 P fn R) N [⟨.collected D0,#[]⟩] l w .ret:=fun a ha=>by
 have hne:g≠D0:=by
  rintro rfl
  have hb':w.heap[g]? =some (.cells [v].toArray T (0,0)):=hb
  rw[hb'] at hD
  cases hD
 have hgr:=grownBy_putObj' w D0 (.deferred none)
 have hb2:=hb.other hgr (fun e=>hne (Option.some.inj e))
 show LeavesInM Fence.wide 0 P fn a.tmps R a.defers .returning w
 rw[ha.defers]
 exact⟨by simp,.inl ⟨D0,_,rfl,run_takeDeferred hD,v,nn hr (ha.at_ p _ hv) (oD ht hd hb2.k0),h _ hgr⟩⟩
end
end Go.Rl
namespace Go.Rl
open Go.RowKit Go.Proofs Go.Proofs.YtaajaakbcelmfaaGreatDoor
theorem tg:aw Tryz.prog 138:=⟨_,Tryz.func138,by kernel_rfl,rfl⟩
theorem yI:aw Tryz.prog 95:=⟨_,Tryz.func95,by kernel_rfl,rfl⟩
theorem yJ:aw Tryz.prog 137:=⟨_,Tryz.func137,by kernel_rfl,rfl⟩
theorem In {l:List aN} {i:Nat} (hi:i<l.length):((l.take i).flatMap ej).length+(ej l[i]).length≤(l.flatMap ej).length:=by
 have h:l.flatMap ej=(l.take i).flatMap ej++(ej l[i]++(l.drop (i+1)).flatMap ej):=by
  rw[←List.flatMap_cons,←List.drop_eq_getElem_cons hi,←List.flatMap_append,List.take_append_drop]
 rw[h]
 simp only[List.length_append]
 omega
theorem Ip {d:Nat} {n k:aN} (h:wF d n=true) (hk:k∈n.kids):∃d',d=d'+1∧wF d' k=true:=by
 unfold wF at h
 split at h
 ·rename_i e
  rw[e] at hk
  cases hk
 ·rename_i a b e
  rw[e] at hk
  simp only[Bool.and_eq_true] at h
  cases d with
  |zero=>exact absurd h.2 (by simp)
  |succ d=>
   have h2:=h.2
   simp only[Bool.and_eq_true] at h2
   simp only[List.mem_cons,List.not_mem_nil,or_false] at hk
   rcases hk with rfl|rfl
   ·exact⟨d,rfl,h2.1⟩
   ·exact⟨d,rfl,h2.2⟩
 ·cases h
theorem uI {l:List aN} {i:Nat} (hi:i<l.length):(l.take (i+1)).flatMap ej=(l.take i).flatMap ej++ej l[i]:=by
 rw[List.take_succ_eq_append_getElem hi,List.flatMap_append]
 simp
theorem FZ (l:List aN) (i:Nat):(l.take i).flatMap ej<+:l.flatMap ej:=⟨(l.drop i).flatMap ej,by rw[←List.flatMap_append,List.take_append_drop]⟩
section
variable (w0:World) (lp M:Nat) (J Jx:List (nR w0)→World→Prop)
def Jd (pre:List (nR w0)) (n:aN) (w:World) (r:Value) (w':World):Prop:=
 (r=B true∧Kc w0.heap.size w w'∧∃vs:List (nR w0),vs.map (·.n)=ej n∧J (pre++vs) w')∨(r=B false∧∃vs:List (nR w0),vs.map (·.n)<+:ej n∧Jx (pre++vs) w')
def Aq (d:Nat) (n:aN):Prop:=∀(w:World) (pre:List (nR w0)) (path:List eg) (pv vl x y vk vp:Value),ex w0 w→w0.heap.size≤w.heap.size→yR w→cK fF path pv w→path.length+d≤1000000→
 cK dm n.lems vl w0→bj n.split.at_.2.1 x w0→bj n.split.at_.2.2 y w0→cK bh n.kids vk w0→cK cd n.pf vp w0→sN n→J pre w→pre.length+(ej n).length≤M→
 Calls Tryz.prog 138 #[pv,.agg #[vl,I n.split.kd,I n.split.ix,B n.split.at_.1,x,y,vk,B n.empty,vp],.func (.yield lp) #[] #[]] w (bD (Jd w0 J Jx pre n w))
end
theorem F0 {l:List aN} {i:Nat} (hi:i<l.length) {q:List aN} (hq:q<+:ej l[i]):(l.take i).flatMap ej++q<+:l.flatMap ej:=by
 obtain⟨s,hs⟩:=hq
 have h:=FZ l (i+1)
 rw[uI hi,←hs,←List.append_assoc] at h
 exact(List.prefix_append _ s).trans h
theorem yK {n:aN} {l:List aN} (h:l<+:n.kids.flatMap ej):n::l<+:ej n:=by
 rw[wC]
 obtain⟨s,hs⟩:=h
 exact⟨s,by rw[List.cons_append,hs]⟩
theorem th {w0:World} {lp M:Nat} {J Jx:List (nR w0)→World→Prop} (hJ:∀s W W',J s W→aG W W'→J s W')
 (hY:∀(pre:List (nR w0)) (x:nR w0) (W:World),J pre W→pre.length<M→YieldAt Fence.wide 0 Tryz.prog lp x.enc.toArray W fun e W'=>(e=.returned (.bool true)∧J (pre++[x]) W'∧Kc w0.heap.size W W')∨(e=.returned (.bool false)∧Jx (pre++[x]) W'))
 {d:Nat} {n:aN} (hok:wF d n=true) (ih:∀d',d=d'+1→∀k,wF d' k=true→Aq w0 lp M J Jx d' k):Aq w0 lp M J Jx d n:=by
 intro w pre path pv vl x y vk vp hE hS ho hpa hpl hl hx hy hk hp hsn hJ0 hM
 refine enter (vs:=[pv,.agg #[vl,I n.split.kd,I n.split.ix,B n.split.at_.1,x,y,vk,B n.empty,vp],.func (.yield lp) #[] #[]]) Tryz.func138 JL JL JL ?_
 have hkn:=hk.len
 have hlen:(ej n).length=1+(n.kids.flatMap ej).length:=by rw[wC,List.length_cons];omega
 refine af (aa ?_)
 obtain⟨g4,w4,hr4,l4,x4,k4⟩:=cI (P:=Tryz.prog) (w:=w) (T:=83) (cs:=[vl,I n.split.kd,I n.split.ix,B n.split.at_.1,x,y,vk,B n.empty,vp])
 refine cx JL JL hr4 (ac JL JL (ag (ab (af (af ?_)))))
 refine G2 4 [0,2,4,9,11,12] (by kernel_rfl) (by kernel_rfl) ?_
 refine ao JL JL (ao JL JL ?_)
 refine bW (S:=cK fF path) mz (cK.stable _ _) rfl (fun w' hw=>by rintro _ rfl;exact bD.mono (mA ((hpa.ext x4).ext hw) (by omega)) fun v w' h=>⟨h.1,h.2.ds mZ (by omega)⟩) ?_
 refine aD JL JL (fun w hw=>(k4.ext hw).ld Jg JL (by kernel_rfl)) (bu ?_)
 intro wg1 xg1
 rintro _ hq0
 obtain rfl:=Eq.symm hq0
 rintro _ rfl
 rintro _ rfl
 rintro _ rfl
 intro vg11 b11
 rintro _ rfl
 have hx1:=hY pre ⟨n,vg11,vl,x,y,vk,vp,hl,hx,hy,hk,hp,hsn⟩ wg1 (hJ _ _ _ hJ0 (x4.trans xg1)) (by omega)
 refine AC JL JL JL hx1 ?_
 rintro e w3 (⟨rfl,hJ3,hK3⟩|⟨rfl,hJx3⟩)
 rotate_left
 ·refine⟨_,rfl,uW (bB JL JL bF (ag (ab (bJ JL (af (aa (ac JL JL (ag (ab (au (ax (az JL JL ?_))))))))))))⟩
  exact⟨_,rfl,.inr ⟨rfl,[⟨n,vg11,vl,x,y,vk,vp,hl,hx,hy,hk,hp,hsn⟩],show[n]<+:ej n from yK List.nil_prefix,hJx3⟩⟩
 refine⟨_,rfl,uW (bB JL JL bF (ag ?_))⟩
 have hK0:Kc w0.heap.size w w3:=(Kc.of_ext (x4.trans xg1) hS).trans hK3
 have hE3:ex w0 w3:=fun a v hv=>hK0.cells a v (hE a v hv)
 have k43:=hK3.blk (k4.ext xg1)
 have hpa3:=hpa.le hK0.cells
 have ho3:=ho.le hK0.cells
 have hk3:=hk.le hE3
 refine ab (dI JL (ar (ab (af (af (aa (ah JL JL (aI (o:=6) Jg JL (by kernel_rfl) JL) (ak JL JL (ai Jk JL (k43.cell (i:=6) JL)) ?_))))))))
 refine aP JL JL (bO (f:=bh) Jk hk3) ?_
 refine ae JL JL (ag (ab (av ?_)))
 refine dA (fun(i:Nat) (vs:List (nR w0))=>[(0,pv),(2,.func (.yield lp) #[] #[]),(4,.pointer (some ⟨g4,0,none⟩)),(16,vk),(17,I (n.kids.length:Int)),(18,I (i:Int))]) (fun(i:Nat) (vs:List (nR w0)) w'=>i≤n.kids.length∧vs.map (·.n)=n::(n.kids.take i).flatMap ej∧J (pre++vs) w'∧Kc w0.heap.size w3 w') (fun(i:Nat) (vs:List (nR w0))=>n.kids.length-i) (0) ([⟨n,vg11,vl,x,y,vk,vp,hl,hx,hy,hk,hp,hsn⟩]) ⟨rfl,rfl,rfl,rfl,rfl,rfl,trivial⟩ ⟨by omega,rfl,hJ3,Kc.refl _ _⟩ ?_
 rintro i vs wL ⟨hi,hvs,hJL,hKL⟩
 refine af (aa (aj JL JL JL (aS) (ag (ab (af ?_)))))
 refine ba JL (fun h19=>?_) (fun h19=>?_)
 ·have hKw:=hK0.trans hKL
  have hkL:cK bh n.kids vk wL:=hk3.le hKL.cells
  have k4L:=hKL.blk k43
  refine ar (ab (af (av (af (aa (ae JL JL ?_))))))
  have hEL:ex w0 wL:=fun a v hv=>hKw.cells a v (hE a v hv)
  obtain⟨a21,c21,p21,q21,h21⟩:=cO (P:=Tryz.prog) (sz:=9) Jk (by kernel_rfl) bK (by omega) hk (i:=i) (by omega) .i64
  obtain⟨e21,he21⟩:∃e,e=n.kids[i]'(by omega):=⟨_,rfl⟩
  rw[←he21] at h21
  obtain⟨x21_0,x21_1,x21_2,x21_3,x21_4,rfl,f21_0,f21_1,f21_2,f21_3,f21_4⟩:=dh h21
  refine ap JL JL JL (p21 _) ?_
  have hmem:e21∈n.kids:=by rw[he21];exact List.getElem_mem _
  obtain⟨d',hd',hokk⟩:=Ip hok hmem
  have hfl:=In (l:=n.kids) (i:=i) (by omega)
  rw[←he21] at hfl
  have hvl:vs.length=1+((n.kids.take i).flatMap ej).length:=by have:=congrArg List.length hvs;rw[List.length_map,List.length_cons] at this;omega
  refine ak JL JL ((hEL.cells q21).ld Jg JL (by kernel_rfl)) ?_
  obtain⟨g8,w8,hr8,l8,x8,k8⟩:=bc (P:=Tryz.prog) (w:=wL) (t:=83) (z:=.agg #[.slice none 0 0,I 0,I 0,B false,.slice none 0 0,.slice none 0 0,.slice none 0 0,B false,.slice none 0 0]) (l:=[.slice none 0 0,I 0,I 0,B false,.slice none 0 0,.slice none 0 0,.slice none 0 0,B false,.slice none 0 0]) (by kernel_rfl) rfl
  refine bf JL hr8 (ac JL JL ?_)
  obtain⟨w5_5,s5_5,q5_5,k5_5⟩:=k8.stS (P:=Tryz.prog) (t:=83) (m:=[x21_0,I e21.split.kd,I e21.split.ix,B e21.split.at_.1,x21_1,x21_2,x21_3,B e21.empty,x21_4]) rfl (by kernel_rfl) (aL.cons f21_0.one (aL.cons rfl (aL.cons rfl (aL.cons rfl (aL.cons f21_1.one (aL.cons f21_2.one (aL.cons f21_3.one (aL.cons rfl (aL.cons f21_4.one aL.nil)))))))))
  refine aC JL JL s5_5 ?_
  have x5_5:=aG.of_new (x8) q5_5 l8
  refine ag (ab (af (bm 6 [0,2,4,16,17,18,26,27,28] (by kernel_rfl) (by kernel_rfl) ?_)))
  refine ao rfl rfl (aD rfl rfl (fun w hw=>((k4L.ext x5_5).ext hw).ld Jg rfl (by kernel_rfl)) (ao rfl rfl (bW (S:=cK fF (path++[FW n (i:Int)])) Dh (cK.stable _ _) rfl (fun w hw=>by rintro _ rfl _ rfl _ rfl;exact Dk ((ho3.le hKL.cells).ext (aG.trans (x5_5) hw)) ((hpa3.le hKL.cells).ext (aG.trans (x5_5) hw)) (by omega) ((hl.le hEL).ext (aG.trans (x5_5) hw)) ((hx.le hEL).ext (aG.trans (x5_5) hw)) ((hy.le hEL).ext (aG.trans (x5_5) hw)) ((hk.le hEL).ext (aG.trans (x5_5) hw)) ((hp.le hEL).ext (aG.trans (x5_5) hw))) ?_)))
  refine aD JL JL (fun w hw=>(k5_5.ext hw).ld Jg JL (by kernel_rfl)) (ao JL JL (bu ?_))
  intro wg6 xg6
  rintro _ hq0
  obtain rfl:=Eq.symm hq0
  rintro _ rfl
  rintro _ rfl
  rintro _ hq16
  obtain rfl:=Eq.symm hq16
  rintro _ rfl
  rintro _ rfl
  intro vg26 b26
  rintro _ rfl
  rintro _ rfl
  have xL6:=(x5_5.trans xg6)
  have hK6:=hKw.trans (Kc.of_ext xL6 (Nat.le_trans hS hKw.size))
  refine am tg JL JL (ih d' hd' e21 hokk _ (pre++vs) (path++[FW n (i:Int)]) _ _ _ _ _ _ (fun a v hv=>hK6.cells a v (hE a v hv)) (Nat.le_trans hS hK6.size) (ho.le hK6.cells) b26 (by simp;omega) f21_0 f21_1 f21_2 f21_3 f21_4 (((wt n).1 hsn).2.2.2 e21 hmem) (hJ _ _ _ hJL xL6) (by simp only[List.length_append];omega)) ?_
  rintro v29 w29 (⟨rfl,hK29,vs2,hv2,hJ2⟩|⟨rfl,vs2,hv2,hJ2⟩)
  rotate_left
  ·refine bB JL JL bF (ag (ab (bJ JL (af (aa (ac JL JL (ag (ab (au (aT (ax (ax (aT (ax (az JL JL ?_)))))))))))))))
   exact⟨_,rfl,.inr ⟨rfl,vs++vs2,by rw[List.map_append,hvs,List.cons_append];exact yK (F0 (by omega) (by rw[←he21];exact hv2)),by rw[←List.append_assoc];exact hJ2⟩⟩
  refine bB JL JL bF (ag (ab (dI JL (ar (aM (ab (aa (aj (r:=I ((i+1:Nat):Int)) JL JL JL (by have e:((i+1:Nat):Int)=(i:Int)+1:=(by omega);rw[e];exact aE (by omega) (by omega)) ?_))))))))
  refine ae JL JL (ag ?_)
  refine cF (i+1) (vs++vs2) ⟨rfl,rfl,rfl,rfl,rfl,rfl,trivial⟩ ⟨by omega,by rw[List.map_append,hvs,hv2,List.cons_append,uI (by omega),he21],by rw[←List.append_assoc];exact hJ2,(hKL.trans (Kc.of_ext xL6 (Nat.le_trans hS hKw.size))).trans hK29⟩ (by omega)
 ·refine aX (aA (aA (aV (ab (af (aa (ac JL JL (ag (ab (au (az JL JL ?_)))))))))))
  exact⟨_,rfl,.inl ⟨rfl,hK0.trans hKL,vs,by rw[hvs,wC,List.take_of_length_le (by omega)],hJL⟩⟩
theorem tj {w0:World} {lp M:Nat} {J Jx:List (nR w0)→World→Prop} (hJ:∀s W W',J s W→aG W W'→J s W')
 (hY:∀(pre:List (nR w0)) (x:nR w0) (W:World),J pre W→pre.length<M→YieldAt Fence.wide 0 Tryz.prog lp x.enc.toArray W fun e W'=>(e=.returned (.bool true)∧J (pre++[x]) W'∧Kc w0.heap.size W W')∨(e=.returned (.bool false)∧Jx (pre++[x]) W')):∀(d:Nat) (n:aN),wF d n=true→Aq w0 lp M J Jx d n
 |0,_,hok=>th hJ hY hok fun _ e=>by cases e
 |d+1,_,hok=>th hJ hY hok fun d' e k hk=>by
   cases e
   exact tj hJ hY d k hk
end Go.Rl
namespace Go.Rl
open Go.RowKit
section
variable {P:Program} {Q:eG} {N:Nat} {D:List Deferred}
theorem Dm {w:World} {α:Type} {Kp:World→World→Prop} {I:List α→World→Prop} {Ix:Code→List α→World→Prop} (hKt:∀{A B C:World},Kp A B→Kp B C→Kp A C)
 (hKb:∀(W:World) (l:Nat) (o o':Obj),w.heap.size≤l→W.heap[l]? =some o→o.isCells=false→o.isWalk=false→Kp W (W.putObj l o')) (hI:OwnFrom w.heap.size I) (hIx:∀c,OwnFrom w.heap.size (Ix c))
 {rec:LoopState→Option Code→Loop} (hset:∀s c s' c',{rec s c with state:=s',pending:=c'}=rec s' c') {L D0:Nat} (hL:w.heap.size≤L) (hD0:w.heap.size≤D0) (hne:L≠D0)
 {xs:List α} {W0 W2 W3:World} (hK0:Kp W0 W2) (hl2:W2.heap[L]? =some (.loop (rec .busy none))) (hk2:W2.heap[D0]? =some (.deferred (some []))) {e:Exit} {a3:Act} (hp:ownPostG w.heap.size Kp I Ix xs W2 e a3 W3):
 ∃jump r W4,(match e with|.normal=>jump=none|.ret=>jump=some .ret|.exit id=>jump=some (.exit id)|.goto t=>jump=some (.goto t)|_=>False)∧(Instr.endRound L jump).run P W3=.ok r W4∧
  ((r=.bool true∧(I xs W4∧W4.heap[L]? =some (.loop (rec .ready none))∧W4.heap[D0]? =some (.deferred (some [])))∧Kp W0 W4)∨
   (r=.bool false∧∃c,Ix c xs W4∧W4.heap[L]? =some (.loop (rec .done (some c)))∧W4.heap[D0]? =some (.deferred (some [])))):=by
 have fin:∀(jump:Option Code),KeepsFrom w.heap.size W2 W3→
  (Instr.endRound L jump).run P W3=.ok (.bool jump.isNone) (W3.putObj L (.loop (rec (if jump.isNone then .ready else .done) jump)))∧W3.heap[L]? =some (.loop (rec .busy none))∧
  (W3.putObj L (.loop (rec (if jump.isNone then .ready else .done) jump))).heap[L]? =some (.loop (rec (if jump.isNone then .ready else .done) jump))∧
  (W3.putObj L (.loop (rec (if jump.isNone then .ready else .done) jump))).heap[D0]? =some (.deferred (some [])):=fun jump hk3=>by
  have hl3:=hk3.same _ _ hL hl2 rfl
  have h:=run_endRound (P:=P) jump (by rw[hl3,←hset .busy none .busy none])
  rw[hset] at h
  exact⟨h,hl3,World.putObj_heap_same (Array.getElem?_eq_some_iff.1 hl3).1,(World.putObj_heap_other (Ne.symm hne)).trans (hk3.same _ _ hD0 hk2 rfl)⟩
 cases e with
 |normal=>
  obtain⟨hk3,hkp3,hi3⟩:=hp
  obtain⟨hr,hl3,hl4,hk4⟩:=fin none hk3
  exact⟨none,_,_,rfl,hr,.inl ⟨rfl,⟨hI.putObj _ hi3 hL hl3 rfl,hl4,hk4⟩,hKt (hKt hK0 hkp3) (hKb _ _ _ _ hL hl3 rfl rfl)⟩⟩
 |ret=>
  obtain⟨hk3,hi3⟩:=hp
  obtain⟨hr,hl3,hl4,hk4⟩:=fin (some .ret) hk3
  exact⟨some .ret,_,_,rfl,hr,.inr ⟨rfl,.ret,(hIx _).putObj _ hi3 hL hl3 rfl,hl4,hk4⟩⟩
 |exit id=>
  obtain⟨hk3,hi3⟩:=hp
  obtain⟨hr,hl3,hl4,hk4⟩:=fin (some (.exit id)) hk3
  exact⟨some (.exit id),_,_,rfl,hr,.inr ⟨rfl,.exit id,(hIx _).putObj _ hi3 hL hl3 rfl,hl4,hk4⟩⟩
 |goto t=>
  obtain⟨hk3,hi3⟩:=hp
  obtain⟨hr,hl3,hl4,hk4⟩:=fin (some (.goto t)) hk3
  exact⟨some (.goto t),_,_,rfl,hr,.inr ⟨rfl,.goto t,(hIx _).putObj _ hi3 hL hl3 rfl,hl4,hk4⟩⟩
 |panic ch=>exact hp.elim
 |outgrown=>exact hp.elim
theorem wE {α:Type} {g:Operand} {ps:List Tmp} {assign body:Code} {l:Fr} {w:World} {gf:Nat} {lb:Array Value} (hg:ev l g=some (.func (.func gf) #[] lb)) (hc:aw P gf)
 {encs:α→List Value} {Kp:World→World→Prop} {S Sp:List α→Prop} {M:Nat} {w0:World} (hseq:SeqStopsK Fence.wide 1 P gf lb (fun x=>(encs x).toArray) Kp S Sp M w0)
 (hKt:∀{A B C:World},Kp A B→Kp B C→Kp A C) (hKe:∀{A B:World},w.heap.size≤A.heap.size→aG A B→Kp A B) (hKb:∀(W:World) (l:Nat) (o o':Obj),w.heap.size≤l→W.heap[l]? =some o→o.isCells=false→o.isWalk=false→Kp W (W.putObj l o')) (hb0:Below w0.heap.size w0 w) (hps:∀x,(encs x).length=ps.length)
 (I:List α→World→Prop) (Ix:Code→List α→World→Prop) (hI:OwnFrom w.heap.size I) (hIx:∀c,OwnFrom w.heap.size (Ix c)) (h0:I [] w)
 (A:α→Fr→World→Prop) (hA:∀x fr (W:World) (l:Nat) (o o':Obj),A x fr W→W.heap[l]? =some o→o.isCells=false→A x fr (W.putObj l o')) (hpN:(ps.all fun p=>Nat.blt p N)=true)
 (hassign:∀(lp:Nat) (x:α) (W:World) (K:Act→World→Prop),(∀fr W',aG W W'→A x fr W'→fp (Exit.then K fun _ _ _=>False) N [] fr W')→eq (some lp) P (Exit.then K fun _ _ _=>False) N [] (IG (ps.zip (encs x)) l) W assign)
 (hbody:∀(lp:Nat) (pre:List α) (x:α) (fr:Fr) (W:World),I pre W→A x fr W→pre.length<M→eq (some lp) P (ownPostG w.heap.size Kp I Ix (pre++[x]) W) N [] fr W body)
 (hdone:∀(D0:Nat) (xs:List α) (W:World),w.heap.size≤D0→S xs→I xs W→W.heap[D0]? =some (.deferred (some []))→fp Q N (⟨.collected D0,#[]⟩::D) l W)
 (hstop:∀(D0:Nat) (c:Code) (pre:List α) (W:World),w.heap.size≤D0→Sp pre→Ix c pre W→W.heap[D0]? =some (.deferred (some []))→cD P Q N (⟨.collected D0,#[]⟩::D) l W c):
 cD P Q N D l w (.rangeFunc g ps.toArray assign body):=fun a ha=>by
 refine(wpIn_wide (n:=2)).1 (wpIn_rangeFunc ?_)
 intro fn hfn
 obtain⟨rec,hrec⟩:∃rec:LoopState→Option Code→Loop,rec=fun st pe=>{state:=st,pending:=pe,fn,tmps:=a.tmps,params:=ps.toArray,assign,body,defers:=w.heap.size}:=⟨_,rfl⟩
 obtain⟨W1,hW1⟩:∃W1,(w.alloc (.deferred (some []))).alloc (.loop (rec .ready none))=W1:=⟨_,rfl⟩
 have hL1:W1.heap[w.heap.size+1]? =some (.loop (rec .ready none)):=by
  rw[←hW1];have:=World.alloc_heap_new (w.alloc (.deferred (some []))) (.loop (rec .ready none));rwa [World.size_alloc] at this
 have hK1:W1.heap[w.heap.size]? =some (.deferred (some [])):=by
  rw[←hW1];exact(Below.heap_alloc _ _ _ (by simp)).trans (World.alloc_heap_new w _)
 have hI1:I [] W1:=by rw[←hW1];exact hI.alloc _ (hI.alloc _ h0)
 have hb1:Below w0.heap.size w0 W1:=by
  rw[←hW1];exact hb0.trans ((((Below.refl _ w).alloc (Nat.le_refl _) _).alloc (by simp) _).mono hb0.size)
 have hset:∀s c s' c',{rec s c with state:=s',pending:=c'}=rec s' c':=fun s c s' c'=>by rw[hrec]
 refine⟨w.heap.size+1,[{target:=.collected w.heap.size,args:=#[]}],W1,{target:=.fn (.func gf) lb,args:=#[.func (.yield (w.heap.size+1)) #[] #[]]},W1,gf,
  #[.func (.yield (w.heap.size+1)) #[] #[]]++lb,W1,?_,?_,fun _ _=>trivial,?_,fun h=>absurd h (by simp[Fence.wide]),?_⟩
 ·rw[←hW1,hrec];exact run_enterLoop_outer _ _ _ _ _
 ·simp only[resolve,ha.ev hg]
  simp[Deferred.ofValue,Act.eval]
 ·simp only[invoke,en hc]
 ·have hnw:∀{A B:World} {row:Option Nat},(∀r,row=some r→W1.heap.size≤r∧∃o:Obj,A.heap[r]? =some o∧o.isWalk=true)→(∀r,row=some r→w.heap.size≤r∧∃o:Obj,A.heap[r]? =some o∧o.isCells=false):=
   fun hr r e=>by obtain⟨hB,o,ho,hw⟩:=hr r e;exact⟨by rw[←hW1] at hB;simp at hB;omega,o,ho,Obj.not_cells_of_walk hw⟩
  refine(hseq (w.heap.size+1)
   (fun pre W=>I pre W∧W.heap[w.heap.size+1]? =some (.loop (rec .ready none))∧W.heap[w.heap.size]? =some (.deferred (some [])))
   (fun pre W=>∃c,Ix c pre W∧W.heap[w.heap.size+1]? =some (.loop (rec .done (some c)))∧W.heap[w.heap.size]? =some (.deferred (some [])))
   W1 hb1
   (fun s A B row hs hg' hr=>⟨hI s A B row hs.1 hg' (hnw (B:=B) hr),(grownBy_keeps hg' (fun r e=>(hr r e).2) hs.2.1 rfl).trans hs.2.1,(grownBy_keeps hg' (fun r e=>(hr r e).2) hs.2.2 rfl).trans hs.2.2⟩)
   (fun s A B row hs hg' hr=>by
     obtain⟨c,hc,hl,hk⟩:=hs
     exact⟨c,hIx c s A B row hc hg' (hnw (B:=B) hr),(grownBy_keeps hg' (fun r e=>(hr r e).2) hl rfl).trans hl,(grownBy_keeps hg' (fun r e=>(hr r e).2) hk rfl).trans hk⟩)
   ?_ ⟨hI1,hL1,hK1⟩).mono ?_
  ·rintro pre x W ⟨hi,hl,hk⟩ hlen
   have hy:=run_yield (P:=P) (args:=(encs x).toArray) hl (by rw[hrec];simp[hps x])
   rw[hrec] at hy
   refine⟨fn,_,assign,body,hy,roundIn_of_wpIn hfn ?_⟩
   have e:(ps.toArray.zip (encs x).toArray).foldl (fun t (p,v)=>t.setIfInBounds p v) a.tmps=(ps.zip (encs x)).foldl (fun t (p,v)=>t.setIfInBounds p v) a.tmps:=by simp
   have hat:At N [] (IG (ps.zip (encs x)) l) ⟨(ps.zip (encs x)).foldl (fun t (p,v)=>t.setIfInBounds p v) a.tmps,[]⟩:=by
    refine yY (N:=N) ?_ ⟨ha.size,rfl,ha.at_⟩
    simp only[List.all_eq_true] at hpN⊢
    rintro⟨p,v⟩ hp
    exact hpN p (List.of_mem_zip hp).1
   refine hassign (w.heap.size+1) x W _ (fun fr W' hx hAx a' ha'=>?_) _ (by rw[←e] at hat;exact hat)
   have hl':=hx.heap_some hl
   have hlt:w.heap.size+1<W'.heap.size:=(Array.getElem?_eq_some_iff.1 hl').1
   have hiW:I pre W':=hI pre W W' none hi ⟨hx.os,hx.tape,hx.output,hx.size,fun _ h _=>hx.heap h⟩ fun r e=>by cases e
   refine⟨_,run_beginRound hl' (by rw[hrec]),?_⟩
   have hb:({rec .ready none with state:=.busy}:Loop)=rec .busy none:=by rw[hrec]
   rw[hb]
   have hl2:(W'.putObj (w.heap.size+1) (.loop (rec .busy none))).heap[w.heap.size+1]? =some (.loop (rec .busy none)):=World.putObj_heap_same hlt
   have hk2:(W'.putObj (w.heap.size+1) (.loop (rec .busy none))).heap[w.heap.size]? =some (.deferred (some [])):=(World.putObj_heap_other (by omega)).trans (hx.heap_some hk)
   have hw2:Kp W (W'.putObj (w.heap.size+1) (.loop (rec .busy none))):=hKt (hKe (by have:=(Array.getElem?_eq_some_iff.1 hl).1;omega) hx) (hKb _ _ _ _ (by omega) hl' rfl rfl)
   refine wpIn_mono (hbody _ pre x fr _ (hI.putObj _ hiW (by omega) hl' JL) (hA x fr _ _ _ _ hAx hl' JL) hlen a' ha') ?_
   rintro e a3 W3 hp
   obtain⟨jump,r,W4,hj,hr,hcase⟩:=Dm (P:=P) (Kp:=Kp) (fun h k=>hKt h k) hKb hI hIx hset (L:=w.heap.size+1) (D0:=w.heap.size) (by omega) (Nat.le_refl _) (by omega) hw2 hl2 hk2 hp
   cases e with
   |normal=>
    subst hj
    refine⟨_,_,hr,?_⟩
    rcases hcase with⟨rfl,h1,h2⟩|⟨rfl,h1⟩
    ·exact .inl ⟨rfl,h1,h2⟩
    ·exact .inr ⟨rfl,h1⟩
   |ret=>
    subst hj
    refine⟨_,_,hr,?_⟩
    rcases hcase with⟨rfl,h1,h2⟩|⟨rfl,h1⟩
    ·exact .inl ⟨rfl,h1,h2⟩
    ·exact .inr ⟨rfl,h1⟩
   |exit id=>
    subst hj
    refine⟨_,_,hr,?_⟩
    rcases hcase with⟨rfl,h1,h2⟩|⟨rfl,h1⟩
    ·exact .inl ⟨rfl,h1,h2⟩
    ·exact .inr ⟨rfl,h1⟩
   |goto t=>
    subst hj
    refine⟨_,_,hr,?_⟩
    rcases hcase with⟨rfl,h1,h2⟩|⟨rfl,h1⟩
    ·exact .inl ⟨rfl,h1,h2⟩
    ·exact .inr ⟨rfl,h1⟩
   |panic ch=>exact hp.elim
   |outgrown=>exact hp.elim
  ·rintro e W2 ⟨⟨v,rfl⟩,(⟨xs,hS,hi,hl,hk⟩|⟨pre,hSp,c,hi,hl,hk⟩)⟩
   ·exact⟨none,_,by have:=run_endLoop (P:=P) hl (by rw[hrec];simp);rw[hrec] at this;exact this,hdone _ xs _ (Nat.le_refl _) hS (hI.putObj _ hi (by omega) hl rfl) ((World.putObj_heap_other (by omega)).trans hk) _ ⟨ha.size,by simp[ha.defers],ha.at_⟩⟩
   ·exact⟨some c,_,by have:=run_endLoop (P:=P) hl (by rw[hrec];simp);rw[hrec] at this;exact this,wpIn_wide.2 (hstop _ c pre _ (Nat.le_refl _) hSp ((hIx c).putObj _ hi (by omega) hl rfl) ((World.putObj_heap_other (by omega)).trans hk) _ ⟨ha.size,by simp[ha.defers],ha.at_⟩)⟩
end
end Go.Rl
namespace Go.Rl
open Go.RowKit Go.Proofs Go.Proofs.YtaajaakbcelmfaaGreatDoor
theorem lB:aw Tryz.prog 97:=⟨_,Tryz.func97,by kernel_rfl,rfl⟩
theorem yL {w:World} {cs:List Value}:
 Calls Tryz.prog 95 #[.agg cs.toArray] w (bD fun r w'=>aG w w'∧r=.func (.func 137) #[] #[.pointer (some ⟨w.heap.size,0,none⟩)]∧w'=w.alloc (.cells cs.toArray 83)):=by
 refine enter (vs:=[.agg cs.toArray]) Tryz.func95 JL JL JL ?_
 refine af (aa (cx JL JL (m2) (ac JL JL (ag (ab (af (aa ?_)))))))
 refine kF (us:=[]) (vs:=[.pointer (some ⟨w.heap.size,0,none⟩)]) JL JL JL ?_
 refine ac JL JL (ag (ab (au (az JL JL ?_))))
 exact⟨_,rfl,aG.new _ _,rfl,rfl⟩
theorem Ar {w0 w:World} {lp:Nat} {J Jx:List (nR w0)→World→Prop} {n:aN} {vl x y vk vp:Value} {Bs:Nat} (hJ:∀s W W',J s W→aG W W'→J s W')
 (hY:∀(pre:List (nR w0)) (x:nR w0) (W:World),J pre W→pre.length<(ej n).length→YieldAt Fence.wide 0 Tryz.prog lp x.enc.toArray W fun e W'=>(e=.returned (.bool true)∧J (pre++[x]) W'∧Kc w0.heap.size W W')∨(e=.returned (.bool false)∧Jx (pre++[x]) W'))
 (hv:eS n=true) (k:cl Bs 83 [vl,I n.split.kd,I n.split.ix,B n.split.at_.1,x,y,vk,B n.empty,vp] w) (hE:aG w0 w) (ho:yR w) (hl:cK dm n.lems vl w0) (hx:bj n.split.at_.2.1 x w0) (hy:bj n.split.at_.2.2 y w0) (hk:cK bh n.kids vk w0) (hp:cK cd n.pf vp w0) (hs:sN n) (h0:J [] w):
 Calls Tryz.prog 137 #[.func (.yield lp) #[] #[],.pointer (some ⟨Bs,0,none⟩)] w (bD fun _ w'=>(∃xs:List (nR w0),xs.map (·.n)=ej n∧J xs w')∨∃xs:List (nR w0),xs.map (·.n)<+:ej n∧Jx xs w'):=by
 refine enter (vs:=[.func (.yield lp) #[] #[],.pointer (some ⟨Bs,0,none⟩)]) Tryz.func137 JL JL JL ?_
 have hlw:=hl.ext hE
 have hxw:=hx.ext hE
 have hyw:=hy.ext hE
 have hkw:=hk.ext hE
 have hpw:=hp.ext hE
 refine af (aa (ak JL JL (k.ld Jg JL (by kernel_rfl)) (am jo JL JL ((pE hlw hxw hyw hkw hpw)) ?_)))
 rintro v4 w4 ⟨x4,rfl⟩
 refine ag (ab ?_)
 refine eZ JL (fun h4=>?_) (fun h4=>?_)
 ·refine aa (ak JL JL ((k.ext x4).ld Jg JL (by kernel_rfl)) (ae JL JL ?_))
  have hok:wF 2048 n=true:=by
   have h:=hv
   unfold eS at h
   exact(Bool.and_eq_true _ _▸h).1
  refine am tg JL JL (tj (M:=(ej n).length) hJ hY 2048 n hok _ [] [] _ _ _ _ _ _ (fun a v hv=>(hE.trans x4).cell_some hv) (hE.trans x4).size (ho.ext x4) (cK.nil _ _) (by simp) hl hx hy hk hp hs (hJ _ _ _ h0 x4) (by simp)) ?_
  rintro v7 w7 hR
  refine ag (fP JL ?_)
  exact⟨_,rfl,by
   rcases hR with⟨_,_,vs,h1,h2⟩|⟨_,vs,h1,h2⟩
   ·exact .inl ⟨vs,h1,by simpa using h2⟩
   ·exact .inr ⟨vs,h1,by simpa using h2⟩⟩
 ·rw[hv] at h4
  cases h4
theorem yM {w0 w:World} {n:aN} {vl x y vk vp:Value} {Bs:Nat} (hv:eS n=true) (k:cl Bs 83 [vl,I n.split.kd,I n.split.ix,B n.split.at_.1,x,y,vk,B n.empty,vp] w) (hE:aG w0 w) (ho:yR w) (hl:cK dm n.lems vl w0) (hx:bj n.split.at_.2.1 x w0) (hy:bj n.split.at_.2.2 y w0) (hk:cK bh n.kids vk w0) (hp:cK cd n.pf vp w0) (hs:sN n):
 SeqStopsK Fence.wide 1 Tryz.prog 137 #[.pointer (some ⟨Bs,0,none⟩)] (fun x:nR w0=>x.enc.toArray) (Kc w0.heap.size) (fun xs=>xs.map (·.n)=ej n) (fun pre=>pre.map (·.n)<+:ej n) (ej n).length w:=by
 intro lp J Jx W hW hJ _ hY h0
 have hW:aG w W:=hW
 refine callsIn_wide.2 ?_
 have ea:(#[.func (.yield lp) #[] #[]]:Array Value)++ #[.pointer (some ⟨Bs,0,none⟩)]= #[.func (.yield lp) #[] #[],.pointer (some ⟨Bs,0,none⟩)]:=by simp
 rw[ea]
 exact Calls.mono (Ar (fun s A B hs hx=>hJ s A B none hs hx.grownNone fun r e=>by cases e) hY hv (k.ext hW) (hE.trans hW) (ho.ext hW) hl hx hy hk hp hs h0) fun e W' h=>by obtain⟨r,rfl,h⟩:=h;exact⟨⟨r,rfl⟩,h⟩
theorem f5 {w:World} {q:fx} {x y:Value} (hx:bj q.2.1 x w) (hy:bj q.2.2 y w) (hs:sQ q):
 Calls Tryz.prog 96 #[.agg #[B q.1,x,y]] w (bD fun r w'=>aG w w'∧r=B (gL q)):=
 lS (b:=q.1) ⟨x,y,rfl,hx,hy⟩ (by have:=hs.1;omega) (by have:=hs.2;omega)
theorem lC {w:World} {l:List cB} {v:Value} (hv:cK cd l v w) (hs:sP l):
 Calls Tryz.prog 97 #[v] w (bD fun r w'=>aG w w'∧r=B (pG l)):=by
 refine enter (vs:=[v]) Tryz.func97 JL JL JL ?_
 have hll:=hv.len
 refine af (aa (ac JL JL (ag (ab (af (af (aa (ae JL JL (aP JL JL (bO Jp hv) (ae JL JL (ag (ab ?_))))))))))))
 refine av ?_
 refine ck (α:=Nat) (fun i=>[(5,v),(6,I (l.length:Int)),(7,I (i:Int))]) (fun i w'=>aG w w'∧i≤l.length∧(l.all fun m:cB=>gL m.co)=((l.drop i).all fun m:cB=>gL m.co)) (fun i=>l.length-i) (0) ⟨rfl,rfl,rfl,trivial⟩ ⟨aG.refl _,by omega,rfl⟩ ?_
 rintro i wL ⟨eL,hi,hall⟩
 refine af (aa (aj JL JL JL (aS) (ag (ab (af ?_)))))
 refine ba JL (fun h8=>?_) (fun h8=>?_)
 ·refine ar (ab (af (av (af (aa ?_)))))
  obtain⟨a9,c9,p9,q9,h9⟩:=cO (P:=Tryz.prog) (sz:=7) Jp (by kernel_rfl) fy (by omega) (hv.ext eL) (i:=i) (by omega) .i64
  obtain⟨e9,he9⟩:∃e,e=l[i]'(by omega):=⟨_,rfl⟩
  rw[←he9] at h9
  obtain⟨x9_0,x9_1,rfl,f9_0,f9_1⟩:=j9 h9
  refine ap JL JL JL (p9 _) (ak JL JL (q9.ld Jy JL (by kernel_rfl)) ?_)
  obtain⟨g4,w4,hr4,l4,x4,k4⟩:=bc (P:=Tryz.prog) (w:=wL) (t:=216) (z:=.agg #[I 0,I 0,I 0,I 0,B false,.slice none 0 0,.slice none 0 0]) (l:=[I 0,I 0,I 0,I 0,B false,.slice none 0 0,.slice none 0 0]) (by kernel_rfl) rfl
  refine bf JL hr4 ?_
  obtain⟨w3_3,s3_3,q3_3,k3_3⟩:=k4.stS (P:=Tryz.prog) (t:=216) (m:=[I e9.kd,I e9.ix,I e9.lo,I e9.hi,B e9.co.1,x9_0,x9_1]) rfl (by kernel_rfl) (aL.cons rfl (aL.cons rfl (aL.cons rfl (aL.cons rfl (aL.cons rfl (aL.cons f9_0.one (aL.cons f9_1.one aL.nil)))))))
  refine aC JL JL s3_3 ?_
  have x3_3:=aG.of_new (x4) q3_3 l4
  refine ag (ab (af (aa (ah rfl rfl (aI (o:=4) Tryz.underlying216 rfl (by kernel_rfl) rfl) (ak rfl rfl (k3_3.ldO (ms:=[B e9.co.1,x9_0,x9_1]) (o:=4) (fun j v hj=>by rcases j with _|_|_|_|_|_|_|_|_|j<;>simp_all) Tryz.underlying55 rfl (by kernel_rfl)) ?_)))))
  refine am eu JL JL ((f5 (q:=e9.co) (f9_0.ext x3_3) (f9_1.ext x3_3) (hs e9 (by rw[he9];exact List.getElem_mem _)))) ?_
  rintro v13 w13 ⟨x13,rfl⟩
  refine bB JL JL bF (ag (ab ?_))
  refine eZ JL (fun h14=>?_) (fun h14=>?_)
  ·have hno:gL (l[i]'(by omega)).co=false:=by rw[←he9];rw[Bool.not_eq_true'] at h14;exact h14
   refine af (aa (ac JL JL (ag (ab (au (aT (ax (ax (aT (ax (az JL JL ?_)))))))))))
   exact⟨_,rfl,((eL.trans x3_3).trans x13),congrArg B (jp (p:=fun m:cB=>gL m.co) (by omega) hall hno).symm⟩
  ·have hyes:gL (l[i]'(by omega)).co=true:=by rw[←he9];rw[Bool.not_eq_false'] at h14;exact h14
   refine ar (aM (ab (aa (aj (r:=I ((i+1:Nat):Int)) JL JL JL (by have e:((i+1:Nat):Int)=(i:Int)+1:=(by omega);rw[e];exact aE (by omega) (by omega)) ?_))))
   refine ae JL JL (ag ?_)
   refine bN (i+1) ⟨rfl,rfl,rfl,trivial⟩ ⟨((eL.trans x3_3).trans x13),by omega,mh (p:=fun m:cB=>gL m.co) (by omega) hall hyes⟩ (by omega)
 ·refine aX (aA (aA (aV (ab (af (aa (ac JL JL (ag (ab (au (az JL JL ?_)))))))))))
  exact⟨_,rfl,eL,congrArg B (jE (p:=fun m:cB=>gL m.co) (by omega) hall).symm⟩
end Go.Rl
namespace Go.Rl
open Go.RowKit Go.Proofs Go.Proofs.YtaajaakbcelmfaaGreatDoor
theorem Dn:(Tryz.prog.info? 4).map (·.zero)=some (some (B false)):=by kernel_rfl
theorem ii:(Tryz.prog.info? 4).map (·.size)=some 1:=by kernel_rfl
theorem Do {Bn:Nat} {w w1:World} (h:aG w w1):KeepsFrom Bn w w1:=⟨h.size,fun _ _ _ hk _=>h.heap_some hk⟩
theorem lD {Bn g:Nat} {w w1 w2:World} {T:TypeId} {l:List Value} (h:aG w w1) (k:cl g T l w1) (hg:w1.grownBy w2 (some g)):KeepsFrom Bn w w2:=⟨Nat.le_trans h.size hg.size,fun n o _ hn ho=>by
 have h1:=h.heap_some hn
 have hne:some n≠some g:=fun e=>by
  have e':n=g:=Option.some.inj e
  rw[e',show w1.heap[g]? =some (.cells l.toArray T (0,0)) from k] at h1
  cases h1
  cases ho
 exact(hg.block n (Array.getElem?_eq_some_iff.1 h1).1 hne).trans h1⟩
def G3 {w:World} (g2:Nat) (x:nR w) (fr:Fr) (W:World):Prop:=∃g4,fr=[(4,.pointer (some ⟨g4,0,none⟩)),(2,.pointer (some ⟨g2,0,none⟩))]∧cl g4 83 [x.vl,I x.n.split.kd,I x.n.split.ix,B x.n.split.at_.1,x.x,x.y,x.vk,B x.n.empty,x.vp] W
theorem G3.put {w:World} {g2:Nat} {x:nR w} {fr:Fr} {W:World} {k:Nat} {o o':Obj} (h:G3 g2 x fr W) (hk:W.heap[k]? =some o) (ho:o.isCells=false):G3 g2 x fr (W.putObj k o'):=by
 obtain⟨g4,h1,h2⟩:=h
 refine⟨g4,h1,?_⟩
 have:g4≠k:=by
  rintro rfl
  have h2':W.heap[g4]? =some (.cells _ _ (0,0)):=h2
  rw[h2'] at hk
  cases hk
  cases ho
 exact(World.putObj_heap_other this).trans h2
theorem G5 {w:World} {n:aN} {xs:List (nR w)} (h:xs.map (·.n)=ej n) (hok:∀v∈xs,FX v.n=true):eU n=true:=by
 rw[tf,←h,List.all_map]
 exact List.all_eq_true.2 fun v hv=>hok v hv
theorem G6 {w:World} {n:aN} {xs:List (nR w)} (h:xs.map (·.n)<+:ej n) {v:nR w} (hv:v∈xs) (hno:FX v.n=false):eU n=false:=by
 rw[tf]
 refine Bool.eq_false_iff.2 fun hall=>?_
 have:=List.all_eq_true.1 hall v.n (h.subset (List.mem_map_of_mem (f:=fun x:nR w=>x.n) hv))
 rw[hno] at this
 cases this
theorem Dp {w:World} {n:aN} {vl x y vk vp:Value} (ho:yR w) (hs:sN n) (hl:cK dm n.lems vl w) (hx:bj n.split.at_.2.1 x w) (hy:bj n.split.at_.2.2 y w) (hk:cK bh n.kids vk w) (hp:cK cd n.pf vp w):
 Calls Tryz.prog 45 #[.agg #[vl,I n.split.kd,I n.split.ix,B n.split.at_.1,x,y,vk,B n.empty,vp]] w (bD fun r w'=>aG w w'∧r=B (eS n&&eU n)):=by
 refine DJ (vs:=[.agg #[vl,I n.split.kd,I n.split.ix,B n.split.at_.1,x,y,vk,B n.empty,vp]]) Tryz.func45 JL JL JL ?_
 refine af (aa ?_)
 obtain⟨g1,w1,hr1,l1,x1,k1⟩:=cI (P:=Tryz.prog) (w:=w) (T:=83) (cs:=[vl,I n.split.kd,I n.split.ix,B n.split.at_.1,x,y,vk,B n.empty,vp])
 refine cx JL JL hr1 ?_
 obtain⟨g2,w2,hr2,l2,x2,k2⟩:=bc (P:=Tryz.prog) (w:=w1) (l:=[B false]) Dn rfl
 refine bf JL hr2 (ag (ab (af (af (aa (ak JL JL ((k1.ext x2).ld Jg JL (by kernel_rfl)) (am jo JL JL ((pE (hl.ext (x1.trans x2)) (hx.ext (x1.trans x2)) (hy.ext (x1.trans x2)) (hk.ext (x1.trans x2)) (hp.ext (x1.trans x2)))) ?_)))))))
 rintro v8 w8 ⟨x8,rfl⟩
 refine bB JL JL bF (ag (ab ?_))
 refine eZ JL (fun h9=>?_) (fun h9=>?_)
 ·have hval:eS n=false:=by simpa using h9
  refine af (aa ?_)
  obtain⟨ws,rs,grs,ks⟩:=fL (P:=Tryz.prog) (t:=4) (v:=B false) ii rfl (k2.ext x8)
  refine aC JL JL rs ?_
  have xs:=aG.of_new (((x1.trans x2).trans x8)) grs (Nat.le_trans x1.size l2)
  refine ag (ab (au (ax ?_)))
  refine FY JL JL ks Jq JL ?_
  exact⟨_,rfl,xs,by rw[hval];rfl⟩
 ·have hval:eS n=true:=by simpa using h9
  refine ar (ab (af (af (aa (ak JL JL ((k1.ext (x2.trans x8)).ld Jg JL (by kernel_rfl)) (am yI JL JL ((yL (cs:=[vl,I n.split.kd,I n.split.ix,B n.split.at_.1,x,y,vk,B n.empty,vp]))) ?_))))))
  rintro v11 w11 ⟨x11,rfl,hw11⟩
  refine ag (ab (av ?_))
  have bs:cl w8.heap.size 83 [vl,I n.split.kd,I n.split.ix,B n.split.at_.1,x,y,vk,B n.empty,vp] w11:=by rw[hw11];exact heap_alloc_new _ _
  have e11:aG w w11:=(((x1.trans x2).trans x8).trans x11)
  have k211:cl g2 4 [B false] w11:=k2.ext (x8.trans x11)
  refine wE (α:=nR w) (encs:=nR.enc) (Kp:=Kc w.heap.size) (S:=fun xs=>xs.map (·.n)=ej n) (Sp:=fun pre=>pre.map (·.n)<+:ej n) (M:=(ej n).length) (w0:=w11) JL yJ (yM hval bs e11 (ho.ext e11) hl hx hy hk hp hs) (fun h k=>h.trans k) (fun h x=>Kc.of_ext x (Nat.le_trans e11.size h)) (fun W l o o' hl' ho1 hc _=>Kc.put (Nat.le_trans e11.size hl') ho1 hc) (Below.refl _ _) (fun _=>rfl) (fun pre W=>Kc w.heap.size w11 W∧∀v∈pre,FX v.n=true) (fun c pre W=>c=.ret∧aG w W∧cl g2 4 [B false] W∧∃v∈pre,FX v.n=false) (fun s W W' row hs hg hr=>⟨hs.1.trans (Kc.own hg (fun r e=>⟨Nat.le_trans e11.size (hr r e).1,(hr r e).2⟩) (Nat.le_trans e11.size hs.1.size)),hs.2⟩) (fun c s W W' row hs hg hr=>⟨hs.1,hs.2.1.of_grown hg (fun r e=>Nat.le_trans e11.size (hr r e).1),hs.2.2.1.other hg (fun e=>by have:=(hr g2 e.symm).1;have:=k211.lt;omega),hs.2.2.2⟩) ⟨Kc.refl _ _,by simp⟩ (G3 g2) (fun x fr W k o o' h hk ho=>h.put hk ho) JL ?_ ?_ ?_ ?_
  ·intro lp x W K hK
   refine I.aa JL ?_ (hQ:=fv fun⟨_,_,h⟩=>h)
   obtain⟨g4,w4,hr4,l4,x4,k4⟩:=bc (P:=Tryz.prog) (w:=W) (t:=83) (z:=.agg #[.slice none 0 0,I 0,I 0,B false,.slice none 0 0,.slice none 0 0,.slice none 0 0,B false,.slice none 0 0]) (l:=[.slice none 0 0,I 0,I 0,B false,.slice none 0 0,.slice none 0 0,.slice none 0 0,B false,.slice none 0 0]) (by kernel_rfl) rfl
   obtain⟨w5,s5,q5,k5⟩:=k4.stS (P:=Tryz.prog) (t:=83) (m:=[x.vl,I x.n.split.kd,I x.n.split.ix,B x.n.split.at_.1,x.x,x.y,x.vk,B x.n.empty,x.vp]) rfl (by kernel_rfl) (aL.cons x.hl.one (aL.cons rfl (aL.cons rfl (aL.cons rfl (aL.cons x.hx.one (aL.cons x.hy.one (aL.cons x.hk.one (aL.cons rfl (aL.cons x.hp.one aL.nil)))))))))
   exact bf rfl hr4 (aC rfl rfl s5 (ag fun a ha=>hK _ _ (aG.of_new x4 q5 l4) ⟨g4,rfl,k5⟩ a (ha.weak ⟨rfl,rfl,trivial⟩)))
  ·rintro lp pre v _ W ⟨hI,hpre⟩ ⟨g4,rfl,k4⟩ hlen
   have eW:aG w W:=hI.ext e11
   have k2W:=hI.blk k211
   have hlW:=v.hl.ext eW
   have hxW:=v.hx.ext eW
   have hyW:=v.hy.ext eW
   have hkW:=v.hk.ext eW
   have hpW:=v.hp.ext eW
   obtain⟨sl,ss,sp,_⟩:=(wt v.n).1 v.hs
   have hll:=hlW.len
   refine I.av (I.af (I.af ?_))
   rcases hc1:gL v.n.split.at_
   rotate_left
   rcases hc2:pG v.n.pf
   ·refine I.aa JL (ah JL JL (aI (o:=1) Jg JL (by kernel_rfl) JL) (ah JL JL (ic (b:=1) (o:=2) Jn JL (by kernel_rfl) JL) ?_))
    refine ak rfl rfl (k4.ldO (ms:=[B v.n.split.at_.1,v.x,v.y]) (o:=3) (fun j v hj=>by rcases j with _|_|_|_|_|_|_|_|_|j<;>simp_all) Tryz.underlying55 rfl (by kernel_rfl)) ?_
    refine am eu JL JL ((by have h:=f5 (q:=v.n.split.at_) (hxW.ext (aG.refl _)) (hyW.ext (aG.refl _)) ss;rw[hc1] at h;exact h)) ?_
    rintro v17 w17 ⟨x17,rfl⟩
    refine bB JL JL bF (ae JL JL (al JL (ah JL JL (aI (o:=8) Jg JL (by kernel_rfl) JL) (al JL (ak JL JL (ai Jp JL (x17.cell_some (k4.cell (i:=8) JL))) ?_)))))
    refine al JL (am lB JL JL ((by have h:=lC (l:=v.n.pf) (hpW.ext (x17)) sp;rw[hc2] at h;exact h)) ?_)
    rintro v22 w22 ⟨x22,rfl⟩
    refine al JL (bB JL JL bF (aH JL JL JL (ag (I.ab (I.bJ JL (I.af (I.aa JL ?_)))))))
    have xW:=(x17.trans x22)
    obtain⟨ws,rs,grs,ks⟩:=fL (P:=Tryz.prog) (t:=4) (v:=B false) ii rfl (k2W.ext xW)
    refine aC JL JL rs ?_
    refine ag (I.ab (I.au (ax (aT ?_))))
    exact fun _ _=>⟨lD xW (k2W.ext xW) grs,rfl,(eW.trans xW).of_new grs (Nat.le_trans x1.size l2),ks,v,by simp,by unfold FX;rw[hc1,hc2];rfl⟩
   ·refine I.aa JL (ah JL JL (aI (o:=1) Jg JL (by kernel_rfl) JL) (ah JL JL (ic (b:=1) (o:=2) Jn JL (by kernel_rfl) JL) ?_))
    refine ak rfl rfl (k4.ldO (ms:=[B v.n.split.at_.1,v.x,v.y]) (o:=3) (fun j v hj=>by rcases j with _|_|_|_|_|_|_|_|_|j<;>simp_all) Tryz.underlying55 rfl (by kernel_rfl)) ?_
    refine am eu JL JL ((by have h:=f5 (q:=v.n.split.at_) (hxW.ext (aG.refl _)) (hyW.ext (aG.refl _)) ss;rw[hc1] at h;exact h)) ?_
    rintro v17 w17 ⟨x17,rfl⟩
    refine bB JL JL bF (ae JL JL (al JL (ah JL JL (aI (o:=8) Jg JL (by kernel_rfl) JL) (al JL (ak JL JL (ai Jp JL (x17.cell_some (k4.cell (i:=8) JL))) ?_)))))
    refine al JL (am lB JL JL ((by have h:=lC (l:=v.n.pf) (hpW.ext (x17)) sp;rw[hc2] at h;exact h)) ?_)
    rintro v22 w22 ⟨x22,rfl⟩
    refine al JL (bB JL JL bF (aH JL JL JL (ag (I.ab (I.dI JL (I.ar (I.ab (I.af (I.aa JL (ah JL JL (aI (o:=0) Jg JL (by kernel_rfl) JL) ?_))))))))))
    refine ak JL JL (ai Jo JL ((x17.trans x22).cell_some (k4.cell (i:=0) JL))) (aP JL JL (bO Jo (hlW.ext (x17.trans x22))) ?_)
    refine ae JL JL (ag (I.ab (I.av ?_)))
    refine I.ck (α:=Nat) (fun i=>[(2,.pointer (some ⟨g2,0,none⟩)),(26,v.vl),(27,I (v.n.lems.length:Int)),(28,I (i:Int))]) (fun i w'=>aG W w'∧i≤v.n.lems.length∧v.n.lems.all jv=(v.n.lems.drop i).all jv) (fun i=>v.n.lems.length-i) (0) ⟨rfl,rfl,rfl,rfl,trivial⟩ ⟨(x17.trans x22),by omega,rfl⟩ ?_
    rintro i wL ⟨eL,hi,hall⟩
    refine I.af (I.aa JL (aj JL JL JL (aS) (ag (I.ab (I.af ?_)))))
    refine I.ba JL (fun h29=>?_) (fun h29=>?_)
    ·refine I.ar (I.ab (I.af (I.av (I.af ?_))))
     obtain⟨em,hem⟩:∃em,em=v.n.lems[i]'(by omega):=⟨_,rfl⟩
     have hsm:=sl em (by rw[hem];exact List.getElem_mem _)
     rcases hc3:gL em.va
     rotate_left
     rcases hc4:pG em.pf
     ·refine I.aa JL ?_
      obtain⟨a30,c30,p30,q30,h30⟩:=cO (P:=Tryz.prog) (sz:=6) Jo (by kernel_rfl) dW (by omega) (hlW.ext eL) (i:=i) (by omega) .i64
      rw[←hem] at h30
      obtain⟨x30_0,x30_1,x30_2,rfl,f30_0,f30_1,f30_2⟩:=fz h30
      refine ap JL JL JL (p30 _) (ak JL JL (q30.ld Jr JL (by kernel_rfl)) ?_)
      obtain⟨g6,w6,hr6,l6,x6,k6⟩:=bc (P:=Tryz.prog) (w:=wL) (t:=147) (z:=.agg #[I 0,B false,B false,.slice none 0 0,.slice none 0 0,.slice none 0 0]) (l:=[I 0,B false,B false,.slice none 0 0,.slice none 0 0,.slice none 0 0]) (by kernel_rfl) rfl
      refine bf JL hr6 ?_
      obtain⟨w9_3,s9_3,q9_3,k9_3⟩:=k6.stS (P:=Tryz.prog) (t:=147) (m:=[I em.un,B em.up,B em.va.1,x30_0,x30_1,x30_2]) rfl (by kernel_rfl) (aL.cons rfl (aL.cons rfl (aL.cons rfl (aL.cons f30_0.one (aL.cons f30_1.one (aL.cons f30_2.one aL.nil))))))
      refine aC JL JL s9_3 ?_
      have x9_3:=aG.of_new (x6) q9_3 l6
      refine ag (I.ab (I.af (I.aa rfl (ah rfl rfl (aI (o:=2) Tryz.underlying147 rfl (by kernel_rfl) rfl) (ak rfl rfl (k9_3.ldO (ms:=[B em.va.1,x30_0,x30_1]) (o:=2) (fun j v hj=>by rcases j with _|_|_|_|_|_|_|_|_|j<;>simp_all) Tryz.underlying55 rfl (by kernel_rfl)) ?_)))))
      refine am eu JL JL ((by have h:=f5 (q:=em.va) (f30_0.ext x9_3) (f30_1.ext x9_3) hsm.1;rw[hc3] at h;exact h)) ?_
      rintro v34 w34 ⟨x34,rfl⟩
      refine bB JL JL bF (ae JL JL (al JL (ah JL JL (aI (o:=5) Jr JL (by kernel_rfl) JL) (al JL (ak JL JL (ai Jp JL (x34.cell_some (k9_3.cell (i:=5) JL))) ?_)))))
      refine al JL (am lB JL JL ((by have h:=lC (l:=em.pf) (f30_2.ext (x9_3.trans x34)) hsm.2;rw[hc4] at h;exact h)) ?_)
      rintro v39 w39 ⟨x39,rfl⟩
      refine al JL (bB JL JL bF (aH JL JL JL (ag (I.ab (I.bJ JL (I.af (I.aa JL ?_)))))))
      have xW:=(((eL.trans x9_3).trans x34).trans x39)
      obtain⟨ws,rs,grs,ks⟩:=fL (P:=Tryz.prog) (t:=4) (v:=B false) ii rfl (k2W.ext xW)
      refine aC JL JL rs ?_
      refine ag (I.ab (I.au (aT (ax (ax (aT (aT ?_)))))))
      exact fun _ _=>⟨lD xW (k2W.ext xW) grs,rfl,(eW.trans xW).of_new grs (Nat.le_trans x1.size l2),ks,v,by simp,by unfold FX;rw[jp (p:=jv) (i:=i) (by omega) hall (by rw[←hem];unfold jv;rw[hc3,hc4];rfl),Bool.and_false]⟩
     ·refine I.aa JL ?_
      obtain⟨a30,c30,p30,q30,h30⟩:=cO (P:=Tryz.prog) (sz:=6) Jo (by kernel_rfl) dW (by omega) (hlW.ext eL) (i:=i) (by omega) .i64
      rw[←hem] at h30
      obtain⟨x30_0,x30_1,x30_2,rfl,f30_0,f30_1,f30_2⟩:=fz h30
      refine ap JL JL JL (p30 _) (ak JL JL (q30.ld Jr JL (by kernel_rfl)) ?_)
      obtain⟨g6,w6,hr6,l6,x6,k6⟩:=bc (P:=Tryz.prog) (w:=wL) (t:=147) (z:=.agg #[I 0,B false,B false,.slice none 0 0,.slice none 0 0,.slice none 0 0]) (l:=[I 0,B false,B false,.slice none 0 0,.slice none 0 0,.slice none 0 0]) (by kernel_rfl) rfl
      refine bf JL hr6 ?_
      obtain⟨w9_3,s9_3,q9_3,k9_3⟩:=k6.stS (P:=Tryz.prog) (t:=147) (m:=[I em.un,B em.up,B em.va.1,x30_0,x30_1,x30_2]) rfl (by kernel_rfl) (aL.cons rfl (aL.cons rfl (aL.cons rfl (aL.cons f30_0.one (aL.cons f30_1.one (aL.cons f30_2.one aL.nil))))))
      refine aC JL JL s9_3 ?_
      have x9_3:=aG.of_new (x6) q9_3 l6
      refine ag (I.ab (I.af (I.aa rfl (ah rfl rfl (aI (o:=2) Tryz.underlying147 rfl (by kernel_rfl) rfl) (ak rfl rfl (k9_3.ldO (ms:=[B em.va.1,x30_0,x30_1]) (o:=2) (fun j v hj=>by rcases j with _|_|_|_|_|_|_|_|_|j<;>simp_all) Tryz.underlying55 rfl (by kernel_rfl)) ?_)))))
      refine am eu JL JL ((by have h:=f5 (q:=em.va) (f30_0.ext x9_3) (f30_1.ext x9_3) hsm.1;rw[hc3] at h;exact h)) ?_
      rintro v34 w34 ⟨x34,rfl⟩
      refine bB JL JL bF (ae JL JL (al JL (ah JL JL (aI (o:=5) Jr JL (by kernel_rfl) JL) (al JL (ak JL JL (ai Jp JL (x34.cell_some (k9_3.cell (i:=5) JL))) ?_)))))
      refine al JL (am lB JL JL ((by have h:=lC (l:=em.pf) (f30_2.ext (x9_3.trans x34)) hsm.2;rw[hc4] at h;exact h)) ?_)
      rintro v39 w39 ⟨x39,rfl⟩
      refine al JL (bB JL JL bF (aH JL JL JL (ag (I.ab (I.dI JL (I.ar (aM (I.ab (I.aa JL (aj (r:=I ((i+1:Nat):Int)) JL JL JL (by have e:((i+1:Nat):Int)=(i:Int)+1:=(by omega);rw[e];exact aE (by omega) (by omega)) ?_))))))))))
      refine ae JL JL (ag ?_)
      refine bN (i+1) ⟨rfl,rfl,rfl,rfl,trivial⟩ ⟨(((eL.trans x9_3).trans x34).trans x39),by omega,mh (p:=jv) (by omega) hall (by rw[←hem];unfold jv;rw[hc3,hc4];rfl)⟩ (by omega)
     ·refine I.aa JL ?_
      obtain⟨a30,c30,p30,q30,h30⟩:=cO (P:=Tryz.prog) (sz:=6) Jo (by kernel_rfl) dW (by omega) (hlW.ext eL) (i:=i) (by omega) .i64
      rw[←hem] at h30
      obtain⟨x30_0,x30_1,x30_2,rfl,f30_0,f30_1,f30_2⟩:=fz h30
      refine ap JL JL JL (p30 _) (ak JL JL (q30.ld Jr JL (by kernel_rfl)) ?_)
      obtain⟨g6,w6,hr6,l6,x6,k6⟩:=bc (P:=Tryz.prog) (w:=wL) (t:=147) (z:=.agg #[I 0,B false,B false,.slice none 0 0,.slice none 0 0,.slice none 0 0]) (l:=[I 0,B false,B false,.slice none 0 0,.slice none 0 0,.slice none 0 0]) (by kernel_rfl) rfl
      refine bf JL hr6 ?_
      obtain⟨w9_3,s9_3,q9_3,k9_3⟩:=k6.stS (P:=Tryz.prog) (t:=147) (m:=[I em.un,B em.up,B em.va.1,x30_0,x30_1,x30_2]) rfl (by kernel_rfl) (aL.cons rfl (aL.cons rfl (aL.cons rfl (aL.cons f30_0.one (aL.cons f30_1.one (aL.cons f30_2.one aL.nil))))))
      refine aC JL JL s9_3 ?_
      have x9_3:=aG.of_new (x6) q9_3 l6
      refine ag (I.ab (I.af (I.aa rfl (ah rfl rfl (aI (o:=2) Tryz.underlying147 rfl (by kernel_rfl) rfl) (ak rfl rfl (k9_3.ldO (ms:=[B em.va.1,x30_0,x30_1]) (o:=2) (fun j v hj=>by rcases j with _|_|_|_|_|_|_|_|_|j<;>simp_all) Tryz.underlying55 rfl (by kernel_rfl)) ?_)))))
      refine am eu JL JL ((by have h:=f5 (q:=em.va) (f30_0.ext x9_3) (f30_1.ext x9_3) hsm.1;rw[hc3] at h;exact h)) ?_
      rintro v34 w34 ⟨x34,rfl⟩
      refine bB JL JL bF (ae JL JL (aq JL JL JL (aq JL JL JL (aq JL JL JL (aq JL JL JL (aB JL JL JL (ag (I.ab (I.bJ JL (I.af (I.aa JL ?_)))))))))))
      have xW:=((eL.trans x9_3).trans x34)
      obtain⟨ws,rs,grs,ks⟩:=fL (P:=Tryz.prog) (t:=4) (v:=B false) ii rfl (k2W.ext xW)
      refine aC JL JL rs ?_
      refine ag (I.ab (I.au (aT (ax (ax (aT (aT ?_)))))))
      exact fun _ _=>⟨lD xW (k2W.ext xW) grs,rfl,(eW.trans xW).of_new grs (Nat.le_trans x1.size l2),ks,v,by simp,by unfold FX;rw[jp (p:=jv) (i:=i) (by omega) hall (by rw[←hem];unfold jv;rw[hc3];rfl),Bool.and_false]⟩
    ·refine I.aX (aA (aA (aV (aM ?_))))
     exact fun _ _=>⟨Do eL,Kc.of_ext eL eW.size,hI.trans (Kc.of_ext eL eW.size),fun u hu=>by
      rcases List.mem_append.1 hu with hu|hu
      ·exact hpre u hu
      ·obtain rfl:=List.mem_singleton.1 hu
       unfold FX
       rw[hc1,hc2,jE (p:=jv) (by omega) hall];rfl⟩
   ·refine I.aa JL (ah JL JL (aI (o:=1) Jg JL (by kernel_rfl) JL) (ah JL JL (ic (b:=1) (o:=2) Jn JL (by kernel_rfl) JL) ?_))
    refine ak rfl rfl (k4.ldO (ms:=[B v.n.split.at_.1,v.x,v.y]) (o:=3) (fun j v hj=>by rcases j with _|_|_|_|_|_|_|_|_|j<;>simp_all) Tryz.underlying55 rfl (by kernel_rfl)) ?_
    refine am eu JL JL ((by have h:=f5 (q:=v.n.split.at_) (hxW.ext (aG.refl _)) (hyW.ext (aG.refl _)) ss;rw[hc1] at h;exact h)) ?_
    rintro v17 w17 ⟨x17,rfl⟩
    refine bB JL JL bF (ae JL JL (aq JL JL JL (aq JL JL JL (aq JL JL JL (aq JL JL JL (aB JL JL JL (ag (I.ab (I.bJ JL (I.af (I.aa JL ?_)))))))))))
    have xW:=x17
    obtain⟨ws,rs,grs,ks⟩:=fL (P:=Tryz.prog) (t:=4) (v:=B false) ii rfl (k2W.ext xW)
    refine aC JL JL rs ?_
    refine ag (I.ab (I.au (ax (aT ?_))))
    exact fun _ _=>⟨lD xW (k2W.ext xW) grs,rfl,(eW.trans xW).of_new grs (Nat.le_trans x1.size l2),ks,v,by simp,by unfold FX;rw[hc1];rfl⟩
  ·rintro D0 xs W hD hxs ⟨hI,hok⟩ hDe
   have eW:aG w W:=hI.ext e11
   have k2W:=hI.blk k211
   refine aM (ab (af (aa ?_)))
   obtain⟨ws,rs,grs,ks⟩:=fL (P:=Tryz.prog) (t:=4) (v:=B true) ii rfl k2W
   refine aC JL JL rs ?_
   have hDs:ws.heap[D0]? =some (.deferred (some [])):=(grs.block D0 (Array.getElem?_eq_some_iff.1 hDe).1 (fun e=>by have:=Option.some.inj e;have:=k211.lt;omega)).trans hDe
   have xs':=eW.of_new grs (Nat.le_trans x1.size l2)
   refine ag (ab (au ?_))
   refine yH JL JL ks Jq JL hDs ?_
   exact fun w' hg=>⟨_,rfl,xs'.of_grown hg (fun r e=>by cases e;exact Nat.le_trans e11.size hD),by rw[hval,G5 hxs hok];rfl⟩
  ·rintro D0 _ pre W hD hSp ⟨rfl,eW,k2W,v,hv,hno⟩ hDe
   refine au (aT (ax ?_))
   refine yH JL JL k2W Jq JL hDe ?_
   exact fun w' hg=>⟨_,rfl,eW.of_grown hg (fun r e=>by cases e;exact Nat.le_trans e11.size hD),by rw[hval,G6 hSp hv hno];rfl⟩
end Go.Rl
namespace Go.Rl
open Go.RowKit Go.Proofs
end Go.Rl
namespace Go.Rl
open Go.RowKit Go.Proofs Go.Proofs.YtaajaakbcelmfaaGreatDoor
theorem qm {w:World} {d:List UInt8} {ts:List aN} {tv:Value} (hd:d.length=32) (ht:cK bh ts tv w) (hb:ts.length+(ts.map eP).sum≤1099511627776):
 Calls Tryz.prog 16 #[.agg (it d tv).toArray] w (bD fun r w'=>aG w w'∧∃(p:Prop) (dp:Decidable p),r=B (@decide p dp)):=
 bD.mono (wx hd ht hb) fun _ _ ⟨h,b,hr⟩=>⟨h,b=true,inferInstance,by rw[hr];simp⟩
theorem yS {w:World} {d:List UInt8} {ts:List aN} {tv:Value} (hd:d.length=32) (ht:cK bh ts tv w) (hw:∀n∈ts,wN n) (hbk:(FN d ts).bulk≤1048576) (ho:yR w):
 Calls Tryz.prog 3 #[.agg (it d tv).toArray] w (bD fun r w'=>r=B true∧aG w w'):=by
 refine enter (vs:=[.agg (it d tv).toArray]) Tryz.func3 JL JL JL ?_
 have hB:=yE hbk hw
 have hs:=hB.short
 have hen:=hB.enc
 have hsz:=hB.size
 refine af (aa ?_)
 obtain⟨g1,w1,hr1,l1,x1,k1⟩:=cI (P:=Tryz.prog) (w:=w) (T:=25) (cs:=it d tv)
 refine cx JL JL hr1 ?_
 refine ac JL JL (ag (ab (af (af (aa (am gH JL JL (gI) ?_))))))
 rintro v7 w7 ⟨x7,rfl⟩
 refine bB JL JL bF (ae JL JL (al JL ?_))
 refine ak JL JL (sW (k1.ext (x7)) hd) ?_
 refine al JL (am oZ JL JL ((qm hd (ht.ext ((x1.trans x7))) (by omega))) ?_)
 rintro v11 w11 ⟨x11,p11,dp11,rfl⟩
 refine al JL (bB JL JL uQ (aH JL JL JL (ag (ab ?_))))
 refine ba JL (fun h13=>?_) (fun h13=>?_)
 ·refine af (aa (am gH JL JL (gI) ?_))
  rintro v14 w14 ⟨x14,rfl⟩
  refine ac JL JL (ag (ab (au (ax (az JL JL ?_)))))
  exact⟨_,rfl,rfl,(((x1.trans x7).trans x11).trans x14)⟩
 ·refine ar (ab (af (aa ?_)))
  refine ak JL JL (sW (k1.ext ((x7.trans x11))) hd) ?_
  refine am oQ JL JL ((oR hd (ht.ext (((x1.trans x7).trans x11))) (fun n hn=>fun {_ _ _ _ _ _} e h1 h2 h3 h4 h5=>Dp ((ho.ext (((x1.trans x7).trans x11))).ext e) (hs n hn) h1 h2 h3 h4 h5) hw (by omega))) ?_
  rintro v17 w17 ⟨x17,v18,rfl,o18⟩
  refine ae JL JL (an JL JL (bw) ?_)
  have b18:=o18.bts
  refine an JL JL (bz) (ac JL JL (ac JL JL (ag (ab (af (aa ?_))))))
  refine ak JL JL (sW (k1.ext (((x7.trans x11).trans x17))) hd) ?_
  refine am oS JL JL ((oW hd (ht.ext ((((x1.trans x7).trans x11).trans x17))) hs hw (by omega))) ?_
  rintro v22 w22 ⟨x22,v23,rfl,o23⟩
  refine ae JL JL (an JL JL (bw) ?_)
  have b23:=o23.bts
  refine an JL JL (bz) (ac JL JL (ac JL JL (ag (ab (af (aa (ae JL JL (ae JL JL (aj JL JL JL (dv JL bA) (ae JL JL ?_))))))))))
  refine al JL (ae JL JL (al JL (aQ JL JL (qZ (b18.ext x22)) (al JL (ae JL JL (al JL (aQ JL JL (qZ b23) (al JL (aj JL JL JL (dv JL qB) ?_)))))))))
  refine aB JL JL JL (ac JL JL (ag (ab (au (az JL JL ?_)))))
  exact⟨_,rfl,rfl,((((x1.trans x7).trans x11).trans x17).trans x22)⟩
theorem yN {w:World} {d:List UInt8} {ts:List aN} {tv:Value} {at_:Int} {by_:UInt8} (hd:d.length=32) (ht:cK bh ts tv w) (hw:∀n∈ts,wN n) (hbk:(FN d ts).bulk≤1048576) (hlo: -9223372036854775808≤at_) (hhi:at_≤9223372036854775807):
 Calls Tryz.prog 7 #[.agg (it d tv).toArray,I at_,U8 by_] w (bD fun r w'=>r=B true∧aG w w'):=by
 refine enter (vs:=[.agg (it d tv).toArray,I at_,U8 by_]) Tryz.func7 JL JL JL ?_
 have hB:=yE hbk hw
 have hs:=hB.short
 have hen:=hB.enc
 have hsz:=hB.size
 refine af (aa ?_)
 obtain⟨g3,w3,hr3,l3,x3,k3⟩:=cI (P:=Tryz.prog) (w:=w) (T:=25) (cs:=it d tv)
 refine cx JL JL hr3 ?_
 refine ac JL JL (ag (ab (af (af (aa (am gH JL JL (gI) ?_))))))
 rintro v12 w12 ⟨x12,rfl⟩
 refine bB JL JL bF (ae JL JL (al JL ?_))
 refine ak JL JL (sW (k3.ext (x12)) hd) ?_
 refine al JL (am oZ JL JL ((qm hd (ht.ext ((x3.trans x12))) (by omega))) ?_)
 rintro v16 w16 ⟨x16,p16,dp16,rfl⟩
 refine al JL (bB JL JL uQ (aH JL JL JL (ae JL JL ?_)))
 refine cW (fun h19=>?_) (fun h19=>?_)
 ·refine aq JL JL JL (aq JL JL JL (aB JL JL JL (ag (ab (bJ JL (af (aa (am gH JL JL (gI) ?_))))))))
  rintro v23 w23 ⟨x23,rfl⟩
  refine ac JL JL (ag (ab (au (ax (az JL JL ?_)))))
  exact⟨_,rfl,rfl,(((x3.trans x12).trans x16).trans x23)⟩
 ·refine al JL (ae JL JL (al JL (aj (v:=U8 0) JL JL JL (iy) (aH JL JL JL (ag (ab ?_))))))
  refine ba JL (fun h22=>?_) (fun h22=>?_)
  ·refine af (aa (am gH JL JL (gI) ?_))
   rintro v23 w23 ⟨x23,rfl⟩
   refine ac JL JL (ag (ab (au (ax (az JL JL ?_)))))
   exact⟨_,rfl,rfl,(((x3.trans x12).trans x16).trans x23)⟩
  ·have hby:by_≠0:=h22
   refine ar (ab (af (aa ?_)))
   refine ak JL JL (sW (k3.ext ((x12.trans x16))) hd) ?_
   refine am oS JL JL ((oW hd (ht.ext (((x3.trans x12).trans x16))) hs hw (by omega))) ?_
   rintro v26 w26 ⟨x26,v27,rfl,o27⟩
   refine ae JL JL (an JL JL (bw) (an JL JL (bz) (ac JL JL (ac JL JL (ag (ab (af (af ?_))))))))
   obtain⟨fl,hfl⟩:∃fl,fl=(ko (d,ts)).1:=⟨_,rfl⟩
   rw[←hfl] at o27
   rcases z9 (d,ts) with⟨h0,he,hln⟩|⟨he,hn⟩
   ·have hfs:fl=ew d (bQ (df ts)):=by rw[hfl,he]
    have hln:fl.length≤1048576:=by rw[hfs];exact hln
    have h68:68≤fl.length:=by rw[hfs,kn hd];omega
    have h4:fl.take 4=eV:=by rw[hfs];exact nL
    refine aa (ae JL JL (aj JL JL JL (eF (fun h=>h h0) dj) (ae JL JL (al JL (ae JL JL (al JL (aj JL JL JL (aS) (aH JL JL JL ?_))))))))
    refine ae JL JL ?_
    refine cW (fun h35=>?_) (fun h35=>?_)
    ·refine aq JL JL JL (aq JL JL JL (aq JL JL JL (aq JL JL JL (aB JL JL JL (ag (ab (bJ JL (af (aa (ac JL JL (ag (ab (au (ax ?_))))))))))))))
     refine az JL JL ?_
     exact⟨_,rfl,rfl,(((x3.trans x12).trans x16).trans x26)⟩
    ·refine al JL (ae JL JL (al JL (ae JL JL (al JL (aP JL JL (bP o27.bts) (al JL (aj JL JL JL (fQ) (aH JL JL JL (ag (ab ?_))))))))))
     refine ba JL (fun h40=>?_) (fun h40=>?_)
     ·refine af (aa (ac JL JL (ag (ab (au (ax (az JL JL ?_)))))))
      exact⟨_,rfl,rfl,(((x3.trans x12).trans x16).trans x26)⟩
     ·obtain⟨j,rfl⟩:∃j:Nat,at_=(j:Int):=⟨at_.toNat,by omega⟩
      have hj:j<fl.length:=by omega
      refine ar (ab (af (aa (ae JL JL (ae JL JL ?_)))))
      obtain⟨a43,p43,q43⟩:=gc o27.bts (i:=j) (hj) .i64
      refine ap JL JL JL (p43 _) (ak JL JL (ai Jm JL q43) (ae JL JL (aj JL JL JL (Dy) ?_)))
      obtain⟨g47,w47,p47,s47,o47,q47,hb47,c47,ob47⟩:=(o27).setB (i:=j) (hj) (fl[j]+by_)
      refine ap JL JL JL (p47 _) (aC JL JL s47 ?_)
      have x47:=aG.of_new (x26) q47 hb47
      obtain⟨L',hL'⟩:∃L',L'=fl.set j (fl[j]+by_):=⟨_,rfl⟩
      rw[←hL'] at o47
      have hll:L'.length=fl.length:=by rw[hL',List.length_set]
      have hcd:=GT L'
      refine ag (ab (af (aa (ae JL JL (am oN JL JL ((oP (o47).bts)) ?_)))))
      rintro v50 w50 ⟨x50,v51,rfl,r51⟩
      have n51:v51.oneCell'=true:=cK.one (f:=bh) r51.rp
      refine ae JL JL (an JL JL (bw) (an JL JL (bz) ?_))
      obtain⟨g9,w9,hr9,l9,x9,k9⟩:=bc (P:=Tryz.prog) (w:=w50) (t:=25) (z:=.agg (it nj gM).toArray) (l:=it nj gM) Aa rfl
      refine bf JL hr9 ?_
      obtain⟨w10,s10,q10,k10⟩:=jR (d:=(iI L').1.1) (v:=v51) k9 rfl hcd n51
      refine aC JL JL s10 ?_
      have x10:=aG.of_new x9 q10 l9
      refine ac JL JL (ag (ab (af (af (aa (ae JL JL (aj JL JL JL (aS) (ag (ab ?_)))))))))
      refine ba JL (fun h54=>?_) (fun h54=>?_)
      ·have hj4:j<4:=by omega
       have hdec:iI L'=(uA,5):=by rw[hL'];exact tA h4 (by omega) hj4 hj (C6 hby)
       refine af (aa (ae JL JL (aj JL JL JL (dv (by rw[hdec]) bA) (ac JL JL (ag (ab (au (ax (az JL JL ?_)))))))))
       exact⟨_,rfl,rfl,(((((x3.trans x12).trans x16).trans x47).trans x50).trans x10)⟩
      ·have hsum:(iI L').2=6∨iL (L'.take (L'.length-32))=L'.drop (L'.length-32):=by
        rw[hll,hL']
        exact wj h4 (by omega) h68 (by omega)
       refine ar (ab (af (aa (ae JL JL (ae JL JL (aP JL JL (bP (o47.ext (x50.trans x10)).bts) (aj (r:=I ((L'.length-32:Nat):Int)) JL JL JL (by have e:((L'.length-32:Nat):Int)=(L'.length:Int)-32:=(by omega);rw[e];exact aY (by omega) (by omega)) ?_)))))))
       obtain⟨v61,p61,b61⟩:=jg (o47.ext (x50.trans x10)).bts (hi:=L'.length-32) (by omega) .i64
       refine cY JL JL JL JL JL (p61 _) (am ut JL JL ((uu b61 (by rw[List.length_take];omega))) ?_)
       rintro v62 w62 ⟨x62,rfl⟩
       obtain⟨g11,w11,hr11,l11,x11,k11⟩:=bc (P:=Tryz.prog) (w:=w62) (t:=22) (l:=(List.replicate 32 0).map U8) mc rfl
       refine bf JL hr11 ?_
       obtain⟨wc2,sc2,qc2,kc2⟩:=k11.stS (P:=Tryz.prog) (t:=22) (m:=(iL (L'.take (L'.length-32))).map U8) (by simp[dn]) (by rw[List.length_map,dn];exact mg) (kD _)
       refine aC JL JL sc2 ?_
       have xc2:=x11.of_new qc2 l11
       have b32:ci (iL (L'.take (L'.length-32))) (.slice (some ⟨g11,0,none⟩) 32 32) wc2:=by
        have:=kc2.bts (by rw[dn];omega)
        rwa [dn] at this
       refine ag (ab (af ?_))
       by_cases h6:(iI L').2=6
       ·refine bm 13 [75] (by kernel_rfl) (by kernel_rfl) ?_
        refine ao JL JL (aO JL JL JL (fun w _=>dv h6 bA) (ao JL JL (cS JL JL JL (cS JL JL JL (cS JL JL JL (cS JL JL JL (cS JL JL JL ?_)))))))
        refine cS JL JL JL (cS JL JL JL (cS JL JL JL (cS JL JL JL (wG JL JL JL (bu ?_)))))
        intro wg11 xg11
        rintro _ rfl
        refine ac JL JL (ag (ab (au (az JL JL ?_))))
        exact⟨_,rfl,rfl,((((((((x3.trans x12).trans x16).trans x47).trans x50).trans x10).trans x62).trans xc2).trans xg11)⟩
       ·have hdig:=hsum.resolve_left h6
        refine bm 13 [75] (by kernel_rfl) (by kernel_rfl) ?_
        refine ao JL JL (aO JL JL JL (fun w _=>eF h6 bA) (ao JL JL (bV JL JL (gx JL JL JL JL (fun w hw=>sU) (bV JL JL (dk (r:=S (iL (L'.take (L'.length-32)))) JL JL (fun w hw=>qZ (b32.ext hw)) ?_))))))
        refine bV JL JL (ao JL JL (bV JL JL (ao JL JL (bV JL JL (gN (vs:=[v27]) JL JL (fun w hw=>bP ((o47.ext (((x50.trans x10).trans x62).trans xc2)).bts.ext hw)) ?_)))))
        refine bV JL JL (aO (r:=I ((L'.length-32:Nat):Int)) JL JL JL (fun w _=>by have e:((L'.length-32:Nat):Int)=(L'.length:Int)-32:=(by omega);rw[e];exact aY (by omega) (by omega)) ?_)
        refine bV JL JL ?_
        obtain⟨v72,p72,b72⟩:=iB (o47.ext (((x50.trans x10).trans x62).trans xc2)).bts (lo:=L'.length-32) (by omega) .i64
        refine gx JL JL JL JL (fun w _=>p72 w) (bV JL JL (dk JL JL (fun w hw=>qZ (b72.ext hw)) (bV JL JL (aO JL JL JL (fun w _=>dv hdig qB) ?_))))
        refine wH JL JL JL (bu ?_)
        intro wg11 xg11
        rintro _ rfl
        refine ac JL JL (ag (ab (au (az JL JL ?_))))
        exact⟨_,rfl,rfl,((((((((x3.trans x12).trans x16).trans x47).trans x50).trans x10).trans x62).trans xc2).trans xg11)⟩
   ·refine aa (ae rfl rfl (aj rfl rfl rfl (dv (by rcases hn with h|h<;>omega) dj) (ae rfl rfl (aq rfl rfl rfl (aq rfl rfl rfl (aB rfl rfl rfl ?_))))))
    refine ae JL JL (aq JL JL JL (aq JL JL JL (aq JL JL JL (aq JL JL JL (aB JL JL JL (ag (ab (bJ JL (af (aa (ac JL JL (ag ?_))))))))))))
    refine ab (au (ax (az JL JL ?_)))
    exact⟨_,rfl,rfl,(((x3.trans x12).trans x16).trans x26)⟩
end Go.Rl

/- Part 5 of a proof: plain facts and walks of functions, merged by a program. Conditions: each lemma names its own. -/
import Derived.Test.YtpeidnhjcompmaaGreatDoorJa4
namespace Go.Rl
open Go.RowKit Go.Proofs
theorem BW:aG Tryz.prog 50:=⟨_,Tryz.func50,by kernel_rfl,rfl⟩
theorem Ge {l t:List UInt8} {d:bS} (h:oa l=some (d,t)) (hl:l.length≤4294967296):sQ d.at_:=by
 unfold oa at h
 obtain⟨p1,h1,h⟩:=Option.bind_eq_some_iff.1 h
 obtain⟨p2,h2,h⟩:=Option.bind_eq_some_iff.1 h
 obtain⟨p3,h3,h⟩:=Option.bind_eq_some_iff.1 h
 cases h
 have l1:=eO.le l _ _ h1
 have l2:=eO.le p1.2 _ _ h2
 exact pQ h3 (by omega)
theorem rt {l t:List UInt8} {u:cc} (h:lj l=some (u,t)) (hl:l.length≤4294967296):Kj u:=by
 unfold lj at h
 obtain⟨p1,h1,h⟩:=Option.bind_eq_some_iff.1 h
 obtain⟨p2,h2,h⟩:=Option.bind_eq_some_iff.1 h
 cases h
 have l1:=(tF nx.le).le l _ _ h1
 exact⟨ri nx.le (fun _ _ _ h hl=>Ge h hl) h1 hl,rj p1.2.length p1.2 _ _ h2 (by omega)⟩
def L2 (base:Nat) (b:List UInt8) (r:Value) (w':World):Prop:=∃(u:cc) (cs:List Value) (ok:Bool),r=.tuple #[.agg cs.toArray,B ok]∧cH (fun k=>k<base) w' (jv u) cs∧au cs∧(ok=true→jj b=some u)∧(ok=false→jj b=none)
theorem j9 {X:Nat→Prop} {w:World} {u:cc} {v:Value} {cs:List Value} (h1:cH X w (.sl (u.path.map dy)) [v]) (h2:cH X w (bG u.leaf) cs):cH X w (jv u) (v::cs):=by
 unfold jv
 simp only[cH.eq_5]
 have:=aR.cons (a:=[v]) h1 (aR.cons (a:=cs) h2 aR.nil)
 simpa using this
def Ir:aW:=.mk [] li [] false []
theorem uU {X:Nat→Prop} {w:World}:cH X w (bG Ir) [.slice none 0 0,I 0,I 0,B false,.slice none 0 0,.slice none 0 0,.slice none 0 0,B false,.slice none 0 0]:=et (ls:=[]) (d:=li) (ks:=[]) (em:=false) (ps:=[]) jK js jK jK
abbrev BX:List Value:=[.slice none 0 0,I 0,I 0,B false,.slice none 0 0,.slice none 0 0,.slice none 0 0,B false,.slice none 0 0]
section
variable {P:Program} {ops:Array Oper} {Q:iQ} {N:Nat} {D:List Deferred} {S:World→Prop} {fuel:Nat} {listed:Array Bool} {l:Fr} {w:World} {d:Nat} {ty:TypeId} {pos:String} {aft:Array Edge}
theorem EF (i:Nat) {c x y:Operand} {u:Value} (hi:ops[i]? =some ⟨some d,.pick c x y,ty,pos,aft,none⟩) (hc:ev l c=some (.bool true)) (hx:ev l x=some u) (hB:nn ops listed i=true) (hd:Nat.blt d N=true) (hS:S w)
 (k:dw P ops Q N D S fuel (listed.setIfInBounds i true) ((d,u)::l) w):dw P ops Q N D S (fuel+1) listed l w:=
 ye i hi hB hd hS (fun ρ w' hρ _=>by simp[execOp,hρ c _ hc,asBool,hρ x _ hx]) k
theorem pV (i:Nat) {c x y:Operand} {v:Value} (hi:ops[i]? =some ⟨some d,.pick c x y,ty,pos,aft,none⟩) (hc:ev l c=some (.bool false)) (hy:ev l y=some v) (hB:nn ops listed i=true) (hd:Nat.blt d N=true) (hS:S w)
 (k:dw P ops Q N D S fuel (listed.setIfInBounds i true) ((d,v)::l) w):dw P ops Q N D S (fuel+1) listed l w:=
 ye i hi hB hd hS (fun ρ w' hρ _=>by simp[execOp,hρ c _ hc,asBool,hρ y _ hy]) k
end
theorem An {P:Program} {w:World} {t:TypeId} {x y:Operand}:(bin .eql t x y (I (if some ([]:List UInt8)=some [] then 0 else 5)) (I 0)).run P w=.ok (B true) w:=HG (l:=[])
theorem EG {P:Program} {w:World} {t:TypeId} {x y:Operand} {c:UInt8} {l:List UInt8}:(bin .eql t x y (I (if some (c::l)=some [] then 0 else 5)) (I 0)).run P w=.ok (B false) w:=by
 have h:=HG (P:=P) (w:=w) (t:=t) (x:=x) (y:=y) (l:=c::l)
 rwa [decide_eq_false (by simp)] at h
theorem xp {b l l7:List UInt8} {ds:List bS} {nd:aW} (h1:fI (dk oa) (some b) ds (some l)) (h2:gT l=some (nd,l7)):lj b=some (⟨ds,nd⟩,l7):=by
 have h1':dk oa b=some (ds,l):=h1
 unfold lj
 rw[h1']
 show(gT l).bind _=_
 rw[h2];rfl
theorem Dw {b:List UInt8} {ds:List bS} (h1:fI (dk oa) (some b) ds none):jj b=none:=by
 have h1':dk oa b=none:=h1
 unfold jj lj
 rw[h1'];rfl
theorem Dx {b l:List UInt8} {ds:List bS} (h1:fI (dk oa) (some b) ds (some l)) (h2:gT l=none):jj b=none:=by
 have h1':dk oa b=some (ds,l):=h1
 have h3:lj b=none:=by
  unfold lj
  rw[h1']
  show(gT l).bind _=_
  rw[h2];rfl
 unfold jj
 rw[h3]
theorem Dy {b l7:List UInt8} {u:cc} {c:UInt8} (h:lj b=some (u,c::l7)):jj b=none:=by
 unfold jj
 rw[h]
theorem BY {b:List UInt8} {u:cc} (h:lj b=some (u,[])) (hv:cK u=false):jj b=none:=by
 unfold jj
 rw[h]
 exact if_neg (by rw[hv];simp)
theorem BZ {w:World} {b:List UInt8} {v:Value} (hv:cz b v w) (hl:b.length≤4294967296):
 Calls Tryz.prog 50 #[v] w (bE fun r w'=>aK w w'∧L2 w.heap.size b r w'):=by
 refine enter (vs:=[v]) Tryz.func50 MI MI MI ?_
 obtain⟨N,s1,qU,hN,cU⟩:=zQ (some b)
 have hb:iJ (some b):=fun l e=>by cases e;omega
 refine af (aa ?_)
 obtain⟨g2,w2,hr2,l2,x2,k2⟩:=aY (P:=Tryz.prog) (w:=w) (t:=54) (z:=.agg #[.slice none 0 0,.slice none 0 0,I 0,I 0,B false,.slice none 0 0,.slice none 0 0,.slice none 0 0,B false,.slice none 0 0]) (l:=[.slice none 0 0,.slice none 0 0,I 0,I 0,B false,.slice none 0 0,.slice none 0 0,.slice none 0 0,B false,.slice none 0 0]) (by kernel_rfl) rfl
 refine aV MI hr2 (ac MI MI (ag (ab (af (aa (ae MI MI (am pA MI MI ((pB (hv.ext x2) (by omega))) ?_)))))))
 rintro v11 w11 ⟨x11,g,lg,rfl,hr11⟩
 refine ac MI MI (ag (ab (af (aa (ae MI MI (am fw MI MI ((cU hr11)) ?_))))))
 rintro v14 w14 ⟨g14,rfl,hr14⟩
 have m14:=ep.kp hr11 g14
 have hl1:∀l,s1=some l→l.length≤b.length:=fun l e=>by
  have h:=qU
  rw[e] at h
  exact lC.le b _ _ h
 have hgl:=cn.lt hr11
 have hg2:g2<g:=by have:=k2.lt;omega
 refine ae MI MI (ao MI MI (bj) (ao MI MI (bk) (ac MI MI (ac MI MI (ag (ab (af (aa ?_))))))))
 obtain⟨g7,w7,hr7,l7,x7,k7⟩:=aY (P:=Tryz.prog) (w:=w14) (t:=54) (z:=.agg #[.slice none 0 0,.slice none 0 0,I 0,I 0,B false,.slice none 0 0,.slice none 0 0,.slice none 0 0,B false,.slice none 0 0]) (l:=[.slice none 0 0,.slice none 0 0,I 0,I 0,B false,.slice none 0 0,.slice none 0 0,.slice none 0 0,B false,.slice none 0 0]) (by kernel_rfl) rfl
 refine aV MI hr7 ?_
 have m27:Mv (RX g) w2 w7:=((Mv.of_ext x11).trans (Mv.of_grown g14 fun k hk _=>(Option.some.inj hk).symm) fun _ h _=>h).trans (Mv.of_ext x7) fun _ h _=>h
 have k27:=m27.blk k2 (fun e=>by have:g2=g:=e;omega)
 have hr7:=cn.ext hr14 x7
 have hg7:g<g7:=by have:=g14.size;omega
 refine ag (ab (af (aa (ae MI MI (al (r:=B s1.isSome) MI MI MI (zR) (ac MI MI (ag (ab (af (aF ?_))))))))))
 refine iW (fun(k:Nat) (v:Value) (so:Option (List UInt8)) (ds:List bS)=>[(2,.pointer (some ⟨g2,0,none⟩)),(4,.pointer (some ⟨g,0,none⟩)),(5,bF (UInt64.ofNat N)),(7,.pointer (some ⟨g7,0,none⟩)),(8,B so.isSome)]) (fun(k:Nat) (v:Value) (so:Option (List UInt8)) (ds:List bS) w'=>Mv (fun k=>k=g∨k=g7) w7 w'∧cn g so w'∧ci g7 54 (v::BX) w'∧f9 48 5 w7.heap.size dy ds v w'∧k+ds.length=N∧s1.bind (bQ oa N)=so.bind (fun l=>(bQ oa k l).map fun p=>(ds++p.1,p.2))∧ds.length≤4294967299∧∀l,so=some l→l.length+ds.length≤4294967296) (fun(k:Nat) (v:Value) (so:Option (List UInt8)) (ds:List bS)=>k) (N) (.slice none 0 0) (s1) ([]) ⟨rfl,rfl,rfl,rfl,rfl,trivial⟩ ⟨Mv.refl _ _,hr7,k7,f9.nil _,by simp,qT,by simp,fun l e=>by have:=hl1 l e;simp;omega⟩ ?_
 rintro k v so ds wL ⟨mL,hrL,kL,oL,hk,hR,hql,hsl⟩
 refine af (af ?_)
 have rL:=oL.rpx ce (by omega)
 have dL:cA dy ds v wL:=rL.rp
 have hvo:v.oneCell'=true:=by obtain⟨_,_,_,rfl⟩:=oL.isS;rfl
 have hnl:ds.length<18446744073709551616:=by omega
 have sz7:=mL.size
 have lt7:=k7.lt
 have k2L:=mL.blk k27 (by rintro(h|h)<;>omega)
 rcases so with _|l
 rotate_left
 rcases Nat.eq_zero_or_pos k with h0|h0
 rotate_left
 ·refine aa (ae MI MI (ae MI MI (aj MI (ah MI MI (aq (o:=0) Md MI (by kernel_rfl) MI) (aj MI ?_)))))
  refine ak MI MI (ai Mj MI (kL.cell (i:=0) MI)) (aj MI (aP MI MI (bg Mj dL) ?_))
  refine aj MI (aZ MI MI (mp Me Mf) (aj MI (ae MI MI (aj MI (al MI MI MI (cJ ((IP hnl hN).2 (by omega)) gF) ?_)))))
  refine ap MI MI MI (ag (ab (bh MI (aA (ab (aF (af (aa ?_))))))))
  obtain⟨g9,w9,hr9,l9,x9,k9⟩:=aY (P:=Tryz.prog) (w:=wL) (t:=48) (z:=.agg #[I 0,I 0,B false,.slice none 0 0,.slice none 0 0]) (l:=[I 0,I 0,B false,.slice none 0 0,.slice none 0 0]) (by kernel_rfl) rfl
  refine aV MI hr9 (ag (ab (af ?_)))
  have hr9:=cn.ext hrL x9
  have e9:=x9
  have lt9:=k9.lt
  have szM9:=e9.size
  have hg9:g<g9:=by omega
  have hll:iJ (some l):=fun l' e=>by cases e;have:=hsl l rfl;omega
  refine aa (ae MI MI (am yr MI MI ((yu hr9 hll)) ?_))
  rintro v30 w30 ⟨m30,d,x,y,s6,rfl,rp30,hx1,hy1,hr30,q30⟩
  have m30:=m30
  have k9a:=m30.blk k9 (fun e=>by have:g9=g:=e;omega)
  have h1cs:au [I d.kd,I d.ix,B d.at_.1,x,y]:=au.cons rfl (au.cons rfl (au.cons rfl (au.cons hx1 (au.cons hy1 au.nil))))
  obtain⟨wn,sn,qn,kn⟩:=k9a.stS (P:=Tryz.prog) (t:=48) (m:=[I d.kd,I d.ix,B d.at_.1,x,y]) rfl (by kernel_rfl) h1cs
  have mn:Mv (fun k=>k=g9) w30 wn:=Mv.of_grown qn fun k hk _=>(Option.some.inj hk).symm
  have rn:cn g s6 wn:=hr30.mv mn fun j hj=>by omega
  have mAll:Mv (RX g) wL wn:=((Mv.of_ext e9).trans m30 fun _ hj _=>hj).trans mn fun j hj hlt=>by omega
  have k7n:=mAll.blk kL (fun e=>by have:g7=g:=e;omega)
  have oN:=oL.mv mAll (fun j hj=>by have:j=g:=hj;omega)
  have rpn:=rp30.mv (mn.weak fun j hj _=>by show j<w9.heap.size;omega) fun _ hk=>.inl hk
  have own:∀j,v.ownBlock=some j→w7.heap.size≤j∧j<wL.heap.size:=oL.lt
  have hY:∀j,(j<w7.heap.size∨v.ownBlock=some j)→j<w9.heap.size:=fun j hj=>by
   rcases hj with hj|hj
   ·omega
   ·have:=(own j hj).2;omega
  obtain⟨x36,w36,v37,w37,hr36,hr37,o37,m37,n37⟩:=oN.push (ty:=41) (t:=41) Mj o0 rfl (by omega) (by omega) (by omega) h1cs (rpn.weak fun j hj=>.inl (hY j hj)) ce (by omega) (Nat.le_trans sz7 mAll.size)
  have k7m:=m37.blk k7n (fun e=>by have:=own g7 e;omega)
  have hv37:v37.oneCell'=true:=by obtain⟨_,_,_,rfl⟩:=o37.isS;rfl
  obtain⟨wz,sz,qz,kz⟩:=k7m.stC (P:=Tryz.prog) (t:=41) (i:=0) (v:=v37) (by kernel_rfl) hv37 (by simp)
  have mz:Mv (fun k=>k=g7) w37 wz:=Mv.of_grown qz fun k hk _=>(Option.some.inj hk).symm
  refine ae MI MI (ao MI MI (bj) (ao MI MI (bk) ?_))
  refine ar MI MI sn ?_
  refine ac MI MI (ag (ab (aa (ah MI MI (aq (o:=0) Md MI (by kernel_rfl) MI) (ak MI MI (ai Mj MI (k7n.cell (i:=0) MI)) ?_)))))
  refine ak MI MI (kn.ld Mc MI (by kernel_rfl)) ?_
  refine aI (vs:=[(0,.agg #[I d.kd,I d.ix,B d.at_.1,x,y])]) MI MI hr36 ?_
  refine a6 MI MI hr37 ?_
  refine ah MI MI (aq (o:=0) Md MI (by kernel_rfl) MI) ?_
  refine ar MI MI sz ?_
  obtain⟨k',rfl⟩:∃k',k=k'+1:=⟨k-1,by omega⟩
  refine ag (aS ?_)
  refine fb (k') (v37) (s6) (ds++[d]) ⟨rfl,rfl,rfl,rfl,rfl,trivial⟩ ⟨((mL.trans (mAll.weak fun j hj _=>.inl hj) fun _ hj _=>hj).trans m37 fun j hj hlt=>by have:=(own j hj).1;omega).trans (mz.weak fun j hj _=>.inr hj) fun _ hj _=>hj,(rn.mv m37 fun j hj=>by have:=(own j hj).1;omega).mv mz fun j hj=>by omega,kz,o37.mv mz (fun j hj=>by omega),by simp;omega,pE hR q30,by have:=hsl l rfl;simp;omega,fun l6 e=>by
   have h:=q30
   rw[e] at h
   have:=nx l _ l6 h
   have:=hsl l rfl
   simp;omega⟩ (by omega)
 ·obtain⟨nd,hnd⟩:∃nd,nd=Ir:=⟨_,rfl⟩
  have rpy:cH (fun k=>k<w7.heap.size) wL (bG nd) BX:=hnd▸uU
  have oy:=oL
  have my:=mL
  have k2y:=k2L
  have hoy:au BX:=au.cons rfl (au.cons rfl (au.cons rfl (au.cons rfl (au.cons rfl (au.cons rfl (au.cons rfl (au.cons rfl (au.cons rfl au.nil))))))))
  obtain⟨vl,x,y,vk,vp,ez,n1,n2,n3,n4,n5⟩:=dW rpy.rp
  have ky:ci g7 54 (v::BX) wL:=kL
  rw[ez] at ky rpy hoy
  refine aa (ae MI MI (ae MI MI (an MI MI MI (an MI MI MI (an MI MI MI (an MI MI MI (an MI MI MI (an MI MI MI (aD MI MI MI ?_)))))))))
  refine ag (ab (cq MI (bc (aJ (aJ (bf (ab (af (af (aa (ae MI MI (ag (ab (cq MI (aA (ab (af ?_)))))))))))))))))
  have hS:Mv (fun k=>k=g2) wL wL.drew:=Mv.of_ext ((aK.refl wL).drew)
  have e11:aK wL wL.drew:=(aK.refl wL).drew
  refine gO (Mv (fun k=>k=g2) wL) 13 MI (by kernel_rfl) ?_
  refine fU 0 MI MI (by kernel_rfl) MI hS (fun w' hw'=>(hw'.blk ky (fun e=>by omega)).ld Md MI (by kernel_rfl)) ?_
  refine aQ 1 (by kernel_rfl) MI (ae MI MI (aH hS ?_))
  refine aQ 2 (by kernel_rfl) MI (ae MI MI (aH hS ?_))
  refine aQ 3 (by kernel_rfl) MI (an MI MI MI (aH hS ?_))
  refine aQ 4 (by kernel_rfl) MI (an MI MI MI (aH hS ?_))
  refine aQ 5 (by kernel_rfl) MI (an MI MI MI (aH hS ?_))
  refine aQ 6 (by kernel_rfl) MI (aD MI MI MI (aH hS ?_))
  refine aQ 7 (by kernel_rfl) MI (ae MI MI (aH hS ?_))
  refine aQ 8 (by kernel_rfl) MI (an MI MI MI (aH hS ?_))
  refine aQ 9 (by kernel_rfl) MI (an MI MI MI (aH hS ?_))
  refine pV 10 MI MI MI (by kernel_rfl) MI hS ?_
  have k2g:=k2y.ext e11
  have hon:au (v::[vl,I nd.split.kd,I nd.split.ix,B nd.split.at_.1,x,y,vk,B nd.empty,vp]):=au.cons hvo hoy
  obtain⟨wd,sd,qd,kd⟩:=k2g.stS (P:=Tryz.prog) (t:=54) (m:=[v,vl,I nd.split.kd,I nd.split.ix,B nd.split.at_.1,x,y,vk,B nd.empty,vp]) rfl (by kernel_rfl) hon
  have md:Mv (fun k=>k=g2) wL.drew wd:=Mv.of_grown qd fun k hk _=>(Option.some.inj hk).symm
  have hSd:Mv (fun k=>k=g2) wL wd:=(Mv.of_ext e11).trans md fun _ hj _=>hj
  have mF:Mv (fun k=>k=g2∨k=g∨k=g7) w2 wd:=((m27.weak fun j hj _=>.inr (.inl hj)).trans (my.weak fun j hj _=>.inr hj) fun _ hj _=>hj).trans (hSd.weak fun j hj _=>.inl hj) fun _ hj _=>hj
  have eF:aK w wd:=Mv.ext_from mF x2 (by rintro j (h|h|h)<;>omega)
  have oF:=oy.mv hSd (fun j hj=>by omega)
  have rF:cH (fun k=>k<w.heap.size) wd (jv ⟨ds,nd⟩) [v,vl,I nd.split.kd,I nd.split.ix,B nd.split.at_.1,x,y,vk,B nd.empty,vp]:=j9 (u:=⟨ds,nd⟩) ((oF.rpx ce (by omega)).weak fun j hj=>.inl (by show j<w7.heap.size;omega)) (rpy.mv (hSd.weak fun j hj _=>by show j<w7.heap.size;omega) fun j hj=>.inl (by show j<w7.heap.size;omega))
  refine aQ 11 (by kernel_rfl) MI (ar MI MI sd (aH hSd ?_))
  refine aQ 12 (by kernel_rfl) MI (ac MI MI (aH hSd (gQ (by kernel_rfl) ?_)))
  refine ab (aw ?_)
  refine cu MI MI MI kd Md MI (by kernel_rfl) ?_
  exact⟨_,rfl,eF,⟨ds,nd⟩,_,false,rfl,rF,hon,(fun e=>nomatch e),fun _=>Dw (ds:=ds) (tI qU hR)⟩
 ·refine aa (ae MI MI (ae MI MI (aj MI (ah MI MI (aq (o:=0) Md MI (by kernel_rfl) MI) (aj MI ?_)))))
  refine ak MI MI (ai Mj MI (kL.cell (i:=0) MI)) (aj MI (aP MI MI (bg Mj dL) ?_))
  refine aj MI (aZ MI MI (mp Me Mf) (aj MI (ae MI MI (aj MI (al MI MI MI (dm (mt (IP hnl hN).1 (by omega)) gF) ?_)))))
  refine ap MI MI MI (ag (ab (cq MI (bc (aJ (aJ (bf (ab (af (af (aa (ae MI MI (ag (ab (bh MI ?_)))))))))))))))
  have hll:iJ (some l):=fun l' e=>by cases e;have:=hsl l rfl;omega
  refine aa (ae rfl rfl (am wj rfl rfl ((CX l.length hrL hll (fun l' e=>by cases e;exact Nat.le_refl _))) ?_))
  rintro v42 w42 ⟨m42,nd,cs,s7,ok7,rfl,rp42,hoy,hr42,hNd⟩
  have m42:=m42
  have hcs:cs.length=9:=rp42.len.trans (cw nd)
  have k7b:=m42.blk kL (fun e=>by have:g7=g:=e;omega)
  obtain⟨wy,sy,qy,ky⟩:=k7b.stO (P:=Tryz.prog) (t:=52) (m:=cs) 1 (by simp[hcs]) (by rw[hcs];kernel_rfl) hoy
  have mz:Mv (fun k=>k=g7) w42 wy:=Mv.of_grown qy fun k hk _=>(Option.some.inj hk).symm
  have rpz:=rp42.mv (mz.weak fun j hj _=>by show j<wL.heap.size;omega) fun _ hk=>.inl hk
  have rpy:cH (fun k=>k<w7.heap.size) wy (bG nd) cs:=rpz.weak fun j hj=>.inl (by show j<wL.heap.size;omega)
  have hry:=hr42.mv mz fun j hj=>by omega
  have mLy:Mv (fun k=>k=g∨k=g7) wL wy:=(m42.weak fun j hj _=>.inl hj).trans (mz.weak fun j hj _=>.inr hj) fun _ hj _=>hj
  have my:=mL.trans mLy fun _ hj _=>hj
  have oy:=oL.mv mLy (by rintro j (hj|hj)<;>omega)
  have k2y:=mLy.blk k2L (by rintro(h|h)<;>omega)
  refine ae MI MI (ao MI MI (bj) (ao MI MI (bk) (ah MI MI (aq (o:=1) Md MI (by kernel_rfl) MI) ?_)))
  refine ar MI MI sy ?_
  refine ac MI MI (ag (ab (af ?_)))
  obtain⟨vl,x,y,vk,vp,rfl,n1,n2,n3,n4,n5⟩:=dW rpy.rp
  have kz:ci g7 54 [v,vl,I nd.split.kd,I nd.split.ix,B nd.split.at_.1,x,y,vk,B nd.empty,vp] wy:=ky
  have dz:cA dy ds v wy:=(oy.rpx ce (by omega)).rp
  have hD:fI (dk oa) (some b) ds (some l):=by subst h0;exact tH qU hR
  rcases ok7 with _|_
  rotate_left
  obtain⟨h6,h7⟩:=hNd.1 rfl
  rcases s7 with _|l7
  ·exact absurd rfl h7
  rcases l7 with _|⟨c7,l7⟩
  ·have hE:lj b=some (⟨ds,nd⟩,[]):=xp hD h6
   have hsm:=rt hE hl
   have hS:Mv (fun k=>k=g2) wy wy.drew:=Mv.of_ext ((aK.refl wy).drew)
   have e11:aK wy wy.drew:=(aK.refl wy).drew
   refine gO (Mv (fun k=>k=g2) wy) 13 MI (by kernel_rfl) ?_
   refine fU 0 MI MI (by kernel_rfl) MI hS (fun w' hw'=>(hw'.blk kz (fun e=>by omega)).ld Md MI (by kernel_rfl)) ?_
   refine aQ 1 (by kernel_rfl) MI (ae MI MI (aH hS ?_))
   refine aQ 2 (by kernel_rfl) MI (ae MI MI (aH hS ?_))
   refine aQ 3 (by kernel_rfl) MI (aj MI (ae MI MI (aH hS ?_)))
   refine aQ 4 (by kernel_rfl) MI (aj MI (am vQ MI MI (El (ep.ext hry e11)) ?_))
   rintro _ _ ⟨rfl,rfl⟩
   refine aH hS ?_
   refine aQ 5 (by kernel_rfl) MI (aj MI (al (r:=B true) MI MI MI (An) (aH hS ?_)))
   refine aQ 6 (by kernel_rfl) MI (ap MI MI MI (aH hS ?_))
   refine aQ 7 (by kernel_rfl) MI (ae MI MI (aH hS ?_))
   refine aQ 8 (by kernel_rfl) MI (aj MI (ak MI MI ((kz.ext e11).ld Md MI (by kernel_rfl)) (aH hS ?_)))
   refine aQ 9 (by kernel_rfl) MI (aj MI (am rl MI MI (ro (u:=⟨ds,nd⟩) (cA.ext dz e11) (cA.ext n1 e11) (n2.ext e11) (n3.ext e11) (cA.ext n4 e11) (cA.ext n5 e11) hsm) ?_))
   rintro _ w55 ⟨x55,rfl⟩
   have e11:aK wy w55:=e11.trans x55
   have hS:Mv (fun k=>k=g2) wy w55:=Mv.of_ext e11
   refine aH hS ?_
   refine EF 10 MI MI MI (by kernel_rfl) MI hS ?_
   have k2g:=k2y.ext e11
   have hon:au (v::[vl,I nd.split.kd,I nd.split.ix,B nd.split.at_.1,x,y,vk,B nd.empty,vp]):=au.cons hvo hoy
   obtain⟨wd,sd,qd,kd⟩:=k2g.stS (P:=Tryz.prog) (t:=54) (m:=[v,vl,I nd.split.kd,I nd.split.ix,B nd.split.at_.1,x,y,vk,B nd.empty,vp]) rfl (by kernel_rfl) hon
   have md:Mv (fun k=>k=g2) w55 wd:=Mv.of_grown qd fun k hk _=>(Option.some.inj hk).symm
   have hSd:Mv (fun k=>k=g2) wy wd:=(Mv.of_ext e11).trans md fun _ hj _=>hj
   have mF:Mv (fun k=>k=g2∨k=g∨k=g7) w2 wd:=((m27.weak fun j hj _=>.inr (.inl hj)).trans (my.weak fun j hj _=>.inr hj) fun _ hj _=>hj).trans (hSd.weak fun j hj _=>.inl hj) fun _ hj _=>hj
   have eF:aK w wd:=Mv.ext_from mF x2 (by rintro j (h|h|h)<;>omega)
   have oF:=oy.mv hSd (fun j hj=>by omega)
   have rF:cH (fun k=>k<w.heap.size) wd (jv ⟨ds,nd⟩) [v,vl,I nd.split.kd,I nd.split.ix,B nd.split.at_.1,x,y,vk,B nd.empty,vp]:=j9 (u:=⟨ds,nd⟩) ((oF.rpx ce (by omega)).weak fun j hj=>.inl (by show j<w7.heap.size;omega)) (rpy.mv (hSd.weak fun j hj _=>by show j<w7.heap.size;omega) fun j hj=>.inl (by show j<w7.heap.size;omega))
   refine aQ 11 (by kernel_rfl) MI (ar MI MI sd (aH hSd ?_))
   refine aQ 12 (by kernel_rfl) MI (ac MI MI (aH hSd (gQ (by kernel_rfl) ?_)))
   refine ab (aw ?_)
   refine cu MI MI MI kd Md MI (by kernel_rfl) ?_
   exact⟨_,rfl,eF,⟨ds,nd⟩,_,cK ⟨ds,nd⟩,rfl,rF,hon,(fun e=>Af hE e),fun e=>BY hE e⟩
  ·have hS:Mv (fun k=>k=g2) wy wy.drew:=Mv.of_ext ((aK.refl wy).drew)
   have e11:aK wy wy.drew:=(aK.refl wy).drew
   refine gO (Mv (fun k=>k=g2) wy) 13 MI (by kernel_rfl) ?_
   refine fU 0 MI MI (by kernel_rfl) MI hS (fun w' hw'=>(hw'.blk kz (fun e=>by omega)).ld Md MI (by kernel_rfl)) ?_
   refine aQ 1 (by kernel_rfl) MI (ae MI MI (aH hS ?_))
   refine aQ 2 (by kernel_rfl) MI (ae MI MI (aH hS ?_))
   refine aQ 3 (by kernel_rfl) MI (aj MI (ae MI MI (aH hS ?_)))
   refine aQ 4 (by kernel_rfl) MI (aj MI (am vQ MI MI (El (ep.ext hry e11)) ?_))
   rintro _ _ ⟨rfl,rfl⟩
   refine aH hS ?_
   refine aQ 5 (by kernel_rfl) MI (aj MI (al (r:=B false) MI MI MI (EG) (aH hS ?_)))
   refine aQ 6 (by kernel_rfl) MI (ap MI MI MI (aH hS ?_))
   refine aQ 7 (by kernel_rfl) MI (ae MI MI (aH hS ?_))
   refine aQ 8 (by kernel_rfl) MI (an MI MI MI (aH hS ?_))
   refine aQ 9 (by kernel_rfl) MI (an MI MI MI (aH hS ?_))
   refine pV 10 MI MI MI (by kernel_rfl) MI hS ?_
   have k2g:=k2y.ext e11
   have hon:au (v::[vl,I nd.split.kd,I nd.split.ix,B nd.split.at_.1,x,y,vk,B nd.empty,vp]):=au.cons hvo hoy
   obtain⟨wd,sd,qd,kd⟩:=k2g.stS (P:=Tryz.prog) (t:=54) (m:=[v,vl,I nd.split.kd,I nd.split.ix,B nd.split.at_.1,x,y,vk,B nd.empty,vp]) rfl (by kernel_rfl) hon
   have md:Mv (fun k=>k=g2) wy.drew wd:=Mv.of_grown qd fun k hk _=>(Option.some.inj hk).symm
   have hSd:Mv (fun k=>k=g2) wy wd:=(Mv.of_ext e11).trans md fun _ hj _=>hj
   have mF:Mv (fun k=>k=g2∨k=g∨k=g7) w2 wd:=((m27.weak fun j hj _=>.inr (.inl hj)).trans (my.weak fun j hj _=>.inr hj) fun _ hj _=>hj).trans (hSd.weak fun j hj _=>.inl hj) fun _ hj _=>hj
   have eF:aK w wd:=Mv.ext_from mF x2 (by rintro j (h|h|h)<;>omega)
   have oF:=oy.mv hSd (fun j hj=>by omega)
   have rF:cH (fun k=>k<w.heap.size) wd (jv ⟨ds,nd⟩) [v,vl,I nd.split.kd,I nd.split.ix,B nd.split.at_.1,x,y,vk,B nd.empty,vp]:=j9 (u:=⟨ds,nd⟩) ((oF.rpx ce (by omega)).weak fun j hj=>.inl (by show j<w7.heap.size;omega)) (rpy.mv (hSd.weak fun j hj _=>by show j<w7.heap.size;omega) fun j hj=>.inl (by show j<w7.heap.size;omega))
   refine aQ 11 (by kernel_rfl) MI (ar MI MI sd (aH hSd ?_))
   refine aQ 12 (by kernel_rfl) MI (ac MI MI (aH hSd (gQ (by kernel_rfl) ?_)))
   refine ab (aw ?_)
   refine cu MI MI MI kd Md MI (by kernel_rfl) ?_
   exact⟨_,rfl,eF,⟨ds,nd⟩,_,false,rfl,rF,hon,(fun e=>nomatch e),fun _=>Dy (xp hD h6)⟩
  ·have hS:Mv (fun k=>k=g2) wy wy.drew:=Mv.of_ext ((aK.refl wy).drew)
   have e11:aK wy wy.drew:=(aK.refl wy).drew
   refine gO (Mv (fun k=>k=g2) wy) 13 MI (by kernel_rfl) ?_
   refine fU 0 MI MI (by kernel_rfl) MI hS (fun w' hw'=>(hw'.blk kz (fun e=>by omega)).ld Md MI (by kernel_rfl)) ?_
   refine aQ 1 (by kernel_rfl) MI (ae MI MI (aH hS ?_))
   refine aQ 2 (by kernel_rfl) MI (ae MI MI (aH hS ?_))
   refine aQ 3 (by kernel_rfl) MI (an MI MI MI (aH hS ?_))
   refine aQ 4 (by kernel_rfl) MI (an MI MI MI (aH hS ?_))
   refine aQ 5 (by kernel_rfl) MI (an MI MI MI (aH hS ?_))
   refine aQ 6 (by kernel_rfl) MI (aD MI MI MI (aH hS ?_))
   refine aQ 7 (by kernel_rfl) MI (ae MI MI (aH hS ?_))
   refine aQ 8 (by kernel_rfl) MI (an MI MI MI (aH hS ?_))
   refine aQ 9 (by kernel_rfl) MI (an MI MI MI (aH hS ?_))
   refine pV 10 MI MI MI (by kernel_rfl) MI hS ?_
   have k2g:=k2y.ext e11
   have hon:au (v::[vl,I nd.split.kd,I nd.split.ix,B nd.split.at_.1,x,y,vk,B nd.empty,vp]):=au.cons hvo hoy
   obtain⟨wd,sd,qd,kd⟩:=k2g.stS (P:=Tryz.prog) (t:=54) (m:=[v,vl,I nd.split.kd,I nd.split.ix,B nd.split.at_.1,x,y,vk,B nd.empty,vp]) rfl (by kernel_rfl) hon
   have md:Mv (fun k=>k=g2) wy.drew wd:=Mv.of_grown qd fun k hk _=>(Option.some.inj hk).symm
   have hSd:Mv (fun k=>k=g2) wy wd:=(Mv.of_ext e11).trans md fun _ hj _=>hj
   have mF:Mv (fun k=>k=g2∨k=g∨k=g7) w2 wd:=((m27.weak fun j hj _=>.inr (.inl hj)).trans (my.weak fun j hj _=>.inr hj) fun _ hj _=>hj).trans (hSd.weak fun j hj _=>.inl hj) fun _ hj _=>hj
   have eF:aK w wd:=Mv.ext_from mF x2 (by rintro j (h|h|h)<;>omega)
   have oF:=oy.mv hSd (fun j hj=>by omega)
   have rF:cH (fun k=>k<w.heap.size) wd (jv ⟨ds,nd⟩) [v,vl,I nd.split.kd,I nd.split.ix,B nd.split.at_.1,x,y,vk,B nd.empty,vp]:=j9 (u:=⟨ds,nd⟩) ((oF.rpx ce (by omega)).weak fun j hj=>.inl (by show j<w7.heap.size;omega)) (rpy.mv (hSd.weak fun j hj _=>by show j<w7.heap.size;omega) fun j hj=>.inl (by show j<w7.heap.size;omega))
   refine aQ 11 (by kernel_rfl) MI (ar MI MI sd (aH hSd ?_))
   refine aQ 12 (by kernel_rfl) MI (ac MI MI (aH hSd (gQ (by kernel_rfl) ?_)))
   refine ab (aw ?_)
   refine cu MI MI MI kd Md MI (by kernel_rfl) ?_
   exact⟨_,rfl,eF,⟨ds,nd⟩,_,false,rfl,rF,hon,(fun e=>nomatch e),fun _=>Dx hD (hNd.2 rfl)⟩
end Go.Rl
namespace Go.Rl
open Go.RowKit Go.Proofs
inductive JT where
 |gap
 |leaf (n:aW)
 |split (d:bS) (a b:JT)
def xD (d:bS):bS:=if d.kd=2∨d.kd=3 then dF d else d
def sO (d:bS):JT→JT
 |.gap=>.split (xD d) .gap .gap
 |.leaf n=>.leaf n
 |.split s a b=>.split s a b
def iw (n:aW):List bS→JT→Option JT
 |[],.gap=>some (.leaf n)
 |[],.leaf m=>some (.leaf m)
 |[],.split _ _ _=>none
 |d::p,t=>
  match sO d t with
  |.split s a b=>if s=d then(iw n p a).map fun a'=>.split s a' b else if dF s=d then(iw n p b).map fun b'=>.split s a b' else none
  |.leaf _=>none
  |.gap=>none
def It (e:cc) (t:JT):Option JT:=iw e.leaf e.path t
def jk:List cc→JT→Option JT
 |[],t=>some t
 |e::es,t=>(It e t).bind (jk es)
def JT.node:JT→aW
 |.gap=>Ir
 |.leaf n=>n
 |.split s a b=>.mk [] s [a.node,b.node] false []
def JT.miss:JT→List bS→List (List bS)
 |.gap,p=>[p]
 |.leaf _,_=>[]
 |.split s a b,p=>a.miss (p++[s])++b.miss (p++[dF s])
def JT.depth:JT→Nat
 |.gap=>0
 |.leaf _=>0
 |.split _ a b=>1+max a.depth b.depth
theorem ru (n:aW):∀(p:List bS) {t t':JT},iw n p t=some t'→t'.depth≤max t.depth p.length
 |[],.gap,t',h=>by simp only[iw,Option.some.injEq] at h;subst h;simp[JT.depth]
 |[],.leaf m,t',h=>by simp only[iw,Option.some.injEq] at h;subst h;simp[JT.depth]
 |[],.split _ _ _,t',h=>by simp[iw] at h
 |d::p,t,t',h=>by
  have key:∀s a b,sO d t=.split s a b→t'.depth≤max (sO d t).depth (p.length+1):=fun s a b ho=>by
   simp only[iw,ho] at h
   rw[ho]
   split at h
   ·obtain⟨a',h1,rfl⟩:=Option.map_eq_some_iff.1 h
    have:=ru n p h1
    simp only[JT.depth];omega
   ·split at h
    ·obtain⟨b',h1,rfl⟩:=Option.map_eq_some_iff.1 h
     have:=ru n p h1
     simp only[JT.depth];omega
    ·cases h
  cases t with
  |gap=>
   have:=key _ _ _ rfl
   simp only[sO,JT.depth] at this
   simp only[JT.depth,List.length_cons];omega
  |leaf m=>simp[iw,sO] at h
  |split s a b=>
   have:=key _ _ _ rfl
   simp only[sO] at this
   simpa using this
def jl (d:bS) (x y k1 k2 lf:Value):List Value:=[I d.kd,I d.ix,B d.at_.1,x,y,k1,k2,lf]
def iN:Value:=.pointer none
def tX (g:Nat):Value:=.pointer (some ⟨g,0,none⟩)
def sS (w0 w:World):Nat→JT→List Nat→Prop
 |g,.gap,ids=>ids=[g]∧ci g 114 (jl li (.slice none 0 0) (.slice none 0 0) iN iN iN) w
 |g,.leaf n,ids=>∃h cs,ids=[g,h]∧ci g 114 (jl li (.slice none 0 0) (.slice none 0 0) iN iN (tX h)) w∧ci h 52 cs w∧Rp w0 (bG n) cs
 |g,.split d a b,ids=>∃x y g1 g2 i1 i2,ids=g::(i1++i2)∧bm d.at_.2.1 x w0∧bm d.at_.2.2 y w0∧ci g 114 (jl d x y (tX g1) (tX g2) iN) w∧sS w0 w g1 a i1∧sS w0 w g2 b i2
theorem sS.mv {w0 w w':World} {X:Nat→Prop} (hm:Mv X w w'):∀{t:JT} {g:Nat} {ids:List Nat},sS w0 w g t ids→(∀k∈ids,¬X k)→sS w0 w' g t ids
 |.gap,g,ids,h,hX=>by
  simp only[sS] at h⊢
  obtain⟨rfl,h1⟩:=h
  exact⟨rfl,hm.blk h1 (hX g (by simp))⟩
 |.leaf n,g,ids,h,hX=>by
  simp only[sS] at h⊢
  obtain⟨k,cs,rfl,h1,h2,h3⟩:=h
  exact⟨k,cs,rfl,hm.blk h1 (hX g (by simp)),hm.blk h2 (hX k (by simp)),h3⟩
 |.split d a b,g,ids,h,hX=>by
  simp only[sS] at h⊢
  obtain⟨x,y,g1,g2,i1,i2,rfl,hx,hy,h1,h2,h3⟩:=h
  exact⟨x,y,g1,g2,i1,i2,rfl,hx,hy,hm.blk h1 (hX g (by simp)),h2.mv hm fun k hk=>hX k (by simp[hk]),h3.mv hm fun k hk=>hX k (by simp[hk])⟩
theorem sS.lt {w0 w:World}:∀{t:JT} {g:Nat} {ids:List Nat},sS w0 w g t ids→∀k∈ids,k<w.heap.size
 |.gap,g,ids,h,k,hk=>by
  simp only[sS] at h
  obtain⟨rfl,h1⟩:=h
  simp only[List.mem_singleton] at hk
  subst hk
  exact h1.lt
 |.leaf n,g,ids,h,k,hk=>by
  simp only[sS] at h
  obtain⟨j,cs,rfl,h1,h2,_⟩:=h
  simp only[List.mem_cons,List.not_mem_nil,or_false] at hk
  rcases hk with rfl|rfl
  ·exact h1.lt
  ·exact h2.lt
 |.split d a b,g,ids,h,k,hk=>by
  simp only[sS] at h
  obtain⟨x,y,g1,g2,i1,i2,rfl,hx,hy,h1,h2,h3⟩:=h
  simp only[List.mem_cons,List.mem_append] at hk
  rcases hk with rfl|hk|hk
  ·exact h1.lt
  ·exact h2.lt k hk
  ·exact h3.lt k hk
structure jL (w0 w:World) (g:Nat) (t:JT) (ids:List Nat):Prop where
 at_:sS w0 w g t ids
 nodup:ids.Nodup
 young:∀k∈ids,w0.heap.size≤k
theorem jL.mv {w0 w w':World} {X:Nat→Prop} {g:Nat} {t:JT} {ids:List Nat} (h:jL w0 w g t ids) (hm:Mv X w w') (hX:∀k∈ids,¬X k):jL w0 w' g t ids:=⟨h.at_.mv hm hX,h.nodup,h.young⟩
theorem jL.lt {w0 w:World} {g:Nat} {t:JT} {ids:List Nat} (h:jL w0 w g t ids):∀k∈ids,k<w.heap.size:=h.at_.lt
theorem jL.gap {w0 w:World} {g:Nat} (k:ci g 114 (jl li (.slice none 0 0) (.slice none 0 0) iN iN iN) w) (hg:w0.heap.size≤g):jL w0 w g .gap [g]:=
 ⟨⟨rfl,k⟩,by simp,fun j hj=>by simp only[List.mem_singleton] at hj;omega⟩
theorem jL.leaf {w0 w:World} {g h:Nat} {n:aW} {cs:List Value} (k:ci g 114 (jl li (.slice none 0 0) (.slice none 0 0) iN iN (tX h)) w) (k2:ci h 52 cs w) (hr:Rp w0 (bG n) cs) (hg:w0.heap.size≤g) (hh:w0.heap.size≤h) (hne:g≠h):jL w0 w g (.leaf n) [g,h]:=
 ⟨⟨h,cs,rfl,k,k2,hr⟩,by simp[hne],fun j hj=>by simp only[List.mem_cons,List.not_mem_nil,or_false] at hj;omega⟩
theorem jL.split_inv {w0 w:World} {g:Nat} {d:bS} {a b:JT} {ids:List Nat} (h:jL w0 w g (.split d a b) ids):∃x y g1 g2 i1 i2,ids=g::(i1++i2)∧bm d.at_.2.1 x w0∧bm d.at_.2.2 y w0∧ci g 114 (jl d x y (tX g1) (tX g2) iN) w∧jL w0 w g1 a i1∧jL w0 w g2 b i2∧w0.heap.size≤g∧g∉i1∧g∉i2∧(∀k∈i1,k∉i2):=by
 obtain⟨⟨x,y,g1,g2,i1,i2,rfl,hx,hy,h1,h2,h3⟩,hn,hy2⟩:=h
 rw[List.nodup_cons,List.nodup_append] at hn
 obtain⟨n1,n2,n3,n4⟩:=hn
 refine⟨x,y,g1,g2,i1,i2,rfl,hx,hy,h1,⟨h2,n2,fun k hk=>hy2 k (by simp[hk])⟩,⟨h3,n3,fun k hk=>hy2 k (by simp[hk])⟩,hy2 g (by simp),fun hg=>n1 (by simp[hg]),fun hg=>n1 (by simp[hg]),fun k hk hk'=>n4 k hk k hk' rfl⟩
theorem jL.split {w0 w:World} {g g1 g2:Nat} {d:bS} {a b:JT} {i1 i2:List Nat} {x y:Value} (hx:bm d.at_.2.1 x w0) (hy:bm d.at_.2.2 y w0) (k:ci g 114 (jl d x y (tX g1) (tX g2) iN) w) (h1:jL w0 w g1 a i1) (h2:jL w0 w g2 b i2) (hg:w0.heap.size≤g) (n1:g∉i1) (n2:g∉i2) (n3:∀k∈i1,k∉i2):jL w0 w g (.split d a b) (g::(i1++i2)):=by
 refine⟨⟨x,y,g1,g2,i1,i2,rfl,hx,hy,k,h1.at_,h2.at_⟩,?_,fun j hj=>?_⟩
 ·rw[List.nodup_cons,List.nodup_append]
  exact⟨by simp[n1,n2],h1.nodup,h2.nodup,fun k hk j hj e=>n3 k hk (e▸hj)⟩
 ·simp only[List.mem_cons,List.mem_append] at hj
  rcases hj with rfl|hj|hj
  ·exact hg
  ·exact h1.young j hj
  ·exact h2.young j hj
end Go.Rl
namespace Go.Rl
open Go.RowKit Go.Proofs
theorem Gf:aG Tryz.prog 14:=⟨_,Tryz.func14,by kernel_rfl,rfl⟩
theorem xq:(Tryz.prog.info? 54).map (fun i=>(i.zero,i.size,i.bytes))=some (some (.agg #[.slice none 0 0,.slice none 0 0,I 0,I 0,B false,.slice none 0 0,.slice none 0 0,.slice none 0 0,B false,.slice none 0 0]),10,176):=by kernel_rfl
theorem ff {P:Program} {fn:Func} {R:Ending→World→Prop} {N:Nat} {fr:Fr} {p s1 s2 s3:Tmp} {t T:TypeId} {u1 u2 u3:Value} {l:List Value} {w:World} {g:Nat} {d:TypeDesc} (hr:fn.results= #[.cell p t,.tmp s1,.tmp s2,.tmp s3]) (hv:lk fr p=some (.pointer (some ⟨g,0,none⟩))) (h1:lk fr s1=some u1) (h2:lk fr s2=some u2) (h3:lk fr s3=some u3) (hb:ci g T l w) (hu:P.underlying t=some d) (hd:d.isRow=true) (hi:(P.info? t).map (·.size)=some l.length)
 (h:R (.returned (.tuple #[.agg l.toArray,u1,u2,u3])) w):gU (bodyPost P fn R) N [] fr w .ret:=fun a ha=>by
 refine⟨ha.defers,.tuple #[.agg l.toArray,u1,u2,u3],?_,h⟩
 have hp:=ha.at_ p _ hv
 have hp':a.tmps[p]?.getD undef=.pointer (some ⟨g,0,none⟩):=by simpa using hp
 have q1:=ha.at_ s1 _ h1
 have q2:=ha.at_ s2 _ h2
 have q3:=ha.at_ s3 _ h3
 have hl:=run_loadVar_row w g T t l.toArray (0,0) d hb hu (by cases d<;>first|rfl|exact hd) (by simpa using hi)
 simp[results,hr,hp',asAddr,hl,←q1,←q2,←q3]
def jF (base:Nat) (b:List UInt8) (r:Value) (w':World):Prop:=∃ve,r=.tuple #[.agg ((ll b).1.1.map U8).toArray,ve,I (((ll b).1.2.2:Nat):Int),I (ll b).2]∧cH (fun k=>k<base) w' (.sl ((ll b).1.2.1.map jv)) [ve]
theorem jF.err {base:Nat} {b:List UInt8} {w':World} (h:b.length<44∨b.take 4≠kY∨eS b 36=false):jF base b (.tuple #[.agg (pJ.map U8).toArray,.slice none 0 0,I 0,I 5]) w':=by
 have e:ll b=((pJ,[],0),5):=by unfold ll;rw[if_pos h]
 unfold jF
 rw[e]
 exact⟨_,rfl,jK⟩
theorem jF.ok {base k:Nat} {b:List UInt8} {es:List cc} {ve:Value} {w':World} (h:¬(b.length<44∨b.take 4≠kY∨eS b 36=false)) (hj:fH b 44=(es,k)) (hr:cH (fun k=>k<base) w' (.sl (es.map jv)) [ve]):jF base b (.tuple #[.agg (((b.take 36).drop 4).map U8).toArray,ve,I (k:Int),I 0]) w':=by
 have e:ll b=(((b.take 36).drop 4,es,k),0):=by unfold ll;rw[if_neg h,hj]
 unfold jF
 rw[e]
 exact⟨_,rfl,hr⟩
theorem xr {b:List UInt8} {k:Nat} (h:p9 (b.drop k)=none):gZ b k=none:=by unfold gZ;rw[h];rfl
theorem ph {b p t:List UInt8} {k:Nat} (h:p9 (b.drop k)=some (p,t)) (hc:eS b (b.length-t.length)=false):gZ b k=none:=by
 unfold gZ;rw[h];show(if eS b (b.length-t.length)=true then _ else _)=_;rw[hc];rfl
theorem B0 {b p t:List UInt8} {k:Nat} (h:p9 (b.drop k)=some (p,t)) (hc:eS b (b.length-t.length)=true) (he:jj p=none):gZ b k=none:=by
 unfold gZ;rw[h];show(if eS b (b.length-t.length)=true then _ else _)=_;rw[if_pos hc,he];rfl
theorem EH {b p t:List UInt8} {k:Nat} {u:cc} (h:p9 (b.drop k)=some (p,t)) (hc:eS b (b.length-t.length)=true) (he:jj p=some u):gZ b k=some (u,b.length-t.length+8):=by
 unfold gZ;rw[h];show(if eS b (b.length-t.length)=true then _ else _)=_;rw[if_pos hc,he];rfl
theorem Dz {b:List UInt8} {k:Nat} {es:List cc} (hJ:fH b 44=(es++(fH b k).1,(fH b k).2)) (h:gZ b k=none):fH b 44=(es,k):=by
 rw[hJ,xl h,List.append_nil]
theorem eh:(Tryz.prog.info? 24).map (·.size)=some (pJ.map U8).length:=by rw[List.length_map,uR];exact ir
theorem Ao {w:World} {g:Nat} {st:Option (List UInt8)} (hr:cn g st w):Calls Tryz.prog 49 #[.pointer (some ⟨g,0,none⟩)] w (bE fun r w'=>w=w'∧r=I ((st.getD []).length:Nat)):=(CN hr).mono fun _ _ ⟨v,h,h1,h2⟩=>⟨v,h,h2.symm,h1⟩
theorem Gg {w:World} {b:List UInt8} {v:Value} (hv:cz b v w) (hl:b.length≤4294967296):
 Calls Tryz.prog 14 #[v] w (bE fun r w'=>aK w w'∧jF w.heap.size b r w'):=by
 refine enter (vs:=[v]) Tryz.func14 MI MI MI ?_
 refine af (aa ?_)
 obtain⟨g2,w2,hr2,l2,x2,k2⟩:=aY (P:=Tryz.prog) (w:=w) (t:=24) (l:=pJ.map U8) iq rfl
 refine aV MI hr2 ?_
 refine ac MI MI (ac MI MI (ac MI MI (ag (ab (af (aa ?_))))))
 obtain⟨g6,w6,hr6,l6,x6,k6⟩:=aY (P:=Tryz.prog) (w:=w2) (t:=24) (l:=pJ.map U8) iq rfl
 refine aV MI hr6 ?_
 have g26:g2<g6:=by have:=k2.lt;omega
 refine ag (ab (af (af ?_)))
 rcases hC:eS b 36
 ·refine aa (ae MI MI (aP MI MI (cN (hv.ext (x2.trans x6))) (al MI MI MI (a9) (ae MI MI ?_))))
  refine cd (fun h19=>?_) (fun h19=>?_)
  ·refine an MI MI MI (an MI MI MI (an MI MI MI (an MI MI MI (ap MI MI MI (ae MI MI (an MI MI MI (an MI MI MI (an MI MI MI (ap MI MI MI ?_)))))))))
   refine ag (ab (bh MI (af (aa ?_))))
   refine ak MI MI ((k6.ext (aK.refl _)).ld Mo MI eh) ?_
   obtain⟨wR,sR,qR,kR⟩:=(k2.ext (x6)).stS (P:=Tryz.prog) (t:=24) (m:=pJ.map U8) rfl eh (ew _)
   refine ar MI MI sR ?_
   have xR:=aK.of_new ((x2.trans x6)) qR l2
   refine ac MI MI (ac MI MI (ac MI MI (ag (ab (aw (ay ?_))))))
   refine ff MI MI MI MI MI kR Mo MI eh ?_
   exact⟨_,rfl,xR,jF.err (by
    first
    |exact .inl (by omega)
    |exact .inr (.inl (by assumption))
    |exact .inr (.inr hC))⟩
  ·refine aj MI (ae MI MI (aj MI ?_))
   obtain⟨v21,p21,b21⟩:=iU (hv.ext (x2.trans x6)) (hi:=4) (by omega) .i64
   refine cE MI MI MI MI MI (p21 _) (aj MI (aZ MI MI (AF b21) (aj MI (al (v:=S [82,76,85,74]) MI MI MI (zp) (aD MI MI MI ?_)))))
   refine ae MI MI ?_
   refine cd (fun h25=>?_) (fun h25=>?_)
   ·refine an MI MI MI (an MI MI MI (an MI MI MI (ap MI MI MI (ag (ab (bh MI (af (aa ?_))))))))
    refine ak MI MI ((k6.ext (aK.refl _)).ld Mo MI eh) ?_
    obtain⟨wR,sR,qR,kR⟩:=(k2.ext (x6)).stS (P:=Tryz.prog) (t:=24) (m:=pJ.map U8) rfl eh (ew _)
    refine ar MI MI sR ?_
    have xR:=aK.of_new ((x2.trans x6)) qR l2
    refine ac MI MI (ac MI MI (ac MI MI (ag (ab (aw (ay ?_))))))
    refine ff MI MI MI MI MI kR Mo MI eh ?_
    exact⟨_,rfl,xR,jF.err (by
     first
     |exact .inl (by omega)
     |exact .inr (.inl (by assumption))
     |exact .inr (.inr hC))⟩
   ·refine aj MI (ae MI MI (aj MI (am pS MI MI ((by have h:=pT (k:=36) (hv.ext (x2.trans x6)) (by omega);rw[hC] at h;exact h)) ?_)))
    rintro v27 w27 ⟨x27,rfl⟩
    refine aj MI (bt MI MI bu (aD MI MI MI (ag (ab (bh MI (af (aa ?_)))))))
    refine ak MI MI ((k6.ext (x27)).ld Mo MI eh) ?_
    obtain⟨wR,sR,qR,kR⟩:=(k2.ext ((x6.trans x27))).stS (P:=Tryz.prog) (t:=24) (m:=pJ.map U8) rfl eh (ew _)
    refine ar MI MI sR ?_
    have xR:=aK.of_new (((x2.trans x6).trans x27)) qR l2
    refine ac MI MI (ac MI MI (ac MI MI (ag (ab (aw (ay ?_))))))
    refine ff MI MI MI MI MI kR Mo MI eh ?_
    exact⟨_,rfl,xR,jF.err (by
     first
     |exact .inl (by omega)
     |exact .inr (.inl (by assumption))
     |exact .inr (.inr hC))⟩
 ·refine aa (ae MI MI (aP MI MI (cN (hv.ext (x2.trans x6))) (al MI MI MI (a9) (ae MI MI ?_))))
  refine cd (fun h19=>?_) (fun h19=>?_)
  ·refine an MI MI MI (an MI MI MI (an MI MI MI (an MI MI MI (ap MI MI MI (ae MI MI (an MI MI MI (an MI MI MI (an MI MI MI (ap MI MI MI ?_)))))))))
   refine ag (ab (bh MI (af (aa ?_))))
   refine ak MI MI ((k6.ext (aK.refl _)).ld Mo MI eh) ?_
   obtain⟨wR,sR,qR,kR⟩:=(k2.ext (x6)).stS (P:=Tryz.prog) (t:=24) (m:=pJ.map U8) rfl eh (ew _)
   refine ar MI MI sR ?_
   have xR:=aK.of_new ((x2.trans x6)) qR l2
   refine ac MI MI (ac MI MI (ac MI MI (ag (ab (aw (ay ?_))))))
   refine ff MI MI MI MI MI kR Mo MI eh ?_
   exact⟨_,rfl,xR,jF.err (by
    first
    |exact .inl (by omega)
    |exact .inr (.inl (by assumption))
    |exact .inr (.inr hC))⟩
  ·refine aj MI (ae MI MI (aj MI ?_))
   obtain⟨v21,p21,b21⟩:=iU (hv.ext (x2.trans x6)) (hi:=4) (by omega) .i64
   refine cE MI MI MI MI MI (p21 _) (aj MI (aZ MI MI (AF b21) (aj MI (al (v:=S [82,76,85,74]) MI MI MI (zp) (aD MI MI MI ?_)))))
   refine ae MI MI ?_
   refine cd (fun h25=>?_) (fun h25=>?_)
   ·refine an MI MI MI (an MI MI MI (an MI MI MI (ap MI MI MI (ag (ab (bh MI (af (aa ?_))))))))
    refine ak MI MI ((k6.ext (aK.refl _)).ld Mo MI eh) ?_
    obtain⟨wR,sR,qR,kR⟩:=(k2.ext (x6)).stS (P:=Tryz.prog) (t:=24) (m:=pJ.map U8) rfl eh (ew _)
    refine ar MI MI sR ?_
    have xR:=aK.of_new ((x2.trans x6)) qR l2
    refine ac MI MI (ac MI MI (ac MI MI (ag (ab (aw (ay ?_))))))
    refine ff MI MI MI MI MI kR Mo MI eh ?_
    exact⟨_,rfl,xR,jF.err (by
     first
     |exact .inl (by omega)
     |exact .inr (.inl (by assumption))
     |exact .inr (.inr hC))⟩
   ·refine aj MI (ae MI MI (aj MI (am pS MI MI ((by have h:=pT (k:=36) (hv.ext (x2.trans x6)) (by omega);rw[hC] at h;exact h)) ?_)))
    rintro v27 w27 ⟨x27,rfl⟩
    refine aj MI (bt MI MI bu (aD MI MI MI (ag (ab (cq MI (aA (ab (af (af ?_)))))))))
    have hOK:¬(b.length<44∨b.take 4≠kY∨eS b 36=false):=by
     rintro(h|h|h)
     ·omega
     ·exact h25 h
     ·rw[hC] at h;cases h
    have l73:((b.take 36).drop 4).length=32:=by rw[List.length_drop,List.length_take];omega
    have e27:=((x2.trans x6).trans x27)
    have e227:=(x6.trans x27)
    have k6L:=k6.ext (x27)
    have k2L:=k2.ext ((x6.trans x27))
    refine aa (ac MI MI (ag (ab (aF ?_))))
    refine cg (α:=Nat) (fun j=>[(0,v),(2,.pointer (some ⟨g2,0,none⟩)),(6,.pointer (some ⟨g6,0,none⟩)),(7,I (j:Int))]) (fun j w'=>Mv (fun k=>k=g6) w27 w'∧ci g6 24 ((((b.take 36).drop 4).take j++pJ.drop j).map U8) w'∧j≤32) (fun j=>32-j) (0) ⟨rfl,rfl,rfl,rfl,trivial⟩ ⟨Mv.refl _ _,k6L,by omega⟩ ?_
    rintro j wM ⟨mM,kM,hj⟩
    refine af (af (aa (ae MI MI (al MI MI MI (a9) (ag (ab ?_))))))
    refine bw MI (fun h32=>?_) (fun h32=>?_)
    ·have eM:aK w wM:=Mv.ext_from mM e27 fun k hk=>by have:k=g6:=hk;omega
     refine aA (ab (af (aF (aa (ae MI MI (ae MI MI (ae MI MI (al (r:=I ((4+j:Nat):Int)) MI MI MI (by have e:((4+j:Nat):Int)=4+(j:Int):=(by omega);rw[e];exact aN (by omega) (by omega)) ?_))))))))
     obtain⟨a39,p39,q39⟩:=gN (hv.ext eM) (i:=4+j) (by omega) .i64
     refine av MI MI MI (p39 _) (ak MI MI (ai Mh MI q39) ?_)
     refine av MI MI MI (iF Mo fC (i:=j) (by omega) .i64) ?_
     obtain⟨wN,sN,qN,kN⟩:=kM.stC (P:=Tryz.prog) (t:=5) (i:=0+j) (v:=U8 (b[4+j]'(by omega))) fC rfl (by rw[List.length_map,Jn l73 uR (by omega)];omega)
     refine ar MI MI sN ?_
     have mN:=mM.trans (Mv.of_grown qN fun k hk _=>(Option.some.inj hk).symm) fun _ hk _=>hk
     rw[Nat.zero_add,←List.map_set,H5 l73 uR (by omega) (by simp[List.getElem_drop,List.getElem_take])] at kN
     refine ag (aS (ab (aa (ae MI MI (al (r:=I ((j+1:Nat):Int)) MI MI MI (by have e:((j+1:Nat):Int)=(j:Int)+1:=(by omega);rw[e];exact aN (by omega) (by omega)) ?_)))))
     refine ac MI MI (ag ?_)
     refine bR (j+1) ⟨rfl,rfl,rfl,rfl,trivial⟩ ⟨mN,kN,by omega⟩ (by omega)
    ·refine bc (aJ (aJ (bf (ab (af ?_)))))
     have hj32:j=32:=by omega
     subst hj32
     have e32:((b.take 36).drop 4).take 32++pJ.drop 32=(b.take 36).drop 4:=by rw[List.take_of_length_le (Nat.le_of_eq l73),show pJ.drop 32=[] from rfl,List.append_nil]
     rw[e32] at kM
     have eM:aK w wM:=Mv.ext_from mM e27 fun k hk=>by have:k=g6:=hk;omega
     have k2M:=mM.blk k2L (fun h=>by have:g2=g6:=h;omega)
     have s32:(Tryz.prog.info? 24).map (·.size)=some ((((b.take 36).drop 4)).map U8).length:=by rw[List.length_map,l73];exact ir
     have g2M:=k2M.lt
     have g6M:=kM.lt
     refine aa (ac MI MI (ag (ab (af (aa (ac MI MI (ag (ab (aF ?_)))))))))
     refine jZ (fun(k:Nat) (ve:Value) (es:List cc)=>[(0,v),(2,.pointer (some ⟨g2,0,none⟩)),(6,.pointer (some ⟨g6,0,none⟩)),(8,ve),(9,I (k:Int))]) (fun(k:Nat) (ve:Value) (es:List cc) w'=>aK wM w'∧f9 54 10 wM.heap.size jv es ve w'∧44≤k∧k≤b.length∧fH b 44=(es++(fH b k).1,(fH b k).2)∧es.length≤k) (fun(k:Nat) (ve:Value) (es:List cc)=>b.length-k) (44) (.slice none 0 0) ([]) ⟨rfl,rfl,rfl,rfl,rfl,trivial⟩ ⟨aK.refl _,f9.nil _,by omega,by omega,by simp,by simp⟩ ?_
     rintro k ve es wL ⟨eL,oL,hk1,hk2,hJ,hel⟩
     refine aF (af ?_)
     have sL:=eL.size
     have hwL:aK w wL:=eM.trans eL
     have sW:=hwL.size
     rcases hB:p9 (b.drop k) with _|⟨p,t⟩
     rotate_left
     have hbl:p.length+t.length≤b.length:=by
      have:=HU hB
      rw[List.length_drop] at this
      omega
     rcases hC2:eS b (b.length-t.length)
     ·refine aa (ae MI MI (ae MI MI ?_))
      obtain⟨v44,p44,b44⟩:=gq (hv.ext (eM.trans eL)) (lo:=k) (by omega) .i64
      refine cE MI MI MI MI MI (p44 _) (am pA MI MI ((pB b44 (by rw[List.length_drop];omega))) ?_)
      rintro v45 w45 ⟨x45,g,lg,rfl,hr45⟩
      refine ac rfl rfl (ag (ab (af (aa (ae rfl rfl (am oD rfl rfl ((uj hr45 (fun l e=>by cases e;rw[List.length_drop];omega) hB)) ?_))))))
      rintro v48 w48 ⟨g48,vp,rfl,bp,hr48⟩
      have x48:=aK.of_new x45 g48 lg
      refine ae MI MI (ao MI MI (bj) (ao MI MI (bk) (ac MI MI (ac MI MI (ag (ab (af (aa (ae MI MI (aP MI MI (cN (hv.ext ((eM.trans eL).trans x48))) ?_))))))))))
      refine ae MI MI (am qL MI MI ((Ao hr48)) ?_)
      rintro v54 _ ⟨rfl,rfl⟩
      refine al (r:=I ((b.length-t.length:Nat):Int)) MI MI MI ((by have e:((b.length-t.length:Nat):Int)=(b.length:Int)-(t.length:Int):=(by omega);rw[e];exact bC (a:=(b.length:Int)) (b:=(t.length:Int)) (by omega) (by omega))) ?_
      refine ac MI MI (ag (ab (af (af (aa (ae MI MI (al MI MI MI (dm (by decide) cT) (ae MI MI (aj MI (ae MI MI (aj MI (ae MI MI ?_))))))))))))
      refine aj MI (am pS MI MI ((by have h:=pT (k:=b.length-t.length) (hv.ext ((eM.trans eL).trans x48)) (by omega);rw[hC2] at h;exact h)) ?_)
      rintro v61 w61 ⟨x61,rfl⟩
      refine aj MI (bt MI MI bu (aD MI MI MI (ag (ab (bh MI (af ?_))))))
      have hfin:=Dz hJ (by first|exact xr hB|exact ph hB hC2)
      refine aa ?_
      refine ak MI MI ((kM.ext (((eL.trans x48).trans x61))).ld Mo MI s32) ?_
      refine ae MI MI (ae MI MI ?_)
      obtain⟨wR,sR,qR,kR⟩:=(k2M.ext (((eL.trans x48).trans x61))).stS (P:=Tryz.prog) (t:=24) (m:=((b.take 36).drop 4).map U8) (by rw[List.length_map,List.length_map,l73];rfl) s32 (ew _)
      refine ar MI MI sR ?_
      have xR:=aK.of_new ((((eM.trans eL).trans x48).trans x61)) qR l2
      have oR:=(oL.mv (Mv.of_ext (X:=fun k=>k=g2) (x48.trans x61)) fun j hj=>by have:j=g2:=hj;omega).mv (Mv.of_grown (X:=fun k=>k=g2) qR fun k hk _=>(Option.some.inj hk).symm) fun j hj=>by have:j=g2:=hj;omega
      refine ac MI MI (ac MI MI (ac MI MI (ag (ab (aw (ay (aX (ay (aX ?_)))))))))
      refine ff MI MI MI MI MI kR Mo MI s32 ?_
      exact⟨_,rfl,xR,jF.ok hOK hfin ((oR.rpx cQ (by omega)).weak fun j hj=>.inl (by show j<wM.heap.size;have:=eM.size;omega))⟩
     ·refine aa (ae MI MI (ae MI MI ?_))
      obtain⟨v44,p44,b44⟩:=gq (hv.ext (eM.trans eL)) (lo:=k) (by omega) .i64
      refine cE MI MI MI MI MI (p44 _) (am pA MI MI ((pB b44 (by rw[List.length_drop];omega))) ?_)
      rintro v45 w45 ⟨x45,g,lg,rfl,hr45⟩
      refine ac rfl rfl (ag (ab (af (aa (ae rfl rfl (am oD rfl rfl ((uj hr45 (fun l e=>by cases e;rw[List.length_drop];omega) hB)) ?_))))))
      rintro v48 w48 ⟨g48,vp,rfl,bp,hr48⟩
      have x48:=aK.of_new x45 g48 lg
      refine ae MI MI (ao MI MI (bj) (ao MI MI (bk) (ac MI MI (ac MI MI (ag (ab (af (aa (ae MI MI (aP MI MI (cN (hv.ext ((eM.trans eL).trans x48))) ?_))))))))))
      refine ae MI MI (am qL MI MI ((Ao hr48)) ?_)
      rintro v54 _ ⟨rfl,rfl⟩
      refine al (r:=I ((b.length-t.length:Nat):Int)) MI MI MI ((by have e:((b.length-t.length:Nat):Int)=(b.length:Int)-(t.length:Int):=(by omega);rw[e];exact bC (a:=(b.length:Int)) (b:=(t.length:Int)) (by omega) (by omega))) ?_
      refine ac MI MI (ag (ab (af (af (aa (ae MI MI (al MI MI MI (dm (by decide) cT) (ae MI MI (aj MI (ae MI MI (aj MI (ae MI MI ?_))))))))))))
      refine aj MI (am pS MI MI ((by have h:=pT (k:=b.length-t.length) (hv.ext ((eM.trans eL).trans x48)) (by omega);rw[hC2] at h;exact h)) ?_)
      rintro v61 w61 ⟨x61,rfl⟩
      refine aj MI (bt MI MI bu (aD MI MI MI (ag (ab (cq MI (aA (ab (af (aa (ae MI MI (am BW MI MI ((BZ (bp.ext x61) (by omega))) ?_)))))))))))
      rintro v69 w69 ⟨x69,u,cs,ok,rfl,rp69,h1cs,hok1,hok2⟩
      refine ae MI MI (ao MI MI (bj) (ao MI MI (bk) ?_))
      obtain⟨g14,w14,hr14,l14,x14,k14⟩:=aY (P:=Tryz.prog) (w:=w69) (t:=54) (z:=.agg #[.slice none 0 0,.slice none 0 0,I 0,I 0,B false,.slice none 0 0,.slice none 0 0,.slice none 0 0,B false,.slice none 0 0]) (l:=[.slice none 0 0,.slice none 0 0,I 0,I 0,B false,.slice none 0 0,.slice none 0 0,.slice none 0 0,B false,.slice none 0 0]) (by kernel_rfl) rfl
      refine aV MI hr14 ?_
      have hcs:cs.length=10:=rp69.len.trans (cQ u)
      obtain⟨wE,sE,qE,kE⟩:=k14.stS (P:=Tryz.prog) (t:=54) (m:=cs) (by rw[hcs];rfl) (by rw[hcs];kernel_rfl) h1cs
      refine ar MI MI sE ?_
      have xE:=aK.of_new x14 qE l14
      refine ac MI MI (ag (ab (af (af (aa (ae MI MI (bt MI MI bu (ag (ab ?_)))))))))
      refine fP MI (fun h73=>?_) (fun h73=>?_)
      ·have hno:ok=false:=by simpa using h73
       have hfin:=Dz hJ (B0 hB hC2 (hok2 hno))
       refine af (aa ?_)
       refine ak MI MI ((kM.ext (((((eL.trans x48).trans x61).trans x69).trans xE))).ld Mo MI s32) ?_
       refine ae MI MI (ae MI MI ?_)
       obtain⟨wR,sR,qR,kR⟩:=(k2M.ext (((((eL.trans x48).trans x61).trans x69).trans xE))).stS (P:=Tryz.prog) (t:=24) (m:=((b.take 36).drop 4).map U8) (by rw[List.length_map,List.length_map,l73];rfl) s32 (ew _)
       refine ar MI MI sR ?_
       have xR:=aK.of_new ((((((eM.trans eL).trans x48).trans x61).trans x69).trans xE)) qR l2
       have oR:=(oL.mv (Mv.of_ext (X:=fun k=>k=g2) (((x48.trans x61).trans x69).trans xE)) fun j hj=>by have:j=g2:=hj;omega).mv (Mv.of_grown (X:=fun k=>k=g2) qR fun k hk _=>(Option.some.inj hk).symm) fun j hj=>by have:j=g2:=hj;omega
       refine ac MI MI (ac MI MI (ac MI MI (ag (ab (aw (ay (aX (ay (aX ?_)))))))))
       refine ff MI MI MI MI MI kR Mo MI s32 ?_
       exact⟨_,rfl,xR,jF.ok hOK hfin ((oR.rpx cQ (by omega)).weak fun j hj=>.inl (by show j<wM.heap.size;have:=eM.size;omega))⟩
      ·have hyes:ok=true:=by simpa using h73
       have hst:=EH hB hC2 (hok1 hyes)
       obtain⟨_,_,_,_,_,hk',hk9,hkb⟩:=pR hst
       have eLE:=(((x48.trans x61).trans x69).trans xE)
       have own:∀j,ve.ownBlock=some j→wM.heap.size≤j∧j<wL.heap.size:=oL.lt
       have oE:=oL.mv (Mv.of_ext (X:=fun _=>False) eLE) fun _ h=>h.elim
       have s61:=((((x48.trans x61).trans x69).trans xE)).size
       obtain⟨x79,w79,v80,w80,hr79,hr80,o80,m80,n80⟩:=oE.push (ty:=25) (t:=25) Mu xq rfl (by omega) (by omega) (by omega) h1cs ((rp69.mv (Mv.of_ext xE) fun _ h=>.inl h).weak fun j hj=>.inl (by
        have h61:=x61.size
        have h48:=(aK.of_new x45 g48 lg).size
        show j<w61.heap.size
        rcases hj with hj|hj
        ·omega
        ·have:=(own j hj).2;omega)) cQ (by omega) (Nat.le_trans sL eLE.size)
       have eME:aK wM wE:=eL.trans eLE
       have x80:aK wM w80:=Mv.ext_from m80 eME fun j hj=>(own j hj).1
       refine aA (ab (aa (ae MI MI ?_)))
       refine ak MI MI (kE.ld Md MI (by rw[hcs];kernel_rfl)) ?_
       refine aI (vs:=[(0,.agg cs.toArray)]) MI MI hr79 ?_
       refine a6 MI MI hr80 ?_
       refine ae MI MI (al (r:=I ((b.length-t.length+8:Nat):Int)) MI MI MI (by have e:((b.length-t.length+8:Nat):Int)=((b.length-t.length:Nat):Int)+8:=(by omega);rw[e];exact aN (by omega) (by omega)) ?_)
       refine ac MI MI (ac MI MI (ag (aS ?_)))
       refine gY (b.length-t.length+8) (v80) (es++[u]) ⟨rfl,rfl,rfl,rfl,rfl,trivial⟩ ⟨x80,o80,by omega,by omega,by rw[hJ,rk hst];simp,by simp;omega⟩ (by omega)
     ·refine aa (ae MI MI (ae MI MI ?_))
      obtain⟨v44,p44,b44⟩:=gq (hv.ext (eM.trans eL)) (lo:=k) (by omega) .i64
      refine cE MI MI MI MI MI (p44 _) (am pA MI MI ((pB b44 (by rw[List.length_drop];omega))) ?_)
      rintro v45 w45 ⟨x45,g,lg,rfl,hr45⟩
      refine ac rfl rfl (ag (ab (af (aa (ae rfl rfl (am oD rfl rfl ((Bp hr45 (fun l e=>by cases e;rw[List.length_drop];omega) hB)) ?_))))))
      rintro v48 w48 ⟨g48,rfl,hr48⟩
      have x48:=aK.of_new x45 g48 lg
      refine ae MI MI (ao MI MI (bj) (ao MI MI (bk) (ac MI MI (ac MI MI (ag (ab (af (aa (ae MI MI (aP MI MI (cN (hv.ext ((eM.trans eL).trans x48))) ?_))))))))))
      refine ae MI MI (am qL MI MI ((Ao hr48)) ?_)
      rintro v54 _ ⟨rfl,rfl⟩
      refine al (r:=I ((b.length:Int)-((0:Nat):Int))) MI MI MI ((bC (a:=(b.length:Int)) (b:=((0:Nat):Int)) (by omega) (by omega))) (ac MI MI ?_)
      refine ag (ab (af (af (aa (ae MI MI (al MI MI MI (cJ (by decide) cT) (ae MI MI (an MI MI MI (an MI MI MI (an MI MI MI (an MI MI MI ?_)))))))))))
      refine ap MI MI MI (ag (ab (bh MI (af ?_))))
      have hfin:=Dz hJ (by first|exact xr hB|exact ph hB hC2)
      refine aa ?_
      refine ak MI MI ((kM.ext ((eL.trans x48))).ld Mo MI s32) ?_
      refine ae MI MI (ae MI MI ?_)
      obtain⟨wR,sR,qR,kR⟩:=(k2M.ext ((eL.trans x48))).stS (P:=Tryz.prog) (t:=24) (m:=((b.take 36).drop 4).map U8) (by rw[List.length_map,List.length_map,l73];rfl) s32 (ew _)
      refine ar MI MI sR ?_
      have xR:=aK.of_new (((eM.trans eL).trans x48)) qR l2
      have oR:=(oL.mv (Mv.of_ext (X:=fun k=>k=g2) x48) fun j hj=>by have:j=g2:=hj;omega).mv (Mv.of_grown (X:=fun k=>k=g2) qR fun k hk _=>(Option.some.inj hk).symm) fun j hj=>by have:j=g2:=hj;omega
      refine ac MI MI (ac MI MI (ac MI MI (ag (ab (aw (ay (aX (ay (aX ?_)))))))))
      refine ff MI MI MI MI MI kR Mo MI s32 ?_
      exact⟨_,rfl,xR,jF.ok hOK hfin ((oR.rpx cQ (by omega)).weak fun j hj=>.inl (by show j<wM.heap.size;have:=eM.size;omega))⟩
end Go.Rl
namespace Go.Rl
open Go.RowKit Go.Proofs
theorem lu:aG Tryz.prog 126:=⟨_,Tryz.func126,by kernel_rfl,rfl⟩
theorem lw:aG Tryz.prog 127:=⟨_,Tryz.func127,by kernel_rfl,rfl⟩
theorem uV:aG Tryz.prog 128:=⟨_,Tryz.func128,by kernel_rfl,rfl⟩
structure jH (h g:Nat) (st:Option (List UInt8)) (ok:Bool) (w:World):Prop where
 blk:ci h 163 [.pointer (some ⟨g,0,none⟩),B ok] w
 rd:cO g st w
 lt:g<h
theorem nO:(Tryz.prog.info? 4).map (·.size)=some 1:=by kernel_rfl
theorem jH.flag {h g:Nat} {st s1:Option (List UInt8)} {ok:Bool} {w w1:World} (hm:jH h g st ok w) (hg:w.grownBy w1 (some g)) (hr:cO g s1 w1) (b:Bool):
 ∃w2,(Instr.storeAt 4 (.pointer (some ⟨h,1,none⟩)) (B b)).run Tryz.prog w1=.ok () w2∧Mv (lJ h g) w w2∧jH h g s1 b w2∧w1.grownBy w2 (some h):=by
 obtain⟨w2,h1,h2,h3,h4,h5⟩:=ep.put (P:=Tryz.prog) (t:=4) (v:=B b) hm.blk hg hr hm.lt (i:=1) nO rfl (by simp)
 exact⟨w2,h1,h2.weak (fun k hk _=>hk.elim .inr .inl),⟨h3,h4,hm.lt⟩,h5⟩
theorem jH.mv {h g:Nat} {st:Option (List UInt8)} {ok:Bool} {X:Nat→Prop} {w w':World} (hm:jH h g st ok w) (m:Mv X w w') (hX:∀k,X k→h<k):jH h g st ok w':=
 ⟨m.blk hm.blk (fun hx=>by have:=hX h hx;omega),ep.mv hm.rd m fun k hk=>by have:=hX k hk;have:=hm.lt;omega,hm.lt⟩
theorem jH.ext {h g:Nat} {st:Option (List UInt8)} {ok:Bool} {w w':World} (hm:jH h g st ok w) (e:aK w w'):jH h g st ok w':=hm.mv (Mv.of_ext (X:=fun _=>False) e) fun _ h=>h.elim
theorem jH.set {h g:Nat} {st:Option (List UInt8)} {ok:Bool} {w:World} (hm:jH h g st ok w) (b:Bool):
 ∃w2,(Instr.storeAt 4 (.pointer (some ⟨h,1,none⟩)) (B b)).run Tryz.prog w=.ok () w2∧Mv (fun k=>k=h) w w2∧jH h g st b w2:=by
 obtain⟨w2,h1,h2,h3⟩:=hm.blk.stC (P:=Tryz.prog) (t:=4) (i:=1) (v:=B b) nO rfl (by simp)
 have m:Mv (fun k=>k=h) w w2:=Mv.of_grown h2 fun k hk _=>(Option.some.inj hk).symm
 exact⟨w2,h1,m,h3,ep.mv hm.rd m fun k hk=>by have:=hm.lt;have:k=h:=hk;omega,hm.lt⟩
theorem jH.step {h g:Nat} {st s1:Option (List UInt8)} {ok:Bool} {w w1:World} (hm:jH h g st ok w) (hg:w.grownBy w1 (some g)) (hr:cO g s1 w1):jH h g s1 ok w1:=
 ⟨hm.blk.other hg (fun e=>by have:=Option.some.inj e;have:=hm.lt;omega),hr,hm.lt⟩
theorem leN {n m:Nat} (hn:n<18446744073709551616) (hm:m<18446744073709551616):UInt64.ofNat n≤UInt64.ofNat m↔n≤m:=by
 rw[UInt64.le_iff_toNat_le,UInt64.toNat_ofNat',UInt64.toNat_ofNat']
 omega
theorem Jx {w:World} {h g n0 most:Nat} {st s1:Option (List UInt8)} {ok:Bool} (hm:jH h g st ok w) (hn:n0<18446744073709551616) (hmo:most<18446744073709551616)
 (c:Calls Tryz.prog 89 #[.pointer (some ⟨g,0,none⟩)] w (bE fun r w'=>w.grownBy w' (some g)∧r=.tuple #[bF (UInt64.ofNat n0),I (if s1.isSome=true then 0 else 5)]∧cO g s1 w')):
 Calls Tryz.prog 126 #[.pointer (some ⟨h,0,none⟩),bF (UInt64.ofNat most)] w (bE fun r w'=>Mv (lJ h g) w w'∧r=bF (UInt64.ofNat (if (ok&&s1.isSome&&decide (n0≤most))=true then n0 else 0))∧jH h g s1 (ok&&s1.isSome&&decide (n0≤most)) w'):=by
 refine enter (vs:=[.pointer (some ⟨h,0,none⟩),bF (UInt64.ofNat most)]) Tryz.func126 MI MI MI ?_
 have kb:=hm.blk
 refine af (aa (ac MI MI (ag (ab (af ?_)))))
 rcases ok with _|_
 rotate_left
 rcases s1 with _|l1
 rotate_left
 rcases Nat.lt_or_ge most n0 with hlt|hle
 ·refine aa (ae MI MI (ax MI MI (ah MI MI (aq (o:=0) Mp MI (by kernel_rfl) MI) (ak MI MI (ai MA MI (kb.cell (i:=0) MI)) ?_))))
  refine am gH MI MI (c) ?_
  rintro v12 w12 ⟨g12,rfl,rs⟩
  have m12:=(hm.rd.rdT).kp g12
  have kb1:=kb.other g12 (fun e=>by have:=Option.some.inj e;have:=hm.lt;omega)
  obtain⟨w2,s2,m2,h2,_⟩:=hm.flag g12 rs false
  refine ae MI MI (ao MI MI (bj) (ao MI MI (bk) (ac MI MI (ac MI MI (ag (ab (af (aa (ae MI MI (ae MI MI (ax MI MI ?_)))))))))))
  refine ah MI MI (aq (o:=1) Mp MI (by kernel_rfl) MI) (ak MI MI (ai Mi MI (kb1.cell (i:=1) MI)) ?_)
  refine ae MI MI (aj MI (ae MI MI (aj MI (al MI MI MI (cJ MI bo) (ap MI MI MI (ae MI MI (aj MI (ae MI MI (aj MI (ae MI MI ?_))))))))))
  refine aj MI (al MI MI MI (dm (mt (leN hn hmo).1 (by omega)) pq) (ap MI MI MI (ax MI MI (ah MI MI (aq (o:=1) Mp MI (by kernel_rfl) MI) ?_))))
  refine ar MI MI s2 ?_
  refine ag (ab (af (af (aa (ae MI MI (ax MI MI (ah MI MI (aq (o:=1) Mp MI (by kernel_rfl) MI) ?_)))))))
  refine ak MI MI (ai Mi MI (h2.blk.cell (i:=1) MI)) (bt MI MI bu (ag (ab (bh MI (af (aa (ac MI MI (ag ?_))))))))
  refine ab (aw (ay (az MI MI ?_)))
  exact⟨_,rfl,m2,by simp[show ¬n0≤most by omega];rfl,by simpa [show ¬n0≤most by omega] using h2⟩
 ·refine aa (ae MI MI (ax MI MI (ah MI MI (aq (o:=0) Mp MI (by kernel_rfl) MI) (ak MI MI (ai MA MI (kb.cell (i:=0) MI)) ?_))))
  refine am gH MI MI (c) ?_
  rintro v12 w12 ⟨g12,rfl,rs⟩
  have m12:=(hm.rd.rdT).kp g12
  have kb1:=kb.other g12 (fun e=>by have:=Option.some.inj e;have:=hm.lt;omega)
  obtain⟨w2,s2,m2,h2,_⟩:=hm.flag g12 rs true
  refine ae MI MI (ao MI MI (bj) (ao MI MI (bk) (ac MI MI (ac MI MI (ag (ab (af (aa (ae MI MI (ae MI MI (ax MI MI ?_)))))))))))
  refine ah MI MI (aq (o:=1) Mp MI (by kernel_rfl) MI) (ak MI MI (ai Mi MI (kb1.cell (i:=1) MI)) ?_)
  refine ae MI MI (aj MI (ae MI MI (aj MI (al MI MI MI (cJ MI bo) (ap MI MI MI (ae MI MI (aj MI (ae MI MI (aj MI (ae MI MI ?_))))))))))
  refine aj MI (al MI MI MI (cJ ((leN hn hmo).2 hle) pq) (ap MI MI MI (ax MI MI (ah MI MI (aq (o:=1) Mp MI (by kernel_rfl) MI) ?_))))
  refine ar MI MI s2 ?_
  refine ag (ab (af (af (aa (ae MI MI (ax MI MI (ah MI MI (aq (o:=1) Mp MI (by kernel_rfl) MI) ?_)))))))
  refine ak MI MI (ai Mi MI (h2.blk.cell (i:=1) MI)) (bt MI MI bu (ag (ab (cq MI (aA (ab (af (aa (ae MI MI ?_)))))))))
  refine ac MI MI (ag (ab (aw (az MI MI ?_))))
  exact⟨_,rfl,m2,by simp[hle],by simpa [hle] using h2⟩
 ·refine aa (ae MI MI (ax MI MI (ah MI MI (aq (o:=0) Mp MI (by kernel_rfl) MI) (ak MI MI (ai MA MI (kb.cell (i:=0) MI)) ?_))))
  refine am gH MI MI (c) ?_
  rintro v12 w12 ⟨g12,rfl,rs⟩
  have m12:=(hm.rd.rdT).kp g12
  have kb1:=kb.other g12 (fun e=>by have:=Option.some.inj e;have:=hm.lt;omega)
  obtain⟨w2,s2,m2,h2,_⟩:=hm.flag g12 rs false
  refine ae MI MI (ao MI MI (bj) (ao MI MI (bk) (ac MI MI (ac MI MI (ag (ab (af (aa (ae MI MI (ae MI MI (ax MI MI ?_)))))))))))
  refine ah MI MI (aq (o:=1) Mp MI (by kernel_rfl) MI) (ak MI MI (ai Mi MI (kb1.cell (i:=1) MI)) ?_)
  refine ae MI MI (an MI MI MI (an MI MI MI (aD MI MI MI (ae MI MI (an MI MI MI (an MI MI MI (an MI MI MI (aD MI MI MI (ax MI MI ?_)))))))))
  refine ah MI MI (aq (o:=1) Mp MI (by kernel_rfl) MI) ?_
  refine ar MI MI s2 ?_
  refine ag (ab (af (af (aa (ae MI MI (ax MI MI (ah MI MI (aq (o:=1) Mp MI (by kernel_rfl) MI) ?_)))))))
  refine ak MI MI (ai Mi MI (h2.blk.cell (i:=1) MI)) (bt MI MI bu (ag (ab (bh MI (af (aa (ac MI MI (ag ?_))))))))
  refine ab (aw (ay (az MI MI ?_)))
  exact⟨_,rfl,m2,rfl,h2⟩
 ·refine aa (ae MI MI (ax MI MI (ah MI MI (aq (o:=0) Mp MI (by kernel_rfl) MI) (ak MI MI (ai MA MI (kb.cell (i:=0) MI)) ?_))))
  refine am gH MI MI (c) ?_
  rintro v12 w12 ⟨g12,rfl,rs⟩
  have m12:=(hm.rd.rdT).kp g12
  have kb1:=kb.other g12 (fun e=>by have:=Option.some.inj e;have:=hm.lt;omega)
  obtain⟨w2,s2,m2,h2,_⟩:=hm.flag g12 rs false
  refine ae MI MI (ao MI MI (bj) (ao MI MI (bk) (ac MI MI (ac MI MI (ag (ab (af (aa (ae MI MI (ae MI MI (ax MI MI ?_)))))))))))
  refine ah MI MI (aq (o:=1) Mp MI (by kernel_rfl) MI) (ak MI MI (ai Mi MI (kb1.cell (i:=1) MI)) ?_)
  refine ae MI MI (aj MI (ae MI MI (aj MI (al MI MI MI (dm (by decide) bo) (ap MI MI MI (ae MI MI (an MI MI MI (an MI MI MI ?_))))))))
  refine an MI MI MI (aD MI MI MI (ax MI MI (ah MI MI (aq (o:=1) Mp MI (by kernel_rfl) MI) ?_)))
  refine ar MI MI s2 ?_
  refine ag (ab (af (af (aa (ae MI MI (ax MI MI (ah MI MI (aq (o:=1) Mp MI (by kernel_rfl) MI) ?_)))))))
  refine ak MI MI (ai Mi MI (h2.blk.cell (i:=1) MI)) (bt MI MI bu (ag (ab (bh MI (af (aa (ac MI MI (ag ?_))))))))
  refine ab (aw (ay (az MI MI ?_)))
  exact⟨_,rfl,m2,rfl,h2⟩
theorem pi (st:Option (List UInt8)) (ok:Bool) {most:Nat} (hmo:most<18446744073709551616):∃n s1 ok1,JR (jP most) st ok n s1 ok1∧n≤most∧(∀k,tD k st→tD k s1)∧∀{w:World} {h g:Nat},jH h g st ok w→
 Calls Tryz.prog 126 #[.pointer (some ⟨h,0,none⟩),bF (UInt64.ofNat most)] w (bE fun r w'=>Mv (lJ h g) w w'∧r=bF (UInt64.ofNat n)∧jH h g s1 ok1 w'):=by
 obtain⟨n0,s1,q,hn,c⟩:=KP st
 refine⟨_,s1,_,?_,?_,fun k hk=>q.atM lC.le hk,fun hm=>Jx hm hn hmo (c hm.rd)⟩
 ·have q':st.bind eK=s1.map fun t=>(n0,t):=q
  have e:st.bind (jP most)=(st.bind eK).bind fun p=>if p.1≤most then some p else none:=by cases st<;>rfl
  cases s1 with
  |none=>exact⟨by rw[e,q'];cases ok<;>rfl,fun h=>by simp at h⟩
  |some l1=>
   by_cases hle:n0≤most
   ·refine⟨?_,fun h=>?_⟩
    ·rw[e,q'];simp[hle]
    ·rw[e,q',if_pos h];simp[hle]
   ·refine⟨?_,fun h=>?_⟩
    ·rw[e,q'];simp[hle]
    ·simp[hle] at h
 ·split
  ·rename_i h
   simp only[Bool.and_eq_true,decide_eq_true_eq] at h
   exact h.2
  ·exact Nat.zero_le _
theorem Jy {w:World} {h g:Nat} {n:Int} {st s1:Option (List UInt8)} {ok:Bool} (hm:jH h g st ok w)
 (c:Calls Tryz.prog 158 #[.pointer (some ⟨g,0,none⟩)] w (bE fun r w'=>w.grownBy w' (some g)∧r=.tuple #[I n,I (if s1.isSome=true then 0 else 5)]∧cO g s1 w')):
 Calls Tryz.prog 127 #[.pointer (some ⟨h,0,none⟩)] w (bE fun r w'=>Mv (lJ h g) w w'∧r=I n∧jH h g s1 (ok&&s1.isSome) w'):=by
 refine enter (vs:=[.pointer (some ⟨h,0,none⟩)]) Tryz.func127 MI MI MI ?_
 have kb:=hm.blk
 refine af (aa (ac MI MI (ag (ab (af ?_)))))
 rcases ok with _|_
 rotate_left
 ·refine aa (ae MI MI (ax MI MI (ah MI MI (aq (o:=0) Mp MI (by kernel_rfl) MI) (ak MI MI (ai MA MI (kb.cell (i:=0) MI)) ?_))))
  refine am yi MI MI (c) ?_
  rintro v10 w10 ⟨g10,rfl,rs⟩
  have m10:=(hm.rd.rdT).kp g10
  have kb1:=kb.other g10 (fun e=>by have:=Option.some.inj e;have:=hm.lt;omega)
  obtain⟨w2,s2,m2,h2,_⟩:=hm.flag g10 rs s1.isSome
  refine ae MI MI (ao MI MI (bj) (ao MI MI (bk) (ac MI MI (ac MI MI (ag (ab (af (aa (ae MI MI (ae MI MI (ax MI MI ?_)))))))))))
  refine ah MI MI (aq (o:=1) Mp MI (by kernel_rfl) MI) (ak MI MI (ai Mi MI (kb1.cell (i:=1) MI)) ?_)
  refine ae MI MI (aj MI (ae MI MI (aj MI (al (r:=B s1.isSome) MI MI MI (zR) (ap MI MI MI (ax MI MI (ah MI MI (aq (o:=1) Mp MI (by kernel_rfl) MI) ?_)))))))
  refine ar MI MI s2 ?_
  refine ag (ab (af (aa (ae MI MI (ac MI MI (ag (ab (aw (az MI MI ?_)))))))))
  exact⟨_,rfl,m2,rfl,by simpa using h2⟩
 ·refine aa (ae MI MI (ax MI MI (ah MI MI (aq (o:=0) Mp MI (by kernel_rfl) MI) (ak MI MI (ai MA MI (kb.cell (i:=0) MI)) ?_))))
  refine am yi MI MI (c) ?_
  rintro v10 w10 ⟨g10,rfl,rs⟩
  have m10:=(hm.rd.rdT).kp g10
  have kb1:=kb.other g10 (fun e=>by have:=Option.some.inj e;have:=hm.lt;omega)
  obtain⟨w2,s2,m2,h2,_⟩:=hm.flag g10 rs false
  refine ae MI MI (ao MI MI (bj) (ao MI MI (bk) (ac MI MI (ac MI MI (ag (ab (af (aa (ae MI MI (ae MI MI (ax MI MI ?_)))))))))))
  refine ah MI MI (aq (o:=1) Mp MI (by kernel_rfl) MI) (ak MI MI (ai Mi MI (kb1.cell (i:=1) MI)) ?_)
  refine ae MI MI (an MI MI MI (an MI MI MI (aD MI MI MI (ax MI MI (ah MI MI (aq (o:=1) Mp MI (by kernel_rfl) MI) ?_)))))
  refine ar MI MI s2 ?_
  refine ag (ab (af (aa (ae MI MI (ac MI MI (ag (ab (aw (az MI MI ?_)))))))))
  exact⟨_,rfl,m2,rfl,h2⟩
theorem pj (st:Option (List UInt8)) (ok:Bool):∃n s1 ok1,JR jq st ok n s1 ok1∧lB n∧(∀k,tD k st→tD k s1)∧∀{w:World} {h g:Nat},jH h g st ok w→
 Calls Tryz.prog 127 #[.pointer (some ⟨h,0,none⟩)] w (bE fun r w'=>Mv (lJ h g) w w'∧r=I n∧jH h g s1 ok1 w'):=by
 obtain⟨n,s1,q,hn,c⟩:=KQ st
 exact⟨n,s1,_,JR.of_rdE q,hn,fun k hk=>q.atM eO.le hk,fun hm=>Jy hm (c hm.rd)⟩
theorem Jz {w:World} {h g:Nat} {q:fi} {st s1:Option (List UInt8)} {ok:Bool} (hm:jH h g st ok w)
 (c:∀{w:World},cO g st w→Calls Tryz.prog 159 #[.pointer (some ⟨g,0,none⟩)] w (bE fun r w'=>w.grownBy w' (some g)∧LQ w.heap.size q (if s1.isSome=true then 0 else 5) r w'∧cO g s1 w')):
 Calls Tryz.prog 128 #[.pointer (some ⟨h,0,none⟩)] w (bE fun r w'=>Mv (lJ h g) w w'∧wr w.heap.size q r w'∧jH h g s1 (ok&&s1.isSome) w'):=by
 refine enter (vs:=[.pointer (some ⟨h,0,none⟩)]) Tryz.func128 MI MI MI ?_
 have hlt:=hm.blk.lt
 refine af ?_
 rcases ok with _|_
 rotate_left
 ·refine aa ?_
  obtain⟨g2,w2,hr2,l2,x2,k2⟩:=aY (P:=Tryz.prog) (w:=w) (t:=46) (z:=.agg #[B false,.slice none 0 0,.slice none 0 0]) (l:=[B false,.slice none 0 0,.slice none 0 0]) (by kernel_rfl) rfl
  refine aV MI hr2 ?_
  have hm2:=hm.ext x2
  refine ag (ab (af (aa (ae MI MI (ax MI MI (ah MI MI (aq (o:=0) Mp MI (by kernel_rfl) MI) ?_))))))
  refine ak MI MI (ai MA MI (x2.cell_some (hm.blk.cell (i:=0) MI))) (am yh MI MI ((c hm2.rd)) ?_)
  rintro v10 w10 ⟨g10,⟨x,y,rfl,rq⟩,rs⟩
  have m10:=(hm2.rd.rdT).kp g10
  have hm10:=hm2.step g10 rs
  obtain⟨x',y',eq',hx,hy⟩:=mi rq.rp
  cases eq'
  have k210:=k2.other g10 (fun e=>by have:=Option.some.inj e;have:=hm.lt;have:=k2.lt;omega)
  refine ae MI MI (ao MI MI (bj) (ao MI MI (bk) ?_))
  obtain⟨g3,w3,hr3,l3,x3,k3⟩:=aY (P:=Tryz.prog) (w:=w10) (t:=46) (z:=.agg #[B false,.slice none 0 0,.slice none 0 0]) (l:=[B false,.slice none 0 0,.slice none 0 0]) (by kernel_rfl) rfl
  refine aV MI hr3 ?_
  obtain⟨w1_9,s1_9,q1_9,k1_9⟩:=k3.stS (P:=Tryz.prog) (t:=46) (m:=[B q.1,x,y]) rfl (by kernel_rfl) (au.cons rfl (au.cons hx.one (au.cons hy.one au.nil)))
  refine ar MI MI s1_9 ?_
  have x1_9:=aK.of_new (x3) q1_9 l3
  refine ac MI MI (ag (ab (af ?_)))
  have hm3:=hm10.ext x1_9
  obtain⟨w4,s4,m4,h4⟩:=hm3.set s1.isSome
  have hn3:g3≠h:=by have:=g10.size;have:=x2.size;omega
  have hn2:g2≠h:=by omega
  have k34:=m4.blk k1_9 (fun e=>hn3 e)
  have k24:=m4.blk (k210.ext x1_9) (fun e=>hn2 e)
  have o3:au [B q.1,x,y]:=au.cons rfl (au.cons hx.one (au.cons hy.one au.nil))
  obtain⟨w5,s5,q5,k5⟩:=k24.stS (P:=Tryz.prog) (t:=46) (m:=[B q.1,x,y]) rfl (by kernel_rfl) o3
  have m5:Mv (fun k=>k=g2) w4 w5:=Mv.of_grown q5 fun k hk _=>(Option.some.inj hk).symm
  refine aa (ae MI MI (ae MI MI (ax MI MI (ah MI MI (aq (o:=1) Mp MI (by kernel_rfl) MI) ?_))))
  refine ak MI MI (ai Mi MI (hm3.blk.cell (i:=1) MI)) (ae MI MI (aj MI (ae MI MI (aj MI (al (r:=B s1.isSome) MI MI MI (zR) ?_)))))
  refine ap MI MI MI (ax MI MI (ah MI MI (aq (o:=1) Mp MI (by kernel_rfl) MI) ?_))
  refine ar MI MI s4 ?_
  refine ag (ab (af ?_))
  have mA:Mv (lJ h g) w w1_9:=((Mv.of_ext x2).trans (Mv.of_grown g10 fun k hk _=>.inr (Option.some.inj hk).symm) fun _ hk _=>hk).trans (Mv.of_ext x1_9) fun _ hk _=>hk
  have mB:Mv (lJ h g) w w5:=(mA.trans (m4.weak fun k hk _=>(.inl hk:lJ h g k)) fun _ hk _=>hk).trans m5 fun k hk hlt=>by omega
  have sz2:=x2.size
  have szA:=mA.size
  have rA:=(rq.mv (Mv.of_ext x1_9) fun _ hk=>.inl hk).mv (m4.weak fun k hk _=>by show k<w2.heap.size;omega) fun _ hk=>.inl hk
  have g2lt:=k2.lt
  have rB:=(rA.mv (Y:=fun k=>k<w2.heap.size) (m5.weak fun k hk _=>by show k<w2.heap.size;omega) fun _ hk=>.inl hk).weak (Y:=fun k=>k<w.heap.size) fun k hk=>.inl (by show k<w2.heap.size;omega)
  refine aa ?_
  refine ak MI MI (k34.ld Mb MI (by kernel_rfl)) ?_
  refine ar MI MI s5 ?_
  refine ag (ab (aw ?_))
  refine dt MI MI k5 Mb MI (by kernel_rfl) ?_
  exact⟨_,rfl,mB,⟨x,y,rfl,rB⟩,h4.mv m5 fun k hk=>by omega⟩
 ·refine aa ?_
  obtain⟨g2,w2,hr2,l2,x2,k2⟩:=aY (P:=Tryz.prog) (w:=w) (t:=46) (z:=.agg #[B false,.slice none 0 0,.slice none 0 0]) (l:=[B false,.slice none 0 0,.slice none 0 0]) (by kernel_rfl) rfl
  refine aV MI hr2 ?_
  have hm2:=hm.ext x2
  refine ag (ab (af (aa (ae MI MI (ax MI MI (ah MI MI (aq (o:=0) Mp MI (by kernel_rfl) MI) ?_))))))
  refine ak MI MI (ai MA MI (x2.cell_some (hm.blk.cell (i:=0) MI))) (am yh MI MI ((c hm2.rd)) ?_)
  rintro v10 w10 ⟨g10,⟨x,y,rfl,rq⟩,rs⟩
  have m10:=(hm2.rd.rdT).kp g10
  have hm10:=hm2.step g10 rs
  obtain⟨x',y',eq',hx,hy⟩:=mi rq.rp
  cases eq'
  have k210:=k2.other g10 (fun e=>by have:=Option.some.inj e;have:=hm.lt;have:=k2.lt;omega)
  refine ae MI MI (ao MI MI (bj) (ao MI MI (bk) ?_))
  obtain⟨g3,w3,hr3,l3,x3,k3⟩:=aY (P:=Tryz.prog) (w:=w10) (t:=46) (z:=.agg #[B false,.slice none 0 0,.slice none 0 0]) (l:=[B false,.slice none 0 0,.slice none 0 0]) (by kernel_rfl) rfl
  refine aV MI hr3 ?_
  obtain⟨w1_9,s1_9,q1_9,k1_9⟩:=k3.stS (P:=Tryz.prog) (t:=46) (m:=[B q.1,x,y]) rfl (by kernel_rfl) (au.cons rfl (au.cons hx.one (au.cons hy.one au.nil)))
  refine ar MI MI s1_9 ?_
  have x1_9:=aK.of_new (x3) q1_9 l3
  refine ac MI MI (ag (ab (af ?_)))
  have hm3:=hm10.ext x1_9
  obtain⟨w4,s4,m4,h4⟩:=hm3.set false
  have hn3:g3≠h:=by have:=g10.size;have:=x2.size;omega
  have hn2:g2≠h:=by omega
  have k34:=m4.blk k1_9 (fun e=>hn3 e)
  have k24:=m4.blk (k210.ext x1_9) (fun e=>hn2 e)
  have o3:au [B q.1,x,y]:=au.cons rfl (au.cons hx.one (au.cons hy.one au.nil))
  obtain⟨w5,s5,q5,k5⟩:=k24.stS (P:=Tryz.prog) (t:=46) (m:=[B q.1,x,y]) rfl (by kernel_rfl) o3
  have m5:Mv (fun k=>k=g2) w4 w5:=Mv.of_grown q5 fun k hk _=>(Option.some.inj hk).symm
  refine aa (ae MI MI (ae MI MI (ax MI MI (ah MI MI (aq (o:=1) Mp MI (by kernel_rfl) MI) ?_))))
  refine ak MI MI (ai Mi MI (hm3.blk.cell (i:=1) MI)) (ae MI MI (an MI MI MI (an MI MI MI (aD MI MI MI (ax MI MI ?_)))))
  refine ah MI MI (aq (o:=1) Mp MI (by kernel_rfl) MI) ?_
  refine ar MI MI s4 ?_
  refine ag (ab (af ?_))
  have mA:Mv (lJ h g) w w1_9:=((Mv.of_ext x2).trans (Mv.of_grown g10 fun k hk _=>.inr (Option.some.inj hk).symm) fun _ hk _=>hk).trans (Mv.of_ext x1_9) fun _ hk _=>hk
  have mB:Mv (lJ h g) w w5:=(mA.trans (m4.weak fun k hk _=>(.inl hk:lJ h g k)) fun _ hk _=>hk).trans m5 fun k hk hlt=>by omega
  have sz2:=x2.size
  have szA:=mA.size
  have rA:=(rq.mv (Mv.of_ext x1_9) fun _ hk=>.inl hk).mv (m4.weak fun k hk _=>by show k<w2.heap.size;omega) fun _ hk=>.inl hk
  have g2lt:=k2.lt
  have rB:=(rA.mv (Y:=fun k=>k<w2.heap.size) (m5.weak fun k hk _=>by show k<w2.heap.size;omega) fun _ hk=>.inl hk).weak (Y:=fun k=>k<w.heap.size) fun k hk=>.inl (by show k<w2.heap.size;omega)
  refine aa ?_
  refine ak MI MI (k34.ld Mb MI (by kernel_rfl)) ?_
  refine ar MI MI s5 ?_
  refine ag (ab (aw ?_))
  refine dt MI MI k5 Mb MI (by kernel_rfl) ?_
  exact⟨_,rfl,mB,⟨x,y,rfl,rB⟩,h4.mv m5 fun k hk=>by omega⟩
theorem Ap (st:Option (List UInt8)) (ok:Bool) (hl:iJ st):∃q s1 ok1,JR i7 st ok q s1 ok1∧(∀k,tD k st→tD k s1)∧∀{w:World} {h g:Nat},jH h g st ok w→
 Calls Tryz.prog 128 #[.pointer (some ⟨h,0,none⟩)] w (bE fun r w'=>Mv (lJ h g) w w'∧wr w.heap.size q r w'∧jH h g s1 ok1 w'):=by
 obtain⟨q,s1,hq,c⟩:=KR st
 exact⟨q,s1,_,JR.of_rdE hq,fun k hk=>hq.atM tE.le hk,fun hm=>Jz hm (c hl)⟩
end Go.Rl
namespace Go.Rl
open Go.RowKit Go.Proofs
theorem pW:aG Tryz.prog 129:=⟨_,Tryz.func129,by kernel_rfl,rfl⟩
structure FL {α:Type} (f:List UInt8→Option (α×List UInt8)) (ok:Bool) (X:Option (List α×List UInt8)) (so:Option (List UInt8)) (oko:Bool) (k:Nat) (ps:List α):Prop where
 t:oko=true→ok=true∧so.isSome=true∧X=so.bind fun l=>(bQ f k l).map fun p=>(ps++p.1,p.2)
 f:oko=false→(ok&&X.isSome)=false
section
variable {α:Type} {f:List UInt8→Option (α×List UInt8)} {ok oko okE:Bool} {X:Option (List α×List UInt8)} {st so s0 sE:Option (List UInt8)} {k N most:Nat} {ps:List α} {m:α}
theorem FL.start (hU:JR (jP most) st ok N s0 oko):FL f ok (st.bind (od most f)) s0 oko N []:=by
 have e:st.bind (od most f)=(st.bind (jP most)).bind fun p=>bQ f p.1 p.2:=by cases st<;>rfl
 refine⟨fun h=>?_,fun h=>?_⟩
 ·obtain⟨h1,h2⟩:=hU.ok_le h
  refine⟨h1,h2,?_⟩
  rw[e,hU.val h]
  cases s0 with
  |none=>rfl
  |some l=>show bQ f N l=(bQ f N l).map fun p=>([]++p.1,p.2);cases bQ f N l<;>rfl
 ·have hi:=hU.iff
  rw[h] at hi
  rw[e]
  cases ok with
  |false=>rfl
  |true=>
   simp only[Bool.true_and] at hi⊢
   have:st.bind (jP most)=none:=Option.not_isSome_iff_eq_none.1 (by rw[←hi];simp)
   rw[this];rfl
theorem FL.step (h:FL f ok X so true (k+1) ps) (q:JR f so true m sE okE):FL f ok X sE okE k (ps++[m]):=by
 obtain⟨h1,h2,h3⟩:=h.t rfl
 refine⟨fun e=>⟨h1,(q.ok_le e).2,pE h3 (q.val e)⟩,fun e=>?_⟩
 have hi:=q.iff
 rw[e] at hi
 simp only[Bool.true_and] at hi
 have hn:so.bind f=none:=Option.not_isSome_iff_eq_none.1 (by rw[←hi];simp)
 have hX:X=none:=by
  rw[h3]
  cases so with
  |none=>rfl
  |some l=>
   have hl:f l=none:=hn
   show(bQ f (k+1) l).map _=none
   have:bQ f (k+1) l=none:=by simp only[bQ,hl,Option.bind_none]
   rw[this];rfl
 rw[hX];cases ok<;>rfl
theorem FL.jr {g:List UInt8→Option (List α×List UInt8)} (h:FL f ok (st.bind g) so oko k ps) (hk:oko=true→k=0):JR g st ok ps so oko:=by
 cases oko with
 |false=>exact⟨(h.f rfl).symm,fun e=>by cases e⟩
 |true=>
  obtain⟨h1,h2,h3⟩:=h.t rfl
  obtain rfl:=hk rfl
  cases so with
  |none=>cases h2
  |some l=>
   have e:st.bind g=some (ps,l):=by rw[h3];simp[bQ]
   exact⟨by rw[e,h1];rfl,fun _=>e⟩
end
theorem JA {so sA sB sC sD sE:Option (List UInt8)} {ok okA nn okC okD okE:Bool} {n1 n2 n3 n4:Int} {q:fi} (q1:JR jq so ok n1 sA okA) (q2:JR jq sA okA n2 sB nn) (q3:JR jq sB nn n3 sC okC) (q4:JR jq sC okC n4 sD okD) (q5:JR i7 sD okD q sE okE):JR qV so ok ⟨n1,n2,n3,n4,q⟩ sE okE:=
 JR.bind (g:=fun a l=>(jq l).bind fun b=>(jq b.2).bind fun c=>(jq c.2).bind fun d=>(i7 d.2).bind fun e=>some ((⟨a,b.1,c.1,d.1,e.1⟩:cb),e.2)) q1
  (JR.bind (g:=fun b l=>(jq l).bind fun c=>(jq c.2).bind fun d=>(i7 d.2).bind fun e=>some ((⟨n1,b,c.1,d.1,e.1⟩:cb),e.2)) q2
    (JR.bind (g:=fun c l=>(jq l).bind fun d=>(i7 d.2).bind fun e=>some ((⟨n1,n2,c,d.1,e.1⟩:cb),e.2)) q3
      (JR.bind (g:=fun d l=>(i7 l).bind fun e=>some ((⟨n1,n2,n3,d,e.1⟩:cb),e.2)) q4 (q5.map fun e=>(⟨n1,n2,n3,n4,e⟩:cb)))))
theorem wr.stableX {b:Nat} {q:fi} {X:Nat→Prop} (hX:∀k,X k→k<b):cP (Mv X) (wr b q):=fun _ _ _ ⟨x,y,h,h2⟩ hm=>⟨x,y,h,h2.mv (hm.weak fun j hj _=>hX j hj) fun _ hk=>.inl hk⟩
theorem wr.up {b c:Nat} {q:fi} {v:Value} {w:World} (hc:b≤c) (h:wr c q v w):wr b q v w:=by
 obtain⟨x,y,h1,h2⟩:=h
 exact⟨x,y,h1,h2.weak fun j hj=>.inl (by show j<c;omega)⟩
theorem wt.stableX {α:Type} {b sz:Nat} {f:α→Dt} {l:List α} {X:Nat→Prop} (hX:∀k,X k→k<b):cP (Mv X) (wt b sz f l):=fun _ _ _ ⟨cs,h1,h2,h3,h4⟩ hm=>
 ⟨cs,h1.mv hm fun k hk hx=>by have:=h2 k hk;have:=hX k hx;omega,h2,h3,aR.mv (hm.weak fun j hj _=>hX j hj) (fun _ hk=>.inl hk) h4⟩
theorem jH.stableZ {h g:Nat} {st:Option (List UInt8)} {ok:Bool}:d6 (jH h g st ok):=fun _ _ hm hx=>hm.ext hx
theorem ij {k:Nat} (hk:k<18446744073709551616):(0:UInt64)<UInt64.ofNat k↔0<k:=by
 rw[UInt64.lt_iff_toNat_lt,UInt64.toNat_ofNat',show(0:UInt64).toNat=0 from rfl]
 omega
theorem uW {k:Nat} (hk:k+1<18446744073709551616):UInt64.ofNat (k+1)-1=UInt64.ofNat k:=by
 have hkn:(UInt64.ofNat (k+1)).toNat=k+1:=by rw[UInt64.toNat_ofNat'];omega
 refine UInt64.toNat_inj.1 ?_
 rw[UInt64.toNat_sub_of_le _ _ (UInt64.le_iff_toNat_le.2 (by rw[hkn];show 1≤_;omega)),hkn,UInt64.toNat_ofNat',show(1:UInt64).toNat=1 from rfl]
 omega
theorem pY {w:World} {h g:Nat} {st:Option (List UInt8)} {ok:Bool} (hm:jH h g st ok w) (hl:iJ st):
 Calls Tryz.prog 129 #[.pointer (some ⟨h,0,none⟩)] w (bE fun r w'=>Mv (lJ h g) w w'∧∃ps s1 ok1,cH (fun k=>k<w.heap.size) w' (gS ps) [r]∧r.oneCell'=true∧jH h g s1 ok1 w'∧JR gP st ok ps s1 ok1∧∀k,tD k st→tD k s1):=by
 refine enter (vs:=[.pointer (some ⟨h,0,none⟩)]) Tryz.func129 MI MI MI ?_
 have hlt:=hm.blk.lt
 have hgh:=hm.lt
 have hX:∀k,lJ h g k→k<w.heap.size:=fun k hk=>by rcases hk with rfl|rfl<;>omega
 obtain⟨N,s0,ok0,qU,hN,aU,cU⟩:=pi st ok (most:=1048576) (by omega)
 refine af (aa (ac MI MI (ag (ab (af (aa (ac MI MI (ag (ab (af (af (aa (ae MI MI (am lu MI MI ((cU hm)) ?_))))))))))))))
 rintro v7 w7 ⟨m7,rfl,hm7⟩
 have m7:=m7
 refine ac MI MI (ag (ab (aF ?_)))
 refine rP (fun(k:Nat) (v:Value) (so:Option (List UInt8)) (oko:Bool) (ps:List cb)=>[(0,.pointer (some ⟨h,0,none⟩)),(3,v),(4,bF (UInt64.ofNat k))]) (fun(k:Nat) (v:Value) (so:Option (List UInt8)) (oko:Bool) (ps:List cb) w'=>Mv (lJ h g) w w'∧jH h g so oko w'∧f9 187 7 w.heap.size bN ps v w'∧FL qV ok (st.bind gP) so oko k ps∧k+ps.length≤1048576∧∀j,tD j st→tD j so) (fun(k:Nat) (v:Value) (so:Option (List UInt8)) (oko:Bool) (ps:List cb)=>k) (N) (.slice none 0 0) (s0) (ok0) ([]) ⟨rfl,rfl,rfl,trivial⟩ ⟨m7,hm7,f9.nil _,FL.start qU,by simpa using hN,aU⟩ ?_
 rintro k v so oko ps wL ⟨mL,hmL,oL,hF,hk,aL⟩
 refine af (af ?_)
 have szL:=mL.size
 have hvo:v.oneCell'=true:=by obtain⟨_,_,_,rfl⟩:=oL.isS;rfl
 rcases Nat.eq_zero_or_pos k with h0|h0
 rotate_left
 rcases oko with _|_
 rotate_left
 ·refine aa (ae MI MI (al (v:=bF 0) MI MI MI (cJ ((ij (by omega)).2 h0) cL) (ae MI MI (aj MI (ae MI MI (aj MI (ax MI MI ?_)))))))
  refine aj MI (ah MI MI (aq (o:=1) Mp MI (by kernel_rfl) MI) (aj MI (ak MI MI (ai Mi MI (hmL.blk.cell (i:=1) MI)) ?_)))
  refine ap MI MI MI (ag (ab (bh MI (aA (ab (af (aF (af ?_))))))))
  obtain⟨k',rfl⟩:∃k',k=k'+1:=⟨k-1,by omega⟩
  obtain⟨n1,sA,okA,q1,i1,a1,c1⟩:=pj so true
  obtain⟨n2,sB,nn,q2,i2,a2,c2⟩:=pj sA okA
  obtain⟨n3,sC,okC,q3,i3,a3,c3⟩:=pj sB nn
  obtain⟨n4,sD,okD,q4,i4,a4,c4⟩:=pj sC okC
  obtain⟨q,sE,okE,q5,a5,c5⟩:=Ap sD okD (a4 _ (a3 _ (a2 _ (a1 _ (aL _ hl)))))
  have qM:=JA q1 q2 q3 q4 q5
  refine aa (ae MI MI (am lw MI MI ((c1 hmL)) ?_))
  rintro v19 w19 ⟨m19,rfl,hm19⟩
  have m19:=m19
  refine ae MI MI (am lw MI MI ((c2 hm19)) ?_)
  rintro v21 w21 ⟨m21,rfl,hm21⟩
  have m21:=m21
  refine ae MI MI (am lw MI MI ((c3 hm21)) ?_)
  rintro v23 w23 ⟨m23,rfl,hm23⟩
  have m23:=m23
  refine ae MI MI (am lw MI MI ((c4 hm23)) ?_)
  rintro v25 w25 ⟨m25,rfl,hm25⟩
  have m25:=m25
  have m4:Mv (lJ h g) wL w25:=((m19.trans m21 fun _ h _=>h).trans m23 fun _ h _=>h).trans m25 fun _ h _=>h
  refine bz (vs:=[(0,I n1),(1,I n2),(2,I n3),(3,I n4)]) (r:=.agg #[I n1,I n2,I n3,I n4]) MI MI (run_build _ _ _ _ (by kernel_rfl)) ?_
  obtain⟨g5,w5,hr5,l5,x5,k5⟩:=aY (P:=Tryz.prog) (w:=w25) (t:=185) (z:=.agg #[I 0,I 0,I 0,I 0]) (l:=[I 0,I 0,I 0,I 0]) (by kernel_rfl) rfl
  refine aV MI hr5 ?_
  obtain⟨wd,sd,qd,kd⟩:=k5.stS (P:=Tryz.prog) (t:=185) (m:=[I n1,I n2,I n3,I n4]) rfl (by kernel_rfl) (au.cons rfl (au.cons rfl (au.cons rfl (au.cons rfl au.nil))))
  refine ar MI MI sd ?_
  have xd:=aK.of_new x5 qd l5
  refine ag (ab ?_)
  have hmd:=hm25.ext xd
  have mLd:Mv (lJ h g) wL wd:=m4.trans (Mv.of_ext xd) fun _ h _=>h
  have szd:=mLd.size
  have hXd:∀k,lJ h g k→k<wd.heap.size:=fun k hk=>by have:=hX k hk;omega
  have nX5:¬lJ h g g5:=fun hh=>by have:=m4.size;have:=hX g5 hh;omega
  refine rI 6 [0,4,27,32] (Mv (lJ h g) wd) (Mv (lJ h g)) true Kl (jH h g sD okD) (kA.mv _ _) (Mv.refl _ _) jH.stableZ hmd (fun _ _ _ _ h=>h.elim) (fun _=>by kernel_rfl) (by kernel_rfl) (by kernel_rfl) ?_
  refine aC rfl rfl (aO rfl rfl (fun w hw=>(hw.blk kd nX5).ld Mx rfl (by kernel_rfl)) (aC rfl rfl (uJ (S:=wr wd.heap.size q) (Z':=jH h g sE okE) uV rfl (wr.stableX hXd) (jH.stableZ) rfl (fun w hw hz=>by rintro _ rfl;exact(c5 hz).mono fun _ _ ⟨r,he,h1,h2,h3⟩=>.inl ⟨r,he,h1,h2.up hw.size,h3⟩) ?_)))
  refine uI (S:=fun v w'=>∃x y,v=.agg #[I n1,I n2,I n3,I n4,B q.1,x,y]∧cH (fun k=>k<wd.heap.size) w' (iY q) [B q.1,x,y]) (fun _ _ _ ⟨x,y,h,h2⟩ hm=>⟨x,y,h,h2.mv (hm.weak fun j hj _=>hXd j hj) fun _ hk=>.inl hk⟩) MI (fun w' hw=>by
 rintro _ rfl _ ⟨x,y,rfl,h⟩
 exact⟨_,w',run_build _ _ _ _ (by kernel_rfl),aK.refl _,x,y,rfl,h⟩) ?_
  refine fQ (S:=wt wd.heap.size 7 bN [⟨n1,n2,n3,n4,q⟩]) (wt.stableX hXd) MI (fun w' hw=>by
 rintro _ ⟨x,y,rfl,h⟩
 exact HH (cs:=[I n1,I n2,I n3,I n4,B q.1,x,y]) Mm tJ rfl (by omega) (by omega) hw.size (au.cons rfl (au.cons rfl (au.cons rfl (au.cons rfl (au.cons rfl (au.cons (ko h).1 (au.cons (ko h).2 au.nil))))))) (yv (m:=⟨n1,n2,n3,n4,q⟩) h) (dA _)) ?_
  refine cp ?_
  intro wg6 xg6 zg6
  rintro _ rfl
  rintro _ rfl
  rintro _ hq27
  obtain rfl:=Eq.symm hq27
  intro vg32 b32
  obtain⟨cs,hcs,hown,h1cs,hall⟩:=b32
  have mAll:Mv (lJ h g) wL wg6:=mLd.trans xg6 fun _ hj _=>hj
  have oG:=oL.mv mAll hX
  have own:∀j,v.ownBlock=some j→w.heap.size≤j∧j<wL.heap.size:=oL.lt
  have hM:=(aR.one hall).weak (Y:=fun k=>k<w.heap.size∨v.ownBlock=some k) fun j hj=>.inl (by
   rcases hj with hj|hj
   ·show j<wd.heap.size;omega
   ·have:=(own j hj).2;show j<wd.heap.size;omega)
  obtain⟨v33,w33,hr33,o33,g33⟩:=oG.app (t:=50) (ty:=50) Mm tJ rfl (by omega) (by omega) hcs h1cs hM dA (by omega) (Nat.le_trans szL mAll.size)
  have m33:Mv (fun k=>v.ownBlock=some k) wg6 w33:=Mv.of_grown g33.grown fun k hk _=>hk
  have h33:jH h g sE okE w33:=zg6.mv m33 fun j hj=>by have:=own j hj;omega
  refine a6 MI MI hr33 ?_
  refine ac MI MI (ag (aS (ab (aa (ae MI MI (al (v:=bF 1) (r:=bF (UInt64.ofNat k')) MI MI MI ((by rw[←uW (k:=k') (by omega)];exact dP)) ?_))))))
  refine ac MI MI (ag ?_)
  refine ol (k') (v33) (sE) (okE) (ps++[⟨n1,n2,n3,n4,q⟩]) ⟨rfl,rfl,rfl,trivial⟩ ⟨(mL.trans mAll fun _ hj _=>hj).trans m33 fun j hj hlt=>by have:=(own j hj).1;omega,h33,o33,hF.step qM,by simp;omega,fun j hj=>a5 _ (a4 _ (a3 _ (a2 _ (a1 _ (aL _ hj)))))⟩ (by omega)
 ·refine aa (ae MI MI (al (v:=bF 0) MI MI MI (dm (mt (ij (by omega)).1 (by omega)) cL) (ae MI MI (an MI MI MI (an MI MI MI ?_)))))
  refine an MI MI MI (an MI MI MI (aD MI MI MI (ag (ab (cq MI (bc (aJ (aJ (bf (ab (af (aa (ae MI MI (ac MI MI (ag (ab ?_))))))))))))))))
  refine aw (az MI MI ?_)
  exact⟨_,rfl,mL,ps,so,oko,oL.rpx dA (by omega),hvo,hmL,hF.jr (fun _=>h0),aL⟩
 ·refine aa (ae MI MI (al (v:=bF 0) MI MI MI (cJ ((ij (by omega)).2 h0) cL) (ae MI MI (aj MI (ae MI MI (aj MI (ax MI MI ?_)))))))
  refine aj MI (ah MI MI (aq (o:=1) Mp MI (by kernel_rfl) MI) (aj MI (ak MI MI (ai Mi MI (hmL.blk.cell (i:=1) MI)) ?_)))
  refine ap MI MI MI (ag (ab (cq MI (bc (aJ (aJ (bf (ab (af (aa (ae MI MI (ac MI MI (ag (ab (aw (az MI MI ?_))))))))))))))))
  exact⟨_,rfl,mL,ps,so,false,oL.rpx dA (by omega),hvo,hmL,hF.jr (fun h=>by cases h),aL⟩
end Go.Rl
namespace Go.Rl
open Go.RowKit Go.Proofs
theorem JB:aG Tryz.prog 91:=⟨_,Tryz.func91,by kernel_rfl,rfl⟩
theorem Lc {so sA sB sC:Option (List UInt8)} {ok okA nn okC:Bool} {n1 n2:Int} {q:fi} (q1:JR jq so ok n1 sA okA) (q2:JR jq sA okA n2 sB nn) (q3:JR i7 sB nn q sC okC):JR oa so ok ⟨n1,n2,q⟩ sC okC:=
 JR.bind (g:=fun a l=>(jq l).bind fun b=>(i7 b.2).bind fun c=>some ((⟨a,b.1,c.1⟩:bS),c.2)) q1
  (JR.bind (g:=fun b l=>(i7 l).bind fun c=>some ((⟨n1,b,c.1⟩:bS),c.2)) q2 (q3.map fun c=>(⟨n1,n2,c⟩:bS)))
theorem Iu {so sA sB sC sD:Option (List UInt8)} {ok okA nn okC okD:Bool} {n:Int} {nb:Nat} {q:fi} {ps:List cb} (q1:JR jq so ok n sA okA) (q2:JR (jP 1) sA okA nb sB nn) (q3:JR i7 sB nn q sC okC) (q4:JR gP sC okC ps sD okD):JR Ez so ok ⟨n,bT nb,q,ps⟩ sD okD:=
 JR.bind (g:=fun a l=>(jP 1 l).bind fun b=>(i7 b.2).bind fun c=>(gP c.2).bind fun d=>some ((⟨a,bT b.1,c.1,d.1⟩:dI),d.2)) q1
  (JR.bind (g:=fun b l=>(i7 l).bind fun c=>(gP c.2).bind fun d=>some ((⟨n,bT b,c.1,d.1⟩:dI),d.2)) q2
    (JR.bind (g:=fun c l=>(gP l).bind fun d=>some ((⟨n,bT nb,c,d.1⟩:dI),d.2)) q3 (q4.map fun d=>(⟨n,bT nb,q,d⟩:dI))))
theorem Aq {so sA sB sC sD:Option (List UInt8)} {ok okA nn okC okD:Bool} {ds:List bS} {nb:Nat} {ls:List dI} {ps:List cb} (q1:JR (od 2048 oa) so ok ds sA okA) (q2:JR (jP 1) sA okA nb sB nn) (q3:JR (od 1073741824 Ez) sB nn ls sC okC) (q4:JR gP sC okC ps sD okD):JR Gr so ok ⟨ds,.mk ls li [] (bT nb) ps⟩ sD okD:=
 JR.bind (g:=fun a l=>(jP 1 l).bind fun b=>(od 1073741824 Ez b.2).bind fun c=>(gP c.2).bind fun d=>some ((⟨a,.mk c.1 li [] (bT b.1) d.1⟩:cc),d.2)) q1
  (JR.bind (g:=fun b l=>(od 1073741824 Ez l).bind fun c=>(gP c.2).bind fun d=>some ((⟨ds,.mk c.1 li [] (bT b) d.1⟩:cc),d.2)) q2
    (JR.bind (g:=fun c l=>(gP l).bind fun d=>some ((⟨ds,.mk c li [] (bT nb) d.1⟩:cc),d.2)) q3 (q4.map fun d=>(⟨ds,.mk ls li [] (bT nb) d⟩:cc))))
theorem uX {P:Program} {w:World} {t:TypeId} {x y:Operand} {n:Nat} (hn:n≤1):(bin .eql t x y (bF (UInt64.ofNat n)) (bF 1)).run P w=.ok (B (bT n)) w:=by
 rcases(by omega:n=0∨n=1) with rfl|rfl<;>exact gG
def Ar (h g g3:Nat):Nat→Prop:=fun k=>lJ h g k∨k=g3
theorem JC {w:World} {h g:Nat} {st:Option (List UInt8)} {ok:Bool} (hm:jH h g st ok w) (hl:iJ st):
 Calls Tryz.prog 91 #[.pointer (some ⟨h,0,none⟩)] w (bE fun r w'=>Mv (lJ h g) w w'∧∃u cs s1 ok1,r=.agg cs.toArray∧cH (fun k=>k<w.heap.size) w' (jv u) cs∧au cs∧jH h g s1 ok1 w'∧JR Gr st ok u s1 ok1):=by
 refine enter (vs:=[.pointer (some ⟨h,0,none⟩)]) Tryz.func91 MI MI MI ?_
 have hlt:=hm.blk.lt
 have hgh:=hm.lt
 have hX:∀k,lJ h g k→k<w.heap.size:=fun k hk=>by rcases hk with rfl|rfl<;>omega
 obtain⟨N,s0,ok0,qU,hN,aU,cU⟩:=pi st ok (most:=2048) (by omega)
 refine af (aa ?_)
 obtain⟨g2,w2,hr2,l2,x2,k2⟩:=aY (P:=Tryz.prog) (w:=w) (t:=54) (z:=.agg #[.slice none 0 0,.slice none 0 0,I 0,I 0,B false,.slice none 0 0,.slice none 0 0,.slice none 0 0,B false,.slice none 0 0]) (l:=[.slice none 0 0,.slice none 0 0,I 0,I 0,B false,.slice none 0 0,.slice none 0 0,.slice none 0 0,B false,.slice none 0 0]) (by kernel_rfl) rfl
 refine aV MI hr2 (ag (ab (af (aa ?_))))
 obtain⟨g3,w3,hr3,l3,x3,k3⟩:=aY (P:=Tryz.prog) (w:=w2) (t:=54) (z:=.agg #[.slice none 0 0,.slice none 0 0,I 0,I 0,B false,.slice none 0 0,.slice none 0 0,.slice none 0 0,B false,.slice none 0 0]) (l:=[.slice none 0 0,.slice none 0 0,I 0,I 0,B false,.slice none 0 0,.slice none 0 0,.slice none 0 0,B false,.slice none 0 0]) (by kernel_rfl) rfl
 refine aV MI hr3 ?_
 have e3:=(x2.trans x3)
 have hm3:=hm.ext e3
 have k23:=k2.ext x3
 have g23:g2<g3:=by have:=k2.lt;omega
 have g3lt:=k3.lt
 have sz3:=e3.size
 have hX3:∀k,lJ h g k→k<g3:=fun k hk=>by have:=hX k hk;have:=x2.size;omega
 refine ag (ab (af (af (aa (ae MI MI (am lu MI MI ((cU hm3)) ?_))))))
 rintro v8 w8 ⟨m8,rfl,hm8⟩
 have m8:=m8
 refine ac MI MI (ag (ab (aF ?_)))
 refine rP (fun(k:Nat) (vd:Value) (so:Option (List UInt8)) (oko:Bool) (ds:List bS)=>[(0,.pointer (some ⟨h,0,none⟩)),(2,.pointer (some ⟨g2,0,none⟩)),(3,.pointer (some ⟨g3,0,none⟩)),(4,bF (UInt64.ofNat k))]) (fun(k:Nat) (vd:Value) (so:Option (List UInt8)) (oko:Bool) (ds:List bS) w'=>Mv (Ar h g g3) w3 w'∧jH h g so oko w'∧ci g3 54 (vd::BX) w'∧f9 48 5 w3.heap.size dy ds vd w'∧FL oa ok (st.bind (od 2048 oa)) so oko k ds∧k+ds.length≤2048∧∀j,tD j st→tD j so) (fun(k:Nat) (vd:Value) (so:Option (List UInt8)) (oko:Bool) (ds:List bS)=>k) (N) (.slice none 0 0) (s0) (ok0) ([]) ⟨rfl,rfl,rfl,rfl,trivial⟩ ⟨m8.weak fun _ hk _=>.inl hk,hm8,m8.blk k3 (fun hk=>by have:=hX3 _ hk;omega),f9.nil _,FL.start qU,by simpa using hN,aU⟩ ?_
 rintro k vd so oko ds wL ⟨mL,hmL,kL,oL,hF,hk,aL⟩
 refine af (af ?_)
 have szL:=mL.size
 have hvd:vd.oneCell'=true:=by obtain⟨_,_,_,rfl⟩:=oL.isS;rfl
 have k2L:=mL.blk k23 (fun hk=>hk.elim (fun hk=>by rcases hk with rfl|rfl<;>omega) (fun hk=>by omega))
 rcases Nat.eq_zero_or_pos k with h0|h0
 rotate_left
 rcases oko with _|_
 rotate_left
 ·refine aa (ae MI MI (al (v:=bF 0) MI MI MI (cJ ((ij (by omega)).2 h0) cL) (ae MI MI (aj MI (ae MI MI (aj MI (ax MI MI ?_)))))))
  refine aj MI (ah MI MI (aq (o:=1) Mp MI (by kernel_rfl) MI) (aj MI (ak MI MI (ai Mi MI (hmL.blk.cell (i:=1) MI)) ?_)))
  refine ap MI MI MI (ag (ab (bh MI (aA (ab (af (aF ?_)))))))
  obtain⟨k',rfl⟩:∃k',k=k'+1:=⟨k-1,by omega⟩
  obtain⟨n1,sA,okA,q1,i1,a1,c1⟩:=pj so true
  obtain⟨n2,sB,nn,q2,i2,a2,c2⟩:=pj sA okA
  obtain⟨q,sC,okC,q3,a3,c3⟩:=Ap sB nn (a2 _ (a1 _ (aL _ hl)))
  have qM:=Lc q1 q2 q3
  have hXL:∀k,lJ h g k→k<wL.heap.size:=fun k hk=>by have:=hX k hk;omega
  refine rI 10 [0,2,3,4,20,28] (Mv (lJ h g) wL) (Mv (lJ h g)) true Kl (jH h g so true) (kA.mv _ _) (Mv.refl _ _) jH.stableZ hmL (fun _ _ _ _ h=>h.elim) (fun _=>by kernel_rfl) (by kernel_rfl) (by kernel_rfl) ?_
  refine aT MI MI (fun w hw=>aq (o:=0) Md MI (by kernel_rfl) MI) (aO MI MI (fun w hw=>ai Mj MI ((hw.blk kL (fun hk=>by have:=hX3 _ hk;omega)).cell (i:=0) MI)) ?_)
  refine aC rfl rfl (uJ (S:=Is (I n1)) (Z':=jH h g sA okA) lw rfl (ca.is _) (jH.stableZ) rfl (fun w hw hz=>by rintro _ rfl;exact(c1 hz).mono fun _ _ ⟨r,he,h1,h2,h3⟩=>.inl ⟨r,he,h1,h2,h3⟩) ?_)
  refine aC rfl rfl (uJ (S:=Is (I n2)) (Z':=jH h g sB nn) lw rfl (ca.is _) (jH.stableZ) rfl (fun w hw hz=>by rintro _ rfl;exact(c2 hz).mono fun _ _ ⟨r,he,h1,h2,h3⟩=>.inl ⟨r,he,h1,h2,h3⟩) ?_)
  refine aC rfl rfl (uJ (S:=wr wL.heap.size q) (Z':=jH h g sC okC) uV rfl (wr.stableX hXL) (jH.stableZ) rfl (fun w hw hz=>by rintro _ rfl;exact(c3 hz).mono fun _ _ ⟨r,he,h1,h2,h3⟩=>.inl ⟨r,he,h1,h2.up hw.size,h3⟩) ?_)
  refine uI (S:=fun v w'=>∃x y,v=.agg #[I n1,I n2,B q.1,x,y]∧cH (fun k=>k<wL.heap.size) w' (iY q) [B q.1,x,y]) (fun _ _ _ ⟨x,y,h,h2⟩ hm=>⟨x,y,h,h2.mv (hm.weak fun j hj _=>hXL j hj) fun _ hk=>.inl hk⟩) MI (fun w' hw=>by
 rintro _ rfl _ rfl _ ⟨x,y,rfl,h⟩
 exact⟨_,w',run_build _ _ _ _ (by kernel_rfl),aK.refl _,x,y,rfl,h⟩) ?_
  refine fQ (S:=wt wL.heap.size 5 dy [⟨n1,n2,q⟩]) (wt.stableX hXL) MI (fun w' hw=>by
 rintro _ ⟨x,y,rfl,h⟩
 exact HH (cs:=[I n1,I n2,B q.1,x,y]) Mj o0 rfl (by omega) (by omega) hw.size (au.cons rfl (au.cons rfl (au.cons rfl (au.cons (ko h).1 (au.cons (ko h).2 au.nil))))) (wm (d:=⟨n1,n2,q⟩) h) (ce _)) ?_
  refine cp ?_
  intro wg5 xg5 zg5
  rintro _ rfl
  rintro _ rfl
  rintro _ rfl
  rintro _ rfl
  rintro _ hq20
  obtain rfl:=Eq.symm hq20
  intro vg28 b28
  obtain⟨cs,hcs,hown,h1cs,hall⟩:=b28
  have oG:=oL.mv xg5 fun k hk=>by have:=hX k hk;omega
  have own:∀j,vd.ownBlock=some j→w3.heap.size≤j∧j<wL.heap.size:=oL.lt
  have hM:=(aR.one hall).weak (Y:=fun k=>k<w3.heap.size∨vd.ownBlock=some k) fun j hj=>.inl (by
   rcases hj with hj|hj
   ·show j<wL.heap.size;omega
   ·have:=(own j hj).2;show j<wL.heap.size;omega)
  obtain⟨v29,w29,hr29,o29,g29⟩:=oG.app (t:=41) (ty:=41) Mj o0 rfl (by omega) (by omega) hcs h1cs hM ce (by omega) (Nat.le_trans szL xg5.size)
  have m29:Mv (fun k=>vd.ownBlock=some k) wg5 w29:=Mv.of_grown g29.grown fun k hk _=>hk
  have h29:jH h g sC okC w29:=zg5.mv m29 fun j hj=>by have:=own j hj;omega
  have k29:=m29.blk (xg5.blk kL (fun hk=>by have:=hX3 _ hk;omega)) (fun e=>by have:=own g3 e;omega)
  have hv29:v29.oneCell'=true:=by obtain⟨_,_,_,rfl⟩:=o29.isS;rfl
  obtain⟨wz,sz,qz,kz⟩:=k29.stC (P:=Tryz.prog) (t:=41) (i:=0) (v:=v29) (by kernel_rfl) hv29 (by simp)
  have mz:Mv (fun k=>k=g3) w29 wz:=Mv.of_grown qz fun k hk _=>(Option.some.inj hk).symm
  refine a6 MI MI hr29 ?_
  refine ah MI MI (aq (o:=0) Md MI (by kernel_rfl) MI) ?_
  refine ar MI MI sz ?_
  refine ag (aS (ab (aa (ae MI MI (al (v:=bF 1) (r:=bF (UInt64.ofNat k')) MI MI MI ((by rw[←uW (k:=k') (by omega)];exact dP)) ?_)))))
  refine ac MI MI (ag ?_)
  refine ol (k') (v29) (sC) (okC) (ds++[⟨n1,n2,q⟩]) ⟨rfl,rfl,rfl,rfl,trivial⟩ ⟨((mL.trans (xg5.weak fun j hj _=>.inl hj) fun _ hj _=>hj).trans m29 fun j hj hlt=>by have:=(own j hj).1;omega).trans (mz.weak fun j hj _=>.inr hj) fun _ hj _=>hj,h29.mv mz fun j hj=>by have:=hX3 h (.inl MI);omega,kz,o29.mv mz (fun j hj=>by omega),hF.step qM,by simp;omega,fun j hj=>a3 _ (a2 _ (a1 _ (aL _ hj)))⟩ (by omega)
 ·have hJ:=hF.jr (fun _=>h0)
  have hmL':=hmL
  refine aa (ae MI MI (al (v:=bF 0) MI MI MI (dm (mt (ij (by omega)).1 (by omega)) cL) (ae MI MI (an MI MI MI (an MI MI MI ?_)))))
  refine an MI MI MI (an MI MI MI (aD MI MI MI (ag (ab (cq MI (bc (aJ (aJ (bf (ab (af ?_)))))))))))
  obtain⟨nb,s5,ok5,qB,hB1,aB,cB⟩:=pi so oko (most:=1) (by omega)
  obtain⟨N2,s6,ok6,qU2,hN2,aU2,cU2⟩:=pi s5 ok5 (most:=1073741824) (by omega)
  refine aa (ae MI MI (am lu MI MI ((cB hmL')) ?_))
  rintro v32 w32 ⟨m32,rfl,hm32⟩
  have m32:=m32
  have k32:=m32.blk kL (fun hk=>by have:=hX3 _ hk;omega)
  obtain⟨wb,sb,qb,kb⟩:=k32.stC (P:=Tryz.prog) (t:=4) (i:=8) (v:=B (bT nb)) nO rfl (by simp)
  have mb:Mv (fun k=>k=g3) w32 wb:=Mv.of_grown qb fun k hk _=>(Option.some.inj hk).symm
  have hmb:=hm32.mv mb fun j hj=>by have:=hX3 h (.inl rfl);omega
  have mLb:Mv (Ar h g g3) wL wb:=(m32.weak fun j hj _=>.inl hj).trans (mb.weak fun j hj _=>.inr hj) fun _ hj _=>hj
  have hJX:∀k,Ar h g g3 k→k≤g3:=fun k hk=>hk.elim (fun hk=>by have:=hX3 k hk;omega) (fun hk=>by omega)
  have oDb:=oL.mv mLb fun k hk=>by have:=hJX k hk;omega
  have k2b:=mLb.blk k2L (fun hk=>hk.elim (fun hk=>by rcases hk with rfl|rfl<;>omega) (fun hk=>by omega))
  have kb:ci g3 54 [vd,.slice none 0 0,I 0,I 0,B false,.slice none 0 0,.slice none 0 0,.slice none 0 0,B (bT nb),.slice none 0 0] wb:=kb
  refine al (v:=bF 1) (r:=B (bT nb)) MI MI MI ((uX hB1)) ?_
  refine ah MI MI (aq (o:=1) Md MI (by kernel_rfl) MI) ?_
  refine ah MI MI (cD (b:=1) (o:=7) L9 MI (by kernel_rfl) MI) ?_
  refine ar MI MI sb ?_
  refine ag (ab (af (af (aa (ae MI MI (am lu MI MI ((cU2 hmb)) ?_))))))
  rintro v37 w37 ⟨m37,rfl,hm37⟩
  have m37:=m37
  have k37:=m37.blk kb (fun hk=>by have:=hX3 _ hk;omega)
  have k2c:=m37.blk k2b (by rintro(rfl|rfl)<;>omega)
  have oDc:=oDb.mv m37 fun k hk=>by have:=hX k hk;omega
  have szb:=mLb.size
  have sz37:=m37.size
  refine ac MI MI (ag (ab (aF ?_)))
  refine rP (fun(k2:Nat) (vl:Value) (so2:Option (List UInt8)) (oko2:Bool) (ls:List dI)=>[(0,.pointer (some ⟨h,0,none⟩)),(2,.pointer (some ⟨g2,0,none⟩)),(3,.pointer (some ⟨g3,0,none⟩)),(5,bF (UInt64.ofNat k2))]) (fun(k2:Nat) (vl:Value) (so2:Option (List UInt8)) (oko2:Bool) (ls:List dI) w'=>Mv (Ar h g g3) w37 w'∧jH h g so2 oko2 w'∧ci g3 54 [vd,vl,I 0,I 0,B false,.slice none 0 0,.slice none 0 0,.slice none 0 0,B (bT nb),.slice none 0 0] w'∧f9 173 6 w37.heap.size cY ls vl w'∧FL Ez ok5 (s5.bind (od 1073741824 Ez)) so2 oko2 k2 ls∧k2+ls.length≤1073741824∧∀j,tD j st→tD j so2) (fun(k2:Nat) (vl:Value) (so2:Option (List UInt8)) (oko2:Bool) (ls:List dI)=>k2) (N2) (.slice none 0 0) (s6) (ok6) ([]) ⟨rfl,rfl,rfl,rfl,trivial⟩ ⟨Mv.refl _ _,hm37,k37,f9.nil _,FL.start qU2,by simpa using hN2,fun j hj=>aU2 _ (aB _ (aL _ hj))⟩ ?_
  rintro k2 vl so2 oko2 ls wM ⟨mM,hmM,kM,oM,hF2,hk2,aM⟩
  refine af (af ?_)
  have szM:=mM.size
  have hvl:vl.oneCell'=true:=by obtain⟨_,_,_,rfl⟩:=oM.isS;rfl
  have k2M:=mM.blk k2c (fun hk=>hk.elim (fun hk=>by rcases hk with rfl|rfl<;>omega) (fun hk=>by omega))
  have oDM:=oDc.mv mM fun k hk=>by have:=hJX k hk;omega
  rcases Nat.eq_zero_or_pos k2 with h0'|h0'
  rotate_left
  rcases oko2 with _|_
  rotate_left
  ·refine aa (ae MI MI (al (v:=bF 0) MI MI MI (cJ ((ij (by omega)).2 h0') cL) (ae MI MI (aj MI (ae MI MI (aj MI (ax MI MI ?_)))))))
   refine aj MI (ah MI MI (aq (o:=1) Mp MI (by kernel_rfl) MI) (aj MI (ak MI MI (ai Mi MI (hmM.blk.cell (i:=1) MI)) ?_)))
   refine ap MI MI MI (ag (ab (bh MI (aA (ab (af (aF (af ?_))))))))
   obtain⟨k',rfl⟩:∃k',k2=k'+1:=⟨k2-1,by omega⟩
   obtain⟨n1,sA,okA,q1,i1,a1,c1⟩:=pj so2 true
   obtain⟨nc,sB,nn,q2,hc1,a2,c2⟩:=pi sA okA (most:=1) (by omega)
   obtain⟨q,sC,okC,q3,a3,c3⟩:=Ap sB nn (a2 _ (a1 _ (aM _ hl)))
   refine aa (ae MI MI (am lw MI MI ((c1 hmM)) ?_))
   rintro v49 w49 ⟨m49,rfl,hm49⟩
   have m49:=m49
   refine ae MI MI (am lu MI MI ((c2 hm49)) ?_)
   rintro v51 w51 ⟨m51,rfl,hm51⟩
   have m51:=m51
   refine al (v:=bF 1) (r:=B (bT nc)) MI MI MI ((uX hc1)) (ae MI MI (am uV MI MI ((c3 hm51)) ?_))
   rintro v54 w54 ⟨m54,⟨x,y,rfl,rq⟩,hm54⟩
   have m54:=m54
   have m3:Mv (lJ h g) wM w54:=(m49.trans m51 fun _ hj _=>hj).trans m54 fun _ hj _=>hj
   have hxy:=ko rq
   refine bz (vs:=[(0,I n1),(1,B (bT nc)),(2,.agg #[B q.1,x,y])]) (r:=.agg #[I n1,B (bT nc),B q.1,x,y,.slice none 0 0]) MI MI (run_build _ _ _ _ (by kernel_rfl)) ?_
   obtain⟨g6,w6,hr6,l6,x6,k6⟩:=aY (P:=Tryz.prog) (w:=w54) (t:=173) (z:=.agg #[I 0,B false,B false,.slice none 0 0,.slice none 0 0,.slice none 0 0]) (l:=[I 0,B false,B false,.slice none 0 0,.slice none 0 0,.slice none 0 0]) (by kernel_rfl) rfl
   refine aV MI hr6 ?_
   obtain⟨wd,sd,qd,kd⟩:=k6.stS (P:=Tryz.prog) (t:=173) (m:=[I n1,B (bT nc),B q.1,x,y,.slice none 0 0]) rfl (by kernel_rfl) (au.cons rfl (au.cons rfl (au.cons rfl (au.cons hxy.1 (au.cons hxy.2 (au.cons rfl au.nil))))))
   refine ar MI MI sd ?_
   have xd:=aK.of_new x6 qd l6
   have hmd:=hm54.ext xd
   have mMd:Mv (lJ h g) wM wd:=m3.trans (Mv.of_ext xd) fun _ hj _=>hj
   have g6M:wM.heap.size≤g6:=by have:=m3.size;omega
   refine ag (ab (af (aa (ae MI MI (am pW MI MI ((pY hmd (a3 _ (a2 _ (a1 _ (aM _ hl)))))) ?_)))))
   rintro v57 w57 ⟨m57,ps,s4,ok4,rp57,h1p,hm57,q4,a4⟩
   have m57:=m57
   have qM:=Iu q1 q2 q3 q4
   have k6a:=m57.blk kd (fun hk=>by have:=hX _ hk;omega)
   obtain⟨we,se,qe,ke⟩:=k6a.stC (P:=Tryz.prog) (t:=50) (i:=5) (v:=v57) (by kernel_rfl) h1p (by simp)
   have me:Mv (fun k=>k=g6) w57 we:=Mv.of_grown qe fun k hk _=>(Option.some.inj hk).symm
   have ke:ci g6 173 [I n1,B (bT nc),B q.1,x,y,v57] we:=ke
   have hme:=hm57.mv me fun j hj=>by omega
   have mMe:Mv (lJ h g) wM we:=(mMd.trans m57 fun _ hj _=>hj).trans me fun j hj hlt=>by omega
   have k3e:=mMe.blk kM (fun hk=>by have:=hX3 _ hk;omega)
   have oMe:=oM.mv mMe fun k hk=>by have:=hX k hk;omega
   have own:∀j,vl.ownBlock=some j→w37.heap.size≤j∧j<wM.heap.size:=oM.lt
   have szd:=mMd.size
   have sz54:=m51.size
   have sz49:=m49.size
   have g6d:g6<wd.heap.size:=kd.lt
   have rq0:=(rq.weak (Y:=fun k=>k<wM.heap.size∨k=g6) fun j hj=>hj.elim (fun hj=>.inl (by show j<w51.heap.size;omega)) (fun hj=>.inr (by omega))).ext xd
   have rqe:cH (fun k=>k<wM.heap.size) we (iY q) [B q.1,x,y]:=(((rq0.mv (m57.weak fun j hj _=>.inl (by have:=hX j hj;omega)) fun _ hj=>.inl hj).mv (me.weak fun j hj _=>.inr hj) fun _ hj=>.inl hj).weak fun _ hj=>.inl (.inl hj))
   have rpe:cH (fun k=>k<wM.heap.size) we (gS ps) [v57]:=(rp57.mv (me.weak fun j hj _=>by show j<wd.heap.size;omega) fun _ hj=>.inl hj).weak fun j hj=>.inl (by show j<wd.heap.size;omega)
   have h1L:au [I n1,B (bT nc),B q.1,x,y,v57]:=au.cons rfl (au.cons rfl (au.cons rfl (au.cons hxy.1 (au.cons hxy.2 (au.cons h1p au.nil)))))
   obtain⟨x63,w63,v64,w64,hr63,hr64,o64,m64,n64⟩:=oMe.push (ty:=42) (t:=42) Ml wo rfl (by omega) (by omega) (by omega) h1L ((wq (l:=⟨n1,bT nc,q,ps⟩) rqe rpe).weak fun j hj=>.inl (by
    rcases hj with hj|hj
    ·show j<wM.heap.size;omega
    ·have:=(own j hj).2;show j<wM.heap.size;omega)) cx (by omega) (Nat.le_trans szM mMe.size)
   have k3f:=m64.blk k3e (fun e=>by have:=own g3 e;omega)
   have hv64:v64.oneCell'=true:=by obtain⟨_,_,_,rfl⟩:=o64.isS;rfl
   obtain⟨wz,sz,qz,kz⟩:=k3f.stC (P:=Tryz.prog) (t:=42) (i:=1) (v:=v64) (by kernel_rfl) hv64 (by simp)
   have mz:Mv (fun k=>k=g3) w64 wz:=Mv.of_grown qz fun k hk _=>(Option.some.inj hk).symm
   refine ah MI MI (aq (o:=5) Mn MI (by kernel_rfl) MI) ?_
   refine ar MI MI se ?_
   refine ag (ab (aa ?_))
   refine ah MI MI (aq (o:=1) Md MI (by kernel_rfl) MI) ?_
   refine ah MI MI (cD (b:=1) (o:=0) L9 MI (by kernel_rfl) MI) ?_
   refine ak MI MI (ai Ml MI (k3e.cell (i:=1) MI)) ?_
   refine ak MI MI (ke.ld Mn MI (by kernel_rfl)) ?_
   refine aI (vs:=[(0,.agg #[I n1,B (bT nc),B q.1,x,y,v57])]) MI MI hr63 ?_
   refine a6 MI MI hr64 ?_
   refine ah MI MI (aq (o:=1) Md MI (by kernel_rfl) MI) ?_
   refine ah MI MI (cD (b:=1) (o:=0) L9 MI (by kernel_rfl) MI) ?_
   refine ar MI MI sz ?_
   refine ag (aS (ab (aa (ae MI MI (al (v:=bF 1) (r:=bF (UInt64.ofNat k')) MI MI MI ((by rw[←uW (k:=k') (by omega)];exact dP)) ?_)))))
   refine ac MI MI (ag ?_)
   refine ol (k') (v64) (s4) (ok4) (ls++[⟨n1,bT nc,q,ps⟩]) ⟨rfl,rfl,rfl,rfl,trivial⟩ ⟨((mM.trans (mMe.weak fun j hj _=>.inl hj) fun _ hj _=>hj).trans m64 fun j hj hlt=>by have:=(own j hj).1;omega).trans (mz.weak fun j hj _=>.inr hj) fun _ hj _=>hj,(hme.mv m64 fun j hj=>by have:=own j hj;omega).mv mz fun j hj=>by have:=hX3 h (.inl MI);omega,kz,o64.mv mz (fun j hj=>by omega),hF2.step qM,by simp;omega,fun j hj=>a4 _ (a3 _ (a2 _ (a1 _ (aM _ hj))))⟩ (by omega)
  ·have hJ2:=hF2.jr (fun _=>h0')
   have hmM':=hmM
   refine aa (ae MI MI (al (v:=bF 0) MI MI MI (dm (mt (ij (by omega)).1 (by omega)) cL) (ae MI MI (an MI MI MI (an MI MI MI ?_)))))
   refine an MI MI MI (an MI MI MI (aD MI MI MI (ag (ab (cq MI (bc (aJ (aJ (bf (ab (af (aa (ae MI MI (am pW MI MI ((pY hmM' (aM _ hl))) ?_))))))))))))))
   rintro v68 w68 ⟨m68,ps,s7,ok7,rp68,h1p,hm68,q7,a7⟩
   have m68:=m68
   have k68:=m68.blk kM (fun hk=>by have:=hX3 _ hk;omega)
   obtain⟨wy,sy,qy,ky⟩:=k68.stC (P:=Tryz.prog) (t:=50) (i:=9) (v:=v68) (by kernel_rfl) h1p (by simp)
   have my:Mv (fun k=>k=g3) w68 wy:=Mv.of_grown qy fun k hk _=>(Option.some.inj hk).symm
   have ky:ci g3 54 [vd,vl,I 0,I 0,B false,.slice none 0 0,.slice none 0 0,.slice none 0 0,B (bT nb),v68] wy:=ky
   have hO:au [vd,vl,I 0,I 0,B false,.slice none 0 0,.slice none 0 0,.slice none 0 0,B (bT nb),v68]:=au.cons hvd (au.cons hvl (au.cons rfl (au.cons rfl (au.cons rfl (au.cons rfl (au.cons rfl (au.cons rfl (au.cons rfl (au.cons h1p au.nil)))))))))
   have mMy:Mv (Ar h g g3) wM wy:=(m68.weak fun j hj _=>.inl hj).trans (my.weak fun j hj _=>.inr hj) fun _ hj _=>hj
   have k2y:=mMy.blk k2M (fun hk=>hk.elim (fun hk=>by rcases hk with rfl|rfl<;>omega) (fun hk=>by omega))
   obtain⟨wR,sR,qR,kR⟩:=k2y.stS (P:=Tryz.prog) (t:=54) (m:=[vd,vl,I 0,I 0,B false,.slice none 0 0,.slice none 0 0,.slice none 0 0,B (bT nb),v68]) rfl (by kernel_rfl) hO
   have mR:Mv (fun k=>k=g2) wy wR:=Mv.of_grown qR fun k hk _=>(Option.some.inj hk).symm
   have mw3:Mv (fun k=>Ar h g g3 k∨k=g2) w3 wR:=(((((mL.trans mLb fun _ hj _=>hj).trans (m37.weak fun j hj _=>(.inl hj:Ar h g g3 j)) fun _ hj _=>hj).trans mM fun _ hj _=>hj).trans mMy fun _ hj _=>hj).weak fun j hj _=>.inl hj).trans (mR.weak fun j hj _=>.inr hj) fun _ hj _=>hj
   have hfin:Mv (lJ h g) w wR:=(Mv.of_ext e3).trans mw3 fun j hj hlt=>by
    rcases hj with(hj|hj)|hj
    ·exact hj
    ·omega
    ·omega
   have oDR:=(oDM.mv mMy fun k hk=>by have:=hJX k hk;omega).mv mR fun k hk=>by omega
   have oMR:=(oM.mv mMy fun k hk=>by have:=hJX k hk;omega).mv mR fun k hk=>by omega
   have rpR:cH (fun k=>k<w.heap.size) wR (gS ps) [v68]:=((rp68.mv (my.weak fun j hj _=>by show j<wM.heap.size;omega) fun _ hj=>.inl hj).mv (mR.weak fun j hj _=>by show j<wM.heap.size;omega) fun _ hj=>.inl hj).weak fun j hj=>.inl (by show j<wM.heap.size;omega)
   have hrp:=j9 (u:=⟨ds,.mk ls li [] (bT nb) ps⟩) ((oDR.rpx ce (by omega)).weak (Y:=fun k=>k<w.heap.size) fun j hj=>.inl (by show j<w3.heap.size;omega)) (et (ls:=ls) (d:=li) (ks:=[]) (em:=bT nb) (ps:=ps) ((oMR.rpx cx (by omega)).weak (Y:=fun k=>k<w.heap.size) fun j hj=>.inl (by show j<w37.heap.size;omega)) js jK rpR)
   refine ah MI MI (aq (o:=1) Md MI (by kernel_rfl) MI) ?_
   refine ah MI MI (cD (b:=1) (o:=8) L9 MI (by kernel_rfl) MI) ?_
   refine ar MI MI sy ?_
   refine ag (ab (af (aa ?_)))
   refine ak MI MI (ky.ld Md MI (by kernel_rfl)) ?_
   refine ar MI MI sR ?_
   refine ag (ab (aw ?_))
   refine dt MI MI kR Md MI (by kernel_rfl) ?_
   exact⟨_,rfl,hfin,⟨ds,.mk ls li [] (bT nb) ps⟩,_,s7,ok7,rfl,hrp,hO,(hm68.mv my fun j hj=>by have:=hX3 h (.inl rfl);omega).mv mR fun j hj=>by omega,Aq hJ qB hJ2 q7⟩
  ·obtain⟨oko2,ho2⟩:∃o:Bool,o=false:=⟨_,rfl⟩
   have hJ2:=hF2.jr (fun hk=>by cases hk)
   have hmM':=hmM
   rw[←ho2] at hJ2 hmM'
   refine aa (ae MI MI (al (v:=bF 0) MI MI MI (cJ ((ij (by omega)).2 h0') cL) (ae MI MI (aj MI (ae MI MI (aj MI (ax MI MI ?_)))))))
   refine aj MI (ah MI MI (aq (o:=1) Mp MI (by kernel_rfl) MI) (aj MI (ak MI MI (ai Mi MI (hmM.blk.cell (i:=1) MI)) ?_)))
   refine ap MI MI MI (ag (ab (cq MI (bc (aJ (aJ (bf (ab (af (aa (ae MI MI (am pW MI MI ((pY hmM' (aM _ hl))) ?_))))))))))))
   rintro v68 w68 ⟨m68,ps,s7,ok7,rp68,h1p,hm68,q7,a7⟩
   have m68:=m68
   have k68:=m68.blk kM (fun hk=>by have:=hX3 _ hk;omega)
   obtain⟨wy,sy,qy,ky⟩:=k68.stC (P:=Tryz.prog) (t:=50) (i:=9) (v:=v68) (by kernel_rfl) h1p (by simp)
   have my:Mv (fun k=>k=g3) w68 wy:=Mv.of_grown qy fun k hk _=>(Option.some.inj hk).symm
   have ky:ci g3 54 [vd,vl,I 0,I 0,B false,.slice none 0 0,.slice none 0 0,.slice none 0 0,B (bT nb),v68] wy:=ky
   have hO:au [vd,vl,I 0,I 0,B false,.slice none 0 0,.slice none 0 0,.slice none 0 0,B (bT nb),v68]:=au.cons hvd (au.cons hvl (au.cons rfl (au.cons rfl (au.cons rfl (au.cons rfl (au.cons rfl (au.cons rfl (au.cons rfl (au.cons h1p au.nil)))))))))
   have mMy:Mv (Ar h g g3) wM wy:=(m68.weak fun j hj _=>.inl hj).trans (my.weak fun j hj _=>.inr hj) fun _ hj _=>hj
   have k2y:=mMy.blk k2M (fun hk=>hk.elim (fun hk=>by rcases hk with rfl|rfl<;>omega) (fun hk=>by omega))
   obtain⟨wR,sR,qR,kR⟩:=k2y.stS (P:=Tryz.prog) (t:=54) (m:=[vd,vl,I 0,I 0,B false,.slice none 0 0,.slice none 0 0,.slice none 0 0,B (bT nb),v68]) rfl (by kernel_rfl) hO
   have mR:Mv (fun k=>k=g2) wy wR:=Mv.of_grown qR fun k hk _=>(Option.some.inj hk).symm
   have mw3:Mv (fun k=>Ar h g g3 k∨k=g2) w3 wR:=(((((mL.trans mLb fun _ hj _=>hj).trans (m37.weak fun j hj _=>(.inl hj:Ar h g g3 j)) fun _ hj _=>hj).trans mM fun _ hj _=>hj).trans mMy fun _ hj _=>hj).weak fun j hj _=>.inl hj).trans (mR.weak fun j hj _=>.inr hj) fun _ hj _=>hj
   have hfin:Mv (lJ h g) w wR:=(Mv.of_ext e3).trans mw3 fun j hj hlt=>by
    rcases hj with(hj|hj)|hj
    ·exact hj
    ·omega
    ·omega
   have oDR:=(oDM.mv mMy fun k hk=>by have:=hJX k hk;omega).mv mR fun k hk=>by omega
   have oMR:=(oM.mv mMy fun k hk=>by have:=hJX k hk;omega).mv mR fun k hk=>by omega
   have rpR:cH (fun k=>k<w.heap.size) wR (gS ps) [v68]:=((rp68.mv (my.weak fun j hj _=>by show j<wM.heap.size;omega) fun _ hj=>.inl hj).mv (mR.weak fun j hj _=>by show j<wM.heap.size;omega) fun _ hj=>.inl hj).weak fun j hj=>.inl (by show j<wM.heap.size;omega)
   have hrp:=j9 (u:=⟨ds,.mk ls li [] (bT nb) ps⟩) ((oDR.rpx ce (by omega)).weak (Y:=fun k=>k<w.heap.size) fun j hj=>.inl (by show j<w3.heap.size;omega)) (et (ls:=ls) (d:=li) (ks:=[]) (em:=bT nb) (ps:=ps) ((oMR.rpx cx (by omega)).weak (Y:=fun k=>k<w.heap.size) fun j hj=>.inl (by show j<w37.heap.size;omega)) js jK rpR)
   refine ah MI MI (aq (o:=1) Md MI (by kernel_rfl) MI) ?_
   refine ah MI MI (cD (b:=1) (o:=8) L9 MI (by kernel_rfl) MI) ?_
   refine ar MI MI sy ?_
   refine ag (ab (af (aa ?_)))
   refine ak MI MI (ky.ld Md MI (by kernel_rfl)) ?_
   refine ar MI MI sR ?_
   refine ag (ab (aw ?_))
   refine dt MI MI kR Md MI (by kernel_rfl) ?_
   exact⟨_,rfl,hfin,⟨ds,.mk ls li [] (bT nb) ps⟩,_,s7,ok7,rfl,hrp,hO,(hm68.mv my fun j hj=>by have:=hX3 h (.inl rfl);omega).mv mR fun j hj=>by omega,Aq hJ qB hJ2 q7⟩
 ·obtain⟨oko,ho⟩:∃o:Bool,o=false:=⟨_,rfl⟩
  have hJ:=hF.jr (fun hk=>by cases hk)
  have hmL':=hmL
  rw[←ho] at hJ hmL'
  refine aa (ae MI MI (al (v:=bF 0) MI MI MI (cJ ((ij (by omega)).2 h0) cL) (ae MI MI (aj MI (ae MI MI (aj MI (ax MI MI ?_)))))))
  refine aj MI (ah MI MI (aq (o:=1) Mp MI (by kernel_rfl) MI) (aj MI (ak MI MI (ai Mi MI (hmL.blk.cell (i:=1) MI)) ?_)))
  refine ap MI MI MI (ag (ab (cq MI (bc (aJ (aJ (bf (ab (af ?_)))))))))
  obtain⟨nb,s5,ok5,qB,hB1,aB,cB⟩:=pi so oko (most:=1) (by omega)
  obtain⟨N2,s6,ok6,qU2,hN2,aU2,cU2⟩:=pi s5 ok5 (most:=1073741824) (by omega)
  refine aa (ae MI MI (am lu MI MI ((cB hmL')) ?_))
  rintro v32 w32 ⟨m32,rfl,hm32⟩
  have m32:=m32
  have k32:=m32.blk kL (fun hk=>by have:=hX3 _ hk;omega)
  obtain⟨wb,sb,qb,kb⟩:=k32.stC (P:=Tryz.prog) (t:=4) (i:=8) (v:=B (bT nb)) nO rfl (by simp)
  have mb:Mv (fun k=>k=g3) w32 wb:=Mv.of_grown qb fun k hk _=>(Option.some.inj hk).symm
  have hmb:=hm32.mv mb fun j hj=>by have:=hX3 h (.inl rfl);omega
  have mLb:Mv (Ar h g g3) wL wb:=(m32.weak fun j hj _=>.inl hj).trans (mb.weak fun j hj _=>.inr hj) fun _ hj _=>hj
  have hJX:∀k,Ar h g g3 k→k≤g3:=fun k hk=>hk.elim (fun hk=>by have:=hX3 k hk;omega) (fun hk=>by omega)
  have oDb:=oL.mv mLb fun k hk=>by have:=hJX k hk;omega
  have k2b:=mLb.blk k2L (fun hk=>hk.elim (fun hk=>by rcases hk with rfl|rfl<;>omega) (fun hk=>by omega))
  have kb:ci g3 54 [vd,.slice none 0 0,I 0,I 0,B false,.slice none 0 0,.slice none 0 0,.slice none 0 0,B (bT nb),.slice none 0 0] wb:=kb
  refine al (v:=bF 1) (r:=B (bT nb)) MI MI MI ((uX hB1)) ?_
  refine ah MI MI (aq (o:=1) Md MI (by kernel_rfl) MI) ?_
  refine ah MI MI (cD (b:=1) (o:=7) L9 MI (by kernel_rfl) MI) ?_
  refine ar MI MI sb ?_
  refine ag (ab (af (af (aa (ae MI MI (am lu MI MI ((cU2 hmb)) ?_))))))
  rintro v37 w37 ⟨m37,rfl,hm37⟩
  have m37:=m37
  have k37:=m37.blk kb (fun hk=>by have:=hX3 _ hk;omega)
  have k2c:=m37.blk k2b (by rintro(rfl|rfl)<;>omega)
  have oDc:=oDb.mv m37 fun k hk=>by have:=hX k hk;omega
  have szb:=mLb.size
  have sz37:=m37.size
  refine ac MI MI (ag (ab (aF ?_)))
  refine rP (fun(k2:Nat) (vl:Value) (so2:Option (List UInt8)) (oko2:Bool) (ls:List dI)=>[(0,.pointer (some ⟨h,0,none⟩)),(2,.pointer (some ⟨g2,0,none⟩)),(3,.pointer (some ⟨g3,0,none⟩)),(5,bF (UInt64.ofNat k2))]) (fun(k2:Nat) (vl:Value) (so2:Option (List UInt8)) (oko2:Bool) (ls:List dI) w'=>Mv (Ar h g g3) w37 w'∧jH h g so2 oko2 w'∧ci g3 54 [vd,vl,I 0,I 0,B false,.slice none 0 0,.slice none 0 0,.slice none 0 0,B (bT nb),.slice none 0 0] w'∧f9 173 6 w37.heap.size cY ls vl w'∧FL Ez ok5 (s5.bind (od 1073741824 Ez)) so2 oko2 k2 ls∧k2+ls.length≤1073741824∧∀j,tD j st→tD j so2) (fun(k2:Nat) (vl:Value) (so2:Option (List UInt8)) (oko2:Bool) (ls:List dI)=>k2) (N2) (.slice none 0 0) (s6) (ok6) ([]) ⟨rfl,rfl,rfl,rfl,trivial⟩ ⟨Mv.refl _ _,hm37,k37,f9.nil _,FL.start qU2,by simpa using hN2,fun j hj=>aU2 _ (aB _ (aL _ hj))⟩ ?_
  rintro k2 vl so2 oko2 ls wM ⟨mM,hmM,kM,oM,hF2,hk2,aM⟩
  refine af (af ?_)
  have szM:=mM.size
  have hvl:vl.oneCell'=true:=by obtain⟨_,_,_,rfl⟩:=oM.isS;rfl
  have k2M:=mM.blk k2c (fun hk=>hk.elim (fun hk=>by rcases hk with rfl|rfl<;>omega) (fun hk=>by omega))
  have oDM:=oDc.mv mM fun k hk=>by have:=hJX k hk;omega
  rcases Nat.eq_zero_or_pos k2 with h0'|h0'
  rotate_left
  rcases oko2 with _|_
  rotate_left
  ·refine aa (ae MI MI (al (v:=bF 0) MI MI MI (cJ ((ij (by omega)).2 h0') cL) (ae MI MI (aj MI (ae MI MI (aj MI (ax MI MI ?_)))))))
   refine aj MI (ah MI MI (aq (o:=1) Mp MI (by kernel_rfl) MI) (aj MI (ak MI MI (ai Mi MI (hmM.blk.cell (i:=1) MI)) ?_)))
   refine ap MI MI MI (ag (ab (bh MI (aA (ab (af (aF (af ?_))))))))
   obtain⟨k',rfl⟩:∃k',k2=k'+1:=⟨k2-1,by omega⟩
   obtain⟨n1,sA,okA,q1,i1,a1,c1⟩:=pj so2 true
   obtain⟨nc,sB,nn,q2,hc1,a2,c2⟩:=pi sA okA (most:=1) (by omega)
   obtain⟨q,sC,okC,q3,a3,c3⟩:=Ap sB nn (a2 _ (a1 _ (aM _ hl)))
   refine aa (ae MI MI (am lw MI MI ((c1 hmM)) ?_))
   rintro v49 w49 ⟨m49,rfl,hm49⟩
   have m49:=m49
   refine ae MI MI (am lu MI MI ((c2 hm49)) ?_)
   rintro v51 w51 ⟨m51,rfl,hm51⟩
   have m51:=m51
   refine al (v:=bF 1) (r:=B (bT nc)) MI MI MI ((uX hc1)) (ae MI MI (am uV MI MI ((c3 hm51)) ?_))
   rintro v54 w54 ⟨m54,⟨x,y,rfl,rq⟩,hm54⟩
   have m54:=m54
   have m3:Mv (lJ h g) wM w54:=(m49.trans m51 fun _ hj _=>hj).trans m54 fun _ hj _=>hj
   have hxy:=ko rq
   refine bz (vs:=[(0,I n1),(1,B (bT nc)),(2,.agg #[B q.1,x,y])]) (r:=.agg #[I n1,B (bT nc),B q.1,x,y,.slice none 0 0]) MI MI (run_build _ _ _ _ (by kernel_rfl)) ?_
   obtain⟨g6,w6,hr6,l6,x6,k6⟩:=aY (P:=Tryz.prog) (w:=w54) (t:=173) (z:=.agg #[I 0,B false,B false,.slice none 0 0,.slice none 0 0,.slice none 0 0]) (l:=[I 0,B false,B false,.slice none 0 0,.slice none 0 0,.slice none 0 0]) (by kernel_rfl) rfl
   refine aV MI hr6 ?_
   obtain⟨wd,sd,qd,kd⟩:=k6.stS (P:=Tryz.prog) (t:=173) (m:=[I n1,B (bT nc),B q.1,x,y,.slice none 0 0]) rfl (by kernel_rfl) (au.cons rfl (au.cons rfl (au.cons rfl (au.cons hxy.1 (au.cons hxy.2 (au.cons rfl au.nil))))))
   refine ar MI MI sd ?_
   have xd:=aK.of_new x6 qd l6
   have hmd:=hm54.ext xd
   have mMd:Mv (lJ h g) wM wd:=m3.trans (Mv.of_ext xd) fun _ hj _=>hj
   have g6M:wM.heap.size≤g6:=by have:=m3.size;omega
   refine ag (ab (af (aa (ae MI MI (am pW MI MI ((pY hmd (a3 _ (a2 _ (a1 _ (aM _ hl)))))) ?_)))))
   rintro v57 w57 ⟨m57,ps,s4,ok4,rp57,h1p,hm57,q4,a4⟩
   have m57:=m57
   have qM:=Iu q1 q2 q3 q4
   have k6a:=m57.blk kd (fun hk=>by have:=hX _ hk;omega)
   obtain⟨we,se,qe,ke⟩:=k6a.stC (P:=Tryz.prog) (t:=50) (i:=5) (v:=v57) (by kernel_rfl) h1p (by simp)
   have me:Mv (fun k=>k=g6) w57 we:=Mv.of_grown qe fun k hk _=>(Option.some.inj hk).symm
   have ke:ci g6 173 [I n1,B (bT nc),B q.1,x,y,v57] we:=ke
   have hme:=hm57.mv me fun j hj=>by omega
   have mMe:Mv (lJ h g) wM we:=(mMd.trans m57 fun _ hj _=>hj).trans me fun j hj hlt=>by omega
   have k3e:=mMe.blk kM (fun hk=>by have:=hX3 _ hk;omega)
   have oMe:=oM.mv mMe fun k hk=>by have:=hX k hk;omega
   have own:∀j,vl.ownBlock=some j→w37.heap.size≤j∧j<wM.heap.size:=oM.lt
   have szd:=mMd.size
   have sz54:=m51.size
   have sz49:=m49.size
   have g6d:g6<wd.heap.size:=kd.lt
   have rq0:=(rq.weak (Y:=fun k=>k<wM.heap.size∨k=g6) fun j hj=>hj.elim (fun hj=>.inl (by show j<w51.heap.size;omega)) (fun hj=>.inr (by omega))).ext xd
   have rqe:cH (fun k=>k<wM.heap.size) we (iY q) [B q.1,x,y]:=(((rq0.mv (m57.weak fun j hj _=>.inl (by have:=hX j hj;omega)) fun _ hj=>.inl hj).mv (me.weak fun j hj _=>.inr hj) fun _ hj=>.inl hj).weak fun _ hj=>.inl (.inl hj))
   have rpe:cH (fun k=>k<wM.heap.size) we (gS ps) [v57]:=(rp57.mv (me.weak fun j hj _=>by show j<wd.heap.size;omega) fun _ hj=>.inl hj).weak fun j hj=>.inl (by show j<wd.heap.size;omega)
   have h1L:au [I n1,B (bT nc),B q.1,x,y,v57]:=au.cons rfl (au.cons rfl (au.cons rfl (au.cons hxy.1 (au.cons hxy.2 (au.cons h1p au.nil)))))
   obtain⟨x63,w63,v64,w64,hr63,hr64,o64,m64,n64⟩:=oMe.push (ty:=42) (t:=42) Ml wo rfl (by omega) (by omega) (by omega) h1L ((wq (l:=⟨n1,bT nc,q,ps⟩) rqe rpe).weak fun j hj=>.inl (by
    rcases hj with hj|hj
    ·show j<wM.heap.size;omega
    ·have:=(own j hj).2;show j<wM.heap.size;omega)) cx (by omega) (Nat.le_trans szM mMe.size)
   have k3f:=m64.blk k3e (fun e=>by have:=own g3 e;omega)
   have hv64:v64.oneCell'=true:=by obtain⟨_,_,_,rfl⟩:=o64.isS;rfl
   obtain⟨wz,sz,qz,kz⟩:=k3f.stC (P:=Tryz.prog) (t:=42) (i:=1) (v:=v64) (by kernel_rfl) hv64 (by simp)
   have mz:Mv (fun k=>k=g3) w64 wz:=Mv.of_grown qz fun k hk _=>(Option.some.inj hk).symm
   refine ah MI MI (aq (o:=5) Mn MI (by kernel_rfl) MI) ?_
   refine ar MI MI se ?_
   refine ag (ab (aa ?_))
   refine ah MI MI (aq (o:=1) Md MI (by kernel_rfl) MI) ?_
   refine ah MI MI (cD (b:=1) (o:=0) L9 MI (by kernel_rfl) MI) ?_
   refine ak MI MI (ai Ml MI (k3e.cell (i:=1) MI)) ?_
   refine ak MI MI (ke.ld Mn MI (by kernel_rfl)) ?_
   refine aI (vs:=[(0,.agg #[I n1,B (bT nc),B q.1,x,y,v57])]) MI MI hr63 ?_
   refine a6 MI MI hr64 ?_
   refine ah MI MI (aq (o:=1) Md MI (by kernel_rfl) MI) ?_
   refine ah MI MI (cD (b:=1) (o:=0) L9 MI (by kernel_rfl) MI) ?_
   refine ar MI MI sz ?_
   refine ag (aS (ab (aa (ae MI MI (al (v:=bF 1) (r:=bF (UInt64.ofNat k')) MI MI MI ((by rw[←uW (k:=k') (by omega)];exact dP)) ?_)))))
   refine ac MI MI (ag ?_)
   refine ol (k') (v64) (s4) (ok4) (ls++[⟨n1,bT nc,q,ps⟩]) ⟨rfl,rfl,rfl,rfl,trivial⟩ ⟨((mM.trans (mMe.weak fun j hj _=>.inl hj) fun _ hj _=>hj).trans m64 fun j hj hlt=>by have:=(own j hj).1;omega).trans (mz.weak fun j hj _=>.inr hj) fun _ hj _=>hj,(hme.mv m64 fun j hj=>by have:=own j hj;omega).mv mz fun j hj=>by have:=hX3 h (.inl MI);omega,kz,o64.mv mz (fun j hj=>by omega),hF2.step qM,by simp;omega,fun j hj=>a4 _ (a3 _ (a2 _ (a1 _ (aM _ hj))))⟩ (by omega)
  ·have hJ2:=hF2.jr (fun _=>h0')
   have hmM':=hmM
   refine aa (ae MI MI (al (v:=bF 0) MI MI MI (dm (mt (ij (by omega)).1 (by omega)) cL) (ae MI MI (an MI MI MI (an MI MI MI ?_)))))
   refine an MI MI MI (an MI MI MI (aD MI MI MI (ag (ab (cq MI (bc (aJ (aJ (bf (ab (af (aa (ae MI MI (am pW MI MI ((pY hmM' (aM _ hl))) ?_))))))))))))))
   rintro v68 w68 ⟨m68,ps,s7,ok7,rp68,h1p,hm68,q7,a7⟩
   have m68:=m68
   have k68:=m68.blk kM (fun hk=>by have:=hX3 _ hk;omega)
   obtain⟨wy,sy,qy,ky⟩:=k68.stC (P:=Tryz.prog) (t:=50) (i:=9) (v:=v68) (by kernel_rfl) h1p (by simp)
   have my:Mv (fun k=>k=g3) w68 wy:=Mv.of_grown qy fun k hk _=>(Option.some.inj hk).symm
   have ky:ci g3 54 [vd,vl,I 0,I 0,B false,.slice none 0 0,.slice none 0 0,.slice none 0 0,B (bT nb),v68] wy:=ky
   have hO:au [vd,vl,I 0,I 0,B false,.slice none 0 0,.slice none 0 0,.slice none 0 0,B (bT nb),v68]:=au.cons hvd (au.cons hvl (au.cons rfl (au.cons rfl (au.cons rfl (au.cons rfl (au.cons rfl (au.cons rfl (au.cons rfl (au.cons h1p au.nil)))))))))
   have mMy:Mv (Ar h g g3) wM wy:=(m68.weak fun j hj _=>.inl hj).trans (my.weak fun j hj _=>.inr hj) fun _ hj _=>hj
   have k2y:=mMy.blk k2M (fun hk=>hk.elim (fun hk=>by rcases hk with rfl|rfl<;>omega) (fun hk=>by omega))
   obtain⟨wR,sR,qR,kR⟩:=k2y.stS (P:=Tryz.prog) (t:=54) (m:=[vd,vl,I 0,I 0,B false,.slice none 0 0,.slice none 0 0,.slice none 0 0,B (bT nb),v68]) rfl (by kernel_rfl) hO
   have mR:Mv (fun k=>k=g2) wy wR:=Mv.of_grown qR fun k hk _=>(Option.some.inj hk).symm
   have mw3:Mv (fun k=>Ar h g g3 k∨k=g2) w3 wR:=(((((mL.trans mLb fun _ hj _=>hj).trans (m37.weak fun j hj _=>(.inl hj:Ar h g g3 j)) fun _ hj _=>hj).trans mM fun _ hj _=>hj).trans mMy fun _ hj _=>hj).weak fun j hj _=>.inl hj).trans (mR.weak fun j hj _=>.inr hj) fun _ hj _=>hj
   have hfin:Mv (lJ h g) w wR:=(Mv.of_ext e3).trans mw3 fun j hj hlt=>by
    rcases hj with(hj|hj)|hj
    ·exact hj
    ·omega
    ·omega
   have oDR:=(oDM.mv mMy fun k hk=>by have:=hJX k hk;omega).mv mR fun k hk=>by omega
   have oMR:=(oM.mv mMy fun k hk=>by have:=hJX k hk;omega).mv mR fun k hk=>by omega
   have rpR:cH (fun k=>k<w.heap.size) wR (gS ps) [v68]:=((rp68.mv (my.weak fun j hj _=>by show j<wM.heap.size;omega) fun _ hj=>.inl hj).mv (mR.weak fun j hj _=>by show j<wM.heap.size;omega) fun _ hj=>.inl hj).weak fun j hj=>.inl (by show j<wM.heap.size;omega)
   have hrp:=j9 (u:=⟨ds,.mk ls li [] (bT nb) ps⟩) ((oDR.rpx ce (by omega)).weak (Y:=fun k=>k<w.heap.size) fun j hj=>.inl (by show j<w3.heap.size;omega)) (et (ls:=ls) (d:=li) (ks:=[]) (em:=bT nb) (ps:=ps) ((oMR.rpx cx (by omega)).weak (Y:=fun k=>k<w.heap.size) fun j hj=>.inl (by show j<w37.heap.size;omega)) js jK rpR)
   refine ah MI MI (aq (o:=1) Md MI (by kernel_rfl) MI) ?_
   refine ah MI MI (cD (b:=1) (o:=8) L9 MI (by kernel_rfl) MI) ?_
   refine ar MI MI sy ?_
   refine ag (ab (af (aa ?_)))
   refine ak MI MI (ky.ld Md MI (by kernel_rfl)) ?_
   refine ar MI MI sR ?_
   refine ag (ab (aw ?_))
   refine dt MI MI kR Md MI (by kernel_rfl) ?_
   exact⟨_,rfl,hfin,⟨ds,.mk ls li [] (bT nb) ps⟩,_,s7,ok7,rfl,hrp,hO,(hm68.mv my fun j hj=>by have:=hX3 h (.inl rfl);omega).mv mR fun j hj=>by omega,Aq hJ qB hJ2 q7⟩
  ·obtain⟨oko2,ho2⟩:∃o:Bool,o=false:=⟨_,rfl⟩
   have hJ2:=hF2.jr (fun hk=>by cases hk)
   have hmM':=hmM
   rw[←ho2] at hJ2 hmM'
   refine aa (ae MI MI (al (v:=bF 0) MI MI MI (cJ ((ij (by omega)).2 h0') cL) (ae MI MI (aj MI (ae MI MI (aj MI (ax MI MI ?_)))))))
   refine aj MI (ah MI MI (aq (o:=1) Mp MI (by kernel_rfl) MI) (aj MI (ak MI MI (ai Mi MI (hmM.blk.cell (i:=1) MI)) ?_)))
   refine ap MI MI MI (ag (ab (cq MI (bc (aJ (aJ (bf (ab (af (aa (ae MI MI (am pW MI MI ((pY hmM' (aM _ hl))) ?_))))))))))))
   rintro v68 w68 ⟨m68,ps,s7,ok7,rp68,h1p,hm68,q7,a7⟩
   have m68:=m68
   have k68:=m68.blk kM (fun hk=>by have:=hX3 _ hk;omega)
   obtain⟨wy,sy,qy,ky⟩:=k68.stC (P:=Tryz.prog) (t:=50) (i:=9) (v:=v68) (by kernel_rfl) h1p (by simp)
   have my:Mv (fun k=>k=g3) w68 wy:=Mv.of_grown qy fun k hk _=>(Option.some.inj hk).symm
   have ky:ci g3 54 [vd,vl,I 0,I 0,B false,.slice none 0 0,.slice none 0 0,.slice none 0 0,B (bT nb),v68] wy:=ky
   have hO:au [vd,vl,I 0,I 0,B false,.slice none 0 0,.slice none 0 0,.slice none 0 0,B (bT nb),v68]:=au.cons hvd (au.cons hvl (au.cons rfl (au.cons rfl (au.cons rfl (au.cons rfl (au.cons rfl (au.cons rfl (au.cons rfl (au.cons h1p au.nil)))))))))
   have mMy:Mv (Ar h g g3) wM wy:=(m68.weak fun j hj _=>.inl hj).trans (my.weak fun j hj _=>.inr hj) fun _ hj _=>hj
   have k2y:=mMy.blk k2M (fun hk=>hk.elim (fun hk=>by rcases hk with rfl|rfl<;>omega) (fun hk=>by omega))
   obtain⟨wR,sR,qR,kR⟩:=k2y.stS (P:=Tryz.prog) (t:=54) (m:=[vd,vl,I 0,I 0,B false,.slice none 0 0,.slice none 0 0,.slice none 0 0,B (bT nb),v68]) rfl (by kernel_rfl) hO
   have mR:Mv (fun k=>k=g2) wy wR:=Mv.of_grown qR fun k hk _=>(Option.some.inj hk).symm
   have mw3:Mv (fun k=>Ar h g g3 k∨k=g2) w3 wR:=(((((mL.trans mLb fun _ hj _=>hj).trans (m37.weak fun j hj _=>(.inl hj:Ar h g g3 j)) fun _ hj _=>hj).trans mM fun _ hj _=>hj).trans mMy fun _ hj _=>hj).weak fun j hj _=>.inl hj).trans (mR.weak fun j hj _=>.inr hj) fun _ hj _=>hj
   have hfin:Mv (lJ h g) w wR:=(Mv.of_ext e3).trans mw3 fun j hj hlt=>by
    rcases hj with(hj|hj)|hj
    ·exact hj
    ·omega
    ·omega
   have oDR:=(oDM.mv mMy fun k hk=>by have:=hJX k hk;omega).mv mR fun k hk=>by omega
   have oMR:=(oM.mv mMy fun k hk=>by have:=hJX k hk;omega).mv mR fun k hk=>by omega
   have rpR:cH (fun k=>k<w.heap.size) wR (gS ps) [v68]:=((rp68.mv (my.weak fun j hj _=>by show j<wM.heap.size;omega) fun _ hj=>.inl hj).mv (mR.weak fun j hj _=>by show j<wM.heap.size;omega) fun _ hj=>.inl hj).weak fun j hj=>.inl (by show j<wM.heap.size;omega)
   have hrp:=j9 (u:=⟨ds,.mk ls li [] (bT nb) ps⟩) ((oDR.rpx ce (by omega)).weak (Y:=fun k=>k<w.heap.size) fun j hj=>.inl (by show j<w3.heap.size;omega)) (et (ls:=ls) (d:=li) (ks:=[]) (em:=bT nb) (ps:=ps) ((oMR.rpx cx (by omega)).weak (Y:=fun k=>k<w.heap.size) fun j hj=>.inl (by show j<w37.heap.size;omega)) js jK rpR)
   refine ah MI MI (aq (o:=1) Md MI (by kernel_rfl) MI) ?_
   refine ah MI MI (cD (b:=1) (o:=8) L9 MI (by kernel_rfl) MI) ?_
   refine ar MI MI sy ?_
   refine ag (ab (af (aa ?_)))
   refine ak MI MI (ky.ld Md MI (by kernel_rfl)) ?_
   refine ar MI MI sR ?_
   refine ag (ab (aw ?_))
   refine dt MI MI kR Md MI (by kernel_rfl) ?_
   exact⟨_,rfl,hfin,⟨ds,.mk ls li [] (bT nb) ps⟩,_,s7,ok7,rfl,hrp,hO,(hm68.mv my fun j hj=>by have:=hX3 h (.inl rfl);omega).mv mR fun j hj=>by omega,Aq hJ qB hJ2 q7⟩
end Go.Rl
namespace Go.Rl
open Go.RowKit Go.Proofs
theorem DA:aG Tryz.prog 45:=⟨_,Tryz.func45,by kernel_rfl,rfl⟩
section
variable {P:Program} {ops:Array Oper} {Q:iQ} {N:Nat} {D:List Deferred} {S:World→Prop} {fuel:Nat} {listed:Array Bool} {l:Fr} {w:World} {d:Nat} {ty:TypeId} {pos:String} {aft:Array Edge} {op:Op}
theorem JD (i:Nat) {x:Operand} {v:Value} {j:Nat} {b:Bool} (hi:ops[i]? =some ⟨some d,.move x,ty,pos,aft,some (j,b)⟩) (hg:gv ops l j=some (.bool b)) (hx:ev l x=some v) (hB:nn ops listed i=true) (hd:Nat.blt d N=true) (hS:S w)
 (k:dw P ops Q N D S fuel (listed.setIfInBounds i true) ((d,v)::l) w):dw P ops Q N D S (fuel+1) listed l w:=fun a ha=>by
 simp only[nn,Bool.and_eq_true] at hB
 exact wpAnyH_take hi hB.1.1 hB.1.2 hB.2 (fun c a w h=>by obtain⟨h,_⟩:=h;cases h) (.inl ⟨by simp[Region.wanted,mV ha hg],fun w' _=>by simp[execOp,ha.ev hx]⟩) hS (k _ (ha.put hd v))
theorem yY (i:Nat) {j:Nat} {b b':Bool} (hi:ops[i]? =some ⟨some d,op,ty,pos,aft,some (j,b)⟩) (hg:gv ops l j=some (.bool b')) (hb:b'= !b) (hB:nn ops listed i=true) (hd:Nat.blt d N=true) (hS:S w)
 (k:dw P ops Q N D S fuel (listed.setIfInBounds i true) ((d,undef)::l) w):dw P ops Q N D S (fuel+1) listed l w:=fun a ha=>by
 simp only[nn,Bool.and_eq_true] at hB
 exact wpAnyH_take hi hB.1.1 hB.1.2 hB.2 (fun c a w h=>by obtain⟨h,_⟩:=h;cases h) (.inr ⟨by subst hb;simp[Region.wanted,mV ha hg],rfl⟩) hS (k _ (ha.put hd undef))
end
theorem As {w:World} {g:Nat} {st:Option (List UInt8)} (hr:cO g st w):Calls Tryz.prog 92 #[.pointer (some ⟨g,0,none⟩)] w (bE fun r w'=>w=w'∧r=I (if st=some [] then 0 else 5)):=(Fy hr).mono fun _ _ ⟨v,h,h1,h2⟩=>⟨v,h,h2.symm,h1⟩
theorem Ld {p:List UInt8} {u:cc} {s1:Option (List UInt8)} (hl:p.length≤7340032) (h:JR Gr (some p) true u s1 false):jj p=none:=by
 cases he:jj p with
 |none=>rfl
 |some e=>
  have h1:=EA he hl
  have h2:=h.iff
  have h3:(some p).bind Gr=some (e,[]):=h1
  rw[h3] at h2
  cases h2
theorem Lf {p l:List UInt8} {u:cc} {c:UInt8} (hl:p.length≤7340032) (h:JR Gr (some p) true u (some (c::l)) true):jj p=none:=by
 cases he:jj p with
 |none=>rfl
 |some e=>
  have h1:=EA he hl
  have h2:Gr p=some (u,c::l):=h.val rfl
  rw[h1] at h2
  cases h2
theorem Lg {p:List UInt8} {u:cc} (h:JR Gr (some p) true u (some []) true):lj p=some (u,[]):=K9 (h.val rfl)
theorem DB {w:World} {p:List UInt8} {v:Value} (hv:cz p v w) (hl:p.length≤7340032):
 Calls Tryz.prog 45 #[v] w (bE fun r w'=>aK w w'∧L2 w.heap.size p r w'):=by
 refine enter (vs:=[v]) Tryz.func45 MI MI MI ?_
 refine af (aa ?_)
 obtain⟨g2,w2,hr2,l2,x2,k2⟩:=aY (P:=Tryz.prog) (w:=w) (t:=54) (z:=.agg #[.slice none 0 0,.slice none 0 0,I 0,I 0,B false,.slice none 0 0,.slice none 0 0,.slice none 0 0,B false,.slice none 0 0]) (l:=[.slice none 0 0,.slice none 0 0,I 0,I 0,B false,.slice none 0 0,.slice none 0 0,.slice none 0 0,B false,.slice none 0 0]) (by kernel_rfl) rfl
 refine aV MI hr2 (ac MI MI (ag (ab (af (aa (ae MI MI (am AK MI MI ((AM (hv.ext x2) (by omega))) ?_)))))))
 rintro v7 w7 ⟨x7,g,lg,rfl,hr7⟩
 refine bz (vs:=[(0,.pointer (some ⟨g,0,none⟩)),(1,B true)]) (r:=.agg #[.pointer (some ⟨g,0,none⟩),B true]) MI MI (run_build _ _ _ _ (by kernel_rfl)) ?_
 obtain⟨h,w9,hr9,l9,x9,k9⟩:=cC (P:=Tryz.prog) (w:=w7) (T:=163) (cs:=[.pointer (some ⟨g,0,none⟩),B true])
 refine cG MI MI hr9 ?_
 have hgh:g<h:=by have:=cO.lt hr7;omega
 have hm9:jH h g (some p) true w9:=⟨k9,hr7.ext x9,hgh⟩
 have g2g:g2<g:=by have:=k2.lt;omega
 refine ac rfl rfl (ag (ab (af (aa (ae rfl rfl (am JB rfl rfl ((JC hm9 (fun l e=>by cases e;omega))) ?_))))))
 rintro v11 w11 ⟨m11,u,cs,s1,okr,rfl,rp11,h1cs,hm11,hJ⟩
 have m11:=m11
 have e9:aK w w9:=(x2.trans x7).trans x9
 have hX:∀k,lJ h g k→w2.heap.size≤k∧k<w9.heap.size:=fun k hk=>by
  have:=hm9.blk.lt
  have:=x2.size
  rcases hk with rfl|rfl<;>constructor<;>omega
 have hcs:cs.length=10:=rp11.len.trans (cQ u)
 have k2y:=m11.blk ((k2.ext x7).ext x9) (fun hk=>by have:=(hX _ hk).1;have:=k2.lt;omega)
 obtain⟨g5,w5,hr5,l5,x5,k5⟩:=aY (P:=Tryz.prog) (w:=w11) (t:=54) (z:=.agg #[.slice none 0 0,.slice none 0 0,I 0,I 0,B false,.slice none 0 0,.slice none 0 0,.slice none 0 0,B false,.slice none 0 0]) (l:=[.slice none 0 0,.slice none 0 0,I 0,I 0,B false,.slice none 0 0,.slice none 0 0,.slice none 0 0,B false,.slice none 0 0]) (by kernel_rfl) rfl
 refine aV MI hr5 ?_
 obtain⟨wy,sy,qy,ky⟩:=k5.stS (P:=Tryz.prog) (t:=54) (m:=cs) (by rw[hcs];rfl) (by rw[hcs];kernel_rfl) h1cs
 refine ar MI MI sy ?_
 have xy:=aK.of_new x5 qy l5
 have hmy:=hm11.ext xy
 have k2y:=k2y.ext xy
 have rpy:=rp11.ext xy
 have sz9:=e9.size
 have g29:g2<w9.heap.size:=by have:=k2.lt;have:=x7.size;have:=x9.size;omega
 have m2y:Mv (lJ h g) w9 wy:=m11.trans (Mv.of_ext xy) fun _ hj _=>hj
 have eY:aK w wy:=Mv.ext_from m2y e9 fun k hk=>by have:=(hX k hk).1;have:=x2.size;omega
 have bpy:=hv.ext eY
 have g25:g2<g5:=by have:=m11.size;have:=k2.lt;have:=x7.size;have:=x9.size;omega
 refine ag (ab (af ?_))
 obtain⟨vd,vl,x,y,vk,vp,rfl,n0,n1,n2,n3,n4,n5⟩:=ii rpy.rp
 rcases okr with _|_
 rotate_left
 rcases s1 with _|l1
 ·exact absurd (hJ.ok_le rfl).2 (by simp)
 rcases l1 with _|⟨c1,l1⟩
 have hE:=Lg hJ
 rcases hV:cK u
 ·have hS:Mv (fun k=>k=g2) wy wy.drew:=Mv.of_ext ((aK.refl wy).drew)
  have e11:aK wy wy.drew:=(aK.refl wy).drew
  refine gO (Mv (fun k=>k=g2) wy) 25 MI (by kernel_rfl) ?_
  refine fU 0 MI MI (by kernel_rfl) MI hS (fun w' hw'=>(hw'.blk ky (fun e=>by omega)).ld Md MI (by kernel_rfl)) ?_
  refine aQ 1 (by kernel_rfl) MI (ae MI MI (aH hS ?_))
  refine aQ 2 (by kernel_rfl) MI (ax MI MI (aH hS ?_))
  refine aQ 3 (by kernel_rfl) MI (ah MI MI (aq (o:=1) Mp MI (by kernel_rfl) MI) (aH hS ?_))
  refine aQ 4 (by kernel_rfl) MI (ak MI MI (ai Mi MI ((hmy.blk.ext e11).cell (i:=1) MI)) (aH hS ?_))
  refine aQ 5 (by kernel_rfl) MI (ae MI MI (aH hS ?_))
  refine aQ 6 (by kernel_rfl) MI (aj MI (ae MI MI (aH hS ?_)))
  refine aQ 7 (by kernel_rfl) MI (aj MI (ax MI MI (aH hS ?_)))
  refine aQ 8 (by kernel_rfl) MI (aj MI (ah MI MI (aq (o:=0) Mp MI (by kernel_rfl) MI) (aH hS ?_)))
  refine aQ 9 (by kernel_rfl) MI (aj MI (ak MI MI (ai MA MI ((hmy.blk.ext e11).cell (i:=0) MI)) (aH hS ?_)))
  refine aQ 10 (by kernel_rfl) MI (aj MI (am tx MI MI (As (hmy.rd.ext e11)) ?_))
  rintro _ _ ⟨rfl,rfl⟩
  refine aH hS ?_
  refine aQ 11 (by kernel_rfl) MI (aj MI (al (r:=B true) MI MI MI An (aH hS ?_)))
  refine aQ 12 (by kernel_rfl) MI (ap MI MI MI (aH hS ?_))
  refine aQ 13 (by kernel_rfl) MI (ae MI MI (aH hS ?_))
  refine aQ 14 (by kernel_rfl) MI (aj MI (ak MI MI ((ky.ext e11).ld Md MI (by kernel_rfl)) (aH hS ?_)))
  refine aQ 15 (by kernel_rfl) MI (aj MI (am nK MI MI (by have h:=nN (u:=u) (cA.ext n0 e11) (cA.ext n1 e11) (n2.ext e11) (n3.ext e11) (cA.ext n4 e11) (cA.ext n5 e11) (rt hE (by omega));rw[hV] at h;exact h) ?_))
  rintro _ w27 ⟨x27,rfl⟩
  have e11:aK wy w27:=e11.trans x27
  have hS:Mv (fun k=>k=g2) wy w27:=Mv.of_ext e11
  refine aH hS ?_
  refine aQ 16 (by kernel_rfl) MI (ap MI MI MI (aH hS ?_))
  refine aQ 17 (by kernel_rfl) MI (ae MI MI (aH hS ?_))
  refine yY 18 MI MI MI (by kernel_rfl) MI hS ?_
  refine yY 20 MI MI MI (by kernel_rfl) MI hS ?_
  refine aQ 19 (by kernel_rfl) MI (an MI MI MI (aH hS ?_))
  refine aQ 21 (by kernel_rfl) MI (an MI MI MI (aH hS ?_))
  refine pV 22 MI MI MI (by kernel_rfl) MI hS ?_
  have k2g:=k2y.ext e11
  obtain⟨wd,sd,qd,kd⟩:=k2g.stS (P:=Tryz.prog) (t:=54) (m:=[vd,vl,I u.leaf.split.kd,I u.leaf.split.ix,B u.leaf.split.at_.1,x,y,vk,B u.leaf.empty,vp]) rfl (by kernel_rfl) h1cs
  have md:Mv (fun k=>k=g2) w27 wd:=Mv.of_grown qd fun k hk _=>(Option.some.inj hk).symm
  have hSd:Mv (fun k=>k=g2) wy wd:=(Mv.of_ext e11).trans md fun _ hj _=>hj
  have eF:aK w wd:=Mv.ext_from hSd eY (fun k hk=>by have:k=g2:=hk;omega)
  have rF:=(rpy.mv (hSd.weak fun j hj _=>by have:j=g2:=hj;show j<w9.heap.size;omega) fun _ hj=>.inl hj).weak (Y:=fun k=>k<w.heap.size) fun j hj=>.inl (by show j<w9.heap.size;omega)
  refine aQ 23 (by kernel_rfl) MI (ar MI MI sd (aH hSd ?_))
  refine aQ 24 (by kernel_rfl) MI (ac MI MI (aH hSd (gQ (by kernel_rfl) ?_)))
  refine ab (aw ?_)
  refine cu MI MI MI kd Md MI (by kernel_rfl) ?_
  exact⟨_,rfl,eF,u,_,false,rfl,rF,h1cs,(fun e=>nomatch e),fun _=>BY hE hV⟩
 ·have hpe:dh u=p:=by have:=(xh hE).1;simpa using this.symm
  have hS:Mv (fun k=>k=g2) wy wy.drew:=Mv.of_ext ((aK.refl wy).drew)
  have e11:aK wy wy.drew:=(aK.refl wy).drew
  refine gO (Mv (fun k=>k=g2) wy) 25 MI (by kernel_rfl) ?_
  refine fU 0 MI MI (by kernel_rfl) MI hS (fun w' hw'=>(hw'.blk ky (fun e=>by omega)).ld Md MI (by kernel_rfl)) ?_
  refine aQ 1 (by kernel_rfl) MI (ae MI MI (aH hS ?_))
  refine aQ 2 (by kernel_rfl) MI (ax MI MI (aH hS ?_))
  refine aQ 3 (by kernel_rfl) MI (ah MI MI (aq (o:=1) Mp MI (by kernel_rfl) MI) (aH hS ?_))
  refine aQ 4 (by kernel_rfl) MI (ak MI MI (ai Mi MI ((hmy.blk.ext e11).cell (i:=1) MI)) (aH hS ?_))
  refine aQ 5 (by kernel_rfl) MI (ae MI MI (aH hS ?_))
  refine aQ 6 (by kernel_rfl) MI (aj MI (ae MI MI (aH hS ?_)))
  refine aQ 7 (by kernel_rfl) MI (aj MI (ax MI MI (aH hS ?_)))
  refine aQ 8 (by kernel_rfl) MI (aj MI (ah MI MI (aq (o:=0) Mp MI (by kernel_rfl) MI) (aH hS ?_)))
  refine aQ 9 (by kernel_rfl) MI (aj MI (ak MI MI (ai MA MI ((hmy.blk.ext e11).cell (i:=0) MI)) (aH hS ?_)))
  refine aQ 10 (by kernel_rfl) MI (aj MI (am tx MI MI (As (hmy.rd.ext e11)) ?_))
  rintro _ _ ⟨rfl,rfl⟩
  refine aH hS ?_
  refine aQ 11 (by kernel_rfl) MI (aj MI (al (r:=B true) MI MI MI An (aH hS ?_)))
  refine aQ 12 (by kernel_rfl) MI (ap MI MI MI (aH hS ?_))
  refine aQ 13 (by kernel_rfl) MI (ae MI MI (aH hS ?_))
  refine aQ 14 (by kernel_rfl) MI (aj MI (ak MI MI ((ky.ext e11).ld Md MI (by kernel_rfl)) (aH hS ?_)))
  refine aQ 15 (by kernel_rfl) MI (aj MI (am nK MI MI (by have h:=nN (u:=u) (cA.ext n0 e11) (cA.ext n1 e11) (n2.ext e11) (n3.ext e11) (cA.ext n4 e11) (cA.ext n5 e11) (rt hE (by omega));rw[hV] at h;exact h) ?_))
  rintro _ w27 ⟨x27,rfl⟩
  have e11:aK wy w27:=e11.trans x27
  have hS:Mv (fun k=>k=g2) wy w27:=Mv.of_ext e11
  refine aH hS ?_
  refine aQ 16 (by kernel_rfl) MI (ap MI MI MI (aH hS ?_))
  refine aQ 17 (by kernel_rfl) MI (ae MI MI (aH hS ?_))
  refine JD 20 MI MI MI (by kernel_rfl) MI hS ?_
  refine aQ 18 (by kernel_rfl) MI (aj MI (ak MI MI ((ky.ext e11).ld Md MI (by kernel_rfl)) (aH hS ?_)))
  refine aQ 19 (by kernel_rfl) MI (aj MI (am Gb MI MI (Gd (u:=u) (cA.ext n0 e11) (cA.ext n1 e11) (n2.ext e11) (n3.ext e11) (cA.ext n4 e11) (cA.ext n5 e11) (xh hE).2.1 (by rw[hpe];omega)) ?_))
  rintro v31 w31 ⟨x31,b31⟩
  have e11:aK wy w31:=e11.trans x31
  have hS:Mv (fun k=>k=g2) wy w31:=Mv.of_ext e11
  refine aH hS ?_
  refine aQ 21 (by kernel_rfl) MI (aj MI (am Bx MI MI (by have h:=By b31 (bpy.ext e11);rw[decide_eq_true hpe] at h;exact h) ?_))
  rintro _ w33 ⟨x33,rfl⟩
  have e11:aK wy w33:=e11.trans x33
  have hS:Mv (fun k=>k=g2) wy w33:=Mv.of_ext e11
  refine aH hS ?_
  refine EF 22 MI MI MI (by kernel_rfl) MI hS ?_
  have k2g:=k2y.ext e11
  obtain⟨wd,sd,qd,kd⟩:=k2g.stS (P:=Tryz.prog) (t:=54) (m:=[vd,vl,I u.leaf.split.kd,I u.leaf.split.ix,B u.leaf.split.at_.1,x,y,vk,B u.leaf.empty,vp]) rfl (by kernel_rfl) h1cs
  have md:Mv (fun k=>k=g2) w33 wd:=Mv.of_grown qd fun k hk _=>(Option.some.inj hk).symm
  have hSd:Mv (fun k=>k=g2) wy wd:=(Mv.of_ext e11).trans md fun _ hj _=>hj
  have eF:aK w wd:=Mv.ext_from hSd eY (fun k hk=>by have:k=g2:=hk;omega)
  have rF:=(rpy.mv (hSd.weak fun j hj _=>by have:j=g2:=hj;show j<w9.heap.size;omega) fun _ hj=>.inl hj).weak (Y:=fun k=>k<w.heap.size) fun j hj=>.inl (by show j<w9.heap.size;omega)
  refine aQ 23 (by kernel_rfl) MI (ar MI MI sd (aH hSd ?_))
  refine aQ 24 (by kernel_rfl) MI (ac MI MI (aH hSd (gQ (by kernel_rfl) ?_)))
  refine ab (aw ?_)
  refine cu MI MI MI kd Md MI (by kernel_rfl) ?_
  exact⟨_,rfl,eF,u,_,true,rfl,rF,h1cs,(fun _=>Af hE hV),fun e=>nomatch e⟩
 ·have hS:Mv (fun k=>k=g2) wy wy.drew:=Mv.of_ext ((aK.refl wy).drew)
  have e11:aK wy wy.drew:=(aK.refl wy).drew
  refine gO (Mv (fun k=>k=g2) wy) 25 MI (by kernel_rfl) ?_
  refine fU 0 MI MI (by kernel_rfl) MI hS (fun w' hw'=>(hw'.blk ky (fun e=>by omega)).ld Md MI (by kernel_rfl)) ?_
  refine aQ 1 (by kernel_rfl) MI (ae MI MI (aH hS ?_))
  refine aQ 2 (by kernel_rfl) MI (ax MI MI (aH hS ?_))
  refine aQ 3 (by kernel_rfl) MI (ah MI MI (aq (o:=1) Mp MI (by kernel_rfl) MI) (aH hS ?_))
  refine aQ 4 (by kernel_rfl) MI (ak MI MI (ai Mi MI ((hmy.blk.ext e11).cell (i:=1) MI)) (aH hS ?_))
  refine aQ 5 (by kernel_rfl) MI (ae MI MI (aH hS ?_))
  refine aQ 6 (by kernel_rfl) MI (aj MI (ae MI MI (aH hS ?_)))
  refine aQ 7 (by kernel_rfl) MI (aj MI (ax MI MI (aH hS ?_)))
  refine aQ 8 (by kernel_rfl) MI (aj MI (ah MI MI (aq (o:=0) Mp MI (by kernel_rfl) MI) (aH hS ?_)))
  refine aQ 9 (by kernel_rfl) MI (aj MI (ak MI MI (ai MA MI ((hmy.blk.ext e11).cell (i:=0) MI)) (aH hS ?_)))
  refine aQ 10 (by kernel_rfl) MI (aj MI (am tx MI MI (As (hmy.rd.ext e11)) ?_))
  rintro _ _ ⟨rfl,rfl⟩
  refine aH hS ?_
  refine aQ 11 (by kernel_rfl) MI (aj MI (al (r:=B false) MI MI MI EG (aH hS ?_)))
  refine aQ 12 (by kernel_rfl) MI (ap MI MI MI (aH hS ?_))
  refine aQ 13 (by kernel_rfl) MI (ae MI MI (aH hS ?_))
  refine aQ 14 (by kernel_rfl) MI (an MI MI MI (aH hS ?_))
  refine aQ 15 (by kernel_rfl) MI (an MI MI MI (aH hS ?_))
  refine aQ 16 (by kernel_rfl) MI (aD MI MI MI (aH hS ?_))
  refine aQ 17 (by kernel_rfl) MI (ae MI MI (aH hS ?_))
  refine yY 18 MI MI MI (by kernel_rfl) MI hS ?_
  refine yY 20 MI MI MI (by kernel_rfl) MI hS ?_
  refine aQ 19 (by kernel_rfl) MI (an MI MI MI (aH hS ?_))
  refine aQ 21 (by kernel_rfl) MI (an MI MI MI (aH hS ?_))
  refine pV 22 MI MI MI (by kernel_rfl) MI hS ?_
  have k2g:=k2y.ext e11
  obtain⟨wd,sd,qd,kd⟩:=k2g.stS (P:=Tryz.prog) (t:=54) (m:=[vd,vl,I u.leaf.split.kd,I u.leaf.split.ix,B u.leaf.split.at_.1,x,y,vk,B u.leaf.empty,vp]) rfl (by kernel_rfl) h1cs
  have md:Mv (fun k=>k=g2) wy.drew wd:=Mv.of_grown qd fun k hk _=>(Option.some.inj hk).symm
  have hSd:Mv (fun k=>k=g2) wy wd:=(Mv.of_ext e11).trans md fun _ hj _=>hj
  have eF:aK w wd:=Mv.ext_from hSd eY (fun k hk=>by have:k=g2:=hk;omega)
  have rF:=(rpy.mv (hSd.weak fun j hj _=>by have:j=g2:=hj;show j<w9.heap.size;omega) fun _ hj=>.inl hj).weak (Y:=fun k=>k<w.heap.size) fun j hj=>.inl (by show j<w9.heap.size;omega)
  refine aQ 23 (by kernel_rfl) MI (ar MI MI sd (aH hSd ?_))
  refine aQ 24 (by kernel_rfl) MI (ac MI MI (aH hSd (gQ (by kernel_rfl) ?_)))
  refine ab (aw ?_)
  refine cu MI MI MI kd Md MI (by kernel_rfl) ?_
  exact⟨_,rfl,eF,u,_,false,rfl,rF,h1cs,(fun e=>nomatch e),fun _=>Lf hl hJ⟩
 ·have hS:Mv (fun k=>k=g2) wy wy.drew:=Mv.of_ext ((aK.refl wy).drew)
  have e11:aK wy wy.drew:=(aK.refl wy).drew
  refine gO (Mv (fun k=>k=g2) wy) 25 MI (by kernel_rfl) ?_
  refine fU 0 MI MI (by kernel_rfl) MI hS (fun w' hw'=>(hw'.blk ky (fun e=>by omega)).ld Md MI (by kernel_rfl)) ?_
  refine aQ 1 (by kernel_rfl) MI (ae MI MI (aH hS ?_))
  refine aQ 2 (by kernel_rfl) MI (ax MI MI (aH hS ?_))
  refine aQ 3 (by kernel_rfl) MI (ah MI MI (aq (o:=1) Mp MI (by kernel_rfl) MI) (aH hS ?_))
  refine aQ 4 (by kernel_rfl) MI (ak MI MI (ai Mi MI ((hmy.blk.ext e11).cell (i:=1) MI)) (aH hS ?_))
  refine aQ 5 (by kernel_rfl) MI (ae MI MI (aH hS ?_))
  refine aQ 6 (by kernel_rfl) MI (an MI MI MI (aH hS ?_))
  refine aQ 7 (by kernel_rfl) MI (an MI MI MI (aH hS ?_))
  refine aQ 8 (by kernel_rfl) MI (an MI MI MI (aH hS ?_))
  refine aQ 9 (by kernel_rfl) MI (an MI MI MI (aH hS ?_))
  refine aQ 10 (by kernel_rfl) MI (an MI MI MI (aH hS ?_))
  refine aQ 11 (by kernel_rfl) MI (an MI MI MI (aH hS ?_))
  refine aQ 12 (by kernel_rfl) MI (aD MI MI MI (aH hS ?_))
  refine aQ 13 (by kernel_rfl) MI (ae MI MI (aH hS ?_))
  refine aQ 14 (by kernel_rfl) MI (an MI MI MI (aH hS ?_))
  refine aQ 15 (by kernel_rfl) MI (an MI MI MI (aH hS ?_))
  refine aQ 16 (by kernel_rfl) MI (aD MI MI MI (aH hS ?_))
  refine aQ 17 (by kernel_rfl) MI (ae MI MI (aH hS ?_))
  refine yY 18 MI MI MI (by kernel_rfl) MI hS ?_
  refine yY 20 MI MI MI (by kernel_rfl) MI hS ?_
  refine aQ 19 (by kernel_rfl) MI (an MI MI MI (aH hS ?_))
  refine aQ 21 (by kernel_rfl) MI (an MI MI MI (aH hS ?_))
  refine pV 22 MI MI MI (by kernel_rfl) MI hS ?_
  have k2g:=k2y.ext e11
  obtain⟨wd,sd,qd,kd⟩:=k2g.stS (P:=Tryz.prog) (t:=54) (m:=[vd,vl,I u.leaf.split.kd,I u.leaf.split.ix,B u.leaf.split.at_.1,x,y,vk,B u.leaf.empty,vp]) rfl (by kernel_rfl) h1cs
  have md:Mv (fun k=>k=g2) wy.drew wd:=Mv.of_grown qd fun k hk _=>(Option.some.inj hk).symm
  have hSd:Mv (fun k=>k=g2) wy wd:=(Mv.of_ext e11).trans md fun _ hj _=>hj
  have eF:aK w wd:=Mv.ext_from hSd eY (fun k hk=>by have:k=g2:=hk;omega)
  have rF:=(rpy.mv (hSd.weak fun j hj _=>by have:j=g2:=hj;show j<w9.heap.size;omega) fun _ hj=>.inl hj).weak (Y:=fun k=>k<w.heap.size) fun j hj=>.inl (by show j<w9.heap.size;omega)
  refine aQ 23 (by kernel_rfl) MI (ar MI MI sd (aH hSd ?_))
  refine aQ 24 (by kernel_rfl) MI (ac MI MI (aH hSd (gQ (by kernel_rfl) ?_)))
  refine ab (aw ?_)
  refine cu MI MI MI kd Md MI (by kernel_rfl) ?_
  exact⟨_,rfl,eF,u,_,false,rfl,rF,h1cs,(fun e=>nomatch e),fun _=>Ld hl hJ⟩
end Go.Rl
namespace Go.Rl
open Go.RowKit Go.Proofs
theorem rx:aG Tryz.prog 44:=⟨_,Tryz.func44,by kernel_rfl,rfl⟩
def xt (l:List UInt8) (r:Value) (w:World):Prop:=match p9 l with
 |some (p,t)=>∃vp,r=.tuple #[I ((l.length-t.length:Nat):Int),vp,B (decide (8≤t.length))]∧cz p vp w
 |none=>r=.tuple #[I 0,.slice none 0 0,B false]
theorem JE {l:List UInt8} (h:eK l=none):p9 l=none:=by unfold p9;rw[h];rfl
theorem JF {l:List UInt8} {n:Nat} (h:eK l=some (n,l.drop (uv n).length)) (hn:l.length-(uv n).length<n):p9 l=none:=by
 unfold p9;rw[h]
 show(if n≤(l.drop (uv n).length).length then _ else _)=_
 rw[if_neg (by rw[List.length_drop];omega)]
theorem JG {l:List UInt8} {n:Nat} (h:eK l=some (n,l.drop (uv n).length)) (hn:n≤l.length-(uv n).length):p9 l=some ((l.drop (uv n).length).take n,l.drop ((uv n).length+n)):=by
 unfold p9;rw[h]
 show(if n≤(l.drop (uv n).length).length then _ else _)=_
 rw[if_pos (by rw[List.length_drop];omega),List.drop_drop]
theorem DC {w:World} {l:List UInt8} {v:Value} (hv:cz l v w) (hl:l.length≤4294967296):
 Calls Tryz.prog 44 #[v] w (bE fun r w'=>aK w w'∧xt l r w):=by
 refine enter (vs:=[v]) Tryz.func44 MI MI MI ?_
 refine af (aa (ac MI MI (ac MI MI (ac MI MI (ag (ab (af (aa (ae MI MI (ae MI MI (aP MI MI (cN hv) ?_)))))))))))
 refine Lv (vs:=[I (l.length:Int),I 10]) MI MI Je ?_
 obtain⟨v15,p15,b15⟩:=iU hv (hi:=min l.length 10) (by omega) .i64
 refine cE MI MI MI MI MI (p15 _) ?_
 have b15:cz (l.take 10) v15 w:=by
  have e:l.take (min l.length 10)=l.take 10:=by rw[Nat.min_comm,←List.take_take,List.take_length]
  rw[e] at b15;exact b15
 refine ac MI MI (ag (ab (af (aa (ae MI MI (am AK MI MI ((AM b15 (by rw[List.length_take];omega))) ?_))))))
 rintro v17 w17 ⟨x17,g,lg,rfl,rr⟩
 refine ac MI MI (ag (ab (af ?_)))
 rcases hU:eK (l.take 10) with _|⟨n,t⟩
 rotate_left
 obtain⟨hs,hlen⟩:=z7 hU
 have hn64:=(gd hU).2
 rcases Nat.lt_or_ge (l.length-(uv n).length) n with hlt|hge
 ·refine aa (ae MI MI (am gH MI MI ((Hr (st:=some (l.take 10)) rr hU)) ?_))
  rintro v20 w20 ⟨g16,rfl,r1⟩
  have x20:=(x17).of_new g16 lg
  refine ae MI MI (ao MI MI (bj) (ao MI MI (bk) (ac MI MI (ac MI MI (ag (ab (af (af (aa (ae MI MI (al MI MI MI (dm (by decide) cT) ?_)))))))))))
  refine ag (ab (cq MI (aA (ab (af (aa (ae MI MI (aP MI MI (cN (b15.ext x20)) (ae MI MI (am yg MI MI ((HS r1)) ?_))))))))))
  rintro v28 _ ⟨rfl,rfl⟩
  refine al (r:=I (((uv n).length:Nat):Int)) MI MI MI ((HT (a:=(l.take 10).length) (b:=t.length) (by rw[List.length_take];omega) (by rw[List.length_take];omega))) ?_
  have hcl:(uv n).length≤l.length:=by omega
  refine ac MI MI (ag (ab (af (af (aa (ae MI MI (ae MI MI (aP MI MI (cN (hv.ext x20)) (ae MI MI (al (r:=I ((l.length-(uv n).length:Nat):Int)) MI MI MI ((by have e:((l.length-(uv n).length:Nat):Int)=(l.length:Int)-((uv n).length:Int):=(by omega);rw[e];exact bC (by omega) (by omega))) ?_))))))))))
  refine aZ MI MI (fk Me Mf) (al MI MI MI (cJ ((IP (by omega) hn64).2 hlt) cL) (ag (ab (bh MI ?_))))
  refine af (aa (ac MI MI (ac MI MI (ac MI MI (ag (ab (aw (ay (jR MI MI MI MI ?_)))))))))
  exact⟨_,rfl,x20,by unfold xt;rw[JF hs hlt];exact rfl⟩
 ·refine aa (ae MI MI (am gH MI MI ((Hr (st:=some (l.take 10)) rr hU)) ?_))
  rintro v20 w20 ⟨g16,rfl,r1⟩
  have x20:=(x17).of_new g16 lg
  refine ae MI MI (ao MI MI (bj) (ao MI MI (bk) (ac MI MI (ac MI MI (ag (ab (af (af (aa (ae MI MI (al MI MI MI (dm (by decide) cT) ?_)))))))))))
  refine ag (ab (cq MI (aA (ab (af (aa (ae MI MI (aP MI MI (cN (b15.ext x20)) (ae MI MI (am yg MI MI ((HS r1)) ?_))))))))))
  rintro v28 _ ⟨rfl,rfl⟩
  refine al (r:=I (((uv n).length:Nat):Int)) MI MI MI ((HT (a:=(l.take 10).length) (b:=t.length) (by rw[List.length_take];omega) (by rw[List.length_take];omega))) ?_
  have hcl:(uv n).length≤l.length:=by omega
  refine ac MI MI (ag (ab (af (af (aa (ae MI MI (ae MI MI (aP MI MI (cN (hv.ext x20)) (ae MI MI (al (r:=I ((l.length-(uv n).length:Nat):Int)) MI MI MI ((by have e:((l.length-(uv n).length:Nat):Int)=(l.length:Int)-((uv n).length:Int):=(by omega);rw[e];exact bC (by omega) (by omega))) ?_))))))))))
  refine aZ MI MI (fk Me Mf) (al MI MI MI (dm (mt (IP (by omega) hn64).1 (by omega)) cL) (ag ?_))
  refine ab (cq MI (aA (ab (af (aa (ae MI MI (ae MI MI (aZ MI MI (Ee Mf Me (by omega)) ?_))))))))
  refine al (r:=I (((uv n).length+n:Nat):Int)) MI MI MI (by have e:(((uv n).length+n:Nat):Int)=(((uv n).length:Nat):Int)+(n:Int):=(by omega);rw[e];exact aN (by omega) (by omega)) ?_
  refine ac MI MI (ag (ab (af ?_)))
  have hd:aK w20 w20.drew:=(aK.refl w20).drew
  obtain⟨v45,p45,b45⟩:=t8 hv (lo:=(uv n).length) (hi:=(uv n).length+n) (by omega) (by omega) .i64 .i64
  refine gO (aK w20) 13 MI (by kernel_rfl) ?_
  refine fv 0 MI MI (by kernel_rfl) MI hd ?_
  refine fv 1 MI MI (by kernel_rfl) MI hd ?_
  refine fv 2 MI MI (by kernel_rfl) MI hd ?_
  refine fv 3 MI MI (by kernel_rfl) MI hd ?_
  refine EE 4 MI MI MI MI MI (by kernel_rfl) MI hd (fun w' _=>p45 w') ?_
  refine fv 5 MI MI (by kernel_rfl) MI hd ?_
  refine J8 6 (r:=I (l.length:Int)) MI MI (by kernel_rfl) MI hd (fun w' hw'=>cN (hv.ext (x20.trans hw'))) ?_
  refine fv 7 MI MI (by kernel_rfl) MI hd ?_
  refine J7 8 (r:=I ((l.length-((uv n).length+n):Nat):Int)) MI MI MI (by kernel_rfl) MI hd (fun w' _=>by
   have e:((l.length-((uv n).length+n):Nat):Int)=(l.length:Int)-(((uv n).length+n:Nat):Int):=by omega
   rw[e];exact bC (by omega) (by omega)) ?_
  refine J7 9 (r:=B (decide (((l.length-((uv n).length+n):Nat):Int)≥8))) MI MI MI (by kernel_rfl) MI hd (fun w' _=>iS) ?_
  refine aQ 10 (by kernel_rfl) MI (ac MI MI (aH hd ?_))
  refine aQ 11 (by kernel_rfl) MI (ac MI MI (aH hd ?_))
  refine aQ 12 (by kernel_rfl) MI (ac MI MI (aH hd (gQ (by kernel_rfl) ?_)))
  refine ab (aw (jR MI MI MI MI ?_))
  exact⟨_,rfl,x20.drew,by
   unfold xt
   rw[JG hs hge]
   refine⟨v45,?_,?_⟩
   ·have e1:l.length-(l.drop ((uv n).length+n)).length=(uv n).length+n:=by rw[List.length_drop];omega
    have e2:decide (((l.length-((uv n).length+n):Nat):Int)≥8)=decide (8≤(l.drop ((uv n).length+n)).length):=decide_eq_decide.2 (by rw[List.length_drop];omega)
    rw[e1,e2]
   ·have e3:(l.take ((uv n).length+n)).drop (uv n).length=(l.drop (uv n).length).take n:=by rw[List.drop_take];congr 1;omega
    exact e3▸b45⟩
 ·refine aa (ae MI MI (am gH MI MI ((Ka (st:=some (l.take 10)) rr hU)) ?_))
  rintro v20 w20 ⟨g16,rfl,r1⟩
  have x20:=(x17).of_new g16 lg
  refine ae MI MI (ao MI MI (bj) (ao MI MI (bk) (ac MI MI (ac MI MI (ag (ab (af (af (aa (ae MI MI (al MI MI MI (cJ (by decide) cT) ?_)))))))))))
  refine ag (ab (bh MI (af (aa (ac MI MI (ac MI MI (ac MI MI (ag (ab (aw (ay (jR MI MI MI MI ?_))))))))))))
  exact⟨_,rfl,x20,by unfold xt;rw[JE (z8 hU)];exact rfl⟩
end Go.Rl
namespace Go.Rl
open Go.RowKit Go.Proofs
theorem pZ:aG Tryz.prog 41:=⟨_,Tryz.func41,by kernel_rfl,rfl⟩
theorem Gh {b:List UInt8} {k:Nat} (hk:k+8≤b.length):eS b k=decide ((kT (b.take k)).take 8=(b.take (k+8)).drop k):=by
 unfold eS
 rw[decide_eq_true hk,Bool.true_and]
 refine decide_eq_decide.2 ?_
 have e:b.take (k+8)=b.take k++(b.take (k+8)).drop k:=by
  have h:=List.take_append_drop k (b.take (k+8))
  rw[List.take_take,Nat.min_eq_left (by omega)] at h
  exact h.symm
 unfold BT
 constructor
 ·intro h
  rw[e] at h
  exact List.append_cancel_left h
 ·intro h
  rw[h,←e]
theorem Gi {b:List UInt8} {k:Nat}:b.take k++(b.take (k+8)).drop k=b.take (k+8):=by
 have h:=List.take_append_drop k (b.take (k+8))
 rw[List.take_take,Nat.min_eq_left (by omega)] at h
 exact h
theorem p7 {w:World} {b:List UInt8} {v:Value} {k gh g7 g1:Nat} (hb:cz b v w) (k7:ci g7 88 [.pointer (some ⟨gh,0,none⟩)] w) (k1:ci g1 22 [v] w) (hh:HA gh (b.take k) (UInt64.ofNat k) w) (hk:k+8≤b.length) (hl:b.length≤4294967296) (hloc:∀A n c,v=.slice A n c→qt A gh):
 Calls Tryz.prog 41 #[I (k:Int),.pointer (some ⟨g7,0,none⟩),.pointer (some ⟨g1,0,none⟩)] w (bE fun r w'=>Mv (fun j=>j=gh) w w'∧r=B (eS b k)∧HA gh (b.take (k+8)) (UInt64.ofNat (k+8)) w'):=by
 refine enter (vs:=[I (k:Int),.pointer (some ⟨g7,0,none⟩),.pointer (some ⟨g1,0,none⟩)]) Tryz.func41 MI MI MI ?_
 have hhl:=hh.lt
 have hh0:HA gh (b.take k) (UInt64.ofNat (b.take k).length) w:=by rw[List.length_take,Nat.min_eq_left (by omega)];exact hh
 refine af (aa (ac MI MI (ag (ab (af (aa ?_))))))
 refine ak MI MI (ai MD MI k7.k0) ?_
 refine am yH MI MI ((yI hh0)) ?_
 rintro v8 w8 ⟨x8,rfl⟩
 obtain⟨g5,w5,hr5,l5,x5,k5⟩:=aY (P:=Tryz.prog) (w:=w8) (t:=24) (l:=(List.replicate 32 0).map U8) iq rfl
 refine aV MI hr5 ?_
 obtain⟨w6,s6,q6,k6⟩:=k5.stS (P:=Tryz.prog) (t:=24) (m:=(kT (b.take k)).map U8) (by simp[dK]) (by rw[List.length_map,dK];exact ir) (ew _)
 refine ar MI MI s6 ?_
 have x6:=x5.of_new q6 l5
 have b32:cz (kT (b.take k)) (.slice (some ⟨g5,0,none⟩) 32 32) w6:=by
  have:=k6.bts (by rw[dK];omega)
  rwa [dK] at this
 have b8:=b32.front (k:=8) (by omega) (by omega)
 have e6:aK w w6:=x8.trans x6
 have hb6:=hb.ext e6
 obtain⟨v14,p14,b14⟩:=t8 hb6 (lo:=k) (hi:=k+8) (by omega) (by omega) .i64 .i64
 have haw:Ac gh v14:=by
  obtain⟨A,n,c,hveq,_⟩:=hb
  subst hveq
  intro a n' c' e he
  have h:=tk (p14 w) (hloc _ _ _ rfl) _ _ _ e a rfl
  omega
 refine ag (ab (af (bP 7 [0,1,2,15] (by kernel_rfl) (by kernel_rfl) ?_)))
 refine jo (a:=none) (b:=some (I 8)) MI MI MI MI (fun w _=>Aj) ?_
 refine aO MI MI (fun w' hw=>ai Mg MI ((k1.ext e6).ext hw).k0) (aC MI MI (aC MI MI (ba (r:=I ((k+8:Nat):Int)) MI MI MI (fun w _=>by have e:((k+8:Nat):Int)=(k:Int)+8:=(by omega);rw[e];exact aN (by omega) (by omega)) ?_)))
 refine jo (a:=some (I (k:Int))) (b:=some (I ((k+8:Nat):Int))) MI MI MI MI (fun w _=>p14 w) ?_
 refine cm (S:=Is (B (eS b k))) Bx (ca.is _) rfl (fun w hw=>by rintro _ rfl _ rfl;exact bE.mono (By (b8.ext hw) (b14.ext hw)) fun v w' h=>⟨h.1,by rw[Gh hk];exact h.2⟩) ?_
 refine cp ?_
 intro wg2 xg2
 rintro _ rfl
 rintro _ rfl
 rintro _ rfl
 rintro _ rfl
 refine ac MI MI (ag (ab (af (bP 6 [6,16,21] (by kernel_rfl) (by kernel_rfl) ?_))))
 refine aO MI MI (fun w' hw=>ai MD MI (((k7.ext e6).ext xg2).ext hw).k0) (aO MI MI (fun w' hw=>ai Mg MI (((k1.ext e6).ext xg2).ext hw).k0) ?_)
 refine aC MI MI (aC MI MI (ba (r:=I ((k+8:Nat):Int)) MI MI MI (fun w _=>by have e:((k+8:Nat):Int)=(k:Int)+8:=(by omega);rw[e];exact aN (by omega) (by omega)) ?_))
 refine jo (a:=some (I (k:Int))) (b:=some (I ((k+8:Nat):Int))) MI MI MI MI (fun w _=>p14 w) ?_
 refine cp ?_
 intro wg3 xg3
 rintro _ rfl
 rintro _ rfl
 rintro _ hq21
 obtain rfl:=Eq.symm hq21
 refine am gz MI MI ((gA (hh.ext ((e6.trans xg2).trans xg3)) (b14.ext (xg2.trans xg3)) fun _=>haw)) ?_
 rintro v22 w22 ⟨g22,h22⟩
 refine ag (ab (af (aa (ae MI MI (ac MI MI (ag (ab (aw (az MI MI ?_)))))))))
 exact⟨_,rfl,(Mv.of_ext ((e6.trans xg2).trans xg3)).trans (Mv.of_grown g22 fun j hj _=>(Option.some.inj hj).symm) fun _ h _=>h,rfl,by
  rw[Gi] at h22
  have e:UInt64.ofNat k+UInt64.ofNat ((b.take (k+8)).drop k).length=UInt64.ofNat (k+8):=by
   have:((b.take (k+8)).drop k).length=8:=by rw[List.length_drop,List.length_take];omega
   rw[this,←UInt64.ofNat_add]
  rw[e] at h22
  exact h22⟩
end Go.Rl
namespace Go.Rl
open Go.RowKit Go.Proofs
theorem tY:aG Tryz.prog 13:=⟨_,Tryz.func13,by kernel_rfl,rfl⟩
theorem JH {b:List UInt8} {k n:Nat}:b.take k++(b.take (k+n)).drop k=b.take (k+n):=by
 have h:=List.take_append_drop k (b.take (k+n))
 rw[List.take_take,Nat.min_eq_left (by omega)] at h
 exact h
theorem HA.on {g k n:Nat} {b:List UInt8} {w:World} (hk:k+n≤b.length) (h:HA g (b.take k++(b.take (k+n)).drop k) (UInt64.ofNat k+UInt64.ofNat ((b.take (k+n)).drop k).length) w):HA g (b.take (k+n)) (UInt64.ofNat (k+n)) w:=by
 rw[JH] at h
 have e:UInt64.ofNat k+UInt64.ofNat ((b.take (k+n)).drop k).length=UInt64.ofNat (k+n):=by
  have:((b.take (k+n)).drop k).length=n:=by rw[List.length_drop,List.length_take];omega
  rw[this,←UInt64.ofNat_add]
 rw[e] at h
 exact h
theorem Iv {b p t:List UInt8} {k:Nat} (h:p9 (b.drop k)=some (p,t)) (he:jj p=none):gZ b k=none:=by
 cases hc:eS b (b.length-t.length) with
 |false=>exact ph h hc
 |true=>exact B0 h hc he
theorem Iw {b:List UInt8} {k:Nat} (h:b.length<k+8):eS b k=false:=by
 unfold eS;rw[decide_eq_false (by omega)];rfl
theorem Au {b x:List UInt8} {v r:Value} {g:Nat} {w:World} {lo hi mx:Option Value} (hb:cz b v w) (hloc:∀A n c,v=.slice A n c→qt A g) (hrun:(Instr.sliceAt 22 v lo hi mx).run Tryz.prog w=.ok r w):0<x.length→Ac g r:=by
 obtain⟨A,n,c,hveq,_⟩:=hb
 subst hveq
 intro _ a n' c' e he
 have h:=tk hrun (hloc _ _ _ rfl) _ _ _ e a rfl
 omega
theorem JI {b:List UInt8} {v:Value} {w:World} {g:Nat} (hb:cz b v w) (h0:0<b.length) (hg:w.heap.size≤g):∀A n c,v=.slice A n c→qt A g:=by
 obtain⟨A,n,c,rfl,h1,h2,h3,h4,h5⟩:=hb
 intro A' n' c' e ad hA
 cases e
 obtain⟨ad',e',hc⟩:=h4 (by simp at h3;omega)
 rw[hA] at e'
 cases e'
 have:=hc.block_lt (by intro e;simp at e;simp[e] at h0)
 omega
theorem L3 {g:Nat} {m:List UInt8} {tot:UInt64} {w w':World} {X:Nat→Prop} (h:HA g m tot w) (hm:Mv X w w') (hx:¬X g):HA g m tot w':=by
 obtain⟨blk,hc,ht⟩:=h
 exact⟨blk,⟨hm.blk hc.hb hx,hc.ls,hc.lb⟩,ht⟩
theorem yZ {w:World} {b:List UInt8} {v:Value} (hv:cz b v w) (hl:b.length≤7340032):
 Calls Tryz.prog 13 #[v] w (bE fun r w'=>aK w w'∧jF w.heap.size b r w'):=by
 refine enter (vs:=[v]) Tryz.func13 MI MI MI ?_
 refine af (aa ?_)
 have hvc:v.cells=[v].toArray:=by obtain⟨A,n,c,rfl,_⟩:=hv;rfl
 obtain⟨g1,w1,hr1,l1,x1,k1⟩:=C1 (P:=Tryz.prog) (w:=w) (t:=22) (l:=[v]) hvc
 refine cG MI MI hr1 ?_
 obtain⟨g2,w2,hr2,l2,x2,k2⟩:=aY (P:=Tryz.prog) (w:=w1) (t:=24) (l:=pJ.map U8) iq rfl
 refine aV MI hr2 ?_
 have g12:g1<g2:=by have:=k1.lt;omega
 have e2:aK w w2:=x1.trans x2
 have k12:=k1.ext x2
 have hv2:=hv.ext e2
 refine ac MI MI (ac MI MI (ac MI MI (ag (ab (af (aa (ac MI MI (ag (ab (af (af (aa ?_))))))))))))
 refine ak MI MI (ai Mg MI k12.k0) ?_
 refine aP MI MI (cN hv2) (ae MI MI (al (r:=I ((44:Nat):Int)) MI MI MI (by have e:((44:Nat):Int)=36+8:=(by omega);rw[e];exact aN (by omega) (by omega)) ?_))
 refine al MI MI MI (a9) (ae MI MI ?_)
 refine cd (fun h20=>?_) (fun h20=>?_)
 ·refine an MI MI MI (an MI MI MI (an MI MI MI (an MI MI MI (ap MI MI MI (ag (ab (bh MI (af (aa ?_)))))))))
  refine bz (vs:=[]) (r:=.agg (pJ.map U8).toArray) MI MI (run_build _ _ _ _ (by kernel_rfl)) ?_
  obtain⟨wR,sR,qR,kR⟩:=k2.stS (P:=Tryz.prog) (t:=24) (m:=pJ.map U8) rfl eh (ew _)
  refine ar MI MI sR ?_
  have xR:=aK.of_new e2 qR (Nat.le_trans x1.size l2)
  refine ac MI MI (ac MI MI (ac MI MI (ag (ab (aw (ay ?_))))))
  refine ff MI MI MI MI MI kR Mo MI eh ?_
  exact⟨_,rfl,xR,jF.err (by
   first
   |exact .inl (by omega)
   |exact .inr (.inl (by assumption)))⟩
 ·refine aj MI ?_
  refine ak MI MI (ai Mg MI k12.k0) ?_
  refine aj MI ?_
  obtain⟨v22,p22,b22⟩:=iU hv2 (hi:=4) (by omega) .i64
  refine cE MI MI MI MI MI (p22 _) (aj MI (aZ MI MI (AF b22) (aj MI (al (v:=S [82,76,85,74]) MI MI MI (zp) (aD MI MI MI ?_)))))
  refine ag (ab ?_)
  refine bw MI (fun h25=>?_) (fun h25=>?_)
  ·refine af (aa ?_)
   refine bz (vs:=[]) (r:=.agg (pJ.map U8).toArray) MI MI (run_build _ _ _ _ (by kernel_rfl)) ?_
   obtain⟨wR,sR,qR,kR⟩:=k2.stS (P:=Tryz.prog) (t:=24) (m:=pJ.map U8) rfl eh (ew _)
   refine ar MI MI sR ?_
   have xR:=aK.of_new e2 qR (Nat.le_trans x1.size l2)
   refine ac MI MI (ac MI MI (ac MI MI (ag (ab (aw (ay ?_))))))
   refine ff MI MI MI MI MI kR Mo MI eh ?_
   exact⟨_,rfl,xR,jF.err (by
    first
    |exact .inl (by omega)
    |exact .inr (.inl (by assumption)))⟩
  ·refine aA (ab (af ?_))
   have h44:44≤b.length:=by omega
   refine aa (am yF MI MI ((yG _)) ?_)
   rintro v27 w27 ⟨x27,gh,lgh,rfl,hh27⟩
   obtain⟨g7,w7,hr7,l7,x7,k7⟩:=aY (P:=Tryz.prog) (w:=w27) (t:=88) (z:=.pointer none) (l:=[.pointer none]) (by kernel_rfl) rfl
   refine aV MI hr7 ?_
   obtain⟨w8,s8,q8,k8⟩:=k7.stC (P:=Tryz.prog) (t:=88) (i:=0) (v:=.pointer (some ⟨gh,0,none⟩)) (by kernel_rfl) rfl (by simp)
   refine ar MI MI s8 ?_
   have x8:=aK.of_new x7 q8 l7
   have k8:ci g7 88 [.pointer (some ⟨gh,0,none⟩)] w8:=k8
   have hh8:=hh27.ext x8
   have e8:aK w w8:=(e2.trans x27).trans x8
   have hv8:=hv.ext e8
   have k18:=(k12.ext x27).ext x8
   have k28:=(k2.ext x27).ext x8
   have ghlt:=hh27.lt
   have g2lt:=k2.lt
   have g17:g7≠gh:=by omega
   have g1h:g1≠gh:=by omega
   have g2h:g2≠gh:=by omega
   have hgh:w.heap.size≤gh:=by have:=e2.size;omega
   have hloc:=JI hv (by omega) hgh
   obtain⟨v31,p31,b31⟩:=iU hv8 (hi:=36) (by omega) .i64
   refine ag (ab (af (bP 4 [1,2,6,7,28,31] (by kernel_rfl) (by kernel_rfl) ?_)))
   refine aO MI MI (fun w' hw=>ai MD MI (k8.ext hw).k0) (aO MI MI (fun w' hw=>ai Mg MI (k18.ext hw).k0) ?_)
   refine aC MI MI ?_
   refine jo (a:=none) (b:=some (I 36)) MI MI MI MI (fun w _=>p31 w) ?_
   refine cp ?_
   intro wg5 xg5
   rintro _ rfl
   rintro _ rfl
   rintro _ rfl
   rintro _ rfl
   rintro _ rfl
   rintro _ hq31
   obtain rfl:=Eq.symm hq31
   refine am gz MI MI ((gA (hh8.ext xg5) (b31.ext xg5) (Au hv8 hloc (p31 _)))) ?_
   rintro v32 w32 ⟨g32,h32⟩
   have hh32:HA gh (b.take 36) (UInt64.ofNat 36) w32:=by
    have e:(0:UInt64)+UInt64.ofNat (b.take 36).length=UInt64.ofNat 36:=by rw[List.length_take,Nat.min_eq_left (by omega)];rfl
    rw[e] at h32
    exact h32
   have m32:Mv (fun j=>j=gh) w8 w32:=(Mv.of_ext xg5).trans (Mv.of_grown g32 fun j hj _=>(Option.some.inj hj).symm) fun _ hj _=>hj
   have k732:=m32.blk k8 g17
   have k132:=m32.blk k18 g1h
   have k232:=m32.blk k28 g2h
   have hv32:=hv.ext (Mv.ext_from m32 e8 fun j hj=>by have:j=gh:=hj;omega)
   refine ag (ab (af (aa ?_)))
   refine Cu (us:=[]) (vs:=[.pointer (some ⟨g7,0,none⟩),.pointer (some ⟨g1,0,none⟩)]) MI MI MI ?_
   refine ac MI MI (ag (ab (af (af ?_))))
   rcases hC:eS b 36
   ·refine aa (ae MI MI (ae MI MI (lV MI pZ MI MI ((by have h:=p7 (k:=36) hv32 k732 k132 hh32 (by omega) (by omega) hloc;rw[hC] at h;exact h)) ?_)))
    rintro v36 w36 ⟨m36,rfl,hh36⟩
    have m836:=m32.trans m36 fun _ hj _=>hj
    have k236:=m36.blk k232 g2h
    refine bt MI MI bu (ag (ab (bh MI (af (aa ?_)))))
    refine bz (vs:=[]) (r:=.agg (pJ.map U8).toArray) MI MI (run_build _ _ _ _ (by kernel_rfl)) ?_
    obtain⟨wR,sR,qR,kR⟩:=k236.stS (P:=Tryz.prog) (t:=24) (m:=pJ.map U8) rfl eh (ew _)
    refine ar MI MI sR ?_
    have xR:=aK.of_new (Mv.ext_from m836 e8 fun j hj=>by have:j=gh:=hj;omega) qR (Nat.le_trans x1.size l2)
    refine ac MI MI (ac MI MI (ac MI MI (ag (ab (aw (ay ?_))))))
    refine ff MI MI MI MI MI kR Mo MI eh ?_
    exact⟨_,rfl,xR,jF.err (.inr (.inr hC))⟩
   ·refine aa (ae MI MI (ae MI MI (lV MI pZ MI MI ((by have h:=p7 (k:=36) hv32 k732 k132 hh32 (by omega) (by omega) hloc;rw[hC] at h;exact h)) ?_)))
    rintro v36 w36 ⟨m36,rfl,hh36⟩
    have m836:=m32.trans m36 fun _ hj _=>hj
    have k236:=m36.blk k232 g2h
    have k136:=m36.blk k132 g1h
    have k736:=m36.blk k732 g17
    have e36:aK w w36:=Mv.ext_from m836 e8 fun j hj=>by have:j=gh:=hj;omega
    have gh36:=hh36.lt
    refine bt MI MI bu (ag (ab (cq MI (aA (ab (af (aa (ae MI MI (al (r:=I ((44:Nat):Int)) MI MI MI (by have e:((44:Nat):Int)=36+8:=(by omega);rw[e];exact aN (by omega) (by omega)) ?_)))))))))
    refine ac MI MI (ag (ab (af ?_)))
    have hOK:¬(b.length<44∨b.take 4≠kY∨eS b 36=false):=by
     rintro(h|h|h)
     ·omega
     ·exact h25 h
     ·rw[hC] at h;cases h
    have s32:(Tryz.prog.info? 24).map (·.size)=some ((((b.take 36).drop 4)).map U8).length:=by rw[List.length_map,List.length_drop,List.length_take,Nat.min_eq_left (by omega)];exact ir
    refine aa (ac MI MI (ag (ab (af (aF ?_)))))
    refine jZ (fun(k:Nat) (ve:Value) (es:List cc)=>[(1,.pointer (some ⟨g1,0,none⟩)),(2,.pointer (some ⟨g2,0,none⟩)),(6,I 36),(7,.pointer (some ⟨g7,0,none⟩)),(8,.func (.func 41) #[] #[.pointer (some ⟨g7,0,none⟩),.pointer (some ⟨g1,0,none⟩)]),(9,I (k:Int)),(10,ve)]) (fun(k:Nat) (ve:Value) (es:List cc) w'=>Mv (fun j=>j=gh) w36 w'∧HA gh (b.take k) (UInt64.ofNat k) w'∧f9 54 10 w36.heap.size jv es ve w'∧44≤k∧k≤b.length∧fH b 44=(es++(fH b k).1,(fH b k).2)∧es.length≤k) (fun(k:Nat) (ve:Value) (es:List cc)=>b.length-k) (44) (.slice none 0 0) ([]) ⟨rfl,rfl,rfl,rfl,rfl,rfl,rfl,trivial⟩ ⟨Mv.refl _ _,hh36,f9.nil _,by omega,by omega,by simp,by simp⟩ ?_
    rintro k ve es wL ⟨mL,hhL,oL,hk1,hk2,hJ,hel⟩
    refine aF (af ?_)
    have szL:=mL.size
    have k1L:=mL.blk k136 g1h
    have k2L:=mL.blk k236 g2h
    have k7L:=mL.blk k736 g17
    have eL:aK w wL:=Mv.ext_from mL e36 fun j hj=>by have:j=gh:=hj;omega
    have hvL:=hv.ext eL
    have hdl:(b.drop k).length=b.length-k:=List.length_drop
    obtain⟨v44,p44,b44⟩:=gq hvL (lo:=k) (by omega) .i64
    have hrec:=DC b44 (by omega)
    rcases hB:p9 (b.drop k) with _|⟨p,t⟩
    rotate_left
    have hbl:=HU hB
    rcases Nat.lt_or_ge t.length 8 with h8|h8
    ·simp only[xt,hB,decide_eq_false (Nat.not_le.2 h8)] at hrec
     refine aa ?_
     refine ak MI MI (ai Mg MI k1L.k0) ?_
     refine ae MI MI ?_
     refine cE MI MI MI MI MI (p44 _) ?_
     refine am rx MI MI (hrec) ?_
     rintro v45 w45 ⟨x45,vp,rfl,bp⟩
     refine ae MI MI (ao MI MI (fX) (ao MI MI (fY) (ao MI MI (fZ) (ac MI MI (ac MI MI (ac MI MI (ag ?_)))))))
     refine ab (af (af (aa (ae MI MI (bt MI MI bu (ag (ab (bh MI (bc (aJ (xI MI (aJ (bf (ab (af ?_)))))))))))))))
     have mX:=Mv.of_ext (X:=fun j=>j=gh) x45
     have hfin:=Dz hJ (ph hB (Iw (by omega)))
     have k1X:=mX.blk k1L g1h
     have k2X:=mX.blk k2L g2h
     have eX:=Mv.ext_from mX eL fun j hj=>by have:j=gh:=hj;omega
     obtain⟨v84,p84,b84⟩:=t8 (hv.ext eX) (lo:=4) (hi:=36) (by omega) (by omega) .i64 .i64
     have l84:((b.take 36).drop 4).length=32:=by rw[List.length_drop,List.length_take];omega
     obtain⟨ad,p85,c85⟩:=Et b84 l84
     obtain⟨wR,sR,qR,kR⟩:=k2X.stS (P:=Tryz.prog) (t:=24) (m:=((b.take 36).drop 4).map U8) (by rw[List.length_map,List.length_map,l84];rfl) s32 (ew _)
     have eR:=aK.of_new eX qR (Nat.le_trans x1.size l2)
     have oR:=(oL.mv mX fun j hj=>by have:j=gh:=hj;omega).mv (Mv.of_grown (X:=fun j=>j=g2) qR fun j hj _=>(Option.some.inj hj).symm) fun j hj=>by have:j=g2:=hj;have:=k236.lt;omega
     refine aa ?_
     refine ak MI MI (ai Mg MI k1X.k0) ?_
     refine ae MI MI ?_
     refine cE MI MI MI MI MI (p84 _) ?_
     refine pn MI MI (p85 _) ?_
     refine ak MI MI (uP c85 l84) ?_
     refine ae MI MI (ae MI MI ?_)
     refine ar MI MI sR ?_
     refine ac MI MI (ac MI MI (ac MI MI (ag (ab (aw ?_)))))
     refine ff MI MI MI MI MI kR Mo MI s32 ?_
     exact⟨_,rfl,eR,jF.ok hOK hfin ((oR.rpx cQ (by omega)).weak fun j hj=>.inl (by show j<w36.heap.size;have:=e36.size;omega))⟩
    ·simp only[xt,hB,decide_eq_true h8] at hrec
     have ekn:k+((b.drop k).length-t.length)=b.length-t.length:=by omega
     refine aa ?_
     refine ak MI MI (ai Mg MI k1L.k0) ?_
     refine ae MI MI ?_
     refine cE MI MI MI MI MI (p44 _) ?_
     refine am rx MI MI (hrec) ?_
     rintro v45 w45 ⟨x45,vp,rfl,bp⟩
     refine ae MI MI (ao MI MI (fX) (ao MI MI (fY) (ao MI MI (fZ) (ac MI MI (ac MI MI (ac MI MI (ag ?_)))))))
     refine ab (af (af (aa (ae MI MI (bt MI MI bu (ag (ab (cq MI (aA (ab (af (aa (ae MI MI (am DA MI MI ((DB (bp.ext x45) (by omega))) ?_))))))))))))))
     rintro v53 w53 ⟨x53,u,cs,ok,rfl,rp53,h1cs,hok1,hok2⟩
     refine ae MI MI (ao MI MI (bj) (ao MI MI (bk) ?_))
     obtain⟨g14,w14,hr14,l14,x14,k14⟩:=aY (P:=Tryz.prog) (w:=w53) (t:=54) (z:=.agg #[.slice none 0 0,.slice none 0 0,I 0,I 0,B false,.slice none 0 0,.slice none 0 0,.slice none 0 0,B false,.slice none 0 0]) (l:=[.slice none 0 0,.slice none 0 0,I 0,I 0,B false,.slice none 0 0,.slice none 0 0,.slice none 0 0,B false,.slice none 0 0]) (by kernel_rfl) rfl
     refine aV MI hr14 ?_
     have hcs:cs.length=10:=rp53.len.trans (cQ u)
     obtain⟨wE,sE,qE,kE⟩:=k14.stS (P:=Tryz.prog) (t:=54) (m:=cs) (by rw[hcs];rfl) (by rw[hcs];kernel_rfl) h1cs
     refine ar MI MI sE ?_
     have xE:=aK.of_new x14 qE l14
     have eLE:aK wL wE:=(x45.trans x53).trans xE
     have rpE:=rp53.ext xE
     have k7E:=k7L.ext eLE
     have k1E:=k1L.ext eLE
     have hhE:=hhL.ext eLE
     have hvE:=hvL.ext eLE
     have s45:=x45.size
     have g14h:g14≠gh:=by have:=x53.size;have:=mL.size;omega
     obtain⟨v62,p62,b62⟩:=t8 hvE (lo:=k) (hi:=k+((b.drop k).length-t.length)) (by omega) (by omega) .i64 .i64
     refine ac MI MI (ag (ab (af ?_)))
     rcases hok:ok
     ·subst hok
      refine bP 7 [1,2,6,7,8,9,10,11,13,14,56,62] (by kernel_rfl) (by kernel_rfl) ?_
      refine aO MI MI (fun w' hw=>ai MD MI (k7E.ext hw).k0) (aO MI MI (fun w' hw=>ai Mg MI (k1E.ext hw).k0) ?_)
      refine aC MI MI (aC MI MI (aC MI MI (ba (r:=I ((k+((b.drop k).length-t.length):Nat):Int)) MI MI MI (fun w _=>by have e:((k+((b.drop k).length-t.length):Nat):Int)=(k:Int)+(((b.drop k).length-t.length):Nat):=(by omega);rw[e];exact aN (by omega) (by omega)) ?_)))
      refine jo (a:=some (I (k:Int))) (b:=some (I ((k+((b.drop k).length-t.length):Nat):Int))) MI MI MI MI (fun w _=>p62 w) ?_
      refine cp ?_
      intro wg14 xg14
      rintro _ rfl
      rintro _ rfl
      rintro _ rfl
      rintro _ rfl
      rintro _ rfl
      rintro _ rfl
      rintro _ hq10
      obtain rfl:=Eq.symm hq10
      rintro _ rfl
      rintro _ rfl
      rintro _ rfl
      rintro _ rfl
      rintro _ hq62
      obtain rfl:=Eq.symm hq62
      refine am gz MI MI ((gA (hhE.ext xg14) (b62.ext xg14) (Au hvE hloc (p62 _)))) ?_
      rintro v63 w63 ⟨g63,h63⟩
      have hh63:=HA.on (by omega) h63
      have m63:Mv (fun j=>j=gh) wL w63:=(Mv.of_ext (eLE.trans xg14)).trans (Mv.of_grown g63 fun j hj _=>(Option.some.inj hj).symm) fun _ hj _=>hj
      have mE63:Mv (fun j=>j=gh) wE w63:=(Mv.of_ext xg14).trans (Mv.of_grown g63 fun j hj _=>(Option.some.inj hj).symm) fun _ hj _=>hj
      have k763:=m63.blk k7L g17
      have k163:=m63.blk k1L g1h
      have hv63:=hv.ext (Mv.ext_from m63 eL fun j hj=>by have:j=gh:=hj;omega)
      refine ag (ab (af (af (aa (ae MI MI (bt MI MI bu (ae MI MI (an MI MI MI (an MI MI MI (an MI MI MI (an MI MI MI (an MI MI MI ?_))))))))))))
      refine an MI MI MI (ap MI MI MI (ag (ab (bh MI (bc (aJ (xI MI (aJ (bf (ab (af ?_)))))))))))
      have mX:=m63
      have hfin:=Dz hJ (Iv hB (hok2 rfl))
      have k1X:=mX.blk k1L g1h
      have k2X:=mX.blk k2L g2h
      have eX:=Mv.ext_from mX eL fun j hj=>by have:j=gh:=hj;omega
      obtain⟨v84,p84,b84⟩:=t8 (hv.ext eX) (lo:=4) (hi:=36) (by omega) (by omega) .i64 .i64
      have l84:((b.take 36).drop 4).length=32:=by rw[List.length_drop,List.length_take];omega
      obtain⟨ad,p85,c85⟩:=Et b84 l84
      obtain⟨wR,sR,qR,kR⟩:=k2X.stS (P:=Tryz.prog) (t:=24) (m:=((b.take 36).drop 4).map U8) (by rw[List.length_map,List.length_map,l84];rfl) s32 (ew _)
      have eR:=aK.of_new eX qR (Nat.le_trans x1.size l2)
      have oR:=(oL.mv mX fun j hj=>by have:j=gh:=hj;omega).mv (Mv.of_grown (X:=fun j=>j=g2) qR fun j hj _=>(Option.some.inj hj).symm) fun j hj=>by have:j=g2:=hj;have:=k236.lt;omega
      refine aa ?_
      refine ak MI MI (ai Mg MI k1X.k0) ?_
      refine ae MI MI ?_
      refine cE MI MI MI MI MI (p84 _) ?_
      refine pn MI MI (p85 _) ?_
      refine ak MI MI (uP c85 l84) ?_
      refine ae MI MI (ae MI MI ?_)
      refine ar MI MI sR ?_
      refine ac MI MI (ac MI MI (ac MI MI (ag (ab (aw ?_)))))
      refine ff MI MI MI MI MI kR Mo MI s32 ?_
      exact⟨_,rfl,eR,jF.ok hOK hfin ((oR.rpx cQ (by omega)).weak fun j hj=>.inl (by show j<w36.heap.size;have:=e36.size;omega))⟩
     ·subst hok
      have hent:=hok1 rfl
      refine bP 7 [1,2,6,7,8,9,10,11,13,14,56,62] (by kernel_rfl) (by kernel_rfl) ?_
      refine aO MI MI (fun w' hw=>ai MD MI (k7E.ext hw).k0) (aO MI MI (fun w' hw=>ai Mg MI (k1E.ext hw).k0) ?_)
      refine aC MI MI (aC MI MI (aC MI MI (ba (r:=I ((k+((b.drop k).length-t.length):Nat):Int)) MI MI MI (fun w _=>by have e:((k+((b.drop k).length-t.length):Nat):Int)=(k:Int)+(((b.drop k).length-t.length):Nat):=(by omega);rw[e];exact aN (by omega) (by omega)) ?_)))
      refine jo (a:=some (I (k:Int))) (b:=some (I ((k+((b.drop k).length-t.length):Nat):Int))) MI MI MI MI (fun w _=>p62 w) ?_
      refine cp ?_
      intro wg14 xg14
      rintro _ rfl
      rintro _ rfl
      rintro _ rfl
      rintro _ rfl
      rintro _ rfl
      rintro _ rfl
      rintro _ hq10
      obtain rfl:=Eq.symm hq10
      rintro _ rfl
      rintro _ rfl
      rintro _ rfl
      rintro _ rfl
      rintro _ hq62
      obtain rfl:=Eq.symm hq62
      refine am gz MI MI ((gA (hhE.ext xg14) (b62.ext xg14) (Au hvE hloc (p62 _)))) ?_
      rintro v63 w63 ⟨g63,h63⟩
      have hh63:=HA.on (by omega) h63
      have m63:Mv (fun j=>j=gh) wL w63:=(Mv.of_ext (eLE.trans xg14)).trans (Mv.of_grown g63 fun j hj _=>(Option.some.inj hj).symm) fun _ hj _=>hj
      have mE63:Mv (fun j=>j=gh) wE w63:=(Mv.of_ext xg14).trans (Mv.of_grown g63 fun j hj _=>(Option.some.inj hj).symm) fun _ hj _=>hj
      have k763:=m63.blk k7L g17
      have k163:=m63.blk k1L g1h
      have hv63:=hv.ext (Mv.ext_from m63 eL fun j hj=>by have:j=gh:=hj;omega)
      refine ag (ab (af (af ?_)))
      rcases hC2:eS b (b.length-t.length)
      ·refine aa (ae MI MI (bt MI MI bu (ae MI MI (aj MI (ae MI MI (aj MI (ae MI MI (aj MI (ae MI MI (aj MI (al (r:=I ((k+((b.drop k).length-t.length):Nat):Int)) MI MI MI (by have e:((k+((b.drop k).length-t.length):Nat):Int)=(k:Int)+(((b.drop k).length-t.length):Nat):=(by omega);rw[e];exact aN (by omega) (by omega)) ?_)))))))))))
       refine aj MI (lV MI pZ MI MI ((by have h:=p7 (k:=k+((b.drop k).length-t.length)) hv63 k763 k163 hh63 (by omega) (by omega) hloc;rw[ekn,hC2] at h;rw[ekn];exact h)) ?_)
       rintro v71 w71 ⟨m71,rfl,hh71⟩
       refine aj MI (bt MI MI bu (aD MI MI MI (ag (ab (bh MI (bc (aJ (xI MI (aJ (bf (ab (af ?_))))))))))))
       have mX:=m63.trans m71 fun _ hj _=>hj
       have hfin:=Dz hJ (ph hB hC2)
       have k1X:=mX.blk k1L g1h
       have k2X:=mX.blk k2L g2h
       have eX:=Mv.ext_from mX eL fun j hj=>by have:j=gh:=hj;omega
       obtain⟨v84,p84,b84⟩:=t8 (hv.ext eX) (lo:=4) (hi:=36) (by omega) (by omega) .i64 .i64
       have l84:((b.take 36).drop 4).length=32:=by rw[List.length_drop,List.length_take];omega
       obtain⟨ad,p85,c85⟩:=Et b84 l84
       obtain⟨wR,sR,qR,kR⟩:=k2X.stS (P:=Tryz.prog) (t:=24) (m:=((b.take 36).drop 4).map U8) (by rw[List.length_map,List.length_map,l84];rfl) s32 (ew _)
       have eR:=aK.of_new eX qR (Nat.le_trans x1.size l2)
       have oR:=(oL.mv mX fun j hj=>by have:j=gh:=hj;omega).mv (Mv.of_grown (X:=fun j=>j=g2) qR fun j hj _=>(Option.some.inj hj).symm) fun j hj=>by have:j=g2:=hj;have:=k236.lt;omega
       refine aa ?_
       refine ak MI MI (ai Mg MI k1X.k0) ?_
       refine ae MI MI ?_
       refine cE MI MI MI MI MI (p84 _) ?_
       refine pn MI MI (p85 _) ?_
       refine ak MI MI (uP c85 l84) ?_
       refine ae MI MI (ae MI MI ?_)
       refine ar MI MI sR ?_
       refine ac MI MI (ac MI MI (ac MI MI (ag (ab (aw ?_)))))
       refine ff MI MI MI MI MI kR Mo MI s32 ?_
       exact⟨_,rfl,eR,jF.ok hOK hfin ((oR.rpx cQ (by omega)).weak fun j hj=>.inl (by show j<w36.heap.size;have:=e36.size;omega))⟩
      ·refine aa (ae MI MI (bt MI MI bu (ae MI MI (aj MI (ae MI MI (aj MI (ae MI MI (aj MI (ae MI MI (aj MI (al (r:=I ((k+((b.drop k).length-t.length):Nat):Int)) MI MI MI (by have e:((k+((b.drop k).length-t.length):Nat):Int)=(k:Int)+(((b.drop k).length-t.length):Nat):=(by omega);rw[e];exact aN (by omega) (by omega)) ?_)))))))))))
       refine aj MI (lV MI pZ MI MI ((by have h:=p7 (k:=k+((b.drop k).length-t.length)) hv63 k763 k163 hh63 (by omega) (by omega) hloc;rw[ekn,hC2] at h;rw[ekn];exact h)) ?_)
       rintro v71 w71 ⟨m71,rfl,hh71⟩
       refine aj MI (bt MI MI bu (aD MI MI MI (ag (ab (cq MI (aA (ab (af ?_))))))))
       have hst:=EH hB hC2 hent
       obtain⟨_,_,_,_,_,_,hk9,hkb⟩:=pR hst
       have mE71:=mE63.trans m71 fun _ hj _=>hj
       have m71L:=m63.trans m71 fun _ hj _=>hj
       have kE71:=mE71.blk kE g14h
       have oE:=oL.mv m71L fun j hj=>by have:j=gh:=hj;omega
       have own:∀j,ve.ownBlock=some j→w36.heap.size≤j∧j<wL.heap.size:=oL.lt
       have rp71:=rpE.mv (mE71.weak fun j hj _=>by have:j=gh:=hj;show j<w45.heap.size;have:=mL.size;omega) fun _ hj=>.inl hj
       obtain⟨x76,w76,v77,w77,hr76,hr77,o77,m77,n77⟩:=oE.push (ty:=25) (t:=25) Mu xq rfl (by omega) (by omega) (by omega) h1cs (rp71.weak fun j hj=>.inl (by
        show j<w45.heap.size
        rcases hj with hj|hj
        ·have:=mL.size;omega
        ·have:=(own j hj).2;omega)) cQ (by omega) (Nat.le_trans szL m71L.size)
       refine aa (ae MI MI ?_)
       refine ak MI MI (kE71.ld Md MI (by rw[hcs];kernel_rfl)) ?_
       refine aI (vs:=[(0,.agg cs.toArray)]) MI MI hr76 ?_
       refine a6 MI MI hr77 ?_
       refine ac MI MI (ag (ab (aa (ae MI MI (ae MI MI (al (r:=I ((((b.drop k).length-t.length)+8:Nat):Int)) MI MI MI (by have e:((((b.drop k).length-t.length)+8:Nat):Int)=(((b.drop k).length-t.length):Nat)+8:=(by omega);rw[e];exact aN (by omega) (by omega)) ?_))))))
       refine al (r:=I ((k+(((b.drop k).length-t.length)+8):Nat):Int)) MI MI MI (by have e:((k+(((b.drop k).length-t.length)+8):Nat):Int)=(k:Int)+((((b.drop k).length-t.length)+8:Nat):Int):=(by omega);rw[e];exact aN (by omega) (by omega)) ?_
       refine ac MI MI (ag (aS ?_))
       refine gY (k+(((b.drop k).length-t.length)+8)) (v77) (es++[u]) ⟨rfl,rfl,rfl,rfl,rfl,rfl,rfl,trivial⟩ ⟨(mL.trans m71L fun _ hj _=>hj).trans m77 fun j hj hlt=>by have:=(own j hj).1;omega,(by
        have e:k+(((b.drop k).length-t.length)+8)=b.length-t.length+8:=by omega
        rw[e]
        exact L3 hh71 m77 fun hj=>by have:=(own gh hj).1;omega),o77,by omega,by omega,by
        have e:k+(((b.drop k).length-t.length)+8)=b.length-t.length+8:=by omega
        rw[hJ,e,rk hst];simp,by simp;omega⟩ (by omega)
    ·simp only[xt,hB] at hrec
     refine aa ?_
     refine ak MI MI (ai Mg MI k1L.k0) ?_
     refine ae MI MI ?_
     refine cE MI MI MI MI MI (p44 _) ?_
     refine am rx MI MI (hrec) ?_
     rintro v45 w45 ⟨x45,rfl⟩
     refine ae MI MI (ao MI MI (fX) (ao MI MI (fY) (ao MI MI (fZ) (ac MI MI (ac MI MI (ac MI MI (ag ?_)))))))
     refine ab (af (af (aa (ae MI MI (bt MI MI bu (ag (ab (bh MI (bc (aJ (xI MI (aJ (bf (ab (af ?_)))))))))))))))
     have mX:=Mv.of_ext (X:=fun j=>j=gh) x45
     have hfin:=Dz hJ (xr hB)
     have k1X:=mX.blk k1L g1h
     have k2X:=mX.blk k2L g2h
     have eX:=Mv.ext_from mX eL fun j hj=>by have:j=gh:=hj;omega
     obtain⟨v84,p84,b84⟩:=t8 (hv.ext eX) (lo:=4) (hi:=36) (by omega) (by omega) .i64 .i64
     have l84:((b.take 36).drop 4).length=32:=by rw[List.length_drop,List.length_take];omega
     obtain⟨ad,p85,c85⟩:=Et b84 l84
     obtain⟨wR,sR,qR,kR⟩:=k2X.stS (P:=Tryz.prog) (t:=24) (m:=((b.take 36).drop 4).map U8) (by rw[List.length_map,List.length_map,l84];rfl) s32 (ew _)
     have eR:=aK.of_new eX qR (Nat.le_trans x1.size l2)
     have oR:=(oL.mv mX fun j hj=>by have:j=gh:=hj;omega).mv (Mv.of_grown (X:=fun j=>j=g2) qR fun j hj _=>(Option.some.inj hj).symm) fun j hj=>by have:j=g2:=hj;have:=k236.lt;omega
     refine aa ?_
     refine ak MI MI (ai Mg MI k1X.k0) ?_
     refine ae MI MI ?_
     refine cE MI MI MI MI MI (p84 _) ?_
     refine pn MI MI (p85 _) ?_
     refine ak MI MI (uP c85 l84) ?_
     refine ae MI MI (ae MI MI ?_)
     refine ar MI MI sR ?_
     refine ac MI MI (ac MI MI (ac MI MI (ag (ab (aw ?_)))))
     refine ff MI MI MI MI MI kR Mo MI s32 ?_
     exact⟨_,rfl,eR,jF.ok hOK hfin ((oR.rpx cQ (by omega)).weak fun j hj=>.inl (by show j<w36.heap.size;have:=e36.size;omega))⟩
end Go.Rl
namespace Go.Rl
open Go.RowKit Go.Proofs
theorem sT {P:Program} {w:World} {a b c d:Value}:(Instr.extract (.tuple #[a,b,c,d]) 0).run P w=.ok a w:=rfl
theorem sU {P:Program} {w:World} {a b c d:Value}:(Instr.extract (.tuple #[a,b,c,d]) 1).run P w=.ok b w:=rfl
theorem sV {P:Program} {w:World} {a b c d:Value}:(Instr.extract (.tuple #[a,b,c,d]) 2).run P w=.ok c w:=rfl
theorem sY {P:Program} {w:World} {a b c d:Value}:(Instr.extract (.tuple #[a,b,c,d]) 3).run P w=.ok d w:=rfl
theorem kx (b:List UInt8):(ll b).1.1.length=32:=by
 unfold ll
 split
 ·exact uR
 ·rename_i h
  show((b.take 36).drop 4).length=32
  rw[List.length_drop,List.length_take];omega
end Go.Rl
namespace Go.Rl
open Go.RowKit Go.Proofs
theorem nP:aG Tryz.prog 143:=⟨_,Tryz.func143,by kernel_rfl,rfl⟩
theorem Av:aG Tryz.prog 51:=⟨_,Tryz.func51,by kernel_rfl,rfl⟩
theorem Aw:aG Tryz.prog 16:=⟨_,Tryz.func16,by kernel_rfl,rfl⟩
theorem nQ {w:World} {a b:bS} {x y p q:Value} (ha:bm a.at_.2.1 x w) (ha':bm a.at_.2.2 y w) (hb:bm b.at_.2.1 p w) (hb':bm b.at_.2.2 q w):
 Calls Tryz.prog 143 #[.agg #[I a.kd,I a.ix,B a.at_.1,x,y],.agg #[I b.kd,I b.ix,B b.at_.1,p,q]] w (bE fun r w'=>aK w w'∧r=B (decide (a=b))):=by
 refine enter (vs:=[.agg #[I a.kd,I a.ix,B a.at_.1,x,y],.agg #[I b.kd,I b.ix,B b.at_.1,p,q]]) Tryz.func143 MI MI MI ?_
 refine af (aa ?_)
 obtain⟨g2,w2,hr2,l2,x2,k2⟩:=cC (P:=Tryz.prog) (w:=w) (T:=48) (cs:=[I a.kd,I a.ix,B a.at_.1,x,y])
 refine cG MI MI hr2 ?_
 obtain⟨g3,w3,hr3,l3,x3,k3⟩:=cC (P:=Tryz.prog) (w:=w2) (T:=48) (cs:=[I b.kd,I b.ix,B b.at_.1,p,q])
 refine cG MI MI hr3 (ac MI MI (ag (ab (af (aa (ah MI MI (aq (o:=0) Mc MI (by kernel_rfl) MI) ?_))))))
 refine ak MI MI (ai Me MI (x3.cell_some (k2.cell (i:=0) MI))) (ah MI MI (aq (o:=0) Mc MI (by kernel_rfl) MI) ?_)
 refine ak MI MI (ai Me MI (k3.cell (i:=0) MI)) (al MI MI MI (bo) (ae MI MI ?_))
 refine cd (fun h10=>?_) (fun h10=>?_)
 ·refine aj MI (ah MI MI (aq (o:=1) Mc MI (by kernel_rfl) MI) (aj MI (ak MI MI (ai Me MI (x3.cell_some (k2.cell (i:=1) MI))) ?_)))
  refine aj MI (ah MI MI (aq (o:=1) Mc MI (by kernel_rfl) MI) (aj MI (ak MI MI (ai Me MI (k3.cell (i:=1) MI)) ?_)))
  refine aj MI (al MI MI MI (bo) (ap MI MI MI (ae MI MI ?_)))
  refine cd (fun h17=>?_) (fun h17=>?_)
  ·refine aj MI (ah MI MI (aq (o:=2) Mc MI (by kernel_rfl) MI) (aj MI (ah MI MI (cD (b:=2) (o:=0) Mb MI (by kernel_rfl) MI) ?_)))
   refine aj MI (ak MI MI (ai Mi MI (x3.cell_some (k2.cell (i:=2) MI))) (aj MI (ah MI MI (aq (o:=2) Mc MI (by kernel_rfl) MI) ?_)))
   refine aj MI (ah MI MI (cD (b:=2) (o:=0) Mb MI (by kernel_rfl) MI) (aj MI (ak MI MI (ai Mi MI (k3.cell (i:=2) MI)) ?_)))
   refine aj MI (al MI MI MI (uN Mi) (ap MI MI MI (ae MI MI ?_)))
   refine cd (fun h26=>?_) (fun h26=>?_)
   ·refine aj MI (ah MI MI (aq (o:=2) Mc MI (by kernel_rfl) MI) (aj MI (ah MI MI (cD (b:=2) (o:=1) Mb MI (by kernel_rfl) MI) ?_)))
    refine aj MI (ak MI MI (ai L8 MI (x3.cell_some (k2.cell (i:=3) MI))) (aj MI (ah MI MI (aq (o:=2) Mc MI (by kernel_rfl) MI) ?_)))
    refine aj MI (ah MI MI (cD (b:=2) (o:=1) Mb MI (by kernel_rfl) MI) (aj MI (ak MI MI (ai L8 MI (k3.cell (i:=3) MI)) ?_)))
    refine aj MI (am sm MI MI (sq (ha.ext (x2.trans x3)) (hb.ext (x2.trans x3))) ?_)
    rintro v33 w33 ⟨x33,rfl⟩
    refine ap MI MI MI (ae MI MI ?_)
    refine cd (fun h35=>?_) (fun h35=>?_)
    ·refine aj MI (ah MI MI (aq (o:=2) Mc MI (by kernel_rfl) MI) (aj MI (ah MI MI (cD (b:=2) (o:=2) Mb MI (by kernel_rfl) MI) ?_)))
     refine aj MI (ak MI MI (ai L8 MI ((x3.trans x33).cell_some (k2.cell (i:=4) MI))) (aj MI (ah MI MI (aq (o:=2) Mc MI (by kernel_rfl) MI) ?_)))
     refine aj MI (ah MI MI (cD (b:=2) (o:=2) Mb MI (by kernel_rfl) MI) (aj MI (ak MI MI (ai L8 MI (x33.cell_some (k3.cell (i:=4) MI))) ?_)))
     refine aj MI (am sm MI MI (sq (ha'.ext ((x2.trans x3).trans x33)) (hb'.ext ((x2.trans x3).trans x33))) ?_)
     rintro v42 w42 ⟨x42,rfl⟩
     refine ap MI MI MI (ac MI MI (ag (ab (aw (az MI MI ?_)))))
     exact⟨_,rfl,(((x2.trans x3).trans x33).trans x42),by
      first
      |exact congrArg B (decide_eq_decide.2 ⟨fun h=>bS.ext' h10 h17 (Prod.ext h26 (Prod.ext h35 h)),fun h=>by rw[h]⟩)
      |exact congrArg B (decide_eq_false fun h=>h35 (by rw[h])).symm
      |exact congrArg B (decide_eq_false fun h=>h26 (by rw[h])).symm
      |exact congrArg B (decide_eq_false fun h=>h17 (by rw[h])).symm
      |exact congrArg B (decide_eq_false fun h=>h10 (by rw[h])).symm⟩
    ·refine an MI MI MI (an MI MI MI (an MI MI MI (an MI MI MI (an MI MI MI (an MI MI MI (an MI MI MI (aD MI MI MI (ac MI MI (ag ?_)))))))))
     refine ab (aw (az MI MI ?_))
     exact⟨_,rfl,((x2.trans x3).trans x33),by
      first
      |exact congrArg B (decide_eq_decide.2 ⟨fun h=>bS.ext' h10 h17 (Prod.ext h26 (Prod.ext h35 h)),fun h=>by rw[h]⟩)
      |exact congrArg B (decide_eq_false fun h=>h35 (by rw[h])).symm
      |exact congrArg B (decide_eq_false fun h=>h26 (by rw[h])).symm
      |exact congrArg B (decide_eq_false fun h=>h17 (by rw[h])).symm
      |exact congrArg B (decide_eq_false fun h=>h10 (by rw[h])).symm⟩
   ·refine an MI MI MI (an MI MI MI (an MI MI MI (an MI MI MI (an MI MI MI (an MI MI MI (an MI MI MI (aD MI MI MI (ae MI MI (an MI MI MI ?_)))))))))
    refine an MI MI MI (an MI MI MI (an MI MI MI (an MI MI MI (an MI MI MI (an MI MI MI (aD MI MI MI (ac MI MI (ag (ab (aw (az MI MI ?_)))))))))))
    exact⟨_,rfl,(x2.trans x3),by
     first
     |exact congrArg B (decide_eq_decide.2 ⟨fun h=>bS.ext' h10 h17 (Prod.ext h26 (Prod.ext h35 h)),fun h=>by rw[h]⟩)
     |exact congrArg B (decide_eq_false fun h=>h35 (by rw[h])).symm
     |exact congrArg B (decide_eq_false fun h=>h26 (by rw[h])).symm
     |exact congrArg B (decide_eq_false fun h=>h17 (by rw[h])).symm
     |exact congrArg B (decide_eq_false fun h=>h10 (by rw[h])).symm⟩
  ·refine an MI MI MI (an MI MI MI (an MI MI MI (an MI MI MI (an MI MI MI (an MI MI MI (an MI MI MI (aD MI MI MI (ae MI MI (an MI MI MI ?_)))))))))
   refine an MI MI MI (an MI MI MI (an MI MI MI (an MI MI MI (an MI MI MI (an MI MI MI (aD MI MI MI (ae MI MI (an MI MI MI (an MI MI MI ?_)))))))))
   refine an MI MI MI (an MI MI MI (an MI MI MI (an MI MI MI (an MI MI MI (aD MI MI MI (ac MI MI (ag (ab (aw (az MI MI ?_))))))))))
   exact⟨_,rfl,(x2.trans x3),by
    first
    |exact congrArg B (decide_eq_decide.2 ⟨fun h=>bS.ext' h10 h17 (Prod.ext h26 (Prod.ext h35 h)),fun h=>by rw[h]⟩)
    |exact congrArg B (decide_eq_false fun h=>h35 (by rw[h])).symm
    |exact congrArg B (decide_eq_false fun h=>h26 (by rw[h])).symm
    |exact congrArg B (decide_eq_false fun h=>h17 (by rw[h])).symm
    |exact congrArg B (decide_eq_false fun h=>h10 (by rw[h])).symm⟩
 ·refine an MI MI MI (an MI MI MI (an MI MI MI (an MI MI MI (an MI MI MI (aD MI MI MI (ae MI MI (an MI MI MI (an MI MI MI (an MI MI MI ?_)))))))))
  refine an MI MI MI (an MI MI MI (an MI MI MI (an MI MI MI (aD MI MI MI (ae MI MI (an MI MI MI (an MI MI MI (an MI MI MI (an MI MI MI ?_)))))))))
  refine an MI MI MI (an MI MI MI (an MI MI MI (aD MI MI MI (ae MI MI (an MI MI MI (an MI MI MI (an MI MI MI (an MI MI MI (an MI MI MI ?_)))))))))
  refine an MI MI MI (an MI MI MI (aD MI MI MI (ac MI MI (ag (ab (aw (az MI MI ?_)))))))
  exact⟨_,rfl,(x2.trans x3),by
   first
   |exact congrArg B (decide_eq_decide.2 ⟨fun h=>bS.ext' h10 h17 (Prod.ext h26 (Prod.ext h35 h)),fun h=>by rw[h]⟩)
   |exact congrArg B (decide_eq_false fun h=>h35 (by rw[h])).symm
   |exact congrArg B (decide_eq_false fun h=>h26 (by rw[h])).symm
   |exact congrArg B (decide_eq_false fun h=>h17 (by rw[h])).symm
   |exact congrArg B (decide_eq_false fun h=>h10 (by rw[h])).symm⟩
def y5 (l:List dI):Nat:=(l.map fun m=>m.pf.length).sum
def sZ (u:cc):Nat:=1+u.path.length+u.leaf.lems.length+u.leaf.pf.length+u.leaf.kids.length+y5 u.leaf.lems
theorem Iy {l:List dI} {i:Nat} (hi:i<l.length):y5 (l.take (i+1))=y5 (l.take i)+l[i].pf.length:=by
 have e:l.take (i+1)=l.take i++[l[i]]:=by rw[List.take_add_one,List.getElem?_eq_getElem hi];rfl
 unfold y5
 rw[e,List.map_append,List.sum_append]
 simp
theorem Iz (l:List dI) (i:Nat):y5 (l.take i)≤y5 l:=by
 have h:y5 l=y5 (l.take i)+y5 (l.drop i):=by
  conv=>lhs;rw[←List.take_append_drop i l]
  unfold y5
  rw[List.map_append,List.sum_append]
 omega
theorem Ax {w:World} {u:cc} {vd vl x y vk vp:Value} (hd:cA dy u.path vd w) (hl:cA cY u.leaf.lems vl w) (_hx:bm u.leaf.split.at_.2.1 x w) (_hy:bm u.leaf.split.at_.2.2 y w) (hk:cA bG u.leaf.kids vk w) (hp:cA bN u.leaf.pf vp w) (hz:sZ u≤4611686018427387904):
 Calls Tryz.prog 51 #[.agg #[vd,vl,I u.leaf.split.kd,I u.leaf.split.ix,B u.leaf.split.at_.1,x,y,vk,B u.leaf.empty,vp]] w (bE fun r w'=>aK w w'∧r=I ((sZ u:Nat):Int)):=by
 refine enter (vs:=[.agg #[vd,vl,I u.leaf.split.kd,I u.leaf.split.ix,B u.leaf.split.at_.1,x,y,vk,B u.leaf.empty,vp]]) Tryz.func51 MI MI MI ?_
 have hzz:sZ u=1+u.path.length+u.leaf.lems.length+u.leaf.pf.length+u.leaf.kids.length+y5 u.leaf.lems:=rfl
 refine af (aa ?_)
 obtain⟨g1,w1,hr1,l1,x1,k1⟩:=cC (P:=Tryz.prog) (w:=w) (T:=54) (cs:=[vd,vl,I u.leaf.split.kd,I u.leaf.split.ix,B u.leaf.split.at_.1,x,y,vk,B u.leaf.empty,vp])
 refine cG MI MI hr1 (ac MI MI (ag (ab (af (aa (ah MI MI (aq (o:=0) Md MI (by kernel_rfl) MI) ?_))))))
 refine ak MI MI (ai Mj MI (k1.cell (i:=0) MI)) (aP MI MI (bg Mj (hd.ext x1)) ?_)
 refine al (r:=I ((1+u.path.length:Nat):Int)) MI MI MI (by have e:((1+u.path.length:Nat):Int)=1+(u.path.length:Int):=(by omega);rw[e];exact aN (by omega) (by omega)) ?_
 refine ah MI MI (aq (o:=1) Md MI (by kernel_rfl) MI) (ah MI MI (cD (b:=1) (o:=0) L9 MI (by kernel_rfl) MI) ?_)
 refine ak MI MI (ai Ml MI (k1.cell (i:=1) MI)) (aP MI MI (bg Ml (hl.ext x1)) (al (r:=I ((1+u.path.length+u.leaf.lems.length:Nat):Int)) MI MI MI (by have e:((1+u.path.length+u.leaf.lems.length:Nat):Int)=((1+u.path.length:Nat):Int)+(u.leaf.lems.length:Int):=(by omega);rw[e];exact aN (by omega) (by omega)) ?_))
 refine ah MI MI (aq (o:=1) Md MI (by kernel_rfl) MI) (ah MI MI (cD (b:=1) (o:=8) L9 MI (by kernel_rfl) MI) ?_)
 refine ak MI MI (ai Mm MI (k1.cell (i:=9) MI)) (aP MI MI (bg Mm (hp.ext x1)) (al (r:=I ((1+u.path.length+u.leaf.lems.length+u.leaf.pf.length:Nat):Int)) MI MI MI (by have e:((1+u.path.length+u.leaf.lems.length+u.leaf.pf.length:Nat):Int)=((1+u.path.length+u.leaf.lems.length:Nat):Int)+(u.leaf.pf.length:Int):=(by omega);rw[e];exact aN (by omega) (by omega)) ?_))
 refine ah MI MI (aq (o:=1) Md MI (by kernel_rfl) MI) (ah MI MI (cD (b:=1) (o:=6) L9 MI (by kernel_rfl) MI) ?_)
 refine ak MI MI (ai Mk MI (k1.cell (i:=7) MI)) (aP MI MI (bg Mk (hk.ext x1)) (al (r:=I ((1+u.path.length+u.leaf.lems.length+u.leaf.pf.length+u.leaf.kids.length:Nat):Int)) MI MI MI (by have e:((1+u.path.length+u.leaf.lems.length+u.leaf.pf.length+u.leaf.kids.length:Nat):Int)=((1+u.path.length+u.leaf.lems.length+u.leaf.pf.length:Nat):Int)+(u.leaf.kids.length:Int):=(by omega);rw[e];exact aN (by omega) (by omega)) ?_))
 refine ac MI MI (ag (ab (af (af (aa (ac MI MI (ag (ab (aF ?_)))))))))
 refine cg (α:=Nat) (fun i=>[(1,.pointer (some ⟨g1,0,none⟩)),(3,I ((1+u.path.length+u.leaf.lems.length+u.leaf.pf.length+u.leaf.kids.length+y5 (u.leaf.lems.take i):Nat):Int)),(4,I (i:Int))]) (fun i w'=>aK w w'∧aK w1 w'∧i≤u.leaf.lems.length) (fun i=>u.leaf.lems.length-i) (0) ⟨rfl,rfl,rfl,trivial⟩ ⟨x1,aK.refl _,by omega⟩ ?_
 rintro i wL ⟨eL,e1L,hi⟩
 refine af (af (aa (ae MI MI (ah MI MI (aq (o:=1) Md MI (by kernel_rfl) MI) (ah MI MI (cD (b:=1) (o:=0) L9 MI (by kernel_rfl) MI) ?_)))))
 refine ak MI MI (ai Ml MI (e1L.cell_some (k1.cell (i:=1) MI))) (aP MI MI (bg Ml (hl.ext eL)) ?_)
 refine al MI MI MI (a9) (ag (ab ?_))
 refine bw MI (fun h29=>?_) (fun h29=>?_)
 ·refine aA (ab (af (aF ?_)))
  have hst:=Iy (l:=u.leaf.lems) (i:=i) (by omega)
  have htk:=Iz u.leaf.lems (i+1)
  refine aa (ae MI MI (ah MI MI (aq (o:=1) Md MI (by kernel_rfl) MI) (ah MI MI (cD (b:=1) (o:=0) L9 MI (by kernel_rfl) MI) ?_)))
  refine ak MI MI (ai Ml MI (e1L.cell_some (k1.cell (i:=1) MI))) (ae MI MI ?_)
  obtain⟨a37,c37,p37,q37,h37⟩:=bZ (P:=Tryz.prog) (sz:=6) Ml (by kernel_rfl) cx (by omega) (hl.ext eL) (i:=i) (by omega) .i64
  obtain⟨e37,he37⟩:∃e,e=u.leaf.lems[i]'(by omega):=⟨_,rfl⟩
  rw[←he37] at h37
  obtain⟨x37_0,x37_1,x37_2,rfl,f37_0,f37_1,f37_2⟩:=fF h37
  refine av MI MI MI (p37 _) ?_
  rw[←he37] at hst
  refine ah MI MI (gR (o:=5) Mn MI (by kernel_rfl) MI) (ak MI MI (ai Mm MI (q37.at (j:=5) MI)) ?_)
  refine aP MI MI (bg Mm f37_2) (al (r:=I ((1+u.path.length+u.leaf.lems.length+u.leaf.pf.length+u.leaf.kids.length+y5 (u.leaf.lems.take (i+1)):Nat):Int)) MI MI MI (by have e:((1+u.path.length+u.leaf.lems.length+u.leaf.pf.length+u.leaf.kids.length+y5 (u.leaf.lems.take (i+1)):Nat):Int)=((1+u.path.length+u.leaf.lems.length+u.leaf.pf.length+u.leaf.kids.length+y5 (u.leaf.lems.take i):Nat):Int)+(e37.pf.length:Int):=(by omega);rw[e];exact aN (by omega) (by omega)) ?_)
  refine ac MI MI (ag (aS (ab (aa (ae MI MI (al (r:=I ((i+1:Nat):Int)) MI MI MI (by have e:((i+1:Nat):Int)=(i:Int)+1:=(by omega);rw[e];exact aN (by omega) (by omega)) ?_))))))
  refine ac MI MI (ag ?_)
  refine bR (i+1) ⟨rfl,rfl,rfl,trivial⟩ ⟨eL,e1L,by omega⟩ (by omega)
 ·refine bc (aJ (aJ (bf (ab (af (aa (ae MI MI (ac MI MI (ag (ab (aw (az MI MI ?_))))))))))))
  exact⟨_,rfl,eL,by rw[List.take_of_length_le (by omega),←hzz]⟩
def jm (l:List cc):Nat:=(l.map sZ).sum
theorem Gj {l:List cc} {i:Nat} (hi:i<l.length):jm (l.take (i+1))=jm (l.take i)+sZ l[i]:=by
 have e:l.take (i+1)=l.take i++[l[i]]:=by rw[List.take_add_one,List.getElem?_eq_getElem hi];rfl
 unfold jm
 rw[e,List.map_append,List.sum_append]
 simp
theorem Gk (l:List cc) (i:Nat):jm (l.take i)≤jm l:=by
 have h:jm l=jm (l.take i)+jm (l.drop i):=by
  conv=>lhs;rw[←List.take_append_drop i l]
  unfold jm
  rw[List.map_append,List.sum_append]
 omega
theorem Ay {w:World} {es:List cc} {v:Value} (hv:cA jv es v w) (hz:jm es≤4611686018427387904):
 Calls Tryz.prog 16 #[v] w (bE fun r w'=>aK w w'∧r=B (decide (jm es≤120))):=by
 refine enter (vs:=[v]) Tryz.func16 MI MI MI ?_
 have hll:=hv.len
 refine af (aa (ac MI MI (ag (ab (af (aa (ac MI MI (ag (ab (af (af (aa (ac MI MI (ag (ab (aF ?_))))))))))))))))
 refine cg (α:=Nat) (fun i=>[(0,v),(3,I ((jm (es.take i):Nat):Int)),(4,I (i:Int))]) (fun i w'=>aK w w'∧i≤es.length) (fun i=>es.length-i) (0) ⟨rfl,rfl,rfl,trivial⟩ ⟨aK.refl _,by omega⟩ ?_
 rintro i wL ⟨eL,hi⟩
 refine af (af (aa (ae MI MI (ae MI MI (aP MI MI (bg Mu (hv.ext eL)) (al MI MI MI (a9) (ag (ab ?_))))))))
 refine bw MI (fun h8=>?_) (fun h8=>?_)
 ·refine aA (ab (af (aF ?_)))
  have hst:=Gj (l:=es) (i:=i) (by omega)
  have htk:=Gk es (i+1)
  refine aa (ae MI MI (ae MI MI (ae MI MI ?_)))
  obtain⟨a14,c14,p14,q14,h14⟩:=bZ (P:=Tryz.prog) (sz:=10) Mu (by kernel_rfl) cQ (by omega) (hv.ext eL) (i:=i) (by omega) .i64
  obtain⟨e14,he14⟩:∃e,e=es[i]'(by omega):=⟨_,rfl⟩
  rw[←he14] at h14
  obtain⟨x14_0,x14_1,x14_2,x14_3,x14_4,x14_5,rfl,f14_0,f14_1,f14_2,f14_3,f14_4,f14_5⟩:=ii h14
  refine av MI MI MI (p14 _) ?_
  rw[←he14] at hst
  refine ak MI MI (q14.ld Md MI (by kernel_rfl)) (am Av MI MI ((Ax (u:=e14) f14_0 f14_1 f14_2 f14_3 f14_4 f14_5 (by omega))) ?_)
  rintro v16 w16 ⟨x16,rfl⟩
  refine al (r:=I ((jm (es.take (i+1)):Nat):Int)) MI MI MI (by have e:((jm (es.take (i+1)):Nat):Int)=((jm (es.take i):Nat):Int)+((sZ e14:Nat):Int):=(by omega);rw[e];exact aN (by omega) (by omega)) ?_
  refine ac MI MI (ag (aS (ab (aa (ae MI MI (al (r:=I ((i+1:Nat):Int)) MI MI MI (by have e:((i+1:Nat):Int)=(i:Int)+1:=(by omega);rw[e];exact aN (by omega) (by omega)) ?_))))))
  refine ac MI MI (ag ?_)
  refine bR (i+1) ⟨rfl,rfl,rfl,trivial⟩ ⟨(eL.trans x16),by omega⟩ (by omega)
 ·refine bc (aJ (aJ (bf (ab (af (aa (ae MI MI (al MI MI MI (DM) (ac MI MI (ag (ab (aw (az MI MI ?_)))))))))))))
  exact⟨_,rfl,eL,by
   rw[List.take_of_length_le (by omega)]
   exact congrArg B (decide_eq_decide.2 (by omega))⟩
end Go.Rl
namespace Go.Rl
open Go.RowKit Go.Proofs
theorem ry:aG Tryz.prog 108:=⟨_,Tryz.func108,by kernel_rfl,rfl⟩
structure mK (w0 w:World) (g:Nat) (ids:List Nat) (s:bS) (a b:JT) (x y:Value) (g1 g2:Nat) (i1 i2:List Nat) (w':World):Prop where
 mv:Mv (fun k=>k=g) w w'
 hx:bm s.at_.2.1 x w0
 hy:bm s.at_.2.2 y w0
 blk:ci g 114 (jl s x y (tX g1) (tX g2) iN) w'
 k1:jL w0 w' g1 a i1
 k2:jL w0 w' g2 b i2
 n1:g∉i1
 n2:g∉i2
 n3:∀k∈i1,k∉i2
 fresh:∀k,k∈i1∨k∈i2→k∈ids∨w.heap.size≤k
 young:w0.heap.size≤g
theorem mK.ext {w0 w w' w'':World} {g:Nat} {ids:List Nat} {s:bS} {a b:JT} {x y:Value} {g1 g2:Nat} {i1 i2:List Nat} (h:mK w0 w g ids s a b x y g1 g2 i1 i2 w') (e:aK w' w''):mK w0 w g ids s a b x y g1 g2 i1 i2 w'':=
 ⟨h.mv.trans (Mv.of_ext (X:=fun k=>k=g) e) fun _ hk _=>hk,h.hx,h.hy,h.blk.ext e,h.k1.mv (Mv.of_ext (X:=fun _=>False) e) (fun _ _ h=>h),h.k2.mv (Mv.of_ext (X:=fun _=>False) e) (fun _ _ h=>h),h.n1,h.n2,h.n3,h.fresh,h.young⟩
def L4 (w0 w:World) (g:Nat) (d:bS) (t:JT) (ids:List Nat) (r:Value) (w':World):Prop:=
 (∃n,t=.leaf n∧aK w w'∧r=.tuple #[iN,B false])∨
 ∃s a b x y g1 g2 i1 i2,sO d t=.split s a b∧mK w0 w g ids s a b x y g1 g2 i1 i2 w'∧r=if s=d then .tuple #[tX g1,B true] else if dF s=d then .tuple #[tX g2,B true] else .tuple #[iN,B false]
theorem Az {w0 w:World} {g:Nat} {ids:List Nat} (h:jL w0 w g .gap ids):ids=[g]∧ci g 114 (jl li (.slice none 0 0) (.slice none 0 0) iN iN iN) w:=h.at_
theorem uY {w0 w:World} {g:Nat} {ids:List Nat} {n:aW} (h:jL w0 w g (.leaf n) ids):∃k cs,ids=[g,k]∧ci g 114 (jl li (.slice none 0 0) (.slice none 0 0) iN iN (tX k)) w∧ci k 52 cs w∧Rp w0 (bG n) cs:=h.at_
theorem jL.root {w0 w:World} {g:Nat} {t:JT} {ids:List Nat} (h:jL w0 w g t ids):g∈ids:=by
 cases t with
 |gap=>rw[(Az h).1];simp
 |leaf n=>obtain⟨_,_,h1,_⟩:=uY h;rw[h1];simp
 |split s a b=>obtain⟨_,_,_,_,_,_,h1,_⟩:=h.split_inv;rw[h1];simp
theorem JT.shape (t:JT):t=.gap∨(∃n,t=.leaf n)∨∃s a b,t=.split s a b:=by
 cases t with
 |gap=>exact .inl rfl
 |leaf n=>exact .inr (.inl ⟨n,rfl⟩)
 |split s a b=>exact .inr (.inr ⟨s,a,b,rfl⟩)
theorem Lh {w:World} {d:bS} {p q:Value} {k i:Int} (hp:bm d.at_.2.1 p w) (hq:bm d.at_.2.2 q w):au [I k,I i,B d.at_.1,p,q]:=au.cons rfl (au.cons rfl (au.cons rfl (au.cons hp.one (au.cons hq.one au.nil))))
theorem rz {w0 w:World} {g:Nat} {t:JT} {ids:List Nat} {d:bS} {p q:Value} (e0:aK w0 w) (ho:zH w0) (hJ:jL w0 w g t ids) (hp:bm d.at_.2.1 p w0) (hq:bm d.at_.2.2 q w0):
 Calls Tryz.prog 108 #[.pointer (some ⟨g,0,none⟩),.agg #[I d.kd,I d.ix,B d.at_.1,p,q]] w (bE fun r w'=>L4 w0 w g d t ids r w'):=by
 have hg:w0.heap.size≤g:=hJ.young g hJ.root
 have hgl:g<w.heap.size:=hJ.lt g hJ.root
 refine enter (vs:=[.pointer (some ⟨g,0,none⟩),.agg #[I d.kd,I d.ix,B d.at_.1,p,q]]) Tryz.func108 MI MI MI ?_
 refine af (aa ?_)
 obtain⟨g3,w3,hr3,l3,x3,k3⟩:=cC (P:=Tryz.prog) (w:=w) (T:=48) (cs:=[I d.kd,I d.ix,B d.at_.1,p,q])
 refine cG MI MI hr3 (ac MI MI (ac MI MI (ag (ab (af (af ?_))))))
 have hg3:g≠g3:=by omega
 have hJ2:=hJ
 rcases t.shape with ht|⟨n,ht⟩|⟨s,a,b,ht⟩
 ·rw[ht] at hJ2
  obtain⟨hid,kg⟩:=Az hJ2
  have kg3:=kg.ext x3
  refine aa (ae MI MI (ax MI MI (ah MI MI (aq (o:=7) Mq MI (by kernel_rfl) MI) (ak MI MI (ai My MI (kg3.cell (i:=7) MI)) ?_))))
  refine al MI MI MI (gW My) (ag (ab (cq MI (aA (ab (af ?_))))))
  refine eW (fun(x:bS×JT×JT×Value×Value×Nat×Nat×List Nat×List Nat)=>[(0,.pointer (some ⟨g,0,none⟩)),(3,.pointer (some ⟨g3,0,none⟩))]) (fun x w'=>sO d t=.split x.1 x.2.1 x.2.2.1∧mK w0 w g ids x.1 x.2.1 x.2.2.1 x.2.2.2.1 x.2.2.2.2.1 x.2.2.2.2.2.1 x.2.2.2.2.2.2.1 x.2.2.2.2.2.2.2.1 x.2.2.2.2.2.2.2.2 w'∧ci g3 48 [I d.kd,I d.ix,B d.at_.1,p,q] w'∧aK w0 w') ?_ ?_
  ·refine af (aa (ae MI MI (ax MI MI (ah MI MI (aq (o:=5) Mq MI (by kernel_rfl) MI) ?_))))
   refine av MI MI MI (iF MB (by kernel_rfl) (i:=0) (by omega) .i64) ?_
   refine ak MI MI (ai Mw MI (kg3.cell (i:=5) MI)) (al MI MI MI (gp Mw) (ag ?_))
   refine ab (bh MI (af (aa (ae MI MI (ak MI MI (k3.ld Mc MI (by kernel_rfl)) (ax MI MI (ah MI MI (aq (o:=0) Mq MI (by kernel_rfl) MI) ?_)))))))
   obtain⟨w4,s4,q4,k4⟩:=ci.stO (P:=Tryz.prog) (t:=48) (m:=[I d.kd,I d.ix,B d.at_.1,p,q]) kg3 0 (by show 0+5≤8;omega) (by kernel_rfl) (Lh hp hq)
   refine ar MI MI s4 ?_
   have y4:=aK.of_new (e0.trans x3) q4 hg
   have m4:=(Mv.of_ext (X:=fun k=>k=g) x3).trans (Mv.of_grown (X:=fun k=>k=g) q4 fun k hk _=>(Option.some.inj hk).symm) fun _ hk _=>hk
   have k3b:=k3.other q4 (fun e=>hg3 (Option.some.inj e).symm)
   refine ag (ab (af (af (aa (ah MI MI (aq (o:=0) Mc MI (by kernel_rfl) MI) (ak MI MI (ai Me MI (k3b.cell (i:=0) MI)) ?_))))))
   refine al MI MI MI (bo) (ae MI MI ?_)
   refine cd (fun h24=>?_) (fun h24=>?_)
   ·refine an MI MI MI (an MI MI MI (an MI MI MI (ap MI MI MI (ag (ab (bh MI (aa (ae MI MI (ak MI MI (k3b.ld Mc MI (by kernel_rfl)) ?_)))))))))
    refine am jh MI MI ((ji (ho.ext y4) (hp.ext y4) (hq.ext y4))) ?_
    rintro v31 w31 ⟨x31,rfl⟩
    refine ax MI MI (ah MI MI (aq (o:=0) Mq MI (by kernel_rfl) MI) ?_)
    obtain⟨w6,s6,q6,k6⟩:=ci.stO (P:=Tryz.prog) (t:=48) (m:=[I (dF d).kd,I (dF d).ix,B (dF d).at_.1,p,q]) (k4.ext x31) 0 (by show 0+5≤8;omega) (by kernel_rfl) (Lh hp hq)
    refine ar MI MI s6 ?_
    have y6:=aK.of_new (y4.trans x31) q6 hg
    have m6:=(m4.trans (Mv.of_ext (X:=fun k=>k=g) x31) fun _ hk _=>hk).trans (Mv.of_grown (X:=fun k=>k=g) q6 fun k hk _=>(Option.some.inj hk).symm) fun _ hk _=>hk
    have k3c:=(k3b.ext x31).other q6 (fun e=>hg3 (Option.some.inj e).symm)
    have hn:xD d=dF d:=if_pos (by first|exact .inl h24|exact .inr h28)
    have kS:ci g 114 (jl (xD d) p q iN iN iN) w6:=by rw[hn];exact k6
    refine ag (ab (aa (ae MI MI (bz (vs:=[]) (r:=.agg #[I 0,I 0,B false,.slice none 0 0,.slice none 0 0,.pointer none,.pointer none,.pointer none]) MI MI (by exact run_build _ _ _ _ (by kernel_rfl)) ?_))))
    obtain⟨g36,w36,hr36,l36,x36,k36⟩:=cC (P:=Tryz.prog) (w:=w6) (T:=114) (cs:=[I 0,I 0,B false,.slice none 0 0,.slice none 0 0,.pointer none,.pointer none,.pointer none])
    refine cG MI MI hr36 (bz (vs:=[]) (r:=.agg #[I 0,I 0,B false,.slice none 0 0,.slice none 0 0,.pointer none,.pointer none,.pointer none]) MI MI (by exact run_build _ _ _ _ (by kernel_rfl)) ?_)
    obtain⟨g38,w38,hr38,l38,x38,k38⟩:=cC (P:=Tryz.prog) (w:=w36) (T:=114) (cs:=[I 0,I 0,B false,.slice none 0 0,.slice none 0 0,.pointer none,.pointer none,.pointer none])
    refine cG MI MI hr38 ?_
    refine bz (vs:=[(0,.pointer (some ⟨g36,0,none⟩)),(1,.pointer (some ⟨g38,0,none⟩))]) (r:=.agg #[.pointer (some ⟨g36,0,none⟩),.pointer (some ⟨g38,0,none⟩)]) MI MI (run_build _ _ _ #[.pointer (some ⟨g36,0,none⟩),.pointer (some ⟨g38,0,none⟩)] (by kernel_rfl)) ?_
    refine ax MI MI (ah MI MI (aq (o:=5) Mq MI (by kernel_rfl) MI) ?_)
    obtain⟨w7,s7,q7,k7⟩:=ci.stO (P:=Tryz.prog) (t:=111) (m:=[.pointer (some ⟨g36,0,none⟩),.pointer (some ⟨g38,0,none⟩)]) (kS.ext (x36.trans x38)) 5 (by show 5+2≤8;omega) (by kernel_rfl) (au.cons rfl (au.cons rfl au.nil))
    refine ar MI MI s7 ?_
    have y7:=aK.of_new (y6.trans (x36.trans x38)) q7 hg
    have m7:=(m6.trans (Mv.of_ext (X:=fun k=>k=g) (x36.trans x38)) fun _ hk _=>hk).trans (Mv.of_grown (X:=fun k=>k=g) q7 fun k hk _=>(Option.some.inj hk).symm) fun _ hk _=>hk
    have sz6:=m6.size
    have sz0:=e0.size
    have lt36:=k36.lt
    have G1:w0.heap.size≤g36:=by omega
    have G2:w0.heap.size≤g38:=by omega
    have N1:g∉[g36]:=by simp;omega
    have N2:g∉[g38]:=by simp;omega
    have N3:∀k∈[g36],k∉[g38]:=by simp;omega
    have FR:∀k,k∈[g36]∨k∈[g38]→k∈ids∨w.heap.size≤k:=fun k hk=>.inr (by simp at hk;omega)
    have k3d:=(k3c.ext (x36.trans x38)).other q7 (fun e=>hg3 (Option.some.inj e).symm)
    have k36b:=(k36.ext x38).other q7 (fun e=>by have:=Option.some.inj e;omega)
    have k38b:=k38.other q7 (fun e=>by have:=Option.some.inj e;omega)
    refine ag ?_
    exact ck (xD d,.gap,.gap,p,q,g36,g38,[g36],[g38]) ⟨rfl,rfl,trivial⟩ ⟨by rw[ht];rfl,⟨m7,by rw[hn];exact hp,by rw[hn];exact hq,k7,jL.gap k36b G1,jL.gap k38b G2,N1,N2,N3,FR,hg⟩,k3d,y7⟩
   ·refine aj MI (ah MI MI (aq (o:=0) Mc MI (by kernel_rfl) MI) (aj MI (ak MI MI (ai Me MI (k3b.cell (i:=0) MI)) ?_)))
    refine aj MI (al MI MI MI (bo) (aD MI MI MI (ag (ab ?_))))
    refine bw MI (fun h28=>?_) (fun h28=>?_)
    ·refine aa (ae MI MI (ak MI MI (k3b.ld Mc MI (by kernel_rfl)) (am jh MI MI ((ji (ho.ext y4) (hp.ext y4) (hq.ext y4))) ?_)))
     rintro v31 w31 ⟨x31,rfl⟩
     refine ax MI MI (ah MI MI (aq (o:=0) Mq MI (by kernel_rfl) MI) ?_)
     obtain⟨w6,s6,q6,k6⟩:=ci.stO (P:=Tryz.prog) (t:=48) (m:=[I (dF d).kd,I (dF d).ix,B (dF d).at_.1,p,q]) (k4.ext x31) 0 (by show 0+5≤8;omega) (by kernel_rfl) (Lh hp hq)
     refine ar MI MI s6 ?_
     have y6:=aK.of_new (y4.trans x31) q6 hg
     have m6:=(m4.trans (Mv.of_ext (X:=fun k=>k=g) x31) fun _ hk _=>hk).trans (Mv.of_grown (X:=fun k=>k=g) q6 fun k hk _=>(Option.some.inj hk).symm) fun _ hk _=>hk
     have k3c:=(k3b.ext x31).other q6 (fun e=>hg3 (Option.some.inj e).symm)
     have hn:xD d=dF d:=if_pos (by first|exact .inl h24|exact .inr h28)
     have kS:ci g 114 (jl (xD d) p q iN iN iN) w6:=by rw[hn];exact k6
     refine ag (ab (aa (ae MI MI (bz (vs:=[]) (r:=.agg #[I 0,I 0,B false,.slice none 0 0,.slice none 0 0,.pointer none,.pointer none,.pointer none]) MI MI (by exact run_build _ _ _ _ (by kernel_rfl)) ?_))))
     obtain⟨g36,w36,hr36,l36,x36,k36⟩:=cC (P:=Tryz.prog) (w:=w6) (T:=114) (cs:=[I 0,I 0,B false,.slice none 0 0,.slice none 0 0,.pointer none,.pointer none,.pointer none])
     refine cG MI MI hr36 (bz (vs:=[]) (r:=.agg #[I 0,I 0,B false,.slice none 0 0,.slice none 0 0,.pointer none,.pointer none,.pointer none]) MI MI (by exact run_build _ _ _ _ (by kernel_rfl)) ?_)
     obtain⟨g38,w38,hr38,l38,x38,k38⟩:=cC (P:=Tryz.prog) (w:=w36) (T:=114) (cs:=[I 0,I 0,B false,.slice none 0 0,.slice none 0 0,.pointer none,.pointer none,.pointer none])
     refine cG MI MI hr38 ?_
     refine bz (vs:=[(0,.pointer (some ⟨g36,0,none⟩)),(1,.pointer (some ⟨g38,0,none⟩))]) (r:=.agg #[.pointer (some ⟨g36,0,none⟩),.pointer (some ⟨g38,0,none⟩)]) MI MI (run_build _ _ _ #[.pointer (some ⟨g36,0,none⟩),.pointer (some ⟨g38,0,none⟩)] (by kernel_rfl)) ?_
     refine ax MI MI (ah MI MI (aq (o:=5) Mq MI (by kernel_rfl) MI) ?_)
     obtain⟨w7,s7,q7,k7⟩:=ci.stO (P:=Tryz.prog) (t:=111) (m:=[.pointer (some ⟨g36,0,none⟩),.pointer (some ⟨g38,0,none⟩)]) (kS.ext (x36.trans x38)) 5 (by show 5+2≤8;omega) (by kernel_rfl) (au.cons rfl (au.cons rfl au.nil))
     refine ar MI MI s7 ?_
     have y7:=aK.of_new (y6.trans (x36.trans x38)) q7 hg
     have m7:=(m6.trans (Mv.of_ext (X:=fun k=>k=g) (x36.trans x38)) fun _ hk _=>hk).trans (Mv.of_grown (X:=fun k=>k=g) q7 fun k hk _=>(Option.some.inj hk).symm) fun _ hk _=>hk
     have sz6:=m6.size
     have sz0:=e0.size
     have lt36:=k36.lt
     have G1:w0.heap.size≤g36:=by omega
     have G2:w0.heap.size≤g38:=by omega
     have N1:g∉[g36]:=by simp;omega
     have N2:g∉[g38]:=by simp;omega
     have N3:∀k∈[g36],k∉[g38]:=by simp;omega
     have FR:∀k,k∈[g36]∨k∈[g38]→k∈ids∨w.heap.size≤k:=fun k hk=>.inr (by simp at hk;omega)
     have k3d:=(k3c.ext (x36.trans x38)).other q7 (fun e=>hg3 (Option.some.inj e).symm)
     have k36b:=(k36.ext x38).other q7 (fun e=>by have:=Option.some.inj e;omega)
     have k38b:=k38.other q7 (fun e=>by have:=Option.some.inj e;omega)
     refine ag ?_
     exact ck (xD d,.gap,.gap,p,q,g36,g38,[g36],[g38]) ⟨rfl,rfl,trivial⟩ ⟨by rw[ht];rfl,⟨m7,by rw[hn];exact hp,by rw[hn];exact hq,k7,jL.gap k36b G1,jL.gap k38b G2,N1,N2,N3,FR,hg⟩,k3d,y7⟩
    ·have hn:xD d=d:=if_neg (by rintro(h|h);exact h24 h;exact h28 h)
     have kS:ci g 114 (jl (xD d) p q iN iN iN) w4:=by rw[hn];exact k4
     have y6:=y4
     have m6:=m4
     have k3c:=k3b
     refine aA (ab (aa (ae MI MI (bz (vs:=[]) (r:=.agg #[I 0,I 0,B false,.slice none 0 0,.slice none 0 0,.pointer none,.pointer none,.pointer none]) MI MI (by exact run_build _ _ _ _ (by kernel_rfl)) ?_))))
     obtain⟨g36,w36,hr36,l36,x36,k36⟩:=cC (P:=Tryz.prog) (w:=w4) (T:=114) (cs:=[I 0,I 0,B false,.slice none 0 0,.slice none 0 0,.pointer none,.pointer none,.pointer none])
     refine cG MI MI hr36 (bz (vs:=[]) (r:=.agg #[I 0,I 0,B false,.slice none 0 0,.slice none 0 0,.pointer none,.pointer none,.pointer none]) MI MI (by exact run_build _ _ _ _ (by kernel_rfl)) ?_)
     obtain⟨g38,w38,hr38,l38,x38,k38⟩:=cC (P:=Tryz.prog) (w:=w36) (T:=114) (cs:=[I 0,I 0,B false,.slice none 0 0,.slice none 0 0,.pointer none,.pointer none,.pointer none])
     refine cG MI MI hr38 ?_
     refine bz (vs:=[(0,.pointer (some ⟨g36,0,none⟩)),(1,.pointer (some ⟨g38,0,none⟩))]) (r:=.agg #[.pointer (some ⟨g36,0,none⟩),.pointer (some ⟨g38,0,none⟩)]) MI MI (run_build _ _ _ #[.pointer (some ⟨g36,0,none⟩),.pointer (some ⟨g38,0,none⟩)] (by kernel_rfl)) ?_
     refine ax MI MI (ah MI MI (aq (o:=5) Mq MI (by kernel_rfl) MI) ?_)
     obtain⟨w7,s7,q7,k7⟩:=ci.stO (P:=Tryz.prog) (t:=111) (m:=[.pointer (some ⟨g36,0,none⟩),.pointer (some ⟨g38,0,none⟩)]) (kS.ext (x36.trans x38)) 5 (by show 5+2≤8;omega) (by kernel_rfl) (au.cons rfl (au.cons rfl au.nil))
     refine ar MI MI s7 ?_
     have y7:=aK.of_new (y6.trans (x36.trans x38)) q7 hg
     have m7:=(m6.trans (Mv.of_ext (X:=fun k=>k=g) (x36.trans x38)) fun _ hk _=>hk).trans (Mv.of_grown (X:=fun k=>k=g) q7 fun k hk _=>(Option.some.inj hk).symm) fun _ hk _=>hk
     have sz6:=m6.size
     have sz0:=e0.size
     have lt36:=k36.lt
     have G1:w0.heap.size≤g36:=by omega
     have G2:w0.heap.size≤g38:=by omega
     have N1:g∉[g36]:=by simp;omega
     have N2:g∉[g38]:=by simp;omega
     have N3:∀k∈[g36],k∉[g38]:=by simp;omega
     have FR:∀k,k∈[g36]∨k∈[g38]→k∈ids∨w.heap.size≤k:=fun k hk=>.inr (by simp at hk;omega)
     have k3d:=(k3c.ext (x36.trans x38)).other q7 (fun e=>hg3 (Option.some.inj e).symm)
     have k36b:=(k36.ext x38).other q7 (fun e=>by have:=Option.some.inj e;omega)
     have k38b:=k38.other q7 (fun e=>by have:=Option.some.inj e;omega)
     refine ag ?_
     exact ck (xD d,.gap,.gap,p,q,g36,g38,[g36],[g38]) ⟨rfl,rfl,trivial⟩ ⟨by rw[ht];rfl,⟨m7,by rw[hn];exact hp,by rw[hn];exact hq,k7,jL.gap k36b G1,jL.gap k38b G2,N1,N2,N3,FR,hg⟩,k3d,y7⟩
  rintro⟨s,a,b,x,y,g1,g2,i1,i2⟩ wC ⟨hop,hM,k3C,eC⟩
  refine ab (af (aF (af ?_)))
  have hm0:=hM.mv
  dsimp only at hop hM k3C
  have kC:ci g 114 [I s.kd,I s.ix,B s.at_.1,x,y,.pointer (some ⟨g1,0,none⟩),.pointer (some ⟨g2,0,none⟩),.pointer none] wC:=hM.blk
  have sx:=hM.hx
  have sy:=hM.hy
  refine bP 6 [0,3,48] (by kernel_rfl) (by kernel_rfl) ?_
  refine aC rfl rfl (dc rfl rfl (aT rfl rfl (fun w hw=>aq (o:=0) Tryz.underlying114 rfl (by kernel_rfl) rfl) (aO rfl rfl (fun w hw=>(kC.ext hw).ldO (ms:=[I s.kd,I s.ix,B s.at_.1,x,y]) (o:=0) (fun j v hj=>by rcases j with _|_|_|_|_|_|_|_|_|j<;>simp_all) Tryz.underlying48 rfl (by kernel_rfl)) ?_)))
  refine aO rfl rfl (fun w hw=>(k3C.ext hw).ld Mc rfl (by kernel_rfl)) (cm (S:=Is (B (decide (s=d)))) nP (ca.is _) rfl (fun w hw=>by rintro _ rfl _ rfl;exact bE.mono (nQ (a:=s) (b:=d) ((sx.ext eC).ext hw) ((sy.ext eC).ext hw) ((hp.ext eC).ext hw) ((hq.ext eC).ext hw)) fun v w' h=>⟨h.1,h.2⟩) ?_)
  refine cp ?_
  intro wg8 xg8
  rintro _ rfl
  rintro _ rfl
  rintro _ rfl
  refine ac MI MI (ag (ab ?_))
  refine fP MI (fun h42=>?_) (fun h42=>?_)
  ·refine af (aa (ae MI MI (ax MI MI (ah MI MI (aq (o:=5) Mq MI (by kernel_rfl) MI) ?_))))
   refine av MI MI MI (iF MB (by kernel_rfl) (i:=0) (by omega) .i64) ?_
   refine ak MI MI (ai Mw MI ((kC.ext xg8).cell (i:=5) MI)) (ac MI MI (ac MI MI (ag (ab (aw (aX (ay ?_)))))))
   refine be MI MI MI ?_
   exact⟨_,rfl,.inr ⟨s,a,b,x,y,g1,g2,i1,i2,hop,hM.ext xg8,by rw[if_pos (of_decide_eq_true h42)];rfl⟩⟩
  ·refine af (bP 7 [0,61] (by kernel_rfl) (by kernel_rfl) ?_)
   refine aC rfl rfl (dc rfl rfl (aT rfl rfl (fun w hw=>aq (o:=0) Tryz.underlying114 rfl (by kernel_rfl) rfl) (aO rfl rfl (fun w hw=>((kC.ext xg8).ext hw).ldO (ms:=[I s.kd,I s.ix,B s.at_.1,x,y]) (o:=0) (fun j v hj=>by rcases j with _|_|_|_|_|_|_|_|_|j<;>simp_all) Tryz.underlying48 rfl (by kernel_rfl)) ?_)))
   refine cm (S:=Is (.agg #[I (dF s).kd,I (dF s).ix,B (dF s).at_.1,x,y])) jh (ca.is _) rfl (fun w hw=>by rintro _ rfl;exact bE.mono (ji (d:=s) ((ho.ext (eC.trans xg8)).ext hw) ((sx.ext (eC.trans xg8)).ext hw) ((sy.ext (eC.trans xg8)).ext hw)) fun v w' h=>⟨h.1,h.2⟩) ?_
   refine aO rfl rfl (fun w hw=>((k3C.ext xg8).ext hw).ld Mc rfl (by kernel_rfl)) (cm (S:=Is (B (decide (dF s=d)))) nP (ca.is _) rfl (fun w hw=>by rintro _ rfl _ rfl;exact bE.mono (nQ (a:=dF s) (b:=d) ((sx.ext (eC.trans xg8)).ext hw) ((sy.ext (eC.trans xg8)).ext hw) ((hp.ext (eC.trans xg8)).ext hw) ((hq.ext (eC.trans xg8)).ext hw)) fun v w' h=>⟨h.1,h.2⟩) ?_)
   refine cp ?_
   intro wg10 xg10
   rintro _ rfl
   rintro _ rfl
   refine ac MI MI (ag (ab ?_))
   refine fP MI (fun h54=>?_) (fun h54=>?_)
   ·refine af (aa (ae MI MI (ax MI MI (ah MI MI (aq (o:=5) Mq MI (by kernel_rfl) MI) ?_))))
    refine av MI MI MI (iF MB (by kernel_rfl) (i:=1) (by omega) .i64) ?_
    refine ak MI MI (ai Mw MI ((kC.ext (xg8.trans xg10)).cell (i:=6) MI)) (ac MI MI (ac MI MI (ag (ab (aw ?_)))))
    refine aX (ay (be MI MI MI ?_))
    exact⟨_,rfl,.inr ⟨s,a,b,x,y,g1,g2,i1,i2,hop,hM.ext (xg8.trans xg10),by rw[if_neg (of_decide_eq_false h42),if_pos (of_decide_eq_true h54)];rfl⟩⟩
   ·refine aA (aS (ab (af (aa (ac MI MI (ac MI MI (ag (ab (aw (be MI MI MI ?_))))))))))
    exact⟨_,rfl,.inr ⟨s,a,b,x,y,g1,g2,i1,i2,hop,hM.ext (xg8.trans xg10),by rw[if_neg (of_decide_eq_false h42),if_neg (of_decide_eq_false h54)];rfl⟩⟩
 ·rw[ht] at hJ2
  obtain⟨gl,cl,hid,kg,kl,hrl⟩:=uY hJ2
  have kg3:=kg.ext x3
  refine aa (ae MI MI (ax MI MI (ah MI MI (aq (o:=7) Mq MI (by kernel_rfl) MI) (ak MI MI (ai My MI (kg3.cell (i:=7) MI)) ?_))))
  refine al MI MI MI (gW My) (ag (ab (bh MI (af (aa (ac MI MI (ac MI MI (ag (ab (aw (ay (be MI MI MI ?_))))))))))))
  exact⟨_,rfl,.inl ⟨n,ht,x3,rfl⟩⟩
 ·obtain⟨x,y,g1,g2,i1,i2,hid,hx,hy,kg,j1,j2,_,n1,n2,n3⟩:=(show jL w0 w g (.split s a b) ids from ht▸hJ2).split_inv
  have kg3:=kg.ext x3
  refine aa (ae MI MI (ax MI MI (ah MI MI (aq (o:=7) Mq MI (by kernel_rfl) MI) (ak MI MI (ai My MI (kg3.cell (i:=7) MI)) ?_))))
  refine al MI MI MI (gW My) (ag (ab (cq MI (aA (ab (af ?_))))))
  refine eW (fun(x:bS×JT×JT×Value×Value×Nat×Nat×List Nat×List Nat)=>[(0,.pointer (some ⟨g,0,none⟩)),(3,.pointer (some ⟨g3,0,none⟩))]) (fun x w'=>sO d t=.split x.1 x.2.1 x.2.2.1∧mK w0 w g ids x.1 x.2.1 x.2.2.1 x.2.2.2.1 x.2.2.2.2.1 x.2.2.2.2.2.1 x.2.2.2.2.2.2.1 x.2.2.2.2.2.2.2.1 x.2.2.2.2.2.2.2.2 w'∧ci g3 48 [I d.kd,I d.ix,B d.at_.1,p,q] w'∧aK w0 w') ?_ ?_
  ·refine af (aa (ae MI MI (ax MI MI (ah MI MI (aq (o:=5) Mq MI (by kernel_rfl) MI) ?_))))
   refine av MI MI MI (iF MB (by kernel_rfl) (i:=0) (by omega) .i64) ?_
   refine ak MI MI (ai Mw MI (kg3.cell (i:=5) MI)) (al MI MI MI (gp Mw) (ag ?_))
   refine ab (cq MI (aA ?_))
   exact ck (s,a,b,x,y,g1,g2,i1,i2) ⟨rfl,rfl,trivial⟩ ⟨by rw[ht];rfl,mK.ext ⟨Mv.refl _ _,hx,hy,kg,j1,j2,n1,n2,n3,fun k hk=>.inl (by rw[hid];simp only[List.mem_cons,List.mem_append];exact .inr hk),hg⟩ x3,k3,e0.trans x3⟩
  rintro⟨s,a,b,x,y,g1,g2,i1,i2⟩ wC ⟨hop,hM,k3C,eC⟩
  refine ab (af (aF (af ?_)))
  have hm0:=hM.mv
  dsimp only at hop hM k3C
  have kC:ci g 114 [I s.kd,I s.ix,B s.at_.1,x,y,.pointer (some ⟨g1,0,none⟩),.pointer (some ⟨g2,0,none⟩),.pointer none] wC:=hM.blk
  have sx:=hM.hx
  have sy:=hM.hy
  refine bP 6 [0,3,48] (by kernel_rfl) (by kernel_rfl) ?_
  refine aC rfl rfl (dc rfl rfl (aT rfl rfl (fun w hw=>aq (o:=0) Tryz.underlying114 rfl (by kernel_rfl) rfl) (aO rfl rfl (fun w hw=>(kC.ext hw).ldO (ms:=[I s.kd,I s.ix,B s.at_.1,x,y]) (o:=0) (fun j v hj=>by rcases j with _|_|_|_|_|_|_|_|_|j<;>simp_all) Tryz.underlying48 rfl (by kernel_rfl)) ?_)))
  refine aO rfl rfl (fun w hw=>(k3C.ext hw).ld Mc rfl (by kernel_rfl)) (cm (S:=Is (B (decide (s=d)))) nP (ca.is _) rfl (fun w hw=>by rintro _ rfl _ rfl;exact bE.mono (nQ (a:=s) (b:=d) ((sx.ext eC).ext hw) ((sy.ext eC).ext hw) ((hp.ext eC).ext hw) ((hq.ext eC).ext hw)) fun v w' h=>⟨h.1,h.2⟩) ?_)
  refine cp ?_
  intro wg8 xg8
  rintro _ rfl
  rintro _ rfl
  rintro _ rfl
  refine ac MI MI (ag (ab ?_))
  refine fP MI (fun h42=>?_) (fun h42=>?_)
  ·refine af (aa (ae MI MI (ax MI MI (ah MI MI (aq (o:=5) Mq MI (by kernel_rfl) MI) ?_))))
   refine av MI MI MI (iF MB (by kernel_rfl) (i:=0) (by omega) .i64) ?_
   refine ak MI MI (ai Mw MI ((kC.ext xg8).cell (i:=5) MI)) (ac MI MI (ac MI MI (ag (ab (aw (aX (ay ?_)))))))
   refine be MI MI MI ?_
   exact⟨_,rfl,.inr ⟨s,a,b,x,y,g1,g2,i1,i2,hop,hM.ext xg8,by rw[if_pos (of_decide_eq_true h42)];rfl⟩⟩
  ·refine af (bP 7 [0,61] (by kernel_rfl) (by kernel_rfl) ?_)
   refine aC rfl rfl (dc rfl rfl (aT rfl rfl (fun w hw=>aq (o:=0) Tryz.underlying114 rfl (by kernel_rfl) rfl) (aO rfl rfl (fun w hw=>((kC.ext xg8).ext hw).ldO (ms:=[I s.kd,I s.ix,B s.at_.1,x,y]) (o:=0) (fun j v hj=>by rcases j with _|_|_|_|_|_|_|_|_|j<;>simp_all) Tryz.underlying48 rfl (by kernel_rfl)) ?_)))
   refine cm (S:=Is (.agg #[I (dF s).kd,I (dF s).ix,B (dF s).at_.1,x,y])) jh (ca.is _) rfl (fun w hw=>by rintro _ rfl;exact bE.mono (ji (d:=s) ((ho.ext (eC.trans xg8)).ext hw) ((sx.ext (eC.trans xg8)).ext hw) ((sy.ext (eC.trans xg8)).ext hw)) fun v w' h=>⟨h.1,h.2⟩) ?_
   refine aO rfl rfl (fun w hw=>((k3C.ext xg8).ext hw).ld Mc rfl (by kernel_rfl)) (cm (S:=Is (B (decide (dF s=d)))) nP (ca.is _) rfl (fun w hw=>by rintro _ rfl _ rfl;exact bE.mono (nQ (a:=dF s) (b:=d) ((sx.ext (eC.trans xg8)).ext hw) ((sy.ext (eC.trans xg8)).ext hw) ((hp.ext (eC.trans xg8)).ext hw) ((hq.ext (eC.trans xg8)).ext hw)) fun v w' h=>⟨h.1,h.2⟩) ?_)
   refine cp ?_
   intro wg10 xg10
   rintro _ rfl
   rintro _ rfl
   refine ac MI MI (ag (ab ?_))
   refine fP MI (fun h54=>?_) (fun h54=>?_)
   ·refine af (aa (ae MI MI (ax MI MI (ah MI MI (aq (o:=5) Mq MI (by kernel_rfl) MI) ?_))))
    refine av MI MI MI (iF MB (by kernel_rfl) (i:=1) (by omega) .i64) ?_
    refine ak MI MI (ai Mw MI ((kC.ext (xg8.trans xg10)).cell (i:=6) MI)) (ac MI MI (ac MI MI (ag (ab (aw ?_)))))
    refine aX (ay (be MI MI MI ?_))
    exact⟨_,rfl,.inr ⟨s,a,b,x,y,g1,g2,i1,i2,hop,hM.ext (xg8.trans xg10),by rw[if_neg (of_decide_eq_false h42),if_pos (of_decide_eq_true h54)];rfl⟩⟩
   ·refine aA (aS (ab (af (aa (ac MI MI (ac MI MI (ag (ab (aw (be MI MI MI ?_))))))))))
    exact⟨_,rfl,.inr ⟨s,a,b,x,y,g1,g2,i1,i2,hop,hM.ext (xg8.trans xg10),by rw[if_neg (of_decide_eq_false h42),if_neg (of_decide_eq_false h54)];rfl⟩⟩
end Go.Rl
namespace Go.Rl
open Go.RowKit Go.Proofs
def JT.gaps:JT→Nat
 |.gap=>1
 |.leaf _=>0
 |.split _ a b=>a.gaps+b.gaps
theorem jG:∀(t:JT) (p:List bS),(t.miss p).length=t.gaps
 |.gap,p=>rfl
 |.leaf n,p=>rfl
 |.split s a b,p=>by simp only[JT.miss,JT.gaps,List.length_append,jG a,jG b]
theorem tZ (n:aW):∀(p:List bS) {t t':JT},iw n p t=some t'→t'.gaps≤t.gaps+p.length
 |[],.gap,t',h=>by simp only[iw,Option.some.injEq] at h;subst h;simp[JT.gaps]
 |[],.leaf m,t',h=>by simp only[iw,Option.some.injEq] at h;subst h;simp[JT.gaps]
 |[],.split _ _ _,t',h=>by simp[iw] at h
 |d::p,t,t',h=>by
  have key:∀s a b,sO d t=.split s a b→t'.gaps≤(sO d t).gaps+p.length:=fun s a b ho=>by
   simp only[iw,ho] at h
   rw[ho]
   split at h
   ·obtain⟨a',h1,rfl⟩:=Option.map_eq_some_iff.1 h
    have:=tZ n p h1
    simp only[JT.gaps];omega
   ·split at h
    ·obtain⟨b',h1,rfl⟩:=Option.map_eq_some_iff.1 h
     have:=tZ n p h1
     simp only[JT.gaps];omega
    ·cases h
  cases t with
  |gap=>
   have:=key _ _ _ rfl
   simp only[sO,JT.gaps] at this
   simp only[JT.gaps,List.length_cons];omega
  |leaf m=>simp[iw,sO] at h
  |split s a b=>
   have:=key _ _ _ rfl
   simp only[sO] at this
   simp only[List.length_cons];omega
def y8 (p:List bS):Dt:=.sl (p.map dy)
theorem rC (p:List bS):(y8 p).size=1:=rfl
theorem y9:(Tryz.prog.info? 41).map (fun i=>(i.zero,i.size,i.bytes))=some (some (.slice none 0 0),1,24):=by kernel_rfl
theorem DD:(Tryz.prog.info? 52).map (fun i=>(i.zero,i.size))=some (some (.agg #[.slice none 0 0,I 0,I 0,B false,.slice none 0 0,.slice none 0 0,.slice none 0 0,B false,.slice none 0 0]),9):=by kernel_rfl
def YM (gm:Nat) (mv:Value) (k:Nat):Prop:=k=gm∨mv.ownBlock=some k
def AV (w0:World) (n gm:Nat) (mv:Value) (k:Nat):Prop:=YM gm mv k∨(w0.heap.size≤k∧k<n)
structure za (w0 w:World) (F:Nat→Prop) (gm:Nat) (mv:Value) (ms:List (List bS)):Prop where
 cell:ci gm 59 [mv] w
 own:fz 41 1 w0.heap.size (fun k=>k=gm∨F k) y8 ms mv w
 ne:mv.ownBlock≠some gm
 young:w0.heap.size≤gm
section
variable {w0 w w':World} {gm g:Nat} {mv mv':Value} {ms:List (List bS)} {t:JT} {ids:List Nat} {F G:Nat→Prop}
theorem za.ext (h:za w0 w F gm mv ms) (e:aK w w'):za w0 w' F gm mv ms:=⟨h.cell.ext e,h.own.ext e,h.ne,h.young⟩
theorem za.weak (h:za w0 w F gm mv ms) (hG:∀k,G k→F k∨w.heap.size≤k):za w0 w G gm mv ms:=by
 obtain⟨h1,⟨n,xs,h2,h3⟩,h4,h5⟩:=h
 refine⟨h1,⟨n,xs,h2,h3.weak fun k hk=>?_⟩,h4,h5⟩
 rcases hk with(hk|hk)|hk
 ·exact .inl (.inl (.inl hk))
 ·exact(hG k hk).imp (fun h=>.inl (.inr h)) id
 ·exact .inl (.inr hk)
theorem za.ym_young (h:za w0 w F gm mv ms) {k:Nat} (hk:YM gm mv k):w0.heap.size≤k∧k<w.heap.size:=by
 rcases hk with rfl|hk
 ·exact⟨h.young,h.cell.lt⟩
 ·exact h.own.lt k hk
theorem za.sto (h:za w0 w F gm mv ms) (hm:Mv (fun k=>k=g) w w') (hg:F g) (hn:¬YM gm mv g):za w0 w' F gm mv ms:=
 ⟨hm.blk h.cell fun e=>hn (.inl (Eq.symm e)),h.own.mv hm (fun k hk=>by have e:k=g:=hk;rw[e];exact .inr hg) fun k hk e=>hn (by have e':k=g:=e;rw[←e'];exact .inr hk),h.ne,h.young⟩
theorem jL.ext (h:jL w0 w g t ids) (e:aK w w'):jL w0 w' g t ids:=h.mv (Mv.of_ext (X:=fun _=>False) e) fun _ _ h=>h
def CvR (w0 w:World) (F:Nat→Prop) (gm:Nat) (mv:Value) (ms:List (List bS)) (t:JT) (path:List bS) (r:Value) (w':World):Prop:=
 ∃cs mv',r=.agg cs.toArray∧au cs∧cH (AV w0 w.heap.size gm mv') w' (bG t.node) cs∧za w0 w' F gm mv' (ms++t.miss path)∧Mv (YM gm mv) w w'∧(∀k,mv'.ownBlock=some k→mv.ownBlock=some k∨w.heap.size≤k)
def DE (w0:World) (t:JT):Prop:=∀(F:Nat→Prop) (w:World) (g:Nat) (ids:List Nat) (path:List bS) (pv:Value) (gm:Nat) (mv:Value) (ms:List (List bS)),(∀k,F k→w0.heap.size≤k∧k<w.heap.size)→aK w0 w→jL w0 w g t ids→za w0 w F gm mv ms→(∀k∈ids,¬YM gm mv k)→cH (fun k=>YM gm mv k∨F k) w (.sl (path.map dy)) [pv]→path.length+t.depth≤1073741824→ms.length+t.gaps≤1099511627776→
 Calls Tryz.prog 65 #[.pointer (some ⟨g,0,none⟩),pv,.pointer (some ⟨gm,0,none⟩)] w (bE fun r w'=>CvR w0 w F gm mv ms t path r w')
theorem JJ {X:Nat→Prop} {a1 a2:aW} {c1 c2:List Value} (ha1:cH X w (bG a1) c1) (ha2:cH X w (bG a2) c2) (hX:∀k,X k→k<w.heap.size):
 ∃r w',(Instr.buildSlice 49 2 (eu 0 [Value.agg c1.toArray,Value.agg c2.toArray]).toArray).run Tryz.prog w=.ok r w'∧aK w w'∧cH X w' (.sl ([a1,a2].map bG)) [r]∧r.oneCell'=true:=by
 have hl1:c1.length=9:=by rw[ha1.len,cw]
 have hl2:c2.length=9:=by rw[ha2.len,cw]
 obtain⟨x,w1,h3,h4,h5,h6⟩:=ym (P:=Tryz.prog) (w:=w) (t:=49) Tryz.underlying49 DD rfl (by omega) [c1,c2] (by simp[hl1,hl2]) (by simp) (by simp)
 have h7:cH X w1 (.sl ([a1,a2].map bG)) [x]:=cH.ofSl (sz:=9) (xs:=c1++c2) (by simpa using h5) (by simpa using aR.cons (ha1.ext h4) (aR.cons (b:=[]) (ha2.ext h4) aR.nil)) (by simp[cw]) (by omega) fun k hk hx=>by
  rw[h6] at hk
  have:=Option.some.inj hk
  have:=hX k hx
  omega
 obtain⟨A,n,c,rfl⟩:=h7.isSl
 exact⟨_,w1,by simpa using h3,h4,h7,rfl⟩
structure uG (w0 w:World) (F:Nat→Prop) (g7 gm:Nat) (mv mv1:Value) (ms:List (List bS)) (n:aW) (cs:List Value) (w':World):Prop where
 m:Mv (YM gm mv) w w'
 k7:ci g7 52 cs w'
 ones:au cs
 rp:cH (AV w0 w.heap.size gm mv1) w' (bG n) cs
 st:za w0 w' F gm mv1 ms
 own:∀k,mv1.ownBlock=some k→mv.ownBlock=some k∨w.heap.size≤k
 f7:w.heap.size≤g7
 n7:¬YM gm mv1 g7
variable {P:Program} {wc wd we:World} {g7:Nat} {cs z:List Value} {a:JT} {path:List bS} {mv1:Value} {r:Value}
theorem cs9 {X:Nat→Prop} {n:aW} (h:cH X w (bG n) cs):(Tryz.prog.info? 52).map (·.size)=some cs.length:=by
 rw[h.len,cw];kernel_rfl
theorem uG.late (e:aK w wc) (h1:au cs) (hr:cH (AV w0 wc.heap.size gm mv1) wd (bG a.node) cs) (hs:za w0 wd F gm mv1 (ms++a.miss path)) (hm:Mv (YM gm mv) wc wd) (ho:∀k,mv1.ownBlock=some k→mv.ownBlock=some k∨wc.heap.size≤k) (ee:aK wd we) (l7:wd.heap.size≤g7) (k7:ci g7 52 z we) (hz:z.length=9):
 ∃w',(Instr.storeAt 52 (.pointer (some ⟨g7,0,none⟩)) (.agg cs.toArray)).run Tryz.prog we=.ok () w'∧uG w0 w F g7 gm mv mv1 (ms++a.miss path) a.node cs w':=by
 obtain⟨w',s,q,k⟩:=k7.stS (P:=Tryz.prog) (t:=52) (m:=cs) (by rw[hz,hr.len,cw]) (cs9 hr) h1
 have mq:Mv (fun k=>k=g7) we w':=Mv.of_grown q fun k hk _=>(Option.some.inj hk).symm
 have md:aK wd w':=(Mv.of_ext (X:=fun k=>k=g7) ee|>.trans mq fun _ h _=>h).ext fun k hk=>by have e:k=g7:=hk;omega
 have s1:=hm.size
 have s0:=e.size
 refine⟨w',s,((Mv.of_ext (X:=YM gm mv) e).trans hm fun _ h _=>h).trans (Mv.of_ext (X:=YM gm mv) md) fun _ h _=>h,k,h1,(hr.ext md).weak fun k hk=>.inl ?_,hs.ext md,fun k hk=>(ho k hk).imp id fun h=>Nat.le_trans s0 h,by omega,fun hy=>?_⟩
 ·rcases hk with hk|⟨hk1,hk2⟩
  ·exact .inl hk
  ·exact .inr ⟨hk1,by omega⟩
 ·have:=(hs.ym_young hy).2;omega
theorem uG.early (e:aK w wc) (h1:au cs) (hr:cH (AV w0 wc.heap.size gm mv1) wd (bG a.node) cs) (hs:za w0 wd (fun k=>F k∨k=g7) gm mv1 (ms++a.miss path)) (hm:Mv (YM gm mv) wc wd) (ho:∀k,mv1.ownBlock=some k→mv.ownBlock=some k∨wc.heap.size≤k) (h0:w0.heap.size≤w.heap.size) (l7:w.heap.size≤g7) (hy:∀k,YM gm mv k→k<w.heap.size) (k7:ci g7 52 z wc) (hz:z.length=9):
 ∃w',(Instr.storeAt 52 (.pointer (some ⟨g7,0,none⟩)) (.agg cs.toArray)).run Tryz.prog wd=.ok () w'∧uG w0 w F g7 gm mv mv1 (ms++a.miss path) a.node cs w':=by
 have hg7:=k7.lt
 have nm:¬YM gm mv g7:=fun h=>by have:=hy _ h;omega
 have n1:¬YM gm mv1 g7:=fun h=>by
  rcases h with h|h
  ·exact nm (.inl h)
  ·rcases ho _ h with h'|h'
   ·exact nm (.inr h')
   ·omega
 have k7d:=hm.blk k7 nm
 obtain⟨w',s,q,k⟩:=k7d.stS (P:=Tryz.prog) (t:=52) (m:=cs) (by rw[hz,hr.len,cw]) (cs9 hr) h1
 have mq:Mv (fun k=>k=g7) wd w':=Mv.of_grown q fun k hk _=>(Option.some.inj hk).symm
 have s1:=hm.size
 have s0:=e.size
 have e7:∀k,(fun k=>k=g7) k→AV w0 wc.heap.size gm mv1 k:=fun k hk=>.inr (by have e:k=g7:=hk;omega)
 refine⟨w',s,((Mv.of_ext (X:=YM gm mv) e).trans hm fun _ h _=>h).trans mq fun k hk hlt=>?_,k,h1,?_,(hs.sto mq (.inr MI) n1).weak fun k hk=>.inl (.inl hk),fun k hk=>(ho k hk).imp id fun h=>Nat.le_trans s0 h,l7,n1⟩
 ·have e:k=g7:=hk
  omega
 ·exact(hr.mv (mq.weak fun k hk _=>e7 k hk) fun _ h=>.inl h).weak fun k hk=>.inl (hk.imp id fun h=>⟨h.1,by omega⟩)
end
end Go.Rl
namespace Go.Rl
open Go.RowKit Go.Proofs
theorem iy:aG Tryz.prog 65:=⟨_,Tryz.func65,by kernel_rfl,rfl⟩
theorem fz.low {e:TypeId} {sz base b2:Nat} {X:Nat→Prop} {α:Type} {f:α→Dt} {l:List α} {v:Value} {w:World} (h:fz e sz base X f l v w) (hb:b2≤base):fz e sz b2 X f l v w:=by
 obtain⟨n,xs,h1,h2⟩:=h
 exact⟨n,xs,jV h1 fun k hk=>Nat.le_trans hb (World.ownsRow.lt h1 k hk).1,h2⟩
theorem fO {w:World} {X:Nat→Prop} {l:List bS} {v:Value} (hv:cH X w (.sl (l.map dy)) [v]) (hl:l.length≤1099511627776):
 Calls Tryz.prog 109 #[v] w (bE fun r w'=>aK w w'∧fz 48 5 w.heap.size X dy l r w'):=by
 obtain⟨A,n,c,rfl⟩:=hv.isSl
 refine enter (vs:=[.slice A n c]) Tryz.func109 MI MI MI ?_
 refine af (aa (ac MI MI (ag (ab (af (af (aa (ae MI MI (al MI MI MI (zq Mj) (ag (ab ?_)))))))))))
 refine fP MI (fun h4=>?_) (fun h4=>?_)
 ·refine af (aa (ac MI MI (ag (ab (aw (ay (az MI MI ?_)))))))
  have hA:A=none:=by simpa using h4
  have hnil:l=[]:=by
   have h:=hv.rp
   simp only[Rp,List.cons.injEq,Value.slice.injEq,and_true] at h
   obtain⟨_,n',c',⟨rfl,rfl,rfl⟩,h1,h2,_,h3,_⟩:=h
   have:=h3 hA
   exact List.eq_nil_of_length_eq_zero (by rw[List.length_map] at h1;omega)
  subst hnil
  exact⟨_,rfl,aK.refl _,fz.nil _⟩
 ·refine aA (ab (af (aa ?_)))
  obtain⟨v5,w5,hr5,x5,o5,ob5⟩:=KI (P:=Tryz.prog) (w:=w) (f:=dy) (X:=X) Mj yJ
  obtain⟨cs,hcs,hall⟩:=cH.toSl (sz:=5) hv (by simp[ce])
  obtain⟨v7,w7,hr7,o7,g7⟩:=o5.app (P:=Tryz.prog) (t:=41) (ty:=41) (m:=l) Tryz.underlying41 o0 rfl (by omega) (by omega) (hcs.ext x5) (qK hall.rp) ((hall.weak fun k hk=>hk.imp id fun h=>by rw[ob5] at h;have:=Option.some.inj h;omega).ext x5) ce (by simp;omega) x5.size
  have x7:=aK.of_grew x5 g7 (fun k hk=>(o5.lt k hk).1)
  refine aI (vs:=[]) MI MI hr5 ?_
  refine ae MI MI ?_
  refine a6 MI MI hr7 ?_
  refine ac MI MI (ag (ab (aw (az MI MI ?_))))
  exact⟨_,rfl,x7,by simpa using o7⟩
end Go.Rl
namespace Go.Rl
open Go.RowKit Go.Proofs
theorem uH {w0 w:World} {X:Nat→Prop} {n:aW} {cs:List Value} (h:Rp w0 (bG n) cs) (e:aK w0 w) (hX:∀k,X k→w0.heap.size≤k):cH X w (bG n) cs:=(h.x.ext e).weak fun k hk=>.inl (hX k hk)
theorem YM.grow {w:World} {gm:Nat} {mv mv1:Value} (ho:∀k,mv1.ownBlock=some k→mv.ownBlock=some k∨w.heap.size≤k) {k:Nat} (h:YM gm mv1 k):YM gm mv k∨w.heap.size≤k:=by
 rcases h with h|h
 ·exact .inl (.inl h)
 ·exact(ho k h).imp .inr id
theorem mO {w0 w6 wx:World} {F F':Nat→Prop} {gk gm:Nat} {ik:List Nat} {mv v48:Value} {ms:List (List bS)} {t:JT} {path:List bS} (hat:DE w0 t) (hF:∀k,F k→w0.heap.size≤k∧k<w6.heap.size) (e0:aK w0 w6) (ex:aK w6 wx) (hJ:jL w0 w6 gk t ik) (hC:za w0 w6 F gm mv ms) (hd:∀k∈ik,¬YM gm mv k) (hl:path.length+t.depth≤1073741824) (hm:ms.length+t.gaps≤1099511627776)
 (o48:fz 48 5 w6.heap.size (fun k=>YM gm mv k∨F' k) dy path v48 wx) (hF':∀k,F' k→F k∨(w6.heap.size≤k∧k<wx.heap.size)) (hne:∀k,v48.ownBlock=some k→¬F' k):
 Calls Tryz.prog 65 #[.pointer (some ⟨gk,0,none⟩),v48,.pointer (some ⟨gm,0,none⟩)] wx (bE fun r w'=>CvR w0 wx F' gm mv ms t path r w'):=by
 have s0:=e0.size
 have sx:=ex.size
 refine hat F' wx gk ik path v48 gm mv ms (fun k hk=>?_) (e0.trans ex) (hJ.ext ex) ((hC.weak fun k hk=>(hF' k hk).imp id fun h=>h.1).ext ex) hd (o48.rpx ce (by omega) (fun _ h=>h) fun k hk hk'=>?_) hl hm
 ·rcases hF' k hk with h|h
  ·exact⟨(hF k h).1,by have:=(hF k h).2;omega⟩
  ·exact⟨by omega,h.2⟩
 ·have h1:=(o48.lt k hk).1
  rcases hk' with h|h
  ·have:=(hC.ym_young h).2;omega
  ·exact hne k hk h
theorem EI {w0 w6 wg w1:World} {X:Nat→Prop} {path:List bS} {d:bS} {x y v42 v47:Value} (e0:aK w0 w6) (eg:aK w6 wg) (e1:aK wg w1) (hX:∀k,X k→w0.heap.size≤k) (hx:bm d.at_.2.1 x w0) (hy:bm d.at_.2.2 y w0) (o42:fz 48 5 w6.heap.size X dy path v42 w1) (b47:Sl 5 [I d.kd,I d.ix,B d.at_.1,x,y] v47 wg) (hl:path.length≤1099511627776):
 ∃r w2,(Builtin.append_ #[41,41] 41 #[v42,v47]).run Tryz.prog w1=.ok r w2∧fz 48 5 w6.heap.size X dy (path++[d]) r w2∧aK w6 w2∧Mv (fun k=>v42.ownBlock=some k) w1 w2∧∀k,r.ownBlock=some k→v42.ownBlock=some k∨w1.heap.size≤k:=by
 have hlt:=o42.lt
 have s1:=(eg.trans e1).size
 obtain⟨r,w2,h1,h2,h3⟩:=o42.app (P:=Tryz.prog) (t:=41) (ty:=41) (m:=[d]) Mj o0 rfl (by omega) (by omega) (b47.ext e1) (au.cons rfl (au.cons rfl (au.cons rfl (au.cons hx.one (au.cons hy.one au.nil))))) (by
  have:=(((Ad hx hy).x.ext (e0.trans (eg.trans e1))).weak (Y:=fun k=>X k∨v42.ownBlock=some k) fun k hk=>by
   rcases hk with hk|hk
   ·exact .inl (hX k hk)
   ·exact .inl (Nat.le_trans e0.size (hlt k hk).1))
  simpa using aR.cons this aR.nil) ce (by simp;omega) s1
 have hm:Mv (fun k=>v42.ownBlock=some k) w1 w2:=Mv.of_grown h3.grown fun k hk _=>hk
 refine⟨r,w2,h1,h2,hm.ext_from (eg.trans e1) fun k hk=>(hlt k hk).1,hm,fun k hk=>?_⟩
 rcases h3.own with h|h
 ·rw[h] at hk;exact .inl hk
 ·exact .inr (h k hk)
section
variable {P:Program} {ops:Array Oper} {Q:iQ} {N:Nat} {D:List Deferred} {S:World→Prop} {fuel:Nat} {listed:Array Bool} {l:Fr} {w:World} {d:Tmp} {ty:TypeId} {pos:String} {aft:Array Edge}
theorem nR (i:Nat) {x:Operand} {a:Addr} (hi:ops[i]? =some ⟨some d,.nilCheck x,ty,pos,aft,none⟩) (hx:ev l x=some (.pointer (some a))) (hB:nn ops listed i=true) (hd:Nat.blt d N=true) (hS:S w)
 (k:dw P ops Q N D S fuel (listed.setIfInBounds i true) ((d,.pointer (some a))::l) w):dw P ops Q N D S (fuel+1) listed l w:=
 ye i hi hB hd hS (fun ρ w' hρ _=>by simp[execOp,hρ x _ hx]) k
theorem JK (i j m:Nat) {o u z:Oper} (hr:Region.ready .any ops listed=[i,j,m]) (hi:ops[i]? =some o) (hj:ops[j]? =some u) (hm:ops[m]? =some z) (h:cy P ops (uf P ops Q S fuel (listed.setIfInBounds i true)) N D l w [o])
 (h':cy P ops (uf P ops Q S fuel (listed.setIfInBounds j true)) N D l w [u]) (h'':cy P ops (uf P ops Q S fuel (listed.setIfInBounds m true)) N D l w [z]):dw P ops Q N D S (fuel+1) listed l w:=fun a ha=>
 wpAnyH_all hr (by simp) fun k hk=>by
  rcases(by simpa using hk:k=i∨k=j∨k=m) with rfl|rfl|rfl
  ·exact gK hi (h a ha)
  ·exact gK hj (h' a ha)
  ·exact gK hm (h'' a ha)
end
theorem eA {w:World}:∃g w',(Instr.alloc 52 true (.tuple #[])).run Tryz.prog w=.ok (.pointer (some ⟨g,0,none⟩)) w'∧w.heap.size≤g∧aK w w'∧ci g 52 [.slice none 0 0,I 0,I 0,B false,.slice none 0 0,.slice none 0 0,.slice none 0 0,B false,.slice none 0 0] w':=
 aY (P:=Tryz.prog) (w:=w) (t:=52) (z:=.agg #[.slice none 0 0,I 0,I 0,B false,.slice none 0 0,.slice none 0 0,.slice none 0 0,B false,.slice none 0 0]) (l:=[.slice none 0 0,I 0,I 0,B false,.slice none 0 0,.slice none 0 0,.slice none 0 0,B false,.slice none 0 0]) (by kernel_rfl) rfl
end Go.Rl
namespace Go.Rl
open Go.RowKit Go.Proofs
theorem rD {w0:World} (ho:zH w0) {t:JT} (ih:∀s a b,t=.split s a b→DE w0 a∧DE w0 b):DE w0 t:=by
 intro F w g ids path pv gm mv ms hF e0 hJ hC hd hp hpl hml
 have hg:w0.heap.size≤g:=hJ.young g hJ.root
 have hgl:g<w.heap.size:=hJ.lt g hJ.root
 have hny:¬YM gm mv g:=hd g hJ.root
 refine enter (vs:=[.pointer (some ⟨g,0,none⟩),pv,.pointer (some ⟨gm,0,none⟩)]) Tryz.func65 MI MI MI ?_
 refine af (aa ?_)
 obtain⟨g6,w6,hr6,l6,x6,k6⟩:=aY (P:=Tryz.prog) (w:=w) (t:=52) (z:=.agg #[.slice none 0 0,I 0,I 0,B false,.slice none 0 0,.slice none 0 0,.slice none 0 0,B false,.slice none 0 0]) (l:=[.slice none 0 0,I 0,I 0,B false,.slice none 0 0,.slice none 0 0,.slice none 0 0,B false,.slice none 0 0]) (by kernel_rfl) rfl
 refine aV MI hr6 (ag (ab (af (af ?_))))
 have hg6:g≠g6:=by omega
 have s6:=x6.size
 have lg6:=k6.lt
 have hgm:=hC.cell.lt
 have hmvl:=hC.own.lt
 have n6:¬YM gm mv g6:=fun h=>by have:=(hC.ym_young h).2;omega
 have hFF:∀k,(F k∨k=g6)→w0.heap.size≤k∧k<w6.heap.size:=fun k hk=>by
  have:=e0.size
  rcases hk with hk|hk
  ·have:=hF k hk;exact⟨this.1,by omega⟩
  ·omega
 have hC6:za w0 w6 (fun k=>F k∨k=g6) gm mv ms:=(hC.weak fun k hk=>hk.imp id fun h=>by omega).ext x6
 have hp6:cH (fun k=>YM gm mv k∨(F k∨k=g6)) w6 (.sl (path.map dy)) [pv]:=(hp.weak fun k hk=>by rcases hk with hk|hk|hk;exact .inl (.inl hk);exact .inl (.inr hk);exact .inr (by omega)).ext x6
 have hJ2:=hJ
 rcases t.shape with ht|⟨n,ht⟩|⟨s,a,b,ht⟩
 ·rw[ht] at hJ2
  obtain⟨hid,kg⟩:=Az hJ2
  have kg6:ci g 114 [I 0,I 0,B false,.slice none 0 0,.slice none 0 0,.pointer none,.pointer none,.pointer none] w6:=kg.ext x6
  refine aa (ae MI MI (ax MI MI (ah MI MI (aq (o:=7) Mq MI (by kernel_rfl) MI) (ak MI MI (ai My MI (kg6.cell (i:=7) MI)) ?_))))
  refine al MI MI MI (gW My) (ag (ab (cq MI (aA (ab (af (af (aa (ae MI MI (ax MI MI (ah MI MI (aq (o:=5) Mq MI (by kernel_rfl) MI) ?_)))))))))))
  refine av MI MI MI (iF MB (by kernel_rfl) (i:=0) (by omega) .i64) ?_
  refine ak MI MI (ai Mw MI (kg6.cell (i:=5) MI)) (al MI MI MI (gp Mw) (ag ?_))
  refine ab (bh MI (af ?_))
  have hpl':path.length≤1099511627776:=by omega
  have hg1:t.gaps=1:=by rw[ht];rfl
  refine uQ 7 [7,8,9] [6,26,29,32] (by kernel_rfl) (by kernel_rfl) MI MI MI ?_
  refine aC rfl rfl (dc rfl rfl (aO rfl rfl (fun w' hw=>ai ME rfl (hC6.cell.ext hw).k0) (aC rfl rfl (cm (S:=fz 48 5 w6.heap.size (fun k=>YM gm mv k∨(F k∨k=g6)) dy path) fM (fz.stable) rfl (fun w hw=>by rintro _ rfl;exact bE.mono (fO (hp6.ext hw) hpl') fun v w' h=>⟨h.1,h.2.low hw.size⟩) ?_))))
  refine fQ (S:=fun v w'=>∃pv1,fz 48 5 w6.heap.size (fun k=>YM gm mv k∨(F k∨k=g6)) dy path pv1 w'∧Sl 1 [pv1] v w') (fun _ _ _ ⟨pv1,h1,h2⟩ hx=>⟨pv1,h1.ext hx,h2.ext hx⟩) MI (fun w' hw=>by
 intro pv1 h1
 obtain⟨r,w2,a1,a2,a3,_⟩:=jW (P:=Tryz.prog) (w:=w') (base:=0) Tryz.underlying59 y9 [pv1] (au.cons h1.one au.nil) (by simp) (Nat.zero_le _)
 exact⟨r,w2,a1,a2,pv1,h1.ext a2,Sl.of_own a3⟩) ?_
  refine cp ?_
  intro wg4 xg4
  rintro _ rfl
  rintro _ rfl
  rintro _ hq29
  obtain rfl:=Eq.symm hq29
  intro vg32 b32
  obtain⟨pv1,o1,sl1⟩:=b32
  have sg4:=xg4.size
  have own1:=o1.lt
  have hC4:=hC6.ext xg4
  have rp1:cH (fun k=>(k=gm∨(F k∨k=g6))∨mv.ownBlock=some k) wg4 (y8 path) [pv1]:=(o1.rpx ce (by omega) (fun _ h=>h) fun k hk hk'=>by
   have h1:=(own1 k hk).1
   rcases hk' with h|h
   ·have:=(hC.ym_young h).2;omega
   ·have:=(hFF k h).2;omega).weak fun k hk=>by
   rcases hk with(hk|hk)|hk
   ·exact .inl (.inl (.inl hk))
   ·exact .inl (.inr hk)
   ·exact .inl (.inl (.inr hk))
  obtain⟨v33,w33,hr33,o33,gr33⟩:=hC4.own.app (P:=Tryz.prog) (t:=59) (ty:=59) (m:=[path]) Tryz.underlying59 y9 rfl (by omega) (by omega) sl1 (au.cons o1.one au.nil) (by simpa using aR.cons (b:=[]) rp1 aR.nil) rC (by simp;omega) (by have:=e0.size;omega)
  have m33:Mv (fun k=>mv.ownBlock=some k) wg4 w33:=Mv.of_grown gr33.grown fun k hk _=>hk
  have n33:∀k,v33.ownBlock=some k→mv.ownBlock=some k∨wg4.heap.size≤k:=fun k hk=>by
   rcases gr33.own with h|h
   ·rw[h] at hk;exact .inl hk
   ·exact .inr (h k hk)
  have c33:=m33.blk hC4.cell fun h=>hC.ne h
  have l33:=c33.lt
  have ne33:v33.ownBlock≠some gm:=fun h=>by
   rcases n33 gm h with h'|h'
   ·exact hC.ne h'
   ·omega
  obtain⟨w34,s34,q34,k34⟩:=c33.stC (P:=Tryz.prog) (t:=59) (i:=0) (v:=v33) (by kernel_rfl) o33.one (by simp)
  have m34:Mv (fun k=>k=gm) w33 w34:=Mv.of_grown q34 fun k hk _=>(Option.some.inj hk).symm
  have mm:Mv (YM gm mv) w w34:=(((Mv.of_ext (X:=YM gm mv) (x6.trans xg4)).trans m33 fun k hk _=>.inr hk).trans m34 fun k hk _=>.inl hk)
  have m64:Mv (YM gm mv) w6 w34:=(((Mv.of_ext (X:=YM gm mv) xg4).trans m33 fun k hk _=>.inr hk).trans m34 fun k hk _=>.inl hk)
  have k6b:=m64.blk k6 n6
  have o34:=o33.mv m34 (fun k hk=>.inl hk) fun k hk h=>ne33 (by have e:k=gm:=h;rw[←e];exact hk)
  refine a6 MI MI hr33 ?_
  refine ax MI MI ?_
  refine ar MI MI s34 ?_
  refine ag (zP (ab (af (aa (bz (vs:=[]) (r:=.agg #[.slice none 0 0,I 0,I 0,B false,.slice none 0 0,.slice none 0 0,.slice none 0 0,B false,.slice none 0 0]) MI MI (by exact run_build _ _ _ _ (by kernel_rfl)) ?_)))))
  obtain⟨w5,s5,q5,k5⟩:=k6b.stS (P:=Tryz.prog) (t:=52) (m:=[.slice none 0 0,I 0,I 0,B false,.slice none 0 0,.slice none 0 0,.slice none 0 0,B false,.slice none 0 0]) rfl (by kernel_rfl) (au.cons rfl (au.cons rfl (au.cons rfl (au.cons rfl (au.cons rfl (au.cons rfl (au.cons rfl (au.cons rfl (au.cons rfl au.nil)))))))))
  refine ar MI MI s5 ?_
  refine ag (ab (aw (ay ?_)))
  refine dt MI MI k5 L9 MI (by kernel_rfl) ?_
  have m5:Mv (fun k=>k=g6) w34 w5:=Mv.of_grown q5 fun k hk _=>(Option.some.inj hk).symm
  have n65:¬YM gm v33 g6:=fun h=>(YM.grow n33 h).elim n6 fun h=>by omega
  have st5:za w0 w34 (fun k=>F k∨k=g6) gm v33 (ms++[path]):=⟨k34,o34,ne33,hC.young⟩
  refine⟨_,rfl,[.slice none 0 0,I 0,I 0,B false,.slice none 0 0,.slice none 0 0,.slice none 0 0,B false,.slice none 0 0],v33,rfl,(au.cons MI (au.cons MI (au.cons MI (au.cons MI (au.cons MI (au.cons MI (au.cons MI (au.cons MI (au.cons MI au.nil))))))))),?_,?_,mm.trans m5 fun k hk hlt=>by have e:k=g6:=hk;omega,fun k hk=>(n33 k hk).imp id fun h=>by omega⟩
  ·rw[ht]
   exact uU
  ·rw[ht]
   exact(st5.sto m5 (.inr rfl) n65).weak fun k hk=>.inl (.inl hk)
 ·rw[ht] at hJ2
  obtain⟨gl,cl,hid,kg,kl,hrl⟩:=uY hJ2
  have kg6:ci g 114 [I 0,I 0,B false,.slice none 0 0,.slice none 0 0,.pointer none,.pointer none,.pointer (some ⟨gl,0,none⟩)] w6:=kg.ext x6
  obtain⟨vl,x,y,vk,vp,rfl,hl0,hx0,hy0,hk0,hp0⟩:=dW hrl
  have kl6:=kl.ext x6
  refine aa (ae MI MI (ax MI MI (ah MI MI (aq (o:=7) Mq MI (by kernel_rfl) MI) (ak MI MI (ai My MI (kg6.cell (i:=7) MI)) ?_))))
  refine al MI MI MI (gW My) (ag (ab (bh MI (af (aa (ae MI MI (ax MI MI (ah MI MI (aq (o:=7) Mq MI (by kernel_rfl) MI) ?_))))))))
  refine ak MI MI (ai My MI (kg6.cell (i:=7) MI)) (ax MI MI ?_)
  refine ak MI MI (kl6.ld L9 MI (by kernel_rfl)) ?_
  obtain⟨w2_6,s2_6,q2_6,k2_6⟩:=k6.stS (P:=Tryz.prog) (t:=52) (m:=[vl,I n.split.kd,I n.split.ix,B n.split.at_.1,x,y,vk,B n.empty,vp]) rfl (by kernel_rfl) (au.cons hl0.one (au.cons rfl (au.cons rfl (au.cons rfl (au.cons hx0.one (au.cons hy0.one (au.cons hk0.one (au.cons rfl (au.cons hp0.one au.nil)))))))))
  refine ar MI MI s2_6 ?_
  have x2_6:=aK.of_new (x6) q2_6 l6
  refine ag (ab (aw (ay ?_)))
  refine dt MI MI k2_6 L9 MI (by kernel_rfl) ?_
  have e2:=x2_6
  refine⟨_,rfl,[vl,I n.split.kd,I n.split.ix,B n.split.at_.1,x,y,vk,B n.empty,vp],mv,rfl,Ed hrl,?_,?_,Mv.of_ext (X:=YM gm mv) e2,fun k hk=>.inl hk⟩
  ·rw[ht]
   exact uH hrl (e0.trans e2) fun k hk=>hk.elim (fun h=>(hC.ym_young h).1) fun h=>h.1
  ·rw[ht]
   simpa [JT.miss] using hC.ext e2
 ·rw[ht] at hJ2
  obtain⟨x,y,g1,g2,i1,i2,hid,hsx,hsy,kg,j1,j2,_,n1,n2,n3⟩:=hJ2.split_inv
  have kg6:ci g 114 [I s.kd,I s.ix,B s.at_.1,x,y,.pointer (some ⟨g1,0,none⟩),.pointer (some ⟨g2,0,none⟩),.pointer none] w6:=kg.ext x6
  refine aa (ae MI MI (ax MI MI (ah MI MI (aq (o:=7) Mq MI (by kernel_rfl) MI) (ak MI MI (ai My MI (kg6.cell (i:=7) MI)) ?_))))
  refine al MI MI MI (gW My) (ag (ab (cq MI (aA (ab (af (af (aa (ae MI MI (ax MI MI (ah MI MI (aq (o:=5) Mq MI (by kernel_rfl) MI) ?_)))))))))))
  refine av MI MI MI (iF MB (by kernel_rfl) (i:=0) (by omega) .i64) ?_
  refine ak MI MI (ai Mw MI (kg6.cell (i:=5) MI)) (al MI MI MI (gp Mw) (ag ?_))
  refine ab (cq MI (aA (ab (af ?_))))
  have hA:DE w0 a:=(ih s a b ht).1
  have hB:DE w0 b:=(ih s a b ht).2
  have hdep:t.depth=1+max a.depth b.depth:=by rw[ht];rfl
  have hgap:t.gaps=a.gaps+b.gaps:=by rw[ht];rfl
  have hFF2:=hFF
  have hdA:∀k∈i1,¬YM gm mv k:=fun k hk=>hd k (by rw[hid];simp[hk])
  have hdB:∀k∈i2,¬YM gm mv k:=fun k hk=>hd k (by rw[hid];simp[hk])
  have hd6:=hdA
  have j1:=j1.ext x6
  have s0:=e0.size
  have sW:w0.heap.size≤w6.heap.size:=(e0.trans x6).size
  have hpl:path.length≤1099511627776:=by omega
  have hXy:∀k,(YM gm mv k∨(F k∨k=g6))→w0.heap.size≤k:=fun k hk=>hk.elim (fun h=>(hC6.ym_young h).1) fun h=>(hFF k h).1
  have hYw:∀k,YM gm mv k→k<w6.heap.size:=fun k h=>(hC6.ym_young h).2
  have hFl:∀k,(F k∨k=g6)→k<w6.heap.size:=fun k h=>(hFF2 k h).2
  have hS:ci g 114 [I s.kd,I s.ix,B s.at_.1,x,y,.pointer (some ⟨g1,0,none⟩),.pointer (some ⟨g2,0,none⟩),.pointer none] w6.drew:=kg6.ext (aK.refl w6).drew
  have eD:aK w6 w6.drew:=(aK.refl w6).drew
  refine gO (fun w1=>ci g 114 [I s.kd,I s.ix,B s.at_.1,x,y,.pointer (some ⟨g1,0,none⟩),.pointer (some ⟨g2,0,none⟩),.pointer none] w1) 17 MI (by kernel_rfl) ?_
  refine fv 0 MI MI (by kernel_rfl) MI hS ?_
  refine nR 1 MI MI (by kernel_rfl) MI hS ?_
  refine fo 2 MI MI (by kernel_rfl) MI hS (fun _ _=>aq (o:=5) Mq MI (by kernel_rfl) MI) ?_
  refine ug 3 MI MI MI (by kernel_rfl) MI hS (fun _ _=>iF MB (by kernel_rfl) (i:=0) (by omega) .i64) ?_
  refine fU 4 MI MI (by kernel_rfl) MI hS (fun _ hw=>ai Mw MI (hw.cell (i:=5) MI)) ?_
  refine fv 5 MI MI (by kernel_rfl) MI hS ?_
  refine fv 7 MI MI (by kernel_rfl) MI hS ?_
  refine nR 8 MI MI (by kernel_rfl) MI hS ?_
  refine fo 9 MI MI (by kernel_rfl) MI hS (fun _ _=>aq (o:=0) Mq MI (by kernel_rfl) MI) ?_
  refine fU 10 rfl rfl (by kernel_rfl) rfl hS (fun _ hw=>hw.ldO (ms:=[I s.kd,I s.ix,B s.at_.1,x,y]) (o:=0) (fun j v hj=>by rcases j with _|_|_|_|_|j<;>simp_all) Tryz.underlying48 rfl (by kernel_rfl)) ?_
  refine fv 13 MI MI (by kernel_rfl) MI hS ?_
  refine np (fun z=>[(0,.pointer (some ⟨g,0,none⟩)),(1,pv),(2,.pointer (some ⟨gm,0,none⟩)),(6,.pointer (some ⟨g6,0,none⟩)),(7,.pointer (some ⟨z.2.2,0,none⟩))]) (fun(z:Value×List Value×Nat) w1=>uG w0 w6 (fun k=>F k∨k=g6) z.2.2 gm mv z.1 (ms++a.miss (path++[s])) a.node z.2.1 w1) #[true,true,true,true,true,true,true,true,true,true,true,true,true,true,true,true,true] 0 ?_ (fun hk=>?_)
  rotate_left
  ·refine np (fun z=>[(0,.pointer (some ⟨g,0,none⟩)),(1,pv),(2,.pointer (some ⟨gm,0,none⟩)),(6,.pointer (some ⟨g6,0,none⟩)),(40,.pointer (some ⟨g1,0,none⟩)),(49,.pointer (some ⟨gm,0,none⟩)),(42,z.1),(47,z.2.1),(7,.pointer (some ⟨z.2.2,0,none⟩))]) (fun(z:Value×Value×Nat) w1=>aK w6 w1∧fz 48 5 w6.heap.size (fun k=>YM gm mv k∨((F k∨k=g6)∨k=z.2.2)) dy path z.1 w1∧Sl 5 [I (s).kd,I (s).ix,B (s).at_.1,x,y] z.2.1 w1∧ci z.2.2 52 [.slice none 0 0,I 0,I 0,B false,.slice none 0 0,.slice none 0 0,.slice none 0 0,B false,.slice none 0 0] w1∧w6.heap.size≤z.2.2∧z.1.ownBlock≠some z.2.2) #[true,true,true,true,true,true,true,true,true,true,true,true,false,true,false,true,false] 3 ?_ (fun hk2=>?_)
   ·rintro⟨v42,v47,gc⟩ wg ⟨xg,b42,b47,k7,l7,ne42⟩
    have l7b:=k7.lt
    have own42:=b42.lt
    obtain⟨v48,w48,hr48,o48,e48,m48,n48⟩:=EI (X:=(fun k=>YM gm mv k∨((F k∨k=g6)∨k=gc))) (d:=s) (e0.trans x6) xg (aK.refl _) (fun k hk=>by rcases hk with hk|hk|hk;exact hXy k (.inl hk);exact hXy k (.inr hk);(have:k=gc:=hk;dsimp only at l7;omega)) hsx hsy b42 b47 hpl
    have own48:=o48.lt
    have s48:=m48.size
    refine aQ 12 (by kernel_rfl) MI (a6 MI MI hr48 (aH (kg6.ext e48) ?_))
    refine aQ 14 (by kernel_rfl) rfl (am iy rfl rfl (mO (F':=fun k=>(F k∨k=g6)∨k=gc) hA hFF2 (e0.trans x6) e48 j1 hC6 hd6 (by simp;omega) (by omega) o48 (fun k hk=>hk.imp id fun h=>by dsimp only at l7 l7b;omega) (fun k hk hk2=>by rcases hk2 with hk2|hk2;(have:=(own48 k hk).1;have:=hFl k hk2;omega);(rcases n48 k hk with h|h;exact ne42 (hk2▸h);(dsimp only at l7b;omega)))) ?_)
    rintro v50 w50 ⟨cs,mvk,rfl,h1,hr,hs,hm,hoo⟩
    refine aH (hm.blk (kg6.ext e48) hny) ?_
    obtain⟨w8,hs8,K⟩:=uG.early e48 h1 hr hs hm hoo sW l7 hYw (m48.blk k7 ne42) rfl
    refine aQ 16 (by kernel_rfl) MI (ar MI MI hs8 (aH (K.m.blk kg6 hny) ?_))
    exact hk _ _ ⟨(mvk,cs,gc),⟨rfl,rfl,rfl,rfl,rfl,trivial⟩,K⟩
   ·refine np (fun z=>[(0,.pointer (some ⟨g,0,none⟩)),(1,pv),(2,.pointer (some ⟨gm,0,none⟩)),(6,.pointer (some ⟨g6,0,none⟩)),(40,.pointer (some ⟨g1,0,none⟩)),(49,.pointer (some ⟨gm,0,none⟩)),(42,z.1),(47,z.2)]) (fun(z:Value×Value) w1=>aK w6 w1∧fz 48 5 w6.heap.size (fun k=>YM gm mv k∨(F k∨k=g6)) dy path z.1 w1∧Sl 5 [I (s).kd,I (s).ix,B (s).at_.1,x,y] z.2 w1) #[true,true,true,true,true,true,true,true,true,true,true,true,false,true,false,false,false] 4 ?_ (fun hk1=>?_)
    ·rintro⟨v42,v47⟩ wg ⟨xg,b42,b47⟩
     have own42:=b42.lt
     have sg:=xg.size
     refine kQ 12 15 (by kernel_rfl) MI MI ?_ ?_
     ·obtain⟨v48,w48,hr48,o48,e48,m48,n48⟩:=EI (d:=s) (e0.trans x6) xg (aK.refl _) hXy hsx hsy b42 b47 hpl
      have own48:=o48.lt
      refine a6 MI MI hr48 (aH (kg6.ext e48) ?_)
      refine kQ 14 15 (by kernel_rfl) MI MI ?_ ?_
      ·have zz:=e48.size
       refine am iy MI MI (mO hA hFF2 (e0.trans x6) e48 j1 hC6 hd6 (by simp;omega) (by omega) o48 (fun k hk=>.inl hk) (fun k hk hk2=>by have:=(own48 k hk).1;have:=hFl k hk2;omega)) ?_
       rintro v50 w50 ⟨cs,mvk,rfl,h1,hr,hs,hm,hoo⟩
       refine aH (hm.blk (kg6.ext e48) hny) ?_
       obtain⟨gc,w7,hr7,l7,x7,k7⟩:=eA (w:=w50)
       refine aQ 15 (by kernel_rfl) MI (aV MI hr7 (aH ((hm.blk (kg6.ext e48) hny).ext x7) ?_))
       obtain⟨w8,hs8,K⟩:=uG.late e48 h1 hr hs hm hoo x7 l7 k7 rfl
       refine aQ 16 (by kernel_rfl) MI (ar MI MI hs8 (aH (K.m.blk kg6 hny) ?_))
       exact hk _ _ ⟨(mvk,cs,gc),⟨rfl,rfl,rfl,rfl,rfl,trivial⟩,K⟩
      ·obtain⟨gc,w7,hr7,l7,x7,k7⟩:=eA (w:=w48)
       have s48:=e48.size
       have l7b:=k7.lt
       refine aV MI hr7 (aH (kg6.ext (e48.trans x7)) ?_)
       refine aQ 14 (by kernel_rfl) rfl (am iy rfl rfl (mO (F':=fun k=>(F k∨k=g6)∨k=gc) hA hFF2 (e0.trans x6) (e48.trans x7) j1 hC6 hd6 (by simp;omega) (by omega) ((o48.weak (fun k hk=>by rcases hk with hk|hk|hk;exact .inl (.inl hk);exact .inl (.inr hk);exact .inr (by omega))).ext x7) (fun k hk=>hk.imp id fun h=>by omega) (fun k hk hk2=>by rcases hk2 with hk2|hk2;(have:=(own48 k hk).1;have:=hFl k hk2;omega);(have:=(own48 k hk).2;omega))) ?_)
       rintro v50 w50 ⟨cs,mvk,rfl,h1,hr,hs,hm,hoo⟩
       refine aH (hm.blk (kg6.ext (e48.trans x7)) hny) ?_
       obtain⟨w8,hs8,K⟩:=uG.early (e48.trans x7) h1 hr hs hm hoo sW (by omega) hYw k7 rfl
       refine aQ 16 (by kernel_rfl) MI (ar MI MI hs8 (aH (K.m.blk kg6 hny) ?_))
       exact hk _ _ ⟨(mvk,cs,gc),⟨rfl,rfl,rfl,rfl,rfl,trivial⟩,K⟩
     ·obtain⟨gc,w7,hr7,l7,x7,k7⟩:=eA (w:=wg)
      refine aV MI hr7 (aH (kg6.ext (xg.trans x7)) ?_)
      exact hk2 _ _ ⟨(v42,v47,gc),⟨rfl,rfl,rfl,rfl,rfl,rfl,rfl,rfl,rfl,trivial⟩,xg.trans x7,(b42.weak (fun k hk=>by rcases hk with hk|hk|hk;exact .inl (.inl hk);exact .inl (.inr hk);(have:k=gc:=hk;exact .inr (by omega)))).ext x7,b47.ext x7,k7,(show w6.heap.size≤gc by omega),fun h=>by have:=(own42 gc h).2;omega⟩
    ·refine JK 6 11 15 (by kernel_rfl) MI MI MI ?_ ?_ ?_
     ·refine am fM MI MI (fO (hp6.ext eD) hpl) ?_
      rintro va1 wz1 ⟨x1,oo1⟩
      have oz1:=oo1.low (eD).size
      have ez1:aK w6 wz1:=eD.trans x1
      refine aH (kg6.ext ez1) ?_
      refine kQ 11 15 (by kernel_rfl) MI MI ?_ ?_
      ·obtain⟨vr2,wz2,hr2,x2,bz2⟩:=ju (w:=wz1) (d:=s) (x:=x) (y:=y)
       have ez2:aK w6 wz2:=ez1.trans x2
       refine aI (vs:=[(0,.agg #[I (s).kd,I (s).ix,B (s).at_.1,x,y])]) MI MI hr2 (aH (kg6.ext ez2) ?_)
       have oz2:=oz1.ext x2
       exact hk1 _ _ ⟨(va1,vr2),⟨rfl,rfl,rfl,rfl,rfl,rfl,rfl,rfl,trivial⟩,ez2,oz2,bz2⟩
      ·obtain⟨gc3,wz3,hr3,l3,x3,k3⟩:=eA (w:=wz1)
       have la3:=ez1.size
       have lb3:=k3.lt
       refine aV MI hr3 (aH (kg6.ext (ez1.trans x3)) ?_)
       have ez3:aK w6 wz3:=(ez1.trans x3)
       have oz3:=(oz1.weak (Y:=(fun k=>YM gm mv k∨((F k∨k=g6)∨k=gc3))) (fun k hk=>by rcases hk with hk|hk|hk;exact .inl (.inl hk);exact .inl (.inr hk);(have:k=gc3:=hk;exact .inr (by omega)))).ext x3
       have nz3:va1.ownBlock≠some gc3:=fun h=>by have:=(oz1.lt gc3 h).2;omega
       obtain⟨vr4,wz4,hr4,x4,bz4⟩:=ju (w:=wz3) (d:=s) (x:=x) (y:=y)
       have ez4:aK w6 wz4:=ez3.trans x4
       refine aQ 11 (by kernel_rfl) MI (aI (vs:=[(0,.agg #[I (s).kd,I (s).ix,B (s).at_.1,x,y])]) MI MI hr4 (aH (kg6.ext ez4) ?_))
       have oz4:=oz3.ext x4
       have kz4:=k3.ext x4
       exact hk2 _ _ ⟨(va1,vr4,gc3),⟨rfl,rfl,rfl,rfl,rfl,rfl,rfl,rfl,rfl,trivial⟩,ez4,oz4,bz4,kz4,(show w6.heap.size≤gc3 by omega),nz3⟩
     ·obtain⟨vr5,wz5,hr5,x5,bz5⟩:=ju (w:=w6.drew) (d:=s) (x:=x) (y:=y)
      have ez5:aK w6 wz5:=eD.trans x5
      refine aI (vs:=[(0,.agg #[I (s).kd,I (s).ix,B (s).at_.1,x,y])]) MI MI hr5 (aH (kg6.ext ez5) ?_)
      refine kQ 6 15 (by kernel_rfl) MI MI ?_ ?_
      ·refine am fM MI MI (fO (hp6.ext ez5) hpl) ?_
       rintro va6 wz6 ⟨x6,oo6⟩
       have oz6:=oo6.low (ez5).size
       have ez6:aK w6 wz6:=ez5.trans x6
       refine aH (kg6.ext ez6) ?_
       have bz6:=bz5.ext x6
       exact hk1 _ _ ⟨(va6,vr5),⟨rfl,rfl,rfl,rfl,rfl,rfl,rfl,rfl,trivial⟩,ez6,oz6,bz6⟩
      ·obtain⟨gc7,wz7,hr7,l7,x7,k7⟩:=eA (w:=wz5)
       have la7:=ez5.size
       have lb7:=k7.lt
       refine aV MI hr7 (aH (kg6.ext (ez5.trans x7)) ?_)
       have ez7:aK w6 wz7:=(ez5.trans x7)
       have bz7:=bz5.ext x7
       refine aQ 6 (by kernel_rfl) rfl (am fM rfl rfl (fO ((hp6.weak (Y:=(fun k=>YM gm mv k∨((F k∨k=g6)∨k=gc7))) (fun k hk=>by rcases hk with hk|hk|hk;exact .inl (.inl hk);exact .inl (.inr hk);(have:k=gc7:=hk;have:=(show w6.heap.size≤gc7 by omega);exact .inr (by omega)))).ext ez7) hpl) ?_)
       rintro va8 wz8 ⟨x8,oo8⟩
       have oz8:=oo8.low (ez7).size
       have ez8:aK w6 wz8:=ez7.trans x8
       refine aH (kg6.ext ez8) ?_
       have nz8:va8.ownBlock≠some gc7:=fun h=>by have:=(oo8.lt gc7 h).1;have:=k7.lt;omega
       have kz8:=k7.ext x8
       have bz8:=bz7.ext x8
       exact hk2 _ _ ⟨(va8,vr5,gc7),⟨rfl,rfl,rfl,rfl,rfl,rfl,rfl,rfl,rfl,trivial⟩,ez8,oz8,bz8,kz8,(show w6.heap.size≤gc7 by omega),nz8⟩
     ·obtain⟨gc9,wz9,hr9,l9,x9,k9⟩:=eA (w:=w6.drew)
      have la9:=eD.size
      have lb9:=k9.lt
      refine aV MI hr9 (aH (kg6.ext (eD.trans x9)) ?_)
      have ez9:aK w6 wz9:=(eD.trans x9)
      refine kQ 6 11 (by kernel_rfl) MI MI ?_ ?_
      ·refine am fM rfl rfl (fO ((hp6.weak (Y:=(fun k=>YM gm mv k∨((F k∨k=g6)∨k=gc9))) (fun k hk=>by rcases hk with hk|hk|hk;exact .inl (.inl hk);exact .inl (.inr hk);(have:k=gc9:=hk;have:=(show w6.heap.size≤gc9 by omega);exact .inr (by omega)))).ext ez9) hpl) ?_
       rintro va10 wz10 ⟨x10,oo10⟩
       have oz10:=oo10.low (ez9).size
       have ez10:aK w6 wz10:=ez9.trans x10
       refine aH (kg6.ext ez10) ?_
       have nz10:va10.ownBlock≠some gc9:=fun h=>by have:=(oo10.lt gc9 h).1;have:=k9.lt;omega
       have kz10:=k9.ext x10
       obtain⟨vr11,wz11,hr11,x11,bz11⟩:=ju (w:=wz10) (d:=s) (x:=x) (y:=y)
       have ez11:aK w6 wz11:=ez10.trans x11
       refine aQ 11 (by kernel_rfl) MI (aI (vs:=[(0,.agg #[I (s).kd,I (s).ix,B (s).at_.1,x,y])]) MI MI hr11 (aH (kg6.ext ez11) ?_))
       have oz11:=oz10.ext x11
       have kz11:=kz10.ext x11
       exact hk2 _ _ ⟨(va10,vr11,gc9),⟨rfl,rfl,rfl,rfl,rfl,rfl,rfl,rfl,rfl,trivial⟩,ez11,oz11,bz11,kz11,(show w6.heap.size≤gc9 by omega),nz10⟩
      ·obtain⟨vr12,wz12,hr12,x12,bz12⟩:=ju (w:=wz9) (d:=s) (x:=x) (y:=y)
       have ez12:aK w6 wz12:=ez9.trans x12
       refine aI (vs:=[(0,.agg #[I (s).kd,I (s).ix,B (s).at_.1,x,y])]) MI MI hr12 (aH (kg6.ext ez12) ?_)
       have kz12:=k9.ext x12
       refine aQ 6 (by kernel_rfl) rfl (am fM rfl rfl (fO ((hp6.weak (Y:=(fun k=>YM gm mv k∨((F k∨k=g6)∨k=gc9))) (fun k hk=>by rcases hk with hk|hk|hk;exact .inl (.inl hk);exact .inl (.inr hk);(have:k=gc9:=hk;have:=(show w6.heap.size≤gc9 by omega);exact .inr (by omega)))).ext ez12) hpl) ?_)
       rintro va13 wz13 ⟨x13,oo13⟩
       have oz13:=oo13.low (ez12).size
       have ez13:aK w6 wz13:=ez12.trans x13
       refine aH (kg6.ext ez13) ?_
       have nz13:va13.ownBlock≠some gc9:=fun h=>by have:=(oo13.lt gc9 h).1;have:=kz12.lt;omega
       have kz13:=kz12.ext x13
       have bz13:=bz12.ext x13
       exact hk2 _ _ ⟨(va13,vr12,gc9),⟨rfl,rfl,rfl,rfl,rfl,rfl,rfl,rfl,rfl,trivial⟩,ez13,oz13,bz13,kz13,(show w6.heap.size≤gc9 by omega),nz13⟩
  rintro⟨mv1,csA,g7⟩ w9 K1
  refine gQ (by kernel_rfl) ?_
  refine ab (af ?_)
  have e9:aK w0 w9:=K1.m.ext_from (e0.trans x6) fun k hk=>(hC.ym_young hk).1
  have kg9:=K1.m.blk kg6 hny
  have hny1:¬YM gm mv1 g:=fun h=>(YM.grow K1.own h).elim hny fun h=>by omega
  have j29:jL w0 w9 g2 b i2:=(j2.ext x6).mv K1.m hdB
  have hy1:∀k,YM gm mv1 k→YM gm mv k∨w6.heap.size≤k:=fun k hk=>YM.grow K1.own hk
  have hd7:∀k∈i2,¬YM gm mv1 k:=fun k hk h=>by
   rcases hy1 k h with h|h
   ·exact hdB k hk h
   ·have:=j2.lt k hk;omega
  have hp9:cH (fun k=>YM gm mv1 k∨(F k∨k=g6)) w9 (.sl (path.map dy)) [pv]:=hp6.mv (K1.m.weak fun k hk _=>.inl hk) fun k hk=>by
   rcases hk with hk|hk
   ·exact(hy1 k hk).imp .inl id
   ·exact .inl (.inr hk)
  have hFF2:∀k,(F k∨k=g6)→w0.heap.size≤k∧k<w9.heap.size:=fun k hk=>by have:=hFF k hk;have:=K1.m.size;omega
  have s0:=e0.size
  have sW:w0.heap.size≤w9.heap.size:=e9.size
  have hpl:path.length≤1099511627776:=by omega
  have hXy:∀k,(YM gm mv1 k∨(F k∨k=g6))→w0.heap.size≤k:=fun k hk=>hk.elim (fun h=>(K1.st.ym_young h).1) fun h=>(hFF k h).1
  have hYw:∀k,YM gm mv1 k→k<w9.heap.size:=fun k h=>(K1.st.ym_young h).2
  have hFl:∀k,(F k∨k=g6)→k<w9.heap.size:=fun k h=>(hFF2 k h).2
  have hS:ci g 114 [I s.kd,I s.ix,B s.at_.1,x,y,.pointer (some ⟨g1,0,none⟩),.pointer (some ⟨g2,0,none⟩),.pointer none] w9.drew:=kg9.ext (aK.refl w9).drew
  have eD:aK w9 w9.drew:=(aK.refl w9).drew
  refine gO (fun w1=>ci g 114 [I s.kd,I s.ix,B s.at_.1,x,y,.pointer (some ⟨g1,0,none⟩),.pointer (some ⟨g2,0,none⟩),.pointer none] w1) 18 MI (by kernel_rfl) ?_
  refine fv 0 MI MI (by kernel_rfl) MI hS ?_
  refine nR 1 MI MI (by kernel_rfl) MI hS ?_
  refine fo 2 MI MI (by kernel_rfl) MI hS (fun _ _=>aq (o:=5) Mq MI (by kernel_rfl) MI) ?_
  refine ug 3 MI MI MI (by kernel_rfl) MI hS (fun _ _=>iF MB (by kernel_rfl) (i:=1) (by omega) .i64) ?_
  refine fU 4 MI MI (by kernel_rfl) MI hS (fun _ hw=>ai Mw MI (hw.cell (i:=6) MI)) ?_
  refine fv 5 MI MI (by kernel_rfl) MI hS ?_
  refine fv 7 MI MI (by kernel_rfl) MI hS ?_
  refine nR 8 MI MI (by kernel_rfl) MI hS ?_
  refine fo 9 MI MI (by kernel_rfl) MI hS (fun _ _=>aq (o:=0) Mq MI (by kernel_rfl) MI) ?_
  refine fU 10 rfl rfl (by kernel_rfl) rfl hS (fun _ hw=>hw.ldO (ms:=[I s.kd,I s.ix,B s.at_.1,x,y]) (o:=0) (fun j v hj=>by rcases j with _|_|_|_|_|j<;>simp_all) Tryz.underlying48 rfl (by kernel_rfl)) ?_
  refine fv 14 MI MI (by kernel_rfl) MI hS ?_
  refine np (fun z=>[(0,.pointer (some ⟨g,0,none⟩)),(1,pv),(2,.pointer (some ⟨gm,0,none⟩)),(6,.pointer (some ⟨g6,0,none⟩)),(7,.pointer (some ⟨g7,0,none⟩)),(8,.pointer (some ⟨z.2.2,0,none⟩))]) (fun(z:Value×List Value×Nat) w1=>uG w0 w9 (fun k=>F k∨k=g6) z.2.2 gm mv1 z.1 ((ms++a.miss (path++[s]))++b.miss (path++[dF s])) b.node z.2.1 w1) #[true,true,true,true,true,true,true,true,true,true,true,true,true,true,true,true,true,true] 0 ?_ (fun hk=>?_)
  rotate_left
  ·refine np (fun z=>[(0,.pointer (some ⟨g,0,none⟩)),(1,pv),(2,.pointer (some ⟨gm,0,none⟩)),(6,.pointer (some ⟨g6,0,none⟩)),(7,.pointer (some ⟨g7,0,none⟩)),(55,.pointer (some ⟨g2,0,none⟩)),(65,.pointer (some ⟨gm,0,none⟩)),(57,z.1),(63,z.2.1),(8,.pointer (some ⟨z.2.2,0,none⟩))]) (fun(z:Value×Value×Nat) w1=>aK w9 w1∧fz 48 5 w9.heap.size (fun k=>YM gm mv1 k∨((F k∨k=g6)∨k=z.2.2)) dy path z.1 w1∧Sl 5 [I (dF s).kd,I (dF s).ix,B (dF s).at_.1,x,y] z.2.1 w1∧ci z.2.2 52 [.slice none 0 0,I 0,I 0,B false,.slice none 0 0,.slice none 0 0,.slice none 0 0,B false,.slice none 0 0] w1∧w9.heap.size≤z.2.2∧z.1.ownBlock≠some z.2.2) #[true,true,true,true,true,true,true,true,true,true,true,true,true,false,true,false,true,false] 3 ?_ (fun hk2=>?_)
   ·rintro⟨v42,v47,gc⟩ wg ⟨xg,b42,b47,k7,l7,ne42⟩
    have l7b:=k7.lt
    have own42:=b42.lt
    obtain⟨v48,w48,hr48,o48,e48,m48,n48⟩:=EI (X:=(fun k=>YM gm mv1 k∨((F k∨k=g6)∨k=gc))) (d:=dF s) e9 xg (aK.refl _) (fun k hk=>by rcases hk with hk|hk|hk;exact hXy k (.inl hk);exact hXy k (.inr hk);(have:k=gc:=hk;dsimp only at l7;omega)) hsx hsy b42 b47 hpl
    have own48:=o48.lt
    have s48:=m48.size
    refine aQ 13 (by kernel_rfl) MI (a6 MI MI hr48 (aH (kg9.ext e48) ?_))
    refine aQ 15 (by kernel_rfl) rfl (am iy rfl rfl (mO (F':=fun k=>(F k∨k=g6)∨k=gc) hB hFF2 e9 e48 j29 K1.st hd7 (by simp;omega) (by simp only[List.length_append,jG] at*;omega) o48 (fun k hk=>hk.imp id fun h=>by dsimp only at l7 l7b;omega) (fun k hk hk2=>by rcases hk2 with hk2|hk2;(have:=(own48 k hk).1;have:=hFl k hk2;omega);(rcases n48 k hk with h|h;exact ne42 (hk2▸h);(dsimp only at l7b;omega)))) ?_)
    rintro v50 w50 ⟨cs,mvk,rfl,h1,hr,hs,hm,hoo⟩
    refine aH (hm.blk (kg9.ext e48) hny1) ?_
    obtain⟨w8,hs8,K⟩:=uG.early e48 h1 hr hs hm hoo sW l7 hYw (m48.blk k7 ne42) rfl
    refine aQ 17 (by kernel_rfl) MI (ar MI MI hs8 (aH (K.m.blk kg9 hny1) ?_))
    exact hk _ _ ⟨(mvk,cs,gc),⟨rfl,rfl,rfl,rfl,rfl,rfl,trivial⟩,K⟩
   ·refine np (fun z=>[(0,.pointer (some ⟨g,0,none⟩)),(1,pv),(2,.pointer (some ⟨gm,0,none⟩)),(6,.pointer (some ⟨g6,0,none⟩)),(7,.pointer (some ⟨g7,0,none⟩)),(55,.pointer (some ⟨g2,0,none⟩)),(65,.pointer (some ⟨gm,0,none⟩)),(57,z.1),(63,z.2)]) (fun(z:Value×Value) w1=>aK w9 w1∧fz 48 5 w9.heap.size (fun k=>YM gm mv1 k∨(F k∨k=g6)) dy path z.1 w1∧Sl 5 [I (dF s).kd,I (dF s).ix,B (dF s).at_.1,x,y] z.2 w1) #[true,true,true,true,true,true,true,true,true,true,true,true,true,false,true,false,false,false] 4 ?_ (fun hk1=>?_)
    ·rintro⟨v42,v47⟩ wg ⟨xg,b42,b47⟩
     have own42:=b42.lt
     have sg:=xg.size
     refine kQ 13 16 (by kernel_rfl) MI MI ?_ ?_
     ·obtain⟨v48,w48,hr48,o48,e48,m48,n48⟩:=EI (d:=dF s) e9 xg (aK.refl _) hXy hsx hsy b42 b47 hpl
      have own48:=o48.lt
      refine a6 MI MI hr48 (aH (kg9.ext e48) ?_)
      refine kQ 15 16 (by kernel_rfl) MI MI ?_ ?_
      ·have zz:=e48.size
       refine am iy MI MI (mO hB hFF2 e9 e48 j29 K1.st hd7 (by simp;omega) (by simp only[List.length_append,jG] at*;omega) o48 (fun k hk=>.inl hk) (fun k hk hk2=>by have:=(own48 k hk).1;have:=hFl k hk2;omega)) ?_
       rintro v50 w50 ⟨cs,mvk,rfl,h1,hr,hs,hm,hoo⟩
       refine aH (hm.blk (kg9.ext e48) hny1) ?_
       obtain⟨gc,w7,hr7,l7,x7,k7⟩:=eA (w:=w50)
       refine aQ 16 (by kernel_rfl) MI (aV MI hr7 (aH ((hm.blk (kg9.ext e48) hny1).ext x7) ?_))
       obtain⟨w8,hs8,K⟩:=uG.late e48 h1 hr hs hm hoo x7 l7 k7 rfl
       refine aQ 17 (by kernel_rfl) MI (ar MI MI hs8 (aH (K.m.blk kg9 hny1) ?_))
       exact hk _ _ ⟨(mvk,cs,gc),⟨rfl,rfl,rfl,rfl,rfl,rfl,trivial⟩,K⟩
      ·obtain⟨gc,w7,hr7,l7,x7,k7⟩:=eA (w:=w48)
       have s48:=e48.size
       have l7b:=k7.lt
       refine aV MI hr7 (aH (kg9.ext (e48.trans x7)) ?_)
       refine aQ 15 (by kernel_rfl) rfl (am iy rfl rfl (mO (F':=fun k=>(F k∨k=g6)∨k=gc) hB hFF2 e9 (e48.trans x7) j29 K1.st hd7 (by simp;omega) (by simp only[List.length_append,jG] at*;omega) ((o48.weak (fun k hk=>by rcases hk with hk|hk|hk;exact .inl (.inl hk);exact .inl (.inr hk);exact .inr (by omega))).ext x7) (fun k hk=>hk.imp id fun h=>by omega) (fun k hk hk2=>by rcases hk2 with hk2|hk2;(have:=(own48 k hk).1;have:=hFl k hk2;omega);(have:=(own48 k hk).2;omega))) ?_)
       rintro v50 w50 ⟨cs,mvk,rfl,h1,hr,hs,hm,hoo⟩
       refine aH (hm.blk (kg9.ext (e48.trans x7)) hny1) ?_
       obtain⟨w8,hs8,K⟩:=uG.early (e48.trans x7) h1 hr hs hm hoo sW (by omega) hYw k7 rfl
       refine aQ 17 (by kernel_rfl) MI (ar MI MI hs8 (aH (K.m.blk kg9 hny1) ?_))
       exact hk _ _ ⟨(mvk,cs,gc),⟨rfl,rfl,rfl,rfl,rfl,rfl,trivial⟩,K⟩
     ·obtain⟨gc,w7,hr7,l7,x7,k7⟩:=eA (w:=wg)
      refine aV MI hr7 (aH (kg9.ext (xg.trans x7)) ?_)
      exact hk2 _ _ ⟨(v42,v47,gc),⟨rfl,rfl,rfl,rfl,rfl,rfl,rfl,rfl,rfl,rfl,trivial⟩,xg.trans x7,(b42.weak (fun k hk=>by rcases hk with hk|hk|hk;exact .inl (.inl hk);exact .inl (.inr hk);(have:k=gc:=hk;exact .inr (by omega)))).ext x7,b47.ext x7,k7,(show w9.heap.size≤gc by omega),fun h=>by have:=(own42 gc h).2;omega⟩
    ·refine kQ 6 16 (by kernel_rfl) MI MI ?_ ?_
     ·refine am fM MI MI (fO (hp9.ext eD) hpl) ?_
      rintro va1 wz1 ⟨x1,oo1⟩
      have oz1:=oo1.low (eD).size
      have ez1:aK w9 wz1:=eD.trans x1
      refine aH (kg9.ext ez1) ?_
      refine kQ 11 16 (by kernel_rfl) MI MI ?_ ?_
      ·refine am jh MI MI (ji (d:=s) (ho.ext (e9.trans ez1)) (hsx.ext (e9.trans ez1)) (hsy.ext (e9.trans ez1))) ?_
       rintro vb2 wz2 ⟨x2,rfl⟩
       have ez2:aK w9 wz2:=ez1.trans x2
       refine aH (kg9.ext ez2) ?_
       have oz2:=oz1.ext x2
       refine kQ 12 16 (by kernel_rfl) MI MI ?_ ?_
       ·obtain⟨vr3,wz3,hr3,x3,bz3⟩:=ju (w:=wz2) (d:=dF s) (x:=x) (y:=y)
        have ez3:aK w9 wz3:=ez2.trans x3
        refine aI (vs:=[(0,.agg #[I (dF s).kd,I (dF s).ix,B (dF s).at_.1,x,y])]) MI MI hr3 (aH (kg9.ext ez3) ?_)
        have oz3:=oz2.ext x3
        exact hk1 _ _ ⟨(va1,vr3),⟨rfl,rfl,rfl,rfl,rfl,rfl,rfl,rfl,rfl,trivial⟩,ez3,oz3,bz3⟩
       ·obtain⟨gc4,wz4,hr4,l4,x4,k4⟩:=eA (w:=wz2)
        have la4:=ez2.size
        have lb4:=k4.lt
        refine aV MI hr4 (aH (kg9.ext (ez2.trans x4)) ?_)
        have ez4:aK w9 wz4:=(ez2.trans x4)
        have oz4:=(oz2.weak (Y:=(fun k=>YM gm mv1 k∨((F k∨k=g6)∨k=gc4))) (fun k hk=>by rcases hk with hk|hk|hk;exact .inl (.inl hk);exact .inl (.inr hk);(have:k=gc4:=hk;exact .inr (by omega)))).ext x4
        have nz4:va1.ownBlock≠some gc4:=fun h=>by have:=(oz2.lt gc4 h).2;omega
        obtain⟨vr5,wz5,hr5,x5,bz5⟩:=ju (w:=wz4) (d:=dF s) (x:=x) (y:=y)
        have ez5:aK w9 wz5:=ez4.trans x5
        refine aQ 12 (by kernel_rfl) MI (aI (vs:=[(0,.agg #[I (dF s).kd,I (dF s).ix,B (dF s).at_.1,x,y])]) MI MI hr5 (aH (kg9.ext ez5) ?_))
        have oz5:=oz4.ext x5
        have kz5:=k4.ext x5
        exact hk2 _ _ ⟨(va1,vr5,gc4),⟨rfl,rfl,rfl,rfl,rfl,rfl,rfl,rfl,rfl,rfl,trivial⟩,ez5,oz5,bz5,kz5,(show w9.heap.size≤gc4 by omega),nz4⟩
      ·obtain⟨gc6,wz6,hr6,l6,x6,k6⟩:=eA (w:=wz1)
       have la6:=ez1.size
       have lb6:=k6.lt
       refine aV MI hr6 (aH (kg9.ext (ez1.trans x6)) ?_)
       have ez6:aK w9 wz6:=(ez1.trans x6)
       have oz6:=(oz1.weak (Y:=(fun k=>YM gm mv1 k∨((F k∨k=g6)∨k=gc6))) (fun k hk=>by rcases hk with hk|hk|hk;exact .inl (.inl hk);exact .inl (.inr hk);(have:k=gc6:=hk;exact .inr (by omega)))).ext x6
       have nz6:va1.ownBlock≠some gc6:=fun h=>by have:=(oz1.lt gc6 h).2;omega
       refine aQ 11 (by kernel_rfl) MI (am jh MI MI (ji (d:=s) (ho.ext (e9.trans ez6)) (hsx.ext (e9.trans ez6)) (hsy.ext (e9.trans ez6))) ?_)
       rintro vb7 wz7 ⟨x7,rfl⟩
       have ez7:aK w9 wz7:=ez6.trans x7
       refine aH (kg9.ext ez7) ?_
       have oz7:=oz6.ext x7
       have kz7:=k6.ext x7
       obtain⟨vr8,wz8,hr8,x8,bz8⟩:=ju (w:=wz7) (d:=dF s) (x:=x) (y:=y)
       have ez8:aK w9 wz8:=ez7.trans x8
       refine aQ 12 (by kernel_rfl) MI (aI (vs:=[(0,.agg #[I (dF s).kd,I (dF s).ix,B (dF s).at_.1,x,y])]) MI MI hr8 (aH (kg9.ext ez8) ?_))
       have oz8:=oz7.ext x8
       have kz8:=kz7.ext x8
       exact hk2 _ _ ⟨(va1,vr8,gc6),⟨rfl,rfl,rfl,rfl,rfl,rfl,rfl,rfl,rfl,rfl,trivial⟩,ez8,oz8,bz8,kz8,(show w9.heap.size≤gc6 by omega),nz6⟩
     ·obtain⟨gc9,wz9,hr9,l9,x9,k9⟩:=eA (w:=w9.drew)
      have la9:=eD.size
      have lb9:=k9.lt
      refine aV MI hr9 (aH (kg9.ext (eD.trans x9)) ?_)
      have ez9:aK w9 wz9:=(eD.trans x9)
      refine aQ 6 (by kernel_rfl) rfl (am fM rfl rfl (fO ((hp9.weak (Y:=(fun k=>YM gm mv1 k∨((F k∨k=g6)∨k=gc9))) (fun k hk=>by rcases hk with hk|hk|hk;exact .inl (.inl hk);exact .inl (.inr hk);(have:k=gc9:=hk;have:=(show w9.heap.size≤gc9 by omega);exact .inr (by omega)))).ext ez9) hpl) ?_)
      rintro va10 wz10 ⟨x10,oo10⟩
      have oz10:=oo10.low (ez9).size
      have ez10:aK w9 wz10:=ez9.trans x10
      refine aH (kg9.ext ez10) ?_
      have nz10:va10.ownBlock≠some gc9:=fun h=>by have:=(oo10.lt gc9 h).1;have:=k9.lt;omega
      have kz10:=k9.ext x10
      refine aQ 11 (by kernel_rfl) MI (am jh MI MI (ji (d:=s) (ho.ext (e9.trans ez10)) (hsx.ext (e9.trans ez10)) (hsy.ext (e9.trans ez10))) ?_)
      rintro vb11 wz11 ⟨x11,rfl⟩
      have ez11:aK w9 wz11:=ez10.trans x11
      refine aH (kg9.ext ez11) ?_
      have oz11:=oz10.ext x11
      have kz11:=kz10.ext x11
      obtain⟨vr12,wz12,hr12,x12,bz12⟩:=ju (w:=wz11) (d:=dF s) (x:=x) (y:=y)
      have ez12:aK w9 wz12:=ez11.trans x12
      refine aQ 12 (by kernel_rfl) MI (aI (vs:=[(0,.agg #[I (dF s).kd,I (dF s).ix,B (dF s).at_.1,x,y])]) MI MI hr12 (aH (kg9.ext ez12) ?_))
      have oz12:=oz11.ext x12
      have kz12:=kz11.ext x12
      exact hk2 _ _ ⟨(va10,vr12,gc9),⟨rfl,rfl,rfl,rfl,rfl,rfl,rfl,rfl,rfl,rfl,trivial⟩,ez12,oz12,bz12,kz12,(show w9.heap.size≤gc9 by omega),nz10⟩
  rintro⟨mv2,csB,g8⟩ w14 K2
  refine gQ (by kernel_rfl) ?_
  refine ab (af ?_)
  have hs9:=K1.m.size
  have hs14:=K2.m.size
  have kg14:=K2.m.blk kg9 hny1
  have k714:=K2.m.blk K1.k7 K1.n7
  have n61:¬YM gm mv1 g6:=fun h=>(hy1 g6 h).elim n6 (fun h=>by omega)
  have k614:=K2.m.blk (K1.m.blk k6 n6) n61
  have rpA:cH (AV w0 w6.heap.size gm mv2) w14 (bG a.node) csA:=K1.rp.mv (K2.m.weak fun k hk _=>.inl hk) fun k hk=>by
   rcases hk with hk|hk
   ·exact(YM.grow K2.own hk).imp .inl id
   ·exact .inl (.inr hk)
  have rpB:cH (AV w0 w6.heap.size gm mv2) w14 (bG b.node) csB:=K2.rp.weak fun k hk=>.inl (hk.imp id fun h=>⟨h.1,by omega⟩)
  have n62:¬YM gm mv2 g6:=fun h=>(YM.grow K2.own h).elim n61 fun h=>by omega
  have hAV:∀k,AV w0 w6.heap.size gm mv2 k→k<w14.heap.size:=fun k hk=>by
   rcases hk with hk|hk
   ·exact(K2.st.ym_young hk).2
   ·omega
  have e14:aK w0 w14:=K2.m.ext_from e9 fun k hk=>(K1.st.ym_young hk).1
  refine bP 8 [6,74] (by kernel_rfl) (by kernel_rfl) ?_
  refine aC rfl rfl (dc rfl rfl (aT rfl rfl (fun w hw=>aq (o:=0) Tryz.underlying114 rfl (by kernel_rfl) rfl) (aO rfl rfl (fun w hw=>(kg14.ext hw).ldO (ms:=[I s.kd,I s.ix,B s.at_.1,x,y]) (o:=0) (fun j v hj=>by rcases j with _|_|_|_|_|_|_|_|_|j<;>simp_all) Tryz.underlying48 rfl (by kernel_rfl)) ?_)))
  refine aO MI MI (fun w' hw=>(k714.ext hw).ld L9 MI (cs9 rpA)) ?_
  refine aO MI MI (fun w' hw=>(K2.k7.ext hw).ld L9 MI (cs9 rpB)) ?_
  refine fQ (S:=fun v w'=>cH (AV w0 w6.heap.size gm mv2) w' (.sl ([a.node,b.node].map bG)) [v]∧v.oneCell'=true) (fun _ _ _ h hx=>⟨h.1.ext hx,h.2⟩) rfl (fun w' hw=>by rintro _ rfl _ rfl;exact JJ (rpA.ext hw) (rpB.ext hw) fun k hk=>Nat.lt_of_lt_of_le (hAV k hk) hw.size) ?_
  refine uI (S:=fun v w'=>∃kv,v=.agg #[.slice none 0 0,I s.kd,I s.ix,B s.at_.1,x,y,kv,B false,.slice none 0 0]∧cH (AV w0 w6.heap.size gm mv2) w' (.sl ([a.node,b.node].map bG)) [kv]∧kv.oneCell'=true) (fun _ _ _ ⟨kv,h1,h2,h3⟩ hx=>⟨kv,h1,h2.ext hx,h3⟩) MI (fun w' hw=>by
 rintro _ rfl kv ⟨h1,h2⟩
 obtain⟨A,n,c,rfl⟩:=h1.isSl
 obtain⟨_,_,_,rfl⟩:=hsx.isS
 obtain⟨_,_,_,rfl⟩:=hsy.isS
 exact⟨_,w',run_build _ _ _ #[.slice none 0 0,I s.kd,I s.ix,B s.at_.1,_,_,.slice A n c,B false,.slice none 0 0] (by kernel_rfl),aK.refl _,_,rfl,h1,rfl⟩) ?_
  refine cp ?_
  intro wg8 xg8
  rintro _ rfl
  intro vg74 b74
  obtain⟨kv,rfl,hkv,hk1⟩:=b74
  obtain⟨w15,s15,q15,k15⟩:=(k614.ext xg8).stS (P:=Tryz.prog) (t:=52) (m:=[.slice none 0 0,I s.kd,I s.ix,B s.at_.1,x,y,kv,B false,.slice none 0 0]) rfl (by kernel_rfl) (au.cons rfl (au.cons rfl (au.cons rfl (au.cons rfl (au.cons hsx.one (au.cons hsy.one (au.cons hk1 (au.cons rfl (au.cons rfl au.nil)))))))))
  have m15:Mv (fun k=>k=g6) wg8 w15:=Mv.of_grown q15 fun k hk _=>(Option.some.inj hk).symm
  refine ar MI MI s15 ?_
  refine ag (ab (aw ?_))
  refine dt MI MI k15 L9 MI (by kernel_rfl) ?_
  have hx8:=xg8.size
  refine⟨_,rfl,[.slice none 0 0,I s.kd,I s.ix,B s.at_.1,x,y,kv,B false,.slice none 0 0],mv2,rfl,au.cons MI (au.cons MI (au.cons MI (au.cons MI (au.cons hsx.one (au.cons hsy.one (au.cons hk1 (au.cons MI (au.cons MI au.nil)))))))),?_,?_,?_,fun k hk=>(K2.own k hk).elim (fun h=>(K1.own k h).imp id fun h=>by omega) fun h=>.inr (by omega)⟩
  ·rw[ht]
   have h1:cH (AV w0 w6.heap.size gm mv2) wg8 (bG (.mk [] s [a.node,b.node] false [])) [.slice none 0 0,I s.kd,I s.ix,B s.at_.1,x,y,kv,B false,.slice none 0 0]:=et jK (((Ad hsx hsy).x.ext (e14.trans xg8)).weak fun k hk=>.inl (hk.elim (fun h=>(K2.st.ym_young h).1) fun h=>h.1)) hkv jK
   have h2:=h1.mv (m15.weak (Y:=AV w0 w6.heap.size gm mv2) fun k hk _=>.inr (by have e:k=g6:=hk;omega)) fun _ h=>.inl h
   exact h2.weak fun k hk=>.inl (hk.imp id fun h=>⟨h.1,by omega⟩)
  ·have h1:=((K2.st.ext xg8).sto m15 (.inr rfl) n62).weak (G:=F) fun k hk=>.inl (.inl hk)
   rw[ht]
   simpa only[JT.miss,List.append_assoc] using h1
  ·exact((((Mv.of_ext (X:=YM gm mv) x6).trans K1.m fun _ h _=>h).trans K2.m fun k hk hlt=>(hy1 k hk).resolve_right (by omega)).trans (Mv.of_ext (X:=YM gm mv) xg8) fun _ h _=>h).trans m15 fun k hk hlt=>by have e:k=g6:=hk;omega
end Go.Rl
namespace Go.Rl
open Go.RowKit Go.Proofs
theorem zb:aG Tryz.prog 64:=⟨_,Tryz.func64,by kernel_rfl,rfl⟩
section
variable {w0 w w' w1:World} {g gc g1 g2:Nat} {t tc a b:JT} {ids ic i1 i2:List Nat} {n:aW} {pt ps:List bS} {d s:bS} {x y p q:Value}
def L5 (w0 w:World) (g:Nat) (t:JT) (ids:List Nat) (n:aW) (pt:List bS) (w':World):Prop:=
 ∃t' ids',iw n pt t=some t'∧Mv (fun k=>k∈ids) w w'∧jL w0 w' g t' ids'∧∀k∈ids',k∈ids∨w.heap.size≤k
def t0 (w0 w:World) (g:Nat) (t:JT) (ids:List Nat) (n:aW) (pt ps:List bS) (gc:Nat) (tc:JT) (ic:List Nat) (w':World):Prop:=
 (∀w'' t'' i'',Mv (fun k=>k∈ic) w' w''→iw n ps tc=some t''→jL w0 w'' gc t'' i''→(∀k∈i'',k∈ic∨w'.heap.size≤k)→L5 w0 w g t ids n pt w'')∧(iw n ps tc=none→iw n pt t=none)
theorem t0.start (e:aK w w'):t0 w0 w g t ids n pt pt g t ids w':=
 ⟨fun _ t'' i'' m h1 h2 h3=>⟨t'',i'',h1,(Mv.of_ext (X:=fun k=>k∈ids) e).trans m fun _ hk _=>hk,h2,fun k hk=>(h3 k hk).imp id fun h=>Nat.le_trans e.size h⟩,id⟩
theorem IA (hop:sO d t=.split s a b) (hs:s=d):iw n (d::ps) t=(iw n ps a).map fun a'=>.split s a' b:=by
 show(match sO d t with
  |.split s a b=>if s=d then(iw n ps a).map fun a'=>JT.split s a' b else if dF s=d then(iw n ps b).map fun b'=>.split s a b' else none
  |.leaf _=>none
  |.gap=>none)=_
 rw[hop]
 simp only[]
 rw[if_pos hs]
theorem IB (hop:sO d t=.split s a b) (hs:¬s=d) (ho:dF s=d):iw n (d::ps) t=(iw n ps b).map fun b'=>.split s a b':=by
 show(match sO d t with
  |.split s a b=>if s=d then(iw n ps a).map fun a'=>JT.split s a' b else if dF s=d then(iw n ps b).map fun b'=>.split s a b' else none
  |.leaf _=>none
  |.gap=>none)=_
 rw[hop]
 simp only[]
 rw[if_neg hs,if_pos ho]
def EJ (d:bS) (t:JT):Prop:=(∃m,t=.leaf m)∨∃s a b,sO d t=.split s a b∧s≠d∧dF s≠d
theorem Li (h:EJ d t):iw n (d::ps) t=none:=by
 show(match sO d t with
  |.split s a b=>if s=d then(iw n ps a).map fun a'=>JT.split s a' b else if dF s=d then(iw n ps b).map fun b'=>.split s a b' else none
  |.leaf _=>none
  |.gap=>none)=_
 rcases h with⟨m,rfl⟩|⟨s,a,b,hop,h1,h2⟩
 ·rfl
 ·rw[hop]
  simp only[]
  rw[if_neg h1,if_neg h2]
theorem Gl (d:bS) (t:JT):(∃s a b,sO d t=.split s a b∧s=d)∨(∃s a b,sO d t=.split s a b∧(¬s=d)∧dF s=d)∨EJ d t:=by
 have key:∀s a b,sO d t=.split s a b→(∃s a b,sO d t=.split s a b∧s=d)∨(∃s a b,sO d t=.split s a b∧(¬s=d)∧dF s=d)∨EJ d t:=fun s a b h=>by
  by_cases h1:s=d
  ·exact .inl ⟨s,a,b,h,h1⟩
  ·by_cases h2:dF s=d
   ·exact .inr (.inl ⟨s,a,b,h,h1,h2⟩)
   ·exact .inr (.inr (.inr ⟨s,a,b,h,h1,h2⟩))
 cases t with
 |gap=>exact key _ _ _ rfl
 |leaf m=>exact .inr (.inr (.inl ⟨m,rfl⟩))
 |split s a b=>exact key _ _ _ rfl
theorem mK.swap (h:mK w0 w g ids s a b x y g1 g2 i1 i2 w'):aK w0 w→aK w0 w':=fun e=>h.mv.ext_from e fun k hk=>by have:=h.young;omega
theorem t0.ext (h:t0 w0 w g t ids n pt ps gc tc ic w') (e:aK w' w1):t0 w0 w g t ids n pt ps gc tc ic w1:=
 ⟨fun w'' t'' i'' m h1 h2 h3=>h.1 w'' t'' i'' ((Mv.of_ext (X:=fun k=>k∈ic) e).trans m fun _ hk _=>hk) h1 h2 fun k hk=>(h3 k hk).imp id fun h=>Nat.le_trans e.size h,h.2⟩
theorem t0.go1 (h:t0 w0 w g t ids n pt (d::ps) gc tc ic w') (hin:gc∈ic) (hM:mK w0 w' gc ic s a b x y g1 g2 i1 i2 w1) (hop:sO d tc=.split s a b) (hs:s=d):t0 w0 w g t ids n pt ps g1 a i1 w1:=by
 have sz:=hM.mv.size
 refine⟨fun w'' t'' i'' m h1 h2 h3=>?_,fun h1=>h.2 (by rw[IA hop hs,h1];rfl)⟩
 have gl:=hM.blk.lt
 have m1:Mv (fun k=>k∈ic) w' w1:=hM.mv.weak fun k hk _=>by have e:k=gc:=hk;rw[e];exact hin
 have hf:∀k∈i'',k∈i1∨w1.heap.size≤k:=h3
 have j2:=hM.k2.mv m fun k hk hk'=>hM.n3 k hk' hk
 refine h.1 w'' (.split s t'' b) (gc::(i''++i2)) (m1.trans m fun k hk hkl=>(hM.fresh k (.inl hk)).resolve_right (by omega)) (by rw[IA hop hs,h1];rfl) (jL.split hM.hx hM.hy (m.blk hM.blk hM.n1) h2 j2 hM.young (fun hk=>?_) hM.n2 fun k hk hk2=>?_) fun k hk=>?_
 ·rcases hf _ hk with h4|h4
  ·exact hM.n1 h4
  ·omega
 ·rcases hf _ hk with h4|h4
  ·exact hM.n3 k h4 hk2
  ·have:=hM.k2.lt k hk2;omega
 ·simp only[List.mem_cons,List.mem_append] at hk
  rcases hk with rfl|hk|hk
  ·exact .inl hin
  ·rcases hf _ hk with h4|h4
   ·exact hM.fresh k (.inl h4)
   ·exact .inr (by omega)
  ·exact hM.fresh k (.inr hk)
theorem t0.go2 (h:t0 w0 w g t ids n pt (d::ps) gc tc ic w') (hin:gc∈ic) (hM:mK w0 w' gc ic s a b x y g1 g2 i1 i2 w1) (hop:sO d tc=.split s a b) (hs:¬s=d) (ho:dF s=d):t0 w0 w g t ids n pt ps g2 b i2 w1:=by
 have sz:=hM.mv.size
 refine⟨fun w'' t'' i'' m h1 h2 h3=>?_,fun h1=>h.2 (by rw[IB hop hs ho,h1];rfl)⟩
 have gl:=hM.blk.lt
 have m1:Mv (fun k=>k∈ic) w' w1:=hM.mv.weak fun k hk _=>by have e:k=gc:=hk;rw[e];exact hin
 have hf:∀k∈i'',k∈i2∨w1.heap.size≤k:=h3
 have j1:=hM.k1.mv m fun k hk hk'=>hM.n3 k hk hk'
 refine h.1 w'' (.split s a t'') (gc::(i1++i'')) (m1.trans m fun k hk hkl=>(hM.fresh k (.inr hk)).resolve_right (by omega)) (by rw[IB hop hs ho,h1];rfl) (jL.split hM.hx hM.hy (m.blk hM.blk hM.n2) j1 h2 hM.young hM.n1 (fun hk=>?_) fun k hk1 hk=>?_) fun k hk=>?_
 ·rcases hf _ hk with h4|h4
  ·exact hM.n2 h4
  ·omega
 ·rcases hf _ hk with h4|h4
  ·exact hM.n3 k hk1 h4
  ·have:=hM.k1.lt k hk1;omega
 ·simp only[List.mem_cons,List.mem_append] at hk
  rcases hk with rfl|hk|hk
  ·exact .inl hin
  ·exact hM.fresh k (.inl hk)
  ·rcases hf _ hk with h4|h4
   ·exact hM.fresh k (.inr h4)
   ·exact .inr (by omega)
end
section
variable {w0 w:World} {g:Nat} {t a b:JT} {ids:List Nat} {d s:bS} {p q:Value}
theorem JL (e0:aK w0 w) (ho:zH w0) (hJ:jL w0 w g t ids) (hp:bm d.at_.2.1 p w0) (hq:bm d.at_.2.2 q w0) (hop:sO d t=.split s a b) (hs:s=d):
 Calls Tryz.prog 108 #[.pointer (some ⟨g,0,none⟩),.agg #[I d.kd,I d.ix,B d.at_.1,p,q]] w (bE fun r w'=>aK w0 w'∧∃x y g1 g2 i1 i2,mK w0 w g ids s a b x y g1 g2 i1 i2 w'∧r=.tuple #[.pointer (some ⟨g1,0,none⟩),B true]):=by
 refine bE.mono (rz e0 ho hJ hp hq) fun r w' h=>?_
 rcases h with⟨m,rfl,_⟩|⟨s',a',b',x,y,g1,g2,i1,i2,h1,h2,h3⟩
 ·cases hop
 ·rw[hop] at h1
  obtain⟨rfl,rfl,rfl⟩:=JT.split.inj h1
  rw[if_pos hs] at h3
  exact⟨h2.swap e0,x,y,g1,g2,i1,i2,h2,h3⟩
theorem JM (e0:aK w0 w) (ho:zH w0) (hJ:jL w0 w g t ids) (hp:bm d.at_.2.1 p w0) (hq:bm d.at_.2.2 q w0) (hop:sO d t=.split s a b) (hs:¬s=d) (h0:dF s=d):
 Calls Tryz.prog 108 #[.pointer (some ⟨g,0,none⟩),.agg #[I d.kd,I d.ix,B d.at_.1,p,q]] w (bE fun r w'=>aK w0 w'∧∃x y g1 g2 i1 i2,mK w0 w g ids s a b x y g1 g2 i1 i2 w'∧r=.tuple #[.pointer (some ⟨g2,0,none⟩),B true]):=by
 refine bE.mono (rz e0 ho hJ hp hq) fun r w' h=>?_
 rcases h with⟨m,rfl,_⟩|⟨s',a',b',x,y,g1,g2,i1,i2,h1,h2,h3⟩
 ·cases hop
 ·rw[hop] at h1
  obtain⟨rfl,rfl,rfl⟩:=JT.split.inj h1
  rw[if_neg hs,if_pos h0] at h3
  exact⟨h2.swap e0,x,y,g1,g2,i1,i2,h2,h3⟩
theorem JN (e0:aK w0 w) (ho:zH w0) (hJ:jL w0 w g t ids) (hp:bm d.at_.2.1 p w0) (hq:bm d.at_.2.2 q w0) (hn:EJ d t):
 Calls Tryz.prog 108 #[.pointer (some ⟨g,0,none⟩),.agg #[I d.kd,I d.ix,B d.at_.1,p,q]] w (bE fun r w'=>aK w0 w'∧Mv (fun k=>k=g) w w'∧r=.tuple #[.pointer none,B false]):=by
 refine bE.mono (rz e0 ho hJ hp hq) fun r w' h=>?_
 rcases h with⟨m,rfl,h1,h2⟩|⟨s',a',b',x,y,g1,g2,i1,i2,h1,h2,h3⟩
 ·exact⟨e0.trans h1,Mv.of_ext h1,h2⟩
 ·refine⟨h2.swap e0,h2.mv,?_⟩
  rcases hn with⟨m,rfl⟩|⟨s,a,b,hop,n1,n2⟩
  ·cases h1
  ·rw[hop] at h1
   obtain⟨rfl,rfl,rfl⟩:=JT.split.inj h1
   rw[if_neg n1,if_neg n2] at h3
   exact h3
end
theorem JO {w:World} {n:aW} {vl x y vk vp:Value} (hl:cA cY n.lems vl w) (hx:bm n.split.at_.2.1 x w) (hy:bm n.split.at_.2.2 y w) (hk:cA bG n.kids vk w) (hp:cA bN n.pf vp w):Rp w (bG n) [vl,I n.split.kd,I n.split.ix,B n.split.at_.1,x,y,vk,B n.empty,vp]:=by
 cases n with
 |mk ls s ks em pf=>exact(et (Rp.x hl) (Ad hx hy).x (Rp.x hk) (Rp.x hp)).rp
def Lj (w0 w:World) (g:Nat) (t:JT) (ids:List Nat) (n:aW) (pt:List bS) (r:Value) (w':World):Prop:=aK w0 w'∧Mv (fun k=>k∈ids) w w'∧((iw n pt t=none∧r=B false)∨(r=B true∧L5 w0 w g t ids n pt w'))
theorem zc {w0 w:World} {g:Nat} {t:JT} {ids:List Nat} {u:cc} {vd vl x y vk vp:Value} (e0:aK w0 w) (ho:zH w0) (hJ:jL w0 w g t ids) (hd:cA dy u.path vd w0) (hl:cA cY u.leaf.lems vl w0) (hx:bm u.leaf.split.at_.2.1 x w0) (hy:bm u.leaf.split.at_.2.2 y w0) (hk:cA bG u.leaf.kids vk w0) (hp:cA bN u.leaf.pf vp w0):
 Calls Tryz.prog 64 #[.pointer (some ⟨g,0,none⟩),.agg #[vd,vl,I u.leaf.split.kd,I u.leaf.split.ix,B u.leaf.split.at_.1,x,y,vk,B u.leaf.empty,vp]] w (bE fun r w'=>Lj w0 w g t ids u.leaf u.path r w'):=by
 refine enter (vs:=[.pointer (some ⟨g,0,none⟩),.agg #[vd,vl,I u.leaf.split.kd,I u.leaf.split.ix,B u.leaf.split.at_.1,x,y,vk,B u.leaf.empty,vp]]) Tryz.func64 MI MI MI ?_
 refine af (aa ?_)
 obtain⟨g3,w3,hr3,l3,x3,k3⟩:=cC (P:=Tryz.prog) (w:=w) (T:=54) (cs:=[vd,vl,I u.leaf.split.kd,I u.leaf.split.ix,B u.leaf.split.at_.1,x,y,vk,B u.leaf.empty,vp])
 refine cG MI MI hr3 (ac MI MI (ag (ab (af (af ?_)))))
 have hll:=hd.len
 have hg3:∀k∈ids,k<g3:=fun k hk=>Nat.lt_of_lt_of_le (hJ.lt k hk) l3
 refine aa (ah MI MI (aq (o:=0) Md MI (by kernel_rfl) MI) (ak MI MI (ai Mj MI (k3.cell (i:=0) MI)) ?_))
 refine aP MI MI (bg Mj (hd.ext (e0.trans x3))) (ae MI MI (ag (ab (aF ?_))))
 refine iW (fun(i:Nat) (gc:Nat) (tc:JT) (ic:List Nat)=>[(0,.pointer (some ⟨gc,0,none⟩)),(3,.pointer (some ⟨g3,0,none⟩)),(4,B false),(11,vd),(12,I ((u.path.length:Nat):Int)),(13,I (i:Int))]) (fun(i:Nat) (gc:Nat) (tc:JT) (ic:List Nat) w'=>aK w0 w'∧i≤u.path.length∧jL w0 w' gc tc ic∧ci g3 54 [vd,vl,I u.leaf.split.kd,I u.leaf.split.ix,B u.leaf.split.at_.1,x,y,vk,B u.leaf.empty,vp] w'∧g3∉ic∧t0 w0 w g t ids u.leaf u.path (u.path.drop i) gc tc ic w'∧Mv (fun k=>k∈ids) w w'∧∀k∈ic,k∈ids∨w.heap.size≤k) (fun(i:Nat) (gc:Nat) (tc:JT) (ic:List Nat)=>u.path.length-i) (0) (g) (t) (ids) ⟨rfl,rfl,rfl,rfl,rfl,rfl,trivial⟩ ⟨e0.trans x3,by omega,hJ.mv (Mv.of_ext (X:=fun _=>False) x3) (fun _ _ h=>h),k3,fun h=>by have:=hg3 _ h;omega,t0.start x3,Mv.of_ext x3,fun k hk=>.inl hk⟩ ?_
 rintro i gc tc ic wL ⟨eL,hi,hjL,kL,nL,hC,mL,frL⟩
 refine af (aa (al MI MI MI (a9) (ag (ab (af ?_)))))
 refine bw MI (fun h14=>?_) (fun h14=>?_)
 ·refine aA (ab (af (aF (af (aa ?_)))))
  obtain⟨a15,c15,p15,q15,h15⟩:=bZ (P:=Tryz.prog) (sz:=5) Mj (by kernel_rfl) ce (by omega) hd (i:=i) ((by omega)) .i64
  obtain⟨e15,he15⟩:∃e,e=u.path[i]'((by omega)):=⟨_,rfl⟩
  rw[←he15] at h15
  obtain⟨x15_0,x15_1,rfl,f15_0,f15_1⟩:=gw h15
  refine av MI MI MI (p15 _) (ak MI MI ((q15.ext eL).ld Mc MI (by kernel_rfl)) ?_)
  obtain⟨g6,w6,hr6,l6,x6,k6⟩:=aY (P:=Tryz.prog) (w:=wL) (t:=48) (z:=.agg #[I 0,I 0,B false,.slice none 0 0,.slice none 0 0]) (l:=[I 0,I 0,B false,.slice none 0 0,.slice none 0 0]) (by kernel_rfl) rfl
  refine aV MI hr6 ?_
  obtain⟨w3_3,s3_3,q3_3,k3_3⟩:=k6.stS (P:=Tryz.prog) (t:=48) (m:=[I e15.kd,I e15.ix,B e15.at_.1,x15_0,x15_1]) rfl (by kernel_rfl) (au.cons rfl (au.cons rfl (au.cons rfl (au.cons f15_0.one (au.cons f15_1.one au.nil)))))
  refine ar MI MI s3_3 ?_
  have x3_3:=aK.of_new (x6) q3_3 l6
  refine ag (ab (af ?_))
  have hdr:u.path.drop i=e15::u.path.drop (i+1):=by rw[he15];exact List.drop_eq_getElem_cons (by omega)
  rw[hdr] at hC
  have hCN:=hC.ext (x3_3)
  have hjN:=hjL.mv (Mv.of_ext (X:=fun _=>False) (x3_3)) (fun _ _ h=>h)
  have hroot:=hjL.root
  have kN:=kL.ext (x3_3)
  have frc:∀k,k=gc→k<w.heap.size→k∈ids:=fun k hk hlt=>(frL k (hk▸hroot)).resolve_right (by omega)
  have mN:Mv (fun k=>k∈ids) w _:=mL.trans (Mv.of_ext (X:=fun k=>k∈ids) (x3_3)) fun _ h _=>h
  have szL:=mL.size
  have hgc:g3≠gc:=fun h=>nL (h▸hroot)
  rcases Gl e15 tc with⟨s,a,b,hop,hs⟩|⟨s,a,b,hop,hs,hs2⟩|hno
  ·refine aa (ae MI MI (ak MI MI (k3_3.ld Mc MI (by kernel_rfl)) (am ry MI MI ((JL (ids:=ic) (eL.trans x3_3) ho hjN f15_0 f15_1 hop hs)) ?_)))
   rintro v20 w20 ⟨y20,x1,y1,g1,g2,i1,i2,hM,rfl⟩
   refine ae MI MI (ao MI MI (bj) (ao MI MI (bk) (ac MI MI (ac MI MI (ag (ab (af (af (aa (ae MI MI (bt MI MI bu ?_)))))))))))
   refine ag (ab (cq MI (aA (ab (aa (ae MI MI (ac MI MI (ag (aS (ab (aa (al (r:=I ((i+1:Nat):Int)) MI MI MI (by have e:((i+1:Nat):Int)=(i:Int)+1:=(by omega);rw[e];exact aN (by omega) (by omega)) ?_))))))))))))
   refine ae MI MI (ag ?_)
   refine fb (i+1) (g1) (a) (i1) ⟨rfl,rfl,rfl,rfl,rfl,rfl,trivial⟩ ⟨y20,by omega,hM.k1,hM.mv.blk kN hgc,fun h=>(hM.fresh _ (.inl h)).elim nL fun h=>by have:=kN.lt;omega,hCN.go1 hroot hM hop hs,mN.trans hM.mv frc,fun k hk=>(hM.fresh k (.inl hk)).elim (frL k) fun h=>.inr (by have:=mN.size;omega)⟩ (by omega)
  ·refine aa (ae MI MI (ak MI MI (k3_3.ld Mc MI (by kernel_rfl)) (am ry MI MI ((JM (ids:=ic) (eL.trans x3_3) ho hjN f15_0 f15_1 hop hs hs2)) ?_)))
   rintro v20 w20 ⟨y20,x1,y1,g1,g2,i1,i2,hM,rfl⟩
   refine ae MI MI (ao MI MI (bj) (ao MI MI (bk) (ac MI MI (ac MI MI (ag (ab (af (af (aa (ae MI MI (bt MI MI bu ?_)))))))))))
   refine ag (ab (cq MI (aA (ab (aa (ae MI MI (ac MI MI (ag (aS (ab (aa (al (r:=I ((i+1:Nat):Int)) MI MI MI (by have e:((i+1:Nat):Int)=(i:Int)+1:=(by omega);rw[e];exact aN (by omega) (by omega)) ?_))))))))))))
   refine ae MI MI (ag ?_)
   refine fb (i+1) (g2) (b) (i2) ⟨rfl,rfl,rfl,rfl,rfl,rfl,trivial⟩ ⟨y20,by omega,hM.k2,hM.mv.blk kN hgc,fun h=>(hM.fresh _ (.inr h)).elim nL fun h=>by have:=kN.lt;omega,hCN.go2 hroot hM hop hs hs2,mN.trans hM.mv frc,fun k hk=>(hM.fresh k (.inr hk)).elim (frL k) fun h=>.inr (by have:=mN.size;omega)⟩ (by omega)
  ·refine aa (ae MI MI (ak MI MI (k3_3.ld Mc MI (by kernel_rfl)) (am ry MI MI ((JN (ids:=ic) (eL.trans x3_3) ho hjN f15_0 f15_1 hno)) ?_)))
   rintro v20 w20 ⟨y20,m20,rfl⟩
   refine ae MI MI (ao MI MI (bj) (ao MI MI (bk) (ac MI MI (ac MI MI (ag (ab (af (af (aa (ae MI MI (bt MI MI bu ?_)))))))))))
   refine ag (ab (bh MI (af (aa (ac MI MI (ag (ab (aw (ay (aX (ay (ay (aX (ay (az MI MI ?_)))))))))))))))
   exact⟨_,rfl,y20,mN.trans m20 frc,.inl ⟨hC.2 (Li hno),rfl⟩⟩
 ·refine bc (aJ (aJ (bf (ab (af (af ?_))))))
  have hgL:w0.heap.size≤gc:=hjL.young gc hjL.root
  rw[List.drop_eq_nil_of_le (by omega)] at hC
  rcases tc with _|m|⟨s,a,b⟩
  ·obtain⟨hid,kg⟩:=Az hjL
   refine aa (ae MI MI (ax MI MI (ah MI MI (aq (o:=5) Mq MI (by kernel_rfl) MI) ?_)))
   refine av MI MI MI (iF MB (by kernel_rfl) (i:=0) (by omega) .i64) ?_
   refine ak MI MI (ai Mw MI (kg.cell (i:=5) MI)) (al MI MI MI (gW Mw) (ag (ab ?_)))
   refine cq MI (aA (ab (af (af (aa (ae MI MI (ax MI MI (ah MI MI (aq (o:=7) Mq MI (by kernel_rfl) MI) ?_))))))))
   refine ak MI MI (ai My MI (kg.cell (i:=7) MI)) (al MI MI MI (gp My) (ag (ab (bh MI ?_))))
   refine af ?_
   have hlL:=hl.ext eL
   have hxL:=hx.ext eL
   have hyL:=hy.ext eL
   have hkL:=hk.ext eL
   have hpL:=hp.ext eL
   refine aa (ah rfl rfl (aq (o:=1) Tryz.underlying54 rfl (by kernel_rfl) rfl) (ak rfl rfl (kL.ldO (ms:=[vl,I u.leaf.split.kd,I u.leaf.split.ix,B u.leaf.split.at_.1,x,y,vk,B u.leaf.empty,vp]) (o:=1) (fun j v hj=>by rcases j with _|_|_|_|_|_|_|_|_|j<;>simp_all) Tryz.underlying52 rfl (by kernel_rfl)) ?_))
   obtain⟨g9,w9,hr9,l9,x9,k9⟩:=aY (P:=Tryz.prog) (w:=wL) (t:=52) (z:=.agg #[.slice none 0 0,I 0,I 0,B false,.slice none 0 0,.slice none 0 0,.slice none 0 0,B false,.slice none 0 0]) (l:=[.slice none 0 0,I 0,I 0,B false,.slice none 0 0,.slice none 0 0,.slice none 0 0,B false,.slice none 0 0]) (by kernel_rfl) rfl
   refine aV MI hr9 ?_
   obtain⟨w12_3,s12_3,q12_3,k12_3⟩:=k9.stS (P:=Tryz.prog) (t:=52) (m:=[vl,I u.leaf.split.kd,I u.leaf.split.ix,B u.leaf.split.at_.1,x,y,vk,B u.leaf.empty,vp]) rfl (by kernel_rfl) (au.cons hlL.one (au.cons rfl (au.cons rfl (au.cons rfl (au.cons hxL.one (au.cons hyL.one (au.cons hkL.one (au.cons rfl (au.cons hpL.one au.nil)))))))))
   refine ar MI MI s12_3 ?_
   have x12_3:=aK.of_new (x9) q12_3 l9
   refine ag (ab (aa (ae MI MI (ax MI MI (ah MI MI (aq (o:=7) Mq MI (by kernel_rfl) MI) ?_)))))
   obtain⟨w13,s13,q13,k13⟩:=(kg.ext (x12_3)).stC (P:=Tryz.prog) (t:=112) (i:=7) (v:=.pointer (some ⟨g9,0,none⟩)) (by kernel_rfl) rfl (by decide)
   refine ar MI MI s13 ?_
   have y13:=aK.of_new ((eL.trans x12_3)) q13 hgL
   have m13:=(Mv.of_ext (X:=fun k=>k∈ic) (x12_3)).trans (Mv.of_grown (X:=fun k=>k=gc) q13 fun k hk _=>(Option.some.inj hk).symm) fun k hk _=>by have e:k=gc:=hk;rw[hid,e];simp
   refine ag (ab (af (aa (ac MI MI (ag (ab (aw (az MI MI ?_))))))))
   exact⟨_,rfl,y13,mL.trans m13 (fun k hk hlt=>(frL k hk).resolve_right (by omega)),.inr ⟨rfl,hC.1 w13 (.leaf u.leaf) [gc,g9] m13 rfl (jL.leaf k13 (k12_3.other q13 (fun e=>by have:=Option.some.inj e;have:=kg.lt;omega)) (JO hl hx hy hk hp) hgL (by have:=eL.size;omega) (by have:=kg.lt;omega)) fun k hk=>by
    have:=kg.lt
    simp only[List.mem_cons,List.not_mem_nil,or_false] at hk
    rcases hk with rfl|rfl
    ·exact .inl (by rw[hid];simp)
    ·exact .inr (by omega)⟩⟩
  ·obtain⟨gl,cl,hid,kg,kl,hrl⟩:=uY hjL
   refine aa (ae MI MI (ax MI MI (ah MI MI (aq (o:=5) Mq MI (by kernel_rfl) MI) ?_)))
   refine av MI MI MI (iF MB (by kernel_rfl) (i:=0) (by omega) .i64) ?_
   refine ak MI MI (ai Mw MI (kg.cell (i:=5) MI)) (al MI MI MI (gW Mw) (ag (ab ?_)))
   refine cq MI (aA (ab (af (af (aa (ae MI MI (ax MI MI (ah MI MI (aq (o:=7) Mq MI (by kernel_rfl) MI) ?_))))))))
   refine ak MI MI (ai My MI (kg.cell (i:=7) MI)) (al MI MI MI (gp My) (ag (ab (cq MI ?_))))
   refine aA (ab (af (aa (ac MI MI (ag (ab (aw (az MI MI ?_))))))))
   exact⟨_,rfl,eL,mL,.inr ⟨rfl,hC.1 wL (.leaf m) ic (Mv.refl _ _) rfl hjL fun k hk=>.inl hk⟩⟩
  ·obtain⟨x1,y1,g1,g2,i1,i2,hid,hx1,hy1,kg,j1,j2,_,n1,n2,n3⟩:=hjL.split_inv
   refine aa (ae MI MI (ax MI MI (ah MI MI (aq (o:=5) Mq MI (by kernel_rfl) MI) ?_)))
   refine av MI MI MI (iF MB (by kernel_rfl) (i:=0) (by omega) .i64) ?_
   refine ak MI MI (ai Mw MI (kg.cell (i:=5) MI)) (al MI MI MI (gW Mw) (ag (ab ?_)))
   refine bh MI (af (aa (ac MI MI (ag (ab (aw (ay (az MI MI ?_))))))))
   exact⟨_,rfl,eL,mL,.inl ⟨hC.2 rfl,rfl⟩⟩
end Go.Rl

/- Part 4 of a proof: plain facts and walks of functions, merged by a program. Conditions: each lemma names its own. -/
import Derived.Test.YtpeidnhjcompmaaGreatDoorJd3
namespace Go.Rl
open Go.RowKit Go.Proofs
theorem yY:aG Tryz.prog 42:=⟨_,Tryz.func42,by kernel_rfl,rfl⟩
theorem KQ:(Tryz.prog.info? 155).map (·.zero)=some (some (.agg (List.replicate 8 (U8 0)).toArray)):=by kernel_rfl
theorem BU {g k:Nat} {v:Value} (h:v.ownBlock=some k) (hne:k≠g):AA g v:=by
 rintro a n c rfl
 intro he
 have:some a.block=some k:=h
 exact hne (by rw[←Option.some.inj this];exact he)
theorem Jg (n:UInt64) {i:Nat} (hi:i<8):(BH n).getD i 0=(n>>>UInt64.ofNat (56-8*i)).toUInt8:=by
 simp[BH,hi]
section
variable {w:World} {g o:Nat} {T:TypeId}
theorem KR (i:Nat) (hi:i<8):(Instr.indexAt 155 (.pointer (some ⟨g,0,none⟩)) (I (i:Int))).run Tryz.prog w=.ok (.pointer (some ⟨g,i,none⟩)) w:=by
 have:=iH (P:=Tryz.prog) (w:=w) (g:=g) (o:=0) Tryz.underlying155 fC hi .i64
 rwa [Nat.zero_add] at this
theorem KS:(Instr.sliceAt 155 (.pointer (some ⟨g,0,none⟩)) none none none).run Tryz.prog w=.ok (.slice (some ⟨g,0,none⟩) 8 8) w:=by
 simp[Instr.sliceAt,run_underlying Tryz.underlying155,Instr.sureAddr,Instr.sliceBounds,fa fC,Addr.add_mid]
theorem cr.bts {m:List UInt8} (h:cr g T (m.map U8) w) (hm:m.length≤64):cn m (.slice (some ⟨g,0,none⟩) m.length m.length) w:=
 ⟨_,_,_,rfl,Nat.le_refl _,by unfold maxLen;omega,by simp,fun _=>⟨_,rfl,fun j v hj=>by rw[Addr.add_mid,Nat.zero_add];exact h.cell hj⟩,fun h=>by cases h⟩
end
theorem yZ {w:World} {g:Nat} {m:List UInt8} (hh:HA g m (UInt64.ofNat m.length) w):
 Calls Tryz.prog 42 #[.pointer (some ⟨g,0,none⟩)] w (bE fun r w'=>aN w w'∧r=.agg ((jx m).map U8).toArray):=by
 obtain⟨blk,hc,ht⟩:=hh
 refine enter (vs:=[.pointer (some ⟨g,0,none⟩)]) Tryz.func42 E E E ?_
 obtain⟨g2,w1,hr,n2,x1,b2⟩:=aX (P:=Tryz.prog) (w:=w) (l:=(List.replicate 32 0).map U8) fW rfl
 refine af (aa (aV E hr (ag (ab (af (af (aa (ae E E ?_))))))))
 refine al E E E (gr MA) ?_
 refine ag (ab ?_)
 refine cp E ?_
 refine aC (ab (af (aa (ae E E ?_))))
 refine ay E E ?_
 refine ak E E (hc.ext x1).ldH ?_
 obtain⟨g3,w2,hr,n3,x2,b3⟩:=aX (P:=Tryz.prog) (w:=w1) (l:=dq (List.replicate 8 0) (List.replicate 64 0) 0 0) F3 rfl
 refine aV E hr ?_
 have hl:=iw (u:=((m.length%64:Nat):Int)) (tot:=UInt64.ofNat m.length) hc.ls hc.lb
 refine aq E E (jV b3 (by rw[hl];rfl) (by rw[hl];exact yV) LQ) ?_
 have hA:HA g3 m (UInt64.ofNat m.length) (w2.setRow g3 (dq (sh m) blk ((m.length%64:Nat):Int) (UInt64.ofNat m.length)).toArray):=⟨blk,⟨b3.row _,hc.ls,hc.lb⟩,ht⟩
 have q3:=bP w2 g3 (dq (sh m) blk ((m.length%64:Nat):Int) (UInt64.ofNat m.length)).toArray
 have l23:g2<g3:=Nat.lt_of_lt_of_le b2.lt n3
 have ne23:some g2≠some g3:=fun h=>by cases h;omega
 have hw3:w.heap.size≤g3:=by omega
 have B2:=(b2.ext x2).other q3 ne23
 have E3:=(x1.trans x2).of_new q3 hw3
 revert hA B2 E3
 generalize w2.setRow g3 (dq (sh m) blk ((m.length%64:Nat):Int) (UInt64.ofNat m.length)).toArray=w3
 intro hA B2 E3
 refine ag (ab (af (aa ?_)))
 refine ah E E KP ?_
 obtain⟨blk',hcA,htA⟩:=id hA
 refine ak E E (aj Mc E hcA.cellT) ?_
 refine al (v:=bI 8) E E E (gG) ?_
 refine ac E E (ag (ab (af (aa ?_))))
 obtain⟨r4,w4,hr,x4,o4,ob4⟩:=dX (w:=w3) w3.heap.size [128] (by simp) (Nat.le_refl _)
 refine aK (vs:=[(0,U8 128)]) E E hr ?_
 refine an gC E E (gD (hA.ext x4) o4.bts (fun _=>BU ob4 (by have:=hA.lt;omega))) ?_
 rintro _ w5 ⟨q5,h5⟩
 have B5:=(B2.ext x4).other q5 ne23
 have E5:=(E3.trans x4).of_new q5 hw3
 refine ag (ab ?_)
 have hp:it m.length<64:=by unfold it;omega
 refine af (eZ (fun _:Unit=>[(2,.pointer (some ⟨g2,0,none⟩)),(3,.pointer (some ⟨g3,0,none⟩)),(4,bI (UInt64.ofNat m.length*8))]) (fun _ w'=>aN w w'∧cr g2 24 ((List.replicate 32 0).map U8) w'∧∃tot,HA g3 (m++[128]++List.replicate (it m.length) 0) tot w') ?_ ?_)
 ·refine aH ?_
  refine cm (α:=Nat) (fun _=>[(2,.pointer (some ⟨g2,0,none⟩)),(3,.pointer (some ⟨g3,0,none⟩)),(4,bI (UInt64.ofNat m.length*8))])
   (fun k w'=>aN w w'∧cr g2 24 ((List.replicate 32 0).map U8) w'∧(∃tot,HA g3 (m++[128]++List.replicate k 0) tot w')∧k≤it m.length) (fun k=>it m.length-k) 0 ⟨rfl,rfl,rfl,trivial⟩
   ⟨E5,B5,⟨_,by simpa using h5⟩,by omega⟩ ?_
  rintro k w6 ⟨E6,B6,⟨tot,h6⟩,hk⟩
  obtain⟨blk6,hc6,ht6⟩:=id h6
  have hm:(m++[128]++List.replicate k 0).length=m.length+1+k:=by simp;omega
  refine af (af (aa ?_))
  refine ah E E F5 ?_
  refine ak E E (aj Mb E hc6.cellU) ?_
  refine al E E E (cC) ?_
  refine ag (ab ?_)
  rw[hm]
  refine bw E (fun h=>?_) (fun h=>?_)
  ·have hlt:k<it m.length:=by
    rcases Nat.lt_or_ge k (it m.length) with h1|h1
    ·exact h1
    ·have:k=it m.length:=by omega
     subst this
     exfalso
     unfold it at h
     omega
   refine aC (ab (aH (aa ?_)))
   obtain⟨r7,w7,hr,x7,o7,ob7⟩:=dX (w:=w6) w6.heap.size [0] (by simp) (Nat.le_refl _)
   refine aK (vs:=[(0,U8 0)]) E E hr ?_
   refine an gC E E (gD (h6.ext x7) o7.bts (fun _=>BU ob7 (by have:=h6.lt;omega))) ?_
   rintro _ w8 ⟨q8,h8⟩
   refine ag (aS ?_)
   rw[List.append_assoc _ (List.replicate k 0) [0],←List.replicate_succ'] at h8
   exact bT (k+1) ⟨rfl,rfl,rfl,trivial⟩ ⟨(E6.trans x7).of_new q8 hw3,(B6.ext x7).other q8 ne23,⟨_,h8⟩,hlt⟩ (by omega)
  ·have hk':k=it m.length:=by
    unfold it at hk hp⊢
    omega
   subst hk'
   exact bg (aJ (aJ (bh (ct () ⟨rfl,rfl,rfl,trivial⟩ ⟨E6,B6,tot,h6⟩))))
 rintro _ w6 ⟨E6,B6,tot6,h6⟩
 refine ab (af (aa ?_))
 obtain⟨bits,hbits⟩:∃b,b=UInt64.ofNat m.length*8:=⟨_,rfl⟩
 rw[←hbits]
 have hb8:=Ax bits
 obtain⟨g5,w7,hr,n5,x7,b7⟩:=aX (P:=Tryz.prog) (w:=w6) (l:=(fL (BH bits) 8 0).map U8) KQ rfl
 refine aV E hr (ag (ab ?_))
 have l35:g3<g5:=Nat.lt_of_lt_of_le h6.lt n5
 have ne25:some g2≠some g5:=fun h=>by cases h;omega
 have ne35:some g3≠some g5:=fun h=>by cases h;omega
 refine af (eZ (fun _:Unit=>[(2,.pointer (some ⟨g2,0,none⟩)),(3,.pointer (some ⟨g3,0,none⟩)),(5,.pointer (some ⟨g5,0,none⟩))]) (fun _ w'=>w7.grownBy w' (some g5)∧cr g5 155 ((BH bits).map U8) w') ?_ ?_)
 ·refine af (aa (ae E E (ag (ab (aH ?_)))))
  refine cm (α:=Nat) (fun i=>[(2,.pointer (some ⟨g2,0,none⟩)),(3,.pointer (some ⟨g3,0,none⟩)),(4,bI bits),(5,.pointer (some ⟨g5,0,none⟩)),(27,I (i:Int))])
   (fun i w'=>w7.grownBy w' (some g5)∧cr g5 155 ((fL (BH bits) 8 i).map U8) w'∧i≤8) (fun i=>8-i) 0 ⟨rfl,rfl,rfl,rfl,rfl,trivial⟩
   ⟨dH (aN.refl _),b7,by omega⟩ ?_
  rintro i w8 ⟨q8,b8,hi⟩
  refine af (aa ?_)
  refine al E E E (bc) ?_
  refine ag (ab (af ?_))
  refine bw E (fun h=>?_) (fun h=>?_)
  ·have hi8:i<8:=by omega
   have hfl:=kA (j:=i) hb8 (by omega)
   have e6:(56:Int)-8*(i:Int)=((56-8*i:Nat):Int):=by omega
   refine aC (ab (af (aH (af (aa (ae E E (ac E E (ag (ab (aa (ae E E (ae E E (ae E E ?_)))))))))))))
   refine al E E E (fB (by omega) (by omega)) ?_
   refine al (r:=I ((56-8*i:Nat):Int)) E E E (by rw[←e6];exact bG (by omega) (by omega)) ?_
   refine al E E E (dD (56-8*i) (by omega)) ?_
   refine aY E E (mh Mc Mf) ?_
   refine ax E E E (KR i hi8) ?_
   refine aq E E (yU b8 i (by omega)) ?_
   have b9:=b8.setB i (bits>>>UInt64.ofNat (56-8*i)).toUInt8
   have hset:(fL (BH bits) 8 i).set i (bits>>>UInt64.ofNat (56-8*i)).toUInt8=fL (BH bits) 8 (i+1):=by
    rw[←Jg bits hi8]
    exact kB hb8 hi8
   rw[hset] at b9
   refine ag (aS (ab (aa ?_)))
   refine al E E E (aP (by omega) (by omega)) ?_
   refine ae E E (ag ?_)
   exact bT (i+1) ⟨rfl,rfl,rfl,rfl,rfl,trivial⟩ ⟨q8.trans (bm w8 g5 i _),b9,by omega⟩ (by omega)
  ·have hi':i=8:=by omega
   subst hi'
   rw[tY hb8] at b8
   exact bg (aJ (aJ (bh (ct () ⟨rfl,rfl,rfl,trivial⟩ ⟨q8,b8⟩))))
 rintro _ w8 ⟨q8,b8⟩
 have E8:aN w w8:=(E6.trans x7).of_new q8 (by omega)
 have B8:=(B6.ext x7).other q8 ne25
 have h8:=(h6.ext x7).other q8 ne35
 refine ab (af (aa ?_))
 refine cJ (a:=none) (b:=none) E E E E E KS ?_
 have bt8:=b8.bts (by omega)
 rw[hb8] at bt8
 refine an gC rfl rfl (gD h8 bt8 (by rintro _ a n c he;cases he;show g5≠g3;omega)) ?_
 rintro _ w9 ⟨q9,h9⟩
 have hpad:m++[128]++List.replicate (it m.length) 0++BH bits=fc m:=by rw[hbits];rfl
 rw[hpad] at h9
 have E9:=E8.of_new q9 hw3
 have B9:=B8.other q9 ne23
 refine ag (ab (af (aa ?_)))
 obtain⟨g7,w10,hr,n7,x10,b10⟩:=aX (P:=Tryz.prog) (w:=w9) (l:=(fL (jx m) 32 0).map U8) fW rfl
 refine aV E hr (ag (ab ?_))
 obtain⟨blk9,hc9,_⟩:=h9.ext x10
 have l37:g3<g7:=Nat.lt_of_lt_of_le h9.lt n7
 have ne27:some g2≠some g7:=fun h=>by cases h;omega
 have hs8:=Ht (fc m)
 have hdl:=dg m
 refine af (eZ (fun _:Unit=>[(2,.pointer (some ⟨g2,0,none⟩)),(7,.pointer (some ⟨g7,0,none⟩))]) (fun _ w'=>w10.grownBy w' (some g7)∧cr g7 24 ((jx m).map U8) w') ?_ ?_)
 ·refine af (aa ?_)
  refine ah E E Jc ?_
  refine ak E E hc9.ldS ?_
  refine ae E E (ag (ab (aH ?_)))
  refine cm (α:=Nat) (fun i=>[(2,.pointer (some ⟨g2,0,none⟩)),(7,.pointer (some ⟨g7,0,none⟩)),(42,.agg ((sh (fc m)).map bJ).toArray),(43,I (i:Int))])
   (fun i w'=>w10.grownBy w' (some g7)∧cr g7 24 ((fL (jx m) 32 (4*i)).map U8) w'∧i≤8) (fun i=>8-i) 0 ⟨rfl,rfl,rfl,rfl,trivial⟩
   ⟨dH (aN.refl _),b10,by omega⟩ ?_
  rintro i w11 ⟨q11,b11,hi⟩
  refine af (aa ?_)
  refine al E E E (bc) ?_
  refine ag (ab (af ?_))
  refine bw E (fun h=>?_) (fun h=>?_)
  ·have hi8:i<8:=by omega
   have e0:(4:Int)*(i:Int)=((4*i:Nat):Int):=by omega
   have e1:((4*i:Nat):Int)+1=((4*i+1:Nat):Int):=by omega
   have e2:((4*i:Nat):Int)+2=((4*i+2:Nat):Int):=by omega
   have e3:((4*i:Nat):Int)+3=((4*i+3:Nat):Int):=by omega
   have s0:=kA (j:=4*i) hdl (by omega)
   have s1:=kA (j:=4*i+1) hdl (by omega)
   have s2:=kA (j:=4*i+2) hdl (by omega)
   have s3:=kA (j:=4*i+3) hdl (by omega)
   refine aC (ab (af (aH (af (aa (ae E E ?_))))))
   refine nh E E E (GH (l:=(sh (fc m)).map bJ) Mz eB L7 hi8 .i64 (xm (by omega))) ?_
   refine ac E E (ac E E (ag (ab (aa (ae E E ?_)))))
   refine al (r:=I ((4*i:Nat):Int)) E E E (by rw[←e0];exact fB (by omega) (by omega)) ?_
   refine ae E E ?_
   refine al (r:=I ((4*i:Nat):Int)) E E E (by rw[←e0];exact fB (by omega) (by omega)) ?_
   refine al (r:=I ((4*i+1:Nat):Int)) E E E (by rw[←e1];exact aP (by omega) (by omega)) ?_
   refine ae E E ?_
   refine al (r:=I ((4*i:Nat):Int)) E E E (by rw[←e0];exact fB (by omega) (by omega)) ?_
   refine al (r:=I ((4*i+2:Nat):Int)) E E E (by rw[←e2];exact aP (by omega) (by omega)) ?_
   refine ae E E ?_
   refine al (r:=I ((4*i:Nat):Int)) E E E (by rw[←e0];exact fB (by omega) (by omega)) ?_
   refine al (r:=I ((4*i+3:Nat):Int)) E E E (by rw[←e3];exact aP (by omega) (by omega)) ?_
   refine ae E E ?_
   refine al E E E (cY 24 (by omega)) ?_
   refine aY E E (ej L7 Mf) ?_
   refine ae E E ?_
   refine al E E E (cY 16 (by omega)) ?_
   refine aY E E (ej L7 Mf) ?_
   refine ae E E ?_
   refine al E E E (cY 8 (by omega)) ?_
   refine aY E E (ej L7 Mf) ?_
   refine ae E E ?_
   refine aY E E (ej L7 Mf) ?_
   have d0:(jx m).getD (4*i) 0=((sh (fc m)).getD i 0>>>UInt32.ofNat 24).toUInt8:=mW (sh (fc m)) i 0 (by omega) (by omega)
   have d1:(jx m).getD (4*i+1) 0=((sh (fc m)).getD i 0>>>UInt32.ofNat 16).toUInt8:=mW (sh (fc m)) i 1 (by omega) (by omega)
   have d2:(jx m).getD (4*i+2) 0=((sh (fc m)).getD i 0>>>UInt32.ofNat 8).toUInt8:=mW (sh (fc m)) i 2 (by omega) (by omega)
   have d3:(jx m).getD (4*i+3) 0=((sh (fc m)).getD i 0).toUInt8:=by
    have:=mW (sh (fc m)) i 3 (by omega) (by omega)
    rw[show UInt32.ofNat (24-8*3)=0 from rfl,UInt32.shiftRight_zero] at this
    exact this
   have f0:(fL (jx m) 32 (4*i)).set (4*i) ((jx m).getD (4*i) 0)=fL (jx m) 32 (4*i+1):=kB hdl (by omega)
   have f1:(fL (jx m) 32 (4*i+1)).set (4*i+1) ((jx m).getD (4*i+1) 0)=fL (jx m) 32 (4*i+2):=kB hdl (by omega)
   have f2:(fL (jx m) 32 (4*i+2)).set (4*i+2) ((jx m).getD (4*i+2) 0)=fL (jx m) 32 (4*i+3):=kB hdl (by omega)
   have f3:(fL (jx m) 32 (4*i+3)).set (4*i+3) ((jx m).getD (4*i+3) 0)=fL (jx m) 32 (4*(i+1)):=kB hdl (by omega)
   rw[d0] at f0
   rw[d1] at f1
   rw[d2] at f2
   rw[d3] at f3
   refine ax E E E (xl (4*i) (by omega)) ?_
   refine aq E E (yU b11 (4*i) (by omega)) ?_
   have b12:=b11.setB (4*i) ((sh (fc m)).getD i 0>>>UInt32.ofNat 24).toUInt8
   rw[f0] at b12
   refine ax E E E (xl (4*i+1) (by omega)) ?_
   refine aq E E (yU b12 (4*i+1) (by omega)) ?_
   have b13:=b12.setB (4*i+1) ((sh (fc m)).getD i 0>>>UInt32.ofNat 16).toUInt8
   rw[f1] at b13
   refine ax E E E (xl (4*i+2) (by omega)) ?_
   refine aq E E (yU b13 (4*i+2) (by omega)) ?_
   have b14:=b13.setB (4*i+2) ((sh (fc m)).getD i 0>>>UInt32.ofNat 8).toUInt8
   rw[f2] at b14
   refine ax E E E (xl (4*i+3) (by omega)) ?_
   refine aq E E (yU b14 (4*i+3) (by omega)) ?_
   have b15:=b14.setB (4*i+3) ((sh (fc m)).getD i 0).toUInt8
   rw[f3] at b15
   refine ag (aS (ab (aa ?_)))
   refine al E E E (aP (by omega) (by omega)) ?_
   refine ae E E (ag ?_)
   exact bT (i+1) ⟨rfl,rfl,rfl,rfl,trivial⟩ ⟨(((q11.trans (bm _ g7 (4*i) _)).trans (bm _ g7 (4*i+1) _)).trans (bm _ g7 (4*i+2) _)).trans (bm _ g7 (4*i+3) _),b15,by omega⟩ (by omega)
  ·have hi':i=8:=by omega
   subst hi'
   rw[show 4*8=32 from rfl,tY hdl] at b11
   exact bg (aJ (aJ (bh (ct () ⟨rfl,rfl,trivial⟩ ⟨q11,b11⟩))))
 rintro _ w11 ⟨q11,b11⟩
 have hsz:(Tryz.prog.info? 24).map (·.size)=some ((jx m).map U8).length:=by rw[List.length_map,dg];exact iZ
 have F2:=(B9.ext x10).other q11 ne27
 have E11:aN w w11:=(E9.trans x10).of_new q11 (by omega)
 refine ab (af (aa ?_))
 refine ak E E (oA (m:=(jx m).map U8) b11 (fun j v h=>by rwa [Nat.zero_add]) Mm E hsz) ?_
 refine aq E E (jV F2 (by simp[dg]) hsz (sS _)) ?_
 refine ag (ab (au ?_))
 refine dv E E (F2.row _) Mm E hsz ?_
 exact⟨_,rfl,E11.of_new (bP _ _ _) n2,rfl⟩
end Go.Rl
namespace Go.Rl
open Go.RowKit Go.Proofs
theorem BV {P:Program} {w:World} {t:TypeId} {x y:Operand} {a b:Array Value} (hg:P.eqGuardType P.depth t=false):(bin .neq t x y (.agg a) (.agg b)).run P w=(do pure (Value.bool (!(←Op.equal t (.agg a) (.agg b)))):Sem Value).run P w:=by
 show(do eqGuard .neq t x y (.agg a) (.agg b);binOp .neq t (.agg a) (.agg b):Sem Value).run P w=_
 rw[Sem.run_bind,run_eqGuard_agg (hm:=hg)]
 rfl
theorem y5:aG Tryz.prog 52:=⟨_,Tryz.func52,by kernel_rfl,rfl⟩
theorem cn.old {l:List UInt8} {v:Value} {w:World} (h:cn l v w) {g:Nat} (hg:w.heap.size≤g):0<l.length→AA g v:=fun h0 a n c he=>by
 obtain⟨A,n',c',rfl,h1,h2,h3,h4,h5⟩:=h
 have hn:l.length=n':=by simpa using h3
 obtain⟨ad,rfl,hc⟩:=h4 (by omega)
 simp only[Value.slice.injEq,Option.some.injEq] at he
 obtain⟨rfl,_,_⟩:=he
 have h6:=hc 0 (U8 l[0]) (by simp[h0])
 rw[jC] at h6
 have:ad.block<w.heap.size:=by
  rcases Nat.lt_or_ge ad.block w.heap.size with h7|h7
  ·exact h7
  ·simp[World.cell?,Array.getElem?_eq_none h7] at h6
 omega
end Go.Rl
namespace Go.Rl
open Go.RowKit Go.Proofs
theorem y8 {w:World} {l:List UInt8} {v:Value} (hv:cn l v w):
 Calls Tryz.prog 52 #[v] w (bE fun r w'=>aN w w'∧r=.agg ((jx l).map U8).toArray):=by
 refine enter (vs:=[v]) Tryz.func52 E E E ?_
 obtain⟨g2,w1,hr,n2,x1,b2⟩:=aX (P:=Tryz.prog) (w:=w) (l:=(List.replicate 32 0).map U8) fW rfl
 refine af (aa (aV E hr (ag (ab (af (aa ?_))))))
 refine an (vs:=[]) yW E E (yX w1) ?_
 rintro _ w2 ⟨x2,g,hg,rfl,hA⟩
 refine ac E E (ag (ab (af (aa (ae E E (ae E E ?_))))))
 have e2:=x1.trans x2
 refine an gC E E (gD hA (hv.ext e2) (hv.old (Nat.le_trans x1.size hg))) ?_
 rintro _ w3 ⟨q3,h3⟩
 rw[List.nil_append,UInt64.zero_add] at h3
 have l2:g2<g:=Nat.lt_of_lt_of_le b2.lt hg
 have hwg:w.heap.size≤g:=by omega
 have e3:=e2.of_new q3 hwg
 have B3:=(b2.ext x2).other q3 (fun h=>by cases h;omega)
 refine ag (ab (af (aa (ae E E ?_))))
 refine an yY E E (yZ h3) ?_
 rintro _ w4 ⟨x4,rfl⟩
 have hsz:(Tryz.prog.info? 24).map (·.size)=some ((jx l).map U8).length:=by rw[List.length_map,dg];exact iZ
 have B4:=B3.ext x4
 refine aq E E (jV B4 (by simp[dg]) hsz (sS _)) ?_
 refine ag (ab (au ?_))
 refine dv E E (B4.row _) Mm E hsz ?_
 exact⟨_,rfl,(e3.trans x4).of_new (bP _ _ _) n2,rfl⟩
end Go.Rl
namespace Go.Rl
open Go.RowKit
def oo:List UInt8:=List.replicate 32 0
theorem BW {α:Type} {p:α→Bool} {l:List α} {i:Nat} (hi:i<l.length):(l.drop i).all p=(p l[i]&&(l.drop (i+1)).all p):=by
 rw[List.drop_eq_getElem_cons hi];rfl
end Go.Rl
namespace Go.Rl
open Go.RowKit
end Go.Rl
namespace Go.Rl
open Go.RowKit Go.Proofs
theorem EC {w:World} {l:List UInt8} {v:Value} (h:cn l v w) (hl:l.length=32):∃ad,(∀w':World,(Instr.arrayAt 24 v).run Tryz.prog w'=.ok (.pointer (some ad)) w')∧ey w ad (l.map U8):=by
 obtain⟨A,n,c,rfl,h1,h2,h3,h4,h5⟩:=h
 have hn:n=32:=by simp at h3;omega
 subst hn
 obtain⟨ad,rfl,hc⟩:=h4 (by omega)
 exact⟨ad,fun w'=>by simp[Instr.arrayAt,run_underlying Tryz.underlying24],hc⟩
theorem u5 {w:World} {l:List UInt8} {ad:Addr} (h:ey w ad (l.map U8)) (hl:l.length=32):(Instr.loadAt 24 (.pointer (some ad))).run Tryz.prog w=.ok (.agg (l.map U8).toArray) w:=
 h.ld Mm rfl (by rw[List.length_map,hl];exact iZ)
end Go.Rl
namespace Go.Rl
open Go.RowKit Go.Proofs
theorem uF:aG Tryz.prog 71:=⟨_,Tryz.func71,by kernel_rfl,rfl⟩
theorem Dm:aG Tryz.prog 70:=⟨_,Tryz.func70,by kernel_rfl,rfl⟩
theorem BX:aG Tryz.prog 27:=⟨_,Tryz.func27,by kernel_rfl,rfl⟩
section
variable {w:World}
theorem ey.ldO {P:Program} {t:TypeId} {d:TypeDesc} {ad:Addr} {cs ms:List Value} {o:Nat} (h:ey w ad cs) (hm:∀j v,ms[j]? =some v→cs[o+j]? =some v) (ht:P.underlying t=some d) (hd:d.isRow=true) (hz:(P.info? t).map (·.size)=some ms.length):(Instr.loadAt t (.pointer (some (ad.add o)))).run P w=.ok (.agg ms.toArray) w:=
 ey.ld (ad:=ad.add o) (fun j u hu=>by rw[zH];exact h (o+j) u (hm j u hu)) ht hd hz
end
theorem ED {P:Program} {w:World} {x y:Operand} {t:TypeId} (ht:P.underlying t=some .bool) {a b:Bool}:(bin .neq t x y (B a) (B b)).run P w=.ok (B (decide (a≠b))) w:=by
 have h:(Op.equal t (B a) (B b)).run P w=.ok (decide (a=b)) w:=by
  show(Op.equalIn (9999+1) t (.bool a) (.bool b)).run P w=_
  unfold Op.equalIn
  cases a<;>cases b<;>simp[run_underlying ht]
 show(do pure (Value.bool (!(←Op.equal t (B a) (B b)))):Sem Value).run P w=_
 rw[Sem.run_bind,h]
 show Result.ok (Value.bool (!decide (a=b))) w=_
 rw[←decide_not];rfl
theorem HZ:Tryz.prog.eqGuardType Tryz.prog.depth 185=false:=by kernel_rfl
theorem Jh {w:World} {x y:Operand} {a b c d:Int}:(bin .neq 185 x y (.agg #[I a,I b,I c,I d]) (.agg #[I a,I b,I c,I d])).run Tryz.prog w=.ok (B false) w:=by
 have h:(Op.equal 185 (.agg #[I a,I b,I c,I d]) (.agg #[I a,I b,I c,I d])).run Tryz.prog w=.ok true w:=by
  show(Op.equalIn (9999+1) 185 _ _).run Tryz.prog w=_
  rw[run_equalIn_struct w 9999 185 _ _ (by kernel_rfl) (by kernel_rfl)]
  simp only[Program.fieldsOf,Tryz.underlying185]
  simp[Op.eqFields,part,I,Tryz.underlying3,run_equalIn_int _ 9998 3 .i64 .i64]
 rw[BV HZ,Sem.run_bind,h];rfl
theorem uG {w:World} {l:List cg} {v u:Value} (hv:cu bK l v w) (hu:cu bK l u w):
 Calls Tryz.prog 71 #[v,u] w (bE fun r w'=>aN w w'∧r=B true):=by
 refine enter (vs:=[v,u]) Tryz.func71 E E E ?_
 have hll:=hv.len
 refine af (aa (ac E E (ag (ab (af (af (aa (ae E E (aQ E E (be Mj hv) (ae E E (aQ E E (be Mj hu) ?_)))))))))))
 refine al E E E (cW (fun h=>h E) cC) (ag (ab (cp E (aC (ab (af (af (aa (ac E E (ag (ab (aH ?_))))))))))))
 refine cm (α:=Nat) (fun x=>[(0,v),(1,u),(5,I (x:Int))]) (fun x w'=>aN w w'∧x≤l.length) (fun x=>l.length-x) (0) ⟨rfl,rfl,rfl,trivial⟩ ⟨aN.refl _,by omega⟩ ?_
 rintro i w4 ⟨e4,hi⟩
 refine af (af (aa (ae E E (ae E E (aQ E E (be Mj (hv.ext e4)) (al E E E (bc) (ag (ab ?_))))))))
 refine bw E (fun h14=>?_) (fun h14=>?_)
 ·refine aC (ab (af (aH (af (bO 24 [0,1,5,28,40] (by kernel_rfl) (by kernel_rfl) ?_)))))
  refine aD E E (aD E E ?_)
  obtain⟨a19,c19,p19,q19,h19⟩:=cf (P:=Tryz.prog) (sz:=7) Mj (by kernel_rfl) dB (by omega) (hv.ext e4) (i:=i) (by omega) .i64
  obtain⟨e19,he19⟩:∃e,e=l[i]'(by omega):=⟨_,rfl⟩
  rw[←he19] at h19
  obtain⟨x19_0,x19_1,rfl,f19_0,f19_1⟩:=gO h19
  refine aF rfl rfl rfl (fun w _=>p19 w) (aW rfl rfl (fun w hw=>gU (o:=0) Tryz.underlying187 rfl (by kernel_rfl) rfl) (aO rfl rfl (fun w hw=>(q19.ext hw).ldO (ms:=[I e19.kd,I e19.ix,I e19.lo,I e19.hi]) (o:=0) (fun j v hj=>by rcases j with _|_|_|_|_|_|_|_|_|j<;>simp_all) Tryz.underlying185 rfl (by kernel_rfl)) ?_))
  refine aD E E (aD E E ?_)
  obtain⟨a24,c24,p24,q24,h24⟩:=cf (P:=Tryz.prog) (sz:=7) Mj (by kernel_rfl) dB (by omega) (hu.ext e4) (i:=i) (by omega) .i64
  rw[←he19] at h24
  obtain⟨x24_0,x24_1,rfl,f24_0,f24_1⟩:=gO h24
  refine aF rfl rfl rfl (fun w _=>p24 w) (aW rfl rfl (fun w hw=>gU (o:=0) Tryz.underlying187 rfl (by kernel_rfl) rfl) (aO rfl rfl (fun w hw=>(q24.ext hw).ldO (ms:=[I e19.kd,I e19.ix,I e19.lo,I e19.hi]) (o:=0) (fun j v hj=>by rcases j with _|_|_|_|_|_|_|_|_|j<;>simp_all) Tryz.underlying185 rfl (by kernel_rfl)) ?_))
  refine bb E E E (fun w _=>Jh) (aD E E (bz E E (aD E E (bz E E (aD E E (bz E E ?_))))))
  obtain⟨a31,c31,p31,q31,h31⟩:=cf (P:=Tryz.prog) (sz:=7) Mj (by kernel_rfl) dB (by omega) (hv.ext e4) (i:=i) (by omega) .i64
  rw[←he19] at h31
  obtain⟨x31_0,x31_1,rfl,f31_0,f31_1⟩:=gO h31
  refine aF E E E (fun w _=>p31 w) (bz E E (aW E E (fun w hw=>gU (o:=4) Mr E (by kernel_rfl) E) ?_))
  refine bz rfl rfl (aO rfl rfl (fun w hw=>(q31.ext hw).ldO (ms:=[B e19.co.1,x31_0,x31_1]) (o:=4) (fun j v hj=>by rcases j with _|_|_|_|_|_|_|_|_|j<;>simp_all) Tryz.underlying46 rfl (by kernel_rfl)) ?_)
  refine bz E E (aD E E (bz E E (aD E E (bz E E ?_))))
  obtain⟨a36,c36,p36,q36,h36⟩:=cf (P:=Tryz.prog) (sz:=7) Mj (by kernel_rfl) dB (by omega) (hu.ext e4) (i:=i) (by omega) .i64
  rw[←he19] at h36
  obtain⟨x36_0,x36_1,rfl,f36_0,f36_1⟩:=gO h36
  refine aF E E E (fun w _=>p36 w) (bz E E (aW E E (fun w hw=>gU (o:=4) Mr E (by kernel_rfl) E) ?_))
  refine bz rfl rfl (aO rfl rfl (fun w hw=>(q36.ext hw).ldO (ms:=[B e19.co.1,x36_0,x36_1]) (o:=4) (fun j v hj=>by rcases j with _|_|_|_|_|_|_|_|_|j<;>simp_all) Tryz.underlying46 rfl (by kernel_rfl)) ?_)
  refine bz rfl rfl (ca (S:=Is (B true)) nw (cd.is _) rfl (fun w hw=>by rintro _ rfl _ rfl;exact bE.mono (Di (a:=e19.co) (b:=e19.co) (f31_0.ext hw) (f31_1.ext hw) (f36_0.ext hw) (f36_1.ext hw)) fun v w' h=>⟨h.1,by rw[h.2,decide_eq_true rfl];rfl⟩) ?_)
  refine bz E E (vw E E (fun w _=>bu) (cq ?_))
  intro wg6 xg6
  rintro _ hq0
  obtain rfl:=Eq.symm hq0
  rintro _ hq1
  obtain rfl:=Eq.symm hq1
  rintro _ rfl
  rintro _ rfl
  rintro _ rfl
  refine aE E E E (ag (ab (cp E (aC (aS (ab (aa (ae E E (al (r:=I ((i+1:Nat):Int)) E E E (by have e:((i+1:Nat):Int)=(i:Int)+1:=(by omega);rw[e];exact aP (by omega) (by omega)) ?_)))))))))
  refine ac E E (ag ?_)
  refine bT (i+1) ⟨rfl,rfl,rfl,trivial⟩ ⟨(e4.trans xg6),by omega⟩ (by omega)
 ·refine bg (aJ (aJ (bh (ab (af (aa (ac E E (ag (ab (au (aA E E ?_)))))))))))
  exact⟨_,rfl,e4,rfl⟩
theorem BY {w:World} {a:fj} {x y p q:Value} (ha:bt a.2.1 x w) (ha':bt a.2.2 y w) (hb:bt a.2.1 p w) (hb':bt a.2.2 q w):
 Calls Tryz.prog 105 #[.agg #[B a.1,x,y],.agg #[B a.1,p,q]] w (bE fun r w'=>aN w w'∧r=B true):=
 bE.mono (Di (a:=a) (b:=a) ha ha' hb hb') fun v w' h=>⟨h.1,by rw[h.2,decide_eq_true rfl]⟩
theorem F8 {w:World} {a:bV} {x y p q:Value} (ha:bt a.at_.2.1 x w) (ha':bt a.at_.2.2 y w) (hb:bt a.at_.2.1 p w) (hb':bt a.at_.2.2 q w):
 Calls Tryz.prog 69 #[.agg #[I a.kd,I a.ix,B a.at_.1,x,y],.agg #[I a.kd,I a.ix,B a.at_.1,p,q]] w (bE fun r w'=>aN w w'∧r=B true):=
 bE.mono (tW (a:=a) (b:=a) ha ha' hb hb') fun v w' h=>⟨h.1,by rw[h.2,decide_eq_true rfl]⟩
set_option maxHeartbeats 2000000 in
theorem Dn {w:World} {l:List dI} {v u:Value} (hv:cu cV l v w) (hu:cu cV l u w):
 Calls Tryz.prog 70 #[v,u] w (bE fun r w'=>aN w w'∧r=B true):=by
 refine enter (vs:=[v,u]) Tryz.func70 E E E ?_
 have hll:=hv.len
 refine af (aa (ac E E (ag (ab (af (af (aa (ae E E (aQ E E (be Mi hv) (ae E E (aQ E E (be Mi hu) ?_)))))))))))
 refine al E E E (cW (fun h=>h E) cC) (ag (ab (cp E (aC (ab (af (af (aa (ac E E (ag (ab (aH ?_))))))))))))
 refine cm (α:=Nat) (fun x=>[(0,v),(1,u),(5,I (x:Int))]) (fun x w'=>aN w w'∧x≤l.length) (fun x=>l.length-x) (0) ⟨rfl,rfl,rfl,trivial⟩ ⟨aN.refl _,by omega⟩ ?_
 rintro i w4 ⟨e4,hi⟩
 refine af (af (aa (ae E E (ae E E (aQ E E (be Mi (hv.ext e4)) (al E E E (bc) (ag (ab ?_))))))))
 refine bw E (fun h14=>?_) (fun h14=>?_)
 ·refine aC (ab (af (aH (af (bO 51 [0,1,5,55,67] (by kernel_rfl) (by kernel_rfl) ?_)))))
  refine aD (S:=Is (v)) E E (aD (S:=Is (I (i:Int))) E E ?_)
  obtain⟨a19,c19,p19,q19,h19⟩:=cf (P:=Tryz.prog) (sz:=6) Mi (by kernel_rfl) cG (by omega) (hv.ext e4) (i:=i) (by omega) .i64
  obtain⟨e19,he19⟩:∃e,e=l[i]'(by omega):=⟨_,rfl⟩
  rw[←he19] at h19
  obtain⟨x19_0,x19_1,x19_2,rfl,f19_0,f19_1,f19_2⟩:=fH h19
  refine aF E E E (fun w _=>p19 w) (aW E E (fun w hw=>gU (o:=0) Mk E (by kernel_rfl) E) ?_)
  refine aO E E (fun w hw=>aj Mb E (hw.cell_some (q19.at (j:=0) E))) (aD (S:=Is (u)) E E (aD (S:=Is (I (i:Int))) E E ?_))
  obtain⟨a24,c24,p24,q24,h24⟩:=cf (P:=Tryz.prog) (sz:=6) Mi (by kernel_rfl) cG (by omega) (hu.ext e4) (i:=i) (by omega) .i64
  rw[←he19] at h24
  obtain⟨x24_0,x24_1,x24_2,rfl,f24_0,f24_1,f24_2⟩:=fH h24
  refine aF E E E (fun w _=>p24 w) (aW E E (fun w hw=>gU (o:=0) Mk E (by kernel_rfl) E) ?_)
  refine aO E E (fun w hw=>aj Mb E (hw.cell_some (q24.at (j:=0) E))) (bb E E E (fun w _=>cW (fun h=>h E) cC) ?_)
  refine aD (S:=Is (B false)) E E (bz E E (aD (S:=Is (v)) E E (bz E E (aD (S:=Is (I (i:Int))) E E (bz E E (aF E E E (fun w _=>p19 w) ?_))))))
  refine bz E E (aW E E (fun w hw=>gU (o:=1) Mk E (by kernel_rfl) E) (bz E E (aO E E (fun w hw=>aj Me E (hw.cell_some (q19.at (j:=1) E))) ?_)))
  refine bz E E (aD (S:=Is (u)) E E (bz E E (aD (S:=Is (I (i:Int))) E E (bz E E (aF E E E (fun w _=>p24 w) (bz E E ?_))))))
  refine aW E E (fun w hw=>gU (o:=1) Mk E (by kernel_rfl) E) (bz E E (aO E E (fun w hw=>aj Me E (hw.cell_some (q24.at (j:=1) E))) ?_))
  refine bz E E (bb E E E (fun w _=>cW (fun h=>h E) (ED Me)) (vv (S:=Is (B false)) E E E (aD (S:=Is (B false)) E E ?_)))
  refine bz E E (aD (S:=Is (v)) E E (bz E E (aD (S:=Is (I (i:Int))) E E (bz E E (aF E E E (fun w _=>p19 w) (bz E E ?_))))))
  refine aW rfl rfl (fun w hw=>gU (o:=2) Tryz.underlying173 rfl (by kernel_rfl) rfl) (bz rfl rfl (aO rfl rfl (fun w hw=>(q19.ext hw).ldO (ms:=[B e19.va.1,x19_0,x19_1]) (o:=2) (fun j v hj=>by rcases j with _|_|_|_|_|_|_|_|_|j<;>simp_all) Tryz.underlying46 rfl (by kernel_rfl)) ?_))
  refine bz E E (aD (S:=Is (u)) E E (bz E E (aD (S:=Is (I (i:Int))) E E (bz E E (aF E E E (fun w _=>p24 w) (bz E E ?_))))))
  refine aW rfl rfl (fun w hw=>gU (o:=2) Tryz.underlying173 rfl (by kernel_rfl) rfl) (bz rfl rfl (aO rfl rfl (fun w hw=>(q24.ext hw).ldO (ms:=[B e19.va.1,x24_0,x24_1]) (o:=2) (fun j v hj=>by rcases j with _|_|_|_|_|_|_|_|_|j<;>simp_all) Tryz.underlying46 rfl (by kernel_rfl)) ?_))
  refine bz rfl rfl (ca (S:=Is (B true)) nw (cd.is _) rfl (fun w hw=>by rintro _ rfl _ rfl;exact BY (a:=e19.va) (f19_0.ext hw) (f19_1.ext hw) (f24_0.ext hw) (f24_1.ext hw)) ?_)
  refine bz E E (vw E E (fun w _=>bu) (vv (S:=Is (B false)) E E E (aD (S:=Is (B false)) E E (bz E E (aD (S:=Is (v)) E E ?_)))))
  refine bz E E (aD (S:=Is (I (i:Int))) E E (bz E E (aF E E E (fun w _=>p19 w) (bz E E (aW E E (fun w hw=>gU (o:=5) Mk E (by kernel_rfl) E) ?_)))))
  refine bz E E (aO E E (fun w hw=>aj Mj E (hw.cell_some (q19.at (j:=5) E))) (bz E E (aD (S:=Is (u)) E E ?_)))
  refine bz E E (aD (S:=Is (I (i:Int))) E E (bz E E (aF E E E (fun w _=>p24 w) (bz E E (aW E E (fun w hw=>gU (o:=5) Mk E (by kernel_rfl) E) ?_)))))
  refine bz rfl rfl (aO rfl rfl (fun w hw=>aj Mj rfl (hw.cell_some (q24.at (j:=5) rfl))) (bz rfl rfl (ca (S:=Is (B true)) uF (cd.is _) rfl (fun w hw=>by rintro _ rfl _ rfl;exact uG (l:=e19.pf) (f19_2.ext hw) (f24_2.ext hw)) ?_)))
  refine bz E E (vw E E (fun w _=>bu) (cq ?_))
  intro wg6 xg6
  rintro _ hq0
  obtain rfl:=Eq.symm hq0
  rintro _ hq1
  obtain rfl:=Eq.symm hq1
  rintro _ rfl
  rintro _ rfl
  rintro _ rfl
  refine aE E E E (ag (ab (cp E (aC (aS (ab (aa (ae E E (al (r:=I ((i+1:Nat):Int)) E E E (by have e:((i+1:Nat):Int)=(i:Int)+1:=(by omega);rw[e];exact aP (by omega) (by omega)) ?_)))))))))
  refine ac E E (ag ?_)
  refine bT (i+1) ⟨rfl,rfl,rfl,trivial⟩ ⟨(e4.trans xg6),by omega⟩ (by omega)
 ·refine bg (aJ (aJ (bh (ab (af (aa (ac E E (ag (ab (au (aA E E ?_)))))))))))
  exact⟨_,rfl,e4,rfl⟩
theorem aZ.lt_of_mem {n k:aZ} (h:k∈n.kids):SizeOf.sizeOf k<SizeOf.sizeOf n:=by
 cases n with
 |mk l s ks e p=>
  have h:k∈ks:=h
  have:=List.sizeOf_lt_of_mem h
  simp only[aZ.mk.sizeOf_spec]
  omega
theorem H0 {w:World} {n:aZ} {vl x y vk vp ul p q uk up:Value} (ih:∀k∈n.kids,∀{w:World} {vl x y vk vp ul p q uk up:Value},cu cV k.lems vl w→bt k.split.at_.2.1 x w→bt k.split.at_.2.2 y w→cu bH k.kids vk w→cu bK k.pf vp w→cu cV k.lems ul w→bt k.split.at_.2.1 p w→bt k.split.at_.2.2 q w→cu bH k.kids uk w→cu bK k.pf up w→
 Calls Tryz.prog 27 #[.agg #[vl,I k.split.kd,I k.split.ix,B k.split.at_.1,x,y,vk,B k.empty,vp],.agg #[ul,I k.split.kd,I k.split.ix,B k.split.at_.1,p,q,uk,B k.empty,up]] w (bE fun r w'=>aN w w'∧r=B true))
 (hl:cu cV n.lems vl w) (hx:bt n.split.at_.2.1 x w) (hy:bt n.split.at_.2.2 y w) (hk:cu bH n.kids vk w) (hp:cu bK n.pf vp w) (hl':cu cV n.lems ul w) (hx':bt n.split.at_.2.1 p w) (hy':bt n.split.at_.2.2 q w) (hk':cu bH n.kids uk w) (hp':cu bK n.pf up w):
 Calls Tryz.prog 27 #[.agg #[vl,I n.split.kd,I n.split.ix,B n.split.at_.1,x,y,vk,B n.empty,vp],.agg #[ul,I n.split.kd,I n.split.ix,B n.split.at_.1,p,q,uk,B n.empty,up]] w (bE fun r w'=>aN w w'∧r=B true):=by
 refine enter (vs:=[.agg #[vl,I n.split.kd,I n.split.ix,B n.split.at_.1,x,y,vk,B n.empty,vp],.agg #[ul,I n.split.kd,I n.split.ix,B n.split.at_.1,p,q,uk,B n.empty,up]]) Tryz.func27 E E E ?_
 have hll:=hk.len
 refine af (aa ?_)
 obtain⟨g2,w2,hr2,l2,x2,k2⟩:=cD (P:=Tryz.prog) (w:=w) (T:=52) (cs:=[vl,I n.split.kd,I n.split.ix,B n.split.at_.1,x,y,vk,B n.empty,vp])
 refine cI E E hr2 ?_
 obtain⟨g3,w3,hr3,l3,x3,k3⟩:=cD (P:=Tryz.prog) (w:=w2) (T:=52) (cs:=[ul,I n.split.kd,I n.split.ix,B n.split.at_.1,p,q,uk,B n.empty,up])
 refine cI E E hr3 (ac E E (ag (ab (af (af (aa (ah E E (ar (o:=7) L6 E (by kernel_rfl) E) ?_)))))))
 refine ak E E (aj Me E (x3.cell_some (k2.cell (i:=7) E))) (ah E E (ar (o:=7) L6 E (by kernel_rfl) E) ?_)
 refine ak E E (aj Me E (k3.cell (i:=7) E)) (al E E E (cW (fun h=>h E) (ED Me)) ?_)
 refine ae rfl rfl (ai rfl (ah rfl rfl (ar (o:=1) Tryz.underlying52 rfl (by kernel_rfl) rfl) (ai rfl (ak rfl rfl ((k2.ext x3).ldO (ms:=[I n.split.kd,I n.split.ix,B n.split.at_.1,x,y]) (o:=1) (fun j v hj=>by rcases j with _|_|_|_|_|_|_|_|_|j<;>simp_all) Tryz.underlying48 rfl (by kernel_rfl)) ?_))))
 refine ai rfl (ah rfl rfl (ar (o:=1) Tryz.underlying52 rfl (by kernel_rfl) rfl) (ai rfl (ak rfl rfl (k3.ldO (ms:=[I n.split.kd,I n.split.ix,B n.split.at_.1,p,q]) (o:=1) (fun j v hj=>by rcases j with _|_|_|_|_|_|_|_|_|j<;>simp_all) Tryz.underlying48 rfl (by kernel_rfl)) ?_)))
 refine ai E (an tT E E ((F8 (a:=n.split) (hx.ext (x2.trans x3)) (hy.ext (x2.trans x3)) (hx'.ext (x2.trans x3)) (hy'.ext (x2.trans x3)))) ?_)
 rintro v16 w16 ⟨x16,rfl⟩
 refine ai E (bo E E bu (aE E E E (ae E E (ai E (ah E E (ar (o:=0) L6 E (by kernel_rfl) E) ?_)))))
 refine ai E (ak E E (aj Mi E ((x3.trans x16).cell_some (k2.cell (i:=0) E))) (ai E (ah E E (ar (o:=0) L6 E (by kernel_rfl) E) ?_)))
 refine ai E (ak E E (aj Mi E (x16.cell_some (k3.cell (i:=0) E))) (ai E (an Dm E E ((Dn (hl.ext ((x2.trans x3).trans x16)) (hl'.ext ((x2.trans x3).trans x16)))) ?_)))
 rintro v24 w24 ⟨x24,rfl⟩
 refine ai E (bo E E bu (aE E E E (ae E E (ai E (ah E E (ar (o:=8) L6 E (by kernel_rfl) E) ?_)))))
 refine ai E (ak E E (aj Mj E (((x3.trans x16).trans x24).cell_some (k2.cell (i:=8) E))) (ai E (ah E E (ar (o:=8) L6 E (by kernel_rfl) E) ?_)))
 refine ai E (ak E E (aj Mj E ((x16.trans x24).cell_some (k3.cell (i:=8) E))) (ai E (an uF E E ((uG (hp.ext (((x2.trans x3).trans x16).trans x24)) (hp'.ext (((x2.trans x3).trans x16).trans x24)))) ?_)))
 rintro v32 w32 ⟨x32,rfl⟩
 refine ai E (bo E E bu (aE E E E (ae E E (ai E (ah E E (ar (o:=6) L6 E (by kernel_rfl) E) ?_)))))
 refine ai E (ak E E (aj Mh E ((((x3.trans x16).trans x24).trans x32).cell_some (k2.cell (i:=6) E))) (ai E (aQ E E (be Mh (hk.ext ((((x2.trans x3).trans x16).trans x24).trans x32))) ?_)))
 refine ai E (ah E E (ar (o:=6) L6 E (by kernel_rfl) E) (ai E (ak E E (aj Mh E (((x16.trans x24).trans x32).cell_some (k3.cell (i:=6) E))) ?_)))
 refine ai E (aQ E E (be Mh (hk'.ext ((((x2.trans x3).trans x16).trans x24).trans x32))) (ai E (al E E E (cW (fun h=>h E) cC) ?_)))
 refine aE E E E (ag (ab (cp E (aC (ab (af (af (aa (ac E E (ag (ab (aH ?_))))))))))))
 refine cm (α:=Nat) (fun x=>[(2,.pointer (some ⟨g2,0,none⟩)),(3,.pointer (some ⟨g3,0,none⟩)),(5,I (x:Int))]) (fun x w'=>aN w w'∧aN w32 w'∧x≤n.kids.length) (fun x=>n.kids.length-x) (0) ⟨rfl,rfl,rfl,trivial⟩ ⟨((((x2.trans x3).trans x16).trans x24).trans x32),aN.refl _,by omega⟩ ?_
 rintro i w4 ⟨e4,e10,hi⟩
 refine af (af (aa (ae E E (ah E E (ar (o:=6) L6 E (by kernel_rfl) E) (ak E E (aj Mh E (((((x3.trans x16).trans x24).trans x32).trans e10).cell_some (k2.cell (i:=6) E))) ?_)))))
 refine aQ E E (be Mh (hk.ext e4)) (al E E E (bc) (ag (ab ?_)))
 refine bw E (fun h48=>?_) (fun h48=>?_)
 ·refine aC (ab (af (aH (af (bO 11 [2,3,5,61] (by kernel_rfl) (by kernel_rfl) ?_)))))
  refine aW E E (fun w hw=>ar (o:=6) L6 E (by kernel_rfl) E) (aO E E (fun w hw=>aj Mh E (hw.cell_some (((((x3.trans x16).trans x24).trans x32).trans e10).cell_some (k2.cell (i:=6) E)))) ?_)
  refine aD E E ?_
  obtain⟨a54,c54,p54,q54,h54⟩:=cf (P:=Tryz.prog) (sz:=9) Mh (by kernel_rfl) cE (by omega) (hk.ext e4) (i:=i) (by omega) .i64
  obtain⟨e54,he54⟩:∃e,e=n.kids[i]'(by omega):=⟨_,rfl⟩
  rw[←he54] at h54
  obtain⟨x54_0,x54_1,x54_2,x54_3,x54_4,rfl,f54_0,f54_1,f54_2,f54_3,f54_4⟩:=dW h54
  refine aF E E E (fun w _=>p54 w) (aO E E (fun w hw=>(q54.ext hw).ld L6 E (by kernel_rfl)) (aW E E (fun w hw=>ar (o:=6) L6 E (by kernel_rfl) E) ?_))
  refine aO E E (fun w hw=>aj Mh E (hw.cell_some ((((x16.trans x24).trans x32).trans e10).cell_some (k3.cell (i:=6) E)))) ?_
  refine aD E E ?_
  obtain⟨a59,c59,p59,q59,h59⟩:=cf (P:=Tryz.prog) (sz:=9) Mh (by kernel_rfl) cE (by omega) (hk'.ext e4) (i:=i) (by omega) .i64
  rw[←he54] at h59
  obtain⟨x59_0,x59_1,x59_2,x59_3,x59_4,rfl,f59_0,f59_1,f59_2,f59_3,f59_4⟩:=dW h59
  refine aF rfl rfl rfl (fun w _=>p59 w) (aO rfl rfl (fun w hw=>(q59.ext hw).ld L6 rfl (by kernel_rfl)) (ca (S:=Is (B true)) BX (cd.is _) rfl (fun w hw=>by rintro _ rfl _ rfl;exact ih e54 (by rw[he54];exact List.getElem_mem _) (f54_0.ext hw) (f54_1.ext hw) (f54_2.ext hw) (f54_3.ext hw) (f54_4.ext hw) (f59_0.ext hw) (f59_1.ext hw) (f59_2.ext hw) (f59_3.ext hw) (f59_4.ext hw)) ?_))
  refine cq ?_
  intro wg6 xg6
  rintro _ rfl
  rintro _ rfl
  rintro _ rfl
  rintro _ rfl
  refine bo E E bu (ag (ab (cp E (aC (aS (ab (aa (ae E E (al (r:=I ((i+1:Nat):Int)) E E E (by have e:((i+1:Nat):Int)=(i:Int)+1:=(by omega);rw[e];exact aP (by omega) (by omega)) ?_)))))))))
  refine ac E E (ag ?_)
  refine bT (i+1) ⟨rfl,rfl,rfl,trivial⟩ ⟨(e4.trans xg6),(e10.trans xg6),by omega⟩ (by omega)
 ·refine bg (aJ (aJ (bh (ab (af (aa (ac E E (ag (ab (au (aA E E ?_)))))))))))
  exact⟨_,rfl,e4,rfl⟩
theorem BZ:∀(m:Nat) {n:aZ},SizeOf.sizeOf n≤m→∀{w:World} {vl x y vk vp ul p q uk up:Value},cu cV n.lems vl w→bt n.split.at_.2.1 x w→bt n.split.at_.2.2 y w→cu bH n.kids vk w→cu bK n.pf vp w→cu cV n.lems ul w→bt n.split.at_.2.1 p w→bt n.split.at_.2.2 q w→cu bH n.kids uk w→cu bK n.pf up w→
 Calls Tryz.prog 27 #[.agg #[vl,I n.split.kd,I n.split.ix,B n.split.at_.1,x,y,vk,B n.empty,vp],.agg #[ul,I n.split.kd,I n.split.ix,B n.split.at_.1,p,q,uk,B n.empty,up]] w (bE fun r w'=>aN w w'∧r=B true)
 |0,n,hm=>by cases n;simp at hm
 |m+1,n,hm=>fun h1 h2 h3 h4 h5 h6 h7 h8 h9 h10=>H0 (fun k hk _ _ _ _ _ _ _ _ _ _ _=>BZ m (by have:=aZ.lt_of_mem hk;omega)) h1 h2 h3 h4 h5 h6 h7 h8 h9 h10
end Go.Rl
namespace Go.Rl
open Go.RowKit Go.Proofs
def Ka (n d:Int):Bool:=decide (0<n∧n≤16384∧n%d=0)
def small (l:List fj):Prop:=∀q∈l,q.2.1.length≤1073741824∧q.2.2.length≤1073741824
def Kb (l:wt):Bool:=decide ((1≤l.kh∧l.kh≤64)∧(1≤l.kw∧l.kw≤64)∧(1≤l.sr∧l.sr≤64))
def H1 (l:wt):Bool:=decide ((l.ws.length:Int)=0∧(l.bs.length:Int)=0)
def H2 (l:wt):Bool:=decide (l.kh=0∧l.kw=0∧l.sr=0∧l.pd=0)
def LR (l:wt) (i:Int):Prop:=
 if l.kd=1 then H2 l=true∧l.fr=0∧(1≤l.ou∧l.ou≤16384)∧(l.bs.length:Int)=l.ou∧Ka l.ws.length l.ou=true
 else if l.kd=2 then Kb l=true∧l.fr=0∧l.pd≥0∧l.pd<l.kh∧l.pd<l.kw∧(1≤l.ou∧l.ou≤16384)∧(l.bs.length:Int)=l.ou∧Ka l.ws.length (l.ou*l.kh*l.kw)=true
 else if l.kd=3∨l.kd=4 then Kb l=true∧l.fr=0∧l.pd=0∧l.ou=0∧H1 l=true
 else if l.kd=5∨l.kd=6 then H2 l=true∧l.fr=0∧l.ou=0∧H1 l=true
 else if l.kd=7 then H2 l=true∧(-1≤l.fr∧l.fr≤i-1)∧l.ou=0∧H1 l=true
 else False
instance (l:wt) (i:Int):Decidable (LR l i):=by unfold LR;infer_instance
end Go.Rl
namespace Go.Rl
open Go.RowKit Go.Proofs
end Go.Rl
namespace Go.Rl
open Go.RowKit Go.Proofs
end Go.Rl
namespace Go.Rl
open Go.RowKit
section
variable {P:Program} {ops:Array Oper} {Env:World→Prop} {Rl:World→World→Prop} {mo:Bool} {Pn:List PanicEntry→World→Prop} {N:Nat}
def EE (ops:Array Oper) (n:Nat):Bool:=
 (List.range n).all fun i=>decide (i=0)||(List.range (n+1)).any fun j=>decide (i<j)&&Region.waitsFor .any ops j i
theorem B0 {n:Nat} {listed:Array Bool} (hs:EE ops n=true) (hc:Af ops n=true) (inv:HeadInv .any ops n listed):
 ∀(d i:Nat),n-i=d→0<i→i<n→listed.getD i true=false→∀t,n≤t→t∉Region.ready .any ops listed:=by
 intro d
 induction d using Nat.strongRecOn with
 |_ d ih=>
  intro i hd h0 hi hun t ht hr
  obtain⟨_,ot,hot,hall⟩:=mem_ready.1 hr
  have htlt:t<ops.size:=(Array.getElem?_eq_some_iff.1 hot).1
  by_cases htn:t=n
  ·subst htn
   have h1:=List.all_eq_true.1 hs i (List.mem_range.2 hi)
   simp only[Bool.or_eq_true,decide_eq_true_eq] at h1
   obtain⟨j,hj,hj2⟩:=List.any_eq_true.1 (h1.resolve_left (by omega))
   simp only[Bool.and_eq_true,decide_eq_true_eq] at hj2
   obtain⟨oj,hoj,e,he,hb,hon⟩:=Region.waitsFor_spec hj2.2
   have hjle:j≤t:=by have:=List.mem_range.1 hj;omega
   by_cases hjt:j=t
   ·subst hjt
    have:oj=ot:=Option.some.inj (hoj.symm.trans hot)
    subst this
    have h2:=hall e he hb
    rw[hon,getD_both hun] at h2
    cases h2
   ·cases hl:listed.getD j false with
    |true=>
     have h2:=inv.closed j oj hoj hl e he hb
     rw[hon,getD_both hun] at h2
     cases h2
    |false=>
     have hjs:j<listed.size:=by rw[inv.size];omega
     exact ih (t-j) (by omega) j rfl (by omega) (by omega) (getD_in hjs hl) t (Nat.le_refl _) hr
  ·have h1:=List.all_eq_true.1 hc t (List.mem_range.2 htlt)
   simp only[Bool.or_eq_true,decide_eq_true_eq] at h1
   rcases h1 with h1|h1
   ·omega
   ·obtain⟨j,hj,hj2⟩:=List.any_eq_true.1 h1
    simp only[Bool.and_eq_true,decide_eq_true_eq] at hj2
    have hjt:=List.mem_range.1 hj
    obtain⟨o',ho',e,he,hb,hon⟩:=Region.waitsFor_spec hj2.2
    have:o'=ot:=Option.some.inj (ho'.symm.trans hot)
    subst this
    have h2:=hall e he hb
    rw[hon,getD_both (inv.tail j hj2.1 (by omega))] at h2
    cases h2
theorem xX {n i:Nat} {oi:Oper} {S:dN} {L:Array Bool→db→na→Prop} (hi:ops[i]? =some oi) (hcalls:mo=true→lH .any ops=true)
 (hs:EE ops n=true) (hc:Af ops n=true) (hi0:0<i) (hin:i<n)
 (hdone:∀listed F Z,L listed F Z→∀j∈Region.ready .any ops listed,n≤j):
 ∀(f:Nat) (listed:Array Bool) (F:db) (Z Z':na),HeadInv .any ops n listed→
  (∀j oj,ops[j]? =some oj→j≠i→listed.getD j true=false→(∀e∈oj.after,Region.binds .any e=true→e.on≠i)→oi.apart ops oj=true)→
  i∈Region.ready .any ops listed→gb P ops Env Rl mo Pn N F Z oi S Z'→
  lG P .any ops Env Rl mo Pn N n L f (listed.setIfInBounds i true) (ln F oi.dst S) Z'→lG P .any ops Env Rl mo Pn N n L (f+1) listed F Z:=
 qp hi hcalls hin (fun _ inv hun t ht=>B0 hs hc inv _ i rfl hi0 hin hun t ht) hdone
theorem uH {n:Nat} {perm:List Nat} {Lq:db→na→Prop} (hcalls:mo=true→lH .any ops=true) (hs:EE ops n=true) (hc:Af ops n=true):
 ∀(l:List Oper) (k:Nat) (listed:Array Bool) (F:db) (Z:na),0<k→(∀j,j<l.length→l[j]? =ops[k+j]?)→k+l.length=n→HeadInv .any ops n listed→
 oX ops n perm l.length k listed=true→(∀t,cS Rl (F t))→d6 Z→ig P ops Env Rl mo Pn N l F Z Lq→
 lG P .any ops Env Rl mo Pn N n (fun listed' F' Z'=>(tO ops perm listed'=true∧(Region.ready .any ops listed').all (fun j=>decide (n≤j))=true)∧Lq F' Z') l.length listed F Z
 |[],k,listed,F,Z,_,_,hk,_,hB,_,_,h=>by
  simp only[List.length_nil,oX,Bool.and_eq_true] at hB
  exact⟨hB,h⟩
 |o::l,k,listed,F,Z,hk0,hl,hk,inv,hB,hF,hZ,h=>by
  have h0:ops[k]? =some o:=by simpa using(hl 0 (by simp)).symm
  simp only[List.length_cons,oX,Bool.and_eq_true] at hB
  obtain⟨⟨hr,hf⟩,hB'⟩:=hB
  have hkn:k<n:=by simp only[List.length_cons] at hk;omega
  have hr':k∈Region.ready .any ops listed:=by simpa using hr
  obtain⟨S,Z',hspec,hrest⟩:=h hF hZ
  exact xX h0 hcalls hs hc hk0 hkn (fun listed' F' Z' hL j hj=>by simpa using List.all_eq_true.1 hL.1.2 j hj) l.length listed F Z Z' inv (Region.free_spec h0 hf) hr' hspec
   (uH hcalls hs hc l (k+1) _ _ _ (by omega) (fun j hj=>by have:=hl (j+1) (by simp;omega);simpa [Nat.add_assoc,Nat.add_comm 1 j] using this) (by simp only[List.length_cons] at hk;omega) (inv.set hr' hkn) hB' (qw hF hspec.stable) (hspec.zst hZ) hrest)
def Kc (ops:Array Oper) (n:Nat) (perm:List Nat):Bool:=
 Region.noSelect ops&&decide (0<n)&&decide (n<ops.size)&&EE ops n&&Af ops n&&decide (n+perm.length=ops.size)&&Region.free .any ops (Array.replicate ops.size false) 0&&(Region.ready .any ops (Array.replicate ops.size false)).contains 0&&oX ops n perm (n-1) 1 ((Array.replicate ops.size false).setIfInBounds 0 true)
theorem u6 {Q:iR} {D:List Deferred} {l:Fr} {w:World} {id d:Nat} {x:Operand} {v:Value} {ty:TypeId} {pos:String} {aft:Array Edge} {os:List Oper} (n:Nat) (perm:List Nat) (ts:List Nat) (hm:P.follows .mixedOrders=true)
 (hB:Kc ((⟨some d,.move x,ty,pos,aft,none⟩:Oper)::os).toArray n perm=true) (hp:(perm.all fun i=>decide (i<os.length+1))=true) (hx:ev l x=some v) (hd:Nat.blt d N=true)
 (h:ig P ((⟨some d,.move x,ty,pos,aft,none⟩:Oper)::os).toArray (aN w) aN false Kg N (os.take (n-1)) (AX ((d,v)::l)) (fun _=>True) (fun F _=>∀w',aN w w'→lV F w' ts (fun l'=>cH P ((⟨some d,.move x,ty,pos,aft,none⟩:Oper)::os).toArray (oJ Q) N D l' w' (Dc ((⟨some d,.move x,ty,pos,aft,none⟩:Oper)::os) perm)))):dO P Q N D l w (.region id ((⟨some d,.move x,ty,pos,aft,none⟩:Oper)::os).toArray true):=fun a ha=>by
 obtain⟨o,ho⟩:∃o:Oper,o=⟨some d,.move x,ty,pos,aft,none⟩:=⟨_,rfl⟩
 rw[←ho] at hB h⊢
 have ha':=ha.put hd v
 have hsat:DU N D (AX ((d,v)::l)) (a.put (some d) v) {w with drawn:=w.drawn+1}:=⟨ha'.size,ha'.defers,fun t=>by
  show AX ((d,v)::l) t ((a.put (some d) v).tmps.getD t undef) _
  unfold AX
  cases hv:lk ((d,v)::l) t with
  |some v=>exact ha'.at_ t v hv
  |none=>trivial⟩
 simp only[Kc,Bool.and_eq_true,decide_eq_true_eq] at hB
 obtain⟨⟨⟨⟨⟨⟨⟨⟨hsel,hn0⟩,hn⟩,hs⟩,hc⟩,hlen⟩,hf⟩,hr⟩,hlex⟩:=hB
 have hn':n<os.length+1:=by simpa using hn
 have htl:(os.take (n-1)).length=n-1:=by simp;omega
 have h00:(o::os).toArray[0]? =some o:=by simp
 have inv0:HeadInv .any (o::os).toArray n (Array.replicate (o::os).toArray.size false):=
  ⟨by simp,fun j oj _ hl=>(by rw[getD_replicate_false] at hl;cases hl),fun t _ ht=>getD_in (by simpa using ht) (getD_replicate_false _ _)⟩
 have hr':0∈Region.ready .any (o::os).toArray (Array.replicate (o::os).toArray.size false):=by simpa using hr
 have H:=uH (perm:=perm) (fun h=>by cases h) hs hc (os.take (n-1)) 1 _ _ _ (by omega) (fun j hj=>by
  have hj':j<n-1:=by rw[htl] at hj;exact hj
  simp[hj',Nat.add_comm 1 j]) (by rw[htl];omega) (inv0.set hr' (by omega)) (by rw[htl];exact hlex) (kH _) d6.triv (lU _ _ _ (fun F Z hK a' w' he hs=>by
   obtain⟨l',hl',hk⟩:=lV.use hs (hK w' he)
   exact hk a' hl':∀F (Z:na),_→(∀a' w',aN w w'→DU N D F a' w'→wpList P (o::os).toArray (oJ Q) (Dc (o::os) perm) a' w')) h)
 have hpick:∀(perm:List Nat),(perm.all fun i=>decide (i<(o::os).length))=true→(perm.map fun i=>(o::os).toArray[i]?)=(Dc (o::os) perm).map some:=by
  intro perm
  induction perm with
  |nil=>intro _;rfl
  |cons i is ih=>
   intro hp
   simp only[List.all_cons,Bool.and_eq_true,decide_eq_true_eq] at hp
   have e:(o::os)[i]? =some (o::os)[i]:=List.getElem?_eq_getElem hp.1
   simp only[List.map_cons,Dc,e,List.getElem?_toArray]
   rw[←ih hp.2]
   simp
 have rest:=iQ (D:=D) (Q':=oJ Q) (l0:=[]) (g:=perm.length) (kD.plain w) (fun _ _ _ _ _ _ h=>h.elim) (fun _ _ _ _ _ _ _ hp=>by cases hp) (fun listed F Z hL hF hZ a' w' he hsat hz=>lN hsel perm (Dc (o::os) perm) listed a' w' (hpick perm (by simpa using hp)) hL.1.1 (hL.2 a' w' he hsat)) _ _ _ _ H (kH _) d6.triv (a.put (some d) v) {w with drawn:=w.drawn+1} ⟨rfl,rfl,rfl,Nat.le_refl _,fun _ _=>rfl⟩ hsat (fun _ hp=>by cases hp) trivial
 rw[htl] at rest
 refine wp_mono (wp_region_any (Q:=oJ Q) hm ?_) fun e a w he=>by obtain⟨rfl,h⟩:=he;exact h
 have hsz:(o::os).toArray.size=(n-1+perm.length)+1:=by rw[←hlen];omega
 rw[show wpAny P .any (o::os).toArray (oJ Q) (o::os).toArray.size=wpAny P .any (o::os).toArray (oJ Q) ((n-1+perm.length)+1) by rw[hsz]]
 have hval:(∀w':World,(execOp a.eval o).run P w'=.ok (.value v) w'):=fun w'=>by
  rw[ho]
  have hv:a.eval x=v:=ha.ev hx
  simp[execOp,hv]
 have hdst:o.dst=some d:=by rw[ho]
 exact wpAny_take h00 hsel hf hr (fun c a w hp=>by obtain⟨hp,_⟩:=hp;cases hp) (.inl ⟨by rw[ho];rfl,hval⟩) (by rw[hdst];exact rest)
end
end Go.Rl
namespace Go.Rl
open Go.RowKit Go.Proofs
theorem H3 {n:Int} (h:lK n):1≤(dt n).length∧(dt n).length≤10:=⟨qC _,et (CE h.1 h.2)⟩
theorem dw {α β:Type} {f:α→List β} {l:List α} {i:Nat} (hi:i<l.length):(l.take (i+1)).flatMap f=(l.take i).flatMap f++f l[i]:=by
 rw[List.take_succ_eq_append_getElem hi,List.flatMap_append,List.flatMap_singleton]
end Go.Rl
namespace Go.Rl
open Go.RowKit Go.Proofs
theorem H4 {w:World} {g:Nat}:(Instr.sliceAt 24 (.pointer (some ⟨g,0,none⟩)) none none none).run Tryz.prog w=.ok (.slice (some ⟨g,0,none⟩) 32 32) w:=by
 simp[Instr.sliceAt,run_underlying Tryz.underlying24,Instr.sureAddr,Instr.sliceBounds,fa fC,Addr.add_mid]
theorem B1 {X:Nat→Prop} {w:World}:∀(l:List Int),aT X w (l.map qt) (l.map I)
 |[]=>aT.nil
 |n::l=>aT.cons (a:=[I n]) (by simp only[qt,cL,I]) (B1 l)
theorem GL.rpx {X:Nat→Prop} {w:World} {base:Nat} {l:List Int} {v:Value} (h:GL base l v w) (hX:∀k,v.ownBlock=some k→¬X k):cL X w (J7 l) [v]:=by
 obtain⟨n,h⟩:=h
 exact cL.ofOwn h (B1 l) (by simp[BI]) (by omega) hX
end Go.Rl
namespace Go.Rl
open Go.RowKit Go.Proofs
section
variable {w:World} {g:Nat} {T:TypeId} {d:List UInt8} {v:Value}
theorem u7:oo.length=32:=rfl
end
theorem rt {α:Type} {p:α→Bool} {l:List α} {i:Nat} (hi:i<l.length) (h:l.all p=(l.drop i).all p) (h1:p l[i]=true):l.all p=(l.drop (i+1)).all p:=by rw[h,BW hi,h1,Bool.true_and]
theorem gE {α:Type} {p:α→Bool} {l:List α} {i:Nat} (hi:i<l.length) (h:l.all p=(l.drop i).all p) (h1:p l[i]=false):l.all p=false:=by rw[h,BW hi,h1,Bool.false_and]
theorem nJ {α:Type} {p:α→Bool} {l:List α} {i:Nat} (hi:l.length≤i) (h:l.all p=(l.drop i).all p):l.all p=true:=by rw[h,List.drop_eq_nil_of_le hi];rfl
end Go.Rl
namespace Go.Rl
open Go.RowKit Go.Proofs
end Go.Rl
namespace Go.Rl
open Go.RowKit Go.Proofs
theorem H5 {a z:List UInt8} {j:Nat} (h:a.length=32) (hz:z.length=32) (hj:j<32) {b:UInt8} (hb:b=a[j]'(by omega)):(a.take j++z.drop j).set j b=a.take (j+1)++z.drop (j+1):=by
 have e:(a.take j).length=j:=by rw[List.length_take];omega
 rw[List.take_succ_eq_append_getElem (by omega),List.append_assoc,List.set_append_right _ _ (by omega),e,Nat.sub_self,List.drop_eq_getElem_cons (i:=j) (l:=z) (by omega),List.set_cons_zero,hb]
 rfl
theorem Ji {a z:List UInt8} {j:Nat} (h:a.length=32) (hz:z.length=32) (hj:j≤32):(a.take j++z.drop j).length=32:=by
 rw[List.length_append,List.length_take,List.length_drop];omega
end Go.Rl
namespace Go.Rl
open Go.RowKit Go.Proofs
theorem sT:aG Tryz.prog 114:=⟨_,Tryz.func114,by kernel_rfl,rfl⟩
theorem pa:aG Tryz.prog 82:=⟨_,Tryz.func82,by kernel_rfl,rfl⟩
theorem nK:aG Tryz.prog 85:=⟨_,Tryz.func85,by kernel_rfl,rfl⟩
theorem Do:aG Tryz.prog 149:=⟨_,Tryz.func149,by kernel_rfl,rfl⟩
theorem km:aG Tryz.prog 148:=⟨_,Tryz.func148,by kernel_rfl,rfl⟩
theorem pb:aG Tryz.prog 147:=⟨_,Tryz.func147,by kernel_rfl,rfl⟩
theorem uI:aG Tryz.prog 115:=⟨_,Tryz.func115,by kernel_rfl,rfl⟩
theorem Dp:aG Tryz.prog 77:=⟨_,Tryz.func77,by kernel_rfl,rfl⟩
theorem jI:(Tryz.prog.info? 22).map (·.size)=some 1:=by kernel_rfl
theorem jJ {w:World} {g:Nat}:(Instr.fieldAt 142 (.pointer (some ⟨g,0,none⟩)) 0).run Tryz.prog w=.ok (.pointer (some ⟨g,0,none⟩)) w:=ar (o:=0) Tryz.underlying142 rfl (by kernel_rfl) rfl
def Jj (T:TypeId) (base g:Nat) (l:List UInt8) (v:Value) (w:World) (w':World):Prop:=∃v',gN T base g l v' w'∧dj g v w v' w'
theorem LS {a:Int} (ha:lK a):∀n∈[a],lK n:=fun n hn=>by
 simp only[List.mem_cons,List.not_mem_nil,or_false] at hn
 subst hn;exact ha
theorem LT {a b:Int} (ha:lK a) (hb:lK b):∀n∈[a,b],lK n:=fun n hn=>by
 simp only[List.mem_cons,List.not_mem_nil,or_false] at hn
 rcases hn with rfl|rfl<;>assumption
theorem Kd {a b c d:Int} (ha:lK a) (hb:lK b) (hc:lK c) (hd:lK d):∀n∈[a,b,c,d],lK n:=fun n hn=>by
 simp only[List.mem_cons,List.not_mem_nil,or_false] at hn
 rcases hn with rfl|rfl|rfl|rfl<;>assumption
theorem ru {α:Type} {f:α→List UInt8} (l:List α) (k:Nat):((l.take k).flatMap f).length≤(l.flatMap f).length:=by
 have h:(l.flatMap f)=(l.take k).flatMap f++(l.drop k).flatMap f:=by rw[←List.flatMap_append,List.take_append_drop]
 rw[h,List.length_append]
 omega
theorem fM {α:Type} {f:α→List UInt8} {l:List α} {i:Nat} (hi:i<l.length):((l.take i).flatMap f).length+(f l[i]).length≤(l.flatMap f).length:=by
 have h:=ru (f:=f) l (i+1)
 rw[dw hi,List.length_append] at h
 exact h
theorem sU {T:TypeId} {w:World} {b g:Nat} {l:List UInt8} {n:Nat} {v:Value} (hW:gN T b g l v w) (h0:b≤w.heap.size) (hl:l.length≤35184372088832) (hn:n≤9223372036854775807):
 Calls Tryz.prog 114 #[.pointer (some ⟨g,0,none⟩),I (n:Int)] w (bE fun _ w'=>Jj T b g (l++uv n) v w w'):=by
 refine enter (vs:=[.pointer (some ⟨g,0,none⟩),I (n:Int)]) Tryz.func114 E E E ?_
 have kg:=hW.blk
 have hun:(UInt64.ofNat n).toNat=n:=by rw[UInt64.toNat_ofNat'];omega
 refine u6 8 [8,9,10,11] [4,8,11] (by kernel_rfl) (by kernel_rfl) E E E ?_
 refine aD E E (dh E E ?_)
 refine aW E E (fun w _=>jJ) ?_
 refine aO E E (fun w hw=>aj Md E (hw.cell_some kg.k0)) (aD E E (dy E E (fun w hw=>ff Mb Mc) ?_))
 refine ca (S:=cn (uv n)) oa (cn.stable _) rfl (fun w hw=>by rintro _ rfl _ rfl;exact bE.mono (ob (n:=UInt64.ofNat n) (cn.nil _) (by simp)) fun v w' h=>⟨h.1,by have:=h.2.bts;rwa [hun,List.nil_append] at this⟩) ?_
 refine cq ?_
 intro wg0 xg0
 rintro _ rfl
 rintro _ hq8
 obtain rfl:=Eq.symm hq8
 intro vg11 b11
 have hun2:=qC n
 have hun3:=et (n:=n) (by omega)
 obtain⟨v12,wa,wb,hr12,hs12,hW',st12⟩:=gN.put (t:=22) (t2:=22) (ty:=22) Md jI Md (hW.ext xg0) (Nat.le_trans h0 xg0.size) b11 (by omega) (by omega)
 refine ba E E hr12 ?_
 refine ay E E ?_
 refine ah E E jJ ?_
 refine aq E E (hs12) (ag (Ag (jY E ?_)))
 exact⟨_,rfl,v12,hW',(dj.of_ext xg0).trans st12⟩
theorem pc {T:TypeId} {w:World} {b g:Nat} {l:List UInt8} {ns:List Int} {nv v:Value} (hW:gN T b g l v w) (h0:b≤w.heap.size) (hv:cL (WrX g v) w (J7 ns) [nv]) (hi64:∀n∈ns,lK n) (hl:l.length+10*ns.length≤35184372088832):
 Calls Tryz.prog 82 #[.pointer (some ⟨g,0,none⟩),nv] w (bE fun _ w'=>Jj T b g (l++ns.flatMap dt) v w w'):=by
 refine enter (vs:=[.pointer (some ⟨g,0,none⟩),nv]) Tryz.func82 E E E ?_
 have hd:cu qt ns nv w:=hv.rp
 have hll:=hd.len
 refine af (aa (ae E E (aQ E E (be Tryz.underlying32 hd) (ae E E (ag (ab (aH ?_)))))))
 refine fl (fun(i:Nat) (u:Value)=>[(0,.pointer (some ⟨g,0,none⟩)),(6,nv),(7,I (ns.length:Int)),(8,I (i:Int))]) (fun(i:Nat) (u:Value) w'=>gN T b g (l++(ns.take i).flatMap dt) u w'∧dj g v w u w'∧i≤ns.length∧((ns.take i).flatMap dt).length≤10*i) (fun(i:Nat) (u:Value)=>ns.length-i) (0) (v) ⟨rfl,rfl,rfl,rfl,trivial⟩ ⟨by simpa using hW,dj.refl,by omega,by simp⟩ ?_
 rintro i u wL ⟨hW1,st1,hi,hle⟩
 refine af (aa (al E E E (bc) (ag (ab (af ?_)))))
 refine bw E (fun h9=>?_) (fun h9=>?_)
 ·have hd1:cu qt ns nv wL:=(hv.step st1).rp
  refine aC (ab (af (aH (af (aa ?_)))))
  obtain⟨a10,c10,p10,q10,h10⟩:=cf (P:=Tryz.prog) (sz:=1) Tryz.underlying32 (by kernel_rfl) BI (by omega) hd1 (i:=i) (by omega) .i64
  obtain⟨e10,he10⟩:∃e,e=ns[i]'(by omega):=⟨_,rfl⟩
  rw[←he10] at h10
  obtain rfl:=I9 h10
  refine ax E E E (p10 _) ?_
  have hn:=hi64 e10 (by rw[he10];exact List.getElem_mem _)
  have hen:=H3 hn
  refine ak E E (aj Mb E q10.cell0) (ac E E (ag (ab ?_)))
  have kg:=hW1.blk
  refine u6 7 [7,8,9,10] [0,6,7,8,12,16,18] (by kernel_rfl) (by kernel_rfl) E E E ?_
  refine aD E E (dh E E ?_)
  refine aW E E (fun w _=>jJ) ?_
  refine aO rfl rfl (fun w hw=>aj Tryz.underlying22 rfl (hw.cell_some kg.k0)) (aD rfl rfl (ca (S:=cn (dt e10)) kK (cn.stable _) rfl (fun w hw=>by rintro _ rfl _ rfl;exact bE.mono (kO (n:=e10) (cn.nil _) (by simp) hn.1 hn.2) fun v w' h=>⟨h.1,by have:=h.2.bts;rwa [List.nil_append] at this⟩) ?_))
  refine cq ?_
  intro wg3 xg3
  rintro _ rfl
  rintro _ hq6
  obtain rfl:=Eq.symm hq6
  rintro _ rfl
  rintro _ rfl
  rintro _ rfl
  rintro _ hq16
  obtain rfl:=Eq.symm hq16
  intro vg18 b18
  obtain⟨v19,wa,wb,hr19,hs19,hW2,st19⟩:=gN.put (t:=22) (t2:=22) (ty:=22) Tryz.underlying22 jI Tryz.underlying22 (hW1.ext xg3) (Nat.le_trans h0 (Nat.le_trans st1.mv.size xg3.size)) b18 (by omega) (by simp only[List.length_append];omega)
  refine ba E E hr19 ?_
  refine ay E E ?_
  refine ah E E jJ ?_
  refine aq E E (hs19) (ag (Ag (aS (ab (aa (al (r:=I ((i+1:Nat):Int)) E E E (by have e:((i+1:Nat):Int)=(i:Int)+1:=(by omega);rw[e];exact aP (by omega) (by omega)) ?_))))))
  refine ae E E (ag ?_)
  refine dE (i+1) (v19) ⟨rfl,rfl,rfl,rfl,trivial⟩ ⟨by rw[dw (by omega),←he10,←List.append_assoc];exact hW2,(st1.trans (dj.of_ext xg3)).trans st19,by omega,by rw[dw (by omega),←he10,List.length_append];omega⟩ (by omega)
 ·refine bg (aJ (aJ (bh (jY E ?_))))
  exact⟨_,rfl,u,by rw[List.take_of_length_le (by omega)] at hW1;exact hW1,st1⟩
theorem nN {T:TypeId} {wz w:World} {g:Nat} {l:List UInt8} {q:fj} {x y v:Value} (ez:aN wz w) (hW:gN T wz.heap.size g l v w) (hx:bt q.2.1 x wz) (hy:bt q.2.2 y wz) (hl:l.length+(gj q).length≤4398046511104):
 Calls Tryz.prog 85 #[.pointer (some ⟨g,0,none⟩),.agg #[B q.1,x,y]] w (bE fun _ w'=>Jj T wz.heap.size g (l++gj q) v w w'):=by
 refine enter (vs:=[.pointer (some ⟨g,0,none⟩),.agg #[B q.1,x,y]]) Tryz.func85 E E E ?_
 have hqa:=jG q
 have hq1:1≤(gj q).length:=by simp only[gj,om,List.length_append,List.length_cons,List.length_nil];omega
 refine af (aa ?_)
 obtain⟨g3,w3,hr3,l3,x3,k3⟩:=cD (P:=Tryz.prog) (w:=w) (T:=46) (cs:=[B q.1,x,y])
 refine cI E E hr3 (ag (ab ?_))
 have hW3:=hW.ext x3
 have kg:=hW3.blk
 refine u6 7 [7,8,9,10] [4,8,10] (by kernel_rfl) (by kernel_rfl) E E E ?_
 refine aD E E (dh E E ?_)
 refine aW E E (fun w _=>jJ) ?_
 refine aO E E (fun w hw=>aj Md E (hw.cell_some kg.k0)) (aO E E (fun w hw=>(k3.ext hw).ld L9 E (by kernel_rfl)) ?_)
 refine ca (S:=cn (gj q)) oK (cn.stable _) rfl (fun w hw=>by rintro _ rfl _ rfl;exact bE.mono (oP (cn.nil _) (dl.mk ((hx.ext (ez.trans x3)).ext hw) ((hy.ext (ez.trans x3)).ext hw)) (by simp only[List.length_nil];omega)) fun v w' h=>⟨h.1,by have:=h.2.bts;rwa [List.nil_append] at this⟩) ?_
 refine cq ?_
 intro wg1 xg1
 rintro _ rfl
 rintro _ hq8
 obtain rfl:=Eq.symm hq8
 intro vg10 b10
 obtain⟨v11,wa,wb,hr11,hs11,hW2,st11⟩:=gN.put (t:=22) (t2:=22) (ty:=22) Md jI Md (hW3.ext xg1) (((ez.trans x3).trans xg1)).size b10 (by omega) (by omega)
 refine ba E E hr11 ?_
 refine ay E E ?_
 refine ah E E jJ ?_
 refine aq E E (hs11) (ag (Ag (jY E ?_)))
 exact⟨_,rfl,v11,hW2,(dj.of_ext (x3.trans xg1)).trans st11⟩
theorem Dq {T:TypeId} {wz w:World} {g:Nat} {l:List UInt8} {d:bV} {x y v:Value} (ez:aN wz w) (hW:gN T wz.heap.size g l v w) (hx:bt d.at_.2.1 x wz) (hy:bt d.at_.2.2 y wz) (hw:wD d) (hl:l.length+(fG d).length≤4398046511104):
 Calls Tryz.prog 149 #[.pointer (some ⟨g,0,none⟩),.agg #[I d.kd,I d.ix,B d.at_.1,x,y]] w (bE fun _ w'=>Jj T wz.heap.size g (l++fG d) v w w'):=by
 refine enter (vs:=[.pointer (some ⟨g,0,none⟩),.agg #[I d.kd,I d.ix,B d.at_.1,x,y]]) Tryz.func149 E E E ?_
 have hdl:(fG d).length=(dt d.kd).length+(dt d.ix).length+(gj d.at_).length:=by simp only[fG,List.length_append]
 refine af (aa ?_)
 obtain⟨g3,w3,hr3,l3,x3,k3⟩:=cD (P:=Tryz.prog) (w:=w) (T:=48) (cs:=[I d.kd,I d.ix,B d.at_.1,x,y])
 refine cI E E hr3 (ag (ab (af (aa (ae E E (ah E E (ar (o:=0) Ma E (by kernel_rfl) E) ?_))))))
 refine ak E E (aj Mb E (k3.cell (i:=0) E)) (ah E E (ar (o:=1) Ma E (by kernel_rfl) E) ?_)
 refine ak E E (aj Mb E (k3.cell (i:=1) E)) ?_
 obtain⟨v9,w9,hr9,x9,o9,ob9⟩:=GM (w:=w3) (w3).heap.size [d.kd,d.ix] (by simp) (Nat.le_refl _)
 refine aK (vs:=[(0,I d.kd),(1,I d.ix)]) E E hr9 ?_
 have hW3:=hW.ext x3
 have hW9:=hW3.ext x9
 refine an pa E E ((pc (ns:=[d.kd,d.ix]) hW9 (((ez.trans x3).trans x9)).size (o9.rpx (fun k hk=>hW3.off_new (o9.lt k hk).1)) (LT hw.1 hw.2) (by simp only[List.length_cons,List.length_nil];omega))) ?_
 rintro v10 w10 ⟨v10,hW10,st10⟩
 have x10:=st10.ext (((ez.trans x3).trans x9)) hW9.ge hW9.new
 have k3a:=st10.mv.blk (k3.ext x9) (hW.off_new l3)
 refine ag (ab (aa (ae rfl rfl (ah rfl rfl (ar (o:=2) Tryz.underlying48 rfl (by kernel_rfl) rfl) (ak rfl rfl (k3a.ldO (ms:=[B d.at_.1,x,y]) (o:=2) (fun j v hj=>by rcases j with _|_|_|_|_|_|_|_|_|j<;>simp_all) Tryz.underlying46 rfl (by kernel_rfl)) ?_)))))
 refine an nK E E ((nN (q:=d.at_) (x10) hW10 hx hy (by simp only[List.length_append,List.flatMap_cons,List.flatMap_nil,List.append_nil];omega))) ?_
 rintro v14 w14 ⟨v14,hW14,st14⟩
 have x14:=st14.ext (x10) hW10.ge hW10.new
 refine ag (jY E ?_)
 exact⟨_,rfl,v14,by simpa only[fG,List.flatMap_cons,List.flatMap_nil,List.append_nil,List.append_assoc] using hW14,((dj.of_ext (x3.trans x9)).trans st10).trans st14⟩
theorem ko {T:TypeId} {wz w:World} {g:Nat} {l:List UInt8} {ps:List cg} {pv v:Value} (ez:aN wz w) (hW:gN T wz.heap.size g l v w) (hd:cu bK ps pv wz) (hw:wP ps) (hl:l.length+(iY ps).length≤4398046511104):
 Calls Tryz.prog 148 #[.pointer (some ⟨g,0,none⟩),pv] w (bE fun _ w'=>Jj T wz.heap.size g (l++iY ps) v w w'):=by
 refine enter (vs:=[.pointer (some ⟨g,0,none⟩),pv]) Tryz.func148 E E E ?_
 have hll:=hd.len
 have hpl:(iY ps).length=(uv ps.length).length+(ps.flatMap fg).length:=by simp only[iY,List.length_append]
 refine af (aa (ae E E (ae E E (aQ E E (be Mj (hd.ext ez)) (an sT E E ((sU hW ez.size (by omega) (by omega))) ?_)))))
 rintro v9 w9 ⟨v9,hW9,st9⟩
 have x9:=st9.ext ez hW.ge hW.new
 refine ag (ab (af (aa (ae E E (aQ E E (be Mj (hd.ext x9)) (ae E E (ag (ab (aH ?_)))))))))
 refine fl (fun(i:Nat) (u:Value)=>[(0,.pointer (some ⟨g,0,none⟩)),(10,pv),(11,I (ps.length:Int)),(12,I (i:Int))]) (fun(i:Nat) (u:Value) w'=>gN T wz.heap.size g (l++uv ps.length++(ps.take i).flatMap fg) u w'∧dj g v w u w'∧aN wz w'∧i≤ps.length) (fun(i:Nat) (u:Value)=>ps.length-i) (0) (v9) ⟨rfl,rfl,rfl,rfl,trivial⟩ ⟨by simpa using hW9,st9,x9,by omega⟩ ?_
 rintro i u wL ⟨hW1,st1,eL,hi⟩
 refine af (aa (al E E E (bc) (ag (ab (af ?_)))))
 refine bw E (fun h13=>?_) (fun h13=>?_)
 ·refine aC (ab (af (aH (af (aa ?_)))))
  obtain⟨a14,c14,p14,q14,h14⟩:=cf (P:=Tryz.prog) (sz:=7) Mj (by kernel_rfl) dB (by omega) hd (i:=i) (by omega) .i64
  obtain⟨e14,he14⟩:∃e,e=ps[i]'(by omega):=⟨_,rfl⟩
  rw[←he14] at h14
  obtain⟨x14_0,x14_1,rfl,f14_0,f14_1⟩:=gO h14
  refine ax E E E (p14 _) ?_
  have hm:=hw e14 (by rw[he14];exact List.getElem_mem _)
  have hfl:=fM (f:=fg) (l:=ps) (i:=i) (by omega)
  rw[←he14] at hfl
  have hml:(fg e14).length=(dt e14.kd).length+(dt e14.ix).length+(dt e14.lo).length+(dt e14.hi).length+(gj e14.co).length:=by simp only[fg,List.length_append]
  refine ak E E ((q14.ext eL).ld Mr E (by kernel_rfl)) ?_
  obtain⟨g5,w5,hr5,l5,x5,k5⟩:=aX (P:=Tryz.prog) (w:=wL) (t:=187) (z:=.agg #[I 0,I 0,I 0,I 0,B false,.slice none 0 0,.slice none 0 0]) (l:=[I 0,I 0,I 0,I 0,B false,.slice none 0 0,.slice none 0 0]) (by kernel_rfl) rfl
  refine aV E hr5 ?_
  obtain⟨w3_3,s3_3,q3_3,k3_3⟩:=k5.stS (P:=Tryz.prog) (t:=187) (m:=[I e14.kd,I e14.ix,I e14.lo,I e14.hi,B e14.co.1,x14_0,x14_1]) rfl (by kernel_rfl) (aw.cons rfl (aw.cons rfl (aw.cons rfl (aw.cons rfl (aw.cons rfl (aw.cons f14_0.one (aw.cons f14_1.one aw.nil)))))))
  refine aq E E s3_3 ?_
  have x3_3:=aN.of_new (x5) q3_3 l5
  refine ag (ab (af (aa (ae E E (ah E E (ar (o:=0) Mr E (by kernel_rfl) E) (ah E E (ar (o:=0) Mt E (by kernel_rfl) E) ?_))))))
  refine ak E E (aj Mb E (k3_3.cell (i:=0) E)) (ah E E (ar (o:=0) Mr E (by kernel_rfl) E) ?_)
  refine ah E E (ar (o:=1) Mt E (by kernel_rfl) E) (ak E E (aj Mb E (k3_3.cell (i:=1) E)) ?_)
  refine ah E E (ar (o:=0) Mr E (by kernel_rfl) E) (ah E E (ar (o:=2) Mt E (by kernel_rfl) E) ?_)
  refine ak E E (aj Mb E (k3_3.cell (i:=2) E)) (ah E E (ar (o:=0) Mr E (by kernel_rfl) E) ?_)
  refine ah E E (ar (o:=3) Mt E (by kernel_rfl) E) (ak E E (aj Mb E (k3_3.cell (i:=3) E)) ?_)
  obtain⟨v29,w29,hr29,x29,o29,ob29⟩:=GM (w:=w3_3) (w3_3).heap.size [e14.kd,e14.ix,e14.lo,e14.hi] (by simp) (Nat.le_refl _)
  refine aK (vs:=[(0,I e14.kd),(1,I e14.ix),(2,I e14.lo),(3,I e14.hi)]) E E hr29 ?_
  have hWb:=hW1.ext x3_3
  have hWc:=hWb.ext x29
  refine an pa E E ((pc (ns:=[e14.kd,e14.ix,e14.lo,e14.hi]) hWc (((eL.trans x3_3).trans x29)).size (o29.rpx (fun k hk=>hWb.off_new (o29.lt k hk).1)) (Kd hm.1 hm.2.1 hm.2.2.1 hm.2.2.2) (by simp only[List.length_append,List.length_cons,List.length_nil];omega))) ?_
  rintro v30 w30 ⟨v30,hW30,st30⟩
  have x30:=st30.ext (((eL.trans x3_3).trans x29)) hWc.ge hWc.new
  have k5a:=st30.mv.blk (k3_3.ext x29) (hW1.off_new l5)
  refine ag (ab (aa (ae rfl rfl (ah rfl rfl (ar (o:=4) Tryz.underlying187 rfl (by kernel_rfl) rfl) (ak rfl rfl (k5a.ldO (ms:=[B e14.co.1,x14_0,x14_1]) (o:=4) (fun j v hj=>by rcases j with _|_|_|_|_|_|_|_|_|j<;>simp_all) Tryz.underlying46 rfl (by kernel_rfl)) ?_)))))
  refine an nK E E ((nN (q:=e14.co) (x30) hW30 f14_0 f14_1 (by simp only[List.length_append,List.flatMap_cons,List.flatMap_nil,List.append_nil];omega))) ?_
  rintro v34 w34 ⟨v34,hW34,st34⟩
  have x34:=st34.ext (x30) hW30.ge hW30.new
  refine ag (aS (ab (aa (al (r:=I ((i+1:Nat):Int)) E E E (by have e:((i+1:Nat):Int)=(i:Int)+1:=(by omega);rw[e];exact aP (by omega) (by omega)) ?_))))
  refine ae E E (ag ?_)
  refine dE (i+1) (v34) ⟨rfl,rfl,rfl,rfl,trivial⟩ ⟨by
   rw[dw (by omega),←he14]
   simpa only[fg,List.flatMap_cons,List.flatMap_nil,List.append_nil,List.append_assoc] using hW34,((st1.trans (dj.of_ext (x3_3.trans x29))).trans st30).trans st34,x34,by omega⟩ (by omega)
 ·refine bg (aJ (aJ (bh (jY E ?_))))
  exact⟨_,rfl,u,by rw[List.take_of_length_le (by omega),List.append_assoc] at hW1;exact hW1,st1⟩
end Go.Rl
namespace Go.Rl
open Go.RowKit Go.Proofs
theorem u9 (b:Bool):(wv b).length=1:=by cases b<;>rfl
theorem pe {T:TypeId} {wz w:World} {g:Nat} {l:List UInt8} {ls:List dI} {lv v:Value} (ez:aN wz w) (hW:gN T wz.heap.size g l v w) (hd:cu cV ls lv wz) (hw:∀m∈ls,HO m) (hl:l.length+(eu ls).length≤4398046511104):
 Calls Tryz.prog 147 #[.pointer (some ⟨g,0,none⟩),lv] w (bE fun _ w'=>Jj T wz.heap.size g (l++eu ls) v w w'):=by
 refine enter (vs:=[.pointer (some ⟨g,0,none⟩),lv]) Tryz.func147 E E E ?_
 have hll:=hd.len
 have hpl:(eu ls).length=(uv ls.length).length+(ls.flatMap dY).length:=by simp only[eu,List.length_append]
 refine af (aa (ae E E (ae E E (aQ E E (be Mi (hd.ext ez)) (an sT E E ((sU hW ez.size (by omega) (by omega))) ?_)))))
 rintro v10 w10 ⟨v10,hW10,st10⟩
 have x10:=st10.ext ez hW.ge hW.new
 refine ag (ab (af (aa (ae E E (aQ E E (be Mi (hd.ext x10)) (ae E E (ag (ab (aH ?_)))))))))
 refine fl (fun(i:Nat) (u:Value)=>[(0,.pointer (some ⟨g,0,none⟩)),(11,lv),(12,I (ls.length:Int)),(13,I (i:Int))]) (fun(i:Nat) (u:Value) w'=>gN T wz.heap.size g (l++uv ls.length++(ls.take i).flatMap dY) u w'∧dj g v w u w'∧aN wz w'∧i≤ls.length) (fun(i:Nat) (u:Value)=>ls.length-i) (0) (v10) ⟨rfl,rfl,rfl,rfl,trivial⟩ ⟨by simpa using hW10,st10,x10,by omega⟩ ?_
 rintro i u wL ⟨hW1,st1,eL,hi⟩
 refine af (aa (al E E E (bc) (ag (ab (af ?_)))))
 refine bw E (fun h14=>?_) (fun h14=>?_)
 ·refine aC (ab (af (aH (af (aa ?_)))))
  obtain⟨a15,c15,p15,q15,h15⟩:=cf (P:=Tryz.prog) (sz:=6) Mi (by kernel_rfl) cG (by omega) hd (i:=i) (by omega) .i64
  obtain⟨e15,he15⟩:∃e,e=ls[i]'(by omega):=⟨_,rfl⟩
  rw[←he15] at h15
  obtain⟨x15_0,x15_1,x15_2,rfl,f15_0,f15_1,f15_2⟩:=fH h15
  refine ax E E E (p15 _) ?_
  have hm:=hw e15 (by rw[he15];exact List.getElem_mem _)
  have hfl:=fM (f:=dY) (l:=ls) (i:=i) (by omega)
  rw[←he15] at hfl
  have hbl:=u9 e15.up
  have hml:(dY e15).length=(dt e15.un).length+(wv e15.up).length+(gj e15.va).length+(iY e15.pf).length:=by simp only[dY,List.length_append]
  obtain⟨pre,hpre⟩:∃pre,pre=l++uv ls.length++(ls.take i).flatMap dY:=⟨_,rfl⟩
  have hprl:pre.length=l.length+(uv ls.length).length+((ls.take i).flatMap dY).length:=by rw[hpre];simp only[List.length_append]
  rw[←hpre] at hW1
  refine ak E E ((q15.ext eL).ld Mk E (by kernel_rfl)) ?_
  obtain⟨g5,w5,hr5,l5,x5,k5⟩:=aX (P:=Tryz.prog) (w:=wL) (t:=173) (z:=.agg #[I 0,B false,B false,.slice none 0 0,.slice none 0 0,.slice none 0 0]) (l:=[I 0,B false,B false,.slice none 0 0,.slice none 0 0,.slice none 0 0]) (by kernel_rfl) rfl
  refine aV E hr5 ?_
  obtain⟨w3_3,s3_3,q3_3,k3_3⟩:=k5.stS (P:=Tryz.prog) (t:=173) (m:=[I e15.un,B e15.up,B e15.va.1,x15_0,x15_1,x15_2]) rfl (by kernel_rfl) (aw.cons rfl (aw.cons rfl (aw.cons rfl (aw.cons f15_0.one (aw.cons f15_1.one (aw.cons f15_2.one aw.nil))))))
  refine aq E E s3_3 ?_
  have x3_3:=aN.of_new (x5) q3_3 l5
  refine ag (ab (af (aa (ae E E (ah E E (ar (o:=0) Mk E (by kernel_rfl) E) (ak E E (aj Mb E (k3_3.cell (i:=0) E)) ?_))))))
  obtain⟨v20,w20,hr20,x20,o20,ob20⟩:=GM (w:=w3_3) (w3_3).heap.size [e15.un] (by simp) (Nat.le_refl _)
  refine aK (vs:=[(0,I e15.un)]) E E hr20 ?_
  have hWb:=hW1.ext x3_3
  have hWc:=hWb.ext x20
  refine an pa E E ((pc (ns:=[e15.un]) hWc (((eL.trans x3_3).trans x20)).size (o20.rpx (fun k hk=>hWb.off_new (o20.lt k hk).1)) (LS hm.1) (by simp only[List.length_cons,List.length_nil];omega))) ?_
  rintro v21 w21 ⟨v21,hW21,st21⟩
  have x21:=st21.ext (((eL.trans x3_3).trans x20)) hWc.ge hWc.new
  have n5:=hW1.off_new l5
  have k5a:=st21.mv.blk (k3_3.ext x20) n5
  have n5a:=st21.off n5 (k3_3.ext x20).lt
  have kg:=hW21.blk
  have hc1:[e15.un].flatMap dt=dt e15.un:=by simp only[List.flatMap_cons,List.flatMap_nil,List.append_nil]
  rw[hc1] at hW21
  refine ag (ab (af (aa (ac E E (ag (ab (af (af (aa (ah E E (ar (o:=1) Mk E (by kernel_rfl) E) ?_))))))))))
  refine ak E E (aj Me E (k5a.cell (i:=1) E)) (ag (ab ?_))
  refine fQ E (fun h23=>?_) (fun h23=>?_)
  ·have hbit:wv e15.up=[1]:=by rw[h23];rfl
   refine aa (ac E E (ag (ab (af (aa (ae E E (ae E E (ay E E ?_))))))))
   refine ah E E jJ ?_
   refine ak E E (aj Md E kg.k0) (ae E E ?_)
   obtain⟨v30,w30,hr30,x30,o30,ob30⟩:=dX (w:=w21) w21.heap.size [1] (by simp) (Nat.le_refl _)
   refine aK (vs:=[(0,U8 1)]) E E hr30 ?_
   obtain⟨v31,wa31,wb31,hr31,hs31,hW31,st31⟩:=gN.put (t:=22) (t2:=22) (ty:=22) Tryz.underlying22 jI Tryz.underlying22 (hW21.ext x30) ((x21.trans x30)).size o30.bts (by simp) (by simp only[List.length_append,List.length_cons,List.length_nil];omega)
   refine ba E E hr31 ?_
   refine ay E E ?_
   refine ah E E jJ ?_
   refine aq E E hs31 ?_
   have x31:=st31.ext ((x21.trans x30)) (hW21.ext x30).ge (hW21.ext x30).new
   have k5b:=st31.mv.blk (k5a.ext x30) n5a
   have n5b:=st31.off n5a (k5a.ext x30).lt
   rw[←hbit] at hW31
   refine ag (ab (af (aa (ae rfl rfl (ah rfl rfl (ar (o:=2) Tryz.underlying173 rfl (by kernel_rfl) rfl) (ak rfl rfl (k5b.ldO (ms:=[B e15.va.1,x15_0,x15_1]) (o:=2) (fun j v hj=>by rcases j with _|_|_|_|_|_|_|_|_|j<;>simp_all) Tryz.underlying46 rfl (by kernel_rfl)) ?_))))))
   refine an nK E E ((nN (q:=e15.va) (x31) hW31 f15_0 f15_1 (by simp only[List.length_append];omega))) ?_
   rintro v37 w37 ⟨v37,hW37,st37⟩
   have x37:=st37.ext (x31) hW31.ge hW31.new
   have k5c:=st37.mv.blk k5b n5b
   refine ag (ab (aa (ae E E (ah E E (ar (o:=5) Mk E (by kernel_rfl) E) (ak E E (aj Mj E (k5c.cell (i:=5) E)) ?_)))))
   refine an km E E ((ko (ps:=e15.pf) (x37) hW37 f15_2 hm.2 (by simp only[List.length_append];omega))) ?_
   rintro v41 w41 ⟨v41,hW41,st41⟩
   have x41:=st41.ext (x37) hW37.ge hW37.new
   refine ag (aS (ab (aa (al (r:=I ((i+1:Nat):Int)) E E E (by have e:((i+1:Nat):Int)=(i:Int)+1:=(by omega);rw[e];exact aP (by omega) (by omega)) ?_))))
   refine ae E E (ag ?_)
   refine dE (i+1) (v41) ⟨rfl,rfl,rfl,rfl,trivial⟩ ⟨by
    rw[dw (by omega),←he15,←List.append_assoc,←hpre]
    simpa only[dY,List.append_assoc] using hW41,((((st1.trans (dj.of_ext (x3_3.trans x20))).trans st21).trans ((dj.of_ext x30).trans st31)).trans st37).trans st41,x41,by omega⟩ (by omega)
  ·have hbit:wv e15.up=[0]:=by rw[h23];rfl
   refine aC (ab (af (aa (ae E E (ae E E (ay E E ?_))))))
   refine ah E E jJ ?_
   refine ak E E (aj Md E kg.k0) (ae E E ?_)
   obtain⟨v30,w30,hr30,x30,o30,ob30⟩:=dX (w:=w21) w21.heap.size [0] (by simp) (Nat.le_refl _)
   refine aK (vs:=[(0,U8 0)]) E E hr30 ?_
   obtain⟨v31,wa31,wb31,hr31,hs31,hW31,st31⟩:=gN.put (t:=22) (t2:=22) (ty:=22) Tryz.underlying22 jI Tryz.underlying22 (hW21.ext x30) ((x21.trans x30)).size o30.bts (by simp) (by simp only[List.length_append,List.length_cons,List.length_nil];omega)
   refine ba E E hr31 ?_
   refine ay E E ?_
   refine ah E E jJ ?_
   refine aq E E hs31 ?_
   have x31:=st31.ext ((x21.trans x30)) (hW21.ext x30).ge (hW21.ext x30).new
   have k5b:=st31.mv.blk (k5a.ext x30) n5a
   have n5b:=st31.off n5a (k5a.ext x30).lt
   rw[←hbit] at hW31
   refine ag (ab (af (aa (ae rfl rfl (ah rfl rfl (ar (o:=2) Tryz.underlying173 rfl (by kernel_rfl) rfl) (ak rfl rfl (k5b.ldO (ms:=[B e15.va.1,x15_0,x15_1]) (o:=2) (fun j v hj=>by rcases j with _|_|_|_|_|_|_|_|_|j<;>simp_all) Tryz.underlying46 rfl (by kernel_rfl)) ?_))))))
   refine an nK E E ((nN (q:=e15.va) (x31) hW31 f15_0 f15_1 (by simp only[List.length_append];omega))) ?_
   rintro v37 w37 ⟨v37,hW37,st37⟩
   have x37:=st37.ext (x31) hW31.ge hW31.new
   have k5c:=st37.mv.blk k5b n5b
   refine ag (ab (aa (ae E E (ah E E (ar (o:=5) Mk E (by kernel_rfl) E) (ak E E (aj Mj E (k5c.cell (i:=5) E)) ?_)))))
   refine an km E E ((ko (ps:=e15.pf) (x37) hW37 f15_2 hm.2 (by simp only[List.length_append];omega))) ?_
   rintro v41 w41 ⟨v41,hW41,st41⟩
   have x41:=st41.ext (x37) hW37.ge hW37.new
   refine ag (aS (ab (aa (al (r:=I ((i+1:Nat):Int)) E E E (by have e:((i+1:Nat):Int)=(i:Int)+1:=(by omega);rw[e];exact aP (by omega) (by omega)) ?_))))
   refine ae E E (ag ?_)
   refine dE (i+1) (v41) ⟨rfl,rfl,rfl,rfl,trivial⟩ ⟨by
    rw[dw (by omega),←he15,←List.append_assoc,←hpre]
    simpa only[dY,List.append_assoc] using hW41,((((st1.trans (dj.of_ext (x3_3.trans x20))).trans st21).trans ((dj.of_ext x30).trans st31)).trans st37).trans st41,x41,by omega⟩ (by omega)
 ·refine bg (aJ (aJ (bh (jY E ?_))))
  exact⟨_,rfl,u,by rw[List.take_of_length_le (by omega),List.append_assoc] at hW1;exact hW1,st1⟩
theorem B7 {T:TypeId} {wz w:World} {g:Nat} {l:List UInt8} {n:aZ} {vl x y vk vp v:Value}
 (ih:∀k∈n.kids,∀{w:World} {l:List UInt8} {vl x y vk vp v:Value},aN wz w→gN T wz.heap.size g l v w→cu cV k.lems vl wz→bt k.split.at_.2.1 x wz→bt k.split.at_.2.2 y wz→cu bH k.kids vk wz→cu bK k.pf vp wz→wN k→l.length+(dF k).length≤4398046511104→
   Calls Tryz.prog 115 #[.pointer (some ⟨g,0,none⟩),.agg #[vl,I k.split.kd,I k.split.ix,B k.split.at_.1,x,y,vk,B k.empty,vp]] w (bE fun _ w'=>Jj T wz.heap.size g (l++dF k) v w w'))
 (ez:aN wz w) (hW:gN T wz.heap.size g l v w) (hl:cu cV n.lems vl wz) (hx:bt n.split.at_.2.1 x wz) (hy:bt n.split.at_.2.2 y wz) (hk:cu bH n.kids vk wz) (hp:cu bK n.pf vp wz) (hw:wN n) (hb:l.length+(dF n).length≤4398046511104):
 Calls Tryz.prog 115 #[.pointer (some ⟨g,0,none⟩),.agg #[vl,I n.split.kd,I n.split.ix,B n.split.at_.1,x,y,vk,B n.empty,vp]] w (bE fun _ w'=>Jj T wz.heap.size g (l++dF n) v w w'):=by
 refine enter (vs:=[.pointer (some ⟨g,0,none⟩),.agg #[vl,I n.split.kd,I n.split.ix,B n.split.at_.1,x,y,vk,B n.empty,vp]]) Tryz.func115 E E E ?_
 have hll:=hk.len
 obtain⟨wl,wd,wp,wk⟩:=(tX n).1 hw
 have hen:=mV n
 refine af (aa ?_)
 obtain⟨g3,w3,hr3,l3,x3,k3⟩:=cD (P:=Tryz.prog) (w:=w) (T:=52) (cs:=[vl,I n.split.kd,I n.split.ix,B n.split.at_.1,x,y,vk,B n.empty,vp])
 refine cI E E hr3 (ag (ab (af (aa (ac E E (ag (ab (af (aH (af (aa (ah E E (ar (o:=6) L6 E (by kernel_rfl) E) ?_))))))))))))
 refine ak E E (aj Mh E (k3.cell (i:=6) E)) (aQ E E (be Mh (hk.ext (ez.trans x3))) ?_)
 refine al E E E (bU) (ac E E (ag (ab ?_)))
 refine bw E (fun h7=>?_) (fun h7=>?_)
 ·have h0:¬n.kids.length=0:=by omega
  rw[if_neg h0] at hen
  have hel:(dF n).length=1+(eu n.lems).length+(fG n.split).length+(n.kids.flatMap dF).length:=by rw[hen];simp only[List.length_append,List.length_cons,List.length_nil]
  refine aa (ac E E (ag (aS (ab (af ?_)))))
  have hW3:=hW.ext x3
  have kg:=hW3.blk
  have n3:=hW.off_new l3
  refine aa (ae E E (ae E E (ay E E ?_)))
  refine ah E E jJ ?_
  refine ak E E (aj Md E kg.k0) (ae E E ?_)
  obtain⟨v21,w21,hr21,x21,o21,ob21⟩:=dX (w:=w3) w3.heap.size [2] (by simp) (Nat.le_refl _)
  refine aK (vs:=[(0,U8 2)]) E E hr21 ?_
  obtain⟨v22,wa22,wb22,hr22,hs22,hW22,st22⟩:=gN.put (t:=22) (t2:=22) (ty:=22) Tryz.underlying22 jI Tryz.underlying22 (hW3.ext x21) (((ez.trans x3).trans x21)).size o21.bts (by simp) (by simp only[List.length_cons,List.length_nil];omega)
  refine ba E E hr22 ?_
  refine ay E E ?_
  refine ah E E jJ ?_
  refine aq E E hs22 ?_
  have x22:=st22.ext (((ez.trans x3).trans x21)) (hW3.ext x21).ge (hW3.ext x21).new
  have k3a:=st22.mv.blk (k3.ext x21) n3
  have n3a:=st22.off n3 (k3.ext x21).lt
  refine ag (ab (af (aa (ae E E (ah E E (ar (o:=0) L6 E (by kernel_rfl) E) (ak E E (aj Mi E (k3a.cell (i:=0) E)) ?_))))))
  refine an pb E E ((pe (ls:=n.lems) (x22) hW22 hl wl (by simp only[List.length_append,List.length_cons,List.length_nil];omega))) ?_
  rintro v28 w28 ⟨v28,hW28,st28⟩
  have x28:=st28.ext (x22) hW22.ge hW22.new
  have k3b:=st28.mv.blk k3a n3a
  have n3b:=st28.off n3a k3a.lt
  refine ag (ab (af (af (aa (ae E E ?_)))))
  refine al (u:=U8 2) (v:=U8 2) (r:=B false) E E E (cW (show ¬(2:UInt8)<2 by decide) kI) ?_
  refine ag (ab (cp E (aC (ab (af (aa (ae E E (ah E E (ar (o:=1) L6 E (by kernel_rfl) E) ?_))))))))
  refine ak rfl rfl (k3b.ldO (ms:=[I n.split.kd,I n.split.ix,B n.split.at_.1,x,y]) (o:=1) (fun j v hj=>by rcases j with _|_|_|_|_|_|_|_|_|j<;>simp_all) Tryz.underlying48 rfl (by kernel_rfl)) ?_
  refine an Do E E ((Dq (d:=n.split) (x28) hW28 hx hy wd (by simp only[List.length_append,List.length_cons,List.length_nil];omega))) ?_
  rintro v38 w38 ⟨v38,hW38,st38⟩
  have x38:=st38.ext (x28) hW28.ge hW28.new
  have k3c:=st38.mv.blk k3b n3b
  obtain⟨pre,hpre⟩:∃pre,pre=l++[2]++eu n.lems++fG n.split:=⟨_,rfl⟩
  have hprl:pre.length=l.length+1+(eu n.lems).length+(fG n.split).length:=by rw[hpre];simp only[List.length_append,List.length_cons,List.length_nil]
  rw[←hpre] at hW38
  refine ag (ab (af (aa (ah E E (ar (o:=6) L6 E (by kernel_rfl) E) (ak E E (aj Mh E (k3c.cell (i:=6) E)) ?_)))))
  refine aQ E E (be (f:=bH) Mh (hk.ext (x38))) ?_
  refine ae E E (ag (ab (aH ?_)))
  refine fl (fun(i:Nat) (u:Value)=>[(0,.pointer (some ⟨g,0,none⟩)),(40,vk),(41,I (n.kids.length:Int)),(42,I (i:Int))]) (fun(i:Nat) (u:Value) w'=>gN T wz.heap.size g (pre++(n.kids.take i).flatMap dF) u w'∧dj g v w u w'∧aN wz w'∧i≤n.kids.length) (fun(i:Nat) (u:Value)=>n.kids.length-i) (0) (v38) ⟨rfl,rfl,rfl,rfl,trivial⟩ ⟨by simpa using hW38,(((dj.of_ext (x3.trans x21)).trans st22).trans st28).trans st38,x38,by omega⟩ ?_
  rintro i u wL ⟨hW1,st1,eL,hi⟩
  refine af (aa (al E E E (bc) (ag (ab (af ?_)))))
  refine bw E (fun h43=>?_) (fun h43=>?_)
  ·refine aC (ab (af (aH (af (aa ?_)))))
   obtain⟨a44,c44,p44,q44,h44⟩:=cf (P:=Tryz.prog) (sz:=9) Mh (by kernel_rfl) cE (by omega) hk (i:=i) (by omega) .i64
   obtain⟨e44,he44⟩:∃e,e=n.kids[i]'(by omega):=⟨_,rfl⟩
   rw[←he44] at h44
   obtain⟨x44_0,x44_1,x44_2,x44_3,x44_4,rfl,f44_0,f44_1,f44_2,f44_3,f44_4⟩:=dW h44
   refine ax E E E (p44 _) ?_
   have hfl:=fM (f:=dF) (l:=n.kids) (i:=i) (by omega)
   rw[←he44] at hfl
   have hmem:e44∈n.kids:=by rw[he44];exact List.getElem_mem _
   refine ak E E ((q44.ext eL).ld L6 E (by kernel_rfl)) ?_
   obtain⟨g6,w6,hr6,l6,x6,k6⟩:=aX (P:=Tryz.prog) (w:=wL) (t:=52) (z:=.agg #[.slice none 0 0,I 0,I 0,B false,.slice none 0 0,.slice none 0 0,.slice none 0 0,B false,.slice none 0 0]) (l:=[.slice none 0 0,I 0,I 0,B false,.slice none 0 0,.slice none 0 0,.slice none 0 0,B false,.slice none 0 0]) (by kernel_rfl) rfl
   refine aV E hr6 ?_
   obtain⟨w13_3,s13_3,q13_3,k13_3⟩:=k6.stS (P:=Tryz.prog) (t:=52) (m:=[x44_0,I e44.split.kd,I e44.split.ix,B e44.split.at_.1,x44_1,x44_2,x44_3,B e44.empty,x44_4]) rfl (by kernel_rfl) (aw.cons f44_0.one (aw.cons rfl (aw.cons rfl (aw.cons rfl (aw.cons f44_1.one (aw.cons f44_2.one (aw.cons f44_3.one (aw.cons rfl (aw.cons f44_4.one aw.nil)))))))))
   refine aq E E s13_3 ?_
   have x13_3:=aN.of_new (x6) q13_3 l6
   refine ag (ab (aa (ae E E (ak E E (k13_3.ld Tryz.underlying52 E (by kernel_rfl)) (an uI E E ((ih e44 hmem ((eL.trans x13_3)) (hW1.ext x13_3) f44_0 f44_1 f44_2 f44_3 f44_4 (wk e44 hmem) (by simp only[List.length_append];omega))) ?_)))))
   rintro v48 w48 ⟨v48,hW48,st48⟩
   have x48:=st48.ext ((eL.trans x13_3)) hW1.ge hW1.new
   refine ag (aS (ab (aa (al (r:=I ((i+1:Nat):Int)) E E E (by have e:((i+1:Nat):Int)=(i:Int)+1:=(by omega);rw[e];exact aP (by omega) (by omega)) ?_))))
   refine ae E E (ag ?_)
   refine dE (i+1) (v48) ⟨rfl,rfl,rfl,rfl,trivial⟩ ⟨by rw[dw (by omega),←he44,←List.append_assoc];exact hW48,(st1.trans (dj.of_ext x13_3)).trans st48,x48,by omega⟩ (by omega)
  ·refine bg (aJ (aJ (bh (jY E ?_))))
   exact⟨_,rfl,u,by rw[List.take_of_length_le (by omega),hpre] at hW1;rw[hen];simpa only[List.append_assoc] using hW1,st1⟩
 ·have h0:n.kids.length=0:=by omega
  rw[if_pos h0] at hen
  have hel:(dF n).length=1+(eu n.lems).length+(iY n.pf).length:=by rw[hen];simp only[List.length_append,u9]
  refine af (aa (ah E E (ar (o:=7) L6 E (by kernel_rfl) E) (ak E E (aj Me E (k3.cell (i:=7) E)) ?_)))
  refine ac E E (ag (ab ?_))
  refine fQ E (fun h12=>?_) (fun h12=>?_)
  ·have hbit:wv n.empty=[1]:=by rw[h12];rfl
   refine aa (ac E E (ag (aS (ab (af ?_)))))
   have hW3:=hW.ext x3
   have kg:=hW3.blk
   have n3:=hW.off_new l3
   refine aa (ae E E (ae E E (ay E E ?_)))
   refine ah E E jJ ?_
   refine ak E E (aj Md E kg.k0) (ae E E ?_)
   obtain⟨v21,w21,hr21,x21,o21,ob21⟩:=dX (w:=w3) w3.heap.size [1] (by simp) (Nat.le_refl _)
   refine aK (vs:=[(0,U8 1)]) E E hr21 ?_
   obtain⟨v22,wa22,wb22,hr22,hs22,hW22,st22⟩:=gN.put (t:=22) (t2:=22) (ty:=22) Tryz.underlying22 jI Tryz.underlying22 (hW3.ext x21) (((ez.trans x3).trans x21)).size o21.bts (by simp) (by simp only[List.length_cons,List.length_nil];omega)
   refine ba E E hr22 ?_
   refine ay E E ?_
   refine ah E E jJ ?_
   refine aq E E hs22 ?_
   have x22:=st22.ext (((ez.trans x3).trans x21)) (hW3.ext x21).ge (hW3.ext x21).new
   have k3a:=st22.mv.blk (k3.ext x21) n3
   have n3a:=st22.off n3 (k3.ext x21).lt
   refine ag (ab (af (aa (ae E E (ah E E (ar (o:=0) L6 E (by kernel_rfl) E) (ak E E (aj Mi E (k3a.cell (i:=0) E)) ?_))))))
   refine an pb E E ((pe (ls:=n.lems) (x22) hW22 hl wl (by simp only[List.length_append,List.length_cons,List.length_nil];omega))) ?_
   rintro v28 w28 ⟨v28,hW28,st28⟩
   have x28:=st28.ext (x22) hW22.ge hW22.new
   have k3b:=st28.mv.blk k3a n3a
   have n3b:=st28.off n3a k3a.lt
   refine ag (ab (af (af (aa (ae E E ?_)))))
   refine al (u:=U8 1) (v:=U8 2) (r:=B true) E E E (cw (show(1:UInt8)<2 by decide) kI) ?_
   refine ag (ab (bf E (af (aa (ae E E (ah E E (ar (o:=8) L6 E (by kernel_rfl) E) (ak E E (aj Mj E (k3b.cell (i:=8) E)) ?_)))))))
   refine an km E E ((ko (ps:=n.pf) (x28) hW28 hp wp (by simp only[List.length_append,List.length_cons,List.length_nil];omega))) ?_
   rintro v34 w34 ⟨v34,hW34,st34⟩
   have x34:=st34.ext (x28) hW28.ge hW28.new
   refine ag (ab (au (az (DV E ?_))))
   exact⟨_,rfl,v34,by rw[hen,hbit];simpa only[List.append_assoc] using hW34,(((dj.of_ext (x3.trans x21)).trans st22).trans st28).trans st34⟩
  ·have hbit:wv n.empty=[0]:=by rw[h12];rfl
   refine aC (aS (ab (af ?_)))
   have hW3:=hW.ext x3
   have kg:=hW3.blk
   have n3:=hW.off_new l3
   refine aa (ae E E (ae E E (ay E E ?_)))
   refine ah E E jJ ?_
   refine ak E E (aj Md E kg.k0) (ae E E ?_)
   obtain⟨v21,w21,hr21,x21,o21,ob21⟩:=dX (w:=w3) w3.heap.size [0] (by simp) (Nat.le_refl _)
   refine aK (vs:=[(0,U8 0)]) E E hr21 ?_
   obtain⟨v22,wa22,wb22,hr22,hs22,hW22,st22⟩:=gN.put (t:=22) (t2:=22) (ty:=22) Tryz.underlying22 jI Tryz.underlying22 (hW3.ext x21) (((ez.trans x3).trans x21)).size o21.bts (by simp) (by simp only[List.length_cons,List.length_nil];omega)
   refine ba E E hr22 ?_
   refine ay E E ?_
   refine ah E E jJ ?_
   refine aq E E hs22 ?_
   have x22:=st22.ext (((ez.trans x3).trans x21)) (hW3.ext x21).ge (hW3.ext x21).new
   have k3a:=st22.mv.blk (k3.ext x21) n3
   have n3a:=st22.off n3 (k3.ext x21).lt
   refine ag (ab (af (aa (ae E E (ah E E (ar (o:=0) L6 E (by kernel_rfl) E) (ak E E (aj Mi E (k3a.cell (i:=0) E)) ?_))))))
   refine an pb E E ((pe (ls:=n.lems) (x22) hW22 hl wl (by simp only[List.length_append,List.length_cons,List.length_nil];omega))) ?_
   rintro v28 w28 ⟨v28,hW28,st28⟩
   have x28:=st28.ext (x22) hW22.ge hW22.new
   have k3b:=st28.mv.blk k3a n3a
   have n3b:=st28.off n3a k3a.lt
   refine ag (ab (af (af (aa (ae E E ?_)))))
   refine al (u:=U8 0) (v:=U8 2) (r:=B true) E E E (cw (show(0:UInt8)<2 by decide) kI) ?_
   refine ag (ab (bf E (af (aa (ae E E (ah E E (ar (o:=8) L6 E (by kernel_rfl) E) (ak E E (aj Mj E (k3b.cell (i:=8) E)) ?_)))))))
   refine an km E E ((ko (ps:=n.pf) (x28) hW28 hp wp (by simp only[List.length_append,List.length_cons,List.length_nil];omega))) ?_
   rintro v34 w34 ⟨v34,hW34,st34⟩
   have x34:=st34.ext (x28) hW28.ge hW28.new
   refine ag (ab (au (az (DV E ?_))))
   exact⟨_,rfl,v34,by rw[hen,hbit];simpa only[List.append_assoc] using hW34,(((dj.of_ext (x3.trans x21)).trans st22).trans st28).trans st34⟩
theorem uJ {T:TypeId} {wz:World} {g:Nat}:∀(m:Nat) {n:aZ},SizeOf.sizeOf n≤m→∀{w:World} {l:List UInt8} {vl x y vk vp v:Value},aN wz w→gN T wz.heap.size g l v w→cu cV n.lems vl wz→bt n.split.at_.2.1 x wz→bt n.split.at_.2.2 y wz→cu bH n.kids vk wz→cu bK n.pf vp wz→wN n→l.length+(dF n).length≤4398046511104→
 Calls Tryz.prog 115 #[.pointer (some ⟨g,0,none⟩),.agg #[vl,I n.split.kd,I n.split.ix,B n.split.at_.1,x,y,vk,B n.empty,vp]] w (bE fun _ w'=>Jj T wz.heap.size g (l++dF n) v w w')
 |0,n,hm=>by cases n;simp at hm
 |m+1,n,hm=>fun h1 h2 h3 h4 h5 h6 h7 h8 h9=>B7 (fun k hk _ _ _ _ _ _ _ _=>uJ m (by have:=aZ.lt_of_mem hk;omega)) h1 h2 h3 h4 h5 h6 h7 h8 h9
theorem gN.mk1 {T:TypeId} {w0 w w':World} {g:Nat} {l:List UInt8} {v:Value} (e:aN w0 w) (ho:df w0.heap.size l v w) (x:aN w w') (hg:w.heap.size≤g) (k:cr g T [v] w'):gN T w0.heap.size g l v w':=
 ⟨Nat.le_trans e.size hg,k,.inl (ho.ext x),ho.ge,fun h=>by have:=ho.lt g h;omega,fun n hn=>Nat.lt_of_lt_of_le (ho.lt n hn) x.size⟩
theorem Dr {w:World} {b:List UInt8} {bv:Value} {n:aZ} {vl x y vk vp:Value} (hbv:cn b bv w) (hl:cu cV n.lems vl w) (hx:bt n.split.at_.2.1 x w) (hy:bt n.split.at_.2.2 y w) (hk:cu bH n.kids vk w) (hp:cu bK n.pf vp w) (hw:wN n) (hb:b.length+(dF n).length≤4398046511104):
 Calls Tryz.prog 77 #[bv,.agg #[vl,I n.split.kd,I n.split.ix,B n.split.at_.1,x,y,vk,B n.empty,vp]] w (bE fun r w'=>aN w w'∧cn (b++dF n) r w'):=by
 refine enter (vs:=[bv,.agg #[vl,I n.split.kd,I n.split.ix,B n.split.at_.1,x,y,vk,B n.empty,vp]]) Tryz.func77 E E E ?_
 refine af (aa ?_)
 obtain⟨g3,w3,hr3,l3,x3,k3⟩:=cD (P:=Tryz.prog) (w:=w) (T:=52) (cs:=[vl,I n.split.kd,I n.split.ix,B n.split.at_.1,x,y,vk,B n.empty,vp])
 refine cI E E hr3 (ac E E (ag (ab (af (aa ?_)))))
 obtain⟨v6,w6,hr6,x6,o6,ob6⟩:=dX (w:=w3) w3.heap.size [] (by simp) (Nat.le_refl _)
 refine aK (vs:=[]) E E hr6 (ae E E ?_)
 obtain⟨v8,w8,hr8,o8,g8⟩:=c6 (ty:=22) o6 (hbv.ext (x3.trans x6)) (by simp;omega) (x6).size
 have x8:=aN.of_grew (x6) g8 o6.ge
 refine ba E E hr8 ?_
 have o8w:df w.heap.size b v8 w8:=by have:=o8;rw[List.nil_append] at this;exact this.low x3.size
 obtain⟨A8,n8,c8,e8,_⟩:=o8w.bts
 refine bC (vs:=[(0,v8)]) (r:=.agg #[v8]) E E (by rw[e8];exact run_build _ _ _ _ (by kernel_rfl)) ?_
 obtain⟨g10,w10,hr10,l10,x10,k10⟩:=cD (P:=Tryz.prog) (w:=w8) (T:=142) (cs:=[v8])
 refine cI E E hr10 ?_
 have hW10:gN 142 w.heap.size g10 b v8 w10:=gN.mk1 ((x3.trans x8)) o8w x10 l10 k10
 refine ac E E (ag (ab (af (aa (ae E E (ak E E ((k3.ext (x8.trans x10)).ld L6 E (by kernel_rfl)) ?_))))))
 refine an uI E E ((uJ _ (Nat.le_refl _) (((x3.trans x8).trans x10)) hW10 hl hx hy hk hp hw hb)) ?_
 rintro v13 w13 ⟨v13,hW13,st13⟩
 have x13:=st13.ext (((x3.trans x8).trans x10)) hW10.ge hW10.new
 refine ag (ab (af ?_))
 have kg:=hW13.blk
 refine aa (ae E E (ay E E ?_))
 refine ah E E jJ ?_
 refine ak E E (aj Md E kg.k0) (ac E E (ag (ab (au (aA E E ?_)))))
 exact⟨_,rfl,x13,hW13.row.bts⟩
end Go.Rl
namespace Go.Rl
open Go.RowKit Go.Proofs
end Go.Rl
namespace Go.Rl
open Go.RowKit Go.Proofs Go.Proofs.YtpeidnhjcompmaaGreatDoor
theorem jl:aG Tryz.prog 110:=⟨_,Tryz.func110,by kernel_rfl,rfl⟩
theorem fN:aG Tryz.prog 109:=⟨_,Tryz.func109,by kernel_rfl,rfl⟩
def F9 (k:Int):Int:=if k=1 then 2 else if k=2 then 1 else if k=3 then 4 else if k=4 then 3 else k
def dG (d:bV):bV:=⟨F9 d.kd,d.ix,d.at_⟩
theorem H6 {k:Int} (h:¬(k>0∧k<5)):F9 k=k:=by
 unfold F9
 repeat rw[if_neg (by omega)]
theorem H7 {w:World} (h:z8 w) {k:Int} (h1:k>0) (h2:k<5):∃j:Nat,k=(j:Int)∧j<5∧w.cell? ⟨0,0+j,none⟩=some (I (F9 k)):=by
 have hc:∀(j:Nat) (u:Value),[I 0,I 2,I 1,I 4,I 3][j]? =some u→w.cell? ⟨0,0+j,none⟩=some u:=fun j u hu=>by
  have:=h j u hu
  rwa [Addr.add_mid] at this
 obtain⟨j,rfl⟩:∃j:Nat,k=(j:Int):=⟨k.toNat,by omega⟩
 refine⟨j,rfl,by omega,?_⟩
 have:j=1∨j=2∨j=3∨j=4:=by omega
 rcases this with rfl|rfl|rfl|rfl
 ·exact hc 1 _ rfl
 ·exact hc 2 _ rfl
 ·exact hc 3 _ rfl
 ·exact hc 4 _ rfl
theorem pg:(Tryz.prog.info? 48).map (fun i=>(i.zero,i.size,i.bytes))=some (some (.agg #[I 0,I 0,B false,.slice none 0 0,.slice none 0 0]),5,72):=by kernel_rfl
theorem y9:(Tryz.prog.info? 48).map (fun i=>(i.zero,i.size))=some (some (.agg #[I 0,I 0,B false,.slice none 0 0,.slice none 0 0]),5):=by kernel_rfl
theorem Ca {d:bV} (h:¬(d.kd>0∧d.kd<5)):dG d=d:=by
 unfold dG
 rw[H6 h]
theorem jm {w:World} {d:bV} {x y:Value} (ho:z8 w) (hx:bt d.at_.2.1 x w) (hy:bt d.at_.2.2 y w):
 Calls Tryz.prog 110 #[.agg #[I d.kd,I d.ix,B d.at_.1,x,y]] w (bE fun r w'=>aN w w'∧r=.agg #[I (dG d).kd,I (dG d).ix,B (dG d).at_.1,x,y]):=by
 refine enter (vs:=[.agg #[I d.kd,I d.ix,B d.at_.1,x,y]]) Tryz.func110 E E E ?_
 refine af (aa ?_)
 obtain⟨g1,w1,hr1,l1,x1,k1⟩:=cD (P:=Tryz.prog) (w:=w) (T:=48) (cs:=[I d.kd,I d.ix,B d.at_.1,x,y])
 refine cI E E hr1 ?_
 obtain⟨g2,w2,hr2,l2,x2,k2⟩:=aX (P:=Tryz.prog) (w:=w1) (t:=48) (z:=.agg #[I 0,I 0,B false,.slice none 0 0,.slice none 0 0]) (l:=[I 0,I 0,B false,.slice none 0 0,.slice none 0 0]) (by kernel_rfl) rfl
 refine aV E hr2 (ag (ab (af (af (aa (ah E E (ar (o:=0) Ma E (by kernel_rfl) E) (ak E E (aj Mb E (x2.cell_some (k1.cell (i:=0) E))) ?_)))))))
 refine al E E E (bU) (ae E E ?_)
 refine cb (fun h6=>?_) (fun h6=>?_)
 ·refine ai E (ah E E (ar (o:=0) Ma E (by kernel_rfl) E) (ai E (ak E E (aj Mb E (x2.cell_some (k1.cell (i:=0) E))) ?_)))
  refine ai E (al E E E (bc) (ap E E E (ag (ab ?_))))
  refine bw E (fun h10=>?_) (fun h10=>?_)
  ·have h10:d.kd<5:=h10
   obtain⟨j,hj,hj5,cj⟩:=H7 (ho.ext (x1.trans x2)) h6 h10
   refine aa (ah E E (ar (o:=0) Ma E (by kernel_rfl) E) (ak E E (aj Mb E (x2.cell_some (k1.cell (i:=0) E))) ?_))
   refine ax (v:=.int .i64 (j:Int)) E (by rw[hj];rfl) E (iH Tryz.underlying225 (by kernel_rfl) hj5 .i64) ?_
   refine ak E E (aj Mb E cj) (ah E E (ar (o:=0) Ma E (by kernel_rfl) E) ?_)
   obtain⟨w2_5,s2_5,q2_5,k2_5⟩:=(k1.ext x2).stC (P:=Tryz.prog) (t:=3) (i:=0) (v:=I (F9 d.kd)) (by kernel_rfl) rfl (by simp)
   refine aq E E s2_5 ?_
   have x2_5:=aN.of_new ((x1.trans x2)) q2_5 l1
   have k25:=k2.other q2_5 (fun e=>by have:=Option.some.inj e;have:=k1.lt;omega)
   refine ag (ab (af (aa (ak E E (k2_5.ld Ma E (by kernel_rfl)) ?_))))
   obtain⟨w3_1,s3_1,q3_1,k3_1⟩:=k25.stS (P:=Tryz.prog) (t:=48) (m:=[I (F9 d.kd),I d.ix,B d.at_.1,x,y]) rfl (by kernel_rfl) (aw.cons rfl (aw.cons rfl (aw.cons rfl (aw.cons hx.one (aw.cons hy.one aw.nil)))))
   refine aq E E s3_1 ?_
   have x3_1:=aN.of_new x2_5 q3_1 (Nat.le_trans x1.size l2)
   refine ag (ab (au ?_))
   refine dv E E k3_1 Ma E (by kernel_rfl) ?_
   exact⟨_,rfl,x3_1,rfl⟩
  ·have h10:¬d.kd<5:=h10
   refine aC (ab (af (aa (ak E E ((k1.ext x2).ld Ma E (by kernel_rfl)) ?_))))
   obtain⟨w3_1,s3_1,q3_1,k3_1⟩:=k2.stS (P:=Tryz.prog) (t:=48) (m:=[I d.kd,I d.ix,B d.at_.1,x,y]) rfl (by kernel_rfl) (aw.cons rfl (aw.cons rfl (aw.cons rfl (aw.cons hx.one (aw.cons hy.one aw.nil)))))
   refine aq E E s3_1 ?_
   have x3_1:=aN.of_new (x2) q3_1 l2
   refine ag (ab (au ?_))
   refine dv E E k3_1 Ma E (by kernel_rfl) ?_
   exact⟨_,rfl,(x1.trans x3_1),by rw[Ca (by first|exact fun h=>h6 h.1|exact fun h=>h10 h.2)]⟩
 ·refine ao E E E (ao E E E (ao E E E (aE E E E (ag (ab (cp E (aC (ab (af (aa (ak E E ((k1.ext x2).ld Ma E (by kernel_rfl)) ?_)))))))))))
  obtain⟨w3_1,s3_1,q3_1,k3_1⟩:=k2.stS (P:=Tryz.prog) (t:=48) (m:=[I d.kd,I d.ix,B d.at_.1,x,y]) rfl (by kernel_rfl) (aw.cons rfl (aw.cons rfl (aw.cons rfl (aw.cons hx.one (aw.cons hy.one aw.nil)))))
  refine aq E E s3_1 ?_
  have x3_1:=aN.of_new (x2) q3_1 l2
  refine ag (ab (au ?_))
  refine dv E E k3_1 Ma E (by kernel_rfl) ?_
  exact⟨_,rfl,(x1.trans x3_1),by rw[Ca (by first|exact fun h=>h6 h.1|exact fun h=>h10 h.2)]⟩
theorem ci (d:bV):(dm d).size=5:=rfl
theorem AB {w:World} {d:bV} {x y:Value} (hx:bt d.at_.2.1 x w) (hy:bt d.at_.2.2 y w):Rp w (dm d) [I d.kd,I d.ix,B d.at_.1,x,y]:=by
 simp only[dm,qt,Rp]
 have h3:Rp w (iX d.at_) [B d.at_.1,x,y]:=by
  simp only[iX,Rp]
  exact bD.cons (a:=[B d.at_.1]) (by simp only[Rp,B]) (bD.cons (a:=[x]) (Rp.words.2 hx) (bD.cons (b:=[]) (Rp.words.2 hy) bD.nil))
 exact bD.cons (a:=[I d.kd]) (by simp only[Rp,I]) (bD.cons (a:=[I d.ix]) (by simp only[Rp,I]) (by simpa using bD.cons h3 bD.nil))
theorem jB {w:World} {d:bV} {x y:Value}:∃r w',(Instr.buildSlice 41 1 (eI 0 [Value.agg #[I d.kd,I d.ix,B d.at_.1,x,y]]).toArray).run Tryz.prog w=.ok r w'∧aN w w'∧Sl 5 [I d.kd,I d.ix,B d.at_.1,x,y] r w':=by
 obtain⟨r,w',a,b,c,_⟩:=wo (P:=Tryz.prog) (w:=w) Tryz.underlying41 y9 rfl (by omega) [[I d.kd,I d.ix,B d.at_.1,x,y]] (by simp) (by simp) (by simp)
 exact⟨r,w',a,b,c⟩
end Go.Rl
namespace Go.Rl
open Go.RowKit Go.Proofs
end Go.Rl
namespace Go.Rl
open Go.RowKit Go.Proofs
theorem kU:aG Tryz.prog 104:=⟨_,Tryz.func104,by kernel_rfl,rfl⟩
theorem tZ:aG Tryz.prog 58:=⟨_,Tryz.func58,by kernel_rfl,rfl⟩
theorem xn:aG Tryz.prog 62:=⟨_,Tryz.func62,by kernel_rfl,rfl⟩
theorem xo:aG Tryz.prog 107:=⟨_,Tryz.func107,by kernel_rfl,rfl⟩
theorem xp:aG Tryz.prog 63:=⟨_,Tryz.func63,by kernel_rfl,rfl⟩
theorem gF:aG Tryz.prog 59:=⟨_,Tryz.func59,by kernel_rfl,rfl⟩
def sQ (q:fj):Prop:=q.2.1.length≤1073741824∧q.2.2.length≤1073741824
def sP (l:List cg):Prop:=∀m∈l,sQ m.co
def sL (m:dI):Prop:=sQ m.va∧sP m.pf
mutual
def sN:aZ→Prop
 |.mk lems sp kids _ pf=>(∀m∈lems,sL m)∧sQ sp.at_∧sP pf∧LU kids
def LU:List aZ→Prop
 |[]=>True
 |n::l=>sN n∧LU l
end
theorem EF:∀l:List aZ,LU l↔∀n∈l,sN n
 |[]=>by simp[LU]
 |n::l=>by simp only[LU,EF l,List.mem_cons,forall_eq_or_imp]
theorem xq (n:aZ):sN n↔(∀m∈n.lems,sL m)∧sQ n.split.at_∧sP n.pf∧∀k∈n.kids,sN k:=by
 cases n with
 |mk l s k e p=>simp only[sN,EF];rfl
theorem nO {w:World} {q:fj} {x y:Value} (hx:bt q.2.1 x w) (hy:bt q.2.2 y w) (hs:sQ q):
 Calls Tryz.prog 59 #[.agg #[B q.1,x,y]] w (bE fun r w'=>aN w w'∧r=B (fI q)):=
 oS (b:=q.1) ⟨x,y,rfl,hx,hy⟩ (by have:=hs.1;omega) (by have:=hs.2;omega)
theorem ph {w:World} {q:fj} {x y:Value} {b:Bool} (hx:bt q.2.1 x w) (hy:bt q.2.2 y w) (hs:sQ q) (hb:fI q=b):
 Calls Tryz.prog 59 #[.agg #[B q.1,x,y]] w (bE fun r w'=>aN w w'∧r=B b):=hb▸nO hx hy hs
theorem Ds {w:World} {l:List cg} {v:Value} (hv:cu bK l v w) (hs:sP l):
 Calls Tryz.prog 104 #[v] w (bE fun r w'=>aN w w'∧r=B (mU l)):=by
 refine enter (vs:=[v]) Tryz.func104 E E E ?_
 have hll:=hv.len
 refine af (aa (ac E E (ag (ab (af (af (aa (ac E E (ag (ab (aH ?_)))))))))))
 refine cm (α:=Nat) (fun i=>[(0,v),(3,I (i:Int))]) (fun i w'=>aN w w'∧i≤l.length∧(l.all fun m:cg=>fI m.co)=((l.drop i).all fun m:cg=>fI m.co)) (fun i=>l.length-i) (0) ⟨rfl,rfl,trivial⟩ ⟨aN.refl _,by omega,rfl⟩ ?_
 rintro i wL ⟨eL,hi,hall⟩
 refine af (af (aa (ae E E (ae E E (aQ E E (be Mj (hv.ext eL)) (al E E E (bc) (ag (ab ?_))))))))
 refine bw E (fun h7=>?_) (fun h7=>?_)
 ·refine aC (ab (af (aH (af (aa (ae E E (ae E E ?_)))))))
  obtain⟨a12,c12,p12,q12,h12⟩:=cf (P:=Tryz.prog) (sz:=7) Mj (by kernel_rfl) dB (by omega) (hv.ext eL) (i:=i) (by omega) .i64
  obtain⟨e12,he12⟩:∃e,e=l[i]'(by omega):=⟨_,rfl⟩
  rw[←he12] at h12
  obtain⟨x12_0,x12_1,rfl,f12_0,f12_1⟩:=gO h12
  refine ax rfl rfl rfl (p12 _) (ah rfl rfl (gU (o:=4) Tryz.underlying187 rfl (by kernel_rfl) rfl) (ak rfl rfl (q12.ldO (ms:=[B e12.co.1,x12_0,x12_1]) (o:=4) (fun j v hj=>by rcases j with _|_|_|_|_|_|_|_|_|j<;>simp_all) Tryz.underlying46 rfl (by kernel_rfl)) ?_))
  refine an gF E E ((nO (q:=e12.co) f12_0 f12_1 (hs e12 (by rw[he12];exact List.getElem_mem _)))) ?_
  rintro v15 w15 ⟨x15,rfl⟩
  refine bo E E bu (ag (ab ?_))
  refine fQ E (fun h16=>?_) (fun h16=>?_)
  ·have hno:fI (l[i]'(by omega)).co=false:=by rw[←he12];rw[Bool.not_eq_true'] at h16;exact h16
   refine af (aa (ac E E (ag (ab (au (a6 (az (az (a6 (az (aA E E ?_)))))))))))
   exact⟨_,rfl,(eL.trans x15),congrArg B (gE (p:=fun m:cg=>fI m.co) (by omega) hall hno).symm⟩
  ·have hyes:fI (l[i]'(by omega)).co=true:=by rw[←he12];rw[Bool.not_eq_false'] at h16;exact h16
   refine aC (aS (ab (aa (ae E E (al (r:=I ((i+1:Nat):Int)) E E E (by have e:((i+1:Nat):Int)=(i:Int)+1:=(by omega);rw[e];exact aP (by omega) (by omega)) ?_)))))
   refine ac E E (ag ?_)
   refine bT (i+1) ⟨rfl,rfl,trivial⟩ ⟨(eL.trans x15),by omega,rt (p:=fun m:cg=>fI m.co) (by omega) hall hyes⟩ (by omega)
 ·refine bg (aJ (aJ (bh (ab (af (aa (ac E E (ag (ab (au (aA E E ?_)))))))))))
  exact⟨_,rfl,eL,congrArg B (nJ (p:=fun m:cg=>fI m.co) (by omega) hall).symm⟩
theorem pi {w:World} {l:List cg} {v:Value} {b:Bool} (hv:cu bK l v w) (hs:sP l) (hb:mU l=b):
 Calls Tryz.prog 104 #[v] w (bE fun r w'=>aN w w'∧r=B b):=hb▸Ds hv hs
theorem Ga {w:World} {n:aZ} {vl x y vk vp:Value} (ih:∀k∈n.kids,∀{w:World} {vl x y vk vp:Value},cu cV k.lems vl w→bt k.split.at_.2.1 x w→bt k.split.at_.2.2 y w→cu bH k.kids vk w→cu bK k.pf vp w→sN k→
 Calls Tryz.prog 58 #[.agg #[vl,I k.split.kd,I k.split.ix,B k.split.at_.1,x,y,vk,B k.empty,vp]] w (bE fun r w'=>aN w w'∧r=B (i8 k)))
 (hl:cu cV n.lems vl w) (hx:bt n.split.at_.2.1 x w) (hy:bt n.split.at_.2.2 y w) (hk:cu bH n.kids vk w) (hp:cu bK n.pf vp w) (hs:sN n):
 Calls Tryz.prog 58 #[.agg #[vl,I n.split.kd,I n.split.ix,B n.split.at_.1,x,y,vk,B n.empty,vp]] w (bE fun r w'=>aN w w'∧r=B (i8 n)):=by
 refine enter (vs:=[.agg #[vl,I n.split.kd,I n.split.ix,B n.split.at_.1,x,y,vk,B n.empty,vp]]) Tryz.func58 E E E ?_
 obtain⟨sl,ss,sp,sk⟩:=(xq n).1 hs
 have hcn:=Ex n
 have hll:=hl.len
 have hkl:=hk.len
 refine af (aa ?_)
 obtain⟨g1,w1,hr1,l1,x1,k1⟩:=cD (P:=Tryz.prog) (w:=w) (T:=52) (cs:=[vl,I n.split.kd,I n.split.ix,B n.split.at_.1,x,y,vk,B n.empty,vp])
 refine cI E E hr1 (ac E E (ag (ab (af (af ?_)))))
 rcases hc1:mU n.pf
 rotate_left
 rcases hc2:fI n.split.at_
 ·refine aa (ah E E (ar (o:=8) L6 E (by kernel_rfl) E) (ak E E (aj Mj E (k1.cell (i:=8) E)) ?_))
  refine an kU E E ((pi (hp.ext x1) sp hc1)) ?_
  rintro v7 w7 ⟨x7,rfl⟩
  refine bo E E bu (ae E E (ai E (ah E E (ar (o:=1) L6 E (by kernel_rfl) E) (ai E (ah E E (cK (b:=1) (o:=2) Ma E (by kernel_rfl) E) ?_)))))
  refine ai rfl (ak rfl rfl ((k1.ext x7).ldO (ms:=[B n.split.at_.1,x,y]) (o:=3) (fun j v hj=>by rcases j with _|_|_|_|_|_|_|_|_|j<;>simp_all) Tryz.underlying46 rfl (by kernel_rfl)) ?_)
  refine ai E (an gF E E ((ph (q:=n.split.at_) (hx.ext (x1.trans x7)) (hy.ext (x1.trans x7)) ss hc2)) ?_)
  rintro v13 w13 ⟨x13,rfl⟩
  refine ai E (bo E E bu (aE E E E (ag (ab (bf E (af (aa (ac E E (ag (ab (au (az (aA E E ?_)))))))))))))
  exact⟨_,rfl,((x1.trans x7).trans x13),by rw[hcn,hc1,hc2];rfl⟩
 ·refine aa (ah E E (ar (o:=8) L6 E (by kernel_rfl) E) (ak E E (aj Mj E (k1.cell (i:=8) E)) ?_))
  refine an kU E E ((pi (hp.ext x1) sp hc1)) ?_
  rintro v7 w7 ⟨x7,rfl⟩
  refine bo E E bu (ae E E (ai E (ah E E (ar (o:=1) L6 E (by kernel_rfl) E) (ai E (ah E E (cK (b:=1) (o:=2) Ma E (by kernel_rfl) E) ?_)))))
  refine ai rfl (ak rfl rfl ((k1.ext x7).ldO (ms:=[B n.split.at_.1,x,y]) (o:=3) (fun j v hj=>by rcases j with _|_|_|_|_|_|_|_|_|j<;>simp_all) Tryz.underlying46 rfl (by kernel_rfl)) ?_)
  refine ai E (an gF E E ((ph (q:=n.split.at_) (hx.ext (x1.trans x7)) (hy.ext (x1.trans x7)) ss hc2)) ?_)
  rintro v13 w13 ⟨x13,rfl⟩
  refine ai E (bo E E bu (aE E E E (ag (ab (cp E (aC (ab (af (af (aa (ac E E (ag (ab (aH ?_))))))))))))))
  refine cm (α:=Nat) (fun i=>[(1,.pointer (some ⟨g1,0,none⟩)),(3,I (i:Int))]) (fun i w'=>aN w w'∧aN w1 w'∧i≤n.lems.length∧n.lems.all iN=(n.lems.drop i).all iN) (fun i=>n.lems.length-i) (0) ⟨rfl,rfl,trivial⟩ ⟨((x1.trans x7).trans x13),(x7.trans x13),by omega,rfl⟩ ?_
  rintro i wL ⟨eL,e1L,hi,hall⟩
  refine af (af (aa (ae E E (ah E E (ar (o:=0) L6 E (by kernel_rfl) E) (ak E E (aj Mi E (e1L.cell_some (k1.cell (i:=0) E))) ?_)))))
  refine aQ E E (be Mi (hl.ext eL)) (al E E E (bc) (ag (ab ?_)))
  refine bw E (fun h20=>?_) (fun h20=>?_)
  ·refine aC (ab (af (aH (af ?_))))
   obtain⟨em,hem⟩:∃em,em=n.lems[i]'(by have:=hl.len;omega):=⟨_,rfl⟩
   have hsm:=sl em (by rw[hem];exact List.getElem_mem _)
   rcases hc3:fI em.va
   rotate_left
   rcases hc4:mU em.pf
   ·refine aa (ah E E (ar (o:=0) L6 E (by kernel_rfl) E) (ak E E (aj Mi E (e1L.cell_some (k1.cell (i:=0) E))) ?_))
    refine ae E E ?_
    obtain⟨a26,c26,p26,q26,h26⟩:=cf (P:=Tryz.prog) (sz:=6) Mi (by kernel_rfl) cG (by omega) (hl.ext eL) (i:=i) (by omega) .i64
    rw[←hem] at h26
    obtain⟨x26_0,x26_1,x26_2,rfl,f26_0,f26_1,f26_2⟩:=fH h26
    refine ax rfl rfl rfl (p26 _) (ah rfl rfl (gU (o:=2) Tryz.underlying173 rfl (by kernel_rfl) rfl) (ak rfl rfl (q26.ldO (ms:=[B em.va.1,x26_0,x26_1]) (o:=2) (fun j v hj=>by rcases j with _|_|_|_|_|_|_|_|_|j<;>simp_all) Tryz.underlying46 rfl (by kernel_rfl)) ?_))
    refine an gF E E ((ph (q:=em.va) f26_0 f26_1 hsm.1 hc3)) ?_
    rintro v29 w29 ⟨x29,rfl⟩
    refine bo E E bu (ae E E (ai E (ah E E (ar (o:=0) L6 E (by kernel_rfl) E) (ai E (ak E E (aj Mi E ((e1L.trans x29).cell_some (k1.cell (i:=0) E))) ?_)))))
    refine ai E (ae E E (ai E ?_))
    obtain⟨a35,c35,p35,q35,h35⟩:=cf (P:=Tryz.prog) (sz:=6) Mi (by kernel_rfl) cG (by omega) (hl.ext (eL.trans x29)) (i:=i) (by omega) .i64
    rw[←hem] at h35
    obtain⟨x35_0,x35_1,x35_2,rfl,f35_0,f35_1,f35_2⟩:=fH h35
    refine ax E E E (p35 _) (ai E (ah E E (gU (o:=5) Mk E (by kernel_rfl) E) (ai E (ak E E (aj Mj E (q35.at (j:=5) E)) ?_))))
    refine ai E (an kU E E ((pi f35_2 hsm.2 hc4)) ?_)
    rintro v38 w38 ⟨x38,rfl⟩
    refine ai E (bo E E bu (aE E E E (ag (ab (bf E (af (aa (ac E E (ag (ab (au (a6 (az (az (a6 (az (aA E E ?_)))))))))))))))))
    exact⟨_,rfl,((eL.trans x29).trans x38),by rw[hcn,gE (p:=iN) (i:=i) (by omega) hall (by rw[←hem];unfold iN;rw[hc3,hc4];rfl),Bool.and_false,Bool.false_and];rfl⟩
   ·refine aa (ah E E (ar (o:=0) L6 E (by kernel_rfl) E) (ak E E (aj Mi E (e1L.cell_some (k1.cell (i:=0) E))) ?_))
    refine ae E E ?_
    obtain⟨a26,c26,p26,q26,h26⟩:=cf (P:=Tryz.prog) (sz:=6) Mi (by kernel_rfl) cG (by omega) (hl.ext eL) (i:=i) (by omega) .i64
    rw[←hem] at h26
    obtain⟨x26_0,x26_1,x26_2,rfl,f26_0,f26_1,f26_2⟩:=fH h26
    refine ax rfl rfl rfl (p26 _) (ah rfl rfl (gU (o:=2) Tryz.underlying173 rfl (by kernel_rfl) rfl) (ak rfl rfl (q26.ldO (ms:=[B em.va.1,x26_0,x26_1]) (o:=2) (fun j v hj=>by rcases j with _|_|_|_|_|_|_|_|_|j<;>simp_all) Tryz.underlying46 rfl (by kernel_rfl)) ?_))
    refine an gF E E ((ph (q:=em.va) f26_0 f26_1 hsm.1 hc3)) ?_
    rintro v29 w29 ⟨x29,rfl⟩
    refine bo E E bu (ae E E (ai E (ah E E (ar (o:=0) L6 E (by kernel_rfl) E) (ai E (ak E E (aj Mi E ((e1L.trans x29).cell_some (k1.cell (i:=0) E))) ?_)))))
    refine ai E (ae E E (ai E ?_))
    obtain⟨a35,c35,p35,q35,h35⟩:=cf (P:=Tryz.prog) (sz:=6) Mi (by kernel_rfl) cG (by omega) (hl.ext (eL.trans x29)) (i:=i) (by omega) .i64
    rw[←hem] at h35
    obtain⟨x35_0,x35_1,x35_2,rfl,f35_0,f35_1,f35_2⟩:=fH h35
    refine ax E E E (p35 _) (ai E (ah E E (gU (o:=5) Mk E (by kernel_rfl) E) (ai E (ak E E (aj Mj E (q35.at (j:=5) E)) ?_))))
    refine ai E (an kU E E ((pi f35_2 hsm.2 hc4)) ?_)
    rintro v38 w38 ⟨x38,rfl⟩
    refine ai E (bo E E bu (aE E E E (ag (ab (cp E (aC (aS (ab (aa (ae E E (al (r:=I ((i+1:Nat):Int)) E E E (by have e:((i+1:Nat):Int)=(i:Int)+1:=(by omega);rw[e];exact aP (by omega) (by omega)) ?_)))))))))))
    refine ac E E (ag ?_)
    refine bT (i+1) ⟨rfl,rfl,trivial⟩ ⟨((eL.trans x29).trans x38),((e1L.trans x29).trans x38),by omega,rt (p:=iN) (by omega) hall (by rw[←hem];unfold iN;rw[hc3,hc4];rfl)⟩ (by omega)
   ·refine aa (ah E E (ar (o:=0) L6 E (by kernel_rfl) E) (ak E E (aj Mi E (e1L.cell_some (k1.cell (i:=0) E))) ?_))
    refine ae E E ?_
    obtain⟨a26,c26,p26,q26,h26⟩:=cf (P:=Tryz.prog) (sz:=6) Mi (by kernel_rfl) cG (by omega) (hl.ext eL) (i:=i) (by omega) .i64
    rw[←hem] at h26
    obtain⟨x26_0,x26_1,x26_2,rfl,f26_0,f26_1,f26_2⟩:=fH h26
    refine ax rfl rfl rfl (p26 _) (ah rfl rfl (gU (o:=2) Tryz.underlying173 rfl (by kernel_rfl) rfl) (ak rfl rfl (q26.ldO (ms:=[B em.va.1,x26_0,x26_1]) (o:=2) (fun j v hj=>by rcases j with _|_|_|_|_|_|_|_|_|j<;>simp_all) Tryz.underlying46 rfl (by kernel_rfl)) ?_))
    refine an gF E E ((ph (q:=em.va) f26_0 f26_1 hsm.1 hc3)) ?_
    rintro v29 w29 ⟨x29,rfl⟩
    refine bo E E bu (ae E E (ao E E E (ao E E E (ao E E E (ao E E E (ao E E E (ao E E E (ao E E E (ao E E E ?_)))))))))
    refine ap E E E (ag (ab (bf E (af (aa (ac E E (ag (ab (au (a6 (az (az (a6 (az (aA E E ?_)))))))))))))))
    exact⟨_,rfl,(eL.trans x29),by rw[hcn,gE (p:=iN) (i:=i) (by omega) hall (by rw[←hem];unfold iN;rw[hc3];rfl),Bool.and_false,Bool.false_and];rfl⟩
  ·refine bg (aJ (aJ (bh (ab (af (af ?_))))))
   have hla:=nJ (p:=iN) (by omega) hall
   refine aa (ac E E (ag (ab (aH ?_))))
   refine cm (α:=Nat) (fun i=>[(1,.pointer (some ⟨g1,0,none⟩)),(4,I (i:Int))]) (fun i w'=>aN w w'∧aN w1 w'∧i≤n.kids.length∧n.kids.all i8=(n.kids.drop i).all i8) (fun i=>n.kids.length-i) (0) ⟨rfl,rfl,trivial⟩ ⟨eL,e1L,by omega,rfl⟩ ?_
   rintro i wM ⟨eM,e1M,hi2,hall2⟩
   refine af (af (aa (ae E E (ah E E (ar (o:=6) L6 E (by kernel_rfl) E) (ak E E (aj Mh E (e1M.cell_some (k1.cell (i:=6) E))) ?_)))))
   refine aQ E E (be Mh (hk.ext eM)) (al E E E (bc) (ag (ab ?_)))
   refine bw E (fun h45=>?_) (fun h45=>?_)
   ·refine aC (ab (af (aH (af (aa (ah E E (ar (o:=6) L6 E (by kernel_rfl) E) (ak E E (aj Mh E (e1M.cell_some (k1.cell (i:=6) E))) ?_)))))))
    refine ae E E ?_
    obtain⟨a51,c51,p51,q51,h51⟩:=cf (P:=Tryz.prog) (sz:=9) Mh (by kernel_rfl) cE (by omega) (hk.ext eM) (i:=i) (by omega) .i64
    obtain⟨e51,he51⟩:∃e,e=n.kids[i]'(by omega):=⟨_,rfl⟩
    rw[←he51] at h51
    obtain⟨x51_0,x51_1,x51_2,x51_3,x51_4,rfl,f51_0,f51_1,f51_2,f51_3,f51_4⟩:=dW h51
    refine ax E E E (p51 _) ?_
    have hmem:e51∈n.kids:=by rw[he51];exact List.getElem_mem _
    refine ak E E (q51.ld L6 E (by kernel_rfl)) (an tZ E E ((ih e51 hmem f51_0 f51_1 f51_2 f51_3 f51_4 (sk e51 hmem))) ?_)
    rintro v53 w53 ⟨x53,rfl⟩
    refine bo E E bu (ag (ab ?_))
    refine fQ E (fun h54=>?_) (fun h54=>?_)
    ·have hno:i8 (n.kids[i]'(by have:=hk.len;omega))=false:=by rw[←he51];rw[Bool.not_eq_true'] at h54;exact h54
     refine af (aa (ac E E (ag (ab (au (a6 (az (az (a6 (az (aA E E ?_)))))))))))
     exact⟨_,rfl,(eM.trans x53),by rw[hcn,gE (p:=i8) (by omega) hall2 hno,Bool.and_false];rfl⟩
    ·have hyes:i8 (n.kids[i]'(by have:=hk.len;omega))=true:=by rw[←he51];rw[Bool.not_eq_false'] at h54;exact h54
     refine aC (aS (ab (aa (ae E E (al (r:=I ((i+1:Nat):Int)) E E E (by have e:((i+1:Nat):Int)=(i:Int)+1:=(by omega);rw[e];exact aP (by omega) (by omega)) ?_)))))
     refine ac E E (ag ?_)
     refine bT (i+1) ⟨rfl,rfl,trivial⟩ ⟨(eM.trans x53),(e1M.trans x53),by omega,rt (p:=i8) (by omega) hall2 hyes⟩ (by omega)
   ·refine bg (aJ (aJ (bh (ab (af (aa (ac E E (ag (ab (au (aA E E ?_)))))))))))
    exact⟨_,rfl,eM,by rw[hcn,hc1,hc2,hla,nJ (p:=i8) (by omega) hall2];rfl⟩
 ·refine aa (ah E E (ar (o:=8) L6 E (by kernel_rfl) E) (ak E E (aj Mj E (k1.cell (i:=8) E)) ?_))
  refine an kU E E ((pi (hp.ext x1) sp hc1)) ?_
  rintro v7 w7 ⟨x7,rfl⟩
  refine bo E E bu (ae E E (ao E E E (ao E E E (ao E E E (ao E E E (ao E E E (ap E E E (ag (ab (bf E ?_))))))))))
  refine af (aa (ac E E (ag (ab (au (az (aA E E ?_)))))))
  exact⟨_,rfl,(x1.trans x7),by rw[hcn,hc1];rfl⟩
theorem t0:∀(m:Nat) {n:aZ},SizeOf.sizeOf n≤m→∀{w:World} {vl x y vk vp:Value},cu cV n.lems vl w→bt n.split.at_.2.1 x w→bt n.split.at_.2.2 y w→cu bH n.kids vk w→cu bK n.pf vp w→sN n→
 Calls Tryz.prog 58 #[.agg #[vl,I n.split.kd,I n.split.ix,B n.split.at_.1,x,y,vk,B n.empty,vp]] w (bE fun r w'=>aN w w'∧r=B (i8 n))
 |0,n,hm=>by cases n;simp at hm
 |m+1,n,hm=>fun h1 h2 h3 h4 h5 h6=>Ga (fun k hk _ _ _ _ _ _=>t0 m (by have:=aZ.lt_of_mem hk;omega)) h1 h2 h3 h4 h5 h6
theorem xr {w:World} {b:List UInt8} {bv:Value} {d:bV} {x y:Value} (hb:cn b bv w) (hx:bt d.at_.2.1 x w) (hy:bt d.at_.2.2 y w) (hw:wD d) (hl:b.length+(fG d).length≤4398046511104):
 Calls Tryz.prog 62 #[bv,.agg #[I d.kd,I d.ix,B d.at_.1,x,y]] w (bE fun r w'=>aN w w'∧cn (b++fG d) r w'):=by
 refine enter (vs:=[bv,.agg #[I d.kd,I d.ix,B d.at_.1,x,y]]) Tryz.func62 E E E ?_
 have hdl:(fG d).length=(dt d.kd).length+(dt d.ix).length+(gj d.at_).length:=by simp only[fG,List.length_append]
 have hqa:=jG d.at_
 refine af (aa ?_)
 obtain⟨g3,w3,hr3,l3,x3,k3⟩:=cD (P:=Tryz.prog) (w:=w) (T:=48) (cs:=[I d.kd,I d.ix,B d.at_.1,x,y])
 refine cI E E hr3 (ac E E (ag (ab (af (bO 10 [14] (by kernel_rfl) (by kernel_rfl) ?_)))))
 refine aD E E (aW E E (fun w hw=>ar (o:=0) Ma E (by kernel_rfl) E) (aO E E (fun w hw=>aj Mb E (hw.cell_some (k3.cell (i:=0) E))) ?_))
 have hw0:=hw
 refine ca (S:=cn (b++dt d.kd)) ii (cn.stable _) rfl (fun w hw=>by rintro _ rfl _ rfl;exact bE.mono (ij (n:=d.kd) ((hb.ext x3).ext hw) (by omega) hw0.1.1 hw0.1.2) fun v w' h=>⟨h.1,h.2.bts⟩) ?_
 refine aW E E (fun w hw=>ar (o:=1) Ma E (by kernel_rfl) E) (aO E E (fun w hw=>aj Mb E (hw.cell_some (k3.cell (i:=1) E))) ?_)
 refine ca (S:=cn (b++dt d.kd++dt d.ix)) ii (cn.stable _) rfl (fun w hw=>by rintro _ h8 _ rfl;exact bE.mono (ij (n:=d.ix) h8 (by simp only[List.length_append];omega) hw0.2.1 hw0.2.2) fun v w' h=>⟨h.1,h.2.bts⟩) ?_
 refine aW rfl rfl (fun w hw=>ar (o:=2) Tryz.underlying48 rfl (by kernel_rfl) rfl) (aO rfl rfl (fun w hw=>(k3.ext hw).ldO (ms:=[B d.at_.1,x,y]) (o:=2) (fun j v hj=>by rcases j with _|_|_|_|_|_|_|_|_|j<;>simp_all) Tryz.underlying46 rfl (by kernel_rfl)) ?_)
 refine ca (S:=cn (b++dt d.kd++dt d.ix++gj d.at_)) jR (cn.stable _) rfl (fun w hw=>by rintro _ h11 _ rfl;exact bE.mono (jS h11 (dl.mk ((hx.ext x3).ext hw) ((hy.ext x3).ext hw)) (by simp only[List.length_append];omega)) fun v w' h=>⟨h.1,h.2.bts⟩) ?_
 refine cq ?_
 intro wg1 xg1
 intro vg14 b14
 refine ac E E (ag (ab (au (aA E E ?_))))
 exact⟨_,rfl,(x3.trans xg1),by have h:cn (b++dt d.kd++dt d.ix++gj d.at_) _ _:=b14;simpa only[fG,List.append_assoc] using h⟩
end Go.Rl
namespace Go.Rl
open Go.RowKit Go.Proofs
theorem KT:(Tryz.prog.info? 224).map (·.size)=some 4:=by kernel_rfl
theorem KU:(Tryz.prog.info? 3).map (·.size)=some 1:=by kernel_rfl
theorem HJ.sE {b:Nat} {T:TypeId} {l:List Value}:cd (HJ b T l):=fun _ _ _ ⟨g5,h1,h2,h3⟩ hm=>⟨g5,h1,h2,h3.ext hm⟩
def kV (m:cg):List Int:=[m.kd,m.ix,m.lo,m.hi]
theorem t3 (m:cg):fg m=(kV m).flatMap dt++gj m.co:=by simp[fg,kV,List.append_assoc]
theorem H8 {l:List Int} {k:Nat} (hk:k<l.length):(l.take (k+1)).flatMap dt=(l.take k).flatMap dt++dt l[k]:=by
 rw[List.take_succ_eq_append_getElem hk,List.flatMap_append]
 simp
theorem Gb {l:List Int} {k:Nat} (hk:k<l.length):(l.map I)[k]? =some (I l[k]):=by simp[hk]
theorem xt {w:World} {b:List UInt8} {bv v:Value} {l:List cg} (hb:cn b bv w) (hd:cu bK l v w) (hw:wP l) (hl:b.length+(iY l).length≤4398046511104):
 Calls Tryz.prog 107 #[bv,v] w (bE fun r w'=>aN w w'∧cn (b++iY l) r w'):=by
 refine enter (vs:=[bv,v]) Tryz.func107 E E E ?_
 have hll:=hd.len
 have hpl:(iY l).length=(uv l.length).length+(l.flatMap fg).length:=by simp only[iY,List.length_append]
 have hun:(UInt64.ofNat l.length).toNat=l.length:=by rw[UInt64.toNat_ofNat'];omega
 refine af (aa (ac E E (ag (ab (af (aa (ae E E (ae E E (aQ E E (be Mj hd) (aY E E (ff Mb Mc) ?_))))))))))
 refine an dR E E ((dS (n:=UInt64.ofNat l.length) hb (by omega))) ?_
 rintro v12 w12 ⟨x12,o12⟩
 rw[hun] at o12
 have b12:=o12.bts
 refine ac E E (ag (ab (af (af (aa (ac E E (ag (ab (aH ?_)))))))))
 refine fl (fun(i:Nat) (u:Value)=>[(0,u),(1,v),(5,I (i:Int))]) (fun(i:Nat) (u:Value) w'=>aN w w'∧i≤l.length∧cn (b++uv l.length++(l.take i).flatMap fg) u w') (fun(i:Nat) (u:Value)=>l.length-i) (0) (v12) ⟨rfl,rfl,rfl,trivial⟩ ⟨x12,by omega,by simpa using b12⟩ ?_
 rintro i u wL ⟨eL,hi,bL⟩
 refine af (af (aa (ae E E (ae E E (aQ E E (be Mj (hd.ext eL)) (al E E E (bc) (ag (ab ?_))))))))
 refine bw E (fun h16=>?_) (fun h16=>?_)
 ·refine aC (ab (af (aH (af ?_))))
  obtain⟨pre,hpre⟩:∃pre,pre=b++uv l.length++(l.take i).flatMap fg:=⟨_,rfl⟩
  have hprl:pre.length=b.length+(uv l.length).length+((l.take i).flatMap fg).length:=by rw[hpre];simp only[List.length_append]
  rw[←hpre] at bL
  refine bO 26 [0,1,5,6,43] (by kernel_rfl) (by kernel_rfl) ?_
  refine aD (S:=Is (v)) E E (aD (S:=Is (I (i:Int))) E E ?_)
  obtain⟨a21,c21,p21,q21,h21⟩:=cf (P:=Tryz.prog) (sz:=7) Mj (by kernel_rfl) dB (by omega) (hd.ext eL) (i:=i) (by omega) .i64
  obtain⟨e21,he21⟩:∃e,e=l[i]'(by omega):=⟨_,rfl⟩
  rw[←he21] at h21
  obtain⟨x21_0,x21_1,rfl,f21_0,f21_1⟩:=gO h21
  refine aF E E E (fun w _=>p21 w) ?_
  have hm:=hw e21 (by rw[he21];exact List.getElem_mem _)
  have hfl:=fM (f:=fg) (l:=l) (i:=i) (by omega)
  rw[←he21] at hfl
  have hml:(fg e21).length=(dt e21.kd).length+(dt e21.ix).length+(dt e21.lo).length+(dt e21.hi).length+(gj e21.co).length:=by simp only[fg,List.length_append]
  refine aW E E (fun w hw=>gU (o:=0) Mr E (by kernel_rfl) E) (aW E E (fun w hw=>gU (o:=0) Mt E (by kernel_rfl) E) ?_)
  refine aO E E (fun w hw=>aj Mb E (hw.cell_some (q21.at (j:=0) E))) (aD (S:=Is (v)) E E (aD (S:=Is (I (i:Int))) E E ?_))
  refine aF E E E (fun w _=>p21 w) (aW E E (fun w hw=>gU (o:=0) Mr E (by kernel_rfl) E) (aW E E (fun w hw=>gU (o:=1) Mt E (by kernel_rfl) E) ?_))
  refine aO E E (fun w hw=>aj Mb E (hw.cell_some (q21.at (j:=1) E))) (aD (S:=Is (v)) E E (aD (S:=Is (I (i:Int))) E E ?_))
  refine aF E E E (fun w _=>p21 w) (aW E E (fun w hw=>gU (o:=0) Mr E (by kernel_rfl) E) (aW E E (fun w hw=>gU (o:=2) Mt E (by kernel_rfl) E) ?_))
  refine aO E E (fun w hw=>aj Mb E (hw.cell_some (q21.at (j:=2) E))) (aD (S:=Is (v)) E E (aD (S:=Is (I (i:Int))) E E ?_))
  refine aF E E E (fun w _=>p21 w) (aW E E (fun w hw=>gU (o:=0) Mr E (by kernel_rfl) E) (aW E E (fun w hw=>gU (o:=3) Mt E (by kernel_rfl) E) ?_))
  refine aO rfl rfl (fun w hw=>aj Mb rfl (hw.cell_some (q21.at (j:=3) rfl))) (uR (S:=Is (.agg #[I e21.kd,I e21.ix,I e21.lo,I e21.hi])) (cd.is _) rfl (fun w' hw=>by rintro _ rfl _ rfl _ rfl _ rfl;exact⟨_,w',run_build _ _ _ _ (by kernel_rfl),aN.refl _,rfl⟩) ?_)
  refine IR (S:=HJ wL.heap.size 224 [I 0,I 0,I 0,I 0]) HJ.sE E (fun w' hw=>KM (z:=.agg #[I 0,I 0,I 0,I 0]) (by kernel_rfl) E hw.size) ?_
  refine cq ?_
  intro wg5 xg5
  rintro _ hq0
  obtain rfl:=Eq.symm hq0
  rintro _ hq1
  obtain rfl:=Eq.symm hq1
  rintro _ rfl
  intro vg6 b6
  rintro _ rfl
  obtain⟨g6,rfl,hg6,k6⟩:=b6
  obtain⟨wd,sd,qd,kd0⟩:=k6.stS (P:=Tryz.prog) (t:=224) (m:=[I e21.kd,I e21.ix,I e21.lo,I e21.hi]) rfl KT (aw.cons rfl (aw.cons rfl (aw.cons rfl (aw.cons rfl aw.nil))))
  have kd:cr g6 224 ((kV e21).map I) wd:=kd0
  refine aq E E sd ?_
  have xd:=aN.of_new xg5 qd hg6
  have bd:=bL.ext xd
  refine ag (ab (af (af (aa (ac E E (ag (ab (aH ?_))))))))
  refine fl (fun(k:Nat) (u2:Value)=>[(0,u2),(1,v),(5,I (i:Int)),(6,.pointer (some ⟨g6,0,none⟩)),(7,I (k:Int))]) (fun(k:Nat) (u2:Value) w'=>aN wd w'∧k≤4∧cn (pre++((kV e21).take k).flatMap dt) u2 w') (fun(k:Nat) (u2:Value)=>4-k) (0) (u) ⟨rfl,rfl,rfl,rfl,rfl,trivial⟩ ⟨aN.refl _,by omega,by simpa using bd⟩ ?_
  rintro k u2 wM ⟨eM,hk4,bM⟩
  refine af (af (aa (ae E E (al E E E (bc) (ag (ab ?_))))))
  refine bw E (fun h45=>?_) (fun h45=>?_)
  ·have hk4':k<4:=by omega
   have hlen4:(kV e21).length=4:=rfl
   have hi64:lK (kV e21)[k]:=by
    have h4:=Kd hm.1 hm.2.1 hm.2.2.1 hm.2.2.2
    exact h4 _ (List.getElem_mem (l:=kV e21) (by omega))
   have hfl2:=ru (f:=dt) (kV e21) k
   have hme:=congrArg List.length (t3 e21)
   rw[List.length_append] at hme
   refine aC (ab (af (aH (aa (ae E E (ae E E ?_))))))
   refine ax E E E (iH Tryz.underlying224 KU (i:=k) hk4' .i64) ?_
   have c50:(wM).cell? ⟨g6,0+k,none⟩=some (I (kV e21)[k]):=by rw[Nat.zero_add];exact(kd.ext eM).cell (Gb (by omega))
   refine ak E E (aj Tryz.underlying3 E c50) (an ii E E ((ij (n:=(kV e21)[k]) bM (by simp only[List.length_append];omega) hi64.1 hi64.2)) ?_)
   rintro v52 w52 ⟨x52,o52⟩
   have b52:=o52.bts
   refine ac E E (ag (aS (ab (aa (ae E E (al (r:=I ((k+1:Nat):Int)) E E E (by have e:((k+1:Nat):Int)=(k:Int)+1:=(by omega);rw[e];exact aP (by omega) (by omega)) ?_))))))
   refine ac E E (ag ?_)
   refine dE (k+1) (v52) ⟨rfl,rfl,rfl,rfl,rfl,trivial⟩ ⟨(eM.trans x52),by omega,by rw[H8 (by omega),←List.append_assoc];exact b52⟩ (by omega)
  ·refine bg (aJ (aJ (bh (ab (aa (ae E E (ae E E (ae E E ?_))))))))
   have hk:k=4:=by omega
   subst hk
   have hqa:=jG e21.co
   refine ax rfl rfl rfl (p21 _) (ah rfl rfl (gU (o:=4) Tryz.underlying187 rfl (by kernel_rfl) rfl) (ak rfl rfl ((q21.ext (xd.trans eM)).ldO (ms:=[B e21.co.1,x21_0,x21_1]) (o:=4) (fun j v hj=>by rcases j with _|_|_|_|_|_|_|_|_|j<;>simp_all) Tryz.underlying46 rfl (by kernel_rfl)) ?_))
   refine an jR E E ((jS bM (dl.mk (f21_0.ext (xd.trans eM)) (f21_1.ext (xd.trans eM))) (by
 have hme:=congrArg List.length (t3 e21)
 rw[List.length_append] at hme
 have h4:(kV e21).take 4=kV e21:=rfl
 simp only[h4,List.length_append];omega))) ?_
   rintro v59 w59 ⟨x59,o59⟩
   have b59:=o59.bts
   refine ac E E (ag (aS (ab (aa (ae E E (al (r:=I ((i+1:Nat):Int)) E E E (by have e:((i+1:Nat):Int)=(i:Int)+1:=(by omega);rw[e];exact aP (by omega) (by omega)) ?_))))))
   refine ac E E (ag ?_)
   refine dE (i+1) (v59) ⟨rfl,rfl,rfl,trivial⟩ ⟨(((eL.trans xd).trans eM).trans x59),by omega,by
    have h:cn (pre++((kV e21).take 4).flatMap dt++gj e21.co) v59 w59:=b59
    have h4:(kV e21).take 4=kV e21:=rfl
    rw[dw (by omega),←he21,t3,←List.append_assoc,←List.append_assoc,←hpre,←h4]
    exact h⟩ (by omega)
 ·refine bg (aJ (aJ (bh (ab (af (aa (ae E E (ac E E (ag (ab (au (aA E E ?_))))))))))))
  exact⟨_,rfl,eL,by
   rw[List.take_of_length_le (by omega),List.append_assoc] at bL
   exact bL⟩
theorem pj (b:Bool):(wv b).length=1:=by cases b<;>rfl
theorem Du {w:World} {b:List UInt8} {bv:Value} {n:aZ} {vl x y vk vp:Value}
 (ih:∀k∈n.kids,∀{w:World} {b:List UInt8} {bv vl x y vk vp:Value},cn b bv w→cu cV k.lems vl w→bt k.split.at_.2.1 x w→bt k.split.at_.2.2 y w→cu bH k.kids vk w→cu bK k.pf vp w→wN k→b.length+(dF k).length≤4398046511104→
   Calls Tryz.prog 63 #[bv,.agg #[vl,I k.split.kd,I k.split.ix,B k.split.at_.1,x,y,vk,B k.empty,vp]] w (bE fun r w'=>aN w w'∧cn (b++dF k) r w'))
 (hb:cn b bv w) (hl:cu cV n.lems vl w) (hx:bt n.split.at_.2.1 x w) (hy:bt n.split.at_.2.2 y w) (hk:cu bH n.kids vk w) (hp:cu bK n.pf vp w) (hw:wN n) (hlen:b.length+(dF n).length≤4398046511104):
 Calls Tryz.prog 63 #[bv,.agg #[vl,I n.split.kd,I n.split.ix,B n.split.at_.1,x,y,vk,B n.empty,vp]] w (bE fun r w'=>aN w w'∧cn (b++dF n) r w'):=by
 refine enter (vs:=[bv,.agg #[vl,I n.split.kd,I n.split.ix,B n.split.at_.1,x,y,vk,B n.empty,vp]]) Tryz.func63 E E E ?_
 have hll:=hl.len
 have hkl:=hk.len
 obtain⟨wl,wd,wp,wk⟩:=(tX n).1 hw
 have hen:=mV n
 have hpl:(eu n.lems).length=(uv n.lems.length).length+(n.lems.flatMap dY).length:=by simp only[eu,List.length_append]
 have hun:(UInt64.ofNat n.lems.length).toNat=n.lems.length:=by rw[UInt64.toNat_ofNat'];omega
 obtain⟨tag,htag⟩:∃tag:UInt8,tag=(if n.kids.length=0 then(if n.empty=true then 1 else 0) else 2):=⟨_,rfl⟩
 have htl:b.length+1+(eu n.lems).length+(if n.kids.length=0 then(iY n.pf).length else(fG n.split).length+(n.kids.flatMap dF).length)≤4398046511104:=by
  rw[hen] at hlen
  by_cases h0:n.kids.length=0
  ·rw[if_pos h0] at hlen⊢;simp only[List.length_append,pj] at hlen;omega
  ·rw[if_neg h0] at hlen⊢;simp only[List.length_append,List.length_cons,List.length_nil] at hlen;omega
 refine af (aa ?_)
 obtain⟨g3,w3,hr3,l3,x3,k3⟩:=cD (P:=Tryz.prog) (w:=w) (T:=52) (cs:=[vl,I n.split.kd,I n.split.ix,B n.split.at_.1,x,y,vk,B n.empty,vp])
 refine cI E E hr3 (ac E E (ag (ab (af (aa (ac E E (ag (ab (af ?_)))))))))
 refine eZ (fun t:UInt8=>[(0,bv),(3,.pointer (some ⟨g3,0,none⟩)),(5,U8 t)]) (fun t w'=>w3=w'∧t=(if n.empty=true then 1 else 0)) ?_ ?_
 ·refine af (aa (ah E E (ar (o:=7) L6 E (by kernel_rfl) E) (ak E E (aj Me E (k3.cell (i:=7) E)) ?_)))
  refine ag (ab ?_)
  refine fQ E (fun h11=>?_) (fun h11=>?_)
  ·refine aa (ac E E (ag ?_))
   exact ct (1) ⟨rfl,rfl,rfl,trivial⟩ ⟨rfl,by simp[h11]⟩
  ·refine aC ?_
   exact ct (0) ⟨rfl,rfl,rfl,trivial⟩ ⟨rfl,by simp[h11]⟩
 rintro t5 _ ⟨rfl,ht5⟩
 refine ab (af ?_)
 refine eZ (fun t:UInt8=>[(0,bv),(3,.pointer (some ⟨g3,0,none⟩)),(5,U8 t)]) (fun t w'=>w3=w'∧tag=t) ?_ ?_
 ·refine af (aa (ah E E (ar (o:=6) L6 E (by kernel_rfl) E) (ak E E (aj Mh E (k3.cell (i:=6) E)) ?_)))
  refine aQ E E (be Mh (hk.ext x3)) (al E E E (bU) (ag (ab ?_)))
  refine bw E (fun h15=>?_) (fun h15=>?_)
  ·refine aa (ac E E (ag ?_))
   exact ct (2) ⟨rfl,rfl,rfl,trivial⟩ ⟨rfl,by
    have h15:=h15
    first
    |(have h0:¬n.kids.length=0:=by omega
      rw[htag,if_neg h0])
    |(have h0:n.kids.length=0:=by omega
      rw[ht5,htag,if_pos h0])⟩
  ·refine aC ?_
   exact ct (t5) ⟨rfl,rfl,rfl,trivial⟩ ⟨rfl,by
    have h15:=h15
    first
    |(have h0:¬n.kids.length=0:=by omega
      rw[htag,if_neg h0])
    |(have h0:n.kids.length=0:=by omega
      rw[ht5,htag,if_pos h0])⟩
 rintro _ _ ⟨rfl,rfl⟩
 refine ab (af ?_)
 have hd:aN w3 w3.drew:=(aN.refl w3).drew
 refine gS (aN w3) 12 E (by kernel_rfl) ?_
 refine fv 1 E E (by kernel_rfl) E hd ?_
 refine fv 3 E E (by kernel_rfl) E hd ?_
 refine fo 6 E E (by kernel_rfl) E hd (fun w' _=>ar (o:=0) L6 E (by kernel_rfl) E) ?_
 refine fU 7 E E (by kernel_rfl) E hd (fun w' hw'=>aj Mi E (hw'.cell_some (k3.cell (i:=0) E))) ?_
 refine J4 8 (r:=I (n.lems.length:Int)) E E (by kernel_rfl) E hd (fun w' hw'=>be (f:=cV) Mi (hl.ext (x3.trans hw'))) ?_
 refine Ku 9 E E (by kernel_rfl) E hd (fun w' _=>ff Mb Mc) ?_
 refine nu (fun p:Value×Value=>[(3,.pointer (some ⟨g3,0,none⟩)),(5,U8 tag),(18,p.1),(20,p.2),(25,bI (UInt64.ofNat n.lems.length))]) (fun p w'=>aN w3 w'∧df w3.heap.size b p.1 w'∧cn [tag] p.2 w') #[true,true,true,true,true,false,true,true,true,true,false,false] 3 ?_ (fun join=>?_)
 rotate_left
 ·refine kQ 0 4 (by kernel_rfl) E E ?_ ?_
  ·obtain⟨v16,w16,hr16,x16,o16,ob16⟩:=dX (w:=w3.drew) w3.heap.size [] (by simp) hd.size
   have e16:=hd.trans x16
   refine aK (vs:=[]) E E hr16 (aI e16 (kQ 2 4 (by kernel_rfl) E E ?_ ?_))
   ·obtain⟨v18,w18,hr18,o18,g18⟩:=c6 (ty:=22) o16 (hb.ext (x3.trans e16)) (by simp;omega) e16.size
    have e18:=aN.of_grew e16 g18 o16.ge
    obtain⟨v20,w20,hr20,x20,o20,_⟩:=dX (w:=w18) w3.heap.size [tag] (by simp) e18.size
    refine ba E E hr18 (aI e18 (aR 4 (by kernel_rfl) E ?_))
    exact aK (vs:=[(0,U8 tag)]) rfl rfl hr20 (aI (e18.trans x20) (Bu (by kernel_rfl) (join _ _ ⟨(v18,v20),⟨rfl,rfl,rfl,rfl,rfl,trivial⟩,e18.trans x20,by simpa using o18.ext x20,o20.bts⟩)))
   ·obtain⟨v20,w20,hr20,x20,o20,ob20⟩:=dX (w:=w16) w3.heap.size [tag] (by simp) e16.size
    have e20:=e16.trans x20
    obtain⟨v18,w18,hr18,o18,g18⟩:=c6 (ty:=22) (o16.ext x20) (hb.ext (x3.trans e20)) (by simp;omega) e20.size
    have e18:=aN.of_grew e20 g18 (o16.ext x20).ge
    refine aK (vs:=[(0,U8 tag)]) E E hr20 (aI e20 (aR 2 (by kernel_rfl) E ?_))
    exact ba rfl rfl hr18 (aI e18 (Bu (by kernel_rfl) (join _ _ ⟨(v18,v20),⟨rfl,rfl,rfl,rfl,rfl,trivial⟩,e18,by simpa using o18,(o20.grown g18 (.inr fun e=>by rw[ob20] at e;have:=o16.lt _ e.symm;omega)).bts⟩)))
  ·obtain⟨v20,w20,hr20,x20,o20,ob20⟩:=dX (w:=w3.drew) w3.heap.size [tag] (by simp) hd.size
   have e20:=hd.trans x20
   obtain⟨v16,w16,hr16,x16,o16,ob16⟩:=dX (w:=w20) w3.heap.size [] (by simp) e20.size
   have e16:=e20.trans x16
   obtain⟨v18,w18,hr18,o18,g18⟩:=c6 (ty:=22) o16 (hb.ext (x3.trans e16)) (by simp;omega) e16.size
   have e18:=aN.of_grew e16 g18 o16.ge
   refine aK (vs:=[(0,U8 tag)]) E E hr20 (aI e20 (aR 0 (by kernel_rfl) E ?_))
   refine aK (vs:=[]) E E hr16 (aI e16 (aR 2 (by kernel_rfl) E ?_))
   exact ba rfl rfl hr18 (aI e18 (Bu (by kernel_rfl) (join _ _ ⟨(v18,v20),⟨rfl,rfl,rfl,rfl,rfl,trivial⟩,e18,by simpa using o18,((o20.ext x16).grown g18 (.inr fun e=>by rw[ob16] at e;have:=o20.lt _ e;omega)).bts⟩)))
 rintro⟨v18,v20⟩ w20 ⟨e20,o18,b20⟩
 dsimp only at o18 b20
 obtain⟨v21,w21,hr21,o21,g21⟩:=c6 (ty:=22) o18 b20 (by simp;omega) e20.size
 have x21:=aN.of_grew e20 g21 o18.ge
 refine aR 5 (by kernel_rfl) E ?_
 refine ba E E hr21 (aI x21 (aR 10 (by kernel_rfl) E ?_))
 refine an dR E E (dS (n:=UInt64.ofNat n.lems.length) o21.bts (by simp;omega)) ?_
 rintro v26 w26 ⟨x26,o26⟩
 rw[hun] at o26
 have b26:=o26.bts
 have e26:=x21.trans x26
 refine aI e26 (aR 11 (by kernel_rfl) E ?_)
 refine ac E E (aI e26 (gT (by kernel_rfl) ?_))
 refine ab (af (af (aa (ac E E (ag (ab (aH ?_)))))))
 refine fl (fun(i:Nat) (u:Value)=>[(0,u),(3,.pointer (some ⟨g3,0,none⟩)),(5,U8 tag),(6,I (i:Int))]) (fun(i:Nat) (u:Value) w'=>aN w3 w'∧i≤n.lems.length∧cn (b++[tag]++uv n.lems.length++(n.lems.take i).flatMap dY) u w') (fun(i:Nat) (u:Value)=>n.lems.length-i) (0) (v26) ⟨rfl,rfl,rfl,rfl,trivial⟩ ⟨e26,by omega,by simpa using b26⟩ ?_
 rintro i u wL ⟨eL,hi,bL⟩
 refine af (af ?_)
 obtain⟨pre,hpre⟩:∃pre,pre=b++[tag]++uv n.lems.length++(n.lems.take i).flatMap dY:=⟨_,rfl⟩
 have hprl:pre.length=b.length+1+(uv n.lems.length).length+((n.lems.take i).flatMap dY).length:=by rw[hpre];simp only[List.length_append,List.length_cons,List.length_nil]
 have hfi:=ru (f:=dY) n.lems i
 rw[←hpre] at bL
 refine aa (ae E E (ah E E (ar (o:=0) L6 E (by kernel_rfl) E) (ak E E (aj Mi E (eL.cell_some (k3.cell (i:=0) E))) ?_)))
 refine aQ E E (be Mi (hl.ext (x3.trans eL))) (al E E E (bc) (ag (ab ?_)))
 refine bw E (fun h31=>?_) (fun h31=>?_)
 ·refine aC (ab (af (aH (af (aa (ah E E (ar (o:=0) L6 E (by kernel_rfl) E) (ak E E (aj Mi E (eL.cell_some (k3.cell (i:=0) E))) ?_)))))))
  refine ae E E ?_
  obtain⟨a37,c37,p37,q37,h37⟩:=cf (P:=Tryz.prog) (sz:=6) Mi (by kernel_rfl) cG (by omega) (hl.ext (x3.trans eL)) (i:=i) (by omega) .i64
  obtain⟨e37,he37⟩:∃e,e=n.lems[i]'(by omega):=⟨_,rfl⟩
  rw[←he37] at h37
  obtain⟨x37_0,x37_1,x37_2,rfl,f37_0,f37_1,f37_2⟩:=fH h37
  refine ax E E E (p37 _) ?_
  have hm:=wl e37 (by rw[he37];exact List.getElem_mem _)
  have hfl:=fM (f:=dY) (l:=n.lems) (i:=i) (by omega)
  rw[←he37] at hfl
  have hml:(dY e37).length=(dt e37.un).length+1+(gj e37.va).length+(iY e37.pf).length:=by simp only[dY,List.length_append,pj]
  refine ak E E (q37.ld Mk E (by kernel_rfl)) ?_
  obtain⟨g7,w7,hr7,l7,x7,k7⟩:=aX (P:=Tryz.prog) (w:=wL) (t:=173) (z:=.agg #[I 0,B false,B false,.slice none 0 0,.slice none 0 0,.slice none 0 0]) (l:=[I 0,B false,B false,.slice none 0 0,.slice none 0 0,.slice none 0 0]) (by kernel_rfl) rfl
  refine aV E hr7 ?_
  obtain⟨w10_6,s10_6,q10_6,k10_6⟩:=k7.stS (P:=Tryz.prog) (t:=173) (m:=[I e37.un,B e37.up,B e37.va.1,x37_0,x37_1,x37_2]) rfl (by kernel_rfl) (aw.cons rfl (aw.cons rfl (aw.cons rfl (aw.cons f37_0.one (aw.cons f37_1.one (aw.cons f37_2.one aw.nil))))))
  refine aq E E s10_6 ?_
  have x10_6:=aN.of_new (x7) q10_6 l7
  refine ag (ab (af (aa (ac E E (ag (ab (af ?_)))))))
  refine eZ (fun t:UInt8=>[(0,u),(3,.pointer (some ⟨g3,0,none⟩)),(5,U8 tag),(6,I (i:Int)),(7,.pointer (some ⟨g7,0,none⟩)),(8,U8 t)]) (fun t w'=>w10_6=w'∧[t]=wv e37.up) ?_ ?_
  ·refine af (aa (ah E E (ar (o:=1) Mk E (by kernel_rfl) E) (ak E E (aj Me E (k10_6.cell (i:=1) E)) ?_)))
   refine ag (ab ?_)
   refine fQ E (fun h40=>?_) (fun h40=>?_)
   ·refine aa (ac E E (ag ?_))
    exact ct (1) ⟨rfl,rfl,rfl,rfl,rfl,rfl,trivial⟩ ⟨rfl,by rw[h40];rfl⟩
   ·refine aC ?_
    exact ct (0) ⟨rfl,rfl,rfl,rfl,rfl,rfl,trivial⟩ ⟨rfl,by rw[h40];rfl⟩
  rintro up _ ⟨rfl,hup⟩
  refine ab (af (aa (ae E E (ah E E (ar (o:=0) Mk E (by kernel_rfl) E) (ak E E (aj Mb E (k10_6.cell (i:=0) E)) ?_)))))
  refine an ii E E ((ij (n:=e37.un) (bL.ext x10_6) (by omega) hm.1.1 hm.1.2)) ?_
  rintro v44 w44 ⟨x44,o44⟩
  have o44:df _ (pre++dt e37.un) _ _:=o44
  refine ae E E ?_
  obtain⟨v46,w46,hr46,x46,o46,ob46⟩:=dX (w:=w44) w44.heap.size [up] (by simp) (Nat.le_refl _)
  refine aK (vs:=[(0,U8 up)]) E E hr46 ?_
  obtain⟨v47,w47,hr47,o47,g47⟩:=c6 (ty:=22) (o44.ext x46) o46.bts (by simp only[List.length_append,List.length_cons,List.length_nil];omega) ((x44.trans x46)).size
  have x47:=aN.of_grew ((x44.trans x46)) g47 (o44.ext x46).ge
  refine ba E E hr47 ?_
  have b47:cn (pre++dt e37.un++wv e37.up) v47 w47:=by rw[←hup];exact o47.bts
  have hqa:=jG e37.va
  refine ac E E (ag (ab (bO 7 [3,5,6,54] (by kernel_rfl) (by kernel_rfl) ?_)))
  refine aD rfl rfl (aW rfl rfl (fun w hw=>ar (o:=2) Tryz.underlying173 rfl (by kernel_rfl) rfl) (aO rfl rfl (fun w hw=>((k10_6.ext x47).ext hw).ldO (ms:=[B e37.va.1,x37_0,x37_1]) (o:=2) (fun j v hj=>by rcases j with _|_|_|_|_|_|_|_|_|j<;>simp_all) Tryz.underlying46 rfl (by kernel_rfl)) ?_))
  refine ca (S:=cn (pre++dt e37.un++wv e37.up++gj e37.va)) jR (cn.stable _) rfl (fun w hw=>by rintro _ rfl _ rfl;exact bE.mono (jS (b47.ext hw) (dl.mk ((f37_0.ext (x10_6.trans x47)).ext hw) ((f37_1.ext (x10_6.trans x47)).ext hw)) (by simp only[List.length_append,pj];omega)) fun v w' h=>⟨h.1,h.2.bts⟩) ?_
  refine aW E E (fun w hw=>ar (o:=5) Mk E (by kernel_rfl) E) (aO E E (fun w hw=>aj Mj E (hw.cell_some (x47.cell_some (k10_6.cell (i:=5) E)))) ?_)
  refine ca (S:=cn (pre++dt e37.un++wv e37.up++gj e37.va++iY e37.pf)) xo (cn.stable _) rfl (fun w hw=>by rintro _ h51 _ rfl;exact xt h51 ((f37_2.ext (x10_6.trans x47)).ext hw) hm.2 (by simp only[List.length_append,pj];omega)) ?_
  refine cq ?_
  intro wg15 xg15
  rintro _ rfl
  rintro _ rfl
  rintro _ rfl
  intro vg54 b54
  refine ac E E (ag (aS (ab (aa (ae E E (al (r:=I ((i+1:Nat):Int)) E E E (by have e:((i+1:Nat):Int)=(i:Int)+1:=(by omega);rw[e];exact aP (by omega) (by omega)) ?_))))))
  refine ac E E (ag ?_)
  refine dE (i+1) (vg54) ⟨rfl,rfl,rfl,rfl,trivial⟩ ⟨(((eL.trans x10_6).trans x47).trans xg15),by omega,by
   have h:cn (pre++dt e37.un++wv e37.up++gj e37.va++iY e37.pf) vg54 wg15:=b54
   rw[dw (by omega),←he37,←List.append_assoc,←hpre]
   simpa only[dY,List.append_assoc] using h⟩ (by omega)
 ·refine bg (aJ (aJ (bh (ab (af (af ?_))))))
  rw[List.take_of_length_le (by omega)] at hpre
  by_cases hk0:n.kids.length=0
  ·refine aa (ae E E (al (v:=U8 2) E E E (cw (by rw[htag,if_pos hk0];split<;>decide) kI) (ag (ab (bf E (af (aa (ae E E ?_))))))))
   refine ah E E (ar (o:=8) L6 E (by kernel_rfl) E) (ak E E (aj Mj E (eL.cell_some (k3.cell (i:=8) E))) ?_)
   refine an xo E E ((xt bL (hp.ext ((x3.trans eL))) wp (by rw[if_pos hk0] at htl;omega))) ?_
   rintro v60 w60 ⟨x60,b60⟩
   refine ac E E (ag (ab (au (az (aA E E ?_)))))
   exact⟨_,rfl,((x3.trans eL).trans x60),by
    have ht:[tag]=wv n.empty:=by rw[htag,if_pos hk0];cases n.empty<;>rfl
    rw[hpre,ht] at b60
    rw[hen,if_pos hk0]
    simpa only[eu,List.append_assoc] using b60⟩
  ·refine aa (ae E E (al (v:=U8 2) E E E (cW (by rw[htag,if_neg hk0];decide) kI) (ag (ab (cp E (aC (ab (af (aa (ae E E ?_))))))))))
   refine ah rfl rfl (ar (o:=1) Tryz.underlying52 rfl (by kernel_rfl) rfl) (ak rfl rfl ((k3.ext eL).ldO (ms:=[I n.split.kd,I n.split.ix,B n.split.at_.1,x,y]) (o:=1) (fun j v hj=>by rcases j with _|_|_|_|_|_|_|_|_|j<;>simp_all) Tryz.underlying48 rfl (by kernel_rfl)) ?_)
   refine an xn E E ((xr (d:=n.split) bL (hx.ext ((x3.trans eL))) (hy.ext ((x3.trans eL))) wd (by rw[if_neg hk0] at htl;omega))) ?_
   rintro v64 w64 ⟨x64,b64⟩
   refine ac E E (ag (ab (af (af (aa (ac E E (ag (ab (aH ?_)))))))))
   refine fl (fun(j:Nat) (u2:Value)=>[(0,u2),(3,.pointer (some ⟨g3,0,none⟩)),(9,I (j:Int))]) (fun(j:Nat) (u2:Value) w'=>aN w3 w'∧j≤n.kids.length∧cn (pre++fG n.split++(n.kids.take j).flatMap dF) u2 w') (fun(j:Nat) (u2:Value)=>n.kids.length-j) (0) (v64) ⟨rfl,rfl,rfl,trivial⟩ ⟨(eL.trans x64),by omega,by simpa using b64⟩ ?_
   rintro j u2 wM ⟨eM,hj,bM⟩
   refine af (af (aa (ae E E (ah E E (ar (o:=6) L6 E (by kernel_rfl) E) (ak E E (aj Mh E (eM.cell_some (k3.cell (i:=6) E))) ?_)))))
   refine aQ E E (be Mh (hk.ext (x3.trans eM))) (al E E E (bc) (ag (ab ?_)))
   refine bw E (fun h69=>?_) (fun h69=>?_)
   ·refine aC (ab (af (aH (aa (ae E E (ah E E (ar (o:=6) L6 E (by kernel_rfl) E) (ak E E (aj Mh E (eM.cell_some (k3.cell (i:=6) E))) ?_)))))))
    refine ae E E ?_
    obtain⟨a76,c76,p76,q76,h76⟩:=cf (P:=Tryz.prog) (sz:=9) Mh (by kernel_rfl) cE (by omega) (hk.ext (x3.trans eM)) (i:=j) (by omega) .i64
    obtain⟨e76,he76⟩:∃e,e=n.kids[j]'(by omega):=⟨_,rfl⟩
    rw[←he76] at h76
    obtain⟨x76_0,x76_1,x76_2,x76_3,x76_4,rfl,f76_0,f76_1,f76_2,f76_3,f76_4⟩:=dW h76
    refine ax E E E (p76 _) ?_
    have hmem:e76∈n.kids:=by rw[he76];exact List.getElem_mem _
    have hfk:=fM (f:=dF) (l:=n.kids) (i:=j) (by omega)
    rw[←he76] at hfk
    refine ak E E (q76.ld Tryz.underlying52 E (by kernel_rfl)) (an xp E E ((ih e76 hmem bM f76_0 f76_1 f76_2 f76_3 f76_4 (wk e76 hmem) (by rw[if_neg hk0] at htl;simp only[List.length_append];omega))) ?_)
    rintro v78 w78 ⟨x78,b78⟩
    refine ac E E (ag (aS (ab (aa (ae E E (al (r:=I ((j+1:Nat):Int)) E E E (by have e:((j+1:Nat):Int)=(j:Int)+1:=(by omega);rw[e];exact aP (by omega) (by omega)) ?_))))))
    refine ac E E (ag ?_)
    refine dE (j+1) (v78) ⟨rfl,rfl,rfl,trivial⟩ ⟨(eM.trans x78),by omega,by rw[dw (by omega),←he76,←List.append_assoc];exact b78⟩ (by omega)
   ·refine bg (aJ (aJ (bh (ab (af (aa (ae E E (ac E E (ag (ab (au (aA E E ?_))))))))))))
    exact⟨_,rfl,(x3.trans eM),by
     have ht:tag=2:=by rw[htag,if_neg hk0]
     rw[List.take_of_length_le (by omega),hpre,ht] at bM
     rw[hen,if_neg hk0]
     simpa only[eu,List.append_assoc] using bM⟩
theorem xu:∀(m:Nat) {n:aZ},SizeOf.sizeOf n≤m→∀{w:World} {b:List UInt8} {bv vl x y vk vp:Value},cn b bv w→cu cV n.lems vl w→bt n.split.at_.2.1 x w→bt n.split.at_.2.2 y w→cu bH n.kids vk w→cu bK n.pf vp w→wN n→b.length+(dF n).length≤4398046511104→
 Calls Tryz.prog 63 #[bv,.agg #[vl,I n.split.kd,I n.split.ix,B n.split.at_.1,x,y,vk,B n.empty,vp]] w (bE fun r w'=>aN w w'∧cn (b++dF n) r w')
 |0,n,hm=>by cases n;simp at hm
 |m+1,n,hm=>fun h1 h2 h3 h4 h5 h6 h7 h8=>Du (fun k hk _ _ _ _ _ _ _ _=>xu m (by have:=aZ.lt_of_mem hk;omega)) h1 h2 h3 h4 h5 h6 h7 h8
end Go.Rl
namespace Go.Rl
open Go.RowKit Go.Proofs
end Go.Rl
namespace Go.Rl
open Go.RowKit Go.Proofs
def mQ (m:cg):Nat:=1+m.co.2.1.length+m.co.2.2.length
def mP (l:List cg):Nat:=(l.map mQ).sum
def mL (m:dI):Nat:=m.va.2.1.length+m.va.2.2.length+mP m.pf
mutual
def uK:aZ→Nat
 |.mk l _ ks _ p=>1+l.length+mP p+(l.map mL).sum+AC ks
def AC:List aZ→Nat
 |[]=>0
 |n::l=>uK n+AC l
end
theorem xv:∀l:List aZ,AC l=(l.map uK).sum
 |[]=>rfl
 |n::l=>by simp only[AC,List.map_cons,List.sum_cons,xv l]
theorem H9 (n:aZ):uK n=1+n.lems.length+mP n.pf+(n.lems.map mL).sum+(n.kids.map uK).sum:=by
 cases n with
 |mk l s k e p=>simp only[uK,xv];rfl
end Go.Rl
namespace Go.Rl
open Go.RowKit Go.Proofs
mutual
def Dt.bulk:Dt→Nat
 |.int _ _=>1
 |.bool _=>1
 |.str l=>l.length+1
 |.sl l=>Dt.bulkAll l+1
 |.st l=>Dt.bulkAll l+1
def Dt.bulkAll:List Dt→Nat
 |[]=>0
 |d::l=>Dt.bulk d+Dt.bulkAll l
end
mutual
theorem za {H:Type}:∀d:DataW H,(eK d).bulk≤YtpeidnhjcompmaaGreatDoor.Rows.uptoBulk d
 |.lit (.string b)=>by simp[eK,Dt.bulk,YtpeidnhjcompmaaGreatDoor.Rows.uptoBulk]
 |.lit (.int k n)=>by simp[eK,Dt.bulk,YtpeidnhjcompmaaGreatDoor.Rows.uptoBulk]
 |.lit (.bool b)=>by simp[eK,Dt.bulk,YtpeidnhjcompmaaGreatDoor.Rows.uptoBulk]
 |.lit (.float ..)=>by simp[eK,Dt.bulk,Dt.bulkAll,YtpeidnhjcompmaaGreatDoor.Rows.uptoBulk]
 |.lit .nil=>by simp[eK,Dt.bulk,Dt.bulkAll,YtpeidnhjcompmaaGreatDoor.Rows.uptoBulk]
 |.nil=>by simp[eK,Dt.bulk,Dt.bulkAll,YtpeidnhjcompmaaGreatDoor.Rows.uptoBulk]
 |.ptr d=>by simp[eK,Dt.bulk,Dt.bulkAll,YtpeidnhjcompmaaGreatDoor.Rows.uptoBulk]
 |.slice elems spare=>by
  have:=lQ elems
  simp only[eK,Dt.bulk,YtpeidnhjcompmaaGreatDoor.Rows.uptoBulk]
  omega
 |.agg parts=>by
  have:=lQ parts
  simp only[eK,Dt.bulk,YtpeidnhjcompmaaGreatDoor.Rows.uptoBulk]
  omega
 |.iface t d=>by simp[eK,Dt.bulk,Dt.bulkAll,YtpeidnhjcompmaaGreatDoor.Rows.uptoBulk]
 |.map entries=>by simp[eK,Dt.bulk,Dt.bulkAll,YtpeidnhjcompmaaGreatDoor.Rows.uptoBulk]
 |.held h=>by simp[eK,Dt.bulk,Dt.bulkAll,YtpeidnhjcompmaaGreatDoor.Rows.uptoBulk]
theorem lQ {H:Type}:∀l:List (DataW H),Dt.bulkAll (oe l)≤YtpeidnhjcompmaaGreatDoor.Rows.uptoBulkAll l
 |[]=>by simp[oe,Dt.bulkAll,YtpeidnhjcompmaaGreatDoor.Rows.uptoBulkAll]
 |d::l=>by
  have:=za d
  have:=lQ l
  simp only[oe,Dt.bulkAll,YtpeidnhjcompmaaGreatDoor.Rows.uptoBulkAll]
  omega
end
theorem zb {H:Type} {d:DataW H}:∀{l:List (DataW H)},d∈l→YtpeidnhjcompmaaGreatDoor.Rows.uptoBulk d≤YtpeidnhjcompmaaGreatDoor.Rows.uptoBulkAll l
 |[],h=>by simp at h
 |x::l,h=>by
  simp only[YtpeidnhjcompmaaGreatDoor.Rows.uptoBulkAll]
  rcases List.mem_cons.1 h with rfl|h
  ·omega
  ·have:=zb h;omega
theorem Lm {H:Type} {d:DataW H} {l:List (DataW H)} (hk:YtpeidnhjcompmaaGreatDoor.Rows.uptoSmall H l=true) (h:d∈l):(eK d).bulk≤1048576:=by
 have h1:YtpeidnhjcompmaaGreatDoor.Rows.uptoBulkAll l≤1048576:=of_decide_eq_true hk
 have:=za d
 have:=zb h
 omega
theorem xw {α:Type} {f:α→Dt} {p:α→Prop}:∀(l:List Dt),(∀d∈l,∃x,d=f x∧p x)→∃m:List α,l=m.map f∧∀x∈m,p x
 |[],_=>⟨[],rfl,by simp⟩
 |d::l,h=>by
  obtain⟨x,rfl,hx⟩:=h d (by simp)
  obtain⟨m,rfl,hm⟩:=xw l fun e he=>h e (by simp[he])
  exact⟨x::m,rfl,by simpa using⟨hx,hm⟩⟩
theorem Ty.inv_slP {P:Program} {t e:TypeId} {d:Dt} {α:Type} {f:α→Dt} {p:α→Prop} (hu:P.underlying t=some (.slice e)) (he:∀x,Ty P e x→∃y,x=f y∧p y) (h:Ty P t d):∃l:List α,d=.sl (l.map f)∧∀x∈l,p x:=by
 obtain⟨l,rfl,ha⟩:=h.inv_slD hu
 obtain⟨m,rfl,hm⟩:=xw l fun x hx=>he x (ha x hx)
 exact⟨m,rfl,hm⟩
theorem el {l:List Dt}:∀{d:Dt},d∈l→d.bulk≤Dt.bulkAll l:=by
 induction l with
 |nil=>intro d h;simp at h
 |cons x l ih=>
  intro d h
  simp only[Dt.bulkAll]
  rcases List.mem_cons.1 h with rfl|h
  ·omega
  ·have:=ih h;omega
theorem Ia (d:Dt):1≤d.bulk:=by cases d<;>simp[Dt.bulk]
theorem dM (l:List Dt):l.length≤Dt.bulkAll l:=by
 induction l with
 |nil=>simp
 |cons d l ih=>have:=Ia d;simp only[List.length_cons,Dt.bulkAll];omega
end Go.Rl
namespace Go.Rl
open Go.ChangeShapes Go.WideShapes Go.ChangeAt Go.RowKit Go.Proofs
theorem LV {α:Type} {l:List α} (h:l.length=2):∃a b,l=[a,b]:=by
 match l,h with
 |[a,b],_=>exact⟨a,b,rfl⟩
theorem LW {α:Type} {l:List α} (h:l.length=3):∃a b c,l=[a,b,c]:=by
 match l,h with
 |[a,b,c],_=>exact⟨a,b,c,rfl⟩
theorem LX {α:Type} {l:List α} (h:l.length=4):∃a b c d,l=[a,b,c,d]:=by
 match l,h with
 |[a,b,c,d],_=>exact⟨a,b,c,d,rfl⟩
theorem cel5 {α:Type} {l:List α} (h:l.length=5):∃a b c d e,l=[a,b,c,d,e]:=by
 match l,h with
 |[a,b,c,d,e],_=>exact⟨a,b,c,d,e,rfl⟩
theorem Dv {d:Dt} (ht:Ty Tryz.prog 46 d):∃q:fj,d=iX q:=by
 obtain⟨l,rfl,hl,hf⟩:=ht.inv_st L9
 obtain⟨a,b,c,rfl⟩:=LW (show l.length=3 from hl)
 obtain⟨s,rfl⟩:=(hf 0 _ a rfl rfl).inv_bool Me
 obtain⟨n,rfl⟩:=(hf 1 _ b rfl rfl).inv_nat L5 L7
 obtain⟨m,rfl⟩:=(hf 2 _ c rfl rfl).inv_nat L5 L7
 exact⟨(s,n,m),rfl⟩
theorem rx {d:Dt} (ht:Ty Tryz.prog 3 d):∃n:Int,d=qt n∧lK n:=by
 obtain⟨n,rfl,hw⟩:=ht.inv_int Mb
 exact⟨n,rfl,wf_I hw⟩
theorem KV {d:Dt} (ht:Ty Tryz.prog 185 d):∃a b c e:Int,d=.st [qt a,qt b,qt c,qt e]∧lK a∧lK b∧lK c∧lK e:=by
 obtain⟨l,rfl,hl,hf⟩:=ht.inv_st Mt
 obtain⟨d0,d1,d2,d3,rfl⟩:=LX (show l.length=4 from hl)
 obtain⟨n0,rfl,w0⟩:=rx (hf 0 _ d0 rfl rfl)
 obtain⟨n1,rfl,w1⟩:=rx (hf 1 _ d1 rfl rfl)
 obtain⟨n2,rfl,w2⟩:=rx (hf 2 _ d2 rfl rfl)
 obtain⟨n3,rfl,w3⟩:=rx (hf 3 _ d3 rfl rfl)
 exact⟨n0,n1,n2,n3,rfl,w0,w1,w2,w3⟩
theorem Jk {d:Dt} (ht:Ty Tryz.prog 187 d):∃m:cg,d=bK m∧Ll m:=by
 obtain⟨l,rfl,hl,hf⟩:=ht.inv_st Mr
 obtain⟨d0,d1,rfl⟩:=LV (show l.length=2 from hl)
 obtain⟨a,b,c,e,rfl,w⟩:=KV (hf 0 _ d0 rfl rfl)
 obtain⟨q,rfl⟩:=Dv (hf 1 _ d1 rfl rfl)
 exact⟨⟨a,b,c,e,q⟩,rfl,w⟩
theorem Cb {d:Dt} (ht:Ty Tryz.prog 50 d):∃l:List cg,d=gV l∧wP l:=ht.inv_slP Mj fun _ hx=>Jk hx
theorem Ib {d:Dt} (ht:Ty Tryz.prog 48 d):∃m:bV,d=dm m∧wD m:=by
 obtain⟨l,rfl,hl,hf⟩:=ht.inv_st Ma
 obtain⟨d0,d1,d2,rfl⟩:=LW (show l.length=3 from hl)
 obtain⟨n0,rfl,w0⟩:=rx (hf 0 _ d0 rfl rfl)
 obtain⟨n1,rfl,w1⟩:=rx (hf 1 _ d1 rfl rfl)
 obtain⟨q,rfl⟩:=Dv (hf 2 _ d2 rfl rfl)
 exact⟨⟨n0,n1,q⟩,rfl,w0,w1⟩
theorem KW {d:Dt} (ht:Ty Tryz.prog 173 d):∃m:dI,d=cV m∧HO m:=by
 obtain⟨l,rfl,hl,hf⟩:=ht.inv_st Mk
 obtain⟨d0,d1,d2,d3,rfl⟩:=LX (show l.length=4 from hl)
 obtain⟨n0,rfl,w0⟩:=rx (hf 0 _ d0 rfl rfl)
 obtain⟨b,rfl⟩:=(hf 1 _ d1 rfl rfl).inv_bool Me
 obtain⟨q,rfl⟩:=Dv (hf 2 _ d2 rfl rfl)
 obtain⟨p,rfl,wp⟩:=Cb (hf 3 _ d3 rfl rfl)
 exact⟨⟨n0,b,q,p⟩,rfl,w0,wp⟩
theorem Dw {l:List Dt} {d:Dt} (h:d∈l):SizeOf.sizeOf d<SizeOf.sizeOf l:=List.sizeOf_lt_of_mem h
theorem EG:∀(k:Nat) {d:Dt},SizeOf.sizeOf d≤k→Ty Tryz.prog 52 d→∃n:aZ,d=bH n∧wN n
 |0,d,hk,_=>by cases d<;>simp at hk
 |k+1,d,hk,ht=>by
  obtain⟨l,rfl,hl,hf⟩:=ht.inv_st L6
  obtain⟨d0,d1,d2,d3,d4,rfl⟩:=cel5 (show l.length=5 from hl)
  obtain⟨ls,rfl,wl⟩:=(hf 0 _ d0 rfl rfl).inv_slP Mi fun _ hx=>KW hx
  obtain⟨sp,rfl,ws⟩:=Ib (hf 1 _ d1 rfl rfl)
  obtain⟨ks,rfl,hks⟩:=(hf 2 _ d2 rfl rfl).inv_slD Mh
  obtain⟨em,rfl⟩:=(hf 3 _ d3 rfl rfl).inv_bool Me
  obtain⟨pf,rfl,wp⟩:=Cb (hf 4 _ d4 rfl rfl)
  obtain⟨ns,rfl,wn⟩:=xw (f:=bH) (p:=wN) ks fun x hx=>EG k (by
   have:=Dw hx
   simp only[Dt.st.sizeOf_spec,List.cons.sizeOf_spec,Dt.sl.sizeOf_spec] at hk
   omega) (hks x hx)
  refine⟨.mk ls sp ns em pf,?_,?_⟩
  ·simp only[bH,kT]
  ·simp only[wN,Au]
   exact⟨wl,ws,wp,wn⟩
theorem Ic {W:World}:∀(l:List UInt8) {cs:List Value},bD W (l.map dU8) cs→cs=l.map U8
 |[],cs,h=>by simpa only[List.map_nil,bD] using h
 |a::l,cs,h=>by
  simp only[List.map_cons,bD,dU8,Rp] at h
  obtain⟨c1,c2,rfl,rfl,h2⟩:=h
  rw[Ic l h2]
  rfl
section
variable {H:Type} {enc:TypeId×Value→H} {W:World} {base:Nat} {spare:Nat→Bool} {held:Bool} {r:Reach} {b0:Nat} {v:Value} {d:DataW H} {ps:List MemPlace}
set_option maxRecDepth 100000 in
theorem LY (ho:Value.okWide Tryz.prog W r b0 24 v) (h:DataW.Trod enc Tryz.prog W base spare held 24 v d ps):∃l:List UInt8,v=.agg (l.map U8).toArray∧l.length=32:=by
 have ho':∃cs,v=.agg cs:=by
  simp only[Value.okWide,Tryz.underlying24] at ho
  obtain⟨cs,h1,_⟩:=ho
  exact⟨cs,h1⟩
 obtain⟨cs,rfl⟩:=ho'
 obtain⟨h1,h2⟩:=CJ (ts:=[24,5]) (by kernel_rfl) (by kernel_rfl) h
 obtain⟨l,hd,hl⟩:=h2.inv_arr (f:=dU8) Mm fun _ hx=>hx.inv_u8 Mf
 rw[hd] at h1
 simp only[Rp] at h1
 have:=Ic l h1
 refine⟨l,?_,hl⟩
 show Value.agg cs=_
 have h3:cs.toList=l.map U8:=this
 rw[←h3]
end
end Go.Rl
namespace Go.Rl
open Go.RowKit
structure bR where
 path:List bV
 leaf:aZ
def cc (e:bR):List UInt8:=uv e.path.length++e.path.flatMap fG++dF e.leaf
def fO (d:bV):Bool:=decide (1≤d.kd)&&decide (d.kd≤4)&&fI d.at_
def cX (e:bR):Bool:=decide (e.path.length≤2048)&&decide (e.leaf.kids.length=0)&&qo e.leaf&&i8 e.leaf&&e.path.all fO
def lr (l:List UInt8):Option (bR×List UInt8):=(dn oh l).bind fun a=>(gW a.2).bind fun b=>some (⟨a.1,b.1⟩,b.2)
def iy (b:List UInt8):Option bR:=match lr b with
 |some (e,[])=>if cX e=true then some e else none
 |_=>none
def xY (e:bR):Prop:=(∀d∈e.path,wD d)∧wN e.leaf
theorem xx {l t:List UInt8} {e:bR} (h:lr l=some (e,t)):l=cc e++t∧xY e∧e.path.length<18446744073709551616:=by
 unfold lr at h
 obtain⟨p1,h1,h⟩:=Option.bind_eq_some_iff.1 h
 obtain⟨p2,h2,h⟩:=Option.bind_eq_some_iff.1 h
 simp only[Option.some.injEq,Prod.mk.injEq] at h
 obtain⟨rfl,rfl⟩:=h
 obtain⟨a1,a2,a3⟩:=ro (fun l a t h=>Ez h) (xs:=p1.1) (t:=p1.2) h1
 have b:=HR (n:=p2.1) (t:=p2.2) h2
 refine⟨?_,⟨fun d hd=>(a3 d hd).2,b.2.2.1⟩,a2⟩
 show l=uv p1.1.length++p1.1.flatMap fG++dF p2.1++p2.2
 rw[List.append_assoc,←b.1,←a1]
theorem xz {b:List UInt8} {e:bR} (h:iy b=some e):cc e=b∧cX e=true∧xY e∧lr b=some (e,[]):=by
 unfold iy at h
 split at h
 ·rename_i e' he
  split at h
  ·cases h
   have:=xx he
   rw[List.append_nil] at this
   exact⟨this.1.symm,by assumption,this.2.1,he⟩
  ·cases h
 ·cases h
theorem AD {b:List UInt8} {e:bR} (h:lr b=some (e,[])) (hv:cX e=true):iy b=some e:=by
 unfold iy
 rw[h]
 exact if_pos hv
theorem xA {q:fj} (hc:fI q=true) (hl:(gj q).length<18446744073709551616):LM q:=⟨hc,by have:=jG q;omega,by have:=jG q;omega⟩
theorem sV {α:Type} {f:α→List UInt8} {l:List α} {a:α} (h:a∈l):(f a).length≤(l.flatMap f).length:=by
 induction l with
 |nil=>cases h
 |cons b l ih=>
  rw[List.flatMap_cons,List.length_append]
  rcases List.mem_cons.1 h with rfl|h
  ·omega
  ·have:=ih h;omega
theorem kW {α:Type} {f:α→List UInt8} {k:Nat} (l:List α) (h:∀a∈l,k≤(f a).length):k*l.length≤(l.flatMap f).length:=by
 induction l with
 |nil=>simp
 |cons b l ih=>
  rw[List.flatMap_cons,List.length_append,List.length_cons]
  have:=ih fun a ha=>h a (by simp[ha])
  have:=h b (by simp)
  rw[Nat.mul_succ];omega
theorem Cc (q:fj):3≤(gj q).length:=by
 have h:∀n:List UInt32,1≤(jj n).length:=fun n=>by
  have:=qC n.length
  simp only[jj,List.length_append];omega
 have h1:=h q.2.1
 have h2:=h q.2.2
 simp only[gj,om,List.length_append,List.length_cons,List.length_nil]
 omega
theorem pl (n:Int):1≤(dt n).length:=qC _
theorem t4 (m:cg):7≤(fg m).length:=by
 have:=pl m.kd;have:=pl m.ix;have:=pl m.lo;have:=pl m.hi;have:=Cc m.co
 simp only[fg,List.length_append];omega
theorem zc (m:dI):6≤(dY m).length:=by
 have:=pl m.un;have:=Cc m.va;have:=qC m.pf.length
 have:(wv m.up).length=1:=by cases m.up<;>rfl
 simp only[dY,iY,List.length_append];omega
theorem Jl {d:bV} (hc:fI d.at_=true) (hw:wD d) (hl:(fG d).length<18446744073709551616) (t:List UInt8):oh (fG d++t)=some (d,t):=by
 have hq:LM d.at_:=xA hc (by simp only[fG,List.length_append] at hl;omega)
 unfold oh fG
 rw[List.append_assoc,List.append_assoc,nz hw.1];simp only[Option.bind_some]
 rw[nz hw.2];simp only[Option.bind_some]
 rw[Aa hq];rfl
theorem Ie {m:cg} (hc:fI m.co=true) (hw:Ll m) (hl:(fg m).length<18446744073709551616) (t:List UInt8):ri (fg m++t)=some (m,t):=by
 have hq:LM m.co:=xA hc (by simp only[fg,List.length_append] at hl;omega)
 unfold ri fg
 simp only[List.append_assoc]
 rw[nz hw.1];simp only[Option.bind_some]
 rw[nz hw.2.1];simp only[Option.bind_some]
 rw[nz hw.2.2.1];simp only[Option.bind_some]
 rw[nz hw.2.2.2];simp only[Option.bind_some]
 rw[Aa hq];rfl
theorem EH {l:List cg} (hc:mU l=true) (hw:wP l) (hl:(iY l).length<18446744073709551616) (t:List UInt8):BJ (iY l++t)=some (l,t):=by
 simp only[iY,List.length_append] at hl
 have hn:=kW l fun m _=>t4 m
 exact rg (by omega) (fun m hm t=>Ie (List.all_eq_true.1 hc m hm) (hw m hm) (by have:=sV (f:=fg) hm;omega) t) t
theorem Jm {k n:Nat} (h:n≤k) (hk:k<18446744073709551616) (t:List UInt8):jW k (uv n++t)=some (n,t):=by
 unfold jW
 rw[qG (by omega)]
 exact if_pos h
theorem KX (b:Bool):wv b=uv (if b=true then 1 else 0):=by cases b<;>rfl
theorem zd {k:Nat} (hk:1≤k) (hk2:k<18446744073709551616) (b:Bool) (t:List UInt8):jW k (wv b++t)=some (if b=true then 1 else 0,t):=by
 rw[KX]
 exact Jm (by split<;>omega) hk2 t
theorem If (b:Bool):bW (if b=true then 1 else 0)=b:=by cases b<;>rfl
theorem Ig {m:dI} (hc:iN m=true) (hw:HO m) (hl:(dY m).length<18446744073709551616) (t:List UInt8):nA (dY m++t)=some (m,t):=by
 simp only[iN,Bool.and_eq_true] at hc
 have hq:LM m.va:=xA hc.1 (by simp only[dY,List.length_append] at hl;omega)
 have hp:=EH hc.2 hw.2 (by simp only[dY,List.length_append] at hl;omega)
 unfold nA dY
 simp only[List.append_assoc]
 rw[nz hw.1];simp only[Option.bind_some]
 rw[zd (by omega) (by omega)];simp only[Option.bind_some]
 rw[Aa hq];simp only[Option.bind_some]
 rw[hp];simp only[Option.bind_some,If]
theorem Gc {l:List dI} (hc:l.all iN=true) (hw:∀m∈l,HO m) (hl:(eu l).length<18446744073709551616) (t:List UInt8):jc (eu l++t)=some (l,t):=by
 simp only[eu,List.length_append] at hl
 have hn:=kW l fun m _=>zc m
 exact rg (by omega) (fun m hm t=>Ig (List.all_eq_true.1 hc m hm) (hw m hm) (by have:=sV (f:=dY) hm;omega) t) t
theorem Jn {n:aZ} (hk:n.kids.length=0) (hv:qo n=true):n=.mk n.lems lq [] n.empty n.pf:=by
 cases n with
 |mk l s k e p=>
  have hk':k=[]:=List.eq_nil_of_length_eq_zero hk
  subst hk'
  have hz:xW s=true:=by
   unfold qo at hv
   simp only[Bool.and_eq_true] at hv
   have:=hv.1
   unfold Gr at this
   exact this
  rw[Ap] at hz
  have:=of_decide_eq_true hz
  subst this
  rfl
theorem Ih {n:aZ} (hk:n.kids.length=0) (hv:qo n=true) (hc:i8 n=true) (hw:wN n) (hl:(dF n).length<18446744073709551616) (t:List UInt8):gW (dF n++t)=some (n,t):=by
 have e:=Jn hk hv
 rw[Ex] at hc
 simp only[Bool.and_eq_true] at hc
 obtain⟨⟨⟨c1,_⟩,c2⟩,_⟩:=hc
 obtain⟨w1,_,w2,_⟩:=(tX n).1 hw
 have he:=mV n
 rw[if_pos hk] at he
 rw[he] at hl⊢
 simp only[List.length_append] at hl
 rw[pQ]
 simp only[List.append_assoc]
 rw[zd (by omega) (by omega)];simp only[Option.bind_some]
 rw[Gc c2 w1 (by omega)];simp only[Option.bind_some]
 rw[if_pos (by split<;>omega),EH c1 w2 (by omega)]
 simp only[Option.bind_some]
 rw[show decide ((if n.empty=true then 1 else 0)=1)=n.empty by cases n.empty<;>rfl,←e]
theorem Ii {e:bR} (hv:cX e=true) (hw:xY e) (hl:(cc e).length<18446744073709551616) (t:List UInt8):lr (cc e++t)=some (e,t):=by
 simp only[cX,Bool.and_eq_true,decide_eq_true_eq] at hv
 obtain⟨⟨⟨⟨v1,v2⟩,v3⟩,v4⟩,v5⟩:=hv
 simp only[cc,List.length_append] at hl
 unfold lr cc
 rw[List.append_assoc,rg (by omega) fun d hd t=>Jl (by
  have:=List.all_eq_true.1 v5 d hd
  simp only[fO,Bool.and_eq_true] at this
  exact this.2) (hw.1 d hd) (by have:=sV (f:=fG) hd;omega) t]
 simp only[Option.bind_some]
 rw[Ih v2 v3 v4 hw.2 (by omega)]
 rfl
theorem Cd {e:bR} (hv:cX e=true) (hw:xY e) (hl:(cc e).length<18446744073709551616):iy (cc e)=some e:=by
 refine AD ?_ hv
 have:=Ii hv hw hl []
 rwa [List.append_nil] at this
def ov {α:Type} (most:Nat) (f:List UInt8→Option (α×List UInt8)) (l:List UInt8):Option (List α×List UInt8):=(jW most l).bind fun p=>bS f p.1 p.2
def gP:List UInt8→Option (List cg×List UInt8):=ov 1048576 ri
def EI (l:List UInt8):Option (dI×List UInt8):=(jy l).bind fun a=>(jW 1 a.2).bind fun b=>(jb b.2).bind fun c=>(gP c.2).bind fun d=>some (⟨a.1,bW b.1,c.1,d.1⟩,d.2)
def Gs (l:List UInt8):Option (bR×List UInt8):=(ov 2048 oh l).bind fun a=>(jW 1 a.2).bind fun b=>(ov 1073741824 EI b.2).bind fun c=>(gP c.2).bind fun d=>some (⟨a.1,.mk c.1 lq [] (bW b.1) d.1⟩,d.2)
theorem Ij {k n:Nat} {l t:List UInt8} (h:jW k l=some (n,t)):eJ l=some (n,t)∧n≤k:=by
 unfold jW at h
 obtain⟨p,h1,h2⟩:=Option.bind_eq_some_iff.1 h
 split at h2
 ·cases h2;exact⟨h1,by assumption⟩
 ·cases h2
theorem Ik {k m n:Nat} {l t:List UInt8} (h:jW k l=some (n,t)) (hm:n≤m):jW m l=some (n,t):=by
 unfold jW
 rw[(Ij h).1]
 exact if_pos hm
theorem pR {α:Type} {most:Nat} {f:List UInt8→Option (α×List UInt8)} {l t:List UInt8} {xs:List α} (h:ov most f l=some (xs,t)):dn f l=some (xs,t):=by
 unfold ov at h
 obtain⟨p,h1,h2⟩:=Option.bind_eq_some_iff.1 h
 unfold dn
 rw[(Ij (n:=p.1) (t:=p.2) h1).1]
 exact h2
theorem xB {α:Type} {f:List UInt8→Option (α×List UInt8)}:∀(n:Nat) (l:List UInt8) (xs:List α) (t:List UInt8),bS f n l=some (xs,t)→xs.length=n
 |0,l,xs,t,h=>by
  simp only[bS,Option.some.injEq,Prod.mk.injEq] at h
  rw[←h.1];rfl
 |n+1,l,xs,t,h=>by
  simp only[bS] at h
  obtain⟨p,h1,h2⟩:=Option.bind_eq_some_iff.1 h
  obtain⟨q,h3,h4⟩:=Option.map_eq_some_iff.1 h2
  simp only[Prod.mk.injEq] at h4
  rw[←h4.1,List.length_cons,xB n _ _ _ (show bS f n p.2=some (q.1,q.2) from h3)]
theorem AE {α:Type} {most:Nat} {f:List UInt8→Option (α×List UInt8)} {l t:List UInt8} {xs:List α} (h:dn f l=some (xs,t)) (hn:xs.length≤most):ov most f l=some (xs,t):=by
 unfold dn at h
 obtain⟨p,h1,h2⟩:=Option.bind_eq_some_iff.1 h
 unfold ov jW
 rw[h1]
 simp only[Option.bind_some]
 rw[if_pos (by rw[←xB _ _ _ _ h2];exact hn)]
 exact h2
theorem uL {α:Type} {f g:List UInt8→Option (α×List UInt8)} (h:∀l a t,f l=some (a,t)→g l=some (a,t)):∀(n:Nat) (l:List UInt8) (xs:List α) (t:List UInt8),bS f n l=some (xs,t)→bS g n l=some (xs,t)
 |0,l,xs,t,e=>e
 |n+1,l,xs,t,e=>by
  simp only[bS] at e⊢
  obtain⟨p,h1,h2⟩:=Option.bind_eq_some_iff.1 e
  obtain⟨q,h3,h4⟩:=Option.map_eq_some_iff.1 h2
  rw[h l p.1 p.2 h1]
  simp only[Option.bind_some]
  rw[uL h n p.2 q.1 q.2 h3]
  exact congrArg some h4
theorem Ce {α:Type} {f g:List UInt8→Option (α×List UInt8)} (h:∀l a t,f l=some (a,t)→g l=some (a,t)) {l t:List UInt8} {xs:List α} (e:dn f l=some (xs,t)):dn g l=some (xs,t):=by
 unfold dn at e⊢
 obtain⟨p,h1,h2⟩:=Option.bind_eq_some_iff.1 e
 rw[h1]
 exact uL h _ _ _ _ h2
theorem KY {l t:List UInt8} {m:dI} (h:EI l=some (m,t)):nA l=some (m,t):=by
 unfold EI at h
 unfold nA
 obtain⟨p1,h1,h⟩:=Option.bind_eq_some_iff.1 h
 obtain⟨p2,h2,h⟩:=Option.bind_eq_some_iff.1 h
 obtain⟨p3,h3,h⟩:=Option.bind_eq_some_iff.1 h
 obtain⟨p4,h4,h⟩:=Option.bind_eq_some_iff.1 h
 rw[h1];simp only[Option.bind_some]
 rw[h2];simp only[Option.bind_some]
 rw[h3];simp only[Option.bind_some]
 rw[show BJ p3.2=some p4 from pR (t:=p4.2) h4]
 exact h
theorem KZ {l t:List UInt8} {e:bR} (h:Gs l=some (e,t)):lr l=some (e,t):=by
 unfold Gs at h
 unfold lr
 obtain⟨p1,h1,h⟩:=Option.bind_eq_some_iff.1 h
 obtain⟨p2,h2,h⟩:=Option.bind_eq_some_iff.1 h
 obtain⟨p3,h3,h⟩:=Option.bind_eq_some_iff.1 h
 obtain⟨p4,h4,h⟩:=Option.bind_eq_some_iff.1 h
 simp only[Option.some.injEq,Prod.mk.injEq] at h
 obtain⟨rfl,rfl⟩:=h
 have hk:p2.1≤1:=(Ij (n:=p2.1) (t:=p2.2) h2).2
 rw[show dn oh l=some p1 from pR (t:=p1.2) h1]
 simp only[Option.bind_some]
 rw[pQ,show jW 2 p1.2=some p2 from Ik (n:=p2.1) (t:=p2.2) h2 (by omega)]
 simp only[Option.bind_some]
 rw[show jc p2.2=some p3 from Ce (fun _ _ _ h=>KY h) (pR (xs:=p3.1) (t:=p3.2) h3)]
 simp only[Option.bind_some]
 rw[if_pos (by omega),show BJ p3.2=some p4 from pR (t:=p4.2) h4]
 rfl
theorem Ke {l t:List UInt8} {ps:List cg} (h:BJ l=some (ps,t)) (hn:ps.length≤1048576):gP l=some (ps,t):=AE h hn
theorem K0 {l t:List UInt8} {m:dI} (h:nA l=some (m,t)) (hn:m.pf.length≤1048576):EI l=some (m,t):=by
 unfold nA at h
 unfold EI
 obtain⟨p1,h1,h⟩:=Option.bind_eq_some_iff.1 h
 obtain⟨p2,h2,h⟩:=Option.bind_eq_some_iff.1 h
 obtain⟨p3,h3,h⟩:=Option.bind_eq_some_iff.1 h
 obtain⟨p4,h4,h⟩:=Option.bind_eq_some_iff.1 h
 simp only[Option.some.injEq,Prod.mk.injEq] at h
 obtain⟨rfl,rfl⟩:=h
 rw[h1];simp only[Option.bind_some]
 rw[h2];simp only[Option.bind_some]
 rw[h3];simp only[Option.bind_some]
 rw[show gP p3.2=some p4 from Ke (t:=p4.2) h4 hn]
 rfl
theorem ze {α:Type} {f g:List UInt8→Option (α×List UInt8)}:∀(n:Nat) (l:List UInt8) (xs:List α) (t:List UInt8),bS f n l=some (xs,t)→(∀x∈xs,∀l t,f l=some (x,t)→g l=some (x,t))→bS g n l=some (xs,t)
 |0,l,xs,t,e,_=>e
 |n+1,l,xs,t,e,h=>by
  simp only[bS] at e⊢
  obtain⟨p,h1,h2⟩:=Option.bind_eq_some_iff.1 e
  obtain⟨q,h3,h4⟩:=Option.map_eq_some_iff.1 h2
  simp only[Prod.mk.injEq] at h4
  obtain⟨rfl,rfl⟩:=h4
  rw[h p.1 (by simp) l p.2 h1]
  simp only[Option.bind_some]
  rw[ze n p.2 q.1 q.2 h3 fun x hx=>h x (by simp[hx])]
  rfl
theorem K3 {l t:List UInt8} {e:bR} (h:lr l=some (e,t)) (hk:e.leaf.kids.length=0) (h1:e.path.length≤2048) (h2:e.leaf.lems.length≤1073741824) (h3:e.leaf.pf.length≤1048576) (h4:∀m∈e.leaf.lems,m.pf.length≤1048576):Gs l=some (e,t):=by
 unfold lr at h
 obtain⟨a,ha,h⟩:=Option.bind_eq_some_iff.1 h
 obtain⟨n,hn,h⟩:=Option.bind_eq_some_iff.1 h
 simp only[Option.some.injEq,Prod.mk.injEq] at h
 obtain⟨rfl,rfl⟩:=h
 rw[pQ] at hn
 obtain⟨p2,hp2,hn⟩:=Option.bind_eq_some_iff.1 hn
 obtain⟨p3,hp3,hn⟩:=Option.bind_eq_some_iff.1 hn
 split at hn
 ·rename_i hlt
  obtain⟨p4,hp4,hn⟩:=Option.bind_eq_some_iff.1 hn
  simp only[Option.some.injEq] at hn
  subst hn
  unfold Gs
  rw[show ov 2048 oh l=some a from AE (xs:=a.1) (t:=a.2) ha h1]
  simp only[Option.bind_some]
  rw[show jW 1 a.2=some p2 from Ik (n:=p2.1) (t:=p2.2) hp2 (by omega)]
  simp only[Option.bind_some]
  have hL:ov 1073741824 EI p2.2=some p3:=by
   refine AE (xs:=p3.1) (t:=p3.2) ?_ h2
   have hp3':dn nA p2.2=some p3:=hp3
   unfold dn at hp3'⊢
   obtain⟨q,hq,hq2⟩:=Option.bind_eq_some_iff.1 hp3'
   rw[hq]
   exact ze _ _ _ _ hq2 fun x hx l t hh=>K0 hh (h4 x hx)
  rw[hL]
  simp only[Option.bind_some]
  rw[show gP p3.2=some p4 from Ke (ps:=p4.1) (t:=p4.2) hp4 h3]
  rfl
 ·obtain⟨p4,hp4,hn⟩:=Option.bind_eq_some_iff.1 hn
  obtain⟨p5,hp5,hn⟩:=Option.bind_eq_some_iff.1 hn
  obtain⟨p6,hp6,hn⟩:=Option.bind_eq_some_iff.1 hn
  simp only[Option.some.injEq] at hn
  subst hn
  simp[aZ.kids] at hk
theorem Gd {e:bR} (hk:e.leaf.kids.length=0) (hl:(cc e).length≤7340032):e.leaf.lems.length≤1073741824∧e.leaf.pf.length≤1048576∧∀m∈e.leaf.lems,m.pf.length≤1048576:=by
 have he:=mV e.leaf
 rw[if_pos hk] at he
 simp only[cc,he,List.length_append,eu,iY] at hl
 have h1:=kW e.leaf.pf fun m _=>t4 m
 have h2:=kW e.leaf.lems fun m _=>zc m
 refine⟨by omega,by omega,fun m hm=>?_⟩
 have h3:=sV (f:=dY) hm
 have h4:=kW m.pf fun m _=>t4 m
 simp only[dY,iY,List.length_append] at h3
 omega
theorem EJ {b:List UInt8} {e:bR} (h:iy b=some e) (hl:b.length≤7340032):Gs b=some (e,[]):=by
 obtain⟨h1,h2,_,h4⟩:=xz h
 simp only[cX,Bool.and_eq_true,decide_eq_true_eq] at h2
 obtain⟨a,b',c⟩:=Gd h2.1.1.1.2 (by rw[h1];exact hl)
 exact K3 h4 h2.1.1.1.2 h2.1.1.1.1 a b' c
structure JR {α:Type} (f:List UInt8→Option (α×List UInt8)) (st:Option (List UInt8)) (ok:Bool) (a:α) (s1:Option (List UInt8)) (ok1:Bool):Prop where
 iff:ok1=(ok&&(st.bind f).isSome)
 val:ok1=true→st.bind f=s1.map fun t=>(a,t)
section
variable {α β:Type} {f:List UInt8→Option (α×List UInt8)} {g:α→List UInt8→Option (β×List UInt8)} {st s1 s2:Option (List UInt8)} {ok ok1 ok2:Bool} {a:α} {b:β}
theorem JR.of_rdE (h:fK f st a s1):JR f st ok a s1 (ok&&s1.isSome):=by
 have h:st.bind f=s1.map fun t=>(a,t):=h
 refine⟨by rw[h];cases s1<;>rfl,fun _=>h⟩
theorem JR.bind (h1:JR f st ok a s1 ok1) (h2:JR (g a) s1 ok1 b s2 ok2):JR (fun l=>(f l).bind fun p=>g p.1 p.2) st ok b s2 ok2:=by
 have e:st.bind (fun l=>(f l).bind fun p=>g p.1 p.2)=(st.bind f).bind fun p=>g p.1 p.2:=by cases st<;>rfl
 refine⟨?_,fun h=>?_⟩
 ·rw[h2.iff,e]
  cases hk:ok1 with
  |true=>
   have hv:=h1.val hk
   have hi:=h1.iff
   rw[hk] at hi
   simp only[Bool.true_eq,Bool.and_eq_true] at hi
   rw[hi.1,hv]
   cases s1<;>rfl
  |false=>
   have hi:=h1.iff
   rw[hk] at hi
   cases ok with
   |false=>rfl
   |true=>
    simp only[Bool.true_and] at hi
    have:st.bind f=none:=Option.isNone_iff_eq_none.1 (by rw[Option.isNone_iff_eq_none];exact Option.not_isSome_iff_eq_none.1 (by rw[←hi];simp))
    rw[this];rfl
 ·have hi2:=h2.iff
  rw[h] at hi2
  simp only[Bool.true_eq,Bool.and_eq_true] at hi2
  rw[e,h1.val hi2.1]
  have:=h2.val h
  cases s1 with
  |none=>exact this
  |some t=>exact this
theorem JR.ok_le (h:JR f st ok a s1 ok1):ok1=true→ok=true∧s1.isSome=true:=fun e=>by
 have h1:=h.iff
 rw[e] at h1
 simp only[Bool.true_eq,Bool.and_eq_true] at h1
 refine⟨h1.1,?_⟩
 have:=h.val e
 rw[this] at h1
 cases s1 with
 |none=>exact absurd h1.2 (by simp)
 |some t=>rfl
theorem JR.map (h:JR f st ok a s1 ok1) (k:α→β):JR (fun l=>(f l).bind fun p=>some (k p.1,p.2)) st ok (k a) s1 ok1:=by
 have e:st.bind (fun l=>(f l).bind fun p=>some (k p.1,p.2))=(st.bind f).map fun p=>(k p.1,p.2):=by
  cases st with
  |none=>rfl
  |some l=>show(f l).bind _=(f l).map _;cases f l<;>rfl
 refine⟨?_,fun hk=>?_⟩
 ·rw[h.iff,e];cases st.bind f<;>rfl
 ·rw[e,h.val hk];cases s1<;>rfl
end
end Go.Rl
namespace Go.Rl
open Go.RowKit Go.Proofs
theorem Jo (l:List UInt32):(nj l).bulk=l.length+1:=by
 have:∀l:List UInt32,Dt.bulkAll (l.map zS)=l.length:=by
  intro l
  induction l with
  |nil=>rfl
  |cons a l ih=>simp only[List.map_cons,Dt.bulkAll,ih,zS,Dt.bulk,List.length_cons];omega
 simp only[nj,Dt.bulk,this]
theorem AF (q:fj):(iX q).bulk=q.2.1.length+q.2.2.length+4:=by
 simp only[iX,Dt.bulk,Dt.bulkAll,Jo];omega
theorem mY {α:Type} {f:α→Dt} {m:α→Nat} {c:Nat} (l:List α) (h:∀a∈l,m a≤c*(f a).bulk):(l.map m).sum≤c*Dt.bulkAll (l.map f):=by
 induction l with
 |nil=>simp
 |cons a l ih=>
  simp only[List.map_cons,List.sum_cons,Dt.bulkAll,Nat.mul_add]
  have:=h a (by simp)
  have:=ih fun b hb=>h b (by simp[hb])
  omega
theorem pS {α:Type} {f:α→Dt} {e:α→List UInt8} {c:Nat} (l:List α) (h:∀a∈l,(e a).length≤c*(f a).bulk):(l.flatMap e).length≤c*Dt.bulkAll (l.map f):=by
 have:∀l:List α,(l.flatMap e).length=(l.map fun a=>(e a).length).sum:=by
  intro l
  induction l with
  |nil=>rfl
  |cons a l ih=>simp only[List.flatMap_cons,List.length_append,List.map_cons,List.sum_cons,ih]
 rw[this]
 exact mY l h
theorem iM (m:cg):(bK m).bulk=m.co.2.1.length+m.co.2.2.length+10:=by
 simp only[bK,qt,Dt.bulk,Dt.bulkAll,AF];omega
theorem sY (d:bV):(dm d).bulk=d.at_.2.1.length+d.at_.2.2.length+7:=by
 simp only[dm,qt,Dt.bulk,Dt.bulkAll,AF];omega
theorem xC (l:List cg):(gV l).bulk=Dt.bulkAll (l.map bK)+1:=rfl
theorem jK (m:dI):(cV m).bulk=m.va.2.1.length+m.va.2.2.length+Dt.bulkAll (m.pf.map bK)+8:=by
 simp only[cV,qt,Dt.bulk,Dt.bulkAll,AF,xC];omega
theorem t6 (n:aZ):(bH n).bulk=Dt.bulkAll (n.lems.map cV)+(dm n.split).bulk+Dt.bulkAll (n.kids.map bH)+Dt.bulkAll (n.pf.map bK)+5:=by
 cases n with
 |mk l s k e p=>
  simp only[bH,kT,Dt.bulk,Dt.bulkAll,xC,aZ.lems,aZ.split,aZ.kids,aZ.pf]
  omega
theorem pT {q:fj} (h:q.2.1.length≤1073741824) (h2:q.2.2.length≤1073741824):(gj q).length≤4*(q.2.1.length+q.2.2.length)+21:=by
 have a1:=et (n:=q.2.1.length) (by omega)
 have a2:=et (n:=q.2.2.length) (by omega)
 simp only[gj,om,jj,List.length_append,List.length_cons,List.length_nil,eE]
 omega
theorem gi {n:Int} (h:lK n):(dt n).length≤10:=et (CE h.1 h.2)
section
variable {B:Nat}
theorem Il {m:cg} (hb:(bK m).bulk≤1048576) (hw:Ll m):(fg m).length≤10*(bK m).bulk:=by
 rw[iM] at hb⊢
 have:=gi hw.1;have:=gi hw.2.1;have:=gi hw.2.2.1;have:=gi hw.2.2.2
 have:=pT (q:=m.co) (by omega) (by omega)
 simp only[fg,List.length_append];omega
theorem EK {l:List cg} (hb:Dt.bulkAll (l.map bK)≤1048576) (hw:wP l):(iY l).length≤10*Dt.bulkAll (l.map bK)+10:=by
 have h1:=dM (l.map bK)
 rw[List.length_map] at h1
 have:=et (n:=l.length) (by omega)
 have:=pS (f:=bK) (e:=fg) (c:=10) l fun m hm=>Il (Nat.le_trans (el (List.mem_map_of_mem (f:=bK) hm)) hb) (hw m hm)
 simp only[iY,List.length_append];omega
theorem Im {m:dI} (hb:(cV m).bulk≤1048576) (hw:HO m):(dY m).length≤10*(cV m).bulk:=by
 rw[jK] at hb⊢
 have:=gi hw.1
 have:=pT (q:=m.va) (by omega) (by omega)
 have:=EK (l:=m.pf) (by omega) hw.2
 have:(wv m.up).length=1:=u9 m.up
 simp only[dY,List.length_append];omega
theorem Ge {l:List dI} (hb:Dt.bulkAll (l.map cV)≤1048576) (hw:∀m∈l,HO m):(eu l).length≤10*Dt.bulkAll (l.map cV)+10:=by
 have h1:=dM (l.map cV)
 rw[List.length_map] at h1
 have:=et (n:=l.length) (by omega)
 have:=pS (f:=cV) (e:=dY) (c:=10) l fun m hm=>Im (Nat.le_trans (el (List.mem_map_of_mem (f:=cV) hm)) hb) (hw m hm)
 simp only[eu,List.length_append];omega
theorem EL {d:bV} (hb:(dm d).bulk≤1048576) (hw:wD d):(fG d).length≤10*(dm d).bulk:=by
 rw[sY] at hb⊢
 have:=gi hw.1;have:=gi hw.2
 have:=pT (q:=d.at_) (by omega) (by omega)
 simp only[fG,List.length_append];omega
theorem AG:∀(k:Nat) {n:aZ},SizeOf.sizeOf n≤k→(bH n).bulk≤1048576→wN n→(dF n).length≤10*(bH n).bulk∧uK n≤2*(bH n).bulk∧sN n
 |0,n,hk,_,_=>by cases n;simp at hk
 |k+1,n,hk,hb,hw=>by
  obtain⟨wl,wd,wp,wk⟩:=(tX n).1 hw
  rw[t6] at hb⊢
  have ih:∀c∈n.kids,(dF c).length≤10*(bH c).bulk∧uK c≤2*(bH c).bulk∧sN c:=fun c hc=>by
   have h1:=el (List.mem_map_of_mem (f:=bH) hc)
   exact AG k (by have:=aZ.lt_of_mem hc;omega) (by omega) (wk c hc)
  have e1:=Ge (l:=n.lems) (by omega) wl
  have e2:=EL (d:=n.split) (by omega) wd
  have e3:=EK (l:=n.pf) (by omega) wp
  have e4:=pS (f:=bH) (e:=dF) (c:=10) n.kids fun c hc=>(ih c hc).1
  have s1:=mY (f:=bK) (m:=mQ) (c:=1) n.pf fun m _=>by rw[iM];unfold mQ;omega
  have s2:=mY (f:=cV) (m:=mL) (c:=1) n.lems fun m _=>by
   have:=mY (f:=bK) (m:=mQ) (c:=1) m.pf fun m _=>by rw[iM];unfold mQ;omega
   rw[jK];unfold mL mP;omega
  have s3:=mY (f:=bH) (m:=uK) (c:=2) n.kids fun c hc=>(ih c hc).2.1
  have s4:=dM (n.lems.map cV)
  rw[List.length_map] at s4
  have hd:=sY n.split
  refine⟨?_,?_,?_⟩
  ·rw[mV]
   split
   ·simp only[List.length_append,u9];omega
   ·simp only[List.length_append,List.length_cons,List.length_nil];omega
  ·rw[H9];unfold mP;omega
  ·refine(xq n).2 ⟨fun m hm=>⟨⟨?_,?_⟩,fun p hp=>⟨?_,?_⟩⟩,⟨by omega,by omega⟩,fun p hp=>⟨?_,?_⟩,fun c hc=>(ih c hc).2.2⟩
   ·have:=el (List.mem_map_of_mem (f:=cV) hm);rw[jK] at this;omega
   ·have:=el (List.mem_map_of_mem (f:=cV) hm);rw[jK] at this;omega
   ·have h1:=el (List.mem_map_of_mem (f:=cV) hm);rw[jK] at h1
    have h2:=el (List.mem_map_of_mem (f:=bK) hp);rw[iM] at h2;omega
   ·have h1:=el (List.mem_map_of_mem (f:=cV) hm);rw[jK] at h1
    have h2:=el (List.mem_map_of_mem (f:=bK) hp);rw[iM] at h2;omega
   ·have h2:=el (List.mem_map_of_mem (f:=bK) hp);rw[iM] at h2;omega
   ·have h2:=el (List.mem_map_of_mem (f:=bK) hp);rw[iM] at h2;omega
end
end Go.Rl
namespace Go.Rl
open Go.RowKit
end Go.Rl
namespace Go.Rl
open Go.RowKit
end Go.Rl
namespace Go.Rl
open Go.RowKit Go.Proofs
end Go.Rl
namespace Go.Rl
open Go.RowKit Go.Proofs Go.Proofs.YtpeidnhjcompmaaGreatDoor
end Go.Rl
namespace Go.Rl
open Go.RowKit
end Go.Rl
namespace Go.Rl
open Go.RowKit Go.Proofs Go.Proofs.YtpeidnhjcompmaaGreatDoor
theorem iz {w:World} {q:fj} {x y:Value} (hx:bt q.2.1 x w) (hy:bt q.2.2 y w) (hs:sQ q):
 Calls Tryz.prog 99 #[.agg #[B q.1,x,y]] w (bE fun r w'=>aN w w'∧r=B (fI q)):=
 oQ (b:=q.1) ⟨x,y,rfl,hx,hy⟩ (by have:=hs.1;omega) (by have:=hs.2;omega)
end Go.Rl
namespace Go.Rl
open Go.RowKit Go.Proofs Go.Proofs.YtpeidnhjcompmaaGreatDoor
end Go.Rl
namespace Go.Rl
open Go.RowKit Go.Proofs
end Go.Rl
namespace Go.Rl
open Go.RowKit Go.Proofs Go.Proofs.YtpeidnhjcompmaaGreatDoor
theorem zf {α:Type} {f:List UInt8→Option (α×List UInt8)} {P:α→Prop} {K:Nat} (hf:Le f) (h:∀l a t,f l=some (a,t)→l.length≤K→P a):∀(n:Nat) (l:List UInt8) (xs:List α) (t:List UInt8),bS f n l=some (xs,t)→l.length≤K→∀x∈xs,P x
 |0,l,xs,t,e,_=>by
  simp only[bS,Option.some.injEq,Prod.mk.injEq] at e
  rw[←e.1]
  exact fun _ h=>by simp at h
 |n+1,l,xs,t,e,hl=>by
  simp only[bS] at e
  obtain⟨p,h1,h2⟩:=Option.bind_eq_some_iff.1 e
  obtain⟨q,h3,h4⟩:=Option.map_eq_some_iff.1 h2
  simp only[Prod.mk.injEq] at h4
  have h5:=hf l p.1 p.2 h1
  have ih:=zf hf h n p.2 q.1 q.2 h3 (by omega)
  rw[←h4.1]
  intro x hx
  rcases List.mem_cons.1 hx with rfl|hx
  ·exact h l _ p.2 h1 hl
  ·exact ih x hx
theorem ry {α:Type} {f:List UInt8→Option (α×List UInt8)} {P:α→Prop} {K:Nat} (hf:Le f) (h:∀l a t,f l=some (a,t)→l.length≤K→P a) {l t:List UInt8} {xs:List α} (e:dn f l=some (xs,t)) (hl:l.length≤K):∀x∈xs,P x:=by
 unfold dn at e
 obtain⟨p,h1,h2⟩:=Option.bind_eq_some_iff.1 e
 have:=lL l p.1 p.2 h1
 exact zf hf h _ _ _ _ h2 (by omega)
theorem pV {l t:List UInt8} {q:fj} (h:jb l=some (q,t)) (hl:l.length≤4294967296):sQ q:=by
 have h1:=(u4 h).1
 have h2:=jG q
 have h3:=congrArg List.length h1
 rw[List.length_append] at h3
 exact⟨by omega,by omega⟩
theorem Dx {l t:List UInt8} {m:cg} (h:ri l=some (m,t)) (hl:l.length≤4294967296):sQ m.co:=by
 unfold ri at h
 obtain⟨p1,h1,h⟩:=Option.bind_eq_some_iff.1 h
 obtain⟨p2,h2,h⟩:=Option.bind_eq_some_iff.1 h
 obtain⟨p3,h3,h⟩:=Option.bind_eq_some_iff.1 h
 obtain⟨p4,h4,h⟩:=Option.bind_eq_some_iff.1 h
 obtain⟨p5,h5,h⟩:=Option.bind_eq_some_iff.1 h
 simp only[Option.some.injEq,Prod.mk.injEq] at h
 obtain⟨rfl,rfl⟩:=h
 have a1:=eO _ _ _ h1;have a2:=eO _ _ _ h2;have a3:=eO _ _ _ h3;have a4:=eO _ _ _ h4
 exact pV (q:=p5.1) (t:=p5.2) h5 (by omega)
theorem zg {l t:List UInt8} {xs:List cg} (h:BJ l=some (xs,t)) (hl:l.length≤4294967296):sP xs:=ry Ad.le (fun _ _ _ h hl=>Dx h hl) h hl
theorem Dy {l t:List UInt8} {m:dI} (h:nA l=some (m,t)) (hl:l.length≤4294967296):sL m:=by
 unfold nA at h
 obtain⟨p1,h1,h⟩:=Option.bind_eq_some_iff.1 h
 obtain⟨p2,h2,h⟩:=Option.bind_eq_some_iff.1 h
 obtain⟨p3,h3,h⟩:=Option.bind_eq_some_iff.1 h
 obtain⟨p4,h4,h⟩:=Option.bind_eq_some_iff.1 h
 simp only[Option.some.injEq,Prod.mk.injEq] at h
 obtain⟨rfl,rfl⟩:=h
 have a1:=eO _ _ _ h1;have a2:=rj 1 _ _ _ h2;have a3:=tM _ _ _ h3
 exact⟨pV (q:=p3.1) (t:=p3.2) h3 (by omega),zg (xs:=p4.1) (t:=p4.2) h4 (by omega)⟩
theorem rz:∀(k:Nat) (l t:List UInt8) (n:aZ),qm k l=some (n,t)→l.length≤4294967296→sN n
 |0,_,_,_,h,_=>by cases h
 |k+1,l,t,n,h,hl=>by
  simp only[qm] at h
  obtain⟨p1,h1,h⟩:=Option.bind_eq_some_iff.1 h
  obtain⟨p2,h2,h⟩:=Option.bind_eq_some_iff.1 h
  have a1:=rj 2 _ _ _ h1;have a2:=sJ _ _ _ h2
  have s2:=ry Ae.le (fun _ _ _ h hl=>Dy h hl) (xs:=p2.1) (t:=p2.2) h2 (by omega)
  split at h
  ·obtain⟨p3,h3,h⟩:=Option.bind_eq_some_iff.1 h
   simp only[Option.some.injEq,Prod.mk.injEq] at h
   obtain⟨rfl,rfl⟩:=h
   refine(xq _).2 ⟨s2,⟨?_,?_⟩,zg (xs:=p3.1) (t:=p3.2) h3 (by omega),fun _ h=>?_⟩
   ·show([]:List UInt32).length≤_;simp
   ·show([]:List UInt32).length≤_;simp
   ·simp[aZ.kids] at h
  ·obtain⟨p3,h3,h⟩:=Option.bind_eq_some_iff.1 h
   obtain⟨p4,h4,h⟩:=Option.bind_eq_some_iff.1 h
   obtain⟨p5,h5,h⟩:=Option.bind_eq_some_iff.1 h
   simp only[Option.some.injEq,Prod.mk.injEq] at h
   obtain⟨rfl,rfl⟩:=h
   have a3:=nB _ _ _ h3;have a4:=pL _ _ _ _ h4
   have s4:=rz k _ p4.2 p4.1 h4 (by omega)
   have s5:=rz k _ p5.2 p5.1 h5 (by omega)
   have sd:sQ p3.1.at_:=by
    unfold oh at h3
    obtain⟨q1,i1,h3⟩:=Option.bind_eq_some_iff.1 h3
    obtain⟨q2,i2,h3⟩:=Option.bind_eq_some_iff.1 h3
    obtain⟨q3,i3,h3⟩:=Option.bind_eq_some_iff.1 h3
    have b1:=eO _ _ _ i1;have b2:=eO _ _ _ i2
    simp only[Option.some.injEq] at h3
    rw[←h3]
    exact pV (q:=q3.1) (t:=q3.2) i3 (by omega)
   refine(xq _).2 ⟨s2,sd,fun _ h=>by simp[aZ.pf] at h,fun c hc=>?_⟩
   simp only[aZ.kids,List.mem_cons,List.not_mem_nil,or_false] at hc
   rcases hc with rfl|rfl
   ·exact s4
   ·exact s5
end Go.Rl
namespace Go.Rl
open Go.RowKit
def kX:List UInt8:=[82,76,85,74]
def Cf (b:List UInt8):List UInt8:=b++(jx b).take 8
def eU (b:List UInt8) (k:Nat):Bool:=decide (k+8≤b.length)&&decide (Cf (b.take k)=b.take (k+8))
def eG (d:List UInt8):List UInt8:=Cf (kX++d)
def fA (b p:List UInt8):List UInt8:=Cf (b++fh p)
def ia (b:List UInt8) (k:Nat):Option (bR×Nat):=(ql (b.drop k)).bind fun p=>if eU b (b.length-p.2.length)=true then(iy p.1).map fun x=>(x,b.length-p.2.length+8) else none
def qu (b:List UInt8):Nat→Nat→List bR×Nat
 |0,k=>([],k)
 |f+1,k=>match ia b k with
  |some (x,k')=>(x::(qu b f k').1,(qu b f k').2)
  |none=>([],k)
def fJ (b:List UInt8) (k:Nat):List bR×Nat:=qu b (b.length-k) k
def ib (b:List UInt8):(List UInt8×List bR×Nat)×Int:=if b.length<44∨b.take 4≠kX∨eU b 36=false then((oo,[],0),5) else(((b.take 36).drop 4,fJ b 44),0)
section
variable {b:List UInt8} {k k' f:Nat} {x:bR}
theorem Jp {l a t:List UInt8} (h:ql l=some (a,t)):t.length+1≤l.length:=by
 have:=I8 h
 have h2:=qC a.length
 rw[this]
 unfold fh
 simp only[List.length_append]
 omega
theorem pW (h:ia b k=some (x,k')):∃p t,ql (b.drop k)=some (p,t)∧eU b (b.length-t.length)=true∧iy p=some x∧k'=b.length-t.length+8∧k+9≤k'∧k'≤b.length:=by
 unfold ia at h
 obtain⟨p,h1,h2⟩:=Option.bind_eq_some_iff.1 h
 split at h2
 ·rename_i hc
  obtain⟨y,h3,h4⟩:=Option.map_eq_some_iff.1 h2
  simp only[Prod.mk.injEq] at h4
  obtain⟨rfl,rfl⟩:=h4
  have h5:=Jp (a:=p.1) (t:=p.2) h1
  rw[List.length_drop] at h5
  have hc':=hc
  simp only[eU,Bool.and_eq_true,decide_eq_true_eq] at hc'
  exact⟨p.1,p.2,h1,hc,h3,rfl,by omega,by omega⟩
 ·cases h2
theorem zh (h:b.length≤k):ia b k=none:=by
 unfold ia
 rw[List.drop_eq_nil_of_le h]
 rfl
theorem kY:∀(f k:Nat),b.length-k≤f→qu b f k=fJ b k
 |0,k,h=>by
  unfold fJ
  rw[show b.length-k=0 by omega]
 |f+1,k,h=>by
  unfold fJ
  rcases Nat.lt_or_ge k b.length with hk|hk
  ·obtain⟨m,hm⟩:∃m,b.length-k=m+1:=⟨b.length-k-1,by omega⟩
   rw[hm]
   simp only[qu]
   cases hs:ia b k with
   |none=>rfl
   |some p=>
    obtain⟨x,k'⟩:=p
    obtain⟨_,_,_,_,_,_,h9,_⟩:=pW hs
    simp only[]
    rw[kY f k' (by omega),kY m k' (by omega)]
  ·rw[show b.length-k=0 by omega]
   simp only[qu,zh hk]
theorem rC (h:ia b k=some (x,k')):fJ b k=(x::(fJ b k').1,(fJ b k').2):=by
 obtain⟨_,_,_,_,_,_,h9,h10⟩:=pW h
 have:fJ b k=qu b (b.length-k-1+1) k:=(kY _ _ (by omega)).symm
 rw[this]
 simp only[qu,h]
 rw[kY _ _ (by omega)]
theorem rD (h:ia b k=none):fJ b k=([],k):=by
 have:fJ b k=qu b (b.length-k+1) k:=(kY _ _ (by omega)).symm
 rw[this]
 simp only[qu,h]
end
theorem AH (b:List UInt8):(Cf b).length=b.length+8:=by
 unfold Cf
 rw[List.length_append,List.length_take,dg]
 omega
theorem zi (a s:List UInt8):eU (Cf a++s) a.length=true:=by
 have h:=AH a
 unfold eU
 rw[Bool.and_eq_true]
 refine⟨decide_eq_true (by rw[List.length_append];omega),decide_eq_true ?_⟩
 have e1:(Cf a++s).take a.length=a:=by
  unfold Cf
  rw[List.append_assoc]
  exact List.take_left' rfl
 have e2:(Cf a++s).take (a.length+8)=Cf a:=List.take_left' h
 rw[e1,e2]
theorem sZ (b p:List UInt8):(fA b p).length=b.length+(fh p).length+8:=by unfold fA;rw[AH,List.length_append]
theorem s9 (b p:List UInt8):fA b p=b++(fh p++(jx (b++fh p)).take 8):=by
 unfold fA Cf
 rw[List.append_assoc]
theorem xD {b p:List UInt8} (rest:List UInt8) (hp:p.length<18446744073709551616):ia (fA b p++rest) b.length=(iy p).map fun x=>(x,(fA b p).length):=by
 have hc:((jx (b++fh p)).take 8).length=8:=by rw[List.length_take,dg];rfl
 have hd:(fA b p++rest).drop b.length=fh p++((jx (b++fh p)).take 8++rest):=by
  rw[s9,List.append_assoc,List.append_assoc]
  exact List.drop_left' rfl
 have hl:=sZ b p
 unfold ia
 rw[hd,Hf hp]
 simp only[Option.bind_some]
 have e:(fA b p++rest).length-((jx (b++fh p)).take 8++rest).length=(b++fh p).length:=by
  rw[List.length_append,List.length_append,List.length_append,hl,hc];omega
 rw[e,if_pos (show eU (fA b p++rest) (b++fh p).length=true from zi _ _)]
 congr 1
 funext x
 rw[hl,List.length_append]
def EM (b:List UInt8) (ps:List (List UInt8)):List UInt8:=ps.foldl fA b
theorem vc:∀(ps:List (List UInt8)) (b:List UInt8),∃s,EM b ps=b++s
 |[],b=>⟨[],by simp[EM]⟩
 |p::ps,b=>by
  obtain⟨s,h⟩:=vc ps (fA b p)
  exact⟨fh p++(jx (b++fh p)).take 8++s,by
   show EM (fA b p) ps=_
   rw[h,s9]
   simp only[List.append_assoc]⟩
theorem In (b:List UInt8) (ps:List (List UInt8)) (p:List UInt8):EM b (ps++[p])=fA (EM b ps) p:=by unfold EM;rw[List.foldl_append];rfl
theorem Dz (b:List UInt8) (ps qs:List (List UInt8)):EM b (ps++qs)=EM (EM b ps) qs:=by unfold EM;rw[List.foldl_append]
def qv (b:List UInt8) (es:List bR):List UInt8:=EM b (es.map cc)
def xF (es:List bR):Prop:=∀e∈es,iy (cc e)=some e∧(cc e).length<18446744073709551616
theorem xG:∀(es:List bR) (b rest:List UInt8),xF es→fJ (qv b es++rest) b.length=(es++(fJ (qv b es++rest) (qv b es).length).1,(fJ (qv b es++rest) (qv b es).length).2)
 |[],b,rest,_=>rfl
 |e::es,b,rest,h=>by
  obtain⟨h1,h2⟩:=h e (by simp)
  have e0:qv b (e::es)=qv (fA b (cc e)) es:=rfl
  obtain⟨s,hs⟩:=vc (es.map cc) (fA b (cc e))
  have e1:qv (fA b (cc e)) es++rest=fA b (cc e)++(s++rest):=by
   show EM _ _++rest=_
   rw[hs,List.append_assoc]
  have hst:ia (qv (fA b (cc e)) es++rest) b.length=some (e,(fA b (cc e)).length):=by
   rw[e1,xD _ h2,h1];rfl
  rw[e0,rC hst,xG es (fA b (cc e)) rest fun x hx=>h x (by simp[hx])]
  rfl
theorem jL {d:List UInt8} (hd:d.length=32):(eG d).length=44:=by unfold eG;rw[AH,List.length_append,hd];rfl
theorem zj {d:List UInt8} (s:List UInt8) (hd:d.length=32):ib (eG d++s)=((d,fJ (eG d++s) 44),0):=by
 have h:=jL hd
 have hl:(kX++d).length=36:=by rw[List.length_append,hd];rfl
 have h4:(eG d++s).take 4=kX:=by
  unfold eG Cf
  rw[List.append_assoc,List.append_assoc]
  exact List.take_left' (l₁:=kX) rfl
 have h36:(eG d++s).take 36=kX++d:=by
  unfold eG Cf
  rw[List.append_assoc]
  exact List.take_left' hl
 unfold ib
 rw[if_neg,h36,show(kX++d).drop 4=d from List.drop_left' (l₁:=kX) rfl]
 rintro(h1|h1|h1)
 ·rw[List.length_append] at h1;omega
 ·exact h1 h4
 ·have:=zi (kX++d) s
  rw[hl] at this
  rw[show eG d=Cf (kX++d) from rfl,this] at h1
  cases h1
theorem Jq {d:List UInt8} (es:List bR) (rest:List UInt8):∃s,qv (eG d) es++rest=eG d++s:=by
 obtain⟨s,hs⟩:=vc (es.map cc) (eG d)
 exact⟨s++rest,by show EM _ _++rest=_;rw[hs,List.append_assoc]⟩
theorem Gf {d:List UInt8} {es:List bR} (rest:List UInt8) (hd:d.length=32) (hb:xF es):ib (qv (eG d) es++rest)=((d,es++(fJ (qv (eG d) es++rest) (qv (eG d) es).length).1,(fJ (qv (eG d) es++rest) (qv (eG d) es).length).2),0):=by
 obtain⟨s,hs⟩:=Jq (d:=d) es rest
 have h:=zj (d:=d) s hd
 rw[←hs] at h
 have h2:=xG es (eG d) rest hb
 rw[jL hd] at h2
 rw[h,h2]
theorem rE {d:List UInt8} {es:List bR} (hd:d.length=32) (hb:xF es):ib (qv (eG d) es)=((d,es,(qv (eG d) es).length),0):=by
 have h:=Gf [] hd hb
 rw[List.append_nil] at h
 rw[h,rD (zh (Nat.le_refl _)),List.append_nil]
def nP (b:List UInt8) (e:bR):List UInt8×Int:=if cX e=false then([],1) else if (ib b).2≠0∨(ib b).1.2.2≠b.length then([],5) else(fA b (cc e),0)
end Go.Rl
namespace Go.Rl
open Go.RowKit Go.Proofs
def i0 (e:bR):Dt:=.st [.sl (e.path.map dm),bH e.leaf]
section
variable {w:World} {cs:List Value}
theorem gQ {e:bR} (h:Rp w (i0 e) cs):∃vd vl x y vk vp,cs=[vd,vl,I e.leaf.split.kd,I e.leaf.split.ix,B e.leaf.split.at_.1,x,y,vk,B e.leaf.empty,vp]∧cu dm e.path vd w∧cu cV e.leaf.lems vl w∧bt e.leaf.split.at_.2.1 x w∧bt e.leaf.split.at_.2.2 y w∧cu bH e.leaf.kids vk w∧cu bK e.leaf.pf vp w:=by
 simp only[i0,bD,Rp.eq_5] at h
 obtain⟨_,_,rfl,h1,_,_,rfl,h2,rfl⟩:=h
 obtain⟨vd,rfl,hd,_⟩:=Rp.isSlice h1
 obtain⟨vl,x,y,vk,vp,rfl,a1,a2,a3,a4,a5⟩:=dW h2
 exact⟨vd,vl,x,y,vk,vp,rfl,hd,a1,a2,a3,a4,a5⟩
theorem cR (e:bR):(i0 e).size=10:=by simp[i0,Dt.size,Dt.sizeAll,cE]
theorem vg {g:Nat}:(Instr.sliceAt 24 (.pointer (some ⟨g,0,none⟩)) none (some (I 8)) none).run Tryz.prog w=.ok (.slice (some ⟨g,0,none⟩) 8 32) w:=by
 have a1:=run_sliceBound (P:=Tryz.prog) (w:=w) .i64 (8:Int) 32 .sliceAlen (by omega) (by omega)
 have h8:(8:Int).toNat=8:=rfl
 rw[h8] at a1
 simp[Instr.sliceAt,run_underlying Tryz.underlying24,Instr.sureAddr,Instr.sliceBounds,fa fC,Addr.add_mid,I,a1]
theorem cn.front {l:List UInt8} {g n c k:Nat} (h:cn l (.slice (some ⟨g,0,none⟩) n c) w) (hk:k≤n) (h0:0<k):cn (l.take k) (.slice (some ⟨g,0,none⟩) k c) w:=by
 obtain⟨A,n',c',he,h1,h2,h3,h4,h5⟩:=h
 cases he
 refine⟨_,_,_,rfl,Nat.le_trans hk h1,h2,by simp only[List.length_map,List.length_take] at h3⊢;omega,fun _=>?_,fun h=>by cases h⟩
 obtain⟨ad,e,hc⟩:=h4 (by omega)
 cases e
 exact⟨_,rfl,by rw[List.map_take];exact hc.take k⟩
end
section
variable {P:Program} {ops:Array Oper} {Q:iR} {N:Nat} {D:List Deferred} {S:World→Prop} {fuel:Nat} {listed:Array Bool} {l:Fr} {w:World} {d:Nat} {ty:TypeId} {pos:String} {aft:Array Edge}
theorem EN (i:Nat) {t:TypeId} {x:Operand} {lo hi mx:Option Operand} {u r:Value} {a b c:Option Value} (hi':ops[i]? =some ⟨some d,.slice t x lo hi mx,ty,pos,aft,none⟩) (hx:ev l x=some u) (hlo:IM l lo=some a) (hhi:IM l hi=some b) (hmx:IM l mx=some c)
 (hB:nt ops listed i=true) (hd:Nat.blt d N=true) (hS:S w) (hrun:∀w',S w'→(Instr.sliceAt t u a b c).run P w'=.ok r w')
 (k:dx P ops Q N D S fuel (listed.setIfInBounds i true) ((d,r)::l) w):dx P ops Q N D S (fuel+1) listed l w:=
 yx i hi' hB hd hS (fun ρ w' hρ hw'=>by
  have:execOp ρ ⟨some d,.slice t x lo hi mx,ty,pos,aft,none⟩=(do pure (Next.value (←Instr.sliceAt t (ρ x) (lo.map ρ) (hi.map ρ) (mx.map ρ))):Sem Next):=rfl
  rw[this,hρ x _ hx,tj hρ hlo,tj hρ hhi,tj hρ hmx,Sem.run_bind,hrun w' hw'];rfl) k
end
end Go.Rl
namespace Go.Rl
open Go.RowKit Go.Proofs
theorem ta:aG Tryz.prog 60:=⟨_,Tryz.func60,by kernel_rfl,rfl⟩
theorem pm:aG Tryz.prog 53:=⟨_,Tryz.func53,by kernel_rfl,rfl⟩
theorem xH:aG Tryz.prog 19:=⟨_,Tryz.func19,by kernel_rfl,rfl⟩
theorem nQ:aG Tryz.prog 23:=⟨_,Tryz.func23,by kernel_rfl,rfl⟩
theorem xI:aG Tryz.prog 18:=⟨_,Tryz.func18,by kernel_rfl,rfl⟩
theorem tb {w:World} {l m:List UInt8} {v x:Value} (hv:cn l v w) (hx:cn m x w) (hl:l.length+m.length≤35184372088832):
 Calls Tryz.prog 60 #[v,x] w (bE fun r w'=>aN w w'∧df w.heap.size (l++fh m) r w'):=by
 refine enter (vs:=[v,x]) Tryz.func60 E E E ?_
 have hun:(UInt64.ofNat m.length).toNat=m.length:=by rw[UInt64.toNat_ofNat'];omega
 have huv:=et (n:=m.length) (by omega)
 refine af (aa (ac E E (ag (ab (af (aa (ae E E (ae E E (aQ E E (cM hx) (aY E E (ff Mb Mc) ?_))))))))))
 refine an dR E E ((dS (n:=UInt64.ofNat m.length) hv (by omega))) ?_
 rintro v9 w9 ⟨x9,o9⟩
 refine ae E E ?_
 rw[hun] at o9
 obtain⟨v11,w11,hr11,o11,g11⟩:=c6 (ty:=22) o9 (hx.ext x9) (by simp only[List.length_append];omega) (x9).size
 have x11:=aN.of_grew (x9) g11 o9.ge
 refine ba E E hr11 ?_
 refine ac E E (ag (ab (au (aA E E ?_))))
 exact⟨_,rfl,x11,by have h:df w.heap.size (l++uv m.length++m) v11 w11:=o11;simpa only[fh,List.append_assoc] using h⟩
theorem pn {w:World} {b:List UInt8} {v:Value} (hb:cn b v w) (hl:b.length≤1099511627776):
 Calls Tryz.prog 53 #[v] w (bE fun r w'=>aN w w'∧df w.heap.size (Cf b) r w'):=by
 refine enter (vs:=[v]) Tryz.func53 E E E ?_
 refine af (aa (ac E E (ag (ab (af (aa (ae E E (an F0 E E ((F1 hb (by omega))) ?_))))))))
 rintro v5 w5 ⟨x5,rfl⟩
 obtain⟨g3,w3,hr3,l3,x3,k3⟩:=aX (P:=Tryz.prog) (w:=w5) (t:=24) (l:=(List.replicate 32 0).map U8) fW rfl
 refine aV E hr3 ?_
 obtain⟨w6,s6,q6,k6⟩:=k3.stS (P:=Tryz.prog) (t:=24) (m:=(jx b).map U8) (by simp[dg]) (by rw[List.length_map,dg];exact iZ) (dJ _)
 refine aq E E s6 ?_
 have x6:=x3.of_new q6 l3
 have b32:cn (jx b) (.slice (some ⟨g3,0,none⟩) 32 32) w6:=by
  have:=k6.bts (by rw[dg];omega)
  rwa [dg] at this
 refine ag (ab (af ?_))
 have hd:aN w6 w6.drew:=(aN.refl w6).drew
 have b8:=b32.front (k:=8) (by omega) (by omega)
 have d8:((jx b).take 8).length=8:=by rw[List.length_take,dg];omega
 refine gS (aN w6) 6 E (by kernel_rfl) ?_
 refine fv 1 E E (by kernel_rfl) E hd ?_
 refine EN 3 E E E E E (by kernel_rfl) E hd (fun w' _=>vg) ?_
 refine aR 0 (by kernel_rfl) E ?_
 obtain⟨v7,w7,hr7,x7,o7,_⟩:=dX (w:=w6.drew) w6.heap.size [] (by simp) hd.size
 have e7:=hd.trans x7
 refine aK (vs:=[]) E E hr7 (aI e7 (aR 2 (by kernel_rfl) E ?_))
 obtain⟨v8,w8,hr8,o8,g8⟩:=c6 (ty:=22) o7 (hb.ext ((x5.trans x6).trans e7)) (by simp;omega) e7.size
 have x8:=aN.of_grew e7 g8 o7.ge
 refine ba E E hr8 (aI x8 (aR 4 (by kernel_rfl) E ?_))
 obtain⟨v10,w10,hr10,o10,g10⟩:=c6 (ty:=22) o8 (b8.ext x8) (by simp[d8];omega) x8.size
 have x10:=aN.of_grew x8 g10 o8.ge
 refine ba E E hr10 (aI x10 (aR 5 (by kernel_rfl) E ?_))
 refine ac E E (aI x10 (gT (by kernel_rfl) ?_))
 refine ab (au (aA E E ?_))
 exact⟨_,rfl,((x5.trans x6).trans x10),by have h:df w6.heap.size ([]++b++(jx b).take 8) v10 w10:=o10;exact h.low (x5.trans x6).size⟩
theorem nR {w:World} {b p:List UInt8} {v x:Value} (hb:cn b v w) (hp:cn p x w) (hl:b.length+p.length≤549755813888):
 Calls Tryz.prog 23 #[v,x] w (bE fun r w'=>aN w w'∧df w.heap.size (fA b p) r w'):=by
 refine enter (vs:=[v,x]) Tryz.func23 E E E ?_
 refine af (aa (ac E E (ag (ab (af (aa (ae E E (ae E E (an ta E E ((tb hb hp (by omega))) ?_)))))))))
 rintro v7 w7 ⟨x7,o7⟩
 have huv:=et (n:=p.length) (by omega)
 refine an pm E E ((pn o7.bts (by simp only[fh,List.length_append];omega))) ?_
 rintro v8 w8 ⟨x8,o8⟩
 refine ac E E (ag (ab (au (aA E E ?_))))
 exact⟨_,rfl,(x7.trans x8),o8.low x7.size⟩
theorem xJ {w:World} {d:List UInt8} (hd:d.length=32):
 Calls Tryz.prog 19 #[.agg (d.map U8).toArray] w (bE fun r w'=>aN w w'∧df w.heap.size (eG d) r w'):=by
 refine enter (vs:=[.agg (d.map U8).toArray]) Tryz.func19 E E E ?_
 refine af (aa ?_)
 obtain⟨g2,w2,hr2,l2,x2,k2⟩:=cD (P:=Tryz.prog) (w:=w) (T:=24) (cs:=d.map U8)
 refine cI E E hr2 ?_
 refine ac E E (ag (ab (af (aa ?_))))
 obtain⟨v7,w7a,w7,hr7,hc7,x7,b7,ad,hv7,had,hlt⟩:=Hd (w:=w2) (t:=22) Tryz.underlying22 [82,76,85,74] (by simp) (by simp)
 refine aK (vs:=[(0,U8 82),(1,U8 76),(2,U8 85),(3,U8 74)]) E E hr7 ?_
 refine aY E E hc7 ?_
 have e7:=x2.trans x7
 have bd:cn d (.slice (some ⟨g2,0,none⟩) 32 32) w7:=by
  have:=(k2.ext x7).bts (by rw[hd];omega)
  rwa [hd] at this
 obtain⟨v10,w10,hr10,o10,x10⟩:=CF (ty:=22) e7 (.inr ⟨b7,ad,hv7⟩) bd (by omega) (by simp[hd])
 refine cJ E E E E E (H4) ?_
 refine ba E E hr10 ?_
 have b10:cn (kX++d) v10 w10:=o10.bts
 refine an pm E E ((pn b10 (by simp only[List.length_append,hd,kX,List.length_cons,List.length_nil];omega))) ?_
 rintro v7 w7' ⟨x7',o11⟩
 refine ac E E (ag (ab (au (aA E E ?_))))
 exact⟨_,rfl,(x10.trans x7'),o11.low x10.size⟩
theorem xK {w:World} {d:List UInt8} (hd:d.length=32):
 Calls Tryz.prog 18 #[.agg (d.map U8).toArray] w (bE fun r w'=>aN w w'∧df w.heap.size (eG d) r w'):=by
 refine enter (vs:=[.agg (d.map U8).toArray]) Tryz.func18 E E E ?_
 refine af (aa ?_)
 obtain⟨g2,w2,hr2,l2,x2,k2⟩:=cD (P:=Tryz.prog) (w:=w) (T:=24) (cs:=d.map U8)
 refine cI E E hr2 ?_
 refine ac E E (ag (ab (af (aa ?_))))
 obtain⟨v7,w7a,w7,hr7,hc7,x7,b7,ad,hv7,had,hlt⟩:=Hd (w:=w2) (t:=22) Tryz.underlying22 [82,76,85,74] (by simp) (by simp)
 refine aK (vs:=[(0,U8 82),(1,U8 76),(2,U8 85),(3,U8 74)]) E E hr7 ?_
 refine aY E E hc7 ?_
 have e7:=x2.trans x7
 have bd:cn d (.slice (some ⟨g2,0,none⟩) 32 32) w7:=by
  have:=(k2.ext x7).bts (by rw[hd];omega)
  rwa [hd] at this
 obtain⟨v8,w8,hr8,o8,x8⟩:=CF (ty:=22) e7 (.inr ⟨b7,ad,hv7⟩) bd (by omega) (by simp[hd])
 refine cJ E E E E E (H4) ?_
 refine ba E E hr8 ?_
 refine ac E E (ag (ab (af (aa (ae E E ?_)))))
 have b8:cn (kX++d) v8 w8:=o8.bts
 have hl8:(kX++d).length=36:=by simp only[List.length_append,hd,show kX.length=4 from rfl]
 refine an y5 E E ((y8 b8)) ?_
 rintro v10 w10 ⟨x10,rfl⟩
 obtain⟨g6,w6,hr6,l6,x6,k6⟩:=aX (P:=Tryz.prog) (w:=w10) (t:=24) (l:=(List.replicate 32 0).map U8) fW rfl
 refine aV E hr6 ?_
 obtain⟨w11,s11,q11,k11⟩:=k6.stS (P:=Tryz.prog) (t:=24) (m:=(jx (kX++d)).map U8) (by simp[dg]) (by rw[List.length_map,dg];exact iZ) (dJ _)
 refine aq E E s11 ?_
 have x11:=x6.of_new q11 l6
 have b32:cn (jx (kX++d)) (.slice (some ⟨g6,0,none⟩) 32 32) w11:=by
  have:=k11.bts (by rw[dg];omega)
  rwa [dg] at this
 have b12:=b32.front (k:=8) (by omega) (by omega)
 have d8:((jx (kX++d)).take 8).length=8:=by rw[List.length_take,dg];omega
 refine ag (ab (af (aa (ae E E (cJ E E E E E (vg) ?_)))))
 have o8':df w.heap.size (kX++d) v8 w11:=o8.ext ((x10.trans x11))
 obtain⟨v13,w13,hr13,o13,g13⟩:=c6 (ty:=22) o8' b12 (by rw[hl8,d8];omega) (((x8.trans x10).trans x11)).size
 have x13:=aN.of_grew (((x8.trans x10).trans x11)) g13 o8'.ge
 refine ba E E hr13 ?_
 refine ac E E (ag (ab (au (aA E E ?_))))
 exact⟨_,rfl,x13,o13⟩
end Go.Rl
namespace Go.Rl
open Go.RowKit Go.Proofs
theorem t7:aG Tryz.prog 24:=⟨_,Tryz.func24,by kernel_rfl,rfl⟩
theorem zk:aG Tryz.prog 57:=⟨_,Tryz.func57,by kernel_rfl,rfl⟩
theorem i6.off {w w':World} {v r:Value} {g:Nat} (h:i6 w w' v r) (hn:some g≠v.ownBlock) (hg:g<w.heap.size):some g≠r.ownBlock:=fun e=>by
 rcases h.own with h1|h1
 ·exact hn (e.trans h1)
 ·have:=h1 _ e.symm;omega
theorem t8 {w:World} {u:bR} {vd vl x y vk vp:Value} (hd:cu dm u.path vd w) (hl:cu cV u.leaf.lems vl w) (hx:bt u.leaf.split.at_.2.1 x w) (hy:bt u.leaf.split.at_.2.2 y w) (hk:cu bH u.leaf.kids vk w) (hp:cu bK u.leaf.pf vp w)
 (hw:xY u) (hlen:(cc u).length≤4398046511104):
 Calls Tryz.prog 24 #[.agg #[vd,vl,I u.leaf.split.kd,I u.leaf.split.ix,B u.leaf.split.at_.1,x,y,vk,B u.leaf.empty,vp]] w (bE fun r w'=>aN w w'∧cn (cc u) r w'):=by
 refine enter (vs:=[.agg #[vd,vl,I u.leaf.split.kd,I u.leaf.split.ix,B u.leaf.split.at_.1,x,y,vk,B u.leaf.empty,vp]]) Tryz.func24 E E E ?_
 have hpl:=hd.len
 have hun:(UInt64.ofNat u.path.length).toNat=u.path.length:=by rw[UInt64.toNat_ofNat'];omega
 have hen:(cc u).length=(uv u.path.length).length+(u.path.flatMap fG).length+(dF u.leaf).length:=by simp only[cc,List.length_append]
 refine af (aa ?_)
 obtain⟨g1,w1,hr1,l1,x1,k1⟩:=cD (P:=Tryz.prog) (w:=w) (T:=54) (cs:=[vd,vl,I u.leaf.split.kd,I u.leaf.split.ix,B u.leaf.split.at_.1,x,y,vk,B u.leaf.empty,vp])
 refine cI E E hr1 (ac E E (ag (ab (af (aa (ah E E (ar (o:=0) L8 E (by kernel_rfl) E) ?_))))))
 refine ak E E (aj Mg E (k1.cell (i:=0) E)) (aQ E E (be Mg (hd.ext x1)) ?_)
 refine aY E E (ff Tryz.underlying3 Tryz.underlying107) (an dR E E ((dS (l:=[]) (n:=UInt64.ofNat u.path.length) (cn.nil _) (by simp))) ?_)
 rintro v9 w9 ⟨x9,o9⟩
 rw[hun,List.nil_append] at o9
 have b9:=o9.bts
 refine ac E E (ag (ab (af (af (aa (ac E E (ag (ab (aH ?_)))))))))
 refine fl (fun(i:Nat) (v3:Value)=>[(1,.pointer (some ⟨g1,0,none⟩)),(3,v3),(4,I (i:Int))]) (fun(i:Nat) (v3:Value) w'=>aN w w'∧aN w1 w'∧i≤u.path.length∧cn (uv u.path.length++(u.path.take i).flatMap fG) v3 w') (fun(i:Nat) (v3:Value)=>u.path.length-i) (0) (v9) ⟨rfl,rfl,rfl,trivial⟩ ⟨(x1.trans x9),x9,by omega,by simpa using b9⟩ ?_
 rintro i v3 wL ⟨eL,e1L,hi,bL⟩
 refine af (af (aa (ae E E (ah E E (ar (o:=0) L8 E (by kernel_rfl) E) (ak E E (aj Mg E (e1L.cell_some (k1.cell (i:=0) E))) ?_)))))
 refine aQ E E (be Mg (hd.ext eL)) (al E E E (bc) (ag (ab ?_)))
 refine bw E (fun h14=>?_) (fun h14=>?_)
 ·refine aC (ab (af (aH (aa (ae E E (ah E E (ar (o:=0) L8 E (by kernel_rfl) E) (ak E E (aj Mg E (e1L.cell_some (k1.cell (i:=0) E))) ?_)))))))
  refine ae E E ?_
  obtain⟨a21,c21,p21,q21,h21⟩:=cf (P:=Tryz.prog) (sz:=5) Mg (by kernel_rfl) ci (by omega) (hd.ext eL) (i:=i) (by omega) .i64
  obtain⟨e21,he21⟩:∃e,e=u.path[i]'(by omega):=⟨_,rfl⟩
  rw[←he21] at h21
  obtain⟨x21_0,x21_1,rfl,f21_0,f21_1⟩:=gy h21
  refine ax E E E (p21 _) (ak E E (q21.ld Ma E (by kernel_rfl)) (an xn E E ((xr bL f21_0 f21_1 (hw.1 e21 (by rw[he21];exact List.getElem_mem _)) (by
 have h:=fM (f:=fG) (l:=u.path) (i:=i) (by omega)
 rw[←he21] at h
 simp only[List.length_append] at h⊢;omega))) ?_))
  rintro v23 w23 ⟨x23,b23⟩
  refine ac E E (ag (aS (ab (aa (ae E E (al (r:=I ((i+1:Nat):Int)) E E E (by have e:((i+1:Nat):Int)=(i:Int)+1:=(by omega);rw[e];exact aP (by omega) (by omega)) ?_))))))
  refine ac E E (ag ?_)
  refine dE (i+1) (v23) ⟨rfl,rfl,rfl,trivial⟩ ⟨(eL.trans x23),(e1L.trans x23),by omega,by
   rw[dw (by omega),←he21,←List.append_assoc]
   exact b23⟩ (by omega)
 ·refine bg (aJ (aJ (bh (ab (af (aa (ae E E (ah E E (ar (o:=1) L8 E (by kernel_rfl) E) ?_))))))))
  refine ak rfl rfl ((k1.ext e1L).ldO (ms:=[vl,I u.leaf.split.kd,I u.leaf.split.ix,B u.leaf.split.at_.1,x,y,vk,B u.leaf.empty,vp]) (o:=1) (fun j v hj=>by rcases j with _|_|_|_|_|_|_|_|_|j<;>simp_all) Tryz.underlying52 rfl (by kernel_rfl)) ?_
  refine an xp E E ((xu _ (Nat.le_refl _) bL (hl.ext eL) (hx.ext eL) (hy.ext eL) (hk.ext eL) (hp.ext eL) hw.2 (by rw[List.take_of_length_le (by omega)];simp only[List.length_append];omega))) ?_
  rintro v27 w27 ⟨x27,b27⟩
  refine ac E E (ag (ab (au (aA E E ?_))))
  exact⟨_,rfl,(eL.trans x27),by
   rw[List.take_of_length_le (by omega)] at b27
   exact b27⟩
theorem zl {w:World} {u:bR} {vd vl x y vk vp:Value} (hd:cu dm u.path vd w) (hl:cu cV u.leaf.lems vl w) (hx:bt u.leaf.split.at_.2.1 x w) (hy:bt u.leaf.split.at_.2.2 y w) (hk:cu bH u.leaf.kids vk w) (hp:cu bK u.leaf.pf vp w)
 (hw:xY u) (hlen:(cc u).length≤4398046511104):
 Calls Tryz.prog 57 #[.agg #[vd,vl,I u.leaf.split.kd,I u.leaf.split.ix,B u.leaf.split.at_.1,x,y,vk,B u.leaf.empty,vp]] w (bE fun r w'=>aN w w'∧cn (cc u) r w'):=by
 refine enter (vs:=[.agg #[vd,vl,I u.leaf.split.kd,I u.leaf.split.ix,B u.leaf.split.at_.1,x,y,vk,B u.leaf.empty,vp]]) Tryz.func57 E E E ?_
 have hpl:=hd.len
 have hun:(UInt64.ofNat u.path.length).toNat=u.path.length:=by rw[UInt64.toNat_ofNat'];omega
 have hen:(cc u).length=(uv u.path.length).length+(u.path.flatMap fG).length+(dF u.leaf).length:=by simp only[cc,List.length_append]
 refine af (aa ?_)
 obtain⟨g1,w1,hr1,l1,x1,k1⟩:=cD (P:=Tryz.prog) (w:=w) (T:=54) (cs:=[vd,vl,I u.leaf.split.kd,I u.leaf.split.ix,B u.leaf.split.at_.1,x,y,vk,B u.leaf.empty,vp])
 refine cI E E hr1 (ac E E (ag (ab (af (aa (ah E E (ar (o:=0) L8 E (by kernel_rfl) E) ?_))))))
 refine ak E E (aj Mg E (k1.cell (i:=0) E)) (aQ E E (be Mg (hd.ext x1)) ?_)
 refine aY E E (ff Tryz.underlying3 Tryz.underlying107) (an oa E E ((ob (l:=[]) (n:=UInt64.ofNat u.path.length) (cn.nil _) (by simp))) ?_)
 rintro v10 w10 ⟨x10,o10⟩
 rw[hun,List.nil_append] at o10
 refine ac E E (ag (ab (af (af (aa (ah E E (ar (o:=0) L8 E (by kernel_rfl) E) (ak E E (aj Mg E (x10.cell_some (k1.cell (i:=0) E))) ?_)))))))
 refine aQ E E (be Mg (hd.ext (x1.trans x10))) (ae E E (ag (ab (aH ?_))))
 refine fl (fun(i:Nat) (v3:Value)=>[(1,.pointer (some ⟨g1,0,none⟩)),(3,v3),(12,vd),(13,I (u.path.length:Int)),(14,I (i:Int))]) (fun(i:Nat) (v3:Value) w'=>aN w w'∧aN w1 w'∧i≤u.path.length∧df w1.heap.size (uv u.path.length++(u.path.take i).flatMap fG) v3 w') (fun(i:Nat) (v3:Value)=>u.path.length-i) (0) (v10) ⟨rfl,rfl,rfl,rfl,rfl,trivial⟩ ⟨(x1.trans x10),x10,by omega,by simpa using o10⟩ ?_
 rintro i v3 wL ⟨eL,e1L,hi,oL⟩
 refine af (aa (al E E E (bc) (ag (ab (af ?_)))))
 refine bw E (fun h15=>?_) (fun h15=>?_)
 ·refine aC (ab (af (aH (af (aa ?_)))))
  obtain⟨a16,c16,p16,q16,h16⟩:=cf (P:=Tryz.prog) (sz:=5) Mg (by kernel_rfl) ci (by omega) hd (i:=i) (by omega) .i64
  obtain⟨e16,he16⟩:∃e,e=u.path[i]'(by omega):=⟨_,rfl⟩
  rw[←he16] at h16
  obtain⟨x16_0,x16_1,rfl,f16_0,f16_1⟩:=gy h16
  refine ax E E E (p16 _) ?_
  have hm:=hw.1 e16 (by rw[he16];exact List.getElem_mem _)
  have hfl:=fM (f:=fG) (l:=u.path) (i:=i) (by omega)
  rw[←he16] at hfl
  have hml:(fG e16).length=(dt e16.kd).length+(dt e16.ix).length+(gj e16.at_).length:=by simp only[fG,List.length_append]
  have hqa:=jG e16.at_
  refine ak E E ((q16.ext eL).ld Ma E (by kernel_rfl)) ?_
  obtain⟨g5,w5,hr5,l5,x5,k5⟩:=aX (P:=Tryz.prog) (w:=wL) (t:=48) (z:=.agg #[I 0,I 0,B false,.slice none 0 0,.slice none 0 0]) (l:=[I 0,I 0,B false,.slice none 0 0,.slice none 0 0]) (by kernel_rfl) rfl
  refine aV E hr5 ?_
  obtain⟨w4_3,s4_3,q4_3,k4_3⟩:=k5.stS (P:=Tryz.prog) (t:=48) (m:=[I e16.kd,I e16.ix,B e16.at_.1,x16_0,x16_1]) rfl (by kernel_rfl) (aw.cons rfl (aw.cons rfl (aw.cons rfl (aw.cons f16_0.one (aw.cons f16_1.one aw.nil)))))
  refine aq E E s4_3 ?_
  have x4_3:=aN.of_new (x5) q4_3 l5
  refine ag (ab (af (aa (ae E E (ah E E (ar (o:=0) Ma E (by kernel_rfl) E) (ak E E (aj Mb E (k4_3.cell (i:=0) E)) ?_))))))
  refine an kK E E ((kO (l:=[]) (n:=e16.kd) (cn.nil _) (by simp) hm.1.1 hm.1.2)) ?_
  rintro v21 w21 ⟨x21,o21⟩
  have b21:cn (dt e16.kd) v21 w21:=o21.bts
  have oL1:=oL.ext ((x4_3.trans x21))
  obtain⟨v22,w22,hr22,o22,g22⟩:=c6 (ty:=22) oL1 b21 (by simp only[List.length_append];omega) (((e1L.trans x4_3).trans x21)).size
  have x22:=aN.of_grew (((e1L.trans x4_3).trans x21)) g22 oL1.ge
  have n5:some g5≠v3.ownBlock:=fun h=>by have:=oL.lt _ h.symm;omega
  have k5a:=(k4_3.ext x21).other g22.grown n5
  have n5a:=g22.off n5 (k4_3.ext x21).lt
  refine ba E E hr22 ?_
  refine ac E E (ag (ab (af (aa (ae E E (ah E E (ar (o:=1) Ma E (by kernel_rfl) E) ?_))))))
  refine ak E E (aj Tryz.underlying3 E (k5a.cell (i:=1) E)) (an kK E E ((kO (l:=[]) (n:=e16.ix) (cn.nil _) (by simp) hm.2.1 hm.2.2)) ?_)
  rintro v26 w26 ⟨x26,o26⟩
  have b26:cn (dt e16.ix) v26 w26:=o26.bts
  have o22a:=o22.ext x26
  obtain⟨v27,w27,hr27,o27,g27⟩:=c6 (ty:=22) o22a b26 (by simp only[List.length_append];omega) ((x22.trans x26)).size
  have x27:=aN.of_grew ((x22.trans x26)) g27 o22a.ge
  have k5b:=(k5a.ext x26).other g27.grown n5a
  have n5b:=g27.off n5a (k5a.ext x26).lt
  refine ba E E hr27 ?_
  refine ac rfl rfl (ag (ab (aa (ae rfl rfl (ah rfl rfl (ar (o:=2) Tryz.underlying48 rfl (by kernel_rfl) rfl) (ak rfl rfl (k5b.ldO (ms:=[B e16.at_.1,x16_0,x16_1]) (o:=2) (fun j v hj=>by rcases j with _|_|_|_|_|_|_|_|_|j<;>simp_all) Tryz.underlying46 rfl (by kernel_rfl)) ?_))))))
  refine an oK E E ((oP (l:=[]) (cn.nil _) (dl.mk (f16_0.ext (x1.trans x27)) (f16_1.ext (x1.trans x27))) (by simp only[List.length_nil];omega))) ?_
  rintro v31 w31 ⟨x31,o31⟩
  have b31:cn (gj e16.at_) v31 w31:=o31.bts
  have o27a:=o27.ext x31
  obtain⟨v32,w32,hr32,o32,g32⟩:=c6 (ty:=22) o27a b31 (by simp only[List.length_append];omega) ((x27.trans x31)).size
  have x32:=aN.of_grew ((x27.trans x31)) g32 o27a.ge
  refine ba E E hr32 ?_
  refine ac E E (ag (aS (ab (aa (al (r:=I ((i+1:Nat):Int)) E E E (by have e:((i+1:Nat):Int)=(i:Int)+1:=(by omega);rw[e];exact aP (by omega) (by omega)) ?_)))))
  refine ae E E (ag ?_)
  refine dE (i+1) (v32) ⟨rfl,rfl,rfl,rfl,rfl,trivial⟩ ⟨(x1.trans x32),x32,by omega,by
   have h:df w1.heap.size (uv u.path.length++(u.path.take i).flatMap fG++dt e16.kd++dt e16.ix++gj e16.at_) v32 w32:=o32
   rw[dw (by omega),←he16]
   simpa only[fG,List.append_assoc] using h⟩ (by omega)
 ·refine bg (aJ (aJ (bh (ab (af (aa (ae E E (ah E E (ar (o:=1) L8 E (by kernel_rfl) E) ?_))))))))
  refine ak rfl rfl ((k1.ext e1L).ldO (ms:=[vl,I u.leaf.split.kd,I u.leaf.split.ix,B u.leaf.split.at_.1,x,y,vk,B u.leaf.empty,vp]) (o:=1) (fun j v hj=>by rcases j with _|_|_|_|_|_|_|_|_|j<;>simp_all) Tryz.underlying52 rfl (by kernel_rfl)) ?_
  refine an Dp E E ((Dr oL.bts (hl.ext eL) (hx.ext eL) (hy.ext eL) (hk.ext eL) (hp.ext eL) hw.2 (by rw[List.take_of_length_le (by omega)];simp only[List.length_append];omega))) ?_
  rintro v37 w37 ⟨x37,b37⟩
  refine ac E E (ag (ab (au (aA E E ?_))))
  exact⟨_,rfl,(eL.trans x37),by
   rw[List.take_of_length_le (by omega)] at b37
   exact b37⟩
end Go.Rl
namespace Go.Rl
open Go.RowKit Go.Proofs
theorem zm:aG Tryz.prog 135:=⟨_,Tryz.func135,by kernel_rfl,rfl⟩
theorem DA:aG Tryz.prog 161:=⟨_,Tryz.func161,by kernel_rfl,rfl⟩
theorem DB:aG Tryz.prog 134:=⟨_,Tryz.func134,by kernel_rfl,rfl⟩
theorem td:aG Tryz.prog 98:=⟨_,Tryz.func98,by kernel_rfl,rfl⟩
theorem kZ:aG Tryz.prog 22:=⟨_,Tryz.func22,by kernel_rfl,rfl⟩
theorem jn:aG Tryz.prog 54:=⟨_,Tryz.func54,by kernel_rfl,rfl⟩
theorem zn {w:World} {m:cg} {x y:Value} (hx:bt m.co.2.1 x w) (hy:bt m.co.2.2 y w) (hs:sQ m.co):
 Calls Tryz.prog 135 #[.agg #[I m.kd,I m.ix,I m.lo,I m.hi,B m.co.1,x,y]] w (bE fun r w'=>aN w w'∧r=B (!fI m.co)):=by
 refine enter (vs:=[.agg #[I m.kd,I m.ix,I m.lo,I m.hi,B m.co.1,x,y]]) Tryz.func135 E E E ?_
 refine af (aa ?_)
 obtain⟨g1,w1,hr1,l1,x1,k1⟩:=cD (P:=Tryz.prog) (w:=w) (T:=187) (cs:=[I m.kd,I m.ix,I m.lo,I m.hi,B m.co.1,x,y])
 refine cI E E hr1 (ac E E (ag (ab (af (aa (ah E E (ar (o:=4) Mr E (by kernel_rfl) E) ?_))))))
 refine ak rfl rfl (k1.ldO (ms:=[B m.co.1,x,y]) (o:=4) (fun j v hj=>by rcases j with _|_|_|_|_|_|_|_|_|j<;>simp_all) Tryz.underlying46 rfl (by kernel_rfl)) ?_
 refine an fp E E ((iz (q:=m.co) (hx.ext x1) (hy.ext x1) hs)) ?_
 rintro v5 w5 ⟨x5,rfl⟩
 refine bo E E bu (ac E E (ag (ab (au (aA E E ?_)))))
 exact⟨_,rfl,(x1.trans x5),rfl⟩
theorem DC {w:World} {l:List cg} {v:Value} (hv:cu bK l v w) (hs:sP l):
 Calls Tryz.prog 161 #[v,.func (.func 135) #[] #[]] w (bE fun r w'=>aN w w'∧∃k:Int,r=I k∧ -1≤k∧k≤9223372036854775807∧(0≤k↔mU l=false)):=by
 refine enter (vs:=[v,.func (.func 135) #[] #[]]) Tryz.func161 E E E ?_
 have hll:=hv.len
 refine af (aa (ac E E (ag (ab (af (af (aa (ae E E (aQ E E (be Mj hv) (ae E E (ag (ab ?_))))))))))))
 refine aH ?_
 refine cm (α:=Nat) (fun i=>[(0,v),(1,.func (.func 135) #[] #[]),(7,I (l.length:Int)),(8,I (i:Int))]) (fun i w'=>aN w w'∧i≤l.length∧(l.all fun m=>fI m.co)=((l.drop i).all fun m=>fI m.co)) (fun i=>l.length-i) (0) ⟨rfl,rfl,rfl,rfl,trivial⟩ ⟨aN.refl _,by omega,rfl⟩ ?_
 rintro i wL ⟨eL,hi,hall⟩
 refine af (aa (al E E E (bc) (ag (ab (af ?_)))))
 refine bw E (fun h9=>?_) (fun h9=>?_)
 ·refine aC (ab (af (aH (af (aa (ae E E (ac E E (ag (ab (af ?_))))))))))
  obtain⟨em,hem⟩:∃em,em=l[i]'(by omega):=⟨_,rfl⟩
  have hmem:em∈l:=by rw[hem];exact List.getElem_mem _
  rcases hc:fI em.co
  ·refine aa (ae E E (ae E E (ae E E ?_)))
   obtain⟨a14,c14,p14,q14,h14⟩:=cf (P:=Tryz.prog) (sz:=7) Mj (by kernel_rfl) dB (by omega) (hv.ext eL) (i:=i) (by omega) .i64
   rw[←hem] at h14
   obtain⟨x14_0,x14_1,rfl,f14_0,f14_1⟩:=gO h14
   refine ax E E E (p14 _) (ak E E (q14.ld Mr E (by kernel_rfl)) (mj E zm E E ((by have h:=zn (m:=em) f14_0 f14_1 (hs em hmem);rw[hc] at h;exact h)) ?_))
   rintro v16 w16 ⟨x16,rfl⟩
   refine ag (ab (bf E (af (aa (ae E E (ac E E (ag (ab (au (a6 (az (az (a6 (az (aA E E ?_)))))))))))))))
   exact⟨_,rfl,(eL.trans x16),i,rfl,by omega,by omega,⟨fun _=>show(l.all fun m=>fI m.co)=false from gE (p:=fun m:cg=>fI m.co) (l:=l) (i:=i) (by omega) hall (by rw[←hem];exact hc),fun _=>by omega⟩⟩
  ·refine aa (ae E E (ae E E (ae E E ?_)))
   obtain⟨a14,c14,p14,q14,h14⟩:=cf (P:=Tryz.prog) (sz:=7) Mj (by kernel_rfl) dB (by omega) (hv.ext eL) (i:=i) (by omega) .i64
   rw[←hem] at h14
   obtain⟨x14_0,x14_1,rfl,f14_0,f14_1⟩:=gO h14
   refine ax E E E (p14 _) (ak E E (q14.ld Mr E (by kernel_rfl)) (mj E zm E E ((by have h:=zn (m:=em) f14_0 f14_1 (hs em hmem);rw[hc] at h;exact h)) ?_))
   rintro v16 w16 ⟨x16,rfl⟩
   refine ag (ab (cp E (aC (aS (ab (aa (al (r:=I ((i+1:Nat):Int)) E E E (by have e:((i+1:Nat):Int)=(i:Int)+1:=(by omega);rw[e];exact aP (by omega) (by omega)) ?_)))))))
   refine ae E E (ag ?_)
   refine bT (i+1) ⟨rfl,rfl,rfl,rfl,trivial⟩ ⟨(eL.trans x16),by omega,rt (p:=fun m:cg=>fI m.co) (l:=l) (by omega) hall (by rw[←hem];exact hc)⟩ (by omega)
 ·refine bg (aJ (aJ (bh (ab (af (aa (ac E E (ag (ab (au (aA E E ?_)))))))))))
  exact⟨_,rfl,eL,-1,rfl,by omega,by omega,⟨fun h=>absurd h (by omega),fun h=>by rw[show mU l=true from nJ (p:=fun m:cg=>fI m.co) (l:=l) (by omega) hall] at h;cases h⟩⟩
theorem DD {w:World} {l:List cg} {v:Value} (hv:cu bK l v w) (hs:sP l):
 Calls Tryz.prog 134 #[v,.func (.func 135) #[] #[]] w (bE fun r w'=>aN w w'∧r=B (!mU l)):=by
 refine enter (vs:=[v,.func (.func 135) #[] #[]]) Tryz.func134 E E E ?_
 refine af (aa (ac E E (ag (ab (af (aa (ae E E (ae E E (an DA E E ((DC hv hs)) ?_)))))))))
 rintro v7 w7 ⟨x7,k,rfl,k1,k2,kc⟩
 refine al E E E (iS) (ac E E (ag (ab (au (aA E E ?_)))))
 exact⟨_,rfl,x7,by
  congr 1
  cases hc:mU l with
  |true=>exact decide_eq_false fun h=>by have:=kc.1 h;rw[hc] at this;cases this
  |false=>exact decide_eq_true (kc.2 hc)⟩
theorem te {w:World} {l:List cg} {v:Value} (hv:cu bK l v w) (hs:sP l):
 Calls Tryz.prog 98 #[v] w (bE fun r w'=>aN w w'∧r=B (mU l)):=by
 refine enter (vs:=[v]) Tryz.func98 E E E ?_
 refine af (aa (ac E E (ag (ab (af (aa (ae E E (an DB E E ((DD hv hs)) ?_))))))))
 rintro v4 w4 ⟨x4,rfl⟩
 refine bo E E bu (ac E E (ag (ab (au (aA E E ?_)))))
 exact⟨_,rfl,x4,by simp⟩
theorem ie {d:bV} (h:d.kd<1∨4<d.kd∨fI d.at_=false):fO d=false:=by
 unfold fO
 rcases h with h|h|h
 ·rw[decide_eq_false (by omega:¬1≤d.kd)];rfl
 ·rw[decide_eq_false (by omega:¬d.kd≤4),Bool.and_false];rfl
 ·rw[h,Bool.and_false]
theorem zo {d:bV} (h1:1≤d.kd) (h2:d.kd≤4) (h3:fI d.at_=true):fO d=true:=by
 unfold fO
 rw[decide_eq_true h1,decide_eq_true h2,h3];rfl
theorem cA {u:bR} (h:2048<u.path.length∨0<u.leaf.kids.length∨qo u.leaf=false∨i8 u.leaf=false∨u.path.all fO=false):cX u=false:=by
 unfold cX
 rcases h with h|h|h|h|h
 ·rw[decide_eq_false (by omega:¬u.path.length≤2048)];rfl
 ·rw[decide_eq_false (by omega:¬u.leaf.kids.length=0),Bool.and_false];rfl
 ·rw[h,Bool.and_false];rfl
 ·rw[h,Bool.and_false];rfl
 ·rw[h,Bool.and_false]
theorem zp {u:bR} (h1:u.path.length≤2048) (h2:u.leaf.kids.length=0) (h3:qo u.leaf=true) (h4:i8 u.leaf=true) (h5:u.path.all fO=true):cX u=true:=by
 unfold cX
 rw[decide_eq_true h1,decide_eq_true h2,h3,h4,h5];rfl
def Ip (u:bR):Prop:=(∀d∈u.path,sQ d.at_)∧sN u.leaf
theorem la {w:World} {u:bR} {vd vl x y vk vp:Value} (hd:cu dm u.path vd w) (hl:cu cV u.leaf.lems vl w) (hx:bt u.leaf.split.at_.2.1 x w) (hy:bt u.leaf.split.at_.2.2 y w) (hk:cu bH u.leaf.kids vk w) (hp:cu bK u.leaf.pf vp w) (hs:Ip u):
 Calls Tryz.prog 22 #[.agg #[vd,vl,I u.leaf.split.kd,I u.leaf.split.ix,B u.leaf.split.at_.1,x,y,vk,B u.leaf.empty,vp]] w (bE fun r w'=>aN w w'∧r=B (cX u)):=by
 refine enter (vs:=[.agg #[vd,vl,I u.leaf.split.kd,I u.leaf.split.ix,B u.leaf.split.at_.1,x,y,vk,B u.leaf.empty,vp]]) Tryz.func22 E E E ?_
 have hpl:=hd.len
 have hkl:=hk.len
 refine af (aa ?_)
 obtain⟨g1,w1,hr1,l1,x1,k1⟩:=cD (P:=Tryz.prog) (w:=w) (T:=54) (cs:=[vd,vl,I u.leaf.split.kd,I u.leaf.split.ix,B u.leaf.split.at_.1,x,y,vk,B u.leaf.empty,vp])
 refine cI E E hr1 (ac E E (ag (ab (af (af ?_)))))
 rcases hv1:qo u.leaf
 rotate_left
 rcases hv2:i8 u.leaf
 ·refine aa (ah E E (ar (o:=0) L8 E (by kernel_rfl) E) (ak E E (aj Mg E (k1.cell (i:=0) E)) ?_))
  refine aQ E E (be Mg (hd.ext x1)) (al E E E (bU) (ae E E ?_))
  refine cb (fun h9=>?_) (fun h9=>?_)
  ·refine ao E E E (ao E E E (ao E E E (ao E E E (ao E E E (ap E E E (ae E E (ao E E E (ao E E E (ao E E E ?_)))))))))
   refine ao E E E (ap E E E (ae E E (ao E E E (ao E E E (ao E E E (ao E E E (ap E E E (ag (ab (bf E ?_))))))))))
   refine af (aa (ac E E (ag (ab (au (az (aA E E ?_)))))))
   exact⟨_,rfl,x1,by
    rw[cA (by
     first
     |exact .inl (by omega)
     |exact .inr (.inl (by omega))
     |exact .inr (.inr (.inl hv1))
     |exact .inr (.inr (.inr (.inl hv2))))]
    rfl⟩
  ·refine ai E (ah E E (ar (o:=1) L8 E (by kernel_rfl) E) (ai E (ah E E (cK (b:=1) (o:=6) L6 E (by kernel_rfl) E) ?_)))
   refine ai E (ak E E (aj Mh E (k1.cell (i:=7) E)) (ai E (aQ E E (be Mh (hk.ext x1)) ?_)))
   refine ai E (al E E E (bU) (aE E E E (ae E E ?_)))
   refine cb (fun h16=>?_) (fun h16=>?_)
   ·refine ao E E E (ao E E E (ao E E E (ao E E E (ap E E E (ae E E (ao E E E (ao E E E (ao E E E (ao E E E ?_)))))))))
    refine ap E E E (ag (ab (bf E (af (aa (ac E E (ag (ab (au (az (aA E E ?_)))))))))))
    exact⟨_,rfl,x1,by
     rw[cA (by
      first
      |exact .inl (by omega)
      |exact .inr (.inl (by omega))
      |exact .inr (.inr (.inl hv1))
      |exact .inr (.inr (.inr (.inl hv2))))]
     rfl⟩
   ·refine ai rfl (ah rfl rfl (ar (o:=1) Tryz.underlying54 rfl (by kernel_rfl) rfl) (ai rfl (ak rfl rfl (k1.ldO (ms:=[vl,I u.leaf.split.kd,I u.leaf.split.ix,B u.leaf.split.at_.1,x,y,vk,B u.leaf.empty,vp]) (o:=1) (fun j v hj=>by rcases j with _|_|_|_|_|_|_|_|_|j<;>simp_all) Tryz.underlying52 rfl (by kernel_rfl)) ?_)))
    refine ai E (an oZ E E ((by have h:=o0 (n:=u.leaf) (hl.ext x1) (hx.ext x1) (hy.ext x1) (hk.ext x1) (hp.ext x1);rw[hv1] at h;exact h)) ?_)
    rintro v19 w19 ⟨x19,rfl⟩
    refine ai E (bo E E bu (aE E E E (ae E E (ai E (ah E E (ar (o:=1) L8 E (by kernel_rfl) E) ?_)))))
    refine ai rfl (ak rfl rfl ((k1.ext x19).ldO (ms:=[vl,I u.leaf.split.kd,I u.leaf.split.ix,B u.leaf.split.at_.1,x,y,vk,B u.leaf.empty,vp]) (o:=1) (fun j v hj=>by rcases j with _|_|_|_|_|_|_|_|_|j<;>simp_all) Tryz.underlying52 rfl (by kernel_rfl)) ?_)
    refine ai E (an tZ E E ((by have h:=t0 _ (Nat.le_refl _) (n:=u.leaf) (hl.ext (x1.trans x19)) (hx.ext (x1.trans x19)) (hy.ext (x1.trans x19)) (hk.ext (x1.trans x19)) (hp.ext (x1.trans x19)) hs.2;rw[hv2] at h;exact h)) ?_)
    rintro v25 w25 ⟨x25,rfl⟩
    refine ai E (bo E E bu (aE E E E (ag (ab (bf E (af (aa (ac E E (ag (ab (au (az (aA E E ?_)))))))))))))
    exact⟨_,rfl,((x1.trans x19).trans x25),by
     rw[cA (by
      first
      |exact .inl (by omega)
      |exact .inr (.inl (by omega))
      |exact .inr (.inr (.inl hv1))
      |exact .inr (.inr (.inr (.inl hv2))))]
     rfl⟩
 ·refine aa (ah E E (ar (o:=0) L8 E (by kernel_rfl) E) (ak E E (aj Mg E (k1.cell (i:=0) E)) ?_))
  refine aQ E E (be Mg (hd.ext x1)) (al E E E (bU) (ae E E ?_))
  refine cb (fun h9=>?_) (fun h9=>?_)
  ·refine ao E E E (ao E E E (ao E E E (ao E E E (ao E E E (ap E E E (ae E E (ao E E E (ao E E E (ao E E E ?_)))))))))
   refine ao E E E (ap E E E (ae E E (ao E E E (ao E E E (ao E E E (ao E E E (ap E E E (ag (ab (bf E ?_))))))))))
   refine af (aa (ac E E (ag (ab (au (az (aA E E ?_)))))))
   exact⟨_,rfl,x1,by
    rw[cA (by
     first
     |exact .inl (by omega)
     |exact .inr (.inl (by omega))
     |exact .inr (.inr (.inl hv1))
     |exact .inr (.inr (.inr (.inl hv2))))]
    rfl⟩
  ·refine ai E (ah E E (ar (o:=1) L8 E (by kernel_rfl) E) (ai E (ah E E (cK (b:=1) (o:=6) L6 E (by kernel_rfl) E) ?_)))
   refine ai E (ak E E (aj Mh E (k1.cell (i:=7) E)) (ai E (aQ E E (be Mh (hk.ext x1)) ?_)))
   refine ai E (al E E E (bU) (aE E E E (ae E E ?_)))
   refine cb (fun h16=>?_) (fun h16=>?_)
   ·refine ao E E E (ao E E E (ao E E E (ao E E E (ap E E E (ae E E (ao E E E (ao E E E (ao E E E (ao E E E ?_)))))))))
    refine ap E E E (ag (ab (bf E (af (aa (ac E E (ag (ab (au (az (aA E E ?_)))))))))))
    exact⟨_,rfl,x1,by
     rw[cA (by
      first
      |exact .inl (by omega)
      |exact .inr (.inl (by omega))
      |exact .inr (.inr (.inl hv1))
      |exact .inr (.inr (.inr (.inl hv2))))]
     rfl⟩
   ·refine ai rfl (ah rfl rfl (ar (o:=1) Tryz.underlying54 rfl (by kernel_rfl) rfl) (ai rfl (ak rfl rfl (k1.ldO (ms:=[vl,I u.leaf.split.kd,I u.leaf.split.ix,B u.leaf.split.at_.1,x,y,vk,B u.leaf.empty,vp]) (o:=1) (fun j v hj=>by rcases j with _|_|_|_|_|_|_|_|_|j<;>simp_all) Tryz.underlying52 rfl (by kernel_rfl)) ?_)))
    refine ai E (an oZ E E ((by have h:=o0 (n:=u.leaf) (hl.ext x1) (hx.ext x1) (hy.ext x1) (hk.ext x1) (hp.ext x1);rw[hv1] at h;exact h)) ?_)
    rintro v19 w19 ⟨x19,rfl⟩
    refine ai E (bo E E bu (aE E E E (ae E E (ai E (ah E E (ar (o:=1) L8 E (by kernel_rfl) E) ?_)))))
    refine ai rfl (ak rfl rfl ((k1.ext x19).ldO (ms:=[vl,I u.leaf.split.kd,I u.leaf.split.ix,B u.leaf.split.at_.1,x,y,vk,B u.leaf.empty,vp]) (o:=1) (fun j v hj=>by rcases j with _|_|_|_|_|_|_|_|_|j<;>simp_all) Tryz.underlying52 rfl (by kernel_rfl)) ?_)
    refine ai E (an tZ E E ((by have h:=t0 _ (Nat.le_refl _) (n:=u.leaf) (hl.ext (x1.trans x19)) (hx.ext (x1.trans x19)) (hy.ext (x1.trans x19)) (hk.ext (x1.trans x19)) (hp.ext (x1.trans x19)) hs.2;rw[hv2] at h;exact h)) ?_)
    rintro v25 w25 ⟨x25,rfl⟩
    refine ai E (bo E E bu (aE E E E (ag (ab (cp E (aC (ab (af (af (aa (ac E E (ag (ab (aH ?_))))))))))))))
    refine cm (α:=Nat) (fun i=>[(1,.pointer (some ⟨g1,0,none⟩)),(3,I (i:Int))]) (fun i w'=>aN w w'∧aN w1 w'∧i≤u.path.length∧u.path.all fO=(u.path.drop i).all fO) (fun i=>u.path.length-i) (0) ⟨rfl,rfl,trivial⟩ ⟨((x1.trans x19).trans x25),(x19.trans x25),by omega,rfl⟩ ?_
    rintro i wL ⟨eL,e1L,hi,hall⟩
    refine af (af (aa (ae E E (ah E E (ar (o:=0) L8 E (by kernel_rfl) E) (ak E E (aj Mg E (e1L.cell_some (k1.cell (i:=0) E))) ?_)))))
    refine aQ E E (be Mg (hd.ext eL)) (al E E E (bc) (ag (ab ?_)))
    refine bw E (fun h32=>?_) (fun h32=>?_)
    ·refine aC (ab (af (aH (af ?_))))
     obtain⟨em,hem⟩:∃em,em=u.path[i]'(by omega):=⟨_,rfl⟩
     have hmem:em∈u.path:=by rw[hem];exact List.getElem_mem _
     rcases hq:fI em.at_
     ·refine aa (ah E E (ar (o:=0) L8 E (by kernel_rfl) E) (ak E E (aj Mg E (e1L.cell_some (k1.cell (i:=0) E))) ?_))
      refine ae E E ?_
      obtain⟨a38,c38,p38,q38,h38⟩:=cf (P:=Tryz.prog) (sz:=5) Mg (by kernel_rfl) ci (by omega) (hd.ext eL) (i:=i) (by omega) .i64
      rw[←hem] at h38
      obtain⟨x38_0,x38_1,rfl,f38_0,f38_1⟩:=gy h38
      refine ax E E E (p38 _) (ak E E (q38.ld Ma E (by kernel_rfl)) ?_)
      obtain⟨g4,w4,hr4,l4,x4,k4⟩:=aX (P:=Tryz.prog) (w:=wL) (t:=48) (z:=.agg #[I 0,I 0,B false,.slice none 0 0,.slice none 0 0]) (l:=[I 0,I 0,B false,.slice none 0 0,.slice none 0 0]) (by kernel_rfl) rfl
      refine aV E hr4 ?_
      obtain⟨w6_6,s6_6,q6_6,k6_6⟩:=k4.stS (P:=Tryz.prog) (t:=48) (m:=[I em.kd,I em.ix,B em.at_.1,x38_0,x38_1]) rfl (by kernel_rfl) (aw.cons rfl (aw.cons rfl (aw.cons rfl (aw.cons f38_0.one (aw.cons f38_1.one aw.nil)))))
      refine aq E E s6_6 ?_
      have x6_6:=aN.of_new (x4) q6_6 l4
      refine ag (ab (af (aa (ah E E (ar (o:=0) Ma E (by kernel_rfl) E) (ak E E (aj Mb E (k6_6.cell (i:=0) E)) ?_)))))
      refine al E E E (bc) (ae E E ?_)
      refine cb (fun h43=>?_) (fun h43=>?_)
      ·refine ao E E E (ao E E E (ao E E E (ap E E E (ae E E (ao E E E (ao E E E (ao E E E (ao E E E (ap E E E ?_)))))))))
       refine ag (ab (bf E (af (aa (ac E E (ag (ab (au (a6 (az (az (a6 (az (aA E E ?_))))))))))))))
       exact⟨_,rfl,(eL.trans x6_6),by
        rw[cA (.inr (.inr (.inr (.inr (gE (p:=fO) (i:=i) (by omega) hall (by
         rw[←hem]
         refine ie ?_
         first
         |exact .inl (by omega)
         |exact .inr (.inl (by omega))
         |exact .inr (.inr hq)))))))]
        rfl⟩
      ·refine ai E (ah E E (ar (o:=0) Ma E (by kernel_rfl) E) (ai E (ak E E (aj Mb E (k6_6.cell (i:=0) E)) ?_)))
       refine ai E (al E E E (bU) (aE E E E (ae E E ?_)))
       refine cb (fun h48=>?_) (fun h48=>?_)
       ·refine ao E E E (ao E E E (ao E E E (ao E E E (ap E E E (ag (ab (bf E (af (aa (ac E E (ag (ab (au (a6 ?_))))))))))))))
        refine az (az (a6 (az (aA E E ?_))))
        exact⟨_,rfl,(eL.trans x6_6),by
         rw[cA (.inr (.inr (.inr (.inr (gE (p:=fO) (i:=i) (by omega) hall (by
          rw[←hem]
          refine ie ?_
          first
          |exact .inl (by omega)
          |exact .inr (.inl (by omega))
          |exact .inr (.inr hq)))))))]
         rfl⟩
       ·refine ai rfl (ah rfl rfl (ar (o:=2) Tryz.underlying48 rfl (by kernel_rfl) rfl) (ai rfl (ak rfl rfl (k6_6.ldO (ms:=[B em.at_.1,x38_0,x38_1]) (o:=2) (fun j v hj=>by rcases j with _|_|_|_|_|_|_|_|_|j<;>simp_all) Tryz.underlying46 rfl (by kernel_rfl)) ?_)))
        refine ai E (an gF E E ((by have h:=nO (q:=em.at_) (f38_0.ext x6_6) (f38_1.ext x6_6) (hs.1 em hmem);rw[hq] at h;exact h)) ?_)
        rintro v51 w51 ⟨x51,rfl⟩
        refine ai E (bo E E bu (aE E E E (ag (ab (bf E (af (aa (ac E E (ag (ab (au (a6 (az (az (a6 (az (aA E E ?_)))))))))))))))))
        exact⟨_,rfl,((eL.trans x6_6).trans x51),by
         rw[cA (.inr (.inr (.inr (.inr (gE (p:=fO) (i:=i) (by omega) hall (by
          rw[←hem]
          refine ie ?_
          first
          |exact .inl (by omega)
          |exact .inr (.inl (by omega))
          |exact .inr (.inr hq)))))))]
         rfl⟩
     ·refine aa (ah E E (ar (o:=0) L8 E (by kernel_rfl) E) (ak E E (aj Mg E (e1L.cell_some (k1.cell (i:=0) E))) ?_))
      refine ae E E ?_
      obtain⟨a38,c38,p38,q38,h38⟩:=cf (P:=Tryz.prog) (sz:=5) Mg (by kernel_rfl) ci (by omega) (hd.ext eL) (i:=i) (by omega) .i64
      rw[←hem] at h38
      obtain⟨x38_0,x38_1,rfl,f38_0,f38_1⟩:=gy h38
      refine ax E E E (p38 _) (ak E E (q38.ld Ma E (by kernel_rfl)) ?_)
      obtain⟨g4,w4,hr4,l4,x4,k4⟩:=aX (P:=Tryz.prog) (w:=wL) (t:=48) (z:=.agg #[I 0,I 0,B false,.slice none 0 0,.slice none 0 0]) (l:=[I 0,I 0,B false,.slice none 0 0,.slice none 0 0]) (by kernel_rfl) rfl
      refine aV E hr4 ?_
      obtain⟨w6_6,s6_6,q6_6,k6_6⟩:=k4.stS (P:=Tryz.prog) (t:=48) (m:=[I em.kd,I em.ix,B em.at_.1,x38_0,x38_1]) rfl (by kernel_rfl) (aw.cons rfl (aw.cons rfl (aw.cons rfl (aw.cons f38_0.one (aw.cons f38_1.one aw.nil)))))
      refine aq E E s6_6 ?_
      have x6_6:=aN.of_new (x4) q6_6 l4
      refine ag (ab (af (aa (ah E E (ar (o:=0) Ma E (by kernel_rfl) E) (ak E E (aj Mb E (k6_6.cell (i:=0) E)) ?_)))))
      refine al E E E (bc) (ae E E ?_)
      refine cb (fun h43=>?_) (fun h43=>?_)
      ·refine ao E E E (ao E E E (ao E E E (ap E E E (ae E E (ao E E E (ao E E E (ao E E E (ao E E E (ap E E E ?_)))))))))
       refine ag (ab (bf E (af (aa (ac E E (ag (ab (au (a6 (az (az (a6 (az (aA E E ?_))))))))))))))
       exact⟨_,rfl,(eL.trans x6_6),by
        rw[cA (.inr (.inr (.inr (.inr (gE (p:=fO) (i:=i) (by omega) hall (by
         rw[←hem]
         refine ie ?_
         first
         |exact .inl (by omega)
         |exact .inr (.inl (by omega))
         |exact .inr (.inr hq)))))))]
        rfl⟩
      ·refine ai E (ah E E (ar (o:=0) Ma E (by kernel_rfl) E) (ai E (ak E E (aj Mb E (k6_6.cell (i:=0) E)) ?_)))
       refine ai E (al E E E (bU) (aE E E E (ae E E ?_)))
       refine cb (fun h48=>?_) (fun h48=>?_)
       ·refine ao E E E (ao E E E (ao E E E (ao E E E (ap E E E (ag (ab (bf E (af (aa (ac E E (ag (ab (au (a6 ?_))))))))))))))
        refine az (az (a6 (az (aA E E ?_))))
        exact⟨_,rfl,(eL.trans x6_6),by
         rw[cA (.inr (.inr (.inr (.inr (gE (p:=fO) (i:=i) (by omega) hall (by
          rw[←hem]
          refine ie ?_
          first
          |exact .inl (by omega)
          |exact .inr (.inl (by omega))
          |exact .inr (.inr hq)))))))]
         rfl⟩
       ·refine ai rfl (ah rfl rfl (ar (o:=2) Tryz.underlying48 rfl (by kernel_rfl) rfl) (ai rfl (ak rfl rfl (k6_6.ldO (ms:=[B em.at_.1,x38_0,x38_1]) (o:=2) (fun j v hj=>by rcases j with _|_|_|_|_|_|_|_|_|j<;>simp_all) Tryz.underlying46 rfl (by kernel_rfl)) ?_)))
        refine ai E (an gF E E ((by have h:=nO (q:=em.at_) (f38_0.ext x6_6) (f38_1.ext x6_6) (hs.1 em hmem);rw[hq] at h;exact h)) ?_)
        rintro v51 w51 ⟨x51,rfl⟩
        refine ai E (bo E E bu (aE E E E (ag (ab (cp E (aC (aS (ab (aa (ae E E (al (r:=I ((i+1:Nat):Int)) E E E (by have e:((i+1:Nat):Int)=(i:Int)+1:=(by omega);rw[e];exact aP (by omega) (by omega)) ?_)))))))))))
        refine ac E E (ag ?_)
        refine bT (i+1) ⟨rfl,rfl,trivial⟩ ⟨((eL.trans x6_6).trans x51),((e1L.trans x6_6).trans x51),by omega,rt (p:=fO) (by omega) hall (by rw[←hem];exact zo (by omega) (by omega) hq)⟩ (by omega)
    ·refine bg (aJ (aJ (bh (ab (af (aa (ac E E (ag (ab (au (aA E E ?_)))))))))))
     exact⟨_,rfl,eL,by rw[zp (by omega) (by omega) hv1 hv2 (nJ (p:=fO) (l:=u.path) (i:=i) (by omega) hall)];rfl⟩
 ·refine aa (ah E E (ar (o:=0) L8 E (by kernel_rfl) E) (ak E E (aj Mg E (k1.cell (i:=0) E)) ?_))
  refine aQ E E (be Mg (hd.ext x1)) (al E E E (bU) (ae E E ?_))
  refine cb (fun h9=>?_) (fun h9=>?_)
  ·refine ao E E E (ao E E E (ao E E E (ao E E E (ao E E E (ap E E E (ae E E (ao E E E (ao E E E (ao E E E ?_)))))))))
   refine ao E E E (ap E E E (ae E E (ao E E E (ao E E E (ao E E E (ao E E E (ap E E E (ag (ab (bf E ?_))))))))))
   refine af (aa (ac E E (ag (ab (au (az (aA E E ?_)))))))
   exact⟨_,rfl,x1,by
    rw[cA (by
     first
     |exact .inl (by omega)
     |exact .inr (.inl (by omega))
     |exact .inr (.inr (.inl hv1))
     |exact .inr (.inr (.inr (.inl hv2))))]
    rfl⟩
  ·refine ai E (ah E E (ar (o:=1) L8 E (by kernel_rfl) E) (ai E (ah E E (cK (b:=1) (o:=6) L6 E (by kernel_rfl) E) ?_)))
   refine ai E (ak E E (aj Mh E (k1.cell (i:=7) E)) (ai E (aQ E E (be Mh (hk.ext x1)) ?_)))
   refine ai E (al E E E (bU) (aE E E E (ae E E ?_)))
   refine cb (fun h16=>?_) (fun h16=>?_)
   ·refine ao E E E (ao E E E (ao E E E (ao E E E (ap E E E (ae E E (ao E E E (ao E E E (ao E E E (ao E E E ?_)))))))))
    refine ap E E E (ag (ab (bf E (af (aa (ac E E (ag (ab (au (az (aA E E ?_)))))))))))
    exact⟨_,rfl,x1,by
     rw[cA (by
      first
      |exact .inl (by omega)
      |exact .inr (.inl (by omega))
      |exact .inr (.inr (.inl hv1))
      |exact .inr (.inr (.inr (.inl hv2))))]
     rfl⟩
   ·refine ai rfl (ah rfl rfl (ar (o:=1) Tryz.underlying54 rfl (by kernel_rfl) rfl) (ai rfl (ak rfl rfl (k1.ldO (ms:=[vl,I u.leaf.split.kd,I u.leaf.split.ix,B u.leaf.split.at_.1,x,y,vk,B u.leaf.empty,vp]) (o:=1) (fun j v hj=>by rcases j with _|_|_|_|_|_|_|_|_|j<;>simp_all) Tryz.underlying52 rfl (by kernel_rfl)) ?_)))
    refine ai E (an oZ E E ((by have h:=o0 (n:=u.leaf) (hl.ext x1) (hx.ext x1) (hy.ext x1) (hk.ext x1) (hp.ext x1);rw[hv1] at h;exact h)) ?_)
    rintro v19 w19 ⟨x19,rfl⟩
    refine ai E (bo E E bu (aE E E E (ae E E (ao E E E (ao E E E (ao E E E (ao E E E (ap E E E (ag ?_)))))))))
    refine ab (bf E (af (aa (ac E E (ag (ab (au (az (aA E E ?_)))))))))
    exact⟨_,rfl,(x1.trans x19),by
     rw[cA (by
      first
      |exact .inl (by omega)
      |exact .inr (.inl (by omega))
      |exact .inr (.inr (.inl hv1))
      |exact .inr (.inr (.inr (.inl hv2))))]
     rfl⟩
theorem zq {n:aZ} (h:n.kids.length=0):i8 n=(fI n.split.at_&&mU n.pf&&n.lems.all iN):=by
 cases n with
 |mk l s k e p=>
  obtain rfl:k=[]:=List.eq_nil_of_length_eq_zero h
  simp only[i8,xa,aZ.split,aZ.pf,aZ.lems]
  cases fI s.at_<;>cases mU p<;>cases l.all iN<;>rfl
theorem en {n:aZ} (h:n.kids.length=0) (h1:fI n.split.at_=false∨mU n.pf=false∨n.lems.all iN=false):i8 n=false:=by
 rw[zq h]
 rcases h1 with h|h|h<;>rw[h]
 ·rfl
 ·rw[Bool.and_false];rfl
 ·rw[Bool.and_false]
theorem AI {n:aZ} (h:n.kids.length=0) (h1:fI n.split.at_=true) (h2:mU n.pf=true) (h3:n.lems.all iN=true):i8 n=true:=by
 rw[zq h,h1,h2,h3];rfl
theorem jo {w:World} {u:bR} {vd vl x y vk vp:Value} (hd:cu dm u.path vd w) (hl:cu cV u.leaf.lems vl w) (hx:bt u.leaf.split.at_.2.1 x w) (hy:bt u.leaf.split.at_.2.2 y w) (hk:cu bH u.leaf.kids vk w) (hp:cu bK u.leaf.pf vp w) (hs:Ip u):
 Calls Tryz.prog 54 #[.agg #[vd,vl,I u.leaf.split.kd,I u.leaf.split.ix,B u.leaf.split.at_.1,x,y,vk,B u.leaf.empty,vp]] w (bE fun r w'=>aN w w'∧r=B (cX u)):=by
 refine enter (vs:=[.agg #[vd,vl,I u.leaf.split.kd,I u.leaf.split.ix,B u.leaf.split.at_.1,x,y,vk,B u.leaf.empty,vp]]) Tryz.func54 E E E ?_
 have hpl:=hd.len
 have hkl:=hk.len
 have hll:=hl.len
 obtain⟨sl,sd,sp,_⟩:=(xq u.leaf).1 hs.2
 refine af (aa ?_)
 obtain⟨g1,w1,hr1,l1,x1,k1⟩:=cD (P:=Tryz.prog) (w:=w) (T:=54) (cs:=[vd,vl,I u.leaf.split.kd,I u.leaf.split.ix,B u.leaf.split.at_.1,x,y,vk,B u.leaf.empty,vp])
 refine cI E E hr1 (ac E E (ag (ab (af (af ?_)))))
 rcases hv1:qo u.leaf
 rotate_left
 rcases hv2:mU u.leaf.pf
 ·refine aa (ah E E (ar (o:=0) L8 E (by kernel_rfl) E) (ak E E (aj Mg E (k1.cell (i:=0) E)) ?_))
  refine aQ E E (be Mg (hd.ext x1)) (al E E E (bU) (ae E E ?_))
  refine cb (fun h11=>?_) (fun h11=>?_)
  ·refine ao E E E (ao E E E (ao E E E (ao E E E (ao E E E (ap E E E (ae E E (ao E E E (ao E E E (ao E E E ?_)))))))))
   refine ao E E E (ap E E E (ae E E (ao E E E (ao E E E (ao E E E (ao E E E (ao E E E (ap E E E (ag ?_)))))))))
   refine ab (bf E (af (aa (ac E E (ag (ab (au (az (aA E E ?_)))))))))
   exact⟨_,rfl,x1,by
    rw[cA (by
     first
     |exact .inl (by omega)
     |exact .inr (.inl (by omega))
     |exact .inr (.inr (.inl hv1))
     |exact .inr (.inr (.inr (.inl (en (by omega) (.inr (.inl hv2)))))))]
    rfl⟩
  ·refine ai E (ah E E (ar (o:=1) L8 E (by kernel_rfl) E) (ai E (ah E E (cK (b:=1) (o:=6) L6 E (by kernel_rfl) E) ?_)))
   refine ai E (ak E E (aj Mh E (k1.cell (i:=7) E)) (ai E (aQ E E (be Mh (hk.ext x1)) ?_)))
   refine ai E (al E E E (bU) (aE E E E (ae E E ?_)))
   refine cb (fun h18=>?_) (fun h18=>?_)
   ·refine ao E E E (ao E E E (ao E E E (ao E E E (ap E E E (ae E E (ao E E E (ao E E E (ao E E E (ao E E E ?_)))))))))
    refine ao E E E (ap E E E (ag (ab (bf E (af (aa (ac E E (ag (ab (au (az (aA E E ?_))))))))))))
    exact⟨_,rfl,x1,by
     rw[cA (by
      first
      |exact .inl (by omega)
      |exact .inr (.inl (by omega))
      |exact .inr (.inr (.inl hv1))
      |exact .inr (.inr (.inr (.inl (en (by omega) (.inr (.inl hv2)))))))]
     rfl⟩
   ·refine ai rfl (ah rfl rfl (ar (o:=1) Tryz.underlying54 rfl (by kernel_rfl) rfl) (ai rfl (ak rfl rfl (k1.ldO (ms:=[vl,I u.leaf.split.kd,I u.leaf.split.ix,B u.leaf.split.at_.1,x,y,vk,B u.leaf.empty,vp]) (o:=1) (fun j v hj=>by rcases j with _|_|_|_|_|_|_|_|_|j<;>simp_all) Tryz.underlying52 rfl (by kernel_rfl)) ?_)))
    refine ai E (an gx E E ((by have h:=mS (n:=u.leaf) (hl.ext x1) (hx.ext x1) (hy.ext x1) (hk.ext x1) (hp.ext x1);rw[hv1] at h;exact h)) ?_)
    rintro v21 w21 ⟨x21,rfl⟩
    refine ai E (bo E E bu (aE E E E (ae E E (ai E (ah E E (ar (o:=1) L8 E (by kernel_rfl) E) ?_)))))
    refine ai E (ah E E (cK (b:=1) (o:=8) L6 E (by kernel_rfl) E) (ai E (ak E E (aj Mj E (x21.cell_some (k1.cell (i:=9) E))) ?_)))
    refine ai E (an td E E ((by have h:=te (hp.ext (x1.trans x21)) sp;rw[hv2] at h;exact h)) ?_)
    rintro v28 w28 ⟨x28,rfl⟩
    refine ai E (bo E E bu (aE E E E (ag (ab (bf E (af (aa (ac E E (ag (ab (au (az (aA E E ?_)))))))))))))
    exact⟨_,rfl,((x1.trans x21).trans x28),by
     rw[cA (by
      first
      |exact .inl (by omega)
      |exact .inr (.inl (by omega))
      |exact .inr (.inr (.inl hv1))
      |exact .inr (.inr (.inr (.inl (en (by omega) (.inr (.inl hv2)))))))]
     rfl⟩
 ·refine aa (ah E E (ar (o:=0) L8 E (by kernel_rfl) E) (ak E E (aj Mg E (k1.cell (i:=0) E)) ?_))
  refine aQ E E (be Mg (hd.ext x1)) (al E E E (bU) (ae E E ?_))
  refine cb (fun h11=>?_) (fun h11=>?_)
  ·refine ao E E E (ao E E E (ao E E E (ao E E E (ao E E E (ap E E E (ae E E (ao E E E (ao E E E (ao E E E ?_)))))))))
   refine ao E E E (ap E E E (ae E E (ao E E E (ao E E E (ao E E E (ao E E E (ao E E E (ap E E E (ag ?_)))))))))
   refine ab (bf E (af (aa (ac E E (ag (ab (au (az (aA E E ?_)))))))))
   exact⟨_,rfl,x1,by
    rw[cA (by
     first
     |exact .inl (by omega)
     |exact .inr (.inl (by omega))
     |exact .inr (.inr (.inl hv1))
     |exact .inr (.inr (.inr (.inl (en (by omega) (.inr (.inl hv2)))))))]
    rfl⟩
  ·refine ai E (ah E E (ar (o:=1) L8 E (by kernel_rfl) E) (ai E (ah E E (cK (b:=1) (o:=6) L6 E (by kernel_rfl) E) ?_)))
   refine ai E (ak E E (aj Mh E (k1.cell (i:=7) E)) (ai E (aQ E E (be Mh (hk.ext x1)) ?_)))
   refine ai E (al E E E (bU) (aE E E E (ae E E ?_)))
   refine cb (fun h18=>?_) (fun h18=>?_)
   ·refine ao E E E (ao E E E (ao E E E (ao E E E (ap E E E (ae E E (ao E E E (ao E E E (ao E E E (ao E E E ?_)))))))))
    refine ao E E E (ap E E E (ag (ab (bf E (af (aa (ac E E (ag (ab (au (az (aA E E ?_))))))))))))
    exact⟨_,rfl,x1,by
     rw[cA (by
      first
      |exact .inl (by omega)
      |exact .inr (.inl (by omega))
      |exact .inr (.inr (.inl hv1))
      |exact .inr (.inr (.inr (.inl (en (by omega) (.inr (.inl hv2)))))))]
     rfl⟩
   ·refine ai rfl (ah rfl rfl (ar (o:=1) Tryz.underlying54 rfl (by kernel_rfl) rfl) (ai rfl (ak rfl rfl (k1.ldO (ms:=[vl,I u.leaf.split.kd,I u.leaf.split.ix,B u.leaf.split.at_.1,x,y,vk,B u.leaf.empty,vp]) (o:=1) (fun j v hj=>by rcases j with _|_|_|_|_|_|_|_|_|j<;>simp_all) Tryz.underlying52 rfl (by kernel_rfl)) ?_)))
    refine ai E (an gx E E ((by have h:=mS (n:=u.leaf) (hl.ext x1) (hx.ext x1) (hy.ext x1) (hk.ext x1) (hp.ext x1);rw[hv1] at h;exact h)) ?_)
    rintro v21 w21 ⟨x21,rfl⟩
    refine ai E (bo E E bu (aE E E E (ae E E (ai E (ah E E (ar (o:=1) L8 E (by kernel_rfl) E) ?_)))))
    refine ai E (ah E E (cK (b:=1) (o:=8) L6 E (by kernel_rfl) E) (ai E (ak E E (aj Mj E (x21.cell_some (k1.cell (i:=9) E))) ?_)))
    refine ai E (an td E E ((by have h:=te (hp.ext (x1.trans x21)) sp;rw[hv2] at h;exact h)) ?_)
    rintro v28 w28 ⟨x28,rfl⟩
    refine ai E (bo E E bu (aE E E E (ag (ab (cp E (aC (ab (af (af (aa (ah E E (ar (o:=0) L8 E (by kernel_rfl) E) ?_)))))))))))
    refine ak E E (aj Mg E ((x21.trans x28).cell_some (k1.cell (i:=0) E))) (aQ E E (be Mg (hd.ext ((x1.trans x21).trans x28))) ?_)
    refine ae E E (ag (ab (aH ?_)))
    refine cm (α:=Nat) (fun i=>[(1,.pointer (some ⟨g1,0,none⟩)),(32,vd),(33,I (u.path.length:Int)),(34,I (i:Int))]) (fun i w'=>aN w w'∧aN w1 w'∧i≤u.path.length∧u.path.all fO=(u.path.drop i).all fO) (fun i=>u.path.length-i) (0) ⟨rfl,rfl,rfl,rfl,trivial⟩ ⟨((x1.trans x21).trans x28),(x21.trans x28),by omega,rfl⟩ ?_
    rintro i wL ⟨eL,e1L,hi,hall⟩
    refine af (aa (al E E E (bc) (ag (ab (af ?_)))))
    refine bw E (fun h35=>?_) (fun h35=>?_)
    ·refine aC (ab (af (aH (af ?_))))
     obtain⟨em,hem⟩:∃em,em=u.path[i]'(by omega):=⟨_,rfl⟩
     have hmem:em∈u.path:=by rw[hem];exact List.getElem_mem _
     rcases hq:fI em.at_
     ·refine aa ?_
      obtain⟨a36,c36,p36,q36,h36⟩:=cf (P:=Tryz.prog) (sz:=5) Mg (by kernel_rfl) ci (by omega) (hd.ext eL) (i:=i) (by omega) .i64
      rw[←hem] at h36
      obtain⟨x36_0,x36_1,rfl,f36_0,f36_1⟩:=gy h36
      refine ax E E E (p36 _) (ak E E (q36.ld Ma E (by kernel_rfl)) ?_)
      obtain⟨g4,w4,hr4,l4,x4,k4⟩:=aX (P:=Tryz.prog) (w:=wL) (t:=48) (z:=.agg #[I 0,I 0,B false,.slice none 0 0,.slice none 0 0]) (l:=[I 0,I 0,B false,.slice none 0 0,.slice none 0 0]) (by kernel_rfl) rfl
      refine aV E hr4 ?_
      obtain⟨w5_3,s5_3,q5_3,k5_3⟩:=k4.stS (P:=Tryz.prog) (t:=48) (m:=[I em.kd,I em.ix,B em.at_.1,x36_0,x36_1]) rfl (by kernel_rfl) (aw.cons rfl (aw.cons rfl (aw.cons rfl (aw.cons f36_0.one (aw.cons f36_1.one aw.nil)))))
      refine aq E E s5_3 ?_
      have x5_3:=aN.of_new (x4) q5_3 l4
      refine ag (ab (af (aa (ah E E (ar (o:=0) Ma E (by kernel_rfl) E) (ak E E (aj Mb E (k5_3.cell (i:=0) E)) ?_)))))
      refine al E E E (bc) (ae E E ?_)
      refine cb (fun h41=>?_) (fun h41=>?_)
      ·refine ao E E E (ao E E E (ao E E E (ap E E E (ae E E (ao E E E (ao E E E (ao E E E (ao E E E (ap E E E ?_)))))))))
       refine ag (ab (bf E (af (aa (ac E E (ag (ab (au (a6 (az (az (a6 (az (aA E E ?_))))))))))))))
       exact⟨_,rfl,(eL.trans x5_3),by
        rw[cA (.inr (.inr (.inr (.inr (gE (p:=fO) (i:=i) (by omega) hall (by
         rw[←hem]
         refine ie ?_
         first
         |exact .inl (by omega)
         |exact .inr (.inl (by omega))
         |exact .inr (.inr hq)))))))]
        rfl⟩
      ·refine ai E (ah E E (ar (o:=0) Ma E (by kernel_rfl) E) (ai E (ak E E (aj Mb E (k5_3.cell (i:=0) E)) ?_)))
       refine ai E (al E E E (bU) (aE E E E (ae E E ?_)))
       refine cb (fun h46=>?_) (fun h46=>?_)
       ·refine ao E E E (ao E E E (ao E E E (ao E E E (ap E E E (ag (ab (bf E (af (aa (ac E E (ag (ab (au (a6 ?_))))))))))))))
        refine az (az (a6 (az (aA E E ?_))))
        exact⟨_,rfl,(eL.trans x5_3),by
         rw[cA (.inr (.inr (.inr (.inr (gE (p:=fO) (i:=i) (by omega) hall (by
          rw[←hem]
          refine ie ?_
          first
          |exact .inl (by omega)
          |exact .inr (.inl (by omega))
          |exact .inr (.inr hq)))))))]
         rfl⟩
       ·refine ai rfl (ah rfl rfl (ar (o:=2) Tryz.underlying48 rfl (by kernel_rfl) rfl) (ai rfl (ak rfl rfl (k5_3.ldO (ms:=[B em.at_.1,x36_0,x36_1]) (o:=2) (fun j v hj=>by rcases j with _|_|_|_|_|_|_|_|_|j<;>simp_all) Tryz.underlying46 rfl (by kernel_rfl)) ?_)))
        refine ai E (an fp E E ((by have h:=iz (q:=em.at_) (f36_0.ext x5_3) (f36_1.ext x5_3) (hs.1 em hmem);rw[hq] at h;exact h)) ?_)
        rintro v49 w49 ⟨x49,rfl⟩
        refine ai E (bo E E bu (aE E E E (ag (ab (bf E (af (aa (ac E E (ag (ab (au (a6 (az (az (a6 (az (aA E E ?_)))))))))))))))))
        exact⟨_,rfl,((eL.trans x5_3).trans x49),by
         rw[cA (.inr (.inr (.inr (.inr (gE (p:=fO) (i:=i) (by omega) hall (by
          rw[←hem]
          refine ie ?_
          first
          |exact .inl (by omega)
          |exact .inr (.inl (by omega))
          |exact .inr (.inr hq)))))))]
         rfl⟩
     ·refine aa ?_
      obtain⟨a36,c36,p36,q36,h36⟩:=cf (P:=Tryz.prog) (sz:=5) Mg (by kernel_rfl) ci (by omega) (hd.ext eL) (i:=i) (by omega) .i64
      rw[←hem] at h36
      obtain⟨x36_0,x36_1,rfl,f36_0,f36_1⟩:=gy h36
      refine ax E E E (p36 _) (ak E E (q36.ld Ma E (by kernel_rfl)) ?_)
      obtain⟨g4,w4,hr4,l4,x4,k4⟩:=aX (P:=Tryz.prog) (w:=wL) (t:=48) (z:=.agg #[I 0,I 0,B false,.slice none 0 0,.slice none 0 0]) (l:=[I 0,I 0,B false,.slice none 0 0,.slice none 0 0]) (by kernel_rfl) rfl
      refine aV E hr4 ?_
      obtain⟨w5_3,s5_3,q5_3,k5_3⟩:=k4.stS (P:=Tryz.prog) (t:=48) (m:=[I em.kd,I em.ix,B em.at_.1,x36_0,x36_1]) rfl (by kernel_rfl) (aw.cons rfl (aw.cons rfl (aw.cons rfl (aw.cons f36_0.one (aw.cons f36_1.one aw.nil)))))
      refine aq E E s5_3 ?_
      have x5_3:=aN.of_new (x4) q5_3 l4
      refine ag (ab (af (aa (ah E E (ar (o:=0) Ma E (by kernel_rfl) E) (ak E E (aj Mb E (k5_3.cell (i:=0) E)) ?_)))))
      refine al E E E (bc) (ae E E ?_)
      refine cb (fun h41=>?_) (fun h41=>?_)
      ·refine ao E E E (ao E E E (ao E E E (ap E E E (ae E E (ao E E E (ao E E E (ao E E E (ao E E E (ap E E E ?_)))))))))
       refine ag (ab (bf E (af (aa (ac E E (ag (ab (au (a6 (az (az (a6 (az (aA E E ?_))))))))))))))
       exact⟨_,rfl,(eL.trans x5_3),by
        rw[cA (.inr (.inr (.inr (.inr (gE (p:=fO) (i:=i) (by omega) hall (by
         rw[←hem]
         refine ie ?_
         first
         |exact .inl (by omega)
         |exact .inr (.inl (by omega))
         |exact .inr (.inr hq)))))))]
        rfl⟩
      ·refine ai E (ah E E (ar (o:=0) Ma E (by kernel_rfl) E) (ai E (ak E E (aj Mb E (k5_3.cell (i:=0) E)) ?_)))
       refine ai E (al E E E (bU) (aE E E E (ae E E ?_)))
       refine cb (fun h46=>?_) (fun h46=>?_)
       ·refine ao E E E (ao E E E (ao E E E (ao E E E (ap E E E (ag (ab (bf E (af (aa (ac E E (ag (ab (au (a6 ?_))))))))))))))
        refine az (az (a6 (az (aA E E ?_))))
        exact⟨_,rfl,(eL.trans x5_3),by
         rw[cA (.inr (.inr (.inr (.inr (gE (p:=fO) (i:=i) (by omega) hall (by
          rw[←hem]
          refine ie ?_
          first
          |exact .inl (by omega)
          |exact .inr (.inl (by omega))
          |exact .inr (.inr hq)))))))]
         rfl⟩
       ·refine ai rfl (ah rfl rfl (ar (o:=2) Tryz.underlying48 rfl (by kernel_rfl) rfl) (ai rfl (ak rfl rfl (k5_3.ldO (ms:=[B em.at_.1,x36_0,x36_1]) (o:=2) (fun j v hj=>by rcases j with _|_|_|_|_|_|_|_|_|j<;>simp_all) Tryz.underlying46 rfl (by kernel_rfl)) ?_)))
        refine ai E (an fp E E ((by have h:=iz (q:=em.at_) (f36_0.ext x5_3) (f36_1.ext x5_3) (hs.1 em hmem);rw[hq] at h;exact h)) ?_)
        rintro v49 w49 ⟨x49,rfl⟩
        refine ai E (bo E E bu (aE E E E (ag (ab (cp E (aC (aS (ab (aa (al (r:=I ((i+1:Nat):Int)) E E E (by have e:((i+1:Nat):Int)=(i:Int)+1:=(by omega);rw[e];exact aP (by omega) (by omega)) ?_))))))))))
        refine ae E E (ag ?_)
        refine bT (i+1) ⟨rfl,rfl,rfl,rfl,trivial⟩ ⟨((eL.trans x5_3).trans x49),((e1L.trans x5_3).trans x49),by omega,rt (p:=fO) (by omega) hall (by rw[←hem];exact zo (by omega) (by omega) hq)⟩ (by omega)
    ·refine bg (aJ (aJ (bh (ab (af (af ?_))))))
     have hpa:=nJ (p:=fO) (l:=u.path) (i:=i) (by omega) hall
     refine aa (ah E E (ar (o:=1) L8 E (by kernel_rfl) E) (ah E E (cK (b:=1) (o:=0) L6 E (by kernel_rfl) E) ?_))
     refine ak E E (aj Mi E (e1L.cell_some (k1.cell (i:=1) E))) (aQ E E (be Mi (hl.ext eL)) ?_)
     refine ae E E (ag (ab (aH ?_)))
     refine cm (α:=Nat) (fun j=>[(1,.pointer (some ⟨g1,0,none⟩)),(55,vl),(56,I (u.leaf.lems.length:Int)),(57,I (j:Int))]) (fun j w'=>aN w w'∧aN w1 w'∧j≤u.leaf.lems.length∧u.leaf.lems.all iN=(u.leaf.lems.drop j).all iN) (fun j=>u.leaf.lems.length-j) (0) ⟨rfl,rfl,rfl,rfl,trivial⟩ ⟨eL,e1L,by omega,rfl⟩ ?_
     rintro j wM ⟨eM,e1M,hj,hlm⟩
     refine af (aa (al E E E (bc) (ag (ab (af ?_)))))
     refine bw E (fun h58=>?_) (fun h58=>?_)
     ·refine aC (ab (af (aH (af ?_))))
      obtain⟨eq,heq⟩:∃eq,eq=u.leaf.lems[j]'(by omega):=⟨_,rfl⟩
      have hmm:eq∈u.leaf.lems:=by rw[heq];exact List.getElem_mem _
      rcases hq1:fI eq.va
      rotate_left
      rcases hq2:mU eq.pf
      ·refine aa ?_
       obtain⟨a59,c59,p59,q59,h59⟩:=cf (P:=Tryz.prog) (sz:=6) Mi (by kernel_rfl) cG (by omega) (hl.ext eM) (i:=j) (by omega) .i64
       rw[←heq] at h59
       obtain⟨x59_0,x59_1,x59_2,rfl,f59_0,f59_1,f59_2⟩:=fH h59
       refine ax E E E (p59 _) (ak E E (q59.ld Mk E (by kernel_rfl)) ?_)
       obtain⟨g6,w6,hr6,l6,x6,k6⟩:=aX (P:=Tryz.prog) (w:=wM) (t:=173) (z:=.agg #[I 0,B false,B false,.slice none 0 0,.slice none 0 0,.slice none 0 0]) (l:=[I 0,B false,B false,.slice none 0 0,.slice none 0 0,.slice none 0 0]) (by kernel_rfl) rfl
       refine aV E hr6 ?_
       obtain⟨w11_3,s11_3,q11_3,k11_3⟩:=k6.stS (P:=Tryz.prog) (t:=173) (m:=[I eq.un,B eq.up,B eq.va.1,x59_0,x59_1,x59_2]) rfl (by kernel_rfl) (aw.cons rfl (aw.cons rfl (aw.cons rfl (aw.cons f59_0.one (aw.cons f59_1.one (aw.cons f59_2.one aw.nil))))))
       refine aq E E s11_3 ?_
       have x11_3:=aN.of_new (x6) q11_3 l6
       refine ag (ab (af (aa (ah rfl rfl (ar (o:=2) Tryz.underlying173 rfl (by kernel_rfl) rfl) (ak rfl rfl (k11_3.ldO (ms:=[B eq.va.1,x59_0,x59_1]) (o:=2) (fun j v hj=>by rcases j with _|_|_|_|_|_|_|_|_|j<;>simp_all) Tryz.underlying46 rfl (by kernel_rfl)) ?_)))))
       refine an fp E E ((by have h:=iz (q:=eq.va) (f59_0.ext x11_3) (f59_1.ext x11_3) (sl eq hmm).1;rw[hq1] at h;exact h)) ?_
       rintro v63 w63 ⟨x63,rfl⟩
       refine bo E E bu (ae E E (ai E (ah E E (ar (o:=5) Mk E (by kernel_rfl) E) (ai E (ak E E (aj Mj E (x63.cell_some (k11_3.cell (i:=5) E))) ?_)))))
       refine ai E (an td E E ((by have h:=te (f59_2.ext (x11_3.trans x63)) (sl eq hmm).2;rw[hq2] at h;exact h)) ?_)
       rintro v68 w68 ⟨x68,rfl⟩
       refine ai E (bo E E bu (aE E E E (ag (ab (bf E (af (aa (ac E E (ag (ab (au (a6 (az (az (a6 (az (aA E E ?_)))))))))))))))))
       exact⟨_,rfl,(((eM.trans x11_3).trans x63).trans x68),by
        rw[cA (.inr (.inr (.inr (.inl (en (by omega) (.inr (.inr (gE (p:=iN) (i:=j) (by omega) hlm (by
         rw[←heq]
         unfold iN
         first
         |(rw[hq1];rfl)
         |(rw[hq2,Bool.and_false]))))))))))]
        rfl⟩
      ·refine aa ?_
       obtain⟨a59,c59,p59,q59,h59⟩:=cf (P:=Tryz.prog) (sz:=6) Mi (by kernel_rfl) cG (by omega) (hl.ext eM) (i:=j) (by omega) .i64
       rw[←heq] at h59
       obtain⟨x59_0,x59_1,x59_2,rfl,f59_0,f59_1,f59_2⟩:=fH h59
       refine ax E E E (p59 _) (ak E E (q59.ld Mk E (by kernel_rfl)) ?_)
       obtain⟨g6,w6,hr6,l6,x6,k6⟩:=aX (P:=Tryz.prog) (w:=wM) (t:=173) (z:=.agg #[I 0,B false,B false,.slice none 0 0,.slice none 0 0,.slice none 0 0]) (l:=[I 0,B false,B false,.slice none 0 0,.slice none 0 0,.slice none 0 0]) (by kernel_rfl) rfl
       refine aV E hr6 ?_
       obtain⟨w11_3,s11_3,q11_3,k11_3⟩:=k6.stS (P:=Tryz.prog) (t:=173) (m:=[I eq.un,B eq.up,B eq.va.1,x59_0,x59_1,x59_2]) rfl (by kernel_rfl) (aw.cons rfl (aw.cons rfl (aw.cons rfl (aw.cons f59_0.one (aw.cons f59_1.one (aw.cons f59_2.one aw.nil))))))
       refine aq E E s11_3 ?_
       have x11_3:=aN.of_new (x6) q11_3 l6
       refine ag (ab (af (aa (ah rfl rfl (ar (o:=2) Tryz.underlying173 rfl (by kernel_rfl) rfl) (ak rfl rfl (k11_3.ldO (ms:=[B eq.va.1,x59_0,x59_1]) (o:=2) (fun j v hj=>by rcases j with _|_|_|_|_|_|_|_|_|j<;>simp_all) Tryz.underlying46 rfl (by kernel_rfl)) ?_)))))
       refine an fp E E ((by have h:=iz (q:=eq.va) (f59_0.ext x11_3) (f59_1.ext x11_3) (sl eq hmm).1;rw[hq1] at h;exact h)) ?_
       rintro v63 w63 ⟨x63,rfl⟩
       refine bo E E bu (ae E E (ai E (ah E E (ar (o:=5) Mk E (by kernel_rfl) E) (ai E (ak E E (aj Mj E (x63.cell_some (k11_3.cell (i:=5) E))) ?_)))))
       refine ai E (an td E E ((by have h:=te (f59_2.ext (x11_3.trans x63)) (sl eq hmm).2;rw[hq2] at h;exact h)) ?_)
       rintro v68 w68 ⟨x68,rfl⟩
       refine ai E (bo E E bu (aE E E E (ag (ab (cp E (aC (aS (ab (aa (al (r:=I ((j+1:Nat):Int)) E E E (by have e:((j+1:Nat):Int)=(j:Int)+1:=(by omega);rw[e];exact aP (by omega) (by omega)) ?_))))))))))
       refine ae E E (ag ?_)
       refine bT (j+1) ⟨rfl,rfl,rfl,rfl,trivial⟩ ⟨(((eM.trans x11_3).trans x63).trans x68),(((e1M.trans x11_3).trans x63).trans x68),by omega,rt (p:=iN) (by omega) hlm (by rw[←heq];unfold iN;rw[hq1,hq2];rfl)⟩ (by omega)
      ·refine aa ?_
       obtain⟨a59,c59,p59,q59,h59⟩:=cf (P:=Tryz.prog) (sz:=6) Mi (by kernel_rfl) cG (by omega) (hl.ext eM) (i:=j) (by omega) .i64
       rw[←heq] at h59
       obtain⟨x59_0,x59_1,x59_2,rfl,f59_0,f59_1,f59_2⟩:=fH h59
       refine ax E E E (p59 _) (ak E E (q59.ld Mk E (by kernel_rfl)) ?_)
       obtain⟨g6,w6,hr6,l6,x6,k6⟩:=aX (P:=Tryz.prog) (w:=wM) (t:=173) (z:=.agg #[I 0,B false,B false,.slice none 0 0,.slice none 0 0,.slice none 0 0]) (l:=[I 0,B false,B false,.slice none 0 0,.slice none 0 0,.slice none 0 0]) (by kernel_rfl) rfl
       refine aV E hr6 ?_
       obtain⟨w11_3,s11_3,q11_3,k11_3⟩:=k6.stS (P:=Tryz.prog) (t:=173) (m:=[I eq.un,B eq.up,B eq.va.1,x59_0,x59_1,x59_2]) rfl (by kernel_rfl) (aw.cons rfl (aw.cons rfl (aw.cons rfl (aw.cons f59_0.one (aw.cons f59_1.one (aw.cons f59_2.one aw.nil))))))
       refine aq E E s11_3 ?_
       have x11_3:=aN.of_new (x6) q11_3 l6
       refine ag (ab (af (aa (ah rfl rfl (ar (o:=2) Tryz.underlying173 rfl (by kernel_rfl) rfl) (ak rfl rfl (k11_3.ldO (ms:=[B eq.va.1,x59_0,x59_1]) (o:=2) (fun j v hj=>by rcases j with _|_|_|_|_|_|_|_|_|j<;>simp_all) Tryz.underlying46 rfl (by kernel_rfl)) ?_)))))
       refine an fp E E ((by have h:=iz (q:=eq.va) (f59_0.ext x11_3) (f59_1.ext x11_3) (sl eq hmm).1;rw[hq1] at h;exact h)) ?_
       rintro v63 w63 ⟨x63,rfl⟩
       refine bo E E bu (ae E E (ao E E E (ao E E E (ao E E E (ao E E E (ap E E E (ag (ab (bf E (af (aa (ac E E ?_))))))))))))
       refine ag (ab (au (a6 (az (az (a6 (az (aA E E ?_))))))))
       exact⟨_,rfl,((eM.trans x11_3).trans x63),by
        rw[cA (.inr (.inr (.inr (.inl (en (by omega) (.inr (.inr (gE (p:=iN) (i:=j) (by omega) hlm (by
         rw[←heq]
         unfold iN
         first
         |(rw[hq1];rfl)
         |(rw[hq2,Bool.and_false]))))))))))]
        rfl⟩
     ·refine bg (aJ (aJ (bh (ab (af ?_)))))
      have hla:=nJ (p:=iN) (l:=u.leaf.lems) (i:=j) (by omega) hlm
      refine aa (ah E E (ar (o:=1) L8 E (by kernel_rfl) E) (ah E E (cK (b:=1) (o:=1) L6 E (by kernel_rfl) E) ?_))
      refine ah rfl rfl (cK (b:=2) (o:=2) Tryz.underlying48 rfl (by kernel_rfl) rfl) (ak rfl rfl ((k1.ext e1M).ldO (ms:=[B u.leaf.split.at_.1,x,y]) (o:=4) (fun j v hj=>by rcases j with _|_|_|_|_|_|_|_|_|j<;>simp_all) Tryz.underlying46 rfl (by kernel_rfl)) ?_)
      refine an fp E E ((iz (q:=u.leaf.split.at_) (hx.ext eM) (hy.ext eM) sd)) ?_
      rintro v76 w76 ⟨x76,rfl⟩
      refine ac E E (ag (ab (au (aA E E ?_))))
      exact⟨_,rfl,(eM.trans x76),by
       congr 1
       cases hc:fI u.leaf.split.at_ with
       |false=>exact(cA (.inr (.inr (.inr (.inl (en (by omega) (.inl hc))))))).symm
       |true=>exact(zp (by omega) (by omega) hv1 (AI (by omega) hc hv2 hla) hpa).symm⟩
 ·refine aa (ah E E (ar (o:=0) L8 E (by kernel_rfl) E) (ak E E (aj Mg E (k1.cell (i:=0) E)) ?_))
  refine aQ E E (be Mg (hd.ext x1)) (al E E E (bU) (ae E E ?_))
  refine cb (fun h11=>?_) (fun h11=>?_)
  ·refine ao E E E (ao E E E (ao E E E (ao E E E (ao E E E (ap E E E (ae E E (ao E E E (ao E E E (ao E E E ?_)))))))))
   refine ao E E E (ap E E E (ae E E (ao E E E (ao E E E (ao E E E (ao E E E (ao E E E (ap E E E (ag ?_)))))))))
   refine ab (bf E (af (aa (ac E E (ag (ab (au (az (aA E E ?_)))))))))
   exact⟨_,rfl,x1,by
    rw[cA (by
     first
     |exact .inl (by omega)
     |exact .inr (.inl (by omega))
     |exact .inr (.inr (.inl hv1))
     |exact .inr (.inr (.inr (.inl (en (by omega) (.inr (.inl hv2)))))))]
    rfl⟩
  ·refine ai E (ah E E (ar (o:=1) L8 E (by kernel_rfl) E) (ai E (ah E E (cK (b:=1) (o:=6) L6 E (by kernel_rfl) E) ?_)))
   refine ai E (ak E E (aj Mh E (k1.cell (i:=7) E)) (ai E (aQ E E (be Mh (hk.ext x1)) ?_)))
   refine ai E (al E E E (bU) (aE E E E (ae E E ?_)))
   refine cb (fun h18=>?_) (fun h18=>?_)
   ·refine ao E E E (ao E E E (ao E E E (ao E E E (ap E E E (ae E E (ao E E E (ao E E E (ao E E E (ao E E E ?_)))))))))
    refine ao E E E (ap E E E (ag (ab (bf E (af (aa (ac E E (ag (ab (au (az (aA E E ?_))))))))))))
    exact⟨_,rfl,x1,by
     rw[cA (by
      first
      |exact .inl (by omega)
      |exact .inr (.inl (by omega))
      |exact .inr (.inr (.inl hv1))
      |exact .inr (.inr (.inr (.inl (en (by omega) (.inr (.inl hv2)))))))]
     rfl⟩
   ·refine ai rfl (ah rfl rfl (ar (o:=1) Tryz.underlying54 rfl (by kernel_rfl) rfl) (ai rfl (ak rfl rfl (k1.ldO (ms:=[vl,I u.leaf.split.kd,I u.leaf.split.ix,B u.leaf.split.at_.1,x,y,vk,B u.leaf.empty,vp]) (o:=1) (fun j v hj=>by rcases j with _|_|_|_|_|_|_|_|_|j<;>simp_all) Tryz.underlying52 rfl (by kernel_rfl)) ?_)))
    refine ai E (an gx E E ((by have h:=mS (n:=u.leaf) (hl.ext x1) (hx.ext x1) (hy.ext x1) (hk.ext x1) (hp.ext x1);rw[hv1] at h;exact h)) ?_)
    rintro v21 w21 ⟨x21,rfl⟩
    refine ai E (bo E E bu (aE E E E (ae E E (ao E E E (ao E E E (ao E E E (ao E E E (ao E E E (ap E E E ?_)))))))))
    refine ag (ab (bf E (af (aa (ac E E (ag (ab (au (az (aA E E ?_))))))))))
    exact⟨_,rfl,(x1.trans x21),by
     rw[cA (by
      first
      |exact .inl (by omega)
      |exact .inr (.inl (by omega))
      |exact .inr (.inr (.inl hv1))
      |exact .inr (.inr (.inr (.inl (en (by omega) (.inr (.inl hv2)))))))]
     rfl⟩
end Go.Rl
namespace Go.Rl
open Go.RowKit Go.Proofs
theorem pY:aG Tryz.prog 46:=⟨_,Tryz.func46,by kernel_rfl,rfl⟩
theorem DE:aG Tryz.prog 33:=⟨_,Tryz.func33,by kernel_rfl,rfl⟩
theorem Cg:aG Tryz.prog 15:=⟨_,Tryz.func15,by kernel_rfl,rfl⟩
theorem pZ {w:World} {b:List UInt8} {v:Value} {k:Nat} (hb:cn b v w) (hk:k≤1099511627776):
 Calls Tryz.prog 46 #[v,I (k:Int)] w (bE fun r w'=>aN w w'∧r=B (eU b k)):=by
 refine enter (vs:=[v,I (k:Int)]) Tryz.func46 E E E ?_
 refine af (aa (ac E E (ag (ab (af (af (aa (ae E E (al E E E (bc) (ae E E ?_))))))))))
 refine cb (fun h7=>?_) (fun h7=>?_)
 ·refine ao E E E (ao E E E (ao E E E (ao E E E (ao E E E (ap E E E (ag (ab (bf E (af (aa (ac E E (ag ?_))))))))))))
  refine ab (au (az (aA E E ?_)))
  exact⟨_,rfl,aN.refl _,by
   unfold eU
   rw[decide_eq_false (by omega:¬k+8≤b.length)];rfl⟩
 ·refine ai E (ae E E (ai E (al (r:=I ((k+8:Nat):Int)) E E E (by have e:((k+8:Nat):Int)=(k:Int)+8:=(by omega);rw[e];exact aP (by omega) (by omega)) ?_)))
  refine ai E (ae E E (ai E (aQ E E (cM hb) (ai E (al E E E (bU) (aE E E E (ag (ab ?_))))))))
  refine bw E (fun h13=>?_) (fun h13=>?_)
  ·refine af (aa (ac E E (ag (ab (au (az (aA E E ?_)))))))
   exact⟨_,rfl,aN.refl _,by
    unfold eU
    rw[decide_eq_false (by omega:¬k+8≤b.length)];rfl⟩
  ·refine aC (ab (af (bO 11 [24] (by kernel_rfl) (by kernel_rfl) ?_)))
   refine aD E E (aD E E ?_)
   obtain⟨v16,p16,b16⟩:=iU hb (hi:=k) (by omega) .i64
   refine jt rfl rfl rfl rfl (fun w _=>p16 w) (ca (S:=cn (Cf (b.take k))) pm (cn.stable _) rfl (fun w hw=>by rintro _ rfl;exact bE.mono (pn (b16.ext hw) (by simp;omega)) fun v w' h=>⟨h.1,h.2.bts⟩) ?_)
   refine DW E (cd.is _) E (fun w v hw hv=>⟨_,w,mi hv,aN.refl _,rfl⟩) (aD E E (aD E E (bb (r:=I ((k+8:Nat):Int)) E E E (fun w _=>by have e:((k+8:Nat):Int)=(k:Int)+8:=(by omega);rw[e];exact aP (by omega) (by omega)) ?_)))
   obtain⟨v22,p22,b22⟩:=iU hb (hi:=k+8) (by omega) .i64
   refine jt E E E E (fun w _=>p22 w) (dy E E (fun w hw=>mi (b22.ext hw)) (bb E E E (fun w _=>zO) (cq ?_)))
   intro wg3 xg3
   rintro _ rfl
   refine ac E E (ag (ab (au (aA E E ?_))))
   exact⟨_,rfl,xg3,by
    unfold eU
    rw[decide_eq_true (by omega:k+8≤b.length)]
    simp⟩
theorem DF {w:World} {l m:List bV} {v u:Value} (hv:cu dm l v w) (hu:cu dm m u w):
 Calls Tryz.prog 33 #[v,u] w (bE fun r w'=>aN w w'∧r=B (decide (l=m))):=by
 refine enter (vs:=[v,u]) Tryz.func33 E E E ?_
 have hll:=hv.len
 have hml:=hu.len
 refine af (aa (ac E E (ag (ab (af (af (aa (ae E E (aQ E E (be Mg hv) (ae E E (aQ E E (be Mg hu) ?_)))))))))))
 refine al E E E (cC) (ag (ab ?_))
 refine bw E (fun h10=>?_) (fun h10=>?_)
 ·refine af (aa (ac E E (ag (ab (au (az (aA E E ?_)))))))
  exact⟨_,rfl,aN.refl _,by rw[decide_eq_false (fun h=>by rw[h] at h10;exact h10 rfl)];rfl⟩
 ·refine aC (ab (af (af (aa (ac E E (ag (ab (aH ?_))))))))
  refine cm (α:=Nat) (fun i=>[(0,v),(1,u),(5,I (i:Int))]) (fun i w'=>aN w w'∧i≤l.length∧l.take i=m.take i) (fun i=>l.length-i) (0) ⟨rfl,rfl,rfl,trivial⟩ ⟨aN.refl _,by omega,rfl⟩ ?_
  rintro i wL ⟨eL,hi,hall⟩
  refine af (af (aa (ae E E (ae E E (aQ E E (be Mg (hv.ext eL)) (al E E E (bc) (ag (ab ?_))))))))
  refine bw E (fun h14=>?_) (fun h14=>?_)
  ·refine aC (ab (af (aH (af (bO 9 [0,1,5,25] (by kernel_rfl) (by kernel_rfl) ?_)))))
   refine aD E E (aD E E ?_)
   obtain⟨a19,c19,p19,q19,h19⟩:=cf (P:=Tryz.prog) (sz:=5) Mg (by kernel_rfl) ci (by omega) (hv.ext eL) (i:=i) (by omega) .i64
   obtain⟨e19,he19⟩:∃e,e=l[i]'(by omega):=⟨_,rfl⟩
   rw[←he19] at h19
   obtain⟨x19_0,x19_1,rfl,f19_0,f19_1⟩:=gy h19
   refine aF E E E (fun w _=>p19 w) (aO E E (fun w hw=>(q19.ext hw).ld Ma E (by kernel_rfl)) (aD E E ?_))
   refine aD E E ?_
   obtain⟨a23,c23,p23,q23,h23⟩:=cf (P:=Tryz.prog) (sz:=5) Mg (by kernel_rfl) ci (by omega) (hu.ext eL) (i:=i) (by omega) .i64
   obtain⟨e23,he23⟩:∃e,e=m[i]'(by omega):=⟨_,rfl⟩
   rw[←he23] at h23
   obtain⟨x23_0,x23_1,rfl,f23_0,f23_1⟩:=gy h23
   refine aF rfl rfl rfl (fun w _=>p23 w) (aO rfl rfl (fun w hw=>(q23.ext hw).ld Ma rfl (by kernel_rfl)) (ca (S:=Is (B (decide (e19=e23)))) tT (cd.is _) rfl (fun w hw=>by rintro _ rfl _ rfl;exact tW (a:=e19) (b:=e23) (f19_0.ext hw) (f19_1.ext hw) (f23_0.ext hw) (f23_1.ext hw)) ?_))
   refine cq ?_
   intro wg6 xg6
   rintro _ hq0
   obtain rfl:=Eq.symm hq0
   rintro _ hq1
   obtain rfl:=Eq.symm hq1
   rintro _ rfl
   rintro _ rfl
   refine bo E E bu (ag (ab ?_))
   refine fQ E (fun h26=>?_) (fun h26=>?_)
   ·refine af (aa (ac E E (ag (ab (au (a6 (az (az (a6 (az (aA E E ?_)))))))))))
    exact⟨_,rfl,(eL.trans xg6),by
     rw[decide_eq_false (fun h=>by
      subst h
      have e:=he19.trans he23.symm
      rw[e] at h26
      simp at h26)]
     rfl⟩
   ·refine aC (aS (ab (aa (ae E E (al (r:=I ((i+1:Nat):Int)) E E E (by have e:((i+1:Nat):Int)=(i:Int)+1:=(by omega);rw[e];exact aP (by omega) (by omega)) ?_)))))
    refine ac E E (ag ?_)
    refine bT (i+1) ⟨rfl,rfl,rfl,trivial⟩ ⟨(eL.trans xg6),by omega,by
     have h:e19=e23:=by simpa using h26
     rw[List.take_add_one,List.take_add_one,hall,List.getElem?_eq_getElem (by omega),List.getElem?_eq_getElem (by omega),←he19,←he23,h]⟩ (by omega)
  ·refine bg (aJ (aJ (bh (ab (af (aa (ac E E (ag (ab (au (aA E E ?_)))))))))))
   exact⟨_,rfl,eL,by
    rw[List.take_of_length_le (by omega),List.take_of_length_le (by omega)] at hall
    rw[decide_eq_true hall];rfl⟩
theorem Ch {w:World} {l:List bR} {v u:Value} (hv:cu i0 l v w) (hu:cu i0 l u w):
 Calls Tryz.prog 15 #[v,u] w (bE fun r w'=>aN w w'∧r=B true):=by
 refine enter (vs:=[v,u]) Tryz.func15 E E E ?_
 have hll:=hv.len
 refine af (aa (ac E E (ag (ab (af (af (aa (ae E E (aQ E E (be Mp hv) (ae E E (aQ E E (be Mp hu) ?_)))))))))))
 refine al E E E (cC) (ag (ab ?_))
 refine bw E (fun h10=>?_) (fun h10=>?_)
 ·refine af (aa (ac E E (ag (ab (au (az (aA E E ?_)))))))
  exact absurd rfl h10
 ·refine aC (ab (af (af (aa (ac E E (ag (ab (aH ?_))))))))
  refine cm (α:=Nat) (fun i=>[(0,v),(1,u),(5,I (i:Int))]) (fun i w'=>aN w w'∧i≤l.length) (fun i=>l.length-i) (0) ⟨rfl,rfl,rfl,trivial⟩ ⟨aN.refl _,by omega⟩ ?_
  rintro i wL ⟨eL,hi⟩
  refine af (af (aa (ae E E (ae E E (aQ E E (be Mp (hv.ext eL)) (al E E E (bc) (ag (ab ?_))))))))
  refine bw E (fun h14=>?_) (fun h14=>?_)
  ·refine aC (ab (af (aH (af (bO 25 [0,1,5,29,41] (by kernel_rfl) (by kernel_rfl) ?_)))))
   refine aD (S:=Is (v)) E E (aD (S:=Is (I (i:Int))) E E ?_)
   obtain⟨a19,c19,p19,q19,h19⟩:=cf (P:=Tryz.prog) (sz:=10) Mp (by kernel_rfl) cR (by omega) (hv.ext eL) (i:=i) (by omega) .i64
   obtain⟨e19,he19⟩:∃e,e=l[i]'(by omega):=⟨_,rfl⟩
   rw[←he19] at h19
   obtain⟨x19_0,x19_1,x19_2,x19_3,x19_4,x19_5,rfl,f19_0,f19_1,f19_2,f19_3,f19_4,f19_5⟩:=gQ h19
   refine aF E E E (fun w _=>p19 w) (aW E E (fun w hw=>gU (o:=0) L8 E (by kernel_rfl) E) ?_)
   refine aO E E (fun w hw=>aj Mg E (hw.cell_some (q19.at (j:=0) E))) (aD (S:=Is (u)) E E (aD (S:=Is (I (i:Int))) E E ?_))
   obtain⟨a24,c24,p24,q24,h24⟩:=cf (P:=Tryz.prog) (sz:=10) Mp (by kernel_rfl) cR (by omega) (hu.ext eL) (i:=i) (by omega) .i64
   obtain⟨e24,he24⟩:∃e,e=l[i]'(by omega):=⟨_,rfl⟩
   rw[←he24] at h24
   obtain⟨x24_0,x24_1,x24_2,x24_3,x24_4,x24_5,rfl,f24_0,f24_1,f24_2,f24_3,f24_4,f24_5⟩:=gQ h24
   refine aF E E E (fun w _=>p24 w) (aW E E (fun w hw=>gU (o:=0) L8 E (by kernel_rfl) E) ?_)
   refine aO rfl rfl (fun w hw=>aj Mg rfl (hw.cell_some (q24.at (j:=0) rfl))) (ca (S:=Is (B true)) DE (cd.is _) rfl (fun w hw=>by rintro _ rfl _ rfl;exact bE.mono (DF (l:=l[i].path) (m:=l[i].path) (he19▸f19_0.ext hw) (he24▸f24_0.ext hw)) fun v w' h=>⟨h.1,by rw[h.2,decide_eq_true rfl];rfl⟩) ?_)
   refine vw E E (fun w _=>bu) (aD (S:=Is (B false)) E E (bz E E (aD (S:=Is (v)) E E (bz E E (aD (S:=Is (I (i:Int))) E E ?_)))))
   refine bz E E ?_
   obtain⟨a32,c32,p32,q32,h32⟩:=cf (P:=Tryz.prog) (sz:=10) Mp (by kernel_rfl) cR (by omega) (hv.ext eL) (i:=i) (by omega) .i64
   obtain⟨e32,he32⟩:∃e,e=l[i]'(by omega):=⟨_,rfl⟩
   rw[←he32] at h32
   obtain⟨x32_0,x32_1,x32_2,x32_3,x32_4,x32_5,rfl,f32_0,f32_1,f32_2,f32_3,f32_4,f32_5⟩:=gQ h32
   refine aF E E E (fun w _=>p32 w) (bz E E (aW E E (fun w hw=>gU (o:=1) L8 E (by kernel_rfl) E) ?_))
   refine bz rfl rfl (aO rfl rfl (fun w hw=>(q32.ext hw).ldO (ms:=[x32_1,I e32.leaf.split.kd,I e32.leaf.split.ix,B e32.leaf.split.at_.1,x32_2,x32_3,x32_4,B e32.leaf.empty,x32_5]) (o:=1) (fun j v hj=>by rcases j with _|_|_|_|_|_|_|_|_|j<;>simp_all) Tryz.underlying52 rfl (by kernel_rfl)) ?_)
   refine bz E E (aD (S:=Is (u)) E E (bz E E (aD (S:=Is (I (i:Int))) E E (bz E E ?_))))
   obtain⟨a37,c37,p37,q37,h37⟩:=cf (P:=Tryz.prog) (sz:=10) Mp (by kernel_rfl) cR (by omega) (hu.ext eL) (i:=i) (by omega) .i64
   obtain⟨e37,he37⟩:∃e,e=l[i]'(by omega):=⟨_,rfl⟩
   rw[←he37] at h37
   obtain⟨x37_0,x37_1,x37_2,x37_3,x37_4,x37_5,rfl,f37_0,f37_1,f37_2,f37_3,f37_4,f37_5⟩:=gQ h37
   refine aF E E E (fun w _=>p37 w) (bz E E (aW E E (fun w hw=>gU (o:=1) L8 E (by kernel_rfl) E) ?_))
   refine bz rfl rfl (aO rfl rfl (fun w hw=>(q37.ext hw).ldO (ms:=[x37_1,I e37.leaf.split.kd,I e37.leaf.split.ix,B e37.leaf.split.at_.1,x37_2,x37_3,x37_4,B e37.leaf.empty,x37_5]) (o:=1) (fun j v hj=>by rcases j with _|_|_|_|_|_|_|_|_|j<;>simp_all) Tryz.underlying52 rfl (by kernel_rfl)) ?_)
   refine bz rfl rfl (ca (S:=Is (B true)) BX (cd.is _) rfl (fun w hw=>by rintro _ rfl _ rfl;obtain rfl:e37=e32:=he37.trans he32.symm;exact BZ _ (Nat.le_refl _) (f32_1.ext hw) (f32_2.ext hw) (f32_3.ext hw) (f32_4.ext hw) (f32_5.ext hw) (f37_1.ext hw) (f37_2.ext hw) (f37_3.ext hw) (f37_4.ext hw) (f37_5.ext hw)) ?_)
   refine bz E E (vw E E (fun w _=>bu) (cq ?_))
   intro wg6 xg6
   rintro _ hq0
   obtain rfl:=Eq.symm hq0
   rintro _ hq1
   obtain rfl:=Eq.symm hq1
   rintro _ rfl
   rintro _ rfl
   rintro _ rfl
   refine aE E E E (ag (ab (cp E (aC (aS (ab (aa (ae E E (al (r:=I ((i+1:Nat):Int)) E E E (by have e:((i+1:Nat):Int)=(i:Int)+1:=(by omega);rw[e];exact aP (by omega) (by omega)) ?_)))))))))
   refine ac E E (ag ?_)
   refine bT (i+1) ⟨rfl,rfl,rfl,trivial⟩ ⟨(eL.trans xg6),by omega⟩ (by omega)
  ·refine bg (aJ (aJ (bh (ab (af (aa (ac E E (ag (ab (au (aA E E ?_)))))))))))
   exact⟨_,rfl,eL,rfl⟩
end Go.Rl
namespace Go.Rl
open Go.RowKit Go.Proofs
theorem Ci:aG Tryz.prog 50:=⟨_,Tryz.func50,by kernel_rfl,rfl⟩
theorem Gg {l t:List UInt8} {d:bV} (h:oh l=some (d,t)) (hl:l.length≤4294967296):sQ d.at_:=by
 unfold oh at h
 obtain⟨p1,h1,h⟩:=Option.bind_eq_some_iff.1 h
 obtain⟨p2,h2,h⟩:=Option.bind_eq_some_iff.1 h
 obtain⟨p3,h3,h⟩:=Option.bind_eq_some_iff.1 h
 cases h
 have l1:=eO.le l _ _ h1
 have l2:=eO.le p1.2 _ _ h2
 exact pV h3 (by omega)
theorem rG {l t:List UInt8} {u:bR} (h:lr l=some (u,t)) (hl:l.length≤4294967296):Ip u:=by
 unfold lr at h
 obtain⟨p1,h1,h⟩:=Option.bind_eq_some_iff.1 h
 obtain⟨p2,h2,h⟩:=Option.bind_eq_some_iff.1 h
 cases h
 have l1:=(tN nB.le).le l _ _ h1
 exact⟨ry nB.le (fun _ _ _ h hl=>Gg h hl) h1 hl,rz p1.2.length p1.2 _ _ h2 (by omega)⟩
def LZ (base:Nat) (b:List UInt8) (r:Value) (w':World):Prop:=∃(u:bR) (cs:List Value) (ok:Bool),r=.tuple #[.agg cs.toArray,B ok]∧cL (fun k=>k<base) w' (i0 u) cs∧aw cs∧(ok=true→iy b=some u)∧(ok=false→iy b=none)
theorem i5 {X:Nat→Prop} {w:World} {u:bR} {v:Value} {cs:List Value} (h1:cL X w (.sl (u.path.map dm)) [v]) (h2:cL X w (bH u.leaf) cs):cL X w (i0 u) (v::cs):=by
 unfold i0
 simp only[cL.eq_5]
 have:=aT.cons (a:=[v]) h1 (aT.cons (a:=cs) h2 aT.nil)
 simpa using this
def Iq:aZ:=.mk [] lq [] false []
theorem vh {X:Nat→Prop} {w:World}:cL X w (bH Iq) [.slice none 0 0,I 0,I 0,B false,.slice none 0 0,.slice none 0 0,.slice none 0 0,B false,.slice none 0 0]:=er (ls:=[]) (d:=lq) (ks:=[]) (em:=false) (ps:=[]) jT jz jT jT
abbrev Cj:List Value:=[.slice none 0 0,I 0,I 0,B false,.slice none 0 0,.slice none 0 0,.slice none 0 0,B false,.slice none 0 0]
section
variable {P:Program} {ops:Array Oper} {Q:iR} {N:Nat} {D:List Deferred} {S:World→Prop} {fuel:Nat} {listed:Array Bool} {l:Fr} {w:World} {d:Nat} {ty:TypeId} {pos:String} {aft:Array Edge}
theorem EO (i:Nat) {c x y:Operand} {u:Value} (hi:ops[i]? =some ⟨some d,.pick c x y,ty,pos,aft,none⟩) (hc:ev l c=some (.bool true)) (hx:ev l x=some u) (hB:nt ops listed i=true) (hd:Nat.blt d N=true) (hS:S w)
 (k:dx P ops Q N D S fuel (listed.setIfInBounds i true) ((d,u)::l) w):dx P ops Q N D S (fuel+1) listed l w:=
 yx i hi hB hd hS (fun ρ w' hρ _=>by simp[execOp,hρ c _ hc,asBool,hρ x _ hx]) k
theorem p7 (i:Nat) {c x y:Operand} {v:Value} (hi:ops[i]? =some ⟨some d,.pick c x y,ty,pos,aft,none⟩) (hc:ev l c=some (.bool false)) (hy:ev l y=some v) (hB:nt ops listed i=true) (hd:Nat.blt d N=true) (hS:S w)
 (k:dx P ops Q N D S fuel (listed.setIfInBounds i true) ((d,v)::l) w):dx P ops Q N D S (fuel+1) listed l w:=
 yx i hi hB hd hS (fun ρ w' hρ _=>by simp[execOp,hρ c _ hc,asBool,hρ y _ hy]) k
end
theorem AJ {P:Program} {w:World} {t:TypeId} {x y:Operand}:(bin .eql t x y (I (if some ([]:List UInt8)=some [] then 0 else 5)) (I 0)).run P w=.ok (B true) w:=HH (l:=[])
theorem EP {P:Program} {w:World} {t:TypeId} {x y:Operand} {c:UInt8} {l:List UInt8}:(bin .eql t x y (I (if some (c::l)=some [] then 0 else 5)) (I 0)).run P w=.ok (B false) w:=by
 have h:=HH (P:=P) (w:=w) (t:=t) (x:=x) (y:=y) (l:=c::l)
 rwa [decide_eq_false (by simp)] at h
theorem xL {b l l7:List UInt8} {ds:List bV} {nd:aZ} (h1:fK (dn oh) (some b) ds (some l)) (h2:gW l=some (nd,l7)):lr b=some (⟨ds,nd⟩,l7):=by
 have h1':dn oh b=some (ds,l):=h1
 unfold lr
 rw[h1']
 show(gW l).bind _=_
 rw[h2];rfl
theorem DG {b:List UInt8} {ds:List bV} (h1:fK (dn oh) (some b) ds none):iy b=none:=by
 have h1':dn oh b=none:=h1
 unfold iy lr
 rw[h1'];rfl
theorem DH {b l:List UInt8} {ds:List bV} (h1:fK (dn oh) (some b) ds (some l)) (h2:gW l=none):iy b=none:=by
 have h1':dn oh b=some (ds,l):=h1
 have h3:lr b=none:=by
  unfold lr
  rw[h1']
  show(gW l).bind _=_
  rw[h2];rfl
 unfold iy
 rw[h3]
theorem DI {b l7:List UInt8} {u:bR} {c:UInt8} (h:lr b=some (u,c::l7)):iy b=none:=by
 unfold iy
 rw[h]
theorem Ck {b:List UInt8} {u:bR} (h:lr b=some (u,[])) (hv:cX u=false):iy b=none:=by
 unfold iy
 rw[h]
 exact if_neg (by rw[hv];simp)
theorem Cl {w:World} {b:List UInt8} {v:Value} (hv:cn b v w) (hl:b.length≤4294967296):
 Calls Tryz.prog 50 #[v] w (bE fun r w'=>aN w w'∧LZ w.heap.size b r w'):=by
 refine enter (vs:=[v]) Tryz.func50 E E E ?_
 obtain⟨N,s1,qU,hN,cU⟩:=Ah (some b)
 have hb:iL (some b):=fun l e=>by cases e;omega
 refine af (aa ?_)
 obtain⟨g2,w2,hr2,l2,x2,k2⟩:=aX (P:=Tryz.prog) (w:=w) (t:=54) (z:=.agg #[.slice none 0 0,.slice none 0 0,I 0,I 0,B false,.slice none 0 0,.slice none 0 0,.slice none 0 0,B false,.slice none 0 0]) (l:=[.slice none 0 0,.slice none 0 0,I 0,I 0,B false,.slice none 0 0,.slice none 0 0,.slice none 0 0,B false,.slice none 0 0]) (by kernel_rfl) rfl
 refine aV E hr2 (ac E E (ag (ab (af (aa (ae E E (an pE E E ((pG (hv.ext x2) (by omega))) ?_)))))))
 rintro v11 w11 ⟨x11,g,lg,rfl,hr11⟩
 refine ac E E (ag (ab (af (aa (ae E E (an fw E E ((cU hr11)) ?_))))))
 rintro v14 w14 ⟨g14,rfl,hr14⟩
 have m14:=eo.kp hr11 g14
 have hl1:∀l,s1=some l→l.length≤b.length:=fun l e=>by
  have h:=qU
  rw[e] at h
  exact lL.le b _ _ h
 have hgl:=cv.lt hr11
 have hg2:g2<g:=by have:=k2.lt;omega
 refine ae E E (am E E (bj) (am E E (bk) (ac E E (ac E E (ag (ab (af (aa ?_))))))))
 obtain⟨g7,w7,hr7,l7,x7,k7⟩:=aX (P:=Tryz.prog) (w:=w14) (t:=54) (z:=.agg #[.slice none 0 0,.slice none 0 0,I 0,I 0,B false,.slice none 0 0,.slice none 0 0,.slice none 0 0,B false,.slice none 0 0]) (l:=[.slice none 0 0,.slice none 0 0,I 0,I 0,B false,.slice none 0 0,.slice none 0 0,.slice none 0 0,B false,.slice none 0 0]) (by kernel_rfl) rfl
 refine aV E hr7 ?_
 have m27:Mv (RX g) w2 w7:=((Mv.of_ext x11).trans (Mv.of_grown g14 fun k hk _=>(Option.some.inj hk).symm) fun _ h _=>h).trans (Mv.of_ext x7) fun _ h _=>h
 have k27:=m27.blk k2 (fun e=>by have:g2=g:=e;omega)
 have hr7:=cv.ext hr14 x7
 have hg7:g<g7:=by have:=g14.size;omega
 refine ag (ab (af (aa (ae E E (al (r:=B s1.isSome) E E E (Ai) (ac E E (ag (ab (af (aH ?_))))))))))
 refine jv (fun(k:Nat) (v:Value) (so:Option (List UInt8)) (ds:List bV)=>[(2,.pointer (some ⟨g2,0,none⟩)),(4,.pointer (some ⟨g,0,none⟩)),(5,bI (UInt64.ofNat N)),(7,.pointer (some ⟨g7,0,none⟩)),(8,B so.isSome)]) (fun(k:Nat) (v:Value) (so:Option (List UInt8)) (ds:List bV) w'=>Mv (fun k=>k=g∨k=g7) w7 w'∧cv g so w'∧cr g7 54 (v::Cj) w'∧f9 48 5 w7.heap.size dm ds v w'∧k+ds.length=N∧s1.bind (bS oh N)=so.bind (fun l=>(bS oh k l).map fun p=>(ds++p.1,p.2))∧ds.length≤4294967299∧∀l,so=some l→l.length+ds.length≤4294967296) (fun(k:Nat) (v:Value) (so:Option (List UInt8)) (ds:List bV)=>k) (N) (.slice none 0 0) (s1) ([]) ⟨rfl,rfl,rfl,rfl,rfl,trivial⟩ ⟨Mv.refl _ _,hr7,k7,f9.nil _,by simp,rh,by simp,fun l e=>by have:=hl1 l e;simp;omega⟩ ?_
 rintro k v so ds wL ⟨mL,hrL,kL,oL,hk,hR,hql,hsl⟩
 refine af (af ?_)
 have rL:=oL.rpx ci (by omega)
 have dL:cu dm ds v wL:=rL.rp
 have hvo:v.oneCell'=true:=by obtain⟨_,_,_,rfl⟩:=oL.isS;rfl
 have hnl:ds.length<18446744073709551616:=by omega
 have sz7:=mL.size
 have lt7:=k7.lt
 have k2L:=mL.blk k27 (by rintro(h|h)<;>omega)
 rcases so with _|l
 rotate_left
 rcases Nat.eq_zero_or_pos k with h0|h0
 rotate_left
 ·refine aa (ae E E (ae E E (ai E (ah E E (ar (o:=0) L8 E (by kernel_rfl) E) (ai E ?_)))))
  refine ak E E (aj Mg E (kL.cell (i:=0) E)) (ai E (aQ E E (be Mg dL) ?_))
  refine ai E (aY E E (mO Mb Mc) (ai E (ae E E (ai E (al E E E (cw ((IN hnl hN).2 (by omega)) gH) ?_)))))
  refine ap E E E (ag (ab (bf E (aC (ab (aH (af (aa ?_))))))))
  obtain⟨g9,w9,hr9,l9,x9,k9⟩:=aX (P:=Tryz.prog) (w:=wL) (t:=48) (z:=.agg #[I 0,I 0,B false,.slice none 0 0,.slice none 0 0]) (l:=[I 0,I 0,B false,.slice none 0 0,.slice none 0 0]) (by kernel_rfl) rfl
  refine aV E hr9 (ag (ab (af ?_)))
  have hr9:=cv.ext hrL x9
  have e9:=x9
  have lt9:=k9.lt
  have szM9:=e9.size
  have hg9:g<g9:=by omega
  have hll:iL (some l):=fun l' e=>by cases e;have:=hsl l rfl;omega
  refine aa (ae E E (an yJ E E ((yL hr9 hll)) ?_))
  rintro v30 w30 ⟨m30,d,x,y,s6,rfl,rp30,hx1,hy1,hr30,q30⟩
  have m30:=m30
  have k9a:=m30.blk k9 (fun e=>by have:g9=g:=e;omega)
  have h1cs:aw [I d.kd,I d.ix,B d.at_.1,x,y]:=aw.cons rfl (aw.cons rfl (aw.cons rfl (aw.cons hx1 (aw.cons hy1 aw.nil))))
  obtain⟨wn,sn,qn,kn⟩:=k9a.stS (P:=Tryz.prog) (t:=48) (m:=[I d.kd,I d.ix,B d.at_.1,x,y]) rfl (by kernel_rfl) h1cs
  have mn:Mv (fun k=>k=g9) w30 wn:=Mv.of_grown qn fun k hk _=>(Option.some.inj hk).symm
  have rn:cv g s6 wn:=hr30.mv mn fun j hj=>by omega
  have mAll:Mv (RX g) wL wn:=((Mv.of_ext e9).trans m30 fun _ hj _=>hj).trans mn fun j hj hlt=>by omega
  have k7n:=mAll.blk kL (fun e=>by have:g7=g:=e;omega)
  have oN:=oL.mv mAll (fun j hj=>by have:j=g:=hj;omega)
  have rpn:=rp30.mv (mn.weak fun j hj _=>by show j<w9.heap.size;omega) fun _ hk=>.inl hk
  have own:∀j,v.ownBlock=some j→w7.heap.size≤j∧j<wL.heap.size:=oL.lt
  have hY:∀j,(j<w7.heap.size∨v.ownBlock=some j)→j<w9.heap.size:=fun j hj=>by
   rcases hj with hj|hj
   ·omega
   ·have:=(own j hj).2;omega
  obtain⟨x36,w36,v37,w37,hr36,hr37,o37,m37,n37⟩:=oN.push (ty:=41) (t:=41) Mg pg rfl (by omega) (by omega) (by omega) h1cs (rpn.weak fun j hj=>.inl (hY j hj)) ci (by omega) (Nat.le_trans sz7 mAll.size)
  have k7m:=m37.blk k7n (fun e=>by have:=own g7 e;omega)
  have hv37:v37.oneCell'=true:=by obtain⟨_,_,_,rfl⟩:=o37.isS;rfl
  obtain⟨wz,sz,qz,kz⟩:=k7m.stC (P:=Tryz.prog) (t:=41) (i:=0) (v:=v37) (by kernel_rfl) hv37 (by simp)
  have mz:Mv (fun k=>k=g7) w37 wz:=Mv.of_grown qz fun k hk _=>(Option.some.inj hk).symm
  refine ae E E (am E E (bj) (am E E (bk) ?_))
  refine aq E E sn ?_
  refine ac E E (ag (ab (aa (ah E E (ar (o:=0) L8 E (by kernel_rfl) E) (ak E E (aj Mg E (k7n.cell (i:=0) E)) ?_)))))
  refine ak E E (kn.ld Ma E (by kernel_rfl)) ?_
  refine aK (vs:=[(0,.agg #[I d.kd,I d.ix,B d.at_.1,x,y])]) E E hr36 ?_
  refine ba E E hr37 ?_
  refine ah E E (ar (o:=0) L8 E (by kernel_rfl) E) ?_
  refine aq E E sz ?_
  obtain⟨k',rfl⟩:∃k',k=k'+1:=⟨k-1,by omega⟩
  refine ag (aS ?_)
  refine fF (k') (v37) (s6) (ds++[d]) ⟨rfl,rfl,rfl,rfl,rfl,trivial⟩ ⟨((mL.trans (mAll.weak fun j hj _=>.inl hj) fun _ hj _=>hj).trans m37 fun j hj hlt=>by have:=(own j hj).1;omega).trans (mz.weak fun j hj _=>.inr hj) fun _ hj _=>hj,(rn.mv m37 fun j hj=>by have:=(own j hj).1;omega).mv mz fun j hj=>by omega,kz,o37.mv mz (fun j hj=>by omega),by simp;omega,pJ hR q30,by have:=hsl l rfl;simp;omega,fun l6 e=>by
   have h:=q30
   rw[e] at h
   have:=nB l _ l6 h
   have:=hsl l rfl
   simp;omega⟩ (by omega)
 ·obtain⟨nd,hnd⟩:∃nd,nd=Iq:=⟨_,rfl⟩
  have rpy:cL (fun k=>k<w7.heap.size) wL (bH nd) Cj:=hnd▸vh
  have oy:=oL
  have my:=mL
  have k2y:=k2L
  have hoy:aw Cj:=aw.cons rfl (aw.cons rfl (aw.cons rfl (aw.cons rfl (aw.cons rfl (aw.cons rfl (aw.cons rfl (aw.cons rfl (aw.cons rfl aw.nil))))))))
  obtain⟨vl,x,y,vk,vp,ez,n1,n2,n3,n4,n5⟩:=dW rpy.rp
  have ky:cr g7 54 (v::Cj) wL:=kL
  rw[ez] at ky rpy hoy
  refine aa (ae E E (ae E E (ao E E E (ao E E E (ao E E E (ao E E E (ao E E E (ao E E E (aE E E E ?_)))))))))
  refine ag (ab (cp E (bg (aJ (aJ (bh (ab (af (af (aa (ae E E (ag (ab (cp E (aC (ab (af ?_)))))))))))))))))
  have hS:Mv (fun k=>k=g2) wL wL.drew:=Mv.of_ext ((aN.refl wL).drew)
  have e11:aN wL wL.drew:=(aN.refl wL).drew
  refine gS (Mv (fun k=>k=g2) wL) 13 E (by kernel_rfl) ?_
  refine fU 0 E E (by kernel_rfl) E hS (fun w' hw'=>(hw'.blk ky (fun e=>by omega)).ld L8 E (by kernel_rfl)) ?_
  refine aR 1 (by kernel_rfl) E (ae E E (aI hS ?_))
  refine aR 2 (by kernel_rfl) E (ae E E (aI hS ?_))
  refine aR 3 (by kernel_rfl) E (ao E E E (aI hS ?_))
  refine aR 4 (by kernel_rfl) E (ao E E E (aI hS ?_))
  refine aR 5 (by kernel_rfl) E (ao E E E (aI hS ?_))
  refine aR 6 (by kernel_rfl) E (aE E E E (aI hS ?_))
  refine aR 7 (by kernel_rfl) E (ae E E (aI hS ?_))
  refine aR 8 (by kernel_rfl) E (ao E E E (aI hS ?_))
  refine aR 9 (by kernel_rfl) E (ao E E E (aI hS ?_))
  refine p7 10 E E E (by kernel_rfl) E hS ?_
  have k2g:=k2y.ext e11
  have hon:aw (v::[vl,I nd.split.kd,I nd.split.ix,B nd.split.at_.1,x,y,vk,B nd.empty,vp]):=aw.cons hvo hoy
  obtain⟨wd,sd,qd,kd⟩:=k2g.stS (P:=Tryz.prog) (t:=54) (m:=[v,vl,I nd.split.kd,I nd.split.ix,B nd.split.at_.1,x,y,vk,B nd.empty,vp]) rfl (by kernel_rfl) hon
  have md:Mv (fun k=>k=g2) wL.drew wd:=Mv.of_grown qd fun k hk _=>(Option.some.inj hk).symm
  have hSd:Mv (fun k=>k=g2) wL wd:=(Mv.of_ext e11).trans md fun _ hj _=>hj
  have mF:Mv (fun k=>k=g2∨k=g∨k=g7) w2 wd:=((m27.weak fun j hj _=>.inr (.inl hj)).trans (my.weak fun j hj _=>.inr hj) fun _ hj _=>hj).trans (hSd.weak fun j hj _=>.inl hj) fun _ hj _=>hj
  have eF:aN w wd:=Mv.ext_from mF x2 (by rintro j (h|h|h)<;>omega)
  have oF:=oy.mv hSd (fun j hj=>by omega)
  have rF:cL (fun k=>k<w.heap.size) wd (i0 ⟨ds,nd⟩) [v,vl,I nd.split.kd,I nd.split.ix,B nd.split.at_.1,x,y,vk,B nd.empty,vp]:=i5 (u:=⟨ds,nd⟩) ((oF.rpx ci (by omega)).weak fun j hj=>.inl (by show j<w7.heap.size;omega)) (rpy.mv (hSd.weak fun j hj _=>by show j<w7.heap.size;omega) fun j hj=>.inl (by show j<w7.heap.size;omega))
  refine aR 11 (by kernel_rfl) E (aq E E sd (aI hSd ?_))
  refine aR 12 (by kernel_rfl) E (ac E E (aI hSd (gT (by kernel_rfl) ?_)))
  refine ab (au ?_)
  refine cz E E E kd L8 E (by kernel_rfl) ?_
  exact⟨_,rfl,eF,⟨ds,nd⟩,_,false,rfl,rF,hon,(fun e=>nomatch e),fun _=>DG (ds:=ds) (tQ qU hR)⟩
 ·refine aa (ae E E (ae E E (ai E (ah E E (ar (o:=0) L8 E (by kernel_rfl) E) (ai E ?_)))))
  refine ak E E (aj Mg E (kL.cell (i:=0) E)) (ai E (aQ E E (be Mg dL) ?_))
  refine ai E (aY E E (mO Mb Mc) (ai E (ae E E (ai E (al E E E (cW (mt (IN hnl hN).1 (by omega)) gH) ?_)))))
  refine ap E E E (ag (ab (cp E (bg (aJ (aJ (bh (ab (af (af (aa (ae E E (ag (ab (bf E ?_)))))))))))))))
  have hll:iL (some l):=fun l' e=>by cases e;have:=hsl l rfl;omega
  refine aa (ae rfl rfl (an wK rfl rfl ((Dg l.length hrL hll (fun l' e=>by cases e;exact Nat.le_refl _))) ?_))
  rintro v42 w42 ⟨m42,nd,cs,s7,ok7,rfl,rp42,hoy,hr42,hNd⟩
  have m42:=m42
  have hcs:cs.length=9:=rp42.len.trans (cE nd)
  have k7b:=m42.blk kL (fun e=>by have:g7=g:=e;omega)
  obtain⟨wy,sy,qy,ky⟩:=k7b.stO (P:=Tryz.prog) (t:=52) (m:=cs) 1 (by simp[hcs]) (by rw[hcs];kernel_rfl) hoy
  have mz:Mv (fun k=>k=g7) w42 wy:=Mv.of_grown qy fun k hk _=>(Option.some.inj hk).symm
  have rpz:=rp42.mv (mz.weak fun j hj _=>by show j<wL.heap.size;omega) fun _ hk=>.inl hk
  have rpy:cL (fun k=>k<w7.heap.size) wy (bH nd) cs:=rpz.weak fun j hj=>.inl (by show j<wL.heap.size;omega)
  have hry:=hr42.mv mz fun j hj=>by omega
  have mLy:Mv (fun k=>k=g∨k=g7) wL wy:=(m42.weak fun j hj _=>.inl hj).trans (mz.weak fun j hj _=>.inr hj) fun _ hj _=>hj
  have my:=mL.trans mLy fun _ hj _=>hj
  have oy:=oL.mv mLy (by rintro j (hj|hj)<;>omega)
  have k2y:=mLy.blk k2L (by rintro(h|h)<;>omega)
  refine ae E E (am E E (bj) (am E E (bk) (ah E E (ar (o:=1) L8 E (by kernel_rfl) E) ?_)))
  refine aq E E sy ?_
  refine ac E E (ag (ab (af ?_)))
  obtain⟨vl,x,y,vk,vp,rfl,n1,n2,n3,n4,n5⟩:=dW rpy.rp
  have kz:cr g7 54 [v,vl,I nd.split.kd,I nd.split.ix,B nd.split.at_.1,x,y,vk,B nd.empty,vp] wy:=ky
  have dz:cu dm ds v wy:=(oy.rpx ci (by omega)).rp
  have hD:fK (dn oh) (some b) ds (some l):=by subst h0;exact tP qU hR
  rcases ok7 with _|_
  rotate_left
  obtain⟨h6,h7⟩:=hNd.1 rfl
  rcases s7 with _|l7
  ·exact absurd rfl h7
  rcases l7 with _|⟨c7,l7⟩
  ·have hE:lr b=some (⟨ds,nd⟩,[]):=xL hD h6
   have hsm:=rG hE hl
   have hS:Mv (fun k=>k=g2) wy wy.drew:=Mv.of_ext ((aN.refl wy).drew)
   have e11:aN wy wy.drew:=(aN.refl wy).drew
   refine gS (Mv (fun k=>k=g2) wy) 13 E (by kernel_rfl) ?_
   refine fU 0 E E (by kernel_rfl) E hS (fun w' hw'=>(hw'.blk kz (fun e=>by omega)).ld L8 E (by kernel_rfl)) ?_
   refine aR 1 (by kernel_rfl) E (ae E E (aI hS ?_))
   refine aR 2 (by kernel_rfl) E (ae E E (aI hS ?_))
   refine aR 3 (by kernel_rfl) E (ai E (ae E E (aI hS ?_)))
   refine aR 4 (by kernel_rfl) E (ai E (an wq E E (Ev (eo.ext hry e11)) ?_))
   rintro _ _ ⟨rfl,rfl⟩
   refine aI hS ?_
   refine aR 5 (by kernel_rfl) E (ai E (al (r:=B true) E E E (AJ) (aI hS ?_)))
   refine aR 6 (by kernel_rfl) E (ap E E E (aI hS ?_))
   refine aR 7 (by kernel_rfl) E (ae E E (aI hS ?_))
   refine aR 8 (by kernel_rfl) E (ai E (ak E E ((kz.ext e11).ld L8 E (by kernel_rfl)) (aI hS ?_)))
   refine aR 9 (by kernel_rfl) E (ai E (an kZ E E (la (u:=⟨ds,nd⟩) (cu.ext dz e11) (cu.ext n1 e11) (n2.ext e11) (n3.ext e11) (cu.ext n4 e11) (cu.ext n5 e11) hsm) ?_))
   rintro _ w55 ⟨x55,rfl⟩
   have e11:aN wy w55:=e11.trans x55
   have hS:Mv (fun k=>k=g2) wy w55:=Mv.of_ext e11
   refine aI hS ?_
   refine EO 10 E E E (by kernel_rfl) E hS ?_
   have k2g:=k2y.ext e11
   have hon:aw (v::[vl,I nd.split.kd,I nd.split.ix,B nd.split.at_.1,x,y,vk,B nd.empty,vp]):=aw.cons hvo hoy
   obtain⟨wd,sd,qd,kd⟩:=k2g.stS (P:=Tryz.prog) (t:=54) (m:=[v,vl,I nd.split.kd,I nd.split.ix,B nd.split.at_.1,x,y,vk,B nd.empty,vp]) rfl (by kernel_rfl) hon
   have md:Mv (fun k=>k=g2) w55 wd:=Mv.of_grown qd fun k hk _=>(Option.some.inj hk).symm
   have hSd:Mv (fun k=>k=g2) wy wd:=(Mv.of_ext e11).trans md fun _ hj _=>hj
   have mF:Mv (fun k=>k=g2∨k=g∨k=g7) w2 wd:=((m27.weak fun j hj _=>.inr (.inl hj)).trans (my.weak fun j hj _=>.inr hj) fun _ hj _=>hj).trans (hSd.weak fun j hj _=>.inl hj) fun _ hj _=>hj
   have eF:aN w wd:=Mv.ext_from mF x2 (by rintro j (h|h|h)<;>omega)
   have oF:=oy.mv hSd (fun j hj=>by omega)
   have rF:cL (fun k=>k<w.heap.size) wd (i0 ⟨ds,nd⟩) [v,vl,I nd.split.kd,I nd.split.ix,B nd.split.at_.1,x,y,vk,B nd.empty,vp]:=i5 (u:=⟨ds,nd⟩) ((oF.rpx ci (by omega)).weak fun j hj=>.inl (by show j<w7.heap.size;omega)) (rpy.mv (hSd.weak fun j hj _=>by show j<w7.heap.size;omega) fun j hj=>.inl (by show j<w7.heap.size;omega))
   refine aR 11 (by kernel_rfl) E (aq E E sd (aI hSd ?_))
   refine aR 12 (by kernel_rfl) E (ac E E (aI hSd (gT (by kernel_rfl) ?_)))
   refine ab (au ?_)
   refine cz E E E kd L8 E (by kernel_rfl) ?_
   exact⟨_,rfl,eF,⟨ds,nd⟩,_,cX ⟨ds,nd⟩,rfl,rF,hon,(fun e=>AD hE e),fun e=>Ck hE e⟩
  ·have hS:Mv (fun k=>k=g2) wy wy.drew:=Mv.of_ext ((aN.refl wy).drew)
   have e11:aN wy wy.drew:=(aN.refl wy).drew
   refine gS (Mv (fun k=>k=g2) wy) 13 E (by kernel_rfl) ?_
   refine fU 0 E E (by kernel_rfl) E hS (fun w' hw'=>(hw'.blk kz (fun e=>by omega)).ld L8 E (by kernel_rfl)) ?_
   refine aR 1 (by kernel_rfl) E (ae E E (aI hS ?_))
   refine aR 2 (by kernel_rfl) E (ae E E (aI hS ?_))
   refine aR 3 (by kernel_rfl) E (ai E (ae E E (aI hS ?_)))
   refine aR 4 (by kernel_rfl) E (ai E (an wq E E (Ev (eo.ext hry e11)) ?_))
   rintro _ _ ⟨rfl,rfl⟩
   refine aI hS ?_
   refine aR 5 (by kernel_rfl) E (ai E (al (r:=B false) E E E (EP) (aI hS ?_)))
   refine aR 6 (by kernel_rfl) E (ap E E E (aI hS ?_))
   refine aR 7 (by kernel_rfl) E (ae E E (aI hS ?_))
   refine aR 8 (by kernel_rfl) E (ao E E E (aI hS ?_))
   refine aR 9 (by kernel_rfl) E (ao E E E (aI hS ?_))
   refine p7 10 E E E (by kernel_rfl) E hS ?_
   have k2g:=k2y.ext e11
   have hon:aw (v::[vl,I nd.split.kd,I nd.split.ix,B nd.split.at_.1,x,y,vk,B nd.empty,vp]):=aw.cons hvo hoy
   obtain⟨wd,sd,qd,kd⟩:=k2g.stS (P:=Tryz.prog) (t:=54) (m:=[v,vl,I nd.split.kd,I nd.split.ix,B nd.split.at_.1,x,y,vk,B nd.empty,vp]) rfl (by kernel_rfl) hon
   have md:Mv (fun k=>k=g2) wy.drew wd:=Mv.of_grown qd fun k hk _=>(Option.some.inj hk).symm
   have hSd:Mv (fun k=>k=g2) wy wd:=(Mv.of_ext e11).trans md fun _ hj _=>hj
   have mF:Mv (fun k=>k=g2∨k=g∨k=g7) w2 wd:=((m27.weak fun j hj _=>.inr (.inl hj)).trans (my.weak fun j hj _=>.inr hj) fun _ hj _=>hj).trans (hSd.weak fun j hj _=>.inl hj) fun _ hj _=>hj
   have eF:aN w wd:=Mv.ext_from mF x2 (by rintro j (h|h|h)<;>omega)
   have oF:=oy.mv hSd (fun j hj=>by omega)
   have rF:cL (fun k=>k<w.heap.size) wd (i0 ⟨ds,nd⟩) [v,vl,I nd.split.kd,I nd.split.ix,B nd.split.at_.1,x,y,vk,B nd.empty,vp]:=i5 (u:=⟨ds,nd⟩) ((oF.rpx ci (by omega)).weak fun j hj=>.inl (by show j<w7.heap.size;omega)) (rpy.mv (hSd.weak fun j hj _=>by show j<w7.heap.size;omega) fun j hj=>.inl (by show j<w7.heap.size;omega))
   refine aR 11 (by kernel_rfl) E (aq E E sd (aI hSd ?_))
   refine aR 12 (by kernel_rfl) E (ac E E (aI hSd (gT (by kernel_rfl) ?_)))
   refine ab (au ?_)
   refine cz E E E kd L8 E (by kernel_rfl) ?_
   exact⟨_,rfl,eF,⟨ds,nd⟩,_,false,rfl,rF,hon,(fun e=>nomatch e),fun _=>DI (xL hD h6)⟩
  ·have hS:Mv (fun k=>k=g2) wy wy.drew:=Mv.of_ext ((aN.refl wy).drew)
   have e11:aN wy wy.drew:=(aN.refl wy).drew
   refine gS (Mv (fun k=>k=g2) wy) 13 E (by kernel_rfl) ?_
   refine fU 0 E E (by kernel_rfl) E hS (fun w' hw'=>(hw'.blk kz (fun e=>by omega)).ld L8 E (by kernel_rfl)) ?_
   refine aR 1 (by kernel_rfl) E (ae E E (aI hS ?_))
   refine aR 2 (by kernel_rfl) E (ae E E (aI hS ?_))
   refine aR 3 (by kernel_rfl) E (ao E E E (aI hS ?_))
   refine aR 4 (by kernel_rfl) E (ao E E E (aI hS ?_))
   refine aR 5 (by kernel_rfl) E (ao E E E (aI hS ?_))
   refine aR 6 (by kernel_rfl) E (aE E E E (aI hS ?_))
   refine aR 7 (by kernel_rfl) E (ae E E (aI hS ?_))
   refine aR 8 (by kernel_rfl) E (ao E E E (aI hS ?_))
   refine aR 9 (by kernel_rfl) E (ao E E E (aI hS ?_))
   refine p7 10 E E E (by kernel_rfl) E hS ?_
   have k2g:=k2y.ext e11
   have hon:aw (v::[vl,I nd.split.kd,I nd.split.ix,B nd.split.at_.1,x,y,vk,B nd.empty,vp]):=aw.cons hvo hoy
   obtain⟨wd,sd,qd,kd⟩:=k2g.stS (P:=Tryz.prog) (t:=54) (m:=[v,vl,I nd.split.kd,I nd.split.ix,B nd.split.at_.1,x,y,vk,B nd.empty,vp]) rfl (by kernel_rfl) hon
   have md:Mv (fun k=>k=g2) wy.drew wd:=Mv.of_grown qd fun k hk _=>(Option.some.inj hk).symm
   have hSd:Mv (fun k=>k=g2) wy wd:=(Mv.of_ext e11).trans md fun _ hj _=>hj
   have mF:Mv (fun k=>k=g2∨k=g∨k=g7) w2 wd:=((m27.weak fun j hj _=>.inr (.inl hj)).trans (my.weak fun j hj _=>.inr hj) fun _ hj _=>hj).trans (hSd.weak fun j hj _=>.inl hj) fun _ hj _=>hj
   have eF:aN w wd:=Mv.ext_from mF x2 (by rintro j (h|h|h)<;>omega)
   have oF:=oy.mv hSd (fun j hj=>by omega)
   have rF:cL (fun k=>k<w.heap.size) wd (i0 ⟨ds,nd⟩) [v,vl,I nd.split.kd,I nd.split.ix,B nd.split.at_.1,x,y,vk,B nd.empty,vp]:=i5 (u:=⟨ds,nd⟩) ((oF.rpx ci (by omega)).weak fun j hj=>.inl (by show j<w7.heap.size;omega)) (rpy.mv (hSd.weak fun j hj _=>by show j<w7.heap.size;omega) fun j hj=>.inl (by show j<w7.heap.size;omega))
   refine aR 11 (by kernel_rfl) E (aq E E sd (aI hSd ?_))
   refine aR 12 (by kernel_rfl) E (ac E E (aI hSd (gT (by kernel_rfl) ?_)))
   refine ab (au ?_)
   refine cz E E E kd L8 E (by kernel_rfl) ?_
   exact⟨_,rfl,eF,⟨ds,nd⟩,_,false,rfl,rF,hon,(fun e=>nomatch e),fun _=>DH hD (hNd.2 rfl)⟩
end Go.Rl
namespace Go.Rl
open Go.RowKit Go.Proofs
inductive JT where
 |gap
 |leaf (n:aZ)
 |split (d:bV) (a b:JT)
def xZ (d:bV):bV:=if d.kd=2∨d.kd=3 then dG d else d
def tf (d:bV):JT→JT
 |.gap=>.split (xZ d) .gap .gap
 |.leaf n=>.leaf n
 |.split s a b=>.split s a b
def iA (n:aZ):List bV→JT→Option JT
 |[],.gap=>some (.leaf n)
 |[],.leaf m=>some (.leaf m)
 |[],.split _ _ _=>none
 |d::p,t=>
  match tf d t with
  |.split s a b=>if s=d then(iA n p a).map fun a'=>.split s a' b else if dG s=d then(iA n p b).map fun b'=>.split s a b' else none
  |.leaf _=>none
  |.gap=>none
def Ir (e:bR) (t:JT):Option JT:=iA e.leaf e.path t
def jp:List bR→JT→Option JT
 |[],t=>some t
 |e::es,t=>(Ir e t).bind (jp es)
def JT.node:JT→aZ
 |.gap=>Iq
 |.leaf n=>n
 |.split s a b=>.mk [] s [a.node,b.node] false []
def JT.miss:JT→List bV→List (List bV)
 |.gap,p=>[p]
 |.leaf _,_=>[]
 |.split s a b,p=>a.miss (p++[s])++b.miss (p++[dG s])
def JT.depth:JT→Nat
 |.gap=>0
 |.leaf _=>0
 |.split _ a b=>1+max a.depth b.depth
theorem rH (n:aZ):∀(p:List bV) {t t':JT},iA n p t=some t'→t'.depth≤max t.depth p.length
 |[],.gap,t',h=>by simp only[iA,Option.some.injEq] at h;subst h;simp[JT.depth]
 |[],.leaf m,t',h=>by simp only[iA,Option.some.injEq] at h;subst h;simp[JT.depth]
 |[],.split _ _ _,t',h=>by simp[iA] at h
 |d::p,t,t',h=>by
  have key:∀s a b,tf d t=.split s a b→t'.depth≤max (tf d t).depth (p.length+1):=fun s a b ho=>by
   simp only[iA,ho] at h
   rw[ho]
   split at h
   ·obtain⟨a',h1,rfl⟩:=Option.map_eq_some_iff.1 h
    have:=rH n p h1
    simp only[JT.depth];omega
   ·split at h
    ·obtain⟨b',h1,rfl⟩:=Option.map_eq_some_iff.1 h
     have:=rH n p h1
     simp only[JT.depth];omega
    ·cases h
  cases t with
  |gap=>
   have:=key _ _ _ rfl
   simp only[tf,JT.depth] at this
   simp only[JT.depth,List.length_cons];omega
  |leaf m=>simp[iA,tf] at h
  |split s a b=>
   have:=key _ _ _ rfl
   simp only[tf] at this
   simpa using this
def jq (d:bV) (x y k1 k2 lf:Value):List Value:=[I d.kd,I d.ix,B d.at_.1,x,y,k1,k2,lf]
def iP:Value:=.pointer none
def t9 (g:Nat):Value:=.pointer (some ⟨g,0,none⟩)
def tg (w0 w:World):Nat→JT→List Nat→Prop
 |g,.gap,ids=>ids=[g]∧cr g 114 (jq lq (.slice none 0 0) (.slice none 0 0) iP iP iP) w
 |g,.leaf n,ids=>∃h cs,ids=[g,h]∧cr g 114 (jq lq (.slice none 0 0) (.slice none 0 0) iP iP (t9 h)) w∧cr h 52 cs w∧Rp w0 (bH n) cs
 |g,.split d a b,ids=>∃x y g1 g2 i1 i2,ids=g::(i1++i2)∧bt d.at_.2.1 x w0∧bt d.at_.2.2 y w0∧cr g 114 (jq d x y (t9 g1) (t9 g2) iP) w∧tg w0 w g1 a i1∧tg w0 w g2 b i2
theorem tg.mv {w0 w w':World} {X:Nat→Prop} (hm:Mv X w w'):∀{t:JT} {g:Nat} {ids:List Nat},tg w0 w g t ids→(∀k∈ids,¬X k)→tg w0 w' g t ids
 |.gap,g,ids,h,hX=>by
  simp only[tg] at h⊢
  obtain⟨rfl,h1⟩:=h
  exact⟨rfl,hm.blk h1 (hX g (by simp))⟩
 |.leaf n,g,ids,h,hX=>by
  simp only[tg] at h⊢
  obtain⟨k,cs,rfl,h1,h2,h3⟩:=h
  exact⟨k,cs,rfl,hm.blk h1 (hX g (by simp)),hm.blk h2 (hX k (by simp)),h3⟩
 |.split d a b,g,ids,h,hX=>by
  simp only[tg] at h⊢
  obtain⟨x,y,g1,g2,i1,i2,rfl,hx,hy,h1,h2,h3⟩:=h
  exact⟨x,y,g1,g2,i1,i2,rfl,hx,hy,hm.blk h1 (hX g (by simp)),h2.mv hm fun k hk=>hX k (by simp[hk]),h3.mv hm fun k hk=>hX k (by simp[hk])⟩
theorem tg.lt {w0 w:World}:∀{t:JT} {g:Nat} {ids:List Nat},tg w0 w g t ids→∀k∈ids,k<w.heap.size
 |.gap,g,ids,h,k,hk=>by
  simp only[tg] at h
  obtain⟨rfl,h1⟩:=h
  simp only[List.mem_singleton] at hk
  subst hk
  exact h1.lt
 |.leaf n,g,ids,h,k,hk=>by
  simp only[tg] at h
  obtain⟨j,cs,rfl,h1,h2,_⟩:=h
  simp only[List.mem_cons,List.not_mem_nil,or_false] at hk
  rcases hk with rfl|rfl
  ·exact h1.lt
  ·exact h2.lt
 |.split d a b,g,ids,h,k,hk=>by
  simp only[tg] at h
  obtain⟨x,y,g1,g2,i1,i2,rfl,hx,hy,h1,h2,h3⟩:=h
  simp only[List.mem_cons,List.mem_append] at hk
  rcases hk with rfl|hk|hk
  ·exact h1.lt
  ·exact h2.lt k hk
  ·exact h3.lt k hk
structure jU (w0 w:World) (g:Nat) (t:JT) (ids:List Nat):Prop where
 at_:tg w0 w g t ids
 nodup:ids.Nodup
 young:∀k∈ids,w0.heap.size≤k
theorem jU.mv {w0 w w':World} {X:Nat→Prop} {g:Nat} {t:JT} {ids:List Nat} (h:jU w0 w g t ids) (hm:Mv X w w') (hX:∀k∈ids,¬X k):jU w0 w' g t ids:=⟨h.at_.mv hm hX,h.nodup,h.young⟩
theorem jU.lt {w0 w:World} {g:Nat} {t:JT} {ids:List Nat} (h:jU w0 w g t ids):∀k∈ids,k<w.heap.size:=h.at_.lt
theorem jU.gap {w0 w:World} {g:Nat} (k:cr g 114 (jq lq (.slice none 0 0) (.slice none 0 0) iP iP iP) w) (hg:w0.heap.size≤g):jU w0 w g .gap [g]:=
 ⟨⟨rfl,k⟩,by simp,fun j hj=>by simp only[List.mem_singleton] at hj;omega⟩
theorem jU.leaf {w0 w:World} {g h:Nat} {n:aZ} {cs:List Value} (k:cr g 114 (jq lq (.slice none 0 0) (.slice none 0 0) iP iP (t9 h)) w) (k2:cr h 52 cs w) (hr:Rp w0 (bH n) cs) (hg:w0.heap.size≤g) (hh:w0.heap.size≤h) (hne:g≠h):jU w0 w g (.leaf n) [g,h]:=
 ⟨⟨h,cs,rfl,k,k2,hr⟩,by simp[hne],fun j hj=>by simp only[List.mem_cons,List.not_mem_nil,or_false] at hj;omega⟩
theorem jU.split_inv {w0 w:World} {g:Nat} {d:bV} {a b:JT} {ids:List Nat} (h:jU w0 w g (.split d a b) ids):∃x y g1 g2 i1 i2,ids=g::(i1++i2)∧bt d.at_.2.1 x w0∧bt d.at_.2.2 y w0∧cr g 114 (jq d x y (t9 g1) (t9 g2) iP) w∧jU w0 w g1 a i1∧jU w0 w g2 b i2∧w0.heap.size≤g∧g∉i1∧g∉i2∧(∀k∈i1,k∉i2):=by
 obtain⟨⟨x,y,g1,g2,i1,i2,rfl,hx,hy,h1,h2,h3⟩,hn,hy2⟩:=h
 rw[List.nodup_cons,List.nodup_append] at hn
 obtain⟨n1,n2,n3,n4⟩:=hn
 refine⟨x,y,g1,g2,i1,i2,rfl,hx,hy,h1,⟨h2,n2,fun k hk=>hy2 k (by simp[hk])⟩,⟨h3,n3,fun k hk=>hy2 k (by simp[hk])⟩,hy2 g (by simp),fun hg=>n1 (by simp[hg]),fun hg=>n1 (by simp[hg]),fun k hk hk'=>n4 k hk k hk' rfl⟩
theorem jU.split {w0 w:World} {g g1 g2:Nat} {d:bV} {a b:JT} {i1 i2:List Nat} {x y:Value} (hx:bt d.at_.2.1 x w0) (hy:bt d.at_.2.2 y w0) (k:cr g 114 (jq d x y (t9 g1) (t9 g2) iP) w) (h1:jU w0 w g1 a i1) (h2:jU w0 w g2 b i2) (hg:w0.heap.size≤g) (n1:g∉i1) (n2:g∉i2) (n3:∀k∈i1,k∉i2):jU w0 w g (.split d a b) (g::(i1++i2)):=by
 refine⟨⟨x,y,g1,g2,i1,i2,rfl,hx,hy,k,h1.at_,h2.at_⟩,?_,fun j hj=>?_⟩
 ·rw[List.nodup_cons,List.nodup_append]
  exact⟨by simp[n1,n2],h1.nodup,h2.nodup,fun k hk j hj e=>n3 k hk (e▸hj)⟩
 ·simp only[List.mem_cons,List.mem_append] at hj
  rcases hj with rfl|hj|hj
  ·exact hg
  ·exact h1.young j hj
  ·exact h2.young j hj
end Go.Rl

/- Part 4 of a proof: plain facts and walks of functions, merged by a program. Conditions: each lemma names its own. -/
import Derived.Test.YtpeidnhjcompmaaGreatDoorJc3
namespace Go.Rl
open Go.RowKit Go.Proofs
theorem zi:aG Tryz.prog 42:=⟨_,Tryz.func42,by kernel_rfl,rfl⟩
theorem Ln:(Tryz.prog.info? 155).map (·.zero)=some (some (.agg (List.replicate 8 (U8 0)).toArray)):=by kernel_rfl
theorem Cd {g k:Nat} {v:Value} (h:v.ownBlock=some k) (hne:k≠g):AG g v:=by
 rintro a n c rfl
 intro he
 have:some a.block=some k:=h
 exact hne (by rw[←Option.some.inj this];exact he)
theorem JG (n:UInt64) {i:Nat} (hi:i<8):(BT n).getD i 0=(n>>>UInt64.ofNat (56-8*i)).toUInt8:=by
 simp[BT,hi]
section
variable {w:World} {g o:Nat} {T:TypeId}
theorem Lo (i:Nat) (hi:i<8):(Instr.indexAt 155 (.pointer (some ⟨g,0,none⟩)) (I (i:Int))).run Tryz.prog w=.ok (.pointer (some ⟨g,i,none⟩)) w:=by
 have:=iW (P:=Tryz.prog) (w:=w) (g:=g) (o:=0) Tryz.underlying155 fo hi .i64
 rwa [Nat.zero_add] at this
theorem Lp:(Instr.sliceAt 155 (.pointer (some ⟨g,0,none⟩)) none none none).run Tryz.prog w=.ok (.slice (some ⟨g,0,none⟩) 8 8) w:=by
 simp[Instr.sliceAt,run_underlying Tryz.underlying155,Instr.sureAddr,Instr.sliceBounds,fh fo,Addr.add_mid]
theorem ct.bts {m:List UInt8} (h:ct g T (m.map U8) w) (hm:m.length≤64):cJ m (.slice (some ⟨g,0,none⟩) m.length m.length) w:=
 ⟨_,_,_,rfl,Nat.le_refl _,by unfold maxLen;omega,by simp,fun _=>⟨_,rfl,fun j v hj=>by rw[Addr.add_mid,Nat.zero_add];exact h.cell hj⟩,fun h=>by cases h⟩
end
theorem zj {w:World} {g:Nat} {m:List UInt8} (hh:HA g m (UInt64.ofNat m.length) w):
 Calls Tryz.prog 42 #[.pointer (some ⟨g,0,none⟩)] w (bE fun r w'=>aK w w'∧r=.agg ((j3 m).map U8).toArray):=by
 obtain⟨blk,hc,ht⟩:=hh
 refine enter (vs:=[.pointer (some ⟨g,0,none⟩)]) Tryz.func42 E E E ?_
 obtain⟨g2,w1,hr,n2,x1,b2⟩:=aX (P:=Tryz.prog) (w:=w) (l:=(List.replicate 32 0).map U8) ip rfl
 refine af (aa (aT E hr (ag (ab (af (af (aa (ac E E ?_))))))))
 refine al E E E (gF MX) ?_
 refine ag (ab ?_)
 refine cr E ?_
 refine aC (ab (af (aa (ac E E ?_))))
 refine ax E E ?_
 refine ak E E (hc.ext x1).ldH ?_
 obtain⟨g3,w2,hr,n3,x2,b3⟩:=aX (P:=Tryz.prog) (w:=w1) (l:=dt (List.replicate 8 0) (List.replicate 64 0) 0 0) Gl rfl
 refine aT E hr ?_
 have hl:=iJ (u:=((m.length%64:Nat):Int)) (tot:=UInt64.ofNat m.length) hc.ls hc.lb
 refine au E E (j9 b3 (by rw[hl];rfl) (by rw[hl];exact zf) Md) ?_
 have hA:HA g3 m (UInt64.ofNat m.length) (w2.setRow g3 (dt (sh m) blk ((m.length%64:Nat):Int) (UInt64.ofNat m.length)).toArray):=⟨blk,⟨b3.row _,hc.ls,hc.lb⟩,ht⟩
 have q3:=bK w2 g3 (dt (sh m) blk ((m.length%64:Nat):Int) (UInt64.ofNat m.length)).toArray
 have l23:g2<g3:=Nat.lt_of_lt_of_le b2.lt n3
 have ne23:some g2≠some g3:=fun h=>by cases h;omega
 have hw3:w.heap.size≤g3:=by omega
 have B2:=(b2.ext x2).other q3 ne23
 have E3:=(x1.trans x2).of_new q3 hw3
 revert hA B2 E3
 generalize w2.setRow g3 (dt (sh m) blk ((m.length%64:Nat):Int) (UInt64.ofNat m.length)).toArray=w3
 intro hA B2 E3
 refine ag (ab (af (aa ?_)))
 refine ah E E Lm ?_
 obtain⟨blk',hcA,htA⟩:=id hA
 refine ak E E (aj MA E hcA.cellT) ?_
 refine al (v:=bF 8) E E E (gT) ?_
 refine ae E E (ag (ab (af (aa ?_))))
 obtain⟨r4,w4,hr,x4,o4,ob4⟩:=eh (w:=w3) w3.heap.size [128] (by simp) (Nat.le_refl _)
 refine aJ (vs:=[(0,U8 128)]) E E hr ?_
 refine am gN E E (gO (hA.ext x4) o4.bts (fun _=>Cd ob4 (by have:=hA.lt;omega))) ?_
 rintro _ w5 ⟨q5,h5⟩
 have B5:=(B2.ext x4).other q5 ne23
 have E5:=(E3.trans x4).of_new q5 hw3
 refine ag (ab ?_)
 have hp:iH m.length<64:=by unfold iH;omega
 refine af (fg (fun _:Unit=>[(2,.pointer (some ⟨g2,0,none⟩)),(3,.pointer (some ⟨g3,0,none⟩)),(4,bF (UInt64.ofNat m.length*8))]) (fun _ w'=>aK w w'∧ct g2 24 ((List.replicate 32 0).map U8) w'∧∃tot,HA g3 (m++[128]++List.replicate (iH m.length) 0) tot w') ?_ ?_)
 ·refine aE ?_
  refine cf (α:=Nat) (fun _=>[(2,.pointer (some ⟨g2,0,none⟩)),(3,.pointer (some ⟨g3,0,none⟩)),(4,bF (UInt64.ofNat m.length*8))])
   (fun k w'=>aK w w'∧ct g2 24 ((List.replicate 32 0).map U8) w'∧(∃tot,HA g3 (m++[128]++List.replicate k 0) tot w')∧k≤iH m.length) (fun k=>iH m.length-k) 0 ⟨rfl,rfl,rfl,trivial⟩
   ⟨E5,B5,⟨_,by simpa using h5⟩,by omega⟩ ?_
  rintro k w6 ⟨E6,B6,⟨tot,h6⟩,hk⟩
  obtain⟨blk6,hc6,ht6⟩:=id h6
  have hm:(m++[128]++List.replicate k 0).length=m.length+1+k:=by simp;omega
  refine af (af (aa ?_))
  refine ah E E Gm ?_
  refine ak E E (aj Mx E hc6.cellU) ?_
  refine al E E E (cX) ?_
  refine ag (ab ?_)
  rw[hm]
  refine bz E (fun h=>?_) (fun h=>?_)
  ·have hlt:k<iH m.length:=by
    rcases Nat.lt_or_ge k (iH m.length) with h1|h1
    ·exact h1
    ·have:k=iH m.length:=by omega
     subst this
     exfalso
     unfold iH at h
     omega
   refine aC (ab (aE (aa ?_)))
   obtain⟨r7,w7,hr,x7,o7,ob7⟩:=eh (w:=w6) w6.heap.size [0] (by simp) (Nat.le_refl _)
   refine aJ (vs:=[(0,U8 0)]) E E hr ?_
   refine am gN E E (gO (h6.ext x7) o7.bts (fun _=>Cd ob7 (by have:=h6.lt;omega))) ?_
   rintro _ w8 ⟨q8,h8⟩
   refine ag (aS ?_)
   rw[List.append_assoc _ (List.replicate k 0) [0],←List.replicate_succ'] at h8
   exact bR (k+1) ⟨rfl,rfl,rfl,trivial⟩ ⟨(E6.trans x7).of_new q8 hw3,(B6.ext x7).other q8 ne23,⟨_,h8⟩,hlt⟩ (by omega)
  ·have hk':k=iH m.length:=by
    unfold iH at hk hp⊢
    omega
   subst hk'
   exact bc (aI (aI (be (cu () ⟨rfl,rfl,rfl,trivial⟩ ⟨E6,B6,tot,h6⟩))))
 rintro _ w6 ⟨E6,B6,tot6,h6⟩
 refine ab (af (aa ?_))
 obtain⟨bits,hbits⟩:∃b,b=UInt64.ofNat m.length*8:=⟨_,rfl⟩
 rw[←hbits]
 have hb8:=AD bits
 obtain⟨g5,w7,hr,n5,x7,b7⟩:=aX (P:=Tryz.prog) (w:=w6) (l:=(fT (BT bits) 8 0).map U8) Ln rfl
 refine aT E hr (ag (ab ?_))
 have l35:g3<g5:=Nat.lt_of_lt_of_le h6.lt n5
 have ne25:some g2≠some g5:=fun h=>by cases h;omega
 have ne35:some g3≠some g5:=fun h=>by cases h;omega
 refine af (fg (fun _:Unit=>[(2,.pointer (some ⟨g2,0,none⟩)),(3,.pointer (some ⟨g3,0,none⟩)),(5,.pointer (some ⟨g5,0,none⟩))]) (fun _ w'=>w7.grownBy w' (some g5)∧ct g5 155 ((BT bits).map U8) w') ?_ ?_)
 ·refine af (aa (ac E E (ag (ab (aE ?_)))))
  refine cf (α:=Nat) (fun i=>[(2,.pointer (some ⟨g2,0,none⟩)),(3,.pointer (some ⟨g3,0,none⟩)),(4,bF bits),(5,.pointer (some ⟨g5,0,none⟩)),(27,I (i:Int))])
   (fun i w'=>w7.grownBy w' (some g5)∧ct g5 155 ((fT (BT bits) 8 i).map U8) w'∧i≤8) (fun i=>8-i) 0 ⟨rfl,rfl,rfl,rfl,rfl,trivial⟩
   ⟨dM (aK.refl _),b7,by omega⟩ ?_
  rintro i w8 ⟨q8,b8,hi⟩
  refine af (aa ?_)
  refine al E E E (aV) ?_
  refine ag (ab (af ?_))
  refine bz E (fun h=>?_) (fun h=>?_)
  ·have hi8:i<8:=by omega
   have hfl:=kU (j:=i) hb8 (by omega)
   have e6:(56:Int)-8*(i:Int)=((56-8*i:Nat):Int):=by omega
   refine aC (ab (af (aE (af (aa (ac E E (ae E E (ag (ab (aa (ac E E (ac E E (ac E E ?_)))))))))))))
   refine al E E E (fI (by omega) (by omega)) ?_
   refine al (r:=I ((56-8*i:Nat):Int)) E E E (by rw[←e6];exact bD (by omega) (by omega)) ?_
   refine al E E E (dF (56-8*i) (by omega)) ?_
   refine a9 E E (mw MA MC) ?_
   refine aq E E E (Lo i hi8) ?_
   refine au E E (ze b8 i (by omega)) ?_
   have b9:=b8.setB i (bits>>>UInt64.ofNat (56-8*i)).toUInt8
   have hset:(fT (BT bits) 8 i).set i (bits>>>UInt64.ofNat (56-8*i)).toUInt8=fT (BT bits) 8 (i+1):=by
    rw[←JG bits hi8]
    exact kV hb8 hi8
   rw[hset] at b9
   refine ag (aS (ab (aa ?_)))
   refine al E E E (aN (by omega) (by omega)) ?_
   refine ac E E (ag ?_)
   exact bR (i+1) ⟨rfl,rfl,rfl,rfl,rfl,trivial⟩ ⟨q8.trans (bh w8 g5 i _),b9,by omega⟩ (by omega)
  ·have hi':i=8:=by omega
   subst hi'
   rw[ut hb8] at b8
   exact bc (aI (aI (be (cu () ⟨rfl,rfl,rfl,trivial⟩ ⟨q8,b8⟩))))
 rintro _ w8 ⟨q8,b8⟩
 have E8:aK w w8:=(E6.trans x7).of_new q8 (by omega)
 have B8:=(B6.ext x7).other q8 ne25
 have h8:=(h6.ext x7).other q8 ne35
 refine ab (af (aa ?_))
 refine cx (a:=none) (b:=none) E E E E E Lp ?_
 have bt8:=b8.bts (by omega)
 rw[hb8] at bt8
 refine am gN rfl rfl (gO h8 bt8 (by rintro _ a n c he;cases he;show g5≠g3;omega)) ?_
 rintro _ w9 ⟨q9,h9⟩
 have hpad:m++[128]++List.replicate (iH m.length) 0++BT bits=fl m:=by rw[hbits];rfl
 rw[hpad] at h9
 have E9:=E8.of_new q9 hw3
 have B9:=B8.other q9 ne23
 refine ag (ab (af (aa ?_)))
 obtain⟨g7,w10,hr,n7,x10,b10⟩:=aX (P:=Tryz.prog) (w:=w9) (l:=(fT (j3 m) 32 0).map U8) ip rfl
 refine aT E hr (ag (ab ?_))
 obtain⟨blk9,hc9,_⟩:=h9.ext x10
 have l37:g3<g7:=Nat.lt_of_lt_of_le h9.lt n7
 have ne27:some g2≠some g7:=fun h=>by cases h;omega
 have hs8:=HU (fl m)
 have hdl:=dJ m
 refine af (fg (fun _:Unit=>[(2,.pointer (some ⟨g2,0,none⟩)),(7,.pointer (some ⟨g7,0,none⟩))]) (fun _ w'=>w10.grownBy w' (some g7)∧ct g7 24 ((j3 m).map U8) w') ?_ ?_)
 ·refine af (aa ?_)
  refine ah E E JC ?_
  refine ak E E hc9.ldS ?_
  refine ac E E (ag (ab (aE ?_)))
  refine cf (α:=Nat) (fun i=>[(2,.pointer (some ⟨g2,0,none⟩)),(7,.pointer (some ⟨g7,0,none⟩)),(42,.agg ((sh (fl m)).map bH).toArray),(43,I (i:Int))])
   (fun i w'=>w10.grownBy w' (some g7)∧ct g7 24 ((fT (j3 m) 32 (4*i)).map U8) w'∧i≤8) (fun i=>8-i) 0 ⟨rfl,rfl,rfl,rfl,trivial⟩
   ⟨dM (aK.refl _),b10,by omega⟩ ?_
  rintro i w11 ⟨q11,b11,hi⟩
  refine af (aa ?_)
  refine al E E E (aV) ?_
  refine ag (ab (af ?_))
  refine bz E (fun h=>?_) (fun h=>?_)
  ·have hi8:i<8:=by omega
   have e0:(4:Int)*(i:Int)=((4*i:Nat):Int):=by omega
   have e1:((4*i:Nat):Int)+1=((4*i+1:Nat):Int):=by omega
   have e2:((4*i:Nat):Int)+2=((4*i+2:Nat):Int):=by omega
   have e3:((4*i:Nat):Int)+3=((4*i+3:Nat):Int):=by omega
   have s0:=kU (j:=4*i) hdl (by omega)
   have s1:=kU (j:=4*i+1) hdl (by omega)
   have s2:=kU (j:=4*i+2) hdl (by omega)
   have s3:=kU (j:=4*i+3) hdl (by omega)
   refine aC (ab (af (aE (af (aa (ac E E ?_))))))
   refine nq E E E (Hd (l:=(sh (fl m)).map bH) MW eQ Mu hi8 .i64 (xG (by omega))) ?_
   refine ae E E (ae E E (ag (ab (aa (ac E E ?_)))))
   refine al (r:=I ((4*i:Nat):Int)) E E E (by rw[←e0];exact fI (by omega) (by omega)) ?_
   refine ac E E ?_
   refine al (r:=I ((4*i:Nat):Int)) E E E (by rw[←e0];exact fI (by omega) (by omega)) ?_
   refine al (r:=I ((4*i+1:Nat):Int)) E E E (by rw[←e1];exact aN (by omega) (by omega)) ?_
   refine ac E E ?_
   refine al (r:=I ((4*i:Nat):Int)) E E E (by rw[←e0];exact fI (by omega) (by omega)) ?_
   refine al (r:=I ((4*i+2:Nat):Int)) E E E (by rw[←e2];exact aN (by omega) (by omega)) ?_
   refine ac E E ?_
   refine al (r:=I ((4*i:Nat):Int)) E E E (by rw[←e0];exact fI (by omega) (by omega)) ?_
   refine al (r:=I ((4*i+3:Nat):Int)) E E E (by rw[←e3];exact aN (by omega) (by omega)) ?_
   refine ac E E ?_
   refine al E E E (da 24 (by omega)) ?_
   refine a9 E E (eo Mu MC) ?_
   refine ac E E ?_
   refine al E E E (da 16 (by omega)) ?_
   refine a9 E E (eo Mu MC) ?_
   refine ac E E ?_
   refine al E E E (da 8 (by omega)) ?_
   refine a9 E E (eo Mu MC) ?_
   refine ac E E ?_
   refine a9 E E (eo Mu MC) ?_
   have d0:(j3 m).getD (4*i) 0=((sh (fl m)).getD i 0>>>UInt32.ofNat 24).toUInt8:=nf (sh (fl m)) i 0 (by omega) (by omega)
   have d1:(j3 m).getD (4*i+1) 0=((sh (fl m)).getD i 0>>>UInt32.ofNat 16).toUInt8:=nf (sh (fl m)) i 1 (by omega) (by omega)
   have d2:(j3 m).getD (4*i+2) 0=((sh (fl m)).getD i 0>>>UInt32.ofNat 8).toUInt8:=nf (sh (fl m)) i 2 (by omega) (by omega)
   have d3:(j3 m).getD (4*i+3) 0=((sh (fl m)).getD i 0).toUInt8:=by
    have:=nf (sh (fl m)) i 3 (by omega) (by omega)
    rw[show UInt32.ofNat (24-8*3)=0 from rfl,UInt32.shiftRight_zero] at this
    exact this
   have f0:(fT (j3 m) 32 (4*i)).set (4*i) ((j3 m).getD (4*i) 0)=fT (j3 m) 32 (4*i+1):=kV hdl (by omega)
   have f1:(fT (j3 m) 32 (4*i+1)).set (4*i+1) ((j3 m).getD (4*i+1) 0)=fT (j3 m) 32 (4*i+2):=kV hdl (by omega)
   have f2:(fT (j3 m) 32 (4*i+2)).set (4*i+2) ((j3 m).getD (4*i+2) 0)=fT (j3 m) 32 (4*i+3):=kV hdl (by omega)
   have f3:(fT (j3 m) 32 (4*i+3)).set (4*i+3) ((j3 m).getD (4*i+3) 0)=fT (j3 m) 32 (4*(i+1)):=kV hdl (by omega)
   rw[d0] at f0
   rw[d1] at f1
   rw[d2] at f2
   rw[d3] at f3
   refine aq E E E (xF (4*i) (by omega)) ?_
   refine au E E (ze b11 (4*i) (by omega)) ?_
   have b12:=b11.setB (4*i) ((sh (fl m)).getD i 0>>>UInt32.ofNat 24).toUInt8
   rw[f0] at b12
   refine aq E E E (xF (4*i+1) (by omega)) ?_
   refine au E E (ze b12 (4*i+1) (by omega)) ?_
   have b13:=b12.setB (4*i+1) ((sh (fl m)).getD i 0>>>UInt32.ofNat 16).toUInt8
   rw[f1] at b13
   refine aq E E E (xF (4*i+2) (by omega)) ?_
   refine au E E (ze b13 (4*i+2) (by omega)) ?_
   have b14:=b13.setB (4*i+2) ((sh (fl m)).getD i 0>>>UInt32.ofNat 8).toUInt8
   rw[f2] at b14
   refine aq E E E (xF (4*i+3) (by omega)) ?_
   refine au E E (ze b14 (4*i+3) (by omega)) ?_
   have b15:=b14.setB (4*i+3) ((sh (fl m)).getD i 0).toUInt8
   rw[f3] at b15
   refine ag (aS (ab (aa ?_)))
   refine al E E E (aN (by omega) (by omega)) ?_
   refine ac E E (ag ?_)
   exact bR (i+1) ⟨rfl,rfl,rfl,rfl,trivial⟩ ⟨(((q11.trans (bh _ g7 (4*i) _)).trans (bh _ g7 (4*i+1) _)).trans (bh _ g7 (4*i+2) _)).trans (bh _ g7 (4*i+3) _),b15,by omega⟩ (by omega)
  ·have hi':i=8:=by omega
   subst hi'
   rw[show 4*8=32 from rfl,ut hdl] at b11
   exact bc (aI (aI (be (cu () ⟨rfl,rfl,trivial⟩ ⟨q11,b11⟩))))
 rintro _ w11 ⟨q11,b11⟩
 have hsz:(Tryz.prog.info? 24).map (·.size)=some ((j3 m).map U8).length:=by rw[List.length_map,dJ];exact jj
 have F2:=(B9.ext x10).other q11 ne27
 have E11:aK w w11:=(E9.trans x10).of_new q11 (by omega)
 refine ab (af (aa ?_))
 refine ak E E (oX (m:=(j3 m).map U8) b11 (fun j v h=>by rwa [Nat.zero_add]) MK E hsz) ?_
 refine au E E (j9 F2 (by simp[dJ]) hsz (tv _)) ?_
 refine ag (ab (aw ?_))
 refine dx E E (F2.row _) MK E hsz ?_
 exact⟨_,rfl,E11.of_new (bK _ _ _) n2,rfl⟩
end Go.Rl
namespace Go.Rl
open Go.RowKit Go.Proofs
theorem Ce {P:Program} {w:World} {t:TypeId} {x y:Operand} {a b:Array Value} (hg:P.eqGuardType P.depth t=false):(bin .neq t x y (.agg a) (.agg b)).run P w=(do pure (Value.bool (!(←Op.equal t (.agg a) (.agg b)))):Sem Value).run P w:=by
 show(do eqGuard .neq t x y (.agg a) (.agg b);binOp .neq t (.agg a) (.agg b):Sem Value).run P w=_
 rw[Sem.run_bind,run_eqGuard_agg (hm:=hg)]
 rfl
theorem Gq:aG Tryz.prog 52:=⟨_,Tryz.func52,by kernel_rfl,rfl⟩
theorem cJ.old {l:List UInt8} {v:Value} {w:World} (h:cJ l v w) {g:Nat} (hg:w.heap.size≤g):0<l.length→AG g v:=fun h0 a n c he=>by
 obtain⟨A,n',c',rfl,h1,h2,h3,h4,h5⟩:=h
 have hn:l.length=n':=by simpa using h3
 obtain⟨ad,rfl,hc⟩:=h4 (by omega)
 simp only[Value.slice.injEq,Option.some.injEq] at he
 obtain⟨rfl,_,_⟩:=he
 have h6:=hc 0 (U8 l[0]) (by simp[h0])
 rw[jb] at h6
 have:ad.block<w.heap.size:=by
  rcases Nat.lt_or_ge ad.block w.heap.size with h7|h7
  ·exact h7
  ·simp[World.cell?,Array.getElem?_eq_none h7] at h6
 omega
end Go.Rl
namespace Go.Rl
open Go.RowKit Go.Proofs
theorem Gr {w:World} {l:List UInt8} {v:Value} (hv:cJ l v w):
 Calls Tryz.prog 52 #[v] w (bE fun r w'=>aK w w'∧r=.agg ((j3 l).map U8).toArray):=by
 refine enter (vs:=[v]) Tryz.func52 E E E ?_
 obtain⟨g2,w1,hr,n2,x1,b2⟩:=aX (P:=Tryz.prog) (w:=w) (l:=(List.replicate 32 0).map U8) ip rfl
 refine af (aa (aT E hr (ag (ab (af (aa ?_))))))
 refine am (vs:=[]) zg E E (zh w1) ?_
 rintro _ w2 ⟨x2,g,hg,rfl,hA⟩
 refine ae E E (ag (ab (af (aa (ac E E (ac E E ?_))))))
 have e2:=x1.trans x2
 refine am gN E E (gO hA (hv.ext e2) (hv.old (Nat.le_trans x1.size hg))) ?_
 rintro _ w3 ⟨q3,h3⟩
 rw[List.nil_append,UInt64.zero_add] at h3
 have l2:g2<g:=Nat.lt_of_lt_of_le b2.lt hg
 have hwg:w.heap.size≤g:=by omega
 have e3:=e2.of_new q3 hwg
 have B3:=(b2.ext x2).other q3 (fun h=>by cases h;omega)
 refine ag (ab (af (aa (ac E E ?_))))
 refine am zi E E (zj h3) ?_
 rintro _ w4 ⟨x4,rfl⟩
 have hsz:(Tryz.prog.info? 24).map (·.size)=some ((j3 l).map U8).length:=by rw[List.length_map,dJ];exact jj
 have B4:=B3.ext x4
 refine au E E (j9 B4 (by simp[dJ]) hsz (tv _)) ?_
 refine ag (ab (aw ?_))
 refine dx E E (B4.row _) MK E hsz ?_
 exact⟨_,rfl,(e3.trans x4).of_new (bK _ _ _) n2,rfl⟩
end Go.Rl
namespace Go.Rl
open Go.RowKit
def oC:List UInt8:=List.replicate 32 0
theorem Cf {α:Type} {p:α→Bool} {l:List α} {i:Nat} (hi:i<l.length):(l.drop i).all p=(p l[i]&&(l.drop (i+1)).all p):=by
 rw[List.drop_eq_getElem_cons hi];rfl
end Go.Rl
namespace Go.Rl
open Go.RowKit
end Go.Rl
namespace Go.Rl
open Go.RowKit Go.Proofs
theorem EU {w:World} {l:List UInt8} {v:Value} (h:cJ l v w) (hl:l.length=32):∃ad,(∀w':World,(Instr.arrayAt 24 v).run Tryz.prog w'=.ok (.pointer (some ad)) w')∧eO w ad (l.map U8):=by
 obtain⟨A,n,c,rfl,h1,h2,h3,h4,h5⟩:=h
 have hn:n=32:=by simp at h3;omega
 subst hn
 obtain⟨ad,rfl,hc⟩:=h4 (by omega)
 exact⟨ad,fun w'=>by simp[Instr.arrayAt,run_underlying Tryz.underlying24],hc⟩
theorem vE {w:World} {l:List UInt8} {ad:Addr} (h:eO w ad (l.map U8)) (hl:l.length=32):(Instr.loadAt 24 (.pointer (some ad))).run Tryz.prog w=.ok (.agg (l.map U8).toArray) w:=
 h.ld MK rfl (by rw[List.length_map,hl];exact jj)
end Go.Rl
namespace Go.Rl
open Go.RowKit Go.Proofs
theorem u4:aG Tryz.prog 71:=⟨_,Tryz.func71,by kernel_rfl,rfl⟩
theorem Dx:aG Tryz.prog 70:=⟨_,Tryz.func70,by kernel_rfl,rfl⟩
theorem Cg:aG Tryz.prog 27:=⟨_,Tryz.func27,by kernel_rfl,rfl⟩
section
variable {w:World}
theorem eO.ldO {P:Program} {t:TypeId} {d:TypeDesc} {ad:Addr} {cs ms:List Value} {o:Nat} (h:eO w ad cs) (hm:∀j v,ms[j]? =some v→cs[o+j]? =some v) (ht:P.underlying t=some d) (hd:d.isRow=true) (hz:(P.info? t).map (·.size)=some ms.length):(Instr.loadAt t (.pointer (some (ad.add o)))).run P w=.ok (.agg ms.toArray) w:=
 eO.ld (ad:=ad.add o) (fun j u hu=>by rw[zN];exact h (o+j) u (hm j u hu)) ht hd hz
end
theorem EV {P:Program} {w:World} {x y:Operand} {t:TypeId} (ht:P.underlying t=some .bool) {a b:Bool}:(bin .neq t x y (B a) (B b)).run P w=.ok (B (decide (a≠b))) w:=by
 have h:(Op.equal t (B a) (B b)).run P w=.ok (decide (a=b)) w:=by
  show(Op.equalIn (9999+1) t (.bool a) (.bool b)).run P w=_
  unfold Op.equalIn
  cases a<;>cases b<;>simp[run_underlying ht]
 show(do pure (Value.bool (!(←Op.equal t (B a) (B b)))):Sem Value).run P w=_
 rw[Sem.run_bind,h]
 show Result.ok (Value.bool (!decide (a=b))) w=_
 rw[←decide_not];rfl
theorem Iq:Tryz.prog.eqGuardType Tryz.prog.depth 185=false:=by kernel_rfl
theorem JH {w:World} {x y:Operand} {a b c d:Int}:(bin .neq 185 x y (.agg #[I a,I b,I c,I d]) (.agg #[I a,I b,I c,I d])).run Tryz.prog w=.ok (B false) w:=by
 have h:(Op.equal 185 (.agg #[I a,I b,I c,I d]) (.agg #[I a,I b,I c,I d])).run Tryz.prog w=.ok true w:=by
  show(Op.equalIn (9999+1) 185 _ _).run Tryz.prog w=_
  rw[run_equalIn_struct w 9999 185 _ _ (by kernel_rfl) (by kernel_rfl)]
  simp only[Program.fieldsOf,Tryz.underlying185]
  simp[Op.eqFields,part,I,Tryz.underlying3,run_equalIn_int _ 9998 3 .i64 .i64]
 rw[Ce Iq,Sem.run_bind,h];rfl
theorem u5 {w:World} {l:List cg} {v u:Value} (hv:cC bP l v w) (hu:cC bP l u w):
 Calls Tryz.prog 71 #[v,u] w (bE fun r w'=>aK w w'∧r=B true):=by
 refine enter (vs:=[v,u]) Tryz.func71 E E E ?_
 have hll:=hv.len
 refine af (aa (ae E E (ag (ab (af (af (aa (ac E E (aO E E (a6 MH hv) (ac E E (aO E E (a6 MH hu) ?_)))))))))))
 refine al E E E (cY (fun h=>h E) cX) (ag (ab (cr E (aC (ab (af (af (aa (ae E E (ag (ab (aE ?_))))))))))))
 refine cf (α:=Nat) (fun x=>[(0,v),(1,u),(5,I (x:Int))]) (fun x w'=>aK w w'∧x≤l.length) (fun x=>l.length-x) (0) ⟨rfl,rfl,rfl,trivial⟩ ⟨aK.refl _,by omega⟩ ?_
 rintro i w4 ⟨e4,hi⟩
 refine af (af (aa (ac E E (ac E E (aO E E (a6 MH (hv.ext e4)) (al E E E (aV) (ag (ab ?_))))))))
 refine bz E (fun h14=>?_) (fun h14=>?_)
 ·refine aC (ab (af (aE (af (bI 24 [0,1,5,28,40] (by kernel_rfl) (by kernel_rfl) ?_)))))
  refine aA E E (aA E E ?_)
  obtain⟨a19,c19,p19,q19,h19⟩:=cd (P:=Tryz.prog) (sz:=7) MH (by kernel_rfl) dD (by omega) (hv.ext e4) (i:=i) (by omega) .i64
  obtain⟨e19,he19⟩:∃e,e=l[i]'(by omega):=⟨_,rfl⟩
  rw[←he19] at h19
  obtain⟨x19_0,x19_1,rfl,f19_0,f19_1⟩:=ib h19
  refine aF rfl rfl rfl (fun w _=>p19 w) (aW rfl rfl (fun w hw=>ij (o:=0) Tryz.underlying187 rfl (by kernel_rfl) rfl) (aP rfl rfl (fun w hw=>(q19.ext hw).ldO (ms:=[I e19.kd,I e19.ix,I e19.lo,I e19.hi]) (o:=0) (fun j v hj=>by rcases j with _|_|_|_|_|_|_|_|_|j<;>simp_all) Tryz.underlying185 rfl (by kernel_rfl)) ?_))
  refine aA E E (aA E E ?_)
  obtain⟨a24,c24,p24,q24,h24⟩:=cd (P:=Tryz.prog) (sz:=7) MH (by kernel_rfl) dD (by omega) (hu.ext e4) (i:=i) (by omega) .i64
  rw[←he19] at h24
  obtain⟨x24_0,x24_1,rfl,f24_0,f24_1⟩:=ib h24
  refine aF rfl rfl rfl (fun w _=>p24 w) (aW rfl rfl (fun w hw=>ij (o:=0) Tryz.underlying187 rfl (by kernel_rfl) rfl) (aP rfl rfl (fun w hw=>(q24.ext hw).ldO (ms:=[I e19.kd,I e19.ix,I e19.lo,I e19.hi]) (o:=0) (fun j v hj=>by rcases j with _|_|_|_|_|_|_|_|_|j<;>simp_all) Tryz.underlying185 rfl (by kernel_rfl)) ?_))
  refine bb E E E (fun w _=>JH) (aA E E (bo E E (aA E E (bo E E (aA E E (bo E E ?_))))))
  obtain⟨a31,c31,p31,q31,h31⟩:=cd (P:=Tryz.prog) (sz:=7) MH (by kernel_rfl) dD (by omega) (hv.ext e4) (i:=i) (by omega) .i64
  rw[←he19] at h31
  obtain⟨x31_0,x31_1,rfl,f31_0,f31_1⟩:=ib h31
  refine aF E E E (fun w _=>p31 w) (bo E E (aW E E (fun w hw=>ij (o:=4) MP E (by kernel_rfl) E) ?_))
  refine bo rfl rfl (aP rfl rfl (fun w hw=>(q31.ext hw).ldO (ms:=[B e19.co.1,x31_0,x31_1]) (o:=4) (fun j v hj=>by rcases j with _|_|_|_|_|_|_|_|_|j<;>simp_all) Tryz.underlying46 rfl (by kernel_rfl)) ?_)
  refine bo E E (aA E E (bo E E (aA E E (bo E E ?_))))
  obtain⟨a36,c36,p36,q36,h36⟩:=cd (P:=Tryz.prog) (sz:=7) MH (by kernel_rfl) dD (by omega) (hu.ext e4) (i:=i) (by omega) .i64
  rw[←he19] at h36
  obtain⟨x36_0,x36_1,rfl,f36_0,f36_1⟩:=ib h36
  refine aF E E E (fun w _=>p36 w) (bo E E (aW E E (fun w hw=>ij (o:=4) MP E (by kernel_rfl) E) ?_))
  refine bo rfl rfl (aP rfl rfl (fun w hw=>(q36.ext hw).ldO (ms:=[B e19.co.1,x36_0,x36_1]) (o:=4) (fun j v hj=>by rcases j with _|_|_|_|_|_|_|_|_|j<;>simp_all) Tryz.underlying46 rfl (by kernel_rfl)) ?_)
  refine bo rfl rfl (cn (S:=Is (B true)) nH (cb.is _) rfl (fun w hw=>by rintro _ rfl _ rfl;exact bE.mono (Ds (a:=e19.co) (b:=e19.co) (f31_0.ext hw) (f31_1.ext hw) (f36_0.ext hw) (f36_1.ext hw)) fun v w' h=>⟨h.1,by rw[h.2,decide_eq_true rfl];rfl⟩) ?_)
  refine bo E E (vO E E (fun w _=>bu) (cq ?_))
  intro wg6 xg6
  rintro _ hq0
  obtain rfl:=Eq.symm hq0
  rintro _ hq1
  obtain rfl:=Eq.symm hq1
  rintro _ rfl
  rintro _ rfl
  rintro _ rfl
  refine aD E E E (ag (ab (cr E (aC (aS (ab (aa (ac E E (al (r:=I ((i+1:Nat):Int)) E E E (by have e:((i+1:Nat):Int)=(i:Int)+1:=(by omega);rw[e];exact aN (by omega) (by omega)) ?_)))))))))
  refine ae E E (ag ?_)
  refine bR (i+1) ⟨rfl,rfl,rfl,trivial⟩ ⟨(e4.trans xg6),by omega⟩ (by omega)
 ·refine bc (aI (aI (be (ab (af (aa (ae E E (ag (ab (aw (az E E ?_)))))))))))
  exact⟨_,rfl,e4,rfl⟩
theorem Ch {w:World} {a:ft} {x y p q:Value} (ha:bm a.2.1 x w) (ha':bm a.2.2 y w) (hb:bm a.2.1 p w) (hb':bm a.2.2 q w):
 Calls Tryz.prog 105 #[.agg #[B a.1,x,y],.agg #[B a.1,p,q]] w (bE fun r w'=>aK w w'∧r=B true):=
 bE.mono (Ds (a:=a) (b:=a) ha ha' hb hb') fun v w' h=>⟨h.1,by rw[h.2,decide_eq_true rfl]⟩
theorem Gs {w:World} {a:bU} {x y p q:Value} (ha:bm a.at_.2.1 x w) (ha':bm a.at_.2.2 y w) (hb:bm a.at_.2.1 p w) (hb':bm a.at_.2.2 q w):
 Calls Tryz.prog 69 #[.agg #[I a.kd,I a.ix,B a.at_.1,x,y],.agg #[I a.kd,I a.ix,B a.at_.1,p,q]] w (bE fun r w'=>aK w w'∧r=B true):=
 bE.mono (uq (a:=a) (b:=a) ha ha' hb hb') fun v w' h=>⟨h.1,by rw[h.2,decide_eq_true rfl]⟩
set_option maxHeartbeats 2000000 in
theorem Dy {w:World} {l:List dN} {v u:Value} (hv:cC dc l v w) (hu:cC dc l u w):
 Calls Tryz.prog 70 #[v,u] w (bE fun r w'=>aK w w'∧r=B true):=by
 refine enter (vs:=[v,u]) Tryz.func70 E E E ?_
 have hll:=hv.len
 refine af (aa (ae E E (ag (ab (af (af (aa (ac E E (aO E E (a6 MG hv) (ac E E (aO E E (a6 MG hu) ?_)))))))))))
 refine al E E E (cY (fun h=>h E) cX) (ag (ab (cr E (aC (ab (af (af (aa (ae E E (ag (ab (aE ?_))))))))))))
 refine cf (α:=Nat) (fun x=>[(0,v),(1,u),(5,I (x:Int))]) (fun x w'=>aK w w'∧x≤l.length) (fun x=>l.length-x) (0) ⟨rfl,rfl,rfl,trivial⟩ ⟨aK.refl _,by omega⟩ ?_
 rintro i w4 ⟨e4,hi⟩
 refine af (af (aa (ac E E (ac E E (aO E E (a6 MG (hv.ext e4)) (al E E E (aV) (ag (ab ?_))))))))
 refine bz E (fun h14=>?_) (fun h14=>?_)
 ·refine aC (ab (af (aE (af (bI 51 [0,1,5,55,67] (by kernel_rfl) (by kernel_rfl) ?_)))))
  refine aA (S:=Is (v)) E E (aA (S:=Is (I (i:Int))) E E ?_)
  obtain⟨a19,c19,p19,q19,h19⟩:=cd (P:=Tryz.prog) (sz:=6) MG (by kernel_rfl) cH (by omega) (hv.ext e4) (i:=i) (by omega) .i64
  obtain⟨e19,he19⟩:∃e,e=l[i]'(by omega):=⟨_,rfl⟩
  rw[←he19] at h19
  obtain⟨x19_0,x19_1,x19_2,rfl,f19_0,f19_1,f19_2⟩:=fO h19
  refine aF E E E (fun w _=>p19 w) (aW E E (fun w hw=>ij (o:=0) MI E (by kernel_rfl) E) ?_)
  refine aP E E (fun w hw=>aj Mx E (hw.cell_some (q19.at (j:=0) E))) (aA (S:=Is (u)) E E (aA (S:=Is (I (i:Int))) E E ?_))
  obtain⟨a24,c24,p24,q24,h24⟩:=cd (P:=Tryz.prog) (sz:=6) MG (by kernel_rfl) cH (by omega) (hu.ext e4) (i:=i) (by omega) .i64
  rw[←he19] at h24
  obtain⟨x24_0,x24_1,x24_2,rfl,f24_0,f24_1,f24_2⟩:=fO h24
  refine aF E E E (fun w _=>p24 w) (aW E E (fun w hw=>ij (o:=0) MI E (by kernel_rfl) E) ?_)
  refine aP E E (fun w hw=>aj Mx E (hw.cell_some (q24.at (j:=0) E))) (bb E E E (fun w _=>cY (fun h=>h E) cX) ?_)
  refine aA (S:=Is (B false)) E E (bo E E (aA (S:=Is (v)) E E (bo E E (aA (S:=Is (I (i:Int))) E E (bo E E (aF E E E (fun w _=>p19 w) ?_))))))
  refine bo E E (aW E E (fun w hw=>ij (o:=1) MI E (by kernel_rfl) E) (bo E E (aP E E (fun w hw=>aj MD E (hw.cell_some (q19.at (j:=1) E))) ?_)))
  refine bo E E (aA (S:=Is (u)) E E (bo E E (aA (S:=Is (I (i:Int))) E E (bo E E (aF E E E (fun w _=>p24 w) (bo E E ?_))))))
  refine aW E E (fun w hw=>ij (o:=1) MI E (by kernel_rfl) E) (bo E E (aP E E (fun w hw=>aj MD E (hw.cell_some (q24.at (j:=1) E))) ?_))
  refine bo E E (bb E E E (fun w _=>cY (fun h=>h E) (EV MD)) (oW (S:=Is (B false)) E E E (aA (S:=Is (B false)) E E ?_)))
  refine bo E E (aA (S:=Is (v)) E E (bo E E (aA (S:=Is (I (i:Int))) E E (bo E E (aF E E E (fun w _=>p19 w) (bo E E ?_))))))
  refine aW rfl rfl (fun w hw=>ij (o:=2) Tryz.underlying173 rfl (by kernel_rfl) rfl) (bo rfl rfl (aP rfl rfl (fun w hw=>(q19.ext hw).ldO (ms:=[B e19.va.1,x19_0,x19_1]) (o:=2) (fun j v hj=>by rcases j with _|_|_|_|_|_|_|_|_|j<;>simp_all) Tryz.underlying46 rfl (by kernel_rfl)) ?_))
  refine bo E E (aA (S:=Is (u)) E E (bo E E (aA (S:=Is (I (i:Int))) E E (bo E E (aF E E E (fun w _=>p24 w) (bo E E ?_))))))
  refine aW rfl rfl (fun w hw=>ij (o:=2) Tryz.underlying173 rfl (by kernel_rfl) rfl) (bo rfl rfl (aP rfl rfl (fun w hw=>(q24.ext hw).ldO (ms:=[B e19.va.1,x24_0,x24_1]) (o:=2) (fun j v hj=>by rcases j with _|_|_|_|_|_|_|_|_|j<;>simp_all) Tryz.underlying46 rfl (by kernel_rfl)) ?_))
  refine bo rfl rfl (cn (S:=Is (B true)) nH (cb.is _) rfl (fun w hw=>by rintro _ rfl _ rfl;exact Ch (a:=e19.va) (f19_0.ext hw) (f19_1.ext hw) (f24_0.ext hw) (f24_1.ext hw)) ?_)
  refine bo E E (vO E E (fun w _=>bu) (oW (S:=Is (B false)) E E E (aA (S:=Is (B false)) E E (bo E E (aA (S:=Is (v)) E E ?_)))))
  refine bo E E (aA (S:=Is (I (i:Int))) E E (bo E E (aF E E E (fun w _=>p19 w) (bo E E (aW E E (fun w hw=>ij (o:=5) MI E (by kernel_rfl) E) ?_)))))
  refine bo E E (aP E E (fun w hw=>aj MH E (hw.cell_some (q19.at (j:=5) E))) (bo E E (aA (S:=Is (u)) E E ?_)))
  refine bo E E (aA (S:=Is (I (i:Int))) E E (bo E E (aF E E E (fun w _=>p24 w) (bo E E (aW E E (fun w hw=>ij (o:=5) MI E (by kernel_rfl) E) ?_)))))
  refine bo rfl rfl (aP rfl rfl (fun w hw=>aj MH rfl (hw.cell_some (q24.at (j:=5) rfl))) (bo rfl rfl (cn (S:=Is (B true)) u4 (cb.is _) rfl (fun w hw=>by rintro _ rfl _ rfl;exact u5 (l:=e19.pf) (f19_2.ext hw) (f24_2.ext hw)) ?_)))
  refine bo E E (vO E E (fun w _=>bu) (cq ?_))
  intro wg6 xg6
  rintro _ hq0
  obtain rfl:=Eq.symm hq0
  rintro _ hq1
  obtain rfl:=Eq.symm hq1
  rintro _ rfl
  rintro _ rfl
  rintro _ rfl
  refine aD E E E (ag (ab (cr E (aC (aS (ab (aa (ac E E (al (r:=I ((i+1:Nat):Int)) E E E (by have e:((i+1:Nat):Int)=(i:Int)+1:=(by omega);rw[e];exact aN (by omega) (by omega)) ?_)))))))))
  refine ae E E (ag ?_)
  refine bR (i+1) ⟨rfl,rfl,rfl,trivial⟩ ⟨(e4.trans xg6),by omega⟩ (by omega)
 ·refine bc (aI (aI (be (ab (af (aa (ae E E (ag (ab (aw (az E E ?_)))))))))))
  exact⟨_,rfl,e4,rfl⟩
theorem aY.lt_of_mem {n k:aY} (h:k∈n.kids):SizeOf.sizeOf k<SizeOf.sizeOf n:=by
 cases n with
 |mk l s ks e p=>
  have h:k∈ks:=h
  have:=List.sizeOf_lt_of_mem h
  simp only[aY.mk.sizeOf_spec]
  omega
theorem Ir {w:World} {n:aY} {vl x y vk vp ul p q uk up:Value} (ih:∀k∈n.kids,∀{w:World} {vl x y vk vp ul p q uk up:Value},cC dc k.lems vl w→bm k.split.at_.2.1 x w→bm k.split.at_.2.2 y w→cC bG k.kids vk w→cC bP k.pf vp w→cC dc k.lems ul w→bm k.split.at_.2.1 p w→bm k.split.at_.2.2 q w→cC bG k.kids uk w→cC bP k.pf up w→
 Calls Tryz.prog 27 #[.agg #[vl,I k.split.kd,I k.split.ix,B k.split.at_.1,x,y,vk,B k.empty,vp],.agg #[ul,I k.split.kd,I k.split.ix,B k.split.at_.1,p,q,uk,B k.empty,up]] w (bE fun r w'=>aK w w'∧r=B true))
 (hl:cC dc n.lems vl w) (hx:bm n.split.at_.2.1 x w) (hy:bm n.split.at_.2.2 y w) (hk:cC bG n.kids vk w) (hp:cC bP n.pf vp w) (hl':cC dc n.lems ul w) (hx':bm n.split.at_.2.1 p w) (hy':bm n.split.at_.2.2 q w) (hk':cC bG n.kids uk w) (hp':cC bP n.pf up w):
 Calls Tryz.prog 27 #[.agg #[vl,I n.split.kd,I n.split.ix,B n.split.at_.1,x,y,vk,B n.empty,vp],.agg #[ul,I n.split.kd,I n.split.ix,B n.split.at_.1,p,q,uk,B n.empty,up]] w (bE fun r w'=>aK w w'∧r=B true):=by
 refine enter (vs:=[.agg #[vl,I n.split.kd,I n.split.ix,B n.split.at_.1,x,y,vk,B n.empty,vp],.agg #[ul,I n.split.kd,I n.split.ix,B n.split.at_.1,p,q,uk,B n.empty,up]]) Tryz.func27 E E E ?_
 have hll:=hk.len
 refine af (aa ?_)
 obtain⟨g2,w2,hr2,l2,x2,k2⟩:=cK (P:=Tryz.prog) (w:=w) (T:=52) (cs:=[vl,I n.split.kd,I n.split.ix,B n.split.at_.1,x,y,vk,B n.empty,vp])
 refine cM E E hr2 ?_
 obtain⟨g3,w3,hr3,l3,x3,k3⟩:=cK (P:=Tryz.prog) (w:=w2) (T:=52) (cs:=[ul,I n.split.kd,I n.split.ix,B n.split.at_.1,p,q,uk,B n.empty,up])
 refine cM E E hr3 (ae E E (ag (ab (af (af (aa (ah E E (ar (o:=7) Mt E (by kernel_rfl) E) ?_)))))))
 refine ak E E (aj MD E (x3.cell_some (k2.cell (i:=7) E))) (ah E E (ar (o:=7) Mt E (by kernel_rfl) E) ?_)
 refine ak E E (aj MD E (k3.cell (i:=7) E)) (al E E E (cY (fun h=>h E) (EV MD)) ?_)
 refine ac rfl rfl (ai rfl (ah rfl rfl (ar (o:=1) Tryz.underlying52 rfl (by kernel_rfl) rfl) (ai rfl (ak rfl rfl ((k2.ext x3).ldO (ms:=[I n.split.kd,I n.split.ix,B n.split.at_.1,x,y]) (o:=1) (fun j v hj=>by rcases j with _|_|_|_|_|_|_|_|_|j<;>simp_all) Tryz.underlying48 rfl (by kernel_rfl)) ?_))))
 refine ai rfl (ah rfl rfl (ar (o:=1) Tryz.underlying52 rfl (by kernel_rfl) rfl) (ai rfl (ak rfl rfl (k3.ldO (ms:=[I n.split.kd,I n.split.ix,B n.split.at_.1,p,q]) (o:=1) (fun j v hj=>by rcases j with _|_|_|_|_|_|_|_|_|j<;>simp_all) Tryz.underlying48 rfl (by kernel_rfl)) ?_)))
 refine ai E (am uo E E ((Gs (a:=n.split) (hx.ext (x2.trans x3)) (hy.ext (x2.trans x3)) (hx'.ext (x2.trans x3)) (hy'.ext (x2.trans x3)))) ?_)
 rintro v16 w16 ⟨x16,rfl⟩
 refine ai E (bt E E bu (aD E E E (ac E E (ai E (ah E E (ar (o:=0) Mt E (by kernel_rfl) E) ?_)))))
 refine ai E (ak E E (aj MG E ((x3.trans x16).cell_some (k2.cell (i:=0) E))) (ai E (ah E E (ar (o:=0) Mt E (by kernel_rfl) E) ?_)))
 refine ai E (ak E E (aj MG E (x16.cell_some (k3.cell (i:=0) E))) (ai E (am Dx E E ((Dy (hl.ext ((x2.trans x3).trans x16)) (hl'.ext ((x2.trans x3).trans x16)))) ?_)))
 rintro v24 w24 ⟨x24,rfl⟩
 refine ai E (bt E E bu (aD E E E (ac E E (ai E (ah E E (ar (o:=8) Mt E (by kernel_rfl) E) ?_)))))
 refine ai E (ak E E (aj MH E (((x3.trans x16).trans x24).cell_some (k2.cell (i:=8) E))) (ai E (ah E E (ar (o:=8) Mt E (by kernel_rfl) E) ?_)))
 refine ai E (ak E E (aj MH E ((x16.trans x24).cell_some (k3.cell (i:=8) E))) (ai E (am u4 E E ((u5 (hp.ext (((x2.trans x3).trans x16).trans x24)) (hp'.ext (((x2.trans x3).trans x16).trans x24)))) ?_)))
 rintro v32 w32 ⟨x32,rfl⟩
 refine ai E (bt E E bu (aD E E E (ac E E (ai E (ah E E (ar (o:=6) Mt E (by kernel_rfl) E) ?_)))))
 refine ai E (ak E E (aj MF E ((((x3.trans x16).trans x24).trans x32).cell_some (k2.cell (i:=6) E))) (ai E (aO E E (a6 MF (hk.ext ((((x2.trans x3).trans x16).trans x24).trans x32))) ?_)))
 refine ai E (ah E E (ar (o:=6) Mt E (by kernel_rfl) E) (ai E (ak E E (aj MF E (((x16.trans x24).trans x32).cell_some (k3.cell (i:=6) E))) ?_)))
 refine ai E (aO E E (a6 MF (hk'.ext ((((x2.trans x3).trans x16).trans x24).trans x32))) (ai E (al E E E (cY (fun h=>h E) cX) ?_)))
 refine aD E E E (ag (ab (cr E (aC (ab (af (af (aa (ae E E (ag (ab (aE ?_))))))))))))
 refine cf (α:=Nat) (fun x=>[(2,.pointer (some ⟨g2,0,none⟩)),(3,.pointer (some ⟨g3,0,none⟩)),(5,I (x:Int))]) (fun x w'=>aK w w'∧aK w32 w'∧x≤n.kids.length) (fun x=>n.kids.length-x) (0) ⟨rfl,rfl,rfl,trivial⟩ ⟨((((x2.trans x3).trans x16).trans x24).trans x32),aK.refl _,by omega⟩ ?_
 rintro i w4 ⟨e4,e10,hi⟩
 refine af (af (aa (ac E E (ah E E (ar (o:=6) Mt E (by kernel_rfl) E) (ak E E (aj MF E (((((x3.trans x16).trans x24).trans x32).trans e10).cell_some (k2.cell (i:=6) E))) ?_)))))
 refine aO E E (a6 MF (hk.ext e4)) (al E E E (aV) (ag (ab ?_)))
 refine bz E (fun h48=>?_) (fun h48=>?_)
 ·refine aC (ab (af (aE (af (bI 11 [2,3,5,61] (by kernel_rfl) (by kernel_rfl) ?_)))))
  refine aW E E (fun w hw=>ar (o:=6) Mt E (by kernel_rfl) E) (aP E E (fun w hw=>aj MF E (hw.cell_some (((((x3.trans x16).trans x24).trans x32).trans e10).cell_some (k2.cell (i:=6) E)))) ?_)
  refine aA E E ?_
  obtain⟨a54,c54,p54,q54,h54⟩:=cd (P:=Tryz.prog) (sz:=9) MF (by kernel_rfl) cG (by omega) (hk.ext e4) (i:=i) (by omega) .i64
  obtain⟨e54,he54⟩:∃e,e=n.kids[i]'(by omega):=⟨_,rfl⟩
  rw[←he54] at h54
  obtain⟨x54_0,x54_1,x54_2,x54_3,x54_4,rfl,f54_0,f54_1,f54_2,f54_3,f54_4⟩:=d9 h54
  refine aF E E E (fun w _=>p54 w) (aP E E (fun w hw=>(q54.ext hw).ld Mt E (by kernel_rfl)) (aW E E (fun w hw=>ar (o:=6) Mt E (by kernel_rfl) E) ?_))
  refine aP E E (fun w hw=>aj MF E (hw.cell_some ((((x16.trans x24).trans x32).trans e10).cell_some (k3.cell (i:=6) E)))) ?_
  refine aA E E ?_
  obtain⟨a59,c59,p59,q59,h59⟩:=cd (P:=Tryz.prog) (sz:=9) MF (by kernel_rfl) cG (by omega) (hk'.ext e4) (i:=i) (by omega) .i64
  rw[←he54] at h59
  obtain⟨x59_0,x59_1,x59_2,x59_3,x59_4,rfl,f59_0,f59_1,f59_2,f59_3,f59_4⟩:=d9 h59
  refine aF rfl rfl rfl (fun w _=>p59 w) (aP rfl rfl (fun w hw=>(q59.ext hw).ld Mt rfl (by kernel_rfl)) (cn (S:=Is (B true)) Cg (cb.is _) rfl (fun w hw=>by rintro _ rfl _ rfl;exact ih e54 (by rw[he54];exact List.getElem_mem _) (f54_0.ext hw) (f54_1.ext hw) (f54_2.ext hw) (f54_3.ext hw) (f54_4.ext hw) (f59_0.ext hw) (f59_1.ext hw) (f59_2.ext hw) (f59_3.ext hw) (f59_4.ext hw)) ?_))
  refine cq ?_
  intro wg6 xg6
  rintro _ rfl
  rintro _ rfl
  rintro _ rfl
  rintro _ rfl
  refine bt E E bu (ag (ab (cr E (aC (aS (ab (aa (ac E E (al (r:=I ((i+1:Nat):Int)) E E E (by have e:((i+1:Nat):Int)=(i:Int)+1:=(by omega);rw[e];exact aN (by omega) (by omega)) ?_)))))))))
  refine ae E E (ag ?_)
  refine bR (i+1) ⟨rfl,rfl,rfl,trivial⟩ ⟨(e4.trans xg6),(e10.trans xg6),by omega⟩ (by omega)
 ·refine bc (aI (aI (be (ab (af (aa (ae E E (ag (ab (aw (az E E ?_)))))))))))
  exact⟨_,rfl,e4,rfl⟩
theorem Ci:∀(m:Nat) {n:aY},SizeOf.sizeOf n≤m→∀{w:World} {vl x y vk vp ul p q uk up:Value},cC dc n.lems vl w→bm n.split.at_.2.1 x w→bm n.split.at_.2.2 y w→cC bG n.kids vk w→cC bP n.pf vp w→cC dc n.lems ul w→bm n.split.at_.2.1 p w→bm n.split.at_.2.2 q w→cC bG n.kids uk w→cC bP n.pf up w→
 Calls Tryz.prog 27 #[.agg #[vl,I n.split.kd,I n.split.ix,B n.split.at_.1,x,y,vk,B n.empty,vp],.agg #[ul,I n.split.kd,I n.split.ix,B n.split.at_.1,p,q,uk,B n.empty,up]] w (bE fun r w'=>aK w w'∧r=B true)
 |0,n,hm=>by cases n;simp at hm
 |m+1,n,hm=>fun h1 h2 h3 h4 h5 h6 h7 h8 h9 h10=>Ir (fun k hk _ _ _ _ _ _ _ _ _ _ _=>Ci m (by have:=aY.lt_of_mem hk;omega)) h1 h2 h3 h4 h5 h6 h7 h8 h9 h10
end Go.Rl
namespace Go.Rl
open Go.RowKit Go.Proofs
def KB (n d:Int):Bool:=decide (0<n∧n≤16384∧n%d=0)
def small (l:List ft):Prop:=∀q∈l,q.2.1.length≤1073741824∧q.2.2.length≤1073741824
def KC (l:wX):Bool:=decide ((1≤l.kh∧l.kh≤64)∧(1≤l.kw∧l.kw≤64)∧(1≤l.sr∧l.sr≤64))
def It (l:wX):Bool:=decide ((l.ws.length:Int)=0∧(l.bs.length:Int)=0)
def Iu (l:wX):Bool:=decide (l.kh=0∧l.kw=0∧l.sr=0∧l.pd=0)
def Me (l:wX) (i:Int):Prop:=
 if l.kd=1 then Iu l=true∧l.fr=0∧(1≤l.ou∧l.ou≤16384)∧(l.bs.length:Int)=l.ou∧KB l.ws.length l.ou=true
 else if l.kd=2 then KC l=true∧l.fr=0∧l.pd≥0∧l.pd<l.kh∧l.pd<l.kw∧(1≤l.ou∧l.ou≤16384)∧(l.bs.length:Int)=l.ou∧KB l.ws.length (l.ou*l.kh*l.kw)=true
 else if l.kd=3∨l.kd=4 then KC l=true∧l.fr=0∧l.pd=0∧l.ou=0∧It l=true
 else if l.kd=5∨l.kd=6 then Iu l=true∧l.fr=0∧l.ou=0∧It l=true
 else if l.kd=7 then Iu l=true∧(-1≤l.fr∧l.fr≤i-1)∧l.ou=0∧It l=true
 else False
instance (l:wX) (i:Int):Decidable (Me l i):=by unfold Me;infer_instance
end Go.Rl
namespace Go.Rl
open Go.RowKit Go.Proofs
end Go.Rl
namespace Go.Rl
open Go.RowKit Go.Proofs
end Go.Rl
namespace Go.Rl
open Go.RowKit
section
variable {P:Program} {ops:Array Oper} {Env:World→Prop} {Rl:World→World→Prop} {mo:Bool} {Pn:List PanicEntry→World→Prop} {N:Nat}
def EW (ops:Array Oper) (n:Nat):Bool:=
 (List.range n).all fun i=>decide (i=0)||(List.range (n+1)).any fun j=>decide (i<j)&&Region.waitsFor .any ops j i
theorem Cj {n:Nat} {listed:Array Bool} (hs:EW ops n=true) (hc:Al ops n=true) (inv:HeadInv .any ops n listed):
 ∀(d i:Nat),n-i=d→0<i→i<n→listed.getD i true=false→∀t,n≤t→t∉Region.ready .any ops listed:=by
 intro d
 induction d using Nat.strongRecOn with
 |_ d ih=>
  intro i hd h0 hi hun t ht hr
  obtain⟨_,ot,hot,hall⟩:=mem_ready.1 hr
  have htlt:t<ops.size:=(Array.getElem?_eq_some_iff.1 hot).1
  by_cases htn:t=n
  ·subst htn
   have h1:=List.all_eq_true.1 hs i (List.mem_range.2 hi)
   simp only[Bool.or_eq_true,decide_eq_true_eq] at h1
   obtain⟨j,hj,hj2⟩:=List.any_eq_true.1 (h1.resolve_left (by omega))
   simp only[Bool.and_eq_true,decide_eq_true_eq] at hj2
   obtain⟨oj,hoj,e,he,hb,hon⟩:=Region.waitsFor_spec hj2.2
   have hjle:j≤t:=by have:=List.mem_range.1 hj;omega
   by_cases hjt:j=t
   ·subst hjt
    have:oj=ot:=Option.some.inj (hoj.symm.trans hot)
    subst this
    have h2:=hall e he hb
    rw[hon,getD_both hun] at h2
    cases h2
   ·cases hl:listed.getD j false with
    |true=>
     have h2:=inv.closed j oj hoj hl e he hb
     rw[hon,getD_both hun] at h2
     cases h2
    |false=>
     have hjs:j<listed.size:=by rw[inv.size];omega
     exact ih (t-j) (by omega) j rfl (by omega) (by omega) (getD_in hjs hl) t (Nat.le_refl _) hr
  ·have h1:=List.all_eq_true.1 hc t (List.mem_range.2 htlt)
   simp only[Bool.or_eq_true,decide_eq_true_eq] at h1
   rcases h1 with h1|h1
   ·omega
   ·obtain⟨j,hj,hj2⟩:=List.any_eq_true.1 h1
    simp only[Bool.and_eq_true,decide_eq_true_eq] at hj2
    have hjt:=List.mem_range.1 hj
    obtain⟨o',ho',e,he,hb,hon⟩:=Region.waitsFor_spec hj2.2
    have:o'=ot:=Option.some.inj (ho'.symm.trans hot)
    subst this
    have h2:=hall e he hb
    rw[hon,getD_both (inv.tail j hj2.1 (by omega))] at h2
    cases h2
theorem yj {n i:Nat} {oi:Oper} {S:dP} {L:Array Bool→dg→nk→Prop} (hi:ops[i]? =some oi) (hcalls:mo=true→lO .any ops=true)
 (hs:EW ops n=true) (hc:Al ops n=true) (hi0:0<i) (hin:i<n)
 (hdone:∀listed F Z,L listed F Z→∀j∈Region.ready .any ops listed,n≤j):
 ∀(f:Nat) (listed:Array Bool) (F:dg) (Z Z':nk),HeadInv .any ops n listed→
  (∀j oj,ops[j]? =some oj→j≠i→listed.getD j true=false→(∀e∈oj.after,Region.binds .any e=true→e.on≠i)→oi.apart ops oj=true)→
  i∈Region.ready .any ops listed→gt P ops Env Rl mo Pn N F Z oi S Z'→
  lN P .any ops Env Rl mo Pn N n L f (listed.setIfInBounds i true) (kK F oi.dst S) Z'→lN P .any ops Env Rl mo Pn N n L (f+1) listed F Z:=
 qV hi hcalls hin (fun _ inv hun t ht=>Cj hs hc inv _ i rfl hi0 hin hun t ht) hdone
theorem u6 {n:Nat} {perm:List Nat} {Lq:dg→nk→Prop} (hcalls:mo=true→lO .any ops=true) (hs:EW ops n=true) (hc:Al ops n=true):
 ∀(l:List Oper) (k:Nat) (listed:Array Bool) (F:dg) (Z:nk),0<k→(∀j,j<l.length→l[j]? =ops[k+j]?)→k+l.length=n→HeadInv .any ops n listed→
 pl ops n perm l.length k listed=true→(∀t,cW Rl (F t))→ek Z→ie P ops Env Rl mo Pn N l F Z Lq→
 lN P .any ops Env Rl mo Pn N n (fun listed' F' Z'=>(ug ops perm listed'=true∧(Region.ready .any ops listed').all (fun j=>decide (n≤j))=true)∧Lq F' Z') l.length listed F Z
 |[],k,listed,F,Z,_,_,hk,_,hB,_,_,h=>by
  simp only[List.length_nil,pl,Bool.and_eq_true] at hB
  exact⟨hB,h⟩
 |o::l,k,listed,F,Z,hk0,hl,hk,inv,hB,hF,hZ,h=>by
  have h0:ops[k]? =some o:=by simpa using(hl 0 (by simp)).symm
  simp only[List.length_cons,pl,Bool.and_eq_true] at hB
  obtain⟨⟨hr,hf⟩,hB'⟩:=hB
  have hkn:k<n:=by simp only[List.length_cons] at hk;omega
  have hr':k∈Region.ready .any ops listed:=by simpa using hr
  obtain⟨S,Z',hspec,hrest⟩:=h hF hZ
  exact yj h0 hcalls hs hc hk0 hkn (fun listed' F' Z' hL j hj=>by simpa using List.all_eq_true.1 hL.1.2 j hj) l.length listed F Z Z' inv (Region.free_spec h0 hf) hr' hspec
   (u6 hcalls hs hc l (k+1) _ _ _ (by omega) (fun j hj=>by have:=hl (j+1) (by simp;omega);simpa [Nat.add_assoc,Nat.add_comm 1 j] using this) (by simp only[List.length_cons] at hk;omega) (inv.set hr' hkn) hB' (rg hF hspec.stable) (hspec.zst hZ) hrest)
def KD (ops:Array Oper) (n:Nat) (perm:List Nat):Bool:=
 Region.noSelect ops&&decide (0<n)&&decide (n<ops.size)&&EW ops n&&Al ops n&&decide (n+perm.length=ops.size)&&Region.free .any ops (Array.replicate ops.size false) 0&&(Region.ready .any ops (Array.replicate ops.size false)).contains 0&&pl ops n perm (n-1) 1 ((Array.replicate ops.size false).setIfInBounds 0 true)
theorem vF {Q:ja} {D:List Deferred} {l:Fr} {w:World} {id d:Nat} {x:Operand} {v:Value} {ty:TypeId} {pos:String} {aft:Array Edge} {os:List Oper} (n:Nat) (perm:List Nat) (ts:List Nat) (hm:P.follows .mixedOrders=true)
 (hB:KD ((⟨some d,.move x,ty,pos,aft,none⟩:Oper)::os).toArray n perm=true) (hp:(perm.all fun i=>decide (i<os.length+1))=true) (hx:ev l x=some v) (hd:Nat.blt d N=true)
 (h:ie P ((⟨some d,.move x,ty,pos,aft,none⟩:Oper)::os).toArray (aK w) aK false KI N (os.take (n-1)) (A4 ((d,v)::l)) (fun _=>True) (fun F _=>∀w',aK w w'→mh F w' ts (fun l'=>cI P ((⟨some d,.move x,ty,pos,aft,none⟩:Oper)::os).toArray (pb Q) N D l' w' (Dm ((⟨some d,.move x,ty,pos,aft,none⟩:Oper)::os) perm)))):dQ P Q N D l w (.region id ((⟨some d,.move x,ty,pos,aft,none⟩:Oper)::os).toArray true):=fun a ha=>by
 obtain⟨o,ho⟩:∃o:Oper,o=⟨some d,.move x,ty,pos,aft,none⟩:=⟨_,rfl⟩
 rw[←ho] at hB h⊢
 have ha':=ha.put hd v
 have hsat:Eh N D (A4 ((d,v)::l)) (a.put (some d) v) {w with drawn:=w.drawn+1}:=⟨ha'.size,ha'.defers,fun t=>by
  show A4 ((d,v)::l) t ((a.put (some d) v).tmps.getD t undef) _
  unfold A4
  cases hv:lk ((d,v)::l) t with
  |some v=>exact ha'.at_ t v hv
  |none=>trivial⟩
 simp only[KD,Bool.and_eq_true,decide_eq_true_eq] at hB
 obtain⟨⟨⟨⟨⟨⟨⟨⟨hsel,hn0⟩,hn⟩,hs⟩,hc⟩,hlen⟩,hf⟩,hr⟩,hlex⟩:=hB
 have hn':n<os.length+1:=by simpa using hn
 have htl:(os.take (n-1)).length=n-1:=by simp;omega
 have h00:(o::os).toArray[0]? =some o:=by simp
 have inv0:HeadInv .any (o::os).toArray n (Array.replicate (o::os).toArray.size false):=
  ⟨by simp,fun j oj _ hl=>(by rw[getD_replicate_false] at hl;cases hl),fun t _ ht=>getD_in (by simpa using ht) (getD_replicate_false _ _)⟩
 have hr':0∈Region.ready .any (o::os).toArray (Array.replicate (o::os).toArray.size false):=by simpa using hr
 have H:=u6 (perm:=perm) (fun h=>by cases h) hs hc (os.take (n-1)) 1 _ _ _ (by omega) (fun j hj=>by
  have hj':j<n-1:=by rw[htl] at hj;exact hj
  simp[hj',Nat.add_comm 1 j]) (by rw[htl];omega) (inv0.set hr' (by omega)) (by rw[htl];exact hlex) (kZ _) ek.triv (mg _ _ _ (fun F Z hK a' w' he hs=>by
   obtain⟨l',hl',hk⟩:=mh.use hs (hK w' he)
   exact hk a' hl':∀F (Z:nk),_→(∀a' w',aK w w'→Eh N D F a' w'→wpList P (o::os).toArray (pb Q) (Dm (o::os) perm) a' w')) h)
 have hpick:∀(perm:List Nat),(perm.all fun i=>decide (i<(o::os).length))=true→(perm.map fun i=>(o::os).toArray[i]?)=(Dm (o::os) perm).map some:=by
  intro perm
  induction perm with
  |nil=>intro _;rfl
  |cons i is ih=>
   intro hp
   simp only[List.all_cons,Bool.and_eq_true,decide_eq_true_eq] at hp
   have e:(o::os)[i]? =some (o::os)[i]:=List.getElem?_eq_getElem hp.1
   simp only[List.map_cons,Dm,e,List.getElem?_toArray]
   rw[←ih hp.2]
   simp
 have rest:=i9 (D:=D) (Q':=pb Q) (l0:=[]) (g:=perm.length) (kW.plain w) (fun _ _ _ _ _ _ h=>h.elim) (fun _ _ _ _ _ _ _ hp=>by cases hp) (fun listed F Z hL hF hZ a' w' he hsat hz=>lT hsel perm (Dm (o::os) perm) listed a' w' (hpick perm (by simpa using hp)) hL.1.1 (hL.2 a' w' he hsat)) _ _ _ _ H (kZ _) ek.triv (a.put (some d) v) {w with drawn:=w.drawn+1} ⟨rfl,rfl,rfl,Nat.le_refl _,fun _ _=>rfl⟩ hsat (fun _ hp=>by cases hp) trivial
 rw[htl] at rest
 refine wp_mono (wp_region_any (Q:=pb Q) hm ?_) fun e a w he=>by obtain⟨rfl,h⟩:=he;exact h
 have hsz:(o::os).toArray.size=(n-1+perm.length)+1:=by rw[←hlen];omega
 rw[show wpAny P .any (o::os).toArray (pb Q) (o::os).toArray.size=wpAny P .any (o::os).toArray (pb Q) ((n-1+perm.length)+1) by rw[hsz]]
 have hval:(∀w':World,(execOp a.eval o).run P w'=.ok (.value v) w'):=fun w'=>by
  rw[ho]
  have hv:a.eval x=v:=ha.ev hx
  simp[execOp,hv]
 have hdst:o.dst=some d:=by rw[ho]
 exact wpAny_take h00 hsel hf hr (fun c a w hp=>by obtain⟨hp,_⟩:=hp;cases hp) (.inl ⟨by rw[ho];rfl,hval⟩) (by rw[hdst];exact rest)
end
end Go.Rl
namespace Go.Rl
open Go.RowKit Go.Proofs
theorem Iv {n:Int} (h:lR n):1≤(du n).length∧(du n).length≤10:=⟨ro _,f8 (CP h.1 h.2)⟩
theorem dy {α β:Type} {f:α→List β} {l:List α} {i:Nat} (hi:i<l.length):(l.take (i+1)).flatMap f=(l.take i).flatMap f++f l[i]:=by
 rw[List.take_succ_eq_append_getElem hi,List.flatMap_append,List.flatMap_singleton]
end Go.Rl
namespace Go.Rl
open Go.RowKit Go.Proofs
theorem Iw {w:World} {g:Nat}:(Instr.sliceAt 24 (.pointer (some ⟨g,0,none⟩)) none none none).run Tryz.prog w=.ok (.slice (some ⟨g,0,none⟩) 32 32) w:=by
 simp[Instr.sliceAt,run_underlying Tryz.underlying24,Instr.sureAddr,Instr.sliceBounds,fh fo,Addr.add_mid]
theorem Ck {X:Nat→Prop} {w:World}:∀(l:List Int),aR X w (l.map qY) (l.map I)
 |[]=>aR.nil
 |n::l=>aR.cons (a:=[I n]) (by simp only[qY,cN,I]) (Ck l)
theorem nw.rpx {X:Nat→Prop} {w:World} {base:Nat} {l:List Int} {v:Value} (h:nw base l v w) (hX:∀k,v.ownBlock=some k→¬X k):cN X w (Ky l) [v]:=by
 obtain⟨n,h⟩:=h
 exact cN.ofOwn h (Ck l) (by simp[BU]) (by omega) hX
end Go.Rl
namespace Go.Rl
open Go.RowKit Go.Proofs
section
variable {w:World} {g:Nat} {T:TypeId} {d:List UInt8} {v:Value}
theorem vG:oC.length=32:=rfl
end
theorem rW {α:Type} {p:α→Bool} {l:List α} {i:Nat} (hi:i<l.length) (h:l.all p=(l.drop i).all p) (h1:p l[i]=true):l.all p=(l.drop (i+1)).all p:=by rw[h,Cf hi,h1,Bool.true_and]
theorem gQ {α:Type} {p:α→Bool} {l:List α} {i:Nat} (hi:i<l.length) (h:l.all p=(l.drop i).all p) (h1:p l[i]=false):l.all p=false:=by rw[h,Cf hi,h1,Bool.false_and]
theorem nV {α:Type} {p:α→Bool} {l:List α} {i:Nat} (hi:l.length≤i) (h:l.all p=(l.drop i).all p):l.all p=true:=by rw[h,List.drop_eq_nil_of_le hi];rfl
end Go.Rl
namespace Go.Rl
open Go.RowKit Go.Proofs
end Go.Rl
namespace Go.Rl
open Go.RowKit Go.Proofs
theorem Iy {a z:List UInt8} {j:Nat} (h:a.length=32) (hz:z.length=32) (hj:j<32) {b:UInt8} (hb:b=a[j]'(by omega)):(a.take j++z.drop j).set j b=a.take (j+1)++z.drop (j+1):=by
 have e:(a.take j).length=j:=by rw[List.length_take];omega
 rw[List.take_succ_eq_append_getElem (by omega),List.append_assoc,List.set_append_right _ _ (by omega),e,Nat.sub_self,List.drop_eq_getElem_cons (i:=j) (l:=z) (by omega),List.set_cons_zero,hb]
 rfl
theorem JI {a z:List UInt8} {j:Nat} (h:a.length=32) (hz:z.length=32) (hj:j≤32):(a.take j++z.drop j).length=32:=by
 rw[List.length_append,List.length_take,List.length_drop];omega
end Go.Rl
namespace Go.Rl
open Go.RowKit Go.Proofs
theorem tw:aG Tryz.prog 114:=⟨_,Tryz.func114,by kernel_rfl,rfl⟩
theorem pq:aG Tryz.prog 82:=⟨_,Tryz.func82,by kernel_rfl,rfl⟩
theorem nW:aG Tryz.prog 85:=⟨_,Tryz.func85,by kernel_rfl,rfl⟩
theorem Dz:aG Tryz.prog 149:=⟨_,Tryz.func149,by kernel_rfl,rfl⟩
theorem kH:aG Tryz.prog 148:=⟨_,Tryz.func148,by kernel_rfl,rfl⟩
theorem pr:aG Tryz.prog 147:=⟨_,Tryz.func147,by kernel_rfl,rfl⟩
theorem u7:aG Tryz.prog 115:=⟨_,Tryz.func115,by kernel_rfl,rfl⟩
theorem DA:aG Tryz.prog 77:=⟨_,Tryz.func77,by kernel_rfl,rfl⟩
theorem jV:(Tryz.prog.info? 22).map (·.size)=some 1:=by kernel_rfl
theorem jW {w:World} {g:Nat}:(Instr.fieldAt 142 (.pointer (some ⟨g,0,none⟩)) 0).run Tryz.prog w=.ok (.pointer (some ⟨g,0,none⟩)) w:=ar (o:=0) Tryz.underlying142 rfl (by kernel_rfl) rfl
def JJ (T:TypeId) (base g:Nat) (l:List UInt8) (v:Value) (w:World) (w':World):Prop:=∃v',ia T base g l v' w'∧dl g v w v' w'
theorem Mf {a:Int} (ha:lR a):∀n∈[a],lR n:=fun n hn=>by
 simp only[List.mem_cons,List.not_mem_nil,or_false] at hn
 subst hn;exact ha
theorem Mg {a b:Int} (ha:lR a) (hb:lR b):∀n∈[a,b],lR n:=fun n hn=>by
 simp only[List.mem_cons,List.not_mem_nil,or_false] at hn
 rcases hn with rfl|rfl<;>assumption
theorem KE {a b c d:Int} (ha:lR a) (hb:lR b) (hc:lR c) (hd:lR d):∀n∈[a,b,c,d],lR n:=fun n hn=>by
 simp only[List.mem_cons,List.not_mem_nil,or_false] at hn
 rcases hn with rfl|rfl|rfl|rfl<;>assumption
theorem rX {α:Type} {f:α→List UInt8} (l:List α) (k:Nat):((l.take k).flatMap f).length≤(l.flatMap f).length:=by
 have h:(l.flatMap f)=(l.take k).flatMap f++(l.drop k).flatMap f:=by rw[←List.flatMap_append,List.take_append_drop]
 rw[h,List.length_append]
 omega
theorem fU {α:Type} {f:α→List UInt8} {l:List α} {i:Nat} (hi:i<l.length):((l.take i).flatMap f).length+(f l[i]).length≤(l.flatMap f).length:=by
 have h:=rX (f:=f) l (i+1)
 rw[dy hi,List.length_append] at h
 exact h
theorem tx {T:TypeId} {w:World} {b g:Nat} {l:List UInt8} {n:Nat} {v:Value} (hW:ia T b g l v w) (h0:b≤w.heap.size) (hl:l.length≤35184372088832) (hn:n≤9223372036854775807):
 Calls Tryz.prog 114 #[.pointer (some ⟨g,0,none⟩),I (n:Int)] w (bE fun _ w'=>JJ T b g (l++uv n) v w w'):=by
 refine enter (vs:=[.pointer (some ⟨g,0,none⟩),I (n:Int)]) Tryz.func114 E E E ?_
 have kg:=hW.blk
 have hun:(UInt64.ofNat n).toNat=n:=by rw[UInt64.toNat_ofNat'];omega
 refine vF 8 [8,9,10,11] [4,8,11] (by kernel_rfl) (by kernel_rfl) E E E ?_
 refine aA E E (dj E E ?_)
 refine aW E E (fun w _=>jW) ?_
 refine aP E E (fun w hw=>aj MB E (hw.cell_some kg.k0)) (aA E E (dK E E (fun w hw=>fv Mx MA) ?_))
 refine cn (S:=cJ (uv n)) om (cJ.stable _) rfl (fun w hw=>by rintro _ rfl _ rfl;exact bE.mono (oo (n:=UInt64.ofNat n) (cJ.nil _) (by simp)) fun v w' h=>⟨h.1,by have:=h.2.bts;rwa [hun,List.nil_append] at this⟩) ?_
 refine cq ?_
 intro wg0 xg0
 rintro _ rfl
 rintro _ hq8
 obtain rfl:=Eq.symm hq8
 intro vg11 b11
 have hun2:=ro n
 have hun3:=f8 (n:=n) (by omega)
 obtain⟨v12,wa,wb,hr12,hs12,hW',st12⟩:=ia.put (t:=22) (t2:=22) (ty:=22) MB jV MB (hW.ext xg0) (Nat.le_trans h0 xg0.size) b11 (by omega) (by omega)
 refine ba E E hr12 ?_
 refine ax E E ?_
 refine ah E E jW ?_
 refine au E E (hs12) (ag (Am (ko E ?_)))
 exact⟨_,rfl,v12,hW',(dl.of_ext xg0).trans st12⟩
theorem pu {T:TypeId} {w:World} {b g:Nat} {l:List UInt8} {ns:List Int} {nv v:Value} (hW:ia T b g l v w) (h0:b≤w.heap.size) (hv:cN (WrX g v) w (Ky ns) [nv]) (hi64:∀n∈ns,lR n) (hl:l.length+10*ns.length≤35184372088832):
 Calls Tryz.prog 82 #[.pointer (some ⟨g,0,none⟩),nv] w (bE fun _ w'=>JJ T b g (l++ns.flatMap du) v w w'):=by
 refine enter (vs:=[.pointer (some ⟨g,0,none⟩),nv]) Tryz.func82 E E E ?_
 have hd:cC qY ns nv w:=hv.rp
 have hll:=hd.len
 refine af (aa (ac E E (aO E E (a6 MZ hd) (ac E E (ag (ab (aE ?_)))))))
 refine fw (fun(i:Nat) (u:Value)=>[(0,.pointer (some ⟨g,0,none⟩)),(6,nv),(7,I (ns.length:Int)),(8,I (i:Int))]) (fun(i:Nat) (u:Value) w'=>ia T b g (l++(ns.take i).flatMap du) u w'∧dl g v w u w'∧i≤ns.length∧((ns.take i).flatMap du).length≤10*i) (fun(i:Nat) (u:Value)=>ns.length-i) (0) (v) ⟨rfl,rfl,rfl,rfl,trivial⟩ ⟨by simpa using hW,dl.refl,by omega,by simp⟩ ?_
 rintro i u wL ⟨hW1,st1,hi,hle⟩
 refine af (aa (al E E E (aV) (ag (ab (af ?_)))))
 refine bz E (fun h9=>?_) (fun h9=>?_)
 ·have hd1:cC qY ns nv wL:=(hv.step st1).rp
  refine aC (ab (af (aE (af (aa ?_)))))
  obtain⟨a10,c10,p10,q10,h10⟩:=cd (P:=Tryz.prog) (sz:=1) MZ (by kernel_rfl) BU (by omega) hd1 (i:=i) (by omega) .i64
  obtain⟨e10,he10⟩:∃e,e=ns[i]'(by omega):=⟨_,rfl⟩
  rw[←he10] at h10
  obtain rfl:=Jz h10
  refine aq E E E (p10 _) ?_
  have hn:=hi64 e10 (by rw[he10];exact List.getElem_mem _)
  have hen:=Iv hn
  refine ak E E (aj Mx E q10.cell0) (ae E E (ag (ab ?_)))
  have kg:=hW1.blk
  refine vF 7 [7,8,9,10] [0,6,7,8,12,16,18] (by kernel_rfl) (by kernel_rfl) E E E ?_
  refine aA E E (dj E E ?_)
  refine aW E E (fun w _=>jW) ?_
  refine aP rfl rfl (fun w hw=>aj Tryz.underlying22 rfl (hw.cell_some kg.k0)) (aA rfl rfl (cn (S:=cJ (du e10)) lm (cJ.stable _) rfl (fun w hw=>by rintro _ rfl _ rfl;exact bE.mono (lp (n:=e10) (cJ.nil _) (by simp) hn.1 hn.2) fun v w' h=>⟨h.1,by have:=h.2.bts;rwa [List.nil_append] at this⟩) ?_))
  refine cq ?_
  intro wg3 xg3
  rintro _ rfl
  rintro _ hq6
  obtain rfl:=Eq.symm hq6
  rintro _ rfl
  rintro _ rfl
  rintro _ rfl
  rintro _ hq16
  obtain rfl:=Eq.symm hq16
  intro vg18 b18
  obtain⟨v19,wa,wb,hr19,hs19,hW2,st19⟩:=ia.put (t:=22) (t2:=22) (ty:=22) Tryz.underlying22 jV Tryz.underlying22 (hW1.ext xg3) (Nat.le_trans h0 (Nat.le_trans st1.mv.size xg3.size)) b18 (by omega) (by simp only[List.length_append];omega)
  refine ba E E hr19 ?_
  refine ax E E ?_
  refine ah E E jW ?_
  refine au E E (hs19) (ag (Am (aS (ab (aa (al (r:=I ((i+1:Nat):Int)) E E E (by have e:((i+1:Nat):Int)=(i:Int)+1:=(by omega);rw[e];exact aN (by omega) (by omega)) ?_))))))
  refine ac E E (ag ?_)
  refine dG (i+1) (v19) ⟨rfl,rfl,rfl,rfl,trivial⟩ ⟨by rw[dy (by omega),←he10,←List.append_assoc];exact hW2,(st1.trans (dl.of_ext xg3)).trans st19,by omega,by rw[dy (by omega),←he10,List.length_append];omega⟩ (by omega)
 ·refine bc (aI (aI (be (ko E ?_))))
  exact⟨_,rfl,u,by rw[List.take_of_length_le (by omega)] at hW1;exact hW1,st1⟩
theorem nX {T:TypeId} {wz w:World} {g:Nat} {l:List UInt8} {q:ft} {x y v:Value} (ez:aK wz w) (hW:ia T wz.heap.size g l v w) (hx:bm q.2.1 x wz) (hy:bm q.2.2 y wz) (hl:l.length+(gD q).length≤4398046511104):
 Calls Tryz.prog 85 #[.pointer (some ⟨g,0,none⟩),.agg #[B q.1,x,y]] w (bE fun _ w'=>JJ T wz.heap.size g (l++gD q) v w w'):=by
 refine enter (vs:=[.pointer (some ⟨g,0,none⟩),.agg #[B q.1,x,y]]) Tryz.func85 E E E ?_
 have hqa:=jT q
 have hq1:1≤(gD q).length:=by simp only[gD,oH,List.length_append,List.length_cons,List.length_nil];omega
 refine af (aa ?_)
 obtain⟨g3,w3,hr3,l3,x3,k3⟩:=cK (P:=Tryz.prog) (w:=w) (T:=46) (cs:=[B q.1,x,y])
 refine cM E E hr3 (ag (ab ?_))
 have hW3:=hW.ext x3
 have kg:=hW3.blk
 refine vF 7 [7,8,9,10] [4,8,10] (by kernel_rfl) (by kernel_rfl) E E E ?_
 refine aA E E (dj E E ?_)
 refine aW E E (fun w _=>jW) ?_
 refine aP E E (fun w hw=>aj MB E (hw.cell_some kg.k0)) (aP E E (fun w hw=>(k3.ext hw).ld Mw E (by kernel_rfl)) ?_)
 refine cn (S:=cJ (gD q)) pc (cJ.stable _) rfl (fun w hw=>by rintro _ rfl _ rfl;exact bE.mono (pe (cJ.nil _) (dm.mk ((hx.ext (ez.trans x3)).ext hw) ((hy.ext (ez.trans x3)).ext hw)) (by simp only[List.length_nil];omega)) fun v w' h=>⟨h.1,by have:=h.2.bts;rwa [List.nil_append] at this⟩) ?_
 refine cq ?_
 intro wg1 xg1
 rintro _ rfl
 rintro _ hq8
 obtain rfl:=Eq.symm hq8
 intro vg10 b10
 obtain⟨v11,wa,wb,hr11,hs11,hW2,st11⟩:=ia.put (t:=22) (t2:=22) (ty:=22) MB jV MB (hW3.ext xg1) (((ez.trans x3).trans xg1)).size b10 (by omega) (by omega)
 refine ba E E hr11 ?_
 refine ax E E ?_
 refine ah E E jW ?_
 refine au E E (hs11) (ag (Am (ko E ?_)))
 exact⟨_,rfl,v11,hW2,(dl.of_ext (x3.trans xg1)).trans st11⟩
theorem DB {T:TypeId} {wz w:World} {g:Nat} {l:List UInt8} {d:bU} {x y v:Value} (ez:aK wz w) (hW:ia T wz.heap.size g l v w) (hx:bm d.at_.2.1 x wz) (hy:bm d.at_.2.2 y wz) (hw:wD d) (hl:l.length+(fS d).length≤4398046511104):
 Calls Tryz.prog 149 #[.pointer (some ⟨g,0,none⟩),.agg #[I d.kd,I d.ix,B d.at_.1,x,y]] w (bE fun _ w'=>JJ T wz.heap.size g (l++fS d) v w w'):=by
 refine enter (vs:=[.pointer (some ⟨g,0,none⟩),.agg #[I d.kd,I d.ix,B d.at_.1,x,y]]) Tryz.func149 E E E ?_
 have hdl:(fS d).length=(du d.kd).length+(du d.ix).length+(gD d.at_).length:=by simp only[fS,List.length_append]
 refine af (aa ?_)
 obtain⟨g3,w3,hr3,l3,x3,k3⟩:=cK (P:=Tryz.prog) (w:=w) (T:=48) (cs:=[I d.kd,I d.ix,B d.at_.1,x,y])
 refine cM E E hr3 (ag (ab (af (aa (ac E E (ah E E (ar (o:=0) My E (by kernel_rfl) E) ?_))))))
 refine ak E E (aj Mx E (k3.cell (i:=0) E)) (ah E E (ar (o:=1) My E (by kernel_rfl) E) ?_)
 refine ak E E (aj Mx E (k3.cell (i:=1) E)) ?_
 obtain⟨v9,w9,hr9,x9,o9,ob9⟩:=Bp (w:=w3) (w3).heap.size [d.kd,d.ix] (by simp) (Nat.le_refl _)
 refine aJ (vs:=[(0,I d.kd),(1,I d.ix)]) E E hr9 ?_
 have hW3:=hW.ext x3
 have hW9:=hW3.ext x9
 refine am pq E E ((pu (ns:=[d.kd,d.ix]) hW9 (((ez.trans x3).trans x9)).size (o9.rpx (fun k hk=>hW3.off_new (o9.lt k hk).1)) (Mg hw.1 hw.2) (by simp only[List.length_cons,List.length_nil];omega))) ?_
 rintro v10 w10 ⟨v10,hW10,st10⟩
 have x10:=st10.ext (((ez.trans x3).trans x9)) hW9.ge hW9.new
 have k3a:=st10.mv.blk (k3.ext x9) (hW.off_new l3)
 refine ag (ab (aa (ac rfl rfl (ah rfl rfl (ar (o:=2) Tryz.underlying48 rfl (by kernel_rfl) rfl) (ak rfl rfl (k3a.ldO (ms:=[B d.at_.1,x,y]) (o:=2) (fun j v hj=>by rcases j with _|_|_|_|_|_|_|_|_|j<;>simp_all) Tryz.underlying46 rfl (by kernel_rfl)) ?_)))))
 refine am nW E E ((nX (q:=d.at_) (x10) hW10 hx hy (by simp only[List.length_append,List.flatMap_cons,List.flatMap_nil,List.append_nil];omega))) ?_
 rintro v14 w14 ⟨v14,hW14,st14⟩
 have x14:=st14.ext (x10) hW10.ge hW10.new
 refine ag (ko E ?_)
 exact⟨_,rfl,v14,by simpa only[fS,List.flatMap_cons,List.flatMap_nil,List.append_nil,List.append_assoc] using hW14,((dl.of_ext (x3.trans x9)).trans st10).trans st14⟩
theorem kI {T:TypeId} {wz w:World} {g:Nat} {l:List UInt8} {ps:List cg} {pv v:Value} (ez:aK wz w) (hW:ia T wz.heap.size g l v w) (hd:cC bP ps pv wz) (hw:wP ps) (hl:l.length+(ji ps).length≤4398046511104):
 Calls Tryz.prog 148 #[.pointer (some ⟨g,0,none⟩),pv] w (bE fun _ w'=>JJ T wz.heap.size g (l++ji ps) v w w'):=by
 refine enter (vs:=[.pointer (some ⟨g,0,none⟩),pv]) Tryz.func148 E E E ?_
 have hll:=hd.len
 have hpl:(ji ps).length=(uv ps.length).length+(ps.flatMap fp).length:=by simp only[ji,List.length_append]
 refine af (aa (ac E E (ac E E (aO E E (a6 MH (hd.ext ez)) (am tw E E ((tx hW ez.size (by omega) (by omega))) ?_)))))
 rintro v9 w9 ⟨v9,hW9,st9⟩
 have x9:=st9.ext ez hW.ge hW.new
 refine ag (ab (af (aa (ac E E (aO E E (a6 MH (hd.ext x9)) (ac E E (ag (ab (aE ?_)))))))))
 refine fw (fun(i:Nat) (u:Value)=>[(0,.pointer (some ⟨g,0,none⟩)),(10,pv),(11,I (ps.length:Int)),(12,I (i:Int))]) (fun(i:Nat) (u:Value) w'=>ia T wz.heap.size g (l++uv ps.length++(ps.take i).flatMap fp) u w'∧dl g v w u w'∧aK wz w'∧i≤ps.length) (fun(i:Nat) (u:Value)=>ps.length-i) (0) (v9) ⟨rfl,rfl,rfl,rfl,trivial⟩ ⟨by simpa using hW9,st9,x9,by omega⟩ ?_
 rintro i u wL ⟨hW1,st1,eL,hi⟩
 refine af (aa (al E E E (aV) (ag (ab (af ?_)))))
 refine bz E (fun h13=>?_) (fun h13=>?_)
 ·refine aC (ab (af (aE (af (aa ?_)))))
  obtain⟨a14,c14,p14,q14,h14⟩:=cd (P:=Tryz.prog) (sz:=7) MH (by kernel_rfl) dD (by omega) hd (i:=i) (by omega) .i64
  obtain⟨e14,he14⟩:∃e,e=ps[i]'(by omega):=⟨_,rfl⟩
  rw[←he14] at h14
  obtain⟨x14_0,x14_1,rfl,f14_0,f14_1⟩:=ib h14
  refine aq E E E (p14 _) ?_
  have hm:=hw e14 (by rw[he14];exact List.getElem_mem _)
  have hfl:=fU (f:=fp) (l:=ps) (i:=i) (by omega)
  rw[←he14] at hfl
  have hml:(fp e14).length=(du e14.kd).length+(du e14.ix).length+(du e14.lo).length+(du e14.hi).length+(gD e14.co).length:=by simp only[fp,List.length_append]
  refine ak E E ((q14.ext eL).ld MP E (by kernel_rfl)) ?_
  obtain⟨g5,w5,hr5,l5,x5,k5⟩:=aX (P:=Tryz.prog) (w:=wL) (t:=187) (z:=.agg #[I 0,I 0,I 0,I 0,B false,.slice none 0 0,.slice none 0 0]) (l:=[I 0,I 0,I 0,I 0,B false,.slice none 0 0,.slice none 0 0]) (by kernel_rfl) rfl
  refine aT E hr5 ?_
  obtain⟨w3_3,s3_3,q3_3,k3_3⟩:=k5.stS (P:=Tryz.prog) (t:=187) (m:=[I e14.kd,I e14.ix,I e14.lo,I e14.hi,B e14.co.1,x14_0,x14_1]) rfl (by kernel_rfl) (av.cons rfl (av.cons rfl (av.cons rfl (av.cons rfl (av.cons rfl (av.cons f14_0.one (av.cons f14_1.one av.nil)))))))
  refine au E E s3_3 ?_
  have x3_3:=aK.of_new (x5) q3_3 l5
  refine ag (ab (af (aa (ac E E (ah E E (ar (o:=0) MP E (by kernel_rfl) E) (ah E E (ar (o:=0) MR E (by kernel_rfl) E) ?_))))))
  refine ak E E (aj Mx E (k3_3.cell (i:=0) E)) (ah E E (ar (o:=0) MP E (by kernel_rfl) E) ?_)
  refine ah E E (ar (o:=1) MR E (by kernel_rfl) E) (ak E E (aj Mx E (k3_3.cell (i:=1) E)) ?_)
  refine ah E E (ar (o:=0) MP E (by kernel_rfl) E) (ah E E (ar (o:=2) MR E (by kernel_rfl) E) ?_)
  refine ak E E (aj Mx E (k3_3.cell (i:=2) E)) (ah E E (ar (o:=0) MP E (by kernel_rfl) E) ?_)
  refine ah E E (ar (o:=3) MR E (by kernel_rfl) E) (ak E E (aj Mx E (k3_3.cell (i:=3) E)) ?_)
  obtain⟨v29,w29,hr29,x29,o29,ob29⟩:=Bp (w:=w3_3) (w3_3).heap.size [e14.kd,e14.ix,e14.lo,e14.hi] (by simp) (Nat.le_refl _)
  refine aJ (vs:=[(0,I e14.kd),(1,I e14.ix),(2,I e14.lo),(3,I e14.hi)]) E E hr29 ?_
  have hWb:=hW1.ext x3_3
  have hWc:=hWb.ext x29
  refine am pq E E ((pu (ns:=[e14.kd,e14.ix,e14.lo,e14.hi]) hWc (((eL.trans x3_3).trans x29)).size (o29.rpx (fun k hk=>hWb.off_new (o29.lt k hk).1)) (KE hm.1 hm.2.1 hm.2.2.1 hm.2.2.2) (by simp only[List.length_append,List.length_cons,List.length_nil];omega))) ?_
  rintro v30 w30 ⟨v30,hW30,st30⟩
  have x30:=st30.ext (((eL.trans x3_3).trans x29)) hWc.ge hWc.new
  have k5a:=st30.mv.blk (k3_3.ext x29) (hW1.off_new l5)
  refine ag (ab (aa (ac rfl rfl (ah rfl rfl (ar (o:=4) Tryz.underlying187 rfl (by kernel_rfl) rfl) (ak rfl rfl (k5a.ldO (ms:=[B e14.co.1,x14_0,x14_1]) (o:=4) (fun j v hj=>by rcases j with _|_|_|_|_|_|_|_|_|j<;>simp_all) Tryz.underlying46 rfl (by kernel_rfl)) ?_)))))
  refine am nW E E ((nX (q:=e14.co) (x30) hW30 f14_0 f14_1 (by simp only[List.length_append,List.flatMap_cons,List.flatMap_nil,List.append_nil];omega))) ?_
  rintro v34 w34 ⟨v34,hW34,st34⟩
  have x34:=st34.ext (x30) hW30.ge hW30.new
  refine ag (aS (ab (aa (al (r:=I ((i+1:Nat):Int)) E E E (by have e:((i+1:Nat):Int)=(i:Int)+1:=(by omega);rw[e];exact aN (by omega) (by omega)) ?_))))
  refine ac E E (ag ?_)
  refine dG (i+1) (v34) ⟨rfl,rfl,rfl,rfl,trivial⟩ ⟨by
   rw[dy (by omega),←he14]
   simpa only[fp,List.flatMap_cons,List.flatMap_nil,List.append_nil,List.append_assoc] using hW34,((st1.trans (dl.of_ext (x3_3.trans x29))).trans st30).trans st34,x34,by omega⟩ (by omega)
 ·refine bc (aI (aI (be (ko E ?_))))
  exact⟨_,rfl,u,by rw[List.take_of_length_le (by omega),List.append_assoc] at hW1;exact hW1,st1⟩
end Go.Rl
namespace Go.Rl
open Go.RowKit Go.Proofs
theorem vH (b:Bool):(wZ b).length=1:=by cases b<;>rfl
theorem px {T:TypeId} {wz w:World} {g:Nat} {l:List UInt8} {ls:List dN} {lv v:Value} (ez:aK wz w) (hW:ia T wz.heap.size g l v w) (hd:cC dc ls lv wz) (hw:∀m∈ls,Ie m) (hl:l.length+(eJ ls).length≤4398046511104):
 Calls Tryz.prog 147 #[.pointer (some ⟨g,0,none⟩),lv] w (bE fun _ w'=>JJ T wz.heap.size g (l++eJ ls) v w w'):=by
 refine enter (vs:=[.pointer (some ⟨g,0,none⟩),lv]) Tryz.func147 E E E ?_
 have hll:=hd.len
 have hpl:(eJ ls).length=(uv ls.length).length+(ls.flatMap ei).length:=by simp only[eJ,List.length_append]
 refine af (aa (ac E E (ac E E (aO E E (a6 MG (hd.ext ez)) (am tw E E ((tx hW ez.size (by omega) (by omega))) ?_)))))
 rintro v10 w10 ⟨v10,hW10,st10⟩
 have x10:=st10.ext ez hW.ge hW.new
 refine ag (ab (af (aa (ac E E (aO E E (a6 MG (hd.ext x10)) (ac E E (ag (ab (aE ?_)))))))))
 refine fw (fun(i:Nat) (u:Value)=>[(0,.pointer (some ⟨g,0,none⟩)),(11,lv),(12,I (ls.length:Int)),(13,I (i:Int))]) (fun(i:Nat) (u:Value) w'=>ia T wz.heap.size g (l++uv ls.length++(ls.take i).flatMap ei) u w'∧dl g v w u w'∧aK wz w'∧i≤ls.length) (fun(i:Nat) (u:Value)=>ls.length-i) (0) (v10) ⟨rfl,rfl,rfl,rfl,trivial⟩ ⟨by simpa using hW10,st10,x10,by omega⟩ ?_
 rintro i u wL ⟨hW1,st1,eL,hi⟩
 refine af (aa (al E E E (aV) (ag (ab (af ?_)))))
 refine bz E (fun h14=>?_) (fun h14=>?_)
 ·refine aC (ab (af (aE (af (aa ?_)))))
  obtain⟨a15,c15,p15,q15,h15⟩:=cd (P:=Tryz.prog) (sz:=6) MG (by kernel_rfl) cH (by omega) hd (i:=i) (by omega) .i64
  obtain⟨e15,he15⟩:∃e,e=ls[i]'(by omega):=⟨_,rfl⟩
  rw[←he15] at h15
  obtain⟨x15_0,x15_1,x15_2,rfl,f15_0,f15_1,f15_2⟩:=fO h15
  refine aq E E E (p15 _) ?_
  have hm:=hw e15 (by rw[he15];exact List.getElem_mem _)
  have hfl:=fU (f:=ei) (l:=ls) (i:=i) (by omega)
  rw[←he15] at hfl
  have hbl:=vH e15.up
  have hml:(ei e15).length=(du e15.un).length+(wZ e15.up).length+(gD e15.va).length+(ji e15.pf).length:=by simp only[ei,List.length_append]
  obtain⟨pre,hpre⟩:∃pre,pre=l++uv ls.length++(ls.take i).flatMap ei:=⟨_,rfl⟩
  have hprl:pre.length=l.length+(uv ls.length).length+((ls.take i).flatMap ei).length:=by rw[hpre];simp only[List.length_append]
  rw[←hpre] at hW1
  refine ak E E ((q15.ext eL).ld MI E (by kernel_rfl)) ?_
  obtain⟨g5,w5,hr5,l5,x5,k5⟩:=aX (P:=Tryz.prog) (w:=wL) (t:=173) (z:=.agg #[I 0,B false,B false,.slice none 0 0,.slice none 0 0,.slice none 0 0]) (l:=[I 0,B false,B false,.slice none 0 0,.slice none 0 0,.slice none 0 0]) (by kernel_rfl) rfl
  refine aT E hr5 ?_
  obtain⟨w3_3,s3_3,q3_3,k3_3⟩:=k5.stS (P:=Tryz.prog) (t:=173) (m:=[I e15.un,B e15.up,B e15.va.1,x15_0,x15_1,x15_2]) rfl (by kernel_rfl) (av.cons rfl (av.cons rfl (av.cons rfl (av.cons f15_0.one (av.cons f15_1.one (av.cons f15_2.one av.nil))))))
  refine au E E s3_3 ?_
  have x3_3:=aK.of_new (x5) q3_3 l5
  refine ag (ab (af (aa (ac E E (ah E E (ar (o:=0) MI E (by kernel_rfl) E) (ak E E (aj Mx E (k3_3.cell (i:=0) E)) ?_))))))
  obtain⟨v20,w20,hr20,x20,o20,ob20⟩:=Bp (w:=w3_3) (w3_3).heap.size [e15.un] (by simp) (Nat.le_refl _)
  refine aJ (vs:=[(0,I e15.un)]) E E hr20 ?_
  have hWb:=hW1.ext x3_3
  have hWc:=hWb.ext x20
  refine am pq E E ((pu (ns:=[e15.un]) hWc (((eL.trans x3_3).trans x20)).size (o20.rpx (fun k hk=>hWb.off_new (o20.lt k hk).1)) (Mf hm.1) (by simp only[List.length_cons,List.length_nil];omega))) ?_
  rintro v21 w21 ⟨v21,hW21,st21⟩
  have x21:=st21.ext (((eL.trans x3_3).trans x20)) hWc.ge hWc.new
  have n5:=hW1.off_new l5
  have k5a:=st21.mv.blk (k3_3.ext x20) n5
  have n5a:=st21.off n5 (k3_3.ext x20).lt
  have kg:=hW21.blk
  have hc1:[e15.un].flatMap du=du e15.un:=by simp only[List.flatMap_cons,List.flatMap_nil,List.append_nil]
  rw[hc1] at hW21
  refine ag (ab (af (aa (ae E E (ag (ab (af (af (aa (ah E E (ar (o:=1) MI E (by kernel_rfl) E) ?_))))))))))
  refine ak E E (aj MD E (k5a.cell (i:=1) E)) (ag (ab ?_))
  refine fY E (fun h23=>?_) (fun h23=>?_)
  ·have hbit:wZ e15.up=[1]:=by rw[h23];rfl
   refine aa (ae E E (ag (ab (af (aa (ac E E (ac E E (ax E E ?_))))))))
   refine ah E E jW ?_
   refine ak E E (aj MB E kg.k0) (ac E E ?_)
   obtain⟨v30,w30,hr30,x30,o30,ob30⟩:=eh (w:=w21) w21.heap.size [1] (by simp) (Nat.le_refl _)
   refine aJ (vs:=[(0,U8 1)]) E E hr30 ?_
   obtain⟨v31,wa31,wb31,hr31,hs31,hW31,st31⟩:=ia.put (t:=22) (t2:=22) (ty:=22) Tryz.underlying22 jV Tryz.underlying22 (hW21.ext x30) ((x21.trans x30)).size o30.bts (by simp) (by simp only[List.length_append,List.length_cons,List.length_nil];omega)
   refine ba E E hr31 ?_
   refine ax E E ?_
   refine ah E E jW ?_
   refine au E E hs31 ?_
   have x31:=st31.ext ((x21.trans x30)) (hW21.ext x30).ge (hW21.ext x30).new
   have k5b:=st31.mv.blk (k5a.ext x30) n5a
   have n5b:=st31.off n5a (k5a.ext x30).lt
   rw[←hbit] at hW31
   refine ag (ab (af (aa (ac rfl rfl (ah rfl rfl (ar (o:=2) Tryz.underlying173 rfl (by kernel_rfl) rfl) (ak rfl rfl (k5b.ldO (ms:=[B e15.va.1,x15_0,x15_1]) (o:=2) (fun j v hj=>by rcases j with _|_|_|_|_|_|_|_|_|j<;>simp_all) Tryz.underlying46 rfl (by kernel_rfl)) ?_))))))
   refine am nW E E ((nX (q:=e15.va) (x31) hW31 f15_0 f15_1 (by simp only[List.length_append];omega))) ?_
   rintro v37 w37 ⟨v37,hW37,st37⟩
   have x37:=st37.ext (x31) hW31.ge hW31.new
   have k5c:=st37.mv.blk k5b n5b
   refine ag (ab (aa (ac E E (ah E E (ar (o:=5) MI E (by kernel_rfl) E) (ak E E (aj MH E (k5c.cell (i:=5) E)) ?_)))))
   refine am kH E E ((kI (ps:=e15.pf) (x37) hW37 f15_2 hm.2 (by simp only[List.length_append];omega))) ?_
   rintro v41 w41 ⟨v41,hW41,st41⟩
   have x41:=st41.ext (x37) hW37.ge hW37.new
   refine ag (aS (ab (aa (al (r:=I ((i+1:Nat):Int)) E E E (by have e:((i+1:Nat):Int)=(i:Int)+1:=(by omega);rw[e];exact aN (by omega) (by omega)) ?_))))
   refine ac E E (ag ?_)
   refine dG (i+1) (v41) ⟨rfl,rfl,rfl,rfl,trivial⟩ ⟨by
    rw[dy (by omega),←he15,←List.append_assoc,←hpre]
    simpa only[ei,List.append_assoc] using hW41,((((st1.trans (dl.of_ext (x3_3.trans x20))).trans st21).trans ((dl.of_ext x30).trans st31)).trans st37).trans st41,x41,by omega⟩ (by omega)
  ·have hbit:wZ e15.up=[0]:=by rw[h23];rfl
   refine aC (ab (af (aa (ac E E (ac E E (ax E E ?_))))))
   refine ah E E jW ?_
   refine ak E E (aj MB E kg.k0) (ac E E ?_)
   obtain⟨v30,w30,hr30,x30,o30,ob30⟩:=eh (w:=w21) w21.heap.size [0] (by simp) (Nat.le_refl _)
   refine aJ (vs:=[(0,U8 0)]) E E hr30 ?_
   obtain⟨v31,wa31,wb31,hr31,hs31,hW31,st31⟩:=ia.put (t:=22) (t2:=22) (ty:=22) Tryz.underlying22 jV Tryz.underlying22 (hW21.ext x30) ((x21.trans x30)).size o30.bts (by simp) (by simp only[List.length_append,List.length_cons,List.length_nil];omega)
   refine ba E E hr31 ?_
   refine ax E E ?_
   refine ah E E jW ?_
   refine au E E hs31 ?_
   have x31:=st31.ext ((x21.trans x30)) (hW21.ext x30).ge (hW21.ext x30).new
   have k5b:=st31.mv.blk (k5a.ext x30) n5a
   have n5b:=st31.off n5a (k5a.ext x30).lt
   rw[←hbit] at hW31
   refine ag (ab (af (aa (ac rfl rfl (ah rfl rfl (ar (o:=2) Tryz.underlying173 rfl (by kernel_rfl) rfl) (ak rfl rfl (k5b.ldO (ms:=[B e15.va.1,x15_0,x15_1]) (o:=2) (fun j v hj=>by rcases j with _|_|_|_|_|_|_|_|_|j<;>simp_all) Tryz.underlying46 rfl (by kernel_rfl)) ?_))))))
   refine am nW E E ((nX (q:=e15.va) (x31) hW31 f15_0 f15_1 (by simp only[List.length_append];omega))) ?_
   rintro v37 w37 ⟨v37,hW37,st37⟩
   have x37:=st37.ext (x31) hW31.ge hW31.new
   have k5c:=st37.mv.blk k5b n5b
   refine ag (ab (aa (ac E E (ah E E (ar (o:=5) MI E (by kernel_rfl) E) (ak E E (aj MH E (k5c.cell (i:=5) E)) ?_)))))
   refine am kH E E ((kI (ps:=e15.pf) (x37) hW37 f15_2 hm.2 (by simp only[List.length_append];omega))) ?_
   rintro v41 w41 ⟨v41,hW41,st41⟩
   have x41:=st41.ext (x37) hW37.ge hW37.new
   refine ag (aS (ab (aa (al (r:=I ((i+1:Nat):Int)) E E E (by have e:((i+1:Nat):Int)=(i:Int)+1:=(by omega);rw[e];exact aN (by omega) (by omega)) ?_))))
   refine ac E E (ag ?_)
   refine dG (i+1) (v41) ⟨rfl,rfl,rfl,rfl,trivial⟩ ⟨by
    rw[dy (by omega),←he15,←List.append_assoc,←hpre]
    simpa only[ei,List.append_assoc] using hW41,((((st1.trans (dl.of_ext (x3_3.trans x20))).trans st21).trans ((dl.of_ext x30).trans st31)).trans st37).trans st41,x41,by omega⟩ (by omega)
 ·refine bc (aI (aI (be (ko E ?_))))
  exact⟨_,rfl,u,by rw[List.take_of_length_le (by omega),List.append_assoc] at hW1;exact hW1,st1⟩
theorem Cl {T:TypeId} {wz w:World} {g:Nat} {l:List UInt8} {n:aY} {vl x y vk vp v:Value}
 (ih:∀k∈n.kids,∀{w:World} {l:List UInt8} {vl x y vk vp v:Value},aK wz w→ia T wz.heap.size g l v w→cC dc k.lems vl wz→bm k.split.at_.2.1 x wz→bm k.split.at_.2.2 y wz→cC bG k.kids vk wz→cC bP k.pf vp wz→wN k→l.length+(dH k).length≤4398046511104→
   Calls Tryz.prog 115 #[.pointer (some ⟨g,0,none⟩),.agg #[vl,I k.split.kd,I k.split.ix,B k.split.at_.1,x,y,vk,B k.empty,vp]] w (bE fun _ w'=>JJ T wz.heap.size g (l++dH k) v w w'))
 (ez:aK wz w) (hW:ia T wz.heap.size g l v w) (hl:cC dc n.lems vl wz) (hx:bm n.split.at_.2.1 x wz) (hy:bm n.split.at_.2.2 y wz) (hk:cC bG n.kids vk wz) (hp:cC bP n.pf vp wz) (hw:wN n) (hb:l.length+(dH n).length≤4398046511104):
 Calls Tryz.prog 115 #[.pointer (some ⟨g,0,none⟩),.agg #[vl,I n.split.kd,I n.split.ix,B n.split.at_.1,x,y,vk,B n.empty,vp]] w (bE fun _ w'=>JJ T wz.heap.size g (l++dH n) v w w'):=by
 refine enter (vs:=[.pointer (some ⟨g,0,none⟩),.agg #[vl,I n.split.kd,I n.split.ix,B n.split.at_.1,x,y,vk,B n.empty,vp]]) Tryz.func115 E E E ?_
 have hll:=hk.len
 obtain⟨wl,wd,wp,wk⟩:=(ur n).1 hw
 have hen:=na n
 refine af (aa ?_)
 obtain⟨g3,w3,hr3,l3,x3,k3⟩:=cK (P:=Tryz.prog) (w:=w) (T:=52) (cs:=[vl,I n.split.kd,I n.split.ix,B n.split.at_.1,x,y,vk,B n.empty,vp])
 refine cM E E hr3 (ag (ab (af (aa (ae E E (ag (ab (af (aE (af (aa (ah E E (ar (o:=6) Mt E (by kernel_rfl) E) ?_))))))))))))
 refine ak E E (aj MF E (k3.cell (i:=6) E)) (aO E E (a6 MF (hk.ext (ez.trans x3))) ?_)
 refine al E E E (ca) (ae E E (ag (ab ?_)))
 refine bz E (fun h7=>?_) (fun h7=>?_)
 ·have h0:¬n.kids.length=0:=by omega
  rw[if_neg h0] at hen
  have hel:(dH n).length=1+(eJ n.lems).length+(fS n.split).length+(n.kids.flatMap dH).length:=by rw[hen];simp only[List.length_append,List.length_cons,List.length_nil]
  refine aa (ae E E (ag (aS (ab (af ?_)))))
  have hW3:=hW.ext x3
  have kg:=hW3.blk
  have n3:=hW.off_new l3
  refine aa (ac E E (ac E E (ax E E ?_)))
  refine ah E E jW ?_
  refine ak E E (aj MB E kg.k0) (ac E E ?_)
  obtain⟨v21,w21,hr21,x21,o21,ob21⟩:=eh (w:=w3) w3.heap.size [2] (by simp) (Nat.le_refl _)
  refine aJ (vs:=[(0,U8 2)]) E E hr21 ?_
  obtain⟨v22,wa22,wb22,hr22,hs22,hW22,st22⟩:=ia.put (t:=22) (t2:=22) (ty:=22) Tryz.underlying22 jV Tryz.underlying22 (hW3.ext x21) (((ez.trans x3).trans x21)).size o21.bts (by simp) (by simp only[List.length_cons,List.length_nil];omega)
  refine ba E E hr22 ?_
  refine ax E E ?_
  refine ah E E jW ?_
  refine au E E hs22 ?_
  have x22:=st22.ext (((ez.trans x3).trans x21)) (hW3.ext x21).ge (hW3.ext x21).new
  have k3a:=st22.mv.blk (k3.ext x21) n3
  have n3a:=st22.off n3 (k3.ext x21).lt
  refine ag (ab (af (aa (ac E E (ah E E (ar (o:=0) Mt E (by kernel_rfl) E) (ak E E (aj MG E (k3a.cell (i:=0) E)) ?_))))))
  refine am pr E E ((px (ls:=n.lems) (x22) hW22 hl wl (by simp only[List.length_append,List.length_cons,List.length_nil];omega))) ?_
  rintro v28 w28 ⟨v28,hW28,st28⟩
  have x28:=st28.ext (x22) hW22.ge hW22.new
  have k3b:=st28.mv.blk k3a n3a
  have n3b:=st28.off n3a k3a.lt
  refine ag (ab (af (af (aa (ac E E ?_)))))
  refine al (u:=U8 2) (v:=U8 2) (r:=B false) E E E (cY (show ¬(2:UInt8)<2 by decide) lh) ?_
  refine ag (ab (cr E (aC (ab (af (aa (ac E E (ah E E (ar (o:=1) Mt E (by kernel_rfl) E) ?_))))))))
  refine ak rfl rfl (k3b.ldO (ms:=[I n.split.kd,I n.split.ix,B n.split.at_.1,x,y]) (o:=1) (fun j v hj=>by rcases j with _|_|_|_|_|_|_|_|_|j<;>simp_all) Tryz.underlying48 rfl (by kernel_rfl)) ?_
  refine am Dz E E ((DB (d:=n.split) (x28) hW28 hx hy wd (by simp only[List.length_append,List.length_cons,List.length_nil];omega))) ?_
  rintro v38 w38 ⟨v38,hW38,st38⟩
  have x38:=st38.ext (x28) hW28.ge hW28.new
  have k3c:=st38.mv.blk k3b n3b
  obtain⟨pre,hpre⟩:∃pre,pre=l++[2]++eJ n.lems++fS n.split:=⟨_,rfl⟩
  have hprl:pre.length=l.length+1+(eJ n.lems).length+(fS n.split).length:=by rw[hpre];simp only[List.length_append,List.length_cons,List.length_nil]
  rw[←hpre] at hW38
  refine ag (ab (af (aa (ah E E (ar (o:=6) Mt E (by kernel_rfl) E) (ak E E (aj MF E (k3c.cell (i:=6) E)) ?_)))))
  refine aO E E (a6 (f:=bG) MF (hk.ext (x38))) ?_
  refine ac E E (ag (ab (aE ?_)))
  refine fw (fun(i:Nat) (u:Value)=>[(0,.pointer (some ⟨g,0,none⟩)),(40,vk),(41,I (n.kids.length:Int)),(42,I (i:Int))]) (fun(i:Nat) (u:Value) w'=>ia T wz.heap.size g (pre++(n.kids.take i).flatMap dH) u w'∧dl g v w u w'∧aK wz w'∧i≤n.kids.length) (fun(i:Nat) (u:Value)=>n.kids.length-i) (0) (v38) ⟨rfl,rfl,rfl,rfl,trivial⟩ ⟨by simpa using hW38,(((dl.of_ext (x3.trans x21)).trans st22).trans st28).trans st38,x38,by omega⟩ ?_
  rintro i u wL ⟨hW1,st1,eL,hi⟩
  refine af (aa (al E E E (aV) (ag (ab (af ?_)))))
  refine bz E (fun h43=>?_) (fun h43=>?_)
  ·refine aC (ab (af (aE (af (aa ?_)))))
   obtain⟨a44,c44,p44,q44,h44⟩:=cd (P:=Tryz.prog) (sz:=9) MF (by kernel_rfl) cG (by omega) hk (i:=i) (by omega) .i64
   obtain⟨e44,he44⟩:∃e,e=n.kids[i]'(by omega):=⟨_,rfl⟩
   rw[←he44] at h44
   obtain⟨x44_0,x44_1,x44_2,x44_3,x44_4,rfl,f44_0,f44_1,f44_2,f44_3,f44_4⟩:=d9 h44
   refine aq E E E (p44 _) ?_
   have hfl:=fU (f:=dH) (l:=n.kids) (i:=i) (by omega)
   rw[←he44] at hfl
   have hmem:e44∈n.kids:=by rw[he44];exact List.getElem_mem _
   refine ak E E ((q44.ext eL).ld Mt E (by kernel_rfl)) ?_
   obtain⟨g6,w6,hr6,l6,x6,k6⟩:=aX (P:=Tryz.prog) (w:=wL) (t:=52) (z:=.agg #[.slice none 0 0,I 0,I 0,B false,.slice none 0 0,.slice none 0 0,.slice none 0 0,B false,.slice none 0 0]) (l:=[.slice none 0 0,I 0,I 0,B false,.slice none 0 0,.slice none 0 0,.slice none 0 0,B false,.slice none 0 0]) (by kernel_rfl) rfl
   refine aT E hr6 ?_
   obtain⟨w13_3,s13_3,q13_3,k13_3⟩:=k6.stS (P:=Tryz.prog) (t:=52) (m:=[x44_0,I e44.split.kd,I e44.split.ix,B e44.split.at_.1,x44_1,x44_2,x44_3,B e44.empty,x44_4]) rfl (by kernel_rfl) (av.cons f44_0.one (av.cons rfl (av.cons rfl (av.cons rfl (av.cons f44_1.one (av.cons f44_2.one (av.cons f44_3.one (av.cons rfl (av.cons f44_4.one av.nil)))))))))
   refine au E E s13_3 ?_
   have x13_3:=aK.of_new (x6) q13_3 l6
   refine ag (ab (aa (ac E E (ak E E (k13_3.ld Tryz.underlying52 E (by kernel_rfl)) (am u7 E E ((ih e44 hmem ((eL.trans x13_3)) (hW1.ext x13_3) f44_0 f44_1 f44_2 f44_3 f44_4 (wk e44 hmem) (by simp only[List.length_append];omega))) ?_)))))
   rintro v48 w48 ⟨v48,hW48,st48⟩
   have x48:=st48.ext ((eL.trans x13_3)) hW1.ge hW1.new
   refine ag (aS (ab (aa (al (r:=I ((i+1:Nat):Int)) E E E (by have e:((i+1:Nat):Int)=(i:Int)+1:=(by omega);rw[e];exact aN (by omega) (by omega)) ?_))))
   refine ac E E (ag ?_)
   refine dG (i+1) (v48) ⟨rfl,rfl,rfl,rfl,trivial⟩ ⟨by rw[dy (by omega),←he44,←List.append_assoc];exact hW48,(st1.trans (dl.of_ext x13_3)).trans st48,x48,by omega⟩ (by omega)
  ·refine bc (aI (aI (be (ko E ?_))))
   exact⟨_,rfl,u,by rw[List.take_of_length_le (by omega),hpre] at hW1;rw[hen];simpa only[List.append_assoc] using hW1,st1⟩
 ·have h0:n.kids.length=0:=by omega
  rw[if_pos h0] at hen
  have hel:(dH n).length=1+(eJ n.lems).length+(ji n.pf).length:=by rw[hen];simp only[List.length_append,vH]
  refine af (aa (ah E E (ar (o:=7) Mt E (by kernel_rfl) E) (ak E E (aj MD E (k3.cell (i:=7) E)) ?_)))
  refine ae E E (ag (ab ?_))
  refine fY E (fun h12=>?_) (fun h12=>?_)
  ·have hbit:wZ n.empty=[1]:=by rw[h12];rfl
   refine aa (ae E E (ag (aS (ab (af ?_)))))
   have hW3:=hW.ext x3
   have kg:=hW3.blk
   have n3:=hW.off_new l3
   refine aa (ac E E (ac E E (ax E E ?_)))
   refine ah E E jW ?_
   refine ak E E (aj MB E kg.k0) (ac E E ?_)
   obtain⟨v21,w21,hr21,x21,o21,ob21⟩:=eh (w:=w3) w3.heap.size [1] (by simp) (Nat.le_refl _)
   refine aJ (vs:=[(0,U8 1)]) E E hr21 ?_
   obtain⟨v22,wa22,wb22,hr22,hs22,hW22,st22⟩:=ia.put (t:=22) (t2:=22) (ty:=22) Tryz.underlying22 jV Tryz.underlying22 (hW3.ext x21) (((ez.trans x3).trans x21)).size o21.bts (by simp) (by simp only[List.length_cons,List.length_nil];omega)
   refine ba E E hr22 ?_
   refine ax E E ?_
   refine ah E E jW ?_
   refine au E E hs22 ?_
   have x22:=st22.ext (((ez.trans x3).trans x21)) (hW3.ext x21).ge (hW3.ext x21).new
   have k3a:=st22.mv.blk (k3.ext x21) n3
   have n3a:=st22.off n3 (k3.ext x21).lt
   refine ag (ab (af (aa (ac E E (ah E E (ar (o:=0) Mt E (by kernel_rfl) E) (ak E E (aj MG E (k3a.cell (i:=0) E)) ?_))))))
   refine am pr E E ((px (ls:=n.lems) (x22) hW22 hl wl (by simp only[List.length_append,List.length_cons,List.length_nil];omega))) ?_
   rintro v28 w28 ⟨v28,hW28,st28⟩
   have x28:=st28.ext (x22) hW22.ge hW22.new
   have k3b:=st28.mv.blk k3a n3a
   have n3b:=st28.off n3a k3a.lt
   refine ag (ab (af (af (aa (ac E E ?_)))))
   refine al (u:=U8 1) (v:=U8 2) (r:=B true) E E E (ci (show(1:UInt8)<2 by decide) lh) ?_
   refine ag (ab (bg E (af (aa (ac E E (ah E E (ar (o:=8) Mt E (by kernel_rfl) E) (ak E E (aj MH E (k3b.cell (i:=8) E)) ?_)))))))
   refine am kH E E ((kI (ps:=n.pf) (x28) hW28 hp wp (by simp only[List.length_append,List.length_cons,List.length_nil];omega))) ?_
   rintro v34 w34 ⟨v34,hW34,st34⟩
   have x34:=st34.ext (x28) hW28.ge hW28.new
   refine ag (ab (aw (ay (Ei E ?_))))
   exact⟨_,rfl,v34,by rw[hen,hbit];simpa only[List.append_assoc] using hW34,(((dl.of_ext (x3.trans x21)).trans st22).trans st28).trans st34⟩
  ·have hbit:wZ n.empty=[0]:=by rw[h12];rfl
   refine aC (aS (ab (af ?_)))
   have hW3:=hW.ext x3
   have kg:=hW3.blk
   have n3:=hW.off_new l3
   refine aa (ac E E (ac E E (ax E E ?_)))
   refine ah E E jW ?_
   refine ak E E (aj MB E kg.k0) (ac E E ?_)
   obtain⟨v21,w21,hr21,x21,o21,ob21⟩:=eh (w:=w3) w3.heap.size [0] (by simp) (Nat.le_refl _)
   refine aJ (vs:=[(0,U8 0)]) E E hr21 ?_
   obtain⟨v22,wa22,wb22,hr22,hs22,hW22,st22⟩:=ia.put (t:=22) (t2:=22) (ty:=22) Tryz.underlying22 jV Tryz.underlying22 (hW3.ext x21) (((ez.trans x3).trans x21)).size o21.bts (by simp) (by simp only[List.length_cons,List.length_nil];omega)
   refine ba E E hr22 ?_
   refine ax E E ?_
   refine ah E E jW ?_
   refine au E E hs22 ?_
   have x22:=st22.ext (((ez.trans x3).trans x21)) (hW3.ext x21).ge (hW3.ext x21).new
   have k3a:=st22.mv.blk (k3.ext x21) n3
   have n3a:=st22.off n3 (k3.ext x21).lt
   refine ag (ab (af (aa (ac E E (ah E E (ar (o:=0) Mt E (by kernel_rfl) E) (ak E E (aj MG E (k3a.cell (i:=0) E)) ?_))))))
   refine am pr E E ((px (ls:=n.lems) (x22) hW22 hl wl (by simp only[List.length_append,List.length_cons,List.length_nil];omega))) ?_
   rintro v28 w28 ⟨v28,hW28,st28⟩
   have x28:=st28.ext (x22) hW22.ge hW22.new
   have k3b:=st28.mv.blk k3a n3a
   have n3b:=st28.off n3a k3a.lt
   refine ag (ab (af (af (aa (ac E E ?_)))))
   refine al (u:=U8 0) (v:=U8 2) (r:=B true) E E E (ci (show(0:UInt8)<2 by decide) lh) ?_
   refine ag (ab (bg E (af (aa (ac E E (ah E E (ar (o:=8) Mt E (by kernel_rfl) E) (ak E E (aj MH E (k3b.cell (i:=8) E)) ?_)))))))
   refine am kH E E ((kI (ps:=n.pf) (x28) hW28 hp wp (by simp only[List.length_append,List.length_cons,List.length_nil];omega))) ?_
   rintro v34 w34 ⟨v34,hW34,st34⟩
   have x34:=st34.ext (x28) hW28.ge hW28.new
   refine ag (ab (aw (ay (Ei E ?_))))
   exact⟨_,rfl,v34,by rw[hen,hbit];simpa only[List.append_assoc] using hW34,(((dl.of_ext (x3.trans x21)).trans st22).trans st28).trans st34⟩
theorem u9 {T:TypeId} {wz:World} {g:Nat}:∀(m:Nat) {n:aY},SizeOf.sizeOf n≤m→∀{w:World} {l:List UInt8} {vl x y vk vp v:Value},aK wz w→ia T wz.heap.size g l v w→cC dc n.lems vl wz→bm n.split.at_.2.1 x wz→bm n.split.at_.2.2 y wz→cC bG n.kids vk wz→cC bP n.pf vp wz→wN n→l.length+(dH n).length≤4398046511104→
 Calls Tryz.prog 115 #[.pointer (some ⟨g,0,none⟩),.agg #[vl,I n.split.kd,I n.split.ix,B n.split.at_.1,x,y,vk,B n.empty,vp]] w (bE fun _ w'=>JJ T wz.heap.size g (l++dH n) v w w')
 |0,n,hm=>by cases n;simp at hm
 |m+1,n,hm=>fun h1 h2 h3 h4 h5 h6 h7 h8 h9=>Cl (fun k hk _ _ _ _ _ _ _ _=>u9 m (by have:=aY.lt_of_mem hk;omega)) h1 h2 h3 h4 h5 h6 h7 h8 h9
theorem ia.mk1 {T:TypeId} {w0 w w':World} {g:Nat} {l:List UInt8} {v:Value} (e:aK w0 w) (ho:c6 w0.heap.size l v w) (x:aK w w') (hg:w.heap.size≤g) (k:ct g T [v] w'):ia T w0.heap.size g l v w':=
 ⟨Nat.le_trans e.size hg,k,.inl (ho.ext x),ho.ge,fun h=>by have:=ho.lt g h;omega,fun n hn=>Nat.lt_of_lt_of_le (ho.lt n hn) x.size⟩
theorem DC {w:World} {b:List UInt8} {bv:Value} {n:aY} {vl x y vk vp:Value} (hbv:cJ b bv w) (hl:cC dc n.lems vl w) (hx:bm n.split.at_.2.1 x w) (hy:bm n.split.at_.2.2 y w) (hk:cC bG n.kids vk w) (hp:cC bP n.pf vp w) (hw:wN n) (hb:b.length+(dH n).length≤4398046511104):
 Calls Tryz.prog 77 #[bv,.agg #[vl,I n.split.kd,I n.split.ix,B n.split.at_.1,x,y,vk,B n.empty,vp]] w (bE fun r w'=>aK w w'∧cJ (b++dH n) r w'):=by
 refine enter (vs:=[bv,.agg #[vl,I n.split.kd,I n.split.ix,B n.split.at_.1,x,y,vk,B n.empty,vp]]) Tryz.func77 E E E ?_
 refine af (aa ?_)
 obtain⟨g3,w3,hr3,l3,x3,k3⟩:=cK (P:=Tryz.prog) (w:=w) (T:=52) (cs:=[vl,I n.split.kd,I n.split.ix,B n.split.at_.1,x,y,vk,B n.empty,vp])
 refine cM E E hr3 (ae E E (ag (ab (af (aa ?_)))))
 obtain⟨v6,w6,hr6,x6,o6,ob6⟩:=eh (w:=w3) w3.heap.size [] (by simp) (Nat.le_refl _)
 refine aJ (vs:=[]) E E hr6 (ac E E ?_)
 obtain⟨v8,w8,hr8,o8,g8⟩:=dn (ty:=22) o6 (hbv.ext (x3.trans x6)) (by simp;omega) (x6).size
 have x8:=aK.of_grew (x6) g8 o6.ge
 refine ba E E hr8 ?_
 have o8w:c6 w.heap.size b v8 w8:=by have:=o8;rw[List.nil_append] at this;exact this.low x3.size
 obtain⟨A8,n8,c8,e8,_⟩:=o8w.bts
 refine bA (vs:=[(0,v8)]) (r:=.agg #[v8]) E E (by rw[e8];exact run_build _ _ _ _ (by kernel_rfl)) ?_
 obtain⟨g10,w10,hr10,l10,x10,k10⟩:=cK (P:=Tryz.prog) (w:=w8) (T:=142) (cs:=[v8])
 refine cM E E hr10 ?_
 have hW10:ia 142 w.heap.size g10 b v8 w10:=ia.mk1 ((x3.trans x8)) o8w x10 l10 k10
 refine ae E E (ag (ab (af (aa (ac E E (ak E E ((k3.ext (x8.trans x10)).ld Mt E (by kernel_rfl)) ?_))))))
 refine am u7 E E ((u9 _ (Nat.le_refl _) (((x3.trans x8).trans x10)) hW10 hl hx hy hk hp hw hb)) ?_
 rintro v13 w13 ⟨v13,hW13,st13⟩
 have x13:=st13.ext (((x3.trans x8).trans x10)) hW10.ge hW10.new
 refine ag (ab (af ?_))
 have kg:=hW13.blk
 refine aa (ac E E (ax E E ?_))
 refine ah E E jW ?_
 refine ak E E (aj MB E kg.k0) (ae E E (ag (ab (aw (az E E ?_)))))
 exact⟨_,rfl,x13,hW13.row.bts⟩
end Go.Rl
namespace Go.Rl
open Go.RowKit Go.Proofs
end Go.Rl
namespace Go.Rl
open Go.RowKit Go.Proofs Go.Proofs.YtpeidnhjcompmaaGreatDoor
theorem jA:aG Tryz.prog 110:=⟨_,Tryz.func110,by kernel_rfl,rfl⟩
theorem fV:aG Tryz.prog 109:=⟨_,Tryz.func109,by kernel_rfl,rfl⟩
def Gt (k:Int):Int:=if k=1 then 2 else if k=2 then 1 else if k=3 then 4 else if k=4 then 3 else k
def dI (d:bU):bU:=⟨Gt d.kd,d.ix,d.at_⟩
theorem Iz {k:Int} (h:¬(k>0∧k<5)):Gt k=k:=by
 unfold Gt
 repeat rw[if_neg (by omega)]
theorem IA {w:World} (h:Ae w) {k:Int} (h1:k>0) (h2:k<5):∃j:Nat,k=(j:Int)∧j<5∧w.cell? ⟨0,0+j,none⟩=some (I (Gt k)):=by
 have hc:∀(j:Nat) (u:Value),[I 0,I 2,I 1,I 4,I 3][j]? =some u→w.cell? ⟨0,0+j,none⟩=some u:=fun j u hu=>by
  have:=h j u hu
  rwa [Addr.add_mid] at this
 obtain⟨j,rfl⟩:∃j:Nat,k=(j:Int):=⟨k.toNat,by omega⟩
 refine⟨j,rfl,by omega,?_⟩
 have:j=1∨j=2∨j=3∨j=4:=by omega
 rcases this with rfl|rfl|rfl|rfl
 ·exact hc 1 _ rfl
 ·exact hc 2 _ rfl
 ·exact hc 3 _ rfl
 ·exact hc 4 _ rfl
theorem py:(Tryz.prog.info? 48).map (fun i=>(i.zero,i.size,i.bytes))=some (some (.agg #[I 0,I 0,B false,.slice none 0 0,.slice none 0 0]),5,72):=by kernel_rfl
theorem zk:(Tryz.prog.info? 48).map (fun i=>(i.zero,i.size))=some (some (.agg #[I 0,I 0,B false,.slice none 0 0,.slice none 0 0]),5):=by kernel_rfl
theorem Cm {d:bU} (h:¬(d.kd>0∧d.kd<5)):dI d=d:=by
 unfold dI
 rw[Iz h]
theorem jB {w:World} {d:bU} {x y:Value} (ho:Ae w) (hx:bm d.at_.2.1 x w) (hy:bm d.at_.2.2 y w):
 Calls Tryz.prog 110 #[.agg #[I d.kd,I d.ix,B d.at_.1,x,y]] w (bE fun r w'=>aK w w'∧r=.agg #[I (dI d).kd,I (dI d).ix,B (dI d).at_.1,x,y]):=by
 refine enter (vs:=[.agg #[I d.kd,I d.ix,B d.at_.1,x,y]]) Tryz.func110 E E E ?_
 refine af (aa ?_)
 obtain⟨g1,w1,hr1,l1,x1,k1⟩:=cK (P:=Tryz.prog) (w:=w) (T:=48) (cs:=[I d.kd,I d.ix,B d.at_.1,x,y])
 refine cM E E hr1 ?_
 obtain⟨g2,w2,hr2,l2,x2,k2⟩:=aX (P:=Tryz.prog) (w:=w1) (t:=48) (z:=.agg #[I 0,I 0,B false,.slice none 0 0,.slice none 0 0]) (l:=[I 0,I 0,B false,.slice none 0 0,.slice none 0 0]) (by kernel_rfl) rfl
 refine aT E hr2 (ag (ab (af (af (aa (ah E E (ar (o:=0) My E (by kernel_rfl) E) (ak E E (aj Mx E (x2.cell_some (k1.cell (i:=0) E))) ?_)))))))
 refine al E E E (ca) (ac E E ?_)
 refine ce (fun h6=>?_) (fun h6=>?_)
 ·refine ai E (ah E E (ar (o:=0) My E (by kernel_rfl) E) (ai E (ak E E (aj Mx E (x2.cell_some (k1.cell (i:=0) E))) ?_)))
  refine ai E (al E E E (aV) (ap E E E (ag (ab ?_))))
  refine bz E (fun h10=>?_) (fun h10=>?_)
  ·have h10:d.kd<5:=h10
   obtain⟨j,hj,hj5,cj⟩:=IA (ho.ext (x1.trans x2)) h6 h10
   refine aa (ah E E (ar (o:=0) My E (by kernel_rfl) E) (ak E E (aj Mx E (x2.cell_some (k1.cell (i:=0) E))) ?_))
   refine aq (v:=.int .i64 (j:Int)) E (by rw[hj];rfl) E (iW Tryz.underlying225 (by kernel_rfl) hj5 .i64) ?_
   refine ak E E (aj Mx E cj) (ah E E (ar (o:=0) My E (by kernel_rfl) E) ?_)
   obtain⟨w2_5,s2_5,q2_5,k2_5⟩:=(k1.ext x2).stC (P:=Tryz.prog) (t:=3) (i:=0) (v:=I (Gt d.kd)) (by kernel_rfl) rfl (by simp)
   refine au E E s2_5 ?_
   have x2_5:=aK.of_new ((x1.trans x2)) q2_5 l1
   have k25:=k2.other q2_5 (fun e=>by have:=Option.some.inj e;have:=k1.lt;omega)
   refine ag (ab (af (aa (ak E E (k2_5.ld My E (by kernel_rfl)) ?_))))
   obtain⟨w3_1,s3_1,q3_1,k3_1⟩:=k25.stS (P:=Tryz.prog) (t:=48) (m:=[I (Gt d.kd),I d.ix,B d.at_.1,x,y]) rfl (by kernel_rfl) (av.cons rfl (av.cons rfl (av.cons rfl (av.cons hx.one (av.cons hy.one av.nil)))))
   refine au E E s3_1 ?_
   have x3_1:=aK.of_new x2_5 q3_1 (Nat.le_trans x1.size l2)
   refine ag (ab (aw ?_))
   refine dx E E k3_1 My E (by kernel_rfl) ?_
   exact⟨_,rfl,x3_1,rfl⟩
  ·have h10:¬d.kd<5:=h10
   refine aC (ab (af (aa (ak E E ((k1.ext x2).ld My E (by kernel_rfl)) ?_))))
   obtain⟨w3_1,s3_1,q3_1,k3_1⟩:=k2.stS (P:=Tryz.prog) (t:=48) (m:=[I d.kd,I d.ix,B d.at_.1,x,y]) rfl (by kernel_rfl) (av.cons rfl (av.cons rfl (av.cons rfl (av.cons hx.one (av.cons hy.one av.nil)))))
   refine au E E s3_1 ?_
   have x3_1:=aK.of_new (x2) q3_1 l2
   refine ag (ab (aw ?_))
   refine dx E E k3_1 My E (by kernel_rfl) ?_
   exact⟨_,rfl,(x1.trans x3_1),by rw[Cm (by first|exact fun h=>h6 h.1|exact fun h=>h10 h.2)]⟩
 ·refine an E E E (an E E E (an E E E (aD E E E (ag (ab (cr E (aC (ab (af (aa (ak E E ((k1.ext x2).ld My E (by kernel_rfl)) ?_)))))))))))
  obtain⟨w3_1,s3_1,q3_1,k3_1⟩:=k2.stS (P:=Tryz.prog) (t:=48) (m:=[I d.kd,I d.ix,B d.at_.1,x,y]) rfl (by kernel_rfl) (av.cons rfl (av.cons rfl (av.cons rfl (av.cons hx.one (av.cons hy.one av.nil)))))
  refine au E E s3_1 ?_
  have x3_1:=aK.of_new (x2) q3_1 l2
  refine ag (ab (aw ?_))
  refine dx E E k3_1 My E (by kernel_rfl) ?_
  exact⟨_,rfl,(x1.trans x3_1),by rw[Cm (by first|exact fun h=>h6 h.1|exact fun h=>h10 h.2)]⟩
theorem ck (d:bU):(dC d).size=5:=rfl
theorem AH {w:World} {d:bU} {x y:Value} (hx:bm d.at_.2.1 x w) (hy:bm d.at_.2.2 y w):Rp w (dC d) [I d.kd,I d.ix,B d.at_.1,x,y]:=by
 simp only[dC,qY,Rp]
 have h3:Rp w (jh d.at_) [B d.at_.1,x,y]:=by
  simp only[jh,Rp]
  exact bw.cons (a:=[B d.at_.1]) (by simp only[Rp,B]) (bw.cons (a:=[x]) (Rp.words.2 hx) (bw.cons (b:=[]) (Rp.words.2 hy) bw.nil))
 exact bw.cons (a:=[I d.kd]) (by simp only[Rp,I]) (bw.cons (a:=[I d.ix]) (by simp only[Rp,I]) (by simpa using bw.cons h3 bw.nil))
theorem jP {w:World} {d:bU} {x y:Value}:∃r w',(Instr.buildSlice 41 1 (eI 0 [Value.agg #[I d.kd,I d.ix,B d.at_.1,x,y]]).toArray).run Tryz.prog w=.ok r w'∧aK w w'∧Sl 5 [I d.kd,I d.ix,B d.at_.1,x,y] r w':=by
 obtain⟨r,w',a,b,c,_⟩:=yR (P:=Tryz.prog) (w:=w) Tryz.underlying41 zk rfl (by omega) [[I d.kd,I d.ix,B d.at_.1,x,y]] (by simp) (by simp) (by simp)
 exact⟨r,w',a,b,c⟩
end Go.Rl
namespace Go.Rl
open Go.RowKit Go.Proofs
end Go.Rl
namespace Go.Rl
open Go.RowKit Go.Proofs
theorem lw:aG Tryz.prog 104:=⟨_,Tryz.func104,by kernel_rfl,rfl⟩
theorem uu:aG Tryz.prog 58:=⟨_,Tryz.func58,by kernel_rfl,rfl⟩
theorem xH:aG Tryz.prog 62:=⟨_,Tryz.func62,by kernel_rfl,rfl⟩
theorem xI:aG Tryz.prog 107:=⟨_,Tryz.func107,by kernel_rfl,rfl⟩
theorem xJ:aG Tryz.prog 63:=⟨_,Tryz.func63,by kernel_rfl,rfl⟩
theorem gR:aG Tryz.prog 59:=⟨_,Tryz.func59,by kernel_rfl,rfl⟩
def sQ (q:ft):Prop:=q.2.1.length≤1073741824∧q.2.2.length≤1073741824
def sP (l:List cg):Prop:=∀m∈l,sQ m.co
def sL (m:dN):Prop:=sQ m.va∧sP m.pf
mutual
def sN:aY→Prop
 |.mk lems sp kids _ pf=>(∀m∈lems,sL m)∧sQ sp.at_∧sP pf∧Mh kids
def Mh:List aY→Prop
 |[]=>True
 |n::l=>sN n∧Mh l
end
theorem EX:∀l:List aY,Mh l↔∀n∈l,sN n
 |[]=>by simp[Mh]
 |n::l=>by simp only[Mh,EX l,List.mem_cons,forall_eq_or_imp]
theorem xK (n:aY):sN n↔(∀m∈n.lems,sL m)∧sQ n.split.at_∧sP n.pf∧∀k∈n.kids,sN k:=by
 cases n with
 |mk l s k e p=>simp only[sN,EX];rfl
theorem nY {w:World} {q:ft} {x y:Value} (hx:bm q.2.1 x w) (hy:bm q.2.2 y w) (hs:sQ q):
 Calls Tryz.prog 59 #[.agg #[B q.1,x,y]] w (bE fun r w'=>aK w w'∧r=B (fP q)):=
 ph (b:=q.1) ⟨x,y,rfl,hx,hy⟩ (by have:=hs.1;omega) (by have:=hs.2;omega)
theorem pz {w:World} {q:ft} {x y:Value} {b:Bool} (hx:bm q.2.1 x w) (hy:bm q.2.2 y w) (hs:sQ q) (hb:fP q=b):
 Calls Tryz.prog 59 #[.agg #[B q.1,x,y]] w (bE fun r w'=>aK w w'∧r=B b):=hb▸nY hx hy hs
theorem DD {w:World} {l:List cg} {v:Value} (hv:cC bP l v w) (hs:sP l):
 Calls Tryz.prog 104 #[v] w (bE fun r w'=>aK w w'∧r=B (m0 l)):=by
 refine enter (vs:=[v]) Tryz.func104 E E E ?_
 have hll:=hv.len
 refine af (aa (ae E E (ag (ab (af (af (aa (ae E E (ag (ab (aE ?_)))))))))))
 refine cf (α:=Nat) (fun i=>[(0,v),(3,I (i:Int))]) (fun i w'=>aK w w'∧i≤l.length∧(l.all fun m:cg=>fP m.co)=((l.drop i).all fun m:cg=>fP m.co)) (fun i=>l.length-i) (0) ⟨rfl,rfl,trivial⟩ ⟨aK.refl _,by omega,rfl⟩ ?_
 rintro i wL ⟨eL,hi,hall⟩
 refine af (af (aa (ac E E (ac E E (aO E E (a6 MH (hv.ext eL)) (al E E E (aV) (ag (ab ?_))))))))
 refine bz E (fun h7=>?_) (fun h7=>?_)
 ·refine aC (ab (af (aE (af (aa (ac E E (ac E E ?_)))))))
  obtain⟨a12,c12,p12,q12,h12⟩:=cd (P:=Tryz.prog) (sz:=7) MH (by kernel_rfl) dD (by omega) (hv.ext eL) (i:=i) (by omega) .i64
  obtain⟨e12,he12⟩:∃e,e=l[i]'(by omega):=⟨_,rfl⟩
  rw[←he12] at h12
  obtain⟨x12_0,x12_1,rfl,f12_0,f12_1⟩:=ib h12
  refine aq rfl rfl rfl (p12 _) (ah rfl rfl (ij (o:=4) Tryz.underlying187 rfl (by kernel_rfl) rfl) (ak rfl rfl (q12.ldO (ms:=[B e12.co.1,x12_0,x12_1]) (o:=4) (fun j v hj=>by rcases j with _|_|_|_|_|_|_|_|_|j<;>simp_all) Tryz.underlying46 rfl (by kernel_rfl)) ?_))
  refine am gR E E ((nY (q:=e12.co) f12_0 f12_1 (hs e12 (by rw[he12];exact List.getElem_mem _)))) ?_
  rintro v15 w15 ⟨x15,rfl⟩
  refine bt E E bu (ag (ab ?_))
  refine fY E (fun h16=>?_) (fun h16=>?_)
  ·have hno:fP (l[i]'(by omega)).co=false:=by rw[←he12];rw[Bool.not_eq_true'] at h16;exact h16
   refine af (aa (ae E E (ag (ab (aw (aZ (ay (ay (aZ (ay (az E E ?_)))))))))))
   exact⟨_,rfl,(eL.trans x15),congrArg B (gQ (p:=fun m:cg=>fP m.co) (by omega) hall hno).symm⟩
  ·have hyes:fP (l[i]'(by omega)).co=true:=by rw[←he12];rw[Bool.not_eq_false'] at h16;exact h16
   refine aC (aS (ab (aa (ac E E (al (r:=I ((i+1:Nat):Int)) E E E (by have e:((i+1:Nat):Int)=(i:Int)+1:=(by omega);rw[e];exact aN (by omega) (by omega)) ?_)))))
   refine ae E E (ag ?_)
   refine bR (i+1) ⟨rfl,rfl,trivial⟩ ⟨(eL.trans x15),by omega,rW (p:=fun m:cg=>fP m.co) (by omega) hall hyes⟩ (by omega)
 ·refine bc (aI (aI (be (ab (af (aa (ae E E (ag (ab (aw (az E E ?_)))))))))))
  exact⟨_,rfl,eL,congrArg B (nV (p:=fun m:cg=>fP m.co) (by omega) hall).symm⟩
theorem pA {w:World} {l:List cg} {v:Value} {b:Bool} (hv:cC bP l v w) (hs:sP l) (hb:m0 l=b):
 Calls Tryz.prog 104 #[v] w (bE fun r w'=>aK w w'∧r=B b):=hb▸DD hv hs
theorem Gu {w:World} {n:aY} {vl x y vk vp:Value} (ih:∀k∈n.kids,∀{w:World} {vl x y vk vp:Value},cC dc k.lems vl w→bm k.split.at_.2.1 x w→bm k.split.at_.2.2 y w→cC bG k.kids vk w→cC bP k.pf vp w→sN k→
 Calls Tryz.prog 58 #[.agg #[vl,I k.split.kd,I k.split.ix,B k.split.at_.1,x,y,vk,B k.empty,vp]] w (bE fun r w'=>aK w w'∧r=B (jn k)))
 (hl:cC dc n.lems vl w) (hx:bm n.split.at_.2.1 x w) (hy:bm n.split.at_.2.2 y w) (hk:cC bG n.kids vk w) (hp:cC bP n.pf vp w) (hs:sN n):
 Calls Tryz.prog 58 #[.agg #[vl,I n.split.kd,I n.split.ix,B n.split.at_.1,x,y,vk,B n.empty,vp]] w (bE fun r w'=>aK w w'∧r=B (jn n)):=by
 refine enter (vs:=[.agg #[vl,I n.split.kd,I n.split.ix,B n.split.at_.1,x,y,vk,B n.empty,vp]]) Tryz.func58 E E E ?_
 obtain⟨sl,ss,sp,sk⟩:=(xK n).1 hs
 have hcn:=EP n
 have hll:=hl.len
 have hkl:=hk.len
 refine af (aa ?_)
 obtain⟨g1,w1,hr1,l1,x1,k1⟩:=cK (P:=Tryz.prog) (w:=w) (T:=52) (cs:=[vl,I n.split.kd,I n.split.ix,B n.split.at_.1,x,y,vk,B n.empty,vp])
 refine cM E E hr1 (ae E E (ag (ab (af (af ?_)))))
 rcases hc1:m0 n.pf
 rotate_left
 rcases hc2:fP n.split.at_
 ·refine aa (ah E E (ar (o:=8) Mt E (by kernel_rfl) E) (ak E E (aj MH E (k1.cell (i:=8) E)) ?_))
  refine am lw E E ((pA (hp.ext x1) sp hc1)) ?_
  rintro v7 w7 ⟨x7,rfl⟩
  refine bt E E bu (ac E E (ai E (ah E E (ar (o:=1) Mt E (by kernel_rfl) E) (ai E (ah E E (cL (b:=1) (o:=2) My E (by kernel_rfl) E) ?_)))))
  refine ai rfl (ak rfl rfl ((k1.ext x7).ldO (ms:=[B n.split.at_.1,x,y]) (o:=3) (fun j v hj=>by rcases j with _|_|_|_|_|_|_|_|_|j<;>simp_all) Tryz.underlying46 rfl (by kernel_rfl)) ?_)
  refine ai E (am gR E E ((pz (q:=n.split.at_) (hx.ext (x1.trans x7)) (hy.ext (x1.trans x7)) ss hc2)) ?_)
  rintro v13 w13 ⟨x13,rfl⟩
  refine ai E (bt E E bu (aD E E E (ag (ab (bg E (af (aa (ae E E (ag (ab (aw (ay (az E E ?_)))))))))))))
  exact⟨_,rfl,((x1.trans x7).trans x13),by rw[hcn,hc1,hc2];rfl⟩
 ·refine aa (ah E E (ar (o:=8) Mt E (by kernel_rfl) E) (ak E E (aj MH E (k1.cell (i:=8) E)) ?_))
  refine am lw E E ((pA (hp.ext x1) sp hc1)) ?_
  rintro v7 w7 ⟨x7,rfl⟩
  refine bt E E bu (ac E E (ai E (ah E E (ar (o:=1) Mt E (by kernel_rfl) E) (ai E (ah E E (cL (b:=1) (o:=2) My E (by kernel_rfl) E) ?_)))))
  refine ai rfl (ak rfl rfl ((k1.ext x7).ldO (ms:=[B n.split.at_.1,x,y]) (o:=3) (fun j v hj=>by rcases j with _|_|_|_|_|_|_|_|_|j<;>simp_all) Tryz.underlying46 rfl (by kernel_rfl)) ?_)
  refine ai E (am gR E E ((pz (q:=n.split.at_) (hx.ext (x1.trans x7)) (hy.ext (x1.trans x7)) ss hc2)) ?_)
  rintro v13 w13 ⟨x13,rfl⟩
  refine ai E (bt E E bu (aD E E E (ag (ab (cr E (aC (ab (af (af (aa (ae E E (ag (ab (aE ?_))))))))))))))
  refine cf (α:=Nat) (fun i=>[(1,.pointer (some ⟨g1,0,none⟩)),(3,I (i:Int))]) (fun i w'=>aK w w'∧aK w1 w'∧i≤n.lems.length∧n.lems.all i6=(n.lems.drop i).all i6) (fun i=>n.lems.length-i) (0) ⟨rfl,rfl,trivial⟩ ⟨((x1.trans x7).trans x13),(x7.trans x13),by omega,rfl⟩ ?_
  rintro i wL ⟨eL,e1L,hi,hall⟩
  refine af (af (aa (ac E E (ah E E (ar (o:=0) Mt E (by kernel_rfl) E) (ak E E (aj MG E (e1L.cell_some (k1.cell (i:=0) E))) ?_)))))
  refine aO E E (a6 MG (hl.ext eL)) (al E E E (aV) (ag (ab ?_)))
  refine bz E (fun h20=>?_) (fun h20=>?_)
  ·refine aC (ab (af (aE (af ?_))))
   obtain⟨em,hem⟩:∃em,em=n.lems[i]'(by have:=hl.len;omega):=⟨_,rfl⟩
   have hsm:=sl em (by rw[hem];exact List.getElem_mem _)
   rcases hc3:fP em.va
   rotate_left
   rcases hc4:m0 em.pf
   ·refine aa (ah E E (ar (o:=0) Mt E (by kernel_rfl) E) (ak E E (aj MG E (e1L.cell_some (k1.cell (i:=0) E))) ?_))
    refine ac E E ?_
    obtain⟨a26,c26,p26,q26,h26⟩:=cd (P:=Tryz.prog) (sz:=6) MG (by kernel_rfl) cH (by omega) (hl.ext eL) (i:=i) (by omega) .i64
    rw[←hem] at h26
    obtain⟨x26_0,x26_1,x26_2,rfl,f26_0,f26_1,f26_2⟩:=fO h26
    refine aq rfl rfl rfl (p26 _) (ah rfl rfl (ij (o:=2) Tryz.underlying173 rfl (by kernel_rfl) rfl) (ak rfl rfl (q26.ldO (ms:=[B em.va.1,x26_0,x26_1]) (o:=2) (fun j v hj=>by rcases j with _|_|_|_|_|_|_|_|_|j<;>simp_all) Tryz.underlying46 rfl (by kernel_rfl)) ?_))
    refine am gR E E ((pz (q:=em.va) f26_0 f26_1 hsm.1 hc3)) ?_
    rintro v29 w29 ⟨x29,rfl⟩
    refine bt E E bu (ac E E (ai E (ah E E (ar (o:=0) Mt E (by kernel_rfl) E) (ai E (ak E E (aj MG E ((e1L.trans x29).cell_some (k1.cell (i:=0) E))) ?_)))))
    refine ai E (ac E E (ai E ?_))
    obtain⟨a35,c35,p35,q35,h35⟩:=cd (P:=Tryz.prog) (sz:=6) MG (by kernel_rfl) cH (by omega) (hl.ext (eL.trans x29)) (i:=i) (by omega) .i64
    rw[←hem] at h35
    obtain⟨x35_0,x35_1,x35_2,rfl,f35_0,f35_1,f35_2⟩:=fO h35
    refine aq E E E (p35 _) (ai E (ah E E (ij (o:=5) MI E (by kernel_rfl) E) (ai E (ak E E (aj MH E (q35.at (j:=5) E)) ?_))))
    refine ai E (am lw E E ((pA f35_2 hsm.2 hc4)) ?_)
    rintro v38 w38 ⟨x38,rfl⟩
    refine ai E (bt E E bu (aD E E E (ag (ab (bg E (af (aa (ae E E (ag (ab (aw (aZ (ay (ay (aZ (ay (az E E ?_)))))))))))))))))
    exact⟨_,rfl,((eL.trans x29).trans x38),by rw[hcn,gQ (p:=i6) (i:=i) (by omega) hall (by rw[←hem];unfold i6;rw[hc3,hc4];rfl),Bool.and_false,Bool.false_and];rfl⟩
   ·refine aa (ah E E (ar (o:=0) Mt E (by kernel_rfl) E) (ak E E (aj MG E (e1L.cell_some (k1.cell (i:=0) E))) ?_))
    refine ac E E ?_
    obtain⟨a26,c26,p26,q26,h26⟩:=cd (P:=Tryz.prog) (sz:=6) MG (by kernel_rfl) cH (by omega) (hl.ext eL) (i:=i) (by omega) .i64
    rw[←hem] at h26
    obtain⟨x26_0,x26_1,x26_2,rfl,f26_0,f26_1,f26_2⟩:=fO h26
    refine aq rfl rfl rfl (p26 _) (ah rfl rfl (ij (o:=2) Tryz.underlying173 rfl (by kernel_rfl) rfl) (ak rfl rfl (q26.ldO (ms:=[B em.va.1,x26_0,x26_1]) (o:=2) (fun j v hj=>by rcases j with _|_|_|_|_|_|_|_|_|j<;>simp_all) Tryz.underlying46 rfl (by kernel_rfl)) ?_))
    refine am gR E E ((pz (q:=em.va) f26_0 f26_1 hsm.1 hc3)) ?_
    rintro v29 w29 ⟨x29,rfl⟩
    refine bt E E bu (ac E E (ai E (ah E E (ar (o:=0) Mt E (by kernel_rfl) E) (ai E (ak E E (aj MG E ((e1L.trans x29).cell_some (k1.cell (i:=0) E))) ?_)))))
    refine ai E (ac E E (ai E ?_))
    obtain⟨a35,c35,p35,q35,h35⟩:=cd (P:=Tryz.prog) (sz:=6) MG (by kernel_rfl) cH (by omega) (hl.ext (eL.trans x29)) (i:=i) (by omega) .i64
    rw[←hem] at h35
    obtain⟨x35_0,x35_1,x35_2,rfl,f35_0,f35_1,f35_2⟩:=fO h35
    refine aq E E E (p35 _) (ai E (ah E E (ij (o:=5) MI E (by kernel_rfl) E) (ai E (ak E E (aj MH E (q35.at (j:=5) E)) ?_))))
    refine ai E (am lw E E ((pA f35_2 hsm.2 hc4)) ?_)
    rintro v38 w38 ⟨x38,rfl⟩
    refine ai E (bt E E bu (aD E E E (ag (ab (cr E (aC (aS (ab (aa (ac E E (al (r:=I ((i+1:Nat):Int)) E E E (by have e:((i+1:Nat):Int)=(i:Int)+1:=(by omega);rw[e];exact aN (by omega) (by omega)) ?_)))))))))))
    refine ae E E (ag ?_)
    refine bR (i+1) ⟨rfl,rfl,trivial⟩ ⟨((eL.trans x29).trans x38),((e1L.trans x29).trans x38),by omega,rW (p:=i6) (by omega) hall (by rw[←hem];unfold i6;rw[hc3,hc4];rfl)⟩ (by omega)
   ·refine aa (ah E E (ar (o:=0) Mt E (by kernel_rfl) E) (ak E E (aj MG E (e1L.cell_some (k1.cell (i:=0) E))) ?_))
    refine ac E E ?_
    obtain⟨a26,c26,p26,q26,h26⟩:=cd (P:=Tryz.prog) (sz:=6) MG (by kernel_rfl) cH (by omega) (hl.ext eL) (i:=i) (by omega) .i64
    rw[←hem] at h26
    obtain⟨x26_0,x26_1,x26_2,rfl,f26_0,f26_1,f26_2⟩:=fO h26
    refine aq rfl rfl rfl (p26 _) (ah rfl rfl (ij (o:=2) Tryz.underlying173 rfl (by kernel_rfl) rfl) (ak rfl rfl (q26.ldO (ms:=[B em.va.1,x26_0,x26_1]) (o:=2) (fun j v hj=>by rcases j with _|_|_|_|_|_|_|_|_|j<;>simp_all) Tryz.underlying46 rfl (by kernel_rfl)) ?_))
    refine am gR E E ((pz (q:=em.va) f26_0 f26_1 hsm.1 hc3)) ?_
    rintro v29 w29 ⟨x29,rfl⟩
    refine bt E E bu (ac E E (an E E E (an E E E (an E E E (an E E E (an E E E (an E E E (an E E E (an E E E ?_)))))))))
    refine ap E E E (ag (ab (bg E (af (aa (ae E E (ag (ab (aw (aZ (ay (ay (aZ (ay (az E E ?_)))))))))))))))
    exact⟨_,rfl,(eL.trans x29),by rw[hcn,gQ (p:=i6) (i:=i) (by omega) hall (by rw[←hem];unfold i6;rw[hc3];rfl),Bool.and_false,Bool.false_and];rfl⟩
  ·refine bc (aI (aI (be (ab (af (af ?_))))))
   have hla:=nV (p:=i6) (by omega) hall
   refine aa (ae E E (ag (ab (aE ?_))))
   refine cf (α:=Nat) (fun i=>[(1,.pointer (some ⟨g1,0,none⟩)),(4,I (i:Int))]) (fun i w'=>aK w w'∧aK w1 w'∧i≤n.kids.length∧n.kids.all jn=(n.kids.drop i).all jn) (fun i=>n.kids.length-i) (0) ⟨rfl,rfl,trivial⟩ ⟨eL,e1L,by omega,rfl⟩ ?_
   rintro i wM ⟨eM,e1M,hi2,hall2⟩
   refine af (af (aa (ac E E (ah E E (ar (o:=6) Mt E (by kernel_rfl) E) (ak E E (aj MF E (e1M.cell_some (k1.cell (i:=6) E))) ?_)))))
   refine aO E E (a6 MF (hk.ext eM)) (al E E E (aV) (ag (ab ?_)))
   refine bz E (fun h45=>?_) (fun h45=>?_)
   ·refine aC (ab (af (aE (af (aa (ah E E (ar (o:=6) Mt E (by kernel_rfl) E) (ak E E (aj MF E (e1M.cell_some (k1.cell (i:=6) E))) ?_)))))))
    refine ac E E ?_
    obtain⟨a51,c51,p51,q51,h51⟩:=cd (P:=Tryz.prog) (sz:=9) MF (by kernel_rfl) cG (by omega) (hk.ext eM) (i:=i) (by omega) .i64
    obtain⟨e51,he51⟩:∃e,e=n.kids[i]'(by omega):=⟨_,rfl⟩
    rw[←he51] at h51
    obtain⟨x51_0,x51_1,x51_2,x51_3,x51_4,rfl,f51_0,f51_1,f51_2,f51_3,f51_4⟩:=d9 h51
    refine aq E E E (p51 _) ?_
    have hmem:e51∈n.kids:=by rw[he51];exact List.getElem_mem _
    refine ak E E (q51.ld Mt E (by kernel_rfl)) (am uu E E ((ih e51 hmem f51_0 f51_1 f51_2 f51_3 f51_4 (sk e51 hmem))) ?_)
    rintro v53 w53 ⟨x53,rfl⟩
    refine bt E E bu (ag (ab ?_))
    refine fY E (fun h54=>?_) (fun h54=>?_)
    ·have hno:jn (n.kids[i]'(by have:=hk.len;omega))=false:=by rw[←he51];rw[Bool.not_eq_true'] at h54;exact h54
     refine af (aa (ae E E (ag (ab (aw (aZ (ay (ay (aZ (ay (az E E ?_)))))))))))
     exact⟨_,rfl,(eM.trans x53),by rw[hcn,gQ (p:=jn) (by omega) hall2 hno,Bool.and_false];rfl⟩
    ·have hyes:jn (n.kids[i]'(by have:=hk.len;omega))=true:=by rw[←he51];rw[Bool.not_eq_false'] at h54;exact h54
     refine aC (aS (ab (aa (ac E E (al (r:=I ((i+1:Nat):Int)) E E E (by have e:((i+1:Nat):Int)=(i:Int)+1:=(by omega);rw[e];exact aN (by omega) (by omega)) ?_)))))
     refine ae E E (ag ?_)
     refine bR (i+1) ⟨rfl,rfl,trivial⟩ ⟨(eM.trans x53),(e1M.trans x53),by omega,rW (p:=jn) (by omega) hall2 hyes⟩ (by omega)
   ·refine bc (aI (aI (be (ab (af (aa (ae E E (ag (ab (aw (az E E ?_)))))))))))
    exact⟨_,rfl,eM,by rw[hcn,hc1,hc2,hla,nV (p:=jn) (by omega) hall2];rfl⟩
 ·refine aa (ah E E (ar (o:=8) Mt E (by kernel_rfl) E) (ak E E (aj MH E (k1.cell (i:=8) E)) ?_))
  refine am lw E E ((pA (hp.ext x1) sp hc1)) ?_
  rintro v7 w7 ⟨x7,rfl⟩
  refine bt E E bu (ac E E (an E E E (an E E E (an E E E (an E E E (an E E E (ap E E E (ag (ab (bg E ?_))))))))))
  refine af (aa (ae E E (ag (ab (aw (ay (az E E ?_)))))))
  exact⟨_,rfl,(x1.trans x7),by rw[hcn,hc1];rfl⟩
theorem uw:∀(m:Nat) {n:aY},SizeOf.sizeOf n≤m→∀{w:World} {vl x y vk vp:Value},cC dc n.lems vl w→bm n.split.at_.2.1 x w→bm n.split.at_.2.2 y w→cC bG n.kids vk w→cC bP n.pf vp w→sN n→
 Calls Tryz.prog 58 #[.agg #[vl,I n.split.kd,I n.split.ix,B n.split.at_.1,x,y,vk,B n.empty,vp]] w (bE fun r w'=>aK w w'∧r=B (jn n))
 |0,n,hm=>by cases n;simp at hm
 |m+1,n,hm=>fun h1 h2 h3 h4 h5 h6=>Gu (fun k hk _ _ _ _ _ _=>uw m (by have:=aY.lt_of_mem hk;omega)) h1 h2 h3 h4 h5 h6
theorem xL {w:World} {b:List UInt8} {bv:Value} {d:bU} {x y:Value} (hb:cJ b bv w) (hx:bm d.at_.2.1 x w) (hy:bm d.at_.2.2 y w) (hw:wD d) (hl:b.length+(fS d).length≤4398046511104):
 Calls Tryz.prog 62 #[bv,.agg #[I d.kd,I d.ix,B d.at_.1,x,y]] w (bE fun r w'=>aK w w'∧cJ (b++fS d) r w'):=by
 refine enter (vs:=[bv,.agg #[I d.kd,I d.ix,B d.at_.1,x,y]]) Tryz.func62 E E E ?_
 have hdl:(fS d).length=(du d.kd).length+(du d.ix).length+(gD d.at_).length:=by simp only[fS,List.length_append]
 have hqa:=jT d.at_
 refine af (aa ?_)
 obtain⟨g3,w3,hr3,l3,x3,k3⟩:=cK (P:=Tryz.prog) (w:=w) (T:=48) (cs:=[I d.kd,I d.ix,B d.at_.1,x,y])
 refine cM E E hr3 (ae E E (ag (ab (af (bI 10 [14] (by kernel_rfl) (by kernel_rfl) ?_)))))
 refine aA E E (aW E E (fun w hw=>ar (o:=0) My E (by kernel_rfl) E) (aP E E (fun w hw=>aj Mx E (hw.cell_some (k3.cell (i:=0) E))) ?_))
 have hw0:=hw
 refine cn (S:=cJ (b++du d.kd)) iB (cJ.stable _) rfl (fun w hw=>by rintro _ rfl _ rfl;exact bE.mono (iC (n:=d.kd) ((hb.ext x3).ext hw) (by omega) hw0.1.1 hw0.1.2) fun v w' h=>⟨h.1,h.2.bts⟩) ?_
 refine aW E E (fun w hw=>ar (o:=1) My E (by kernel_rfl) E) (aP E E (fun w hw=>aj Mx E (hw.cell_some (k3.cell (i:=1) E))) ?_)
 refine cn (S:=cJ (b++du d.kd++du d.ix)) iB (cJ.stable _) rfl (fun w hw=>by rintro _ h8 _ rfl;exact bE.mono (iC (n:=d.ix) h8 (by simp only[List.length_append];omega) hw0.2.1 hw0.2.2) fun v w' h=>⟨h.1,h.2.bts⟩) ?_
 refine aW rfl rfl (fun w hw=>ar (o:=2) Tryz.underlying48 rfl (by kernel_rfl) rfl) (aP rfl rfl (fun w hw=>(k3.ext hw).ldO (ms:=[B d.at_.1,x,y]) (o:=2) (fun j v hj=>by rcases j with _|_|_|_|_|_|_|_|_|j<;>simp_all) Tryz.underlying46 rfl (by kernel_rfl)) ?_)
 refine cn (S:=cJ (b++du d.kd++du d.ix++gD d.at_)) j5 (cJ.stable _) rfl (fun w hw=>by rintro _ h11 _ rfl;exact bE.mono (j6 h11 (dm.mk ((hx.ext x3).ext hw) ((hy.ext x3).ext hw)) (by simp only[List.length_append];omega)) fun v w' h=>⟨h.1,h.2.bts⟩) ?_
 refine cq ?_
 intro wg1 xg1
 intro vg14 b14
 refine ae E E (ag (ab (aw (az E E ?_))))
 exact⟨_,rfl,(x3.trans xg1),by have h:cJ (b++du d.kd++du d.ix++gD d.at_) _ _:=b14;simpa only[fS,List.append_assoc] using h⟩
end Go.Rl
namespace Go.Rl
open Go.RowKit Go.Proofs
theorem Lr:(Tryz.prog.info? 224).map (·.size)=some 4:=by kernel_rfl
theorem Ls:(Tryz.prog.info? 3).map (·.size)=some 1:=by kernel_rfl
theorem H8.sE {b:Nat} {T:TypeId} {l:List Value}:cb (H8 b T l):=fun _ _ _ ⟨g5,h1,h2,h3⟩ hm=>⟨g5,h1,h2,h3.ext hm⟩
def lx (m:cg):List Int:=[m.kd,m.ix,m.lo,m.hi]
theorem ux (m:cg):fp m=(lx m).flatMap du++gD m.co:=by simp[fp,lx,List.append_assoc]
theorem IB {l:List Int} {k:Nat} (hk:k<l.length):(l.take (k+1)).flatMap du=(l.take k).flatMap du++du l[k]:=by
 rw[List.take_succ_eq_append_getElem hk,List.flatMap_append]
 simp
theorem Gv {l:List Int} {k:Nat} (hk:k<l.length):(l.map I)[k]? =some (I l[k]):=by simp[hk]
theorem xM {w:World} {b:List UInt8} {bv v:Value} {l:List cg} (hb:cJ b bv w) (hd:cC bP l v w) (hw:wP l) (hl:b.length+(ji l).length≤4398046511104):
 Calls Tryz.prog 107 #[bv,v] w (bE fun r w'=>aK w w'∧cJ (b++ji l) r w'):=by
 refine enter (vs:=[bv,v]) Tryz.func107 E E E ?_
 have hll:=hd.len
 have hpl:(ji l).length=(uv l.length).length+(l.flatMap fp).length:=by simp only[ji,List.length_append]
 have hun:(UInt64.ofNat l.length).toNat=l.length:=by rw[UInt64.toNat_ofNat'];omega
 refine af (aa (ae E E (ag (ab (af (aa (ac E E (ac E E (aO E E (a6 MH hd) (a9 E E (fv Mx MA) ?_))))))))))
 refine am dW E E ((dX (n:=UInt64.ofNat l.length) hb (by omega))) ?_
 rintro v12 w12 ⟨x12,o12⟩
 rw[hun] at o12
 have b12:=o12.bts
 refine ae E E (ag (ab (af (af (aa (ae E E (ag (ab (aE ?_)))))))))
 refine fw (fun(i:Nat) (u:Value)=>[(0,u),(1,v),(5,I (i:Int))]) (fun(i:Nat) (u:Value) w'=>aK w w'∧i≤l.length∧cJ (b++uv l.length++(l.take i).flatMap fp) u w') (fun(i:Nat) (u:Value)=>l.length-i) (0) (v12) ⟨rfl,rfl,rfl,trivial⟩ ⟨x12,by omega,by simpa using b12⟩ ?_
 rintro i u wL ⟨eL,hi,bL⟩
 refine af (af (aa (ac E E (ac E E (aO E E (a6 MH (hd.ext eL)) (al E E E (aV) (ag (ab ?_))))))))
 refine bz E (fun h16=>?_) (fun h16=>?_)
 ·refine aC (ab (af (aE (af ?_))))
  obtain⟨pre,hpre⟩:∃pre,pre=b++uv l.length++(l.take i).flatMap fp:=⟨_,rfl⟩
  have hprl:pre.length=b.length+(uv l.length).length+((l.take i).flatMap fp).length:=by rw[hpre];simp only[List.length_append]
  rw[←hpre] at bL
  refine bI 26 [0,1,5,6,43] (by kernel_rfl) (by kernel_rfl) ?_
  refine aA (S:=Is (v)) E E (aA (S:=Is (I (i:Int))) E E ?_)
  obtain⟨a21,c21,p21,q21,h21⟩:=cd (P:=Tryz.prog) (sz:=7) MH (by kernel_rfl) dD (by omega) (hd.ext eL) (i:=i) (by omega) .i64
  obtain⟨e21,he21⟩:∃e,e=l[i]'(by omega):=⟨_,rfl⟩
  rw[←he21] at h21
  obtain⟨x21_0,x21_1,rfl,f21_0,f21_1⟩:=ib h21
  refine aF E E E (fun w _=>p21 w) ?_
  have hm:=hw e21 (by rw[he21];exact List.getElem_mem _)
  have hfl:=fU (f:=fp) (l:=l) (i:=i) (by omega)
  rw[←he21] at hfl
  have hml:(fp e21).length=(du e21.kd).length+(du e21.ix).length+(du e21.lo).length+(du e21.hi).length+(gD e21.co).length:=by simp only[fp,List.length_append]
  refine aW E E (fun w hw=>ij (o:=0) MP E (by kernel_rfl) E) (aW E E (fun w hw=>ij (o:=0) MR E (by kernel_rfl) E) ?_)
  refine aP E E (fun w hw=>aj Mx E (hw.cell_some (q21.at (j:=0) E))) (aA (S:=Is (v)) E E (aA (S:=Is (I (i:Int))) E E ?_))
  refine aF E E E (fun w _=>p21 w) (aW E E (fun w hw=>ij (o:=0) MP E (by kernel_rfl) E) (aW E E (fun w hw=>ij (o:=1) MR E (by kernel_rfl) E) ?_))
  refine aP E E (fun w hw=>aj Mx E (hw.cell_some (q21.at (j:=1) E))) (aA (S:=Is (v)) E E (aA (S:=Is (I (i:Int))) E E ?_))
  refine aF E E E (fun w _=>p21 w) (aW E E (fun w hw=>ij (o:=0) MP E (by kernel_rfl) E) (aW E E (fun w hw=>ij (o:=2) MR E (by kernel_rfl) E) ?_))
  refine aP E E (fun w hw=>aj Mx E (hw.cell_some (q21.at (j:=2) E))) (aA (S:=Is (v)) E E (aA (S:=Is (I (i:Int))) E E ?_))
  refine aF E E E (fun w _=>p21 w) (aW E E (fun w hw=>ij (o:=0) MP E (by kernel_rfl) E) (aW E E (fun w hw=>ij (o:=3) MR E (by kernel_rfl) E) ?_))
  refine aP rfl rfl (fun w hw=>aj Mx rfl (hw.cell_some (q21.at (j:=3) rfl))) (vu (S:=Is (.agg #[I e21.kd,I e21.ix,I e21.lo,I e21.hi])) (cb.is _) rfl (fun w' hw=>by rintro _ rfl _ rfl _ rfl _ rfl;exact⟨_,w',run_build _ _ _ _ (by kernel_rfl),aK.refl _,rfl⟩) ?_)
  refine Ji (S:=H8 wL.heap.size 224 [I 0,I 0,I 0,I 0]) H8.sE E (fun w' hw=>Lj (z:=.agg #[I 0,I 0,I 0,I 0]) (by kernel_rfl) E hw.size) ?_
  refine cq ?_
  intro wg5 xg5
  rintro _ hq0
  obtain rfl:=Eq.symm hq0
  rintro _ hq1
  obtain rfl:=Eq.symm hq1
  rintro _ rfl
  intro vg6 b6
  rintro _ rfl
  obtain⟨g6,rfl,hg6,k6⟩:=b6
  obtain⟨wd,sd,qd,kd0⟩:=k6.stS (P:=Tryz.prog) (t:=224) (m:=[I e21.kd,I e21.ix,I e21.lo,I e21.hi]) rfl Lr (av.cons rfl (av.cons rfl (av.cons rfl (av.cons rfl av.nil))))
  have kd:ct g6 224 ((lx e21).map I) wd:=kd0
  refine au E E sd ?_
  have xd:=aK.of_new xg5 qd hg6
  have bd:=bL.ext xd
  refine ag (ab (af (af (aa (ae E E (ag (ab (aE ?_))))))))
  refine fw (fun(k:Nat) (u2:Value)=>[(0,u2),(1,v),(5,I (i:Int)),(6,.pointer (some ⟨g6,0,none⟩)),(7,I (k:Int))]) (fun(k:Nat) (u2:Value) w'=>aK wd w'∧k≤4∧cJ (pre++((lx e21).take k).flatMap du) u2 w') (fun(k:Nat) (u2:Value)=>4-k) (0) (u) ⟨rfl,rfl,rfl,rfl,rfl,trivial⟩ ⟨aK.refl _,by omega,by simpa using bd⟩ ?_
  rintro k u2 wM ⟨eM,hk4,bM⟩
  refine af (af (aa (ac E E (al E E E (aV) (ag (ab ?_))))))
  refine bz E (fun h45=>?_) (fun h45=>?_)
  ·have hk4':k<4:=by omega
   have hlen4:(lx e21).length=4:=rfl
   have hi64:lR (lx e21)[k]:=by
    have h4:=KE hm.1 hm.2.1 hm.2.2.1 hm.2.2.2
    exact h4 _ (List.getElem_mem (l:=lx e21) (by omega))
   have hfl2:=rX (f:=du) (lx e21) k
   have hme:=congrArg List.length (ux e21)
   rw[List.length_append] at hme
   refine aC (ab (af (aE (aa (ac E E (ac E E ?_))))))
   refine aq E E E (iW Tryz.underlying224 Ls (i:=k) hk4' .i64) ?_
   have c50:(wM).cell? ⟨g6,0+k,none⟩=some (I (lx e21)[k]):=by rw[Nat.zero_add];exact(kd.ext eM).cell (Gv (by omega))
   refine ak E E (aj Tryz.underlying3 E c50) (am iB E E ((iC (n:=(lx e21)[k]) bM (by simp only[List.length_append];omega) hi64.1 hi64.2)) ?_)
   rintro v52 w52 ⟨x52,o52⟩
   have b52:=o52.bts
   refine ae E E (ag (aS (ab (aa (ac E E (al (r:=I ((k+1:Nat):Int)) E E E (by have e:((k+1:Nat):Int)=(k:Int)+1:=(by omega);rw[e];exact aN (by omega) (by omega)) ?_))))))
   refine ae E E (ag ?_)
   refine dG (k+1) (v52) ⟨rfl,rfl,rfl,rfl,rfl,trivial⟩ ⟨(eM.trans x52),by omega,by rw[IB (by omega),←List.append_assoc];exact b52⟩ (by omega)
  ·refine bc (aI (aI (be (ab (aa (ac E E (ac E E (ac E E ?_))))))))
   have hk:k=4:=by omega
   subst hk
   have hqa:=jT e21.co
   refine aq rfl rfl rfl (p21 _) (ah rfl rfl (ij (o:=4) Tryz.underlying187 rfl (by kernel_rfl) rfl) (ak rfl rfl ((q21.ext (xd.trans eM)).ldO (ms:=[B e21.co.1,x21_0,x21_1]) (o:=4) (fun j v hj=>by rcases j with _|_|_|_|_|_|_|_|_|j<;>simp_all) Tryz.underlying46 rfl (by kernel_rfl)) ?_))
   refine am j5 E E ((j6 bM (dm.mk (f21_0.ext (xd.trans eM)) (f21_1.ext (xd.trans eM))) (by
 have hme:=congrArg List.length (ux e21)
 rw[List.length_append] at hme
 have h4:(lx e21).take 4=lx e21:=rfl
 simp only[h4,List.length_append];omega))) ?_
   rintro v59 w59 ⟨x59,o59⟩
   have b59:=o59.bts
   refine ae E E (ag (aS (ab (aa (ac E E (al (r:=I ((i+1:Nat):Int)) E E E (by have e:((i+1:Nat):Int)=(i:Int)+1:=(by omega);rw[e];exact aN (by omega) (by omega)) ?_))))))
   refine ae E E (ag ?_)
   refine dG (i+1) (v59) ⟨rfl,rfl,rfl,trivial⟩ ⟨(((eL.trans xd).trans eM).trans x59),by omega,by
    have h:cJ (pre++((lx e21).take 4).flatMap du++gD e21.co) v59 w59:=b59
    have h4:(lx e21).take 4=lx e21:=rfl
    rw[dy (by omega),←he21,ux,←List.append_assoc,←List.append_assoc,←hpre,←h4]
    exact h⟩ (by omega)
 ·refine bc (aI (aI (be (ab (af (aa (ac E E (ae E E (ag (ab (aw (az E E ?_))))))))))))
  exact⟨_,rfl,eL,by
   rw[List.take_of_length_le (by omega),List.append_assoc] at bL
   exact bL⟩
theorem pB (b:Bool):(wZ b).length=1:=by cases b<;>rfl
theorem DE {w:World} {b:List UInt8} {bv:Value} {n:aY} {vl x y vk vp:Value}
 (ih:∀k∈n.kids,∀{w:World} {b:List UInt8} {bv vl x y vk vp:Value},cJ b bv w→cC dc k.lems vl w→bm k.split.at_.2.1 x w→bm k.split.at_.2.2 y w→cC bG k.kids vk w→cC bP k.pf vp w→wN k→b.length+(dH k).length≤4398046511104→
   Calls Tryz.prog 63 #[bv,.agg #[vl,I k.split.kd,I k.split.ix,B k.split.at_.1,x,y,vk,B k.empty,vp]] w (bE fun r w'=>aK w w'∧cJ (b++dH k) r w'))
 (hb:cJ b bv w) (hl:cC dc n.lems vl w) (hx:bm n.split.at_.2.1 x w) (hy:bm n.split.at_.2.2 y w) (hk:cC bG n.kids vk w) (hp:cC bP n.pf vp w) (hw:wN n) (hlen:b.length+(dH n).length≤4398046511104):
 Calls Tryz.prog 63 #[bv,.agg #[vl,I n.split.kd,I n.split.ix,B n.split.at_.1,x,y,vk,B n.empty,vp]] w (bE fun r w'=>aK w w'∧cJ (b++dH n) r w'):=by
 refine enter (vs:=[bv,.agg #[vl,I n.split.kd,I n.split.ix,B n.split.at_.1,x,y,vk,B n.empty,vp]]) Tryz.func63 E E E ?_
 have hll:=hl.len
 have hkl:=hk.len
 obtain⟨wl,wd,wp,wk⟩:=(ur n).1 hw
 have hen:=na n
 have hpl:(eJ n.lems).length=(uv n.lems.length).length+(n.lems.flatMap ei).length:=by simp only[eJ,List.length_append]
 have hun:(UInt64.ofNat n.lems.length).toNat=n.lems.length:=by rw[UInt64.toNat_ofNat'];omega
 obtain⟨tag,htag⟩:∃tag:UInt8,tag=(if n.kids.length=0 then(if n.empty=true then 1 else 0) else 2):=⟨_,rfl⟩
 have htl:b.length+1+(eJ n.lems).length+(if n.kids.length=0 then(ji n.pf).length else(fS n.split).length+(n.kids.flatMap dH).length)≤4398046511104:=by
  rw[hen] at hlen
  by_cases h0:n.kids.length=0
  ·rw[if_pos h0] at hlen⊢;simp only[List.length_append,pB] at hlen;omega
  ·rw[if_neg h0] at hlen⊢;simp only[List.length_append,List.length_cons,List.length_nil] at hlen;omega
 refine af (aa ?_)
 obtain⟨g3,w3,hr3,l3,x3,k3⟩:=cK (P:=Tryz.prog) (w:=w) (T:=52) (cs:=[vl,I n.split.kd,I n.split.ix,B n.split.at_.1,x,y,vk,B n.empty,vp])
 refine cM E E hr3 (ae E E (ag (ab (af (aa (ae E E (ag (ab (af ?_)))))))))
 refine fg (fun t:UInt8=>[(0,bv),(3,.pointer (some ⟨g3,0,none⟩)),(5,U8 t)]) (fun t w'=>w3=w'∧t=(if n.empty=true then 1 else 0)) ?_ ?_
 ·refine af (aa (ah E E (ar (o:=7) Mt E (by kernel_rfl) E) (ak E E (aj MD E (k3.cell (i:=7) E)) ?_)))
  refine ag (ab ?_)
  refine fY E (fun h11=>?_) (fun h11=>?_)
  ·refine aa (ae E E (ag ?_))
   exact cu (1) ⟨rfl,rfl,rfl,trivial⟩ ⟨rfl,by simp[h11]⟩
  ·refine aC ?_
   exact cu (0) ⟨rfl,rfl,rfl,trivial⟩ ⟨rfl,by simp[h11]⟩
 rintro t5 _ ⟨rfl,ht5⟩
 refine ab (af ?_)
 refine fg (fun t:UInt8=>[(0,bv),(3,.pointer (some ⟨g3,0,none⟩)),(5,U8 t)]) (fun t w'=>w3=w'∧tag=t) ?_ ?_
 ·refine af (aa (ah E E (ar (o:=6) Mt E (by kernel_rfl) E) (ak E E (aj MF E (k3.cell (i:=6) E)) ?_)))
  refine aO E E (a6 MF (hk.ext x3)) (al E E E (ca) (ag (ab ?_)))
  refine bz E (fun h15=>?_) (fun h15=>?_)
  ·refine aa (ae E E (ag ?_))
   exact cu (2) ⟨rfl,rfl,rfl,trivial⟩ ⟨rfl,by
    have h15:=h15
    first
    |(have h0:¬n.kids.length=0:=by omega
      rw[htag,if_neg h0])
    |(have h0:n.kids.length=0:=by omega
      rw[ht5,htag,if_pos h0])⟩
  ·refine aC ?_
   exact cu (t5) ⟨rfl,rfl,rfl,trivial⟩ ⟨rfl,by
    have h15:=h15
    first
    |(have h0:¬n.kids.length=0:=by omega
      rw[htag,if_neg h0])
    |(have h0:n.kids.length=0:=by omega
      rw[ht5,htag,if_pos h0])⟩
 rintro _ _ ⟨rfl,rfl⟩
 refine ab (af ?_)
 have hd:aK w3 w3.drew:=(aK.refl w3).drew
 refine ig (aK w3) 12 E (by kernel_rfl) ?_
 refine fD 1 E E (by kernel_rfl) E hd ?_
 refine fD 3 E E (by kernel_rfl) E hd ?_
 refine fy 6 E E (by kernel_rfl) E hd (fun w' _=>ar (o:=0) Mt E (by kernel_rfl) E) ?_
 refine gd 7 E E (by kernel_rfl) E hd (fun w' hw'=>aj MG E (hw'.cell_some (k3.cell (i:=0) E))) ?_
 refine Kv 8 (r:=I (n.lems.length:Int)) E E (by kernel_rfl) E hd (fun w' hw'=>a6 (f:=dc) MG (hl.ext (x3.trans hw'))) ?_
 refine KW 9 E E (by kernel_rfl) E hd (fun w' _=>fv Mx MA) ?_
 refine nG (fun p:Value×Value=>[(3,.pointer (some ⟨g3,0,none⟩)),(5,U8 tag),(18,p.1),(20,p.2),(25,bF (UInt64.ofNat n.lems.length))]) (fun p w'=>aK w3 w'∧c6 w3.heap.size b p.1 w'∧cJ [tag] p.2 w') #[true,true,true,true,true,false,true,true,true,true,false,false] 3 ?_ (fun join=>?_)
 rotate_left
 ·refine lr 0 4 (by kernel_rfl) E E ?_ ?_
  ·obtain⟨v16,w16,hr16,x16,o16,ob16⟩:=eh (w:=w3.drew) w3.heap.size [] (by simp) hd.size
   have e16:=hd.trans x16
   refine aJ (vs:=[]) E E hr16 (aH e16 (lr 2 4 (by kernel_rfl) E E ?_ ?_))
   ·obtain⟨v18,w18,hr18,o18,g18⟩:=dn (ty:=22) o16 (hb.ext (x3.trans e16)) (by simp;omega) e16.size
    have e18:=aK.of_grew e16 g18 o16.ge
    obtain⟨v20,w20,hr20,x20,o20,_⟩:=eh (w:=w18) w3.heap.size [tag] (by simp) e18.size
    refine ba E E hr18 (aH e18 (aQ 4 (by kernel_rfl) E ?_))
    exact aJ (vs:=[(0,U8 tag)]) rfl rfl hr20 (aH (e18.trans x20) (BG (by kernel_rfl) (join _ _ ⟨(v18,v20),⟨rfl,rfl,rfl,rfl,rfl,trivial⟩,e18.trans x20,by simpa using o18.ext x20,o20.bts⟩)))
   ·obtain⟨v20,w20,hr20,x20,o20,ob20⟩:=eh (w:=w16) w3.heap.size [tag] (by simp) e16.size
    have e20:=e16.trans x20
    obtain⟨v18,w18,hr18,o18,g18⟩:=dn (ty:=22) (o16.ext x20) (hb.ext (x3.trans e20)) (by simp;omega) e20.size
    have e18:=aK.of_grew e20 g18 (o16.ext x20).ge
    refine aJ (vs:=[(0,U8 tag)]) E E hr20 (aH e20 (aQ 2 (by kernel_rfl) E ?_))
    exact ba rfl rfl hr18 (aH e18 (BG (by kernel_rfl) (join _ _ ⟨(v18,v20),⟨rfl,rfl,rfl,rfl,rfl,trivial⟩,e18,by simpa using o18,(o20.grown g18 (.inr fun e=>by rw[ob20] at e;have:=o16.lt _ e.symm;omega)).bts⟩)))
  ·obtain⟨v20,w20,hr20,x20,o20,ob20⟩:=eh (w:=w3.drew) w3.heap.size [tag] (by simp) hd.size
   have e20:=hd.trans x20
   obtain⟨v16,w16,hr16,x16,o16,ob16⟩:=eh (w:=w20) w3.heap.size [] (by simp) e20.size
   have e16:=e20.trans x16
   obtain⟨v18,w18,hr18,o18,g18⟩:=dn (ty:=22) o16 (hb.ext (x3.trans e16)) (by simp;omega) e16.size
   have e18:=aK.of_grew e16 g18 o16.ge
   refine aJ (vs:=[(0,U8 tag)]) E E hr20 (aH e20 (aQ 0 (by kernel_rfl) E ?_))
   refine aJ (vs:=[]) E E hr16 (aH e16 (aQ 2 (by kernel_rfl) E ?_))
   exact ba rfl rfl hr18 (aH e18 (BG (by kernel_rfl) (join _ _ ⟨(v18,v20),⟨rfl,rfl,rfl,rfl,rfl,trivial⟩,e18,by simpa using o18,((o20.ext x16).grown g18 (.inr fun e=>by rw[ob16] at e;have:=o20.lt _ e;omega)).bts⟩)))
 rintro⟨v18,v20⟩ w20 ⟨e20,o18,b20⟩
 dsimp only at o18 b20
 obtain⟨v21,w21,hr21,o21,g21⟩:=dn (ty:=22) o18 b20 (by simp;omega) e20.size
 have x21:=aK.of_grew e20 g21 o18.ge
 refine aQ 5 (by kernel_rfl) E ?_
 refine ba E E hr21 (aH x21 (aQ 10 (by kernel_rfl) E ?_))
 refine am dW E E (dX (n:=UInt64.ofNat n.lems.length) o21.bts (by simp;omega)) ?_
 rintro v26 w26 ⟨x26,o26⟩
 rw[hun] at o26
 have b26:=o26.bts
 have e26:=x21.trans x26
 refine aH e26 (aQ 11 (by kernel_rfl) E ?_)
 refine ae E E (aH e26 (ii (by kernel_rfl) ?_))
 refine ab (af (af (aa (ae E E (ag (ab (aE ?_)))))))
 refine fw (fun(i:Nat) (u:Value)=>[(0,u),(3,.pointer (some ⟨g3,0,none⟩)),(5,U8 tag),(6,I (i:Int))]) (fun(i:Nat) (u:Value) w'=>aK w3 w'∧i≤n.lems.length∧cJ (b++[tag]++uv n.lems.length++(n.lems.take i).flatMap ei) u w') (fun(i:Nat) (u:Value)=>n.lems.length-i) (0) (v26) ⟨rfl,rfl,rfl,rfl,trivial⟩ ⟨e26,by omega,by simpa using b26⟩ ?_
 rintro i u wL ⟨eL,hi,bL⟩
 refine af (af ?_)
 obtain⟨pre,hpre⟩:∃pre,pre=b++[tag]++uv n.lems.length++(n.lems.take i).flatMap ei:=⟨_,rfl⟩
 have hprl:pre.length=b.length+1+(uv n.lems.length).length+((n.lems.take i).flatMap ei).length:=by rw[hpre];simp only[List.length_append,List.length_cons,List.length_nil]
 have hfi:=rX (f:=ei) n.lems i
 rw[←hpre] at bL
 refine aa (ac E E (ah E E (ar (o:=0) Mt E (by kernel_rfl) E) (ak E E (aj MG E (eL.cell_some (k3.cell (i:=0) E))) ?_)))
 refine aO E E (a6 MG (hl.ext (x3.trans eL))) (al E E E (aV) (ag (ab ?_)))
 refine bz E (fun h31=>?_) (fun h31=>?_)
 ·refine aC (ab (af (aE (af (aa (ah E E (ar (o:=0) Mt E (by kernel_rfl) E) (ak E E (aj MG E (eL.cell_some (k3.cell (i:=0) E))) ?_)))))))
  refine ac E E ?_
  obtain⟨a37,c37,p37,q37,h37⟩:=cd (P:=Tryz.prog) (sz:=6) MG (by kernel_rfl) cH (by omega) (hl.ext (x3.trans eL)) (i:=i) (by omega) .i64
  obtain⟨e37,he37⟩:∃e,e=n.lems[i]'(by omega):=⟨_,rfl⟩
  rw[←he37] at h37
  obtain⟨x37_0,x37_1,x37_2,rfl,f37_0,f37_1,f37_2⟩:=fO h37
  refine aq E E E (p37 _) ?_
  have hm:=wl e37 (by rw[he37];exact List.getElem_mem _)
  have hfl:=fU (f:=ei) (l:=n.lems) (i:=i) (by omega)
  rw[←he37] at hfl
  have hml:(ei e37).length=(du e37.un).length+1+(gD e37.va).length+(ji e37.pf).length:=by simp only[ei,List.length_append,pB]
  refine ak E E (q37.ld MI E (by kernel_rfl)) ?_
  obtain⟨g7,w7,hr7,l7,x7,k7⟩:=aX (P:=Tryz.prog) (w:=wL) (t:=173) (z:=.agg #[I 0,B false,B false,.slice none 0 0,.slice none 0 0,.slice none 0 0]) (l:=[I 0,B false,B false,.slice none 0 0,.slice none 0 0,.slice none 0 0]) (by kernel_rfl) rfl
  refine aT E hr7 ?_
  obtain⟨w10_6,s10_6,q10_6,k10_6⟩:=k7.stS (P:=Tryz.prog) (t:=173) (m:=[I e37.un,B e37.up,B e37.va.1,x37_0,x37_1,x37_2]) rfl (by kernel_rfl) (av.cons rfl (av.cons rfl (av.cons rfl (av.cons f37_0.one (av.cons f37_1.one (av.cons f37_2.one av.nil))))))
  refine au E E s10_6 ?_
  have x10_6:=aK.of_new (x7) q10_6 l7
  refine ag (ab (af (aa (ae E E (ag (ab (af ?_)))))))
  refine fg (fun t:UInt8=>[(0,u),(3,.pointer (some ⟨g3,0,none⟩)),(5,U8 tag),(6,I (i:Int)),(7,.pointer (some ⟨g7,0,none⟩)),(8,U8 t)]) (fun t w'=>w10_6=w'∧[t]=wZ e37.up) ?_ ?_
  ·refine af (aa (ah E E (ar (o:=1) MI E (by kernel_rfl) E) (ak E E (aj MD E (k10_6.cell (i:=1) E)) ?_)))
   refine ag (ab ?_)
   refine fY E (fun h40=>?_) (fun h40=>?_)
   ·refine aa (ae E E (ag ?_))
    exact cu (1) ⟨rfl,rfl,rfl,rfl,rfl,rfl,trivial⟩ ⟨rfl,by rw[h40];rfl⟩
   ·refine aC ?_
    exact cu (0) ⟨rfl,rfl,rfl,rfl,rfl,rfl,trivial⟩ ⟨rfl,by rw[h40];rfl⟩
  rintro up _ ⟨rfl,hup⟩
  refine ab (af (aa (ac E E (ah E E (ar (o:=0) MI E (by kernel_rfl) E) (ak E E (aj Mx E (k10_6.cell (i:=0) E)) ?_)))))
  refine am iB E E ((iC (n:=e37.un) (bL.ext x10_6) (by omega) hm.1.1 hm.1.2)) ?_
  rintro v44 w44 ⟨x44,o44⟩
  have o44:c6 _ (pre++du e37.un) _ _:=o44
  refine ac E E ?_
  obtain⟨v46,w46,hr46,x46,o46,ob46⟩:=eh (w:=w44) w44.heap.size [up] (by simp) (Nat.le_refl _)
  refine aJ (vs:=[(0,U8 up)]) E E hr46 ?_
  obtain⟨v47,w47,hr47,o47,g47⟩:=dn (ty:=22) (o44.ext x46) o46.bts (by simp only[List.length_append,List.length_cons,List.length_nil];omega) ((x44.trans x46)).size
  have x47:=aK.of_grew ((x44.trans x46)) g47 (o44.ext x46).ge
  refine ba E E hr47 ?_
  have b47:cJ (pre++du e37.un++wZ e37.up) v47 w47:=by rw[←hup];exact o47.bts
  have hqa:=jT e37.va
  refine ae E E (ag (ab (bI 7 [3,5,6,54] (by kernel_rfl) (by kernel_rfl) ?_)))
  refine aA rfl rfl (aW rfl rfl (fun w hw=>ar (o:=2) Tryz.underlying173 rfl (by kernel_rfl) rfl) (aP rfl rfl (fun w hw=>((k10_6.ext x47).ext hw).ldO (ms:=[B e37.va.1,x37_0,x37_1]) (o:=2) (fun j v hj=>by rcases j with _|_|_|_|_|_|_|_|_|j<;>simp_all) Tryz.underlying46 rfl (by kernel_rfl)) ?_))
  refine cn (S:=cJ (pre++du e37.un++wZ e37.up++gD e37.va)) j5 (cJ.stable _) rfl (fun w hw=>by rintro _ rfl _ rfl;exact bE.mono (j6 (b47.ext hw) (dm.mk ((f37_0.ext (x10_6.trans x47)).ext hw) ((f37_1.ext (x10_6.trans x47)).ext hw)) (by simp only[List.length_append,pB];omega)) fun v w' h=>⟨h.1,h.2.bts⟩) ?_
  refine aW E E (fun w hw=>ar (o:=5) MI E (by kernel_rfl) E) (aP E E (fun w hw=>aj MH E (hw.cell_some (x47.cell_some (k10_6.cell (i:=5) E)))) ?_)
  refine cn (S:=cJ (pre++du e37.un++wZ e37.up++gD e37.va++ji e37.pf)) xI (cJ.stable _) rfl (fun w hw=>by rintro _ h51 _ rfl;exact xM h51 ((f37_2.ext (x10_6.trans x47)).ext hw) hm.2 (by simp only[List.length_append,pB];omega)) ?_
  refine cq ?_
  intro wg15 xg15
  rintro _ rfl
  rintro _ rfl
  rintro _ rfl
  intro vg54 b54
  refine ae E E (ag (aS (ab (aa (ac E E (al (r:=I ((i+1:Nat):Int)) E E E (by have e:((i+1:Nat):Int)=(i:Int)+1:=(by omega);rw[e];exact aN (by omega) (by omega)) ?_))))))
  refine ae E E (ag ?_)
  refine dG (i+1) (vg54) ⟨rfl,rfl,rfl,rfl,trivial⟩ ⟨(((eL.trans x10_6).trans x47).trans xg15),by omega,by
   have h:cJ (pre++du e37.un++wZ e37.up++gD e37.va++ji e37.pf) vg54 wg15:=b54
   rw[dy (by omega),←he37,←List.append_assoc,←hpre]
   simpa only[ei,List.append_assoc] using h⟩ (by omega)
 ·refine bc (aI (aI (be (ab (af (af ?_))))))
  rw[List.take_of_length_le (by omega)] at hpre
  by_cases hk0:n.kids.length=0
  ·refine aa (ac E E (al (v:=U8 2) E E E (ci (by rw[htag,if_pos hk0];split<;>decide) lh) (ag (ab (bg E (af (aa (ac E E ?_))))))))
   refine ah E E (ar (o:=8) Mt E (by kernel_rfl) E) (ak E E (aj MH E (eL.cell_some (k3.cell (i:=8) E))) ?_)
   refine am xI E E ((xM bL (hp.ext ((x3.trans eL))) wp (by rw[if_pos hk0] at htl;omega))) ?_
   rintro v60 w60 ⟨x60,b60⟩
   refine ae E E (ag (ab (aw (ay (az E E ?_)))))
   exact⟨_,rfl,((x3.trans eL).trans x60),by
    have ht:[tag]=wZ n.empty:=by rw[htag,if_pos hk0];cases n.empty<;>rfl
    rw[hpre,ht] at b60
    rw[hen,if_pos hk0]
    simpa only[eJ,List.append_assoc] using b60⟩
  ·refine aa (ac E E (al (v:=U8 2) E E E (cY (by rw[htag,if_neg hk0];decide) lh) (ag (ab (cr E (aC (ab (af (aa (ac E E ?_))))))))))
   refine ah rfl rfl (ar (o:=1) Tryz.underlying52 rfl (by kernel_rfl) rfl) (ak rfl rfl ((k3.ext eL).ldO (ms:=[I n.split.kd,I n.split.ix,B n.split.at_.1,x,y]) (o:=1) (fun j v hj=>by rcases j with _|_|_|_|_|_|_|_|_|j<;>simp_all) Tryz.underlying48 rfl (by kernel_rfl)) ?_)
   refine am xH E E ((xL (d:=n.split) bL (hx.ext ((x3.trans eL))) (hy.ext ((x3.trans eL))) wd (by rw[if_neg hk0] at htl;omega))) ?_
   rintro v64 w64 ⟨x64,b64⟩
   refine ae E E (ag (ab (af (af (aa (ae E E (ag (ab (aE ?_)))))))))
   refine fw (fun(j:Nat) (u2:Value)=>[(0,u2),(3,.pointer (some ⟨g3,0,none⟩)),(9,I (j:Int))]) (fun(j:Nat) (u2:Value) w'=>aK w3 w'∧j≤n.kids.length∧cJ (pre++fS n.split++(n.kids.take j).flatMap dH) u2 w') (fun(j:Nat) (u2:Value)=>n.kids.length-j) (0) (v64) ⟨rfl,rfl,rfl,trivial⟩ ⟨(eL.trans x64),by omega,by simpa using b64⟩ ?_
   rintro j u2 wM ⟨eM,hj,bM⟩
   refine af (af (aa (ac E E (ah E E (ar (o:=6) Mt E (by kernel_rfl) E) (ak E E (aj MF E (eM.cell_some (k3.cell (i:=6) E))) ?_)))))
   refine aO E E (a6 MF (hk.ext (x3.trans eM))) (al E E E (aV) (ag (ab ?_)))
   refine bz E (fun h69=>?_) (fun h69=>?_)
   ·refine aC (ab (af (aE (aa (ac E E (ah E E (ar (o:=6) Mt E (by kernel_rfl) E) (ak E E (aj MF E (eM.cell_some (k3.cell (i:=6) E))) ?_)))))))
    refine ac E E ?_
    obtain⟨a76,c76,p76,q76,h76⟩:=cd (P:=Tryz.prog) (sz:=9) MF (by kernel_rfl) cG (by omega) (hk.ext (x3.trans eM)) (i:=j) (by omega) .i64
    obtain⟨e76,he76⟩:∃e,e=n.kids[j]'(by omega):=⟨_,rfl⟩
    rw[←he76] at h76
    obtain⟨x76_0,x76_1,x76_2,x76_3,x76_4,rfl,f76_0,f76_1,f76_2,f76_3,f76_4⟩:=d9 h76
    refine aq E E E (p76 _) ?_
    have hmem:e76∈n.kids:=by rw[he76];exact List.getElem_mem _
    have hfk:=fU (f:=dH) (l:=n.kids) (i:=j) (by omega)
    rw[←he76] at hfk
    refine ak E E (q76.ld Tryz.underlying52 E (by kernel_rfl)) (am xJ E E ((ih e76 hmem bM f76_0 f76_1 f76_2 f76_3 f76_4 (wk e76 hmem) (by rw[if_neg hk0] at htl;simp only[List.length_append];omega))) ?_)
    rintro v78 w78 ⟨x78,b78⟩
    refine ae E E (ag (aS (ab (aa (ac E E (al (r:=I ((j+1:Nat):Int)) E E E (by have e:((j+1:Nat):Int)=(j:Int)+1:=(by omega);rw[e];exact aN (by omega) (by omega)) ?_))))))
    refine ae E E (ag ?_)
    refine dG (j+1) (v78) ⟨rfl,rfl,rfl,trivial⟩ ⟨(eM.trans x78),by omega,by rw[dy (by omega),←he76,←List.append_assoc];exact b78⟩ (by omega)
   ·refine bc (aI (aI (be (ab (af (aa (ac E E (ae E E (ag (ab (aw (az E E ?_))))))))))))
    exact⟨_,rfl,(x3.trans eM),by
     have ht:tag=2:=by rw[htag,if_neg hk0]
     rw[List.take_of_length_le (by omega),hpre,ht] at bM
     rw[hen,if_neg hk0]
     simpa only[eJ,List.append_assoc] using bM⟩
theorem xN:∀(m:Nat) {n:aY},SizeOf.sizeOf n≤m→∀{w:World} {b:List UInt8} {bv vl x y vk vp:Value},cJ b bv w→cC dc n.lems vl w→bm n.split.at_.2.1 x w→bm n.split.at_.2.2 y w→cC bG n.kids vk w→cC bP n.pf vp w→wN n→b.length+(dH n).length≤4398046511104→
 Calls Tryz.prog 63 #[bv,.agg #[vl,I n.split.kd,I n.split.ix,B n.split.at_.1,x,y,vk,B n.empty,vp]] w (bE fun r w'=>aK w w'∧cJ (b++dH n) r w')
 |0,n,hm=>by cases n;simp at hm
 |m+1,n,hm=>fun h1 h2 h3 h4 h5 h6 h7 h8=>DE (fun k hk _ _ _ _ _ _ _ _=>xN m (by have:=aY.lt_of_mem hk;omega)) h1 h2 h3 h4 h5 h6 h7 h8
end Go.Rl
namespace Go.Rl
open Go.RowKit Go.Proofs
end Go.Rl
namespace Go.Rl
open Go.RowKit Go.Proofs
def mQ (m:cg):Nat:=1+m.co.2.1.length+m.co.2.2.length
def mP (l:List cg):Nat:=(l.map mQ).sum
def mL (m:dN):Nat:=m.va.2.1.length+m.va.2.2.length+mP m.pf
mutual
def vc:aY→Nat
 |.mk l _ ks _ p=>1+l.length+mP p+(l.map mL).sum+AI ks
def AI:List aY→Nat
 |[]=>0
 |n::l=>vc n+AI l
end
theorem xO:∀l:List aY,AI l=(l.map vc).sum
 |[]=>rfl
 |n::l=>by simp only[AI,List.map_cons,List.sum_cons,xO l]
theorem IC (n:aY):vc n=1+n.lems.length+mP n.pf+(n.lems.map mL).sum+(n.kids.map vc).sum:=by
 cases n with
 |mk l s k e p=>simp only[vc,xO];rfl
end Go.Rl
namespace Go.Rl
open Go.RowKit Go.Proofs
mutual
def Dt.bulk:Dt→Nat
 |.int _ _=>1
 |.bool _=>1
 |.str l=>l.length+1
 |.sl l=>Dt.bulkAll l+1
 |.st l=>Dt.bulkAll l+1
def Dt.bulkAll:List Dt→Nat
 |[]=>0
 |d::l=>Dt.bulk d+Dt.bulkAll l
end
mutual
theorem zl {H:Type}:∀d:DataW H,(fi d).bulk≤YtpeidnhjcompmaaGreatDoor.Rows.uptoBulk d
 |.lit (.string b)=>by simp[fi,Dt.bulk,YtpeidnhjcompmaaGreatDoor.Rows.uptoBulk]
 |.lit (.int k n)=>by simp[fi,Dt.bulk,YtpeidnhjcompmaaGreatDoor.Rows.uptoBulk]
 |.lit (.bool b)=>by simp[fi,Dt.bulk,YtpeidnhjcompmaaGreatDoor.Rows.uptoBulk]
 |.lit (.float ..)=>by simp[fi,Dt.bulk,Dt.bulkAll,YtpeidnhjcompmaaGreatDoor.Rows.uptoBulk]
 |.lit .nil=>by simp[fi,Dt.bulk,Dt.bulkAll,YtpeidnhjcompmaaGreatDoor.Rows.uptoBulk]
 |.nil=>by simp[fi,Dt.bulk,Dt.bulkAll,YtpeidnhjcompmaaGreatDoor.Rows.uptoBulk]
 |.ptr d=>by simp[fi,Dt.bulk,Dt.bulkAll,YtpeidnhjcompmaaGreatDoor.Rows.uptoBulk]
 |.slice elems spare=>by
  have:=lW elems
  simp only[fi,Dt.bulk,YtpeidnhjcompmaaGreatDoor.Rows.uptoBulk]
  omega
 |.agg parts=>by
  have:=lW parts
  simp only[fi,Dt.bulk,YtpeidnhjcompmaaGreatDoor.Rows.uptoBulk]
  omega
 |.iface t d=>by simp[fi,Dt.bulk,Dt.bulkAll,YtpeidnhjcompmaaGreatDoor.Rows.uptoBulk]
 |.map entries=>by simp[fi,Dt.bulk,Dt.bulkAll,YtpeidnhjcompmaaGreatDoor.Rows.uptoBulk]
 |.held h=>by simp[fi,Dt.bulk,Dt.bulkAll,YtpeidnhjcompmaaGreatDoor.Rows.uptoBulk]
theorem lW {H:Type}:∀l:List (DataW H),Dt.bulkAll (ox l)≤YtpeidnhjcompmaaGreatDoor.Rows.uptoBulkAll l
 |[]=>by simp[ox,Dt.bulkAll,YtpeidnhjcompmaaGreatDoor.Rows.uptoBulkAll]
 |d::l=>by
  have:=zl d
  have:=lW l
  simp only[ox,Dt.bulkAll,YtpeidnhjcompmaaGreatDoor.Rows.uptoBulkAll]
  omega
end
theorem zm {H:Type} {d:DataW H}:∀{l:List (DataW H)},d∈l→YtpeidnhjcompmaaGreatDoor.Rows.uptoBulk d≤YtpeidnhjcompmaaGreatDoor.Rows.uptoBulkAll l
 |[],h=>by simp at h
 |x::l,h=>by
  simp only[YtpeidnhjcompmaaGreatDoor.Rows.uptoBulkAll]
  rcases List.mem_cons.1 h with rfl|h
  ·omega
  ·have:=zm h;omega
theorem LN {H:Type} {d:DataW H} {l:List (DataW H)} (hk:YtpeidnhjcompmaaGreatDoor.Rows.uptoSmall H l=true) (h:d∈l):(fi d).bulk≤1048576:=by
 have h1:YtpeidnhjcompmaaGreatDoor.Rows.uptoBulkAll l≤1048576:=of_decide_eq_true hk
 have:=zl d
 have:=zm h
 omega
theorem xP {α:Type} {f:α→Dt} {p:α→Prop}:∀(l:List Dt),(∀d∈l,∃x,d=f x∧p x)→∃m:List α,l=m.map f∧∀x∈m,p x
 |[],_=>⟨[],rfl,by simp⟩
 |d::l,h=>by
  obtain⟨x,rfl,hx⟩:=h d (by simp)
  obtain⟨m,rfl,hm⟩:=xP l fun e he=>h e (by simp[he])
  exact⟨x::m,rfl,by simpa using⟨hx,hm⟩⟩
theorem Ty.inv_slP {P:Program} {t e:TypeId} {d:Dt} {α:Type} {f:α→Dt} {p:α→Prop} (hu:P.underlying t=some (.slice e)) (he:∀x,Ty P e x→∃y,x=f y∧p y) (h:Ty P t d):∃l:List α,d=.sl (l.map f)∧∀x∈l,p x:=by
 obtain⟨l,rfl,ha⟩:=h.inv_slD hu
 obtain⟨m,rfl,hm⟩:=xP l fun x hx=>he x (ha x hx)
 exact⟨m,rfl,hm⟩
theorem eu {l:List Dt}:∀{d:Dt},d∈l→d.bulk≤Dt.bulkAll l:=by
 induction l with
 |nil=>intro d h;simp at h
 |cons x l ih=>
  intro d h
  simp only[Dt.bulkAll]
  rcases List.mem_cons.1 h with rfl|h
  ·omega
  ·have:=ih h;omega
theorem ID (d:Dt):1≤d.bulk:=by cases d<;>simp[Dt.bulk]
theorem ew (l:List Dt):l.length≤Dt.bulkAll l:=by
 induction l with
 |nil=>simp
 |cons d l ih=>have:=ID d;simp only[List.length_cons,Dt.bulkAll];omega
end Go.Rl
namespace Go.Rl
open Go.ChangeShapes Go.WideShapes Go.ChangeAt Go.RowKit Go.Proofs
theorem Mi {α:Type} {l:List α} (h:l.length=2):∃a b,l=[a,b]:=by
 match l,h with
 |[a,b],_=>exact⟨a,b,rfl⟩
theorem Mj {α:Type} {l:List α} (h:l.length=3):∃a b c,l=[a,b,c]:=by
 match l,h with
 |[a,b,c],_=>exact⟨a,b,c,rfl⟩
theorem Mk {α:Type} {l:List α} (h:l.length=4):∃a b c d,l=[a,b,c,d]:=by
 match l,h with
 |[a,b,c,d],_=>exact⟨a,b,c,d,rfl⟩
theorem cel5 {α:Type} {l:List α} (h:l.length=5):∃a b c d e,l=[a,b,c,d,e]:=by
 match l,h with
 |[a,b,c,d,e],_=>exact⟨a,b,c,d,e,rfl⟩
theorem DF {d:Dt} (ht:Ty Tryz.prog 46 d):∃q:ft,d=jh q:=by
 obtain⟨l,rfl,hl,hf⟩:=ht.inv_st Mw
 obtain⟨a,b,c,rfl⟩:=Mj (show l.length=3 from hl)
 obtain⟨s,rfl⟩:=(hf 0 _ a rfl rfl).inv_bool MD
 obtain⟨n,rfl⟩:=(hf 1 _ b rfl rfl).inv_nat Ms Mu
 obtain⟨m,rfl⟩:=(hf 2 _ c rfl rfl).inv_nat Ms Mu
 exact⟨(s,n,m),rfl⟩
theorem rY {d:Dt} (ht:Ty Tryz.prog 3 d):∃n:Int,d=qY n∧lR n:=by
 obtain⟨n,rfl,hw⟩:=ht.inv_int Mx
 exact⟨n,rfl,LW hw⟩
theorem Lu {d:Dt} (ht:Ty Tryz.prog 185 d):∃a b c e:Int,d=.st [qY a,qY b,qY c,qY e]∧lR a∧lR b∧lR c∧lR e:=by
 obtain⟨l,rfl,hl,hf⟩:=ht.inv_st MR
 obtain⟨d0,d1,d2,d3,rfl⟩:=Mk (show l.length=4 from hl)
 obtain⟨n0,rfl,w0⟩:=rY (hf 0 _ d0 rfl rfl)
 obtain⟨n1,rfl,w1⟩:=rY (hf 1 _ d1 rfl rfl)
 obtain⟨n2,rfl,w2⟩:=rY (hf 2 _ d2 rfl rfl)
 obtain⟨n3,rfl,w3⟩:=rY (hf 3 _ d3 rfl rfl)
 exact⟨n0,n1,n2,n3,rfl,w0,w1,w2,w3⟩
theorem JK {d:Dt} (ht:Ty Tryz.prog 187 d):∃m:cg,d=bP m∧LM m:=by
 obtain⟨l,rfl,hl,hf⟩:=ht.inv_st MP
 obtain⟨d0,d1,rfl⟩:=Mi (show l.length=2 from hl)
 obtain⟨a,b,c,e,rfl,w⟩:=Lu (hf 0 _ d0 rfl rfl)
 obtain⟨q,rfl⟩:=DF (hf 1 _ d1 rfl rfl)
 exact⟨⟨a,b,c,e,q⟩,rfl,w⟩
theorem Cn {d:Dt} (ht:Ty Tryz.prog 50 d):∃l:List cg,d=il l∧wP l:=ht.inv_slP MH fun _ hx=>JK hx
theorem IE {d:Dt} (ht:Ty Tryz.prog 48 d):∃m:bU,d=dC m∧wD m:=by
 obtain⟨l,rfl,hl,hf⟩:=ht.inv_st My
 obtain⟨d0,d1,d2,rfl⟩:=Mj (show l.length=3 from hl)
 obtain⟨n0,rfl,w0⟩:=rY (hf 0 _ d0 rfl rfl)
 obtain⟨n1,rfl,w1⟩:=rY (hf 1 _ d1 rfl rfl)
 obtain⟨q,rfl⟩:=DF (hf 2 _ d2 rfl rfl)
 exact⟨⟨n0,n1,q⟩,rfl,w0,w1⟩
theorem Lv {d:Dt} (ht:Ty Tryz.prog 173 d):∃m:dN,d=dc m∧Ie m:=by
 obtain⟨l,rfl,hl,hf⟩:=ht.inv_st MI
 obtain⟨d0,d1,d2,d3,rfl⟩:=Mk (show l.length=4 from hl)
 obtain⟨n0,rfl,w0⟩:=rY (hf 0 _ d0 rfl rfl)
 obtain⟨b,rfl⟩:=(hf 1 _ d1 rfl rfl).inv_bool MD
 obtain⟨q,rfl⟩:=DF (hf 2 _ d2 rfl rfl)
 obtain⟨p,rfl,wp⟩:=Cn (hf 3 _ d3 rfl rfl)
 exact⟨⟨n0,b,q,p⟩,rfl,w0,wp⟩
theorem DG {l:List Dt} {d:Dt} (h:d∈l):SizeOf.sizeOf d<SizeOf.sizeOf l:=List.sizeOf_lt_of_mem h
theorem EY:∀(k:Nat) {d:Dt},SizeOf.sizeOf d≤k→Ty Tryz.prog 52 d→∃n:aY,d=bG n∧wN n
 |0,d,hk,_=>by cases d<;>simp at hk
 |k+1,d,hk,ht=>by
  obtain⟨l,rfl,hl,hf⟩:=ht.inv_st Mt
  obtain⟨d0,d1,d2,d3,d4,rfl⟩:=cel5 (show l.length=5 from hl)
  obtain⟨ls,rfl,wl⟩:=(hf 0 _ d0 rfl rfl).inv_slP MG fun _ hx=>Lv hx
  obtain⟨sp,rfl,ws⟩:=IE (hf 1 _ d1 rfl rfl)
  obtain⟨ks,rfl,hks⟩:=(hf 2 _ d2 rfl rfl).inv_slD MF
  obtain⟨em,rfl⟩:=(hf 3 _ d3 rfl rfl).inv_bool MD
  obtain⟨pf,rfl,wp⟩:=Cn (hf 4 _ d4 rfl rfl)
  obtain⟨ns,rfl,wn⟩:=xP (f:=bG) (p:=wN) ks fun x hx=>EY k (by
   have:=DG hx
   simp only[Dt.st.sizeOf_spec,List.cons.sizeOf_spec,Dt.sl.sizeOf_spec] at hk
   omega) (hks x hx)
  refine⟨.mk ls sp ns em pf,?_,?_⟩
  ·simp only[bG,lu]
  ·simp only[wN,AA]
   exact⟨wl,ws,wp,wn⟩
theorem IF {W:World}:∀(l:List UInt8) {cs:List Value},bw W (l.map dU8) cs→cs=l.map U8
 |[],cs,h=>by simpa only[List.map_nil,bw] using h
 |a::l,cs,h=>by
  simp only[List.map_cons,bw,dU8,Rp] at h
  obtain⟨c1,c2,rfl,rfl,h2⟩:=h
  rw[IF l h2]
  rfl
section
variable {H:Type} {enc:TypeId×Value→H} {W:World} {base:Nat} {spare:Nat→Bool} {held:Bool} {r:Reach} {b0:Nat} {v:Value} {d:DataW H} {ps:List MemPlace}
set_option maxRecDepth 100000 in
theorem Ml (ho:Value.okWide Tryz.prog W r b0 24 v) (h:DataW.Trod enc Tryz.prog W base spare held 24 v d ps):∃l:List UInt8,v=.agg (l.map U8).toArray∧l.length=32:=by
 have ho':∃cs,v=.agg cs:=by
  simp only[Value.okWide,Tryz.underlying24] at ho
  obtain⟨cs,h1,_⟩:=ho
  exact⟨cs,h1⟩
 obtain⟨cs,rfl⟩:=ho'
 obtain⟨h1,h2⟩:=Hg (ts:=[24,5]) (by kernel_rfl) (by kernel_rfl) h
 obtain⟨l,hd,hl⟩:=h2.inv_arr (f:=dU8) MK fun _ hx=>hx.inv_u8 MC
 rw[hd] at h1
 simp only[Rp] at h1
 have:=IF l h1
 refine⟨l,?_,hl⟩
 show Value.agg cs=_
 have h3:cs.toList=l.map U8:=this
 rw[←h3]
end
end Go.Rl
namespace Go.Rl
open Go.RowKit
structure bZ where
 path:List bU
 leaf:aY
def cy (e:bZ):List UInt8:=uv e.path.length++e.path.flatMap fS++dH e.leaf
def fW (d:bU):Bool:=decide (1≤d.kd)&&decide (d.kd≤4)&&fP d.at_
def bQ (e:bZ):Bool:=decide (e.path.length≤2048)&&decide (e.leaf.kids.length=0)&&qT e.leaf&&jn e.leaf&&e.path.all fW
def lE (l:List UInt8):Option (bZ×List UInt8):=(dq oB l).bind fun a=>(im a.2).bind fun b=>some (⟨a.1,b.1⟩,b.2)
def jC (b:List UInt8):Option bZ:=match lE b with
 |some (e,[])=>if bQ e=true then some e else none
 |_=>none
def A6 (e:bZ):Prop:=(∀d∈e.path,wD d)∧wN e.leaf
theorem xQ {l t:List UInt8} {e:bZ} (h:lE l=some (e,t)):l=cy e++t∧A6 e∧e.path.length<18446744073709551616:=by
 unfold lE at h
 obtain⟨p1,h1,h⟩:=Option.bind_eq_some_iff.1 h
 obtain⟨p2,h2,h⟩:=Option.bind_eq_some_iff.1 h
 simp only[Option.some.injEq,Prod.mk.injEq] at h
 obtain⟨rfl,rfl⟩:=h
 obtain⟨a1,a2,a3⟩:=rV (fun l a t h=>ER h) (xs:=p1.1) (t:=p1.2) h1
 have b:=Ih (n:=p2.1) (t:=p2.2) h2
 refine⟨?_,⟨fun d hd=>(a3 d hd).2,b.2.2.1⟩,a2⟩
 show l=uv p1.1.length++p1.1.flatMap fS++dH p2.1++p2.2
 rw[List.append_assoc,←b.1,←a1]
theorem IG {b:List UInt8} {e:bZ} (h:jC b=some e):cy e=b∧bQ e=true∧A6 e∧lE b=some (e,[]):=by
 unfold jC at h
 split at h
 ·rename_i e' he
  split at h
  ·cases h
   have:=xQ he
   rw[List.append_nil] at this
   exact⟨this.1.symm,by assumption,this.2.1,he⟩
  ·cases h
 ·cases h
theorem AJ {b:List UInt8} {e:bZ} (h:lE b=some (e,[])) (hv:bQ e=true):jC b=some e:=by
 unfold jC
 rw[h]
 exact if_pos hv
theorem xS {q:ft} (hc:fP q=true) (hl:(gD q).length<18446744073709551616):L9 q:=⟨hc,by have:=jT q;omega,by have:=jT q;omega⟩
theorem tz {α:Type} {f:α→List UInt8} {l:List α} {a:α} (h:a∈l):(f a).length≤(l.flatMap f).length:=by
 induction l with
 |nil=>cases h
 |cons b l ih=>
  rw[List.flatMap_cons,List.length_append]
  rcases List.mem_cons.1 h with rfl|h
  ·omega
  ·have:=ih h;omega
theorem ly {α:Type} {f:α→List UInt8} {k:Nat} (l:List α) (h:∀a∈l,k≤(f a).length):k*l.length≤(l.flatMap f).length:=by
 induction l with
 |nil=>simp
 |cons b l ih=>
  rw[List.flatMap_cons,List.length_append,List.length_cons]
  have:=ih fun a ha=>h a (by simp[ha])
  have:=h b (by simp)
  rw[Nat.mul_succ];omega
theorem Co (q:ft):3≤(gD q).length:=by
 have h:∀n:List UInt32,1≤(jy n).length:=fun n=>by
  have:=ro n.length
  simp only[jy,List.length_append];omega
 have h1:=h q.2.1
 have h2:=h q.2.2
 simp only[gD,oH,List.length_append,List.length_cons,List.length_nil]
 omega
theorem pC (n:Int):1≤(du n).length:=ro _
theorem uy (m:cg):7≤(fp m).length:=by
 have:=pC m.kd;have:=pC m.ix;have:=pC m.lo;have:=pC m.hi;have:=Co m.co
 simp only[fp,List.length_append];omega
theorem zn (m:dN):6≤(ei m).length:=by
 have:=pC m.un;have:=Co m.va;have:=ro m.pf.length
 have:(wZ m.up).length=1:=by cases m.up<;>rfl
 simp only[ei,ji,List.length_append];omega
theorem JL {d:bU} (hc:fP d.at_=true) (hw:wD d) (hl:(fS d).length<18446744073709551616) (t:List UInt8):oB (fS d++t)=some (d,t):=by
 have hq:L9 d.at_:=xS hc (by simp only[fS,List.length_append] at hl;omega)
 unfold oB fS
 rw[List.append_assoc,List.append_assoc,nK hw.1];simp only[Option.bind_some]
 rw[nK hw.2];simp only[Option.bind_some]
 rw[Ag hq];rfl
theorem IH {m:cg} (hc:fP m.co=true) (hw:LM m) (hl:(fp m).length<18446744073709551616) (t:List UInt8):rR (fp m++t)=some (m,t):=by
 have hq:L9 m.co:=xS hc (by simp only[fp,List.length_append] at hl;omega)
 unfold rR fp
 simp only[List.append_assoc]
 rw[nK hw.1];simp only[Option.bind_some]
 rw[nK hw.2.1];simp only[Option.bind_some]
 rw[nK hw.2.2.1];simp only[Option.bind_some]
 rw[nK hw.2.2.2];simp only[Option.bind_some]
 rw[Ag hq];rfl
theorem EZ {l:List cg} (hc:m0 l=true) (hw:wP l) (hl:(ji l).length<18446744073709551616) (t:List UInt8):BV (ji l++t)=some (l,t):=by
 simp only[ji,List.length_append] at hl
 have hn:=ly l fun m _=>uy m
 exact rP (by omega) (fun m hm t=>IH (List.all_eq_true.1 hc m hm) (hw m hm) (by have:=tz (f:=fp) hm;omega) t) t
theorem JM {k n:Nat} (h:n≤k) (hk:k<18446744073709551616) (t:List UInt8):ki k (uv n++t)=some (n,t):=by
 unfold ki
 rw[rt (by omega)]
 exact if_pos h
theorem Lw (b:Bool):wZ b=uv (if b=true then 1 else 0):=by cases b<;>rfl
theorem zo {k:Nat} (hk:1≤k) (hk2:k<18446744073709551616) (b:Bool) (t:List UInt8):ki k (wZ b++t)=some (if b=true then 1 else 0,t):=by
 rw[Lw]
 exact JM (by split<;>omega) hk2 t
theorem II (b:Bool):bV (if b=true then 1 else 0)=b:=by cases b<;>rfl
theorem IJ {m:dN} (hc:i6 m=true) (hw:Ie m) (hl:(ei m).length<18446744073709551616) (t:List UInt8):nN (ei m++t)=some (m,t):=by
 simp only[i6,Bool.and_eq_true] at hc
 have hq:L9 m.va:=xS hc.1 (by simp only[ei,List.length_append] at hl;omega)
 have hp:=EZ hc.2 hw.2 (by simp only[ei,List.length_append] at hl;omega)
 unfold nN ei
 simp only[List.append_assoc]
 rw[nK hw.1];simp only[Option.bind_some]
 rw[zo (by omega) (by omega)];simp only[Option.bind_some]
 rw[Ag hq];simp only[Option.bind_some]
 rw[hp];simp only[Option.bind_some,II]
theorem Gw {l:List dN} (hc:l.all i6=true) (hw:∀m∈l,Ie m) (hl:(eJ l).length<18446744073709551616) (t:List UInt8):jq (eJ l++t)=some (l,t):=by
 simp only[eJ,List.length_append] at hl
 have hn:=ly l fun m _=>zn m
 exact rP (by omega) (fun m hm t=>IJ (List.all_eq_true.1 hc m hm) (hw m hm) (by have:=tz (f:=ei) hm;omega) t) t
theorem JN {n:aY} (hk:n.kids.length=0) (hv:qT n=true):n=.mk n.lems lC [] n.empty n.pf:=by
 cases n with
 |mk l s k e p=>
  have hk':k=[]:=List.eq_nil_of_length_eq_zero hk
  subst hk'
  have hz:yi s=true:=by
   unfold qT at hv
   simp only[Bool.and_eq_true] at hv
   have:=hv.1
   unfold GR at this
   exact this
  rw[Aw] at hz
  have:=of_decide_eq_true hz
  subst this
  rfl
theorem IK {n:aY} (hk:n.kids.length=0) (hv:qT n=true) (hc:jn n=true) (hw:wN n) (hl:(dH n).length<18446744073709551616) (t:List UInt8):im (dH n++t)=some (n,t):=by
 have e:=JN hk hv
 rw[EP] at hc
 simp only[Bool.and_eq_true] at hc
 obtain⟨⟨⟨c1,_⟩,c2⟩,_⟩:=hc
 obtain⟨w1,_,w2,_⟩:=(ur n).1 hw
 have he:=na n
 rw[if_pos hk] at he
 rw[he] at hl⊢
 simp only[List.length_append] at hl
 rw[qt]
 simp only[List.append_assoc]
 rw[zo (by omega) (by omega)];simp only[Option.bind_some]
 rw[Gw c2 w1 (by omega)];simp only[Option.bind_some]
 rw[if_pos (by split<;>omega),EZ c1 w2 (by omega)]
 simp only[Option.bind_some]
 rw[show decide ((if n.empty=true then 1 else 0)=1)=n.empty by cases n.empty<;>rfl,←e]
theorem IL {e:bZ} (hv:bQ e=true) (hw:A6 e) (hl:(cy e).length<18446744073709551616) (t:List UInt8):lE (cy e++t)=some (e,t):=by
 simp only[bQ,Bool.and_eq_true,decide_eq_true_eq] at hv
 obtain⟨⟨⟨⟨v1,v2⟩,v3⟩,v4⟩,v5⟩:=hv
 simp only[cy,List.length_append] at hl
 unfold lE cy
 rw[List.append_assoc,rP (by omega) fun d hd t=>JL (by
  have:=List.all_eq_true.1 v5 d hd
  simp only[fW,Bool.and_eq_true] at this
  exact this.2) (hw.1 d hd) (by have:=tz (f:=fS) hd;omega) t]
 simp only[Option.bind_some]
 rw[IK v2 v3 v4 hw.2 (by omega)]
 rfl
theorem IM {e:bZ} (hv:bQ e=true) (hw:A6 e) (hl:(cy e).length<18446744073709551616):jC (cy e)=some e:=by
 refine AJ ?_ hv
 have:=IL hv hw hl []
 rwa [List.append_nil] at this
def oJ {α:Type} (most:Nat) (f:List UInt8→Option (α×List UInt8)) (l:List UInt8):Option (List α×List UInt8):=(ki most l).bind fun p=>bT f p.1 p.2
def gP:List UInt8→Option (List cg×List UInt8):=oJ 1048576 rR
def E0 (l:List UInt8):Option (dN×List UInt8):=(jK l).bind fun a=>(ki 1 a.2).bind fun b=>(jp b.2).bind fun c=>(gP c.2).bind fun d=>some (⟨a.1,bV b.1,c.1,d.1⟩,d.2)
def GS (l:List UInt8):Option (bZ×List UInt8):=(oJ 2048 oB l).bind fun a=>(ki 1 a.2).bind fun b=>(oJ 1073741824 E0 b.2).bind fun c=>(gP c.2).bind fun d=>some (⟨a.1,.mk c.1 lC [] (bV b.1) d.1⟩,d.2)
theorem IN {k n:Nat} {l t:List UInt8} (h:ki k l=some (n,t)):eW l=some (n,t)∧n≤k:=by
 unfold ki at h
 obtain⟨p,h1,h2⟩:=Option.bind_eq_some_iff.1 h
 split at h2
 ·cases h2;exact⟨h1,by assumption⟩
 ·cases h2
theorem IP {k m n:Nat} {l t:List UInt8} (h:ki k l=some (n,t)) (hm:n≤m):ki m l=some (n,t):=by
 unfold ki
 rw[(IN h).1]
 exact if_pos hm
theorem qu {α:Type} {most:Nat} {f:List UInt8→Option (α×List UInt8)} {l t:List UInt8} {xs:List α} (h:oJ most f l=some (xs,t)):dq f l=some (xs,t):=by
 unfold oJ at h
 obtain⟨p,h1,h2⟩:=Option.bind_eq_some_iff.1 h
 unfold dq
 rw[(IN (n:=p.1) (t:=p.2) h1).1]
 exact h2
theorem xT {α:Type} {f:List UInt8→Option (α×List UInt8)}:∀(n:Nat) (l:List UInt8) (xs:List α) (t:List UInt8),bT f n l=some (xs,t)→xs.length=n
 |0,l,xs,t,h=>by
  simp only[bT,Option.some.injEq,Prod.mk.injEq] at h
  rw[←h.1];rfl
 |n+1,l,xs,t,h=>by
  simp only[bT] at h
  obtain⟨p,h1,h2⟩:=Option.bind_eq_some_iff.1 h
  obtain⟨q,h3,h4⟩:=Option.map_eq_some_iff.1 h2
  simp only[Prod.mk.injEq] at h4
  rw[←h4.1,List.length_cons,xT n _ _ _ (show bT f n p.2=some (q.1,q.2) from h3)]
theorem AK {α:Type} {most:Nat} {f:List UInt8→Option (α×List UInt8)} {l t:List UInt8} {xs:List α} (h:dq f l=some (xs,t)) (hn:xs.length≤most):oJ most f l=some (xs,t):=by
 unfold dq at h
 obtain⟨p,h1,h2⟩:=Option.bind_eq_some_iff.1 h
 unfold oJ ki
 rw[h1]
 simp only[Option.bind_some]
 rw[if_pos (by rw[←xT _ _ _ _ h2];exact hn)]
 exact h2
theorem vg {α:Type} {f g:List UInt8→Option (α×List UInt8)} (h:∀l a t,f l=some (a,t)→g l=some (a,t)):∀(n:Nat) (l:List UInt8) (xs:List α) (t:List UInt8),bT f n l=some (xs,t)→bT g n l=some (xs,t)
 |0,l,xs,t,e=>e
 |n+1,l,xs,t,e=>by
  simp only[bT] at e⊢
  obtain⟨p,h1,h2⟩:=Option.bind_eq_some_iff.1 e
  obtain⟨q,h3,h4⟩:=Option.map_eq_some_iff.1 h2
  rw[h l p.1 p.2 h1]
  simp only[Option.bind_some]
  rw[vg h n p.2 q.1 q.2 h3]
  exact congrArg some h4
theorem Cp {α:Type} {f g:List UInt8→Option (α×List UInt8)} (h:∀l a t,f l=some (a,t)→g l=some (a,t)) {l t:List UInt8} {xs:List α} (e:dq f l=some (xs,t)):dq g l=some (xs,t):=by
 unfold dq at e⊢
 obtain⟨p,h1,h2⟩:=Option.bind_eq_some_iff.1 e
 rw[h1]
 exact vg h _ _ _ _ h2
theorem Lx {l t:List UInt8} {m:dN} (h:E0 l=some (m,t)):nN l=some (m,t):=by
 unfold E0 at h
 unfold nN
 obtain⟨p1,h1,h⟩:=Option.bind_eq_some_iff.1 h
 obtain⟨p2,h2,h⟩:=Option.bind_eq_some_iff.1 h
 obtain⟨p3,h3,h⟩:=Option.bind_eq_some_iff.1 h
 obtain⟨p4,h4,h⟩:=Option.bind_eq_some_iff.1 h
 rw[h1];simp only[Option.bind_some]
 rw[h2];simp only[Option.bind_some]
 rw[h3];simp only[Option.bind_some]
 rw[show BV p3.2=some p4 from qu (t:=p4.2) h4]
 exact h
theorem Ly {l t:List UInt8} {e:bZ} (h:GS l=some (e,t)):lE l=some (e,t):=by
 unfold GS at h
 unfold lE
 obtain⟨p1,h1,h⟩:=Option.bind_eq_some_iff.1 h
 obtain⟨p2,h2,h⟩:=Option.bind_eq_some_iff.1 h
 obtain⟨p3,h3,h⟩:=Option.bind_eq_some_iff.1 h
 obtain⟨p4,h4,h⟩:=Option.bind_eq_some_iff.1 h
 simp only[Option.some.injEq,Prod.mk.injEq] at h
 obtain⟨rfl,rfl⟩:=h
 have hk:p2.1≤1:=(IN (n:=p2.1) (t:=p2.2) h2).2
 rw[show dq oB l=some p1 from qu (t:=p1.2) h1]
 simp only[Option.bind_some]
 rw[qt,show ki 2 p1.2=some p2 from IP (n:=p2.1) (t:=p2.2) h2 (by omega)]
 simp only[Option.bind_some]
 rw[show jq p2.2=some p3 from Cp (fun _ _ _ h=>Lx h) (qu (xs:=p3.1) (t:=p3.2) h3)]
 simp only[Option.bind_some]
 rw[if_pos (by omega),show BV p3.2=some p4 from qu (t:=p4.2) h4]
 rfl
theorem KF {l t:List UInt8} {ps:List cg} (h:BV l=some (ps,t)) (hn:ps.length≤1048576):gP l=some (ps,t):=AK h hn
theorem Lz {l t:List UInt8} {m:dN} (h:nN l=some (m,t)) (hn:m.pf.length≤1048576):E0 l=some (m,t):=by
 unfold nN at h
 unfold E0
 obtain⟨p1,h1,h⟩:=Option.bind_eq_some_iff.1 h
 obtain⟨p2,h2,h⟩:=Option.bind_eq_some_iff.1 h
 obtain⟨p3,h3,h⟩:=Option.bind_eq_some_iff.1 h
 obtain⟨p4,h4,h⟩:=Option.bind_eq_some_iff.1 h
 simp only[Option.some.injEq,Prod.mk.injEq] at h
 obtain⟨rfl,rfl⟩:=h
 rw[h1];simp only[Option.bind_some]
 rw[h2];simp only[Option.bind_some]
 rw[h3];simp only[Option.bind_some]
 rw[show gP p3.2=some p4 from KF (t:=p4.2) h4 hn]
 rfl
theorem zp {α:Type} {f g:List UInt8→Option (α×List UInt8)}:∀(n:Nat) (l:List UInt8) (xs:List α) (t:List UInt8),bT f n l=some (xs,t)→(∀x∈xs,∀l t,f l=some (x,t)→g l=some (x,t))→bT g n l=some (xs,t)
 |0,l,xs,t,e,_=>e
 |n+1,l,xs,t,e,h=>by
  simp only[bT] at e⊢
  obtain⟨p,h1,h2⟩:=Option.bind_eq_some_iff.1 e
  obtain⟨q,h3,h4⟩:=Option.map_eq_some_iff.1 h2
  simp only[Prod.mk.injEq] at h4
  obtain⟨rfl,rfl⟩:=h4
  rw[h p.1 (by simp) l p.2 h1]
  simp only[Option.bind_some]
  rw[zp n p.2 q.1 q.2 h3 fun x hx=>h x (by simp[hx])]
  rfl
theorem LA {l t:List UInt8} {e:bZ} (h:lE l=some (e,t)) (hk:e.leaf.kids.length=0) (h1:e.path.length≤2048) (h2:e.leaf.lems.length≤1073741824) (h3:e.leaf.pf.length≤1048576) (h4:∀m∈e.leaf.lems,m.pf.length≤1048576):GS l=some (e,t):=by
 unfold lE at h
 obtain⟨a,ha,h⟩:=Option.bind_eq_some_iff.1 h
 obtain⟨n,hn,h⟩:=Option.bind_eq_some_iff.1 h
 simp only[Option.some.injEq,Prod.mk.injEq] at h
 obtain⟨rfl,rfl⟩:=h
 rw[qt] at hn
 obtain⟨p2,hp2,hn⟩:=Option.bind_eq_some_iff.1 hn
 obtain⟨p3,hp3,hn⟩:=Option.bind_eq_some_iff.1 hn
 split at hn
 ·rename_i hlt
  obtain⟨p4,hp4,hn⟩:=Option.bind_eq_some_iff.1 hn
  simp only[Option.some.injEq] at hn
  subst hn
  unfold GS
  rw[show oJ 2048 oB l=some a from AK (xs:=a.1) (t:=a.2) ha h1]
  simp only[Option.bind_some]
  rw[show ki 1 a.2=some p2 from IP (n:=p2.1) (t:=p2.2) hp2 (by omega)]
  simp only[Option.bind_some]
  have hL:oJ 1073741824 E0 p2.2=some p3:=by
   refine AK (xs:=p3.1) (t:=p3.2) ?_ h2
   have hp3':dq nN p2.2=some p3:=hp3
   unfold dq at hp3'⊢
   obtain⟨q,hq,hq2⟩:=Option.bind_eq_some_iff.1 hp3'
   rw[hq]
   exact zp _ _ _ _ hq2 fun x hx l t hh=>Lz hh (h4 x hx)
  rw[hL]
  simp only[Option.bind_some]
  rw[show gP p3.2=some p4 from KF (ps:=p4.1) (t:=p4.2) hp4 h3]
  rfl
 ·obtain⟨p4,hp4,hn⟩:=Option.bind_eq_some_iff.1 hn
  obtain⟨p5,hp5,hn⟩:=Option.bind_eq_some_iff.1 hn
  obtain⟨p6,hp6,hn⟩:=Option.bind_eq_some_iff.1 hn
  simp only[Option.some.injEq] at hn
  subst hn
  simp[aY.kids] at hk
theorem Gx {e:bZ} (hk:e.leaf.kids.length=0) (hl:(cy e).length≤7340032):e.leaf.lems.length≤1073741824∧e.leaf.pf.length≤1048576∧∀m∈e.leaf.lems,m.pf.length≤1048576:=by
 have he:=na e.leaf
 rw[if_pos hk] at he
 simp only[cy,he,List.length_append,eJ,ji] at hl
 have h1:=ly e.leaf.pf fun m _=>uy m
 have h2:=ly e.leaf.lems fun m _=>zn m
 refine⟨by omega,by omega,fun m hm=>?_⟩
 have h3:=tz (f:=ei) hm
 have h4:=ly m.pf fun m _=>uy m
 simp only[ei,ji,List.length_append] at h3
 omega
theorem E1 {b:List UInt8} {e:bZ} (h:jC b=some e) (hl:b.length≤7340032):GS b=some (e,[]):=by
 obtain⟨h1,h2,_,h4⟩:=IG h
 simp only[bQ,Bool.and_eq_true,decide_eq_true_eq] at h2
 obtain⟨a,b',c⟩:=Gx h2.1.1.1.2 (by rw[h1];exact hl)
 exact LA h4 h2.1.1.1.2 h2.1.1.1.1 a b' c
structure JR {α:Type} (f:List UInt8→Option (α×List UInt8)) (st:Option (List UInt8)) (ok:Bool) (a:α) (s1:Option (List UInt8)) (ok1:Bool):Prop where
 iff:ok1=(ok&&(st.bind f).isSome)
 val:ok1=true→st.bind f=s1.map fun t=>(a,t)
section
variable {α β:Type} {f:List UInt8→Option (α×List UInt8)} {g:α→List UInt8→Option (β×List UInt8)} {st s1 s2:Option (List UInt8)} {ok ok1 ok2:Bool} {a:α} {b:β}
theorem JR.of_rdE (h:fR f st a s1):JR f st ok a s1 (ok&&s1.isSome):=by
 have h:st.bind f=s1.map fun t=>(a,t):=h
 refine⟨by rw[h];cases s1<;>rfl,fun _=>h⟩
theorem JR.bind (h1:JR f st ok a s1 ok1) (h2:JR (g a) s1 ok1 b s2 ok2):JR (fun l=>(f l).bind fun p=>g p.1 p.2) st ok b s2 ok2:=by
 have e:st.bind (fun l=>(f l).bind fun p=>g p.1 p.2)=(st.bind f).bind fun p=>g p.1 p.2:=by cases st<;>rfl
 refine⟨?_,fun h=>?_⟩
 ·rw[h2.iff,e]
  cases hk:ok1 with
  |true=>
   have hv:=h1.val hk
   have hi:=h1.iff
   rw[hk] at hi
   simp only[Bool.true_eq,Bool.and_eq_true] at hi
   rw[hi.1,hv]
   cases s1<;>rfl
  |false=>
   have hi:=h1.iff
   rw[hk] at hi
   cases ok with
   |false=>rfl
   |true=>
    simp only[Bool.true_and] at hi
    have:st.bind f=none:=Option.isNone_iff_eq_none.1 (by rw[Option.isNone_iff_eq_none];exact Option.not_isSome_iff_eq_none.1 (by rw[←hi];simp))
    rw[this];rfl
 ·have hi2:=h2.iff
  rw[h] at hi2
  simp only[Bool.true_eq,Bool.and_eq_true] at hi2
  rw[e,h1.val hi2.1]
  have:=h2.val h
  cases s1 with
  |none=>exact this
  |some t=>exact this
theorem JR.ok_le (h:JR f st ok a s1 ok1):ok1=true→ok=true∧s1.isSome=true:=fun e=>by
 have h1:=h.iff
 rw[e] at h1
 simp only[Bool.true_eq,Bool.and_eq_true] at h1
 refine⟨h1.1,?_⟩
 have:=h.val e
 rw[this] at h1
 cases s1 with
 |none=>exact absurd h1.2 (by simp)
 |some t=>rfl
theorem JR.map (h:JR f st ok a s1 ok1) (k:α→β):JR (fun l=>(f l).bind fun p=>some (k p.1,p.2)) st ok (k a) s1 ok1:=by
 have e:st.bind (fun l=>(f l).bind fun p=>some (k p.1,p.2))=(st.bind f).map fun p=>(k p.1,p.2):=by
  cases st with
  |none=>rfl
  |some l=>show(f l).bind _=(f l).map _;cases f l<;>rfl
 refine⟨?_,fun hk=>?_⟩
 ·rw[h.iff,e];cases st.bind f<;>rfl
 ·rw[e,h.val hk];cases s1<;>rfl
end
end Go.Rl
namespace Go.Rl
open Go.RowKit Go.Proofs
theorem JO (l:List UInt32):(nx l).bulk=l.length+1:=by
 have:∀l:List UInt32,Dt.bulkAll (l.map zX)=l.length:=by
  intro l
  induction l with
  |nil=>rfl
  |cons a l ih=>simp only[List.map_cons,Dt.bulkAll,ih,zX,Dt.bulk,List.length_cons];omega
 simp only[nx,Dt.bulk,this]
theorem AL (q:ft):(jh q).bulk=q.2.1.length+q.2.2.length+4:=by
 simp only[jh,Dt.bulk,Dt.bulkAll,JO];omega
theorem ng {α:Type} {f:α→Dt} {m:α→Nat} {c:Nat} (l:List α) (h:∀a∈l,m a≤c*(f a).bulk):(l.map m).sum≤c*Dt.bulkAll (l.map f):=by
 induction l with
 |nil=>simp
 |cons a l ih=>
  simp only[List.map_cons,List.sum_cons,Dt.bulkAll,Nat.mul_add]
  have:=h a (by simp)
  have:=ih fun b hb=>h b (by simp[hb])
  omega
theorem uA {α:Type} {f:α→Dt} {e:α→List UInt8} {c:Nat} (l:List α) (h:∀a∈l,(e a).length≤c*(f a).bulk):(l.flatMap e).length≤c*Dt.bulkAll (l.map f):=by
 have:∀l:List α,(l.flatMap e).length=(l.map fun a=>(e a).length).sum:=by
  intro l
  induction l with
  |nil=>rfl
  |cons a l ih=>simp only[List.flatMap_cons,List.length_append,List.map_cons,List.sum_cons,ih]
 rw[this]
 exact ng l h
theorem i5 (m:cg):(bP m).bulk=m.co.2.1.length+m.co.2.2.length+10:=by
 simp only[bP,qY,Dt.bulk,Dt.bulkAll,AL];omega
theorem tA (d:bU):(dC d).bulk=d.at_.2.1.length+d.at_.2.2.length+7:=by
 simp only[dC,qY,Dt.bulk,Dt.bulkAll,AL];omega
theorem xU (l:List cg):(il l).bulk=Dt.bulkAll (l.map bP)+1:=rfl
theorem jX (m:dN):(dc m).bulk=m.va.2.1.length+m.va.2.2.length+Dt.bulkAll (m.pf.map bP)+8:=by
 simp only[dc,qY,Dt.bulk,Dt.bulkAll,AL,xU];omega
theorem uB (n:aY):(bG n).bulk=Dt.bulkAll (n.lems.map dc)+(dC n.split).bulk+Dt.bulkAll (n.kids.map bG)+Dt.bulkAll (n.pf.map bP)+5:=by
 cases n with
 |mk l s k e p=>
  simp only[bG,lu,Dt.bulk,Dt.bulkAll,xU,aY.lems,aY.split,aY.kids,aY.pf]
  omega
theorem qv {q:ft} (h:q.2.1.length≤1073741824) (h2:q.2.2.length≤1073741824):(gD q).length≤4*(q.2.1.length+q.2.2.length)+21:=by
 have a1:=f8 (n:=q.2.1.length) (by omega)
 have a2:=f8 (n:=q.2.2.length) (by omega)
 simp only[gD,oH,jy,List.length_append,List.length_cons,List.length_nil,eU]
 omega
theorem gz {n:Int} (h:lR n):(du n).length≤10:=f8 (CP h.1 h.2)
section
variable {B:Nat}
theorem IQ {m:cg} (hb:(bP m).bulk≤1048576) (hw:LM m):(fp m).length≤10*(bP m).bulk:=by
 rw[i5] at hb⊢
 have:=gz hw.1;have:=gz hw.2.1;have:=gz hw.2.2.1;have:=gz hw.2.2.2
 have:=qv (q:=m.co) (by omega) (by omega)
 simp only[fp,List.length_append];omega
theorem E2 {l:List cg} (hb:Dt.bulkAll (l.map bP)≤1048576) (hw:wP l):(ji l).length≤10*Dt.bulkAll (l.map bP)+10:=by
 have h1:=ew (l.map bP)
 rw[List.length_map] at h1
 have:=f8 (n:=l.length) (by omega)
 have:=uA (f:=bP) (e:=fp) (c:=10) l fun m hm=>IQ (Nat.le_trans (eu (List.mem_map_of_mem (f:=bP) hm)) hb) (hw m hm)
 simp only[ji,List.length_append];omega
theorem IR {m:dN} (hb:(dc m).bulk≤1048576) (hw:Ie m):(ei m).length≤10*(dc m).bulk:=by
 rw[jX] at hb⊢
 have:=gz hw.1
 have:=qv (q:=m.va) (by omega) (by omega)
 have:=E2 (l:=m.pf) (by omega) hw.2
 have:(wZ m.up).length=1:=vH m.up
 simp only[ei,List.length_append];omega
theorem Gy {l:List dN} (hb:Dt.bulkAll (l.map dc)≤1048576) (hw:∀m∈l,Ie m):(eJ l).length≤10*Dt.bulkAll (l.map dc)+10:=by
 have h1:=ew (l.map dc)
 rw[List.length_map] at h1
 have:=f8 (n:=l.length) (by omega)
 have:=uA (f:=dc) (e:=ei) (c:=10) l fun m hm=>IR (Nat.le_trans (eu (List.mem_map_of_mem (f:=dc) hm)) hb) (hw m hm)
 simp only[eJ,List.length_append];omega
theorem JP {d:bU} (hb:(dC d).bulk≤1048576) (hw:wD d):(fS d).length≤10*(dC d).bulk:=by
 rw[tA] at hb⊢
 have:=gz hw.1;have:=gz hw.2
 have:=qv (q:=d.at_) (by omega) (by omega)
 simp only[fS,List.length_append];omega
theorem E4:∀(k:Nat) {n:aY},SizeOf.sizeOf n≤k→(bG n).bulk≤1048576→wN n→(dH n).length≤10*(bG n).bulk∧vc n≤2*(bG n).bulk∧sN n
 |0,n,hk,_,_=>by cases n;simp at hk
 |k+1,n,hk,hb,hw=>by
  obtain⟨wl,wd,wp,wk⟩:=(ur n).1 hw
  rw[uB] at hb⊢
  have ih:∀c∈n.kids,(dH c).length≤10*(bG c).bulk∧vc c≤2*(bG c).bulk∧sN c:=fun c hc=>by
   have h1:=eu (List.mem_map_of_mem (f:=bG) hc)
   exact E4 k (by have:=aY.lt_of_mem hc;omega) (by omega) (wk c hc)
  have e1:=Gy (l:=n.lems) (by omega) wl
  have e2:=JP (d:=n.split) (by omega) wd
  have e3:=E2 (l:=n.pf) (by omega) wp
  have e4:=uA (f:=bG) (e:=dH) (c:=10) n.kids fun c hc=>(ih c hc).1
  have s1:=ng (f:=bP) (m:=mQ) (c:=1) n.pf fun m _=>by rw[i5];unfold mQ;omega
  have s2:=ng (f:=dc) (m:=mL) (c:=1) n.lems fun m _=>by
   have:=ng (f:=bP) (m:=mQ) (c:=1) m.pf fun m _=>by rw[i5];unfold mQ;omega
   rw[jX];unfold mL mP;omega
  have s3:=ng (f:=bG) (m:=vc) (c:=2) n.kids fun c hc=>(ih c hc).2.1
  have s4:=ew (n.lems.map dc)
  rw[List.length_map] at s4
  have hd:=tA n.split
  refine⟨?_,?_,?_⟩
  ·rw[na]
   split
   ·simp only[List.length_append,vH];omega
   ·simp only[List.length_append,List.length_cons,List.length_nil];omega
  ·rw[IC];unfold mP;omega
  ·refine(xK n).2 ⟨fun m hm=>⟨⟨?_,?_⟩,fun p hp=>⟨?_,?_⟩⟩,⟨by omega,by omega⟩,fun p hp=>⟨?_,?_⟩,fun c hc=>(ih c hc).2.2⟩
   ·have:=eu (List.mem_map_of_mem (f:=dc) hm);rw[jX] at this;omega
   ·have:=eu (List.mem_map_of_mem (f:=dc) hm);rw[jX] at this;omega
   ·have h1:=eu (List.mem_map_of_mem (f:=dc) hm);rw[jX] at h1
    have h2:=eu (List.mem_map_of_mem (f:=bP) hp);rw[i5] at h2;omega
   ·have h1:=eu (List.mem_map_of_mem (f:=dc) hm);rw[jX] at h1
    have h2:=eu (List.mem_map_of_mem (f:=bP) hp);rw[i5] at h2;omega
   ·have h2:=eu (List.mem_map_of_mem (f:=bP) hp);rw[i5] at h2;omega
   ·have h2:=eu (List.mem_map_of_mem (f:=bP) hp);rw[i5] at h2;omega
end
end Go.Rl
namespace Go.Rl
open Go.RowKit
end Go.Rl
namespace Go.Rl
open Go.RowKit
end Go.Rl
namespace Go.Rl
open Go.RowKit Go.Proofs
end Go.Rl
namespace Go.Rl
open Go.RowKit Go.Proofs Go.Proofs.YtpeidnhjcompmaaGreatDoor
end Go.Rl
namespace Go.Rl
open Go.RowKit
end Go.Rl
namespace Go.Rl
open Go.RowKit Go.Proofs Go.Proofs.YtpeidnhjcompmaaGreatDoor
theorem iK {w:World} {q:ft} {x y:Value} (hx:bm q.2.1 x w) (hy:bm q.2.2 y w) (hs:sQ q):
 Calls Tryz.prog 99 #[.agg #[B q.1,x,y]] w (bE fun r w'=>aK w w'∧r=B (fP q)):=
 pg (b:=q.1) ⟨x,y,rfl,hx,hy⟩ (by have:=hs.1;omega) (by have:=hs.2;omega)
end Go.Rl
namespace Go.Rl
open Go.RowKit Go.Proofs Go.Proofs.YtpeidnhjcompmaaGreatDoor
end Go.Rl
namespace Go.Rl
open Go.RowKit Go.Proofs
end Go.Rl
namespace Go.Rl
open Go.RowKit Go.Proofs Go.Proofs.YtpeidnhjcompmaaGreatDoor
theorem zq {α:Type} {f:List UInt8→Option (α×List UInt8)} {P:α→Prop} {K:Nat} (hf:Le f) (h:∀l a t,f l=some (a,t)→l.length≤K→P a):∀(n:Nat) (l:List UInt8) (xs:List α) (t:List UInt8),bT f n l=some (xs,t)→l.length≤K→∀x∈xs,P x
 |0,l,xs,t,e,_=>by
  simp only[bT,Option.some.injEq,Prod.mk.injEq] at e
  rw[←e.1]
  exact fun _ h=>by simp at h
 |n+1,l,xs,t,e,hl=>by
  simp only[bT] at e
  obtain⟨p,h1,h2⟩:=Option.bind_eq_some_iff.1 e
  obtain⟨q,h3,h4⟩:=Option.map_eq_some_iff.1 h2
  simp only[Prod.mk.injEq] at h4
  have h5:=hf l p.1 p.2 h1
  have ih:=zq hf h n p.2 q.1 q.2 h3 (by omega)
  rw[←h4.1]
  intro x hx
  rcases List.mem_cons.1 hx with rfl|hx
  ·exact h l _ p.2 h1 hl
  ·exact ih x hx
theorem rZ {α:Type} {f:List UInt8→Option (α×List UInt8)} {P:α→Prop} {K:Nat} (hf:Le f) (h:∀l a t,f l=some (a,t)→l.length≤K→P a) {l t:List UInt8} {xs:List α} (e:dq f l=some (xs,t)) (hl:l.length≤K):∀x∈xs,P x:=by
 unfold dq at e
 obtain⟨p,h1,h2⟩:=Option.bind_eq_some_iff.1 e
 have:=lS l p.1 p.2 h1
 exact zq hf h _ _ _ _ h2 (by omega)
theorem qw {l t:List UInt8} {q:ft} (h:jp l=some (q,t)) (hl:l.length≤4294967296):sQ q:=by
 have h1:=(vD h).1
 have h2:=jT q
 have h3:=congrArg List.length h1
 rw[List.length_append] at h3
 exact⟨by omega,by omega⟩
theorem DH {l t:List UInt8} {m:cg} (h:rR l=some (m,t)) (hl:l.length≤4294967296):sQ m.co:=by
 unfold rR at h
 obtain⟨p1,h1,h⟩:=Option.bind_eq_some_iff.1 h
 obtain⟨p2,h2,h⟩:=Option.bind_eq_some_iff.1 h
 obtain⟨p3,h3,h⟩:=Option.bind_eq_some_iff.1 h
 obtain⟨p4,h4,h⟩:=Option.bind_eq_some_iff.1 h
 obtain⟨p5,h5,h⟩:=Option.bind_eq_some_iff.1 h
 simp only[Option.some.injEq,Prod.mk.injEq] at h
 obtain⟨rfl,rfl⟩:=h
 have a1:=eZ _ _ _ h1;have a2:=eZ _ _ _ h2;have a3:=eZ _ _ _ h3;have a4:=eZ _ _ _ h4
 exact qw (q:=p5.1) (t:=p5.2) h5 (by omega)
theorem zr {l t:List UInt8} {xs:List cg} (h:BV l=some (xs,t)) (hl:l.length≤4294967296):sP xs:=rZ Aj.le (fun _ _ _ h hl=>DH h hl) h hl
theorem DI {l t:List UInt8} {m:dN} (h:nN l=some (m,t)) (hl:l.length≤4294967296):sL m:=by
 unfold nN at h
 obtain⟨p1,h1,h⟩:=Option.bind_eq_some_iff.1 h
 obtain⟨p2,h2,h⟩:=Option.bind_eq_some_iff.1 h
 obtain⟨p3,h3,h⟩:=Option.bind_eq_some_iff.1 h
 obtain⟨p4,h4,h⟩:=Option.bind_eq_some_iff.1 h
 simp only[Option.some.injEq,Prod.mk.injEq] at h
 obtain⟨rfl,rfl⟩:=h
 have a1:=eZ _ _ _ h1;have a2:=rS 1 _ _ _ h2;have a3:=ue _ _ _ h3
 exact⟨qw (q:=p3.1) (t:=p3.2) h3 (by omega),zr (xs:=p4.1) (t:=p4.2) h4 (by omega)⟩
theorem si:∀(k:Nat) (l t:List UInt8) (n:aY),qQ k l=some (n,t)→l.length≤4294967296→sN n
 |0,_,_,_,h,_=>by cases h
 |k+1,l,t,n,h,hl=>by
  simp only[qQ] at h
  obtain⟨p1,h1,h⟩:=Option.bind_eq_some_iff.1 h
  obtain⟨p2,h2,h⟩:=Option.bind_eq_some_iff.1 h
  have a1:=rS 2 _ _ _ h1;have a2:=tq _ _ _ h2
  have s2:=rZ Ak.le (fun _ _ _ h hl=>DI h hl) (xs:=p2.1) (t:=p2.2) h2 (by omega)
  split at h
  ·obtain⟨p3,h3,h⟩:=Option.bind_eq_some_iff.1 h
   simp only[Option.some.injEq,Prod.mk.injEq] at h
   obtain⟨rfl,rfl⟩:=h
   refine(xK _).2 ⟨s2,⟨?_,?_⟩,zr (xs:=p3.1) (t:=p3.2) h3 (by omega),fun _ h=>?_⟩
   ·show([]:List UInt32).length≤_;simp
   ·show([]:List UInt32).length≤_;simp
   ·simp[aY.kids] at h
  ·obtain⟨p3,h3,h⟩:=Option.bind_eq_some_iff.1 h
   obtain⟨p4,h4,h⟩:=Option.bind_eq_some_iff.1 h
   obtain⟨p5,h5,h⟩:=Option.bind_eq_some_iff.1 h
   simp only[Option.some.injEq,Prod.mk.injEq] at h
   obtain⟨rfl,rfl⟩:=h
   have a3:=nO _ _ _ h3;have a4:=qq _ _ _ _ h4
   have s4:=si k _ p4.2 p4.1 h4 (by omega)
   have s5:=si k _ p5.2 p5.1 h5 (by omega)
   have sd:sQ p3.1.at_:=by
    unfold oB at h3
    obtain⟨q1,i1,h3⟩:=Option.bind_eq_some_iff.1 h3
    obtain⟨q2,i2,h3⟩:=Option.bind_eq_some_iff.1 h3
    obtain⟨q3,i3,h3⟩:=Option.bind_eq_some_iff.1 h3
    have b1:=eZ _ _ _ i1;have b2:=eZ _ _ _ i2
    simp only[Option.some.injEq] at h3
    rw[←h3]
    exact qw (q:=q3.1) (t:=q3.2) i3 (by omega)
   refine(xK _).2 ⟨s2,sd,fun _ h=>by simp[aY.pf] at h,fun c hc=>?_⟩
   simp only[aY.kids,List.mem_cons,List.not_mem_nil,or_false] at hc
   rcases hc with rfl|rfl
   ·exact s4
   ·exact s5
end Go.Rl
namespace Go.Rl
open Go.RowKit
def lz:List UInt8:=[82,76,85,74]
def Cq (b:List UInt8):List UInt8:=b++(j3 b).take 8
def eV (b:List UInt8) (k:Nat):Bool:=decide (k+8≤b.length)&&decide (Cq (b.take k)=b.take (k+8))
def cp (d:List UInt8):List UInt8:=Cq (lz++d)
def jD (b p:List UInt8):List UInt8:=Cq (b++gY p)
def gA (b:List UInt8) (k:Nat):Option (bZ×Nat):=(oA (b.drop k)).bind fun p=>if eV b (b.length-p.2.length)=true then(jC p.1).map fun x=>(x,b.length-p.2.length+8) else none
def qZ (b:List UInt8):Nat→Nat→List bZ×Nat
 |0,k=>([],k)
 |f+1,k=>match gA b k with
  |some (x,k')=>(x::(qZ b f k').1,(qZ b f k').2)
  |none=>([],k)
def fQ (b:List UInt8) (k:Nat):List bZ×Nat:=qZ b (b.length-k) k
def iL (b:List UInt8):(List UInt8×List bZ×Nat)×Int:=if b.length<44∨b.take 4≠lz∨eV b 36=false then((oC,[],0),5) else(((b.take 36).drop 4,fQ b 44),0)
section
variable {b:List UInt8} {k k' f:Nat} {x:bZ}
theorem Fa {l a t:List UInt8} (h:oA l=some (a,t)):t.length+1≤l.length:=by
 have:=EI h
 have h2:=ro a.length
 rw[this]
 unfold gY
 simp only[List.length_append]
 omega
theorem qx (h:gA b k=some (x,k')):∃p t,oA (b.drop k)=some (p,t)∧eV b (b.length-t.length)=true∧jC p=some x∧k'=b.length-t.length+8∧k+9≤k'∧k'≤b.length:=by
 unfold gA at h
 obtain⟨p,h1,h2⟩:=Option.bind_eq_some_iff.1 h
 split at h2
 ·rename_i hc
  obtain⟨y,h3,h4⟩:=Option.map_eq_some_iff.1 h2
  simp only[Prod.mk.injEq] at h4
  obtain⟨rfl,rfl⟩:=h4
  have h5:=Fa (a:=p.1) (t:=p.2) h1
  rw[List.length_drop] at h5
  have hc':=hc
  simp only[eV,Bool.and_eq_true,decide_eq_true_eq] at hc'
  exact⟨p.1,p.2,h1,hc,h3,rfl,by omega,by omega⟩
 ·cases h2
theorem uC (h:b.length≤k):gA b k=none:=by
 unfold gA
 rw[List.drop_eq_nil_of_le h]
 rfl
theorem lA:∀(f k:Nat),b.length-k≤f→qZ b f k=fQ b k
 |0,k,h=>by
  unfold fQ
  rw[show b.length-k=0 by omega]
 |f+1,k,h=>by
  unfold fQ
  rcases Nat.lt_or_ge k b.length with hk|hk
  ·obtain⟨m,hm⟩:∃m,b.length-k=m+1:=⟨b.length-k-1,by omega⟩
   rw[hm]
   simp only[qZ]
   cases hs:gA b k with
   |none=>rfl
   |some p=>
    obtain⟨x,k'⟩:=p
    obtain⟨_,_,_,_,_,_,h9,_⟩:=qx hs
    simp only[]
    rw[lA f k' (by omega),lA m k' (by omega)]
  ·rw[show b.length-k=0 by omega]
   simp only[qZ,uC hk]
theorem sj (h:gA b k=some (x,k')):fQ b k=(x::(fQ b k').1,(fQ b k').2):=by
 obtain⟨_,_,_,_,_,_,h9,h10⟩:=qx h
 have:fQ b k=qZ b (b.length-k-1+1) k:=(lA _ _ (by omega)).symm
 rw[this]
 simp only[qZ,h]
 rw[lA _ _ (by omega)]
theorem sm (h:gA b k=none):fQ b k=([],k):=by
 have:fQ b k=qZ b (b.length-k+1) k:=(lA _ _ (by omega)).symm
 rw[this]
 simp only[qZ,h]
end
theorem AM (b:List UInt8):(Cq b).length=b.length+8:=by
 unfold Cq
 rw[List.length_append,List.length_take,dJ]
 omega
theorem zs (a s:List UInt8):eV (Cq a++s) a.length=true:=by
 have h:=AM a
 unfold eV
 rw[Bool.and_eq_true]
 refine⟨decide_eq_true (by rw[List.length_append];omega),decide_eq_true ?_⟩
 have e1:(Cq a++s).take a.length=a:=by
  unfold Cq
  rw[List.append_assoc]
  exact List.take_left' rfl
 have e2:(Cq a++s).take (a.length+8)=Cq a:=List.take_left' h
 rw[e1,e2]
theorem tB (b p:List UInt8):(jD b p).length=b.length+(gY p).length+8:=by unfold jD;rw[AM,List.length_append]
theorem xV (b p:List UInt8):jD b p=b++(gY p++(j3 (b++gY p)).take 8):=by
 unfold jD Cq
 rw[List.append_assoc]
theorem DJ {b p:List UInt8} (rest:List UInt8) (hp:p.length<18446744073709551616):gA (jD b p++rest) b.length=(jC p).map fun x=>(x,(jD b p).length):=by
 have hc:((j3 (b++gY p)).take 8).length=8:=by rw[List.length_take,dJ];rfl
 have hd:(jD b p++rest).drop b.length=gY p++((j3 (b++gY p)).take 8++rest):=by
  rw[xV,List.append_assoc,List.append_assoc]
  exact List.drop_left' rfl
 have hl:=tB b p
 unfold gA
 rw[hd,wI hp]
 simp only[Option.bind_some]
 have e:(jD b p++rest).length-((j3 (b++gY p)).take 8++rest).length=(b++gY p).length:=by
  rw[List.length_append,List.length_append,List.length_append,hl,hc];omega
 rw[e,if_pos (show eV (jD b p++rest) (b++gY p).length=true from zs _ _)]
 congr 1
 funext x
 rw[hl,List.length_append]
def vn (b:List UInt8) (ps:List (List UInt8)):List UInt8:=ps.foldl jD b
theorem nZ:∀(ps:List (List UInt8)) (b:List UInt8),∃s,vn b ps=b++s
 |[],b=>⟨[],by simp[vn]⟩
 |p::ps,b=>by
  obtain⟨s,h⟩:=nZ ps (jD b p)
  exact⟨gY p++(j3 (b++gY p)).take 8++s,by
   show vn (jD b p) ps=_
   rw[h,xV]
   simp only[List.append_assoc]⟩
theorem Cr (b:List UInt8) (ps:List (List UInt8)) (p:List UInt8):vn b (ps++[p])=jD (vn b ps) p:=by unfold vn;rw[List.foldl_append];rfl
theorem sq (b:List UInt8) (ps qs:List (List UInt8)):vn b (ps++qs)=vn (vn b ps) qs:=by unfold vn;rw[List.foldl_append]
def fc (b:List UInt8) (es:List bZ):List UInt8:=vn b (es.map cy)
def tC (es:List bZ):Prop:=∀e∈es,jC (cy e)=some e∧(cy e).length<18446744073709551616
theorem xW:∀(es:List bZ) (b rest:List UInt8),tC es→fQ (fc b es++rest) b.length=(es++(fQ (fc b es++rest) (fc b es).length).1,(fQ (fc b es++rest) (fc b es).length).2)
 |[],b,rest,_=>rfl
 |e::es,b,rest,h=>by
  obtain⟨h1,h2⟩:=h e (by simp)
  have e0:fc b (e::es)=fc (jD b (cy e)) es:=rfl
  obtain⟨s,hs⟩:=nZ (es.map cy) (jD b (cy e))
  have e1:fc (jD b (cy e)) es++rest=jD b (cy e)++(s++rest):=by
   show vn _ _++rest=_
   rw[hs,List.append_assoc]
  have hst:gA (fc (jD b (cy e)) es++rest) b.length=some (e,(jD b (cy e)).length):=by
   rw[e1,DJ _ h2,h1];rfl
  rw[e0,sj hst,xW es (jD b (cy e)) rest fun x hx=>h x (by simp[hx])]
  rfl
theorem jk {d:List UInt8} (hd:d.length=32):(cp d).length=44:=by unfold cp;rw[AM,List.length_append,hd];rfl
theorem Gz {d:List UInt8} (s:List UInt8) (hd:d.length=32):iL (cp d++s)=((d,fQ (cp d++s) 44),0):=by
 have h:=jk hd
 have hl:(lz++d).length=36:=by rw[List.length_append,hd];rfl
 have h4:(cp d++s).take 4=lz:=by
  unfold cp Cq
  rw[List.append_assoc,List.append_assoc]
  exact List.take_left' (l₁:=lz) rfl
 have h36:(cp d++s).take 36=lz++d:=by
  unfold cp Cq
  rw[List.append_assoc]
  exact List.take_left' hl
 unfold iL
 rw[if_neg,h36,show(lz++d).drop 4=d from List.drop_left' (l₁:=lz) rfl]
 rintro(h1|h1|h1)
 ·rw[List.length_append] at h1;omega
 ·exact h1 h4
 ·have:=zs (lz++d) s
  rw[hl] at this
  rw[show cp d=Cq (lz++d) from rfl,this] at h1
  cases h1
theorem JQ {d:List UInt8} (es:List bZ) (rest:List UInt8):∃s,fc (cp d) es++rest=cp d++s:=by
 obtain⟨s,hs⟩:=nZ (es.map cy) (cp d)
 exact⟨s++rest,by show vn _ _++rest=_;rw[hs,List.append_assoc]⟩
theorem uD {d:List UInt8} {es:List bZ} (rest:List UInt8) (hd:d.length=32) (hb:tC es):iL (fc (cp d) es++rest)=((d,es++(fQ (fc (cp d) es++rest) (fc (cp d) es).length).1,(fQ (fc (cp d) es++rest) (fc (cp d) es).length).2),0):=by
 obtain⟨s,hs⟩:=JQ (d:=d) es rest
 have h:=Gz (d:=d) s hd
 rw[←hs] at h
 have h2:=xW es (cp d) rest hb
 rw[jk hd] at h2
 rw[h,h2]
theorem DK {d:List UInt8} {es:List bZ} (hd:d.length=32) (hb:tC es):iL (fc (cp d) es)=((d,es,(fc (cp d) es).length),0):=by
 have h:=uD [] hd hb
 rw[List.append_nil] at h
 rw[h,sm (uC (Nat.le_refl _)),List.append_nil]
theorem GA {l a t:List UInt8} (h:oA l=some (a,t)):a.length<18446744073709551616:=by
 unfold oA at h
 obtain⟨p,h1,h2⟩:=Option.bind_eq_some_iff.1 h
 have:=(f9 (n:=p.1) (t:=p.2) h1).2
 split at h2
 ·simp only[Option.some.injEq,Prod.mk.injEq] at h2
  rw[←h2.1,List.length_take];omega
 ·cases h2
theorem IS {s p t:List UInt8} (u:List UInt8) (h:oA s=some (p,t)):oA (s++u)=some (p,t++u):=by
 rw[EI h,List.append_assoc]
 exact wI (GA h) _
theorem GB {b p c s u:List UInt8} (hp:p.length<18446744073709551616) (hc:c.length=8) (h:s++u=gY p++c) (hu:u≠[]):gA (b++s) b.length=none:=by
 unfold gA
 rw[List.drop_left' rfl]
 cases hs:oA s with
 |none=>rfl
 |some q=>
  obtain⟨a,t⟩:=q
  have h1:=IS u hs
  rw[h,wI hp] at h1
  simp only[Option.some.injEq,Prod.mk.injEq] at h1
  have h2:=congrArg List.length h1.2
  rw[List.length_append,hc] at h2
  have h3:1≤u.length:=List.length_pos_iff.2 hu
  have h4:=Fa hs
  simp only[Option.bind_some]
  rw[if_neg]
  intro hh
  simp only[eV,Bool.and_eq_true,decide_eq_true_eq] at hh
  have h5:=hh.1
  rw[List.length_append] at h5
  omega
theorem IT {d:List UInt8} {es:List bZ} {k at_:Nat} (hd:d.length=32) (hb:tC es) (hk:k≤es.length) (h1:(fc (cp d) (es.take k)).length≤at_) (h2:k=es.length∨at_<(fc (cp d) (es.take (k+1))).length) (h3:at_≤(fc (cp d) es).length):
 iL ((fc (cp d) es).take at_)=((d,es.take k,(fc (cp d) (es.take k)).length),0):=by
 have hbk:tC (es.take k):=fun e he=>hb e (List.mem_of_mem_take he)
 have split:fc (cp d) es=vn (fc (cp d) (es.take k)) ((es.drop k).map cy):=by
  show vn _ _=vn (vn _ _) _
  rw[←sq,←List.map_append,List.take_append_drop]
 obtain⟨r,hr⟩:=nZ ((es.drop k).map cy) (fc (cp d) (es.take k))
 have et:(fc (cp d) es).take at_=fc (cp d) (es.take k)++r.take (at_-(fc (cp d) (es.take k)).length):=by
  rw[split,hr,List.take_append,List.take_of_length_le (by omega)]
 have hs:gA (fc (cp d) (es.take k)++r.take (at_-(fc (cp d) (es.take k)).length)) (fc (cp d) (es.take k)).length=none:=by
  rcases Nat.lt_or_ge k es.length with hkl|hkl
  ·have h2':=h2.resolve_left (by omega)
   have e1:es.drop k=es[k]::es.drop (k+1):=List.drop_eq_getElem_cons hkl
   have e2:es.take (k+1)=es.take k++[es[k]]:=List.take_succ_eq_append_getElem hkl
   have e3:fc (cp d) (es.take (k+1))=jD (fc (cp d) (es.take k)) (cy es[k]):=by
    rw[e2]
    show vn _ _=_
    rw[List.map_append,List.map_cons,List.map_nil,Cr]
    rfl
   rw[e3,tB] at h2'
   obtain⟨r2,hr2⟩:=nZ ((es.drop (k+1)).map cy) (jD (fc (cp d) (es.take k)) (cy es[k]))
   have hr':r=gY (cy es[k])++(j3 (fc (cp d) (es.take k)++gY (cy es[k]))).take 8++r2:=by
    have:vn (fc (cp d) (es.take k)) ((es.drop k).map cy)=fc (cp d) (es.take k)++(gY (cy es[k])++(j3 (fc (cp d) (es.take k)++gY (cy es[k]))).take 8++r2):=by
     rw[e1,List.map_cons]
     show vn (jD _ _) _=_
     rw[hr2,xV]
     simp only[List.append_assoc]
    exact List.append_cancel_left (hr.symm.trans this)
   have hc8:((j3 (fc (cp d) (es.take k)++gY (cy es[k]))).take 8).length=8:=by rw[List.length_take,dJ];rfl
   have hm:=hb es[k] (List.getElem_mem _)
   have hlt:at_-(fc (cp d) (es.take k)).length<(gY (cy es[k])++(j3 (fc (cp d) (es.take k)++gY (cy es[k]))).take 8).length:=by
    rw[List.length_append,hc8];omega
   refine GB (u:=(gY (cy es[k])++(j3 (fc (cp d) (es.take k)++gY (cy es[k]))).take 8).drop (at_-(fc (cp d) (es.take k)).length)) hm.2 hc8 ?_ ?_
   ·rw[hr',List.take_append_of_le_length (by omega),List.take_append_drop]
   ·intro h
    have:=congrArg List.length h
    rw[List.length_drop,List.length_nil] at this
    omega
  ·have hke:k=es.length:=by omega
   subst hke
   rw[List.take_length] at h1⊢
   rw[show at_-(fc (cp d) es).length=0 by omega,List.take_zero,List.append_nil]
   exact uC (Nat.le_refl _)
 rw[et,uD _ hd hbk,sm hs,List.append_nil]
theorem vh {d:List UInt8} {es:List bZ} {k at_:Nat} {x:UInt8} (hd:d.length=32) (hb:tC es) (h1:(fc (cp d) (es.take k)).length≤at_):
 ∃more n,iL ((fc (cp d) es).set at_ x)=((d,es.take k++more,n),0):=by
 have hbk:tC (es.take k):=fun e he=>hb e (List.mem_of_mem_take he)
 have split:fc (cp d) es=vn (fc (cp d) (es.take k)) ((es.drop k).map cy):=by
  show vn _ _=vn (vn _ _) _
  rw[←sq,←List.map_append,List.take_append_drop]
 obtain⟨r,hr⟩:=nZ ((es.drop k).map cy) (fc (cp d) (es.take k))
 have et:(fc (cp d) es).set at_ x=fc (cp d) (es.take k)++r.set (at_-(fc (cp d) (es.take k)).length) x:=by
  rw[split,hr,List.set_append_right _ _ h1]
 rw[et]
 exact⟨_,_,uD _ hd hbk⟩
theorem DL {b:List UInt8} (h:b.length<44):iL b=((oC,[],0),5):=by unfold iL;rw[if_pos (.inl h)]
end Go.Rl
namespace Go.Rl
open Go.RowKit Go.Proofs
def i7 (e:bZ):Dt:=.st [.sl (e.path.map dC),bG e.leaf]
section
variable {w:World} {cs:List Value}
theorem iE {e:bZ} (h:Rp w (i7 e) cs):∃vd vl x y vk vp,cs=[vd,vl,I e.leaf.split.kd,I e.leaf.split.ix,B e.leaf.split.at_.1,x,y,vk,B e.leaf.empty,vp]∧cC dC e.path vd w∧cC dc e.leaf.lems vl w∧bm e.leaf.split.at_.2.1 x w∧bm e.leaf.split.at_.2.2 y w∧cC bG e.leaf.kids vk w∧cC bP e.leaf.pf vp w:=by
 simp only[i7,bw,Rp.eq_5] at h
 obtain⟨_,_,rfl,h1,_,_,rfl,h2,rfl⟩:=h
 obtain⟨vd,rfl,hd,_⟩:=Rp.isSlice h1
 obtain⟨vl,x,y,vk,vp,rfl,a1,a2,a3,a4,a5⟩:=d9 h2
 exact⟨vd,vl,x,y,vk,vp,rfl,hd,a1,a2,a3,a4,a5⟩
theorem cw (e:bZ):(i7 e).size=10:=by simp[i7,Dt.size,Dt.sizeAll,cG]
theorem AN {g:Nat}:(Instr.sliceAt 24 (.pointer (some ⟨g,0,none⟩)) none (some (I 8)) none).run Tryz.prog w=.ok (.slice (some ⟨g,0,none⟩) 8 32) w:=by
 have a1:=run_sliceBound (P:=Tryz.prog) (w:=w) .i64 (8:Int) 32 .sliceAlen (by omega) (by omega)
 have h8:(8:Int).toNat=8:=rfl
 rw[h8] at a1
 simp[Instr.sliceAt,run_underlying Tryz.underlying24,Instr.sureAddr,Instr.sliceBounds,fh fo,Addr.add_mid,I,a1]
theorem cJ.front {l:List UInt8} {g n c k:Nat} (h:cJ l (.slice (some ⟨g,0,none⟩) n c) w) (hk:k≤n) (h0:0<k):cJ (l.take k) (.slice (some ⟨g,0,none⟩) k c) w:=by
 obtain⟨A,n',c',he,h1,h2,h3,h4,h5⟩:=h
 cases he
 refine⟨_,_,_,rfl,Nat.le_trans hk h1,h2,by simp only[List.length_map,List.length_take] at h3⊢;omega,fun _=>?_,fun h=>by cases h⟩
 obtain⟨ad,e,hc⟩:=h4 (by omega)
 cases e
 exact⟨_,rfl,by rw[List.map_take];exact hc.take k⟩
end
section
variable {P:Program} {ops:Array Oper} {Q:ja} {N:Nat} {D:List Deferred} {S:World→Prop} {fuel:Nat} {listed:Array Bool} {l:Fr} {w:World} {d:Nat} {ty:TypeId} {pos:String} {aft:Array Edge}
theorem Fb (i:Nat) {t:TypeId} {x:Operand} {lo hi mx:Option Operand} {u r:Value} {a b c:Option Value} (hi':ops[i]? =some ⟨some d,.slice t x lo hi mx,ty,pos,aft,none⟩) (hx:ev l x=some u) (hlo:Jd l lo=some a) (hhi:Jd l hi=some b) (hmx:Jd l mx=some c)
 (hB:nE ops listed i=true) (hd:Nat.blt d N=true) (hS:S w) (hrun:∀w',S w'→(Instr.sliceAt t u a b c).run P w'=.ok r w')
 (k:dA P ops Q N D S fuel (listed.setIfInBounds i true) ((d,r)::l) w):dA P ops Q N D S (fuel+1) listed l w:=
 yJ i hi' hB hd hS (fun ρ w' hρ hw'=>by
  have:execOp ρ ⟨some d,.slice t x lo hi mx,ty,pos,aft,none⟩=(do pure (Next.value (←Instr.sliceAt t (ρ x) (lo.map ρ) (hi.map ρ) (mx.map ρ))):Sem Next):=rfl
  rw[this,hρ x _ hx,tO hρ hlo,tO hρ hhi,tO hρ hmx,Sem.run_bind,hrun w' hw'];rfl) k
end
end Go.Rl
namespace Go.Rl
open Go.RowKit Go.Proofs
theorem tD:aG Tryz.prog 60:=⟨_,Tryz.func60,by kernel_rfl,rfl⟩
theorem pD:aG Tryz.prog 53:=⟨_,Tryz.func53,by kernel_rfl,rfl⟩
theorem DM:aG Tryz.prog 19:=⟨_,Tryz.func19,by kernel_rfl,rfl⟩
theorem AO:aG Tryz.prog 23:=⟨_,Tryz.func23,by kernel_rfl,rfl⟩
theorem DN:aG Tryz.prog 18:=⟨_,Tryz.func18,by kernel_rfl,rfl⟩
theorem tE {w:World} {l m:List UInt8} {v x:Value} (hv:cJ l v w) (hx:cJ m x w) (hl:l.length+m.length≤35184372088832):
 Calls Tryz.prog 60 #[v,x] w (bE fun r w'=>aK w w'∧c6 w.heap.size (l++gY m) r w'):=by
 refine enter (vs:=[v,x]) Tryz.func60 E E E ?_
 have hun:(UInt64.ofNat m.length).toNat=m.length:=by rw[UInt64.toNat_ofNat'];omega
 have huv:=f8 (n:=m.length) (by omega)
 refine af (aa (ae E E (ag (ab (af (aa (ac E E (ac E E (aO E E (cT hx) (a9 E E (fv Mx MA) ?_))))))))))
 refine am dW E E ((dX (n:=UInt64.ofNat m.length) hv (by omega))) ?_
 rintro v9 w9 ⟨x9,o9⟩
 refine ac E E ?_
 rw[hun] at o9
 obtain⟨v11,w11,hr11,o11,g11⟩:=dn (ty:=22) o9 (hx.ext x9) (by simp only[List.length_append];omega) (x9).size
 have x11:=aK.of_grew (x9) g11 o9.ge
 refine ba E E hr11 ?_
 refine ae E E (ag (ab (aw (az E E ?_))))
 exact⟨_,rfl,x11,by have h:c6 w.heap.size (l++uv m.length++m) v11 w11:=o11;simpa only[gY,List.append_assoc] using h⟩
theorem pE {w:World} {b:List UInt8} {v:Value} (hb:cJ b v w) (hl:b.length≤1099511627776):
 Calls Tryz.prog 53 #[v] w (bE fun r w'=>aK w w'∧c6 w.heap.size (Cq b) r w'):=by
 refine enter (vs:=[v]) Tryz.func53 E E E ?_
 refine af (aa (ae E E (ag (ab (af (aa (ac E E (am Gj E E ((Gk hb (by omega))) ?_))))))))
 rintro v5 w5 ⟨x5,rfl⟩
 obtain⟨g3,w3,hr3,l3,x3,k3⟩:=aX (P:=Tryz.prog) (w:=w5) (t:=24) (l:=(List.replicate 32 0).map U8) ip rfl
 refine aT E hr3 ?_
 obtain⟨w6,s6,q6,k6⟩:=k3.stS (P:=Tryz.prog) (t:=24) (m:=(j3 b).map U8) (by simp[dJ]) (by rw[List.length_map,dJ];exact jj) (ep _)
 refine au E E s6 ?_
 have x6:=x3.of_new q6 l3
 have b32:cJ (j3 b) (.slice (some ⟨g3,0,none⟩) 32 32) w6:=by
  have:=k6.bts (by rw[dJ];omega)
  rwa [dJ] at this
 refine ag (ab (af ?_))
 have hd:aK w6 w6.drew:=(aK.refl w6).drew
 have b8:=b32.front (k:=8) (by omega) (by omega)
 have d8:((j3 b).take 8).length=8:=by rw[List.length_take,dJ];omega
 refine ig (aK w6) 6 E (by kernel_rfl) ?_
 refine fD 1 E E (by kernel_rfl) E hd ?_
 refine Fb 3 E E E E E (by kernel_rfl) E hd (fun w' _=>AN) ?_
 refine aQ 0 (by kernel_rfl) E ?_
 obtain⟨v7,w7,hr7,x7,o7,_⟩:=eh (w:=w6.drew) w6.heap.size [] (by simp) hd.size
 have e7:=hd.trans x7
 refine aJ (vs:=[]) E E hr7 (aH e7 (aQ 2 (by kernel_rfl) E ?_))
 obtain⟨v8,w8,hr8,o8,g8⟩:=dn (ty:=22) o7 (hb.ext ((x5.trans x6).trans e7)) (by simp;omega) e7.size
 have x8:=aK.of_grew e7 g8 o7.ge
 refine ba E E hr8 (aH x8 (aQ 4 (by kernel_rfl) E ?_))
 obtain⟨v10,w10,hr10,o10,g10⟩:=dn (ty:=22) o8 (b8.ext x8) (by simp[d8];omega) x8.size
 have x10:=aK.of_grew x8 g10 o8.ge
 refine ba E E hr10 (aH x10 (aQ 5 (by kernel_rfl) E ?_))
 refine ae E E (aH x10 (ii (by kernel_rfl) ?_))
 refine ab (aw (az E E ?_))
 exact⟨_,rfl,((x5.trans x6).trans x10),by have h:c6 w6.heap.size ([]++b++(j3 b).take 8) v10 w10:=o10;exact h.low (x5.trans x6).size⟩
theorem AP {w:World} {b p:List UInt8} {v x:Value} (hb:cJ b v w) (hp:cJ p x w) (hl:b.length+p.length≤549755813888):
 Calls Tryz.prog 23 #[v,x] w (bE fun r w'=>aK w w'∧c6 w.heap.size (jD b p) r w'):=by
 refine enter (vs:=[v,x]) Tryz.func23 E E E ?_
 refine af (aa (ae E E (ag (ab (af (aa (ac E E (ac E E (am tD E E ((tE hb hp (by omega))) ?_)))))))))
 rintro v7 w7 ⟨x7,o7⟩
 have huv:=f8 (n:=p.length) (by omega)
 refine am pD E E ((pE o7.bts (by simp only[gY,List.length_append];omega))) ?_
 rintro v8 w8 ⟨x8,o8⟩
 refine ae E E (ag (ab (aw (az E E ?_))))
 exact⟨_,rfl,(x7.trans x8),o8.low x7.size⟩
theorem DO {w:World} {d:List UInt8} (hd:d.length=32):
 Calls Tryz.prog 19 #[.agg (d.map U8).toArray] w (bE fun r w'=>aK w w'∧c6 w.heap.size (cp d) r w'):=by
 refine enter (vs:=[.agg (d.map U8).toArray]) Tryz.func19 E E E ?_
 refine af (aa ?_)
 obtain⟨g2,w2,hr2,l2,x2,k2⟩:=cK (P:=Tryz.prog) (w:=w) (T:=24) (cs:=d.map U8)
 refine cM E E hr2 ?_
 refine ae E E (ag (ab (af (aa ?_))))
 obtain⟨v7,w7a,w7,hr7,hc7,x7,b7,ad,hv7,had,hlt⟩:=HF (w:=w2) (t:=22) Tryz.underlying22 [82,76,85,74] (by simp) (by simp)
 refine aJ (vs:=[(0,U8 82),(1,U8 76),(2,U8 85),(3,U8 74)]) E E hr7 ?_
 refine a9 E E hc7 ?_
 have e7:=x2.trans x7
 have bd:cJ d (.slice (some ⟨g2,0,none⟩) 32 32) w7:=by
  have:=(k2.ext x7).bts (by rw[hd];omega)
  rwa [hd] at this
 obtain⟨v10,w10,hr10,o10,x10⟩:=CQ (ty:=22) e7 (.inr ⟨b7,ad,hv7⟩) bd (by omega) (by simp[hd])
 refine cx E E E E E (Iw) ?_
 refine ba E E hr10 ?_
 have b10:cJ (lz++d) v10 w10:=o10.bts
 refine am pD E E ((pE b10 (by simp only[List.length_append,hd,lz,List.length_cons,List.length_nil];omega))) ?_
 rintro v7 w7' ⟨x7',o11⟩
 refine ae E E (ag (ab (aw (az E E ?_))))
 exact⟨_,rfl,(x10.trans x7'),o11.low x10.size⟩
theorem DP {w:World} {d:List UInt8} (hd:d.length=32):
 Calls Tryz.prog 18 #[.agg (d.map U8).toArray] w (bE fun r w'=>aK w w'∧c6 w.heap.size (cp d) r w'):=by
 refine enter (vs:=[.agg (d.map U8).toArray]) Tryz.func18 E E E ?_
 refine af (aa ?_)
 obtain⟨g2,w2,hr2,l2,x2,k2⟩:=cK (P:=Tryz.prog) (w:=w) (T:=24) (cs:=d.map U8)
 refine cM E E hr2 ?_
 refine ae E E (ag (ab (af (aa ?_))))
 obtain⟨v7,w7a,w7,hr7,hc7,x7,b7,ad,hv7,had,hlt⟩:=HF (w:=w2) (t:=22) Tryz.underlying22 [82,76,85,74] (by simp) (by simp)
 refine aJ (vs:=[(0,U8 82),(1,U8 76),(2,U8 85),(3,U8 74)]) E E hr7 ?_
 refine a9 E E hc7 ?_
 have e7:=x2.trans x7
 have bd:cJ d (.slice (some ⟨g2,0,none⟩) 32 32) w7:=by
  have:=(k2.ext x7).bts (by rw[hd];omega)
  rwa [hd] at this
 obtain⟨v8,w8,hr8,o8,x8⟩:=CQ (ty:=22) e7 (.inr ⟨b7,ad,hv7⟩) bd (by omega) (by simp[hd])
 refine cx E E E E E (Iw) ?_
 refine ba E E hr8 ?_
 refine ae E E (ag (ab (af (aa (ac E E ?_)))))
 have b8:cJ (lz++d) v8 w8:=o8.bts
 have hl8:(lz++d).length=36:=by simp only[List.length_append,hd,show lz.length=4 from rfl]
 refine am Gq E E ((Gr b8)) ?_
 rintro v10 w10 ⟨x10,rfl⟩
 obtain⟨g6,w6,hr6,l6,x6,k6⟩:=aX (P:=Tryz.prog) (w:=w10) (t:=24) (l:=(List.replicate 32 0).map U8) ip rfl
 refine aT E hr6 ?_
 obtain⟨w11,s11,q11,k11⟩:=k6.stS (P:=Tryz.prog) (t:=24) (m:=(j3 (lz++d)).map U8) (by simp[dJ]) (by rw[List.length_map,dJ];exact jj) (ep _)
 refine au E E s11 ?_
 have x11:=x6.of_new q11 l6
 have b32:cJ (j3 (lz++d)) (.slice (some ⟨g6,0,none⟩) 32 32) w11:=by
  have:=k11.bts (by rw[dJ];omega)
  rwa [dJ] at this
 have b12:=b32.front (k:=8) (by omega) (by omega)
 have d8:((j3 (lz++d)).take 8).length=8:=by rw[List.length_take,dJ];omega
 refine ag (ab (af (aa (ac E E (cx E E E E E (AN) ?_)))))
 have o8':c6 w.heap.size (lz++d) v8 w11:=o8.ext ((x10.trans x11))
 obtain⟨v13,w13,hr13,o13,g13⟩:=dn (ty:=22) o8' b12 (by rw[hl8,d8];omega) (((x8.trans x10).trans x11)).size
 have x13:=aK.of_grew (((x8.trans x10).trans x11)) g13 o8'.ge
 refine ba E E hr13 ?_
 refine ae E E (ag (ab (aw (az E E ?_))))
 exact⟨_,rfl,x13,o13⟩
end Go.Rl
namespace Go.Rl
open Go.RowKit Go.Proofs
theorem GC:aG Tryz.prog 24:=⟨_,Tryz.func24,by kernel_rfl,rfl⟩
theorem GD:aG Tryz.prog 57:=⟨_,Tryz.func57,by kernel_rfl,rfl⟩
theorem jc.off {w w':World} {v r:Value} {g:Nat} (h:jc w w' v r) (hn:some g≠v.ownBlock) (hg:g<w.heap.size):some g≠r.ownBlock:=fun e=>by
 rcases h.own with h1|h1
 ·exact hn (e.trans h1)
 ·have:=h1 _ e.symm;omega
theorem GE {w:World} {u:bZ} {vd vl x y vk vp:Value} (hd:cC dC u.path vd w) (hl:cC dc u.leaf.lems vl w) (hx:bm u.leaf.split.at_.2.1 x w) (hy:bm u.leaf.split.at_.2.2 y w) (hk:cC bG u.leaf.kids vk w) (hp:cC bP u.leaf.pf vp w)
 (hw:A6 u) (hlen:(cy u).length≤4398046511104):
 Calls Tryz.prog 24 #[.agg #[vd,vl,I u.leaf.split.kd,I u.leaf.split.ix,B u.leaf.split.at_.1,x,y,vk,B u.leaf.empty,vp]] w (bE fun r w'=>aK w w'∧cJ (cy u) r w'):=by
 refine enter (vs:=[.agg #[vd,vl,I u.leaf.split.kd,I u.leaf.split.ix,B u.leaf.split.at_.1,x,y,vk,B u.leaf.empty,vp]]) Tryz.func24 E E E ?_
 have hpl:=hd.len
 have hun:(UInt64.ofNat u.path.length).toNat=u.path.length:=by rw[UInt64.toNat_ofNat'];omega
 have hen:(cy u).length=(uv u.path.length).length+(u.path.flatMap fS).length+(dH u.leaf).length:=by simp only[cy,List.length_append]
 refine af (aa ?_)
 obtain⟨g1,w1,hr1,l1,x1,k1⟩:=cK (P:=Tryz.prog) (w:=w) (T:=54) (cs:=[vd,vl,I u.leaf.split.kd,I u.leaf.split.ix,B u.leaf.split.at_.1,x,y,vk,B u.leaf.empty,vp])
 refine cM E E hr1 (ae E E (ag (ab (af (aa (ah E E (ar (o:=0) Mz E (by kernel_rfl) E) ?_))))))
 refine ak E E (aj ME E (k1.cell (i:=0) E)) (aO E E (a6 ME (hd.ext x1)) ?_)
 refine a9 E E (fv Tryz.underlying3 Tryz.underlying107) (am dW E E ((dX (l:=[]) (n:=UInt64.ofNat u.path.length) (cJ.nil _) (by simp))) ?_)
 rintro v9 w9 ⟨x9,o9⟩
 rw[hun,List.nil_append] at o9
 have b9:=o9.bts
 refine ae E E (ag (ab (af (af (aa (ae E E (ag (ab (aE ?_)))))))))
 refine fw (fun(i:Nat) (v3:Value)=>[(1,.pointer (some ⟨g1,0,none⟩)),(3,v3),(4,I (i:Int))]) (fun(i:Nat) (v3:Value) w'=>aK w w'∧aK w1 w'∧i≤u.path.length∧cJ (uv u.path.length++(u.path.take i).flatMap fS) v3 w') (fun(i:Nat) (v3:Value)=>u.path.length-i) (0) (v9) ⟨rfl,rfl,rfl,trivial⟩ ⟨(x1.trans x9),x9,by omega,by simpa using b9⟩ ?_
 rintro i v3 wL ⟨eL,e1L,hi,bL⟩
 refine af (af (aa (ac E E (ah E E (ar (o:=0) Mz E (by kernel_rfl) E) (ak E E (aj ME E (e1L.cell_some (k1.cell (i:=0) E))) ?_)))))
 refine aO E E (a6 ME (hd.ext eL)) (al E E E (aV) (ag (ab ?_)))
 refine bz E (fun h14=>?_) (fun h14=>?_)
 ·refine aC (ab (af (aE (aa (ac E E (ah E E (ar (o:=0) Mz E (by kernel_rfl) E) (ak E E (aj ME E (e1L.cell_some (k1.cell (i:=0) E))) ?_)))))))
  refine ac E E ?_
  obtain⟨a21,c21,p21,q21,h21⟩:=cd (P:=Tryz.prog) (sz:=5) ME (by kernel_rfl) ck (by omega) (hd.ext eL) (i:=i) (by omega) .i64
  obtain⟨e21,he21⟩:∃e,e=u.path[i]'(by omega):=⟨_,rfl⟩
  rw[←he21] at h21
  obtain⟨x21_0,x21_1,rfl,f21_0,f21_1⟩:=gK h21
  refine aq E E E (p21 _) (ak E E (q21.ld My E (by kernel_rfl)) (am xH E E ((xL bL f21_0 f21_1 (hw.1 e21 (by rw[he21];exact List.getElem_mem _)) (by
 have h:=fU (f:=fS) (l:=u.path) (i:=i) (by omega)
 rw[←he21] at h
 simp only[List.length_append] at h⊢;omega))) ?_))
  rintro v23 w23 ⟨x23,b23⟩
  refine ae E E (ag (aS (ab (aa (ac E E (al (r:=I ((i+1:Nat):Int)) E E E (by have e:((i+1:Nat):Int)=(i:Int)+1:=(by omega);rw[e];exact aN (by omega) (by omega)) ?_))))))
  refine ae E E (ag ?_)
  refine dG (i+1) (v23) ⟨rfl,rfl,rfl,trivial⟩ ⟨(eL.trans x23),(e1L.trans x23),by omega,by
   rw[dy (by omega),←he21,←List.append_assoc]
   exact b23⟩ (by omega)
 ·refine bc (aI (aI (be (ab (af (aa (ac E E (ah E E (ar (o:=1) Mz E (by kernel_rfl) E) ?_))))))))
  refine ak rfl rfl ((k1.ext e1L).ldO (ms:=[vl,I u.leaf.split.kd,I u.leaf.split.ix,B u.leaf.split.at_.1,x,y,vk,B u.leaf.empty,vp]) (o:=1) (fun j v hj=>by rcases j with _|_|_|_|_|_|_|_|_|j<;>simp_all) Tryz.underlying52 rfl (by kernel_rfl)) ?_
  refine am xJ E E ((xN _ (Nat.le_refl _) bL (hl.ext eL) (hx.ext eL) (hy.ext eL) (hk.ext eL) (hp.ext eL) hw.2 (by rw[List.take_of_length_le (by omega)];simp only[List.length_append];omega))) ?_
  rintro v27 w27 ⟨x27,b27⟩
  refine ae E E (ag (ab (aw (az E E ?_))))
  exact⟨_,rfl,(eL.trans x27),by
   rw[List.take_of_length_le (by omega)] at b27
   exact b27⟩
theorem GF {w:World} {u:bZ} {vd vl x y vk vp:Value} (hd:cC dC u.path vd w) (hl:cC dc u.leaf.lems vl w) (hx:bm u.leaf.split.at_.2.1 x w) (hy:bm u.leaf.split.at_.2.2 y w) (hk:cC bG u.leaf.kids vk w) (hp:cC bP u.leaf.pf vp w)
 (hw:A6 u) (hlen:(cy u).length≤4398046511104):
 Calls Tryz.prog 57 #[.agg #[vd,vl,I u.leaf.split.kd,I u.leaf.split.ix,B u.leaf.split.at_.1,x,y,vk,B u.leaf.empty,vp]] w (bE fun r w'=>aK w w'∧cJ (cy u) r w'):=by
 refine enter (vs:=[.agg #[vd,vl,I u.leaf.split.kd,I u.leaf.split.ix,B u.leaf.split.at_.1,x,y,vk,B u.leaf.empty,vp]]) Tryz.func57 E E E ?_
 have hpl:=hd.len
 have hun:(UInt64.ofNat u.path.length).toNat=u.path.length:=by rw[UInt64.toNat_ofNat'];omega
 have hen:(cy u).length=(uv u.path.length).length+(u.path.flatMap fS).length+(dH u.leaf).length:=by simp only[cy,List.length_append]
 refine af (aa ?_)
 obtain⟨g1,w1,hr1,l1,x1,k1⟩:=cK (P:=Tryz.prog) (w:=w) (T:=54) (cs:=[vd,vl,I u.leaf.split.kd,I u.leaf.split.ix,B u.leaf.split.at_.1,x,y,vk,B u.leaf.empty,vp])
 refine cM E E hr1 (ae E E (ag (ab (af (aa (ah E E (ar (o:=0) Mz E (by kernel_rfl) E) ?_))))))
 refine ak E E (aj ME E (k1.cell (i:=0) E)) (aO E E (a6 ME (hd.ext x1)) ?_)
 refine a9 E E (fv Tryz.underlying3 Tryz.underlying107) (am om E E ((oo (l:=[]) (n:=UInt64.ofNat u.path.length) (cJ.nil _) (by simp))) ?_)
 rintro v10 w10 ⟨x10,o10⟩
 rw[hun,List.nil_append] at o10
 refine ae E E (ag (ab (af (af (aa (ah E E (ar (o:=0) Mz E (by kernel_rfl) E) (ak E E (aj ME E (x10.cell_some (k1.cell (i:=0) E))) ?_)))))))
 refine aO E E (a6 ME (hd.ext (x1.trans x10))) (ac E E (ag (ab (aE ?_))))
 refine fw (fun(i:Nat) (v3:Value)=>[(1,.pointer (some ⟨g1,0,none⟩)),(3,v3),(12,vd),(13,I (u.path.length:Int)),(14,I (i:Int))]) (fun(i:Nat) (v3:Value) w'=>aK w w'∧aK w1 w'∧i≤u.path.length∧c6 w1.heap.size (uv u.path.length++(u.path.take i).flatMap fS) v3 w') (fun(i:Nat) (v3:Value)=>u.path.length-i) (0) (v10) ⟨rfl,rfl,rfl,rfl,rfl,trivial⟩ ⟨(x1.trans x10),x10,by omega,by simpa using o10⟩ ?_
 rintro i v3 wL ⟨eL,e1L,hi,oL⟩
 refine af (aa (al E E E (aV) (ag (ab (af ?_)))))
 refine bz E (fun h15=>?_) (fun h15=>?_)
 ·refine aC (ab (af (aE (af (aa ?_)))))
  obtain⟨a16,c16,p16,q16,h16⟩:=cd (P:=Tryz.prog) (sz:=5) ME (by kernel_rfl) ck (by omega) hd (i:=i) (by omega) .i64
  obtain⟨e16,he16⟩:∃e,e=u.path[i]'(by omega):=⟨_,rfl⟩
  rw[←he16] at h16
  obtain⟨x16_0,x16_1,rfl,f16_0,f16_1⟩:=gK h16
  refine aq E E E (p16 _) ?_
  have hm:=hw.1 e16 (by rw[he16];exact List.getElem_mem _)
  have hfl:=fU (f:=fS) (l:=u.path) (i:=i) (by omega)
  rw[←he16] at hfl
  have hml:(fS e16).length=(du e16.kd).length+(du e16.ix).length+(gD e16.at_).length:=by simp only[fS,List.length_append]
  have hqa:=jT e16.at_
  refine ak E E ((q16.ext eL).ld My E (by kernel_rfl)) ?_
  obtain⟨g5,w5,hr5,l5,x5,k5⟩:=aX (P:=Tryz.prog) (w:=wL) (t:=48) (z:=.agg #[I 0,I 0,B false,.slice none 0 0,.slice none 0 0]) (l:=[I 0,I 0,B false,.slice none 0 0,.slice none 0 0]) (by kernel_rfl) rfl
  refine aT E hr5 ?_
  obtain⟨w4_3,s4_3,q4_3,k4_3⟩:=k5.stS (P:=Tryz.prog) (t:=48) (m:=[I e16.kd,I e16.ix,B e16.at_.1,x16_0,x16_1]) rfl (by kernel_rfl) (av.cons rfl (av.cons rfl (av.cons rfl (av.cons f16_0.one (av.cons f16_1.one av.nil)))))
  refine au E E s4_3 ?_
  have x4_3:=aK.of_new (x5) q4_3 l5
  refine ag (ab (af (aa (ac E E (ah E E (ar (o:=0) My E (by kernel_rfl) E) (ak E E (aj Mx E (k4_3.cell (i:=0) E)) ?_))))))
  refine am lm E E ((lp (l:=[]) (n:=e16.kd) (cJ.nil _) (by simp) hm.1.1 hm.1.2)) ?_
  rintro v21 w21 ⟨x21,o21⟩
  have b21:cJ (du e16.kd) v21 w21:=o21.bts
  have oL1:=oL.ext ((x4_3.trans x21))
  obtain⟨v22,w22,hr22,o22,g22⟩:=dn (ty:=22) oL1 b21 (by simp only[List.length_append];omega) (((e1L.trans x4_3).trans x21)).size
  have x22:=aK.of_grew (((e1L.trans x4_3).trans x21)) g22 oL1.ge
  have n5:some g5≠v3.ownBlock:=fun h=>by have:=oL.lt _ h.symm;omega
  have k5a:=(k4_3.ext x21).other g22.grown n5
  have n5a:=g22.off n5 (k4_3.ext x21).lt
  refine ba E E hr22 ?_
  refine ae E E (ag (ab (af (aa (ac E E (ah E E (ar (o:=1) My E (by kernel_rfl) E) ?_))))))
  refine ak E E (aj Tryz.underlying3 E (k5a.cell (i:=1) E)) (am lm E E ((lp (l:=[]) (n:=e16.ix) (cJ.nil _) (by simp) hm.2.1 hm.2.2)) ?_)
  rintro v26 w26 ⟨x26,o26⟩
  have b26:cJ (du e16.ix) v26 w26:=o26.bts
  have o22a:=o22.ext x26
  obtain⟨v27,w27,hr27,o27,g27⟩:=dn (ty:=22) o22a b26 (by simp only[List.length_append];omega) ((x22.trans x26)).size
  have x27:=aK.of_grew ((x22.trans x26)) g27 o22a.ge
  have k5b:=(k5a.ext x26).other g27.grown n5a
  have n5b:=g27.off n5a (k5a.ext x26).lt
  refine ba E E hr27 ?_
  refine ae rfl rfl (ag (ab (aa (ac rfl rfl (ah rfl rfl (ar (o:=2) Tryz.underlying48 rfl (by kernel_rfl) rfl) (ak rfl rfl (k5b.ldO (ms:=[B e16.at_.1,x16_0,x16_1]) (o:=2) (fun j v hj=>by rcases j with _|_|_|_|_|_|_|_|_|j<;>simp_all) Tryz.underlying46 rfl (by kernel_rfl)) ?_))))))
  refine am pc E E ((pe (l:=[]) (cJ.nil _) (dm.mk (f16_0.ext (x1.trans x27)) (f16_1.ext (x1.trans x27))) (by simp only[List.length_nil];omega))) ?_
  rintro v31 w31 ⟨x31,o31⟩
  have b31:cJ (gD e16.at_) v31 w31:=o31.bts
  have o27a:=o27.ext x31
  obtain⟨v32,w32,hr32,o32,g32⟩:=dn (ty:=22) o27a b31 (by simp only[List.length_append];omega) ((x27.trans x31)).size
  have x32:=aK.of_grew ((x27.trans x31)) g32 o27a.ge
  refine ba E E hr32 ?_
  refine ae E E (ag (aS (ab (aa (al (r:=I ((i+1:Nat):Int)) E E E (by have e:((i+1:Nat):Int)=(i:Int)+1:=(by omega);rw[e];exact aN (by omega) (by omega)) ?_)))))
  refine ac E E (ag ?_)
  refine dG (i+1) (v32) ⟨rfl,rfl,rfl,rfl,rfl,trivial⟩ ⟨(x1.trans x32),x32,by omega,by
   have h:c6 w1.heap.size (uv u.path.length++(u.path.take i).flatMap fS++du e16.kd++du e16.ix++gD e16.at_) v32 w32:=o32
   rw[dy (by omega),←he16]
   simpa only[fS,List.append_assoc] using h⟩ (by omega)
 ·refine bc (aI (aI (be (ab (af (aa (ac E E (ah E E (ar (o:=1) Mz E (by kernel_rfl) E) ?_))))))))
  refine ak rfl rfl ((k1.ext e1L).ldO (ms:=[vl,I u.leaf.split.kd,I u.leaf.split.ix,B u.leaf.split.at_.1,x,y,vk,B u.leaf.empty,vp]) (o:=1) (fun j v hj=>by rcases j with _|_|_|_|_|_|_|_|_|j<;>simp_all) Tryz.underlying52 rfl (by kernel_rfl)) ?_
  refine am DA E E ((DC oL.bts (hl.ext eL) (hx.ext eL) (hy.ext eL) (hk.ext eL) (hp.ext eL) hw.2 (by rw[List.take_of_length_le (by omega)];simp only[List.length_append];omega))) ?_
  rintro v37 w37 ⟨x37,b37⟩
  refine ae E E (ag (ab (aw (az E E ?_))))
  exact⟨_,rfl,(eL.trans x37),by
   rw[List.take_of_length_le (by omega)] at b37
   exact b37⟩
end Go.Rl
namespace Go.Rl
open Go.RowKit Go.Proofs
theorem zt:aG Tryz.prog 135:=⟨_,Tryz.func135,by kernel_rfl,rfl⟩
theorem DQ:aG Tryz.prog 161:=⟨_,Tryz.func161,by kernel_rfl,rfl⟩
theorem DR:aG Tryz.prog 134:=⟨_,Tryz.func134,by kernel_rfl,rfl⟩
theorem tF:aG Tryz.prog 98:=⟨_,Tryz.func98,by kernel_rfl,rfl⟩
theorem su:aG Tryz.prog 22:=⟨_,Tryz.func22,by kernel_rfl,rfl⟩
theorem oa:aG Tryz.prog 54:=⟨_,Tryz.func54,by kernel_rfl,rfl⟩
theorem zu {w:World} {m:cg} {x y:Value} (hx:bm m.co.2.1 x w) (hy:bm m.co.2.2 y w) (hs:sQ m.co):
 Calls Tryz.prog 135 #[.agg #[I m.kd,I m.ix,I m.lo,I m.hi,B m.co.1,x,y]] w (bE fun r w'=>aK w w'∧r=B (!fP m.co)):=by
 refine enter (vs:=[.agg #[I m.kd,I m.ix,I m.lo,I m.hi,B m.co.1,x,y]]) Tryz.func135 E E E ?_
 refine af (aa ?_)
 obtain⟨g1,w1,hr1,l1,x1,k1⟩:=cK (P:=Tryz.prog) (w:=w) (T:=187) (cs:=[I m.kd,I m.ix,I m.lo,I m.hi,B m.co.1,x,y])
 refine cM E E hr1 (ae E E (ag (ab (af (aa (ah E E (ar (o:=4) MP E (by kernel_rfl) E) ?_))))))
 refine ak rfl rfl (k1.ldO (ms:=[B m.co.1,x,y]) (o:=4) (fun j v hj=>by rcases j with _|_|_|_|_|_|_|_|_|j<;>simp_all) Tryz.underlying46 rfl (by kernel_rfl)) ?_
 refine am fz E E ((iK (q:=m.co) (hx.ext x1) (hy.ext x1) hs)) ?_
 rintro v5 w5 ⟨x5,rfl⟩
 refine bt E E bu (ae E E (ag (ab (aw (az E E ?_)))))
 exact⟨_,rfl,(x1.trans x5),rfl⟩
theorem DS {w:World} {l:List cg} {v:Value} (hv:cC bP l v w) (hs:sP l):
 Calls Tryz.prog 161 #[v,.func (.func 135) #[] #[]] w (bE fun r w'=>aK w w'∧∃k:Int,r=I k∧ -1≤k∧k≤9223372036854775807∧(0≤k↔m0 l=false)):=by
 refine enter (vs:=[v,.func (.func 135) #[] #[]]) Tryz.func161 E E E ?_
 have hll:=hv.len
 refine af (aa (ae E E (ag (ab (af (af (aa (ac E E (aO E E (a6 MH hv) (ac E E (ag (ab ?_))))))))))))
 refine aE ?_
 refine cf (α:=Nat) (fun i=>[(0,v),(1,.func (.func 135) #[] #[]),(7,I (l.length:Int)),(8,I (i:Int))]) (fun i w'=>aK w w'∧i≤l.length∧(l.all fun m=>fP m.co)=((l.drop i).all fun m=>fP m.co)) (fun i=>l.length-i) (0) ⟨rfl,rfl,rfl,rfl,trivial⟩ ⟨aK.refl _,by omega,rfl⟩ ?_
 rintro i wL ⟨eL,hi,hall⟩
 refine af (aa (al E E E (aV) (ag (ab (af ?_)))))
 refine bz E (fun h9=>?_) (fun h9=>?_)
 ·refine aC (ab (af (aE (af (aa (ac E E (ae E E (ag (ab (af ?_))))))))))
  obtain⟨em,hem⟩:∃em,em=l[i]'(by omega):=⟨_,rfl⟩
  have hmem:em∈l:=by rw[hem];exact List.getElem_mem _
  rcases hc:fP em.co
  ·refine aa (ac E E (ac E E (ac E E ?_)))
   obtain⟨a14,c14,p14,q14,h14⟩:=cd (P:=Tryz.prog) (sz:=7) MH (by kernel_rfl) dD (by omega) (hv.ext eL) (i:=i) (by omega) .i64
   rw[←hem] at h14
   obtain⟨x14_0,x14_1,rfl,f14_0,f14_1⟩:=ib h14
   refine aq E E E (p14 _) (ak E E (q14.ld MP E (by kernel_rfl)) (mC E zt E E ((by have h:=zu (m:=em) f14_0 f14_1 (hs em hmem);rw[hc] at h;exact h)) ?_))
   rintro v16 w16 ⟨x16,rfl⟩
   refine ag (ab (bg E (af (aa (ac E E (ae E E (ag (ab (aw (aZ (ay (ay (aZ (ay (az E E ?_)))))))))))))))
   exact⟨_,rfl,(eL.trans x16),i,rfl,by omega,by omega,⟨fun _=>show(l.all fun m=>fP m.co)=false from gQ (p:=fun m:cg=>fP m.co) (l:=l) (i:=i) (by omega) hall (by rw[←hem];exact hc),fun _=>by omega⟩⟩
  ·refine aa (ac E E (ac E E (ac E E ?_)))
   obtain⟨a14,c14,p14,q14,h14⟩:=cd (P:=Tryz.prog) (sz:=7) MH (by kernel_rfl) dD (by omega) (hv.ext eL) (i:=i) (by omega) .i64
   rw[←hem] at h14
   obtain⟨x14_0,x14_1,rfl,f14_0,f14_1⟩:=ib h14
   refine aq E E E (p14 _) (ak E E (q14.ld MP E (by kernel_rfl)) (mC E zt E E ((by have h:=zu (m:=em) f14_0 f14_1 (hs em hmem);rw[hc] at h;exact h)) ?_))
   rintro v16 w16 ⟨x16,rfl⟩
   refine ag (ab (cr E (aC (aS (ab (aa (al (r:=I ((i+1:Nat):Int)) E E E (by have e:((i+1:Nat):Int)=(i:Int)+1:=(by omega);rw[e];exact aN (by omega) (by omega)) ?_)))))))
   refine ac E E (ag ?_)
   refine bR (i+1) ⟨rfl,rfl,rfl,rfl,trivial⟩ ⟨(eL.trans x16),by omega,rW (p:=fun m:cg=>fP m.co) (l:=l) (by omega) hall (by rw[←hem];exact hc)⟩ (by omega)
 ·refine bc (aI (aI (be (ab (af (aa (ae E E (ag (ab (aw (az E E ?_)))))))))))
  exact⟨_,rfl,eL,-1,rfl,by omega,by omega,⟨fun h=>absurd h (by omega),fun h=>by rw[show m0 l=true from nV (p:=fun m:cg=>fP m.co) (l:=l) (by omega) hall] at h;cases h⟩⟩
theorem DT {w:World} {l:List cg} {v:Value} (hv:cC bP l v w) (hs:sP l):
 Calls Tryz.prog 134 #[v,.func (.func 135) #[] #[]] w (bE fun r w'=>aK w w'∧r=B (!m0 l)):=by
 refine enter (vs:=[v,.func (.func 135) #[] #[]]) Tryz.func134 E E E ?_
 refine af (aa (ae E E (ag (ab (af (aa (ac E E (ac E E (am DQ E E ((DS hv hs)) ?_)))))))))
 rintro v7 w7 ⟨x7,k,rfl,k1,k2,kc⟩
 refine al E E E (gx) (ae E E (ag (ab (aw (az E E ?_)))))
 exact⟨_,rfl,x7,by
  congr 1
  cases hc:m0 l with
  |true=>exact decide_eq_false fun h=>by have:=kc.1 h;rw[hc] at this;cases this
  |false=>exact decide_eq_true (kc.2 hc)⟩
theorem tG {w:World} {l:List cg} {v:Value} (hv:cC bP l v w) (hs:sP l):
 Calls Tryz.prog 98 #[v] w (bE fun r w'=>aK w w'∧r=B (m0 l)):=by
 refine enter (vs:=[v]) Tryz.func98 E E E ?_
 refine af (aa (ae E E (ag (ab (af (aa (ac E E (am DR E E ((DT hv hs)) ?_))))))))
 rintro v4 w4 ⟨x4,rfl⟩
 refine bt E E bu (ae E E (ag (ab (aw (az E E ?_)))))
 exact⟨_,rfl,x4,by simp⟩
theorem iA {d:bU} (h:d.kd<1∨4<d.kd∨fP d.at_=false):fW d=false:=by
 unfold fW
 rcases h with h|h|h
 ·rw[decide_eq_false (by omega:¬1≤d.kd)];rfl
 ·rw[decide_eq_false (by omega:¬d.kd≤4),Bool.and_false];rfl
 ·rw[h,Bool.and_false]
theorem zv {d:bU} (h1:1≤d.kd) (h2:d.kd≤4) (h3:fP d.at_=true):fW d=true:=by
 unfold fW
 rw[decide_eq_true h1,decide_eq_true h2,h3];rfl
theorem cE {u:bZ} (h:2048<u.path.length∨0<u.leaf.kids.length∨qT u.leaf=false∨jn u.leaf=false∨u.path.all fW=false):bQ u=false:=by
 unfold bQ
 rcases h with h|h|h|h|h
 ·rw[decide_eq_false (by omega:¬u.path.length≤2048)];rfl
 ·rw[decide_eq_false (by omega:¬u.leaf.kids.length=0),Bool.and_false];rfl
 ·rw[h,Bool.and_false];rfl
 ·rw[h,Bool.and_false];rfl
 ·rw[h,Bool.and_false]
theorem zw {u:bZ} (h1:u.path.length≤2048) (h2:u.leaf.kids.length=0) (h3:qT u.leaf=true) (h4:jn u.leaf=true) (h5:u.path.all fW=true):bQ u=true:=by
 unfold bQ
 rw[decide_eq_true h1,decide_eq_true h2,h3,h4,h5];rfl
def KG (u:bZ):Prop:=(∀d∈u.path,sQ d.at_)∧sN u.leaf
theorem sv {w:World} {u:bZ} {vd vl x y vk vp:Value} (hd:cC dC u.path vd w) (hl:cC dc u.leaf.lems vl w) (hx:bm u.leaf.split.at_.2.1 x w) (hy:bm u.leaf.split.at_.2.2 y w) (hk:cC bG u.leaf.kids vk w) (hp:cC bP u.leaf.pf vp w) (hs:KG u):
 Calls Tryz.prog 22 #[.agg #[vd,vl,I u.leaf.split.kd,I u.leaf.split.ix,B u.leaf.split.at_.1,x,y,vk,B u.leaf.empty,vp]] w (bE fun r w'=>aK w w'∧r=B (bQ u)):=by
 refine enter (vs:=[.agg #[vd,vl,I u.leaf.split.kd,I u.leaf.split.ix,B u.leaf.split.at_.1,x,y,vk,B u.leaf.empty,vp]]) Tryz.func22 E E E ?_
 have hpl:=hd.len
 have hkl:=hk.len
 refine af (aa ?_)
 obtain⟨g1,w1,hr1,l1,x1,k1⟩:=cK (P:=Tryz.prog) (w:=w) (T:=54) (cs:=[vd,vl,I u.leaf.split.kd,I u.leaf.split.ix,B u.leaf.split.at_.1,x,y,vk,B u.leaf.empty,vp])
 refine cM E E hr1 (ae E E (ag (ab (af (af ?_)))))
 rcases hv1:qT u.leaf
 rotate_left
 rcases hv2:jn u.leaf
 ·refine aa (ah E E (ar (o:=0) Mz E (by kernel_rfl) E) (ak E E (aj ME E (k1.cell (i:=0) E)) ?_))
  refine aO E E (a6 ME (hd.ext x1)) (al E E E (ca) (ac E E ?_))
  refine ce (fun h9=>?_) (fun h9=>?_)
  ·refine an E E E (an E E E (an E E E (an E E E (an E E E (ap E E E (ac E E (an E E E (an E E E (an E E E ?_)))))))))
   refine an E E E (ap E E E (ac E E (an E E E (an E E E (an E E E (an E E E (ap E E E (ag (ab (bg E ?_))))))))))
   refine af (aa (ae E E (ag (ab (aw (ay (az E E ?_)))))))
   exact⟨_,rfl,x1,by
    rw[cE (by
     first
     |exact .inl (by omega)
     |exact .inr (.inl (by omega))
     |exact .inr (.inr (.inl hv1))
     |exact .inr (.inr (.inr (.inl hv2))))]
    rfl⟩
  ·refine ai E (ah E E (ar (o:=1) Mz E (by kernel_rfl) E) (ai E (ah E E (cL (b:=1) (o:=6) Mt E (by kernel_rfl) E) ?_)))
   refine ai E (ak E E (aj MF E (k1.cell (i:=7) E)) (ai E (aO E E (a6 MF (hk.ext x1)) ?_)))
   refine ai E (al E E E (ca) (aD E E E (ac E E ?_)))
   refine ce (fun h16=>?_) (fun h16=>?_)
   ·refine an E E E (an E E E (an E E E (an E E E (ap E E E (ac E E (an E E E (an E E E (an E E E (an E E E ?_)))))))))
    refine ap E E E (ag (ab (bg E (af (aa (ae E E (ag (ab (aw (ay (az E E ?_)))))))))))
    exact⟨_,rfl,x1,by
     rw[cE (by
      first
      |exact .inl (by omega)
      |exact .inr (.inl (by omega))
      |exact .inr (.inr (.inl hv1))
      |exact .inr (.inr (.inr (.inl hv2))))]
     rfl⟩
   ·refine ai rfl (ah rfl rfl (ar (o:=1) Tryz.underlying54 rfl (by kernel_rfl) rfl) (ai rfl (ak rfl rfl (k1.ldO (ms:=[vl,I u.leaf.split.kd,I u.leaf.split.ix,B u.leaf.split.at_.1,x,y,vk,B u.leaf.empty,vp]) (o:=1) (fun j v hj=>by rcases j with _|_|_|_|_|_|_|_|_|j<;>simp_all) Tryz.underlying52 rfl (by kernel_rfl)) ?_)))
    refine ai E (am pn E E ((by have h:=po (n:=u.leaf) (hl.ext x1) (hx.ext x1) (hy.ext x1) (hk.ext x1) (hp.ext x1);rw[hv1] at h;exact h)) ?_)
    rintro v19 w19 ⟨x19,rfl⟩
    refine ai E (bt E E bu (aD E E E (ac E E (ai E (ah E E (ar (o:=1) Mz E (by kernel_rfl) E) ?_)))))
    refine ai rfl (ak rfl rfl ((k1.ext x19).ldO (ms:=[vl,I u.leaf.split.kd,I u.leaf.split.ix,B u.leaf.split.at_.1,x,y,vk,B u.leaf.empty,vp]) (o:=1) (fun j v hj=>by rcases j with _|_|_|_|_|_|_|_|_|j<;>simp_all) Tryz.underlying52 rfl (by kernel_rfl)) ?_)
    refine ai E (am uu E E ((by have h:=uw _ (Nat.le_refl _) (n:=u.leaf) (hl.ext (x1.trans x19)) (hx.ext (x1.trans x19)) (hy.ext (x1.trans x19)) (hk.ext (x1.trans x19)) (hp.ext (x1.trans x19)) hs.2;rw[hv2] at h;exact h)) ?_)
    rintro v25 w25 ⟨x25,rfl⟩
    refine ai E (bt E E bu (aD E E E (ag (ab (bg E (af (aa (ae E E (ag (ab (aw (ay (az E E ?_)))))))))))))
    exact⟨_,rfl,((x1.trans x19).trans x25),by
     rw[cE (by
      first
      |exact .inl (by omega)
      |exact .inr (.inl (by omega))
      |exact .inr (.inr (.inl hv1))
      |exact .inr (.inr (.inr (.inl hv2))))]
     rfl⟩
 ·refine aa (ah E E (ar (o:=0) Mz E (by kernel_rfl) E) (ak E E (aj ME E (k1.cell (i:=0) E)) ?_))
  refine aO E E (a6 ME (hd.ext x1)) (al E E E (ca) (ac E E ?_))
  refine ce (fun h9=>?_) (fun h9=>?_)
  ·refine an E E E (an E E E (an E E E (an E E E (an E E E (ap E E E (ac E E (an E E E (an E E E (an E E E ?_)))))))))
   refine an E E E (ap E E E (ac E E (an E E E (an E E E (an E E E (an E E E (ap E E E (ag (ab (bg E ?_))))))))))
   refine af (aa (ae E E (ag (ab (aw (ay (az E E ?_)))))))
   exact⟨_,rfl,x1,by
    rw[cE (by
     first
     |exact .inl (by omega)
     |exact .inr (.inl (by omega))
     |exact .inr (.inr (.inl hv1))
     |exact .inr (.inr (.inr (.inl hv2))))]
    rfl⟩
  ·refine ai E (ah E E (ar (o:=1) Mz E (by kernel_rfl) E) (ai E (ah E E (cL (b:=1) (o:=6) Mt E (by kernel_rfl) E) ?_)))
   refine ai E (ak E E (aj MF E (k1.cell (i:=7) E)) (ai E (aO E E (a6 MF (hk.ext x1)) ?_)))
   refine ai E (al E E E (ca) (aD E E E (ac E E ?_)))
   refine ce (fun h16=>?_) (fun h16=>?_)
   ·refine an E E E (an E E E (an E E E (an E E E (ap E E E (ac E E (an E E E (an E E E (an E E E (an E E E ?_)))))))))
    refine ap E E E (ag (ab (bg E (af (aa (ae E E (ag (ab (aw (ay (az E E ?_)))))))))))
    exact⟨_,rfl,x1,by
     rw[cE (by
      first
      |exact .inl (by omega)
      |exact .inr (.inl (by omega))
      |exact .inr (.inr (.inl hv1))
      |exact .inr (.inr (.inr (.inl hv2))))]
     rfl⟩
   ·refine ai rfl (ah rfl rfl (ar (o:=1) Tryz.underlying54 rfl (by kernel_rfl) rfl) (ai rfl (ak rfl rfl (k1.ldO (ms:=[vl,I u.leaf.split.kd,I u.leaf.split.ix,B u.leaf.split.at_.1,x,y,vk,B u.leaf.empty,vp]) (o:=1) (fun j v hj=>by rcases j with _|_|_|_|_|_|_|_|_|j<;>simp_all) Tryz.underlying52 rfl (by kernel_rfl)) ?_)))
    refine ai E (am pn E E ((by have h:=po (n:=u.leaf) (hl.ext x1) (hx.ext x1) (hy.ext x1) (hk.ext x1) (hp.ext x1);rw[hv1] at h;exact h)) ?_)
    rintro v19 w19 ⟨x19,rfl⟩
    refine ai E (bt E E bu (aD E E E (ac E E (ai E (ah E E (ar (o:=1) Mz E (by kernel_rfl) E) ?_)))))
    refine ai rfl (ak rfl rfl ((k1.ext x19).ldO (ms:=[vl,I u.leaf.split.kd,I u.leaf.split.ix,B u.leaf.split.at_.1,x,y,vk,B u.leaf.empty,vp]) (o:=1) (fun j v hj=>by rcases j with _|_|_|_|_|_|_|_|_|j<;>simp_all) Tryz.underlying52 rfl (by kernel_rfl)) ?_)
    refine ai E (am uu E E ((by have h:=uw _ (Nat.le_refl _) (n:=u.leaf) (hl.ext (x1.trans x19)) (hx.ext (x1.trans x19)) (hy.ext (x1.trans x19)) (hk.ext (x1.trans x19)) (hp.ext (x1.trans x19)) hs.2;rw[hv2] at h;exact h)) ?_)
    rintro v25 w25 ⟨x25,rfl⟩
    refine ai E (bt E E bu (aD E E E (ag (ab (cr E (aC (ab (af (af (aa (ae E E (ag (ab (aE ?_))))))))))))))
    refine cf (α:=Nat) (fun i=>[(1,.pointer (some ⟨g1,0,none⟩)),(3,I (i:Int))]) (fun i w'=>aK w w'∧aK w1 w'∧i≤u.path.length∧u.path.all fW=(u.path.drop i).all fW) (fun i=>u.path.length-i) (0) ⟨rfl,rfl,trivial⟩ ⟨((x1.trans x19).trans x25),(x19.trans x25),by omega,rfl⟩ ?_
    rintro i wL ⟨eL,e1L,hi,hall⟩
    refine af (af (aa (ac E E (ah E E (ar (o:=0) Mz E (by kernel_rfl) E) (ak E E (aj ME E (e1L.cell_some (k1.cell (i:=0) E))) ?_)))))
    refine aO E E (a6 ME (hd.ext eL)) (al E E E (aV) (ag (ab ?_)))
    refine bz E (fun h32=>?_) (fun h32=>?_)
    ·refine aC (ab (af (aE (af ?_))))
     obtain⟨em,hem⟩:∃em,em=u.path[i]'(by omega):=⟨_,rfl⟩
     have hmem:em∈u.path:=by rw[hem];exact List.getElem_mem _
     rcases hq:fP em.at_
     ·refine aa (ah E E (ar (o:=0) Mz E (by kernel_rfl) E) (ak E E (aj ME E (e1L.cell_some (k1.cell (i:=0) E))) ?_))
      refine ac E E ?_
      obtain⟨a38,c38,p38,q38,h38⟩:=cd (P:=Tryz.prog) (sz:=5) ME (by kernel_rfl) ck (by omega) (hd.ext eL) (i:=i) (by omega) .i64
      rw[←hem] at h38
      obtain⟨x38_0,x38_1,rfl,f38_0,f38_1⟩:=gK h38
      refine aq E E E (p38 _) (ak E E (q38.ld My E (by kernel_rfl)) ?_)
      obtain⟨g4,w4,hr4,l4,x4,k4⟩:=aX (P:=Tryz.prog) (w:=wL) (t:=48) (z:=.agg #[I 0,I 0,B false,.slice none 0 0,.slice none 0 0]) (l:=[I 0,I 0,B false,.slice none 0 0,.slice none 0 0]) (by kernel_rfl) rfl
      refine aT E hr4 ?_
      obtain⟨w6_6,s6_6,q6_6,k6_6⟩:=k4.stS (P:=Tryz.prog) (t:=48) (m:=[I em.kd,I em.ix,B em.at_.1,x38_0,x38_1]) rfl (by kernel_rfl) (av.cons rfl (av.cons rfl (av.cons rfl (av.cons f38_0.one (av.cons f38_1.one av.nil)))))
      refine au E E s6_6 ?_
      have x6_6:=aK.of_new (x4) q6_6 l4
      refine ag (ab (af (aa (ah E E (ar (o:=0) My E (by kernel_rfl) E) (ak E E (aj Mx E (k6_6.cell (i:=0) E)) ?_)))))
      refine al E E E (aV) (ac E E ?_)
      refine ce (fun h43=>?_) (fun h43=>?_)
      ·refine an E E E (an E E E (an E E E (ap E E E (ac E E (an E E E (an E E E (an E E E (an E E E (ap E E E ?_)))))))))
       refine ag (ab (bg E (af (aa (ae E E (ag (ab (aw (aZ (ay (ay (aZ (ay (az E E ?_))))))))))))))
       exact⟨_,rfl,(eL.trans x6_6),by
        rw[cE (.inr (.inr (.inr (.inr (gQ (p:=fW) (i:=i) (by omega) hall (by
         rw[←hem]
         refine iA ?_
         first
         |exact .inl (by omega)
         |exact .inr (.inl (by omega))
         |exact .inr (.inr hq)))))))]
        rfl⟩
      ·refine ai E (ah E E (ar (o:=0) My E (by kernel_rfl) E) (ai E (ak E E (aj Mx E (k6_6.cell (i:=0) E)) ?_)))
       refine ai E (al E E E (ca) (aD E E E (ac E E ?_)))
       refine ce (fun h48=>?_) (fun h48=>?_)
       ·refine an E E E (an E E E (an E E E (an E E E (ap E E E (ag (ab (bg E (af (aa (ae E E (ag (ab (aw (aZ ?_))))))))))))))
        refine ay (ay (aZ (ay (az E E ?_))))
        exact⟨_,rfl,(eL.trans x6_6),by
         rw[cE (.inr (.inr (.inr (.inr (gQ (p:=fW) (i:=i) (by omega) hall (by
          rw[←hem]
          refine iA ?_
          first
          |exact .inl (by omega)
          |exact .inr (.inl (by omega))
          |exact .inr (.inr hq)))))))]
         rfl⟩
       ·refine ai rfl (ah rfl rfl (ar (o:=2) Tryz.underlying48 rfl (by kernel_rfl) rfl) (ai rfl (ak rfl rfl (k6_6.ldO (ms:=[B em.at_.1,x38_0,x38_1]) (o:=2) (fun j v hj=>by rcases j with _|_|_|_|_|_|_|_|_|j<;>simp_all) Tryz.underlying46 rfl (by kernel_rfl)) ?_)))
        refine ai E (am gR E E ((by have h:=nY (q:=em.at_) (f38_0.ext x6_6) (f38_1.ext x6_6) (hs.1 em hmem);rw[hq] at h;exact h)) ?_)
        rintro v51 w51 ⟨x51,rfl⟩
        refine ai E (bt E E bu (aD E E E (ag (ab (bg E (af (aa (ae E E (ag (ab (aw (aZ (ay (ay (aZ (ay (az E E ?_)))))))))))))))))
        exact⟨_,rfl,((eL.trans x6_6).trans x51),by
         rw[cE (.inr (.inr (.inr (.inr (gQ (p:=fW) (i:=i) (by omega) hall (by
          rw[←hem]
          refine iA ?_
          first
          |exact .inl (by omega)
          |exact .inr (.inl (by omega))
          |exact .inr (.inr hq)))))))]
         rfl⟩
     ·refine aa (ah E E (ar (o:=0) Mz E (by kernel_rfl) E) (ak E E (aj ME E (e1L.cell_some (k1.cell (i:=0) E))) ?_))
      refine ac E E ?_
      obtain⟨a38,c38,p38,q38,h38⟩:=cd (P:=Tryz.prog) (sz:=5) ME (by kernel_rfl) ck (by omega) (hd.ext eL) (i:=i) (by omega) .i64
      rw[←hem] at h38
      obtain⟨x38_0,x38_1,rfl,f38_0,f38_1⟩:=gK h38
      refine aq E E E (p38 _) (ak E E (q38.ld My E (by kernel_rfl)) ?_)
      obtain⟨g4,w4,hr4,l4,x4,k4⟩:=aX (P:=Tryz.prog) (w:=wL) (t:=48) (z:=.agg #[I 0,I 0,B false,.slice none 0 0,.slice none 0 0]) (l:=[I 0,I 0,B false,.slice none 0 0,.slice none 0 0]) (by kernel_rfl) rfl
      refine aT E hr4 ?_
      obtain⟨w6_6,s6_6,q6_6,k6_6⟩:=k4.stS (P:=Tryz.prog) (t:=48) (m:=[I em.kd,I em.ix,B em.at_.1,x38_0,x38_1]) rfl (by kernel_rfl) (av.cons rfl (av.cons rfl (av.cons rfl (av.cons f38_0.one (av.cons f38_1.one av.nil)))))
      refine au E E s6_6 ?_
      have x6_6:=aK.of_new (x4) q6_6 l4
      refine ag (ab (af (aa (ah E E (ar (o:=0) My E (by kernel_rfl) E) (ak E E (aj Mx E (k6_6.cell (i:=0) E)) ?_)))))
      refine al E E E (aV) (ac E E ?_)
      refine ce (fun h43=>?_) (fun h43=>?_)
      ·refine an E E E (an E E E (an E E E (ap E E E (ac E E (an E E E (an E E E (an E E E (an E E E (ap E E E ?_)))))))))
       refine ag (ab (bg E (af (aa (ae E E (ag (ab (aw (aZ (ay (ay (aZ (ay (az E E ?_))))))))))))))
       exact⟨_,rfl,(eL.trans x6_6),by
        rw[cE (.inr (.inr (.inr (.inr (gQ (p:=fW) (i:=i) (by omega) hall (by
         rw[←hem]
         refine iA ?_
         first
         |exact .inl (by omega)
         |exact .inr (.inl (by omega))
         |exact .inr (.inr hq)))))))]
        rfl⟩
      ·refine ai E (ah E E (ar (o:=0) My E (by kernel_rfl) E) (ai E (ak E E (aj Mx E (k6_6.cell (i:=0) E)) ?_)))
       refine ai E (al E E E (ca) (aD E E E (ac E E ?_)))
       refine ce (fun h48=>?_) (fun h48=>?_)
       ·refine an E E E (an E E E (an E E E (an E E E (ap E E E (ag (ab (bg E (af (aa (ae E E (ag (ab (aw (aZ ?_))))))))))))))
        refine ay (ay (aZ (ay (az E E ?_))))
        exact⟨_,rfl,(eL.trans x6_6),by
         rw[cE (.inr (.inr (.inr (.inr (gQ (p:=fW) (i:=i) (by omega) hall (by
          rw[←hem]
          refine iA ?_
          first
          |exact .inl (by omega)
          |exact .inr (.inl (by omega))
          |exact .inr (.inr hq)))))))]
         rfl⟩
       ·refine ai rfl (ah rfl rfl (ar (o:=2) Tryz.underlying48 rfl (by kernel_rfl) rfl) (ai rfl (ak rfl rfl (k6_6.ldO (ms:=[B em.at_.1,x38_0,x38_1]) (o:=2) (fun j v hj=>by rcases j with _|_|_|_|_|_|_|_|_|j<;>simp_all) Tryz.underlying46 rfl (by kernel_rfl)) ?_)))
        refine ai E (am gR E E ((by have h:=nY (q:=em.at_) (f38_0.ext x6_6) (f38_1.ext x6_6) (hs.1 em hmem);rw[hq] at h;exact h)) ?_)
        rintro v51 w51 ⟨x51,rfl⟩
        refine ai E (bt E E bu (aD E E E (ag (ab (cr E (aC (aS (ab (aa (ac E E (al (r:=I ((i+1:Nat):Int)) E E E (by have e:((i+1:Nat):Int)=(i:Int)+1:=(by omega);rw[e];exact aN (by omega) (by omega)) ?_)))))))))))
        refine ae E E (ag ?_)
        refine bR (i+1) ⟨rfl,rfl,trivial⟩ ⟨((eL.trans x6_6).trans x51),((e1L.trans x6_6).trans x51),by omega,rW (p:=fW) (by omega) hall (by rw[←hem];exact zv (by omega) (by omega) hq)⟩ (by omega)
    ·refine bc (aI (aI (be (ab (af (aa (ae E E (ag (ab (aw (az E E ?_)))))))))))
     exact⟨_,rfl,eL,by rw[zw (by omega) (by omega) hv1 hv2 (nV (p:=fW) (l:=u.path) (i:=i) (by omega) hall)];rfl⟩
 ·refine aa (ah E E (ar (o:=0) Mz E (by kernel_rfl) E) (ak E E (aj ME E (k1.cell (i:=0) E)) ?_))
  refine aO E E (a6 ME (hd.ext x1)) (al E E E (ca) (ac E E ?_))
  refine ce (fun h9=>?_) (fun h9=>?_)
  ·refine an E E E (an E E E (an E E E (an E E E (an E E E (ap E E E (ac E E (an E E E (an E E E (an E E E ?_)))))))))
   refine an E E E (ap E E E (ac E E (an E E E (an E E E (an E E E (an E E E (ap E E E (ag (ab (bg E ?_))))))))))
   refine af (aa (ae E E (ag (ab (aw (ay (az E E ?_)))))))
   exact⟨_,rfl,x1,by
    rw[cE (by
     first
     |exact .inl (by omega)
     |exact .inr (.inl (by omega))
     |exact .inr (.inr (.inl hv1))
     |exact .inr (.inr (.inr (.inl hv2))))]
    rfl⟩
  ·refine ai E (ah E E (ar (o:=1) Mz E (by kernel_rfl) E) (ai E (ah E E (cL (b:=1) (o:=6) Mt E (by kernel_rfl) E) ?_)))
   refine ai E (ak E E (aj MF E (k1.cell (i:=7) E)) (ai E (aO E E (a6 MF (hk.ext x1)) ?_)))
   refine ai E (al E E E (ca) (aD E E E (ac E E ?_)))
   refine ce (fun h16=>?_) (fun h16=>?_)
   ·refine an E E E (an E E E (an E E E (an E E E (ap E E E (ac E E (an E E E (an E E E (an E E E (an E E E ?_)))))))))
    refine ap E E E (ag (ab (bg E (af (aa (ae E E (ag (ab (aw (ay (az E E ?_)))))))))))
    exact⟨_,rfl,x1,by
     rw[cE (by
      first
      |exact .inl (by omega)
      |exact .inr (.inl (by omega))
      |exact .inr (.inr (.inl hv1))
      |exact .inr (.inr (.inr (.inl hv2))))]
     rfl⟩
   ·refine ai rfl (ah rfl rfl (ar (o:=1) Tryz.underlying54 rfl (by kernel_rfl) rfl) (ai rfl (ak rfl rfl (k1.ldO (ms:=[vl,I u.leaf.split.kd,I u.leaf.split.ix,B u.leaf.split.at_.1,x,y,vk,B u.leaf.empty,vp]) (o:=1) (fun j v hj=>by rcases j with _|_|_|_|_|_|_|_|_|j<;>simp_all) Tryz.underlying52 rfl (by kernel_rfl)) ?_)))
    refine ai E (am pn E E ((by have h:=po (n:=u.leaf) (hl.ext x1) (hx.ext x1) (hy.ext x1) (hk.ext x1) (hp.ext x1);rw[hv1] at h;exact h)) ?_)
    rintro v19 w19 ⟨x19,rfl⟩
    refine ai E (bt E E bu (aD E E E (ac E E (an E E E (an E E E (an E E E (an E E E (ap E E E (ag ?_)))))))))
    refine ab (bg E (af (aa (ae E E (ag (ab (aw (ay (az E E ?_)))))))))
    exact⟨_,rfl,(x1.trans x19),by
     rw[cE (by
      first
      |exact .inl (by omega)
      |exact .inr (.inl (by omega))
      |exact .inr (.inr (.inl hv1))
      |exact .inr (.inr (.inr (.inl hv2))))]
     rfl⟩
theorem zx {n:aY} (h:n.kids.length=0):jn n=(fP n.split.at_&&m0 n.pf&&n.lems.all i6):=by
 cases n with
 |mk l s k e p=>
  obtain rfl:k=[]:=List.eq_nil_of_length_eq_zero h
  simp only[jn,xv,aY.split,aY.pf,aY.lems]
  cases fP s.at_<;>cases m0 p<;>cases l.all i6<;>rfl
theorem ey {n:aY} (h:n.kids.length=0) (h1:fP n.split.at_=false∨m0 n.pf=false∨n.lems.all i6=false):jn n=false:=by
 rw[zx h]
 rcases h1 with h|h|h<;>rw[h]
 ·rfl
 ·rw[Bool.and_false];rfl
 ·rw[Bool.and_false]
theorem AQ {n:aY} (h:n.kids.length=0) (h1:fP n.split.at_=true) (h2:m0 n.pf=true) (h3:n.lems.all i6=true):jn n=true:=by
 rw[zx h,h1,h2,h3];rfl
theorem ob {w:World} {u:bZ} {vd vl x y vk vp:Value} (hd:cC dC u.path vd w) (hl:cC dc u.leaf.lems vl w) (hx:bm u.leaf.split.at_.2.1 x w) (hy:bm u.leaf.split.at_.2.2 y w) (hk:cC bG u.leaf.kids vk w) (hp:cC bP u.leaf.pf vp w) (hs:KG u):
 Calls Tryz.prog 54 #[.agg #[vd,vl,I u.leaf.split.kd,I u.leaf.split.ix,B u.leaf.split.at_.1,x,y,vk,B u.leaf.empty,vp]] w (bE fun r w'=>aK w w'∧r=B (bQ u)):=by
 refine enter (vs:=[.agg #[vd,vl,I u.leaf.split.kd,I u.leaf.split.ix,B u.leaf.split.at_.1,x,y,vk,B u.leaf.empty,vp]]) Tryz.func54 E E E ?_
 have hpl:=hd.len
 have hkl:=hk.len
 have hll:=hl.len
 obtain⟨sl,sd,sp,_⟩:=(xK u.leaf).1 hs.2
 refine af (aa ?_)
 obtain⟨g1,w1,hr1,l1,x1,k1⟩:=cK (P:=Tryz.prog) (w:=w) (T:=54) (cs:=[vd,vl,I u.leaf.split.kd,I u.leaf.split.ix,B u.leaf.split.at_.1,x,y,vk,B u.leaf.empty,vp])
 refine cM E E hr1 (ae E E (ag (ab (af (af ?_)))))
 rcases hv1:qT u.leaf
 rotate_left
 rcases hv2:m0 u.leaf.pf
 ·refine aa (ah E E (ar (o:=0) Mz E (by kernel_rfl) E) (ak E E (aj ME E (k1.cell (i:=0) E)) ?_))
  refine aO E E (a6 ME (hd.ext x1)) (al E E E (ca) (ac E E ?_))
  refine ce (fun h11=>?_) (fun h11=>?_)
  ·refine an E E E (an E E E (an E E E (an E E E (an E E E (ap E E E (ac E E (an E E E (an E E E (an E E E ?_)))))))))
   refine an E E E (ap E E E (ac E E (an E E E (an E E E (an E E E (an E E E (an E E E (ap E E E (ag ?_)))))))))
   refine ab (bg E (af (aa (ae E E (ag (ab (aw (ay (az E E ?_)))))))))
   exact⟨_,rfl,x1,by
    rw[cE (by
     first
     |exact .inl (by omega)
     |exact .inr (.inl (by omega))
     |exact .inr (.inr (.inl hv1))
     |exact .inr (.inr (.inr (.inl (ey (by omega) (.inr (.inl hv2)))))))]
    rfl⟩
  ·refine ai E (ah E E (ar (o:=1) Mz E (by kernel_rfl) E) (ai E (ah E E (cL (b:=1) (o:=6) Mt E (by kernel_rfl) E) ?_)))
   refine ai E (ak E E (aj MF E (k1.cell (i:=7) E)) (ai E (aO E E (a6 MF (hk.ext x1)) ?_)))
   refine ai E (al E E E (ca) (aD E E E (ac E E ?_)))
   refine ce (fun h18=>?_) (fun h18=>?_)
   ·refine an E E E (an E E E (an E E E (an E E E (ap E E E (ac E E (an E E E (an E E E (an E E E (an E E E ?_)))))))))
    refine an E E E (ap E E E (ag (ab (bg E (af (aa (ae E E (ag (ab (aw (ay (az E E ?_))))))))))))
    exact⟨_,rfl,x1,by
     rw[cE (by
      first
      |exact .inl (by omega)
      |exact .inr (.inl (by omega))
      |exact .inr (.inr (.inl hv1))
      |exact .inr (.inr (.inr (.inl (ey (by omega) (.inr (.inl hv2)))))))]
     rfl⟩
   ·refine ai rfl (ah rfl rfl (ar (o:=1) Tryz.underlying54 rfl (by kernel_rfl) rfl) (ai rfl (ak rfl rfl (k1.ldO (ms:=[vl,I u.leaf.split.kd,I u.leaf.split.ix,B u.leaf.split.at_.1,x,y,vk,B u.leaf.empty,vp]) (o:=1) (fun j v hj=>by rcases j with _|_|_|_|_|_|_|_|_|j<;>simp_all) Tryz.underlying52 rfl (by kernel_rfl)) ?_)))
    refine ai E (am gJ E E ((by have h:=mZ (n:=u.leaf) (hl.ext x1) (hx.ext x1) (hy.ext x1) (hk.ext x1) (hp.ext x1);rw[hv1] at h;exact h)) ?_)
    rintro v21 w21 ⟨x21,rfl⟩
    refine ai E (bt E E bu (aD E E E (ac E E (ai E (ah E E (ar (o:=1) Mz E (by kernel_rfl) E) ?_)))))
    refine ai E (ah E E (cL (b:=1) (o:=8) Mt E (by kernel_rfl) E) (ai E (ak E E (aj MH E (x21.cell_some (k1.cell (i:=9) E))) ?_)))
    refine ai E (am tF E E ((by have h:=tG (hp.ext (x1.trans x21)) sp;rw[hv2] at h;exact h)) ?_)
    rintro v28 w28 ⟨x28,rfl⟩
    refine ai E (bt E E bu (aD E E E (ag (ab (bg E (af (aa (ae E E (ag (ab (aw (ay (az E E ?_)))))))))))))
    exact⟨_,rfl,((x1.trans x21).trans x28),by
     rw[cE (by
      first
      |exact .inl (by omega)
      |exact .inr (.inl (by omega))
      |exact .inr (.inr (.inl hv1))
      |exact .inr (.inr (.inr (.inl (ey (by omega) (.inr (.inl hv2)))))))]
     rfl⟩
 ·refine aa (ah E E (ar (o:=0) Mz E (by kernel_rfl) E) (ak E E (aj ME E (k1.cell (i:=0) E)) ?_))
  refine aO E E (a6 ME (hd.ext x1)) (al E E E (ca) (ac E E ?_))
  refine ce (fun h11=>?_) (fun h11=>?_)
  ·refine an E E E (an E E E (an E E E (an E E E (an E E E (ap E E E (ac E E (an E E E (an E E E (an E E E ?_)))))))))
   refine an E E E (ap E E E (ac E E (an E E E (an E E E (an E E E (an E E E (an E E E (ap E E E (ag ?_)))))))))
   refine ab (bg E (af (aa (ae E E (ag (ab (aw (ay (az E E ?_)))))))))
   exact⟨_,rfl,x1,by
    rw[cE (by
     first
     |exact .inl (by omega)
     |exact .inr (.inl (by omega))
     |exact .inr (.inr (.inl hv1))
     |exact .inr (.inr (.inr (.inl (ey (by omega) (.inr (.inl hv2)))))))]
    rfl⟩
  ·refine ai E (ah E E (ar (o:=1) Mz E (by kernel_rfl) E) (ai E (ah E E (cL (b:=1) (o:=6) Mt E (by kernel_rfl) E) ?_)))
   refine ai E (ak E E (aj MF E (k1.cell (i:=7) E)) (ai E (aO E E (a6 MF (hk.ext x1)) ?_)))
   refine ai E (al E E E (ca) (aD E E E (ac E E ?_)))
   refine ce (fun h18=>?_) (fun h18=>?_)
   ·refine an E E E (an E E E (an E E E (an E E E (ap E E E (ac E E (an E E E (an E E E (an E E E (an E E E ?_)))))))))
    refine an E E E (ap E E E (ag (ab (bg E (af (aa (ae E E (ag (ab (aw (ay (az E E ?_))))))))))))
    exact⟨_,rfl,x1,by
     rw[cE (by
      first
      |exact .inl (by omega)
      |exact .inr (.inl (by omega))
      |exact .inr (.inr (.inl hv1))
      |exact .inr (.inr (.inr (.inl (ey (by omega) (.inr (.inl hv2)))))))]
     rfl⟩
   ·refine ai rfl (ah rfl rfl (ar (o:=1) Tryz.underlying54 rfl (by kernel_rfl) rfl) (ai rfl (ak rfl rfl (k1.ldO (ms:=[vl,I u.leaf.split.kd,I u.leaf.split.ix,B u.leaf.split.at_.1,x,y,vk,B u.leaf.empty,vp]) (o:=1) (fun j v hj=>by rcases j with _|_|_|_|_|_|_|_|_|j<;>simp_all) Tryz.underlying52 rfl (by kernel_rfl)) ?_)))
    refine ai E (am gJ E E ((by have h:=mZ (n:=u.leaf) (hl.ext x1) (hx.ext x1) (hy.ext x1) (hk.ext x1) (hp.ext x1);rw[hv1] at h;exact h)) ?_)
    rintro v21 w21 ⟨x21,rfl⟩
    refine ai E (bt E E bu (aD E E E (ac E E (ai E (ah E E (ar (o:=1) Mz E (by kernel_rfl) E) ?_)))))
    refine ai E (ah E E (cL (b:=1) (o:=8) Mt E (by kernel_rfl) E) (ai E (ak E E (aj MH E (x21.cell_some (k1.cell (i:=9) E))) ?_)))
    refine ai E (am tF E E ((by have h:=tG (hp.ext (x1.trans x21)) sp;rw[hv2] at h;exact h)) ?_)
    rintro v28 w28 ⟨x28,rfl⟩
    refine ai E (bt E E bu (aD E E E (ag (ab (cr E (aC (ab (af (af (aa (ah E E (ar (o:=0) Mz E (by kernel_rfl) E) ?_)))))))))))
    refine ak E E (aj ME E ((x21.trans x28).cell_some (k1.cell (i:=0) E))) (aO E E (a6 ME (hd.ext ((x1.trans x21).trans x28))) ?_)
    refine ac E E (ag (ab (aE ?_)))
    refine cf (α:=Nat) (fun i=>[(1,.pointer (some ⟨g1,0,none⟩)),(32,vd),(33,I (u.path.length:Int)),(34,I (i:Int))]) (fun i w'=>aK w w'∧aK w1 w'∧i≤u.path.length∧u.path.all fW=(u.path.drop i).all fW) (fun i=>u.path.length-i) (0) ⟨rfl,rfl,rfl,rfl,trivial⟩ ⟨((x1.trans x21).trans x28),(x21.trans x28),by omega,rfl⟩ ?_
    rintro i wL ⟨eL,e1L,hi,hall⟩
    refine af (aa (al E E E (aV) (ag (ab (af ?_)))))
    refine bz E (fun h35=>?_) (fun h35=>?_)
    ·refine aC (ab (af (aE (af ?_))))
     obtain⟨em,hem⟩:∃em,em=u.path[i]'(by omega):=⟨_,rfl⟩
     have hmem:em∈u.path:=by rw[hem];exact List.getElem_mem _
     rcases hq:fP em.at_
     ·refine aa ?_
      obtain⟨a36,c36,p36,q36,h36⟩:=cd (P:=Tryz.prog) (sz:=5) ME (by kernel_rfl) ck (by omega) (hd.ext eL) (i:=i) (by omega) .i64
      rw[←hem] at h36
      obtain⟨x36_0,x36_1,rfl,f36_0,f36_1⟩:=gK h36
      refine aq E E E (p36 _) (ak E E (q36.ld My E (by kernel_rfl)) ?_)
      obtain⟨g4,w4,hr4,l4,x4,k4⟩:=aX (P:=Tryz.prog) (w:=wL) (t:=48) (z:=.agg #[I 0,I 0,B false,.slice none 0 0,.slice none 0 0]) (l:=[I 0,I 0,B false,.slice none 0 0,.slice none 0 0]) (by kernel_rfl) rfl
      refine aT E hr4 ?_
      obtain⟨w5_3,s5_3,q5_3,k5_3⟩:=k4.stS (P:=Tryz.prog) (t:=48) (m:=[I em.kd,I em.ix,B em.at_.1,x36_0,x36_1]) rfl (by kernel_rfl) (av.cons rfl (av.cons rfl (av.cons rfl (av.cons f36_0.one (av.cons f36_1.one av.nil)))))
      refine au E E s5_3 ?_
      have x5_3:=aK.of_new (x4) q5_3 l4
      refine ag (ab (af (aa (ah E E (ar (o:=0) My E (by kernel_rfl) E) (ak E E (aj Mx E (k5_3.cell (i:=0) E)) ?_)))))
      refine al E E E (aV) (ac E E ?_)
      refine ce (fun h41=>?_) (fun h41=>?_)
      ·refine an E E E (an E E E (an E E E (ap E E E (ac E E (an E E E (an E E E (an E E E (an E E E (ap E E E ?_)))))))))
       refine ag (ab (bg E (af (aa (ae E E (ag (ab (aw (aZ (ay (ay (aZ (ay (az E E ?_))))))))))))))
       exact⟨_,rfl,(eL.trans x5_3),by
        rw[cE (.inr (.inr (.inr (.inr (gQ (p:=fW) (i:=i) (by omega) hall (by
         rw[←hem]
         refine iA ?_
         first
         |exact .inl (by omega)
         |exact .inr (.inl (by omega))
         |exact .inr (.inr hq)))))))]
        rfl⟩
      ·refine ai E (ah E E (ar (o:=0) My E (by kernel_rfl) E) (ai E (ak E E (aj Mx E (k5_3.cell (i:=0) E)) ?_)))
       refine ai E (al E E E (ca) (aD E E E (ac E E ?_)))
       refine ce (fun h46=>?_) (fun h46=>?_)
       ·refine an E E E (an E E E (an E E E (an E E E (ap E E E (ag (ab (bg E (af (aa (ae E E (ag (ab (aw (aZ ?_))))))))))))))
        refine ay (ay (aZ (ay (az E E ?_))))
        exact⟨_,rfl,(eL.trans x5_3),by
         rw[cE (.inr (.inr (.inr (.inr (gQ (p:=fW) (i:=i) (by omega) hall (by
          rw[←hem]
          refine iA ?_
          first
          |exact .inl (by omega)
          |exact .inr (.inl (by omega))
          |exact .inr (.inr hq)))))))]
         rfl⟩
       ·refine ai rfl (ah rfl rfl (ar (o:=2) Tryz.underlying48 rfl (by kernel_rfl) rfl) (ai rfl (ak rfl rfl (k5_3.ldO (ms:=[B em.at_.1,x36_0,x36_1]) (o:=2) (fun j v hj=>by rcases j with _|_|_|_|_|_|_|_|_|j<;>simp_all) Tryz.underlying46 rfl (by kernel_rfl)) ?_)))
        refine ai E (am fz E E ((by have h:=iK (q:=em.at_) (f36_0.ext x5_3) (f36_1.ext x5_3) (hs.1 em hmem);rw[hq] at h;exact h)) ?_)
        rintro v49 w49 ⟨x49,rfl⟩
        refine ai E (bt E E bu (aD E E E (ag (ab (bg E (af (aa (ae E E (ag (ab (aw (aZ (ay (ay (aZ (ay (az E E ?_)))))))))))))))))
        exact⟨_,rfl,((eL.trans x5_3).trans x49),by
         rw[cE (.inr (.inr (.inr (.inr (gQ (p:=fW) (i:=i) (by omega) hall (by
          rw[←hem]
          refine iA ?_
          first
          |exact .inl (by omega)
          |exact .inr (.inl (by omega))
          |exact .inr (.inr hq)))))))]
         rfl⟩
     ·refine aa ?_
      obtain⟨a36,c36,p36,q36,h36⟩:=cd (P:=Tryz.prog) (sz:=5) ME (by kernel_rfl) ck (by omega) (hd.ext eL) (i:=i) (by omega) .i64
      rw[←hem] at h36
      obtain⟨x36_0,x36_1,rfl,f36_0,f36_1⟩:=gK h36
      refine aq E E E (p36 _) (ak E E (q36.ld My E (by kernel_rfl)) ?_)
      obtain⟨g4,w4,hr4,l4,x4,k4⟩:=aX (P:=Tryz.prog) (w:=wL) (t:=48) (z:=.agg #[I 0,I 0,B false,.slice none 0 0,.slice none 0 0]) (l:=[I 0,I 0,B false,.slice none 0 0,.slice none 0 0]) (by kernel_rfl) rfl
      refine aT E hr4 ?_
      obtain⟨w5_3,s5_3,q5_3,k5_3⟩:=k4.stS (P:=Tryz.prog) (t:=48) (m:=[I em.kd,I em.ix,B em.at_.1,x36_0,x36_1]) rfl (by kernel_rfl) (av.cons rfl (av.cons rfl (av.cons rfl (av.cons f36_0.one (av.cons f36_1.one av.nil)))))
      refine au E E s5_3 ?_
      have x5_3:=aK.of_new (x4) q5_3 l4
      refine ag (ab (af (aa (ah E E (ar (o:=0) My E (by kernel_rfl) E) (ak E E (aj Mx E (k5_3.cell (i:=0) E)) ?_)))))
      refine al E E E (aV) (ac E E ?_)
      refine ce (fun h41=>?_) (fun h41=>?_)
      ·refine an E E E (an E E E (an E E E (ap E E E (ac E E (an E E E (an E E E (an E E E (an E E E (ap E E E ?_)))))))))
       refine ag (ab (bg E (af (aa (ae E E (ag (ab (aw (aZ (ay (ay (aZ (ay (az E E ?_))))))))))))))
       exact⟨_,rfl,(eL.trans x5_3),by
        rw[cE (.inr (.inr (.inr (.inr (gQ (p:=fW) (i:=i) (by omega) hall (by
         rw[←hem]
         refine iA ?_
         first
         |exact .inl (by omega)
         |exact .inr (.inl (by omega))
         |exact .inr (.inr hq)))))))]
        rfl⟩
      ·refine ai E (ah E E (ar (o:=0) My E (by kernel_rfl) E) (ai E (ak E E (aj Mx E (k5_3.cell (i:=0) E)) ?_)))
       refine ai E (al E E E (ca) (aD E E E (ac E E ?_)))
       refine ce (fun h46=>?_) (fun h46=>?_)
       ·refine an E E E (an E E E (an E E E (an E E E (ap E E E (ag (ab (bg E (af (aa (ae E E (ag (ab (aw (aZ ?_))))))))))))))
        refine ay (ay (aZ (ay (az E E ?_))))
        exact⟨_,rfl,(eL.trans x5_3),by
         rw[cE (.inr (.inr (.inr (.inr (gQ (p:=fW) (i:=i) (by omega) hall (by
          rw[←hem]
          refine iA ?_
          first
          |exact .inl (by omega)
          |exact .inr (.inl (by omega))
          |exact .inr (.inr hq)))))))]
         rfl⟩
       ·refine ai rfl (ah rfl rfl (ar (o:=2) Tryz.underlying48 rfl (by kernel_rfl) rfl) (ai rfl (ak rfl rfl (k5_3.ldO (ms:=[B em.at_.1,x36_0,x36_1]) (o:=2) (fun j v hj=>by rcases j with _|_|_|_|_|_|_|_|_|j<;>simp_all) Tryz.underlying46 rfl (by kernel_rfl)) ?_)))
        refine ai E (am fz E E ((by have h:=iK (q:=em.at_) (f36_0.ext x5_3) (f36_1.ext x5_3) (hs.1 em hmem);rw[hq] at h;exact h)) ?_)
        rintro v49 w49 ⟨x49,rfl⟩
        refine ai E (bt E E bu (aD E E E (ag (ab (cr E (aC (aS (ab (aa (al (r:=I ((i+1:Nat):Int)) E E E (by have e:((i+1:Nat):Int)=(i:Int)+1:=(by omega);rw[e];exact aN (by omega) (by omega)) ?_))))))))))
        refine ac E E (ag ?_)
        refine bR (i+1) ⟨rfl,rfl,rfl,rfl,trivial⟩ ⟨((eL.trans x5_3).trans x49),((e1L.trans x5_3).trans x49),by omega,rW (p:=fW) (by omega) hall (by rw[←hem];exact zv (by omega) (by omega) hq)⟩ (by omega)
    ·refine bc (aI (aI (be (ab (af (af ?_))))))
     have hpa:=nV (p:=fW) (l:=u.path) (i:=i) (by omega) hall
     refine aa (ah E E (ar (o:=1) Mz E (by kernel_rfl) E) (ah E E (cL (b:=1) (o:=0) Mt E (by kernel_rfl) E) ?_))
     refine ak E E (aj MG E (e1L.cell_some (k1.cell (i:=1) E))) (aO E E (a6 MG (hl.ext eL)) ?_)
     refine ac E E (ag (ab (aE ?_)))
     refine cf (α:=Nat) (fun j=>[(1,.pointer (some ⟨g1,0,none⟩)),(55,vl),(56,I (u.leaf.lems.length:Int)),(57,I (j:Int))]) (fun j w'=>aK w w'∧aK w1 w'∧j≤u.leaf.lems.length∧u.leaf.lems.all i6=(u.leaf.lems.drop j).all i6) (fun j=>u.leaf.lems.length-j) (0) ⟨rfl,rfl,rfl,rfl,trivial⟩ ⟨eL,e1L,by omega,rfl⟩ ?_
     rintro j wM ⟨eM,e1M,hj,hlm⟩
     refine af (aa (al E E E (aV) (ag (ab (af ?_)))))
     refine bz E (fun h58=>?_) (fun h58=>?_)
     ·refine aC (ab (af (aE (af ?_))))
      obtain⟨eq,heq⟩:∃eq,eq=u.leaf.lems[j]'(by omega):=⟨_,rfl⟩
      have hmm:eq∈u.leaf.lems:=by rw[heq];exact List.getElem_mem _
      rcases hq1:fP eq.va
      rotate_left
      rcases hq2:m0 eq.pf
      ·refine aa ?_
       obtain⟨a59,c59,p59,q59,h59⟩:=cd (P:=Tryz.prog) (sz:=6) MG (by kernel_rfl) cH (by omega) (hl.ext eM) (i:=j) (by omega) .i64
       rw[←heq] at h59
       obtain⟨x59_0,x59_1,x59_2,rfl,f59_0,f59_1,f59_2⟩:=fO h59
       refine aq E E E (p59 _) (ak E E (q59.ld MI E (by kernel_rfl)) ?_)
       obtain⟨g6,w6,hr6,l6,x6,k6⟩:=aX (P:=Tryz.prog) (w:=wM) (t:=173) (z:=.agg #[I 0,B false,B false,.slice none 0 0,.slice none 0 0,.slice none 0 0]) (l:=[I 0,B false,B false,.slice none 0 0,.slice none 0 0,.slice none 0 0]) (by kernel_rfl) rfl
       refine aT E hr6 ?_
       obtain⟨w11_3,s11_3,q11_3,k11_3⟩:=k6.stS (P:=Tryz.prog) (t:=173) (m:=[I eq.un,B eq.up,B eq.va.1,x59_0,x59_1,x59_2]) rfl (by kernel_rfl) (av.cons rfl (av.cons rfl (av.cons rfl (av.cons f59_0.one (av.cons f59_1.one (av.cons f59_2.one av.nil))))))
       refine au E E s11_3 ?_
       have x11_3:=aK.of_new (x6) q11_3 l6
       refine ag (ab (af (aa (ah rfl rfl (ar (o:=2) Tryz.underlying173 rfl (by kernel_rfl) rfl) (ak rfl rfl (k11_3.ldO (ms:=[B eq.va.1,x59_0,x59_1]) (o:=2) (fun j v hj=>by rcases j with _|_|_|_|_|_|_|_|_|j<;>simp_all) Tryz.underlying46 rfl (by kernel_rfl)) ?_)))))
       refine am fz E E ((by have h:=iK (q:=eq.va) (f59_0.ext x11_3) (f59_1.ext x11_3) (sl eq hmm).1;rw[hq1] at h;exact h)) ?_
       rintro v63 w63 ⟨x63,rfl⟩
       refine bt E E bu (ac E E (ai E (ah E E (ar (o:=5) MI E (by kernel_rfl) E) (ai E (ak E E (aj MH E (x63.cell_some (k11_3.cell (i:=5) E))) ?_)))))
       refine ai E (am tF E E ((by have h:=tG (f59_2.ext (x11_3.trans x63)) (sl eq hmm).2;rw[hq2] at h;exact h)) ?_)
       rintro v68 w68 ⟨x68,rfl⟩
       refine ai E (bt E E bu (aD E E E (ag (ab (bg E (af (aa (ae E E (ag (ab (aw (aZ (ay (ay (aZ (ay (az E E ?_)))))))))))))))))
       exact⟨_,rfl,(((eM.trans x11_3).trans x63).trans x68),by
        rw[cE (.inr (.inr (.inr (.inl (ey (by omega) (.inr (.inr (gQ (p:=i6) (i:=j) (by omega) hlm (by
         rw[←heq]
         unfold i6
         first
         |(rw[hq1];rfl)
         |(rw[hq2,Bool.and_false]))))))))))]
        rfl⟩
      ·refine aa ?_
       obtain⟨a59,c59,p59,q59,h59⟩:=cd (P:=Tryz.prog) (sz:=6) MG (by kernel_rfl) cH (by omega) (hl.ext eM) (i:=j) (by omega) .i64
       rw[←heq] at h59
       obtain⟨x59_0,x59_1,x59_2,rfl,f59_0,f59_1,f59_2⟩:=fO h59
       refine aq E E E (p59 _) (ak E E (q59.ld MI E (by kernel_rfl)) ?_)
       obtain⟨g6,w6,hr6,l6,x6,k6⟩:=aX (P:=Tryz.prog) (w:=wM) (t:=173) (z:=.agg #[I 0,B false,B false,.slice none 0 0,.slice none 0 0,.slice none 0 0]) (l:=[I 0,B false,B false,.slice none 0 0,.slice none 0 0,.slice none 0 0]) (by kernel_rfl) rfl
       refine aT E hr6 ?_
       obtain⟨w11_3,s11_3,q11_3,k11_3⟩:=k6.stS (P:=Tryz.prog) (t:=173) (m:=[I eq.un,B eq.up,B eq.va.1,x59_0,x59_1,x59_2]) rfl (by kernel_rfl) (av.cons rfl (av.cons rfl (av.cons rfl (av.cons f59_0.one (av.cons f59_1.one (av.cons f59_2.one av.nil))))))
       refine au E E s11_3 ?_
       have x11_3:=aK.of_new (x6) q11_3 l6
       refine ag (ab (af (aa (ah rfl rfl (ar (o:=2) Tryz.underlying173 rfl (by kernel_rfl) rfl) (ak rfl rfl (k11_3.ldO (ms:=[B eq.va.1,x59_0,x59_1]) (o:=2) (fun j v hj=>by rcases j with _|_|_|_|_|_|_|_|_|j<;>simp_all) Tryz.underlying46 rfl (by kernel_rfl)) ?_)))))
       refine am fz E E ((by have h:=iK (q:=eq.va) (f59_0.ext x11_3) (f59_1.ext x11_3) (sl eq hmm).1;rw[hq1] at h;exact h)) ?_
       rintro v63 w63 ⟨x63,rfl⟩
       refine bt E E bu (ac E E (ai E (ah E E (ar (o:=5) MI E (by kernel_rfl) E) (ai E (ak E E (aj MH E (x63.cell_some (k11_3.cell (i:=5) E))) ?_)))))
       refine ai E (am tF E E ((by have h:=tG (f59_2.ext (x11_3.trans x63)) (sl eq hmm).2;rw[hq2] at h;exact h)) ?_)
       rintro v68 w68 ⟨x68,rfl⟩
       refine ai E (bt E E bu (aD E E E (ag (ab (cr E (aC (aS (ab (aa (al (r:=I ((j+1:Nat):Int)) E E E (by have e:((j+1:Nat):Int)=(j:Int)+1:=(by omega);rw[e];exact aN (by omega) (by omega)) ?_))))))))))
       refine ac E E (ag ?_)
       refine bR (j+1) ⟨rfl,rfl,rfl,rfl,trivial⟩ ⟨(((eM.trans x11_3).trans x63).trans x68),(((e1M.trans x11_3).trans x63).trans x68),by omega,rW (p:=i6) (by omega) hlm (by rw[←heq];unfold i6;rw[hq1,hq2];rfl)⟩ (by omega)
      ·refine aa ?_
       obtain⟨a59,c59,p59,q59,h59⟩:=cd (P:=Tryz.prog) (sz:=6) MG (by kernel_rfl) cH (by omega) (hl.ext eM) (i:=j) (by omega) .i64
       rw[←heq] at h59
       obtain⟨x59_0,x59_1,x59_2,rfl,f59_0,f59_1,f59_2⟩:=fO h59
       refine aq E E E (p59 _) (ak E E (q59.ld MI E (by kernel_rfl)) ?_)
       obtain⟨g6,w6,hr6,l6,x6,k6⟩:=aX (P:=Tryz.prog) (w:=wM) (t:=173) (z:=.agg #[I 0,B false,B false,.slice none 0 0,.slice none 0 0,.slice none 0 0]) (l:=[I 0,B false,B false,.slice none 0 0,.slice none 0 0,.slice none 0 0]) (by kernel_rfl) rfl
       refine aT E hr6 ?_
       obtain⟨w11_3,s11_3,q11_3,k11_3⟩:=k6.stS (P:=Tryz.prog) (t:=173) (m:=[I eq.un,B eq.up,B eq.va.1,x59_0,x59_1,x59_2]) rfl (by kernel_rfl) (av.cons rfl (av.cons rfl (av.cons rfl (av.cons f59_0.one (av.cons f59_1.one (av.cons f59_2.one av.nil))))))
       refine au E E s11_3 ?_
       have x11_3:=aK.of_new (x6) q11_3 l6
       refine ag (ab (af (aa (ah rfl rfl (ar (o:=2) Tryz.underlying173 rfl (by kernel_rfl) rfl) (ak rfl rfl (k11_3.ldO (ms:=[B eq.va.1,x59_0,x59_1]) (o:=2) (fun j v hj=>by rcases j with _|_|_|_|_|_|_|_|_|j<;>simp_all) Tryz.underlying46 rfl (by kernel_rfl)) ?_)))))
       refine am fz E E ((by have h:=iK (q:=eq.va) (f59_0.ext x11_3) (f59_1.ext x11_3) (sl eq hmm).1;rw[hq1] at h;exact h)) ?_
       rintro v63 w63 ⟨x63,rfl⟩
       refine bt E E bu (ac E E (an E E E (an E E E (an E E E (an E E E (ap E E E (ag (ab (bg E (af (aa (ae E E ?_))))))))))))
       refine ag (ab (aw (aZ (ay (ay (aZ (ay (az E E ?_))))))))
       exact⟨_,rfl,((eM.trans x11_3).trans x63),by
        rw[cE (.inr (.inr (.inr (.inl (ey (by omega) (.inr (.inr (gQ (p:=i6) (i:=j) (by omega) hlm (by
         rw[←heq]
         unfold i6
         first
         |(rw[hq1];rfl)
         |(rw[hq2,Bool.and_false]))))))))))]
        rfl⟩
     ·refine bc (aI (aI (be (ab (af ?_)))))
      have hla:=nV (p:=i6) (l:=u.leaf.lems) (i:=j) (by omega) hlm
      refine aa (ah E E (ar (o:=1) Mz E (by kernel_rfl) E) (ah E E (cL (b:=1) (o:=1) Mt E (by kernel_rfl) E) ?_))
      refine ah rfl rfl (cL (b:=2) (o:=2) Tryz.underlying48 rfl (by kernel_rfl) rfl) (ak rfl rfl ((k1.ext e1M).ldO (ms:=[B u.leaf.split.at_.1,x,y]) (o:=4) (fun j v hj=>by rcases j with _|_|_|_|_|_|_|_|_|j<;>simp_all) Tryz.underlying46 rfl (by kernel_rfl)) ?_)
      refine am fz E E ((iK (q:=u.leaf.split.at_) (hx.ext eM) (hy.ext eM) sd)) ?_
      rintro v76 w76 ⟨x76,rfl⟩
      refine ae E E (ag (ab (aw (az E E ?_))))
      exact⟨_,rfl,(eM.trans x76),by
       congr 1
       cases hc:fP u.leaf.split.at_ with
       |false=>exact(cE (.inr (.inr (.inr (.inl (ey (by omega) (.inl hc))))))).symm
       |true=>exact(zw (by omega) (by omega) hv1 (AQ (by omega) hc hv2 hla) hpa).symm⟩
 ·refine aa (ah E E (ar (o:=0) Mz E (by kernel_rfl) E) (ak E E (aj ME E (k1.cell (i:=0) E)) ?_))
  refine aO E E (a6 ME (hd.ext x1)) (al E E E (ca) (ac E E ?_))
  refine ce (fun h11=>?_) (fun h11=>?_)
  ·refine an E E E (an E E E (an E E E (an E E E (an E E E (ap E E E (ac E E (an E E E (an E E E (an E E E ?_)))))))))
   refine an E E E (ap E E E (ac E E (an E E E (an E E E (an E E E (an E E E (an E E E (ap E E E (ag ?_)))))))))
   refine ab (bg E (af (aa (ae E E (ag (ab (aw (ay (az E E ?_)))))))))
   exact⟨_,rfl,x1,by
    rw[cE (by
     first
     |exact .inl (by omega)
     |exact .inr (.inl (by omega))
     |exact .inr (.inr (.inl hv1))
     |exact .inr (.inr (.inr (.inl (ey (by omega) (.inr (.inl hv2)))))))]
    rfl⟩
  ·refine ai E (ah E E (ar (o:=1) Mz E (by kernel_rfl) E) (ai E (ah E E (cL (b:=1) (o:=6) Mt E (by kernel_rfl) E) ?_)))
   refine ai E (ak E E (aj MF E (k1.cell (i:=7) E)) (ai E (aO E E (a6 MF (hk.ext x1)) ?_)))
   refine ai E (al E E E (ca) (aD E E E (ac E E ?_)))
   refine ce (fun h18=>?_) (fun h18=>?_)
   ·refine an E E E (an E E E (an E E E (an E E E (ap E E E (ac E E (an E E E (an E E E (an E E E (an E E E ?_)))))))))
    refine an E E E (ap E E E (ag (ab (bg E (af (aa (ae E E (ag (ab (aw (ay (az E E ?_))))))))))))
    exact⟨_,rfl,x1,by
     rw[cE (by
      first
      |exact .inl (by omega)
      |exact .inr (.inl (by omega))
      |exact .inr (.inr (.inl hv1))
      |exact .inr (.inr (.inr (.inl (ey (by omega) (.inr (.inl hv2)))))))]
     rfl⟩
   ·refine ai rfl (ah rfl rfl (ar (o:=1) Tryz.underlying54 rfl (by kernel_rfl) rfl) (ai rfl (ak rfl rfl (k1.ldO (ms:=[vl,I u.leaf.split.kd,I u.leaf.split.ix,B u.leaf.split.at_.1,x,y,vk,B u.leaf.empty,vp]) (o:=1) (fun j v hj=>by rcases j with _|_|_|_|_|_|_|_|_|j<;>simp_all) Tryz.underlying52 rfl (by kernel_rfl)) ?_)))
    refine ai E (am gJ E E ((by have h:=mZ (n:=u.leaf) (hl.ext x1) (hx.ext x1) (hy.ext x1) (hk.ext x1) (hp.ext x1);rw[hv1] at h;exact h)) ?_)
    rintro v21 w21 ⟨x21,rfl⟩
    refine ai E (bt E E bu (aD E E E (ac E E (an E E E (an E E E (an E E E (an E E E (an E E E (ap E E E ?_)))))))))
    refine ag (ab (bg E (af (aa (ae E E (ag (ab (aw (ay (az E E ?_))))))))))
    exact⟨_,rfl,(x1.trans x21),by
     rw[cE (by
      first
      |exact .inl (by omega)
      |exact .inr (.inl (by omega))
      |exact .inr (.inr (.inl hv1))
      |exact .inr (.inr (.inr (.inl (ey (by omega) (.inr (.inl hv2)))))))]
     rfl⟩
end Go.Rl
namespace Go.Rl
open Go.RowKit Go.Proofs
theorem qA:aG Tryz.prog 46:=⟨_,Tryz.func46,by kernel_rfl,rfl⟩
theorem DU:aG Tryz.prog 33:=⟨_,Tryz.func33,by kernel_rfl,rfl⟩
theorem jY:aG Tryz.prog 15:=⟨_,Tryz.func15,by kernel_rfl,rfl⟩
theorem qC {w:World} {b:List UInt8} {v:Value} {k:Nat} (hb:cJ b v w) (hk:k≤1099511627776):
 Calls Tryz.prog 46 #[v,I (k:Int)] w (bE fun r w'=>aK w w'∧r=B (eV b k)):=by
 refine enter (vs:=[v,I (k:Int)]) Tryz.func46 E E E ?_
 refine af (aa (ae E E (ag (ab (af (af (aa (ac E E (al E E E (aV) (ac E E ?_))))))))))
 refine ce (fun h7=>?_) (fun h7=>?_)
 ·refine an E E E (an E E E (an E E E (an E E E (an E E E (ap E E E (ag (ab (bg E (af (aa (ae E E (ag ?_))))))))))))
  refine ab (aw (ay (az E E ?_)))
  exact⟨_,rfl,aK.refl _,by
   unfold eV
   rw[decide_eq_false (by omega:¬k+8≤b.length)];rfl⟩
 ·refine ai E (ac E E (ai E (al (r:=I ((k+8:Nat):Int)) E E E (by have e:((k+8:Nat):Int)=(k:Int)+8:=(by omega);rw[e];exact aN (by omega) (by omega)) ?_)))
  refine ai E (ac E E (ai E (aO E E (cT hb) (ai E (al E E E (ca) (aD E E E (ag (ab ?_))))))))
  refine bz E (fun h13=>?_) (fun h13=>?_)
  ·refine af (aa (ae E E (ag (ab (aw (ay (az E E ?_)))))))
   exact⟨_,rfl,aK.refl _,by
    unfold eV
    rw[decide_eq_false (by omega:¬k+8≤b.length)];rfl⟩
  ·refine aC (ab (af (bI 11 [24] (by kernel_rfl) (by kernel_rfl) ?_)))
   refine aA E E (aA E E ?_)
   obtain⟨v16,p16,b16⟩:=iw hb (hi:=k) (by omega) .i64
   refine gw rfl rfl rfl rfl (fun w _=>p16 w) (cn (S:=cJ (Cq (b.take k))) pD (cJ.stable _) rfl (fun w hw=>by rintro _ rfl;exact bE.mono (pE (b16.ext hw) (by simp;omega)) fun v w' h=>⟨h.1,h.2.bts⟩) ?_)
   refine Jh E (cb.is _) E (fun w v hw hv=>⟨_,w,Ba hv,aK.refl _,rfl⟩) (aA E E (aA E E (bb (r:=I ((k+8:Nat):Int)) E E E (fun w _=>by have e:((k+8:Nat):Int)=(k:Int)+8:=(by omega);rw[e];exact aN (by omega) (by omega)) ?_)))
   obtain⟨v22,p22,b22⟩:=iw hb (hi:=k+8) (by omega) .i64
   refine gw E E E E (fun w _=>p22 w) (dK E E (fun w hw=>Ba (b22.ext hw)) (bb E E E (fun w _=>Jm) (cq ?_)))
   intro wg3 xg3
   rintro _ rfl
   refine ae E E (ag (ab (aw (az E E ?_))))
   exact⟨_,rfl,xg3,by
    unfold eV
    rw[decide_eq_true (by omega:k+8≤b.length)]
    simp⟩
theorem DV {w:World} {l m:List bU} {v u:Value} (hv:cC dC l v w) (hu:cC dC m u w):
 Calls Tryz.prog 33 #[v,u] w (bE fun r w'=>aK w w'∧r=B (decide (l=m))):=by
 refine enter (vs:=[v,u]) Tryz.func33 E E E ?_
 have hll:=hv.len
 have hml:=hu.len
 refine af (aa (ae E E (ag (ab (af (af (aa (ac E E (aO E E (a6 ME hv) (ac E E (aO E E (a6 ME hu) ?_)))))))))))
 refine al E E E (cX) (ag (ab ?_))
 refine bz E (fun h10=>?_) (fun h10=>?_)
 ·refine af (aa (ae E E (ag (ab (aw (ay (az E E ?_)))))))
  exact⟨_,rfl,aK.refl _,by rw[decide_eq_false (fun h=>by rw[h] at h10;exact h10 rfl)];rfl⟩
 ·refine aC (ab (af (af (aa (ae E E (ag (ab (aE ?_))))))))
  refine cf (α:=Nat) (fun i=>[(0,v),(1,u),(5,I (i:Int))]) (fun i w'=>aK w w'∧i≤l.length∧l.take i=m.take i) (fun i=>l.length-i) (0) ⟨rfl,rfl,rfl,trivial⟩ ⟨aK.refl _,by omega,rfl⟩ ?_
  rintro i wL ⟨eL,hi,hall⟩
  refine af (af (aa (ac E E (ac E E (aO E E (a6 ME (hv.ext eL)) (al E E E (aV) (ag (ab ?_))))))))
  refine bz E (fun h14=>?_) (fun h14=>?_)
  ·refine aC (ab (af (aE (af (bI 9 [0,1,5,25] (by kernel_rfl) (by kernel_rfl) ?_)))))
   refine aA E E (aA E E ?_)
   obtain⟨a19,c19,p19,q19,h19⟩:=cd (P:=Tryz.prog) (sz:=5) ME (by kernel_rfl) ck (by omega) (hv.ext eL) (i:=i) (by omega) .i64
   obtain⟨e19,he19⟩:∃e,e=l[i]'(by omega):=⟨_,rfl⟩
   rw[←he19] at h19
   obtain⟨x19_0,x19_1,rfl,f19_0,f19_1⟩:=gK h19
   refine aF E E E (fun w _=>p19 w) (aP E E (fun w hw=>(q19.ext hw).ld My E (by kernel_rfl)) (aA E E ?_))
   refine aA E E ?_
   obtain⟨a23,c23,p23,q23,h23⟩:=cd (P:=Tryz.prog) (sz:=5) ME (by kernel_rfl) ck (by omega) (hu.ext eL) (i:=i) (by omega) .i64
   obtain⟨e23,he23⟩:∃e,e=m[i]'(by omega):=⟨_,rfl⟩
   rw[←he23] at h23
   obtain⟨x23_0,x23_1,rfl,f23_0,f23_1⟩:=gK h23
   refine aF rfl rfl rfl (fun w _=>p23 w) (aP rfl rfl (fun w hw=>(q23.ext hw).ld My rfl (by kernel_rfl)) (cn (S:=Is (B (decide (e19=e23)))) uo (cb.is _) rfl (fun w hw=>by rintro _ rfl _ rfl;exact uq (a:=e19) (b:=e23) (f19_0.ext hw) (f19_1.ext hw) (f23_0.ext hw) (f23_1.ext hw)) ?_))
   refine cq ?_
   intro wg6 xg6
   rintro _ hq0
   obtain rfl:=Eq.symm hq0
   rintro _ hq1
   obtain rfl:=Eq.symm hq1
   rintro _ rfl
   rintro _ rfl
   refine bt E E bu (ag (ab ?_))
   refine fY E (fun h26=>?_) (fun h26=>?_)
   ·refine af (aa (ae E E (ag (ab (aw (aZ (ay (ay (aZ (ay (az E E ?_)))))))))))
    exact⟨_,rfl,(eL.trans xg6),by
     rw[decide_eq_false (fun h=>by
      subst h
      have e:=he19.trans he23.symm
      rw[e] at h26
      simp at h26)]
     rfl⟩
   ·refine aC (aS (ab (aa (ac E E (al (r:=I ((i+1:Nat):Int)) E E E (by have e:((i+1:Nat):Int)=(i:Int)+1:=(by omega);rw[e];exact aN (by omega) (by omega)) ?_)))))
    refine ae E E (ag ?_)
    refine bR (i+1) ⟨rfl,rfl,rfl,trivial⟩ ⟨(eL.trans xg6),by omega,by
     have h:e19=e23:=by simpa using h26
     rw[List.take_add_one,List.take_add_one,hall,List.getElem?_eq_getElem (by omega),List.getElem?_eq_getElem (by omega),←he19,←he23,h]⟩ (by omega)
  ·refine bc (aI (aI (be (ab (af (aa (ae E E (ag (ab (aw (az E E ?_)))))))))))
   exact⟨_,rfl,eL,by
    rw[List.take_of_length_le (by omega),List.take_of_length_le (by omega)] at hall
    rw[decide_eq_true hall];rfl⟩
theorem jZ {w:World} {l:List bZ} {v u:Value} (hv:cC i7 l v w) (hu:cC i7 l u w):
 Calls Tryz.prog 15 #[v,u] w (bE fun r w'=>aK w w'∧r=B true):=by
 refine enter (vs:=[v,u]) Tryz.func15 E E E ?_
 have hll:=hv.len
 refine af (aa (ae E E (ag (ab (af (af (aa (ac E E (aO E E (a6 ML hv) (ac E E (aO E E (a6 ML hu) ?_)))))))))))
 refine al E E E (cX) (ag (ab ?_))
 refine bz E (fun h10=>?_) (fun h10=>?_)
 ·refine af (aa (ae E E (ag (ab (aw (ay (az E E ?_)))))))
  exact absurd rfl h10
 ·refine aC (ab (af (af (aa (ae E E (ag (ab (aE ?_))))))))
  refine cf (α:=Nat) (fun i=>[(0,v),(1,u),(5,I (i:Int))]) (fun i w'=>aK w w'∧i≤l.length) (fun i=>l.length-i) (0) ⟨rfl,rfl,rfl,trivial⟩ ⟨aK.refl _,by omega⟩ ?_
  rintro i wL ⟨eL,hi⟩
  refine af (af (aa (ac E E (ac E E (aO E E (a6 ML (hv.ext eL)) (al E E E (aV) (ag (ab ?_))))))))
  refine bz E (fun h14=>?_) (fun h14=>?_)
  ·refine aC (ab (af (aE (af (bI 25 [0,1,5,29,41] (by kernel_rfl) (by kernel_rfl) ?_)))))
   refine aA (S:=Is (v)) E E (aA (S:=Is (I (i:Int))) E E ?_)
   obtain⟨a19,c19,p19,q19,h19⟩:=cd (P:=Tryz.prog) (sz:=10) ML (by kernel_rfl) cw (by omega) (hv.ext eL) (i:=i) (by omega) .i64
   obtain⟨e19,he19⟩:∃e,e=l[i]'(by omega):=⟨_,rfl⟩
   rw[←he19] at h19
   obtain⟨x19_0,x19_1,x19_2,x19_3,x19_4,x19_5,rfl,f19_0,f19_1,f19_2,f19_3,f19_4,f19_5⟩:=iE h19
   refine aF E E E (fun w _=>p19 w) (aW E E (fun w hw=>ij (o:=0) Mz E (by kernel_rfl) E) ?_)
   refine aP E E (fun w hw=>aj ME E (hw.cell_some (q19.at (j:=0) E))) (aA (S:=Is (u)) E E (aA (S:=Is (I (i:Int))) E E ?_))
   obtain⟨a24,c24,p24,q24,h24⟩:=cd (P:=Tryz.prog) (sz:=10) ML (by kernel_rfl) cw (by omega) (hu.ext eL) (i:=i) (by omega) .i64
   obtain⟨e24,he24⟩:∃e,e=l[i]'(by omega):=⟨_,rfl⟩
   rw[←he24] at h24
   obtain⟨x24_0,x24_1,x24_2,x24_3,x24_4,x24_5,rfl,f24_0,f24_1,f24_2,f24_3,f24_4,f24_5⟩:=iE h24
   refine aF E E E (fun w _=>p24 w) (aW E E (fun w hw=>ij (o:=0) Mz E (by kernel_rfl) E) ?_)
   refine aP rfl rfl (fun w hw=>aj ME rfl (hw.cell_some (q24.at (j:=0) rfl))) (cn (S:=Is (B true)) DU (cb.is _) rfl (fun w hw=>by rintro _ rfl _ rfl;exact bE.mono (DV (l:=l[i].path) (m:=l[i].path) (he19▸f19_0.ext hw) (he24▸f24_0.ext hw)) fun v w' h=>⟨h.1,by rw[h.2,decide_eq_true rfl];rfl⟩) ?_)
   refine vO E E (fun w _=>bu) (aA (S:=Is (B false)) E E (bo E E (aA (S:=Is (v)) E E (bo E E (aA (S:=Is (I (i:Int))) E E ?_)))))
   refine bo E E ?_
   obtain⟨a32,c32,p32,q32,h32⟩:=cd (P:=Tryz.prog) (sz:=10) ML (by kernel_rfl) cw (by omega) (hv.ext eL) (i:=i) (by omega) .i64
   obtain⟨e32,he32⟩:∃e,e=l[i]'(by omega):=⟨_,rfl⟩
   rw[←he32] at h32
   obtain⟨x32_0,x32_1,x32_2,x32_3,x32_4,x32_5,rfl,f32_0,f32_1,f32_2,f32_3,f32_4,f32_5⟩:=iE h32
   refine aF E E E (fun w _=>p32 w) (bo E E (aW E E (fun w hw=>ij (o:=1) Mz E (by kernel_rfl) E) ?_))
   refine bo rfl rfl (aP rfl rfl (fun w hw=>(q32.ext hw).ldO (ms:=[x32_1,I e32.leaf.split.kd,I e32.leaf.split.ix,B e32.leaf.split.at_.1,x32_2,x32_3,x32_4,B e32.leaf.empty,x32_5]) (o:=1) (fun j v hj=>by rcases j with _|_|_|_|_|_|_|_|_|j<;>simp_all) Tryz.underlying52 rfl (by kernel_rfl)) ?_)
   refine bo E E (aA (S:=Is (u)) E E (bo E E (aA (S:=Is (I (i:Int))) E E (bo E E ?_))))
   obtain⟨a37,c37,p37,q37,h37⟩:=cd (P:=Tryz.prog) (sz:=10) ML (by kernel_rfl) cw (by omega) (hu.ext eL) (i:=i) (by omega) .i64
   obtain⟨e37,he37⟩:∃e,e=l[i]'(by omega):=⟨_,rfl⟩
   rw[←he37] at h37
   obtain⟨x37_0,x37_1,x37_2,x37_3,x37_4,x37_5,rfl,f37_0,f37_1,f37_2,f37_3,f37_4,f37_5⟩:=iE h37
   refine aF E E E (fun w _=>p37 w) (bo E E (aW E E (fun w hw=>ij (o:=1) Mz E (by kernel_rfl) E) ?_))
   refine bo rfl rfl (aP rfl rfl (fun w hw=>(q37.ext hw).ldO (ms:=[x37_1,I e37.leaf.split.kd,I e37.leaf.split.ix,B e37.leaf.split.at_.1,x37_2,x37_3,x37_4,B e37.leaf.empty,x37_5]) (o:=1) (fun j v hj=>by rcases j with _|_|_|_|_|_|_|_|_|j<;>simp_all) Tryz.underlying52 rfl (by kernel_rfl)) ?_)
   refine bo rfl rfl (cn (S:=Is (B true)) Cg (cb.is _) rfl (fun w hw=>by rintro _ rfl _ rfl;obtain rfl:e37=e32:=he37.trans he32.symm;exact Ci _ (Nat.le_refl _) (f32_1.ext hw) (f32_2.ext hw) (f32_3.ext hw) (f32_4.ext hw) (f32_5.ext hw) (f37_1.ext hw) (f37_2.ext hw) (f37_3.ext hw) (f37_4.ext hw) (f37_5.ext hw)) ?_)
   refine bo E E (vO E E (fun w _=>bu) (cq ?_))
   intro wg6 xg6
   rintro _ hq0
   obtain rfl:=Eq.symm hq0
   rintro _ hq1
   obtain rfl:=Eq.symm hq1
   rintro _ rfl
   rintro _ rfl
   rintro _ rfl
   refine aD E E E (ag (ab (cr E (aC (aS (ab (aa (ac E E (al (r:=I ((i+1:Nat):Int)) E E E (by have e:((i+1:Nat):Int)=(i:Int)+1:=(by omega);rw[e];exact aN (by omega) (by omega)) ?_)))))))))
   refine ae E E (ag ?_)
   refine bR (i+1) ⟨rfl,rfl,rfl,trivial⟩ ⟨(eL.trans xg6),by omega⟩ (by omega)
  ·refine bc (aI (aI (be (ab (af (aa (ae E E (ag (ab (aw (az E E ?_)))))))))))
   exact⟨_,rfl,eL,rfl⟩
end Go.Rl
namespace Go.Rl
open Go.RowKit Go.Proofs
theorem Cs:aG Tryz.prog 50:=⟨_,Tryz.func50,by kernel_rfl,rfl⟩
theorem GG {l t:List UInt8} {d:bU} (h:oB l=some (d,t)) (hl:l.length≤4294967296):sQ d.at_:=by
 unfold oB at h
 obtain⟨p1,h1,h⟩:=Option.bind_eq_some_iff.1 h
 obtain⟨p2,h2,h⟩:=Option.bind_eq_some_iff.1 h
 obtain⟨p3,h3,h⟩:=Option.bind_eq_some_iff.1 h
 cases h
 have l1:=eZ.le l _ _ h1
 have l2:=eZ.le p1.2 _ _ h2
 exact qw h3 (by omega)
theorem sw {l t:List UInt8} {u:bZ} (h:lE l=some (u,t)) (hl:l.length≤4294967296):KG u:=by
 unfold lE at h
 obtain⟨p1,h1,h⟩:=Option.bind_eq_some_iff.1 h
 obtain⟨p2,h2,h⟩:=Option.bind_eq_some_iff.1 h
 cases h
 have l1:=(uf nO.le).le l _ _ h1
 exact⟨rZ nO.le (fun _ _ _ h hl=>GG h hl) h1 hl,si p1.2.length p1.2 _ _ h2 (by omega)⟩
def Mm (base:Nat) (b:List UInt8) (r:Value) (w':World):Prop:=∃(u:bZ) (cs:List Value) (ok:Bool),r=.tuple #[.agg cs.toArray,B ok]∧cN (fun k=>k<base) w' (i7 u) cs∧av cs∧(ok=true→jC b=some u)∧(ok=false→jC b=none)
theorem kJ {X:Nat→Prop} {w:World} {u:bZ} {v:Value} {cs:List Value} (h1:cN X w (.sl (u.path.map dC)) [v]) (h2:cN X w (bG u.leaf) cs):cN X w (i7 u) (v::cs):=by
 unfold i7
 simp only[cN.eq_5]
 have:=aR.cons (a:=[v]) h1 (aR.cons (a:=cs) h2 aR.nil)
 simpa using this
def IU:aY:=.mk [] lC [] false []
theorem vI {X:Nat→Prop} {w:World}:cN X w (bG IU) [.slice none 0 0,I 0,I 0,B false,.slice none 0 0,.slice none 0 0,.slice none 0 0,B false,.slice none 0 0]:=eG (ls:=[]) (d:=lC) (ks:=[]) (em:=false) (ps:=[]) j7 jL j7 j7
abbrev Ct:List Value:=[.slice none 0 0,I 0,I 0,B false,.slice none 0 0,.slice none 0 0,.slice none 0 0,B false,.slice none 0 0]
section
variable {P:Program} {ops:Array Oper} {Q:ja} {N:Nat} {D:List Deferred} {S:World→Prop} {fuel:Nat} {listed:Array Bool} {l:Fr} {w:World} {d:Nat} {ty:TypeId} {pos:String} {aft:Array Edge}
theorem Fc (i:Nat) {c x y:Operand} {u:Value} (hi:ops[i]? =some ⟨some d,.pick c x y,ty,pos,aft,none⟩) (hc:ev l c=some (.bool true)) (hx:ev l x=some u) (hB:nE ops listed i=true) (hd:Nat.blt d N=true) (hS:S w)
 (k:dA P ops Q N D S fuel (listed.setIfInBounds i true) ((d,u)::l) w):dA P ops Q N D S (fuel+1) listed l w:=
 yJ i hi hB hd hS (fun ρ w' hρ _=>by simp[execOp,hρ c _ hc,asBool,hρ x _ hx]) k
theorem qG (i:Nat) {c x y:Operand} {v:Value} (hi:ops[i]? =some ⟨some d,.pick c x y,ty,pos,aft,none⟩) (hc:ev l c=some (.bool false)) (hy:ev l y=some v) (hB:nE ops listed i=true) (hd:Nat.blt d N=true) (hS:S w)
 (k:dA P ops Q N D S fuel (listed.setIfInBounds i true) ((d,v)::l) w):dA P ops Q N D S (fuel+1) listed l w:=
 yJ i hi hB hd hS (fun ρ w' hρ _=>by simp[execOp,hρ c _ hc,asBool,hρ y _ hy]) k
end
theorem AR {P:Program} {w:World} {t:TypeId} {x y:Operand}:(bin .eql t x y (I (if some ([]:List UInt8)=some [] then 0 else 5)) (I 0)).run P w=.ok (B true) w:=H6 (l:=[])
theorem Fd {P:Program} {w:World} {t:TypeId} {x y:Operand} {c:UInt8} {l:List UInt8}:(bin .eql t x y (I (if some (c::l)=some [] then 0 else 5)) (I 0)).run P w=.ok (B false) w:=by
 have h:=H6 (P:=P) (w:=w) (t:=t) (x:=x) (y:=y) (l:=c::l)
 rwa [decide_eq_false (by simp)] at h
theorem xX {b l l7:List UInt8} {ds:List bU} {nd:aY} (h1:fR (dq oB) (some b) ds (some l)) (h2:im l=some (nd,l7)):lE b=some (⟨ds,nd⟩,l7):=by
 have h1':dq oB b=some (ds,l):=h1
 unfold lE
 rw[h1']
 show(im l).bind _=_
 rw[h2];rfl
theorem DW {b:List UInt8} {ds:List bU} (h1:fR (dq oB) (some b) ds none):jC b=none:=by
 have h1':dq oB b=none:=h1
 unfold jC lE
 rw[h1'];rfl
theorem DX {b l:List UInt8} {ds:List bU} (h1:fR (dq oB) (some b) ds (some l)) (h2:im l=none):jC b=none:=by
 have h1':dq oB b=some (ds,l):=h1
 have h3:lE b=none:=by
  unfold lE
  rw[h1']
  show(im l).bind _=_
  rw[h2];rfl
 unfold jC
 rw[h3]
theorem DY {b l7:List UInt8} {u:bZ} {c:UInt8} (h:lE b=some (u,c::l7)):jC b=none:=by
 unfold jC
 rw[h]
theorem Cu {b:List UInt8} {u:bZ} (h:lE b=some (u,[])) (hv:bQ u=false):jC b=none:=by
 unfold jC
 rw[h]
 exact if_neg (by rw[hv];simp)
theorem Cv {w:World} {b:List UInt8} {v:Value} (hv:cJ b v w) (hl:b.length≤4294967296):
 Calls Tryz.prog 50 #[v] w (bE fun r w'=>aK w w'∧Mm w.heap.size b r w'):=by
 refine enter (vs:=[v]) Tryz.func50 E E E ?_
 obtain⟨N,s1,qU,hN,cU⟩:=An (some b)
 have hb:i0 (some b):=fun l e=>by cases e;omega
 refine af (aa ?_)
 obtain⟨g2,w2,hr2,l2,x2,k2⟩:=aX (P:=Tryz.prog) (w:=w) (t:=54) (z:=.agg #[.slice none 0 0,.slice none 0 0,I 0,I 0,B false,.slice none 0 0,.slice none 0 0,.slice none 0 0,B false,.slice none 0 0]) (l:=[.slice none 0 0,.slice none 0 0,I 0,I 0,B false,.slice none 0 0,.slice none 0 0,.slice none 0 0,B false,.slice none 0 0]) (by kernel_rfl) rfl
 refine aT E hr2 (ae E E (ag (ab (af (aa (ac E E (am qk E E ((ql (hv.ext x2) (by omega))) ?_)))))))
 rintro v11 w11 ⟨x11,g,lg,rfl,hr11⟩
 refine ae E E (ag (ab (af (aa (ac E E (am fE E E ((cU hr11)) ?_))))))
 rintro v14 w14 ⟨g14,rfl,hr14⟩
 have m14:=eA.kp hr11 g14
 have hl1:∀l,s1=some l→l.length≤b.length:=fun l e=>by
  have h:=qU
  rw[e] at h
  exact lS.le b _ _ h
 have hgl:=cv.lt hr11
 have hg2:g2<g:=by have:=k2.lt;omega
 refine ac E E (ao E E (bj) (ao E E (bk) (ae E E (ae E E (ag (ab (af (aa ?_))))))))
 obtain⟨g7,w7,hr7,l7,x7,k7⟩:=aX (P:=Tryz.prog) (w:=w14) (t:=54) (z:=.agg #[.slice none 0 0,.slice none 0 0,I 0,I 0,B false,.slice none 0 0,.slice none 0 0,.slice none 0 0,B false,.slice none 0 0]) (l:=[.slice none 0 0,.slice none 0 0,I 0,I 0,B false,.slice none 0 0,.slice none 0 0,.slice none 0 0,B false,.slice none 0 0]) (by kernel_rfl) rfl
 refine aT E hr7 ?_
 have m27:Mv (RX g) w2 w7:=((Mv.of_ext x11).trans (Mv.of_grown g14 fun k hk _=>(Option.some.inj hk).symm) fun _ h _=>h).trans (Mv.of_ext x7) fun _ h _=>h
 have k27:=m27.blk k2 (fun e=>by have:g2=g:=e;omega)
 have hr7:=cv.ext hr14 x7
 have hg7:g<g7:=by have:=g14.size;omega
 refine ag (ab (af (aa (ac E E (al (r:=B s1.isSome) E E E (Ao) (ae E E (ag (ab (af (aE ?_))))))))))
 refine jf (fun(k:Nat) (v:Value) (so:Option (List UInt8)) (ds:List bU)=>[(2,.pointer (some ⟨g2,0,none⟩)),(4,.pointer (some ⟨g,0,none⟩)),(5,bF (UInt64.ofNat N)),(7,.pointer (some ⟨g7,0,none⟩)),(8,B so.isSome)]) (fun(k:Nat) (v:Value) (so:Option (List UInt8)) (ds:List bU) w'=>Mv (fun k=>k=g∨k=g7) w7 w'∧cv g so w'∧ct g7 54 (v::Ct) w'∧gq 48 5 w7.heap.size dC ds v w'∧k+ds.length=N∧s1.bind (bT oB N)=so.bind (fun l=>(bT oB k l).map fun p=>(ds++p.1,p.2))∧ds.length≤4294967299∧∀l,so=some l→l.length+ds.length≤4294967296) (fun(k:Nat) (v:Value) (so:Option (List UInt8)) (ds:List bU)=>k) (N) (.slice none 0 0) (s1) ([]) ⟨rfl,rfl,rfl,rfl,rfl,trivial⟩ ⟨Mv.refl _ _,hr7,k7,gq.nil _,by simp,rQ,by simp,fun l e=>by have:=hl1 l e;simp;omega⟩ ?_
 rintro k v so ds wL ⟨mL,hrL,kL,oL,hk,hR,hql,hsl⟩
 refine af (af ?_)
 have rL:=oL.rpx ck (by omega)
 have dL:cC dC ds v wL:=rL.rp
 have hvo:v.oneCell'=true:=by obtain⟨_,_,_,rfl⟩:=oL.isS;rfl
 have hnl:ds.length<18446744073709551616:=by omega
 have sz7:=mL.size
 have lt7:=k7.lt
 have k2L:=mL.blk k27 (by rintro(h|h)<;>omega)
 rcases so with _|l
 rotate_left
 rcases Nat.eq_zero_or_pos k with h0|h0
 rotate_left
 ·refine aa (ac E E (ac E E (ai E (ah E E (ar (o:=0) Mz E (by kernel_rfl) E) (ai E ?_)))))
  refine ak E E (aj ME E (kL.cell (i:=0) E)) (ai E (aO E E (a6 ME dL) ?_))
  refine ai E (a9 E E (mY Mx MA) (ai E (ac E E (ai E (al E E E (ci ((Je hnl hN).2 (by omega)) gU) ?_)))))
  refine ap E E E (ag (ab (bg E (aC (ab (aE (af (aa ?_))))))))
  obtain⟨g9,w9,hr9,l9,x9,k9⟩:=aX (P:=Tryz.prog) (w:=wL) (t:=48) (z:=.agg #[I 0,I 0,B false,.slice none 0 0,.slice none 0 0]) (l:=[I 0,I 0,B false,.slice none 0 0,.slice none 0 0]) (by kernel_rfl) rfl
  refine aT E hr9 (ag (ab (af ?_)))
  have hr9:=cv.ext hrL x9
  have e9:=x9
  have lt9:=k9.lt
  have szM9:=e9.size
  have hg9:g<g9:=by omega
  have hll:i0 (some l):=fun l' e=>by cases e;have:=hsl l rfl;omega
  refine aa (ac E E (am yW E E ((yY hr9 hll)) ?_))
  rintro v30 w30 ⟨m30,d,x,y,s6,rfl,rp30,hx1,hy1,hr30,q30⟩
  have m30:=m30
  have k9a:=m30.blk k9 (fun e=>by have:g9=g:=e;omega)
  have h1cs:av [I d.kd,I d.ix,B d.at_.1,x,y]:=av.cons rfl (av.cons rfl (av.cons rfl (av.cons hx1 (av.cons hy1 av.nil))))
  obtain⟨wn,sn,qn,kn⟩:=k9a.stS (P:=Tryz.prog) (t:=48) (m:=[I d.kd,I d.ix,B d.at_.1,x,y]) rfl (by kernel_rfl) h1cs
  have mn:Mv (fun k=>k=g9) w30 wn:=Mv.of_grown qn fun k hk _=>(Option.some.inj hk).symm
  have rn:cv g s6 wn:=hr30.mv mn fun j hj=>by omega
  have mAll:Mv (RX g) wL wn:=((Mv.of_ext e9).trans m30 fun _ hj _=>hj).trans mn fun j hj hlt=>by omega
  have k7n:=mAll.blk kL (fun e=>by have:g7=g:=e;omega)
  have oN:=oL.mv mAll (fun j hj=>by have:j=g:=hj;omega)
  have rpn:=rp30.mv (mn.weak fun j hj _=>by show j<w9.heap.size;omega) fun _ hk=>.inl hk
  have own:∀j,v.ownBlock=some j→w7.heap.size≤j∧j<wL.heap.size:=oL.lt
  have hY:∀j,(j<w7.heap.size∨v.ownBlock=some j)→j<w9.heap.size:=fun j hj=>by
   rcases hj with hj|hj
   ·omega
   ·have:=(own j hj).2;omega
  obtain⟨x36,w36,v37,w37,hr36,hr37,o37,m37,n37⟩:=oN.push (ty:=41) (t:=41) ME py rfl (by omega) (by omega) (by omega) h1cs (rpn.weak fun j hj=>.inl (hY j hj)) ck (by omega) (Nat.le_trans sz7 mAll.size)
  have k7m:=m37.blk k7n (fun e=>by have:=own g7 e;omega)
  have hv37:v37.oneCell'=true:=by obtain⟨_,_,_,rfl⟩:=o37.isS;rfl
  obtain⟨wz,sz,qz,kz⟩:=k7m.stC (P:=Tryz.prog) (t:=41) (i:=0) (v:=v37) (by kernel_rfl) hv37 (by simp)
  have mz:Mv (fun k=>k=g7) w37 wz:=Mv.of_grown qz fun k hk _=>(Option.some.inj hk).symm
  refine ac E E (ao E E (bj) (ao E E (bk) ?_))
  refine au E E sn ?_
  refine ae E E (ag (ab (aa (ah E E (ar (o:=0) Mz E (by kernel_rfl) E) (ak E E (aj ME E (k7n.cell (i:=0) E)) ?_)))))
  refine ak E E (kn.ld My E (by kernel_rfl)) ?_
  refine aJ (vs:=[(0,.agg #[I d.kd,I d.ix,B d.at_.1,x,y])]) E E hr36 ?_
  refine ba E E hr37 ?_
  refine ah E E (ar (o:=0) Mz E (by kernel_rfl) E) ?_
  refine au E E sz ?_
  obtain⟨k',rfl⟩:∃k',k=k'+1:=⟨k-1,by omega⟩
  refine ag (aS ?_)
  refine fj (k') (v37) (s6) (ds++[d]) ⟨rfl,rfl,rfl,rfl,rfl,trivial⟩ ⟨((mL.trans (mAll.weak fun j hj _=>.inl hj) fun _ hj _=>hj).trans m37 fun j hj hlt=>by have:=(own j hj).1;omega).trans (mz.weak fun j hj _=>.inr hj) fun _ hj _=>hj,(rn.mv m37 fun j hj=>by have:=(own j hj).1;omega).mv mz fun j hj=>by omega,kz,o37.mv mz (fun j hj=>by omega),by simp;omega,qp hR q30,by have:=hsl l rfl;simp;omega,fun l6 e=>by
   have h:=q30
   rw[e] at h
   have:=nO l _ l6 h
   have:=hsl l rfl
   simp;omega⟩ (by omega)
 ·obtain⟨nd,hnd⟩:∃nd,nd=IU:=⟨_,rfl⟩
  have rpy:cN (fun k=>k<w7.heap.size) wL (bG nd) Ct:=hnd▸vI
  have oy:=oL
  have my:=mL
  have k2y:=k2L
  have hoy:av Ct:=av.cons rfl (av.cons rfl (av.cons rfl (av.cons rfl (av.cons rfl (av.cons rfl (av.cons rfl (av.cons rfl (av.cons rfl av.nil))))))))
  obtain⟨vl,x,y,vk,vp,ez,n1,n2,n3,n4,n5⟩:=d9 rpy.rp
  have ky:ct g7 54 (v::Ct) wL:=kL
  rw[ez] at ky rpy hoy
  refine aa (ac E E (ac E E (an E E E (an E E E (an E E E (an E E E (an E E E (an E E E (aD E E E ?_)))))))))
  refine ag (ab (cr E (bc (aI (aI (be (ab (af (af (aa (ac E E (ag (ab (cr E (aC (ab (af ?_)))))))))))))))))
  have hS:Mv (fun k=>k=g2) wL wL.drew:=Mv.of_ext ((aK.refl wL).drew)
  have e11:aK wL wL.drew:=(aK.refl wL).drew
  refine ig (Mv (fun k=>k=g2) wL) 13 E (by kernel_rfl) ?_
  refine gd 0 E E (by kernel_rfl) E hS (fun w' hw'=>(hw'.blk ky (fun e=>by omega)).ld Mz E (by kernel_rfl)) ?_
  refine aQ 1 (by kernel_rfl) E (ac E E (aH hS ?_))
  refine aQ 2 (by kernel_rfl) E (ac E E (aH hS ?_))
  refine aQ 3 (by kernel_rfl) E (an E E E (aH hS ?_))
  refine aQ 4 (by kernel_rfl) E (an E E E (aH hS ?_))
  refine aQ 5 (by kernel_rfl) E (an E E E (aH hS ?_))
  refine aQ 6 (by kernel_rfl) E (aD E E E (aH hS ?_))
  refine aQ 7 (by kernel_rfl) E (ac E E (aH hS ?_))
  refine aQ 8 (by kernel_rfl) E (an E E E (aH hS ?_))
  refine aQ 9 (by kernel_rfl) E (an E E E (aH hS ?_))
  refine qG 10 E E E (by kernel_rfl) E hS ?_
  have k2g:=k2y.ext e11
  have hon:av (v::[vl,I nd.split.kd,I nd.split.ix,B nd.split.at_.1,x,y,vk,B nd.empty,vp]):=av.cons hvo hoy
  obtain⟨wd,sd,qd,kd⟩:=k2g.stS (P:=Tryz.prog) (t:=54) (m:=[v,vl,I nd.split.kd,I nd.split.ix,B nd.split.at_.1,x,y,vk,B nd.empty,vp]) rfl (by kernel_rfl) hon
  have md:Mv (fun k=>k=g2) wL.drew wd:=Mv.of_grown qd fun k hk _=>(Option.some.inj hk).symm
  have hSd:Mv (fun k=>k=g2) wL wd:=(Mv.of_ext e11).trans md fun _ hj _=>hj
  have mF:Mv (fun k=>k=g2∨k=g∨k=g7) w2 wd:=((m27.weak fun j hj _=>.inr (.inl hj)).trans (my.weak fun j hj _=>.inr hj) fun _ hj _=>hj).trans (hSd.weak fun j hj _=>.inl hj) fun _ hj _=>hj
  have eF:aK w wd:=Mv.ext_from mF x2 (by rintro j (h|h|h)<;>omega)
  have oF:=oy.mv hSd (fun j hj=>by omega)
  have rF:cN (fun k=>k<w.heap.size) wd (i7 ⟨ds,nd⟩) [v,vl,I nd.split.kd,I nd.split.ix,B nd.split.at_.1,x,y,vk,B nd.empty,vp]:=kJ (u:=⟨ds,nd⟩) ((oF.rpx ck (by omega)).weak fun j hj=>.inl (by show j<w7.heap.size;omega)) (rpy.mv (hSd.weak fun j hj _=>by show j<w7.heap.size;omega) fun j hj=>.inl (by show j<w7.heap.size;omega))
  refine aQ 11 (by kernel_rfl) E (au E E sd (aH hSd ?_))
  refine aQ 12 (by kernel_rfl) E (ae E E (aH hSd (ii (by kernel_rfl) ?_)))
  refine ab (aw ?_)
  refine cD E E E kd Mz E (by kernel_rfl) ?_
  exact⟨_,rfl,eF,⟨ds,nd⟩,_,false,rfl,rF,hon,(fun e=>nomatch e),fun _=>DW (ds:=ds) (ui qU hR)⟩
 ·refine aa (ac E E (ac E E (ai E (ah E E (ar (o:=0) Mz E (by kernel_rfl) E) (ai E ?_)))))
  refine ak E E (aj ME E (kL.cell (i:=0) E)) (ai E (aO E E (a6 ME dL) ?_))
  refine ai E (a9 E E (mY Mx MA) (ai E (ac E E (ai E (al E E E (cY (mt (Je hnl hN).1 (by omega)) gU) ?_)))))
  refine ap E E E (ag (ab (cr E (bc (aI (aI (be (ab (af (af (aa (ac E E (ag (ab (bg E ?_)))))))))))))))
  have hll:i0 (some l):=fun l' e=>by cases e;have:=hsl l rfl;omega
  refine aa (ac rfl rfl (am xj rfl rfl ((Dq l.length hrL hll (fun l' e=>by cases e;exact Nat.le_refl _))) ?_))
  rintro v42 w42 ⟨m42,nd,cs,s7,ok7,rfl,rp42,hoy,hr42,hNd⟩
  have m42:=m42
  have hcs:cs.length=9:=rp42.len.trans (cG nd)
  have k7b:=m42.blk kL (fun e=>by have:g7=g:=e;omega)
  obtain⟨wy,sy,qy,ky⟩:=k7b.stO (P:=Tryz.prog) (t:=52) (m:=cs) 1 (by simp[hcs]) (by rw[hcs];kernel_rfl) hoy
  have mz:Mv (fun k=>k=g7) w42 wy:=Mv.of_grown qy fun k hk _=>(Option.some.inj hk).symm
  have rpz:=rp42.mv (mz.weak fun j hj _=>by show j<wL.heap.size;omega) fun _ hk=>.inl hk
  have rpy:cN (fun k=>k<w7.heap.size) wy (bG nd) cs:=rpz.weak fun j hj=>.inl (by show j<wL.heap.size;omega)
  have hry:=hr42.mv mz fun j hj=>by omega
  have mLy:Mv (fun k=>k=g∨k=g7) wL wy:=(m42.weak fun j hj _=>.inl hj).trans (mz.weak fun j hj _=>.inr hj) fun _ hj _=>hj
  have my:=mL.trans mLy fun _ hj _=>hj
  have oy:=oL.mv mLy (by rintro j (hj|hj)<;>omega)
  have k2y:=mLy.blk k2L (by rintro(h|h)<;>omega)
  refine ac E E (ao E E (bj) (ao E E (bk) (ah E E (ar (o:=1) Mz E (by kernel_rfl) E) ?_)))
  refine au E E sy ?_
  refine ae E E (ag (ab (af ?_)))
  obtain⟨vl,x,y,vk,vp,rfl,n1,n2,n3,n4,n5⟩:=d9 rpy.rp
  have kz:ct g7 54 [v,vl,I nd.split.kd,I nd.split.ix,B nd.split.at_.1,x,y,vk,B nd.empty,vp] wy:=ky
  have dz:cC dC ds v wy:=(oy.rpx ck (by omega)).rp
  have hD:fR (dq oB) (some b) ds (some l):=by subst h0;exact uh qU hR
  rcases ok7 with _|_
  rotate_left
  obtain⟨h6,h7⟩:=hNd.1 rfl
  rcases s7 with _|l7
  ·exact absurd rfl h7
  rcases l7 with _|⟨c7,l7⟩
  ·have hE:lE b=some (⟨ds,nd⟩,[]):=xX hD h6
   have hsm:=sw hE hl
   have hS:Mv (fun k=>k=g2) wy wy.drew:=Mv.of_ext ((aK.refl wy).drew)
   have e11:aK wy wy.drew:=(aK.refl wy).drew
   refine ig (Mv (fun k=>k=g2) wy) 13 E (by kernel_rfl) ?_
   refine gd 0 E E (by kernel_rfl) E hS (fun w' hw'=>(hw'.blk kz (fun e=>by omega)).ld Mz E (by kernel_rfl)) ?_
   refine aQ 1 (by kernel_rfl) E (ac E E (aH hS ?_))
   refine aQ 2 (by kernel_rfl) E (ac E E (aH hS ?_))
   refine aQ 3 (by kernel_rfl) E (ai E (ac E E (aH hS ?_)))
   refine aQ 4 (by kernel_rfl) E (ai E (am wV E E (EN (eA.ext hry e11)) ?_))
   rintro _ _ ⟨rfl,rfl⟩
   refine aH hS ?_
   refine aQ 5 (by kernel_rfl) E (ai E (al (r:=B true) E E E (AR) (aH hS ?_)))
   refine aQ 6 (by kernel_rfl) E (ap E E E (aH hS ?_))
   refine aQ 7 (by kernel_rfl) E (ac E E (aH hS ?_))
   refine aQ 8 (by kernel_rfl) E (ai E (ak E E ((kz.ext e11).ld Mz E (by kernel_rfl)) (aH hS ?_)))
   refine aQ 9 (by kernel_rfl) E (ai E (am su E E (sv (u:=⟨ds,nd⟩) (cC.ext dz e11) (cC.ext n1 e11) (n2.ext e11) (n3.ext e11) (cC.ext n4 e11) (cC.ext n5 e11) hsm) ?_))
   rintro _ w55 ⟨x55,rfl⟩
   have e11:aK wy w55:=e11.trans x55
   have hS:Mv (fun k=>k=g2) wy w55:=Mv.of_ext e11
   refine aH hS ?_
   refine Fc 10 E E E (by kernel_rfl) E hS ?_
   have k2g:=k2y.ext e11
   have hon:av (v::[vl,I nd.split.kd,I nd.split.ix,B nd.split.at_.1,x,y,vk,B nd.empty,vp]):=av.cons hvo hoy
   obtain⟨wd,sd,qd,kd⟩:=k2g.stS (P:=Tryz.prog) (t:=54) (m:=[v,vl,I nd.split.kd,I nd.split.ix,B nd.split.at_.1,x,y,vk,B nd.empty,vp]) rfl (by kernel_rfl) hon
   have md:Mv (fun k=>k=g2) w55 wd:=Mv.of_grown qd fun k hk _=>(Option.some.inj hk).symm
   have hSd:Mv (fun k=>k=g2) wy wd:=(Mv.of_ext e11).trans md fun _ hj _=>hj
   have mF:Mv (fun k=>k=g2∨k=g∨k=g7) w2 wd:=((m27.weak fun j hj _=>.inr (.inl hj)).trans (my.weak fun j hj _=>.inr hj) fun _ hj _=>hj).trans (hSd.weak fun j hj _=>.inl hj) fun _ hj _=>hj
   have eF:aK w wd:=Mv.ext_from mF x2 (by rintro j (h|h|h)<;>omega)
   have oF:=oy.mv hSd (fun j hj=>by omega)
   have rF:cN (fun k=>k<w.heap.size) wd (i7 ⟨ds,nd⟩) [v,vl,I nd.split.kd,I nd.split.ix,B nd.split.at_.1,x,y,vk,B nd.empty,vp]:=kJ (u:=⟨ds,nd⟩) ((oF.rpx ck (by omega)).weak fun j hj=>.inl (by show j<w7.heap.size;omega)) (rpy.mv (hSd.weak fun j hj _=>by show j<w7.heap.size;omega) fun j hj=>.inl (by show j<w7.heap.size;omega))
   refine aQ 11 (by kernel_rfl) E (au E E sd (aH hSd ?_))
   refine aQ 12 (by kernel_rfl) E (ae E E (aH hSd (ii (by kernel_rfl) ?_)))
   refine ab (aw ?_)
   refine cD E E E kd Mz E (by kernel_rfl) ?_
   exact⟨_,rfl,eF,⟨ds,nd⟩,_,bQ ⟨ds,nd⟩,rfl,rF,hon,(fun e=>AJ hE e),fun e=>Cu hE e⟩
  ·have hS:Mv (fun k=>k=g2) wy wy.drew:=Mv.of_ext ((aK.refl wy).drew)
   have e11:aK wy wy.drew:=(aK.refl wy).drew
   refine ig (Mv (fun k=>k=g2) wy) 13 E (by kernel_rfl) ?_
   refine gd 0 E E (by kernel_rfl) E hS (fun w' hw'=>(hw'.blk kz (fun e=>by omega)).ld Mz E (by kernel_rfl)) ?_
   refine aQ 1 (by kernel_rfl) E (ac E E (aH hS ?_))
   refine aQ 2 (by kernel_rfl) E (ac E E (aH hS ?_))
   refine aQ 3 (by kernel_rfl) E (ai E (ac E E (aH hS ?_)))
   refine aQ 4 (by kernel_rfl) E (ai E (am wV E E (EN (eA.ext hry e11)) ?_))
   rintro _ _ ⟨rfl,rfl⟩
   refine aH hS ?_
   refine aQ 5 (by kernel_rfl) E (ai E (al (r:=B false) E E E (Fd) (aH hS ?_)))
   refine aQ 6 (by kernel_rfl) E (ap E E E (aH hS ?_))
   refine aQ 7 (by kernel_rfl) E (ac E E (aH hS ?_))
   refine aQ 8 (by kernel_rfl) E (an E E E (aH hS ?_))
   refine aQ 9 (by kernel_rfl) E (an E E E (aH hS ?_))
   refine qG 10 E E E (by kernel_rfl) E hS ?_
   have k2g:=k2y.ext e11
   have hon:av (v::[vl,I nd.split.kd,I nd.split.ix,B nd.split.at_.1,x,y,vk,B nd.empty,vp]):=av.cons hvo hoy
   obtain⟨wd,sd,qd,kd⟩:=k2g.stS (P:=Tryz.prog) (t:=54) (m:=[v,vl,I nd.split.kd,I nd.split.ix,B nd.split.at_.1,x,y,vk,B nd.empty,vp]) rfl (by kernel_rfl) hon
   have md:Mv (fun k=>k=g2) wy.drew wd:=Mv.of_grown qd fun k hk _=>(Option.some.inj hk).symm
   have hSd:Mv (fun k=>k=g2) wy wd:=(Mv.of_ext e11).trans md fun _ hj _=>hj
   have mF:Mv (fun k=>k=g2∨k=g∨k=g7) w2 wd:=((m27.weak fun j hj _=>.inr (.inl hj)).trans (my.weak fun j hj _=>.inr hj) fun _ hj _=>hj).trans (hSd.weak fun j hj _=>.inl hj) fun _ hj _=>hj
   have eF:aK w wd:=Mv.ext_from mF x2 (by rintro j (h|h|h)<;>omega)
   have oF:=oy.mv hSd (fun j hj=>by omega)
   have rF:cN (fun k=>k<w.heap.size) wd (i7 ⟨ds,nd⟩) [v,vl,I nd.split.kd,I nd.split.ix,B nd.split.at_.1,x,y,vk,B nd.empty,vp]:=kJ (u:=⟨ds,nd⟩) ((oF.rpx ck (by omega)).weak fun j hj=>.inl (by show j<w7.heap.size;omega)) (rpy.mv (hSd.weak fun j hj _=>by show j<w7.heap.size;omega) fun j hj=>.inl (by show j<w7.heap.size;omega))
   refine aQ 11 (by kernel_rfl) E (au E E sd (aH hSd ?_))
   refine aQ 12 (by kernel_rfl) E (ae E E (aH hSd (ii (by kernel_rfl) ?_)))
   refine ab (aw ?_)
   refine cD E E E kd Mz E (by kernel_rfl) ?_
   exact⟨_,rfl,eF,⟨ds,nd⟩,_,false,rfl,rF,hon,(fun e=>nomatch e),fun _=>DY (xX hD h6)⟩
  ·have hS:Mv (fun k=>k=g2) wy wy.drew:=Mv.of_ext ((aK.refl wy).drew)
   have e11:aK wy wy.drew:=(aK.refl wy).drew
   refine ig (Mv (fun k=>k=g2) wy) 13 E (by kernel_rfl) ?_
   refine gd 0 E E (by kernel_rfl) E hS (fun w' hw'=>(hw'.blk kz (fun e=>by omega)).ld Mz E (by kernel_rfl)) ?_
   refine aQ 1 (by kernel_rfl) E (ac E E (aH hS ?_))
   refine aQ 2 (by kernel_rfl) E (ac E E (aH hS ?_))
   refine aQ 3 (by kernel_rfl) E (an E E E (aH hS ?_))
   refine aQ 4 (by kernel_rfl) E (an E E E (aH hS ?_))
   refine aQ 5 (by kernel_rfl) E (an E E E (aH hS ?_))
   refine aQ 6 (by kernel_rfl) E (aD E E E (aH hS ?_))
   refine aQ 7 (by kernel_rfl) E (ac E E (aH hS ?_))
   refine aQ 8 (by kernel_rfl) E (an E E E (aH hS ?_))
   refine aQ 9 (by kernel_rfl) E (an E E E (aH hS ?_))
   refine qG 10 E E E (by kernel_rfl) E hS ?_
   have k2g:=k2y.ext e11
   have hon:av (v::[vl,I nd.split.kd,I nd.split.ix,B nd.split.at_.1,x,y,vk,B nd.empty,vp]):=av.cons hvo hoy
   obtain⟨wd,sd,qd,kd⟩:=k2g.stS (P:=Tryz.prog) (t:=54) (m:=[v,vl,I nd.split.kd,I nd.split.ix,B nd.split.at_.1,x,y,vk,B nd.empty,vp]) rfl (by kernel_rfl) hon
   have md:Mv (fun k=>k=g2) wy.drew wd:=Mv.of_grown qd fun k hk _=>(Option.some.inj hk).symm
   have hSd:Mv (fun k=>k=g2) wy wd:=(Mv.of_ext e11).trans md fun _ hj _=>hj
   have mF:Mv (fun k=>k=g2∨k=g∨k=g7) w2 wd:=((m27.weak fun j hj _=>.inr (.inl hj)).trans (my.weak fun j hj _=>.inr hj) fun _ hj _=>hj).trans (hSd.weak fun j hj _=>.inl hj) fun _ hj _=>hj
   have eF:aK w wd:=Mv.ext_from mF x2 (by rintro j (h|h|h)<;>omega)
   have oF:=oy.mv hSd (fun j hj=>by omega)
   have rF:cN (fun k=>k<w.heap.size) wd (i7 ⟨ds,nd⟩) [v,vl,I nd.split.kd,I nd.split.ix,B nd.split.at_.1,x,y,vk,B nd.empty,vp]:=kJ (u:=⟨ds,nd⟩) ((oF.rpx ck (by omega)).weak fun j hj=>.inl (by show j<w7.heap.size;omega)) (rpy.mv (hSd.weak fun j hj _=>by show j<w7.heap.size;omega) fun j hj=>.inl (by show j<w7.heap.size;omega))
   refine aQ 11 (by kernel_rfl) E (au E E sd (aH hSd ?_))
   refine aQ 12 (by kernel_rfl) E (ae E E (aH hSd (ii (by kernel_rfl) ?_)))
   refine ab (aw ?_)
   refine cD E E E kd Mz E (by kernel_rfl) ?_
   exact⟨_,rfl,eF,⟨ds,nd⟩,_,false,rfl,rF,hon,(fun e=>nomatch e),fun _=>DX hD (hNd.2 rfl)⟩
end Go.Rl
namespace Go.Rl
open Go.RowKit Go.Proofs
inductive JT where
 |gap
 |leaf (n:aY)
 |split (d:bU) (a b:JT)
def yk (d:bU):bU:=if d.kd=2∨d.kd=3 then dI d else d
def tH (d:bU):JT→JT
 |.gap=>.split (yk d) .gap .gap
 |.leaf n=>.leaf n
 |.split s a b=>.split s a b
def iN (n:aY):List bU→JT→Option JT
 |[],.gap=>some (.leaf n)
 |[],.leaf m=>some (.leaf m)
 |[],.split _ _ _=>none
 |d::p,t=>
  match tH d t with
  |.split s a b=>if s=d then(iN n p a).map fun a'=>.split s a' b else if dI s=d then(iN n p b).map fun b'=>.split s a b' else none
  |.leaf _=>none
  |.gap=>none
def IV (e:bZ) (t:JT):Option JT:=iN e.leaf e.path t
def jE:List bZ→JT→Option JT
 |[],t=>some t
 |e::es,t=>(IV e t).bind (jE es)
def JT.node:JT→aY
 |.gap=>IU
 |.leaf n=>n
 |.split s a b=>.mk [] s [a.node,b.node] false []
def JT.miss:JT→List bU→List (List bU)
 |.gap,p=>[p]
 |.leaf _,_=>[]
 |.split s a b,p=>a.miss (p++[s])++b.miss (p++[dI s])
def JT.depth:JT→Nat
 |.gap=>0
 |.leaf _=>0
 |.split _ a b=>1+max a.depth b.depth
theorem sF (n:aY):∀(p:List bU) {t t':JT},iN n p t=some t'→t'.depth≤max t.depth p.length
 |[],.gap,t',h=>by simp only[iN,Option.some.injEq] at h;subst h;simp[JT.depth]
 |[],.leaf m,t',h=>by simp only[iN,Option.some.injEq] at h;subst h;simp[JT.depth]
 |[],.split _ _ _,t',h=>by simp[iN] at h
 |d::p,t,t',h=>by
  have key:∀s a b,tH d t=.split s a b→t'.depth≤max (tH d t).depth (p.length+1):=fun s a b ho=>by
   simp only[iN,ho] at h
   rw[ho]
   split at h
   ·obtain⟨a',h1,rfl⟩:=Option.map_eq_some_iff.1 h
    have:=sF n p h1
    simp only[JT.depth];omega
   ·split at h
    ·obtain⟨b',h1,rfl⟩:=Option.map_eq_some_iff.1 h
     have:=sF n p h1
     simp only[JT.depth];omega
    ·cases h
  cases t with
  |gap=>
   have:=key _ _ _ rfl
   simp only[tH,JT.depth] at this
   simp only[JT.depth,List.length_cons];omega
  |leaf m=>simp[iN,tH] at h
  |split s a b=>
   have:=key _ _ _ rfl
   simp only[tH] at this
   simpa using this
def jF (d:bU) (x y k1 k2 lf:Value):List Value:=[I d.kd,I d.ix,B d.at_.1,x,y,k1,k2,lf]
def i8:Value:=.pointer none
def uE (g:Nat):Value:=.pointer (some ⟨g,0,none⟩)
def tI (w0 w:World):Nat→JT→List Nat→Prop
 |g,.gap,ids=>ids=[g]∧ct g 114 (jF lC (.slice none 0 0) (.slice none 0 0) i8 i8 i8) w
 |g,.leaf n,ids=>∃h cs,ids=[g,h]∧ct g 114 (jF lC (.slice none 0 0) (.slice none 0 0) i8 i8 (uE h)) w∧ct h 52 cs w∧Rp w0 (bG n) cs
 |g,.split d a b,ids=>∃x y g1 g2 i1 i2,ids=g::(i1++i2)∧bm d.at_.2.1 x w0∧bm d.at_.2.2 y w0∧ct g 114 (jF d x y (uE g1) (uE g2) i8) w∧tI w0 w g1 a i1∧tI w0 w g2 b i2
theorem tI.mv {w0 w w':World} {X:Nat→Prop} (hm:Mv X w w'):∀{t:JT} {g:Nat} {ids:List Nat},tI w0 w g t ids→(∀k∈ids,¬X k)→tI w0 w' g t ids
 |.gap,g,ids,h,hX=>by
  simp only[tI] at h⊢
  obtain⟨rfl,h1⟩:=h
  exact⟨rfl,hm.blk h1 (hX g (by simp))⟩
 |.leaf n,g,ids,h,hX=>by
  simp only[tI] at h⊢
  obtain⟨k,cs,rfl,h1,h2,h3⟩:=h
  exact⟨k,cs,rfl,hm.blk h1 (hX g (by simp)),hm.blk h2 (hX k (by simp)),h3⟩
 |.split d a b,g,ids,h,hX=>by
  simp only[tI] at h⊢
  obtain⟨x,y,g1,g2,i1,i2,rfl,hx,hy,h1,h2,h3⟩:=h
  exact⟨x,y,g1,g2,i1,i2,rfl,hx,hy,hm.blk h1 (hX g (by simp)),h2.mv hm fun k hk=>hX k (by simp[hk]),h3.mv hm fun k hk=>hX k (by simp[hk])⟩
theorem tI.lt {w0 w:World}:∀{t:JT} {g:Nat} {ids:List Nat},tI w0 w g t ids→∀k∈ids,k<w.heap.size
 |.gap,g,ids,h,k,hk=>by
  simp only[tI] at h
  obtain⟨rfl,h1⟩:=h
  simp only[List.mem_singleton] at hk
  subst hk
  exact h1.lt
 |.leaf n,g,ids,h,k,hk=>by
  simp only[tI] at h
  obtain⟨j,cs,rfl,h1,h2,_⟩:=h
  simp only[List.mem_cons,List.not_mem_nil,or_false] at hk
  rcases hk with rfl|rfl
  ·exact h1.lt
  ·exact h2.lt
 |.split d a b,g,ids,h,k,hk=>by
  simp only[tI] at h
  obtain⟨x,y,g1,g2,i1,i2,rfl,hx,hy,h1,h2,h3⟩:=h
  simp only[List.mem_cons,List.mem_append] at hk
  rcases hk with rfl|hk|hk
  ·exact h1.lt
  ·exact h2.lt k hk
  ·exact h3.lt k hk
structure j8 (w0 w:World) (g:Nat) (t:JT) (ids:List Nat):Prop where
 at_:tI w0 w g t ids
 nodup:ids.Nodup
 young:∀k∈ids,w0.heap.size≤k
theorem j8.mv {w0 w w':World} {X:Nat→Prop} {g:Nat} {t:JT} {ids:List Nat} (h:j8 w0 w g t ids) (hm:Mv X w w') (hX:∀k∈ids,¬X k):j8 w0 w' g t ids:=⟨h.at_.mv hm hX,h.nodup,h.young⟩
theorem j8.lt {w0 w:World} {g:Nat} {t:JT} {ids:List Nat} (h:j8 w0 w g t ids):∀k∈ids,k<w.heap.size:=h.at_.lt
theorem j8.gap {w0 w:World} {g:Nat} (k:ct g 114 (jF lC (.slice none 0 0) (.slice none 0 0) i8 i8 i8) w) (hg:w0.heap.size≤g):j8 w0 w g .gap [g]:=
 ⟨⟨rfl,k⟩,by simp,fun j hj=>by simp only[List.mem_singleton] at hj;omega⟩
theorem j8.leaf {w0 w:World} {g h:Nat} {n:aY} {cs:List Value} (k:ct g 114 (jF lC (.slice none 0 0) (.slice none 0 0) i8 i8 (uE h)) w) (k2:ct h 52 cs w) (hr:Rp w0 (bG n) cs) (hg:w0.heap.size≤g) (hh:w0.heap.size≤h) (hne:g≠h):j8 w0 w g (.leaf n) [g,h]:=
 ⟨⟨h,cs,rfl,k,k2,hr⟩,by simp[hne],fun j hj=>by simp only[List.mem_cons,List.not_mem_nil,or_false] at hj;omega⟩
theorem j8.split_inv {w0 w:World} {g:Nat} {d:bU} {a b:JT} {ids:List Nat} (h:j8 w0 w g (.split d a b) ids):∃x y g1 g2 i1 i2,ids=g::(i1++i2)∧bm d.at_.2.1 x w0∧bm d.at_.2.2 y w0∧ct g 114 (jF d x y (uE g1) (uE g2) i8) w∧j8 w0 w g1 a i1∧j8 w0 w g2 b i2∧w0.heap.size≤g∧g∉i1∧g∉i2∧(∀k∈i1,k∉i2):=by
 obtain⟨⟨x,y,g1,g2,i1,i2,rfl,hx,hy,h1,h2,h3⟩,hn,hy2⟩:=h
 rw[List.nodup_cons,List.nodup_append] at hn
 obtain⟨n1,n2,n3,n4⟩:=hn
 refine⟨x,y,g1,g2,i1,i2,rfl,hx,hy,h1,⟨h2,n2,fun k hk=>hy2 k (by simp[hk])⟩,⟨h3,n3,fun k hk=>hy2 k (by simp[hk])⟩,hy2 g (by simp),fun hg=>n1 (by simp[hg]),fun hg=>n1 (by simp[hg]),fun k hk hk'=>n4 k hk k hk' rfl⟩
theorem j8.split {w0 w:World} {g g1 g2:Nat} {d:bU} {a b:JT} {i1 i2:List Nat} {x y:Value} (hx:bm d.at_.2.1 x w0) (hy:bm d.at_.2.2 y w0) (k:ct g 114 (jF d x y (uE g1) (uE g2) i8) w) (h1:j8 w0 w g1 a i1) (h2:j8 w0 w g2 b i2) (hg:w0.heap.size≤g) (n1:g∉i1) (n2:g∉i2) (n3:∀k∈i1,k∉i2):j8 w0 w g (.split d a b) (g::(i1++i2)):=by
 refine⟨⟨x,y,g1,g2,i1,i2,rfl,hx,hy,k,h1.at_,h2.at_⟩,?_,fun j hj=>?_⟩
 ·rw[List.nodup_cons,List.nodup_append]
  exact⟨by simp[n1,n2],h1.nodup,h2.nodup,fun k hk j hj e=>n3 k hk (e▸hj)⟩
 ·simp only[List.mem_cons,List.mem_append] at hj
  rcases hj with rfl|hj|hj
  ·exact hg
  ·exact h1.young j hj
  ·exact h2.young j hj
end Go.Rl
